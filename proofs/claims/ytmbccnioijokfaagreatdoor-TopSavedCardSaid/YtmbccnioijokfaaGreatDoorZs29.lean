/- A part of the proof. -/
import Derived.Test.YtmbccnioijokfaaGreatDoorZs26
import Derived.Test.YtmbccnioijokfaaGreatDoorZs24
import Derived.Test.YtmbccnioijokfaaGreatDoorZs20
import Derived.Test.YtmbccnioijokfaaGreatDoorZs28
import Derived.Lib.Overlaps
namespace Go.Proofs.YtmbccnioijokfaaGreatDoor
set_option maxRecDepth 100000
set_option maxHeartbeats 32000000
open Go.Value (int)
open Go.IntKind (i64 u8)
open Go.Proofs.Tryz
variable {size b B N m j b0:Nat}{cs args:Array Value}{x y z:Int}{D:List Nat}{o:Oper}{W:World}{v' v8:Value}{S:DS}{f0 f1 f2:Field}
section
open Go.RowKit
attribute [local go_sem] Oper.semAt_some
def Zy (a b a' b':Int):Bool:=decide (a=a')&&decide (b=b')
theorem Sf (a b:Int):Zy a b a b=true:=by simp [Zy]
theorem DX {a b c b':Int} :Zy a b c b'=true↔a=c/\b=b':=by simp [Zy]
theorem F3:prog.eqGuardType prog.depth 123=false:=by kernel_rfl
theorem Lm (a b c b':Int)(w:World):(binOp .eql 123 (.agg #[a,b]) (.agg #[c,b'])).run prog w=.ok (.bool (Zy a b c b')) w:=by
 rw [run_eql_struct];unfold Zy;simp [go_sem];by_cases d:a=c<;>by_cases e:b=b'<;>simp [d,e]
structure CellsOk (cs:List Int):Prop where
 len:cs.length=8192
 may:∀b∈cs,Zi b=true
def Uz (c:Nat)(x z:Int)(cs:List Int):QK:=λw M=>∃v R,Q0 w c 186 #[x,z,v]/\Q5 w 0 235 2 Xd v R/\Xl R/\Qu R=cs/\CellsOk cs/\∀b,M b↔b=c∨v.ownBlock=some b
theorem QC {w:World}{base:Nat}{e:TypeId}{α:Type}{enc:α->List Value}{v:Value}{xs:List α}(h:Q5 w base e size enc v xs)(c:v.ownBlock=some b):base<=b/\∃cur,Q0 w b e cur:=by
 rcases h.2 with ⟨rfl,_⟩|⟨g,cap,cur,rfl,a,d,_⟩
 ·cases c
 ·simp [Value.ownBlock] at c;subst c;exact ⟨a,cur,d⟩
theorem Q5.keep {w w':World}{base:Nat}{e:TypeId}{α:Type}{enc:α->List Value}{v:Value}{xs:List α}{K:Nat->Prop}(h:Q5 w base e size enc v xs)(i:Kept K w w')(j:∀b,v.ownBlock=some b->K b):Q5 w' base e size enc v xs:=by
 refine ⟨h.1,?_⟩;rcases h.2 with f|⟨g,cap,cur,d,a,c,r⟩
 ·exact .inl f
 ·exact .inr ⟨g,cap,cur,d,a,(i.block g (Array.getElem?_eq_some_iff.1 c).1 (j g (by rw [d];rfl))).trans c,r⟩
theorem Q7 {w:World}{g:Nat}{t c:TypeId}{b:Array Value}(h:Q0 w g t cs)(a:Q0 w g c b):t=c:=by
 unfold Q0 at h a;rw [h] at a;simp only [Option.some.injEq,Obj.cells.injEq] at a;exact a.2.1
theorem YD (c:Nat)(x z:Int)(cs:List Int):QK.Fit 5 (Uz c x z cs) where
 lt:=λ⟨v,R,f,e,_,_,_,d⟩ b a=>by
  rcases (d b).1 a with rfl|a
  ·exact f.lt
  ·exact (e.block b a).2
 nob:=λ⟨v,R,f,e,_,_,_,d⟩ b a cs' j=>by
  rcases (d b).1 a with rfl|a
  ·exact absurd (Q7 f j) (by decide)
  ·obtain ⟨-,cur,g⟩:=QC e a;exact absurd (Q7 g j) (by decide)
 kept:=λ⟨v,R,f,e,g,k,l,d⟩ i h _=>⟨v,R,i.blk (h _ ((d _).2 (.inl rfl))) f,e.keep i (λb a=>h b ((d b).2 (.inr a))),g,k,l,d⟩
theorem Bz {R:List Rn}{cs:List Int}(h:Xl R)(e:Qu R=cs)(ok:CellsOk cs):Qh R=8192:=by
 rw [Ze (λr a=>by have:=h.pos r a;omega),e,ok.len];rfl
theorem BA (h:0<=y/\y<32):0<=YH x y z/\YH x y z<8192:=by unfold YH;omega
def Ud (cs:List Int)(x y z:Int):Int:=(cs[(YH x y z).toNat]?).getD (-1)
theorem GB (x z:Int)(w:World):Calls prog 120 #[.agg #[x,z]] w λr w'=>r=.returned (.agg #[x,z])/\Below w.heap.size w w':=by
 obtain ⟨W,a⟩:=pt ((w.alloc (.cells #[x,z] 183)).alloc (.cells #[int i64 0,int i64 0] 123));have H:Below w.heap.size w W:=by rw [a];go_grown
 have U:Q0 W w.heap.size 183 #[x,z]:=by rw [a];exact (Q0.new' rfl).alloc _
 have R:Q0 W (w.heap.size+1) 123 #[int i64 0,int i64 0]:=by rw [a];exact Q0.new' (by simp)
 obtain ⟨u0,u1,-,-⟩:=U.pair;obtain ⟨r0,r1,f0,f1⟩:=R.pair;have e:=pp (show w.heap.size<=w.heap.size+1 by omega)
 go_enter func120,ntmps120;go_upto_region 1 with fail
 rw [<-a];clear a;generalize w.heap.size+1=g at *;go_wp2_with fail;have c:=R.stp (int i64 x) (int i64 z);obtain ⟨b,d,-,-⟩:=c.pair;refine bodyPost_ret (v:=.agg #[x,z]) (by simp [results,results120,go_sem,b,d]) rfl ⟨rfl,?_⟩
 have h0:=e.o;repeat (refine Below.setCell ?_ (by dsimp only;omega) _)
 exact H
theorem NK (h:Yp y=false):Gi x y z=.tuple #[int i64 0,.bool false]:=by unfold Gi;rw [h];rfl
theorem DY (h:Yp y=true):Gi x y z=.tuple #[int i64 (YH x y z),.bool true]:=by unfold Gi;rw [h];rfl
theorem JD (x y z d e:Int)(l:Qg x)(k:Qg z)(n:x / 16=d)(m:z / 16=e)(w:World):Calls prog 159 #[.agg #[d,e],.agg #[x,y,z]] w λr w'=>r=.returned (Gi x y z)/\Below w.heap.size w w':=by
 have pe:=Lm;have pg:=F3;have ps:=Sf d e;obtain ⟨W,b⟩:=pt ((w.alloc (.cells #[d,e] 183)).alloc (.cells #[x,y,z] 43));have H:pM w W:=by rw [b];go_grown
 have U:Q0 W w.heap.size 183 #[d,e]:=by rw [b];exact (Q0.new' rfl).alloc _
 have C:Q0 W (w.heap.size+1) 43 #[x,y,z]:=by rw [b];exact Q0.new' (by simp)
 have h:=pp (KG x y z l k W);have p:=pp λW=>DC x y z l k W
 rw [n,m] at p;have q:=pp H;obtain ⟨s,t,c2,-,-,-⟩:=C.c3;clear n m l k H;cases hy:Yp y
 ·have c:=pp (NK (x:=x) (z:=z) hy);rw [c.o] at h ⊢;clear hy;go_enter func159,ntmps159;go_upto_region 1 with fail
  rw [<-b];clear b;go_upto_region 2 with (go_at_call 208;refine h.o.mono ?_;rintro A j ⟨rfl,f⟩;replace f:=pp f)
  refine wp_region_quiet_below (by kernel_rfl) (by kernel_rfl) ?_
  repeat (go_big_quiet_step (fail))
  refine wpQuiet_nil ?_;intro w' a;obtain ⟨u,rfl⟩:=a;go_wp2_with fail;go_returns;exact ⟨rfl,after (after q.o f.o) (pK j _ _)⟩
 ·have c:=pp (DY (x:=x) (z:=z) hy);rw [c.o] at h ⊢;generalize YH x y z=i at *;clear hy;go_enter func159,ntmps159;go_upto_region 1 with fail
  rw [<-b];clear b;go_upto_region 2 with (go_at_call 208;refine h.o.mono ?_;rintro A j ⟨rfl,g⟩;have f:=pp g;have v:=(C.on g).re3;have y1:=(U.on g).rep;clear g)
  obtain ⟨z0,z1,z2⟩:=v;obtain ⟨k0,k1⟩:=y1;clear s t c2;refine wp_region_quiet_below (by kernel_rfl) (by kernel_rfl) ?_
  repeat (go_big_quiet_step (exact Calls.regrown_of (p.o _)))
  refine wpQuiet_nil ?_;intro w' a;obtain ⟨u,rfl⟩:=a;go_wp2_with fail;go_returns;exact ⟨rfl,after (after q.o f.o) (pK j _ _)⟩
def I9 (cs:List Int)(x y z:Int):Value:=if Yp y then .tuple #[int i64 (Ud cs x y z),.bool true] else .tuple #[int i64 0,.bool false]
theorem Ln {cs:List Int}(h:Yp y=false):I9 cs x y z=.tuple #[int i64 0,.bool false]:=by unfold I9;rw [h];rfl
theorem Fu {cs:List Int}(h:Yp y=true):I9 cs x y z=.tuple #[int i64 (Ud cs x y z),.bool true]:=by unfold I9;rw [h];rfl
theorem NL:Yp y=true↔0<=y/\y<32:=by simp [Yp]
theorem Sg (c:Nat)(x y z u B:Int)(cs:List Int)(w:World)(M:Nat->Prop)(h:Uz c u B cs w M)(S:Qg x)(P:Qg z)(T:x / 16=u)(f:z / 16=B):
  Calls prog 109 #[c,.agg #[int i64 x,int i64 y,int i64 z]] w λr w'=>r=.returned (I9 cs x y z)/\Below w.heap.size w w':=by
 obtain ⟨v,R,U,O,p,F,ok,-⟩:=h;obtain ⟨W,b⟩:=pt (w.alloc (.cells #[int i64 x,int i64 y,int i64 z] 43));have H:pM w W:=by rw [b];exact (pI _ _).alloc (pA _) _
 have C:Q0 W w.heap.size 43 #[int i64 x,int i64 y,int i64 z]:=by rw [b];exact Q0.new' rfl
 obtain ⟨z0,z1,z2⟩:=C.re3;have a:=U.on H;obtain ⟨q,cap,rfl,-,-,m,-⟩:=O.form Bj;have k0:=λd os=>(a.re d os).cell 0
 have Z:=λd os=>(a.re d os).cell 1
 have t:=pp λW=>JD x y z u B S P T f W
 have X:=Bz p F ok;have A:=pp λW (b:pM w W) (i:Int) (hi:0<=i/\i<8192)=>mb W q cap R i (m.on b) (λr L=>by have:=p.pos r L;omega) (by omega) (by have:=XD p.pos;unfold maxLen;omega) (by omega)
 have HE:=pp F;have K:=pp p.pos;have N:=pp H;have D:=pp a;clear U O p F ok m T f S P H C a X;cases hy:Yp y
 ·have g:=pp (NK (x:=x) (z:=z) hy);have k:=pp (Ln (cs:=cs) (x:=x) (z:=z) hy);rw [g.o] at t;rw [k.o];clear hy A;go_enter func109,ntmps109;go_upto_region 1 with fail
  rw [<-b];clear b;refine wp_region_quiet_below (by kernel_rfl) (by kernel_rfl) ?_
  repeat (go_big_quiet_step (exact Calls.regrown_of (t.o _)))
  refine wpQuiet_nil ?_;intro w' j;obtain ⟨J,rfl⟩:=j;go_wp2_with fail;go_returns;exact ⟨rfl,after N.o (pK W _ _)⟩
 ·have g:=pp (DY (x:=x) (z:=z) hy);have k:=pp (Fu (cs:=cs) (x:=x) (z:=z) hy);have n:=BA (x:=x) (z:=z) (NL.1 hy);rw [g.o] at t;rw [k.o];obtain ⟨G,E⟩:∃G,Ud cs x y z=G:=⟨_,rfl⟩;rw [E];have V:=pp (show BF R (YH x y z)=G from by
   rw [<-E,<-HE.o];unfold Ud;have:=PM (l:=R) (λr L=>by have:=K.o r L;omega) (YH x y z).toNat
   rw [<-this,Int.toNat_of_nonneg n.1])
  generalize YH x y z=i at *;clear hy E;go_enter func109,ntmps109;go_upto_region 1 with fail
  rw [<-b];clear b;refine wp_region_quiet_below (by kernel_rfl) (by kernel_rfl) ?_
  repeat (go_big_quiet_step (exact Calls.regrown_of (t.o _)))
  refine wpQuiet_nil ?_;intro w' j;obtain ⟨J,rfl⟩:=j;obtain ⟨Q,e⟩:=pt (Go.Sort.grow (redrawn W J.d) J.os);have f:pM W Q:=by rw [e];exact pK _ _ _
  rw [<-e];clear e z0 z1 z2 k0 Z;have k2:=(D.o.on f).cell 2;have s:=pp (A.o Q (after N.o f) i n);rw [V.o] at s;have Y:=pp (after N.o f);clear A f;go_wp2_with (go_at_call 160;refine s.o.mono ?_;rintro e_ w1 ⟨rfl,I⟩;replace I:=pp I);go_returns;exact ⟨rfl,after Y.o I.o⟩
theorem eX {R:List Rn}{cs:List Int}{i:Nat}{b:Int}(d:Xl R)(a:Qu R=cs)(ok:CellsOk cs)(e:i<8192)(c:Zi b=true):
  Xl (Vw R i (i+1) b)/\Qu (Vw R i (i+1) b)=cs.set i b/\CellsOk (cs.set i b):=by
 refine ⟨Jk _ _ _ _,by rw [OC d (by rw [a,ok.len];exact e),a],by rw [List.length_set,ok.len],λx f=>?_⟩
 rcases List.mem_or_eq_of_mem_set f with h|rfl
 ·exact ok.may x h
 ·exact c
theorem eY (c:Nat)(x y z u D b:Int)(cs:List Int)(w:World)(M:Nat->Prop)(h:Uz c u D cs w M)(hx:Qg x)(hz:Qg z)(h1:x / 16=u)(n:z / 16=D)(hy:Yp y=true)(a:Zi b=true):
  Calls prog 305 #[c,.agg #[x,y,z],int i64 b] w λr w'=>r=.returned (int i64 0)/\Q6 (Uz c u D (cs.set (YH x y z).toNat b)) w M w':=by
 have T:=YD c u D cs;have h0:=h;obtain ⟨v,R,hB,hO,L,V,ok,hM⟩:=h;obtain ⟨W,s⟩:=pt (w.alloc (.cells #[x,y,z] 43));have H:pM w W:=by rw [s];exact (pI _ _).alloc (pA _) _
 have C:Q0 W w.heap.size 43 #[x,y,z]:=by rw [s];exact Q0.new' rfl
 obtain ⟨z0,z1,z2⟩:=C.re3;have g:=hB.on H;obtain ⟨q,cap,rfl,-,-,F,-⟩:=hO.form Bj;have k0:=λd os=>(g.re d os).cell 0
 have k1:=λd os=>(g.re d os).cell 1
 have HI:=pp λW=>JD x y z u D hx hz h1 n W
 have HL:=Bz L V ok;have G:=BA (x:=x) (z:=z) (NL.1 hy);obtain ⟨i,Q⟩:=Int.eq_ofNat_of_zero_le G.1;have O:i<8192:=by omega
 have k:=pp λW (s:pM w W)=>WN W q cap R i b (F.on s) L (by omega) (by omega) a
 have f:=pp (eX L V ok O a);have N:=pp λW=>Dd b W
 rw [a] at N;have A:=pp (DY (x:=x) (z:=z) hy);rw [A.o,Q] at HI;rw [Q,Int.toNat_natCast];have HH:=pp H;have E:=pp g;have aa:=pp hB.lt;have I:=pp hM;generalize ac:Vw R (i:Int) ((i:Int)+1) b=R2 at k f;clear hB hO L V ok F h1 n hx hz H C g HL A G Q hy a hM h0 T ac;go_enter func305,ntmps305;go_upto_region 1 with fail
 rw [<-s];clear s;refine wp_region_quiet_below (by kernel_rfl) (by kernel_rfl) ?_
 repeat (go_big_quiet_step (exact Calls.regrown_of (HI.o _)))
 refine wpQuiet_nil ?_;intro w' Y;obtain ⟨rg,rfl⟩:=Y;obtain ⟨W2,l⟩:=pt (Go.Sort.grow (redrawn W rg.d) rg.os);have n:pM W W2:=by rw [l];exact pK _ _ _
 rw [<-l];have S:=pp (after HH.o n);have Z:=pp (N.o W2);have J:=pp (E.o.on n);clear l z0 z1 z2 k0 k1 n N E;go_upto_region 6 with (go_at_call 142;refine Z.o.mono ?_;rintro e_ w3 ⟨rfl,m⟩;replace m:=pp m)
 have k2:=(J.o.on m.o).cell 2;have ab:=pp (k.o w3 (after S.o m.o));go_wp2_with fail;refine ab.o.mono ?_;rintro e_ w4 ⟨v4,rfl,o4,P⟩;obtain ⟨q4,c4,rfl,-⟩:=o4.form Bj;have j:=(J.o.on m.o).on P;have f2:=j.frz 2;have k4:=j.cell 2;have U:=pp j;have X:=pp o4;have G4:=pp (after (after S.o m.o) P);have t:=pp (after S.o m.o).size;clear j o4 P k2;go_wp2_with fail;go_returns;refine ⟨rfl,λb=>b=c∨Value.ownBlock (.slice q4 R2.length c4)=some b,⟨_,R2,U.o.set_ 2 _,?_,f.o.1,f.o.2.1,f.o.2.2,λ_=>Iff.rfl⟩,?_,?_⟩
 ·refine (Q5.lowB (B:=0) X.o (pC _)).keep (K:=λb=>b≠c) ((Kept.refl _ _).setCell (p:=⟨c,2,none⟩) (by simp) _) λb a e=>?_
  have h5:=(QC X.o a).1;have:=t.o;have:=aa.o;omega
 ·intro b a;rcases a with rfl|a
  ·exact .inl ((I.o _).2 (.inl rfl))
  ·have h5:=(QC X.o a).1;have:=t.o;exact .inr (by omega)
 ·exact ((Kept.of_below G4.o).mono λ_ _=>trivial).setCell (p:=⟨c,2,none⟩) (λh=>h ((I.o _).2 (.inl rfl))) _
theorem eZ (y g:Int):Zi (BS y g)=true:=by
 unfold BS;split
 ·decide
 ·split
  ·decide
  ·split
   ·decide
   ·split
    ·decide
    ·split<;>decide
theorem fd (s d a:Int):CellsOk (Ye s d a) where
 len:=by simp [Ye]
 may:=λb c=>by
  obtain ⟨i,-,rfl⟩:=List.mem_map.1 c;exact eZ _ _
def mC (w:World)(x z:Int)(cs:List Int)(r:Ending)(w':World):Prop:=∃c M,r=.returned (.pointer (some ⟨c,0,none⟩))/\Uz c x z cs w' M/\(∀b,M b->w.heap.size<=b)/\Below w.heap.size w w'
def cN (xs:List Rn)(base:Nat)(v:Value)(w:World):Prop:=∃q c,v=.slice q xs.length c/\Q5 w base 235 2 Xd v xs
theorem ae (s a d:Int)(J: -1000000000<=a/\a<=1000000000)(I: -1000000000<=d/\d<=1000000000)(w:World):
  Calls prog 84 #[int i64 s,.agg #[a,d]] w λr w'=>mC w a d (Ye s a d) r w':=by
 have f:=fd s a d;have A:=pp λW=>WJ s a d J I W
 generalize Ye s a d=cs at f A ⊢;obtain ⟨W,i⟩:=pt (w.alloc (.cells #[a,d] 123));have H:Below w.heap.size w W:=by rw [i];exact (pI _ _).alloc (pA _) _
 have U:Q0 W w.heap.size 123 #[a,d]:=by rw [i];exact Q0.new' rfl
 obtain ⟨F,G⟩:=U.rep;have D:=pp H;have m:=pp f;clear H U f;go_enter func84,ntmps84;go_upto_region 1 with fail
 rw [<-i];clear i;refine Qk [0,0,0,0,2,3,3,3] (λ_ v w'=>cN (Yn (cs)) w.heap.size v w') (by kernel_rfl) (by kernel_rfl) (λ_ _ _ _ ⟨q,c,e,l⟩ h=>⟨q,c,e,l.on h⟩) ?_
 repeat (first|(refine Qi ?_)|(refine Qf (λK y=>?_);go_simp;refine y _ ?_;clear y K))
 refine Q8 ?_;repeat (first|(refine Q2 ?_)|(refine Qv ?lsA (λv_=>?_);case lsA=>(intro w_ p hp_;(go_simp;refine (A.o _).mono ?_;rintro e_ w9 ⟨v,rfl,e,l⟩;obtain ⟨q,c,rfl,-⟩:=e.form Bj;exact ⟨_,rfl,Kept.of_below l,q,c,rfl,e.lowB (by have:=(Qb p).size;have:=D.o.size;omega)⟩))))
 refine Qc ?_;simp only [Qd];rintro k e ⟨-,x⟩;have j:=pp (py (Ur (cs)) (Us (cs)));generalize Yn (cs)=R at x j;obtain ⟨q,c,rfl,z⟩:=x;clear F G;have C:=pp z;have t:=pp (after D.o e);clear z e;have E:Hid (∀u,u=k.alloc (.cells #[a,d,.slice q R.length c] 186)->Uz k.heap.size a d (cs) u (λb=>b=k.heap.size∨Value.ownBlock (.slice q R.length c)=some b)):=pp λu g=>⟨_,R,Q0.fresh g,(Q5.lowB (B:=0) C.o (pC _)).on (by rw [g];exact (pI _ _).alloc (pA _) _),j.o.1,j.o.2,m.o,λ_=>Iff.rfl⟩
 clear j;go_wp2_with fail;go_returns;refine ⟨k.heap.size,_,rfl,E.out _ rfl,?_,t.o.alloc t.o.size _⟩;intro b n;rcases n with rfl|n
 ·exact t.o.size
 ·exact (QC C.o n).1
theorem af (q:Option Addr)(c:Nat)(w:World):Calls prog 124 #[.slice q 0 c,int i64 8192] w λr w'=>r=.returned (.tuple #[.slice none 0 0,int i64 3])/\w=w':=by
 go_enter func124,ntmps124;go_wp2_with fail;go_step3;go_wp2_with fail;go_step3;go_wp2_with fail;refine wp_loop_rounds 1 ?_;rw [rounds_succ];go_wp2_with fail;rw [Exit.noGoto_ret];go_returns;exact ⟨rfl,rfl⟩
theorem Sh (a b:Int)(q:Option Addr)(c:Nat)(w:World):Calls prog 83 #[.agg #[a,b],.slice q 0 c] w λr w'=>r=.returned (.tuple #[.pointer none,int i64 3])/\Below w.heap.size w w':=by
 go_enter func83,ntmps83;go_wp2_with (go_at_call 124;refine (af _ _ _).mono ?_;rintro e_ w1 ⟨rfl,rfl⟩);go_returns;exact ⟨rfl,(pI _ _).alloc (pA _) _⟩
end
section
structure TI where
 x:Int
 z:Int
 cs:List Int
 dirty:Bool
 pins:Int
structure TS where
 seed:Int
 lim:Int
 l:List TI
 d:DS
def TI.is (p:Int×Int)(i:TI):Bool:=Zy i.x i.z p.1 p.2
def Z7 (p:Int×Int):List TI->Nat->Int
 | [],_=> -1
 | i::l,k=>if i.is p then k else Z7 p l (k+1)
def TS.find (T:TS)(p:Int×Int):Int:=Z7 p T.l 0
def Xa (x z:Int):Int×Int:=(x / 16,z / 16)
def TI.at (i:TI)(x y z:Int):Int:=if y<0 then 1 else if Yp y then Ud i.cs x y z else 0
def TS.at (T:TS)(x y z:Int):Int:=match T.l.find? (TI.is (Xa x z)) with
 | some i=>i.at x y z
 | none=> -1
theorem Pd {p:Int×Int}{l:List TI}(h:∀i∈l,i.is p=false)(k:Nat):Z7 p l k= -1:=by
 induction l generalizing k with
 | nil=>rfl
 | cons i l b=>
  unfold Z7;rw [if_neg (by rw [h i List.mem_cons_self];decide),b λj a=>h j (List.mem_cons_of_mem _ a)]
theorem ag {p:Int×Int}{l:List TI}{n:Nat}{i:TI}(b:l[n]?=some i)(d:i.is p=true)(c:∀j y,j<n->l[j]?=some y->y.is p=false)(k:Nat):Z7 p l k=((k+n:Nat):Int):=by
 induction l generalizing n k with
 | nil=>cases b
 | cons a l e=>
  unfold Z7;cases n with
  | zero=>
   obtain rfl:a=i:=by simpa using b
   rw [if_pos d];rfl
  | succ n=>
   rw [if_neg (by rw [c 0 a (by omega) rfl];decide),e (by simpa using b) (λj y hj f=>c (j+1) y (by omega) (by simpa using f))]
   congr 1;omega
theorem JE (T:TS)(p:Int×Int):(T.find p= -1/\T.l.find? (TI.is p)=none)∨∃(n:Nat) (i:TI),T.find p=n/\T.l[n]?=some i/\i.is p=true/\T.l.find? (TI.is p)=some i:=by
 unfold TS.find;have key:∀(l:List TI) (k:Nat),(Z7 p l k= -1/\l.find? (TI.is p)=none)∨∃(n:Nat) (i:TI),Z7 p l k=((k+n:Nat):Int)/\l[n]?=some i/\i.is p=true/\l.find? (TI.is p)=some i:=by
  intro l;induction l with
  | nil=>intro k;exact .inl ⟨rfl,rfl⟩
  | cons a l f=>
   intro k;unfold Z7;cases ha:a.is p
   ·rw [if_neg (by decide),List.find?_cons_of_neg (by rw [ha];decide)]
    rcases f (k+1) with h|⟨n,i,d,b,e,c⟩
    ·exact .inl h
    ·exact .inr ⟨n+1,i,by rw [d];congr 1;omega,by simpa using b,e,c⟩
   ·rw [if_pos rfl,List.find?_cons_of_pos ha];exact .inr ⟨0,a,rfl,rfl,ha,rfl⟩
 rcases key T.l 0 with h|⟨n,i,d,b,e,c⟩
 ·exact .inl h
 ·exact .inr ⟨n,i,by rw [d];simp,b,e,c⟩
def TI.set (i:TI)(x y z b:Int):TI:= { i with cs:=i.cs.set (YH x y z).toNat b,dirty:=i.dirty||(Ud i.cs x y z !=b) }
end
section
open Go.RowKit
attribute [local go_sem] Oper.semAt_some
def UY (a:Nat)(i:TI):QK:=λw M=>∃c:Nat,∃Mc,Q0 w a 142 #[c,.bool i.dirty,int i64 i.pins]/\Uz c i.x i.z i.cs w Mc/\∀b,M b↔b=a∨Mc b
def jR (t:TypeId):Prop:=t=142∨t=186∨t=235
section
variable {w w':World}{M M':Nat->Prop}{a c:Nat}{i:TI}
theorem Uz.type {cs:List Int}(h:Uz c x z cs w M)(a:M b):∃t cur,Q0 w b t cur/\(t=186∨t=235):=by
 obtain ⟨v,R,e,d,-,-,-,f⟩:=h;rcases (f b).1 a with rfl|a
 ·exact ⟨_,_,e,.inl rfl⟩
 ·obtain ⟨-,cur,g⟩:=QC d a;exact ⟨_,_,g,.inr rfl⟩
theorem UY.type (h:UY a i w M)(d:M b):∃t cur,Q0 w b t cur/\jR t:=by
 obtain ⟨c,Mc,g,e,j⟩:=h;rcases (j b).1 d with rfl|d
 ·exact ⟨_,_,g,.inl rfl⟩
 ·obtain ⟨t,cur,k,f⟩:=e.type d;exact ⟨t,cur,k,.inr f⟩
theorem Di (a:Nat)(i:TI):QK.Fit 5 (UY a i) where
 lt:=λh b e=>by
  obtain ⟨t,cur,d,-⟩:=h.type e;exact d.lt
 nob:=λh b e cs m=>by
  obtain ⟨t,cur,d,f⟩:=h.type e;obtain rfl:=Q7 d m;rcases f with h|h|h<;>revert h<;>decide
 kept:=λ⟨c,Mc,d,f,g⟩ k j l=>⟨c,Mc,k.blk (j _ ((g _).2 (.inl rfl))) d,(YD c i.x i.z i.cs).kept f k (λb e=>j b ((g b).2 (.inr e))) l,g⟩
end
def CY:List (Nat×TI)->QK
 | []=>λ_ M=>∀b,¬M b
 | p::L=>Dt (UY p.1 p.2) (CY L)
section
variable {w w':World}{M M':Nat->Prop}{L L':List (Nat×TI)}{a:Nat}{i:TI}
theorem VP:∀L:List (Nat×TI),QK.Fit 5 (CY L)
 | []=> { lt:=λh b a=>absurd a (h b),nob:=λh b a=>absurd a (h b),kept:=λh _ _ _=>h }
 | p::L=>TA (Di p.1 p.2) (VP L)
theorem Pe {P Q R:QK}(h:Dt P (Dt Q R) w M):Dt Q (Dt P R) w M:=by
 obtain ⟨A,B,m,⟨C,D,g,j,f,d⟩,a,i⟩:=h;refine ⟨C,λb=>A b∨D b,g,⟨A,D,m,j,λb l k=>a b l ((d b).2 (.inr k)),λ_=>Iff.rfl⟩,λb e c=>?_,λb=>?_⟩
 ·rcases c with h|h
  ·exact a b h ((d b).2 (.inl e))
  ·exact f b e h
 ·rw [i,d];constructor
  ·rintro (h|h|h)
   ·exact .inr (.inl h)
   ·exact .inl h
   ·exact .inr (.inr h)
  ·rintro (h|h|h)
   ·exact .inr (.inl h)
   ·exact .inl h
   ·exact .inr (.inr h)
theorem Si {P Q Q':QK}(h:Dt P Q w M)(k:∀M,Q w M->Q' w M):Dt P Q' w M:=by
 obtain ⟨A,B,b,a,c⟩:=h;exact ⟨A,B,b,k B a,c⟩
theorem Ar (c:L.Perm L'):∀M,CY L w M->CY L' w M:=by
 induction c with
 | nil=>exact λ_ h=>h
 | cons p _ d=>exact λ_ h=>Si h d
 | swap p q L=>exact λ_ h=>Pe h
 | trans _ _ a b=>exact λM h=>b M (a M h)
theorem BY:∀{L:List (Nat×TI)} {M:Nat->Prop},CY L w M->∀{b:Nat},M b->∃t cur,Q0 w b t cur/\jR t
 | [],_,h,b,a=>absurd a (h b)
 | p::L,_,⟨A,B,d,c,_,e⟩,b,a=>by
  rcases (e b).1 a with h|h
  ·exact d.type h
  ·exact BY c h
theorem UA:∀{L:List (Nat×TI)} {M:Nat->Prop},CY L w M->∀{p:Nat×TI},p∈L->∃M',UY p.1 p.2 w M'/\∀b,M' b->M b
 | [],_,_,p,a=>by cases a
 | q::L,_,⟨A,B,h,e,_,d⟩,p,a=>by
  rcases List.mem_cons.1 a with rfl|a
  ·exact ⟨A,h,λb c=>(d b).2 (.inl c)⟩
  ·obtain ⟨M',f,g⟩:=UA e a;exact ⟨M',f,λb c=>(d b).2 (.inr (g b c))⟩
end
abbrev Zj (a:Nat):List Value:=[.pointer (some ⟨a,0,none⟩)]
theorem BZ (a:Nat):(Zj a).length=1:=rfl
structure TbAt (w:World)(t s d:Nat)(v:Value)(L:List (Nat×TI))(Ms Mi:Nat->Prop)(T:TS):Prop where
 blk:Q0 w t 135 #[s,int i64 T.seed,int i64 T.lim,v]
 st:StoreIs w 0 Ms s d T.d
 row:Q5 w 0 128 1 Zj v (L.map (·.1))
 its:CY L w Mi
 l:L.map (·.2)=T.l
def Es (t s:Nat)(v:Value)(Ms Mi:Nat->Prop)(b:Nat):Prop:=b=t∨b=s∨Ms b∨v.ownBlock=some b∨Mi b
def Yz (t:Nat)(T:TS):QK:=λw M=>∃s d v L Ms Mi,TbAt w t s d v L Ms Mi T/\∀b,M b↔Es t s v Ms Mi b
def Lo (t:TypeId):Prop:=t=135∨t=151∨t=200∨t=293∨t=128∨jR t
section
variable {w w':World}{t s d:Nat}{v:Value}{L:List (Nat×TI)}{Ms Mi M K:Nat->Prop}{T:TS}
theorem TbAt.type (h:TbAt w t s d v L Ms Mi T)(e:Es t s v Ms Mi b):b<w.heap.size/\∀ty cs,Q0 w b ty cs->Lo ty:=by
 rcases e with rfl|rfl|e|e|e
 ·exact ⟨h.blk.lt,λty cs a=>.inl (Q7 a h.blk)⟩
 ·exact ⟨h.st.blk.lt,λty cs a=>.inr (.inl (Q7 a h.st.blk))⟩
 ·obtain ⟨-,c,f⟩:=h.st.disk.mine e;refine ⟨c,λty cs a=>?_⟩
  rcases f ty cs a with h|h
  ·exact .inr (.inr (.inl h))
  ·exact .inr (.inr (.inr (.inl h)))
 ·obtain ⟨-,cur,c⟩:=QC h.row e;exact ⟨c.lt,λty cs a=>.inr (.inr (.inr (.inr (.inl (Q7 a c)))))⟩
 ·obtain ⟨t',cur,c,f⟩:=BY h.its e;exact ⟨c.lt,λty cs a=>.inr (.inr (.inr (.inr (.inr (by rw [Q7 a c];exact f)))))⟩
theorem TbAt.kept (h:TbAt w t s d v L Ms Mi T)(e:Kept K w w')(c:∀b,Es t s v Ms Mi b->K b)(f:∀b cs,Q0 w b 5 cs->K b):TbAt w' t s d v L Ms Mi T where
 blk:=e.blk (c _ (.inl rfl)) h.blk
 st:=⟨e.blk (c _ (.inr (.inl rfl))) h.st.blk,h.st.disk.kept e (λb a=>c b (.inr (.inr (.inl a)))) (λb a=>by
  rcases a with a|⟨cur,a⟩
  ·omega
  ·exact f b cur a),pC _⟩
 row:=h.row.keep e λb a=>c b (.inr (.inr (.inr (.inl a))))
 its:=(VP L).kept h.its e (λb a=>c b (.inr (.inr (.inr (.inr a))))) f
 l:=h.l
theorem TbAt.on (h:TbAt w t s d v L Ms Mi T)(a:Below w.heap.size w w'):TbAt w' t s d v L Ms Mi T:=h.kept ((Kept.of_below a).mono (K':=λ_=>True) λ_ _=>trivial) (λ_ _=>trivial) (λ_ _ _=>trivial)
theorem VZ (t:Nat)(T:TS):QK.Fit 5 (Yz t T) where
 lt:=λ⟨s,d,v,L,Ms,Mi,h,a⟩ b c=>(h.type ((a b).1 c)).1
 nob:=λ⟨s,d,v,L,Ms,Mi,h,a⟩ b c cs i=>by
  rcases (h.type ((a b).1 c)).2 _ _ i with h|h|h|h|h|h|h|h<;>revert h<;>decide
 kept:=λ⟨s,d,v,L,Ms,Mi,h,a⟩ f e g=>⟨s,d,v,L,Ms,Mi,h.kept f (λb c=>e b ((a b).2 c)) g,a⟩
theorem Yz.type (h:Yz t T w M)(c:M b):b<w.heap.size/\∀ty cs,Q0 w b ty cs->Lo ty:=by
 obtain ⟨s,d,v,L,Ms,Mi,h,a⟩:=h;exact h.type ((a b).1 c)
end
theorem fe (a g:Nat)(i:TI)(f j:Int)(w:World)(M:Nat->Prop)(h:UY a i w M)(k:Q0 w g 123 #[f,j]):
  Calls prog 119 #[a,g] w λr w'=>r=.returned (.bool (i.is (f,j)))/\Below w.heap.size w w':=by
 obtain ⟨c,Mc,l,⟨v,R,e,-⟩,-⟩:=h;have pe:=Lm;have pg:=F3;have k0:=λd os=>(l.re d os).cell 0
 have c0:=λd os=>(e.re d os).cell 0
 have c1:=λd os=>(e.re d os).cell 1
 obtain ⟨p0,p1⟩:=k.rep;have m:=pp λW=>GB i.x i.z W
 clear l e k;unfold TI.is;go_enter func119,ntmps119;go_upto_region 1 with fail
 refine wp_region_quiet_below (by kernel_rfl) (by kernel_rfl) ?_
 repeat (go_big_quiet_step (exact Calls.regrown_of (m.o _)))
 refine wpQuiet_nil ?_;intro w' b;obtain ⟨rg,rfl⟩:=b;go_wp2_with fail;go_returns;exact ⟨rfl,pK w _ _⟩
theorem jS {w:World}{q:Option Addr}{aa:List Nat}(h:Rd w q 1 Zj aa):Rd w q 1 EK (aa.map λa=>Value.pointer (some ⟨a,0,none⟩)):=λf=>by
 obtain ⟨g,o,c,d⟩:=h (by simpa using f)
 refine ⟨g,o,c,λi v b j u e=>?_⟩
 rw [List.getElem?_map] at b;cases ha:aa[i]? with
 | none=>rw [ha] at b;cases b
 | some a=>
  rw [ha] at b;obtain rfl:Value.pointer (some ⟨a,0,none⟩)=v:=by simpa using b
  exact d i a ha j u e
theorem Pf {T:TS}{p:Int×Int}{k:Int}(h:Aq (λj=>((T.l[j]?).map (TI.is p)).getD false) T.l.length k):k=T.find p:=by
 unfold TS.find;rcases h with ⟨rfl,h⟩|⟨m,d,rfl,c,e⟩
 ·refine (Pd (λi b=>?_) 0).symm
  obtain ⟨j,a⟩:=List.getElem?_of_mem b;have:=h j (List.getElem?_eq_some_iff.1 a).1;dsimp only at this;rw [a] at this;exact this
 ·obtain ⟨i,b⟩:∃i,T.l[m]?=some i:=⟨_,pH d⟩;dsimp only at c;rw [b] at c;have:=ag b c (λj y a f=>by have:=e j a;dsimp only at this;rw [f] at this;exact this) 0
  rw [this];simp
theorem IU (t s d:Nat)(v:Value)(L:List (Nat×TI))(Ms Mi:Nat->Prop)(T:TS)(f g:Int)(w:World)(h:TbAt w t s d v L Ms Mi T)(J:T.l.length<=1000):
  Calls prog 79 #[t,.agg #[f,g]] w λr w'=>r=.returned (int i64 (T.find (f,g)))/\Below w.heap.size w w':=by
 have hmf:∀(D:Fn) (first cap:Array Value) (w:World),(Instr.makeFunc D first cap).run prog w=.ok (.func D first cap) w:=λ_ _ _ _=>rfl
 obtain ⟨W,n⟩:=pt (w.alloc (.cells #[f,g] 123));have H:pM w W:=by rw [n];exact (pI _ _).alloc (pA _) _
 have X:Q0 W w.heap.size 123 #[f,g]:=by rw [n];exact Q0.new' rfl
 have x:=h.on H;have c:L.length=T.l.length:=by rw [<-h.l,List.length_map]
 obtain ⟨q,cap,E,-,-,m,-⟩:=x.row.form BZ;have b:((L.map (·.1)).map λa=>Value.pointer (some ⟨a,0,none⟩)).length=T.l.length:=by simp [c]
 have B:=pp (ev q cap _ (by rw [b];omega) 119 #[w.heap.size] (λj=>((T.l[j]?).map (TI.is (f,g))).getD false) W (jS m) (enters_of func119 (by kernel_rfl) rfl) (λk u i I A=>by
  rw [List.getElem?_map,List.getElem?_map] at i;cases e:L[k]? with
  | none=>rw [e] at i;cases i
  | some p=>
   rw [e] at i;obtain rfl:Value.pointer (some ⟨p.1,0,none⟩)=u:=by simpa using i
   have z:T.l[k]?=some p.2:=by rw [<-h.l,List.getElem?_map,e];rfl
   obtain ⟨M',F,-⟩:=UA (x.on A).its (pG e);dsimp only;rw [z];exact fe p.1 w.heap.size p.2 f g I M' F (X.on A)))
 rw [b] at B;have y:=x.blk;rw [E] at y;rw [show (L.map (·.1)).length=T.l.length by simp [c]] at y
 have t3:=y.cell 3;have K:=pp H;clear x c b E m y X H h J;go_enter func79,ntmps79;go_upto_region 1 with fail
 rw [<-n];clear n;go_wp2_with (go_at_call 118;refine B.o.mono ?_;rintro e_ w1 ⟨k,rfl,e,C⟩;have G:=pp e;have M:=pp C;clear e C);go_returns;exact ⟨Xp (Pf G.o),after K.o M.o⟩
theorem ff {i:TI}(h:y<0):i.at x y z=1:=by unfold TI.at;rw [if_pos h]
theorem jT {i:TI}(h:¬y<0)(a:Yp y=false):i.at x y z=0:=by unfold TI.at;rw [if_neg h,a];rfl
theorem fg {i:TI}(h:¬y<0)(a:Yp y=true):i.at x y z=Ud i.cs x y z:=by unfold TI.at;rw [if_neg h,a];rfl
theorem mD (t s d:Nat)(v:Value)(L:List (Nat×TI))(Ms Mi:Nat->Prop)(T:TS)(x y z:Int)(hx:Qg x)(hz:Qg z)(w:World)(h:TbAt w t s d v L Ms Mi T)(hn:T.l.length<=1000):
  Calls prog 67 #[t,.agg #[int i64 x,int i64 y,int i64 z]] w λr w'=>r=.returned (int i64 (T.at x y z))/\Below w.heap.size w w':=by
 obtain ⟨W,G⟩:=pt (w.alloc (.cells #[int i64 x,int i64 y,int i64 z] 43));have H:pM w W:=by rw [G];exact (pI _ _).alloc (pA _) _
 have C:Q0 W w.heap.size 43 #[int i64 x,int i64 y,int i64 z]:=by rw [G];exact Q0.new' rfl
 have h1:=h.on H;have HC:=pp (DC x y z hx hz W);have R:=pp λY (h2:pM W Y)=>IU t s d v L Ms Mi T (x / 16) (z / 16) Y (h1.on h2) hn
 have ag:=JE T (Xa x z);have HX:=pp (py hx hz);have V:=pp h1;have HH:=pp H;have B:=pp C;obtain ⟨F,I,c2,-,-,-⟩:=C.c3;unfold TS.at;have ad:T.find (x / 16,z / 16)=T.find (Xa x z):=rfl;rw [ad] at R;clear h hn h1 H C hx hz ad;rcases ag with ⟨U,E⟩|⟨n,i,U,E,e3,e4⟩
 ·rw [E];rw [U] at R;clear U E;dsimp only;go_enter func67,ntmps67;go_upto_region 1 with fail
  rw [<-G];clear G;go_wp2_with first
   | (go_at_call 108;refine HC.o.mono ?_;rintro S O ⟨rfl,f⟩;have N:=pp f;have k:=pp (R.o O f);clear f)
   | (go_at_call 79;refine k.o.mono ?_;rintro S w2 ⟨rfl,b⟩;replace b:=pp b)
  go_returns;exact ⟨rfl,after (after HH.o N.o) b.o⟩
 ·rw [e4];rw [U] at R;dsimp only;have K:i.x=x / 16/\i.z=z / 16:=DX.1 e3;by_cases hy:y<0
  ·have hv:=pp (ff (i:=i) (x:=x) (z:=z) hy);rw [hv.o];clear U E e3 e4 K;have ak:(0:Int)<=n:=by omega
   go_enter func67,ntmps67;go_upto_region 1 with fail
   rw [<-G];clear G;go_upto_region 4 with first
    | (go_at_call 108;refine HC.o.mono ?_;rintro S O ⟨rfl,f⟩;have N:=pp f;have k:=pp (R.o O f);clear f)
    | (go_at_call 79;refine k.o.mono ?_;rintro S w2 ⟨rfl,g2⟩;have b:=pp (after N.o g2);clear g2)
   clear F I c2;obtain ⟨F,I,c2,-,-,-⟩:=(B.o.on b.o).c3;go_wp2_with fail;go_returns;exact ⟨rfl,after HH.o b.o⟩
  ·obtain ⟨M,A⟩:∃M,L[n]?=some M:=by
    have hl:=V.o.l;rw [<-hl,List.getElem?_map] at E;cases hp:L[n]? with
    | none=>rw [hp] at E;cases E
    | some M=>exact ⟨M,rfl⟩
   have X:M.2=i:=by
    have hl:=V.o.l;rw [<-hl,List.getElem?_map,A] at E;simpa using E
   obtain ⟨Mi',ae,-⟩:=UA V.o.its (pG A);rw [X] at ae;obtain ⟨c,Mc,ah,af,-⟩:=ae;obtain ⟨q,cap,hv,al,-,aa,ai,Z⟩:=V.o.row.form BZ;have aj:n<(L.map (·.1)).length:=by rw [List.length_map];exact (List.getElem?_eq_some_iff.1 A).1
   obtain ⟨g,rfl⟩:=Z (by omega)
   have r0:W.cell? ⟨g,n,none⟩=some (.pointer (some ⟨M.1,0,none⟩)):=by
    have:=aa.at (i:=n) (x:=M.1) (by rw [List.getElem?_map,A];rfl) (j:=0) rfl
    simpa using this
   have hB:=V.o.blk;rw [hv] at hB;have u:=pp λY (h2:pM W Y)=>Sg c x y z (x / 16) (z / 16) i.cs Y Mc (by rw [<-K.1,<-K.2];exact (YD _ _ _ _).on af h2) HX.o.1 HX.o.2 rfl rfl
   generalize (L.map (·.1)).length=ln at *;have ab:=pp hB;have ac:=pp ah;have J:=pp r0;have ak:(0:Int)<=n:=by omega
   have hn1:(n:Int)<(ln:Int):=by omega
   have hy0:0<=y:=by omega
   clear U E e3 e4 K A X af hv al aa ai Z aj hB ah V r0;have m:Yp y=true->Calls prog 67 #[t,.agg #[int i64 x,int i64 y,int i64 z]] w λr w'=>r=.returned (int i64 (i.at x y z))/\pM w w':=by
    intro a;have D:=pp (fg (i:=i) (x:=x) (z:=z) hy a);rw [D.o]
    first|rw [show I9 i.cs x y z=_ from Fu a] at u|rw [show I9 i.cs x y z=_ from Ln a] at u
    clear a D hy;generalize Ud i.cs x y z=bb at *;go_enter func67,ntmps67;go_upto_region 1 with fail
    rw [<-G];clear G;go_upto_region 4 with first
     | (go_at_call 108;refine HC.o.mono ?_;rintro S O ⟨rfl,f⟩;have N:=pp f;have k:=pp (R.o O f);clear f)
     | (go_at_call 79;refine k.o.mono ?_;rintro S w2 ⟨rfl,g2⟩;have b:=pp (after N.o g2);clear g2)
    clear F I c2;obtain ⟨F,I,c2,-,-,-⟩:=(B.o.on b.o).c3;go_upto_region 6 with fail
    clear F I c2;obtain ⟨F,I,c2⟩:=(B.o.on b.o).re3;have b3:=λd os=>((ab.o.on b.o).re d os).cell 3
    have i0:=λd os=>((ac.o.on b.o).re d os).cell 0
    have r0:=λd os=>cell_regrown ((b.o.cell (p:=⟨g,n,none⟩) (QN J.o)).trans J.o) d os
    have Q:=pp λd os=>u.o (Go.Sort.grow (redrawn w2 d) os) (after b.o (pK _ _ _))
    refine wp_region_quiet_below (by kernel_rfl) (by kernel_rfl) ?_
    repeat (go_big_quiet_step (exact Calls.regrown_of (Q.o _ _)))
    refine wpQuiet_nil ?_;intro w' P;obtain ⟨rg,rfl⟩:=P;go_wp2_with fail;go_returns;exact ⟨rfl,after (after HH.o b.o) (pK _ _ _)⟩
   have e:Yp y=false->Calls prog 67 #[t,.agg #[int i64 x,int i64 y,int i64 z]] w λr w'=>r=.returned (int i64 (i.at x y z))/\pM w w':=by
    intro a;have D:=pp (jT (i:=i) (x:=x) (z:=z) hy a);rw [D.o]
    first|rw [show I9 i.cs x y z=_ from Fu a] at u|rw [show I9 i.cs x y z=_ from Ln a] at u
    clear a D hy;generalize Ud i.cs x y z=bb at *;go_enter func67,ntmps67;go_upto_region 1 with fail
    rw [<-G];clear G;go_upto_region 4 with first
     | (go_at_call 108;refine HC.o.mono ?_;rintro S O ⟨rfl,f⟩;have N:=pp f;have k:=pp (R.o O f);clear f)
     | (go_at_call 79;refine k.o.mono ?_;rintro S w2 ⟨rfl,g2⟩;have b:=pp (after N.o g2);clear g2)
    clear F I c2;obtain ⟨F,I,c2,-,-,-⟩:=(B.o.on b.o).c3;go_upto_region 6 with fail
    clear F I c2;obtain ⟨F,I,c2⟩:=(B.o.on b.o).re3;have b3:=λd os=>((ab.o.on b.o).re d os).cell 3
    have i0:=λd os=>((ac.o.on b.o).re d os).cell 0
    have r0:=λd os=>cell_regrown ((b.o.cell (p:=⟨g,n,none⟩) (QN J.o)).trans J.o) d os
    have Q:=pp λd os=>u.o (Go.Sort.grow (redrawn w2 d) os) (after b.o (pK _ _ _))
    refine wp_region_quiet_below (by kernel_rfl) (by kernel_rfl) ?_
    repeat (go_big_quiet_step (exact Calls.regrown_of (Q.o _ _)))
    refine wpQuiet_nil ?_;intro w' P;obtain ⟨rg,rfl⟩:=P;go_wp2_with fail;go_returns;exact ⟨rfl,after (after HH.o b.o) (pK _ _ _)⟩
   cases a:Yp y
   ·exact e a
   ·exact m a
def C9 (B0 g0:Nat)(xs:List Nat)(v:Value)(w:World):Prop:=∃q c,v=.slice q xs.length c/\(Q5 w B0 128 1 Zj v xs∨(c=xs.length/\q=some ⟨g0,0,none⟩/\Rd w q 1 Zj xs))
theorem C9.on {a b:Nat}{xs:List Nat}{v:Value}{w w':World}(h:C9 a b xs v w)(d:pM w w'):C9 a b xs v w':=by
 obtain ⟨q,c,f,e⟩:=h;exact ⟨q,c,f,e.imp (λh=>h.on d) λh=>⟨h.1,h.2.1,h.2.2.on d⟩⟩
theorem Lp:(prog.info? 128).map (λi=>(i.zero,i.size,i.bytes))=some (some (.pointer none),1,8):=by kernel_rfl
theorem fh {w:World}{g n c:Nat}{xs:List Nat}(hn:n<xs.length)(h:Rd w (some ⟨g,0,none⟩) 1 Zj xs)(hc:xs.length<=c)(hm:xs.length<=1000):
  ∃v' w',(Builtin.append_ #[133,133] 133 #[.slice (some ⟨g,0,none⟩) n n,.slice (if c - (n+1)=0 then some ⟨g,0,none⟩ else some ⟨g,n+1,none⟩) (xs.length - (n+1)) (c - (n+1))]).run prog w=.ok v' w'/\C9 w.heap.size g (xs.eraseIdx n) v' w'/\Below w.heap.size w w':=by
 have e:xs.eraseIdx n=xs.take n++xs.drop (n+1):=List.eraseIdx_eq_take_drop_succ xs n;have b:(xs.take n).length=n:=by rw [List.length_take];omega
 have k:(xs.drop (n+1)).length=xs.length - (n+1):=List.length_drop;have one:∀x:Nat,∀u∈Zj x,u.oneCell'=true:=λx u j=>by simp at j;rw [j];rfl
 by_cases hl:xs.length=n+1
 ·have d:xs.drop (n+1)=[]:=List.drop_eq_nil_of_le (by omega)
  obtain ⟨i,r,hz,hs,hby⟩:=info_parts Lp;have a:∀q2 c2,Src prog i.size 133 (.slice (some q2) 0 c2) 0 [] w:=λq2 c2=>Src.ofSlice w underlying133 q2 0 c2 [] (by simp) (by simp) (by simp)
  rw [show xs.length - (n+1)=0 by omega]
  have o:∀q2:Addr,(Builtin.append_ #[133,133] 133 #[.slice (some ⟨g,0,none⟩) n n,.slice (some q2) 0 (c - (n+1))]).run prog w=.ok (.slice (some ⟨g,0,none⟩) n n) w:=λq2=>run_append_nothing w 133 133 133 128 i underlying133 r (some ⟨g,0,none⟩) n n (pA _) _ (a q2 _)
  refine ⟨.slice (some ⟨g,0,none⟩) n n,w,by split<;>exact o _,⟨some ⟨g,0,none⟩,n,by rw [e,d,List.append_nil,b],.inr ⟨by rw [e,d,List.append_nil,b],rfl,?_⟩⟩,pI _ _⟩
  rw [e,d,List.append_nil];exact h.take n
 ·rw [if_neg (by omega)]
  have m:Rd w (some ⟨g,n+1,none⟩) 1 Zj (xs.drop (n+1)):=by have:=h.drop (n+1);rwa [Nat.zero_add,Nat.mul_one] at this
  obtain ⟨cap,w',l,f,p⟩:=EE (P:=prog) (w:=w) (e:=128) (size:=1) (enc:=Zj) (xs:=xs.take n) (ys:=xs.drop (n+1)) (q:=some ⟨g,0,none⟩) (q2:=some ⟨g,n+1,none⟩) (c:=n) (c2:=c - (n+1)) (ts:=133) (ty:=133) (z:=.pointer none) (bytes:=8) underlying133 Lp rfl (by decide) BZ (λx _=>one x) (λx _=>one x) (h.take n) m (by omega) (by omega)
  rw [b,k] at l f;rw [<-e] at f;exact ⟨_,w',l,⟨_,cap,by rw [e,List.length_append,b,k],.inl f⟩,p⟩
theorem C9.lowA {C a:Nat}{xs:List Nat}{v:Value}{w:World}(h:C9 C a xs v w)(e:B<=C):C9 B a xs v w:=by
 obtain ⟨q,c,d,b⟩:=h;exact ⟨q,c,d,b.imp_left λh=>h.lowB e⟩
theorem NM {w w':World}{q:Option Addr}{α:Type}{enc:α->List Value}{xs:List α}{K:Nat->Prop}(h:Rd w q size enc xs)(k:Kept K w w')(m:∀a,q=some a->K a.block):Rd w' q size enc xs:=λf=>by
 obtain ⟨g,o,c,l⟩:=h f;refine ⟨g,o,c,λi x e j u d=>?_⟩
 have b:=l i x e j u d;rw [World.cell?_of_block (k.block g (QN b) (m _ c))];exact b
theorem Xe {P:Program}{a:Act}{R:XO}{w:World}(s x:Operand)(t c:TypeId)(d:o.op=.call { callee:=.builtin .append,args:=#[s,x],argTypes:=#[t,c] })(vs vx:Value)(hs:a.eval s=vs)(hx:a.eval x=vx)
  (v':Value) (w':World) (hr:(Builtin.append_ #[t,c] o.type #[vs,vx]).run P w=.ok v' w') (hk:Kept (λb=>b∉D) w w') (hR:R v' w'):VV P D o a R w:=by
 have e:(execOp a.eval o).run P w=.ok (.value v') w':=by simp [execOp,d,resolve,invoke,builtin,hs,hx,hr,Result.andThen]
 unfold VV;rw [e];exact ⟨hk,hR⟩
def oz (t s a g:Nat)(se li:Int)(xs:List Nat)(w:World)(r:Ending)(w':World):Prop:=r=.returned (.pointer (some ⟨a,0,none⟩))/\Kept (λb=>b≠t) w w'/\∃q c,Q0 w' t 135 #[s,se,li,.slice q xs.length c]/\C9 w.heap.size g xs (.slice q xs.length c) w'
theorem jU (t s g n c a:Nat)(se li:Int)(xs:List Nat)(w:World)(hB:Q0 w t 135 #[s,se,li,.slice (some ⟨g,0,none⟩) xs.length c])(T:Rd w (some ⟨g,0,none⟩) 1 Zj xs)(hc:xs.length<=c)(J:c<=maxLen)(hm:xs.length<=1000)(Z:xs[n]?=some a)(hgt:g≠t):
  Calls prog 86 #[t,int i64 n] w λr w'=>oz t s a g se li (xs.eraseIdx n) w r w':=by
 have I:n<xs.length:=(List.getElem?_eq_some_iff.1 Z).1;have C:(xs.eraseIdx n).length=xs.length - 1:=by rw [List.length_eraseIdx,if_pos I]
 unfold maxLen at J;have r0:w.cell? ⟨g,n,none⟩=some (.pointer (some ⟨a,0,none⟩)):=by have:=T.at Z (j:=0) rfl;simpa using this
 have i:=pp λW (h:pM w W)=>fh I (T.on h) hc hm
 have hn0:(0:Int)<=n:=by omega
 have hn1:(n:Int)<(xs.length:Int):=by omega
 have hn2: -9223372036854775808<=(n:Int)+1/\(n:Int)+1<=9223372036854775807:=by omega
 have hn3:(n:Int)+1<=(c:Int):=by omega
 have hn4:(n:Int)+1<=(xs.length:Int):=by omega
 have hw:IntKind.i64.wrap ((n:Int)+1)=(n:Int)+1:=pJ _ (by omega)
 have hn5:n<=c:=by omega
 have hn8:(0:Int)<=(n:Int)+1:=by omega
 have hn6:n+1<=c:=by omega
 have hn7:n+1<=xs.length:=by omega
 have t3:=λd os=>(hB.re d os).cell 3
 have U:=pp hB;have H:=pp hgt;have HEL:=pp C;clear Z T hB C hgt;go_enter func86,ntmps86;have L:=U.o.cell 3;go_upto_region 2 with fail
 clear L;by_cases M:c=n+1
 ·subst M;have E:xs.length=n+1:=by omega
  have Q:=pp E;have ha1:(n:Int)<=(n:Int)+1:=by omega
  have ha2:(n:Int)+1<=(n:Int)+1:=by omega
  clear E;refine Qk [0,0,0,0,0,0,0,0,0,0,0,0,0,0,0,2,1,1,3] (λ_ v w'=>C9 w.heap.size g (xs.eraseIdx n) v w') (by kernel_rfl) (by kernel_rfl) (λ_ _ _ _ h k=>h.on k) ?_
  repeat (first|(refine Qi ?_)|(refine Qf (λK m=>?_);go_simp;refine m _ ?_;clear m K)|(refine Vo (λK m=>?_);go_simp;refine m _ ?_;clear m K))
  refine Q8 ?_;repeat (first|(refine Q2 ?_)|(refine Qv ?lsA (λv_=>?_);case lsA=>(intro S u R;(obtain ⟨v9,w9,x,A,z⟩:=i.o S (Qb u).none;rw [Nat.sub_self,if_pos rfl,show xs.length - (n+1)=0 by have:=Q.o;omega] at x;exact Xe _ _ _ _ rfl _ _ rfl rfl v9 w9 x ((Kept.of_below z).mono λ_ _=>trivial) (A.lowA (Qb u).none.size)))))
  refine Qc ?_;simp only [Qd];rintro W3 y ⟨-,q,c2,rfl,F⟩;have f:=U.o.on y;have f3:=f.frz 3;have k3:=f.cell 3;have l:=pp f;have Y:=pp F;have O:=pp y;clear f F y t3 r0 i;go_wp2_with fail;go_returns;refine ⟨rfl,((Kept.of_below O.o).mono λ_ _=>trivial).setCell (p:=⟨t,3,none⟩) (by simp) _,q,c2,l.o.set_ 3 _,q,c2,rfl,?_⟩
  rcases Y.o with h|⟨V,B,P⟩
  ·refine .inl (h.keep (K:=λb=>b≠t) ((Kept.refl _ _).setCell (p:=⟨t,3,none⟩) (by simp) _) λb N e=>?_)
   obtain ⟨-,cur,X⟩:=QC h N;subst e;exact absurd (Q7 X l.o) (by decide)
  ·exact .inr ⟨V,B,NM P (K:=λb=>b≠t) ((Kept.refl _ _).setCell (p:=⟨t,3,none⟩) (by simp) _) (λa D=>by rw [B] at D;obtain rfl:=pE D;exact H.o)⟩
 ·have G:=trivial;clear G;refine Qk [0,0,0,0,0,0,0,0,0,0,0,0,0,0,0,2,1,1,3] (λ_ v w'=>C9 w.heap.size g (xs.eraseIdx n) v w') (by kernel_rfl) (by kernel_rfl) (λ_ _ _ _ h k=>h.on k) ?_
  repeat (first|(refine Qi ?_)|(refine Qf (λK m=>?_);go_simp;refine m _ ?_;clear m K)|(refine Vo (λK m=>?_);go_simp;refine m _ ?_;clear m K))
  refine Q8 ?_;repeat (first|(refine Q2 ?_)|(refine Qv ?lsA (λv_=>?_);case lsA=>(intro S u R;(obtain ⟨v9,w9,x,A,z⟩:=i.o S (Qb u).none;rw [if_neg (by omega)] at x;exact Xe _ _ _ _ rfl _ _ rfl rfl v9 w9 x ((Kept.of_below z).mono λ_ _=>trivial) (A.lowA (Qb u).none.size)))))
  refine Qc ?_;simp only [Qd];rintro W3 y ⟨-,q,c2,rfl,F⟩;have f:=U.o.on y;have f3:=f.frz 3;have k3:=f.cell 3;have l:=pp f;have Y:=pp F;have O:=pp y;clear f F y t3 r0 i;go_wp2_with fail;go_returns;refine ⟨rfl,((Kept.of_below O.o).mono λ_ _=>trivial).setCell (p:=⟨t,3,none⟩) (by simp) _,q,c2,l.o.set_ 3 _,q,c2,rfl,?_⟩
  rcases Y.o with h|⟨V,B,P⟩
  ·refine .inl (h.keep (K:=λb=>b≠t) ((Kept.refl _ _).setCell (p:=⟨t,3,none⟩) (by simp) _) λb N e=>?_)
   obtain ⟨-,cur,X⟩:=QC h N;subst e;exact absurd (Q7 X l.o) (by decide)
  ·exact .inr ⟨V,B,NM P (K:=λb=>b≠t) ((Kept.refl _ _).setCell (p:=⟨t,3,none⟩) (by simp) _) (λa D=>by rw [B] at D;obtain rfl:=pE D;exact H.o)⟩
theorem ah {k y a:Nat}{xs:List Nat}{v:Value}(h:C9 k y xs v W)(s:W.cell? ⟨b,0,none⟩=some (.pointer (some ⟨a,0,none⟩)))(n:k<=W.heap.size)(hm:xs.length<=1000):
  ∃q c w',(Builtin.append_ #[133,133] 133 #[v,.slice (some ⟨b,0,none⟩) 1 1]).run prog W=.ok (.slice q (xs.length+1) c) w'/\Q5 w' k 128 1 Zj (.slice q (xs.length+1) c) (xs++[a])/\Below k W w':=by
 have one:∀x:Nat,∀u∈Zj x,u.oneCell'=true:=λx u f=>by simp at f;rw [f];rfl
 have d:∀j u,(Zj a)[j]?=some u->W.cell? ⟨b,j,none⟩=some u:=λj u f=>by
  cases j with
  | zero=>rw [s];simpa using f
  | succ j=>cases f
 obtain ⟨q,c,rfl,h|⟨rfl,h1,p⟩⟩:=h
 ·obtain ⟨v',w',m,o,-,t,g,cp,rfl⟩:=V0 (P:=prog) (w:=W) (base:=k) (e:=128) (size:=1) (enc:=Zj) (v:=.slice q xs.length c) (xs:=xs) (ts:=133) (ty:=133) (z:=.pointer none) (bytes:=8) (b:=b) (x:=a) underlying133 Lp rfl (by decide) (by decide) rfl (one a) h d (by omega) n
  exact ⟨_,cp,w',m,o,t⟩
 ·have r:Rd W (some ⟨b,0,none⟩) 1 Zj [a]:=λ_=>⟨b,0,rfl,λi x l j u f=>by
   cases i with
   | zero=>
    obtain rfl:a=x:=by simpa using l
    have:=d j u f;simpa using this
   | succ i=>cases l⟩
  obtain ⟨cap,w',m,o,A⟩:=EE (P:=prog) (w:=W) (e:=128) (size:=1) (enc:=Zj) (xs:=xs) (ys:=[a]) (q:=q) (q2:=some ⟨b,0,none⟩) (c:=xs.length) (c2:=1) (ts:=133) (ty:=133) (z:=.pointer none) (bytes:=8) underlying133 Lp rfl (by decide) BZ (λx _=>one x) (λx _=>one x) p r (by simp) (by simp;omega)
  exact ⟨_,cap,w',m,o.lowB n,A.mono n⟩
theorem CA {α β:Type}(f:α->β):∀(l:List α) (n:Nat),(l.map f).eraseIdx n=(l.eraseIdx n).map f
 | [],_=>rfl
 | _::_,0=>rfl
 | x::l,n+1=>by rw [List.map_cons,List.eraseIdx_cons_succ,List.eraseIdx_cons_succ,List.map_cons,CA f l n]
theorem Pg {α:Type}{l:List α}{n:Nat}{x:α}(h:l[n]?=some x):(l.eraseIdx n++[x]).Perm l:=by
 induction l generalizing n with
 | nil=>cases h
 | cons y l a=>
  cases n with
  | zero=>
   obtain rfl:y=x:=by simpa using h
   exact List.perm_append_comm
  | succ n=>exact (a (by simpa using h)).cons y
theorem TbAt.relay {w w':World}{t s d:Nat}{v:Value}{L L':List (Nat×TI)}{Ms Mi:Nat->Prop}{T c:TS}(h:TbAt w t s d v L Ms Mi T)(i:Kept (λb=>b≠t) w w')(q:Q0 w' t 135 #[s,int i64 c.seed,int i64 c.lim,v'])(row:Q5 w' 0 128 1 Zj v' (L'.map (·.1)))
  (j:L.Perm L') (m:L'.map (·.2)=c.l) (k:c.d=T.d):TbAt w' t s d v' L' Ms Mi c:=by
 have g:∀b,b=s∨Ms b∨Mi b->b≠t:=λb a e=>by
  subst e;rcases a with rfl|a|a
  ·exact absurd (Q7 h.st.blk h.blk) (by decide)
  ·rcases (h.st.disk.mine a).2.2 _ _ h.blk with h|h<;>revert h<;>decide
  ·obtain ⟨t',cur,p,n⟩:=BY h.its a;have o:=Q7 p h.blk;subst o;rcases n with h|h|h<;>revert h<;>decide
 have u8:∀b cs,Q0 w b 5 cs->b≠t:=λb cs f e=>by
  subst e;exact absurd (Q7 f h.blk) (by decide)
 refine ⟨q,?_,row,Ar j Mi ((VP L).kept h.its i (λb a=>g b (.inr (.inr a))) u8),m⟩
 rw [k];exact ⟨i.blk (g s (.inl rfl)) h.st.blk,h.st.disk.kept i (λb a=>g b (.inr (.inl a))) (λb a=>by
  rcases a with a|⟨cur,a⟩
  ·omega
  ·exact u8 b cur a),pC _⟩
def Sj (t s d a:Nat)(L:List (Nat×TI))(Ms Mi:Nat->Prop)(T:TS)(w:World)(r:Ending)(w':World):Prop:=r=.returned (.pointer (some ⟨a,0,none⟩))/\∃v,TbAt w' t s d v L Ms Mi T/\Kept (λb=>b≠t) w w'/\∀b,v.ownBlock=some b->w.heap.size<=b
theorem ai (t s d n a:Nat)(i:TI)(v:Value)(L:List (Nat×TI))(Ms Mi:Nat->Prop)(T:TS)(w:World)(h:TbAt w t s d v L Ms Mi T)(hm:L.length<=1000)(G:L[n]?=some (a,i)):
  Calls prog 80 #[t,int i64 n] w λr w'=>Sj t s d a (L.eraseIdx n++[(a,i)]) Ms Mi { T with l:=T.l.eraseIdx n++[i] } w r w':=by
 have hnl:n<L.length:=(List.getElem?_eq_some_iff.1 G).1;have N:(L.map (·.1)).length=L.length:=List.length_map _;obtain ⟨q,c,H,E,C,z,M,D⟩:=h.row.form BZ;obtain ⟨g,rfl⟩:=D (by omega)
 have Q:=h.blk;rw [H] at Q;have hgt:g≠t:=λe=>by
  have:=QC h.row (b:=g) (by rw [H];rfl)
  obtain ⟨-,cur,O⟩:=this;subst e;exact absurd (Q7 O h.blk) (by decide)
 have HO:=pp (jU t s g n c a T.seed T.lim (L.map (·.1)) w Q z E C (by omega) (by rw [List.getElem?_map,G];rfl) hgt)
 have y:((L.map (·.1)).eraseIdx n).length<=1000:=by rw [List.length_eraseIdx];split<;>omega
 have B:(L.map (·.1)).eraseIdx n=(L.eraseIdx n).map (·.1):=CA _ _ _;rw [B] at HO y;have S:=pp h;have HN:=pp G;have HF:Hid (∀(m:World) (q:Option Addr) (c:Nat),Kept (λb=>b≠t) w m->Q5 m w.heap.size 128 1 Zj (.slice q (((L.eraseIdx n).map (·.1)).length+1) c) ((L.eraseIdx n).map (·.1)++[a])->Q0 m t 135 #[s,int i64 T.seed,int i64 T.lim,.slice q (((L.eraseIdx n).map (·.1)).length+1) c]->Sj t s d a (L.eraseIdx n++[(a,i)]) Ms Mi { T with l:=T.l.eraseIdx n++[i] } w (.returned (.pointer (some ⟨a,0,none⟩))) m):=pp λm q c Z x p=>by
  refine ⟨rfl,_,S.o.relay Z p ?_ (Pg HN.o).symm ?_ rfl,Z,λb P=>(QC x P).1⟩
  ·rw [List.map_append];exact x.lowB (pC _)
  ·rw [List.map_append,<-CA,S.o.l];rfl
 have I:=pp h.blk.lt;clear h H Q z M D hgt B E C N G;generalize (L.eraseIdx n).map (·.1)=xs at *;go_enter func80,ntmps80;go_upto_region 2 with (go_at_call 86;refine HO.o.mono ?_;rintro e_ J ⟨rfl,U,q1,c1,V,Y⟩;have u:=pp U;have R:=pp V;have R1:=pp Y;clear U V Y)
 have t3:=R.o.cell 3;obtain ⟨W,F⟩:=pt (J.alloc (.cells #[a] 128));have f:pM J W:=by rw [F];exact (pI _ _).alloc (pA _) _
 have X:Q0 W J.heap.size 128 #[a]:=by rw [F];exact Q0.new' rfl
 obtain ⟨q2,c2,m,hrun,x,j⟩:=ah (R1.o.on f) (X.cell 0) (pB u.o.size f.size) y;have k:=((R.o.on f).below j I.o);have f3:=k.frz 3;have k3:=k.cell 3;rw [F] at hrun;have A:Kept (λb=>b≠t) w m:=⟨j.os.trans (f.os.trans u.o.os),j.tape.trans (f.tape.trans u.o.tape),j.output.trans (f.output.trans u.o.output),pB u.o.size (pB f.size j.size),λb p hK=>(j.block b p).trans ((f.block b (pD p u.o.size)).trans (u.o.block b p hK))⟩
 have HG:=pp (HF.out (m.setCell ⟨t,3,none⟩ (.slice q2 (xs.length+1) c2)) q2 c2 (A.setCell (by simp) _) (x.keep (K:=λb=>b≠t) ((Kept.refl _ _).setCell (by simp) _) (λb p e=>by
  obtain ⟨-,cur,O⟩:=QC x p;subst e;exact absurd (Q7 O k) (by decide))) (k.set_ 3 _))
 clear f X x j k A F;go_wp2_with (at_builtin;refine Lib.wpList_append_run _ rfl _ _ _ _ rfl _ _ rfl rfl _ _ hrun ?_);go_returns;exact HG.o
section
variable {w w':World}{t s d a:Nat}{v:Value}{R:List (Nat×TI)}{Ms Mi M:Nat->Prop}{T:TS}{i:TI}
theorem TbAt.item (h:TbAt w t s d v (R++[(a,i)]) Ms Mi T):∃A,UY a i w A/\(∀b,A b->Mi b)/\∀(g:TI) (w':World),Q6 (UY a g) w A w'->
  ∃e,TbAt w' t s d v (R++[(a,g)]) Ms e { T with l:=R.map (·.2)++[g] }/\∀b,e b->Mi b∨w.heap.size<=b:=by
 have y:(R++[(a,i)]).Perm ((a,i)::R):=List.perm_append_comm;obtain ⟨A,B,p,z,u,r⟩:CY ((a,i)::R) w Mi:=Ar y Mi h.its;refine ⟨A,p,λb c=>(r b).2 (.inl c),λg w' k=>?_⟩
 have n:=k.kept;have j:∀b,b=t∨b=s∨Ms b∨v.ownBlock=some b->¬A b:=λb c q=>by
  obtain ⟨t',cur,m,o⟩:=p.type q;rcases c with rfl|rfl|c|c
  ·obtain rfl:=Q7 m h.blk;rcases o with h|h|h<;>revert h<;>decide
  ·obtain rfl:=Q7 m h.st.blk;rcases o with h|h|h<;>revert h<;>decide
  ·rcases (h.st.disk.mine c).2.2 _ _ m with rfl|rfl<;>rcases o with h|h|h<;>revert h<;>decide
  ·obtain ⟨-,cur',D⟩:=QC h.row c;obtain rfl:=Q7 m D;rcases o with h|h|h<;>revert h<;>decide
 obtain ⟨e,x,C,k3⟩:=Jo (M:=Mi) (Di a i) (VP R) p z u r k;refine ⟨e,⟨n.blk (j t (.inl rfl)) h.blk,⟨n.blk (j s (.inr (.inl rfl))) h.st.blk,h.st.disk.kept n (λb c=>j b (.inr (.inr (.inl c)))) (λb c=>by
  rcases c with c|⟨cur,c⟩
  ·omega
  ·exact λq=>(Di a i).nob p b q cur c),pC _⟩,?_,Ar (List.perm_append_comm (l₁:=[(a,g)])) e x,by rw [List.map_append];rfl⟩,C⟩
 have f:=h.row.keep n λb c=>j b (.inr (.inr (.inr c)))
 rw [List.map_append] at f ⊢;exact f
theorem UY.turn {d f t:World}{c:Nat}{Mc:Nat->Prop}{g:List Int}{n:Bool}(s:Q0 d a 142 #[c,.bool i.dirty,int i64 i.pins])(v:Uz c i.x i.z i.cs d Mc)(l:∀b,M b↔b=a∨Mc b)(o:f=d.setCell ⟨a,1,none⟩ (.bool n))(k:Q6 (Uz c i.x i.z g) f Mc t):
  Q6 (UY a { i with cs:=g,dirty:=n }) d M t:=by
 have m:¬Mc a:=λh=>by
  obtain ⟨t',cur,B,w⟩:=v.type h;obtain rfl:=Q7 B s;rcases w with h|h<;>revert h<;>decide
 have p:Q0 f a 142 #[c,.bool n,int i64 i.pins]:=by rw [o];exact s.set_ 1 _
 have q:=k.blk m p;have y:f.heap.size=d.heap.size:=by rw [o];simp [World.setCell]
 obtain ⟨e,u,r,A⟩:=k;refine ⟨λb=>b=a∨e b,⟨c,e,q,u,λ_=>Iff.rfl⟩,λb j=>?_,?_⟩
 ·rcases j with rfl|j
  ·exact .inl ((l _).2 (.inl rfl))
  ·rw [y] at r;exact (r b j).imp_left λh=>(l b).2 (.inr h)
 ·have C:Kept (λb=>¬M b) d f:=by rw [o];exact (Kept.refl _ _).setCell (λh=>h ((l _).2 (.inl rfl))) _
  exact C.trans (A.mono λb j h=>j ((l b).2 (.inr h)))
end
theorem aj (d:Bool)(x:Int)(b:Int):(d=true->(d||(x !=b))=true)/\(d=false->(d||(x !=b))=(x !=b)):=by cases d<;>simp
theorem jV (t n:Nat)(T:TS)(i:TI)(x y z b:Int)(w:World)(M:Nat->Prop)(h:Yz t T w M)(hx:Qg x)(hz:Qg z)(hn:T.l.length<=1000)(hf:T.find (Xa x z)=n)(hi:T.l[n]?=some i)(hp:i.is (Xa x z)=true)(hy:Yp y=true)(hb:Zi b=true):
  Calls prog 249 #[t,.agg #[x,y,z],int i64 b] w λr w'=>r=.returned (int i64 0)/\Q6 (Yz t { T with l:=T.l.eraseIdx n++[i.set x y z b] }) w M w':=by
 obtain ⟨s,d,v,L,Ms,Mi,h,hM⟩:=h;obtain ⟨W,hW⟩:=pt (w.alloc (.cells #[x,y,z] 43));have H:pM w W:=by rw [hW];exact (pI _ _).alloc (pA _) _
 have C:Q0 W w.heap.size 43 #[x,y,z]:=by rw [hW];exact Q0.new' rfl
 have h1:=h.on H;have a3:L.length=T.l.length:=by rw [<-h.l,List.length_map]
 obtain ⟨a,ak⟩:∃a,L[n]?=some (a,i):=by
  rw [<-h.l,List.getElem?_map] at hi;cases hp':L[n]? with
  | none=>rw [hp'] at hi;cases hi
  | some pr=>
   rw [hp'] at hi;obtain rfl:pr.2=i:=by simpa using hi
   exact ⟨pr.1,rfl⟩
 have aw:i.x=x / 16/\i.z=z / 16:=DX.1 hp;have HC:=pp (DC x y z hx hz W);have HF:=pp λJ (h2:pM W J)=>IU t s d v L Ms Mi T (x / 16) (z / 16) J (h1.on h2) hn
 rw [show T.find (x / 16,z / 16)=(n:Int) from hf] at HF;have HI:=pp λJ=>KG x y z hx hz J
 rw [DY hy] at HI;have ae:=pp λJ=>Dd b J
 rw [hb] at ae;have am:=pp λJ (h2:pM W J)=>ai t s d n a i v L Ms Mi T J (h1.on h2) (by omega) ak
 have G:=pp (py hx (py hz (py hy (py hb aw))));have an:=pp C;have HH:=pp H;have HM:=pp hM;have a1:=pp h;obtain ⟨c0,c1,c2,-,-,-⟩:=C.c3;have hn0:(0:Int)<=n:=by omega
 have a0:=pp (show (L.eraseIdx n).map (·.2)=T.l.eraseIdx n by rw [<-CA,h.l])
 clear h hx hz hn hf hi hp hy hb H C h1 a3 ak aw hM;go_enter func249,ntmps249;go_upto_region 1 with fail
 rw [<-hW];clear hW;go_upto_region 2 with first
  | (go_at_call 108;refine HC.o.mono ?_;rintro e_ w1 ⟨rfl,g1⟩;have G1:=pp g1;have av:=pp (HF.o w1 g1);clear g1)
  | (go_at_call 79;refine av.o.mono ?_;rintro e_ w2 ⟨rfl,g2⟩;have G2:=pp (after G1.o g2);clear g2)
 clear c0 c1 c2;obtain ⟨c0,c1,c2,-,-,-⟩:=(an.o.on G2.o).c3;have ao:=pp (HI.o w2);clear HF HC av G1;go_upto_region 7 with (go_at_call 208;refine ao.o.mono ?_;rintro e_ w3 ⟨rfl,g3⟩;have G3:=pp (after G2.o g3);clear g3)
 clear c0 c1 c2;have au:=pp (ae.o w3);clear HI ao;go_upto_region 9 with (go_at_call 142;refine au.o.mono ?_;rintro e_ w4 ⟨rfl,u⟩;have G4:=pp (after G3.o u);clear u)
 have a5:=pp (am.o w4 G4.o);clear ae au am;go_upto_region 10 with (go_at_call 80;refine a5.o.mono ?_;rintro e_ w5 ⟨rfl,v5,t5,k5,o5⟩;have T5:=pp t5;have K5:=pp k5;have O5:=pp o5;clear t5 k5 o5)
 obtain ⟨Ai,ay,ap,ax⟩:=T5.o.item;obtain ⟨c,Mc,aa,af,aq⟩:=ay;have i0:=λd os=>(aa.re d os).cell 0
 have R:=K5.o.blk (show w.heap.size≠t by have:=a1.o.blk.lt;omega) (an.o.on G4.o)
 obtain ⟨c0,c1,c2⟩:=R.re3;have Y:=pp λd os=>Sg c x y z i.x i.z i.cs (Go.Sort.grow (redrawn w5 d) os) Mc ((YD _ _ _ _).on af (pK _ _ _)) G.o.1 G.o.2.1 G.o.2.2.2.2.1.symm G.o.2.2.2.2.2.symm
 rw [Fu G.o.2.2.1] at Y;have U:=pp aa;have S:=pp af;have V:=pp R;have a4:=pp (py aq (py ap ax));clear aa af R aq ap ax;refine wp_region_quiet_below (by kernel_rfl) (by kernel_rfl) ?_
 repeat (go_big_quiet_step (exact Calls.regrown_of (Y.o _ _)))
 refine wpQuiet_nil ?_;intro w' az;obtain ⟨rg,rfl⟩:=az;obtain ⟨W6,O⟩:=pt (Go.Sort.grow (redrawn w5 rg.d) rg.os);have h6:pM w5 W6:=by rw [O];exact pK _ _ _
 rw [<-O];have I:=pp (U.o.on h6);have H6:=pp h6;clear O i0 c0 c1 c2 h6 Y;obtain ⟨i0,i1,i2,P,Z,ad⟩:=I.o.c3;have al:=aj i.dirty (Ud i.cs x y z) b;have HOR:=pp al;have ai:∀(d':Bool) (j:World),j=W6.setCell ⟨a,1,none⟩ (.bool d')->d'=(i.dirty||(Ud i.cs x y z !=b))->∀D,Q6 (Uz c i.x i.z (i.cs.set (YH x y z).toNat b)) j Mc D->Q6 (Yz t { T with l:=T.l.eraseIdx n++[i.set x y z b] }) w M D:=λd' j h7 hd D k=>by
  obtain ⟨r1,r2,r3⟩:=a4.o;have k1:=UY.turn I.o ((YD c i.x i.z i.cs).on S.o H6.o) r1 h7 k;rw [hd] at k1;have k2:Q6 (UY a (i.set x y z b)) w5 Ai D:=Q6.ahead H6.o k1;obtain ⟨ar,t9,m9⟩:=r3 _ D k2;rw [a0.o] at t9;have k4:=K5.o;have k9:=k2.kept;have u:pM w w4:=after HH.o G4.o;refine ⟨Es t s v5 Ms ar,⟨s,d,v5,_,Ms,ar,t9,λ_=>Iff.rfl⟩,λb' f=>?_,?_⟩
  ·rcases f with rfl|rfl|f|f|f
   ·exact .inl ((HM.o _).2 (.inl rfl))
   ·exact .inl ((HM.o _).2 (.inr (.inl rfl)))
   ·exact .inl ((HM.o _).2 (.inr (.inr (.inl f))))
   ·exact .inr (pB u.size (O5.o _ f))
   ·rcases m9 b' f with h|h
    ·exact .inl ((HM.o _).2 (.inr (.inr (.inr (.inr h)))))
    ·exact .inr (pB u.size (pB k4.size h))
  ·refine ⟨k9.os.trans (k4.os.trans u.os),k9.tape.trans (k4.tape.trans u.tape),k9.output.trans (k4.output.trans u.output),pB u.size (pB k4.size k9.size),λb' f aj=>?_⟩
   have Q:=u.block b' f;have e2:=k4.block b' (pD f u.size) (λe=>aj ((HM.o _).2 (.inl e)))
   have e3:=k9.block b' (pD f (pB u.size k4.size)) (λe=>aj ((HM.o _).2 (.inr (.inr (.inr (.inr (r2 _ e)))))))
   exact e3.trans (e2.trans Q)
 have ab:=pp ai;clear al ai;have ag:=pp λ(j:World) (hc:Uz c i.x i.z i.cs j Mc)=>eY c x y z i.x i.z b i.cs j Mc hc G.o.1 G.o.2.1 G.o.2.2.2.2.1.symm G.o.2.2.2.2.2.symm G.o.2.2.1 G.o.2.2.2.1
 have key:∀(d':Bool) (j:World),j=W6.setCell ⟨a,1,none⟩ (.bool d')->Uz c i.x i.z i.cs j Mc/\Q0 j w.heap.size 43 #[x,y,z]/\Q0 j a 142 #[c,.bool d',int i64 i.pins]:=λd' j h7=>by
  have ah:Kept (λb=>b≠a) W6 j:=by rw [h7];exact (Kept.refl _ _).setCell (by simp) _
  refine ⟨(YD c i.x i.z i.cs).kept ((YD c i.x i.z i.cs).on S.o H6.o) ah (λb' f e=>?_) (λb' cs' f e=>?_),ah.blk (λe=>?_) (V.o.on H6.o),by rw [h7];exact I.o.set_ 1 _⟩
  ·subst e;obtain ⟨t',cur,h1,h2⟩:=S.o.type f;obtain rfl:=Q7 h1 U.o;rcases h2 with h|h<;>revert h<;>decide
  ·subst e;exact absurd (Q7 f I.o) (by decide)
  ·rw [e] at V;exact absurd (Q7 V.o U.o) (by decide)
 have X:=pp key;clear key;generalize a2:Ud i.cs x y z=cb at *;clear a2;cases hd:i.dirty
 ·rw [hd] at i1;have HD:=pp hd;cases hne:(cb !=b)
  ·have ac:=pp hne;go_upto_region 12 with fail
   obtain ⟨j,g⟩:=pt (W6.setCell ⟨a,1,none⟩ (.bool false));rw [<-g];obtain ⟨m,q,p⟩:=X.o false j g;have j0:=λd os=>(p.re d os).cell 0
   obtain ⟨e0,Q,e2⟩:=q.re3;have A:=pp m;have F7:=pp (ab.o false j g (by rw [HD.o];simp [ac.o]))
   clear g m q p i0 i1 i2 P Z ad;refine Qk [0,0,0,0,0,0,3,3] (λ_ _ _=>True) (by kernel_rfl) (by kernel_rfl) (λ_ _ _ _ h _=>h) ?_
   repeat (first|(refine Qi ?_)|(refine Qf (λK N=>?_);go_simp;refine N _ ?_;clear N K))
   refine Q8 ?_;repeat (refine Q2 ?_)
   refine Qc ?_;simp only [Qd];intro W8 E _;have F:=pp (ag.o W8 ((YD _ _ _ _).on A.o E));have H8:=pp E;clear E j0 e0 Q e2;go_wp2_with (go_at_call 305;refine F.o.mono ?_;rintro e_ D ⟨rfl,B⟩;replace B:=pp B);go_returns;exact ⟨rfl,F7.o D (Q6.ahead H8.o B.o)⟩
  ·have ac:=pp hne;go_upto_region 12 with fail
   obtain ⟨j,g⟩:=pt (W6.setCell ⟨a,1,none⟩ (.bool true));rw [<-g];obtain ⟨m,q,p⟩:=X.o true j g;have j0:=λd os=>(p.re d os).cell 0
   obtain ⟨e0,Q,e2⟩:=q.re3;have A:=pp m;have F7:=pp (ab.o true j g (by rw [HD.o];simp [ac.o]))
   clear g m q p i0 i1 i2 P Z ad;refine Qk [0,0,0,0,0,0,3,3] (λ_ _ _=>True) (by kernel_rfl) (by kernel_rfl) (λ_ _ _ _ h _=>h) ?_
   repeat (first|(refine Qi ?_)|(refine Qf (λK N=>?_);go_simp;refine N _ ?_;clear N K))
   refine Q8 ?_;repeat (refine Q2 ?_)
   refine Qc ?_;simp only [Qd];intro W8 E _;have F:=pp (ag.o W8 ((YD _ _ _ _).on A.o E));have H8:=pp E;clear E j0 e0 Q e2;go_wp2_with (go_at_call 305;refine F.o.mono ?_;rintro e_ D ⟨rfl,B⟩;replace B:=pp B);go_returns;exact ⟨rfl,F7.o D (Q6.ahead H8.o B.o)⟩
 ·rw [hd] at i1;have HD:=pp hd;go_upto_region 12 with fail
  obtain ⟨j,g⟩:=pt (W6.setCell ⟨a,1,none⟩ (.bool true));rw [<-g];obtain ⟨m,q,p⟩:=X.o true j g;have j0:=λd os=>(p.re d os).cell 0
  obtain ⟨e0,Q,e2⟩:=q.re3;have A:=pp m;have F7:=pp (ab.o true j g (by rw [HD.o];simp))
  clear g m q p i0 i1 i2 P Z ad;refine Qk [0,0,0,0,0,0,3,3] (λ_ _ _=>True) (by kernel_rfl) (by kernel_rfl) (λ_ _ _ _ h _=>h) ?_
  repeat (first|(refine Qi ?_)|(refine Qf (λK N=>?_);go_simp;refine N _ ?_;clear N K))
  refine Q8 ?_;repeat (refine Q2 ?_)
  refine Qc ?_;simp only [Qd];intro W8 E _;have F:=pp (ag.o W8 ((YD _ _ _ _).on A.o E));have H8:=pp E;clear E j0 e0 Q e2;go_wp2_with (go_at_call 305;refine F.o.mono ?_;rintro e_ D ⟨rfl,B⟩;replace B:=pp B);go_returns;exact ⟨rfl,F7.o D (Q6.ahead H8.o B.o)⟩
structure Bare (S:DS):Prop where
 safe:S.safe=[]
 l:S.l=[]
 room:0<=S.room/\S.room<=1048576
 waits:S.waits=0
 fails:S.fails=0
theorem Bare.ok (h:Bare S):DOk S 1000 1000000 where
 rise:=by rw [h.safe];exact List.Pairwise.nil
 keys:=by rw [h.safe,h.l];intro p a;cases a
 many:=by rw [h.safe,h.l];decide
 size:=by rw [h.safe,h.l];intro p a;cases a
 room:=h.room
 waits:=.inl h.waits
 fails:=by rw [h.fails];decide
theorem Bare.load (h:Bare S)(id:Int)(b:Yx id=true):Y2 S id=([],0,false):=by
 have c:∀k,S.get k=none:=λk=>by
  unfold DS.get DS.now;rw [h.safe,h.l];rfl
 have a:∀k,Qj S k=(0,[],3):=λk=>by
  unfold Qj;rw [c];exact Bl (by decide)
 unfold Y2;rw [if_pos b];unfold QY;rw [a,a,if_neg (by decide),if_neg (by decide)]
 rfl
def Ue (x z:Int):Int:=(x+524288) * 2 * 524288+z+524288+1
theorem fi (hx: -524288<=x/\x<524288)(hz: -524288<=z/\z<524288):Yx (Ue x z)=true:=by
 unfold Yx Ue;simp;omega
theorem cO (x z:Int)(a: -524288<=x/\x<524288)(b: -524288<=z/\z<524288)(w:World):Calls prog 78 #[.agg #[x,z]] w λr w'=>r=.returned (.tuple #[int i64 (Ue x z),.bool true])/\Below w.heap.size w w':=by
 have U:Q0 (w.alloc (.cells #[x,z] 123)) w.heap.size 123 #[x,z]:=Q0.new' rfl;obtain ⟨u0,u1,-,-⟩:=U.pair;obtain ⟨x1,x2⟩:=a;obtain ⟨z1,z2⟩:=b;unfold Ue;go_enter func78,ntmps78;go_wp2_with fail;go_returns;exact ⟨rfl,(pI _ _).alloc (pA _) _⟩
theorem fj (t s d:Nat)(v:Value)(L:List (Nat×TI))(Ms Mi:Nat->Prop)(T:TS)(w:World)(h:TbAt w t s d v L Ms Mi T)(hl:(T.l.length:Int)<T.lim):
  Calls prog 81 #[t] w λr w'=>r=.returned (int i64 0)/\Below w.heap.size w w':=by
 obtain ⟨q,c,e,-⟩:=h.row.form BZ;have a:=h.blk;rw [e,List.length_map,show L.length=T.l.length by rw [<-h.l,List.length_map]] at a
 have t2:=λd os=>(a.re d os).cell 2
 have t3:=λd os=>(a.re d os).cell 3
 clear a e h;go_enter func81,ntmps81;go_upto_region 1 with fail
 refine wp_region_quiet_below (by kernel_rfl) (by kernel_rfl) ?_
 repeat (go_big_quiet_step (fail))
 refine wpQuiet_nil ?_;intro w' b;obtain ⟨rg,rfl⟩:=b;go_wp2_with fail;go_returns;exact ⟨rfl,pK w _ _⟩
def Kj (x z:Int)(cs:List Int)(B0:Nat)(v:Value)(w:World):Prop:=∃c M,v=.pointer (some ⟨c,0,none⟩)/\Uz c x z cs w M/\∀b,M b->B0<=b
theorem Kj.on {cs:List Int}{a:Nat}{v:Value}{w w':World}(h:Kj x z cs a v w)(f:pM w w'):Kj x z cs a v w':=by
 obtain ⟨c,M,d,b,e⟩:=h;exact ⟨c,M,d,(YD _ _ _ _).on b f,e⟩
def QP (seed x z:Int):TI:=⟨x,z,Ye seed x z,false,0⟩
theorem TbAt.more {w w':World}{t s d a c:Nat}{v:Value}{L:List (Nat×TI)}{Ms Mi Mc M:Nat->Prop}{T:TS}{it:TI}(h:TbAt w t s d v L Ms Mi T)(j:∀b,M b↔Es t s v Ms Mi b)(q:Kept (λb=>b≠t/\v.ownBlock≠some b) w w')
  (G:Q0 w' t 135 #[s,int i64 T.seed,int i64 T.lim,v']) (row:Q5 w' 0 128 1 Zj v' (L.map (·.1)++[a])) (o:∀b,v'.ownBlock=some b->v.ownBlock=some b∨w.heap.size<=b)
  (E:Q0 w' a 142 #[c,.bool it.dirty,int i64 it.pins]) (D:Uz c it.x it.z it.cs w' Mc) (F:w.heap.size<=a) (m:∀b,Mc b->w.heap.size<=b):
  Q6 (Yz t { T with l:=T.l++[it] }) w M w':=by
 have own:∀b,v.ownBlock=some b->∃cur,Q0 w b 128 cur:=λb f=>(QC h.row f).2
 have y:∀b,b=s∨Ms b∨Mi b->b≠t/\v.ownBlock≠some b:=λb f=>by
  have key:∀p cur,Q0 w b p cur->p=135∨p=128->False:=λp cur g ht=>by
   rcases f with rfl|f|f
   ·have i:=Q7 h.st.blk g;rcases ht with e|e<;>rw [e] at i<;>revert i<;>decide
   ·rcases (h.st.disk.mine f).2.2 _ _ g with i|i<;>rcases ht with e|e<;>rw [e] at i<;>revert i<;>decide
   ·obtain ⟨t2,cur2,C,B⟩:=BY h.its f;have i:=Q7 C g;subst i;rcases ht with e|e<;>rw [e] at B<;>rcases B with h|h|h<;>revert h<;>decide
  refine ⟨λe=>?_,λe=>?_⟩
  ·subst e;exact key _ _ h.blk (.inl rfl)
  ·obtain ⟨cur,r⟩:=own b e;exact key _ _ r (.inr rfl)
 have u8:∀b cs,Q0 w b 5 cs->b≠t/\v.ownBlock≠some b:=λb cs g=>by
  refine ⟨λe=>?_,λe=>?_⟩
  ·subst e;exact absurd (Q7 g h.blk) (by decide)
  ·obtain ⟨cur,r⟩:=own b e;exact absurd (Q7 g r) (by decide)
 have u:UY a it w' (λb=>b=a∨Mc b):=⟨c,Mc,E,D,λ_=>Iff.rfl⟩
 have n:=(VP L).kept h.its q (λb f=>y b (.inr (.inr f))) u8
 have k:CY (L++[(a,it)]) w' (λb=>(b=a∨Mc b)∨Mi b):=Ar (List.perm_append_comm (l₁:=[(a,it)])) _ ⟨λb=>b=a∨Mc b,Mi,u,n,λb f A=>by
  have C:=(VP L).lt h.its b A;rcases f with rfl|f
  ·omega
  ·have:=m b f;omega,λ_=>Iff.rfl⟩
 refine ⟨Es t s v' Ms (λb=>(b=a∨Mc b)∨Mi b),⟨s,d,v',L++[(a,it)],Ms,_,⟨G,⟨q.blk (y s (.inl rfl)) h.st.blk,h.st.disk.kept q (λb f=>y b (.inr (.inl f))) (λb f=>by
  rcases f with f|⟨cur,f⟩
  ·omega
  ·exact u8 b cur f),pC _⟩,by rw [List.map_append];exact row,k,by rw [List.map_append,h.l];rfl⟩,λ_=>Iff.rfl⟩,λb f=>?_,q.mono λb f=>⟨λe=>f ((j b).2 (.inl e)),λe=>f ((j b).2 (.inr (.inr (.inr (.inl e)))))⟩⟩
 rcases f with rfl|rfl|f|f|((rfl|f)|f)
 ·exact .inl ((j _).2 (.inl rfl))
 ·exact .inl ((j _).2 (.inr (.inl rfl)))
 ·exact .inl ((j _).2 (.inr (.inr (.inl f))))
 ·exact (o b f).imp_left λh=>(j b).2 (.inr (.inr (.inr (.inl h))))
 ·exact .inr F
 ·exact .inr (m b f)
 ·exact .inl ((j b).2 (.inr (.inr (.inr (.inr f)))))
abbrev Bp (c:Int×Int×Int×Int):List Value:=[int i64 c.1,int i64 c.2.1,int i64 c.2.2.1,int i64 c.2.2.2]
theorem Fv (c:Int×Int×Int×Int):(Bp c).length=4:=rfl
def Bb (wd t:Nat)(T:TS)(k:Nat):QK:=λw M=>∃v xs Mt,Q0 w wd 114 #[t,v]/\Q5 w 0 307 4 Bp v xs/\xs.length<=k/\Yz t T w Mt/\∀b,M b↔b=wd∨v.ownBlock=some b∨Mt b
section
variable {w w':World}{wd t k:Nat}{M K:Nat->Prop}{T:TS}
def Sk (ty:TypeId):Prop:=ty=114∨ty=307∨Lo ty
theorem Bb.type (h:Bb wd t T k w M)(a:M b):b<w.heap.size/\∀ty cs,Q0 w b ty cs->Sk ty:=by
 obtain ⟨v,xs,Mt,e,g,-,f,i⟩:=h;rcases (i b).1 a with rfl|a|a
 ·exact ⟨e.lt,λty cs c=>.inl (Q7 c e)⟩
 ·obtain ⟨-,cur,d⟩:=QC g a;exact ⟨d.lt,λty cs c=>.inr (.inl (Q7 c d))⟩
 ·exact ⟨(f.type a).1,λty cs c=>.inr (.inr ((f.type a).2 ty cs c))⟩
theorem XR (wd t:Nat)(T:TS)(k:Nat):QK.Fit 5 (Bb wd t T k) where
 lt:=λh b a=>(h.type a).1
 nob:=λh b a cs n=>by
  rcases (h.type a).2 _ _ n with h|h|h|h|h|h|h|h|h|h<;>revert h<;>decide
 kept:=λ⟨v,xs,g,m,f,i,l,c⟩ e d j=>⟨v,xs,g,e.blk (d _ ((c _).2 (.inl rfl))) m,f.keep e (λb a=>d b ((c b).2 (.inr (.inl a)))),i,(VZ t T).kept l e (λb a=>d b ((c b).2 (.inr (.inr a)))) j,c⟩
theorem CD {ty:TypeId}{a:Nat->Prop}(h:Yz t T w a)(c:Q0 w b ty cs)(ht:¬Lo ty):¬a b:=λd=>ht ((h.type d).2 _ _ c)
theorem DZ:¬Lo 114:=by
 intro h;rcases h with h|h|h|h|h|h|h|h<;>revert h<;>decide
theorem CF:¬Lo 307:=by
 intro h;rcases h with h|h|h|h|h|h|h|h<;>revert h<;>decide
end
theorem GC (wd t k:Nat)(T:TS)(w:World)(M:Nat->Prop)(h:Bb wd t T k w M):Calls prog 30 #[wd] w λr w'=>r=.returned (.pointer (some ⟨t,0,none⟩))/\w=w':=by
 obtain ⟨v,xs,Mt,a,-⟩:=h;have c0:=a.cell 0;clear a;go_enter func30,ntmps30;go_wp2_with fail;go_returns;exact ⟨rfl,rfl⟩
abbrev E0 (t:Nat):Value:=.func (.func 67) #[t] #[]
theorem UB (wd t k:Nat)(T:TS)(w:World)(M:Nat->Prop)(h:Bb wd t T k w M):Calls prog 29 #[wd] w λr w'=>r=.returned (E0 t)/\w=w':=by
 obtain ⟨v,xs,Mt,b,-⟩:=h;have hmf:∀(a:Fn) (first cap:Array Value) (w:World),(Instr.makeFunc a first cap).run prog w=.ok (.func a first cap) w:=λ_ _ _ _=>rfl
 have c0:=b.cell 0;clear b;go_enter func29,ntmps29;go_wp2_with fail;go_returns;exact ⟨rfl,rfl⟩
theorem Ia {t:Nat}{T:TS}{w:World}{M:Nat->Prop}(h:Yz t T w M)(f:T.l.length<=1000):Yy prog 67 (.pointer (some ⟨t,0,none⟩)) (λc=>T.at c.1 c.2.1 c.2.2) w:=by
 intro c a W e;obtain ⟨s,d,v,L,Ms,Mi,b,-⟩:=(VZ t T).on h e;exact mD t s d v L Ms Mi T c.1 c.2.1 c.2.2 a.1 a.2 W b f
theorem oD {t:Nat}{T:TS}{w:World}{M:Nat->Prop}(x y z:Int)(a:Qg x)(c:Qg z)(h:Yz t T w M)(b:T.l.length<=1000):
  Calls prog 67 #[t,.agg #[x,y,z]] w λr w'=>r=.returned (int i64 (T.at x y z))/\Below w.heap.size w w':=
 Ia h b (x,y,z) ⟨a,c⟩ w (.refl _ _)
def jW (N:Nat)(v:Value)(xs:List (Int×Int×Int×Int))(v':Value)(w:World):Prop:=Q5 w 0 307 4 Bp v' xs/\∀b,v'.ownBlock=some b->v.ownBlock=some b∨N<=b
def jX (N:Nat)(c:Int×Int×Int×Int)(v:Value)(w:World):Prop:=∃b,v=.slice (some ⟨b,0,none⟩) 1 1/\N<=b/\Q0 w b 307 #[int i64 c.1,int i64 c.2.1,int i64 c.2.2.1,int i64 c.2.2.2]
def jY (N:Nat)(v:Value)(xs:List (Int×Int×Int×Int))(c:Int×Int×Int×Int):Nat->XO:=λi v' w=>match i with|8=>jX N c v' w|9=>jW N v (xs++[c]) v' w|_=>True
theorem jZ {v:Value}{xs:List (Int×Int×Int×Int)}{c:Int×Int×Int×Int}(g:∀b,v.ownBlock=some b->b<N):∀i v' (w w':World),jY N v xs c i v' w->(if i=9 then Below w.heap.size w w' else Kept (λb=>v.ownBlock≠some b) w w')->jY N v xs c i v' w'
 | 8,_,_,_,⟨b,f,d,h⟩,a=>⟨b,f,d,(show Kept _ _ _ from a).blk (λe=>by have:=g b e;omega) h⟩
 | 9,_,_,_,⟨f,d⟩,a=>⟨f.on a,d⟩
 | 0,_,_,_,_,_=>trivial
 | 1,_,_,_,_,_=>trivial
 | 2,_,_,_,_,_=>trivial
 | 3,_,_,_,_,_=>trivial
 | 4,_,_,_,_,_=>trivial
 | 5,_,_,_,_,_=>trivial
 | 6,_,_,_,_,_=>trivial
 | 7,_,_,_,_,_=>trivial
 | n+10,_,_,_,_,_=>trivial
theorem mE:(prog.info? 307).map (λi=>(i.zero,i.size,i.bytes))=some (some (.agg #[int i64 0,int i64 0,int i64 0,int i64 0]),4,32):=by kernel_rfl
theorem Lq {v:Value}{xs:List (Int×Int×Int×Int)}{c:Int×Int×Int×Int}(m:Q5 W 0 307 4 Bp v xs)(l:jX N c v8 W)(hl:xs.length<=1000000)(n:N<=W.heap.size):
  ∃v' w',(Builtin.append_ #[112,112] 112 #[v,v8]).run prog W=.ok v' w'/\Kept (λb=>b∉v.ownBlock.toList) W w'/\jW N v (xs++[c]) v' w':=by
 obtain ⟨b,rfl,hb,q⟩:=l;obtain ⟨g,cp,o,hrun,i,a,h⟩:=Yr (P:=prog) (w:=W) (base:=0) (e:=307) (size:=4) (enc:=Bp) (v:=v) (xs:=xs) (ts:=112) (ty:=112) (bytes:=32) (b:=b) (x:=c) underlying112 mE rfl (by decide) (by decide) rfl (by intro u d;simp [Bp] at d;rcases d with rfl|rfl|rfl|rfl<;>rfl) m (λj u d=>by rw [q.cell j];simpa [Bp] using d) (by omega) (pC _)
 refine ⟨_,o,hrun,⟨a.os,a.tape,a.output,a.size,λk f p=>a.block k f (λe=>p (by rw [Option.mem_toList];exact e.symm))⟩,i,λk f=>?_⟩
 simp [Value.ownBlock] at f;subst f;exact h.imp_right (pB n)
theorem ka (wd t k n:Nat)(T:TS)(i:TI)(x y z b:Int)(w:World)(M:Nat->Prop)(h:Bb wd t T k w M)(hx:Qg x)(hz:Qg z)(hn:T.l.length<=1000)(hf:T.find (Xa x z)=n)(hi:T.l[n]?=some i)(hp:i.is (Xa x z)=true)(hy:Yp y=true)(hb:Zi b=true)(hk:k<=1000000):
  Calls prog 191 #[wd,.agg #[x,y,z],int i64 b] w λr w'=>r=.returned (int i64 0)/\Q6 (Bb wd t { T with l:=T.l.eraseIdx n++[i.set x y z b] } (k+1)) w M w':=by
 obtain ⟨v,xs,Mt,I,h2,h3,h4,hM⟩:=h;obtain ⟨W,hW⟩:=pt (w.alloc (.cells #[x,y,z] 43));have H:pM w W:=by rw [hW];exact (pI _ _).alloc (pA _) _
 have C:Q0 W w.heap.size 43 #[x,y,z]:=Q0.fresh hW;have ae:=pp λR (g:pM w R)=>oD x y z hx hz ((VZ t T).on h4 g) hn
 have ad:=pp λR (g:pM w R)=>jV t n T i x y z b R Mt ((VZ t T).on h4 g) hx hz hn hf hi hp hy hb
 have HB:=pp I;have HO:=pp h2;have HL:=pp (py h3 hk);have s:=pp hM;have Y:=pp h4;have HC:=pp C;have HH:=pp H;have w0:=λd os=>((I.on H).re d os).cell 0
 obtain ⟨c0,c1,c2⟩:=C.re3;have wf:=I.frz 0;generalize ai:({ T with l:=T.l.eraseIdx n++[i.set x y z b] } :TS)=T2 at *
 clear ai;clear I h2 h3 h4 hM H C hx hz hn hf hi hp hy hb hk;go_enter func191,ntmps191;go_upto_region 1 with fail
 rw [<-hW];clear hW;refine wp_region_quiet_below (by kernel_rfl) (by kernel_rfl) ?_
 repeat (go_big_quiet_step (exact Calls.regrown_of (ae.o _ (after HH.o (pK _ _ _)))))
 refine wpQuiet_nil ?_;intro w' al;obtain ⟨rg,rfl⟩:=al;obtain ⟨W1,O⟩:=pt (Go.Sort.grow (redrawn W rg.d) rg.os);have I:pM W W1:=by rw [O];exact pK _ _ _
 rw [<-O];have G1:=pp (after HH.o I);have S:=pp (HC.o.on I);clear O I w0 c0 c1 c2 HH HC ae;have w0:=λd os=>((HB.o.on G1.o).re d os).cell 0
 obtain ⟨c0,c1,c2⟩:=S.o.re3;generalize T.at x y z=was at *;go_upto_region 2 with fail
 refine Qk [0,0,0,0,0,0,3,3] (λ_ _ _=>True) (by kernel_rfl) (by kernel_rfl) (λ_ _ _ _ h _=>h) ?_
 repeat (first|(refine Qi ?_)|(refine Qf (λK J=>?_);go_simp;refine J _ ?_;clear J K))
 refine Q8 ?_;repeat (refine Q2 ?_)
 refine Qc ?_;simp only [Qd];intro R g2 _;have G2:=pp (after G1.o g2);have ao:=pp (S.o.on g2);have am:=pp (ad.o R G2.o);clear g2 w0 c0 c1 c2 ad S;go_upto_region 3 with (go_at_call 249;refine am.o.mono ?_;rintro e_ w3 ⟨rfl,K3⟩;replace K3:=pp K3)
 have ag:∀(N:World),Kept (λb'=>¬Mt b') R N->Q0 N wd 114 #[t,v]/\Q5 N 0 307 4 Bp v xs:=λN k=>by
  refine ⟨k.blk (CD Y.o HB.o DZ) (HB.o.on G2.o),(HO.o.on G2.o).keep k λb' hb p=>?_⟩
  obtain ⟨-,cur,E⟩:=QC HO.o hb;exact CD Y.o E CF p
 have ac:=pp ag;clear ag;cases hne:(was !=b)
 ·go_wp2_with fail;go_returns;obtain ⟨q,t3,m3,u⟩:=K3.o;obtain ⟨b3,o3⟩:=ac.o _ u;refine ⟨rfl,λb'=>b'=wd∨v.ownBlock=some b'∨q b',⟨v,xs,q,b3,o3,by have:=HL.o.1;omega,t3,λ_=>Iff.rfl⟩,λb' a=>?_,?_⟩
  ·rcases a with a|a|a
   ·exact .inl ((s.o _).2 (.inl a))
   ·exact .inl ((s.o _).2 (.inr (.inl a)))
   ·exact (m3 _ a).imp (λh=>(s.o _).2 (.inr (.inr h))) λh=>pB G2.o.size h
  ·exact ((Kept.of_below G2.o).mono λ_ _=>trivial).trans (u.mono λb' a p=>a ((s.o _).2 (.inr (.inr p))))
 ·obtain ⟨q,t3,m3,u⟩:=K3.o;obtain ⟨b3,o3⟩:=ac.o _ u;have aj:=pp u;have ab:=pp t3;have P:=pp b3;have F:=pp o3;have af:∀b',v.ownBlock=some b'->b'<w3.heap.size:=λb' a=>(o3.block b' a).2
  have U:v.ownBlock≠some wd:=λe=>by
   obtain ⟨-,cur,E⟩:=QC o3 e;exact absurd (Q7 E b3) (by decide)
  have A:v.ownBlock≠some w.heap.size:=λe=>by have:=(HO.o.block _ e).2;omega
  have G:Q0 w3 w.heap.size 43 #[x,y,z]:=u.blk (λe=>by have:=(VZ t T).lt Y.o _ e;omega) ao.o
  have w0:=λf d os=>(b3.sp (QR U) f d os).cell 1
  have c0:=λf d os=>(G.sp (QR A) f d os).cell 0
  have c1:=λf d os=>(G.sp (QR A) f d os).cell 1
  have c2:=λf d os=>(G.sp (QR A) f d os).cell 2
  have ah:=pp af;have ak:=pp U;have an:=pp m3;clear t3 m3 u b3 o3 af U A G;go_upto_region 4 with fail
  refine VI [0,0,0,0,0,0,0,0,2,2,1,1,3] 9 (v.ownBlock) (jY w3.heap.size v xs (x,y,z,b)) (by kernel_rfl) (by kernel_rfl) (jZ ah.o) ?_
  repeat (first|(refine Qi ?_)|(refine Qf (λK J=>?_);go_simp;refine J _ ?_;clear J K)|(refine Vo (λK J=>?_);go_simp;refine J _ ?_;clear J K))
  refine Q8 ?_;refine Q2 ?_;refine Q2 ?_;refine Q2 ?_;refine Q2 ?_;refine Q2 ?_;refine Q2 ?_;refine Q2 ?_;refine Q2 ?_;refine Qv ?lsA (λv_=>?_)
  case lsA=>(intro w_ c Q;(first|(dsimp only at D;obtain ⟨v9,N,m,Z,aa⟩:=Lq (F.o.on (Y9 c Q)) (D.2 (by kernel_rfl)) (by have:=HL.o;omega) (Qb c).size;exact Xe _ _ _ _ rfl _ _ rfl rfl v9 N m Z aa)|(go_simp;exact ⟨Kept.of_below ((pI _ _).alloc (pA _) _),_,rfl,(Qb c).size,Q0.new' rfl⟩)))
  refine Xz ?lsA (λv_=>?_)
  case lsA=>(intro w_ c Q D;(first|(dsimp only at D;obtain ⟨v9,N,m,Z,aa⟩:=Lq (F.o.on (Y9 c Q)) (D.2 (by kernel_rfl)) (by have:=HL.o;omega) (Qb c).size;exact Xe _ _ _ _ rfl _ _ rfl rfl v9 N m Z aa)|(go_simp;exact ⟨Kept.of_below ((pI _ _).alloc (pA _) _),_,rfl,(Qb c).size,Q0.new' rfl⟩)))
  refine Q2 ?_;refine Q2 ?_;refine Q2 ?_;refine XX ?_;simp only [Qd];rintro W5 k5 ⟨-,B,m⟩;obtain ⟨q9,c9,rfl,-⟩:=B.form Fv;have j:=k5.blk (QR ak.o) P.o;have f1:=j.frz 1;have V:Q6 (Bb wd t T2 (k+1)) w M (W5.setCell ⟨wd,1,none⟩ (.slice q9 (xs++[(x,y,z,b)]).length c9)):=by
   have X:Kept (λb=>b≠wd) W5 (W5.setCell ⟨wd,1,none⟩ (.slice q9 (xs++[(x,y,z,b)]).length c9)):=(Kept.refl _ _).setCell (by simp) _
   have g2:=G2.o;have u:=aj.o;have sz:w3.heap.size<=W5.heap.size:=k5.size;have hwt:=P.o.lt;refine ⟨λb'=>b'=wd∨(Value.slice q9 (xs++[(x,y,z,b)]).length c9).ownBlock=some b'∨q b',⟨_,xs++[(x,y,z,b)],q,j.set_ 1 _,B.keep X λb' a e=>?_,by rw [List.length_append,List.length_singleton];have:=HL.o.1;omega,?_,λ_=>Iff.rfl⟩,λb' a=>?_,?_⟩
   ·obtain ⟨-,cur,E⟩:=QC B a;subst e;exact absurd (Q7 E j) (by decide)
   ·refine (VZ t T2).kept ((VZ t T2).kept ab.o k5 (λb' a L=>?_) λb' cs a L=>?_) X (λb' a e=>?_) λb' cs a e=>?_
    ·rw [Option.mem_toList] at L;obtain ⟨-,cur,E⟩:=QC F.o L;exact CD ab.o E CF a
    ·rw [Option.mem_toList] at L;obtain ⟨-,cur,E⟩:=QC F.o L;exact absurd (Q7 a E) (by decide)
    ·subst e;exact CD ab.o P.o DZ a
    ·subst e;exact absurd (Q7 a j) (by decide)
   ·rcases a with a|a|a
    ·exact .inl ((s.o _).2 (.inl a))
    ·rcases m _ a with h|h
     ·exact .inl ((s.o _).2 (.inr (.inl h)))
     ·exact .inr (pB g2.size (pB u.size h))
    ·exact (an.o _ a).imp (λh=>(s.o _).2 (.inr (.inr h))) λh=>pB g2.size h
   ·refine ((Kept.of_below g2).mono (K':=λb=>¬M b) λ_ _=>trivial).trans ((u.mono λb' a p=>a ((s.o _).2 (.inr (.inr p)))).trans ((k5.mono λb' a L=>?_).trans (X.mono λb' a e=>a ((s.o _).2 (.inl e)))))
    rw [Option.mem_toList] at L;exact a ((s.o _).2 (.inr (.inl L)))
  rw [show (xs++[(x,y,z,b)]).length=xs.length+1 by simp] at V
  have e1:=j.cell 1;have ap:=pp V;clear V B m k5 j w0 c0 c1 c2;go_wp2_with fail;go_returns;exact ⟨rfl,ap.o⟩
abbrev E1 (p:Int×Int):List Value:=[int i64 p.1,int i64 p.2]
theorem oE (p:Int×Int):(E1 p).length=2:=rfl
theorem kb:(prog.info? 123).map (λi=>(i.zero,i.size,i.bytes))=some (some (.agg #[int i64 0,int i64 0]),2,16):=by kernel_rfl
def F4 (p:Nat×TI):Int×Int:=(p.2.x,p.2.z)
def TS.here (T:TS):List (Int×Int):=T.l.map λi=>(i.x,i.z)
def cP (w wr:World)(xs:List (Int×Int))(v:Value):Prop:=Q5 wr w.heap.size 123 2 E1 v xs/\Below w.heap.size w wr
def mF (w:World)(xs:List (Int×Int))(r:Ending)(w':World):Prop:=∃v,r=.returned v/\Q5 w' w.heap.size 123 2 E1 v xs/\Below w.heap.size w w'
theorem al {v:Value}{xs:List (Int×Int)}{p:Int×Int}(h:Q5 W B 123 2 E1 v xs)(e:Q0 W b 123 #[int i64 p.1,int i64 p.2])(hl:xs.length<=1000000)(g:B<=W.heap.size):
  ∃q c w',(Builtin.append_ #[166,166] 166 #[v,.slice (some ⟨b,0,none⟩) 1 1]).run prog W=.ok (.slice q (xs.length+1) c) w'/\Q5 w' B 123 2 E1 (.slice q (xs.length+1) c) (xs++[p])/\Below B W w':=by
 obtain ⟨v',w',hrun,f,-,d,g2,c2,rfl⟩:=V0 (P:=prog) (ts:=166) (ty:=166) (x:=p) (b:=b) underlying166 kb rfl (by decide) (by decide) rfl (by intro u a;simp [E1] at a;rcases a with rfl|rfl<;>rfl) h (λj u a=>by rw [e.cell j];simpa [E1] using a) (by omega) g
 exact ⟨_,_,w',hrun,f,d⟩
theorem fk (t:Nat)(T:TS)(w:World)(M:Nat->Prop)(h:Yz t T w M)(hn:T.l.length<=1000):
  Calls prog 104 #[t] w λr w'=>mF w T.here r w':=by
 obtain ⟨s,d,v,L,Ms,Mi,h,-⟩:=h;have I:L.length=T.l.length:=by rw [<-h.l,List.length_map]
 obtain ⟨q,cap,V,S,D,y,-⟩:=h.row.form BZ;have P:=h.blk;rw [V,show (L.map (·.1)).length=L.length by simp] at P
 have t3:=P.cell 3;have b:∀k p,L[k]?=some p->∀W,pM w W->∃g o,∃c:Nat,∃F,q=some ⟨g,o,none⟩/\W.cell? ⟨g,o+k,none⟩=some (.pointer (some ⟨p.1,0,none⟩))/\Q0 W p.1 142 #[c,.bool p.2.dirty,int i64 p.2.pins]/\Q0 W c 186 #[int i64 p.2.x,int i64 p.2.z,F]:=λk p G W U=>by
  have hkl:=(List.getElem?_eq_some_iff.1 G).1;obtain ⟨g,o,hq,h1⟩:=y.on U (by simp;omega)
  obtain ⟨M',⟨c,Mc,a,⟨F,R,Y,-⟩,-⟩,-⟩:=UA (h.on U).its (pG G);refine ⟨g,o,c,F,hq,?_,a,Y⟩;have:=h1 k p.1 (by rw [List.getElem?_map,G];rfl) 0 _ rfl
  simpa using this
 have j:=pp b;have B:T.here=L.map F4:=by unfold TS.here;rw [<-h.l,List.map_map];rfl
 rw [B];have hLn:L.length<=1000:=by omega
 have HC2:=pp D;clear h I V S D y P b B hn;go_enter func104,ntmps104;go_upto_region 3 with fail
 go_loopw [3,5,11] (λv x i wr=>∃(k:Nat),k<=L.length/\i=.int .i64 k/\Hid (cP w wr ((L.map F4).take k) v)) (λ_ _ i _=>L.length - (intOf i).toNat)
 case atStart=>exact ⟨0,pC _,rfl,⟨Q5.nil,pI _ _⟩⟩
 case round=>
  obtain ⟨k,G,rfl,a⟩:=hrel;by_cases A:k<L.length
  ·obtain ⟨p,N⟩:∃p,L[k]?=some p:=⟨_,pH A⟩;obtain ⟨g,o,c,F,rfl,r0,u,e⟩:=j.o k p N wr a.out.2;have i0:=u.cell 0;have c0:=e.cell 0;have c1:=e.cell 1;have O:=pp λW=>GB p.2.x p.2.z W
   have hk0:(0:Int)<=k:=by omega
   have J:(k:Int)<(L.length:Int):=by omega
   have hw:IntKind.i64.wrap ((k:Int)+1)=(k:Int)+1:=pJ _ (by omega)
   have C:(L.map F4).take (k+1)=(L.map F4).take k++[(p.2.x,p.2.z)]:=by
    rw [List.take_add_one,List.getElem?_map,N];rfl
   have m:((L.map F4).take k).length=k:=by simp;omega
   have Q:=pp C;have f:=pp m;clear C m u e N;go_upto_region 5 with fail
   go_upto_region 6 with first
    | (go_at_call 120;refine (O.o _).mono ?_;rintro e_ X ⟨rfl,n⟩;replace n:=pp n)
    | (at_builtin;obtain ⟨q2,c2,w2,hrun,H,E⟩:=al (W:=X.alloc (.cells #[int i64 p.2.x,int i64 p.2.z] 123)) (p:=(p.2.x,p.2.z)) ((a.out.1.on n.o).on (Q3 _ _)) (Q0.new' rfl) (by rw [f.o];omega) (pB a.out.2.size (pB n.o.size (Q3 _ _).size));rw [f.o] at hrun H;have K:=pp (py H (BE (after a.out.2 n.o) (pA _) (Q3 _ _) |>.trans (E.mono (by simp))));clear H E;refine Lib.wpList_append_run _ rfl _ _ _ _ rfl _ _ rfl rfl _ _ hrun ?_)
   have Z:Hid (cP w w2 ((L.map F4).take (k+1)) (.slice q2 (k+1) c2)):=pp (by rw [Q.o];exact K.o)
   go_wp2_with fail;exact ⟨⟨k+1,A,by go_num,Z⟩,by simp [intOf];omega⟩
  ·obtain rfl:k=L.length:=by omega
   have J:¬((L.length:Int)<(L.length:Int)):=by omega
   have ht:(L.map F4).take L.length=L.map F4:=List.take_of_length_le (by simp)
   rw [ht] at a;clear ht;go_wp2_with fail;go_returns;exact ⟨_,rfl,a.out.1,a.out.2⟩
end
section
open Go.RowKit Go.Shelf
attribute [local go_sem] Oper.semAt_some
theorem ke (q:Option Addr)(cp:Nat)(xs:List (Int×Int))(J:xs.length<=1000000)(p:Int×Int)(w:World)(E:Rd w q 2 E1 xs):
  Calls prog 299 #[.slice q xs.length cp,.agg #[int i64 p.1,int i64 p.2]] w λr w'=>∃k:Int,r=.returned (int i64 k)/\Aq (λj=>((xs[j]?).map λx=>Zy p.1 p.2 x.1 x.2).getD false) xs.length k/\Below w.heap.size w w':=by
 obtain ⟨W,l⟩:=pt (w.alloc (.cells #[int i64 p.1,int i64 p.2] 123));have H:pM w W:=by rw [l];exact Q3 _ _
 have X:Q0 W w.heap.size 123 #[int i64 p.1,int i64 p.2]:=Q0.fresh l;have F:=pp (show xs.length<=maxLen by unfold maxLen;omega)
 have pe:=Lm;have pg:=F3;have t:=pp (E.on H);have D:=pp H;have L:=pp X;clear J E H X;go_enter func299,ntmps299;go_upto_region 2 with fail
 rw [<-l];clear l;go_loopw [5,8] (λ_ K wr=>∃(i:Nat),K=.int .i64 (i:Nat)/\Hid (i<=xs.length)/\Hid (∀j,j<i->((xs[j]?).map λx=>Zy p.1 p.2 x.1 x.2).getD false=false)/\Hid (pM W wr)) (λ_ v _=>xs.length - (intOf v).toNat)
 case atStart=>exact ⟨0,rfl,pC _,pp (λj s=>by omega),pI _ _⟩
 case round=>
  obtain ⟨i,rfl,I,b,H⟩:=hrel;by_cases a:i<xs.length
  ·obtain ⟨x,m⟩:∃x,xs[i]?=some x:=⟨_,pH a⟩;have e:(i:Int)<(xs.length:Int):=by omega
   obtain ⟨g,o,rfl,n⟩:=(t.o.on H.out) (by omega)
   have z:wr.cell? ⟨g,o+i * 2,none⟩=some (int i64 x.1):=n i x m 0 _ rfl;have A:wr.cell? ⟨g,o+i * 2+1,none⟩=some (int i64 x.2):=n i x m 1 _ rfl;have y:=λd os=>cell_regrown z d os
   have C:=λd os=>cell_regrown A d os
   obtain ⟨B,y1⟩:=(L.o.on H.out).rep;obtain ⟨n2,n3,n5,n6⟩:=Uf a F.o;have f:=pp m;clear m n z A;cases hp:Zy p.1 p.2 x.1 x.2
   ·have u:=pp (show ((xs[i]?).map λx=>Zy p.1 p.2 x.1 x.2).getD false=false by rw [f.o];exact hp)
    go_upto_region 4 with fail
    refine wp_region_quiet_below (by kernel_rfl) (by kernel_rfl) ?_
    repeat (go_big_quiet_step (fail))
    refine wpQuiet_nil ?_;intro w' c;obtain ⟨G,rfl⟩:=c;clear y C B y1;go_wp2_with fail;exact ⟨⟨i+1,by go_num,a,pp (λj s=>by
     rcases Nat.lt_or_eq_of_le (Nat.le_of_lt_succ s) with h|rfl
     ·exact b.out j h
     ·exact u.o),pp (after H.out (pK _ _ _))⟩,by simp [intOf];omega⟩
   ·have u:=pp (show ((xs[i]?).map λx=>Zy p.1 p.2 x.1 x.2).getD false=true by rw [f.o];exact hp)
    go_upto_region 4 with fail
    refine wp_region_quiet_below (by kernel_rfl) (by kernel_rfl) ?_
    repeat (go_big_quiet_step (fail))
    refine wpQuiet_nil ?_;intro w' c;obtain ⟨G,rfl⟩:=c;clear y C B y1;go_wp2_with fail;go_returns;exact ⟨(i:Int),rfl,.inr ⟨i,a,rfl,u.o,b.out⟩,after D.o (after H.out (pK _ _ _))⟩
  ·have hi2:i=xs.length:=by have:=I.out;omega
   have e:¬(i:Int)<(xs.length:Int):=by omega
   go_wp2_with fail;go_returns;exact ⟨-1,rfl,.inl ⟨rfl,λj s=>b.out j (by omega)⟩,after D.o H.out⟩
theorem Sn {xs:List (Int×Int)}{p:Int×Int}{k:Int}(h:Aq (λj=>((xs[j]?).map λx=>Zy p.1 p.2 x.1 x.2).getD false) xs.length k):decide (0<=k)=decide (p∈xs):=by
 rcases h with ⟨rfl,h⟩|⟨m,f,rfl,a,-⟩
 ·rw [decide_eq_false (by omega),decide_eq_false]
  intro e;obtain ⟨j,b⟩:=List.getElem?_of_mem e;have:=h j (List.getElem?_eq_some_iff.1 b).1;dsimp only at this;rw [b] at this;simp [Zy] at this
 ·rw [decide_eq_true (by omega),decide_eq_true]
  obtain ⟨x,d⟩:∃x,xs[m]?=some x:=⟨_,pH f⟩;dsimp only at a;rw [d] at a;have c:=DX.1 a;rw [show p=x from Prod.ext c.1 c.2];exact pG d
theorem fl (q:Option Addr)(cp:Nat)(xs:List (Int×Int))(e:xs.length<=1000000)(p:Int×Int)(w:World)(f:Rd w q 2 E1 xs):
  Calls prog 236 #[.slice q xs.length cp,.agg #[int i64 p.1,int i64 p.2]] w λr w'=>r=.returned (.bool (decide (p∈xs)))/\Below w.heap.size w w':=by
 obtain ⟨W,a⟩:=pt (w.alloc (.cells #[int i64 p.1,int i64 p.2] 123));have H:pM w W:=by rw [a];exact Q3 _ _
 have X:Q0 W w.heap.size 123 #[int i64 p.1,int i64 p.2]:=Q0.fresh a;have j:=pp (ke q cp xs e p W (f.on H));have h:=pp H;obtain ⟨x0,x1,-,-⟩:=X.pair;clear e f H X;go_enter func236,ntmps236;go_upto_region 1 with fail
 rw [<-a];clear a;go_wp2_with (go_at_call 299;refine j.o.mono ?_;rintro e_ w1 ⟨k,rfl,c,d⟩;have g:=pp c;have i:=pp d;clear c d);go_returns;exact ⟨congrArg (λb=>Ending.returned (.bool b)) (Sn g.o),after h.o i.o⟩
def YK (a b:Int):List (Int×Int):=[(a,b),(a - 1,b),(a+1,b),(a,b - 1),(a,b+1)]
def TS.ready (T:TS)(x z:Int):Bool:=(YK (x / 16) (z / 16)).all λp=>decide (p∈T.here)
theorem am {a b:Int}{k:Nat}(c:k<5):∃p,(YK a b)[k]?=some p:=⟨_,pH c⟩
theorem ap {l:List (Int×Int)}{q:Int×Int->Bool}{k:Nat}{p:Int×Int}(h:l[k]?=some p)(a:q p=false):l.all q=false:=by
 rw [List.all_eq_false];exact ⟨p,pG h,by rw [a];decide⟩
theorem kf {l:List (Int×Int)}{q:Int×Int->Bool}(h:∀(j:Nat) (p:Int×Int),l[j]?=some p->q p=true):l.all q=true:=by
 rw [List.all_eq_true];intro x b;obtain ⟨j,a⟩:=List.getElem?_of_mem b;exact h j x a
theorem mG (a0 a c a3 a4 a5 e d b a9:Value)(w:World):(Instr.index 297 (.agg #[a0,a,c,a3,a4,a5,e,d,b,a9]) (int i64 0)).run prog w=.ok (.agg #[a0,a]) w:=by kernel_rfl
theorem mH (a0 c a a3 a4 a5 e d b a9:Value)(w:World):(Instr.index 297 (.agg #[a0,c,a,a3,a4,a5,e,d,b,a9]) (int i64 1)).run prog w=.ok (.agg #[a,a3]) w:=by kernel_rfl
theorem mI (a0 b c a3 a4 a5 e d a a9:Value)(w:World):(Instr.index 297 (.agg #[a0,b,c,a3,a4,a5,e,d,a,a9]) (int i64 2)).run prog w=.ok (.agg #[a4,a5]) w:=by kernel_rfl
theorem mJ (a0 d e a3 a4 a5 b a c a9:Value)(w:World):(Instr.index 297 (.agg #[a0,d,e,a3,a4,a5,b,a,c,a9]) (int i64 3)).run prog w=.ok (.agg #[b,a]) w:=by kernel_rfl
theorem mK (a0 b c a3 a4 a5 e d a a9:Value)(w:World):(Instr.index 297 (.agg #[a0,b,c,a3,a4,a5,e,d,a,a9]) (int i64 4)).run prog w=.ok (.agg #[a,a9]) w:=by kernel_rfl
theorem E2 (wd t k:Nat)(T:TS)(x y z:Int)(w:World)(M:Nat->Prop)(h:Bb wd t T k w M)(hx: -1000000000000000<=x/\x<=1000000000000000)(hz: -1000000000000000<=z/\z<=1000000000000000)(P:T.l.length<=1000):
  Calls prog 181 #[wd,.agg #[x,y,z]] w λr w'=>r=.returned (.bool (T.ready x z))/\Below w.heap.size w w':=by
 obtain ⟨v,xs,Mt,Z,-,-,R,-⟩:=h;obtain ⟨W,G⟩:=pt (w.alloc (.cells #[x,y,z] 43));have H:pM w W:=by rw [G];exact (pI _ _).alloc (pA _) _
 have C:Q0 W w.heap.size 43 #[x,y,z]:=Q0.fresh G;have L:=pp (fk t T W Mt ((VZ t T).on R H) P);have D:=pp λN=>DC x y z (by unfold Qg;omega) (by unfold Qg;omega) N
 have u:=pp λN=>RH (x / 16) (z / 16) (by omega) (by omega) N
 have hlen:T.here.length<=1000:=by unfold TS.here;rw [List.length_map];exact P
 have HC:=pp C;have HH:=pp H;have w0:=(Z.on H).cell 0;unfold TS.ready;generalize x / 16=a at *;generalize z / 16=b at *;generalize T.here=xh at *;clear Z R H C hx hz P;go_enter func181,ntmps181;go_upto_region 1 with fail
 rw [<-G];clear G;go_upto_region 2 with (go_at_call 104;refine L.o.mono ?_;rintro I w1 ⟨v1,rfl,o1,g1⟩;have O1:=pp o1;have V:=pp g1;clear o1 g1)
 clear w0;obtain ⟨c0,c1,c2,-,-,-⟩:=(HC.o.on V.o).c3;go_upto_region 3 with first
  | (go_at_call 108;refine (D.o _).mono ?_;rintro I w2 ⟨rfl,g2⟩;have O2:=pp (O1.o.on g2);have G2:=pp (after V.o g2);clear g2)
  | (go_at_call 235;refine (u.o _).mono ?_;rintro I Y ⟨rfl,Q⟩;have S:=pp (after G2.o Q);have X:=pp (O2.o.on Q);clear Q)
 unfold IH;obtain ⟨q,cp,rfl,-,-,A,-⟩:=X.o.form oE;have O:=pp A;clear A c0 c1 c2 D u O1 O2 X;go_loopw [7,16] (λ_ iv wr=>∃(k:Nat),iv=.int .i64 (k:Nat)/\Hid (k<=5)/\Hid (∀(j:Nat) (p:Int×Int),j<k->(YK a b)[j]?=some p->decide (p∈xh)=true)/\Hid (pM Y wr)) (λ_ v _=>5 - (intOf v).toNat)
 case atStart=>exact ⟨0,rfl,pp (by omega),pp (λj p U=>by omega),pp (pI _ _)⟩
 case round=>
  obtain ⟨k,rfl,hk,m,H⟩:=hrel;by_cases B:k<5
  ·have hlt':(k:Int)<5:=by omega
   obtain ⟨p,F⟩:=am (a:=a) (b:=b) B;have J:=pp F;have d:k=0∨k=1∨k=2∨k=3∨k=4:=by omega
   have f:=pp λ(W1:World) (h:pM Y W1)=>fl q cp xh (by omega) p W1 (O.o.on h)
   have HK:=pp B;clear F;have i0:=mG;have i1:=mH;have i2:=mI;have i3:=mJ;have i4:=mK;cases hd:decide (p∈xh)
   ·rw [hd] at f;have HD:=pp hd;clear hd;rcases d with rfl|rfl|rfl|rfl|rfl<;>(
     obtain rfl:=pE J.o;go_upto_region 5 with fail
     generalize c:World.alloc wr _=W5;have E:pM wr W5:=by rw [<-c];exact Q3 _ _
     have x0:=(Q0.fresh c.symm).cell 0;have x1:=(Q0.fresh c.symm).cell 1;have i:=pp (f.o W5 (after H.out E));clear c;go_wp2_with (go_at_call 236;refine i.o.mono ?_;rintro I w4 ⟨rfl,s⟩;have n:=pp (after (after H.out E) s);clear s);go_returns;exact ⟨congrArg (λb=>Ending.returned (.bool b)) (ap J.o HD.o).symm,after (after HH.o S.o) n.o⟩
     )
   ·rw [hd] at f;have g:∀(j:Nat) (p:Int×Int),j<k+1->(YK a b)[j]?=some p->decide (p∈xh)=true:=λj p' U hp'=>by
     rcases Nat.lt_or_eq_of_le (Nat.le_of_lt_succ U) with h|rfl
     ·exact m.out j p' h hp'
     ·rw [J.o] at hp';obtain rfl:=pE hp';exact hd
    have e:=pp g;clear hd g m;rcases d with rfl|rfl|rfl|rfl|rfl<;>(
     obtain rfl:=pE J.o;go_upto_region 5 with fail
     generalize c:World.alloc wr _=W5;have E:pM wr W5:=by rw [<-c];exact Q3 _ _
     have x0:=(Q0.fresh c.symm).cell 0;have x1:=(Q0.fresh c.symm).cell 1;have i:=pp (f.o W5 (after H.out E));clear c;go_wp2_with (go_at_call 236;refine i.o.mono ?_;rintro I w4 ⟨rfl,s⟩;have n:=pp (after (after H.out E) s);clear s)
     first
      | exact ⟨⟨1,by go_num,pp (by omega),pp e.o,n⟩,by simp [intOf]⟩
      | exact ⟨⟨2,by go_num,pp (by omega),pp e.o,n⟩,by simp [intOf]⟩
      | exact ⟨⟨3,by go_num,pp (by omega),pp e.o,n⟩,by simp [intOf]⟩
      | exact ⟨⟨4,by go_num,pp (by omega),pp e.o,n⟩,by simp [intOf]⟩
      | exact ⟨⟨5,by go_num,pp (by omega),pp e.o,n⟩,by simp [intOf]⟩
     )
  ·have K:k=5:=by have:=hk.out;omega
   subst K;go_wp2_with fail;go_returns;exact ⟨congrArg (λb=>Ending.returned (.bool b)) (kf λj p F=>m.out j p (show j<(YK a b).length from (List.getElem?_eq_some_iff.1 F).1) F).symm,after (after HH.o S.o) H.out⟩
theorem kg (R:Int)(w:World):
  Calls prog 161 #[R] w λr w'=>∃s d Ms,r=.returned (.pointer (some ⟨s,0,none⟩))/\StoreIs w' 0 Ms s d (U9 R)/\(∀b,Ms b->w.heap.size<=b)/\w.heap.size<=s/\Below w.heap.size w w':=by
 have h:=pp (mc R 0 w (pC _));go_enter func161,ntmps161;go_wp2_with (go_at_call 209;refine h.o.mono ?_;rintro e_ c ⟨d,M,rfl,g,j,f⟩);go_returns;obtain ⟨i,a⟩:=pt (c.alloc (.cells #[d] 151));rw [<-a];have C:=Q0.fresh a;have e:pM c i:=by rw [a];exact Q3 _ _
 exact ⟨_,d,M,rfl,⟨C,g.on e,pC _⟩,j,f.size,after f e⟩
def Ph (n:Int):Int:=Xj (Xv n 1) 16
def AU (seed lim R:Int):TS:=⟨seed,Ph lim,[],U9 R⟩
def mL (seed lim R:Int)(w:World)(r:Ending)(w':World):Prop:=∃t M,r=.returned (.pointer (some ⟨t,0,none⟩))/\Yz t (AU seed lim R) w' M/\(∀b,M b->w.heap.size<=b)/\Below w.heap.size w w'
theorem kh (seed a R:Int)(w:World):Calls prog 113 #[int i64 seed,int i64 a,R] w λr w'=>mL seed a R w r w':=by
 have k:=pp (kg R w);have hmn:=@YY prog;have hmx:=@ZC prog;go_enter func113,ntmps113;go_wp2_with (go_at_call 161;refine k.o.mono ?_;rintro e_ f ⟨s,d,Ms,rfl,j,m,n,i⟩);go_returns;obtain ⟨l,e⟩:=pt (f.alloc (.cells #[s,int i64 seed,int i64 (Ph a),.slice none 0 0] 135));have C:=Q0.fresh e;have g:pM f l:=by rw [e];exact Q3 _ _
 unfold Ph at e;rw [<-e];refine ⟨_,Es f.heap.size s (.slice none 0 0) Ms (λ_=>False),rfl,⟨s,d,_,[],Ms,λ_=>False,⟨C,j.on g,Q5.nil,λ_ h=>h,rfl⟩,λ_=>Iff.rfl⟩,λb c=>?_,after i g⟩
 rcases c with rfl|rfl|c|c|c
 ·exact i.size
 ·exact n
 ·exact m _ c
 ·cases c
 ·cases c
def mM (seed lim R:Int)(w:World)(r:Ending)(w':World):Prop:=∃wd t M,r=.returned (.pointer (some ⟨wd,0,none⟩))/\Bb wd t (AU seed lim R) 0 w' M/\(∀b,M b->w.heap.size<=b)/\Below w.heap.size w w'
theorem So (seed a R:Int)(w:World):Calls prog 72 #[seed,a,R] w λr w'=>mM seed a R w r w':=by
 have j:=pp (kh seed a R w);go_enter func72,ntmps72;go_wp2_with (go_at_call 113;refine j.o.mono ?_;rintro e_ d ⟨t,h,rfl,i,l,g⟩);go_returns;obtain ⟨k,e⟩:=pt (d.alloc (.cells #[t,.slice none 0 0] 114));have C:=Q0.fresh e;have f:Below d.heap.size d k:=by rw [e];exact Q3 _ _
 rw [<-e];refine ⟨_,t,λb=>b=d.heap.size∨Value.ownBlock (.slice none 0 0)=some b∨h b,rfl,⟨.slice none 0 0,[],h,C,Q5.nil,pC _,(VZ t _).on i f,λ_=>Iff.rfl⟩,λb c=>?_,after g f⟩
 rcases c with rfl|c|c
 ·exact g.size
 ·cases c
 ·exact l _ c
end
section
open Go.RowKit Go.Maps
attribute [local go_sem] Oper.semAt_some
theorem mN:(match prog.underlying 43 with|some (.array _ _)|some (.struct _)=>true|_=>false)=true:=by rw [underlying43]
theorem ki:(43:TypeId)<prog.types.size:=of_decide_eq_true (by kernel_rfl)
theorem F5:Keyed prog 43:=Keyed.of_law (deep_law_laid Ng (m:=2) (by omega) ki (by kernel_rfl) mN)
def kc (c:Cl):Lit:=.string (keyBytes [.int .i64 c.1,.int .i64 c.2.1,.int .i64 c.2.2])
abbrev XF (c:Cl):Value:=.agg #[int i64 c.1,int i64 c.2.1,int i64 c.2.2]
def UC (c:Cl):Prop:=Qg c.1/\Qg c.2.1/\Qg c.2.2
theorem kt:prog.keyType 43=true:=by kernel_rfl
theorem oZ (a b c:Value):(Value.agg #[a,b,c]).formed prog 43=true:=by
 have e:prog.cellsOf 43=3:=by kernel_rfl
 simp [Value.formed,underlying43,e]
theorem mO (n:Nat){a b c:Int}(g:Qg a)(h:Qg b)(i:Qg c):prog.keyLits (n+2) 43 [.int .i64 a,.int .i64 b,.int .i64 c]=some [.int .i64 a,.int .i64 b,.int .i64 c]:=by
 have e:prog.cellsOf 43=3:=by kernel_rfl
 have f:prog.cellsOf 3=1:=by kernel_rfl
 have d:∀x:Int,Qg x->prog.keyLits (n+1) 3 [.int .i64 x]=some [.int .i64 x]:=λx j=>by
  unfold Program.keyLits;rw [underlying3];dsimp only;rw [if_pos ⟨rfl,TY j⟩]
 unfold Program.keyLits;rw [underlying43];simp [e,f,d _ g,d _ h,d _ i]
theorem aq:∀{m n:Nat},m<n->∃k,n=k+1
 | _,0,h=>absurd h (Nat.not_lt_zero _)
 | _,k+1,_=>⟨k,rfl⟩
theorem mP:∃n,prog.types.size=n+1:=aq ki
theorem IV {c:Cl}(h:UC c):keyOf prog 43 (XF c)=some (kc c):=by
 unfold keyOf;rw [underlying43];dsimp only;rw [kt,oZ];obtain ⟨n,a⟩:=mP;rw [a];have:=mO n h.1 h.2.1 h.2.2;simp only [Bool.and_self,if_true];rw [show (XF c).cells.toList=[.int .i64 c.1,.int .i64 c.2.1,.int .i64 c.2.2] from rfl,this];rfl
theorem Ib {c d:Cl}(h:UC c)(g:UC d)(e:kc c=kc d):c=d:=by
 have j:=IV h;have f:=IV g;rw [<-e] at f;have:=F5.inj j f;simp only [XF,Value.agg.injEq] at this;obtain ⟨a,b,cc⟩:=c;obtain ⟨a',b',cc'⟩:=d;simp at this;obtain ⟨l,i,k⟩:=this;subst l i k;rfl
abbrev QI:=Int×Cl
abbrev Qt (x:QI):List Value:=[int i64 x.1,int i64 x.2.1,int i64 x.2.2.1,int i64 x.2.2.2]
theorem Xq (x:QI):(Qt x).length=4:=rfl
structure QS where
 room:Int
 lost:Int
 l:List QI
def Bc (l:List QI)(c:Cl):Int:=match l.find? λp=>decide (p.2=c) with
 | some p=>p.1
 | none=>0
def XM (l:List QI)(c:Cl):Bool:=l.any λp=>decide (p.2=c)
abbrev DU:=DataW Unit
structure Tell (D:DU)(l:List QI):Prop where
 size:Maps.size D=l.length
 has:∀c,UC c->Maps.has D (kc c)=XM l c
 at_:∀c,UC c->D.atKey (kc c) (.lit (.int .i64 0))=.lit (.int .i64 (Bc l c))
 far:∀p∈l,UC p.2/\Qg p.1
theorem ar:Tell (.map []) []:=⟨rfl,λ_ _=>rfl,λ_ _=>rfl,λp a=>by cases a⟩
theorem Lr (c:Cl):WideAt.IsKeyLit (kc c):=trivial
theorem Tell.push {D:DU}{l:List QI}(h:Tell D l)(k:Tidy D){t:Int}{c:Cl}(i:UC c)(ht:Qg t)(g:XM l c=false):Tell (D.put (kc c) (.lit (.int .i64 t))) (l++[(t,c)]) where
 size:=by
  have:=h.has c i;rw [g] at this;rw [size_put k,this,h.size];simp
 has:=λd f=>by
  by_cases e:d=c
  ·subst e;rw [has_put_same k.isMap (Lr d)];simp [XM]
  ·rw [has_put_other (λa=>e (Ib f i a)),h.has d f]
   have:¬c=d:=λa=>e a.symm
   simp [XM,this]
 at_:=λd f=>by
  by_cases e:d=c
  ·subst e;rw [atKey_put_same k.isMap (Lr d)];have:l.find? (λp=>decide (p.2=d))=none:=by
    rw [List.find?_eq_none];intro x m j;unfold XM at g;rw [List.any_eq_false] at g;exact g x m j
   simp [Bc,List.find?_append,this]
  ·rw [atKey_put_other (λa=>e (Ib f i a)),h.at_ d f]
   have n:¬c=d:=λa=>e a.symm
   simp [Bc,List.find?_append,n]
 far:=λp b=>by
  rcases List.mem_append.1 b with b|b
  ·exact h.far p b
  ·obtain rfl:=List.mem_singleton.1 b;exact ⟨i,ht⟩
theorem Tell.pop {D:DU}{l:List QI}{t:Int}{c:Cl}(h:Tell D ((t,c)::l))(n:Tidy D)(i:XM l c=false):Tell (D.del (kc c)) l where
 size:=by
  have f:=size_del (k:=kc c) n;have g:=(h.far (t,c) List.mem_cons_self).1;rw [h.has c g,h.size] at f;simp [XM] at f;exact f
 has:=λd b=>by
  have g:=(h.far (t,c) List.mem_cons_self).1;by_cases e:d=c
  ·subst e;rw [has_del_same,i]
  ·rw [has_del_other (λa=>e (Ib b g a)),h.has d b]
   have:¬c=d:=λa=>e a.symm
   simp [XM,this]
 at_:=λd b=>by
  have g:=(h.far (t,c) List.mem_cons_self).1;by_cases e:d=c
  ·subst e;have:l.find? (λp=>decide (p.2=d))=none:=by
    rw [List.find?_eq_none];intro x o j;unfold XM at i;rw [List.any_eq_false] at i;exact i x o j
   rw [atKey_del_same];simp [Bc,this]
  ·rw [atKey_del_other (λa=>e (Ib b g a)),h.at_ d b]
   have f:¬c=d:=λa=>e a.symm
   simp [Bc,f]
 far:=λp m=>h.far p (List.mem_cons_of_mem _ m)
noncomputable abbrev RI:Value->Option (DU×List MemPlace):=plainElem prog 3
def QA (q:Nat)(Q:QS):QK:=λw M=>∃v m D,Q0 w q 175 #[int i64 Q.room,int i64 Q.lost,v,.map (some m)]/\Q5 w 0 92 4 Qt v Q.l/\w.ownsMap prog 43 RI m Q.l.length D/\Tell D Q.l/\∀b,M b↔b=q∨v.ownBlock=some b∨b=m
theorem XC {w w':World}{K:Nat->Prop}{n:Nat}{D:DU}(h:w.ownsMap prog 43 RI m n D)(d:Kept K w w')(c:K m):w'.ownsMap prog 43 RI m n D:=by
 have b:=h.lt;obtain ⟨e,a,f,F,g,i⟩:=h;exact ⟨e,a,(d.block m b c).trans f,F,g,i⟩
theorem VQ {w:World}{n:Nat}{D:DU}{ty:TypeId}(h:w.ownsMap prog 43 RI m n D):¬Q0 w m ty cs:=λa=>by
 obtain ⟨es,clock,b,-⟩:=h;unfold Q0 at a;rw [b] at a;cases a
theorem GD {w:World}{n:Nat}{D:DU}(h:w.ownsMap prog 43 RI m n D):w.ownsMap prog 43 RI m (Maps.size D) D:=by
 obtain ⟨c,a,d,F,hs,b⟩:=h;refine ⟨c,a,d,F,?_,b⟩;rw [b];simp [Maps.size,length_sorted]
def QT (ty:TypeId):Prop:=ty=175∨ty=92
section
variable {w w':World}{q:Nat}{Q:QS}{M K:Nat->Prop}
theorem QA.type (h:QA q Q w M)(c:M b):b<w.heap.size/\∀ty cs,Q0 w b ty cs->QT ty:=by
 obtain ⟨v,m,D,e,g,f,-,i⟩:=h;rcases (i b).1 c with rfl|c|rfl
 ·exact ⟨e.lt,λty cs a=>.inl (Q7 a e)⟩
 ·obtain ⟨-,cur,d⟩:=QC g c;exact ⟨d.lt,λty cs a=>.inr (Q7 a d)⟩
 ·exact ⟨f.lt,λty cs a=>absurd a (VQ f)⟩
theorem Zs (q:Nat)(Q:QS):QK.Fit 5 (QA q Q) where
 lt:=λh b a=>(h.type a).1
 nob:=λh b a cs j=>by
  rcases (h.type a).2 _ _ j with h|h<;>revert h<;>decide
 kept:=λ⟨v,m,D,i,f,k,g,c⟩ e d k2=>⟨v,m,D,e.blk (d _ ((c _).2 (.inl rfl))) i,f.keep e (λb a=>d b ((c b).2 (.inr (.inl a)))),XC k e (d _ ((c _).2 (.inr (.inr rfl)))),g,c⟩
end
def E3 (room:Int):QS:=⟨Xj (Xv room 1) 4096,0,[]⟩
def mQ (room:Int)(w:World)(r:Ending)(w':World):Prop:=∃q M,r=.returned (.pointer (some ⟨q,0,none⟩))/\QA q (E3 room) w' M/\(∀b,M b->w.heap.size<=b)/\Below w.heap.size w w'
theorem Sp (room:Int)(w:World):Calls prog 111 #[int i64 room] w λr w'=>mQ room w r w':=by
 have hmn:=@YY prog;have hmx:=@ZC prog;have hmm:=@run_makeMap prog;go_enter func111,ntmps111;go_wp2_with fail;go_returns;obtain ⟨d,a⟩:=pt (w.alloc (.map #[] 0));have i:d.ownsMap prog 43 RI w.heap.size 0 (.map []):=by rw [a];exact World.ownsMap_made _ _ _ _
 have e:d.heap.size=w.heap.size+1:=by rw [a];simp
 have j:Below w.heap.size w d:=by rw [a];exact Q3 _ _
 rw [<-a];obtain ⟨h,c⟩:=pt (d.alloc (.cells #[int i64 (Xj (Xv room 1) 4096),int i64 0,.slice none 0 0,.map (some w.heap.size)] 175));have g:Below d.heap.size d h:=by rw [c];exact Q3 _ _
 have C:=Q0.fresh c;rw [e] at C;rw [<-c];refine ⟨w.heap.size+1,λb=>b=w.heap.size+1∨Value.ownBlock (.slice none 0 0)=some b∨b=w.heap.size,rfl,⟨_,w.heap.size,.map [],C,Q5.nil,XC (K:=λ_=>True) i ((Kept.of_below g).mono λ_ _=>trivial) trivial,ar,λ_=>Iff.rfl⟩,λb f=>?_,after j g⟩
 rcases f with rfl|f|rfl
 ·exact Nat.le_succ _
 ·cases f
 ·exact pA _
theorem mR (w:World):(zeroValue 3).run prog w=.ok (int i64 0) w:=by kernel_rfl
theorem Sq {w:World}{n:Nat}{D:DU}{l:List QI}{c:Cl}(h:w.ownsMap prog 43 RI m n D)(e:Tell D l)(b:UC c):
  (Instr.lookup 173 (.map (some m)) (XF c) true).run prog w=.ok (.tuple #[.int .i64 (Bc l c),.bool (XM l c)]) w:=by
 obtain ⟨v,ps,hrun,d⟩:=h.look_ok F5 underlying173 (mR w) (zd:=.lit (.int .i64 0)) (zp:=[]) (plainElem_int underlying3 (by decide)) (IV b)
 rw [e.at_ c b] at d;obtain ⟨a,rfl,f,-⟩:=plainElem_int_inv underlying3 d;rw [hrun,e.has c b];simp at f;rw [f.1]
theorem mS (q:Nat)(Q:QS)(c:Cl)(i:UC c)(w:World)(M:Nat->Prop)(h:QA q Q w M):
  Calls prog 296 #[q,XF c] w λr w'=>r=.returned (.tuple #[int i64 (Bc Q.l c),.bool (XM Q.l c)])/\Below w.heap.size w w':=by
 obtain ⟨v,m,D,g,-,e,f,-⟩:=h;obtain ⟨W,a⟩:=pt (w.alloc (.cells #[int i64 c.1,int i64 c.2.1,int i64 c.2.2] 43));have H:pM w W:=by rw [a];exact Q3 _ _
 have C:Q0 W w.heap.size 43 #[int i64 c.1,int i64 c.2.1,int i64 c.2.2]:=Q0.fresh a;have hl:=λd os=>Sq (XC (K:=λ_=>True) (w':=Go.Sort.grow (redrawn W d) os) e ((Kept.of_below (after H (pK W d os))).mono λ_ _=>trivial) trivial) f i
 obtain ⟨c0,c1,c2⟩:=C.re3;have q3:=λd os=>((g.on H).re d os).cell 3
 have j:=pp H;clear g e f H C i;go_enter func296,ntmps296;go_upto_region 1 with fail
 rw [<-a];clear a;refine wp_region_quiet_below (by kernel_rfl) (by kernel_rfl) ?_
 repeat (go_big_quiet_step (fail))
 refine wpQuiet_nil ?_;intro w' b;obtain ⟨rg,rfl⟩:=b;go_wp2_with fail;go_returns;exact ⟨rfl,after j.o (pK _ _ _)⟩
theorem Ls:(prog.info? 92).map (λi=>(i.zero,i.size,i.bytes))=some (some (.agg #[int i64 0,int i64 0,int i64 0,int i64 0]),4,32):=by kernel_rfl
def IW (v:Value)(l:List QI)(w:World)(r:Ending)(w':World):Prop:=∃g c,r=.returned (.slice (some ⟨g,0,none⟩) l.length c)/\Q5 w' 0 92 4 Qt (.slice (some ⟨g,0,none⟩) l.length c) l/\Kept (λb=>v.ownBlock≠some b) w w'/\(v.ownBlock=some g∨w.heap.size<=g)
theorem kj (q:Option Addr)(cp:Nat)(l:List QI)(x:QI)(b:Nat)(w:World)(i:Q5 w 0 92 4 Qt (.slice q l.length cp) l)(B:Q0 w b 92 #[int i64 x.1,int i64 x.2.1,int i64 x.2.2.1,int i64 x.2.2.2])(D:l.length<=1000000):
  Calls prog 336 #[.slice q l.length cp,int i64 l.length,.slice (some ⟨b,0,none⟩) 1 1] w λr w'=>IW (.slice q l.length cp) (l++[x]) w r w':=by
 obtain ⟨g,c2,H,hrun,C,c,t⟩:=Yr (P:=prog) (w:=w) (base:=0) (e:=92) (size:=4) (enc:=Qt) (xs:=l) (ts:=88) (ty:=88) (bytes:=32) (b:=b) (x:=x) underlying88 Ls rfl (by decide) (by decide) rfl (by intro u y;simp [Qt] at y;rcases y with rfl|rfl|rfl|rfl<;>rfl) i (λj u y=>by rw [B.cell j];simpa [Qt] using y) (by omega) (pC _)
 obtain ⟨A,a,d,hcap,s,-,-,-⟩:=i.form Xq;have G:A=q/\a=cp:=by simp at d;exact ⟨d.1.symm,d.2.symm⟩
 obtain ⟨rfl,rfl⟩:=G;have z:=pp (py C (py (show Kept (λb=>Value.ownBlock (.slice A l.length a)≠some b) w H from ⟨c.os,c.tape,c.output,c.size,λk E F=>c.block k E (Ne.symm F)⟩) t))
 have HL:=pp D;unfold maxLen at s;have h0:(0:Int)<=(l.length:Int):=by omega
 have h1:(l.length:Int)<=(a:Int):=by omega
 clear d C c t B D;rcases A with _|⟨⟨g',o',t'⟩⟩
 ·obtain rfl:l=[]:=by
   rcases i.2 with ⟨m,h⟩|⟨g,cap,cur,m,-⟩
   ·exact List.eq_nil_of_length_eq_zero h
   ·cases m
  obtain rfl:a=0:=by
   rcases i.2 with ⟨m,h⟩|⟨g,cap,cur,m,-⟩
   ·cases m;rfl
   ·cases m
  clear i;go_enter func336,ntmps336;go_upto_region 7 with fail
  go_wp2_with (at_builtin;refine Lib.wpList_append_run _ rfl _ _ _ _ rfl _ _ rfl rfl _ _ hrun ?_);go_returns;obtain ⟨p,v,n⟩:=z.o;exact ⟨g,c2,by simp,p,v,n⟩
 ·clear i;have f:a=l.length∨l.length<a:=by omega
  rcases f with f|f
  ·subst f;go_enter func336,ntmps336;go_upto_region 7 with fail
   go_wp2_with (at_builtin;refine Lib.wpList_append_run _ rfl _ _ _ _ rfl _ _ rfl rfl _ _ hrun ?_);go_returns;obtain ⟨p,v,n⟩:=z.o;exact ⟨g,c2,by simp,by rw [List.length_append];exact p,v,n⟩
  ·have hq1:¬a=l.length:=by omega
   go_enter func336,ntmps336;go_upto_region 7 with fail
   go_wp2_with (at_builtin;refine Lib.wpList_append_run _ rfl _ _ _ _ rfl _ _ rfl rfl _ _ hrun ?_);go_returns;obtain ⟨p,v,n⟩:=z.o;exact ⟨g,c2,by simp,by rw [List.length_append];exact p,v,n⟩
abbrev XG (c:Cl):List Value:=[int i64 c.1,int i64 c.2.1,int i64 c.2.2]
theorem E4 (c:Cl):(XG c).length=3:=rfl
def Pi (q:Nat)(Q':QS)(out:List Cl)(w:World)(M:Nat->Prop)(r:Ending)(w':World):Prop:=∃v,r=.returned v/\Q5 w' w.heap.size 43 3 XG v out/\Q6 (QA q Q') w M w'
theorem NN (q:Option Addr)(n cp:Nat)(b:q=none->n=0/\cp=0)(hc:n<=cp)(w:World):Calls prog 273 #[.slice q n cp,int i64 0,int i64 0] w λr w'=>r=.returned (.slice q n cp)/\w=w':=by
 have h1:(n:Int)<=(cp:Int):=by omega
 have h2:(0:Int)<=(n:Int):=by omega
 rcases q with _|a
 ·obtain ⟨rfl,rfl⟩:=b rfl;go_enter func273,ntmps273;go_wp2_with fail;go_returns;exact ⟨rfl,rfl⟩
 ·clear b;go_enter func273,ntmps273;go_wp2_with fail;go_returns;exact ⟨rfl,rfl⟩
theorem au {q:Nat}{Q:QS}{w:World}{M:Nat->Prop}{a b v d:Value}(h:QA q Q w M)(n:Q0 w q 175 #[a,b,v,d]):∀w',w'=w.setCell ⟨q,2,none⟩ v->Pi q Q [] w M (.returned (.slice none 0 0)) w':=by
 rintro w' rfl;refine ⟨_,rfl,Q5.nil,?_⟩;have i:Kept (λb=>b≠q) w (w.setCell ⟨q,2,none⟩ v):=(Kept.refl _ _).setCell (by simp) _
 obtain ⟨v',m,D,c,j,l,o,k⟩:=h;have e:(#[a,b,v,d]:Array Value)=#[int i64 Q.room,int i64 Q.lost,v',.map (some m)]:=by
  unfold Q0 at n c;rw [n] at c;simpa using c
 simp at e;obtain ⟨rfl,rfl,rfl,rfl⟩:=e;have g:=c.set_ 2 v;refine ⟨M,⟨v,m,D,g,j.keep i λb f e=>?_,XC l i (λe=>VQ l (by rw [e];exact c)),o,k⟩,λb f=>.inl f,i.mono λb f e=>f ((k _).2 (.inl e))⟩
 obtain ⟨-,cur,p⟩:=QC j f;subst e;exact absurd (Q7 p c) (by decide)
theorem fm (q:Nat)(Q:QS)(now many:Int)(k:Q.l=[])(w:World)(M:Nat->Prop)(h:QA q Q w M):
  Calls prog 202 #[q,now,many] w λr w'=>Pi q Q [] w M r w':=by
 have t:=pp h;obtain ⟨v,m,D,d,c,-⟩:=h;rw [k] at c;obtain ⟨f,cp,rfl,j,-,-,-,-⟩:=c.form Xq;have b:f=none->([]:List QI).length=0/\cp=0:=λe=>by
  rcases c.2 with ⟨i,-⟩|⟨g,cap,cur,i,-⟩
  ·cases i;exact ⟨rfl,rfl⟩
  ·cases i;cases e
 have p:=pp λW=>NN f 0 cp b (pC _) W
 have b2:=d.cell 2;have f2:=d.frz 2;have n:=pp (au t.o d);have hcp:(0:Int)<=(cp:Int):=by omega
 clear d c b j k;rcases f with _|a
 ·go_enter func202,ntmps202;go_upto_region 2 with fail
  refine wp_loop_rounds 1 ?_;rw [rounds_succ];go_upto_region 6 with fail
  refine wp_loop_rounds 1 ?_;rw [rounds_succ];go_wp2_with (go_at_call 273;refine (p.o _).mono ?_;rintro u s ⟨rfl,rfl⟩);go_returns;exact n.o _ rfl
 ·go_enter func202,ntmps202;go_upto_region 2 with fail
  refine wp_loop_rounds 1 ?_;rw [rounds_succ];go_upto_region 6 with fail
  refine wp_loop_rounds 1 ?_;rw [rounds_succ];go_wp2_with (go_at_call 273;refine (p.o _).mono ?_;rintro u s ⟨rfl,rfl⟩);go_returns;exact n.o _ rfl
theorem Kk:(prog.info? 43).map (λi=>(i.zero,i.size,i.bytes))=some (some (.agg #[int i64 0,int i64 0,int i64 0]),3,24):=by kernel_rfl
theorem fo {v:Value}{xs:List Cl}{p:Cl}(h:Q5 W B 43 3 XG v xs)(e:Q0 W b 43 #[int i64 p.1,int i64 p.2.1,int i64 p.2.2])(hl:xs.length<=1000000)(g:B<=W.heap.size):
  ∃q c w',(Builtin.append_ #[47,47] 47 #[v,.slice (some ⟨b,0,none⟩) 1 1]).run prog W=.ok (.slice q (xs.length+1) c) w'/\Q5 w' B 43 3 XG (.slice q (xs.length+1) c) (xs++[p])/\Below B W w':=by
 obtain ⟨v',w',hrun,f,-,d,g2,c2,rfl⟩:=V0 (P:=prog) (ts:=47) (ty:=47) (x:=p) (b:=b) underlying47 Kk rfl (by decide) (by decide) rfl (by intro u a;simp [XG] at a;rcases a with rfl|rfl|rfl<;>rfl) h (λj u a=>by rw [e.cell j];simpa [XG] using a) (by omega) g
 exact ⟨_,_,w',hrun,f,d⟩
def Zz (n:Int):Bool:=(n==0)||Yv n
theorem av (n:Int)(w:World):Calls prog 194 #[n] w λr w'=>r=.returned (.bool (Zz n))/\w=w':=by
 by_cases h:n=0
 ·subst h;have e:Zz 0=true:=rfl;rw [e];go_enter func194,ntmps194;go_wp2_with fail;go_returns;exact ⟨rfl,rfl⟩
 ·have a:(n==0)=false:=by simpa using h
  have e:Zz n=Yv n:=by unfold Zz;rw [a];rfl
  rw [e];clear e h;go_enter func194,ntmps194;go_wp2_with (go_at_call 259;refine (Ke _ _).mono ?_;rintro e_ w1 ⟨rfl,rfl⟩);go_returns;exact ⟨rfl,rfl⟩
def YR (n:Int):Int:=if Uh n then 2 else if Yv n then 5 else 0
theorem NO (n:Int)(w:World):Calls prog 251 #[n] w λr w'=>r=.returned (int i64 (YR n))/\w=w':=by
 have a:=pp (De n w);have d:=pp (Ke n w);unfold YR;cases h1:Uh n
 ·rw [h1] at a;cases h2:Yv n
  ·rw [h2] at d;clear h1 h2;go_enter func251,ntmps251;go_wp2_with first
    | (go_at_call 275;refine a.o.mono ?_;rintro c b ⟨rfl,rfl⟩)
    | (go_at_call 259;refine d.o.mono ?_;rintro c b ⟨rfl,rfl⟩)
   go_returns;exact ⟨rfl,rfl⟩
  ·rw [h2] at d;clear h1 h2;go_enter func251,ntmps251;go_wp2_with first
    | (go_at_call 275;refine a.o.mono ?_;rintro c b ⟨rfl,rfl⟩)
    | (go_at_call 259;refine d.o.mono ?_;rintro c b ⟨rfl,rfl⟩)
   go_returns;exact ⟨rfl,rfl⟩
 ·rw [h1] at a;clear h1;go_enter func251,ntmps251;go_wp2_with (go_at_call 275;refine a.o.mono ?_;rintro c b ⟨rfl,rfl⟩);go_returns;exact ⟨rfl,rfl⟩
def YL (c:Cl):List Cl:=[(c.1 - 1,c.2.1,c.2.2),(c.1+1,c.2.1,c.2.2),(c.1,c.2.1 - 1,c.2.2),(c.1,c.2.1+1,c.2.2),(c.1,c.2.1,c.2.2 - 1),(c.1,c.2.1,c.2.2+1)]
def UD (c:Cl):Prop:=(-1000000000<=c.1/\c.1<=1000000000)/\(-1000000000<=c.2.1/\c.2.1<=1000000000)/\(-1000000000<=c.2.2/\c.2.2<=1000000000)
def Vf (c:Cl):Array Value:=#[int i64 (c.1 - 1),int i64 c.2.1,int i64 c.2.2,int i64 (c.1+1),int i64 c.2.1,int i64 c.2.2,int i64 c.1,int i64 (c.2.1 - 1),int i64 c.2.2,int i64 c.1,int i64 (c.2.1+1),int i64 c.2.2,int i64 c.1,int i64 c.2.1,int i64 (c.2.2 - 1),int i64 c.1,int i64 c.2.1,int i64 (c.2.2+1)]
theorem Vr {n:Int}(h: -1000000001<=n/\n<=1000000001):QM n=n:=by unfold QM Xj Xv;omega
theorem aw {c:Cl}(h:UD c):Ct c.1 c.2.1 c.2.2=Vf c:=by
 obtain ⟨h1,h2,h3⟩:=h;simp only [Ct,Vf];have b:=Vr (n:=c.1) (by omega)
 have a:=Vr (n:=c.2.1) (by omega)
 have d:=Vr (n:=c.2.2) (by omega)
 rw [b,a,d,b,a,d,Vr (n:=c.1+ -1) (by omega),Vr (n:=c.1+1) (by omega),Vr (n:=c.2.1+ -1) (by omega),Vr (n:=c.2.1+1) (by omega),Vr (n:=c.2.2+ -1) (by omega),Vr (n:=c.2.2+1) (by omega)]
 simp only [Int.sub_eq_add_neg]
theorem Dj (c:Cl)(h:UD c)(w:World):Calls prog 186 #[XF c] w λr w'=>r=.returned (.agg (Vf c))/\Below w.heap.size w w':=by
 have:=dN c.1 c.2.1 c.2.2 w;rw [aw h] at this;exact this
theorem Kl (a0 l m a3 a4 a5 c b a a9 k e h j i f g d:Value)(w:World):(Instr.index 257 (.agg #[a0,l,m,a3,a4,a5,c,b,a,a9,k,e,h,j,i,f,g,d]) (int i64 2)).run prog w=.ok (.agg #[c,b,a]) w:=by kernel_rfl
def U0 (val:Cl->Int)(c:Cl):List Cl:=(c::YL c).filter λd=>decide (0<YR (val d))
def mT (w:World)(xs:List Cl)(r:Ending)(w':World):Prop:=∃v,r=.returned v/\Q5 w' w.heap.size 43 3 XG v xs/\Below w.heap.size w w'
def Ss (N:Nat)(c:Cl)(v:Value)(w:World):Prop:=∃g cap,v=.slice (some ⟨g,0,none⟩) 7 cap/\Q5 w N 43 3 XG (.slice (some ⟨g,0,none⟩) 7 cap) (c::YL c)
def cQ (c:Cl)(v:Value)(w:World):Prop:=∃b,v=.slice (some ⟨b,0,none⟩) 1 1/\Q0 w b 43 #[int i64 c.1,int i64 c.2.1,int i64 c.2.2]
def km (N:Nat)(c:Cl):Nat->XO:=λi v w=>match i with|1=>cQ c v w|3=>Ss N c v w|4=>v=.int .i64 7|_=>True
theorem kn {N:Nat}{c:Cl} :∀i v (w w':World),km N c i v w->Below w.heap.size w w'->km N c i v w'
 | 1,_,_,_,⟨b,d,a⟩,e=>⟨b,d,a.on e⟩
 | 3,_,_,_,⟨g,cap,d,a⟩,e=>⟨g,cap,d,a.on e⟩
 | 4,_,_,_,h,_=>h
 | 0,_,_,_,_,_=>trivial
 | 2,_,_,_,_,_=>trivial
 | _+5,_,_,_,_,_=>trivial
theorem fp {w:World}{g:Nat}{t:TypeId}{c:Cl}(h:Q0 w g t (Vf c)):Rd w (some ⟨g,0,none⟩) 3 XG (YL c):=λ_=>by
 refine ⟨g,0,rfl,λi x e j u d=>?_⟩
 have hi:i<6:=(List.getElem?_eq_some_iff.1 e).1;have hj:j<3:=(List.getElem?_eq_some_iff.1 d).1;rw [h.cell];have b:i=0∨i=1∨i=2∨i=3∨i=4∨i=5:=by omega
 have a:j=0∨j=1∨j=2:=by omega
 rcases b with rfl|rfl|rfl|rfl|rfl|rfl<;>(obtain rfl:=pE e;rcases a with rfl|rfl|rfl<;>exact d)
theorem St:∀xs:List Cl,∀x∈xs,∀u∈XG x,u.oneCell'=true:=λ_ x _ u a=>by simp [XG] at a;rcases a with rfl|rfl|rfl<;>rfl
theorem ko {w:World}{c:Cl}(h:Q0 w b 43 #[int i64 c.1,int i64 c.2.1,int i64 c.2.2]):Rd w (some ⟨b,0,none⟩) 3 XG [c]:=λ_=>by
 refine ⟨b,0,rfl,λi x e j u d=>?_⟩
 have hi:i<1:=(List.getElem?_eq_some_iff.1 e).1;have hj:j<3:=(List.getElem?_eq_some_iff.1 d).1;obtain rfl:i=0:=by omega
 obtain rfl:=pE e;have a:j=0∨j=1∨j=2:=by omega
 rw [h.cell];rcases a with rfl|rfl|rfl<;>exact d
theorem F6 {w:World}{g:Nat}{c:Cl}{t:TypeId}(e:Q0 w b 43 #[int i64 c.1,int i64 c.2.1,int i64 c.2.2])(d:Q0 w g t (Vf c))(h:N<=w.heap.size):
  ∃v' w',(Builtin.append_ #[47,47] 47 #[.slice (some ⟨b,0,none⟩) 1 1,.slice (some ⟨g,0,none⟩) 6 6]).run prog w=.ok v' w'/\Below w.heap.size w w'/\Ss N c v' w':=by
 obtain ⟨cap,w',hrun,a,f⟩:=EE (P:=prog) (ts:=47) (ty:=47) (c:=1) (c2:=6) underlying47 Kk rfl (by decide) E4 (St _) (St _) (ko e) (fp d) (by simp [YL]) (by simp [YL])
 exact ⟨_,w',hrun,f,_,cap,rfl,a.lowB h⟩
theorem Up {c:Cl}(h:UD c):∀d∈c::YL c,Gn d:=λd a=>by
 obtain ⟨h1,h2,h3⟩:=h;simp [YL] at a;unfold Gn Qg;rcases a with rfl|rfl|rfl|rfl|rfl|rfl|rfl<;>(try dsimp only)<;>omega
def oF (N:Nat)(w wr:World)(xs:List Cl)(v:Value):Prop:=Q5 wr N 43 3 XG v xs/\Below w.heap.size w wr
theorem fq (t:Nat)(val:Cl->Int)(c:Cl)(hc:UD c)(w:World)(hV:Yy prog 67 (.pointer (some ⟨t,0,none⟩)) val w):
  Calls prog 250 #[E0 t,XF c] w λr w'=>mT w (U0 val c) r w':=by
 generalize F:U0 val c=xs;unfold U0 at F;have al:=pp F;clear F;obtain ⟨W,hW⟩:=pt (w.alloc (.cells #[int i64 c.1,int i64 c.2.1,int i64 c.2.2] 43));have H:pM w W:=by rw [hW];exact Q3 _ _
 have C:Q0 W w.heap.size 43 #[int i64 c.1,int i64 c.2.1,int i64 c.2.2]:=Q0.fresh hW;have U:=pp λW2=>Dj c hc W2
 have HV:=pp hV;have HC:=pp C;have HH:=pp H;have B:=pp hc;obtain ⟨c0,c1,c2,-,-,-⟩:=C.c3;clear hV H C hc;go_enter func250,ntmps250;go_upto_region 2 with fail
 rw [<-hW];clear hW;have D:=pp (show (Vf c).all (·.oneCell')=true by simp [Vf,Value.oneCell'])
 go_upto_region 3 with first
  | (go_at_call 186;refine (U.o _).mono ?_;rintro e_ M ⟨rfl,O⟩;have G1:=pp (after HH.o O);have Z:=pp (HC.o.on O);clear O)
  | (refine wpList_store_rowTo rfl 257 _ _ rfl rfl M.heap.size (Vf c) rfl rfl 257 _ (Q0.new' rfl) (by kernel_rfl) rfl D.o ?_)
 obtain ⟨W1,y⟩:=pt (M.alloc (.cells #[int i64 0,int i64 0,int i64 0,int i64 0,int i64 0,int i64 0,int i64 0,int i64 0,int i64 0,int i64 0,int i64 0,int i64 0,int i64 0,int i64 0,int i64 0,int i64 0,int i64 0,int i64 0] 257));have O:pM M W1:=by rw [y];exact Q3 _ _
 have X1:=Q0.fresh y;rw [<-y];obtain ⟨W2,u⟩:=pt (W1.setRow M.heap.size (Vf c));have g2:pM M W2:=by rw [u];exact Ut O (pA _) _
 have X2:Q0 W2 M.heap.size 257 (Vf c):=by rw [u];exact X1.row _
 rw [<-u];have z:=pp X2;have G2:=pp (after G1.o g2);have ac:=pp (Z.o.on g2);clear y O X1 u g2 X2 c0 c1 c2 D;obtain ⟨c0,c1,c2⟩:=ac.o.re3;refine Qk [0,2,0,2,2,0] (km w.heap.size c) (by kernel_rfl) (by kernel_rfl) (kn) ?_
 repeat (first|(refine Qi ?_)|(refine Qf (λK hK=>?_);go_simp;refine hK _ ?_;clear hK K))
 refine Q8 ?_;refine Q2 ?_;refine Qv ?lsA (λv_=>?_)
 case lsA=>(intro w_ e S;(first|(dsimp only at a;obtain ⟨b9,rfl,q⟩:=(show cQ _ _ _ from a.2 (by kernel_rfl));obtain ⟨v9,w9,n,h,g⟩:=F6 q (z.o.on (Qb e).none) (pB G2.o.size (Qb e).size);exact Xe _ _ _ _ rfl _ _ rfl rfl v9 w9 n ((Kept.of_below h).mono λ_ _=>trivial) g)|(dsimp only at a;obtain ⟨g9,c9,rfl,-⟩:=(show Ss _ _ _ _ from a.2 (by kernel_rfl));go_simp;exact ⟨Kept.refl _ _,rfl⟩)|(go_simp;exact ⟨Kept.of_below ((pI _ _).alloc (pA _) _),_,rfl,Q0.new' rfl⟩)))
 refine Q2 ?_;refine Xz ?lsA (λv_=>?_)
 case lsA=>(intro w_ e S a;(first|(dsimp only at a;obtain ⟨b9,rfl,q⟩:=(show cQ _ _ _ from a.2 (by kernel_rfl));obtain ⟨v9,w9,n,h,g⟩:=F6 q (z.o.on (Qb e).none) (pB G2.o.size (Qb e).size);exact Xe _ _ _ _ rfl _ _ rfl rfl v9 w9 n ((Kept.of_below h).mono λ_ _=>trivial) g)|(dsimp only at a;obtain ⟨g9,c9,rfl,-⟩:=(show Ss _ _ _ _ from a.2 (by kernel_rfl));go_simp;exact ⟨Kept.refl _ _,rfl⟩)|(go_simp;exact ⟨Kept.of_below ((pI _ _).alloc (pA _) _),_,rfl,Q0.new' rfl⟩)))
 refine Xz ?lsA (λv_=>?_)
 case lsA=>(intro w_ e S a;(first|(dsimp only at a;obtain ⟨b9,rfl,q⟩:=(show cQ _ _ _ from a.2 (by kernel_rfl));obtain ⟨v9,w9,n,h,g⟩:=F6 q (z.o.on (Qb e).none) (pB G2.o.size (Qb e).size);exact Xe _ _ _ _ rfl _ _ rfl rfl v9 w9 n ((Kept.of_below h).mono λ_ _=>trivial) g)|(dsimp only at a;obtain ⟨g9,c9,rfl,-⟩:=(show Ss _ _ _ _ from a.2 (by kernel_rfl));go_simp;exact ⟨Kept.refl _ _,rfl⟩)|(go_simp;exact ⟨Kept.of_below ((pI _ _).alloc (pA _) _),_,rfl,Q0.new' rfl⟩)))
 refine Q2 ?_;refine Qc ?_;simp only [Qd];rintro W3 h3 ⟨⟨⟨-,b9,rfl,-⟩,g7,c7,rfl,ab⟩,Q⟩;obtain rfl:_=Value.int .i64 7:=Q;have G3:=pp (after G2.o h3);have P:=pp (Up B.o);have b:=(ab.form E4);obtain ⟨q',cap',G,-,-,b,-⟩:=b;have e1:q'=some ⟨g7,0,none⟩:=by simp at G;exact G.1.symm
 subst e1;have am:=pp b;have hlen:(c::YL c).length=7:=rfl;generalize c::YL c=L at *;clear b G ab c0 c1 c2 z ac B U Z h3;go_upto_region 4 with fail
 simp only [Act.put];go_simp;go_loopw [5,8,16] (λv x i wr=>∃(k:Nat),i=.int .i64 (k:Nat)/\Hid (k<=7)/\Hid (oF W3.heap.size w wr ((L.take k).filter λd=>decide (0<YR (val d))) v)/\Hid (pM W3 wr)) (λ_ _ i _=>7 - (intOf i).toNat)
 case atStart=>exact ⟨0,rfl,pp (by omega),pp ⟨Q5.nil,G3.o⟩,pp (pI _ _)⟩
 case round=>
  obtain ⟨k,rfl,hk,N,hB⟩:=hrel;by_cases X:k<7
  ·have hlt':(k:Int)<7:=by omega
   have hk0:(0:Int)<=k:=by omega
   have hw:IntKind.i64.wrap ((k:Int)+1)=(k:Int)+1:=pJ _ (by omega)
   obtain ⟨d,J⟩:∃d,L[k]?=some d:=⟨_,pH (by omega)⟩
   have b:=am.o.on hB.out;have r0:wr.cell? ⟨g7,0+k * 3,none⟩=some (int i64 d.1):=b.at J (j:=0) rfl;have r1:wr.cell? ⟨g7,0+k * 3+1,none⟩=some (int i64 d.2.1):=b.at J (j:=1) rfl;have r2:wr.cell? ⟨g7,0+k * 3+2,none⟩=some (int i64 d.2.2):=b.at J (j:=2) rfl;have V:=P.o d (pG J);have aa:L.take (k+1)=L.take k++[d]:=by rw [List.take_add_one,J];rfl
   have ag:=pp aa;simp only [Nat.zero_add] at r0 r1 r2;obtain ⟨W4,A⟩:=pt (wr.alloc (.cells #[int i64 d.1,int i64 d.2.1,int i64 d.2.2] 43));have Q:pM wr W4:=by rw [A];exact Q3 _ _
   have X4:=Q0.fresh A;have Y:=pp (HV.o d V W4 (after (after N.out.2 Q) (pI _ _)));obtain ⟨x0,x1,x2,-,-,-⟩:=X4.c3;clear J b aa V;go_upto_region 6 with fail
   rw [<-A];clear A r0 r1 r2;have f:=pp (py N.out hB.out);have H4:=pp Q;have ak:=pp X4;clear Q X4;generalize l:val d=vd at *;have E:=pp l;have ae:=pp λW=>NO vd W
   cases hgt:decide (0<YR vd)
   ·have R:¬(0:Int)<YR vd:=of_decide_eq_false hgt;have I:=pp hgt;clear hgt l;go_wp2_with first
     | (go_at_call 67;refine Y.o.mono ?_;rintro e_ w5 ⟨rfl,s⟩;replace s:=pp s)
     | (go_at_call 251;refine (ae.o _).mono ?_;rintro e_ w6 ⟨rfl,rfl⟩)
    have m:=after H4.o s.o;exact ⟨⟨k+1,by go_num,pp X,pp ⟨by rw [ag.o,List.filter_append];simp only [List.filter_cons,List.filter_nil,E.o,I.o];rw [if_neg (by decide),List.append_nil];exact f.o.1.1.on m,after f.o.1.2 m⟩,pp (after f.o.2 m)⟩,by simp [intOf];omega⟩
   ·have R:(0:Int)<YR vd:=of_decide_eq_true hgt;have I:=pp hgt;have T:((L.take k).filter λd=>decide (0<YR (val d))).length<=1000000:=pB (List.length_filter_le _ _) (by rw [List.length_take];omega)
    have ah:=pp T;clear hgt l T;go_upto_region 7 with first
     | (go_at_call 67;refine Y.o.mono ?_;rintro e_ w5 ⟨rfl,s⟩;replace s:=pp s)
     | (go_at_call 251;refine (ae.o _).mono ?_;rintro e_ w6 ⟨rfl,rfl⟩)
    clear x0 x1 x2;obtain ⟨x0,x1,x2,-,-,-⟩:=(ak.o.on s.o).c3;have aj:=pp (f.o.1.1.on (after H4.o s.o));have hN5:W3.heap.size<=w5.heap.size:=(after f.o.2 (after H4.o s.o)).size;obtain ⟨q6,c6,w7,hrun,ho,ad⟩:=fo (W:=w5.alloc (.cells #[int i64 d.1,int i64 d.2.1,int i64 d.2.2] 43)) (p:=d) (aj.o.on (Q3 _ _)) (Q0.new' rfl) ah.o (by simp;omega)
    have HF:=pp (py ho ad);clear ho ad;go_wp2_with (at_builtin;refine Lib.wpList_append_run _ rfl _ _ _ _ rfl _ _ rfl rfl _ _ hrun ?_);have m:=after (after H4.o s.o) (Q3 w5 (.cells #[int i64 d.1,int i64 d.2.1,int i64 d.2.2] 43));have af:=(after f.o.2 m).trans HF.o.2;exact ⟨⟨k+1,by go_num,pp X,pp ⟨by rw [ag.o,List.filter_append];simp only [List.filter_cons,List.filter_nil,E.o,I.o];rw [if_pos trivial];exact HF.o.1,after G3.o af⟩,pp af⟩,by simp [intOf];omega⟩
  ·have ai:k=7:=by have:=hk.out;omega
   subst ai;have ht:L.take 7=L:=List.take_of_length_le (by omega)
   rw [ht,al.o] at N;have HI:=pp (py (N.out.1.lowB G3.o.size) N.out.2);clear N ht;go_wp2_with fail;go_returns;exact ⟨_,rfl,HI.o.1,HI.o.2⟩
def cR (a:Int):Int:=if a=0 then -1 else a
theorem fs (a:Int)(g:Nat)(w:World)(b:Q0 w g 3 #[a,int i64 (-1)]):Calls prog 334 #[.slice (some ⟨g,0,none⟩) 2 2] w λr w'=>r=.returned (int i64 (cR a))/\w=w':=by
 obtain ⟨c0,c1,-,-⟩:=b.pair;clear b;unfold cR;by_cases h:a=0
 ·subst h;go_enter func334,ntmps334;go_upto_region 3 with fail
  refine wp_loop_rounds 3 ?_;rw [rounds_succ];go_wp2_with fail;rw [rounds_succ];go_wp2_with fail;go_returns;exact ⟨rfl,rfl⟩
 ·have hb:(a !=0)=true:=bne_iff_ne.2 h;rw [if_neg h];go_enter func334,ntmps334;go_upto_region 3 with fail
  refine wp_loop_rounds 3 ?_;rw [rounds_succ];go_wp2_with fail;go_returns;exact ⟨rfl,rfl⟩
def IX (a b:Int):Int:=if a<=b then -1 else 1
theorem ft (a b:Int):cR (Lib.compareInt a b)=IX a b:=by
 unfold cR IX Lib.compareInt;repeat' split
 all_goals omega
abbrev NP (x:QI):Value:=.agg #[int i64 x.1,int i64 x.2.1,int i64 x.2.2.1,int i64 x.2.2.2]
theorem kq (a b:QI)(w:World):Calls prog 333 #[NP a,NP b] w λr w'=>r=.returned (int i64 (IX a.1 b.1))/\Below w.heap.size w w':=by
 obtain ⟨W,c⟩:=pt ((w.alloc (.cells #[int i64 a.1,int i64 a.2.1,int i64 a.2.2.1,int i64 a.2.2.2] 92)).alloc (.cells #[int i64 b.1,int i64 b.2.1,int i64 b.2.2.1,int i64 b.2.2.2] 92));have H:pM w W:=by rw [c];go_grown
 have A:Q0 W w.heap.size 92 #[int i64 a.1,int i64 a.2.1,int i64 a.2.2.1,int i64 a.2.2.2]:=by rw [c];exact (Q0.new' rfl).alloc _
 have B:Q0 W (w.heap.size+1) 92 #[int i64 b.1,int i64 b.2.1,int i64 b.2.2.1,int i64 b.2.2.2]:=by rw [c];exact Q0.new' (by simp)
 have a0:=A.cell 0;have b0:=B.cell 0;have h:=pp H;rw [<-ft];have i:=pp λd=>Tryz.cmp_Compare_int a.1 b.1 d
 generalize Lib.compareInt a.1 b.1=k at *;have f:=pp λ(d:World)=>fs k d.heap.size (d.alloc (.cells #[int i64 k,int i64 (-1)] 3)) (Q0.new' rfl)
 clear A B H;go_enter func333,ntmps333;go_upto_region 1 with fail
 rw [<-c];clear c;go_wp2_with first
  | (go_at_call 335;refine (i.o _).mono ?_;rintro g e ⟨rfl,rfl⟩)
  | (go_at_call 334;refine (f.o _).mono ?_;rintro g e ⟨rfl,rfl⟩)
 go_returns;exact ⟨rfl,after h.o (Q3 _ _)⟩
def Vg (l:List QI)(t:Int):Nat:=(l.takeWhile λy=>decide (y.1<=t)).length
def Xh (l:List QI):Prop:=l.Pairwise λa b=>a.1<=b.1
theorem NQ (l:List QI)(t:Int):Vg l t<=l.length:=by
 induction l with
 | nil=>exact pA _
 | cons a l ih=>
  unfold Vg at *;rw [List.takeWhile_cons];split
  ·rw [List.length_cons,List.length_cons];omega
  ·exact pC _
theorem IY:∀{l:List QI} {t:Int} {k:Nat},k<=l.length->(∀j y,l[j]?=some y->j<k->y.1<=t)->(∀j y,l[j]?=some y->k<=j->t<y.1)->Vg l t=k
 | [],_,k,b,_,_=>by
  have:k=0:=by simpa using b
  subst this;rfl
 | a::l,t,0,_,_,d=>by
  have:=d 0 a rfl (pA _);unfold Vg;rw [List.takeWhile_cons,if_neg (by simpa using this)]
  rfl
 | a::l,t,k+1,b,e,d=>by
  have:=e 0 a rfl (Nat.succ_pos _);have g:=IY (l:=l) (t:=t) (k:=k) (by simpa using b) (λj y c f=>e (j+1) y (by simpa using c) (by omega)) (λj y c f=>d (j+1) y (by simpa using c) (by omega))
  unfold Vg at *;rw [List.takeWhile_cons,if_pos (by simpa using this),List.length_cons,g]
theorem JF {l:List QI}(h:Xh l){i:Nat}{a b:QI}(d:l[i]?=some a)(c:l[j]?=some b)(hij:i<=j):a.1<=b.1:=by
 rcases Nat.lt_or_ge i j with e|e
 ·exact List.pairwise_iff_getElem.1 h i j (List.getElem?_eq_some_iff.1 d).1 (List.getElem?_eq_some_iff.1 c).1 e |> λf=>by
   rw [<-(List.getElem?_eq_some_iff.1 d).2,<-(List.getElem?_eq_some_iff.1 c).2];exact f
 ·obtain rfl:i=j:=by omega
  rw [d] at c;obtain rfl:=pE c;exact Int.le_refl _
def pa (l:List QI)(t:Int)(i j:Nat):Prop:=(∀k y,l[k]?=some y->k<i->y.1<=t)/\(∀k y,l[k]?=some y->j<=k->t<y.1)
theorem ku (q:Option Addr)(cp:Nat)(l:List QI)(x:QI)(w:World)(hl:l.length<=4096)(hs:Xh l)(D:Rd w q 4 Qt l):
  Calls prog 332 #[.slice q l.length cp,NP x,.func (.func 333) #[] #[]] w λr w'=>r=.returned (.tuple #[int i64 (Vg l x.1),.bool false])/\Below w.heap.size w w':=by
 obtain ⟨W,N⟩:=pt (w.alloc (.cells #[int i64 x.1,int i64 x.2.1,int i64 x.2.2.1,int i64 x.2.2.2] 92));have H:pM w W:=by rw [N];exact Q3 _ _
 have C:Q0 W w.heap.size 92 #[int i64 x.1,int i64 x.2.1,int i64 x.2.2.1,int i64 x.2.2.2]:=Q0.fresh N;obtain ⟨n,hn⟩:=pt l.length;rw [<-hn] at hl ⊢;have s:=pp (py hs (py (D.on H) (py H (py C hn))));have Z:=pp λ(a:QI) F=>kq a x F
 have hn0:(n:Int)<=4096:=by omega
 clear hs D H C hn;go_enter func332,ntmps332;go_upto_region 3 with fail
 rw [<-N];clear N;go_loopw [9,10] (λV R wr=>∃i j:Nat,i<=j/\j<=n/\V=.int .i64 i/\R=.int .i64 j/\Hid (pa l x.1 i j)/\Hid (pM W wr)) (λV R _=>(intOf R - intOf V).toNat)
 case atStart=>exact ⟨0,n,pC _,pA _,rfl,rfl,pp ⟨λk y _ O=>by omega,λk y h O=>by have:=(List.getElem?_eq_some_iff.1 h).1;have:=s.o.2.2.2.2;omega⟩,pp (pI _ _)⟩
 case round=>
  obtain ⟨i,j,hij,T,rfl,rfl,I,A⟩:=hrel;by_cases hlt:i<j
  ·have B:(i:Int)<(j:Int):=by omega
   obtain ⟨m,hm⟩:=pt ((i+j) / 2);have U:((i:Int)+(j:Int)) / 2=(m:Int):=by omega
   have K:i<=m/\m<j:=by omega
   obtain ⟨y,h⟩:∃y,l[m]?=some y:=⟨_,pH (by have:=s.o.2.2.2.2;omega)⟩
   have D:=s.o.2.1.on A.out;have E:0<l.length:=by have:=s.o.2.2.2.2;omega
   obtain ⟨g,o,rfl,b⟩:=D E;have e:=b m y h 0 _ rfl;rw [Nat.add_zero] at e;have Q:=λd os=>cell_regrown (d:=d) (os:=os) e
   have Y:=λd os=>cell_regrown (d:=d) (os:=os) (b m y h 1 _ rfl)
   have r2:=λd os=>cell_regrown (d:=d) (os:=os) (b m y h 2 _ rfl)
   have P:=λd os=>cell_regrown (d:=d) (os:=os) (b m y h 3 _ rfl)
   have t:=s.o.2.2.2.1.on A.out;have X:=λd os=>(t.re d os).cell 0
   have c1:=λd os=>(t.re d os).cell 1
   have c2:=λd os=>(t.re d os).cell 2
   have c3:=λd os=>(t.re d os).cell 3
   have v:=pp (py h (py K (py I.out A.out)));have q0:(0:Int)<=(m:Int):=by omega
   have q1:(m:Int)<(n:Int):=by omega
   have he:=enters_of func333 (by kernel_rfl) rfl
   clear b e D t h hm I A;go_upto_region 5 with fail
   clear U B K;by_cases p:y.1<=x.1
   ·have c:IX y.1 x.1= -1:=if_pos p;have u:=pp λF=>by have:=Z.o y F;rw [c] at this;exact this
    have G:=pp p;clear p c;refine wp_region_quiet_below (by kernel_rfl) (by kernel_rfl) ?_
    repeat (go_big_quiet_step (exact Calls.regrown_of (u.o _)))
    refine wpQuiet_nil ?_;intro w' f;obtain ⟨rg,rfl⟩:=f;have q3:(m:Int)+1<=9223372036854775807:=by omega
    have q4: -9223372036854775808<=(m:Int)+1:=by omega
    clear Y r2 P Q X c1 c2 c3;go_wp2_with fail;go_roundw
    case rel=>exact ⟨m+1,j,by have:=v.o.2.1;omega,T,by go_num,rfl,pp ⟨λk z S O=>Int.le_trans (JF s.o.1 S v.o.1 (by omega)) G.o,v.o.2.2.1.2⟩,pp (after v.o.2.2.2 (pK _ _ _))⟩
    case measure=>have:=v.o.2.1;simp [intOf];omega
   ·have c:IX y.1 x.1=1:=if_neg p;have u:=pp λF=>by have:=Z.o y F;rw [c] at this;exact this
    have G:=pp p;clear p c;refine wp_region_quiet_below (by kernel_rfl) (by kernel_rfl) ?_
    repeat (go_big_quiet_step (exact Calls.regrown_of (u.o _)))
    refine wpQuiet_nil ?_;intro w' f;obtain ⟨rg,rfl⟩:=f;clear Y r2 P Q X c1 c2 c3;go_wp2_with fail;go_roundw
    case rel=>exact ⟨i,m,by have:=v.o.2.1;omega,by omega,rfl,rfl,pp ⟨v.o.2.2.1.1,λk z S O=>Int.lt_of_lt_of_le (by have:=G.o;omega) (JF s.o.1 v.o.1 S O)⟩,pp (after v.o.2.2.2 (pK _ _ _))⟩
    case measure=>have:=v.o.2.1;simp [intOf];omega
  ·obtain rfl:i=j:=by omega
   have B:¬(i:Int)<(i:Int):=by omega
   have hp:Vg l x.1=i:=IY (by have:=s.o.2.2.2.2;omega) I.out.1 I.out.2
   have HP:=pp hp;have J:=pp (after s.o.2.2.1 A.out);by_cases L:i<n
   ·have M:(i:Int)<(n:Int):=by omega
    have hi0:(0:Int)<=(i:Int):=by omega
    obtain ⟨y,h⟩:∃y,l[i]?=some y:=⟨_,pH (by have:=s.o.2.2.2.2;omega)⟩
    have c:IX y.1 x.1=1:=if_neg (by have:=I.out.2 i y h (pA _);omega)
    have u:=pp λF=>by have:=Z.o y F;rw [c] at this;exact this
    have D:=s.o.2.1.on A.out;have E:0<l.length:=by have:=s.o.2.2.2.2;omega
    obtain ⟨g,o,rfl,b⟩:=D E;have e:=b i y h 0 _ rfl;rw [Nat.add_zero] at e;have Q:=λd os=>cell_regrown (d:=d) (os:=os) e
    have Y:=λd os=>cell_regrown (d:=d) (os:=os) (b i y h 1 _ rfl)
    have r2:=λd os=>cell_regrown (d:=d) (os:=os) (b i y h 2 _ rfl)
    have P:=λd os=>cell_regrown (d:=d) (os:=os) (b i y h 3 _ rfl)
    have t:=s.o.2.2.2.1.on A.out;have X:=λd os=>(t.re d os).cell 0
    have c1:=λd os=>(t.re d os).cell 1
    have c2:=λd os=>(t.re d os).cell 2
    have c3:=λd os=>(t.re d os).cell 3
    have he:=enters_of func333 (by kernel_rfl) rfl
    clear b e D t h c I A hp L;go_upto_region 8 with fail
    refine wp_region_quiet_below (by kernel_rfl) (by kernel_rfl) ?_
    repeat (go_big_quiet_step (exact Calls.regrown_of (u.o _)))
    refine wpQuiet_nil ?_;intro w' f;obtain ⟨rg,rfl⟩:=f;go_wp2_with fail;go_returns;exact ⟨by rw [HP.o];rfl,after J.o (pK _ _ _)⟩
   ·obtain rfl:i=n:=by omega
    have M:¬(i:Int)<(i:Int):=by omega
    clear I A hp L;go_upto_region 8 with fail
    refine wp_region_quiet_below (by kernel_rfl) (by kernel_rfl) ?_
    repeat (go_big_quiet_step (fail))
    refine wpQuiet_nil ?_;intro w' f;obtain ⟨rg,rfl⟩:=f;go_wp2_with fail;go_returns;exact ⟨by rw [HP.o];rfl,after J.o (pK _ _ _)⟩
end
section
open Go.RowKit Go.Maps
theorem Su (h:S.now=[])(id:Int):QY S id=(2 * id+1,0,[]):=by
 have e:∀j,Qj S j=(0,[],3):=λj=>by
  unfold Qj DS.get;rw [h];exact Bl (show ([]:Bs).length<2 by decide)
 unfold QY;rw [e,e];rfl
structure DCalm (D:DS)(N:Nat):Prop where
 ok:DOk D N 65545
 calm:KZ D
 l:D.l=[]
 room:D.room=200000
theorem DCalm.new:DCalm (U9 200000) 0:=⟨(dR 200000).mono (pA _) (by omega),⟨rfl,rfl⟩,rfl,by decide⟩
theorem DCalm.save {D:DS}(h:DCalm D N)(hN:N<=1){id:Int}(c:Yx id=true)(f:(QY D id).2.1=0){b:Bs}(n:b.length<=65536):
  ∃a,Zv D id b=(a,0)/\DCalm a (N+1)/\Y2 a id=(b,1,true)/\∀j,j≠id->QY a j=QY D j:=by
 obtain ⟨a,k,g,m,i,-,d,l,e⟩:=RU h.ok h.calm c (by omega) n (by omega) (by rw [h.room];have:(N+1) * 65545<=2 * 65545:=Nat.mul_le_mul_right _ (by omega);omega)
 refine ⟨a,k,⟨d,g,i,m.trans h.room⟩,?_,e⟩;rw [IJ c,l,f];rfl
theorem DCalm.crash {D:DS}(h:DCalm D N):D.crash 0=(D,0):=by
 obtain ⟨-,⟨b,c2⟩,a,-⟩:=h;obtain ⟨r,f,v,s,l⟩:=D;dsimp only at b c2 a;subst b c2 a;rfl
theorem DCalm.empty (j:Int):QY (U9 200000) j=(2 * j+1,0,[]):=Su rfl j
theorem JG {D:DS}{j:Int}(h:QY D j=(2 * j+1,0,[]))(a:Yx j=true):Y2 D j=([],0,false):=by
 rw [IJ a,h];rfl
theorem az (b:Bs)(h:b.length<=65536):∃D,Zv (U9 200000) 0 b=(D,0)/\DCalm D 1/\D.crash 0=(D,0)/\Y2 D 0=(b,1,true)/\∀j,j≠0->Yx j=true->Y2 D j=([],0,false):=by
 obtain ⟨D,f,a,g,e⟩:=DCalm.new.save (by decide) (id:=0) (by decide) (by rw [DCalm.empty]) h
 exact ⟨D,f,a,a.crash,g,λj d c=>JG ((e j d).trans (DCalm.empty j)) c⟩
theorem aA (id:Int)(d:Yx id=true)(h:id≠0)(c b:Bs)(t:c.length<=65536)(o:b.length<=65536):
  ∃a D,Zv (U9 200000) id c=(a,0)/\DCalm a 1/\Zv a 0 b=(D,0)/\DCalm D 2/\D.crash 0=(D,0)/\Y2 D 0=(b,1,true)/\Y2 D id=(c,1,true)/\∀j,j≠0->j≠id->Yx j=true->Y2 D j=([],0,false):=by
 obtain ⟨a,s,g,i,l⟩:=DCalm.new.save (by decide) (id:=id) d (by rw [DCalm.empty]) t
 obtain ⟨D,n,k,q,m⟩:=g.save (by decide) (id:=0) (by decide) (by rw [l 0 (λe=>h e.symm),DCalm.empty]) o
 refine ⟨a,D,s,g,n,k,k.crash,q,?_,λj r f p=>JG ((m j r).trans ((l j f).trans (DCalm.empty j))) p⟩
 rw [IJ d] at i ⊢;rw [m id h];exact i
end
section
open Go.RowKit
attribute [local go_sem] Oper.semAt_some
theorem GE (t a c:Nat)(b:Int)(w:World)(d:Q0 w a 142 #[c,.bool false,b]):
  Calls prog 85 #[t,a] w λr w'=>r=.returned (int i64 0)/\w=w':=by
 have c1:=d.cell 1;clear d;go_enter func85,ntmps85;go_wp2_with fail;go_returns;exact ⟨rfl,rfl⟩
end
section
open Go.ChangeShapes Go.WideShapes Go.ChangeAt Go.RowKit
section
variable {H:Type}{enc:TypeId×Value->H}{P:Program}
theorem aB {w:World}{r:Reach}{base:Nat}{spare:Nat->Bool}{held:Bool}{ts t g:TypeId}{v:Value}{d:DataW H}{p:List MemPlace}(f:P.underlying ts=some (.slice t))(m:P.underlying t=some (.struct #[f0,f1,f2]))
  (j:Cr P f0 f1 f2 g=true) (k:P.cellsOf t=3) (o:P.underlying g=some (.int .i64)) (u:Value.okWide P w r b0 ts v) (h:DataW.Trod enc P w base spare held ts v d p):
  ∃q n cap F,v=.slice q n cap/\n<=cap/\cap<=maxLen/\JC 3 XG w q n F/\∀i,i<n->UC (F i):=
 WW XG UC f k (λ_=>rfl) ⟨2,rfl,λ_ _ _ h=>WX h⟩ (λ_ _ _ l ht=>by
  obtain ⟨a,b,c,e,wa,s,wc⟩:=Gg m j o l ht;exact ⟨(a,b,c),e,wa,s,wc⟩) u h
theorem fu {w:World}{r:Reach}{base:Nat}{spare:Nat->Bool}{held:Bool}{t j tb:TypeId}{v:Value}{d:DataW H}{p:List MemPlace}(i:P.underlying t=some (.struct #[f0,f1,f2]))
  (k:GA P f0 f1 f2 j tb=true) (m:P.cellsOf t=3) (o:P.underlying j=some (.int .i64)) (e:P.underlying tb=some .bool) (s:Value.okWide P w r b0 t v) (h:DataW.Trod enc P w base spare held t v d p):
  ∃a b c,v=.agg #[.int .i64 a,.int .i64 b,.bool c]/\Qg a/\Qg b:=by
 obtain ⟨cs,rfl,g⟩:=okWide_struct i s;obtain ⟨fuel,h⟩:=h;obtain ⟨l⟩:=cs;have n:l.length=3:=g.trans m;obtain ⟨⟨a,b,c⟩,f,wa,q⟩:=eU i k o e n (by simpa [Value.cells] using h)
 subst f;exact ⟨a,b,c,rfl,wa,q⟩
variable {w:World}{base:Nat}{spare:Nat->Bool}{held:Bool}
theorem Lt {t A k t3 t4:TypeId}{ds:List (DataW H)}{ps:List MemPlace}(h:DataW.TrodAll enc P w base spare held [t,A,k,t3,t4] args.toList ds ps):
  ∃v v' i v3 v4 d r e o s p u f m n,args=#[v,v',i,v3,v4]/\ds=[d,r,e,o,s]/\ps=p++u++f++m++n/\DataW.Trod enc P w base spare held t v d p/\DataW.Trod enc P w base spare held A v' r u/\DataW.Trod enc P w base spare held k i e f/\DataW.Trod enc P w base spare held t3 v3 o m/\DataW.Trod enc P w base spare held t4 v4 s n:=by
 obtain ⟨v,vs,d,ds',p,q,hargs,rfl,rfl,B,j⟩:=trodAll_cons h;obtain ⟨v',vs',r,ds'',u,q',rfl,rfl,rfl,y,b⟩:=trodAll_cons j;obtain ⟨i,vs'',e,ds''',f,q'',rfl,rfl,rfl,l,a⟩:=trodAll_cons b;obtain ⟨v3,vs3,o,ds3,m,q3,rfl,rfl,rfl,x,g⟩:=trodAll_cons a;obtain ⟨v4,vs4,s,ds4,n,q4,rfl,rfl,rfl,z,c⟩:=trodAll_cons g;obtain ⟨rfl,rfl,rfl⟩:=trodAll_nil c;exact ⟨v,v',i,v3,v4,d,r,e,o,s,p,u,f,m,n,by cases args;simp_all,rfl,by simp,B,y,l,x,z⟩
end
end
section
open Go.RowKit Go.Maps
theorem Ui (P:Program)(K:Nat)(w:World)(n x ty d:TypeId)(g o b f:Nat)(a:Addr)(c h:Nat)(cur:Array Value)(t:TypeId)(cs:List Value)
  (q:P.underlying n=some (.slice d)) (m:(P.info? d).map (·.size)=some K) (s:w.heap[g]?=some (.cells cur t (0,0))) (u:cs.length=Nat.min c b * K)
  (k:∀j v,cs[j]?=some v->w.cell? (a.add j)=some v) (e:o+cs.length<=cur.size) (y:∀v∈cs,v.oneCell'=true):
  (Builtin.copy_ #[n,x] ty #[.slice (some ⟨g,o,none⟩) b f,.slice (some a) c h]).run P w=.ok (goInt (Nat.min c b)) (w.setRow g (cur.toList.take o++cs++cur.toList.drop (o+cs.length)).toArray):=by
 have p:=run_loadCells_list (P:=P) w a cs k;have l:=run_storeCells_at P g o t cs 0 cur w s (by simpa using e) y
 cases hq:P.info? d with
 | none=>simp [hq] at m
 | some i=>
  have r:i.size=K:=by simpa [hq] using m
  simp [Builtin.copy_,run_underlying q,Builtin.lenOf,Builtin.firstCells,sizeOf,typeInfo,hq,r,<-u,p,l]
section
variable {w:World}{base g n cap K:Nat}{e:TypeId}{α:Type}{enc:α->List Value}{xs:List α}{cur:Array Value}
theorem Q5.parts (h:Q5 w base e K enc (.slice (some ⟨g,0,none⟩) n cap) xs):∃cur,Q0 w g e cur/\cur.size=cap * K/\xs.length<=cap/\cap<=maxLen/\base<=g/\cur.toList.take (xs.length * K)=xs.flatMap enc:=by
 rcases h.2 with ⟨k,h0⟩|⟨m,cap',a,c,f,i,o,j,b,ht⟩
 ·cases k
 ·obtain ⟨d,h3,l⟩:=Value.slice.inj c;obtain rfl:g=m:=by simpa using d
  subst l;exact ⟨a,i,b,o,j,f,ht⟩
theorem Q5.made (h:∀x,(enc x).length=K)(b:Q0 w g e cur)(f:cur.size=cap * K)(c:xs.length<=cap)(a:cap<=maxLen)(d:base<=g)(ht:cur.toList.take (xs.length * K)=xs.flatMap enc):Q5 w base e K enc (.slice (some ⟨g,0,none⟩) xs.length cap) xs:=
 ⟨QV h xs,.inr ⟨g,cap,cur,rfl,d,b,c,a,f,ht⟩⟩
end
theorem Sv {α:Type}{K:Nat}{enc:α->List Value}(a:∀x,(enc x).length=K){xs:List α}{i:Nat}(x:α)(hi:i<xs.length){cur:List Value}(ht:cur.take (xs.length * K)=xs.flatMap enc)(hs:(xs.length+1) * K<=cur.length):
  (((cur.take ((i+1) * K)++(xs.drop i).flatMap enc++cur.drop ((i+1) * K+((xs.drop i).flatMap enc).length)).take (i * K)++enc x++(cur.take ((i+1) * K)++(xs.drop i).flatMap enc++cur.drop ((i+1) * K+((xs.drop i).flatMap enc).length)).drop (i * K+(enc x).length))).take ((xs.length+1) * K)=(xs.take i++x::xs.drop i).flatMap enc:=by
 have b:∀ys:List α,(ys.flatMap enc).length=ys.length * K:=QV a;have h:((xs.drop i).flatMap enc).length=(xs.length - i) * K:=by rw [b,List.length_drop]
 have m1:(i+1) * K=i * K+K:=Nat.succ_mul i K;have m2:(xs.length+1) * K=xs.length * K+K:=Nat.succ_mul _ K;have m3:(xs.length - i) * K+i * K=xs.length * K:=by rw [<-Nat.add_mul];congr 1;omega
 have f:i * K<=xs.length * K:=Nat.mul_le_mul_right K (by omega)
 have c:cur.take (i * K)=(xs.take i).flatMap enc:=by
  have:cur.take (i * K)=(cur.take (xs.length * K)).take (i * K):=by rw [List.take_take,Nat.min_eq_left f]
  rw [this,ht];have:xs.flatMap enc=(xs.take i).flatMap enc++(xs.drop i).flatMap enc:=by rw [<-List.flatMap_append,List.take_append_drop]
  rw [this,List.take_left'];rw [b,List.length_take];congr 1;omega
 generalize e:(xs.drop i).flatMap enc=D at *;have g:(cur.take ((i+1) * K)++D++cur.drop ((i+1) * K+D.length)).take (i * K)=cur.take (i * K):=by
  rw [List.append_assoc,List.take_append_of_le_length (by rw [List.length_take];omega),List.take_take]
  congr 1;omega
 have k:(cur.take ((i+1) * K)++D++cur.drop ((i+1) * K+D.length)).drop (i * K+(enc x).length)=D++cur.drop ((i+1) * K+D.length):=by
  rw [List.append_assoc,List.drop_left'];rw [List.length_take,a];omega
 rw [g,k,c];have j:((xs.take i).flatMap enc).length=i * K:=by rw [b,List.length_take];congr 1;omega
 rw [List.flatMap_append,List.flatMap_cons,e];have d:((xs.take i).flatMap enc++enc x++D).length=(xs.length+1) * K:=by
  rw [List.length_append,List.length_append,j,a,h];omega
 rw [<-List.append_assoc ((xs.take i).flatMap enc++enc x) D,List.take_left' d,List.append_assoc]
end
end Go.Proofs.YtmbccnioijokfaaGreatDoor