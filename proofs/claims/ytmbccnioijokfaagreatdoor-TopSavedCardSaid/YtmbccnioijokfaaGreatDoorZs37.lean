/- A part of the proof. -/
import Derived.Test.YtmbccnioijokfaaGreatDoorZs36
import Derived.Test.YtmbccnioijokfaaGreatDoorZs35
namespace Go.Proofs.YtmbccnioijokfaaGreatDoor
set_option maxRecDepth 100000
set_option maxHeartbeats 32000000
open Go.Value (int)
open Go.IntKind (i64 u8)
open Go.Proofs.Tryz
variable {b k t s d n g:Nat}{W:World}{y x z:Int}{R:List Rn}{v8:Value}{P:Program}{ops:Array Oper}{o:Oper}{a:Act}{Q:Exit -> Act -> World -> Prop}{Ms Mi M K:Nat -> Prop}{T:TS}{F:Nat -> B8}
section
open Go.RowKit Go.Maps
attribute [local go_sem] Oper.semAt_some
theorem nf:(prog.info? 3).map (λi=>(i.zero,i.size,i.bytes))=some (some (int i64 0),1,8):=by kernel_rfl
theorem gz {N:Nat}{n:Int}(f:Q0 W b 3 #[n])(i:N<=W.heap.size):
  ∃g c w',(Builtin.append_ #[31,31] 31 #[.slice none 0 0,.slice (some ⟨b,0,none⟩) 1 1]).run prog W=.ok (.slice (some ⟨g,0,none⟩) 1 c) w'/\Q5 w' N 3 1 Oh (.slice (some ⟨g,0,none⟩) 1 c) [n]/\Below W.heap.size W w':=by
 obtain ⟨v',w',hrun,h,d,-,g,c,rfl⟩:=V0 (P:=prog) (base:=N) (w:=W) (ts:=31) (ty:=31) (enc:=Oh) (v:=.slice none 0 0) (xs:=[]) (x:=n) (b:=b) underlying31 nf rfl (by decide) (by decide) rfl (by intro u a;simp [Oh] at a;rcases a with rfl;rfl) Q5.nil (λj u a=>by rw [f.cell j];simpa [Oh] using a) (by simp) i
 exact ⟨g,c,w',hrun,h,(XQ d).below (pA _) λb _ e=>by cases e⟩
theorem gA (e s wd t q:Nat)(occ:Value)(S:SS)(l:Lf)(w:World)(Ms:Nat->Prop)(h:EngAt w e s wd t q occ S (some l) Ms):
  Calls prog 33 #[e] w λr w'=>∃g c,r=.returned (.slice (some ⟨g,0,none⟩) 1 c)/\Q5 w' w.heap.size 3 1 Oh (.slice (some ⟨g,0,none⟩) 1 c) [0]/\Below w.heap.size w w':=by
 have b:Q0 w e 71 (Ua s (some ⟨l.a,0,none⟩)):=h.blk;have R:=b.cell 1;have M:=b.cell 2;have T:=b.cell 3;have U:=b.cell 4;have G:=b.cell 5;have K:=b.cell 6;have H:=b.cell 7;have P:=b.cell 8;have J:=b.cell 9;have y:=b.cell 10;have f:=b.cell 11;have B:=b.cell 12;have u:=b.cell 13;have k:=b.cell 14;have n:=b.cell 15;have p:=b.cell 16;have D:=LM (some ⟨l.a,0,none⟩);have i1:=LN (some ⟨l.a,0,none⟩);have i2:=LO (some ⟨l.a,0,none⟩);have i3:=LP (some ⟨l.a,0,none⟩);have i4:=LQ (some ⟨l.a,0,none⟩);have i5:=LR (some ⟨l.a,0,none⟩);have Q:=LS (some ⟨l.a,0,none⟩);have L:=LT (some ⟨l.a,0,none⟩);have I:=LU (some ⟨l.a,0,none⟩);have i9:=LV (some ⟨l.a,0,none⟩);have x:=J5 (some ⟨l.a,0,none⟩);have A:=J6 (some ⟨l.a,0,none⟩);have j:=J7 (some ⟨l.a,0,none⟩);have v:=J8 (some ⟨l.a,0,none⟩);have z:=J9 (some ⟨l.a,0,none⟩);have m:=Ja (some ⟨l.a,0,none⟩);unfold Vk at D i1 i2 i3 i4 i5 Q L I i9 x A j v z m;obtain ⟨O,d⟩:=pt (w.alloc (.cells #[int i64 0] 3));have i:Below w.heap.size w O:=by rw [d];exact Q3 _ _
 obtain ⟨g,c,w2,hrun,E,C⟩:=gz (N:=w.heap.size) (Q0.fresh d) i.size;rw [d] at hrun;have F:=pp (py E (after i C));clear h b E C i d;go_enter func33,ntmps33;go_upto_region 3 with fail
 refine wp_loop_rounds 17 ?_;clear R M T U G K H P J y f B u k n p;rw [rounds_succ];go_wp2_with (at_builtin;refine Lib.wpList_append_run _ rfl _ _ _ _ rfl _ _ rfl rfl _ _ hrun ?_);clear D hrun
 iterate 15 (rw [rounds_succ];go_wp2_with fail)
 rw [rounds_succ];go_wp2_with fail;go_returns;exact ⟨g,c,rfl,F.o.1,F.o.2⟩
section
variable {w wr w':World}{base:Nat}{v v' v2:Value}{bs bs2:List B8}
theorem QG.on (h:QG w base v bs v' wr)(a:Below wr.heap.size wr w'):QG w base v bs v' w':=⟨h.1.on a,h.2.1.on a,h.2.2⟩
theorem QG.trans (h:QG w base v bs v' wr)(k:QG wr base v' bs2 v2 w'):QG w base v bs2 v2 w':=by
 refine ⟨k.1,?_,?_⟩
 ·have d:Kept (λb=>v.ownBlock≠some b/\b<w.heap.size) w w':=(h.2.1.mono λb a=>a.1).trans (k.2.1.mono λb a e=>by
   rcases h.2.2 with c|c
   ·exact a.1 (c.symm.trans e)
   ·have:=c b e;have:=a.2;omega)
  exact ⟨d.os,d.tape,d.output,d.size,λb a f=>d.block b a ⟨f,a⟩⟩
 ·rcases k.2.2 with c|c
  ·rw [c];exact h.2.2
  ·refine .inr λb e=>?_
   have:=c b e;have:=h.2.1.size;omega
theorem QG.below (h:QG w base (.slice none 0 0) bs v' wr):Below w.heap.size w wr:=h.2.1.below (pA _) λb _ e=>by cases e
end
theorem gB (s wd t q:Nat)(occ:Value)(S:SS)(b:S.Q.l.length<=4096)(w:World)(M:Nat->Prop)(h:QQ s wd t q occ S w M):Calls prog 36 #[s] w λr w'=>∃v,r=.returned v/\Q5 w' w.heap.size 92 4 Qt v S.Q.l/\Below w.heap.size w w':=by
 obtain ⟨v,ds,Mw,Mq,h,c⟩:=h;have d:=pp (kA q S.Q b w Mq h.q);have s0:=h.blk.cell 0;clear h c;go_enter func36,ntmps36;go_wp2_with (go_at_call 70;refine d.o.mono ?_;rintro e_ w1 ⟨v1,rfl,(a:Hid _)⟩);go_returns;exact ⟨_,rfl,a.o.1,a.o.2⟩
def kW (N:Nat)(y:Int)(v:Value)(w:World):Prop:=∃b,v=.slice (some ⟨b,0,none⟩) 1 1/\N<=b/\Q0 w b 5 #[int u8 y]
def nR (N:Nat)(b:BD)(v:Value)(w:World):Prop:=∃g,v=.slice (some ⟨g,0,none⟩) 8 8/\N<=g/\Q0 w g 3 #[int i64 b.1,int i64 b.2.1,int i64 b.2.2.1,int i64 b.2.2.2.1,int i64 b.2.2.2.2.1,int i64 b.2.2.2.2.2.1,int i64 b.2.2.2.2.2.2.1,int i64 b.2.2.2.2.2.2.2.1]
def cY (W:World)(base:Nat)(v:Value)(bs:List B8)(b:BD):Nat->XO:=λi v' w=>match i with|3=>kW W.heap.size 0 v' w|4=>QG W base v (bs++[0]) v' w|51=>nR W.heap.size b v' w|_=>True
theorem kX {base:Nat}{v:Value}{bs:List B8}{b:BD}(g:∀b,v.ownBlock=some b->b<W.heap.size):∀i v' (w w':World),cY W base v bs b i v' w->(if i=4 then Below w.heap.size w w' else Kept (λb=>v.ownBlock≠some b) w w')->cY W base v bs b i v' w':=by
 intro i v' w w' h d;by_cases a:i=3
 ·subst a;obtain ⟨b,f,c,a⟩:=h;exact ⟨b,f,c,(show Kept _ _ _ from d).blk (λe=>by have:=g b e;omega) a⟩
 ·by_cases j:i=4
  ·subst j;exact QG.on h d
  ·by_cases k:i=51
   ·subst k;obtain ⟨b,f,c,a⟩:=h;exact ⟨b,f,c,(show Kept _ _ _ from d).blk (λe=>by have:=g b e;omega) a⟩
   ·unfold cY;split
    ·exact absurd rfl a
    ·exact absurd rfl j
    ·exact absurd rfl k
    ·trivial
theorem QG.two {w wr:World}{base:Nat}{v v':Value}{bs:List B8}(h:QG w base v bs v' wr)(k:base<=w.heap.size)(hl:bs.length<=1000000){m:Int}{x x2:B8}(q:n8 x=y)(AY:n8 x2=m)(t:Q0 wr b 5 #[int u8 y,int u8 m]):
  ∃v2 a,(Builtin.append_ #[51,51] 51 #[v',.slice (some ⟨b,0,none⟩) 2 2]).run prog wr=.ok v2 a/\Kept (λb=>v'.ownBlock≠some b) wr a/\QG w base v (bs++[x,x2]) v2 a:=by
 subst q AY;obtain ⟨i,p,f,l,e⟩:=info_parts DD;obtain ⟨v2,a,n,o,r,-,s⟩:=run_append_own_at (P:=prog) wr base 51 51 5 i (int u8 0) 1 1 underlying51 p f l e rfl (by decide) v' bs.length (bs.flatMap Yk) h.1 ⟨b,0,none⟩ 2 2 [int u8 (n8 x),int u8 (n8 x2)] rfl (λj u d=>by
  have hj:j<2:=(List.getElem?_eq_some_iff.1 d).1;rw [Addr.add_lit,Nat.zero_add,t.cell];simpa using d) (by intro u d;simp at d;rcases d with rfl|rfl<;>rfl) (by simp [maxLen];omega) (by omega) (pB k h.2.1.size)
 have c:=XQ r;have g:QG wr base v' (bs++[x,x2]) v2 a:=by
  refine ⟨?_,c,?_⟩
  ·unfold Q5;rw [List.length_append,List.flatMap_append];exact o
  ·rcases s with h|h
   ·exact .inl h
   ·refine .inr λb k=>?_
    rw [k] at h;simp at h;omega
 exact ⟨v2,a,n,c,h.trans g⟩
theorem QG.first {w c w':World}{bs:List B8}{v':Value}(a:pM w c)(h:QG c c.heap.size (.slice none 0 0) bs v' w'):QG w w.heap.size (.slice none 0 0) bs v' w':=by
 refine ⟨h.1.lowB a.size,((Kept.of_below a).mono λ_ _=>trivial).trans h.2.1,.inr λb e=>?_⟩
 have:=(h.1.block b e).1;have:=a.size;omega
theorem Mk (f:QI->List B8)(hf:∀x,(f x).length=24):∀l:List QI,(l.flatMap f).length=l.length * 24
 | []=>rfl
 | x::l=>by
  rw [List.flatMap_cons,List.length_append,hf,Mk f hf l,List.length_cons];omega
theorem kY (n:Int)(e:0<=n)(h1:n<128)(w:World):Calls prog 228 #[n] w λr w'=>∃v,r=.returned v/\QG w w.heap.size (.slice none 0 0) [BitVec.ofInt 8 n] v w':=by
 obtain ⟨v1,w1,hrun,a⟩:=(QG.refl (w:=w) (base:=w.heap.size) (v:=.slice none 0 0) (bs:=[]) Q5.nil).push (pA _) (by simp) ((QF n).trans (show n%256=n by omega))
 rw [List.nil_append] at a;have b:=pp a;have c:¬n<0:=by omega
 have h3:decide (n<0)=false:=decide_eq_false c;have d:¬1048576<n:=by omega
 have h5:decide (1048576<n)=false:=decide_eq_false d;have h6:¬128<=n:=by omega
 clear a e;go_enter func228,ntmps228;go_upto_region 4 with fail
 refine wp_loop_rounds 1 ?_;rw [rounds_succ];go_wp2_with (at_builtin;refine Lib.wpList_append_run _ rfl _ _ _ _ rfl _ _ rfl rfl _ _ hrun ?_);go_returns;exact ⟨_,rfl,b.o⟩
theorem ng:∀a:Nat,a<256->bits BinOp.or IntKind.u8 (a:Int) 128=((a%128+128:Nat):Int):=by decide +kernel
theorem Jd (n:Int):bits BinOp.or IntKind.u8 (n%256) 128=n%128+128:=by
 obtain ⟨a,b⟩:∃a:Nat,n%256=a:=⟨(n%256).toNat,by omega⟩
 rw [b,ng a (by omega)]
 omega
theorem kZ (n:Int)(h0:128<=n)(h1:n<16384)(w:World):Calls prog 228 #[n] w λr w'=>∃v,r=.returned v/\QG w w.heap.size (.slice none 0 0) [BitVec.ofInt 8 (n%128+128),BitVec.ofInt 8 (n / 128)] v w':=by
 obtain ⟨v1,w1,hrun,c⟩:=(QG.refl (w:=w) (base:=w.heap.size) (v:=.slice none 0 0) (bs:=[]) Q5.nil).push (pA _) (by simp) (((QF (n%128+128)).trans (show (n%128+128)%256=n%128+128 by omega)).trans (Jd n).symm)
 obtain ⟨v2,w2,a,b⟩:=c.push (pA _) (by simp) ((QF (n / 128)).trans (show n / 128%256=n / 128 by omega))
 replace b:=pp b;clear c;have d:¬n<0:=by omega
 have h3:decide (n<0)=false:=decide_eq_false d;have e:¬1048576<n:=by omega
 have h5:decide (1048576<n)=false:=decide_eq_false e;have h6:128<=n:=by omega
 have h7:¬128<=n / 128:=by omega
 go_enter func228,ntmps228;go_upto_region 4 with fail
 refine wp_loop_rounds 2 ?_;rw [rounds_succ];go_wp2_with (at_builtin;refine Lib.wpList_append_run _ rfl _ _ _ _ rfl _ _ rfl rfl _ _ hrun ?_);rw [rounds_succ];go_wp2_with (at_builtin;refine Lib.wpList_append_run _ rfl _ _ _ _ rfl _ _ rfl rfl _ _ a ?_);go_returns;exact ⟨_,rfl,b.o⟩
theorem l9 (n:Int)(h0:16384<=n)(h1:n<=1048576)(w:World):Calls prog 228 #[n] w λr w'=>∃v,r=.returned v/\QG w w.heap.size (.slice none 0 0) [BitVec.ofInt 8 (n%128+128),BitVec.ofInt 8 (n / 128%128+128),BitVec.ofInt 8 (n / 128 / 128)] v w':=by
 obtain ⟨v1,w1,hrun,e⟩:=(QG.refl (w:=w) (base:=w.heap.size) (v:=.slice none 0 0) (bs:=[]) Q5.nil).push (pA _) (by simp) (((QF (n%128+128)).trans (show (n%128+128)%256=n%128+128 by omega)).trans (Jd n).symm)
 obtain ⟨v2,w2,b,c⟩:=e.push (pA _) (by simp) (((QF (n / 128%128+128)).trans (show (n / 128%128+128)%256=n / 128%128+128 by omega)).trans (Jd (n / 128)).symm)
 obtain ⟨v3,w3,a,d⟩:=c.push (pA _) (by simp) ((QF (n / 128 / 128)).trans (show n / 128 / 128%256=n / 128 / 128 by omega))
 replace d:=pp d;clear e c;have f:¬n<0:=by omega
 have h3:decide (n<0)=false:=decide_eq_false f;have g:¬1048576<n:=by omega
 have h5:decide (1048576<n)=false:=decide_eq_false g;have h6:128<=n:=by omega
 have h7:128<=n / 128:=by omega
 have h8:¬128<=n / 128 / 128:=by omega
 go_enter func228,ntmps228;go_upto_region 4 with fail
 refine wp_loop_rounds 3 ?_;rw [rounds_succ];go_wp2_with (at_builtin;refine Lib.wpList_append_run _ rfl _ _ _ _ rfl _ _ rfl rfl _ _ hrun ?_);rw [rounds_succ];go_wp2_with (at_builtin;refine Lib.wpList_append_run _ rfl _ _ _ _ rfl _ _ rfl rfl _ _ b ?_);rw [rounds_succ];go_wp2_with (at_builtin;refine Lib.wpList_append_run _ rfl _ _ _ _ rfl _ _ rfl rfl _ _ a ?_);go_returns;exact ⟨_,rfl,d.o⟩
def A4 (n:Int):List B8:=if n<128 then [BitVec.ofInt 8 n] else if n<16384 then [BitVec.ofInt 8 (n%128+128),BitVec.ofInt 8 (n / 128)] else [BitVec.ofInt 8 (n%128+128),BitVec.ofInt 8 (n / 128%128+128),BitVec.ofInt 8 (n / 128 / 128)]
theorem nh (n:Int)(d:0<=n)(c:n<=1048576)(w:World):Calls prog 228 #[n] w λr w'=>∃v,r=.returned v/\QG w w.heap.size (.slice none 0 0) (A4 n) v w':=by
 unfold A4;by_cases a:n<128
 ·rw [if_pos a];exact kY n d a w
 ·rw [if_neg a];by_cases b:n<16384
  ·rw [if_pos b];exact kZ n (by omega) b w
  ·rw [if_neg b];exact l9 n (by omega) c w
theorem ld:∀a:Nat,a<128->bits BinOp.or IntKind.i64 0 (wrap64 (wrap64 (bits BinOp.andNot IntKind.u8 (a:Int) 128)))=(a:Int):=by decide +kernel
theorem lh (g o m c:Nat)(n:Int)(h0:0<n)(h1:n<128)(hm:1<=m)(hc:m<=c)(hl:m<=1000000)(w:World)(hB:w.cell? ⟨g,o,none⟩=some (int u8 n)):Calls prog 167 #[.slice (some ⟨g,o,none⟩) m c] w λr w'=>r=.returned (.tuple #[n,int i64 1,int i64 0])/\w=w':=by
 have hmn:=@YY prog;obtain ⟨k,b⟩:∃k:Nat,Xj (m:Int) 3=k:=⟨(Xj m 3).toNat,by unfold Xj;omega⟩
 have hk1:0<(k:Int):=by unfold Xj at b;omega
 have hk2:(k:Int)<=(c:Int):=by unfold Xj at b;omega
 have hk3:(0:Int)<=(k:Int):=by omega
 have d:bits BinOp.or IntKind.i64 0 (wrap64 (wrap64 (bits BinOp.andNot IntKind.u8 n 128)))=n:=by
  obtain ⟨a,e⟩:∃a:Nat,n=a:=⟨n.toNat,by omega⟩
  rw [e];exact ld a (by omega)
 have q1:¬128<=n:=by omega
 have q2:(n==0)=false:=by simp;omega
 have q3:decide (1048576<n)=false:=decide_eq_false (by omega)
 have q4:¬1048576<n:=by omega
 go_enter func167,ntmps167;go_upto_region 3 with fail
 refine wp_loop_rounds 1 ?_;rw [rounds_succ];go_upto_region 6 with fail
 clear d;go_wp2_with fail;go_returns;exact ⟨rfl,rfl⟩
theorem Je:∀{R:List Rn} {k:Nat} {p a:Rn},Xl R->R[k]?=some p->R[k+1]?=some a->p.2≠a.2
 | [],k,_,_,_,h,_=>by simp at h
 | [r],k,_,_,_,_,h=>by simp at h
 | r::s::R,0,p,a,c,h,b=>by
  obtain rfl:r=p:=by simpa using h
  obtain rfl:s=a:=by simpa using b
  exact c.2.1
 | r::s::R,k+1,p,a,c,h,b=>Je (R:=s::R) (k:=k) c.2.2 (by simpa using h) (by simpa using b)
theorem SQ (w:World)(q:Option Addr)(c:Nat)(R:List Rn)(hR:Rd w q 2 Xd R)(I:Xl R)(M:∀r∈R,Zi r.2=true)(n:Int)(hn:Qh R=n)(L:0<n)(hm:n<=1000000):
  Calls prog 168 #[.slice q R.length c,n] w λr w'=>r=.returned (.bool true)/\Below w.heap.size w w':=by
 have G:R.length<=maxLen:=by
  have:=XD I.pos;unfold maxLen;omega
 have HR:=pp hR;have T:=pp (ZG λr hr=>by have:=I.pos r hr;omega)
 have HC:=pp G;have HP:=pp I;have HK:=pp M;have Q:=pp hn;clear hR G I M;go_enter func168,ntmps168;go_upto_region 3 with fail
 go_loopw [5,11] (λx i wr=>∃k:Nat,k<=R.length/\i=.int .i64 k/\x=.int .i64 (n - Qh (R.take k))/\pM w wr) (λ_ i _=>R.length - (intOf i).toNat)
 case atStart=>exact ⟨0,pC _,rfl,by simp [Qh],pI _ _⟩
 case round=>
  obtain ⟨k,M,rfl,rfl,e⟩:=hrel;by_cases f:k<R.length
  ·obtain ⟨⟨a,b⟩,p⟩:=V9 f;obtain ⟨g,o,rfl,E⟩:=HR.o.on e (by omega)
   have P:wr.cell? ⟨g,o+k * 2,none⟩=some (int i64 a):=E k _ p 0 _ rfl;have V:wr.cell? ⟨g,o+k * 2+1,none⟩=some (int i64 b):=E k _ p 1 _ rfl;have l:=ZH p;have C:=T.o (k+1);have F:=T.o k;rw [l,Q.o] at C;have h:=HP.o.pos _ (pG p);have z:=HK.o _ (pG p);obtain ⟨n2,n3,U,Y⟩:=Uf f HC.o;obtain ⟨W,A⟩:=pt (wr.alloc (.cells #[int i64 a,int i64 b] 235));have H:pM wr W:=by rw [A];exact Q3 _ _
   obtain ⟨x0,x1⟩:=(Q0.fresh A).rep;have y:=pp λW2=>Dd b W2
   rw [z] at y;have X:=pp (after e H);have e1:¬a<1:=by dsimp only at h;omega
   have e1':decide (a<1)=false:=decide_eq_false e1;obtain ⟨s,N⟩:=pt (n - Qh (R.take k));have e2:¬s<a:=by dsimp only at C;omega
   have e2':decide (s<a)=false:=decide_eq_false e2;have hsw:IntKind.i64.wrap (s - a)=s - a:=pJ _ (by dsimp only at h C;omega)
   have Z:=pp (show s - a=n - Qh (R.take (k+1)) by rw [l];dsimp only;omega)
   have K:IntKind.i64.wrap ((k:Int)+1)=(k:Int)+1:=pJ _ (by omega)
   rw [<-N];rcases Nat.eq_zero_or_pos k with m|m
   ·have O:¬(0:Int)<(k:Int):=by omega
    have D:decide ((0:Int)<(k:Int))=false:=decide_eq_false O;have t:¬0<k:=by omega
    have J:decide (0<k)=false:=decide_eq_false t;clear p l C F h z e H N E U Y m L hm;go_upto_region 5 with fail
    rw [<-A];clear A P V;refine wp_region_quiet_below (by kernel_rfl) (by kernel_rfl) ?_
    repeat (go_big_quiet_step (exact Calls.regrown_of (y.o _)))
    refine wpQuiet_nil ?_;intro w' v;obtain ⟨rg,rfl⟩:=v;go_wp2_with fail;go_roundw
    case rel=>exact ⟨k+1,f,by go_num,by rw [Z.o],after X.o (pK _ _ _)⟩
    case measure=>simp [intOf];omega
   ·obtain ⟨j,S⟩:∃j,k=j+1:=⟨k - 1,by omega⟩
    obtain ⟨⟨a',b'⟩,hp'⟩:=V9 (show j<R.length by omega)
    have B:=Je (k:=j) HP.o hp' (by rw [<-S];exact p)
    have z1:wr.cell? ⟨g,o+j * 2+1,none⟩=some (int i64 b'):=E j _ hp' 1 _ rfl;have u:=Yt H (QN z1);rw [z1] at u;have z1':=λd os=>cell_regrown (d:=d) (os:=os) u
    have O:(0:Int)<(k:Int):=by omega
    have D:decide ((0:Int)<(k:Int))=true:=decide_eq_true O;have t:0<k:=m;have J:decide (0<k)=true:=decide_eq_true t;have e4:IntKind.i64.wrap ((k:Int) - 1)=(j:Int):=by rw [pJ _ (by omega)];omega
    have e5:(0:Int)<=(j:Int):=by omega
    have e6:(j:Int)<(R.length:Int):=by omega
    have e7:(b'==b)=false:=by simpa using B
    clear p l C F h z e H N E z1 u hp' B U Y m S L hm;go_upto_region 5 with fail
    rw [<-A];clear A P V;refine wp_region_quiet_below (by kernel_rfl) (by kernel_rfl) ?_
    repeat (go_big_quiet_step (exact Calls.regrown_of (y.o _)))
    refine wpQuiet_nil ?_;intro w' v;obtain ⟨rg,rfl⟩:=v;go_wp2_with fail;go_roundw
    case rel=>exact ⟨k+1,f,by go_num,by rw [Z.o],after X.o (pK _ _ _)⟩
    case measure=>simp [intOf];omega
  ·obtain rfl:k=R.length:=by omega
   have K:¬((R.length:Int)<(R.length:Int)):=by omega
   rw [List.take_length,Q.o,Int.sub_self];have D:decide ((0:Int)<n)=true:=decide_eq_true L;go_wp2_with fail;go_returns;exact ⟨rfl,e⟩
theorem QG.app {w wr:World}{base:Nat}{v v':Value}{bs bs2:List B8}(h:QG w base v bs v' wr)(l:base<=w.heap.size)(p:bs.length+bs2.length<=1000000){g2 o2 c2:Nat}(n:∀(j:Nat) (x:B8),bs2[j]?=some x->wr.cell? ⟨g2,o2+j,none⟩=some (int u8 (n8 x))):
  ∃v2 d,(Builtin.append_ #[51,51] 51 #[v',.slice (some ⟨g2,o2,none⟩) bs2.length c2]).run prog wr=.ok v2 d/\Kept (λb=>v'.ownBlock≠some b) wr d/\QG w base v (bs++bs2) v2 d:=by
 obtain ⟨i,r,g,m,f⟩:=info_parts DD;have c:bs2.flatMap Yk=bs2.map λb=>Value.int .u8 (n8 b):=by
  clear n p;induction bs2 with
  | nil=>rfl
  | cons b bs s=>rw [List.flatMap_cons,s,List.map_cons];rfl
 obtain ⟨v2,d,o,q,t,-,y⟩:=run_append_own_at (P:=prog) wr base 51 51 5 i (int u8 0) 1 1 underlying51 r g m f rfl (by decide) v' bs.length (bs.flatMap Yk) h.1 ⟨g2,o2,none⟩ bs2.length c2 (bs2.flatMap Yk) (by rw [c];simp) (λj u a=>by
  rw [c,List.getElem?_map] at a;cases hx:bs2[j]? with
  | none=>rw [hx] at a;cases a
  | some x=>
   rw [hx] at a;obtain rfl:Value.int .u8 (n8 x)=u:=by simpa using a
   rw [Addr.add_lit];exact n j x hx) (by
   intro u a;rw [c] at a;obtain ⟨x,-,rfl⟩:=List.mem_map.1 a;rfl) (by simp only [maxLen];omega) (by omega) (pB l h.2.1.size)
 have e:=XQ t;have k:QG wr base v' (bs++bs2) v2 d:=by
  refine ⟨?_,e,?_⟩
  ·unfold Q5;rw [List.length_append,List.flatMap_append];exact q
  ·rcases y with h|h
   ·exact .inl h
   ·refine .inr λb l=>?_
    rw [l] at h;simp at h;omega
 exact ⟨v2,d,o,e,h.trans k⟩
def QZ (R:List Rn):List B8:=R.flatMap λr=>BitVec.ofInt 8 r.2::A4 r.1
theorem At (n:Int):(A4 n).length<=3/\1<=(A4 n).length:=by
 unfold A4;split
 ·simp
 ·split<;>simp
theorem Ml {p:Rn}(h:R[k]?=some p):QZ (R.take (k+1))=QZ (R.take k)++[BitVec.ofInt 8 p.2]++A4 p.1:=by
 rw [Uv h];unfold QZ;rw [List.flatMap_append];simp
theorem Dk:∀R:List Rn,(QZ R).length<=4 * R.length
 | []=>by simp [QZ]
 | r::R=>by
  have h1:=Dk R;have h2:=(At r.1).1;unfold QZ at *;rw [List.flatMap_cons,List.length_append,List.length_cons,List.length_cons];omega
def Mm (N:Nat)(bs:List B8)(v:Value)(w:World):Prop:=∃g c,v=.slice (some ⟨g,0,none⟩) bs.length c/\Q5 w N 5 1 Yk v bs
def cZ (W:World)(base:Nat)(v:Value)(bs:List B8)(x:B8)(y:Int)(nb:List B8):Nat->XO:=λi v' w=>match i with|4=>kW W.heap.size y v' w|5=>QG W base v (bs++[x]) v' w|8=>Mm W.heap.size nb v' w|_=>True
theorem lk {base:Nat}{v:Value}{bs nb:List B8}{x:B8}(k:∀b,v.ownBlock=some b->b<W.heap.size):∀i v' (w w':World),cZ W base v bs x y nb i v' w->(if i=5 then Below w.heap.size w w' else Kept (λb=>v.ownBlock≠some b) w w')->cZ W base v bs x y nb i v' w':=by
 intro i v' w w' h f;by_cases d:i=4
 ·subst d;obtain ⟨b,j,a,d⟩:=h;exact ⟨b,j,a,(show Kept _ _ _ from f).blk (λe=>by have:=k b e;omega) d⟩
 ·by_cases l:i=5
  ·subst l;exact QG.on h f
  ·by_cases m:i=8
   ·subst m;obtain ⟨g,c,j,a⟩:=h;refine ⟨g,c,j,a.keep (show Kept _ _ _ from f) λb n e=>?_⟩
    have:=(QC a n).1;have:=k b e;omega
   ·unfold cZ;split
    ·exact absurd rfl d
    ·exact absurd rfl l
    ·exact absurd rfl m
    ·trivial
theorem Mm.of {w w':World}{bs:List B8}{v:Value}{N:Nat}(h:QG w w.heap.size (.slice none 0 0) bs v w')(e:N<=w.heap.size)(d:0<bs.length):Mm N bs v w':=by
 obtain ⟨q,c,b,-,-,-,-,a⟩:=h.1.form bg;obtain ⟨g,rfl⟩:=a d;exact ⟨g,c,b,h.1.lowB e⟩
theorem ni (n:Int):(Oh n).length=1:=rfl
def de (b:BD):B8:=if b.2.2.2.2.2.2.2.2 then 1 else 0
def Fc (b:BD):List B8:=[0]++YX [b.1,b.2.1,b.2.2.1,b.2.2.2.1,b.2.2.2.2.1,b.2.2.2.2.2.1,b.2.2.2.2.2.2.1,b.2.2.2.2.2.2.2.1]++[de b]
def Vu (x:QI):List B8:=YX [x.1,x.2.1,x.2.2.1,x.2.2.2]
def Vv (now:Int)(b:BD)(l:List QI):List B8:=YX [now]++[1]++Fc b++[BitVec.ofInt 8 ((l.length:Int) / 256),BitVec.ofInt 8 (l.length:Int)]++l.flatMap Vu
theorem QG.push2 {w wr:World}{base:Nat}{v v':Value}{bs:List B8}(h:QG w base v bs v' wr)(n:base<=w.heap.size)(hl:bs.length<=1000000){x:B8}(p:n8 x=y)(s:Q0 wr b 5 #[int u8 y]):
  ∃v2 d,(Builtin.append_ #[51,51] 51 #[v',.slice (some ⟨b,0,none⟩) 1 1]).run prog wr=.ok v2 d/\Kept (λb=>b∉v'.ownBlock.toList) wr d/\QG w base v (bs++[x]) v2 d:=by
 subst p;obtain ⟨g,c,d,hrun,o,a,m⟩:=Yr (P:=prog) (base:=base) (e:=5) (size:=1) (enc:=Yk) (v:=v') (xs:=bs) (ts:=51) (ty:=51) (b:=b) (x:=x) underlying51 DD rfl (by decide) (by decide) rfl (by intro u f;simp [Yk] at f;rcases f with rfl;rfl) h.1 (λj u f=>by rw [s.cell j];simpa [Yk] using f) (by omega) (pB n h.2.1.size)
 have i:=XQ a;have l:QG wr base v' (bs++[x]) (.slice (some ⟨g,0,none⟩) (bs.length+1) c) d:=⟨o,i,m.imp (λe=>by rw [e];rfl) λe b n=>by
  have e2:b=g:=by simpa [Value.ownBlock] using n.symm
  omega⟩
 exact ⟨_,d,hrun,⟨a.os,a.tape,a.output,a.size,λk q r=>a.block k q (λe=>r (by rw [Option.mem_toList];exact e.symm))⟩,h.trans l⟩
theorem JO (e s wd t q:Nat)(occ:Value)(S:SS)(l:Lf)(hl:S.Q.l.length<=2000)(w:World)(M:Nat->Prop)(h:Qr e s wd t q occ S (some l) w M):
  Calls prog 19 #[e] w λr w'=>∃v,r=.returned v/\QG w w.heap.size (.slice none 0 0) (Vv S.now l.b S.Q.l) v w':=by
 obtain ⟨Ms,h,hM⟩:=h;have HS:=pp h;have be:=pp (gA e s wd t q occ S l w Ms h);have hE:Q0 w e 71 (Ua s (some ⟨l.a,0,none⟩)):=h.blk;have HN:=pp λW (g:pM w W)=>SC s wd t q occ S W Ms (h.on g).sim
 have HE:=pp hE;have al:=pp (h.life l rfl);have ai:=pp hl;clear h hM hE hl;go_enter func19,ntmps19;go_upto_region 2 with (go_at_call 33;refine be.o.mono ?_;rintro e_ w1 ⟨g1,c1,rfl,(HV:Hid _)⟩)
 have aw:=HE.o.on HV.o.2;have e0:=aw.cell 0;have bn:=pp (HN.o w1 HV.o.2);have G1:=pp HV.o.2;obtain ⟨W2,I⟩:=pt (w1.alloc (.cells #[int i64 S.now] 3));have b2:pM w1 W2:=by rw [I];exact Q3 _ _
 have HP:=pp (Mg W2.heap.size w1.heap.size (.slice none 0 0) [] [S.now] (by simp) (by simp) W2 Q5.nil (pA _) (Q0.fresh I) (λe=>by cases e))
 rw [List.nil_append] at HP;have G2:=pp (after G1.o b2);clear aw b2 HN be;rw [I] at HP;go_upto_region 3 with first
  | (go_at_call 35;refine bn.o.mono ?_;rintro e_ wx ⟨rfl,rfl⟩)
  | (go_at_call 34;refine HP.o.mono ?_;rintro e_ w3 ⟨v3,rfl,g3⟩;rw [<-I] at g3;obtain ⟨v4,w4,U,g4⟩:=g3.push (x:=1) (y:=1) (pA _) (by rw [YT];simp) (by decide);have c:=pp g4;clear g3 g4)
  | (at_builtin;refine Lib.wpList_append_run _ rfl _ _ _ _ rfl _ _ rfl rfl _ _ U ?_;clear U)
 clear e0;have G4:=pp (after G2.o c.o.below);have bz:w4.cell? ⟨g1,0,none⟩=some (int i64 0):=by
  have bx:=(HV.o.1.on (show pM w1 w4 from (show pM w1 W2 by rw [I];exact Q3 _ _).trans (c.o.below.mono (by rw [I];exact (Q3 _ _).size))))
  obtain ⟨q',au,ac,-,-,bw,-⟩:=bx.form ni;obtain ⟨g',o',e1,h5⟩:=bw (by simp)
  obtain ⟨e2,-,-⟩:=Value.slice.inj ac;rw [<-e2] at e1;obtain ⟨rfl,rfl⟩:g1=g'/\0=o':=by simpa using e1
  have:=h5 0 0 rfl 0 _ rfl;simpa using this
 have e1:=(HE.o.on G4.o).cell 1;have a7:=pp λb (hb:v4.ownBlock=some b)=>c.o.1.block b hb
 have bc:v4.ownBlock≠some l.a:=λe=>by
  have h1:=(a7.o _ e).1;have h2:=al.o.lt;have h3:=G2.o.size;omega
 have ap:=al.o.on G4.o;have m:=pp ap;have u:=pp bc;clear ap bc;go_upto_region 4 with fail
 refine wp_loop_rounds 2 ?_;rw [rounds_succ];go_upto_region 7 with fail
 clear e1 bz;have m0:=λf d os=>(m.o.sp (QR u.o) f d os).cell 0
 have m1:=λf d os=>(m.o.sp (QR u.o) f d os).cell 1
 have m2:=λf d os=>(m.o.sp (QR u.o) f d os).cell 2
 have m3:=λf d os=>(m.o.sp (QR u.o) f d os).cell 3
 have m4:=λf d os=>(m.o.sp (QR u.o) f d os).cell 4
 have m5:=λf d os=>(m.o.sp (QR u.o) f d os).cell 5
 have m6:=λf d os=>(m.o.sp (QR u.o) f d os).cell 6
 have m7:=λf d os=>(m.o.sp (QR u.o) f d os).cell 7
 refine VI [0,0,0,2,2,0,0,0,0,0,0,0,0,0,0,0,0,0,0,0,0,0,0,0,0,0,0,0,0,0,0,0,0,0,0,0,0,0,0,0,0,0,0,0,0,0,0,0,0,0,0,2,3,3] 4 (v4.ownBlock) (cY w4 W2.heap.size v4 (YX [S.now]++[1]) l.b) (by kernel_rfl) (by kernel_rfl) (kX (λb hb=>(a7.o b hb).2)) ?_
 repeat (first|(refine Qi ?_)|(refine Qf (λK hK=>?_);go_simp;refine hK _ ?_;clear hK K))
 refine Q8 ?_;refine Q2 ?_;refine Q2 ?_;refine Q2 ?_;refine Qv ?lsA (λv_=>?_)
 case lsA=>(intro w_ A L;(first|(dsimp only at J;obtain ⟨b9,rfl,ay,Y⟩:=J.2 (by kernel_rfl);obtain ⟨v9,w9,X,V,O⟩:=((QG.refl c.o.1).on (Y9 A L)).push2 c.o.below.size (by rw [List.length_append,YT];simp) (x:=0) (y:=0) (by decide) Y;exact Xe _ _ _ _ rfl _ _ rfl rfl v9 w9 X V O)|(go_simp;exact ⟨Kept.of_below ((pI _ _).alloc (pA _) _),_,rfl,(Qb A).size,Q0.new' rfl⟩)))
 refine Xz ?lsA (λv_=>?_)
 case lsA=>(intro w_ A L J;(first|(dsimp only at J;obtain ⟨b9,rfl,ay,Y⟩:=J.2 (by kernel_rfl);obtain ⟨v9,w9,X,V,O⟩:=((QG.refl c.o.1).on (Y9 A L)).push2 c.o.below.size (by rw [List.length_append,YT];simp) (x:=0) (y:=0) (by decide) Y;exact Xe _ _ _ _ rfl _ _ rfl rfl v9 w9 X V O)|(go_simp;exact ⟨Kept.of_below ((pI _ _).alloc (pA _) _),_,rfl,(Qb A).size,Q0.new' rfl⟩)))
 refine Q2 ?_;refine Q2 ?_;refine Q2 ?_;refine Q2 ?_;refine Q2 ?_;refine Q2 ?_;refine Q2 ?_;refine Q2 ?_;refine Q2 ?_;refine Q2 ?_;refine Q2 ?_;refine Q2 ?_;refine Q2 ?_;refine Q2 ?_;refine Q2 ?_;refine Q2 ?_;refine Q2 ?_;refine Q2 ?_;refine Q2 ?_;refine Q2 ?_;refine Q2 ?_;refine Q2 ?_;refine Q2 ?_;refine Q2 ?_;refine Q2 ?_;refine Q2 ?_;refine Q2 ?_;refine Q2 ?_;refine Q2 ?_;refine Q2 ?_;refine Q2 ?_;refine Q2 ?_;refine Q2 ?_;refine Q2 ?_;refine Q2 ?_;refine Q2 ?_;refine Q2 ?_;refine Q2 ?_;refine Q2 ?_;refine Q2 ?_;refine Q2 ?_;refine Q2 ?_;refine Q2 ?_;refine Q2 ?_;refine Q2 ?_;refine Q2 ?_;refine Qv ?lsA (λv_=>?_)
 case lsA=>(intro w_ A L;(first|(dsimp only at J;obtain ⟨b9,rfl,ay,Y⟩:=J.2 (by kernel_rfl);obtain ⟨v9,w9,X,V,O⟩:=((QG.refl c.o.1).on (Y9 A L)).push2 c.o.below.size (by rw [List.length_append,YT];simp) (x:=0) (y:=0) (by decide) Y;exact Xe _ _ _ _ rfl _ _ rfl rfl v9 w9 X V O)|(go_simp;exact ⟨Kept.of_below ((pI _ _).alloc (pA _) _),_,rfl,(Qb A).size,Q0.new' rfl⟩)))
 refine Q2 ?_;refine Q2 ?_;refine XX ?_;simp only [Qd];rename_i va vb;rintro W7 k7 ⟨⟨⟨-,h3⟩,a5⟩,ar⟩;obtain ⟨b3,rfl,-,-⟩:=(show kW w4.heap.size 0 va W7 from h3);have D:QG w4 W2.heap.size v4 (YX [S.now]++[1]++[0]) vb W7:=a5;obtain ⟨g7,rfl,av,an⟩:=(show nR w4.heap.size l.b _ W7 from ar);have aj:=c.o.trans D;have a3:=Mg W2.heap.size g7 vb (YX [S.now]++[1]++[0]) [l.b.1,l.b.2.1,l.b.2.2.1,l.b.2.2.2.1,l.b.2.2.2.2.1,l.b.2.2.2.2.2.1,l.b.2.2.2.2.2.2.1,l.b.2.2.2.2.2.2.2.1] (by simp) (by rw [List.length_append,List.length_append,YT];simp) W7 D.1 aj.below.size an (λe=>?_)
 ·have bg:=pp a3;have bf:=pp aj;have K7:=pp k7;clear h3 a5 ar D av an aj a3 k7 m0 m1 m2 m3 m4 m5 m6 m7;go_upto_region 8 with (go_at_call 34;refine bg.o.mono ?_;rintro e_ w8 ⟨v8,rfl,g8⟩;have aq:=pp (bf.o.trans g8);clear g8)
  have G8:=pp (after G2.o aq.o.below);have m8:=(al.o.on G8.o).cell 8;obtain ⟨st,ag⟩:=pt l.b.2.2.2.2.2.2.2.2;have bs:w8.cell? ⟨l.a,8,none⟩=some (.bool st):=by rw [ag];exact m8
  obtain ⟨v9,w9,B,ao⟩:=aq.o.push (x:=if st then 1 else 0) (y:=if st then 1 else 0) (pA _) (by simp [YT]) (by cases st<;>decide)
  have e9:YX [S.now]++[1]++[0]++YX [l.b.1,l.b.2.1,l.b.2.2.1,l.b.2.2.2.1,l.b.2.2.2.2.1,l.b.2.2.2.2.2.1,l.b.2.2.2.2.2.2.1,l.b.2.2.2.2.2.2.2.1]++[if st then 1 else 0]=YX [S.now]++[1]++Fc l.b:=by
   unfold Fc de;rw [ag];simp
  rw [e9] at ao;have am:=pp ao;clear m8 ag ao e9;cases st
  all_goals
   simp only [if_true,if_false,Bool.false_eq_true] at B;go_wp2_with (at_builtin;refine Lib.wpList_append_run _ rfl _ _ _ _ rfl _ _ rfl rfl _ _ B ?_);clear bs B;rw [rounds_succ];go_upto_region 12 with fail
   have G9:=pp (after G2.o am.o.below);have e0:=(HE.o.on G9.o).cell 0;have a1:=pp (gB s wd t q occ S (by have:=ai.o;omega) w9 Ms (HS.o.on G9.o).sim)
   go_upto_region 13 with (go_at_call 36;refine a1.o.mono ?_;rintro e_ ba ⟨v10,rfl,ah,a6⟩;have aa:=pp (py ah a6);obtain ⟨q10,bi,rfl,ad,-,-,-,-⟩:=ah.form Xq;have bd:=pp ad;clear ah a6 ad)
   clear e0 a1;have bo:=@YY prog;have bt:Xj (S.Q.l.length:Int) 2000=(S.Q.l.length:Int):=by have:=ai.o;unfold Xj;omega
   have bq:(0:Int)<=(S.Q.l.length:Int):=by omega
   have bu:(S.Q.l.length:Int)<=(bi:Int):=by have:=bd.o;omega
   go_upto_region 14 with fail
   obtain ⟨br,R⟩:=pt (ba.alloc (.cells #[int u8 ((S.Q.l.length:Int) / 256%256),int u8 ((S.Q.l.length:Int)%256)] 5));have G:pM ba br:=by rw [R];exact Q3 _ _
   obtain ⟨bb,b4,j,z,i⟩:=((am.o.on aa.o.2).on G).two (x:=BitVec.ofInt 8 ((S.Q.l.length:Int) / 256)) (x2:=BitVec.ofInt 8 (S.Q.l.length:Int)) (pA _) (by simp [YT,Fc]) (QF _) (QF _) (Q0.fresh R)
   have az:=pp (py i (py (z.mono (K':=λb=>v9.ownBlock≠some b) λ_ h=>h) G))
   rw [R] at j;clear bo bt z i G;go_upto_region 15 with (at_builtin;refine Lib.wpList_append_run _ rfl _ _ _ _ rfl _ _ rfl rfl _ _ j ?_)
   clear j;obtain ⟨n,hn⟩:=pt S.Q.l.length;have a9:=pp hn;have hnm:n<=2000:=by have:=ai.o;omega
   rw [<-hn];clear hn bq bu;obtain ⟨p,Z⟩:=pt (YX [S.now]++[1]++Fc l.b++[BitVec.ofInt 8 ((S.Q.l.length:Int) / 256),BitVec.ofInt 8 (S.Q.l.length:Int)]);have a2:p.length<=100:=by rw [Z];simp [YT,Fc]
   have N:=az.o;rw [<-Z] at N;have b0:=pp Z;have bm:=pp a2;have HQ:=pp N;clear N Z a2 az;go_upto_region 16 with fail
   go_loopw [4,10,124] (λbv _ kv wr=>∃k:Nat,kv=.int .i64 k/\Hid (k<=n)/\Hid (QG b4 W2.heap.size bb (p++(S.Q.l.take k).flatMap Vu) bv wr)) (λ_ _ kv _=>n - (intOf kv).toNat)
   case atStart=>exact ⟨0,rfl,pC _,pp (by have:=QG.refl HQ.o.1.1;simpa using this)⟩
   case round=>
    obtain ⟨k,rfl,hk,HG⟩:=hrel;by_cases bk:k<n
    ·have hin:(k:Int)<(n:Int):=by omega
     have hi0:(0:Int)<=(k:Int):=by omega
     have YV:IntKind.i64.wrap ((k:Int)+1)=(k:Int)+1:=pJ _ (by omega)
     have b1:=a9.o;obtain ⟨x,hx⟩:∃x,S.Q.l[k]?=some x:=⟨_,pH (by omega)⟩
     obtain ⟨i,z,G⟩:=HQ.o;obtain ⟨q',au,ac,-,-,-,-,a8⟩:=aa.o.1.form Xq;obtain ⟨H,rfl⟩:=a8 (by omega)
     obtain ⟨rfl,-,-⟩:=Value.slice.inj ac;have bl:=aa.o.1.block H rfl;have h9:v9.ownBlock≠some H:=λe=>by have:=(am.o.1.block _ e).2;omega
     have T:=(aa.o.1.on G).keep z λb hb e=>by
      have e2:H=b:=by simpa [Value.ownBlock] using hb
      exact h9 (by rw [e2];exact e)
     have ae:bb.ownBlock≠some H:=λe=>by
      obtain ⟨-,cur,h4⟩:=QC i.1 e;obtain ⟨-,cur2,h5⟩:=QC T (b:=H) rfl;exact absurd (Q7 h4 h5) (by decide)
     have ax:=T.keep HG.out.2.1 λb hb e=>by
      have e2:H=b:=by simpa [Value.ownBlock] using hb
      exact ae (by rw [e2];exact e)
     obtain ⟨r0,r1,r2,r3⟩:=(U6.of (ax.lowB (pC _))).cells hx;obtain ⟨ab,E⟩:=pt (wr.alloc (.cells #[int i64 x.1,int i64 x.2.1,int i64 x.2.2.1,int i64 x.2.2.2] 92));have ak:pM wr ab:=by rw [E];exact Q3 _ _
     have P:=Q0.fresh E;have x0:=P.cell 0;have x1:=P.cell 1;have x2:=P.cell 2;have x3:=P.cell 3;obtain ⟨a0,F⟩:=pt (ab.alloc (.cells #[int i64 x.1,int i64 x.2.1,int i64 x.2.2.1,int i64 x.2.2.2] 3));have a4:pM ab a0:=by rw [F];exact Q3 _ _
     have C:=(HG.out.on ak).on a4;have bp:((S.Q.l.take k).flatMap Vu).length<=48000:=by
      rw [Mk Vu (λx=>by unfold Vu;rw [YT];rfl),List.length_take]
      omega
     have hP:=Mg W2.heap.size ab.heap.size u4 (p++(S.Q.l.take k).flatMap Vu) [x.1,x.2.1,x.2.2.1,x.2.2.2] (by simp) (by have:=bm.o;rw [List.length_append];omega) a0 C.1 (pB i.2.1.size C.2.1.size) (Q0.fresh F) (λe=>by
      have h1:=(HG.out.1.block _ e).2;have h2:=ak.size;omega)
     have e9:p++(S.Q.l.take k).flatMap Vu++YX [x.1,x.2.1,x.2.2.1,x.2.2.2]=p++(S.Q.l.take (k+1)).flatMap Vu:=by
      rw [List.take_add_one,hx,List.append_assoc,List.flatMap_append];simp [Vu]
     rw [e9] at hP;have HP:=pp hP;have bj:=pp C;rw [F] at HP;clear b1 hx i z G a8 bl h9 T ae ax ak P a4 C bp hP e9 HG ac;go_upto_region 18 with fail
     rw [<-E];clear E r0 r1 r2 r3;go_upto_region 19 with (go_at_call 34;refine HP.o.mono ?_;rintro e_ w15 ⟨v15,rfl,af⟩;rw [<-F] at af;have bh:=pp (bj.o.trans af);clear af)
     clear x0 x1 x2 x3;go_wp2_with fail;go_roundw
     case rel=>exact ⟨k+1,by go_num,pp bk,bh⟩
     case measure=>simp [intOf];omega
    ·obtain rfl:k=n:=by have:=hk.out;omega
     have hii:¬(k:Int)<(k:Int):=by omega
     go_wp2_with fail;go_returns;have h:=HQ.o.1.trans HG.out;rw [List.take_of_length_le (by have:=a9.o;omega),b0.o] at h
     exact ⟨_,rfl,h.first G2.o⟩
 ·obtain ⟨-,cur,h4⟩:=QC D.1 e;exact absurd (Q7 h4 an) (by decide)
theorem bi (w:World)(q:Option Addr)(c:Nat)(R:List Rn)(hR:Rd w q 2 Xd R)(hc:Xl R)(hk:∀r∈R,Zi r.2=true)(n:Int)(hn:Qh R=n)(h0:0<n)(hm:n<=10000):
  Calls prog 176 #[.slice q R.length c] w λr w'=>∃v,r=.returned (.tuple #[v,int i64 0])/\Q5 w' w.heap.size 5 1 Yk v (QZ R)/\Below w.heap.size w w':=by
 have D:∀r∈R,0<=r.1:=λr hr=>by have:=hc.pos r hr;omega
 have ak:R.length<=10000:=by
  have:=XD hc.pos;omega
 have S:R.length<=maxLen:=by unfold maxLen;omega
 have HR:=pp hR;have HT:=pp (ZG D);have HC:=pp S;have HP:=pp hc;have HN:=pp hn;have ah:=pp ak;have ac:=pp λW (g:pM w W)=>KP W q c R (hR.on g) D (by omega) S
 rw [hn] at ac;have ap:=pp λW (g:pM w W)=>SQ W q c R (hR.on g) hc hk n hn h0 (by omega)
 clear hR ak S hc hn hk D;go_enter func176,ntmps176;go_upto_region 3 with fail
 go_loopw [4,12] (λx i wr=>∃k:Nat,k<=R.length/\i=.int .i64 k/\x=.int .i64 (1048576 - Qh (R.take k))/\pM w wr) (λ_ i _=>R.length - (intOf i).toNat)
 case atStart=>exact ⟨0,pC _,rfl,by simp [Qh],pI _ _⟩
 case round=>
  obtain ⟨k,hk,rfl,rfl,F⟩:=hrel;by_cases m:k<R.length
  ·obtain ⟨⟨a,b⟩,y⟩:=V9 m;obtain ⟨g,o,rfl,V⟩:=HR.o.on F (by omega)
   have r0:wr.cell? ⟨g,o+k * 2,none⟩=some (int i64 a):=V k _ y 0 _ rfl;have r1:wr.cell? ⟨g,o+k * 2+1,none⟩=some (int i64 b):=V k _ y 1 _ rfl;have U:=ZH y;have M:=HT.o (k+1);have X:=HT.o k;rw [U,HN.o] at M;have t:=HP.o.pos _ (pG y);obtain ⟨n2,n3,n5,n6⟩:=Uf m HC.o;have e1:¬a<1:=by dsimp only at t;omega
   have e1':decide (a<1)=false:=decide_eq_false e1;have am:=pp (show 1048576 - Qh (R.take k) - a=1048576 - Qh (R.take (k+1)) by rw [U];dsimp only;omega)
   obtain ⟨s,hs⟩:=pt (1048576 - Qh (R.take k));rw [<-hs] at am ⊢;have e2:¬s - a<0:=by dsimp only at M;omega
   have e2':decide (s - a<0)=false:=decide_eq_false e2;have e3: -1000000<=s/\s<=1048576/\1<=a/\a<=10000:=by dsimp only at t M;omega
   have z:=pp F;clear y U F V M X t hs h0 hm;go_wp2_with fail;exact ⟨⟨k+1,m,by go_num,by rw [am.o],z.o.alloc z.o.size _⟩,by simp [intOf];omega⟩
  ·obtain rfl:k=R.length:=by omega
   have ao:¬((R.length:Int)<(R.length:Int)):=by omega
   have z:=pp F;clear F;go_upto_region 10 with first
    | (go_at_call 227;refine (ac.o _ z.o).mono ?_;rintro e_ w2 ⟨rfl,g2⟩;have G2:=pp (after z.o g2);clear g2)
    | (go_at_call 168;refine (ap.o _ G2.o).mono ?_;rintro e_ N ⟨rfl,g3⟩;have G3:=pp (after G2.o g3);clear g3)
   obtain ⟨W0,an⟩:=pt N;have HZ:=pp (show QG N N.heap.size (.slice none 0 0) (QZ (R.take 0)) (.slice none 0 0) N from QG.refl Q5.nil);clear an;go_upto_region 13 with fail
   go_loopw [7,35] (λbv iv wr=>∃k:Nat,iv=.int .i64 k/\Hid (k<=R.length)/\Hid (QG N N.heap.size (.slice none 0 0) (QZ (R.take k)) bv wr)) (λ_ iv _=>R.length - (intOf iv).toNat)
   case atStart=>exact ⟨0,rfl,pp (pC _),HZ⟩
   case round=>
    obtain ⟨k,rfl,hk,Z⟩:=hrel;by_cases m:k<R.length
    ·obtain ⟨⟨a,b⟩,y⟩:=V9 m;have al:=Z.out.below;obtain ⟨g,o,rfl,V⟩:=HR.o.on (after G3.o al) (by omega)
     have r0:wr.cell? ⟨g,o+k * 2,none⟩=some (int i64 a):=V k _ y 0 _ rfl;have r1:wr.cell? ⟨g,o+k * 2+1,none⟩=some (int i64 b):=V k _ y 1 _ rfl;have t:=HP.o.pos _ (pG y);have M:=HT.o (k+1);have X:=HT.o k;rw [ZH y,HN.o] at M;have O:0<=a/\a<=1048576:=by dsimp only at t M;omega
     have Q:=pp λW=>nh a O.1 O.2 W
     have ar:=pp (Ml y);obtain ⟨n2,n3,-,-⟩:=Uf m HC.o;have YV:IntKind.i64.wrap ((k:Int)+1)=(k:Int)+1:=pJ _ (by have:=ah.o;omega)
     obtain ⟨W,hW⟩:=pt (wr.alloc (.cells #[int i64 a,int i64 b] 235));have g4:pM wr W:=by rw [hW];exact Q3 _ _
     have hX:=Q0.fresh hW;have HV:=pp λx (hx:u7.ownBlock=some x)=>pD (Z.out.1.block x hx).2 g4.size
     have P:u7.ownBlock≠some wr.heap.size:=λe=>by have:=(Z.out.1.block _ e).2;omega
     have x0:=λf d os=>(hX.sp (QR P) f d os).cell 0
     have x1:=λf d os=>(hX.sp (QR P) f d os).cell 1
     have p:=pp (Z.out.on g4);have ag:=pp m;have aa:(QZ (R.take k)).length<=40000:=by
      have h3:=Dk (R.take k);have h4:=ah.o;rw [List.length_take] at h3;omega
     have I:=pp aa;clear y V t M X O g4 hX P al aa m Z;go_upto_region 15 with fail
     rw [<-hW];clear hW r0 r1;refine VI [0,0,0,0,2,2,0,0,2,3,3] 5 (u7.ownBlock) (cZ W N.heap.size u7 (QZ (R.take k)) (BitVec.ofInt 8 b) (b%256) (A4 a)) (by kernel_rfl) (by kernel_rfl) (lk HV.o) ?_
     repeat (first|(refine Qi ?_)|(refine Qf (λK hK=>?_);go_simp;refine hK _ ?_;clear hK K))
     refine Q8 ?_;refine Q2 ?_;refine Q2 ?_;refine Q2 ?_;refine Q2 ?_;refine Qv ?lsA (λv_=>?_)
     case lsA=>(intro w_ l A;(first|(dsimp only at u;obtain ⟨b9,rfl,aj,H⟩:=u.2 (by kernel_rfl);obtain ⟨v9,J,G,C,E⟩:=((QG.refl p.o.1).on (Y9 l A)).push2 p.o.below.size (by have:=I.o;omega) (x:=BitVec.ofInt 8 b) (QF b) H;exact Xe _ _ _ _ rfl _ _ rfl rfl v9 J G C E)|(go_simp;refine (Q.o _).mono ?_;rintro e_ J ⟨v9,rfl,L⟩;exact ⟨_,rfl,Kept.of_below L.below,Mm.of L (Qb l).size (At a).2⟩)|(go_simp;exact ⟨Kept.of_below ((pI _ _).alloc (pA _) _),_,rfl,(Qb l).size,Q0.new' rfl⟩)))
     refine Xz ?lsA (λv_=>?_)
     case lsA=>(intro w_ l A u;(first|(dsimp only at u;obtain ⟨b9,rfl,aj,H⟩:=u.2 (by kernel_rfl);obtain ⟨v9,J,G,C,E⟩:=((QG.refl p.o.1).on (Y9 l A)).push2 p.o.below.size (by have:=I.o;omega) (x:=BitVec.ofInt 8 b) (QF b) H;exact Xe _ _ _ _ rfl _ _ rfl rfl v9 J G C E)|(go_simp;refine (Q.o _).mono ?_;rintro e_ J ⟨v9,rfl,L⟩;exact ⟨_,rfl,Kept.of_below L.below,Mm.of L (Qb l).size (At a).2⟩)|(go_simp;exact ⟨Kept.of_below ((pI _ _).alloc (pA _) _),_,rfl,(Qb l).size,Q0.new' rfl⟩)))
     refine Q2 ?_;refine Q2 ?_;refine Qv ?lsA (λv_=>?_)
     case lsA=>(intro w_ l A;(first|(dsimp only at u;obtain ⟨b9,rfl,aj,H⟩:=u.2 (by kernel_rfl);obtain ⟨v9,J,G,C,E⟩:=((QG.refl p.o.1).on (Y9 l A)).push2 p.o.below.size (by have:=I.o;omega) (x:=BitVec.ofInt 8 b) (QF b) H;exact Xe _ _ _ _ rfl _ _ rfl rfl v9 J G C E)|(go_simp;refine (Q.o _).mono ?_;rintro e_ J ⟨v9,rfl,L⟩;exact ⟨_,rfl,Kept.of_below L.below,Mm.of L (Qb l).size (At a).2⟩)|(go_simp;exact ⟨Kept.of_below ((pI _ _).alloc (pA _) _),_,rfl,(Qb l).size,Q0.new' rfl⟩)))
     refine Q2 ?_;refine Q2 ?_;refine XX ?_;simp only [Qd];rename_i va vb;rintro W7 k7 ⟨⟨⟨-,h4⟩,h5⟩,h8⟩;have ae:QG W N.heap.size u7 (QZ (R.take k)++[BitVec.ofInt 8 b]) vb W7:=h5;obtain ⟨g8,c8,rfl,ab⟩:=(show Mm W.heap.size (A4 a) _ W7 from h8);have ad:=p.o.trans ae;obtain ⟨q',cap',ai,-,-,af,-,-⟩:=ab.form bg;obtain ⟨g',o',e,h9⟩:=af (At a).2;obtain ⟨e1,-,-⟩:=Value.slice.inj ai;rw [<-e1] at e;obtain ⟨rfl,rfl⟩:g8=g'/\0=o':=by simpa using e
     have B:(QZ (R.take k)++[BitVec.ofInt 8 b]).length+(A4 a).length<=1000000:=by
      have h3:=I.o;have h4:=(At a).1;rw [List.length_append,List.length_cons,List.length_nil];omega
     obtain ⟨v9,J,T,-,Y⟩:=ad.app (pA _) B (g2:=g8) (o2:=0) (c2:=c8) (λj x hx=>by
      have:=h9 j x hx 0 _ rfl;simpa using this)
     rw [<-ar.o] at Y;have aq:=pp Y;clear h4 h5 h8 ae ab ad B ai af e h9 e1 Y k7 x0 x1;go_upto_region 16 with (at_builtin;refine Lib.wpList_append_run _ rfl _ _ _ _ rfl _ _ rfl rfl _ _ T ?_)
     go_wp2_with fail;go_roundw
     case rel=>exact ⟨k+1,by go_num,pp ag.o,aq⟩
     case measure=>have:=ag.o;simp [intOf];omega
    ·obtain rfl:k=R.length:=by have:=hk.out;omega
     have ao:¬((R.length:Int)<(R.length:Int)):=by omega
     go_wp2_with fail;go_returns;have h:=Z.out;rw [List.take_length] at h;exact ⟨_,rfl,(h.first G3.o).1,(h.first G3.o).below⟩
theorem ll:∀a:Nat,a<256->bits BinOp.or IntKind.i64 0 (wrap64 (wrap64 (bits BinOp.andNot IntKind.u8 (a:Int) 128)))=((a%128:Nat):Int):=by decide +kernel
theorem oK:∀b:Nat,b<128->∀a:Nat,a<128->bits BinOp.or IntKind.i64 (a:Int) (wrap64 (wrap64 (bits BinOp.andNot IntKind.u8 (b:Int) 128) * 128))=((b * 128+a:Nat):Int):=by decide +kernel
theorem lm (g o m c:Nat)(n:Int)(j:128<=n)(p:n<16384)(hm:2<=m)(hc:m<=c)(hl:m<=1000000)(w:World)(A:w.cell? ⟨g,o,none⟩=some (int u8 (n%128+128)))(i:w.cell? ⟨g,o+1,none⟩=some (int u8 (n / 128))):Calls prog 167 #[.slice (some ⟨g,o,none⟩) m c] w λr w'=>r=.returned (.tuple #[n,int i64 2,int i64 0])/\w=w':=by
 have hmn:=@YY prog;obtain ⟨k,l⟩:∃k:Nat,Xj (m:Int) 3=k:=⟨(Xj m 3).toNat,by unfold Xj;omega⟩
 have hk1:1<(k:Int):=by unfold Xj at l;omega
 have hk0:0<(k:Int):=by unfold Xj at l;omega
 have hk2:(k:Int)<=(c:Int):=by unfold Xj at l;omega
 have hk3:(0:Int)<=(k:Int):=by omega
 obtain ⟨a,f⟩:∃a,n%128+128=a:=⟨_,rfl⟩;obtain ⟨b,d⟩:∃b,n / 128=b:=⟨_,rfl⟩;rw [f] at A;rw [d] at i;have u:bits BinOp.or IntKind.i64 0 (wrap64 (wrap64 (bits BinOp.andNot IntKind.u8 a 128)))=n%128:=by
  obtain ⟨x,s⟩:∃x:Nat,a=x:=⟨a.toNat,by omega⟩
  rw [s,ll x (by omega)]
  omega
 have q1:128<=a:=by omega
 have q2:¬128<=b:=by omega
 have q3:(b==0)=false:=by simp;omega
 have z:¬1048576<n:=by omega
 have q5:decide (1048576<n)=false:=decide_eq_false z;obtain ⟨y,e⟩:∃y,n%128=y:=⟨_,rfl⟩;rw [e] at u;have s:=pp (py f (py d (py e (py j p))));clear f d e j p;go_enter func167,ntmps167;go_upto_region 3 with fail
 refine wp_loop_rounds 2 ?_;rw [rounds_succ];go_upto_region 6 with fail
 clear u;go_wp2_with fail;rw [rounds_succ];have h:bits BinOp.or IntKind.i64 y (wrap64 (wrap64 (bits BinOp.andNot IntKind.u8 b 128) * 128))=n:=by
  obtain ⟨f,d,e,j,p⟩:=s.o;obtain ⟨v,q⟩:∃x:Nat,y=x:=⟨y.toNat,by omega⟩
  obtain ⟨b',t⟩:∃x:Nat,b=x:=⟨b.toNat,by omega⟩
  rw [q,t,oK b' (by omega) v (by omega)]
  omega
 go_upto_region 6 with fail
 clear h;go_wp2_with fail;go_returns;exact ⟨rfl,rfl⟩
theorem dg:(prog.info? 235).map (λi=>(i.zero,i.size,i.bytes))=some (some (.agg #[int i64 0,int i64 0]),2,16):=by kernel_rfl
theorem Pr {w:World}{t:TypeId} :Q5 (w.alloc (.cells #[] t)) w.heap.size t 2 Xd (.slice (some ⟨w.heap.size,0,none⟩) 0 0) []:=by
 refine ⟨by simp,.inr ⟨w.heap.size,0,#[],rfl,pA _,Q0.new' rfl,by simp,by decide,by simp,by simp⟩⟩
theorem gC {w:World}{q:Option Addr}{l:List Rn}(h:Rd w q 2 Xd l)(b:q=none):l=[]:=by
 have a:¬0<l.length:=λa=>by
  obtain ⟨g,o,e,-⟩:=h a;rw [b] at e;cases e
 exact List.length_eq_zero_iff.1 (by omega)
theorem gD (q:Option Addr)(n c:Nat)(l:List Rn)(i:l.length=n)(s:n<=c)(t:n<=1000000)(w:World)(h:Rd w q 2 Xd l):
  Calls prog 169 #[.slice q n c] w λr w'=>∃v,r=.returned v/\Q5 w' w.heap.size 235 2 Xd v l/\Below w.heap.size w w':=by
 have hnl:∀(w:World) (a:Option Addr) (n c g j:Nat),(binOp .eql 184 (.slice a n c) (.slice none g j)).run prog w=.ok (.bool a.isNone) w:=λw a n c g j=>Lib.run_eql_slice_nil w _ _ a n c g j underlying184
 cases hq:q with
 | none=>
  obtain rfl:=gC h hq;obtain rfl:n=0:=by simpa using i.symm
  subst hq;go_enter func169,ntmps169;go_wp2_with fail;go_returns;exact ⟨_,rfl,Q5.nil,pI _ _⟩
 | some a=>
  rw [hq] at h;have f:Below w.heap.size w (w.alloc (.cells #[] 235)):=(pI _ _).alloc (pA _) _;obtain ⟨v1,w5,d,k,e⟩:=Gc (P:=prog) (ts:=184) (ty:=184) (enc:=Xd) (w:=w.alloc (.cells #[] 235)) (base:=w.heap.size) (xs:=([]:List Rn)) (ys:=l) (q:=some a) (m:=n) (c:=c) (v:=.slice (some ⟨w.heap.size,0,none⟩) 0 0) underlying184 dg rfl (by decide) (by decide) (λ_=>rfl) (λb _=>by simp [Xd,Value.oneCell']) Pr i s (h.on f) (by simp;omega) f.size
  rw [List.nil_append] at k;have p:=pp (py k (f.trans e));clear k e f h i s t hq;go_enter func169,ntmps169;go_wp2_with (at_builtin;refine Lib.wpList_append_run _ rfl _ _ _ _ rfl _ _ rfl rfl _ _ d ?_);go_returns;exact ⟨_,rfl,p.o.1,p.o.2⟩
theorem Oi {cs:List Int}(h:Xl R)(e:Qu R=cs):R=Yn cs:=Tt h (Ur cs) (by rw [e,Us])
theorem GM {cs:List Int}(h:Xl R)(e:Qu R=cs)(ok:CellsOk cs):∀r∈R,Zi r.2=true:=λr a=>by
 have h1:=h.pos r a;have:r.2∈Qu R:=by
  unfold Qu;rw [List.mem_flatMap];exact ⟨r,a,by rw [List.mem_replicate];exact ⟨by omega,rfl⟩⟩
 rw [e] at this;exact ok.may _ this
theorem SR (c:Nat)(x z:Int)(cs:List Int)(w:World)(M:Nat->Prop)(h:Uz c x z cs w M):
  Calls prog 128 #[c] w λr w'=>∃v,r=.returned v/\Q5 w' w.heap.size 5 1 Yk v (QZ (Yn cs))/\Below w.heap.size w w':=by
 obtain ⟨v,R,i,j,a,b,ok,-⟩:=h;obtain ⟨q,cap,rfl,e,-,d,-⟩:=j.form Bj;have f:=bi w q cap R d a (GM a b ok) 8192 (Bz a b ok) (by decide) (by decide)
 rw [Oi a b] at f;have k:=pp f;have l:=i.cell 2;rw [Oi a b] at l;generalize Yn cs=R2 at *;clear i j a b ok e d f;go_enter func128,ntmps128;go_wp2_with (go_at_call 176;refine k.o.mono ?_;rintro e_ w1 ⟨v1,rfl,(g:Hid _)⟩);go_returns;exact ⟨_,rfl,g.o.1,g.o.2⟩
theorem nj (g o m c:Nat)(n:Int)(h1:1<=n)(h2:n<=8192)(h:(A4 n).length<=m)(k:m<=c)(f:m<=1000000)(w:World)(b:∀j x,(A4 n)[j]?=some x->w.cell? ⟨g,o+j,none⟩=some (int u8 (n8 x))):Calls prog 167 #[.slice (some ⟨g,o,none⟩) m c] w λr w'=>r=.returned (.tuple #[n,int i64 ((A4 n).length:Nat),int i64 0])/\w=w':=by
 unfold A4 at *;by_cases a:n<128
 ·rw [if_pos a] at *;have e:=b 0 _ rfl;rw [QF,show n%256=n by omega] at e
  exact lh g o m c n (by omega) a (by simpa using h) k f w e
 ·rw [if_neg a,if_pos (by omega)] at *
  have d:=b 0 _ rfl;have i:=b 1 _ rfl;rw [QF,show (n%128+128)%256=n%128+128 by omega] at d
  rw [QF,show n / 128%256=n / 128 by omega] at i
  exact lm g o m c n (by omega) (by omega) (by simpa using h) k f w d i
def oM (N:Nat)(c:Rn)(v:Value)(w:World):Prop:=∃b,v=.slice (some ⟨b,0,none⟩) 1 1/\N<=b/\Q0 w b 235 #[int i64 c.1,int i64 c.2]
theorem gE {N B:Nat}{v:Value}{xs:List Rn}{c:Rn}(i:Q5 W B 235 2 Xd v xs)(h:oM N c v8 W)(hl:xs.length<=1000000)(l:B<=W.heap.size):
  ∃v' w',(Builtin.append_ #[184,184] 184 #[v,v8]).run prog W=.ok v' w'/\Kept (λb=>b∉v.ownBlock.toList) W w'/\Q5 w' B 235 2 Xd v' (xs++[c]):=by
 obtain ⟨b,rfl,hb,p⟩:=h;obtain ⟨g,cp,n,hrun,f,a,hgo⟩:=Yr (P:=prog) (w:=W) (base:=B) (e:=235) (size:=2) (enc:=Xd) (v:=v) (xs:=xs) (ts:=184) (ty:=184) (bytes:=16) (b:=b) (x:=c) underlying184 dg rfl (by decide) (by decide) rfl (by intro u d;simp [Xd] at d;rcases d with rfl|rfl<;>rfl) i (λj u d=>by rw [p.cell j];simpa [Xd] using d) (by omega) l
 exact ⟨_,n,hrun,⟨a.os,a.tape,a.output,a.size,λk m o=>a.block k m (λe=>o (by rw [Option.mem_toList];exact e.symm))⟩,f⟩
def Eh (R:List Rn)(k:Nat):Int:=if k=0 then -1 else match R[k - 1]? with|some p=>p.2|none=> -1
theorem bj {p:Rn}(b:Xl R)(a:R[k]?=some p)(h0:0<=p.2):p.2≠Eh R k:=by
 unfold Eh;cases k with
 | zero=>rw [if_pos rfl];omega
 | succ k=>
  rw [if_neg (by omega),Nat.add_sub_cancel]
  have hlt:=(List.getElem?_eq_some_iff.1 a).1;rw [pH (show k<R.length by omega)]
  exact λe=>Je b (pH (show k<R.length by omega)) a e.symm
theorem Ps {p:Rn}(a:R[k]?=some p):Eh R (k+1)=p.2:=by
 unfold Eh;rw [if_neg (by omega),Nat.add_sub_cancel,a]
theorem gF (A B:List Rn):QZ (A++B)=QZ A++QZ B:=by unfold QZ;rw [List.flatMap_append]
theorem ST {p:Rn}(b:R[k]?=some p):QZ R=QZ (R.take k)++(BitVec.ofInt 8 p.2::(A4 p.1++QZ (R.drop (k+1)))):=by
 have e:R=R.take k++(p::R.drop (k+1)):=by
  have a:R.drop k=p::R.drop (k+1):=List.drop_eq_getElem?_toList_append .. |>.trans (by rw [b];rfl)
  rw [<-a,List.take_append_drop]
 conv=>lhs;rw [e]
 rw [gF];unfold QZ;rw [List.flatMap_cons];simp
theorem gG {b:Int}(h:Zi b=true):0<=b/\b<256:=by
 unfold Zi XK at h;split at h
 ·rename_i c;refine ⟨c,?_⟩;rcases Int.lt_or_le b 256 with a|a
  ·exact a
  ·exfalso;have hl:cK.length=16:=rfl;rw [List.getElem?_eq_none (by omega)] at h
   exact absurd h (by decide)
 ·exact absurd h (by decide)
theorem CJ {w:World}{K:Act->World->Prop}{E:Prop}
  (d:o.guard=none) (s x:Operand) (t u:TypeId) (b:o.op=Op.call { callee:=Callee.builtin Builtin.append,args:=#[s,x],argTypes:=#[t,u] }) (v1 v2:Value) (hs:a.eval s=v1) (hx:a.eval x=v2)
  (v':Value) (w':World) (hrun:(Builtin.append_ #[t,u] o.type #[v1,v2]).run P w=.ok v' w') (hK:K (a.put o.dst v') w'):if Region.wanted o (yielded ops a.tmps)=true then Oper.wp P o a w K Q else E:=by
 have c:Region.wanted o (yielded ops a.tmps)=true:=by simp [Region.wanted,d]
 rw [if_pos c];exact Lib.wp_append_run w s x t u b v1 v2 hs hx v' w' hrun hK
theorem gH (g o c:Nat)(R:List Rn)(hc:Xl R)(L:∀r∈R,Zi r.2=true)(hn:Qh R=8192)(tot:Nat)(ht:tot=(QZ R).length)(O:tot<=c)(X:c<=maxLen)(w:World)(hB:∀j x,(QZ R)[j]?=some x->w.cell? ⟨g,o+j,none⟩=some (int u8 (n8 x))):
  Calls prog 124 #[.slice (some ⟨g,o,none⟩) tot c,int i64 8192] w λr w'=>∃v,r=.returned (.tuple #[v,int i64 0])/\Q5 w' w.heap.size 235 2 Xd v R/\Below w.heap.size w w':=by
 have i:∀r∈R,0<=r.1:=λr hr=>by have:=hc.pos r hr;omega
 have U:R.length<=8192:=by
  have:=XD hc.pos;omega
 have az:0<R.length:=by
  rcases Nat.eq_zero_or_pos R.length with h|h
  ·rw [List.length_eq_zero_iff.1 h] at hn;exact absurd hn (by decide)
  ·exact h
 have ab:tot<=40000:=by have:=Dk R;omega
 have HX:=pp (py hc (py L (py hn (py i (py U (py ht (py O (py ab X))))))));have bf:=pp hB;have a7:=pp az;clear hc L hn i U az ab O X hB;go_enter func124,ntmps124;go_wp2_with fail;go_step3;go_wp2_with fail;go_step3;go_upto_region 3 with fail
 go_loopw [0,1,6,7] (λbv nv vv lv wr=>∃k:Nat,Hid (k<R.length)/\bv=.slice (some ⟨g,o+(QZ (R.take k)).length,none⟩) (tot - (QZ (R.take k)).length) (c - (QZ (R.take k)).length)/\nv=.int .i64 (8192 - Qh (R.take k))/\lv=.int .i64 (Eh R k)/\Hid (Q5 wr w.heap.size 235 2 Xd vv (R.take k))/\Hid (Below w.heap.size w wr)) (λ_ nv _ _ _=>(intOf nv).toNat)
 case atStart=>exact ⟨0,a7,rfl,rfl,rfl,pp Q5.nil,pp (.refl _ _)⟩
 case round=>
  obtain ⟨k,L,rfl,rfl,rfl,HO,HG⟩:=hrel;obtain ⟨⟨a,b⟩,D⟩:=V9 L.out;obtain ⟨hc,hK,hn,i,U,ht,O,ab,X⟩:=HX.o;have p:=ST D;have H:=congrArg List.length p;rw [<-ht,List.length_append,List.length_cons,List.length_append] at H;have a4:=HG.out;have V:=hK _ (pG D);have M:=gG V;have am:=hc.pos _ (pG D);have t:=ZH D;have y:=ZG i (k+1);have a5:=ZG i k;rw [t,hn] at y;have av:=(At a).2;have af:=bj hc D M.1;have J:=Ps D;have u:∀j x,(BitVec.ofInt 8 b::(A4 a++QZ (R.drop (k+1))))[j]?=some x->wr.cell? ⟨g,o+(QZ (R.take k)).length+j,none⟩=some (.int .u8 (n8 x)):=λj x q=>by
   have B:=bf.o ((QZ (R.take k)).length+j) x (by rw [p,List.getElem?_append_right (by omega),show (QZ (R.take k)).length+j - (QZ (R.take k)).length=j by omega];exact q)
   have h2:=Yt a4 (QN B);rw [show o+(QZ (R.take k)).length+j=o+((QZ (R.take k)).length+j) by omega,h2]
   exact B
  have ak:=u 0 _ rfl;rw [QF,show b%256=b by dsimp only at M;omega,Nat.add_zero] at ak
  have ah:∀j x,(A4 a)[j]?=some x->wr.cell? ⟨g,o+(QZ (R.take k)).length+1+j,none⟩=some (.int .u8 (n8 x)):=λj x q=>by
   have B:=u (j+1) x (by
    rw [List.getElem?_cons_succ,List.getElem?_append_left (List.getElem?_eq_some_iff.1 q).1];exact q)
   rw [show o+(QZ (R.take k)).length+1+j=o+(QZ (R.take k)).length+(j+1) by omega]
   exact B
  have ar:=Ml D;have Z:(QZ (R.take (k+1))).length=(QZ (R.take k)).length+1+(A4 a).length:=by
   rw [ar];simp only [List.length_append,List.length_cons,List.length_nil]
  obtain ⟨nb,n⟩:=pt ((A4 a).length);have HD:=pp λW (hW:Below wr.heap.size wr W) (m c2:Nat) (B:nb<=m) (h2:m<=c2) (h3:m<=1000000)=>nj g (o+(QZ (R.take k)).length+1) m c2 a (by dsimp only at am;omega) (by dsimp only at y;omega) (by rw [<-n];exact B) h2 h3 W (λj x q=>by rw [Yt hW (QN (ah j x q))];exact ah j x q)
  rw [<-n] at HD;have a0:=pp λW2=>Dd b W2
  dsimp only at V;rw [V] at a0;have a6:=pp (py D (py t (py y (py J (py Z n)))));rw [<-n] at H av;obtain ⟨P,hP⟩:=pt (o+(QZ (R.take k)).length);obtain ⟨m,hm⟩:=pt (tot - (QZ (R.take k)).length);obtain ⟨cc,ac⟩:=pt (c - (QZ (R.take k)).length);obtain ⟨s,hs⟩:=pt (8192 - Qh (R.take k));obtain ⟨la,I⟩:=pt (Eh R k);rw [<-hP] at HD ak ⊢;rw [<-hm,<-ac,<-hs,<-I];rw [<-I] at af;have q1:(0:Int)<(m:Int):=by omega
  have q2:1<=m:=by omega
  have q3:(1:Int)<=(m:Int):=by omega
  have q4:m<=cc:=by omega
  have q5:nb+1<=m:=by omega
  have q6:(b==la)=false:=by simpa using af
  have q7:1<=a/\a<=s/\s<=8192:=by dsimp only at am y;omega
  have q8:m<=40000:=by omega
  have bh:¬m=1:=by omega
  have bg:¬m - 1=0:=by omega
  have ba:2<=m:=by omega
  have q13:(a==0)=false:=by simp;omega
  have a9:¬s<a:=by omega
  have q15:decide (s<a)=false:=decide_eq_false a9;have q9:wrap64 b=b:=by unfold wrap64;dsimp only at M;omega
  have HQ:=pp (py hP (py hm (py ac (py hs (py I H)))));obtain ⟨W1,Y⟩:=pt (wr.alloc (.cells #[int i64 0,int i64 b] 235));have g1:Below wr.heap.size wr W1:=by rw [Y];exact Q3 _ _
  have ag:=Q0.fresh Y;obtain ⟨x0,x1,-,-⟩:=ag.pair;have aw:=pp ag;have G1:=pp g1;clear hc hK hn i U ht O ab X p H a4 V M am t y a5 av af J u ah ar Z n hP hm ac hs I ag g1 D;go_upto_region 5 with fail
  rw [<-Y];clear Y ak;go_upto_region 6 with (go_at_call 142;refine (a0.o _).mono ?_;rintro e_ w2 ⟨rfl,g2⟩;have G2:=pp (after G1.o g2);have a1:=pp (aw.o.on g2);obtain ⟨y0,y1,y2,y3⟩:=(aw.o.on g2).pair;clear g2)
  go_upto_region 7 with fail
  go_upto_region 12 with (go_at_call 167;refine (HD.o _ G2.o _ _ (by omega) (pA _) (by omega)).mono ?_;rintro e_ w3 ⟨rfl,rfl⟩)
  have f0:=a1.o.frz 0;go_upto_region 13 with fail
  obtain ⟨C,T⟩:=pt (w2.setCell ⟨wr.heap.size,0,none⟩ (int i64 a));rw [<-T];have f:Kept (λx=>x≠wr.heap.size) w2 C:=by rw [T];exact (Kept.refl _ _).setCell (by simp) _
  have ai:Q0 C wr.heap.size 235 #[int i64 a,int i64 b]:=by rw [T];exact a1.o.set_ 0 _
  have S:∀x,u6.ownBlock=some x->x<wr.heap.size:=λx q=>(HO.out.block x q).2
  have a8:u6.ownBlock≠some wr.heap.size:=λe=>by have:=S _ e;omega
  have aj:Q5 C w.heap.size 235 2 Xd u6 (R.take k):=(HO.out.on G2.o).keep f λx q e=>by have:=S x q;omega
  have HV:=pp λx (q:u6.ownBlock=some x)=>pD (S x q) (pB G2.o.size f.size)
  have z0:=ai.cell 0;have z1:=ai.cell 1;have H4:=pp (py aj f);obtain ⟨d,hd⟩:=pt (nb+1);have q16:IntKind.i64.wrap (1+(nb:Int))=((d:Nat):Int):=by rw [pJ _ (by omega)];omega
  have q17:d<=m:=by omega
  have q18:(d:Int)<=(m:Int):=by omega
  have q19:(0:Int)<=(d:Int):=by omega
  have q20:IntKind.i64.wrap (s - a)=s - a:=pJ _ (by omega)
  have an:(R.take k).length<=1000000:=by rw [List.length_take];have:=HX.o.2.2.2.2.1;omega
  have HKL:=pp an;have HDD:=pp hd;have aq:∀(A:Addr) (v9:Value) (W7:World),(d<m->A=⟨g,P+d,none⟩)->Q5 W7 w.heap.size 235 2 Xd v9 (R.take k++[(a,b)])->Kept (λx=>x∉u6.ownBlock.toList) C W7->(s - a≠0->∃k':Nat,Hid (k'<R.length)/\Value.slice (some A) (m - d) (cc - d)=.slice (some ⟨g,o+(QZ (R.take k')).length,none⟩) (tot - (QZ (R.take k')).length) (c - (QZ (R.take k')).length)/\Value.int .i64 (s - a)=.int .i64 (8192 - Qh (R.take k'))/\Value.int .i64 b=.int .i64 (Eh R k')/\Hid (Q5 W7 w.heap.size 235 2 Xd v9 (R.take k'))/\Hid (Below w.heap.size w W7))/\(s - a=0->m - d=0/\Q5 W7 w.heap.size 235 2 Xd v9 R/\Below w.heap.size w W7)/\(s - a≠0->d<m):=λA v9 W7 hA K L=>by
   obtain ⟨D,t,y,J,Z,n⟩:=a6.o;obtain ⟨hP,hm,ac,hs,I,H⟩:=HQ.o
   (try dsimp only at t y J Z)
   have be:R.take (k+1)=R.take k++[(a,b)]:=Uv D;have hkR:k<R.length:=(List.getElem?_eq_some_iff.1 D).1;have ay:Below w.heap.size w W7:=by
    have B:Below w.heap.size w w2:=after HG.out G2.o;refine ⟨L.os.trans (f.os.trans B.os),L.tape.trans (f.tape.trans B.tape),L.output.trans (f.output.trans B.output),pB B.size (pB f.size L.size),λx q=>?_⟩
    have e1:=B.block x q;have hxw:x<wr.heap.size:=pD q HG.out.size;have e2:=f.block x (pD q B.size) (by omega)
    have e3:=L.block x (pD q (pB B.size f.size)) (λh=>by
     rw [Option.mem_toList] at h;have:=(HO.out.block x h).1;omega)
    exact e3.trans (e2.trans e1)
   rw [<-be] at K;have ad:s - a≠0->k+1<R.length:=λh0=>by
    rcases Nat.lt_or_ge (k+1) R.length with h|h
    ·exact h
    ·exfalso;rw [List.take_of_length_le h,HX.o.2.2.1] at t;omega
   have ae:s - a≠0->0<(QZ (R.drop (k+1))).length:=λh0=>by
    obtain ⟨p',hp'⟩:=V9 (ad h0);have e:R.drop (k+1)=p'::R.drop (k+1+1):=List.drop_eq_getElem?_toList_append .. |>.trans (by rw [hp'];rfl)
    rw [e];unfold QZ;rw [List.flatMap_cons,List.length_append,List.length_cons];omega
   refine ⟨?_,?_,λh0=>by have:=ae h0;omega⟩
   ·intro h0;have Q:=ad h0;have hdr:=ae h0;refine ⟨k+1,pp Q,?_,?_,?_,pp K,pp ay⟩
    ·rw [hA (by omega)]
     congr 1
     ·congr 2;omega
     ·omega
     ·omega
    ·congr 1;omega
    ·rw [J]
   ·intro h0;have Q:R.length<=k+1:=by
     rcases Nat.lt_or_ge (k+1) R.length with h|h
     ·exfalso;have e:R.drop (k+1)=R[k+1]::R.drop (k+1+1):=List.drop_eq_getElem_cons h;have hpp:=HX.o.1.pos _ (List.getElem_mem h);have e2:Qh R=Qh (R.take (k+1))+Qh (R.drop (k+1)):=by
       conv=>lhs;rw [<-List.take_append_drop (k+1) R]
       exact Do _ _
      have h3:=XD (l:=R.drop (k+1+1)) λr hr=>HX.o.1.pos r (List.mem_of_mem_drop hr)
      rw [e,HX.o.2.2.1] at e2;unfold Qh at e2 h3 t hs;rw [List.map_cons,List.sum_cons] at e2;omega
     ·exact h
    rw [List.take_of_length_le Q] at K;refine ⟨?_,K,ay⟩;have:(QZ (R.drop (k+1))).length=0:=by rw [List.drop_eq_nil_of_le Q];rfl
    omega
  have ax:=pp aq;have z:Below C.heap.size C (C.alloc (.cells #[int i64 a,int i64 b] 235)).drew:=Below.drew (Q3 _ _);obtain ⟨v9,w9,a3,a2,ap⟩:=gE (N:=C.heap.size) (c:=(a,b)) (v8:=.slice (some ⟨C.heap.size,0,none⟩) 1 1) (aj.on z) ⟨C.heap.size,rfl,pA _,(show Q0 (C.alloc (.cells #[int i64 a,int i64 b] 235)) C.heap.size 235 #[int i64 a,int i64 b] from Q0.fresh rfl)⟩ an (pB (pB HG.out.size (pB G2.o.size f.size)) z.size);have au:=pp a3;have H9:=pp (py ap (show Kept (λx=>x∉u6.ownBlock.toList) C w9 from ((Kept.of_below z).mono λ_ _=>trivial).trans a2))
  clear a3 a2 ap z;have aa:cc=d∨(¬cc=d/\¬cc - d=0/\d<cc):=by omega
  clear T f ai S a8 aj an y0 y1 y2 y3 f0 x0 x1 q5 q9 bh bg ba hd aq;rcases aa with bd|⟨bd,hcd2,hcd3⟩
  ·skip
   go_region_law (refine CJ rfl (.tmp 57) (.tmp 59) 184 184 rfl _ _ (by simp [Act.eval]) (by simp [Act.eval]) v9 w9 au.o ?_)
   have F:=pp (ax.o ⟨g,P,none⟩ v9 w9 (λh=>by first|rfl|(exfalso;omega)) H9.o.1 H9.o.2)
   clear z0 z1;by_cases E:s - a=0
   ·obtain ⟨bb,K,G⟩:=F.o.2.1 E;have HE:=pp (py K G);have ao:(s - a==0)=true:=by simp [E]
    have al:¬0<s - a:=by omega
    have Eo:decide (0<s - a)=false:=decide_eq_false al;clear K G F;simp only [Act.put];go_simp;go_wp2_with fail;go_returns;exact ⟨_,rfl,HE.o⟩
   ·have HE:=pp (F.o.1 E);have bc:=F.o.2.2 E;have ao:(s - a==0)=false:=by simp [E]
    clear F
    first
     | (exfalso;omega)
     | (
      simp only [Act.put];go_simp;go_wp2_with fail;go_roundw
      case rel=>exact HE.o
      case measure=>simp [intOf];omega)
  ·skip
   go_region_law (refine CJ rfl (.tmp 57) (.tmp 59) 184 184 rfl _ _ (by simp [Act.eval]) (by simp [Act.eval]) v9 w9 au.o ?_)
   have F:=pp (ax.o ⟨g,P+d,none⟩ v9 w9 (λh=>by first|rfl|(exfalso;omega)) H9.o.1 H9.o.2)
   clear z0 z1;by_cases E:s - a=0
   ·obtain ⟨bb,K,G⟩:=F.o.2.1 E;have HE:=pp (py K G);have ao:(s - a==0)=true:=by simp [E]
    have al:¬0<s - a:=by omega
    have Eo:decide (0<s - a)=false:=decide_eq_false al;clear K G F;simp only [Act.put];go_simp;go_wp2_with fail;go_returns;exact ⟨_,rfl,HE.o⟩
   ·have HE:=pp (F.o.1 E);have bc:=F.o.2.2 E;have ao:(s - a==0)=false:=by simp [E]
    clear F
    first
     | (exfalso;omega)
     | (
      simp only [Act.put];go_simp;go_wp2_with fail;go_roundw
      case rel=>exact HE.o
      case measure=>simp [intOf];omega)
def Pt (w:World)(x z:Int)(cs:List Int)(r:Ending)(w':World):Prop:=∃c:Nat,∃M,r=.returned (.tuple #[c,int i64 0])/\Uz c x z cs w' M/\(∀b,M b->w.heap.size<=b)/\Below w.heap.size w w'
theorem gI (f i:Int)(q:Option Addr)(c:Nat)(R:List Rn)(cs:List Int)(j:Xl R)(t:Qu R=cs)(ok:CellsOk cs)(L:R.length<=c)(w:World)(d:Rd w q 2 Xd R):
  Calls prog 125 #[.agg #[f,i],.slice q R.length c] w λr w'=>Pt w f i cs r w':=by
 obtain ⟨W,p⟩:=pt (w.alloc (.cells #[f,i] 123));have H:Below w.heap.size w W:=by rw [p];exact Q3 _ _
 have U:Q0 W w.heap.size 123 #[f,i]:=Q0.fresh p;have k:=Bz j t ok;have y:R.length<=8192:=by have:=XD j.pos;omega
 have x:=pp (SQ W q c R (d.on H) j (GM j t ok) 8192 k (by decide) (by decide))
 have A:=pp λa (g:Below w.heap.size w a)=>gD q R.length c R rfl L (by omega) a (d.on g)
 have S:=pp U;have T:=pp H;have G:=pp (py j (py t ok));clear j t ok L d H U k y;go_enter func125,ntmps125;go_upto_region 1 with fail
 rw [<-p];clear p;go_upto_region 3 with (go_at_call 168;refine x.o.mono ?_;rintro V I ⟨rfl,z⟩;have E:=pp (after T.o z);have C:=pp (S.o.on z);clear z)
 obtain ⟨P,Q⟩:=C.o.rep;have m:=pp λa (g:Below I.heap.size I a)=>A.o a (after E.o g)
 refine Qk [0,0,0,2,3,3,3,3] (λ_ v w'=>cN R w.heap.size v w') (by kernel_rfl) (by kernel_rfl) (λ_ _ _ _ ⟨q,c,s,e⟩ h=>⟨q,c,s,e.on h⟩) ?_
 repeat (first|(refine Qi ?_)|(refine Qf (λK J=>?_);go_simp;refine J _ ?_;clear J K))
 refine Q8 ?_;repeat (first|(refine Q2 ?_)|(refine Qv ?lsA (λv_=>?_);case lsA=>(intro w_ n hp_;(go_simp;refine (m.o _ (Qb n).none).mono ?_;rintro V w9 ⟨v,rfl,s,e⟩;obtain ⟨q,c,rfl,-⟩:=s.form Bj;exact ⟨_,rfl,Kept.of_below e,q,c,rfl,s.lowB (pB E.o.size (Qb n).size)⟩))))
 refine Qc ?_;simp only [Qd];rintro a e ⟨-,q2,c2,rfl,M⟩;have N:=pp M;have D:=pp (after E.o e);clear M e P Q;have O:Hid (∀F,F=a.alloc (.cells #[f,i,.slice q2 R.length c2] 186)->Uz a.heap.size f i cs F (λb=>b=a.heap.size∨Value.ownBlock (.slice q2 R.length c2)=some b)):=pp λF l=>⟨_,R,Q0.fresh l,(Q5.lowB (B:=0) N.o (pC _)).on (by rw [l];exact (pI _ _).alloc (pA _) _),G.o.1,G.o.2.1,G.o.2.2,λ_=>Iff.rfl⟩
 go_wp2_with fail;go_returns;refine ⟨a.heap.size,_,rfl,O.out _ rfl,?_,D.o.alloc D.o.size _⟩;intro b u;rcases u with rfl|u
 ·exact D.o.size
 ·exact (QC N.o u).1
theorem bn (d i:Int)(g o c tot:Nat)(cs:List Int)(ok:CellsOk cs)(ht:tot=(QZ (Yn cs)).length)(m:tot<=c)(e:c<=maxLen)(w:World)(B:∀j x,(QZ (Yn cs))[j]?=some x->w.cell? ⟨g,o+j,none⟩=some (int u8 (n8 x))):
  Calls prog 83 #[.agg #[d,i],.slice (some ⟨g,o,none⟩) tot c] w λr w'=>Pt w d i cs r w':=by
 obtain ⟨W,n⟩:=pt (w.alloc (.cells #[d,i] 123));have H:pM w W:=by rw [n];exact Q3 _ _
 have U:Q0 W w.heap.size 123 #[d,i]:=Q0.fresh n;have k:=Ur cs;have p:=Us cs;have f:=Bz k p ok;have h:=GM k p ok;generalize Yn cs=R at *;have v:=pp (gH g o c R k h f tot ht m e W (λj x C=>by rw [Yt H (QN (B j x C))];exact B j x C))
 have t:=pp λ(D:World) (q:Option Addr) (c:Nat) (u:R.length<=c) (s:Rd D q 2 Xd R)=>gI d i q c R cs k p ok u D s
 have L:=pp U;have N:=pp H;clear k p ok B H U f h ht m e;go_enter func83,ntmps83;go_upto_region 1 with fail
 rw [<-n];clear n;go_upto_region 2 with (go_at_call 124;refine v.o.mono ?_;rintro O F ⟨v1,rfl,y,A⟩;have HO:=pp y;have E:=pp (after N.o A);obtain ⟨u0,u1,u2,u3⟩:=(L.o.on A).pair;obtain ⟨G,I,rfl,l,-,a,-,-⟩:=y.form Bj;have z:=pp (t.o F G I l a);clear y A l a)
 go_wp2_with (go_at_call 125;refine z.o.mono ?_;rintro O w2 ⟨c2,K,rfl,(M:Hid _)⟩);go_returns;obtain ⟨u,s,J⟩:=M.o;exact ⟨c2,K,rfl,u,λb hb=>pB E.o.size (s b hb),after E.o J⟩
def pl (N:Nat)(bs:List B8)(v:Value)(w:World):Prop:=∃q c,v=.slice q bs.length c/\Q5 w N 5 1 Yk v bs
def dh (N:Nat)(bs:List B8):Nat->XO:=λi v w=>match i with|9=>pl N bs v w|_=>True
theorem lp {N:Nat}{bs:List B8} :∀i v (w w':World),dh N bs i v w->Below w.heap.size w w'->dh N bs i v w':=by
 intro i v w w' h b;by_cases a:i=9
 ·subst a;obtain ⟨q,c,e,d⟩:=h;exact ⟨q,c,e,d.on b⟩
 ·unfold dh;split
  ·exact absurd rfl a
  ·trivial
structure SavedAt (w:World)(t s d n a:Nat)(v:Value)(L:List (Nat×TI))(Ms Mi:Nat->Prop)(T:TS)(i:TI)(D':DS)(w':World):Prop where
 go:∃Ms' Mi',TbAt w' t s d v (L.set n (a,{ i with dirty:=false })) Ms' Mi' { T with l:=T.l.set n { i with dirty:=false },d:=D' }/\(∀b,Ms' b->Ms b∨w.heap.size<=b)/\(∀b,Mi' b->Mi b∨w.heap.size<=b)
 kept:Kept (λb=>¬Ms b/\¬Mi b) w w'
theorem bo (t s d n a:Nat)(v:Value)(L:List (Nat×TI))(Ms Mi:Nat->Prop)(T:TS)(i:TI)(D':DS)(N:Nat)(w:World)(h:TbAt w t s d v L Ms Mi T)(hn:L[n]?=some (a,i))(hd:i.dirty=true)(hx: -524288<=i.x/\i.x<524288)(Z: -524288<=i.z/\i.z<524288)(I:DOk T.d N 1000000)(hN:N<=90000)(hs:Zv T.d (Ue i.x i.z) (QZ (Yn i.cs))=(D',0))(U:i.cs.length=8192):
  Calls prog 85 #[t,a] w λr w'=>r=.returned (int i64 0)/\SavedAt w t s d n a v L Ms Mi T i D' w':=by
 obtain ⟨M',ag,ai⟩:=UA h.its (pG hn);obtain ⟨c,Mc,j,C,-⟩:=ag;rw [hd] at j;have l:(QZ (Yn i.cs)).length<=1000000:=by
  have h1:=Dk (Yn i.cs);have h2:=XD (Ur i.cs).pos;have h3:Qh (Yn i.cs)=(Qu (Yn i.cs)).length:=Ze λr hr=>by have:=(Ur i.cs).pos r hr;omega
  rw [Us,U] at h3;omega
 have S:=pp λW=>GB i.x i.z W
 have M:=pp λW=>cO i.x i.z hx Z W
 have u:=pp λW (g:pM w W)=>SR c i.x i.z i.cs W Mc ((YD c i.x i.z i.cs).on C g)
 have G:=pp λW (g:pM w W) (sl:SL) (hg:GoodS W 0 sl) (Z:sl.2.1<=1000000)=>Nu 0 s d Ms T.d N W (h.on g).st I hN (Ue i.x i.z) sl hg Z (pC _)
 have HS:=pp hs;have X:=pp (py h (py hn l));have af:=pp j;generalize Ue i.x i.z=id at *;have ah:∃cc,∀W,pM w W->Q0 W c 186 #[int i64 i.x,int i64 i.z,cc]:=by
  obtain ⟨v',R,hB,-⟩:=C;exact ⟨v',λW g=>hB.on g⟩
 obtain ⟨cc,k⟩:=ah;have HPC:=pp k;have a0:=j.cell 0;have a1:=j.cell 1;have p0:=(k w (.refl _ _)).cell 0;have p1:=(k w (.refl _ _)).cell 1;obtain ⟨bs,D⟩:=pt (QZ (Yn i.cs));rw [<-D] at u HS X;clear h hn hd hx Z I hN hs U j C l ai k D;go_enter func85,ntmps85;go_upto_region 4 with first
  | (go_at_call 120;refine (S.o _).mono ?_;rintro e_ w1 ⟨rfl,G1⟩;replace G1:=pp G1)
  | (go_at_call 78;refine (M.o _).mono ?_;rintro e_ w2 ⟨rfl,g2⟩;have G2:=pp (after G1.o g2);clear g2)
 clear a0 a1 p0 p1;have t0:=λd os=>(((X.o.1.on G2.o).blk).re d os).cell 0
 have a0:=λd os=>((af.o.on G2.o).re d os).cell 0
 have q:=pp λW (g:pM w2 W)=>u.o W (after G2.o g)
 refine Qk [0,0,0,0,0,0,0,0,0,2,3,3] (dh w2.heap.size bs) (by kernel_rfl) (by kernel_rfl) (lp) ?_
 repeat (first|(refine Qi ?_)|(refine Qf (λK hK=>?_);go_simp;refine hK _ ?_;clear hK K))
 refine Q8 ?_;repeat (first|(refine Q2 ?_)|(refine Qv ?lsA (λv_=>?_);case lsA=>(intro w_ P hp_;(go_simp;refine (q.o _ (Qb P).none).mono ?_;rintro e_ w9 ⟨v9,rfl,o9,g9⟩;obtain ⟨q9,c9,rfl,-⟩:=o9.form bg;exact ⟨_,rfl,Kept.of_below g9,q9,c9,rfl,o9.lowB (Qb P).size⟩))))
 refine Qc ?_;simp only [Qd];rintro W3 h3 ⟨-,q3,c3,rfl,hO⟩;have Y:=pp (after G2.o h3);obtain ⟨q4,c4,e4,f,J⟩:=Ih 0 hO;obtain ⟨rfl,-,rfl⟩:=Value.slice.inj e4;have y:=G.o W3 Y.o (q3,bs.length,c3) f X.o.2.2;rw [J,HS.o] at y;have O:=pp (show Calls prog 127 #[s,int i64 id,.slice q3 bs.length c3] W3 λr w'=>r=.returned (int i64 0)/\Yw W3 0 Ms d D' w' from y)
 clear h3 hO e4 f J y t0 a0 q u G S M;go_upto_region 5 with (go_at_call 127;refine O.o.mono ?_;rintro e_ w4 ⟨rfl,K4⟩;replace K4:=pp K4)
 have H:=X.o.1.on Y.o;obtain ⟨ab,Q,m4,k4⟩:=H.disk K4.o;obtain ⟨A,ac,hA,V⟩:=Q.itemN X.o.2.1;obtain ⟨c5,Mc5,e,m,B⟩:=ac;have f1:=e.frz 1;have a1:=e.cell 1;have aa:=pp (show SavedAt w t s d n a v L Ms Mi T i D' (w4.setCell ⟨a,1,none⟩ (.bool false)) from by
  have aj:=UY.mark e m B false;obtain ⟨ae,ad,m5⟩:=V _ _ aj;have g3:=Y.o.size;refine ⟨⟨ab,ae,ad,λb F=>(m4 b F).imp_right (pB g3),λb F=>(m5 b F).imp_right λh=>pB g3 (pB k4.size h)⟩,?_⟩
  have E:Mi a:=hA a ((B a).2 (.inl rfl));exact (((Kept.of_below Y.o).mono (K':=λb=>¬Ms b/\¬Mi b) λ_ _=>trivial).trans (k4.mono λb F=>F.1)).setCell (p:=⟨a,1,none⟩) (λh=>h.2 E) _)
 clear H Q m4 k4 e m B hA V;go_wp2_with fail;go_returns;exact ⟨rfl,aa.o⟩
theorem SavedAt.aft {a:Nat}{v:Value}{L:List (Nat×TI)}{i:TI}{j:DS}{w w':World}(h:SavedAt w t s d n a v L Ms Mi T i j w')(e:∀b,M b↔Es t s v Ms Mi b):Q6 (Yz t { T with l:=T.l.set n { i with dirty:=false },d:=j }) w M w':=by
 obtain ⟨⟨g,f,o,m,p⟩,k⟩:=h;refine ⟨Es t s v g f,⟨s,d,v,_,g,f,o,λ_=>Iff.rfl⟩,λb c=>?_,k.mono λb c=>⟨λh=>c ((e b).2 (.inr (.inr (.inl h)))),λh=>c ((e b).2 (.inr (.inr (.inr (.inr h)))))⟩⟩
 rcases c with c|c|c|c|c
 ·exact .inl ((e b).2 (.inl c))
 ·exact .inl ((e b).2 (.inr (.inl c)))
 ·exact (m b c).imp_left λh=>(e b).2 (.inr (.inr (.inl h)))
 ·exact .inl ((e b).2 (.inr (.inr (.inr (.inl c)))))
 ·exact (p b c).imp_left λh=>(e b).2 (.inr (.inr (.inr (.inr h))))
theorem GN {w:World}{f:Nat}{v:Value}{L:List (Nat×TI)}{e:TI}(h:TbAt w t s d v L Ms Mi T)(j:L[k]?=some (f,e))(i:e.dirty=false):∃c:Nat,∃b,Q0 w f 142 #[c,.bool false,int i64 b]:=by
 obtain ⟨M',g,-⟩:=UA h.its (pG j);obtain ⟨c,Mc,a,-,-⟩:=g;rw [show (f,e).2=e from rfl,i] at a;exact ⟨c,_,a⟩
theorem Ii {w:World}{b cp:Nat}{v:Value}{L:List (Nat×TI)}{l:TI}(h:TbAt w t s d v L Ms Mi T)(f:L[k]?=some (b,l))(i:v=.slice (some ⟨g,0,none⟩) L.length cp):w.cell? ⟨g,k,none⟩=some (.pointer (some ⟨b,0,none⟩)):=by
 obtain ⟨q,c,a,-,-,e,-⟩:=h.row.form BZ;rw [i] at a;obtain ⟨rfl,-,-⟩:=Value.slice.inj a;have m:(L.map (·.1))[k]?=some b:=by rw [List.getElem?_map,f];rfl
 have:=e.at m (j:=0) rfl;simpa using this
theorem SU (t s d n a:Nat)(v:Value)(L:List (Nat×TI))(Ms Mi:Nat->Prop)(T:TS)(i:TI)(R:DS)(N:Nat)(w:World)(h:TbAt w t s d v L Ms Mi T)(u:L[n]?=some (a,i))(D:i.dirty=true)(j:∀(k:Nat) (p:Nat×TI),k≠n->L[k]?=some p->p.2.dirty=false)(hl:L.length<=1000)(hx: -524288<=i.x/\i.x<524288)(hz: -524288<=i.z/\i.z<524288)(K:DOk T.d N 1000000)(hN:N<=90000)(hs:Zv T.d (Ue i.x i.z) (QZ (Yn i.cs))=(R,0))(O:i.cs.length=8192):
  Calls prog 87 #[t] w λr w'=>r=.returned (.tuple #[int i64 1,int i64 0])/\SavedAt w t s d n a v L Ms Mi T i R w':=by
 have U:=pp (bo t s d n a v L Ms Mi T i R N w h u D hx hz K hN hs O);obtain ⟨q,cp,y,E,-,-,-,W⟩:=h.row.form BZ;rw [List.length_map] at y E W;obtain ⟨g,rfl⟩:=W (by have:=(List.getElem?_eq_some_iff.1 u).1;omega)
 have Z:=h.blk;rw [y] at Z;have t3:=Z.cell 3;obtain ⟨ln,f⟩:=pt L.length;rw [<-f] at E t3 hl;have m:n<ln:=by rw [f];exact (List.getElem?_eq_some_iff.1 u).1
 have HX:=pp (py h (py u (py j (py y (py f (py m D))))));clear h u D j hx hz K hN hs O y E Z f m W;go_enter func87,ntmps87;go_upto_region 3 with fail
 go_loopw [4,14] (λnv V wr=>∃k:Nat,V=.int .i64 k/\Hid (k<=ln)/\((Hid (k<=n)/\nv=.int .i64 0/\wr=w)∨(Hid (n<k)/\nv=.int .i64 1/\Hid (SavedAt w t s d n a v L Ms Mi T i R wr)))) (λ_ V _=>ln - (intOf V).toNat)
 case atStart=>exact ⟨0,rfl,pp (pC _),.inl ⟨pp (pC _),rfl,rfl⟩⟩
 case round=>
  obtain ⟨k,rfl,Q,M⟩:=hrel;by_cases l:k<ln
  ·have hin:(k:Int)<(ln:Int):=by omega
   have hi0:(0:Int)<=(k:Int):=by omega
   have YV:IntKind.i64.wrap ((k:Int)+1)=(k:Int)+1:=pJ _ (by omega)
   obtain ⟨I,u,j,y,f,m,D⟩:=HX.o;obtain ⟨⟨P,ik⟩,C⟩:∃p,L[k]?=some p:=⟨_,pH (by omega)⟩
   rcases M with ⟨b,rfl,rfl⟩|⟨b,rfl,S⟩
   ·by_cases H:k=n
    ·subst H;obtain ⟨rfl,rfl⟩:a=P/\i=ik:=Prod.mk.inj (pE (u.symm.trans C));have J:=Ii I u (cp:=cp) y;obtain ⟨M',X,-⟩:=UA I.its (pG u);obtain ⟨c,Mc,e,-,-⟩:=X;rw [show (a,i).2=i from rfl,D] at e;have i1:=e.cell 1;have B:=pp (py l b.out);clear I u j y f m D C l b e Q;go_upto_region 7 with (go_at_call 85;refine U.o.mono ?_;rintro e_ w2 ⟨rfl,Y⟩;replace Y:=pp Y)
     clear J i1;go_wp2_with fail;go_roundw
     case rel=>exact ⟨k+1,by go_num,pp B.o.1,.inr ⟨pp (Nat.lt_succ_self _),rfl,Y⟩⟩
     case measure=>have:=B.o.1;simp [intOf];omega
    ·have J:=Ii I C (cp:=cp) y;obtain ⟨c,A,e⟩:=GN I C (j k _ H C);have i1:=e.cell 1;have G:=pp (GE t P c A _ e);have B:=pp (py l (show k+1<=n by have:=b.out;omega))
     clear I u j y f m D C l b e Q H;go_upto_region 7 with (go_at_call 85;refine G.o.mono ?_;rintro e_ w2 ⟨rfl,rfl⟩)
     clear J i1;go_wp2_with fail;go_roundw
     case rel=>exact ⟨k+1,by go_num,pp B.o.1,.inl ⟨pp B.o.2,rfl,by first|rfl|trivial⟩⟩
     case measure=>have:=B.o.1;simp [intOf];omega
   ·have H:n≠k:=by have:=b.out;omega
    obtain ⟨⟨Ms',Mi',F,-,-⟩,-⟩:=S.out;have hp':(L.set n (a,{ i with dirty:=false }))[k]?=some (P,ik):=by rw [List.getElem?_set_ne H];exact C
    have J:=Ii F hp' (cp:=cp) (by rw [List.length_set];exact y)
    obtain ⟨c,A,e⟩:=GN F hp' (j k _ (Ne.symm H) C);have i1:=e.cell 1;have G:=pp (GE t P c A wr e);have B:=pp (py l (show n<k+1 by have:=b.out;omega))
    clear I u j y f m D C l b e Q H F hp';go_upto_region 7 with (go_at_call 85;refine G.o.mono ?_;rintro e_ w2 ⟨rfl,rfl⟩)
    clear J i1;go_wp2_with fail;go_roundw
    case rel=>exact ⟨k+1,by go_num,pp B.o.1,.inr ⟨pp B.o.2,rfl,S⟩⟩
    case measure=>have:=B.o.1;simp [intOf];omega
  ·obtain rfl:k=ln:=by have:=Q.out;omega
   have hii:¬(k:Int)<(k:Int):=by omega
   rcases M with ⟨b,-,-⟩|⟨b,rfl,S⟩
   ·exfalso;have:=b.out;have:=HX.o.2.2.2.2.2.1;omega
   ·go_wp2_with fail;go_returns;exact ⟨rfl,S.out⟩
theorem SV (t s d:Nat)(v:Value)(L:List (Nat×TI))(Ms Mi:Nat->Prop)(T:TS)(w:World)(h:TbAt w t s d v L Ms Mi T)(b:∀(k:Nat) (p:Nat×TI),L[k]?=some p->p.2.dirty=false)(A:0<L.length)(F:L.length<=1000):
  Calls prog 87 #[t] w λr w'=>r=.returned (.tuple #[int i64 0,int i64 0])/\w=w':=by
 obtain ⟨q,cp,f,e,-,-,-,n⟩:=h.row.form BZ;rw [List.length_map] at f e n;obtain ⟨g,rfl⟩:=n A;have z:=h.blk;rw [f] at z;have t3:=z.cell 3;obtain ⟨ln,a⟩:=pt L.length;rw [<-a] at e t3 F;have H:=pp (py h (py b (py f a)));clear h b f e z a n A;go_enter func87,ntmps87;go_upto_region 3 with fail
 go_loopw [4,14] (λE y wr=>∃k:Nat,y=.int .i64 k/\Hid (k<=ln)/\E=.int .i64 0/\wr=w) (λ_ y _=>ln - (intOf y).toNat)
 case atStart=>exact ⟨0,rfl,pp (pC _),rfl,rfl⟩
 case round=>
  obtain ⟨k,rfl,B,rfl,rfl⟩:=hrel;by_cases j:k<ln
  ·have hin:(k:Int)<(ln:Int):=by omega
   have hi0:(0:Int)<=(k:Int):=by omega
   have YV:IntKind.i64.wrap ((k:Int)+1)=(k:Int)+1:=pJ _ (by omega)
   obtain ⟨u,b,f,a⟩:=H.o;obtain ⟨⟨G,ik⟩,m⟩:∃p,L[k]?=some p:=⟨_,pH (by omega)⟩
   have D:=Ii u m (cp:=cp) f;obtain ⟨c,l,i⟩:=GN u m (b k _ m);have i1:=i.cell 1;have x:=pp (GE t G c l _ i);have C:=pp j;clear u b f a m j i B;go_upto_region 7 with (go_at_call 85;refine x.o.mono ?_;rintro e_ w2 ⟨rfl,rfl⟩)
   clear D i1;go_wp2_with fail;go_roundw
   case rel=>exact ⟨k+1,by go_num,pp C.o,rfl,by first|rfl|trivial⟩
   case measure=>have:=C.o;simp [intOf];omega
  ·obtain rfl:k=ln:=by have:=B.out;omega
   have hii:¬(k:Int)<(k:Int):=by omega
   go_wp2_with fail;go_returns;exact ⟨rfl,rfl⟩
end
section
open Go.RowKit Go.Maps
theorem lq (a b:List B8)(i:Nat)(h:i<a.length):fb (a++b) i=fb a i:=by
 show (a++b).getD i 0=a.getD i 0;rw [List.getD_eq_getElem?_getD,List.getD_eq_getElem?_getD,List.getElem?_append_left h]
def Fd (n:Int):Int:=if 140737488355328<=n then n - 281474976710656 else n
theorem bp (x:Int)(rest:List B8):Qn (fb (QB x++rest)) 0 6=x%281474976710656:=by
 have e:Qn (fb (QB x++rest)) 0 6=Qn (fb (QB x)) 0 6:=Un λi hi=>lq _ _ _ (by rw [Cd];omega)
 rw [e];simp only [Qn,Nat.zero_add];have g:fb (QB x) 0=BitVec.ofInt 8 (x / 1099511627776):=rfl;have c:fb (QB x) 1=BitVec.ofInt 8 (x / 4294967296):=rfl;have a:fb (QB x) 2=BitVec.ofInt 8 (x / 16777216):=rfl;have d:fb (QB x) 3=BitVec.ofInt 8 (x / 65536):=rfl;have b:fb (QB x) 4=BitVec.ofInt 8 (x / 256):=rfl;have f:fb (QB x) 5=BitVec.ofInt 8 x:=rfl;rw [g,c,a,d,b,f,QF,QF,QF,QF,QF,QF];omega
theorem CK (h: -140737488355328<=x/\x<140737488355328)(rest:List B8):Fd (Qn (fb (QB x++rest)) 0 6)=x:=by
 rw [bp];unfold Fd;split<;>omega
theorem gJ (F:Nat->B8):0<=Qn F 0 6/\Qn F 0 6<281474976710656:=by
 have key:∀n,0<=Qn F 0 n/\Qn F 0 n<256 ^ n:=λn=>by
  induction n with
  | zero=>simp [Qn]
  | succ n ih=>
   have:=ZF (F (0+n));have e:(256:Int) ^ (n+1)=256 ^ n * 256:=Int.pow_succ _ _;simp only [Qn];omega
 have:=key 6;exact ⟨this.1,by have h:=this.2;rwa [show (256:Int) ^ 6=281474976710656 by decide] at h⟩
theorem SW (b:B8)(rest:List B8):Qn (fb (b::rest)) 0 1=n8 b:=by
 simp only [Qn,Nat.zero_add];show 0 * 256+n8 b=n8 b;omega
theorem SX (b c:B8)(rest:List B8):Qn (fb (b::c::rest)) 0 2=n8 b * 256+n8 c:=by
 simp only [Qn,Nat.zero_add];show (0 * 256+n8 b) * 256+n8 c=n8 b * 256+n8 c;omega
end
section
open Go.RowKit Go.Maps
attribute [local go_sem] Oper.semAt_some
def Zd (N B:Nat)(rs:List B8)(w:World):Prop:=∃a c,Q0 w B 51 #[.slice a rs.length c]/\rs.length<=c/\c<=maxLen/\N<=B/\Rd w a 1 Yk rs/\∀x,a=some x->x.block<N
theorem Zd.keep {N B:Nat}{rs:List B8}{w w':World}(h:Zd N B rs w)(k:Kept K w w')(y:K B)(z:∀b,b<N->K b):Zd N B rs w':=by
 obtain ⟨a,c,s,l,n,r,v,f⟩:=h;refine ⟨a,c,k.blk y s,l,n,r,λm=>?_,f⟩
 obtain ⟨g,o,rfl,t⟩:=v m;refine ⟨g,o,rfl,λi x q j u p=>?_⟩
 have e:=t i x q j u p;have d:=QN e;dsimp only at d;rw [World.cell?_of_block (k.block g d (z g (f _ rfl)))];exact e
theorem Zd.on {N B:Nat}{rs:List B8}{w w':World}(h:Zd N B rs w)(a:Below w.heap.size w w'):Zd N B rs w':=h.keep ((Kept.of_below a).mono (K':=λ_=>True) λ_ _=>trivial) trivial λ_ _=>trivial
theorem Zd.drop {N B:Nat}{rs:List B8}{w:World}{a:Option Addr}{c:Nat}(h:Zd N B rs w)(C:Q0 w B 51 #[.slice a rs.length c])(n:Nat)(hn:n<=rs.length)(A:Rd w a 1 Yk rs)(v:∀x,a=some x->x.block<N)(h2:rs.length<=c)(h3:c<=maxLen)(f:Option Addr)(y:n<rs.length->∀g o,a=some ⟨g,o,none⟩->f=some ⟨g,o+n,none⟩)(l:∀x,f=some x->x.block<N):Zd N B (rs.drop n) (w.setCell ⟨B,0,none⟩ (.slice f (rs.length - n) (c - n))):=by
 obtain ⟨-,-,-,-,-,s,-,-⟩:=h;have t:Kept (λb=>b≠B) w (w.setCell ⟨B,0,none⟩ (.slice f (rs.length - n) (c - n))):=(Kept.refl _ _).setCell (by simp) _
 refine ⟨f,c - n,?_,by rw [List.length_drop];omega,by omega,s,λr=>?_,l⟩
 ·rw [List.length_drop];exact C.set_ 0 _
 ·rw [List.length_drop] at r;obtain ⟨g,o,rfl,z⟩:=A (by omega)
  refine ⟨g,o+n,y (by omega) g o rfl,λi x p j u q=>?_⟩
  rw [List.getElem?_drop] at p;have m:=z _ x p j u q;have d:=QN m;dsimp only at d;have k:g≠B:=λe=>by have:=v _ rfl;dsimp only at this;omega
  rw [World.cell?_of_block (t.block g d k),show o+n+i * 1+j=o+(n+i) * 1+j by omega]
  exact m
theorem Oj (F:Nat->B8):∀n:Nat,0<=Qn F 0 n/\Qn F 0 n<256 ^ n
 | 0=>by simp [Qn]
 | n+1=>by
  have ih:=Oj F n;have:=ZF (F (0+n));have e:(256:Int) ^ (n+1)=256 ^ n * 256:=Int.pow_succ _ _;simp only [Qn];omega
theorem gK (h:n<=5):0<=Qn F 0 n/\Qn F 0 n<=1099511627775:=by
 have h1:=Oj F n;have h2:(256:Int) ^ n<=1099511627776:=by
  rcases (show n=0∨n=1∨n=2∨n=3∨n=4∨n=5 by omega) with rfl|rfl|rfl|rfl|rfl|rfl<;>decide
 omega
theorem gL (n:Int)(b:0<=n)(h1:n<=1099511627775)(x:B8):bits .or .i64 (n * 256) (n8 x)=n * 256+n8 x:=by
 obtain ⟨N,rfl⟩:=Int.eq_ofNat_of_zero_le b;have d:x.toNat<2 ^ 8:=x.isLt;have e:(2 ^ 8 * N|||x.toNat)=2 ^ 8 * N+x.toNat:=(Nat.two_pow_add_eq_or_of_lt d N).symm;show IntKind.i64.wrap ((BitVec.ofInt 64 ((N:Int) * 256)|||BitVec.ofInt 64 (x.toNat:Int)).toNat:Int)=(N:Int) * 256+(x.toNat:Int);have a:(BitVec.ofInt 64 ((N:Int) * 256)).toNat=2 ^ 8 * N:=by rw [BitVec.toNat_ofInt];omega
 have c:(BitVec.ofInt 64 (x.toNat:Int)).toNat=x.toNat:=by rw [BitVec.toNat_ofInt];omega
 rw [BitVec.toNat_or,a,c,e,IntKind.wrap_i64];omega
theorem Jf (N B Fb m:Nat)(rs:List B8)(u:1<=m)(y:m<=6)(p:m<=rs.length)(hl:rs.length<=1000000)(w:World)(h:Zd N B rs w):
  Calls prog 230 #[int i64 m,B,Fb] w λr w'=>r=.returned (int i64 (Qn (fb rs) 0 m))/\Zd N B (rs.drop m) w'/\Kept (λb=>b≠B) w w':=by
 have K:=pp h;obtain ⟨a,c,l,t,i,R,f,d⟩:=h;obtain ⟨g,o,rfl,J⟩:=f (by omega)
 have b0:=l.cell 0;have f0:=l.frz 0;have v:∀k,k<m->w.cell? ⟨g,o+k,none⟩=some (int u8 (n8 (fb rs k))):=λk I=>by
  have L:rs[k]?=some (fb rs k):=by
   show rs[k]?=some (rs.getD k 0);rw [List.getD_eq_getElem?_getD,pH (by omega)]
   rfl
  have:=J k _ L 0 _ rfl;simpa using this
 have H:=pp v;have C:=pp (py l (py f (py d (py t (py i (py u (py y p)))))));have g1:¬(rs.length:Int)<(m:Int):=by omega
 have g2:(0:Int)<=(m:Int):=by omega
 have g3:(m:Int)<=(rs.length:Int):=by omega
 have g4:(m:Int)<=(c:Int):=by omega
 have g5:m<=c:=by omega
 have g6:m<=rs.length:=p;clear l t f d J v i u y p R;generalize fb rs=F at *;go_enter func230,ntmps230;go_upto_region 6 with fail
 go_loopw [5,16] (λO G wr=>∃k:Nat,k<=m/\G=.int .i64 k/\O=.int .i64 (Qn F 0 k)/\wr=w) (λ_ G _=>m - (intOf G).toNat)
 case atStart=>exact ⟨0,pC _,rfl,rfl,rfl⟩
 case round=>
  obtain ⟨k,I,rfl,rfl,rfl⟩:=hrel;by_cases j:k<m
  ·have L:=H.o k j;have hk0:(0:Int)<=k:=by omega
   have D:(k:Int)<m:=by omega
   have hm6:=C.o.2.2.2.2.2.2.1;have z:=gK (F:=F) (n:=k) (by omega)
   have x8:=ZF (F k);have hor:=gL (Qn F 0 k) z.1 z.2 (F k);have q:Qn F 0 (k+1)=Qn F 0 k * 256+n8 (F k):=by simp only [Qn,Nat.zero_add]
   have P:=pp q;clear q;go_wp2_with fail;exact ⟨⟨k+1,j,by go_num,by rw [P.o],trivial⟩,ZY j⟩
  ·obtain rfl:k=m:=by omega
   have D:¬((k:Int)<(k:Int)):=by omega
   clear I j;obtain ⟨l,f,d,t,i,u,y,p⟩:=C.o;rcases (show c=k∨k<c by omega) with A|A
   ·have E:rs.length=k:=by omega
    have s:=pp (K.o.drop l k p f d t i (some ⟨g,o,none⟩) (λh=>by omega) d)
    clear l f d t i u y p C;subst A;go_wp2_with fail;go_returns;exact ⟨rfl,by have:=s.o;rw [E] at this;simpa using this,(Kept.refl _ _).setCell (by simp) _⟩
   ·have s:=pp (K.o.drop l k p f d t i (some ⟨g,o+k,none⟩) (λh M Q e=>by
     obtain ⟨rfl,rfl⟩:g=M/\o=Q:=by simpa using e
     rfl) (λx e=>by
     have:=d ⟨g,o,none⟩ rfl;obtain rfl:(⟨g,o+k,none⟩:Addr)=x:=by simpa using e
     exact this))
    clear l f d t i u y p C;go_wp2_with fail;go_returns;exact ⟨rfl,by simpa using s.o,(Kept.refl _ _).setCell (by simp) _⟩
structure ClS (B Fb Sb Nb:Nat)(w:World):Prop where
 s:Q0 w Sb 84 #[.func (.func 230) #[] #[B,Fb]]
 n:Q0 w Nb 87 #[.func (.func 231) #[] #[Sb]]
 sB:Sb≠B
 nB:Nb≠B
theorem ClS.kept {B Fb Sb Nb:Nat}{w w':World}(h:ClS B Fb Sb Nb w)(a:Kept K w w')(c:K Sb)(b:K Nb):ClS B Fb Sb Nb w':=⟨a.blk c h.s,a.blk b h.n,h.sB,h.nB⟩
theorem ClS.turn {B Fb Sb Nb:Nat}{w w':World}(h:ClS B Fb Sb Nb w)(a:Kept (λb=>b≠B) w w'):ClS B Fb Sb Nb w':=h.kept a h.sB h.nB
theorem Fz (N B Fb Sb Nb:Nat)(rs:List B8)(i:6<=rs.length)(g:rs.length<=1000000)(w:World)(h:Zd N B rs w)(e:ClS B Fb Sb Nb w):
  Calls prog 231 #[Sb] w λr w'=>r=.returned (int i64 (Fd (Qn (fb rs) 0 6)))/\Zd N B (rs.drop 6) w'/\Kept (λb=>b≠B) w w':=by
 have s0:=e.s.cell 0;have c:=pp (Jf N B Fb 6 rs (by decide) (by decide) i g w h)
 have hb:=gJ (fb rs);unfold Fd;generalize Qn (fb rs) 0 6=n at *;clear h e;by_cases d:140737488355328<=n
 ·rw [if_pos d];go_enter func231,ntmps231;go_wp2_with (go_at_call 230;refine c.o.mono ?_;rintro j f ⟨rfl,a⟩;replace a:=pp a);go_returns;exact ⟨rfl,a.o⟩
 ·rw [if_neg d];go_enter func231,ntmps231;go_wp2_with (go_at_call 230;refine c.o.mono ?_;rintro j f ⟨rfl,a⟩;replace a:=pp a);go_returns;exact ⟨rfl,a.o⟩
def Vl (i1 i2:Nat)(P0:World->Prop)(P1:Value->World->Prop)(P2:Value->Value->World->Prop):UP:=λS V w=>(¬S i1/\¬S i2/\P0 w)∨(S i1/\¬S i2/\P1 (V i1) w)∨(S i1/\S i2/\P2 (V i1) (V i2) w)
section
variable {i1 i2:Nat}{P0:World->Prop}{P1:Value->World->Prop}{P2:Value->Value->World->Prop}{S:Nat->Prop}{V:Nat->Value}{w w':World}{v:Value}
theorem Vl.below (h:Vl i1 i2 P0 P1 P2 S V w)(k:Below w.heap.size w w')(c:∀w w',P0 w->Below w.heap.size w w'->P0 w')(b:∀v w w',P1 v w->Below w.heap.size w w'->P1 v w')(a:∀v u w w',P2 v u w->Below w.heap.size w w'->P2 v u w'):Vl i1 i2 P0 P1 P2 S V w':=
 h.imp (λh=>⟨h.1,h.2.1,c _ _ h.2.2 k⟩) (Or.imp (λh=>⟨h.1,h.2.1,b _ _ _ h.2.2 k⟩) λh=>⟨h.1,h.2.1,a _ _ _ _ h.2.2 k⟩)
theorem Vl.zero (h:P0 w):Vl i1 i2 P0 P1 P2 (λ_=>False) V w:=.inl ⟨λh=>h,λh=>h,h⟩
theorem Vl.at0 (h:Vl i1 i2 P0 P1 P2 S V w)(a:¬S i1):¬S i2/\P0 w:=by
 rcases h with h|h|h
 ·exact ⟨h.2.1,h.2.2⟩
 ·exact absurd h.1 a
 ·exact absurd h.1 a
theorem Vl.at1 (h:Vl i1 i2 P0 P1 P2 S V w)(a:S i1)(b:¬S i2):P1 (V i1) w:=by
 rcases h with h|h|h
 ·exact absurd a h.1
 ·exact h.2.2
 ·exact absurd h.2.1 b
theorem Vl.at2 (h:Vl i1 i2 P0 P1 P2 S V w)(a:S i1)(b:S i2):P2 (V i1) (V i2) w:=by
 rcases h with h|h|h
 ·exact absurd a h.1
 ·exact absurd b h.2.1
 ·exact h.2.2
theorem Vl.lay1 (a:i1≠i2)(b:¬S i2)(h:P1 v w):Vl i1 i2 P0 P1 P2 (Zg S i1) (upd V i1 v) w:=.inr (.inl ⟨.inl rfl,λe=>e.elim (λe=>a e.symm) b,by rw [Yu];exact h⟩)
theorem Vl.lay2 (a:i1≠i2)(b:S i1)(h:P2 (V i1) v w):Vl i1 i2 P0 P1 P2 (Zg S i2) (upd V i2 v) w:=.inr (.inr ⟨.inr b,.inl rfl,by rw [Yu,XE a];exact h⟩)
end
def D0 (rs:List B8)(k:Nat):Int:=Fd (Qn (fb (rs.drop k)) 0 6)
theorem lr (N B Fb Sb Nb:Nat)(rs:List B8)(hm:18<=rs.length)(hl:rs.length<=1000000)(w:World)(h:Zd N B rs w)(hc:ClS B Fb Sb Nb w):
  Calls prog 232 #[Nb] w λr w'=>r=.returned (.agg #[int i64 (D0 rs 0),int i64 (D0 rs 6),int i64 (D0 rs 12)])/\Zd N B (rs.drop 18) w'/\Kept (λb=>b≠B) w w':=by
 obtain ⟨W,hW⟩:=pt (w.alloc (.cells #[int i64 0,int i64 0,int i64 0] 38));have H:pM w W:=by rw [hW];exact Q3 _ _
 have R0:Q0 W w.heap.size 38 #[int i64 0,int i64 0,int i64 0]:=Q0.fresh hW;have Q:B<w.heap.size:=by obtain ⟨a,c,hB,-⟩:=h;exact hB.lt
 have h0:=h.on H;have C:ClS B Fb Sb Nb W:=hc.kept ((Kept.of_below H).mono (K':=λ_=>True) λ_ _=>trivial) trivial trivial
 have J:=pp λm (g:Zd N B rs m) (k:ClS B Fb Sb Nb m)=>Fz N B Fb Sb Nb rs (by omega) hl m g k
 have I:=pp λm (g:Zd N B (rs.drop 6) m) (k:ClS B Fb Sb Nb m)=>Fz N B Fb Sb Nb (rs.drop 6) (by rw [List.length_drop];omega) (by rw [List.length_drop];omega) m g k
 have F:=pp λm (g:Zd N B (rs.drop 12) m) (k:ClS B Fb Sb Nb m)=>Fz N B Fb Sb Nb (rs.drop 12) (by rw [List.length_drop];omega) (by rw [List.length_drop];omega) m g k
 rw [List.drop_drop] at I F;have e0:Fd (Qn (fb rs) 0 6)=D0 rs 0:=rfl;have e1:Fd (Qn (fb (rs.drop 6)) 0 6)=D0 rs 6:=rfl;have e2:Fd (Qn (fb (rs.drop 12)) 0 6)=D0 rs 12:=rfl;rw [e0] at J;rw [e1] at I;rw [e2] at F;generalize D0 rs 0=x at *;generalize D0 rs 6=y at *;generalize D0 rs 12=z at *;have n0:=λf d os=>(C.n.sp (D:=[B]) (by simp [C.nB]) f d os).cell 0
 have G:=pp C;have HH:=pp H;have HR:=pp (py R0 Q);have H0:=pp h0;clear h hc H R0 h0 C hm hl Q e0 e1 e2;go_enter func232,ntmps232;go_upto_region 1 with fail
 rw [<-hW];clear hW;refine GY [0,2,0,2,3,3] [B] (Vl 1 3 (λw=>Zd N B rs w) (λv w=>v=.int .i64 x/\Zd N B (rs.drop 6) w) (λv u w=>v=.int .i64 x/\u=.int .i64 y/\Zd N B (rs.drop 12) w)) (by kernel_rfl) (by kernel_rfl) (λ_ _ _ _ _ h k=>h.below k (λ_ _ h k=>h.on k) (λ_ _ _ h k=>⟨h.1,h.2.on k⟩) (λ_ _ _ _ h k=>⟨h.1,h.2.1,h.2.2.on k⟩)) (λ_=>Vl.zero H0.o) ?_
 repeat (first|(refine Qi ?_)|(refine Qf (λK hK=>?_);go_simp;refine hK _ ?_;clear hK K))
 refine Q8 ?_;refine QL ?_;refine XY rfl ?s1 (λaf=>?_)
 case s1=>
  intro S_ V_ w_ i O A t q;obtain ⟨aa,Z⟩:=q.at0 t;have s:=pp (J.o w_ Z (G.o.kept i (by simp [G.o.sB]) (by simp [G.o.nB])))
  have S:=pp (py i aa);clear i O A t q aa Z;go_simp;refine s.o.mono ?_;rintro e_ w5 ⟨rfl,r5,k5⟩;exact ⟨_,rfl,Kept.trans S.o.1 (k5.mono λb l e=>l (by simp [e])),Vl.lay1 (by decide) S.o.2 ⟨rfl,r5⟩⟩
 refine QL ?_;refine XY rfl ?s3 (λad=>?_)
 case s3=>
  intro S_ V_ w_ i O A t q;have M:=A 1 (by decide) rfl (by kernel_rfl)
  obtain ⟨j,Z⟩:=q.at1 M t;have s:=pp (I.o w_ Z (G.o.kept i (by simp [G.o.sB]) (by simp [G.o.nB])))
  have S:=pp (py i (py M j));clear i O A t q M j Z;go_simp;refine s.o.mono ?_;rintro e_ w5 ⟨rfl,r5,k5⟩;exact ⟨_,rfl,Kept.trans S.o.1 (k5.mono λb l e=>l (by simp [e])),Vl.lay2 (by decide) S.o.2.1 ⟨S.o.2.2,rfl,r5⟩⟩
 refine QL ?_;refine QL ?_;refine Co (λV2 w2 E P V=>?_)
 obtain ⟨j,L,T⟩:=V.at2 (by decide) (by decide)
 rw [P 1 (by decide) rfl] at j
 rw [P 3 (by decide) rfl] at L
 have ae:af=.int .i64 x:=by simpa [upd] using j
 have ac:ad=.int .i64 y:=by simpa [upd] using L
 subst ae ac;have R:=G.o.kept E (by simp [G.o.sB]) (by simp [G.o.nB])
 have m0:=R.n.cell 0;have ab:Q0 w2 w.heap.size 38 #[int i64 0,int i64 0,int i64 0]:=ZN.blk E (by simp;have:=HR.o.2;omega) HR.o.1
 have s:=pp (F.o w2 T R);have X:=pp (py E ab);clear E P V j L T R ab n0 J I F;simp only [Qd];go_upto_region 2 with fail
 go_upto_region 3 with (go_at_call 231;refine s.o.mono ?_;rintro e_ w3 ⟨rfl,r3,k3⟩;have H3:=pp (py r3 k3);have U:=k3.blk (show w.heap.size≠B by have:=HR.o.2;omega) X.o.2;obtain ⟨q0,q1,q2,f0,f1,f2⟩:=U.c3;clear r3 k3)
 have R2:=U.st3 (int i64 x) (int i64 y) (int i64 z);obtain ⟨d0,d1,d2,-,-,-⟩:=R2.c3;refine bodyPost_ret (v:=.agg #[int i64 x,int i64 y,int i64 z]) (by simp [results,results232,go_sem,d0,d1,d2]) rfl ⟨rfl,?_,?_⟩
 ·have hr:Zd N B (rs.drop 18) w3:=H3.o.1;have Q:=HR.o.2;obtain ⟨-,-,-,-,-,hNB,-,-⟩:=id hr;exact hr.keep (K:=λb=>b≠w.heap.size) (((((Kept.refl _ _).setCell (p:=⟨w.heap.size,0,none⟩) (by simp) _).setCell (p:=⟨w.heap.size,1,none⟩) (by simp) _).setCell (p:=⟨w.heap.size,2,none⟩) (by simp) _)) (by omega) (λb l=>by omega)
 ·have k1:Kept (λb=>b≠B/\b<w.heap.size) w w3:=((Kept.of_below HH.o).mono λ_ _=>trivial).trans ((X.o.1.mono λb l h=>l.1 (by simpa using h)).trans (H3.o.2.mono λb l=>l.1))
  have Y:=((k1.setCell (p:=⟨w.heap.size,0,none⟩) (λh=>Nat.lt_irrefl _ h.2) (int i64 x)).setCell (p:=⟨w.heap.size,1,none⟩) (λh=>Nat.lt_irrefl _ h.2) (int i64 y)).setCell (p:=⟨w.heap.size,2,none⟩) (λh=>Nat.lt_irrefl _ h.2) (int i64 z)
  exact ⟨Y.os,Y.tape,Y.output,Y.size,λb l hK=>Y.block b l ⟨hK,l⟩⟩
def YU (x:Int):Prop:= -140737488355328<=x/\x<140737488355328
theorem Kn (x:Int)(r:List B8):(QB x++r).drop 6=r:=by
 rw [List.drop_append_of_le_length (by rw [Cd];omega)]
 rfl
section
variable {N B Fb Sb Nb:Nat}{w:World}
theorem gM {r:List B8}(e:YU x)(c:(QB x++r).length<=1000000)(h:Zd N B (QB x++r) w)(d:ClS B Fb Sb Nb w):
  Calls prog 231 #[Sb] w λq w'=>q=.returned (int i64 x)/\Zd N B r w'/\Kept (λb=>b≠B) w w':=by
 have a:=Fz N B Fb Sb Nb (QB x++r) (by rw [List.length_append,Cd];omega) c w h d
 rw [CK e,Kn] at a;exact a
theorem gN {r:List B8}(k:YU x)(g:YU y)(i:YU z)(f:(QB x++(QB y++(QB z++r))).length<=1000000)(h:Zd N B (QB x++(QB y++(QB z++r))) w)(j:ClS B Fb Sb Nb w):
  Calls prog 232 #[Nb] w λq w'=>q=.returned (.agg #[x,y,z])/\Zd N B r w'/\Kept (λb=>b≠B) w w':=by
 have c:=lr N B Fb Sb Nb (QB x++(QB y++(QB z++r))) (by simp only [List.length_append,Cd];omega) f w h j
 have e:(QB x++(QB y++(QB z++r))).drop 6=QB y++(QB z++r):=Kn _ _;have a:(QB x++(QB y++(QB z++r))).drop 12=QB z++r:=by rw [show (12:Nat)=6+6 from rfl,<-List.drop_drop,e,Kn]
 have d:(QB x++(QB y++(QB z++r))).drop 18=r:=by rw [show (18:Nat)=12+6 from rfl,<-List.drop_drop,a,Kn]
 unfold D0 at c;rw [List.drop_zero,e,a,d,CK k,CK g,CK i] at c;exact c
theorem SY {b:B8}{r:List B8}(c:(b::r).length<=1000000)(h:Zd N B (b::r) w):
  Calls prog 230 #[int i64 1,B,Fb] w λq w'=>q=.returned (int i64 (n8 b))/\Zd N B r w'/\Kept (λb=>b≠B) w w':=by
 have a:=Jf N B Fb 1 (b::r) (by decide) (by decide) (by simp) c w h
 rw [SW] at a;exact a
theorem SZ {b c:B8}{r:List B8}(d:(b::c::r).length<=1000000)(h:Zd N B (b::c::r) w):
  Calls prog 230 #[int i64 2,B,Fb] w λq w'=>q=.returned (int i64 (n8 b * 256+n8 c))/\Zd N B r w'/\Kept (λb=>b≠B) w w':=by
 have a:=Jf N B Fb 2 (b::c::r) (by decide) (by decide) (by simp) d w h
 rw [SX] at a;exact a
end
theorem T4 (now:Int)(b:BD)(l:List QI):Vv now b l=QB now++((1:B8)::(0:B8)::(QB b.1++(QB b.2.1++(QB b.2.2.1++(QB b.2.2.2.1++(QB b.2.2.2.2.1++(QB b.2.2.2.2.2.1++(QB b.2.2.2.2.2.2.1++(QB b.2.2.2.2.2.2.2.1++(de b::BitVec.ofInt 8 ((l.length:Int) / 256)::BitVec.ofInt 8 (l.length:Int)::l.flatMap Vu)))))))))):=by
 unfold Vv Fc;simp only [YX,List.flatMap_cons,List.flatMap_nil,List.append_nil,List.append_assoc,List.cons_append,List.nil_append]
theorem T7 (x:QI)(r:List QI):(x::r).flatMap Vu=QB x.1++(QB x.2.1++(QB x.2.2.1++(QB x.2.2.2++r.flatMap Vu))):=by
 rw [List.flatMap_cons];unfold Vu;simp only [YX,List.flatMap_cons,List.flatMap_nil,List.append_nil,List.append_assoc]
theorem BOk.may_ {M:Int}{b:BD}(h:BOk M b)(hM:M<=70368744177664):EW b=true:=by
 obtain ⟨x,y,z,sx,sy,sz,hw,hh⟩:=h;have a:FU b.1 b.2.1 b.2.2.1 70368744177664=true:=NI.2 ⟨by omega,by omega,by omega⟩
 have c:FU b.2.2.2.1 b.2.2.2.2.1 b.2.2.2.2.2.1 262144=true:=NI.2 ⟨by omega,by omega,by omega⟩
 unfold EW;rw [a,c];simp;omega
end
end Go.Proofs.YtmbccnioijokfaaGreatDoor