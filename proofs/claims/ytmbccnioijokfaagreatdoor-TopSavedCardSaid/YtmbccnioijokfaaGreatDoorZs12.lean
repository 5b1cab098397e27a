/- A part of the proof. -/
import Derived.Test.YtmbccnioijokfaaGreatDoorZs11
import Derived.Test.YtmbccnioijokfaaGreatDoorZs9
import Derived.Shelf.SlMaps.Clone
import Derived.Test.YtmbccnioijokfaaGreatDoorZs8
namespace Go.Proofs.YtmbccnioijokfaaGreatDoor
set_option maxRecDepth 100000
set_option maxHeartbeats 32000000
open Go.Value (int)
open Go.IntKind (i64 u8)
open Go.Proofs.Tryz
variable {w w':World}{base n size g d bm b k i m N bytes:Nat}{v v':Value}{cs:Array Value}{K M M':Nat -> Prop}{x:Int}{P:Program}
section
open Go.RowKit Go.Maps
attribute [local go_sem] Oper.semAt_some
abbrev OT (p:Int×SL):List Value:=[int i64 p.1,Xn p.2]
theorem nZ (p:Int×SL):(OT p).length=2:=rfl
structure DiskAt (w:World)(base d bm:Nat)(v:Value)(S:DS)(sv lv:List (Int×SL)):Prop where
 blk:Q0 w d 200 #[.int .i64 S.room,.int .i64 S.fails,.int .i64 S.waits,.map (some bm),v]
 map:w.ownsMap prog 3 RS bm sv.length (DM sv)
 row:Q5 w base 293 2 OT v lv
 based:base<=d
 basem:base<=bm
 gs:Y0 w base sv
 gl:Y0 w base lv
 safe:S.safe=Yj w sv
 l:S.l=Yj w lv
theorem IF {e:TypeId}{xs:List Value}(h:w.ownsRow base e size v n xs)(a:v.ownBlock=some g):base<=g/\∃cur,Q0 w g e cur:=by
 rcases h.2 with ⟨rfl,_⟩|⟨g',cap,cur,rfl,c,b,_⟩
 ·cases a
 ·simp [Value.ownBlock] at a;subst a;exact ⟨c,cur,b⟩
theorem An {t c:TypeId}{b:Array Value}(h:Q0 w g t cs)(a:Q0 w g c b):t=c:=by
 unfold Q0 at h a;rw [h] at a;simp only [Option.some.injEq,Obj.cells.injEq] at a;exact a.2.1
def BP (d bm:Nat)(v:Value)(b:Nat):Prop:=b=d∨b=bm∨v.ownBlock=some b
theorem DiskAt.mine {S:DS}{f i:List (Int×SL)}(h:DiskAt w base d bm v S f i)(c:BP d bm v b):base<=b/\b<w.heap.size/\∀t cs,Q0 w b t cs->t=200∨t=293:=by
 rcases c with rfl|rfl|c
 ·exact ⟨h.based,h.blk.lt,λt cs a=>.inl (An a h.blk)⟩
 ·exact ⟨h.basem,h.map.lt,λt cs a=>absurd a (Hi h.map _ _ _)⟩
 ·obtain ⟨g,cur,e⟩:=IF h.row c;exact ⟨g,e.lt,λt cs a=>.inr (An a e)⟩
theorem DiskAt.kept {S:DS}{i m:List (Int×SL)}(h:DiskAt w base d bm v S i m)(a:Kept K w w')(e:∀b,BP d bm v b->K b)(f:∀b,VX w base b->K b):DiskAt w' base d bm v S i m:=by
 obtain ⟨o,g2⟩:=h.gs.kept a f;obtain ⟨q,n⟩:=h.gl.kept a f;refine ⟨a.blk (e _ (.inl rfl)) h.blk,Al h.map (a.block _ h.map.lt (e _ (.inr (.inl rfl)))),⟨h.row.1,?_⟩,h.based,h.basem,o,q,by rw [g2];exact h.safe,by rw [n];exact h.l⟩
 rcases h.row.2 with p|⟨g,cap,cur,k,c,j,r⟩
 ·exact .inl p
 ·exact .inr ⟨g,cap,cur,k,c,(a.block g (Array.getElem?_eq_some_iff.1 j).1 (e g (.inr (.inr (by rw [k];rfl))))).trans j,r⟩
theorem DiskAt.on {S:DS}{b a:List (Int×SL)}(h:DiskAt w base d bm v S b a)(c:Below w.heap.size w w'):DiskAt w' base d bm v S b a:=h.kept (K:=λ_=>True) (Kept.of_below c |>.mono λ_ _=>trivial) (λ_ _=>trivial) (λ_ _=>trivial)
def Yd (w:World)(base:Nat)(M:Nat->Prop)(d:Nat)(S:DS):Prop:=∃bm v sv lv,DiskAt w base d bm v S sv lv/\∀b,M b↔BP d bm v b
def Yw (w:World)(base:Nat)(M:Nat->Prop)(d:Nat)(S:DS)(w':World):Prop:=∃M',Yd w' base M' d S/\(∀b,M' b->M b∨w.heap.size<=b)/\Kept (λb=>¬M b) w w'
theorem Yd.mine {S:DS}(h:Yd w base M d S)(c:M b):base<=b/\b<w.heap.size/\∀t cs,Q0 w b t cs->t=200∨t=293:=by
 obtain ⟨bm,v,sv,lv,h,a⟩:=h;exact h.mine ((a b).1 c)
theorem Yd.kept {S:DS}(h:Yd w base M d S)(c:Kept K w w')(j:∀b,M b->K b)(f:∀b,VX w base b->K b):Yd w' base M d S:=by
 obtain ⟨e,v,g,i,h,a⟩:=h;exact ⟨e,v,g,i,h.kept c (λb k=>j b ((a b).2 k)) f,a⟩
theorem Yd.on {S:DS}(h:Yd w base M d S)(a:Below w.heap.size w w'):Yd w' base M d S:=h.kept (K:=λ_=>True) (Kept.of_below a |>.mono λ_ _=>trivial) (λ_ _=>trivial) (λ_ _=>trivial)
theorem Yw.blk {S S':DS}{t:TypeId}(h:Yw w base M d S' w')(f:Yd w base M d S)(a:Q0 w g t cs)(ht:t≠200/\t≠293):Q0 w' g t cs:=by
 obtain ⟨M',-,-,b⟩:=h;exact b.blk (λc=>by
  rcases (f.mine c).2.2 _ _ a with e|e
  ·exact ht.1 e
  ·exact ht.2 e) a
theorem Yw.below {S S':DS}(h:Yw w base M d S' w')(f:Yd w base M d S)(a:base<=w.heap.size):Below base w w':=by
 obtain ⟨M',-,-,c⟩:=h;exact c.below a λb a e=>by have:=(f.mine e).1;omega
theorem Yw.same {S:DS}(b:Yd w base M d S)(a:Below w.heap.size w w'):Yw w base M d S w':=⟨M,b.on a,λ_ h=>.inl h,(Kept.of_below a).mono λ_ _=>trivial⟩
theorem Yw.trans {w'':World}{S':DS}(g:∀b,M' b->M b∨w.heap.size<=b)(a:Kept (λb=>¬M b) w w')(k:Yw w' base M' d S' w''):Yw w base M d S' w'':=by
 obtain ⟨f,j,l,c⟩:=k;refine ⟨f,j,λb e=>?_,?_⟩
 ·rcases l b e with h|h
  ·exact g b h
  ·exact .inr (pB a.size h)
 ·refine ⟨c.os.trans a.os,c.tape.trans a.tape,c.output.trans a.output,pB a.size c.size,λb e i=>(c.block b (pD e a.size) λh=>?_).trans (a.block b e i)⟩
  rcases g b h with h|h
  ·exact i h
  ·omega
theorem Gl:Keyed prog 3:=int_keyed underlying3
theorem cD (w:World):(zeroValue 51).run prog w=.ok (.slice none 0 0) w:=by kernel_rfl
theorem TY (h:Qg x):(Lit.int .i64 x).wf=true:=by
 simp [Lit.wf,IntKind.min,IntKind.max,IntKind.signed,IntKind.bits];unfold Qg at h;omega
theorem Kf (h:Qg x):keyOf prog 3 (.int .i64 x)=some (.int .i64 x):=keyOf_int_mk underlying3 (TY h)
theorem TZ (b n:Nat)(D:DataW SL)(w:World)(c:w.ownsMap prog 3 RS b n D):
  Calls prog 289 #[.map (some b)] w λe w'=>e=.returned (.map (some w.heap.size))/\w'.ownsMap prog 3 RS w.heap.size n D/\Below w.heap.size w w':=by
 obtain ⟨d,a,g,F,h,i⟩:=c;have hq:=λw=>run_eql_map_nil_sl (P:=prog) w 197 _ _ (some b) underlying197
 have hta:=λw (v:Value)=>run_typeAssert_map_sl (P:=prog) w 197 20 _ _ v underlying197
 go_enter func289,ntmps289;go_wp2_with fail;rw [run_callFunc_extern func327 (by kernel_rfl) (by kernel_rfl) (by kernel_rfl) (e:=Extern.MapsClone.clone) (by kernel_rfl),run_maps_clone_sl w 197 g]
 simp only [Result.andThen];rw [Oper.upon_value];go_wp2_with fail;go_returns;have f:pM w (w.alloc (.map d a)):=(pI _ w).alloc (pA _) _;exact ⟨rfl,⟨d,a,(MapKept.heap_alloc w _).1,F,h,i⟩,f⟩
theorem DE {e:TypeId}{xs:List (Int×SL)}(h:Q5 w base e 2 OT v xs):∃q cap,v=.slice q xs.length cap/\xs.length<=cap/\cap<=maxLen/\
  ∀i p,xs[i]?=some p->∃g,q=some ⟨g,0,none⟩/\w.cell? ⟨g,i * 2,none⟩=some (int i64 p.1)/\w.cell? ⟨g,i * 2+1,none⟩=some (Xn p.2):=by
 obtain ⟨q,cap,d,k,f,c,-,l⟩:=h.form nZ;refine ⟨q,cap,d,k,f,λi p a=>?_⟩
 have m:0<xs.length:=by have:=(List.getElem?_eq_some_iff.1 a).1;omega
 obtain ⟨g,rfl⟩:=l m;have a0:=c.at a (j:=0) rfl;have b:=c.at a (j:=1) rfl;rw [Nat.zero_add] at a0 b;exact ⟨g,rfl,a0,b⟩
theorem Uv {α:Type}{xs:List α}{p:α}(h:xs[k]?=some p):xs.take (k+1)=xs.take k++[p]:=by rw [List.take_add_one,h];rfl
theorem V9 {α:Type}{xs:List α}(h:k<xs.length):∃p,xs[k]?=some p:=⟨_,pH h⟩
theorem Kg (base d J:Nat)(v:Value)(S:DS)(f a:List (Int×SL))(w:World)(h:DiskAt w base d J v S f a)(P:Yb f)(I:∀p∈a,Qg p.1)(hN:f.length+a.length<=1000000):
  Calls prog 213 #[d] w λr w'=>r=.returned (.map (some w.heap.size))/\w'.ownsMap prog 3 RS w.heap.size (f.length+a.length) (DM (Xw f a))/\Below w.heap.size w w':=by
 obtain ⟨q,cap,rfl,D,B,A⟩:=DE h.row;have d3:w.cell? ⟨d,3,none⟩=some (.map (some J)):=h.blk.cell 3;have T:w.cell? ⟨d,4,none⟩=some (.slice q a.length cap):=h.blk.cell 4;have C:=h.blk.lt;have L:=pp h.map;have N:=pp A;have Q:=pp I;have HC:=pp (py D B);clear h A I D B;go_enter func213,ntmps213;go_wp2_with (go_at_call 289;refine (TZ J _ _ _ L.o).mono ?_;rintro e_ K ⟨rfl,z,u⟩;have d4':K.cell? ⟨d,4,none⟩=some (.slice q a.length cap):=(u.cell C).trans T);generalize x:w.heap.size=m at z u C ⊢;go_loopw [16] (λi wr=>∃k:Nat,k<=a.length/\i=.int .i64 k/\wr.ownsMap prog 3 RS m (f.length+k) (DM (Xw f (a.take k)))/\Below m w wr) (λi _=>a.length - (intOf i).toNat)
 case atStart=>exact ⟨0,pC _,rfl,by rw [List.take_zero];exact z,u⟩
 case round=>
  obtain ⟨k,I,rfl,b,e⟩:=hrel;by_cases t:k<a.length
  ·obtain ⟨p,F⟩:=V9 t;obtain ⟨g,rfl,E,H⟩:=N.o k p F;have n:=QN E;replace n:g<m:=by rw [<-x];exact n
   replace E:=(e.cell (p:=⟨g,k * 2,none⟩) n).trans E;replace H:=(e.cell (p:=⟨g,k * 2+1,none⟩) n).trans H;have s:=Kf (Q.o p (pG F));obtain ⟨pk,R,O,pc⟩:=p;simp only [Xn] at E H s;have M:=pp F;clear F;have G:(k:Int)<(a.length:Int):=by omega
   have hk0:(0:Int)<=(k:Int):=by omega
   go_wp2_with (at_mapUpdate;refine wpList_mapUpdate_own _ rfl _ _ _ 197 rfl 3 51 Gl underlying197 _ m (f.length+k) _ rfl (b.alloc _) (by unfold maxLen;omega) _ _ _ rfl rfl s _ [] (Hf (R,O,pc)) ?_;intro w2 c l)
   rw [KH (Dr P),<-Jm,<-Uv M.o,show f.length+k+1=f.length+(k+1) by omega] at c
   have y:m<=wr.heap.size:=by rw [<-x];exact e.size
   exact ⟨⟨k+1,t,by go_num,c,(e.alloc y _).grown l (pB y (by simp)) (λj U=>by cases U;exact pA _)⟩,ZY t⟩
  ·obtain rfl:k=a.length:=by omega
   rw [List.take_length] at b;have G:¬((a.length:Int)<(a.length:Int)):=by omega
   go_wp2_with fail;go_returns;subst x;exact ⟨rfl,b,e⟩
def XV (l:List (Int×SL)):Nat:=(l.map λp=>p.2.2.1).sum
theorem Fm:∀{l:List (Int×SL)},Y0 w base l->XV l=YO (Yj w l)
 | [],_=>rfl
 | x::r,h=>by
  have b:=(h x List.mem_cons_self).len;have a:=Fm (l:=r) λp c=>h p (List.mem_cons_of_mem _ c)
  simp only [XV,YO,Yj,List.map_cons,List.sum_cons] at a ⊢;rw [b,a]
def Va (l:List (Int×SL))(left:Lit->Bool):Nat:=XV (l.filter λp=>!left (.int .i64 p.1))
theorem Vb (x:Int×SL)(r:List (Int×SL))(left:Lit->Bool):Va (x::r) left=(if left (.int .i64 x.1) then 0 else x.2.2.1)+Va r left:=by
 unfold Va XV;cases hx:left (.int .i64 x.1)<;>simp [hx]
theorem Hj {left left':Lit->Bool} :∀{l:List (Int×SL)},(∀p∈l,left (.int .i64 p.1)=left' (.int .i64 p.1))->Va l left=Va l left'
 | [],_=>rfl
 | x::r,h=>by rw [Vb,Vb,h x List.mem_cons_self,Hj (l:=r) λp a=>h p (List.mem_cons_of_mem _ a)]
theorem Jv {left:Lit->Bool} :∀{l:List (Int×SL)},(∀p∈l,left (.int .i64 p.1)=true)->Va l left=0
 | [],_=>rfl
 | x::r,h=>by rw [Vb,h x List.mem_cons_self,Jv (l:=r) λp a=>h p (List.mem_cons_of_mem _ a)];rfl
theorem Hk {left:Lit->Bool}(h:∀z,left z=false):∀l:List (Int×SL),Va l left=XV l
 | []=>rfl
 | x::r=>by
  rw [Vb,h,Hk h r];simp [XV]
theorem KO (left:Lit->Bool):∀l:List (Int×SL),Va l left<=XV l
 | []=>pA _
 | x::r=>by
  have:=KO left r;rw [Vb];simp only [XV,List.map_cons,List.sum_cons] at this ⊢;split<;>omega
theorem Hl {left:Lit->Bool}{s:SL} :∀{l:List (Int×SL)},Yb l->XT l x=some s->left (.int .i64 x)=true->Va l (λz=>left z&&!z.sameKey (.int .i64 x))=Va l left+s.2.1
 | [],_,h,_=>by cases h
 | y::r,e,h,b=>by
  obtain ⟨f,d⟩:=ZD.1 e;rw [Yo] at h;rw [Vb,Vb];by_cases a:y.1=x
  ·rw [if_pos a] at h;obtain rfl:=pE h;rw [Hj (l:=r) (left':=left) λp c=>by
    have:=f p c;rw [BO,decide_eq_false (by omega)];simp]
   rw [BO,a,b];simp;omega
  ·rw [if_neg a] at h;rw [Hl d h b];rw [BO,decide_eq_false a];simp;omega
theorem OU {l:List (Int×SL)}(b:Yb l):∀p∈l,Maps.has (DM l) (.int .i64 p.1)=true:=λp a=>by
 obtain ⟨i,c,e⟩:=List.mem_iff_getElem.1 a;rw [KI,dt b (i:=i) (by rw [pH c,e])]
 rfl
theorem No (m n:Nat)(l:List (Int×SL))(w:World)(V:Yb l)(h:w.ownsMap prog 3 RS m n (DM l))(R:XV l<=1000000000000):
  Calls prog 226 #[.map (some m)] w λr w'=>r=.returned (.int .i64 (XV l))/\Below w.heap.size w w':=by
 have T:=pp V;have Y:=pp R;clear V R;have hml:=h.lt;go_enter func226,ntmps226;go_wp2_with (at_range;refine wpList_range_own _ rfl _ 197 rfl 3 51 Gl underlying197 _ m n _ rfl h ?_;intro w0 E K hs0);go_frame;have J:Below w.heap.size w w0:=(pI _ _).grown K (pA _) (λj L=>by cases L)
 generalize C:w.heap.size=g at *;go_loopw [3] (λx wr=>∃(left:Lit->Bool) (D8:Nat),wr.ranges prog 3 RS m g n (DM l) left D8/\x=.int .i64 (Va l left:Int)/\Below g w wr) (λ_ wr=>wr.rangeLeft m g)
 case atStart=>exact ⟨_,_,E,by rw [Jv (OU T.o)];rfl,J⟩
 case round=>
  obtain ⟨left,D8,i,rfl,f⟩:=hrel;go_wp2_with (at_next;refine wpList_next_ranges (α:=Int) (β:=SL) _ rfl _ rfl 3 Gl RS (Value.int .i64) Xn (λkey Z d=>by obtain ⟨x,rfl,_⟩:=Maps.keyOf_int_inv underlying3 d;exact ⟨x,rfl⟩) (λv y F=>by obtain ⟨c,rfl,_⟩:=Hg F;exact ⟨c,rfl⟩) m g n _ _ _ rfl i ?_ ?_)
  ·intro hc0 H;go_wp2_with fail;go_returns;rw [Hk H];subst C;exact ⟨rfl,f⟩
  ·intro x U B W Z y yp S cnt1 d M F t e q A I O;obtain ⟨x',ex,rfl,-⟩:=Maps.keyOf_int_inv underlying3 d;cases ex;obtain ⟨s',P,X⟩:=Hg F;obtain rfl:y=.held (U,B,W):=by cases X;obtain ⟨a,b,c⟩:=s';simp only [Xn,Value.slice.injEq] at P;obtain ⟨rfl,rfl,rfl⟩:=P;rfl
   have p:XT l x=some (U,B,W):=by
    have:=t .nil;rw [Gj] at this;cases hgl:XT l x with
    | none=>rw [hgl] at this;cases this
    | some s=>rw [hgl] at this;simp only [DataW.held.injEq] at this;rw [this]
   have u:Va l (λz=>left z&&!z.sameKey (.int .i64 x))=Va l left+B:=Hl T.o p M
   have Q:=KO (λz=>left z&&!z.sameKey (.int .i64 x)) l
   have N:=Y.o;have YV: -9223372036854775808<=(Va l left:Int)+(B:Int):=by omega
   have hi2:(Va l left:Int)+(B:Int)<=9223372036854775807:=by omega
   have k:Below g w S:=f.grown A (by rw [<-C];exact f.size) (λj L=>by cases L;exact pA _)
   have D:S.rangeLeft m g<wr.rangeLeft m g:=by rw [e.left_eq,i.left_eq];exact q
   have G:=pp (py e (py u (py k D)));clear i e u Q N k D t F p d A I q P X f;simp only [Xn] at O ⊢;go_wp2_with fail;exact ⟨⟨_,_,G.o.1,by rw [G.o.2.1];rfl,G.o.2.2.1⟩,G.o.2.2.2⟩
end
section
open Go.RowKit
attribute [local go_sem] Oper.semAt_some
theorem Uf (h:i<n)(a:n<=maxLen):(0:Int)<=i/\(i:Int)<n/\-9223372036854775808<=(i:Int)+1/\(i:Int)+1<=9223372036854775807:=by simp only [maxLen] at a;omega
abbrev Xd (r:Rn):List Value:=[int i64 r.1,int i64 r.2]
theorem Bj (r:Rn):(Xd r).length=2:=rfl
theorem ZG {l:List Rn}(h:∀r∈l,0<=r.1)(k:Nat):0<=Qh (l.take k)/\Qh (l.take k)<=Qh l:=by
 have e:Qh (l.take k)+Qh (l.drop k)=Qh l:=by
  unfold Qh;rw [<-List.sum_append,<-List.map_append,List.take_append_drop]
 have p:∀m:List Rn,(∀r∈m,0<=r.1)->0<=Qh m:=λm b=>by rw [Ze b];omega
 have:=p (l.take k) λr a=>h r (List.mem_of_mem_take a)
 have:=p (l.drop k) λr a=>h r (List.mem_of_mem_drop a)
 omega
theorem ZH {l:List Rn}{p:Rn}(a:l[k]?=some p):Qh (l.take (k+1))=Qh (l.take k)+p.1:=by
 rw [Uv a];unfold Qh;rw [List.map_append,List.sum_append];simp
theorem KP (w:World)(q:Option Addr)(c:Nat)(R:List Rn)(m:Rd w q 2 Xd R)(l:∀r∈R,0<=r.1)(hm:Qh R<=1000000)(n:R.length<=maxLen):
  Calls prog 227 #[.slice q R.length c] w λr w'=>r=.returned (int i64 (Qh R))/\Below w.heap.size w w':=by
 have u:=pp m;have s:=pp (ZG l);have v:=pp n;clear m l n;go_enter func227,ntmps227;go_upto_region 3 with fail
 go_loopw [3,8] (λx i wr=>∃k:Nat,k<=R.length/\i=.int .i64 k/\x=.int .i64 (Qh (R.take k))/\pM w wr) (λ_ i _=>R.length - (intOf i).toNat)
 case atStart=>exact ⟨0,pC _,rfl,rfl,pI _ _⟩
 case round=>
  obtain ⟨k,hk,rfl,rfl,a⟩:=hrel;by_cases b:k<R.length
  ·obtain ⟨p,f⟩:=V9 b;obtain ⟨g,o,rfl,h⟩:=u.o.on a (by omega)
   have r0:wr.cell? ⟨g,o+k * 2,none⟩=some (int i64 p.1):=h k p f 0 _ rfl;have r1:wr.cell? ⟨g,o+k * 2+1,none⟩=some (int i64 p.2):=h k p f 1 _ rfl;have d:=ZH f;have t:=s.o (k+1);have hb0:=s.o k;rw [d] at t;obtain ⟨n2,n3,n5,n6⟩:=Uf b v.o;have j:=pp d;have e:=pp a;clear f d a h;go_wp2_with fail;exact ⟨⟨k+1,b,by go_num,by rw [j.o],e.o.alloc e.o.size _⟩,by simp [intOf];omega⟩
  ·obtain rfl:k=R.length:=by omega
   rw [List.take_length];have hk1:¬((R.length:Int)<(R.length:Int)):=by omega
   go_wp2_with fail;go_returns;exact ⟨rfl,a⟩
theorem ja {r:Rn}{l:List Rn}{i:Int}(h:¬(0<=i/\i<r.1)):BF (r::l) i=BF l (i - r.1):=by rw [BF,if_neg h]
theorem dQ {r:Rn}{l:List Rn}{i:Int}(h:0<=i/\i<r.1):BF (r::l) i=r.2:=by rw [BF,if_pos h]
theorem mb (w:World)(q:Option Addr)(c:Nat)(R:List Rn)(i:Int)(K:Rd w q 2 Xd R)(D:∀r∈R,0<=r.1)(P:Qh R<=1000000)(L:R.length<=maxLen)(O: -1000000<=i/\i<=1000000):
  Calls prog 160 #[.slice q R.length c,int i64 i] w λr w'=>r=.returned (int i64 (BF R i))/\Below w.heap.size w w':=by
 have N:=pp K;have F:=pp (ZG D);have M:=pp L;have S:=pp D;clear K D L;go_enter func160,ntmps160;go_upto_region 2 with fail
 go_loopw [1,9] (λx Q wr=>∃k:Nat,k<=R.length/\Q=.int .i64 k/\x=.int .i64 (i - Qh (R.take k))/\Hid (BF (R.drop k) (i - Qh (R.take k))=BF R i)/\pM w wr) (λ_ i _=>R.length - (intOf i).toNat)
 case atStart=>exact ⟨0,pC _,rfl,by simp [Qh],by show BF R (i - 0)=_;rw [Int.sub_zero],pI _ _⟩
 case round=>
  obtain ⟨k,hk,rfl,rfl,A,d⟩:=hrel;by_cases f:k<R.length
  ·obtain ⟨p,t⟩:=V9 f;obtain ⟨g,o,rfl,B⟩:=N.o.on d (by omega)
   have r0:wr.cell? ⟨g,o+k * 2,none⟩=some (int i64 p.1):=B k p t 0 _ rfl;have r1:wr.cell? ⟨g,o+k * 2+1,none⟩=some (int i64 p.2):=B k p t 1 _ rfl;have l:=ZH t;have C:=S.o p (pG t);have z:=F.o (k+1);have u:=F.o k;rw [l] at z;obtain ⟨n2,n3,n5,n6⟩:=Uf f M.o;have G:R.drop k=p::R.drop (k+1):=List.drop_eq_getElem?_toList_append .. |>.trans (by rw [t];rfl)
   have m:=A.out;rw [G] at m;have v:=pp m;have y:=pp l;have a:=pp d;clear t l d B G A m;generalize Qh (R.take k)=s at *;obtain ⟨j,E⟩:=pt (i - s);rw [<-E] at v;have e1: -2000000<=j/\j<=2000000:=by omega
   have e2:0<=p.1/\p.1<=1000000:=by omega
   have H:=pp (show i - (s+p.1)=j - p.1 by omega)
   rw [<-E];clear E z u O P C;have hrel:¬(0<=j/\j<p.1)->∀n:World,pM w n->∃b:Nat,b<=R.length/\Value.int .i64 ((k:Int)+1)=.int .i64 b/\Value.int .i64 (j - p.1)=.int .i64 (i - Qh (R.take b))/\Hid (BF (R.drop b) (i - Qh (R.take b))=BF R i)/\pM w n:=λh n z=>⟨k+1,f,by go_num,by rw [y.o,H.o],by rw [y.o,H.o,<-v.o,ja h];exact pp rfl,z⟩
   have e:=pp hrel;clear hrel;by_cases J:0<=j
   ·by_cases I:j<p.1
    ·go_wp2_with fail;go_returns;refine ⟨Xp ?_,a.o.alloc a.o.size _⟩;rw [<-v.o,dQ ⟨J,I⟩]
    ·go_wp2_with fail;exact ⟨e.o (λh=>I h.2) _ (a.o.alloc a.o.size _),by simp [intOf];omega⟩
   ·have h0':j<0:=by omega
    go_wp2_with fail;exact ⟨e.o (λh=>J h.1) _ (a.o.alloc a.o.size _),by simp [intOf];omega⟩
  ·obtain rfl:k=R.length:=by omega
   have hk1:¬((R.length:Int)<(R.length:Int)):=by omega
   have u:=F.o R.length;have v:=pp A.out;clear A;go_wp2_with fail;go_returns;refine ⟨Xp ?_,d⟩;rw [<-v.o,List.drop_length];rfl
end
section
open Go.RowKit Go.Maps
attribute [local go_sem] Oper.semAt_some
theorem DiskAt.restore {S S':DS}{j m:List (Int×SL)}(h:DiskAt w base d bm v S j m)(k:Kept (λb=>b≠d) w w')
  (s:Q0 w' d 200 #[int i64 S'.room,int i64 S'.fails,int i64 S'.waits,.map (some bm),v]) (t:S'.safe=S.safe) (p:S'.l=S.l):DiskAt w' base d bm v S' j m:=by
 have a:∀b,VX w base b->b≠d:=λb c e=>by
  subst e;rcases c with c|⟨cur,c⟩
  ·have:=h.based;omega
  ·have:=An c h.blk;revert this;decide
 obtain ⟨o,g2⟩:=h.gs.kept k a;obtain ⟨x,n⟩:=h.gl.kept k a;refine ⟨s,Al h.map (k.block _ h.map.lt λe=>?_),⟨h.row.1,?_⟩,h.based,h.basem,o,x,by rw [t,g2];exact h.safe,by rw [p,n];exact h.l⟩
 ·exact Hi h.map _ _ _ (by rw [e];exact h.blk)
 ·rcases h.row.2 with q|⟨g,cap,cur,u,f,i,r⟩
  ·exact .inl q
  ·refine .inr ⟨g,cap,cur,u,f,(k.block g (Array.getElem?_eq_some_iff.1 i).1 λe=>?_).trans i,r⟩
   subst e;have:=An (show Q0 w g 293 cur from i) h.blk;revert this;decide
theorem DF (u:Value):Kept (λb=>b≠d) w (w.setCell ⟨d,i,none⟩ u):=(Kept.refl _ _).setCell (by simp) _
theorem KQ (base d i:Nat)(v:Value)(S:DS)(j k:List (Int×SL))(w:World)(h:DiskAt w base d i v S j k)(a:S.waits=0∨S.waits=1)(hf:0<=S.fails/\S.fails<=9223372036854775807):
  Calls prog 225 #[d] w λr w'=>r=.returned (.bool S.asked.2)/\DiskAt w' base d i v S.asked.1 j k/\Kept (λb=>b≠d) w w':=by
 have d1:w.cell? ⟨d,1,none⟩=some (int i64 S.fails):=h.blk.cell 1;have g:w.cell? ⟨d,2,none⟩=some (int i64 S.waits):=h.blk.cell 2;have f1:=h.blk.frz 1;have f2:=h.blk.frz 2;have m:=h.blk.set_ 1 (int i64 (S.fails - 1));have l:=h.blk.set_ 2 (int i64 0);have e:=pp h;clear h;rcases a with a|a
 ·rw [a] at g;by_cases f:0<S.fails
  ·have c:S.asked=({ S with fails:=S.fails - 1 },true):=by unfold DS.asked;rw [if_neg (by omega),if_pos f]
   rw [c];go_enter func225,ntmps225;go_wp2_with fail;go_returns;exact ⟨rfl,e.o.restore (DF _) m rfl rfl,DF _⟩
  ·have c:S.asked=(S,false):=by unfold DS.asked;rw [if_neg (by omega),if_neg f]
   rw [c];go_enter func225,ntmps225;go_wp2_with fail;go_returns;exact ⟨rfl,e.o,Kept.refl _ _⟩
 ·rw [a] at g;have c:S.asked=({ S with waits:=0 },false):=by unfold DS.asked;rw [if_pos (by omega)]
  rw [c];go_enter func225,ntmps225;go_wp2_with fail;go_returns;exact ⟨rfl,e.o.restore (DF _) l rfl rfl,DF _⟩
def U9 (R:Int):DS:=⟨Xj (Xv R 0) 1048576,0,0,[],[]⟩
theorem dR (R:Int):DOk (U9 R) 0 0:=⟨Tu,λp a=>(by cases a),pA _,λp a=>(by cases a),by unfold U9 Xj Xv;dsimp only;omega,.inl rfl,by unfold U9;dsimp only;omega⟩
theorem mc (R:Int)(base:Nat)(w:World)(c:base<=w.heap.size):
  Calls prog 209 #[R] w λr w'=>∃d M,r=.returned (.pointer (some ⟨d,0,none⟩))/\Yd w' base M d (U9 R)/\(∀b,M b->w.heap.size<=b)/\Below w.heap.size w w':=by
 have hmn:=@YY prog;have hmx:=@ZC prog;have hmm:=@run_makeMap prog;go_enter func209,ntmps209;go_wp2_with fail;go_returns;obtain ⟨h,a⟩:=pt (w.alloc (.map #[] 0));have i:h.ownsMap prog 3 RS w.heap.size 0 (DM []):=by rw [a];exact World.ownsMap_made _ _ _ _
 have g:h.heap.size=w.heap.size+1:=by rw [a];simp
 have e:Below w.heap.size w h:=by rw [a];exact (pI _ _).alloc (pA _) _
 rw [<-a];refine ⟨_,_,rfl,⟨w.heap.size,.slice none 0 0,[],[],⟨Q0.new' g.symm,i.alloc _,Q5.nil,by omega,c,λp f=>(by cases f),λp f=>(by cases f),rfl,rfl⟩,λb=>Iff.rfl⟩,λb c=>?_,e.alloc e.size _⟩
 rcases c with rfl|rfl|c
 ·omega
 ·exact pA _
 ·cases c
def BQ (l:List (Int×SL))(k:Int):SL:=(XT l k).getD (none,0,0)
theorem Rx {l:List (Int×SL)}{k:Int}(h:w.ownsMap prog 3 RS m n (DM l))(b:Qg k):
  (Instr.lookup 197 (.map (some m)) (.int .i64 k) false).run prog w=.ok (Xn (BQ l k)) w:=by
 obtain ⟨v,ps,hrun,c⟩:=h.lookup Gl underlying197 (cD w) (Hf (none,0,0)) (Kf b);obtain ⟨s,rfl,e⟩:=Hg c;rw [hrun];have a:(DM l).atKey (.int .i64 k) (.held (none,0,0))=.held s:=congrArg Prod.fst e;rw [Gj] at a;unfold BQ;cases hg:XT l k with
 | none=>rw [hg] at a;simp only [DataW.held.injEq] at a;rw [<-a];rfl
 | some s'=>rw [hg] at a;simp only [DataW.held.injEq] at a;rw [a];rfl
theorem KR {l:List (Int×SL)}(h:Y0 w base l)(k:Int):GoodS w base (BQ l k)/\(QW w (BQ l k)).length=D6 (Yj w l) k:=by
 unfold BQ D6;rw [Gk];cases hg:XT l k with
 | none=>exact ⟨⟨pA _,by decide,λh=>absurd h (by decide)⟩,by rw [Option.getD_none,VL];rfl⟩
 | some s=>exact ⟨h.get hg,rfl⟩
theorem o7:(prog.info? 293).map (λi=>(i.zero,i.size,i.bytes))=some (some (.agg #[int i64 0,.slice none 0 0]),2,32):=by kernel_rfl
theorem DiskAt.facts {S:DS}{b c:List (Int×SL)}{M:Nat}(h:DiskAt w base d bm v S b c)(a:DOk S N M):Yb b/\(∀p∈c,Qg p.1)/\b.length+c.length<=N/\Y0 w base (Xw b c)/\Yj w (Xw b c)=S.now/\Yb (Xw b c)/\XV (Xw b c)<=N * M:=by
 have e:Yb b:=Rv (w:=w) (by rw [<-h.safe];exact a.rise)
 have g:Yj w (Xw b c)=S.now:=by rw [TX,<-h.safe,<-h.l];rfl
 have f:=h.gs.now h.gl;refine ⟨e,λp i=>?_,?_,f,g,Dr e,?_⟩
 ·exact a.keys (p.1,QW w p.2) (List.mem_append.2 (.inr (by rw [h.l];exact List.mem_map.2 ⟨p,i,rfl⟩)))
 ·have:=a.many;rw [h.safe,h.l,Am,Am] at this;exact this
 ·rw [Fm f,g];exact Ks a
theorem UU {k:TypeId}{D:DataW SL}(h:w.ownsMap P k RS b n D)(a:Below w.heap.size w w'):w'.ownsMap P k RS b n D:=Al h (a.block _ h.lt)
theorem Np {S:DS}{a:List (Int×SL)}{k:Int}{b:Bs}(g:Yb a)(e:Y0 w base a)(c:Yj w a=S.now):YO (QO S.now (k,b))+(BQ a k).2.1=XV a+b.length:=by
 have h:=G0 (k,b) (l:=S.now) (by rw [<-c];exact Tv (QW w) g)
 obtain ⟨f,d⟩:=KR e k;rw [c] at d;rw [<-f.len,d,Fm e,c];exact h
theorem OV (l:List (Int×SL))(k:Int):(BQ l k).2.1<=XV l:=by
 induction l with
 | nil=>exact pA _
 | cons x r a=>
  unfold BQ at a ⊢;rw [Yo];simp only [XV,List.map_cons,List.sum_cons] at a ⊢;split
  ·simp
  ·omega
theorem Ry (l:Bs):Zx (λi=>l.getD i 0) l.length=l:=by
 apply List.ext_getElem?;intro i;rcases Nat.lt_or_ge i l.length with h|h
 ·rw [VW h,List.getD_eq_getElem?_getD,pH h];rfl
 ·rw [List.getElem?_eq_none (by rw [VK];exact h),List.getElem?_eq_none h]
theorem GoodS.off {t:TypeId}{s:SL}(h:GoodS w base s)(c:Kept (λb=>b≠d) w w')(hb:base<=d)(f:Q0 w d t cs)(ht:t≠5):GoodS w' base s/\QW w' s=QW w s:=
 h.kept c λb a e=>by
  subst e;rcases a with a|⟨cur,a⟩
  ·omega
  ·exact ht (An f a)
theorem Hm {s:SL}(c:GoodS w base s)(b:s.2.1<=140737488355328):
  Calls prog 214 #[Xn s] w λr w'=>∃a:SL,r=.returned (Xn a)/\a.2.1=s.2.1/\GoodS w' base a/\QW w' a=QW w s/\Below w.heap.size w w':=by
 refine (Nl s.1 s.2.1 s.2.2 _ c.cap b w c.byq).mono ?_;rintro r w' ⟨v,rfl,d,f⟩;obtain ⟨a,rfl,h,g,e⟩:=GoodS.own (base:=base) d;refine ⟨a,rfl,h,g,?_,f⟩;rw [e,<-c.len,Ry]
theorem dS {e:TypeId}{α:Type}{enc:α->List Value}{xs:List α}{ts ty:TypeId}{z:Value}{x:α}(ht:P.underlying ts=some (.slice e))(n:(P.info? e).map (λi=>(i.zero,i.size,i.bytes))=some (some z,size,bytes))(y:z.cells.size=size)(C:0<size)(l:0<bytes)
  (A:(enc x).length=size) (t:∀u∈enc x,u.oneCell'=true) (c:Q5 w base e size enc v xs) (D:∀j u,(enc x)[j]?=some u->w.cell? ⟨b,j,none⟩=some u) (m:(xs.length+1) * bytes<=140737488355328) (a:base<=w.heap.size):
  ∃v' w',(Builtin.append_ #[ts,ts] ty #[v,.slice (some ⟨b,0,none⟩) 1 1]).run P w=.ok v' w'/\Q5 w' base e size enc v' (xs++[x])/\w.grownBy w' v.ownBlock/\(v'.ownBlock=v.ownBlock∨v'.ownBlock=some w.heap.size)/\∃g cap,v'=.slice (some ⟨g,0,none⟩) (xs.length+1) cap:=by
 obtain ⟨i,n,d,f,k⟩:=info_parts n;have h:xs.length+1<=maxLen:=by
  have:(xs.length+1) * 1<=(xs.length+1) * bytes:=Nat.mul_le_mul_left _ l;simp only [maxLen];omega
 obtain ⟨v',w',q,o,s,h5,E⟩:=run_append_own_at (P:=P) w base ts ty e i z size bytes ht n d f k y C v xs.length (xs.flatMap enc) c ⟨b,0,none⟩ 1 1 (enc x) (by rw [A];omega) (λj u B=>by
  have:=D j u B;unfold Addr.add;by_cases r:j=0<;>simp [r] at this ⊢ <;>exact this) t h m a
 refine ⟨v',w',q,?_,s,E,?_⟩
 ·unfold Q5;rw [List.length_append,List.flatMap_append,List.length_singleton,List.flatMap_singleton];exact o
 ·rcases o.2 with ⟨p,h0⟩|⟨g,cap,_,p,_⟩
  ·omega
  ·exact ⟨g,cap,p⟩
theorem Wa {e:TypeId}{α:Type}{enc:α->List Value}{xs:List α}(h:Q5 w base e size enc v xs)(d:Kept K w w')(f:∀g,v.ownBlock=some g->K g):Q5 w' base e size enc v xs:=by
 refine ⟨h.1,?_⟩;rcases h.2 with i|⟨g,cap,cur,b,a,c,r⟩
 ·exact .inl i
 ·exact .inr ⟨g,cap,cur,b,a,(d.block g (Array.getElem?_eq_some_iff.1 c).1 (f g (by rw [b];rfl))).trans c,r⟩
def DG (base:Nat)(b:Bs)(v:Value)(w:World):Prop:=∃s':SL,v=Xn s'/\GoodS w base s'/\QW w s'=b
def EI (base:Nat)(k:Int)(b:Bs)(v:Value)(w:World):Prop:=∃s':SL,v=.agg #[k,Xn s']/\GoodS w base s'/\QW w s'=b
def CQ (base:Nat)(k:Int)(b:Bs)(v:Value)(w:World):Prop:=∃(s':SL) (g:Nat),v=.slice (some ⟨g,0,none⟩) 1 1/\Q0 w g 293 #[k,Xn s']/\GoodS w base s'/\QW w s'=b
theorem DG.on {b:Bs}(h:DG base b v w)(c:pM w w'):DG base b v w':=by
 obtain ⟨d,e,a,f⟩:=h;exact ⟨d,e,(a.on c).1,by rw [(a.on c).2];exact f⟩
theorem EI.on {k:Int}{b:Bs}(h:EI base k b v w)(c:pM w w'):EI base k b v w':=by
 obtain ⟨d,e,a,f⟩:=h;exact ⟨d,e,(a.on c).1,by rw [(a.on c).2];exact f⟩
theorem CQ.on {k:Int}{b:Bs}(h:CQ base k b v w)(a:pM w w'):CQ base k b v w':=by
 obtain ⟨d,g,e,i,c,f⟩:=h;exact ⟨d,g,e,i.on a,(c.on a).1,by rw [(c.on a).2];exact f⟩
theorem CQ.mk {k:Int}{b:Bs}{s:SL}(h:GoodS w base s/\QW w s=b):CQ base k b (.slice (some ⟨w.heap.size,0,none⟩) 1 1) (w.alloc (.cells #[k,Xn s] 293)):=by
 have a:pM w (w.alloc (.cells #[k,Xn s] 293)):=(pI _ _).alloc (pA _) _;exact ⟨s,_,rfl,Q0.new' rfl,(h.1.on a).1,by rw [(h.1.on a).2];exact h.2⟩
theorem DiskAt.apart {S:DS}{c b:List (Int×SL)}(h:DiskAt w base d bm v S c b):v.ownBlock≠some d/\v.ownBlock≠some bm/\bm≠d:=by
 refine ⟨λe=>?_,λe=>?_,λe=>?_⟩
 ·obtain ⟨-,cur,a⟩:=IF h.row e;have:=An a h.blk;revert this;decide
 ·obtain ⟨-,cur,a⟩:=IF h.row e;exact Hi h.map _ _ _ a
 ·exact Hi h.map _ _ _ (by rw [e];exact h.blk)
theorem DiskAt.byte {S:DS}{e f:List (Int×SL)}(h:DiskAt w base d bm v S e f)(a:VX w base b):¬BP d bm v b:=λc=>by
 obtain ⟨h1,-,g⟩:=h.mine c;rcases a with a|⟨cur,a⟩
 ·omega
 ·have:=g _ _ a;revert this;decide
theorem DiskAt.pushed {f:World}{S:DS}{r o:List (Int×SL)}{k:Int}{s:SL}(h:DiskAt w base d bm v S r o)(C:GoodS w base s)(B:Q5 f base 293 2 OT v' (o++[(k,s)]))(c:w.grownBy f v.ownBlock)(m:v'.ownBlock=v.ownBlock∨v'.ownBlock=some w.heap.size):
  DiskAt (f.setCell ⟨d,4,none⟩ v') base d bm v' { S with l:=S.l++[(k,QW w s)] } r (o++[(k,s)])/\Kept (λb=>¬BP d bm v b) w (f.setCell ⟨d,4,none⟩ v'):=by
 obtain ⟨u,E,a3⟩:=h.apart;have q:Kept (λb=>v.ownBlock≠some b) w f:=⟨c.os,c.tape,c.output,c.size,λb n F=>c.block b n (Ne.symm F)⟩
 have j:Kept (λb=>v.ownBlock≠some b/\b≠d) w (f.setCell ⟨d,4,none⟩ v'):=(q.mono λ_ h=>h.1).setCell (by simp) _
 have a:∀b,VX w base b->v.ownBlock≠some b/\b≠d:=λb x=>⟨λe=>h.byte x (.inr (.inr e)),λe=>h.byte x (.inl e)⟩
 obtain ⟨A,g2⟩:=h.gs.kept j a;obtain ⟨G,y⟩:=h.gl.kept j a;obtain ⟨D,z⟩:=C.kept j a;refine ⟨⟨(q.blk u h.blk).set_ 4 v',Al h.map (j.block _ h.map.lt ⟨E,a3⟩),Wa B ((Kept.refl (λb=>b≠d) f).setCell (by simp) _) (λg t e=>?_),h.based,h.basem,A,?_,by rw [g2];exact h.safe,by rw [Ru,y,z,<-h.l]⟩,j.mono λb n=>⟨λe=>n (.inr (.inr e)),λe=>n (.inl e)⟩⟩
 ·subst e;rcases m with e|e
  ·exact u (by rw [<-e];exact t)
  ·rw [t] at e;have:=h.blk.lt;have:=pE e;omega
 ·intro p i;rcases List.mem_append.1 i with i|i
  ·exact G p i
  ·obtain rfl:p=(k,s):=by simpa using i
   exact D
theorem me (base d:Nat)(M:Nat->Prop)(S:DS)(N:Nat)(w:World)(h:Yd w base M d S)(ao:DOk S N 1000000)(hN:N<=100000)(k:Int)(hk:Qg k)(s:SL)(hs:GoodS w base s)(hz:s.2.1<=1000000)(ac:base<=w.heap.size):
  Calls prog 174 #[d,int i64 k,Xn s] w λr w'=>r=.returned (int i64 (S.put k (QW w s)).2)/\Yw w base M d (S.put k (QW w s)).1 w':=by
 obtain ⟨bm,v,O,E,hD,hM⟩:=h;have am:=hs.len;have HF:=pp (KQ base d bm v S O E w hD ao.waits ao.fails);have HM:=pp hM;have J:=ao.asked;obtain ⟨e1,e2,e3⟩:=Be S;have an:S.asked.1.now=S.now:=by unfold DS.now;rw [e1,e2]
 have HS:=pp (py hs (py am hz));have HD:=pp hD;have HB:=pp ac;obtain ⟨q,n,c⟩:=s;simp only [Xn] at *;generalize a:QW w (q,n,c)=b at *;have HQ:=pp a;clear a hs am hz hM hD ac;cases ha:S.asked.2
 ·by_cases t:S.fits k b=true
  ·have L:S.put k b=({ S.asked.1 with l:=S.l++[(k,b)] },0):=by unfold DS.put;rw [ha,t];rfl
   rw [L];rw [ha] at HF;go_enter func174,ntmps174;go_wp2_with (go_at_call 225;refine HF.o.mono ?_;rintro e_ w1 ⟨rfl,D,H⟩);obtain ⟨hr,ag,aa,hg,hc,Y,A⟩:=D.facts J;have ab:=pp (Kg base d bm v S.asked.1 O E w1 D hr ag (by omega))
   have R:=J.room;rw [an] at hc;obtain ⟨r0,r1⟩:=R;have z:=Np (k:=k) (b:=b) Y hg hc;have f:=OV (Xw O E) k;have U:(YO (QO S.now (k,b)):Int)<=S.asked.1.room:=by rw [e3];unfold DS.fits at t;simpa using t
   have X:=HS.o.2;have ai:XV (Xw O E)<=100000000000:=pB A (pB (Nat.mul_le_mul_right 1000000 hN) (by decide))
   have HG:=pp (py hg hc);clear hg hc t A hr ag aa;go_upto_region 4 with (go_at_call 213;refine ab.o.mono ?_;rintro e_ w2 ⟨rfl,hm,T⟩)
   have D2:=D.on T;have au:=pp hm;have Z:=pp T;generalize w1.heap.size=m at hm au ⊢;clear T;have Q:=pp λG os=>No m _ (Xw O E) (Go.Sort.grow (redrawn w2 G) os) Y (UU hm (pK _ _ _)) (by omega)
   have F:=λG os=>Rx (UU hm (pK w2 G os)) hk
   simp only [Xn] at F;have q0:∀G os,(Go.Sort.grow (redrawn w2 G) os).cell? ⟨d,0,none⟩=some (int i64 S.asked.1.room):=λG os=>(D2.blk.re G os).cell 0
   generalize XV (Xw O E)=nb at Q z f ai;generalize BQ (Xw O E) k=s0 at F z f;obtain ⟨sq,sn,sc⟩:=s0;dsimp only at F z f;generalize YO (QO S.now (k,b))=np at z U;have aj:=X.1;have ae:=X.2;generalize S.asked.1.room=room at q0 r0 r1 U;have av:IntKind.i64.wrap ((nb:Int) - (sn:Int))=(nb:Int) - (sn:Int):=pJ _ (by omega)
   have ar:IntKind.i64.wrap (room - (n:Int))=room - (n:Int):=pJ _ (by omega)
   have aw:¬(room - (n:Int)<(nb:Int) - (sn:Int)):=by omega
   clear hm X U z f ai r0 r1 aj ae;refine wp_region_quiet_below (by kernel_rfl) (by kernel_rfl) ?_
   repeat (go_big_quiet_step (exact Calls.regrown_of (Q.o _ _)))
   refine wpQuiet_nil ?_;intro w' ap;obtain ⟨rg,rfl⟩:=ap;generalize af:Go.Sort.grow (redrawn w2 rg.d) rg.os=w3;have h3:Below w2.heap.size w2 w3:=by rw [<-af];exact pK _ _ _
   clear af q0 F av ar Q;have D3:=D2.on h3;obtain ⟨g1,g2⟩:=HS.o.1.off H HD.o.based HD.o.blk (by decide)
   obtain ⟨g3,g4⟩:=g1.on Z.o;obtain ⟨g5,g6⟩:=g3.on h3;have aq:Hid (GoodS w3 base (q,n,c)/\QW w3 (q,n,c)=b):=pp ⟨g5,by rw [g6,g4,g2,HQ.o]⟩
   have al:Hid (∀W,Below w3.heap.size w3 W->Calls prog 214 #[.slice q n c] W λr w'=>∃u,r=.returned u/\(Kept (λ_=>True) W w'/\DG base b u w')):=pp λW hW=>by
    obtain ⟨k1,k2⟩:=aq.out.1.on hW;refine (Hm k1 (by have:=HS.o.2.2;dsimp only;omega)).mono ?_
    rintro r w' ⟨s',rfl,-,hg,hr,a⟩;exact ⟨_,rfl,(Kept.of_below a).mono λ_ _=>trivial,s',rfl,hg,by rw [hr,k2,aq.out.2]⟩
   clear g1 g2 g3 g4 g5 g6;obtain ⟨ql,cp,rfl,-,-,-⟩:=DE D3.row;have q4:∀G os,(Go.Sort.grow (redrawn w3 G) os).cell? ⟨d,4,none⟩=some (.slice ql E.length cp):=λG os=>(D3.blk.re G os).cell 4
   go_upto_region 6 with fail
   refine Qk [1,0,0,0,0,0,0,2,2,2,3,1,1,3] (λi v w=>match i with|7=>DG base b v w|8=>EI base k b v w|9=>CQ base k b v w|_=>True) (by kernel_rfl) (by kernel_rfl) (λi v w w' h a=>by match i,h with|7,h=>exact DG.on h a|8,h=>exact EI.on h a|9,h=>exact CQ.on h a|0,_=>trivial|1,_=>trivial|2,_=>trivial|3,_=>trivial|4,_=>trivial|5,_=>trivial|6,_=>trivial|n+10,_=>trivial) ?_
   repeat (first|(refine Qi ?_)|(refine Qf (λK hK=>?_);go_simp;refine hK _ ?_;clear hK K)|(refine Vo (λK hK=>?_);go_simp;refine hK _ ?_;clear hK K))
   refine Q8 ?_;refine Q2 ?_;refine Q2 ?_;refine Q2 ?_;refine Q2 ?_;refine Q2 ?_;refine Q2 ?_;refine Q2 ?_;refine Qv ?lsA (λv_=>?_)
   case lsA=>(intro w_ ah ay;(first|(dsimp only at p;have h8:EI _ _ _ _ _:=p.2 (by kernel_rfl);obtain ⟨⟨B,C,y⟩,I,G8⟩:=h8;simp only [Xn] at I;subst I;go_simp;exact ⟨Kept.of_below ((pI _ _).alloc (pA _) _),CQ.mk (s:=(B,C,y)) G8⟩)|(dsimp only at p;have h8:DG _ _ _ _:=p.2 (by kernel_rfl);obtain ⟨⟨B,C,y⟩,I,G8⟩:=h8;simp only [Xn] at I;subst I;go_simp;exact ⟨Kept.refl _ _,⟨(B,C,y),rfl,G8⟩⟩)|(go_simp;refine (al.out _ ((Qb ah).none)).mono ?_;rintro e_ w9 ⟨u,rfl,hk,hu⟩;exact ⟨u,rfl,hk,hu⟩)))
   refine Xz ?lsA (λv_=>?_)
   case lsA=>(intro w_ ah ay p;(first|(dsimp only at p;have h8:EI _ _ _ _ _:=p.2 (by kernel_rfl);obtain ⟨⟨B,C,y⟩,I,G8⟩:=h8;simp only [Xn] at I;subst I;go_simp;exact ⟨Kept.of_below ((pI _ _).alloc (pA _) _),CQ.mk (s:=(B,C,y)) G8⟩)|(dsimp only at p;have h8:DG _ _ _ _:=p.2 (by kernel_rfl);obtain ⟨⟨B,C,y⟩,I,G8⟩:=h8;simp only [Xn] at I;subst I;go_simp;exact ⟨Kept.refl _ _,⟨(B,C,y),rfl,G8⟩⟩)|(go_simp;refine (al.out _ ((Qb ah).none)).mono ?_;rintro e_ w9 ⟨u,rfl,hk,hu⟩;exact ⟨u,rfl,hk,hu⟩)))
   refine Xz ?lsA (λv_=>?_)
   case lsA=>(intro w_ ah ay p;(first|(dsimp only at p;have h8:EI _ _ _ _ _:=p.2 (by kernel_rfl);obtain ⟨⟨B,C,y⟩,I,G8⟩:=h8;simp only [Xn] at I;subst I;go_simp;exact ⟨Kept.of_below ((pI _ _).alloc (pA _) _),CQ.mk (s:=(B,C,y)) G8⟩)|(dsimp only at p;have h8:DG _ _ _ _:=p.2 (by kernel_rfl);obtain ⟨⟨B,C,y⟩,I,G8⟩:=h8;simp only [Xn] at I;subst I;go_simp;exact ⟨Kept.refl _ _,⟨(B,C,y),rfl,G8⟩⟩)|(go_simp;refine (al.out _ ((Qb ah).none)).mono ?_;rintro e_ w9 ⟨u,rfl,hk,hu⟩;exact ⟨u,rfl,hk,hu⟩)))
   refine Q2 ?_;refine Q2 ?_;refine Q2 ?_;refine Q2 ?_;refine Qc ?_;simp only [Qd];rintro W4 h4 ⟨-,s',g,rfl,hG,az,a0⟩;have D4:=D3.on h4;have ax:base<=W4.heap.size:=pB HB.o (pB H.size (pB Z.o.size (pB h3.size h4.size)));have a1:=J.many;rw [D4.l,Am] at a1;obtain ⟨v',w5,hrun,O5,V,ad,g9,c9,rfl⟩:=dS (P:=prog) (ts:=198) (ty:=198) (x:=(k,s')) (b:=g) underlying198 o7 rfl (by decide) (by decide) rfl (by simp [Value.oneCell',Xn]) D4.row
    (λj u hu=>by rw [hG.cell j];simpa using hu) (by omega) ax
   obtain ⟨F1,F2⟩:=D4.pushed az O5 V ad;have k5:Kept (λb=>Value.ownBlock (.slice ql E.length cp)≠some b) W4 w5:=⟨V.os,V.tape,V.output,V.size,λb a hK=>V.block b a (Ne.symm hK)⟩
   have f4:=(k5.blk D4.apart.1 D4.blk).frz 4;have c4:w5.cell? ⟨d,4,none⟩=some (.slice ql E.length cp):=(k5.blk D4.apart.1 D4.blk).cell 4;have a3:=pp F1;have a5:=pp F2;have ak:=pp (py h3 h4);have a4:=pp ad;have a6:=pp a0;have a2:=pp H;clear q4 hG F1 F2 h3 h4 ad a0 H V O5 k5 ax a1 az al aq D2 D3 D4 D HG ab aw Y;go_wp2_with (at_builtin;refine Lib.wpList_append_run _ rfl _ _ _ _ rfl _ _ rfl rfl _ _ hrun ?_);go_returns;refine ⟨rfl,BP d bm (.slice (some ⟨g9,0,none⟩) (E.length+1) c9),⟨bm,_,O,E++[(k,s')],by have:=a3.o;rw [e2,a6.o] at this;exact this,λb=>Iff.rfl⟩,λb a=>?_,?_⟩
   ·rcases a with a|a|a
    ·exact .inl ((HM.o b).2 (.inl a))
    ·exact .inl ((HM.o b).2 (.inr (.inl a)))
    ·rcases a4.o with e|e
     ·exact .inl ((HM.o b).2 (.inr (.inr (by rw [<-e];exact a))))
     ·rw [a] at e;obtain rfl:=pE e;exact .inr (pB a2.o.size (pB Z.o.size (pB ak.o.1.size ak.o.2.size)))
   ·refine (a2.o.mono λb a e=>a ((HM.o b).2 (.inl e))).trans ?_
    refine ((Kept.of_below (after (after Z.o ak.o.1) ak.o.2)).mono λ_ _=>trivial).trans ?_
    exact a5.o.mono λb a hm=>a ((HM.o b).2 hm)
  ·have L:S.put k b=(S.asked.1,8):=by unfold DS.put;rw [ha,if_neg (by decide),if_neg t]
   rw [L];rw [ha] at HF;go_enter func174,ntmps174;go_wp2_with (go_at_call 225;refine HF.o.mono ?_;rintro e_ w1 ⟨rfl,D,H⟩);obtain ⟨hr,ag,aa,hg,hc,Y,A⟩:=D.facts J;have ab:=pp (Kg base d bm v S.asked.1 O E w1 D hr ag (by omega))
   have R:=J.room;rw [an] at hc;obtain ⟨r0,r1⟩:=R;have z:=Np (k:=k) (b:=b) Y hg hc;have f:=OV (Xw O E) k;have U:¬(YO (QO S.now (k,b)):Int)<=S.asked.1.room:=by rw [e3];unfold DS.fits at t;simpa using t
   have X:=HS.o.2;have ai:XV (Xw O E)<=100000000000:=pB A (pB (Nat.mul_le_mul_right 1000000 hN) (by decide))
   have HG:=pp (py hg hc);clear hg hc t A hr ag aa;go_upto_region 4 with (go_at_call 213;refine ab.o.mono ?_;rintro e_ w2 ⟨rfl,hm,T⟩)
   have D2:=D.on T;have au:=pp hm;have Z:=pp T;generalize w1.heap.size=m at hm au ⊢;clear T;have Q:=pp λG os=>No m _ (Xw O E) (Go.Sort.grow (redrawn w2 G) os) Y (UU hm (pK _ _ _)) (by omega)
   have F:=λG os=>Rx (UU hm (pK w2 G os)) hk
   simp only [Xn] at F;have q0:∀G os,(Go.Sort.grow (redrawn w2 G) os).cell? ⟨d,0,none⟩=some (int i64 S.asked.1.room):=λG os=>(D2.blk.re G os).cell 0
   generalize XV (Xw O E)=nb at Q z f ai;generalize BQ (Xw O E) k=s0 at F z f;obtain ⟨sq,sn,sc⟩:=s0;dsimp only at F z f;generalize YO (QO S.now (k,b))=np at z U;have aj:=X.1;have ae:=X.2;generalize S.asked.1.room=room at q0 r0 r1 U;have av:IntKind.i64.wrap ((nb:Int) - (sn:Int))=(nb:Int) - (sn:Int):=pJ _ (by omega)
   have ar:IntKind.i64.wrap (room - (n:Int))=room - (n:Int):=pJ _ (by omega)
   have aw:room - (n:Int)<(nb:Int) - (sn:Int):=by omega
   clear hm X U z f ai r0 r1 aj ae;refine wp_region_quiet_below (by kernel_rfl) (by kernel_rfl) ?_
   repeat (go_big_quiet_step (exact Calls.regrown_of (Q.o _ _)))
   refine wpQuiet_nil ?_;intro w' ap;obtain ⟨rg,rfl⟩:=ap;generalize af:Go.Sort.grow (redrawn w2 rg.d) rg.os=w3;have h3:Below w2.heap.size w2 w3:=by rw [<-af];exact pK _ _ _
   clear af q0 F av ar Q;have HH:=pp (py h3 H);have D3:=D2.on h3;clear h3 H ab;go_wp2_with fail;go_returns;refine ⟨rfl,BP d bm v,⟨bm,v,O,E,D3,λb=>Iff.rfl⟩,λb a=>.inl ((HM.o b).2 a),?_⟩
   refine (HH.o.2.mono λb a e=>a ((HM.o b).2 (.inl e))).trans ?_
   exact (Kept.of_below (after Z.o HH.o.1)).mono λ_ _=>trivial
 ·have L:S.put k b=(S.asked.1,9):=by unfold DS.put;rw [ha];rfl
  rw [L];rw [ha] at HF;go_enter func174,ntmps174;go_wp2_with (go_at_call 225;refine HF.o.mono ?_;rintro e_ w1 ⟨rfl,D,H⟩);go_returns;exact ⟨rfl,BP d bm v,⟨bm,v,O,E,D,λb=>Iff.rfl⟩,λb a=>.inl ((HM.o b).2 a),H.mono λb a e=>a ((HM.o b).2 (.inl e))⟩
theorem Wb {l:List (Int×SL)}{k:Int}(h:w.ownsMap prog 3 RS m n (DM l))(b:Qg k):
  (Instr.lookup 197 (.map (some m)) (.int .i64 k) true).run prog w=.ok (.tuple #[Xn (BQ l k),.bool (XT l k).isSome]) w:=by
 obtain ⟨v,ps,hrun,c⟩:=h.look_ok Gl underlying197 (cD w) (Hf (none,0,0)) (Kf b);obtain ⟨s,rfl,e⟩:=Hg c;rw [hrun,KI];have a:(DM l).atKey (.int .i64 k) (.held (none,0,0))=.held s:=congrArg Prod.fst e;rw [Gj] at a;unfold BQ;cases hg:XT l k with
 | none=>rw [hg] at a;simp only [DataW.held.injEq] at a;rw [<-a];rfl
 | some s'=>rw [hg] at a;simp only [DataW.held.injEq] at a;rw [a];rfl
theorem Rz (l:List (Int×SL))(k:Nat):XV (l.take k)<=XV l:=by
 have:XV l=XV (l.take k)+XV (l.drop k):=by
  conv=>lhs;rw [<-List.take_append_drop k l]
  unfold XV;rw [List.map_append,List.sum_append]
 omega
def DS.get (S:DS)(k:Int):Option Bs:=XT S.now k
theorem mf (base d:Nat)(M:Nat->Prop)(S:DS)(N:Nat)(w:World)(h:Yd w base M d S)(l:DOk S N 1000000)(Q:N<=100000)(k:Int)(I:Qg k):
  Calls prog 165 #[d,k] w λr w'=>∃s:SL,r=.returned (.tuple #[Xn s,.bool (S.get k).isSome])/\GoodS w' base s/\QW w' s=(S.get k).getD []/\Below w.heap.size w w':=by
 obtain ⟨K,v,b,c,q,G⟩:=h;obtain ⟨D,f,e,C,B,n,a⟩:=q.facts l;have p:=pp (Kg base d K v S b c w q D f (by omega))
 have J:=pp (KR C k);have u:=l.now.2.2.2;have j:QW w (BQ (Xw b c) k)=(S.get k).getD []:=by
  unfold BQ DS.get;rw [<-B,Gk];cases XT (Xw b c) k with
  | none=>exact VL _ _ _
  | some s=>rfl
 have his:(XT (Xw b c) k).isSome=(S.get k).isSome:=by
  unfold DS.get;rw [<-B,Gk];cases XT (Xw b c) k<;>rfl
 have m:(BQ (Xw b c) k).2.1<=140737488355328:=pB (OV _ _) (pB a (pB (Nat.mul_le_mul_right 1000000 Q) (by decide)))
 have t:=pp (py j (py his m));clear q G D f e C B n a u j his m;go_enter func165,ntmps165;go_upto_region 1 with fail
 go_wp2_with (go_at_call 213;refine p.o.mono ?_;rintro O w2 ⟨rfl,L,i⟩;have z:=Wb L I;simp only [Xn] at z);have g:=J.o.1.on i;have y:=pp (Hm g.1 t.o.2.2);refine y.o.mono ?_;rintro O w3 ⟨⟨P,E,F⟩,rfl,-,A,x,H⟩;simp only [Xn];go_wp2_with fail;go_returns;exact ⟨(P,E,F),by rw [t.o.2.1];rfl,A,by rw [x,g.2,t.o.1],after i H⟩
theorem jb (base d:Nat)(M:Nat->Prop)(S:DS)(N:Nat)(w:World)(h:Yd w base M d S)(m:DOk S N 1000000)(hN:N<=100000)(f:base<=w.heap.size):
  Calls prog 175 #[d] w λr w'=>r=.returned (int i64 S.sync.2)/\Yw w base M d S.sync.1 w':=by
 obtain ⟨y,v,E,F,O,L⟩:=h;have D:=pp (KQ base d y v S E F w O m.waits m.fails);have x:=pp L;have z:=m.asked;obtain ⟨X,V,e3⟩:=Be S;have B:S.asked.1.now=S.now:=by unfold DS.now;rw [X,V]
 have Y:=pp f;clear L O f;cases ha:S.asked.2
 ·have g:S.sync=({ S.asked.1 with safe:=S.now,l:=[] },0):=by unfold DS.sync;rw [ha];rfl
  rw [g];rw [ha] at D;go_enter func175,ntmps175;go_upto_region 3 with (go_at_call 225;refine D.o.mono ?_;rintro U t ⟨rfl,c,i⟩)
  obtain ⟨R,A,u,Q,K,G,q⟩:=c.facts z;have H:=pp (Kg base d y v S.asked.1 E F t c R A (by omega))
  rw [B] at K;have P:=pp (py Q K);have j:=pp i;have hdl:=c.blk.lt;clear Q K q R A u G i;go_wp2_with (go_at_call 213;refine H.o.mono ?_;rintro U C ⟨rfl,T,s⟩;have k:=c.on s;have c3:C.cell? ⟨d,3,none⟩=some (.map (some y)):=k.blk.cell 3;have c4:C.cell? ⟨d,4,none⟩=some v:=k.blk.cell 4;have f3:=k.blk.frz 3;have f4:=k.blk.frz 4);go_returns;have J:Kept (λb=>b≠d) C ((C.setCell ⟨d,3,none⟩ (.map (some t.heap.size))).setCell ⟨d,4,none⟩ (.slice none 0 0)):=((Kept.refl _ _).setCell (by simp) _).setCell (by simp) _
  obtain ⟨g1,g2⟩:=P.o.1.on s;have n:∀b,VX C base b->b≠d:=λb a e=>k.byte a (.inl e)
  obtain ⟨g3,W⟩:=g1.kept J n;have I:base<=t.heap.size:=pB Y.o j.o.size;refine ⟨rfl,BP d t.heap.size (.slice none 0 0),⟨t.heap.size,.slice none 0 0,Xw E F,[],⟨(k.blk.set_ 3 _).set_ 4 _,Al (EH T) (J.block _ T.lt (by omega)),Q5.nil,k.based,I,g3,λp Z=>(by cases Z),by rw [W,g2,P.o.2],rfl⟩,λb=>Iff.rfl⟩,λb a=>?_,?_⟩
  ·rcases a with a|a|a
   ·exact .inl ((x.o b).2 (.inl a))
   ·subst a;exact .inr j.o.size
   ·cases a
  ·refine (j.o.mono λb a e=>a ((x.o b).2 (.inl e))).trans ?_
   refine ((Kept.of_below s).mono λ_ _=>trivial).trans ?_
   exact J.mono λb a e=>a ((x.o b).2 (.inl e))
 ·have g:S.sync=(S.asked.1,9):=by unfold DS.sync;rw [ha];rfl
  rw [g];rw [ha] at D;go_enter func175,ntmps175;go_wp2_with (go_at_call 225;refine D.o.mono ?_;rintro U t ⟨rfl,c,i⟩);go_returns;exact ⟨rfl,BP d y v,⟨y,v,E,F,c,λb=>Iff.rfl⟩,λb a=>.inl ((x.o b).2 a),i.mono λb a e=>a ((x.o b).2 (.inl e))⟩
theorem jc (base d:Nat)(M:Nat->Prop)(S:DS)(N:Nat)(w:World)(h:Yd w base M d S)(y:DOk S N 1000000)(hN:N<=100000):
  Calls prog 229 #[d] w λr w'=>r=.returned (int i64 (YO S.l))/\Below w.heap.size w w':=by
 obtain ⟨bm,v,sv,a,f,H⟩:=h;have E:XV a=YO S.l:=by rw [Fm f.gl,<-f.l]
 have hcnt:a.length<=100000:=by have:=y.many;rw [f.l,Am] at this;omega
 have z:YO S.l<=100000000000:=by
  refine pB (Fh (M:=1000000) λp s=>y.size p (List.mem_append.2 (.inr s))) ?_
  rw [f.l,Am];omega
 obtain ⟨q,cap,rfl,A,u,t⟩:=DE f.row;have d4:w.cell? ⟨d,4,none⟩=some (.slice q a.length cap):=f.blk.cell 4;have I:=pp t;have J:=pp E;have HC:=pp (py A u);rw [<-E] at z;clear f H t A u E;go_enter func229,ntmps229;go_upto_region 3 with fail
 go_loopw [3,11] (λx i wr=>∃k:Nat,k<=a.length/\i=.int .i64 k/\x=.int .i64 (XV (a.take k):Int)/\pM w wr) (λ_ i _=>a.length - (intOf i).toNat)
 case atStart=>exact ⟨0,pC _,rfl,rfl,pI _ _⟩
 case round=>
  obtain ⟨k,hk,rfl,rfl,b⟩:=hrel;by_cases e:k<a.length
  ·obtain ⟨p,s⟩:=V9 e;obtain ⟨g,rfl,B,D⟩:=I.o k p s;have c:=QN B;replace c:g<w.heap.size:=c;replace B:=(b.cell (p:=⟨g,k * 2,none⟩) c).trans B;replace D:=(b.cell (p:=⟨g,k * 2+1,none⟩) c).trans D;have j:XV (a.take (k+1))=XV (a.take k)+p.2.2.1:=by rw [Uv s];simp [XV]
   have n:XV (a.take (k+1))<=XV a:=Rz _ _;obtain ⟨pk,pq,G,pc⟩:=p;simp only [Xn] at B D j;have C:(k:Int)<(a.length:Int):=by omega
   have hk0:(0:Int)<=(k:Int):=by omega
   have YV: -9223372036854775808<=(XV (a.take k):Int)+(G:Int):=by omega
   have hi2:(XV (a.take k):Int)+(G:Int)<=9223372036854775807:=by omega
   have F:=pp j;have m:=pp b;clear s j n z b;go_wp2_with fail;exact ⟨⟨k+1,e,by go_num,by rw [F.o];rfl,m.o.alloc m.o.size _⟩,ZY e⟩
  ·obtain rfl:k=a.length:=by omega
   rw [List.take_length];have C:¬((a.length:Int)<(a.length:Int)):=by omega
   go_wp2_with fail;go_returns;rw [J.o];exact ⟨rfl,b⟩
def Vp:List (Int×SL)->List (Int×SL)->Nat->List (Int×SL)
 | s,[],_=>s
 | s,w::r,k=>if w.2.2.1<=k then Vp (QO s w) r (k - w.2.2.1) else QO s (w.1,(w.2.1,k,w.2.2.2))
theorem FT:∀{l s:List (Int×SL)} {k:Nat},Y0 w base s->Y0 w base l->Y0 w base (Vp s l k)/\Yj w (Vp s l k)=GU (Yj w s) (Yj w l) k
 | [],s,k,d,_=>⟨d,rfl⟩
 | p::r,s,k,d,m=>by
  obtain ⟨i,g,c,pc⟩:=p;have b:=m _ List.mem_cons_self;have a:=b.len;dsimp only at b a;have n:Y0 w base r:=λp b=>m p (List.mem_cons_of_mem _ b)
  unfold Vp;have e:Yj w ((i,g,c,pc)::r)=(i,QW w (g,c,pc))::Yj w r:=rfl;rw [e];unfold GU;dsimp only;rw [a];split
  ·rename_i h;obtain ⟨j,f⟩:=FT (l:=r) (s:=QO s (i,g,c,pc)) (k:=k - c) (d.put b) n;exact ⟨j,by rw [f,KJ]⟩
  ·rename_i h;obtain ⟨j,f⟩:=b.cut (k:=k) (by dsimp only;omega)
   exact ⟨d.put j,by rw [KJ,f]⟩
theorem dU (S:DS)(n:Int):Xj (Xv n 0) (YO S.l:Int)=(Ay S n:Int):=by
 unfold Xj Xv Ay;omega
theorem dV (base d:Nat)(M:Nat->Prop)(S:DS)(N:Nat)(w:World)(h:Yd w base M d S)(L:DOk S N 1000000)(hN:N<=100000)(n:Int):
  Calls prog 177 #[d,n] w λr w'=>r=.returned (.int .i64 (S.crash n).2)/\Yw w base M d (S.crash n).1 w':=by
 have hmn:=@YY prog;have hmx:=@ZC prog;have aj:=pp λW hW=>jc base d M S N W (h.on hW) L hN
 obtain ⟨A,v,sv,m,D,hM⟩:=h;have az:=dU S n;have hkl:Ay S n<=YO S.l:=Nat.min_le_right _ _;have hle:YO S.l<=100000000000:=by
  refine pB (Fh (M:=1000000) λp C=>L.size p (List.mem_append.2 (.inr C))) ?_
  have:=L.many;rw [D.l,Am] at this ⊢;omega
 have av:(S.crash n).2=(YO S.l:Int) - (Ay S n:Int):=by unfold DS.crash;dsimp only;omega
 obtain ⟨hr,H,hcnt,-,-,-,-⟩:=D.facts L;obtain ⟨g1,g2⟩:=FT (k:=Ay S n) D.gs D.gl;have HX:Hid (Y0 w base (Vp sv m (Ay S n))/\(S.crash n).1.safe=Yj w (Vp sv m (Ay S n))):=pp ⟨g1,by rw [g2,<-D.safe,<-D.l];rfl⟩
 have an:∀p∈m,p.2.2.1<=1000000:=λp C=>by
  rw [<-(D.gl p C).len];exact L.size (p.1,QW w p.2) (List.mem_append.2 (.inr (by rw [D.l];exact List.mem_map.2 ⟨p,C,rfl⟩)))
 have ab:∀p∈m,p.2.2.1<=p.2.2.2/\p.2.2.2<=maxLen:=λp C=>⟨(D.gl p C).cap,(D.gl p C).most⟩
 rw [av];obtain ⟨q,cap,rfl,a6,a1,au⟩:=DE D.row;have d3:w.cell? ⟨d,3,none⟩=some (.map (some A)):=D.blk.cell 3;have d4:w.cell? ⟨d,4,none⟩=some (.slice q m.length cap):=D.blk.cell 4;have T:=pp D;have HM:=pp hM;have HR:=pp au;have HK:=pp (py H (py an ab));have ac:=D.map;have G:=D.apart.2.2;have hcz:m.length<=1000000:=by omega
 clear D hM au a6 a1 H an ab g1 g2 av;generalize Ay S n=kp at *;generalize YO S.l=tot at *;go_enter func177,ntmps177;go_upto_region 2 with (go_at_call 229;refine (aj.o _ (pI _ _)).mono ?_;rintro e_ w1 ⟨rfl,h1⟩)
 go_upto_region 3 with (go_at_call 229;refine (aj.o _ h1).mono ?_;rintro e_ w2 ⟨rfl,h2⟩)
 have y:=after h1 h2;have ao:w2.cell? ⟨d,3,none⟩=some (.map (some A)):=(y.cell (p:=⟨d,3,none⟩) T.o.blk.lt).trans d3;have ax:w2.cell? ⟨d,4,none⟩=some (.slice q m.length cap):=(y.cell (p:=⟨d,4,none⟩) T.o.blk.lt).trans d4;have ap:=UU ac y;have a0:Hid (∀i p,m[i]?=some p->∃g,q=some ⟨g,0,none⟩/\w2.cell? ⟨g,i * 2,none⟩=some (.int .i64 p.1)/\w2.cell? ⟨g,i * 2+1,none⟩=some (Xn p.2)):=pp λi p C=>by
  obtain ⟨g,e,r0,r1⟩:=HR.o i p C;exact ⟨g,e,(y.cell (p:=⟨g,i * 2,none⟩) (QN r0)).trans r0,(y.cell (p:=⟨g,i * 2+1,none⟩) (QN r1)).trans r1⟩
 have a7:Hid (∀g,q=some ⟨g,0,none⟩->g≠A):=pp λg e=>by
  have:=T.o.apart.2.1;rw [e] at this;intro h;exact this (by rw [h];rfl)
 have H12:=pp y;have hbl:=ap.lt;have ar:Hid (∀W l,Kept (λb=>b≠A) w2 W->W.ownsMap prog 3 RS A l.length (DM l)->Vp sv m kp=l->Yw w base M d (S.crash n).1 (((W.setCell ⟨d,4,none⟩ (.slice none 0 0)).setCell ⟨d,1,none⟩ (.int .i64 0)).setCell ⟨d,2,none⟩ (.int .i64 0))):=pp λW l hk hm hl=>by
  subst hl;have k1:Kept (λb=>b≠d/\b≠A) w W:=((Kept.of_below y).mono λ_ _=>trivial).trans (hk.mono λ_ h=>h.2)
  have k2:=((k1.setCell (p:=⟨d,4,none⟩) (by simp) (.slice none 0 0)).setCell (p:=⟨d,1,none⟩) (by simp) (.int .i64 0)).setCell (p:=⟨d,2,none⟩) (by simp) (.int .i64 0)
  have k3:Kept (λb=>b≠d) W (((W.setCell ⟨d,4,none⟩ (.slice none 0 0)).setCell ⟨d,1,none⟩ (.int .i64 0)).setCell ⟨d,2,none⟩ (.int .i64 0)):=(((Kept.refl _ _).setCell (by simp) _).setCell (by simp) _).setCell (by simp) _
  have F:Q0 W d 200 _:=hk.blk (Ne.symm G) (T.o.blk.on y);have ah:∀b,VX w base b->b≠d/\b≠A:=λb hB=>⟨λe=>T.o.byte hB (.inl e),λe=>T.o.byte hB (.inr (.inl e))⟩
  obtain ⟨g3,g4⟩:=HX.out.1.kept k2 ah;refine ⟨BP d A (.slice none 0 0),⟨A,_,_,[],⟨((F.set_ 4 _).set_ 1 _).set_ 2 _,Al hm (k3.block _ hm.lt G),Q5.nil,T.o.based,T.o.basem,g3,λp C=>(by cases C),by rw [g4];exact HX.out.2,rfl⟩,λb=>Iff.rfl⟩,λb F=>?_,k2.mono λb F=>⟨λe=>F ((HM.o b).2 (.inl e)),λe=>F ((HM.o b).2 (.inr (.inl e)))⟩⟩
  rcases F with F|F|F
  ·exact .inl ((HM.o b).2 (.inl F))
  ·exact .inl ((HM.o b).2 (.inr (.inl F)))
  ·cases F
 have aq:=pp (T.o.blk.on y);clear d3 d4 ac h1 h2 y HR aj az;go_upto_region 4 with fail
 go_loopw [1,23] (λx i wr=>∃(k:Nat) (s:List (Int×SL)) (t:Nat),k<=m.length/\i=.int .i64 k/\x=.int .i64 t/\t<=kp/\Hid (Yb s)/\wr.ownsMap prog 3 RS A s.length (DM s)/\Hid (Vp sv m kp=Vp s (m.drop k) t)/\s.length<=sv.length+k/\Hid (Kept (λb=>b≠A) w2 wr)) (λ_ i _=>m.length - (intOf i).toNat)
 case atStart=>exact ⟨0,sv,kp,pC _,rfl,rfl,pA _,pp hr,ap,pp rfl,pA _,pp (Kept.refl _ _)⟩
 case round=>
  obtain ⟨k,s,t,hk,rfl,rfl,hkk,af,E,aa,hsl,z⟩:=hrel;have c3:wr.cell? ⟨d,3,none⟩=some (.map (some A)):=by rw [World.cell?_of_block (a:=⟨d,3,none⟩) (z.out.block d (QN ao) (Ne.symm G))];exact ao
  have c4:wr.cell? ⟨d,4,none⟩=some (.slice q m.length cap):=by rw [World.cell?_of_block (a:=⟨d,4,none⟩) (z.out.block d (QN ax) (Ne.symm G))];exact ax
  by_cases P:k<m.length
  ·obtain ⟨p,C⟩:=V9 P;obtain ⟨g,rfl,r0,r1⟩:=a0.out k p C;have al:=a7.out g rfl;have ai:wr.cell? ⟨g,k * 2,none⟩=some (.int .i64 p.1):=by rw [World.cell?_of_block (a:=⟨g,k * 2,none⟩) (z.out.block g (QN r0) al)];exact r0
   have ag:wr.cell? ⟨g,k * 2+1,none⟩=some (Xn p.2):=by rw [World.cell?_of_block (a:=⟨g,k * 2+1,none⟩) (z.out.block g (QN r1) al)];exact r1
   have aw:m.drop k=p::m.drop (k+1):=by
    rw [List.drop_eq_getElem_cons P];rw [pH P] at C;rw [pE C]
   have Q:=Kf (HK.o.1 p (pG C));have a2:=HK.o.2.1 p (pG C);have ak:=HK.o.2.2 p (pG C);obtain ⟨pk,pq,u,pc⟩:=p;simp only [Xn] at ai ag Q a2 ak;rw [aw] at aa;clear r0 r1 C aw al;have hk1:(k:Int)<(m.length:Int):=by omega
   have hk0:(0:Int)<=(k:Int):=by omega
   have hpc1:=ak.1;clear ak;by_cases ad:u<=t
   ·have a4:Xj (u:Int) (t:Int)=u:=by unfold Xj;omega
    have am:Hid (Vp sv m kp=Vp (QO s (pk,pq,u,pc)) (m.drop (k+1)) (t - u)):=pp (by rw [aa.out];show (if u<=t then _ else _)=_;rw [if_pos ad])
    go_upto_region 7 with fail
    generalize hV:World.alloc wr _=wa;have X:Q0 wa wr.heap.size 293 #[.int .i64 pk,.slice pq u pc]:=Q0.eqw hV (Q0.new' rfl);have V:Below wr.heap.size wr wa:=by rw [<-hV];exact (pI _ _).alloc (pA _) _
    have O:wr.heap.size≠A:=by have:=E.lt;omega
    generalize wr.heap.size=gx at X O ⊢;have q3:=λR os=>cell_regrown (show wa.cell? ⟨d,3,none⟩=some (.map (some A)) from (Yt V (p:=⟨d,3,none⟩) (QN c3)).trans c3) R os
    have x0:=λR os=>(X.re R os).cell 0
    have x1:=λR os=>(X.re R os).cell 1
    have J:=pp (UU E V);clear hV c3 c4 ai ag;refine Qk [0,0,0,0,0,0,0,0,0,0,3] (λ_ _ _=>True) (by kernel_rfl) (by kernel_rfl) (λ_ _ _ _ h _=>h) ?_
    repeat (first|(refine Qi ?_)|(refine Qf (λK Z=>?_);go_simp;refine Z _ ?_;clear Z K))
    refine Q8 ?_;repeat (refine Q2 ?_)
    refine Qc ?_;simp only [Qd];intro W7 Y _;have I:=UU J.o Y;clear q3 x0 x1;go_upto_region 8 with (at_mapUpdate;refine wpList_mapUpdate_own _ rfl _ _ _ 197 rfl 3 51 Gl underlying197 _ A s.length _ rfl I (by unfold maxLen;omega) _ _ _ rfl rfl Q _ [] (Hf (pq,u,pc)) ?_;intro w8 f c)
    have k8:Kept (λb=>b≠A) W7 w8:=⟨c.os,c.tape,c.output,c.size,λb F Z=>c.block b F (λe=>Z (pE e))⟩
    have X8:=k8.blk O (X.on Y);have x1:=X8.cell 1;rw [KH af.out] at f;have B:=EH f;have U:=pp (((z.out.on V).on Y).trans k8);clear I f c k8 J Y V E z;have YV: -9223372036854775808<=(t:Int) - (u:Int):=by omega
    have ay:(t:Int) - (u:Int)<=9223372036854775807:=by omega
    have a5:¬(u<u):=by omega
    have ae:(t:Int) - (u:Int)=((t - u:Nat):Int):=by omega
    have a3:=pp ae;clear ae;go_wp2_with fail;exact ⟨⟨k+1,_,t - u,P,by go_num,by rw [a3.o],by omega,pp (EC af.out),B,am,by have:=FZ (pk,(pq,u,pc)) s;omega,U⟩,ZY P⟩
   ·have a4:Xj (u:Int) (t:Int)=t:=by unfold Xj;omega
    have am:Hid (Vp sv m kp=QO s (pk,(pq,t,pc))):=pp (by rw [aa.out];show (if u<=t then _ else _)=_;rw [if_neg ad])
    have hkc:t<=pc:=by omega
    have hkp:t<=u:=by omega
    go_upto_region 7 with fail
    generalize hV:World.alloc wr _=wa;have X:Q0 wa wr.heap.size 293 #[.int .i64 pk,.slice pq u pc]:=Q0.eqw hV (Q0.new' rfl);have V:Below wr.heap.size wr wa:=by rw [<-hV];exact (pI _ _).alloc (pA _) _
    have O:wr.heap.size≠A:=by have:=E.lt;omega
    generalize wr.heap.size=gx at X O ⊢;have q3:=λR os=>cell_regrown (show wa.cell? ⟨d,3,none⟩=some (.map (some A)) from (Yt V (p:=⟨d,3,none⟩) (QN c3)).trans c3) R os
    have x0:=λR os=>(X.re R os).cell 0
    have x1:=λR os=>(X.re R os).cell 1
    have J:=pp (UU E V);clear hV c3 c4 ai ag;refine Qk [0,0,0,0,0,0,0,0,0,0,3] (λ_ _ _=>True) (by kernel_rfl) (by kernel_rfl) (λ_ _ _ _ h _=>h) ?_
    repeat (first|(refine Qi ?_)|(refine Qf (λK Z=>?_);go_simp;refine Z _ ?_;clear Z K))
    refine Q8 ?_;repeat (refine Q2 ?_)
    refine Qc ?_;simp only [Qd];intro W7 Y _;have I:=UU J.o Y;clear q3 x0 x1;go_upto_region 8 with (at_mapUpdate;refine wpList_mapUpdate_own _ rfl _ _ _ 197 rfl 3 51 Gl underlying197 _ A s.length _ rfl I (by unfold maxLen;omega) _ _ _ rfl rfl Q _ [] (Hf (pq,t,pc)) ?_;intro w8 f c)
    have k8:Kept (λb=>b≠A) W7 w8:=⟨c.os,c.tape,c.output,c.size,λb F Z=>c.block b F (λe=>Z (pE e))⟩
    have X8:=k8.blk O (X.on Y);have x1:=X8.cell 1;rw [KH af.out] at f;have B:=EH f;have U:=pp (((z.out.on V).on Y).trans k8);clear I f c k8 J Y V E z;have YV: -9223372036854775808<=(t:Int) - (t:Int):=by omega
    have ay:(t:Int) - (t:Int)<=9223372036854775807:=by omega
    have a5:t<u:=by omega
    go_upto_region 11 with fail
    have j:Q0 w8 d 200 _:=U.o.blk (Ne.symm G) aq.o;have y1:w8.cell? ⟨d,1,none⟩=some (.int .i64 S.fails):=j.cell 1;have y2:w8.cell? ⟨d,2,none⟩=some (.int .i64 S.waits):=j.cell 2;have y4:w8.cell? ⟨d,4,none⟩=some (.slice (some ⟨g,0,none⟩) m.length cap):=j.cell 4;have z1:=j.frz 1;have z2:=j.frz 2;have z4:=j.frz 4;have HF:=pp (ar.out w8 _ U.o B am.out);clear B x1 X8 j;go_wp2_with fail;go_returns;exact ⟨rfl,HF.o⟩
  ·obtain rfl:k=m.length:=by omega
   have hkn:¬((m.length:Int)<(m.length:Int)):=by omega
   have j:Q0 wr d 200 _:=z.out.blk (Ne.symm G) aq.o;have y1:wr.cell? ⟨d,1,none⟩=some (.int .i64 S.fails):=j.cell 1;have y2:wr.cell? ⟨d,2,none⟩=some (.int .i64 S.waits):=j.cell 2;have z1:=j.frz 1;have z2:=j.frz 2;have z4:=j.frz 4;have HF:=pp (ar.out wr s z.out E (by rw [aa.out,List.drop_length];rfl))
   clear E j c3;go_wp2_with fail;go_returns;exact ⟨rfl,HF.o⟩
end
end Go.Proofs.YtmbccnioijokfaaGreatDoor