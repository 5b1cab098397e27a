/- A part of the proof. -/
import Derived.Test.YtmbccnioijokfaaGreatDoorZs23
namespace Go.Proofs.YtmbccnioijokfaaGreatDoor
set_option maxRecDepth 100000
set_option maxHeartbeats 32000000
open Go.Value (int)
open Go.IntKind (i64 u8)
open Go.Proofs.Tryz
variable {n b0 base:Nat}{v:Value}{cs:Array Value}{w0:World}{axis:Int}{spare:Nat -> Bool}{held:Bool}{f0 f1 f2:Field}
section
open Go.RowKit Go.Shelf
attribute [local go_sem] Oper.semAt_some
abbrev Cz (a b c d e f:Int):Array Value:=#[a,b,c,d,e,f]
theorem eM (a b c d e f axis k:Int)(q: -2147483648<=k)(m:k+1<=2147483648)(w:World):Calls prog 356 #[.agg #[a,b,c,d,e,f],int i64 axis,int i64 k] w λr w'=>
  r=.returned (.agg #[int i64 (Qy a axis 0 (k * 65536)),int i64 (Qy b axis 1 (k * 65536)),int i64 (Qy c axis 2 (k * 65536)),int i64 (Qy d axis 0 (k * 65536+65536)),int i64 (Qy e axis 1 (k * 65536+65536)),int i64 (Qy f axis 2 (k * 65536+65536))])/\Below w.heap.size w w':=by
 have hw:IntKind.i64.wrap (k+1)=k+1:=pJ _ (by omega)
 have h:Xu k=k * 65536:=Hv (by omega) (by omega)
 have o2:Xu (k+1)=k * 65536+65536:=by rw [Hv (by omega) (by omega)];omega
 have O:=pp (py h o2);clear h o2 q m;have U:Q0 ((w.alloc (.cells (Cz a b c d e f) 210)).alloc (.cells (Cz 0 0 0 0 0 0) 210)) w.heap.size 210 (Cz a b c d e f):=(Q0.new' rfl).alloc _;have u:Q0 ((w.alloc (.cells (Cz a b c d e f) 210)).alloc (.cells (Cz 0 0 0 0 0 0) 210)) (w.heap.size+1) 210 (Cz 0 0 0 0 0 0):=Q0.new' (by simp)
 obtain ⟨k0,k1,k2,k3,k4,k5⟩:=U.re6;go_enter func356,ntmps356;go_upto_region 1 with fail
 refine Qo 14 (by kernel_rfl) rfl (by kernel_rfl) ?_
 simp only [List.take_succ_cons,List.take_zero,List.drop_succ_cons,List.drop_zero];repeat (go_big_quiet_step (first|exact Calls.regrown_of (EN _ _ O.o.1 _)|exact Calls.regrown_of (EN _ _ O.o.2 _)|exact Calls.regrown_of (Ha _ _ _ _ _ _)))
 refine wpQuiet_nil ?_;intro w' g;obtain ⟨i,rfl⟩:=g;have R:=u.re i.d i.os;obtain ⟨⟨r0,r1,r2,r3,r4,r5⟩,s0,s1,s2,s3,s4,s5⟩:=R.c6;go_wp2_with fail;have n:=R.st6 (int i64 (Qy a axis 0 (k * 65536))) (int i64 (Qy b axis 1 (k * 65536))) (int i64 (Qy c axis 2 (k * 65536))) (int i64 (Qy d axis 0 (k * 65536+65536))) (int i64 (Qy e axis 1 (k * 65536+65536))) (int i64 (Qy f axis 2 (k * 65536+65536)));obtain ⟨⟨s,p,j,l,x,t⟩,-,-,-,-,-,-⟩:=n.c6;exact bodyPost_ret (v:=.agg #[int i64 (Qy a axis 0 (k * 65536)),int i64 (Qy b axis 1 (k * 65536)),int i64 (Qy c axis 2 (k * 65536)),int i64 (Qy d axis 0 (k * 65536+65536)),int i64 (Qy e axis 1 (k * 65536+65536)),int i64 (Qy f axis 2 (k * 65536+65536))]) (by simp [results,results356,go_sem,s,p,j,l,x,t]) rfl ⟨rfl,by (repeat' (first|(with_reducible exact pI _ _)|(with_reducible assumption)|(with_reducible refine Below.alloc ?_ ?_ _)|(with_reducible refine Below.drew ?_)|(with_reducible refine Below.setCell ?_ ?_ _)|(with_reducible refine after ?_ (pK _ _ _))|(refine after ?_ (by with_reducible assumption))|go_size))⟩
theorem P9 {F:Fence}{P:Program}{a:Func}{R:Ending->World->Prop}{tmps:Array Value}{w:World}(c:(results a tmps).run P w=.ok v w)(b:R (.returned v) w):bodyPostM F n P a R .ret { tmps:=tmps,defers:=[] } w:=⟨v,c,b⟩
def JB (p:Int×Bool):Value:=.tuple #[int i64 p.1,.bool p.2]
theorem eN (V:FuncId)(lv:Value)(val:Cl->Int)(a b c d e f axis dd M:Int)(hM:M<=72000000000000)(Y:0<=M)(hB:Sm M a b c d e f)(w:World)
  (eV:∀args w,(callFunc V args).run prog w=.ok (.enter V args) w) (J:Yy prog V lv val w):
  Calls prog 341 #[.func (.func V) #[lv] #[],.agg #[int i64 a,int i64 b,int i64 c,int i64 d,int i64 e,int i64 f],int i64 axis,int i64 dd] w λr w'=>
   r=.returned (JB (UV val a b c d e f axis dd))/\Below w.heap.size w w':=by
 have HV:=pp J;clear J;obtain ⟨W,hW⟩:=pt (((((w.alloc (.cells #[.func (.func V) #[lv] #[]] 74)).alloc (.cells #[int i64 a,int i64 b,int i64 c,int i64 d,int i64 e,int i64 f] 210)).alloc (.cells #[int i64 axis] 3)).alloc (.cells #[int i64 0] 3)).alloc (.cells #[.bool false] 4));have H:Below w.heap.size w W:=by rw [hW];go_grown
 have b0:Q0 W w.heap.size 74 #[.func (.func V) #[lv] #[]]:=by rw [hW];exact ((((Q0.new' rfl).alloc _).alloc _).alloc _).alloc _
 have X:Q0 W (w.heap.size+1) 210 #[int i64 a,int i64 b,int i64 c,int i64 d,int i64 e,int i64 f]:=by rw [hW];exact (((Q0.new' (by simp)).alloc _).alloc _).alloc _
 have b2:Q0 W (w.heap.size+1+1) 3 #[int i64 axis]:=by rw [hW];exact ((Q0.new' (by simp)).alloc _).alloc _
 have R:Q0 W (w.heap.size+1+1+1) 3 #[int i64 0]:=by rw [hW];exact (Q0.new' (by simp)).alloc _
 have U:Q0 W (w.heap.size+1+1+1+1) 4 #[.bool false]:=by rw [hW];exact Q0.new' (by simp)
 have hs:W.heap.size=w.heap.size+5:=by rw [hW];simp
 obtain ⟨N,hN⟩:=pt w.heap.size;rw [<-hN] at b0 X b2 R U hs;have hmn:=@YY prog;have hmx:=@ZC prog;refine (callsIn_wide (n:=5)).1 (callsIn_of_wp_marks func341 rfl trivial ?_ rfl);refine wpIn_wide.2 ?_;simp only [ntmps341,List.size_toArray,List.length_cons,List.length_nil,Nat.reduceAdd,Nat.reduceSub,Array.replicate_succ,Array.replicate_zero,List.push_toArray,List.append_toArray,List.nil_append,List.cons_append];go_upto_region 1 with fail
 rw [<-hW,<-hN];have HN:=pp hN;have ae:=pp hs;clear hW hN hs;have g0:=b2.cell 0;by_cases P:axis<0∨3<=axis
 ·have hv:UV val a b c d e f axis dd=(0,false):=by unfold UV;rw [if_pos P]
  have F:=pp hv;clear hv;obtain ⟨r0,f0⟩:=R.c1;obtain ⟨s0,q0⟩:=U.c1;have e3:=(R.set_ 0 (int i64 0)).far (p:=⟨N+1+1+1+1,0,none⟩) (by dsimp only;omega) (.bool false)
  have e4:=(U.far (p:=⟨N+1+1+1,0,none⟩) (by dsimp only;omega) (int i64 0)).set_ 0 (.bool false)
  obtain ⟨d0,-⟩:=e3.c1;obtain ⟨d1,-⟩:=e4.c1;have HH:=pp ((H.setCell (p:=⟨N+1+1+1,0,none⟩) (by rw [<-HN.o];dsimp only;omega) (int i64 0)).setCell (p:=⟨N+1+1+1+1,0,none⟩) (by rw [<-HN.o];dsimp only;omega) (.bool false))
  clear e3 e4 H b0 X b2 R U;rcases P with P|P
  all_goals
   go_wp2_with fail;refine P9 (v:=JB (0,false)) (by simp [results,Tryz.f341,go_sem,JB,d0,d1]) ⟨by rw [F.o],HH.o⟩
 ·obtain ⟨x1,x2⟩:0<=axis/\axis<3:=by omega
  have y1:¬axis<0:=by omega
  have y2:¬3<=axis:=by omega
  have hv:UV val a b c d e f axis dd=Cw (EM val a b c d e f axis) (Xc a b c axis) (Xc d e f axis) (CV dd):=by unfold UV;rw [if_neg P]
  have F:=pp hv;clear hv P;go_upto_region 4 with fail
  have al:Xj (Xv dd (-4194304)) 4194304=CV dd:=rfl;rw [al];clear al;obtain ⟨aa,ab⟩:=Ny dd;generalize CV dd=df at F aa ab ⊢;obtain ⟨a0,a1,a2,a3,a4,a5⟩:=X.c6.1;go_wp2_with (go_at_call 355;refine (WH _ _ _ _ _ _ _ _ _).mono ?_;rintro e_ w1 ⟨rfl,rfl⟩);generalize J:World.alloc (World.alloc (World.alloc W _) _) _=W1;have c1:Q0 W1 W.heap.size 210 #[int i64 a,int i64 b,int i64 c,int i64 d,int i64 e,int i64 f]:=Q0.eqw J (((Q0.new' rfl).alloc _).alloc _);have c2:Q0 W1 (W.heap.size+1) 3 #[int i64 axis]:=Q0.eqw J ((Q0.new' (by simp)).alloc _)
  have c3:Q0 W1 (W.heap.size+1+1) 3 #[int i64 df]:=Q0.eqw J (Q0.new' (by simp))
  replace b0:=Q0.eqw J (((b0.alloc _).alloc _).alloc _);replace X:=Q0.eqw J (((X.alloc _).alloc _).alloc _);replace b2:=Q0.eqw J (((b2.alloc _).alloc _).alloc _);replace R:=Q0.eqw J (((R.alloc _).alloc _).alloc _);replace U:=Q0.eqw J (((U.alloc _).alloc _).alloc _);have H1:Below w.heap.size w W1:=by
   have:=H.size;rw [<-J];exact ((H.alloc H.size _).alloc (by simp;omega) _).alloc (by simp;omega) _
  have G:W1.heap.size=N+8:=by rw [<-J];simp [ae.o]
  rw [ae.o] at c1 c2 c3 ⊢;clear J a0 a1 a2 a3 a4 a5 g0 H;have HS:=pp G;clear G ae;have O:=jG (N+5) (N+5+1) (N+5+1+1) a b c d e f axis df M (by omega) Y hB aa ab W1 c1 c2 c3
  have L:=RW (axis:=axis) hB Y;generalize Xc a b c axis=low at F O L;generalize Xc d e f axis=top at F O L;have an:=pp L;have ao:=pp (py aa ab);have am:=pp hB;have HM:=pp (py hM Y);have C1:=pp c1;have z:∀x,(x=N+5∨x=N+5+1∨x=N+5+1+1)->x<W1.heap.size:=λx hx=>by rw [HS.o];omega
  have HCAP:=pp z;clear L aa ab hB hM Y c1 c2 c3;refine Gd (m:=3) (gf:=362) (lb:=#[.pointer (some ⟨N+5,0,none⟩),.pointer (some ⟨N+5+1,0,none⟩),.pointer (some ⟨N+5+1+1,0,none⟩)]) rfl (enters_of func362 (by kernel_rfl) rfl) O z (λ_=>rfl)
   (λZ i A=>Hid (∀j x,j<i->(BX low top df)[j]?=some x->EM val a b c d e f axis x.1=false)/\Q0 A N 74 #[.func (.func V) #[lv] #[]]/\Q0 A (N+1) 210 #[int i64 a,int i64 b,int i64 c,int i64 d,int i64 e,int i64 f]/\Q0 A (N+1+1) 3 #[int i64 axis]/\Q0 A (N+1+1+1) 3 #[int i64 0]/\Q0 A (N+1+1+1+1) 4 #[.bool false]/\Below w.heap.size w A)
   (λZ k i A=>k=.ret/\Hid (∀j x,j<i->(BX low top df)[j]?=some x->EM val a b c d e f axis x.1=false)/\∃x,Hid ((BX low top df)[i]?=some x/\EM val a b c d e f axis x.1=true)/\Q0 A (N+1+1+1) 3 #[int i64 x.2]/\Q0 A (N+1+1+1+1) 4 #[.bool true]/\Below w.heap.size w A)
   ?_ ?_ (λZ=>⟨λj x h=>by omega,b0,X,b2,R,U,H1⟩) ?round ?done ?stop
  ·rintro Z i A B ⟨T,h2,h3,h4,C,s,q⟩ S;have lt:∀n,n<8->¬U8 W1.heap.size Z (N+n):=λn hn h=>by have:=h.1;rw [HS.o] at this;omega
   exact ⟨T,S.blk (lt 0 (by omega)) h2,S.blk (lt 1 (by omega)) h3,S.blk (lt 2 (by omega)) h4,S.blk (lt 3 (by omega)) C,S.blk (lt 4 (by omega)) s,q.trans (S.below q.size (λb hb h=>by have:=h.1;rw [HS.o] at this;rw [<-HN.o] at hb;omega))⟩
  ·rintro Z k i A B ⟨T,h2,x,h3,h4,C,s⟩ S;have lt:∀n,n<8->¬U8 W1.heap.size Z (N+n):=λn hn h=>by have:=h.1;rw [HS.o] at this;omega
   exact ⟨T,h2,x,h3,S.blk (lt 3 (by omega)) h4,S.blk (lt 4 (by omega)) C,s.trans (S.below s.size (λb hb h=>by have:=h.1;rw [HS.o] at this;rw [<-HN.o] at hb;omega))⟩
  case round=>
   rintro Z l i x A rfl ak af hx ⟨T,h2,h3,h4,C,s,q⟩;clear b0 X b2 R U H1 O z
   gi_wp2
   refine ⟨Kept.refl _ _,λA2 ad aj=>?_⟩
   have G:=HS.o;have g:∀n t cs,n<8->Q0 A (N+n) t cs->Q0 A2 (N+n) t cs:=λn t cs hn h=>ad.blk (show N+n≠W1.heap.size+1 by omega) h
   replace h2:Q0 A2 N 74 _:=g 0 _ _ (by omega) h2
   replace h3:=g 1 _ _ (by omega) h3
   replace h4:=g 2 _ _ (by omega) h4
   replace C:=g 3 _ _ (by omega) C
   replace s:=g 4 _ _ (by omega) s
   replace q:Below w.heap.size w A2:=q.trans (ad.below q.size (λb hb=>by rw [<-HN.o] at hb;omega))
   have ai:=L3 (k:=x.1) (w:=x.2) (low:=low) (top:=top) (d:=df) (pG hx);have L:=an.o;have aq:=ao.o;have ar:=HM.o;have k1: -2147483648<=x.1:=by omega
   have k2:x.1+1<=2147483648:=by omega
   have ag:=am.o.layer (axis:=axis) (k:=x.1) (by omega) (by omega) (by omega)
   have ac:=ag.box (by omega)
   have ah:=pp λW=>eM a b c d e f axis x.1 k1 k2 W
   have hP:=λW (h:Below w.heap.size w W)=>CT V lv val _ _ _ _ _ _ ac W eV (HV.o.on h)
   have E:∀dr os,Calls prog 137 #[.func (.func V) #[lv] #[],.agg #[int i64 (Qy a axis 0 (x.1 * 65536)),int i64 (Qy b axis 1 (x.1 * 65536)),int i64 (Qy c axis 2 (x.1 * 65536)),int i64 (Qy d axis 0 (x.1 * 65536+65536)),int i64 (Qy e axis 1 (x.1 * 65536+65536)),int i64 (Qy f axis 2 (x.1 * 65536+65536))]] (Go.Sort.grow (redrawn A2 dr) os) λr W'=>r=.returned (.bool (EM val a b c d e f axis x.1))/\Below (Go.Sort.grow (redrawn A2 dr) os).heap.size (Go.Sort.grow (redrawn A2 dr) os) W':=λdr os=>
    hP _ (q.trans ((pK A2 dr os).mono q.size))
   have HX:=pp hx;have H1:=pp T;have HZ:=pp (py ak af);have HA2:=pp aj;clear ad aj g hx T ak af G ai L aq ar k1 k2 ag ac hP;have g0:=λd os=>(h2.re d os).cell 0
   have g2:=λd os=>(h4.re d os).cell 0
   obtain ⟨x0,x1,x2,x3,x4,x5⟩:=h3.re6;cases hp:EM val a b c d e f axis x.1
   ·rw [hp] at E;have HP:=pp hp;replace E:=pp E;clear hp
    gi_wp2
    refine Dz [0,0,0,0,0,0] (λ_ _ _=>True) (by kernel_rfl) (by kernel_rfl) (λ_ _ _ _ h _=>h) (by kernel_rfl) (λ⟨_,_,h⟩=>h) ?_
    repeat (first|(refine Qi ?_)|(refine Qf (λK I=>?_);go_simp;first|(refine I _ ?_;clear I K)|(apply Exists.intro;refine ⟨λ_=>?_,I _ ?_⟩;(first|exact ah.o _|exact E.o _ _);clear I K)))
    refine Q8 ?_;repeat (refine Q2 ?_)
    refine Qc ?_;simp only [Qd];intro w3 Q _;clear g0 g2 x0 x1 x2 x3 x4 x5;simp only [wpList,Exit.then];go_at_K
    gi_wp2
    exact ⟨Kept.of_below Q,λj y hj hy=>(by
     rcases Nat.lt_or_eq_of_le (Nat.le_of_lt_succ hj) with e|e
     ·exact H1.o j y e hy
     ·subst e;rw [HX.o] at hy;obtain rfl:=pE hy;exact HP.o),h2.on Q,h3.on Q,h4.on Q,C.on Q,s.on Q,after q Q⟩
   ·rw [hp] at E;have HP:=pp hp;replace E:=pp E;clear hp
    gi_wp2
    refine Dz [0,0,0,0,0,0] (λ_ _ _=>True) (by kernel_rfl) (by kernel_rfl) (λ_ _ _ _ h _=>h) (by kernel_rfl) (λ⟨_,_,h⟩=>h) ?_
    repeat (first|(refine Qi ?_)|(refine Qf (λK I=>?_);go_simp;first|(refine I _ ?_;clear I K)|(apply Exists.intro;refine ⟨λ_=>?_,I _ ?_⟩;(first|exact ah.o _|exact E.o _ _);clear I K)))
    refine Q8 ?_;repeat (refine Q2 ?_)
    refine Qc ?_;simp only [Qd];intro w3 Q _;clear g0 g2 x0 x1 x2 x3 x4 x5;replace C:=C.on Q;replace s:=s.on Q;obtain ⟨r0,f0⟩:=C.c1;obtain ⟨s0,q0⟩:=s.c1;simp only [wpList,Exit.then];go_at_K
    gi_wp2
    have G:=HS.o;have n3:¬Cm W1.heap.size Z (λx=>x=N+5∨x=N+5+1∨x=N+5+1+1) (N+1+1+1):=λh=>by rcases h with h|h|h|h;exact absurd h.1 (by omega);all_goals omega
    have n4:¬Cm W1.heap.size Z (λx=>x=N+5∨x=N+5+1∨x=N+5+1+1) (N+1+1+1+1):=λh=>by rcases h with h|h|h|h;exact absurd h.1 (by omega);all_goals omega
    refine ⟨((Kept.of_below Q).setCell (p:=⟨N+1+1+1,0,none⟩) n3 _).setCell (p:=⟨N+1+1+1+1,0,none⟩) n4 _,rfl,H1.o,x,⟨HX.o,HP.o⟩,
     (C.set_ 0 _).far (p:=⟨N+1+1+1+1,0,none⟩) (by dsimp only;omega) _,(s.far (p:=⟨N+1+1+1,0,none⟩) (by dsimp only;omega) _).set_ 0 _,?_⟩
    replace q:=after q Q;rw [<-HN.o] at q ⊢;exact (q.setCell (p:=⟨N+1+1+1,0,none⟩) (by dsimp only;omega) _).setCell (p:=⟨N+1+1+1+1,0,none⟩) (by dsimp only;omega) _
  case done=>
   rintro Z A ⟨T,-,-,-,C,s,q⟩ I;clear b0 X b2 R U H1 O z;obtain ⟨r0,f0⟩:=C.c1;obtain ⟨s0,q0⟩:=s.c1;have HK:=pp I;clear I;go_wp2_with fail;have G:=HS.o;have hf:Cw (EM val a b c d e f axis) low top df=(df,false):=by unfold Cw;rw [Nw T.out]
   have e3:=((C.set_ 0 (int i64 df)).far (p:=⟨N+1+1+1+1,0,none⟩) (by dsimp only;omega) (.bool false)).putObj (D:=W1.heap.size) (by omega) (.deferred none)
   have e4:=((s.far (p:=⟨N+1+1+1,0,none⟩) (by dsimp only;omega) (int i64 df)).set_ 0 (.bool false)).putObj (D:=W1.heap.size) (by omega) (.deferred none)
   obtain ⟨d0,-⟩:=e3.c1;obtain ⟨d1,-⟩:=e4.c1;have ap:=Bw (p:=⟨N+1+1+1+1,0,none⟩) (u:=.bool false) (Bw (p:=⟨N+1+1+1,0,none⟩) (u:=.int .i64 df) HK.o (by dsimp only;omega)) (by dsimp only;omega)
   refine UM ap (v:=JB (df,false)) (by simp [results,Tryz.f341,go_sem,JB,d0,d1]) ⟨by rw [F.o,hf],?_⟩
   rw [<-HN.o] at q ⊢;exact VD ((q.setCell (p:=⟨N+1+1+1,0,none⟩) (by dsimp only;omega) _).setCell (p:=⟨N+1+1+1+1,0,none⟩) (by dsimp only;omega) _) (by omega) _
  case stop=>
   rintro Z k i A hi ⟨rfl,T,x,hx,C,s,q⟩ I;clear b0 X b2 R U H1 O z;obtain ⟨r0,f0⟩:=C.c1;obtain ⟨s0,q0⟩:=s.c1;have HK:=pp I;clear I;go_wp2_with fail;have G:=HS.o;have hf:Cw (EM val a b c d e f axis) low top df=(x.2,true):=by unfold Cw;rw [Nx hx.out.1 hx.out.2 T.out]
   obtain ⟨d0,-⟩:=(C.putObj (D:=W1.heap.size) (by omega) (.deferred none)).c1
   obtain ⟨d1,-⟩:=(s.putObj (D:=W1.heap.size) (by omega) (.deferred none)).c1
   refine UM HK.o (v:=JB (x.2,true)) (by simp [results,Tryz.f341,go_sem,JB,d0,d1]) ⟨by rw [F.o,hf],?_⟩
   rw [<-HN.o] at q ⊢;exact VD q (by omega) _
theorem eO (a b c d e f x y z:Int)(w:World):Calls prog 342 #[.agg #[a,b,c,d,e,f],.agg #[x,y,z]] w λr w'=>r=.returned (.agg #[int i64 (Q9 a x),int i64 (Q9 b y),int i64 (Q9 c z),int i64 (Q9 d x),int i64 (Q9 e y),int i64 (Q9 f z)])/\Below w.heap.size w w':=by
 have U:Q0 (((w.alloc (.cells (Cz a b c d e f) 210)).alloc (.cells #[x,y,z] 38)).alloc (.cells (Cz 0 0 0 0 0 0) 210)) w.heap.size 210 (Cz a b c d e f):=((Q0.new' rfl).alloc _).alloc _;have V:Q0 (((w.alloc (.cells (Cz a b c d e f) 210)).alloc (.cells #[x,y,z] 38)).alloc (.cells (Cz 0 0 0 0 0 0) 210)) (w.heap.size+1) 38 #[x,y,z]:=(Q0.new' (by simp)).alloc _
 have o:Q0 (((w.alloc (.cells (Cz a b c d e f) 210)).alloc (.cells #[x,y,z] 38)).alloc (.cells (Cz 0 0 0 0 0 0) 210)) (w.heap.size+1+1) 210 (Cz 0 0 0 0 0 0):=Q0.new' (by simp)
 obtain ⟨k0,k1,k2,k3,k4,k5⟩:=U.re6;obtain ⟨l0,l1,l2⟩:=V.re3;go_enter func342,ntmps342;go_wp2_with fail;refine Qo 9 (by kernel_rfl) rfl (by kernel_rfl) ?_
 simp only [List.take_succ_cons,List.take_zero,List.drop_succ_cons,List.drop_zero];repeat (go_big_quiet_step (exact Calls.regrown_of (Bi _ _ _ _ _ _ _)))
 refine wpQuiet_nil ?_;intro w' g;obtain ⟨h,rfl⟩:=g;have R:=o.re h.d h.os;obtain ⟨⟨r0,r1,r2,r3,r4,r5⟩,s0,s1,s2,s3,s4,s5⟩:=R.c6;go_wp2_with fail;have k:=R.st6 (int i64 (Q9 a x)) (int i64 (Q9 b y)) (int i64 (Q9 c z)) (int i64 (Q9 d x)) (int i64 (Q9 e y)) (int i64 (Q9 f z));obtain ⟨⟨m,l,i,j,p,n⟩,-,-,-,-,-,-⟩:=k.c6;exact bodyPost_ret (v:=.agg #[int i64 (Q9 a x),int i64 (Q9 b y),int i64 (Q9 c z),int i64 (Q9 d x),int i64 (Q9 e y),int i64 (Q9 f z)]) (by simp [results,results342,go_sem,m,l,i,j,p,n]) rfl ⟨rfl,by (repeat' (first|(with_reducible exact pI _ _)|(with_reducible assumption)|(with_reducible refine Below.alloc ?_ ?_ _)|(with_reducible refine Below.drew ?_)|(with_reducible refine Below.setCell ?_ ?_ _)|(with_reducible refine after ?_ (pK _ _ _))|(refine after ?_ (by with_reducible assumption))|go_size))⟩
def Sc (p:B6×Bool):Value:=.tuple #[.agg (AX p.1),.bool p.2]
theorem Uo (V:FuncId)(A:Value)(val:Cl->Int)(x:B6)(axis j M:Int)(C:M<=72000000000000)(p:0<=M)(G:Yh M x)(w:World)
  (F:∀args w,(callFunc V args).run prog w=.ok (.enter V args) w) (E:Yy prog V A val w):
  Calls prog 314 #[.func (.func V) #[A] #[],.agg (AX x),int i64 axis,int i64 j] w λr w'=>r=.returned (Sc (ZM (val) x axis j))/\Below w.heap.size w w':=by
 have m:=pp λW (h:pM w W)=>eN V A val x.1 x.2.1 x.2.2.1 x.2.2.2.1 x.2.2.2.2.1 x.2.2.2.2.2 axis j M C p G W F (E.on h)
 have k:ZM (val) x axis j=(L6 x axis (AI (val) x axis j).1,(AI (val) x axis j).2):=rfl;rw [k];unfold AI L6;obtain ⟨a,b,c,d,e,f⟩:=x;simp only [AX] at m ⊢;generalize UV (val) a b c d e f axis j=r at m ⊢;obtain ⟨n,u⟩:=r;simp only [JB] at m ⊢;clear E F C p G k;obtain ⟨s,g⟩:=pt (((w).alloc (.cells #[int i64 a,int i64 b,int i64 c,int i64 d,int i64 e,int i64 f] 210)).alloc (.cells #[int i64 0,int i64 0,int i64 0,int i64 0,int i64 0,int i64 0] 210));have U:Q0 s (w.heap.size) 210 _:=Q0.eqw g.symm ((Q0.new' (by simp)).alloc _)
 have D:Q0 s (w.heap.size+1) 210 _:=Q0.eqw g.symm (Q0.new' (by simp))
 have l:pM w s:=by rw [g];go_grown
 have XA:True:=trivial;go_enter func314,ntmps314;go_upto_region 1 with fail
 rw [<-g];clear g;obtain ⟨y,t,u2,u3,u4,z⟩:=U.c6.1;have XB:True:=trivial;go_upto_region 2 with (go_at_call 341;refine (m.o _ l).mono ?_;rintro e_ w1 ⟨rfl,q⟩)
 replace U:=U.on q;have R:=D.on q;replace l:=after l q;clear y t u2 u3 u4 z q D m;obtain ⟨y,t,u2,u3,u4,z⟩:=U.re6;refine Qk [0,0,0,0,0,0,1,3,3] (λ_ _ _=>True) (by kernel_rfl) (by kernel_rfl) (λ_ _ _ _ h _=>h) ?_
 repeat (first|(refine Qi ?_)|(refine Qf (λK i=>?_);go_simp;first|(refine i _ ?_;clear i K)|(apply Exists.intro;refine ⟨λ_=>?_,i _ ?_⟩;(first|exact Ha _ _ _ _ _ _|exact eO _ _ _ _ _ _ _ _ _ _);clear i K))|(refine Vo (λK i=>?_);go_simp;refine i _ ?_;clear i K))
 refine Q8 ?_;repeat (refine Q2 ?_)
 refine Qc ?_;simp only [Qd];intro W2 B _;clear y t u2 u3 u4 z;replace R:=R.on B;replace l:=after l B;obtain ⟨⟨r0,r1,r2,r3,r4,r5⟩,s0,s1,s2,s3,s4,s5⟩:=R.c6;go_wp2_with fail;have I:=R.st6 (int i64 (Q9 a (Qy 0 axis 0 n))) (int i64 (Q9 b (Qy 0 axis 1 n))) (int i64 (Q9 c (Qy 0 axis 2 n))) (int i64 (Q9 d (Qy 0 axis 0 n))) (int i64 (Q9 e (Qy 0 axis 1 n))) (int i64 (Q9 f (Qy 0 axis 2 n)));obtain ⟨⟨J,O,H,N,P,L⟩,-,-,-,-,-,-⟩:=I.c6;exact bodyPost_ret (v:=Sc ((Q9 a (Qy 0 axis 0 n),Q9 b (Qy 0 axis 1 n),Q9 c (Qy 0 axis 2 n),Q9 d (Qy 0 axis 0 n),Q9 e (Qy 0 axis 1 n),Q9 f (Qy 0 axis 2 n)),u)) (by simp [results,Tryz.f314,go_sem,Sc,J,O,H,N,P,L]) rfl ⟨rfl,by (repeat' (first|(with_reducible exact pI _ _)|(with_reducible assumption)|(with_reducible refine Below.alloc ?_ ?_ _)|(with_reducible refine Below.drew ?_)|(with_reducible refine Below.setCell ?_ ?_ _)|(with_reducible refine after ?_ (pK _ _ _))|(refine after ?_ (by with_reducible assumption))|go_size))⟩
theorem IR (a b c:Int)(w:World):(Instr.index 361 (.agg #[a,b,c]) (int i64 0)).run prog w=.ok (int i64 a) w/\(Instr.index 361 (.agg #[a,b,c]) (int i64 1)).run prog w=.ok (int i64 b) w/\(Instr.index 361 (.agg #[a,b,c]) (int i64 2)).run prog w=.ok (int i64 c) w:=by
 refine ⟨?_,?_,?_⟩<;>simp [Instr.index,asIntOf,go_sem]
theorem YQ {w:World}{N g:Nat}{t:TypeId}(V:Q0 w g t cs)(h:g≠N)(v0 a v2 v3 v4 v5:Value):Q0 ((((((w.setCell ⟨N,0,none⟩ v0).setCell ⟨N,1,none⟩ a).setCell ⟨N,2,none⟩ v2).setCell ⟨N,3,none⟩ v3).setCell ⟨N,4,none⟩ v4).setCell ⟨N,5,none⟩ v5) g t cs:=
 (((((V.far (p:=⟨N,0,none⟩) h _).far (p:=⟨N,1,none⟩) h _).far (p:=⟨N,2,none⟩) h _).far (p:=⟨N,3,none⟩) h _).far (p:=⟨N,4,none⟩) h _).far (p:=⟨N,5,none⟩) h _
theorem Uy {w:World}{N:Nat}(H:Below n w0 w)(h:n<=N)(v0 a v2 v3 v4 v5:Value):Below n w0 ((((((w.setCell ⟨N,0,none⟩ v0).setCell ⟨N,1,none⟩ a).setCell ⟨N,2,none⟩ v2).setCell ⟨N,3,none⟩ v3).setCell ⟨N,4,none⟩ v4).setCell ⟨N,5,none⟩ v5):=
 (((((H.setCell (p:=⟨N,0,none⟩) h _).setCell (p:=⟨N,1,none⟩) h _).setCell (p:=⟨N,2,none⟩) h _).setCell (p:=⟨N,3,none⟩) h _).setCell (p:=⟨N,4,none⟩) h _).setCell (p:=⟨N,5,none⟩) h _
theorem eP (V:FuncId)(lv:Value)(val:Cl->Int)(x:B6)(dx dy dz M:Int)(hM:M<=71500000000000)(X:0<=M)(hB:Yh M x)(w:World)
  (eV:∀args w,(callFunc V args).run prog w=.ok (.enter V args) w) (hV:Yy prog V lv val w):
  Calls prog 272 #[.func (.func V) #[lv] #[],.agg (AX x),.agg #[int i64 dx,int i64 dy,int i64 dz]] w λr w'=>r=.returned (P4 val x dx dy dz)/\Below w.heap.size w w':=by
 have s1:=UW hB X (by omega) val 1 dy
 have s2:=UW (x:=Cx val x dy) s1 (by omega) (by omega) val 0 dx
 have C1:=λW (h:Below w.heap.size w W)=>Uo V lv val x 1 dy M (by omega) X hB W eV (hV.on h)
 have C2:=λW (h:Below w.heap.size w W)=>Uo V lv val (Cx val x dy) 0 dx (M+10000000) (by omega) (by omega) s1 W eV (hV.on h)
 have C3:=λW (h:Below w.heap.size w W)=>Uo V lv val (Dc val x dx dy) 2 dz (M+10000000+10000000) (by omega) (by omega) s2 W eV (hV.on h)
 unfold P4;have e3:st3 val x dx dy dz=(ZM val (Dc val x dx dy) 2 dz).1:=rfl;have f3:Eo val x dx dy dz=(ZM val (Dc val x dx dy) 2 dz).2:=rfl;have e2:Dc val x dx dy=(ZM val (Cx val x dy) 0 dx).1:=rfl;have f2:AY val x dx dy=(ZM val (Cx val x dy) 0 dx).2:=rfl;have e1:Cx val x dy=(ZM val x 1 dy).1:=rfl;have f1:RZ val x dy=(ZM val x 1 dy).2:=rfl;rw [e3,f3,f2,f1];generalize ZM val (Dc val x dx dy) 2 dz=p3 at C3 ⊢;rw [e2] at C3;generalize ZM val (Cx val x dy) 0 dx=p2 at C2 C3 ⊢;rw [e1] at C2;generalize ZM val x 1 dy=p1 at C1 C2 ⊢;obtain ⟨⟨Z,O,S,P,T,Q⟩,u1⟩:=p1;obtain ⟨⟨L,Y,c2,E,g2,F⟩,u2⟩:=p2;obtain ⟨⟨a3,s,c3,u,z,t⟩,u3⟩:=p3;obtain ⟨a,b,c,d,e,f⟩:=x;simp only [Sc,AX] at C1 C2 C3 ⊢;have aa:=pp C1;have ad:=pp C2;have ab:=pp C3;clear C1 C2 C3 s1 s2 hM X hB eV hV e1 e2 e3 f1 f2 f3;obtain ⟨W,B⟩:=pt (((((w.alloc (.cells #[int i64 a,int i64 b,int i64 c,int i64 d,int i64 e,int i64 f] 210)).alloc (.cells #[int i64 dx,int i64 dy,int i64 dz] 38)).alloc (.cells #[int i64 0,int i64 0,int i64 0,int i64 0,int i64 0,int i64 0] 210)).alloc (.cells #[.bool false,.bool false,.bool false] 322)).alloc (.cells #[.bool false,.bool false,.bool false] 322));have H:Below w.heap.size w W:=by rw [B];go_grown
 obtain ⟨N,C⟩:=pt w.heap.size;have U:Q0 W N 210 _:=Q0.eqw B.symm (by rw [C];exact ((((Q0.new' rfl).alloc _).alloc _).alloc _).alloc _)
 have D:Q0 W (N+1) 38 _:=Q0.eqw B.symm (by rw [C];exact (((Q0.new' (by simp)).alloc _).alloc _).alloc _)
 have J:Q0 W (N+1+1) 210 _:=Q0.eqw B.symm (by rw [C];exact ((Q0.new' (by simp)).alloc _).alloc _)
 have I:Q0 W (N+1+1+1) 322 _:=Q0.eqw B.symm (by rw [C];exact (Q0.new' (by simp)).alloc _)
 have i:Q0 W (N+1+1+1+1) 322 _:=Q0.eqw B.symm (by rw [C];exact Q0.new' (by simp))
 have ix0:=λw=>(IR 1 0 2 w).1
 have ix1:=λw=>(IR 1 0 2 w).2.1
 have ix2:=λw=>(IR 1 0 2 w).2.2
 go_enter func272,ntmps272;go_upto_region 2 with fail
 rw [<-B,<-C];have HN:=pp C;clear B C;go_upto_region 3 with fail
 go_loopw [10,12] (λ_ kv wr=>((kv=.int .i64 0/\Q0 wr N 210 #[int i64 a,int i64 b,int i64 c,int i64 d,int i64 e,int i64 f]/\Q0 wr (N+1+1+1+1) 322 #[.bool false,.bool false,.bool false])∨(kv=.int .i64 1/\Q0 wr N 210 #[int i64 Z,int i64 O,int i64 S,int i64 P,int i64 T,int i64 Q]/\Q0 wr (N+1+1+1+1) 322 #[.bool false,.bool u1,.bool false])∨(kv=.int .i64 2/\Q0 wr N 210 #[int i64 L,int i64 Y,int i64 c2,int i64 E,int i64 g2,int i64 F]/\Q0 wr (N+1+1+1+1) 322 #[.bool u2,.bool u1,.bool false])∨(kv=.int .i64 3/\Q0 wr N 210 #[int i64 a3,int i64 s,int i64 c3,int i64 u,int i64 z,int i64 t]/\Q0 wr (N+1+1+1+1) 322 #[.bool u2,.bool u1,.bool u3]))/\Q0 wr (N+1) 38 #[int i64 dx,int i64 dy,int i64 dz]/\Q0 wr (N+1+1) 210 #[int i64 0,int i64 0,int i64 0,int i64 0,int i64 0,int i64 0]/\Q0 wr (N+1+1+1) 322 #[.bool false,.bool false,.bool false]/\Hid (Below w.heap.size w wr)) (λ_ v _=>3 - (intOf v).toNat)
 case atStart=>exact ⟨.inl ⟨rfl,U,i⟩,D,J,I,H⟩
 case round=>
  clear U i D J I H;obtain ⟨hd,D,J,I,H⟩:=hrel;have R:w.heap.size<=N:=by rw [<-HN.o];exact pA _
  rcases hd with ⟨rfl,U,i⟩|⟨rfl,U,i⟩|⟨rfl,U,i⟩|⟨rfl,U,i⟩
  ·have A:=λx y=>aa.o (Go.Sort.grow (redrawn _ x) y) (after H.out (pK _ x y))
   have CC:=pp A;clear A;obtain ⟨u0,l,n,m,k,q⟩:=U.re6;obtain ⟨v0,v1,v2⟩:=D.re3;go_upto_region 5 with fail
   refine Qk [1,1,0,0,0,0,0,0,0,0,1,3,3,3] (λ_ _ _=>True) (by kernel_rfl) (by kernel_rfl) (λ_ _ _ _ h _=>h) ?_
   repeat (first|(refine Qi ?_)|(refine Qf (λK g=>?_);go_simp;first|(refine g _ ?_;clear g K)|(apply Exists.intro;refine ⟨λ_=>?_,g _ ?_⟩;(first|exact CC.o _ _|exact KD _ _ _ _ _ rfl _);clear g K))|(refine Vo (λK g=>?_);go_simp;refine g _ ?_;clear g K))
   refine Q8 ?_;repeat (refine Q2 ?_)
   refine Qc ?_;simp only [Qd];intro W5 j _;clear u0 l n m k q v0 v1 v2;replace U:=U.on j;replace i:=i.on j;have t1:=i.cell 1;have tf:=i.frz 1;obtain ⟨⟨r0,r1,r2,r3,r4,r5⟩,z0,z1,z2,z3,z4,z5⟩:=U.c6;go_wp2_with fail;go_roundw
   case rel=>exact ⟨.inr (.inl ⟨rfl,(U.st6 (int i64 Z) (int i64 O) (int i64 S) (int i64 P) (int i64 T) (int i64 Q)).far (p:=⟨N+1+1+1+1,1,none⟩) (by dsimp only;omega) _,(YQ i (by omega) (int i64 Z) (int i64 O) (int i64 S) (int i64 P) (int i64 T) (int i64 Q)).set_ 1 (.bool u1)⟩),(YQ (D.on j) (by omega) (int i64 Z) (int i64 O) (int i64 S) (int i64 P) (int i64 T) (int i64 Q)).far (p:=⟨N+1+1+1+1,1,none⟩) (by dsimp only;omega) _,(YQ (J.on j) (by omega) (int i64 Z) (int i64 O) (int i64 S) (int i64 P) (int i64 T) (int i64 Q)).far (p:=⟨N+1+1+1+1,1,none⟩) (by dsimp only;omega) _,(YQ (I.on j) (by omega) (int i64 Z) (int i64 O) (int i64 S) (int i64 P) (int i64 T) (int i64 Q)).far (p:=⟨N+1+1+1+1,1,none⟩) (by dsimp only;omega) _,(Uy (after H.out j) R (int i64 Z) (int i64 O) (int i64 S) (int i64 P) (int i64 T) (int i64 Q)).setCell (p:=⟨N+1+1+1+1,1,none⟩) (by dsimp only;omega) _⟩
   case measure=>simp [intOf]
  ·have A:=λx y=>ad.o (Go.Sort.grow (redrawn _ x) y) (after H.out (pK _ x y))
   have CC:=pp A;clear A;obtain ⟨u0,l,n,m,k,q⟩:=U.re6;obtain ⟨v0,v1,v2⟩:=D.re3;go_upto_region 5 with fail
   refine Qk [1,1,0,0,0,0,0,0,0,0,1,3,3,3] (λ_ _ _=>True) (by kernel_rfl) (by kernel_rfl) (λ_ _ _ _ h _=>h) ?_
   repeat (first|(refine Qi ?_)|(refine Qf (λK g=>?_);go_simp;first|(refine g _ ?_;clear g K)|(apply Exists.intro;refine ⟨λ_=>?_,g _ ?_⟩;(first|exact CC.o _ _|exact KD _ _ _ _ _ rfl _);clear g K))|(refine Vo (λK g=>?_);go_simp;refine g _ ?_;clear g K))
   refine Q8 ?_;repeat (refine Q2 ?_)
   refine Qc ?_;simp only [Qd];intro W5 j _;clear u0 l n m k q v0 v1 v2;replace U:=U.on j;replace i:=i.on j;have t0:=i.cell 0;have tf:=i.frz 0;obtain ⟨⟨r0,r1,r2,r3,r4,r5⟩,z0,z1,z2,z3,z4,z5⟩:=U.c6;go_wp2_with fail;go_roundw
   case rel=>exact ⟨.inr (.inr (.inl ⟨rfl,(U.st6 (int i64 L) (int i64 Y) (int i64 c2) (int i64 E) (int i64 g2) (int i64 F)).far (p:=⟨N+1+1+1+1,0,none⟩) (by dsimp only;omega) _,(YQ i (by omega) (int i64 L) (int i64 Y) (int i64 c2) (int i64 E) (int i64 g2) (int i64 F)).set_ 0 (.bool u2)⟩)),(YQ (D.on j) (by omega) (int i64 L) (int i64 Y) (int i64 c2) (int i64 E) (int i64 g2) (int i64 F)).far (p:=⟨N+1+1+1+1,0,none⟩) (by dsimp only;omega) _,(YQ (J.on j) (by omega) (int i64 L) (int i64 Y) (int i64 c2) (int i64 E) (int i64 g2) (int i64 F)).far (p:=⟨N+1+1+1+1,0,none⟩) (by dsimp only;omega) _,(YQ (I.on j) (by omega) (int i64 L) (int i64 Y) (int i64 c2) (int i64 E) (int i64 g2) (int i64 F)).far (p:=⟨N+1+1+1+1,0,none⟩) (by dsimp only;omega) _,(Uy (after H.out j) R (int i64 L) (int i64 Y) (int i64 c2) (int i64 E) (int i64 g2) (int i64 F)).setCell (p:=⟨N+1+1+1+1,0,none⟩) (by dsimp only;omega) _⟩
   case measure=>simp [intOf]
  ·have A:=λx y=>ab.o (Go.Sort.grow (redrawn _ x) y) (after H.out (pK _ x y))
   have CC:=pp A;clear A;obtain ⟨u0,l,n,m,k,q⟩:=U.re6;obtain ⟨v0,v1,v2⟩:=D.re3;go_upto_region 5 with fail
   refine Qk [1,1,0,0,0,0,0,0,0,0,1,3,3,3] (λ_ _ _=>True) (by kernel_rfl) (by kernel_rfl) (λ_ _ _ _ h _=>h) ?_
   repeat (first|(refine Qi ?_)|(refine Qf (λK g=>?_);go_simp;first|(refine g _ ?_;clear g K)|(apply Exists.intro;refine ⟨λ_=>?_,g _ ?_⟩;(first|exact CC.o _ _|exact KD _ _ _ _ _ rfl _);clear g K))|(refine Vo (λK g=>?_);go_simp;refine g _ ?_;clear g K))
   refine Q8 ?_;repeat (refine Q2 ?_)
   refine Qc ?_;simp only [Qd];intro W5 j _;clear u0 l n m k q v0 v1 v2;replace U:=U.on j;replace i:=i.on j;have t2:=i.cell 2;have tf:=i.frz 2;obtain ⟨⟨r0,r1,r2,r3,r4,r5⟩,z0,z1,z2,z3,z4,z5⟩:=U.c6;go_wp2_with fail;go_roundw
   case rel=>exact ⟨.inr (.inr (.inr ⟨rfl,(U.st6 (int i64 a3) (int i64 s) (int i64 c3) (int i64 u) (int i64 z) (int i64 t)).far (p:=⟨N+1+1+1+1,2,none⟩) (by dsimp only;omega) _,(YQ i (by omega) (int i64 a3) (int i64 s) (int i64 c3) (int i64 u) (int i64 z) (int i64 t)).set_ 2 (.bool u3)⟩)),(YQ (D.on j) (by omega) (int i64 a3) (int i64 s) (int i64 c3) (int i64 u) (int i64 z) (int i64 t)).far (p:=⟨N+1+1+1+1,2,none⟩) (by dsimp only;omega) _,(YQ (J.on j) (by omega) (int i64 a3) (int i64 s) (int i64 c3) (int i64 u) (int i64 z) (int i64 t)).far (p:=⟨N+1+1+1+1,2,none⟩) (by dsimp only;omega) _,(YQ (I.on j) (by omega) (int i64 a3) (int i64 s) (int i64 c3) (int i64 u) (int i64 z) (int i64 t)).far (p:=⟨N+1+1+1+1,2,none⟩) (by dsimp only;omega) _,(Uy (after H.out j) R (int i64 a3) (int i64 s) (int i64 c3) (int i64 u) (int i64 z) (int i64 t)).setCell (p:=⟨N+1+1+1+1,2,none⟩) (by dsimp only;omega) _⟩
   case measure=>simp [intOf]
  ·have x0:=λf d os=>(U.sp (D:=[N+1+1,N+1+1+1]) (by simp;omega) f d os).c6.1
   have y0:=λf d os=>(i.sp (D:=[N+1+1,N+1+1+1]) (by simp;omega) f d os).c3
   go_upto_region 7 with fail
   refine BH [0,0,2,2] 2 (N+1+1) 210 (#[int i64 a3,int i64 s,int i64 c3,int i64 u,int i64 z,int i64 t]) 3 (N+1+1+1) 322 (#[.bool u2,.bool u1,.bool u3]) (by omega) (by kernel_rfl) (by kernel_rfl) ?_
   repeat (first|(refine Qi ?_)|(refine Qf (λK g=>?_);go_simp;refine g _ ?_;clear g K))
   refine Q8 ?_;repeat (refine Q2 ?_)
   refine Qv ?s1 (λ_=>?_)
   case s1=>
    intro w_ ac G;have L2:=G.blk (by simp [Vx]) J
    obtain ⟨⟨q0,q1,q2,q3,q4,q5⟩,f0,f1,f2,f3,f4,f5⟩:=L2.c6;go_simp;exact Aj (by decide) US (L2.st6 _ _ _ _ _ _)
   refine Qv ?s2 (λ_=>?_)
   case s2=>
    intro w_ ac G;have T2:=G.blk (by simp [Vx]) I
    obtain ⟨q0,q1,q2,f0,f1,f2⟩:=T2.c3;go_simp;exact Ak (by decide) UR (T2.st3 _ _ _)
   refine XX ?_;simp only [Qd];rintro w1 k1 ⟨⟨-,r1⟩,r2⟩;obtain ⟨⟨m0,m1,m2,m3,m4,m5⟩,-,-,-,-,-,-⟩:=(r1.1 rfl).c6;obtain ⟨j0,j1,j2,-,-,-⟩:=(r2.2 rfl).c3;clear r1 r2 x0 y0;go_wp2_with fail;refine bodyPost_ret (v:=.tuple #[.agg #[int i64 a3,int i64 s,int i64 c3,int i64 u,int i64 z,int i64 t],.agg #[.bool u2,.bool u1,.bool u3]]) (by simp [results,Tryz.f272,go_sem,m0,m1,m2,m3,m4,m5,j0,j1,j2]) rfl ⟨rfl,?_⟩
   exact H.out.trans (k1.below H.out.size (λb hb=>by simp;omega))
def zb (b:Bool)(n:Int):Int:=if b then 0 else n
theorem IS (a b c:Bool)(w:World):(Instr.index 322 (.agg #[.bool a,.bool b,.bool c]) (int i64 0)).run prog w=.ok (.bool a) w/\(Instr.index 322 (.agg #[.bool a,.bool b,.bool c]) (int i64 1)).run prog w=.ok (.bool b) w/\(Instr.index 322 (.agg #[.bool a,.bool b,.bool c]) (int i64 2)).run prog w=.ok (.bool c) w:=by
 refine ⟨?_,?_,?_⟩<;>simp [Instr.index,asIntOf,go_sem]
theorem Lg (x y z a m p q r:Int)(c:Qy x a 0 m=p)(b:Qy y a 1 m=q)(d:Qy z a 2 m=r)(w:World):Calls prog 240 #[.agg #[x,y,z],int i64 a,int i64 m] w λe w'=>e=.returned (.agg #[p,q,r])/\Below w.heap.size w w':=by
 subst c b d;exact Ha x y z a m w
theorem jM (b c e:Bool)(x y z:Int)(w:World):Calls prog 270 #[.agg #[.bool b,.bool c,.bool e],.agg #[x,y,z]] w λr w'=>r=.returned (.agg #[int i64 (zb b x),int i64 (zb c y),int i64 (zb e z)])/\Below w.heap.size w w':=by
 obtain ⟨W,f⟩:=pt (((w.alloc (.cells #[.bool b,.bool c,.bool e] 322)).alloc (.cells #[x,y,z] 38)).alloc (.cells #[int i64 0,int i64 0,int i64 0] 38));have H:Below w.heap.size w W:=by rw [f];go_grown
 obtain ⟨N,h⟩:=pt w.heap.size;have A:Q0 W N 322 _:=Q0.eqw f.symm (by rw [h];exact ((Q0.new' rfl).alloc _).alloc _)
 have S:Q0 W (N+1) 38 _:=Q0.eqw f.symm (by rw [h];exact (Q0.new' (by simp)).alloc _)
 have R:Q0 W (N+1+1) 38 _:=Q0.eqw f.symm (by rw [h];exact Q0.new' (by simp))
 have ix0:=λw=>(IS b c e w).1
 have ix1:=λw=>(IS b c e w).2.1
 have ix2:=λw=>(IS b c e w).2.2
 go_enter func270,ntmps270;go_upto_region 1 with fail
 rw [<-f,<-h];have u:=pp h;clear f h;obtain ⟨a0,B,C,-,-,-⟩:=A.c3;go_upto_region 2 with fail
 go_loopw [5,6,8] (λ_ _ kv wr=>((kv=.int .i64 0/\Q0 wr (N+1) 38 #[x,y,z])∨(kv=.int .i64 1/\Q0 wr (N+1) 38 #[int i64 (zb b x),y,z])∨(kv=.int .i64 2/\Q0 wr (N+1) 38 #[int i64 (zb b x),int i64 (zb c y),z])∨(kv=.int .i64 3/\Q0 wr (N+1) 38 #[int i64 (zb b x),int i64 (zb c y),int i64 (zb e z)]))/\Q0 wr (N+1+1) 38 #[int i64 0,int i64 0,int i64 0]/\Hid (Below w.heap.size w wr)) (λ_ _ v _=>3 - (intOf v).toNat)
 case atStart=>exact ⟨.inl ⟨rfl,S⟩,R,H⟩
 case round=>
  clear A S R H a0 B C;obtain ⟨m,R,H⟩:=hrel;have a:w.heap.size<=N+1:=by rw [<-u.o];exact Nat.le_succ _
  rcases m with ⟨rfl,S⟩|⟨rfl,S⟩|⟨rfl,S⟩|⟨rfl,S⟩
  ·cases b
   ·go_wp2_with fail;go_roundw
    case rel=>exact ⟨.inr (.inl ⟨rfl,S⟩),R,H⟩
    case measure=>simp [intOf]
   ·obtain ⟨g,s1,s2,t0,j,i⟩:=S.c3;go_wp2_with (go_at_call 240;refine (Lg _ _ _ _ _ _ _ _ rfl rfl rfl _).mono ?_;rintro k l ⟨rfl,d⟩;replace S:=S.on d;obtain ⟨g,s1,s2,t0,j,i⟩:=S.c3);go_roundw
    case rel=>exact ⟨.inr (.inl ⟨rfl,S.st3 _ _ _⟩),(((R.on d).far (p:=⟨N+1,0,none⟩) (by dsimp only;omega) _).far (p:=⟨N+1,1,none⟩) (by dsimp only;omega) _).far (p:=⟨N+1,2,none⟩) (by dsimp only;omega) _,(((after H.out d).setCell (p:=⟨N+1,0,none⟩) a _).setCell (p:=⟨N+1,1,none⟩) a _).setCell (p:=⟨N+1,2,none⟩) a _⟩
    case measure=>simp [intOf]
  ·cases c
   ·go_wp2_with fail;go_roundw
    case rel=>exact ⟨.inr (.inr (.inl ⟨rfl,S⟩)),R,H⟩
    case measure=>simp [intOf]
   ·obtain ⟨g,s1,s2,t0,j,i⟩:=S.c3;go_wp2_with (go_at_call 240;refine (Lg _ _ _ _ _ _ _ _ rfl rfl rfl _).mono ?_;rintro k l ⟨rfl,d⟩;replace S:=S.on d;obtain ⟨g,s1,s2,t0,j,i⟩:=S.c3);go_roundw
    case rel=>exact ⟨.inr (.inr (.inl ⟨rfl,S.st3 _ _ _⟩)),(((R.on d).far (p:=⟨N+1,0,none⟩) (by dsimp only;omega) _).far (p:=⟨N+1,1,none⟩) (by dsimp only;omega) _).far (p:=⟨N+1,2,none⟩) (by dsimp only;omega) _,(((after H.out d).setCell (p:=⟨N+1,0,none⟩) a _).setCell (p:=⟨N+1,1,none⟩) a _).setCell (p:=⟨N+1,2,none⟩) a _⟩
    case measure=>simp [intOf]
  ·cases e
   ·go_wp2_with fail;go_roundw
    case rel=>exact ⟨.inr (.inr (.inr ⟨rfl,S⟩)),R,H⟩
    case measure=>simp [intOf]
   ·obtain ⟨g,s1,s2,t0,j,i⟩:=S.c3;go_wp2_with (go_at_call 240;refine (Lg _ _ _ _ _ _ _ _ rfl rfl rfl _).mono ?_;rintro k l ⟨rfl,d⟩;replace S:=S.on d;obtain ⟨g,s1,s2,t0,j,i⟩:=S.c3);go_roundw
    case rel=>exact ⟨.inr (.inr (.inr ⟨rfl,S.st3 _ _ _⟩)),(((R.on d).far (p:=⟨N+1,0,none⟩) (by dsimp only;omega) _).far (p:=⟨N+1,1,none⟩) (by dsimp only;omega) _).far (p:=⟨N+1,2,none⟩) (by dsimp only;omega) _,(((after H.out d).setCell (p:=⟨N+1,0,none⟩) a _).setCell (p:=⟨N+1,1,none⟩) a _).setCell (p:=⟨N+1,2,none⟩) a _⟩
    case measure=>simp [intOf]
  ·obtain ⟨g,s1,s2,-,-,-⟩:=S.c3;obtain ⟨r0,r1,r2,f0,f1,f2⟩:=R.c3;replace H:=H.out;have hw2:w.heap.size<=N+1+1:=by omega
   go_wp2_with fail;have q:=R.st3 (int i64 (zb b x)) (int i64 (zb c y)) (int i64 (zb e z));obtain ⟨t,s,n,-,-,-⟩:=q.c3;exact bodyPost_ret (v:=.agg #[int i64 (zb b x),int i64 (zb c y),int i64 (zb e z)]) (by simp [results,results270,go_sem,t,s,n]) rfl ⟨rfl,by (repeat' (first|(with_reducible exact pI _ _)|(with_reducible assumption)|(with_reducible refine Below.alloc ?_ ?_ _)|(with_reducible refine Below.drew ?_)|(with_reducible refine Below.setCell ?_ ?_ _)|(with_reducible refine after ?_ (pK _ _ _))|(refine after ?_ (by with_reducible assumption))|go_size))⟩
end
section
open Go.RowKit
abbrev BD:=Int×Int×Int×Int×Int×Int×Int×Int×Bool
abbrev Z5 (b:BD):Array Value:=#[int i64 b.1,int i64 b.2.1,int i64 b.2.2.1,int i64 b.2.2.2.1,int i64 b.2.2.2.2.1,int i64 b.2.2.2.2.2.1,int i64 b.2.2.2.2.2.2.1,int i64 b.2.2.2.2.2.2.2.1,.bool b.2.2.2.2.2.2.2.2]
def NG (x y z:Int):Int:=min (min x y) z
def NH (x y z:Int):Int:=max (max x y) z
theorem eQ {P:Program}(ts:Array TypeId)(t:TypeId)(k:IntKind)(x y z:Int)(w:World):(Builtin.min_ ts t #[.int k x,.int k y,.int k z]).run P w=.ok (.int k (NG x y z)) w:=by
 have h:NG x y z=if z<(if y<x then y else x) then z else (if y<x then y else x):=by unfold NG;split<;>split<;>omega
 rw [h];simp [Builtin.min_,Builtin.min2]
theorem eR {P:Program}(ts:Array TypeId)(t:TypeId)(k:IntKind)(x y z:Int)(w:World):(Builtin.max_ ts t #[.int k x,.int k y,.int k z]).run P w=.ok (.int k (NH x y z)) w:=by
 have h:NH x y z=if (if x<y then y else x)<z then z else (if x<y then y else x):=by unfold NH;split<;>split<;>omega
 rw [h];simp [Builtin.max_,Builtin.max2]
def FU (x y z m:Int):Bool:=decide (-m<=NG x y z)&&decide (NH x y z<=m)
theorem NI {x y z m:Int} :FU x y z m=true↔(-m<=x/\x<=m)/\(-m<=y/\y<=m)/\-m<=z/\z<=m:=by
 unfold FU NG NH;rw [Bool.and_eq_true,decide_eq_true_eq,decide_eq_true_eq];omega
def EW (b:BD):Bool:=decide (2<=b.2.2.2.2.2.2.1)&&decide (b.2.2.2.2.2.2.1<=131072)&&decide (1<=b.2.2.2.2.2.2.2.1)&&decide (b.2.2.2.2.2.2.2.1<=262144)&&FU b.1 b.2.1 b.2.2.1 70368744177664&&FU b.2.2.2.1 b.2.2.2.2.1 b.2.2.2.2.2.1 262144
def Lh (x y z wd h:Int):B6:=(Qs x (max wd 0 / 2),Qe y,Qs z (max wd 0 / 2),Q9 x (max wd 0 / 2),Q9 y (max h 0),Q9 z (max wd 0 / 2))
def Qw (b:BD):B6:=Lh b.1 b.2.1 b.2.2.1 b.2.2.2.2.2.2.1 b.2.2.2.2.2.2.2.1
def Er (n:Int):Int:=Xj (Xv n (-70368744177664)) 70368744177664
def Ad (x d:Int):Int:=Qs (Er (Q9 x d)) x
def Bo (n:Int):Int:=Tw (Xj (Xv n (-65536)) 65536) 16384
def ZO (climbs wet stands jump:Bool)(n:Int):Int:=
 if climbs then (if jump then 8192 else Xv (n - 4096) (-8192)) else if wet then (if jump then 6144 else Xv (n - 1024) (-8192)) else if jump&&stands then 28672 else Xv (n - 4096) (-262144)
section
variable (val:Cl->Int)
def EX (p:Int->Bool)(x:B6):Bool:=(Qz x.1 x.2.1 x.2.2.1 x.2.2.2.1 x.2.2.2.2.1 x.2.2.2.2.2).any λc=>p (val c)
def UX (b:BD)(ix iz:Int):BD:=(b.1,b.2.1,b.2.2.1,Bo ix,b.2.2.2.2.1,Bo iz,b.2.2.2.2.2.2.1,b.2.2.2.2.2.2.2.1,b.2.2.2.2.2.2.2.2)
def DV (b:BD)(jump:Bool):BD:=(b.1,b.2.1,b.2.2.1,b.2.2.2.1,ZO (EX val EG (Qw b)) (EX val Yv (Qw b)) (Ep val (Qw b)) jump b.2.2.2.2.1,b.2.2.2.2.2.1,b.2.2.2.2.2.2.1,b.2.2.2.2.2.2.2.1,b.2.2.2.2.2.2.2.2)
def ZU (b:BD):B6×Bool×Bool×Bool:=Bn val (Qw b) (Ad b.1 b.2.2.2.1) (Ad b.2.1 b.2.2.2.2.1) (Ad b.2.2.1 b.2.2.2.2.2.1) 32768
def WU (b:BD)(o:B6)(r:B6×Bool×Bool×Bool)(st:Bool):BD:=(Q9 b.1 (Qs r.1.1 o.1),Q9 b.2.1 (Qs r.1.2.1 o.2.1),Q9 b.2.2.1 (Qs r.1.2.2.1 o.2.2.1),zb r.2.1 b.2.2.2.1,zb r.2.2.1 b.2.2.2.2.1,zb r.2.2.2 b.2.2.2.2.2.1,b.2.2.2.2.2.2.1,b.2.2.2.2.2.2.2.1,st)
def Li (b:BD):BD:=WU b (Qw b) (ZU val b) (Ep val (ZU val b).1)
def Ft (b:BD)(ix iz:Int)(jump:Bool):BD:=Li val (DV val (UX b ix iz) jump)
end
structure BOk (M:Int)(b:BD):Prop where
 x: -M<=b.1/\b.1<=M
 y: -M<=b.2.1/\b.2.1<=M
 z: -M<=b.2.2.1/\b.2.2.1<=M
 sx: -262144<=b.2.2.2.1/\b.2.2.2.1<=262144
 sy: -262144<=b.2.2.2.2.1/\b.2.2.2.2.1<=262144
 sz: -262144<=b.2.2.2.2.2.1/\b.2.2.2.2.2.1<=262144
 wd:2<=b.2.2.2.2.2.2.1/\b.2.2.2.2.2.2.1<=131072
 ht:1<=b.2.2.2.2.2.2.2.1/\b.2.2.2.2.2.2.2.1<=262144
theorem BOk.box {M:Int}{b:BD}(h:BOk M b)(hM:M<=71000000000000):Yh (M+65536) (Qw b)/\Qw b=(b.1 - b.2.2.2.2.2.2.1 / 2,b.2.1,b.2.2.1 - b.2.2.2.2.2.2.1 / 2,b.1+b.2.2.2.2.2.2.1 / 2,b.2.1+b.2.2.2.2.2.2.2.1,b.2.2.1+b.2.2.2.2.2.2.1 / 2):=by
 obtain ⟨x,y,z,c,sy,a,wd,ht,st⟩:=b;obtain ⟨⟨a1,a2⟩,⟨b1,b2⟩,⟨c1,c2⟩,-,-,-,⟨w1,w2⟩,h1,h2⟩:=h;dsimp only at *;have e:Qw (x,y,z,c,sy,a,wd,ht,st)=(x - wd / 2,y,z - wd / 2,x+wd / 2,y+ht,z+wd / 2):=by
  unfold Qw Lh Q9 Qs Qe;dsimp only;simp only [Prod.mk.injEq];refine ⟨?_,?_,?_,?_,?_,?_⟩<;>omega
 refine ⟨?_,e⟩;rw [e];constructor<;>dsimp only<;>omega
end
section
def Z6 (x:B6)(p q r:Int):B6:=(x.1+p,x.2.1+q,x.2.2.1+r,x.2.2.2.1+p,x.2.2.2.2.1+q,x.2.2.2.2.2+r)
section
variable {val:Cl->Int}{M:Int}{x:B6}
theorem EY (x:B6)(p q r c b a:Int):Z6 (Z6 x p q r) c b a=Z6 x (p+c) (q+b) (r+a):=by
 unfold Z6;simp only [Prod.mk.injEq];refine ⟨?_,?_,?_,?_,?_,?_⟩<;>omega
theorem mA (h:Yh M x)(hM:M<=74000000000000){n:Int}(c:axis=0∨axis=1∨axis=2)(b: -10000000<=n)(a:n<=10000000):
  L6 x axis n=Z6 x (if axis=0 then n else 0) (if axis=1 then n else 0) (if axis=2 then n else 0):=by
 obtain ⟨a1,b1,c1,a2,b2,c2,d1,d2,d3,e1,e2,e3⟩:=h;unfold L6 Z6;rw [Nz b a,Nz b a,Nz b a];rcases c with rfl|rfl|rfl
 ·simp only [if_true,show ¬((1:Int)=0) by decide,show ¬((0:Int)=1) by decide,show ¬((2:Int)=0) by decide,show ¬((0:Int)=2) by decide,if_false]
  rw [Xg (by omega) (by omega) b a,Xg (by omega) (by omega) (by omega) (by omega),Xg (by omega) (by omega) (by omega) (by omega),Xg (by omega) (by omega) b a,Xg (by omega) (by omega) (by omega) (by omega),Xg (by omega) (by omega) (by omega) (by omega)]
 ·simp only [if_true,show ¬((1:Int)=0) by decide,show ¬((0:Int)=1) by decide,show ¬((2:Int)=1) by decide,show ¬((1:Int)=2) by decide,if_false]
  rw [Xg (by omega) (by omega) (by omega) (by omega),Xg (by omega) (by omega) b a,Xg (by omega) (by omega) (by omega) (by omega),Xg (by omega) (by omega) (by omega) (by omega),Xg (by omega) (by omega) b a,Xg (by omega) (by omega) (by omega) (by omega)]
 ·simp only [if_true,show ¬((1:Int)=2) by decide,show ¬((0:Int)=2) by decide,show ¬((2:Int)=1) by decide,show ¬((2:Int)=0) by decide,if_false]
  rw [Xg (by omega) (by omega) (by omega) (by omega),Xg (by omega) (by omega) (by omega) (by omega),Xg (by omega) (by omega) b a,Xg (by omega) (by omega) (by omega) (by omega),Xg (by omega) (by omega) (by omega) (by omega),Xg (by omega) (by omega) b a]
theorem I6 (h:Yh M x){p q r K:Int}(hp: -K<=p/\p<=K)(hq: -K<=q/\q<=K)(hr: -K<=r/\r<=K):Yh (M+K) (Z6 x p q r):=by
 obtain ⟨a1,b1,c1,a2,b2,c2,d1,d2,d3,e1,e2,e3⟩:=h;unfold Z6;constructor<;>dsimp only<;>omega
def Ba (n d:Int):Prop:=(0<=n/\n<=d)∨(d<=n/\n<=0)
theorem DW (val:Cl->Int)(h:Yh M x)(k:M<=74000000000000){d:Int}(f:axis=0∨axis=1∨axis=2)(l: -4194304<=d)(j:d<=4194304):
  ∃n e,ZM val x axis d=(Z6 x (if axis=0 then n else 0) (if axis=1 then n else 0) (if axis=2 then n else 0),e)/\Ba n d/\(e=false->n=d):=by
 obtain ⟨m,g⟩:=eH val x (i:=axis) (by omega) l j
 refine ⟨(AI val x axis d).1,(AI val x axis d).2,?_,?_,g⟩
 ·unfold ZM;rw [mA h k f (by omega) (by omega)]
 ·unfold Ba;rcases m with ⟨a,b,c⟩|⟨a,b,c⟩
  ·exact .inl ⟨b,c⟩
  ·exact .inr ⟨b,c⟩
theorem Ba.bd {n d K:Int}(h:Ba n d)(h1: -K<=d)(h2:d<=K): -K<=n/\n<=K:=by unfold Ba at h;omega
theorem jN (val:Cl->Int)(h:Yh M x)(hM:M<=73000000000000){dx dy dz:Int}(b: -4194304<=dx/\dx<=4194304)(a: -4194304<=dy/\dy<=4194304)(g: -4194304<=dz/\dz<=4194304):
  ∃p q r,st3 val x dx dy dz=Z6 x p q r/\Ba p dx/\Ba q dy/\Ba r dz:=by
 obtain ⟨q,t1,j,d,-⟩:=DW val h (by omega) (axis:=1) (by decide) a.1 a.2
 have s1:Yh (M+4194304) (Z6 x 0 q 0):=I6 h (by omega) (d.bd a.1 a.2) (by omega)
 have e:Cx val x dy=Z6 x 0 q 0:=by unfold Cx;rw [j];rfl
 obtain ⟨p,t2,l,f,-⟩:=DW val s1 (by omega) (axis:=0) (by decide) b.1 b.2
 have c:Dc val x dx dy=Z6 x p q 0:=by
  unfold Dc;rw [e,l];show Z6 (Z6 x 0 q 0) p 0 0=_;rw [EY,Int.zero_add,Int.add_zero,Int.add_zero]
 have s2:Yh (M+4194304) (Z6 x p q 0):=I6 h (f.bd b.1 b.2) (d.bd a.1 a.2) (by omega)
 obtain ⟨r,t3,k,i,-⟩:=DW val s2 (by omega) (axis:=2) (by decide) g.1 g.2
 refine ⟨p,q,r,?_,f,d,i⟩;unfold st3;rw [c,k];show Z6 (Z6 x p q 0) 0 0 r=_;rw [EY,Int.zero_add,Int.add_zero,Int.add_zero]
theorem WV (val:Cl->Int)(h:Yh M x)(n:M<=73000000000000){dx dy dz up:Int}(a: -4194304<=dx/\dx<=4194304)(l: -4194304<=dy/\dy<=4194304)(f: -4194304<=dz/\dz<=4194304)(hu:0<=up/\up<=65536):
  ∃p q r,(Bn val x dx dy dz up).1=Z6 x p q r/\Ba p dx/\(Ba q dy∨(0<=q/\q<=up))/\Ba r dz:=by
 unfold Bn AJ;split
 ·have t:Xj up 65536=up:=by unfold Xj;omega
  obtain ⟨q,t1,u,j,-⟩:=DW val h (by omega) (axis:=1) (d:=up) (by decide) (by omega) (by omega)
  have hq:0<=q/\q<=up:=by unfold Ba at j;omega
  have s1:Yh (M+4194304) (Z6 x 0 q 0):=I6 h (by omega) (by omega) (by omega)
  have c:(YV val x up).1=Z6 x 0 q 0:=by unfold YV;rw [t,u];rfl
  have m:rise val x up=q:=by
   unfold rise;rw [c];unfold Z6;dsimp only;omega
  obtain ⟨p,t2,y,b,-⟩:=DW val s1 (by omega) (axis:=0) (by decide) a.1 a.2
  have i:(oA val x dx up).1=Z6 x p q 0:=by
   unfold oA;rw [c,y];show Z6 (Z6 x 0 q 0) p 0 0=_;rw [EY,Int.zero_add,Int.add_zero,Int.add_zero]
  have s2:Yh (M+4194304) (Z6 x p q 0):=I6 h (b.bd a.1 a.2) (by omega) (by omega)
  obtain ⟨r,t3,v,g,-⟩:=DW val s2 (by omega) (axis:=2) (by decide) f.1 f.2
  have k:(oB val x dx dz up).1=Z6 x p q r:=by
   unfold oB;rw [i,v];show Z6 (Z6 x p q 0) 0 0 r=_;rw [EY,Int.zero_add,Int.add_zero,Int.add_zero]
  have s3:Yh (M+4194304) (Z6 x p q r):=I6 h (b.bd a.1 a.2) (by omega) (g.bd f.1 f.2)
  obtain ⟨s,t4,w,o,-⟩:=DW val s3 (by omega) (axis:=1) (d:= -q) (by decide) (by omega) (by omega)
  refine ⟨p,q+s,r,?_,b,.inr ?_,g⟩
  ·show (oC val x dx dz up).1=_;unfold oC;rw [k,m,w];show Z6 (Z6 x p q r) 0 s 0=_;rw [EY,Int.add_zero,Int.add_zero]
  ·unfold Ba at o;omega
 ·obtain ⟨p,q,r,e,j,b,g⟩:=jN val h n a l f;exact ⟨p,q,r,e,j,.inl b,g⟩
theorem Pa {n d:Int}(h1: -70000000000000<=n)(h2:n<=70000000000000)(h3: -4194304<=d)(h4:d<=4194304):Ad n d=d:=by
 unfold Ad Er Xj Xv Qs;rw [Xg (by omega) (by omega) (by omega) (by omega)]
 unfold Qe;omega
theorem Pb {h:Bool}{n K:Int}(h1: -K<=n/\n<=K): -K<=zb h n/\zb h n<=K:=by unfold zb;split<;>omega
theorem NJ (n:Int): -16384<=Bo n/\Bo n<=16384:=by
 unfold Bo Xj Xv;rw [iL (p:=Qe (min (max n (-65536)) 65536) * 16384) (by rw [Zm (n:=16384) (by decide) (by decide)])]
 unfold Qe;omega
theorem eS (c w s j:Bool){n:Int}(h: -262144<=n/\n<=262144): -262144<=ZO c w s j n/\ZO c w s j n<=262144:=by
 unfold ZO Xv;split
 ·split<;>omega
 ·split
  ·split<;>omega
  ·split<;>omega
theorem eT (val:Cl->Int){b:BD}(h:BOk M b)(hM0:0<=M)(hM:M<=70000000000000):
  ∃p q r,(ZU val b).1=Z6 (Qw b) p q r/\Li val b=(b.1+p,b.2.1+q,b.2.2.1+r,zb (ZU val b).2.1 b.2.2.2.1,zb (ZU val b).2.2.1 b.2.2.2.2.1,zb (ZU val b).2.2.2 b.2.2.2.2.2.1,b.2.2.2.2.2.2.1,b.2.2.2.2.2.2.2.1,Ep val (ZU val b).1)/\
   Ba p b.2.2.2.1/\(Ba q b.2.2.2.2.1∨(0<=q/\q<=32768))/\Ba r b.2.2.2.2.2.1:=by
 obtain ⟨t,-⟩:=h.box (by omega)
 obtain ⟨hx,hy,hz,m,sy,l,hw,hh⟩:=id h;have e:ZU val b=Bn val (Qw b) b.2.2.2.1 b.2.2.2.2.1 b.2.2.2.2.2.1 32768:=by
  unfold ZU;rw [Pa (by omega) (by omega) (by omega) (by omega),Pa (by omega) (by omega) (by omega) (by omega),Pa (by omega) (by omega) (by omega) (by omega)]
 obtain ⟨p,q,r,d,f,c,i⟩:=WV val t (by omega) (dx:=b.2.2.2.1) (dy:=b.2.2.2.2.1) (dz:=b.2.2.2.2.2.1) (up:=32768) (by omega) (by omega) (by omega) (by omega)
 rw [<-e] at d;have k:=f.bd m.1 m.2;have g:=i.bd l.1 l.2;have j: -262144<=q/\q<=262144:=by
  rcases c with c|c
  ·exact c.bd sy.1 sy.2
  ·omega
 have s:=t;obtain ⟨a1,c1,d1,a2,c2,d2,-,-,-,-,-,-⟩:=s;refine ⟨p,q,r,d,?_,f,c,i⟩;unfold Li WU;rw [d];unfold Z6;dsimp only;have key:∀{a o n:Int},-70000000000000<=a->a<=70000000000000->-71000000000000<=o->o<=71000000000000->-262144<=n->n<=262144->Q9 a (Qs (o+n) o)=a+n:=λ{a o n} g1 g2 g3 g4 g5 g6=>by
  have:Qs (o+n) o=n:=by unfold Qs Qe;omega
  rw [this,Xg (by omega) (by omega) (by omega) (by omega)]
 rw [key (by omega) (by omega) (by omega) (by omega) k.1 k.2,key (by omega) (by omega) (by omega) (by omega) j.1 j.2,key (by omega) (by omega) (by omega) (by omega) g.1 g.2]
theorem BOk.walk {b:BD}(h:BOk M b)(a c:Int):BOk M (UX b a c):=by
 obtain ⟨f,e,g,sx,sy,sz,d,hh⟩:=h;have w1:=NJ a;have w2:=NJ c;exact ⟨f,e,g,by dsimp only [UX];omega,sy,by dsimp only [UX];omega,d,hh⟩
theorem BOk.rise {b:BD}(h:BOk M b)(val:Cl->Int)(j:Bool):BOk M (DV val b j):=by
 obtain ⟨f,d,g,e,sy,c,a,hh⟩:=h;exact ⟨f,d,g,e,eS _ _ _ _ sy,c,a,hh⟩
theorem BOk.mono {M':Int}{b:BD}(h:BOk M b)(hm:M<=M'):BOk M' b:=by
 obtain ⟨hx,hy,hz,d,sy,c,a,hh⟩:=h;exact ⟨by omega,by omega,by omega,d,sy,c,a,hh⟩
theorem BOk.go {b:BD}(h:BOk M b)(d:0<=M)(j:M<=70000000000000)(val:Cl->Int):BOk (M+262144) (Li val b):=by
 obtain ⟨p,q,r,-,e,i,a,k⟩:=eT val h d j;obtain ⟨hx,hy,hz,f,sy,c,g,hh⟩:=h;have p1:=i.bd f.1 f.2;have r1:=k.bd c.1 c.2;have q1: -262144<=q/\q<=262144:=by
  rcases a with a|a
  ·exact a.bd sy.1 sy.2
  ·omega
 rw [e];exact ⟨by dsimp only;omega,by dsimp only;omega,by dsimp only;omega,Pb f,Pb sy,Pb c,g,hh⟩
theorem BOk.step {b:BD}(h:BOk M b)(a:0<=M)(e:M<=70000000000000)(val:Cl->Int)(c d:Int)(j:Bool):BOk (M+262144) (Ft val b c d j):=((h.walk c d).rise val j).go a e val
end
end
section
open Go.RowKit
attribute [local go_sem] Oper.semAt_some
section
variable {w:World}{g:Nat}{t:TypeId}{a b c d e f k l m:Value}
theorem Q0.c9 (h:Q0 w g t #[a,b,c,d,e,f,k,l,m]):(w.cell? ⟨g,0,none⟩=some a/\w.cell? ⟨g,1,none⟩=some b/\w.cell? ⟨g,2,none⟩=some c/\w.cell? ⟨g,3,none⟩=some d/\w.cell? ⟨g,4,none⟩=some e/\w.cell? ⟨g,5,none⟩=some f/\w.cell? ⟨g,6,none⟩=some k/\w.cell? ⟨g,7,none⟩=some l/\w.cell? ⟨g,8,none⟩=some m)/\
  w.frozen? ⟨g,0,none⟩=false/\w.frozen? ⟨g,1,none⟩=false/\w.frozen? ⟨g,2,none⟩=false/\w.frozen? ⟨g,3,none⟩=false/\w.frozen? ⟨g,4,none⟩=false/\w.frozen? ⟨g,5,none⟩=false/\w.frozen? ⟨g,6,none⟩=false/\w.frozen? ⟨g,7,none⟩=false/\w.frozen? ⟨g,8,none⟩=false:=
 ⟨⟨h.cell 0,h.cell 1,h.cell 2,h.cell 3,h.cell 4,h.cell 5,h.cell 6,h.cell 7,h.cell 8⟩,h.frz 0,h.frz 1,h.frz 2,h.frz 3,h.frz 4,h.frz 5,h.frz 6,h.frz 7,h.frz 8⟩
theorem Q0.st9 {A b' r q p o n j i:Value}(h:Q0 w g t #[A,b',r,q,p,o,n,j,i])(a b c d e f k l m:Value):Q0 (((((((((w.setCell ⟨g,0,none⟩ a).setCell ⟨g,1,none⟩ b).setCell ⟨g,2,none⟩ c).setCell ⟨g,3,none⟩ d).setCell ⟨g,4,none⟩ e).setCell ⟨g,5,none⟩ f).setCell ⟨g,6,none⟩ k).setCell ⟨g,7,none⟩ l).setCell ⟨g,8,none⟩ m) g t #[a,b,c,d,e,f,k,l,m]:=by
 have v:Q0 _ g t #[a,b',r,q,p,o,n,j,i]:=h.set_ 0 a;have B:Q0 _ g t #[a,b,r,q,p,o,n,j,i]:=v.set_ 1 b;have u:Q0 _ g t #[a,b,c,q,p,o,n,j,i]:=B.set_ 2 c;have x:Q0 _ g t #[a,b,c,d,p,o,n,j,i]:=u.set_ 3 d;have z:Q0 _ g t #[a,b,c,d,e,o,n,j,i]:=x.set_ 4 e;have D:Q0 _ g t #[a,b,c,d,e,f,n,j,i]:=z.set_ 5 f;have y:Q0 _ g t #[a,b,c,d,e,f,k,j,i]:=D.set_ 6 k;have C:Q0 _ g t #[a,b,c,d,e,f,k,l,i]:=y.set_ 7 l;have s:Q0 _ g t #[a,b,c,d,e,f,k,l,m]:=C.set_ 8 m;exact s
theorem By {N:Nat}(V:Q0 w g t cs)(h:g≠N)(a b c d e f k l m:Value):Q0 (((((((((w.setCell ⟨N,0,none⟩ a).setCell ⟨N,1,none⟩ b).setCell ⟨N,2,none⟩ c).setCell ⟨N,3,none⟩ d).setCell ⟨N,4,none⟩ e).setCell ⟨N,5,none⟩ f).setCell ⟨N,6,none⟩ k).setCell ⟨N,7,none⟩ l).setCell ⟨N,8,none⟩ m) g t cs:=
 ((((((((V.far (p:=⟨N,0,none⟩) h _).far (p:=⟨N,1,none⟩) h _).far (p:=⟨N,2,none⟩) h _).far (p:=⟨N,3,none⟩) h _).far (p:=⟨N,4,none⟩) h _).far (p:=⟨N,5,none⟩) h _).far (p:=⟨N,6,none⟩) h _).far (p:=⟨N,7,none⟩) h _).far (p:=⟨N,8,none⟩) h _
theorem Z0 {N:Nat}(H:Below n w0 w)(h:n<=N)(a b c d e f k l m:Value):Below n w0 (((((((((w.setCell ⟨N,0,none⟩ a).setCell ⟨N,1,none⟩ b).setCell ⟨N,2,none⟩ c).setCell ⟨N,3,none⟩ d).setCell ⟨N,4,none⟩ e).setCell ⟨N,5,none⟩ f).setCell ⟨N,6,none⟩ k).setCell ⟨N,7,none⟩ l).setCell ⟨N,8,none⟩ m):=
 ((((((((H.setCell (p:=⟨N,0,none⟩) h _).setCell (p:=⟨N,1,none⟩) h _).setCell (p:=⟨N,2,none⟩) h _).setCell (p:=⟨N,3,none⟩) h _).setCell (p:=⟨N,4,none⟩) h _).setCell (p:=⟨N,5,none⟩) h _).setCell (p:=⟨N,6,none⟩) h _).setCell (p:=⟨N,7,none⟩) h _).setCell (p:=⟨N,8,none⟩) h _
end
theorem Sd (x y z m:Int)(b:0<=m/\m<=70368744177664)(w:World):Calls prog 180 #[.agg #[x,y,z],int i64 m] w λr w'=>r=.returned (.bool (FU x y z m))/\Below w.heap.size w w':=by
 have hmn:=@eQ prog;have hmx:=@eR prog;have q: -9223372036854775808<=-m/\-m<=9223372036854775807:=by omega
 obtain ⟨q1,q2⟩:=q;clear b;unfold FU;by_cases c: -m<=NG x y z
 ·by_cases a:NH x y z<=m
  ·go_enter func180,ntmps180;go_wp2_with fail;go_returns;exact ⟨by simp [c,a],by (repeat' (first|(with_reducible exact pI _ _)|(with_reducible assumption)|(with_reducible refine Below.alloc ?_ ?_ _)|(with_reducible refine Below.drew ?_)|(with_reducible refine Below.setCell ?_ ?_ _)|(with_reducible refine after ?_ (pK _ _ _))|(refine after ?_ (by with_reducible assumption))|go_size))⟩
  ·go_enter func180,ntmps180;go_wp2_with fail;go_returns;exact ⟨by simp [a],by (repeat' (first|(with_reducible exact pI _ _)|(with_reducible assumption)|(with_reducible refine Below.alloc ?_ ?_ _)|(with_reducible refine Below.drew ?_)|(with_reducible refine Below.setCell ?_ ?_ _)|(with_reducible refine after ?_ (pK _ _ _))|(refine after ?_ (by with_reducible assumption))|go_size))⟩
 ·go_enter func180,ntmps180;go_wp2_with fail;go_returns;exact ⟨by simp;omega,by (repeat' (first|(with_reducible exact pI _ _)|(with_reducible assumption)|(with_reducible refine Below.alloc ?_ ?_ _)|(with_reducible refine Below.drew ?_)|(with_reducible refine Below.setCell ?_ ?_ _)|(with_reducible refine after ?_ (pK _ _ _))|(refine after ?_ (by with_reducible assumption))|go_size))⟩
theorem I7 (b:BD)(c:b.2.2.2.2.2.2.1<=9223372036854775807)(w:World):Calls prog 139 #[.agg (Z5 b)] w λr w'=>r=.returned (.agg (AX (Qw b)))/\Below w.heap.size w w':=by
 obtain ⟨x,y,z,m,sy,k,wd,ht,st⟩:=b;dsimp only at c;have n:=pp (λW=>dW x y z wd ht c W)
 clear c;simp only [Qw,Lh,AX,Z5];obtain ⟨W,a⟩:=pt ((w.alloc (.cells #[int i64 x,int i64 y,int i64 z,int i64 m,int i64 sy,int i64 k,int i64 wd,int i64 ht,.bool st] 40)).alloc (.cells #[int i64 0,int i64 0,int i64 0,int i64 0,int i64 0,int i64 0] 210));have H:pM w W:=by rw [a];go_grown
 have p:Q0 W (w.heap.size+1) 210 _:=Q0.eqw a.symm (Q0.new' (by simp))
 have i:Q0 W w.heap.size 40 _:=Q0.eqw a.symm ((Q0.new' rfl).alloc _);go_enter func139,ntmps139;go_upto_region 1 with fail
 rw [<-a];clear a;obtain ⟨⟨b0,b1,b2,b3,b4,b5,b6,b7,b8⟩,-⟩:=i.c9;go_wp2_with (go_at_call 184;refine (n.o _).mono ?_;rintro e_ w1 ⟨rfl,g⟩;have R:=p.on g;obtain ⟨⟨r0,r1,r2,r3,r4,r5⟩,s0,s1,s2,s3,s4,s5⟩:=R.c6);have f:=R.st6 (int i64 (Qs x (max wd 0 / 2))) (int i64 (Qe y)) (int i64 (Qs z (max wd 0 / 2))) (int i64 (Q9 x (max wd 0 / 2))) (int i64 (Q9 y (max ht 0))) (int i64 (Q9 z (max wd 0 / 2)));obtain ⟨⟨j,h,d,e,q,l⟩,-,-,-,-,-,-⟩:=f.c6;exact bodyPost_ret (v:=.agg #[int i64 (Qs x (max wd 0 / 2)),int i64 (Qe y),int i64 (Qs z (max wd 0 / 2)),int i64 (Q9 x (max wd 0 / 2)),int i64 (Q9 y (max ht 0)),int i64 (Q9 z (max wd 0 / 2))]) (by simp [results,results139,go_sem,j,h,d,e,q,l]) rfl ⟨rfl,by (repeat' (first|(with_reducible exact pI _ _)|(with_reducible assumption)|(with_reducible refine Below.alloc ?_ ?_ _)|(with_reducible refine Below.drew ?_)|(with_reducible refine Below.setCell ?_ ?_ _)|(with_reducible refine after ?_ (pK _ _ _))|(refine after ?_ (by with_reducible assumption))|go_size))⟩
theorem Se (b:BD)(w:World):Calls prog 135 #[.agg (Z5 b)] w λr w'=>r=.returned (.bool (EW b))/\Below w.heap.size w w':=by
 obtain ⟨x,y,z,j,sy,h,wd,ht,st⟩:=b;have i:=λW=>Sd x y z 70368744177664 ⟨by decide,by decide⟩ W
 have g:=λW=>Sd j sy h 262144 ⟨by decide,by decide⟩ W
 unfold EW;dsimp only;generalize FU x y z 70368744177664=p1 at i ⊢;generalize FU j sy h 262144=p2 at g ⊢;have c:=pp i;have d:=pp g;clear i g;obtain ⟨W,a⟩:=pt (w.alloc (.cells #[int i64 x,int i64 y,int i64 z,int i64 j,int i64 sy,int i64 h,int i64 wd,int i64 ht,.bool st] 40));have H:pM w W:=by rw [a];go_grown
 have n:Q0 W w.heap.size 40 _:=Q0.eqw a.symm (Q0.new' rfl);simp only [Z5];obtain ⟨⟨B,t,E,A,D,u,v,C,G⟩,-⟩:=n.c9;by_cases m:2<=wd
 ·by_cases k:wd<=131072
  ·by_cases p:1<=ht
   ·by_cases l:ht<=262144
    ·have e:(decide (2<=wd)&&decide (wd<=131072)&&decide (1<=ht)&&decide (ht<=262144)&&p1&&p2)=(p1&&p2):=by simp [m,k,p,l]
     rw [e];cases p1
     ·go_enter func135,ntmps135;go_upto_region 1 with fail
      rw [<-a];clear a;go_wp2_with (go_at_call 180;refine (c.o _).mono ?_;rintro q s ⟨rfl,f⟩);go_returns;exact ⟨by simp,after H f⟩
     ·go_enter func135,ntmps135;go_upto_region 1 with fail
      rw [<-a];clear a;go_wp2_with (go_at_call 180;first|(refine (c.o _).mono ?_;rintro q s ⟨rfl,f⟩;clear c;obtain ⟨⟨B,t,E,A,D,u,v,C,G⟩,-⟩:=(n.on f).c9)|(refine (d.o _).mono ?_;rintro q w2 ⟨rfl,F⟩))
      go_returns;exact ⟨by simp,after (after H f) F⟩
    ·have e:(decide (2<=wd)&&decide (wd<=131072)&&decide (1<=ht)&&decide (ht<=262144)&&p1&&p2)=false:=by simp [l]
     rw [e];go_enter func135,ntmps135;go_upto_region 1 with fail
     rw [<-a];clear a c d;go_wp2_with fail;go_returns;exact ⟨by simp,H⟩
   ·have e:(decide (2<=wd)&&decide (wd<=131072)&&decide (1<=ht)&&decide (ht<=262144)&&p1&&p2)=false:=by simp [p]
    rw [e];go_enter func135,ntmps135;go_upto_region 1 with fail
    rw [<-a];clear a c d;go_wp2_with fail;go_returns;exact ⟨by simp,H⟩
  ·have e:(decide (2<=wd)&&decide (wd<=131072)&&decide (1<=ht)&&decide (ht<=262144)&&p1&&p2)=false:=by simp [k]
   rw [e];go_enter func135,ntmps135;go_upto_region 1 with fail
   rw [<-a];clear a c d;go_wp2_with fail;go_returns;exact ⟨by simp,H⟩
 ·have e:(decide (2<=wd)&&decide (wd<=131072)&&decide (1<=ht)&&decide (ht<=262144)&&p1&&p2)=false:=by simp [m]
  rw [e];go_enter func135,ntmps135;go_upto_region 1 with fail
  rw [<-a];clear a c d;go_wp2_with fail;go_returns;exact ⟨by simp,H⟩
end
section
open Go.ChangeShapes Go.WideShapes Go.ChangeAt Go.RowKit
def JC {α:Type}(K:Nat)(enc:α->List Value)(w:World)(q:Option Addr)(n:Nat)(F:Nat->α):Prop:=0<n->∃g o,q=some ⟨g,o,none⟩/\∀i,i<n->∀j u,(enc (F i))[j]?=some u->w.cell? ⟨g,o+i * K+j,none⟩=some u
theorem JC.on {α:Type}{K:Nat}{enc:α->List Value}{w w':World}{q:Option Addr}{F:Nat->α}(h:JC K enc w q n F)(d:Below w.heap.size w w'):JC K enc w' q n F:=λf=>by
 obtain ⟨g,o,e,c⟩:=h f;exact ⟨g,o,e,λi b j u a=>by rw [Yt d (QN (c i b j u a))];exact c i b j u a⟩
section
variable {H:Type}{enc:TypeId×Value->H}{P:Program}
theorem WW {α:Type}[Inhabited α]{K:Nat}(A:α->List Value)(ok:α->Prop){w:World}{r:Reach}{ts t:TypeId}{d:DataW H}{p:List MemPlace}(E:P.underlying ts=some (.slice t))(V:P.cellsOf t=K)
  (s:∀a,(A a).length=K) (X:∃k,K=k+1/\∀w (a:Addr) x,World.cell? w a=(A x)[0]?->a.spot=none)
  (N:∀y cs x,cs.length=K->DataW.trod enc P w base spare held y t cs=some x->∃a,cs=A a/\ok a)
  (hv:Value.okWide P w r b0 ts v) (h:DataW.Trod enc P w base spare held ts v d p):
  ∃q n cap F,v=.slice q n cap/\n<=cap/\cap<=maxLen/\JC K A w q n F/\∀i,i<n->ok (F i):=by
 obtain ⟨a1,b,C,rfl⟩:=okWide_slice E hv;obtain ⟨y,h⟩:=h;rcases Go.Deep.open_slice E h with ⟨c,_⟩|⟨a,len,cap,m,k,D,Pl,c,_,T,U,I,_,B⟩
 ·simp [Value.cells] at c;obtain ⟨rfl,rfl,rfl⟩:=c;exact ⟨_,_,_,λ_=>default,rfl,pA _,by decide,λh=>by omega,λi l=>by omega⟩
 ·simp [Value.cells] at c;obtain ⟨rfl,rfl,rfl⟩:=c;by_cases hn:b=0
  ·subst hn;exact ⟨_,_,_,λ_=>default,rfl,T,U,λh=>by omega,λi l=>by omega⟩
  have hlm:b<=m:=by rw [I];split<;>omega
  obtain ⟨g,o,G⟩:=a;rw [V] at B;have f:∀i,i<b->∃x,ok x/\∀j u,(A x)[j]?=some u->w.cell? ((Addr.mk g o G).add (i * K+j))=some u:=by
   intro i hi';obtain ⟨cs',hc,M⟩:=B i (by omega)
   obtain ⟨_,Q,J⟩:=World.cells?_some hc;obtain ⟨x,e,hx⟩:=N _ _ _ Q M;refine ⟨x,hx,λj u z=>?_⟩
   have hj:j<K:=by
    have:=(List.getElem?_eq_some_iff.1 z).1;rw [s] at this;exact this
   have S:=J j hj;rw [Go.Deep.add_add] at S;rw [S,e];exact z
  obtain ⟨F,L⟩:∃F:Nat->α,∀i,i<b->ok (F i)/\∀j u,(A (F i))[j]?=some u->w.cell? ((Addr.mk g o G).add (i * K+j))=some u:=by
   refine ⟨λi=>if h:i<b then Classical.choose (f i h) else default,λi l=>?_⟩
   have e:(if h:i<b then Classical.choose (f i h) else default)=Classical.choose (f i l):=dif_pos l;dsimp only;rw [e];exact Classical.choose_spec (f i l)
  have O:G=none:=by
   obtain ⟨k',hk',Z⟩:=X;obtain ⟨u,z⟩:∃u,(A (F 0))[0]?=some u:=⟨_,pH (by rw [s];omega)⟩
   have:=(L 0 (by omega)).2 0 u z
   have Y:=Z w _ (F 0) (this.trans z.symm);simpa [Addr.add] using Y
  subst O;have R:∀k,(Addr.mk g o none).add k=⟨g,o+k,none⟩:=λk=>by
   unfold Addr.add;by_cases W:k=0<;>simp [W]
  refine ⟨_,b,C,F,rfl,T,U,λ_=>⟨g,o,rfl,λi l j u z=>?_⟩,λi l=>(L i l).1⟩
  have:=(L i l).2 j u z
  rwa [R,<-Nat.add_assoc] at this
def Lj (P:Program)(f0 f1 f2 f3 f4:Field)(tv ti tb:TypeId):Bool:=
 ((f0.offset==0&&f1.offset==3)&&(f2.offset==6&&(f3.offset==7&&f4.offset==8)))&&(((f0.type==tv&&f1.type==tv)&&(f2.type==ti&&(f3.type==ti&&f4.type==tb)))&&(P.cellsOf tv==3&&(P.cellsOf ti==1&&P.cellsOf tb==1)))
def ox (b:BD):Prop:=Qg b.1/\Qg b.2.1/\Qg b.2.2.1/\Qg b.2.2.2.1/\Qg b.2.2.2.2.1/\Qg b.2.2.2.2.2.1/\Qg b.2.2.2.2.2.2.1/\Qg b.2.2.2.2.2.2.2.1
theorem trod_bd {w:World}{i:Nat}{t z u tb:TypeId}{q r g2 v k:Field}{cs:List Value}{x:DataW H×List MemPlace}(O:P.underlying t=some (.struct #[q,r,g2,v,k]))
  (M:P.underlying z=some (.struct #[f0,f1,f2])) (I:Lj P q r g2 v k z u tb=true) (L:Cr P f0 f1 f2 u=true) (j:P.underlying u=some (.int .i64)) (o:P.underlying tb=some .bool) (U:cs.length=9) (h:DataW.trod enc P w base spare held i t cs=some x):
  ∃b:BD,cs=(Z5 b).toList/\ox b:=by
 simp only [Lj,Bool.and_eq_true,beq_iff_eq] at I;obtain ⟨⟨⟨o0,o1⟩,o2,T,o4⟩,⟨⟨t0,S⟩,X,t3,t4⟩,K,c2,c3⟩:=I;obtain ⟨xs,n,_,_,_,p,g⟩:=DataW.trod_struct O h
 match cs,U with
 | [v0,v1,v2,v3,v4,v5,v6,v7,v8],_=>
  match xs,p with
  | [y0,y1,y2,R,y4],_=>
   have J:=g 0 q rfl;have G:=g 1 r rfl;have C:=g 2 g2 rfl;have A:=g 3 v rfl;have F:=g 4 k rfl;rw [o0,t0,K] at J;rw [o1,S,K] at G;rw [o2,X,c2] at C;rw [T,t3,c2] at A;rw [o4,t4,c3] at F;obtain ⟨a,b,c,y,wa,Q,wc⟩:=Gg (x:=y0) M L j rfl J;obtain ⟨d,e,f,D,wd,V,W⟩:=Gg (x:=y1) M L j rfl G;obtain ⟨m,B,_,Z⟩:=DataW.trod_int (x:=y2) j C;obtain ⟨l,N,_,Y⟩:=DataW.trod_int (x:=R) j A;obtain ⟨s,E,_⟩:=DataW.trod_bool (x:=y4) o F;simp at y D B N E;obtain ⟨rfl,rfl,rfl⟩:=y;obtain ⟨rfl,rfl,rfl⟩:=D;subst B N E;exact ⟨(a,b,c,d,e,f,m,l,s),rfl,wa,Q,wc,wd,V,W,Ys Z,Ys Y⟩
abbrev nK:=Int×Int×Bool
def oy (a:nK):List Value:=[int i64 a.1,int i64 a.2.1,.bool a.2.2]
def VO (b:BD):List Value:=(Z5 b).toList
def GA (P:Program)(f0 f1 f2:Field)(ti tb:TypeId):Bool:=
 (f0.offset==0&&(f1.offset==1&&f2.offset==2))&&((f0.type==ti&&(f1.type==ti&&f2.type==tb))&&(P.cellsOf ti==1&&P.cellsOf tb==1))
theorem eU {w:World}{e:Nat}{t q tb:TypeId}{cs:List Value}{x:DataW H×List MemPlace}(A:P.underlying t=some (.struct #[f0,f1,f2]))
  (m:GA P f0 f1 f2 q tb=true) (p:P.underlying q=some (.int .i64)) (g:P.underlying tb=some .bool) (z:cs.length=3) (h:DataW.trod enc P w base spare held e t cs=some x):
  ∃a:nK,cs=oy a/\Qg a.1/\Qg a.2.1:=by
 simp only [GA,Bool.and_eq_true,beq_iff_eq] at m;obtain ⟨⟨B,v,o2⟩,⟨t0,y,s⟩,l,c2⟩:=m;obtain ⟨xs,n,_,_,_,f,i⟩:=DataW.trod_struct A h
 match cs,z with
 | [v0,v1,v2],_=>
  match xs,f with
  | [y0,y1,C],_=>
   have k:=i 0 f0 rfl;have o:=i 1 f1 rfl;have g2:=i 2 f2 rfl;rw [B,t0,l] at k;rw [v,y,l] at o;rw [o2,s,c2] at g2;obtain ⟨a,r,_,wa⟩:=DataW.trod_int (x:=y0) p k;obtain ⟨b,j,_,u⟩:=DataW.trod_int (x:=y1) p o;obtain ⟨c,d,_⟩:=DataW.trod_bool (x:=C) g g2;simp at r j d;subst r j d;exact ⟨(a,b,c),rfl,Ys wa,Ys u⟩
theorem WX {w:World}{a:Addr}{k:IntKind}{n:Int}(h:World.cell? w a=some (.int k n)):a.spot=none:=PJ h
end
end
section
open Go.RowKit
def jO (w:World)(g:Nat)(t:TypeId)(l:List BD):Prop:=∃cur:Array Value,Q0 w g t cur/\∀(i:Nat) (b:BD),l[i]?=some b->∀(j:Nat) (u:Value),(VO b)[j]?=some u->cur[i * 9+j]?=some u
section
variable {w w':World}{g:Nat}{t:TypeId}{l:List BD}{i:Nat}{b:BD}
end
def IT (w:World)(n:Nat)(t:TypeId)(v:Value)(l:List BD):Prop:=∃q cap,v=.slice q l.length cap/\l.length<=cap/\cap<=maxLen/\(0<l.length->∃g,q=some ⟨g,0,none⟩/\n<=g/\jO w g t l)
theorem IT.of {w:World}{t:TypeId}{l:List BD}(h:Q5 w n t 9 VO v l):IT w n t v l:=by
 obtain ⟨q,cap,d,r,e,-,-,-⟩:=Q5.form (size:=9) (enc:=VO) (λ_=>rfl) h
 refine ⟨q,cap,d,r,e,λhn=>?_⟩
 rcases h.2 with ⟨-,h0⟩|⟨g,cap',cur,a,f,k,hc,hm,hs,ht⟩
 ·omega
 ·rw [d] at a;injection a with e1 e2 e3
  refine ⟨g,e1,f,cur,k,λi b o j u m=>?_⟩
  have c:=D7 (size:=9) (enc:=VO) (λ_=>rfl) l i b o j u m
  rw [<-ht] at c;have p:=(List.getElem?_eq_some_iff.1 c).1;rw [List.length_take] at p;rw [List.getElem?_take_of_lt (by omega)] at c
  simpa using c
end
section
open Go.RowKit
attribute [local go_sem] Oper.semAt_some
theorem cM:(prog.info? 40).map (λi=>(i.zero,i.size,i.bytes))=some (some (.agg #[int i64 0,int i64 0,int i64 0,int i64 0,int i64 0,int i64 0,int i64 0,int i64 0,.bool false]),9,72):=by kernel_rfl
theorem jP (b:BD):∀u∈VO b,u.oneCell'=true:=by
 obtain ⟨x,y,z,sx,sy,sz,wd,ht,st⟩:=b;simp [VO,Value.oneCell']
theorem Pc {w:World}{t:TypeId} :Q5 (w.alloc (.cells #[] t)) w.heap.size t 9 VO (.slice (some ⟨w.heap.size,0,none⟩) 0 0) []:=by
 refine ⟨by simp,.inr ⟨w.heap.size,0,#[],rfl,pA _,Q0.new' rfl,by simp,by decide,by simp,by simp⟩⟩
theorem mB {w:World}{q:Option Addr}{l:List BD}(h:Rd w q 9 VO l)(b:q=none)(hl:l.length=n):n=0/\l=[]:=by
 have a:¬0<l.length:=λa=>by
  obtain ⟨g,o,e,-⟩:=h a;rw [b] at e;cases e
 have c:l.length=0:=by omega
 exact ⟨by omega,List.length_eq_zero_iff.1 c⟩
theorem WY (q:Option Addr)(n c:Nat)(l:List BD)(j:l.length=n)(s:n<=c)(t:n<=1000000)(w:World)(h:Rd w q 9 VO l):
  Calls prog 199 #[.slice q n c] w λr w'=>∃v,r=.returned v/\Q5 w' w.heap.size 40 9 VO v l/\Below w.heap.size w w':=by
 have hnl:∀(w:World) (a:Option Addr) (n c g i:Nat),(binOp .eql 218 (.slice a n c) (.slice none g i)).run prog w=.ok (.bool a.isNone) w:=λw a n c g i=>Lib.run_eql_slice_nil w _ _ a n c g i underlying218
 cases hq:q with
 | none=>
  obtain ⟨rfl,rfl⟩:=mB h hq j;subst hq;go_enter func199,ntmps199;go_wp2_with fail;go_returns;exact ⟨_,rfl,Q5.nil,pI _ _⟩
 | some a=>
  rw [hq] at h;have f:Below w.heap.size w (w.alloc (.cells #[] 40)):=(pI _ _).alloc (pA _) _;obtain ⟨v1,w5,d,k,e⟩:=Gc (P:=prog) (ts:=218) (ty:=218) (enc:=VO) (w:=w.alloc (.cells #[] 40)) (base:=w.heap.size) (xs:=([]:List BD)) (ys:=l) (q:=some a) (m:=n) (c:=c) (v:=.slice (some ⟨w.heap.size,0,none⟩) 0 0) underlying218 cM rfl (by decide) (by decide) (λ_=>rfl) (λb _=>jP b) Pc j s (h.on f) (by simp;omega) f.size
  rw [List.nil_append] at k;have p:=pp (py k (f.trans e));clear k e f h j s t hq;go_enter func199,ntmps199;go_wp2_with (at_builtin;refine Lib.wpList_append_run _ rfl _ _ _ _ rfl _ _ rfl rfl _ _ d ?_);go_returns;exact ⟨_,rfl,p.o.1,p.o.2⟩
theorem eW (n:Int)(w:World):Calls prog 316 #[n] w λr w'=>r=.returned (int i64 (Er n))/\Below w.heap.size w w':=by
 have hmn:=@YY prog;have hmx:=@ZC prog;go_enter func316,ntmps316;go_wp2_with fail;go_returns;exact ⟨rfl,pI _ _⟩
theorem jQ (b:BD)(dx dy dz:Int)(w:World):Calls prog 269 #[.agg (Z5 b),.agg #[dx,dy,dz]] w λr w'=>r=.returned (.agg #[int i64 (Ad b.1 dx),int i64 (Ad b.2.1 dy),int i64 (Ad b.2.2.1 dz)])/\Below w.heap.size w w':=by
 obtain ⟨x,y,z,M,sy,K,wd,ht,st⟩:=b;unfold Ad;simp only [Z5];have i:=pp (λW=>Bi x y z dx dy dz W)
 have k:=pp (λW=>Fk (Er (Q9 x dx)) (Er (Q9 y dy)) (Er (Q9 z dz)) x y z W)
 generalize Q9 x dx=a1 at i k ⊢;generalize Q9 y dy=a2 at i k ⊢;generalize Q9 z dz=a3 at i k ⊢;obtain ⟨N,c⟩:=pt w.heap.size;obtain ⟨W,a⟩:=pt (((w.alloc (.cells #[int i64 x,int i64 y,int i64 z,int i64 M,int i64 sy,int i64 K,int i64 wd,int i64 ht,.bool st] 40)).alloc (.cells #[dx,dy,dz] 38)).alloc (.cells #[int i64 0,int i64 0,int i64 0] 38));have H:Below w.heap.size w W:=by rw [a];go_grown
 have B:Q0 W N 40 _:=Q0.eqw a.symm (by rw [c];exact ((Q0.new' rfl).alloc _).alloc _)
 have D:Q0 W (N+1) 38 _:=Q0.eqw a.symm (by rw [c];exact (Q0.new' (by simp)).alloc _)
 have R:Q0 W (N+1+1) 38 _:=Q0.eqw a.symm (by rw [c];exact Q0.new' (by simp))
 go_enter func269,ntmps269;go_upto_region 1 with fail
 rw [<-a,<-c];have L:=pp c;clear a c;have h:=B.cell 0;have f:=B.cell 1;have j:=B.cell 2;simp at h f j;obtain ⟨t,s,p,-,-,-⟩:=D.c3;go_upto_region 2 with (go_at_call 195;refine (i.o _).mono ?_;rintro e_ e ⟨rfl,A⟩)
 generalize u:World.alloc e _=W1;have T:Q0 W1 e.heap.size 38 #[int i64 a1,int i64 a2,int i64 a3]:=Q0.eqw u (Q0.new' rfl);have E:Below e.heap.size e W1:=by rw [<-u];exact (pI _ _).alloc (pA _) _
 have l:=after A E;have q:=pp (B.on l);have J:=pp (R.on l);have O:=pp (after H l);have m:=pp T;generalize e.heap.size=g at m ⊢;clear u E A l B D R H h f j t s p T i;have h:=λd os=>(q.o.re d os).cell 0
 have f:=λd os=>(q.o.re d os).cell 1
 have j:=λd os=>(q.o.re d os).cell 2
 simp at h f j;have t0:=λd os=>(m.o.re d os).cell 0
 have G:=λd os=>(m.o.re d os).cell 1
 have C:=λd os=>(m.o.re d os).cell 2
 simp at t0 G C;go_upto_region 3 with fail
 refine Qo 16 (by kernel_rfl) rfl (by kernel_rfl) ?_
 simp only [List.take_succ_cons,List.take_zero,List.drop_succ_cons,List.drop_zero];repeat (go_big_quiet_step (first|(with_reducible exact Calls.regrown_of (eW _ _))|(with_reducible exact Calls.regrown_of (k.o _))))
 refine wpQuiet_nil ?_;intro w' n;obtain ⟨F,rfl⟩:=n;clear h f j t0 G C;have R:=J.o.re F.d F.os;obtain ⟨r0,r1,r2,s0,s1,s2⟩:=R.c3;have H:=O.o;have hNw:w.heap.size<=N+1+1:=by have:=L.o;omega
 go_wp2_with fail;have I:=R.st3 (int i64 (Qs (Er a1) x)) (int i64 (Qs (Er a2) y)) (int i64 (Qs (Er a3) z));obtain ⟨t,s,p,-,-,-⟩:=I.c3;exact bodyPost_ret (v:=.agg #[int i64 (Qs (Er a1) x),int i64 (Qs (Er a2) y),int i64 (Qs (Er a3) z)]) (by simp [results,results269,go_sem,t,s,p]) rfl ⟨rfl,by (repeat' (first|(with_reducible exact pI _ _)|(with_reducible assumption)|(with_reducible refine Below.alloc ?_ ?_ _)|(with_reducible refine Below.drew ?_)|(with_reducible refine Below.setCell ?_ ?_ _)|(with_reducible refine after ?_ (pK _ _ _))|(refine after ?_ (by with_reducible assumption))|go_size))⟩
theorem Lk (n:Int)(w:World):Calls prog 263 #[n] w λr w'=>r=.returned (int i64 (Bo n))/\Below w.heap.size w w':=by
 have hmn:=@YY prog;have hmx:=@ZC prog;unfold Bo;go_enter func263,ntmps263;go_wp2_with (go_at_call 264;refine (iR _ _ _).mono ?_;rintro e_ w1 ⟨rfl,a⟩);go_returns;exact ⟨rfl,a⟩
def EZ (N:Nat)(t:TypeId)(x y z sy wd ht a c:Int)(st:Bool):UP:=λS _ w=>∃p q:Int,Q0 w N t #[x,y,z,int i64 p,sy,int i64 q,wd,ht,.bool st]/\(S 10->p=a)/\(S 13->q=c)
section
variable {N:Nat}{t:TypeId}{x y z sy wd ht a c:Int}{st:Bool}{S:Nat->Prop}{V:Nat->Value}{w w':World}
theorem WZ {p q:Int}(h:Q0 w N t #[x,y,z,p,sy,q,wd,ht,.bool st]):EZ N t x y z sy wd ht a c st (λ_=>False) V w:=⟨p,q,h,λh=>h.elim,λh=>h.elim⟩
theorem EZ.below (h:EZ N t x y z sy wd ht a c st S V w)(k:pM w w'):EZ N t x y z sy wd ht a c st S V w':=by
 obtain ⟨p,q,b,d⟩:=h;exact ⟨p,q,b.on k,d⟩
theorem EZ.one {p q:Int}(h:Q0 w N t #[x,y,z,p,sy,q,wd,ht,.bool st])(b:S 13->q=c):
  EZ N t x y z sy wd ht a c st (Zg S 10) (upd V 10 v) (w.setCell ⟨N,3,none⟩ (int i64 a)):=⟨a,q,h.set_ 3 _,λ_=>rfl,λe=>b (e.resolve_left (by decide))⟩
theorem EZ.two {p q:Int}(h:Q0 w N t #[x,y,z,p,sy,q,wd,ht,.bool st])(b:S 10->p=a):
  EZ N t x y z sy wd ht a c st (Zg S 13) (upd V 13 v) (w.setCell ⟨N,5,none⟩ (int i64 c)):=⟨p,c,h.set_ 5 _,λe=>b (e.resolve_left (by decide)),λ_=>rfl⟩
end
theorem Ll {w:World}{N i:Nat}(u:Value):Kept (λc=>c≠N) w (w.setCell ⟨N,i,none⟩ u):=(Kept.refl _ _).setCell (by simp) _
theorem ac (b:BD)(V:Value)(I G:Int)(j:Bool)(w:World):Calls prog 196 #[.agg (Z5 b),V,.agg #[I,G,.bool j]] w λr w'=>r=.returned (.agg (Z5 (UX b I G)))/\Below w.heap.size w w':=by
 obtain ⟨x,y,z,sx,sy,sz,wd,ht,st⟩:=b;unfold UX;simp only [Z5];have T:=pp (λW=>Lk I W)
 have O:=pp (λW=>Lk G W)
 generalize Bo I=a at T ⊢;generalize Bo G=c at O ⊢;obtain ⟨N,F⟩:=pt w.heap.size;obtain ⟨W,E⟩:=pt (((w.alloc (.cells #[int i64 x,int i64 y,int i64 z,int i64 sx,int i64 sy,int i64 sz,int i64 wd,int i64 ht,.bool st] 40)).alloc (.cells #[I,G,.bool j] 81)).alloc (.cells #[int i64 0,int i64 0,int i64 0,int i64 0,int i64 0,int i64 0,int i64 0,int i64 0,.bool false] 40));have H:Below w.heap.size w W:=by rw [E];go_grown
 have B:Q0 W N 40 _:=Q0.eqw E.symm (by rw [F];exact ((Q0.new' rfl).alloc _).alloc _)
 have D:Q0 W (N+1) 81 _:=Q0.eqw E.symm (by rw [F];exact (Q0.new' (by simp)).alloc _)
 have R:Q0 W (N+1+1) 40 _:=Q0.eqw E.symm (by rw [F];exact Q0.new' (by simp))
 have L:=λf d os=>(D.sp (D:=[N]) (by simp) f d os).cell 0
 have M:=λf d os=>(D.sp (D:=[N]) (by simp) f d os).cell 1
 simp only [List.getElem?_toArray,List.getElem?_cons_zero,List.getElem?_cons_succ] at L M;go_enter func196,ntmps196;go_upto_region 2 with fail
 rw [<-E,<-F];have X:=pp F;clear E F;refine GY [0,0,0,0,0,0,0,0,1,1,2,1,1,2] [N] (EZ N 40 x y z sy wd ht a c st) (by kernel_rfl) (by kernel_rfl) (λ_ _ _ _ _ h k=>h.below k) (λ_=>WZ B) ?_
 repeat (first|(refine Qi ?_)|(refine Qf (λK u=>?_);go_simp;first|(refine u _ ?_;clear u K)|(apply Exists.intro;refine ⟨λ_=>?_,u _ ?_⟩;(first|((with_reducible refine Calls.mono (T.o _) ?_);exact λ_ _ h=>h)|((with_reducible refine Calls.mono (O.o _) ?_);exact λ_ _ h=>h));clear u K))|(refine Vo (λK u=>?_);go_simp;refine u _ ?_;clear u K))
 refine Q8 ?_;repeat (refine QL ?_)
 refine XY rfl ?s10 (λv10_=>?_)
 case s10=>
  intro S_ J w_ e g s C l;obtain ⟨p,q,m,A,t⟩:=l;have P:=pp (λv=>py (Jr (b:=N) e (by simp) (Ll (i:=3) (int i64 a))) (EZ.one (a:=a) (c:=c) (V:=J) (v:=v) m t))
  have c3:=m.cell 3;have Y:=m.frz 3;clear g s C e A t m;go_simp;exact P.o _
 repeat (refine QL ?_)
 refine XY rfl ?s13 (λv13_=>?_)
 case s13=>
  intro S_ J w_ e g s C l;obtain ⟨p,q,m,A,t⟩:=l;have P:=pp (λv=>py (Jr (b:=N) e (by simp) (Ll (i:=5) (int i64 c))) (EZ.two (a:=a) (c:=c) (V:=J) (v:=v) m A))
  have c3:=m.cell 5;have Y:=m.frz 5;clear g s C e A t m;go_simp;exact P.o _
 refine Co λJ w2 e g l=>?_
 obtain ⟨p,q,B2,A,t⟩:=l;obtain rfl:=A ⟨show (10:Nat)<14 by decide,rfl⟩
 obtain rfl:=t ⟨show (13:Nat)<14 by decide,rfl⟩
 have U:=e.blk (by simp;omega) R
 have H2:=H.trans (e.below (n:=w.heap.size) H.size (λb m h=>by have:=X.o;simp at h;omega))
 clear g e L M R H B D A t T O;simp only [Qd];obtain ⟨⟨b0,b1,b2,b3,b4,b5,b6,b7,b8⟩,-⟩:=B2.c9;obtain ⟨⟨r0,r1,r2,r3,r4,r5,r6,r7,r8⟩,f0,f1,f2,Y,f4,f5,f6,f7,f8⟩:=U.c9;have S:w.heap.size<=N+1+1:=by have:=X.o;omega
 go_wp2_with fail;have Q:=U.st9 (int i64 (x)) (int i64 (y)) (int i64 (z)) (int i64 (p)) (int i64 (sy)) (int i64 (q)) (int i64 (wd)) (int i64 (ht)) (.bool (st));obtain ⟨⟨L,M,Z,d3,d4,d5,d6,d7,d8⟩,-⟩:=Q.c9;exact bodyPost_ret (v:=.agg #[int i64 (x),int i64 (y),int i64 (z),int i64 (p),int i64 (sy),int i64 (q),int i64 (wd),int i64 (ht),.bool (st)]) (by simp [results,results196,go_sem,L,M,Z,d3,d4,d5,d6,d7,d8]) rfl ⟨rfl,Z0 H2 S _ _ _ _ _ _ _ _ _⟩
end
end Go.Proofs.YtmbccnioijokfaaGreatDoor