/- A part of the proof. -/
import Derived.Test.YtmbccnioijokfaaGreatDoorZs34
namespace Go.Proofs.YtmbccnioijokfaaGreatDoor
set_option maxRecDepth 100000
set_option maxHeartbeats 32000000
open Go.Value (int)
open Go.IntKind (i64 u8)
open Go.Proofs.Tryz
variable {wd q base:Nat}{occ v':Value}{ds:List Cl}{Mw Mq M':Nat -> Prop}{c:Cl}{f:Cl -> Int}{l l':List QI}{bs:List B8}{wr:World}{y:Int}
section
open Go.RowKit Go.Maps
attribute [local go_sem] Oper.semAt_some
theorem gr (s wd t q e:Nat)(S S2:SS)(c:Cl)(hc:UD c)(hn:S.T.l.length<=1000)(hr:S.T.ready c.1 c.2.2=true)(h3:S.T.cell c=3)(b0:Int)(h0:S.T.cell (Qx c)=b0)(hy:Zz b0=true)(w:World)(M:Nat->Prop)(h:QQ s wd t q (XS e) S w M)
  (hO:∀n,Below w.heap.size w n->Calls prog 145 #[e,XF (Qx c)] n λr w'=>r=.returned (.bool true)/\Below n.heap.size n w')
  (hd:S.d<=1000000)
  (hA:∀n M1,QQ s wd t q (XS e) { S with d:=S.d+1 } n M1->Calls prog 276 #[s,aK c 0] n λr w'=>r=.returned (.tuple #[])/\Q6 (QQ s wd t q (XS e) S2) n M1 w'):
  Calls prog 203 #[s,XF c] w λr w'=>r=.returned (.tuple #[])/\Q6 (QQ s wd t q (XS e) S2) w M w':=by
 have HS0:=pp h;obtain ⟨v,ds,Mw,Mq,h,hM⟩:=h;obtain ⟨W,u⟩:=pt (w.alloc (.cells #[int i64 c.1,int i64 c.2.1,int i64 c.2.2] 43));have H:Below w.heap.size w W:=by rw [u];exact Q3 _ _
 have C:Q0 W w.heap.size 43 #[int i64 c.1,int i64 c.2.1,int i64 c.2.2]:=Q0.fresh u;have s1:=λd os=>(((h.on H).blk).re d os).cell 1
 obtain ⟨B,x,c2⟩:=C.re3;have P:(-1000000000000000<=c.1/\c.1<=1000000000000000)/\(-1000000000000000<=c.2.2/\c.2.2<=1000000000000000):=by
  obtain ⟨h1,h2,h3⟩:=hc;omega
 have X:=pp λd os=>E2 wd t S.k S.T c.1 c.2.1 c.2.2 (Go.Sort.grow (redrawn W d) os) Mw ((XR wd t S.T S.k).on h.wd (after H (pK _ d os))) P.1 P.2 hn
 rw [hr] at X;have al:=pp λm (g:Below w.heap.size w m)=>UB wd t S.k S.T m Mw ((XR wd t S.T S.k).on h.wd g)
 have au:Bq S.T.cell c=[(c.1,c.2.1,c.2.2,b0),(c.1,c.2.1 - 1,c.2.2,3)]:=by
  unfold Bq Eb;rw [h3,h0,if_pos (by decide),if_pos hy]
 have af:=pp λm (g:Below w.heap.size w m)=>LG t S.T.cell c hc (by rw [h3];decide) m λd hd F g3=>h.tells hn d hd F (after g g3)
 rw [au] at af;have R:=pp λm (g:Below w.heap.size w m)=>h.tells hn c (Up hc c List.mem_cons_self) m g
 rw [h3] at R;have ap:=pp λm=>Dj c hc m
 have aa:=pp λm=>De 3 m
 rw [show Uh 3=true from rfl] at aa;have am:=pp hO;have HA:=pp hA;have HD:=pp hd;have HS:=pp (py h hM);have HC:=pp C;have HH:=pp H;have hat:=Kl;clear h H C hc hn hM hr h3 h0 hy hO hA hd au P;go_enter func203,ntmps203;go_upto_region 1 with fail
 rw [<-u];clear u;refine wp_region_quiet_below (by kernel_rfl) (by kernel_rfl) ?_
 repeat (go_big_quiet_step (exact Calls.regrown_of (X.o _ _)))
 refine wpQuiet_nil ?_;intro w' Q;obtain ⟨rg,rfl⟩:=Q;obtain ⟨n,ae⟩:=pt (Go.Sort.grow (redrawn W rg.d) rg.os);have g1:Below W.heap.size W n:=by rw [ae];exact pK _ _ _
 rw [<-ae];have G1:=pp (after HH.o g1);have U:=pp (HC.o.on g1);clear ae g1 s1 B x c2 X;have s1:=(HS.o.1.on G1.o).blk.cell 1;obtain ⟨B,x,c2,-,-,-⟩:=U.o.c3;have a1:=pp (al.o n G1.o);have ax:=pp (af.o n G1.o);clear al af;go_upto_region 5 with first
  | (go_at_call 29;refine a1.o.mono ?_;rintro e_ w1 ⟨rfl,rfl⟩)
  | (go_at_call 274;refine ax.o.mono ?_;rintro e_ w2 ⟨v2,rfl,o2,g2⟩;have G2:=pp (after G1.o g2);have O2:=pp (o2.lowB G1.o.size);have ab:=pp (U.o.on g2);obtain ⟨q2,cp2,rfl,-⟩:=o2.form Fv;clear o2 g2)
 clear B x c2 s1;obtain ⟨B,x,c2,-,-,-⟩:=ab.o.c3;go_upto_region 6 with (go_at_call 186;refine (ap.o _).mono ?_;rintro e_ w3 ⟨rfl,g3⟩;have G3:=pp (after G2.o g3);have an:=pp (ab.o.on g3);have O3:=pp (O2.o.on g3);unfold Vf;clear g3)
 clear B x c2;obtain ⟨F,A⟩:=pt (w3.alloc (.cells #[int i64 c.1,int i64 (c.2.1 - 1),int i64 c.2.2] 43));have g4:Below w3.heap.size w3 F:=by rw [A];exact Q3 _ _
 have ag:=pp (Q0.fresh A);rw [<-A];have G4:=pp (after G3.o g4);have O4:=pp (O3.o.on g4);have O:=pp (an.o.on g4);clear A g4 O2 O3 U ab an ap;obtain ⟨B,x,c2⟩:=O.o.re3;obtain ⟨x0,x1,x2⟩:=ag.o.re3;have s4:=λd os=>(((HS.o.1.on G4.o).blk).re d os).cell 4
 have J:=pp λd os=>R.o (Go.Sort.grow (redrawn F d) os) (after G4.o (pK _ d os))
 have I:=pp λd os=>am.o (Go.Sort.grow (redrawn F d) os) (after G4.o (pK _ d os))
 clear R am;refine wp_region_quiet_below (by kernel_rfl) (by kernel_rfl) ?_
 repeat (go_big_quiet_step (first|exact Calls.regrown_of (J.o _ _)|exact Calls.regrown_of ((aa.o _).mono λ_ _ ⟨he,hw⟩=>⟨he,by rw [<-hw];exact pI _ _⟩)|exact Calls.regrown_of (I.o _ _)))
 refine wpQuiet_nil ?_;intro w' Q;obtain ⟨rg,rfl⟩:=Q;obtain ⟨W4,Y⟩:=pt (Go.Sort.grow (redrawn F rg.d) rg.os);have g5:Below F.heap.size F W4:=by rw [Y];exact pK _ _ _
 rw [<-Y];have G5:=pp (after G4.o g5);have O5:=pp (O4.o.on g5);have ao:=pp (O.o.on g5);have aq:=pp (ag.o.on g5);clear Y g5 B x c2 x0 x1 x2 s4 J I aa O4 O ag;obtain ⟨B,x,c2,-,-,-⟩:=ao.o.c3;obtain ⟨W5,y⟩:=pt (W4.alloc (.cells #[int i64 c.1,int i64 c.2.1,int i64 c.2.2,int i64 0] 307));have g6:Below W4.heap.size W4 W5:=by rw [y];exact Q3 _ _
 have ay:=pp (Q0.fresh y);have G6:=pp (after G5.o g6);have V:=pp (aq.o.on g6);have HZ:=pp (show w.heap.size<=W4.heap.size from G5.o.size);clear g6;go_upto_region 8 with fail
 rw [<-y];clear y B x c2 ao aq O5;have a:=pp (HS.o.1.on G6.o);have N:v.ownBlock≠some s:=λe=>(a.o.r_no e).2.2 rfl
 have E:v.ownBlock≠some w3.heap.size:=λe=>by have:=(HS.o.1.row.block _ e).2;have:=G3.o.size;omega
 have av:=pp λb (e:v.ownBlock=some b)=>(a.o.row.block b e).2
 have s5:=λf d os=>(a.o.blk.sp (QR N) f d os).cell 5
 have x0:=λf d os=>(V.o.sp (QR E) f d os).cell 0
 have x1:=λf d os=>(V.o.sp (QR E) f d os).cell 1
 have x2:=λf d os=>(V.o.sp (QR E) f d os).cell 2
 have a0:=pp N;clear N E;refine VI [0,0,0,0,0,0,2,2,1,1,3] 7 (v.ownBlock) (kC W5.heap.size v.ownBlock ds (Qx c)) (by kernel_rfl) (by kernel_rfl) (kD av.o) ?_
 repeat (first|(refine Qi ?_)|(refine Qf (λK hK=>?_);go_simp;refine hK _ ?_;clear hK K)|(refine Vo (λK hK=>?_);go_simp;refine hK _ ?_;clear hK K))
 refine Q8 ?_;refine Q2 ?_;refine Q2 ?_;refine Q2 ?_;refine Q2 ?_;refine Q2 ?_;refine Q2 ?_;refine Qv ?lsA (λv_=>?_)
 case lsA=>(intro w_ i L;(first|(dsimp only at D;obtain ⟨v9,w9,j,aj,Z⟩:=O7 (a.o.row.on (Y9 i L)) (D.2 (by kernel_rfl)) (by have:=a.o.len;have:=HD.o;omega) (Qb i).size;exact Xe _ _ _ _ rfl _ _ rfl rfl v9 w9 j aj Z)|(go_simp;exact ⟨Kept.of_below ((pI _ _).alloc (pA _) _),_,rfl,(Qb i).size,Q0.new' rfl⟩)))
 refine Xz ?lsA (λv_=>?_)
 case lsA=>(intro w_ i L D;(first|(dsimp only at D;obtain ⟨v9,w9,j,aj,Z⟩:=O7 (a.o.row.on (Y9 i L)) (D.2 (by kernel_rfl)) (by have:=a.o.len;have:=HD.o;omega) (Qb i).size;exact Xe _ _ _ _ rfl _ _ rfl rfl v9 w9 j aj Z)|(go_simp;exact ⟨Kept.of_below ((pI _ _).alloc (pA _) _),_,rfl,(Qb i).size,Q0.new' rfl⟩)))
 refine Q2 ?_;refine Q2 ?_;refine Q2 ?_;refine XX ?_;simp only [Qd];rintro W6 k6 ⟨-,ai,j⟩;obtain ⟨q9,c9,rfl,-⟩:=ai.form E4;have ah:=a.o.drop (pA _) k6 ai j;rw [show (ds++[Qx c]).length=ds.length+1 by simp] at ah
 have ad:=k6.blk (QR a0.o) a.o.blk;have e5:=ad.cell 5;have f5:=ad.frz 5;have ak:=k6.blk (g:=W4.heap.size) (QR λe=>by have:=(HS.o.1.row.block _ e).2;have:=HZ.o;omega) ay.o
 have az:=pp ak;have G:=pp ah;clear k6 ai j ah ad ak s5 x0 x1 x2;go_upto_region 10 with fail
 obtain ⟨W7,ac⟩:=pt (W6.setCell ⟨s,5,none⟩ (.slice q9 (ds.length+1) c9));rw [<-ac] at G ⊢;have p:Q0 W7 W4.heap.size 307 #[int i64 c.1,int i64 c.2.1,int i64 c.2.2,int i64 0]:=by
  rw [ac];exact ((Kept.refl (λb=>b≠s) _).setCell (by simp) _).blk (λe=>by have:=HS.o.1.blk.lt;have:=HZ.o;omega) az.o
 clear ac e5 f5;have r0:=p.cell 0;have r1:=p.cell 1;have r2:=p.cell 2;have r3:=p.cell 3;obtain ⟨M7,a7,m7,k7⟩:=G.o;refine wp_loop_rounds 2 ?_;rw [rounds_succ];obtain ⟨W8,z⟩:=pt (W7.alloc (.cells #[int i64 c.1,int i64 c.2.1,int i64 c.2.2,int i64 0] 307));have g8:Below W7.heap.size W7 W8:=by rw [z];exact Q3 _ _
 have X8:=Q0.fresh z;have x0:=X8.cell 0;have x1:=X8.cell 1;have x2:=X8.cell 2;have x3:=X8.cell 3;have aw:=pp (HA.o W8 M7 ((Xs s wd t q (XS e) _).on a7 g8));have ar:=pp (py m7 k7);have G8:=pp g8;clear g8 X8 HA p a7 m7 k7;go_upto_region 12 with fail
 rw [<-z];clear z r0 r1 r2 r3;go_wp2_with (go_at_call 276;refine aw.o.mono ?_;rintro e_ w9 ⟨rfl,K9⟩;replace K9:=pp K9);rw [rounds_succ];go_wp2_with fail;go_returns;exact ⟨rfl,(Q6.ahead G6.o (Q6.bind ar.o.1 ar.o.2 (Q6.ahead G8.o K9.o))).under HS.o.2⟩
theorem kT (s wd t q:Nat)(occ:Value)(S:SS)(c:Cl)(D:UD c)(L:S.T.l.length<=1000)(hr:S.T.ready c.1 c.2.2=true)(K:Yv (S.T.cell c)=false)(Z:Bq S.T.cell c=[])(w:World)(M:Nat->Prop)(h:QQ s wd t q occ S w M):
  Calls prog 203 #[s,XF c] w λr w'=>r=.returned (.tuple #[])/\Below w.heap.size w w':=by
 obtain ⟨v,ds,Mw,Mq,h,Y⟩:=h;obtain ⟨W,b⟩:=pt (w.alloc (.cells #[int i64 c.1,int i64 c.2.1,int i64 c.2.2] 43));have H:pM w W:=by rw [b];exact Q3 _ _
 have C:Q0 W w.heap.size 43 #[int i64 c.1,int i64 c.2.1,int i64 c.2.2]:=Q0.fresh b;have s1:=λd os=>(((h.on H).blk).re d os).cell 1
 obtain ⟨x,y,c2⟩:=C.re3;have j:(-1000000000000000<=c.1/\c.1<=1000000000000000)/\(-1000000000000000<=c.2.2/\c.2.2<=1000000000000000):=by
  obtain ⟨h1,h2,h3⟩:=D;omega
 have p:=pp λd os=>E2 wd t S.k S.T c.1 c.2.1 c.2.2 (Go.Sort.grow (redrawn W d) os) Mw ((XR wd t S.T S.k).on h.wd (after H (pK _ d os))) j.1 j.2 L
 rw [hr] at p;have B:=pp λa (g:pM w a)=>UB wd t S.k S.T a Mw ((XR wd t S.T S.k).on h.wd g)
 have i:=pp λa (g:pM w a)=>LG t S.T.cell c D K a λd hd J I=>h.tells L d hd J (after g I)
 rw [Z] at i;have E:=pp λa (g:pM w a)=>h.tells L c (Up D c List.mem_cons_self) a g
 have z:=pp λa=>Dj c D a
 have R:=pp λa=>De (S.T.cell c) a
 generalize Uh (S.T.cell c)=fb at *;generalize S.T.cell c=bc at *;have HS:=pp (py h Y);have HC:=pp C;have HH:=pp H;have hat:=Kl;clear h H C D L Y hr K Z j;go_enter func203,ntmps203;go_upto_region 1 with fail
 rw [<-b];clear b;refine wp_region_quiet_below (by kernel_rfl) (by kernel_rfl) ?_
 repeat (go_big_quiet_step (exact Calls.regrown_of (p.o _ _)))
 refine wpQuiet_nil ?_;intro w' m;obtain ⟨U,rfl⟩:=m;obtain ⟨Q,f⟩:=pt (Go.Sort.grow (redrawn W U.d) U.os);have X:pM W Q:=by rw [f];exact pK _ _ _
 rw [<-f];have A:=pp (after HH.o X);have n:=pp (HC.o.on X);clear f X s1 x y c2 p;have s1:=(HS.o.1.on A.o).blk.cell 1;obtain ⟨x,y,c2,-,-,-⟩:=n.o.c3;have P:=pp (B.o Q A.o);have V:=pp (i.o Q A.o);clear B i;go_upto_region 5 with first
  | (go_at_call 29;refine P.o.mono ?_;rintro e_ w1 ⟨rfl,rfl⟩)
  | (go_at_call 274;refine V.o.mono ?_;rintro e_ w2 ⟨v2,rfl,o2,g2⟩;have G2:=pp (after A.o g2);have O2:=pp (o2.lowB A.o.size);have u:=pp (n.o.on g2);obtain ⟨q2,cp2,rfl,-⟩:=o2.form Fv;clear o2 g2)
 clear x y c2 s1;obtain ⟨x,y,c2,-,-,-⟩:=u.o.c3;go_upto_region 6 with (go_at_call 186;refine (z.o _).mono ?_;rintro e_ w3 ⟨rfl,I⟩;have G3:=pp (after G2.o I);have F:=pp (u.o.on I);unfold Vf;clear I)
 clear x y c2;obtain ⟨J,e⟩:=pt (w3.alloc (.cells #[int i64 c.1,int i64 (c.2.1 - 1),int i64 c.2.2] 43));have N:pM w3 J:=by rw [e];exact Q3 _ _
 have HL3:=pp (Q0.fresh e);rw [<-e];have G4:=pp (after G3.o N);have O:=pp (F.o.on N);clear e N O2 n u F z;obtain ⟨x,y,c2⟩:=O.o.re3;have G:=pp λd os=>E.o (Go.Sort.grow (redrawn J d) os) (after G4.o (pK _ d os))
 clear E;cases fb
 all_goals
  refine wp_region_quiet_below (by kernel_rfl) (by kernel_rfl) ?_
  repeat (go_big_quiet_step (first|exact Calls.regrown_of (G.o _ _)|exact Calls.regrown_of ((R.o _).mono λ_ _ ⟨he,K⟩=>⟨he,by rw [<-K];exact pI _ _⟩)))
  refine wpQuiet_nil ?_;intro w' m;obtain ⟨U,rfl⟩:=m;go_upto_region 10 with fail
  refine wp_loop_rounds 1 ?_;rw [rounds_succ];go_wp2_with fail;go_returns;exact ⟨rfl,after G4.o (pK _ _ _)⟩
theorem SimAt.queue2 {w w':World}{s t:Nat}{v:Value}{S:SS}{c:Nat->Prop}(h:SimAt w s wd t q occ S v ds Mw Mq){Q':QS}(j:QA q Q' w' c)(g:∀b,c b->Mq b∨w.heap.size<=b)(e:Kept (λb=>¬Mq b) w w'):
  SimAt w' s wd t q occ { S with Q:=Q' } v ds Mw c/\(∀b,Vi s v Mw c b->Vi s v Mw Mq b∨w.heap.size<=b)/\Kept (λb=>¬Vi s v Mw Mq b) w w':=by
 refine ⟨⟨e.blk h.s_no.2 h.blk,h.row.keep e λb a=>(h.r_no a).2.1,h.len,(XR wd t S.T S.k).beside h.wd e (λb a d=>h.apart b a d) ((Zs q S.Q).nob h.q),j,λb a d=>?_⟩,λb a=>?_,e.mono λb a f=>a (.inr (.inr (.inr f)))⟩
 ·rcases g b d with i|i
  ·exact h.apart b a i
  ·have:=(h.wd.type a).1;omega
 ·rcases a with a|a|a|a
  ·exact .inl (.inl a)
  ·exact .inl (.inr (.inl a))
  ·exact .inl (.inr (.inr (.inl a)))
  ·exact (g b a).imp_left λh=>.inr (.inr (.inr h))
theorem aZ (s wd t q:Nat)(occ:Value)(S:SS)(st:Nat->SS)(out:List Cl)(Q':QS)(ht:0<=S.now/\S.now<=1099511627776)(ho:out.length<=64)(w:World)(M:Nat->Prop)(h:QQ s wd t q occ S w M)
  (hD:∀j D,QA q S.Q j D->Calls prog 202 #[q,int i64 (GI S),int i64 S.budget] j λr w'=>Pi q Q' out j D r w')
  (h0:st 0= { S.tick with Q:=Q' })
  (hU:∀i c,out[i]?=some c->∀j D,QQ s wd t q occ (st i) j D->Kept (λb=>¬M b) w j->Calls prog 203 #[s,XF c] j λr w'=>r=.returned (.tuple #[])/\Q6 (QQ s wd t q occ (st (i+1))) j D w'):
  Calls prog 153 #[s] w λr w'=>r=.returned (int i64 out.length)/\Q6 (QQ s wd t q occ (st out.length)) w M w':=by
 obtain ⟨v,ds,Mw,Mq,h,x⟩:=h;have hmn:=@YY prog;have s3:=h.blk.cell 3;have f3:=h.blk.frz 3;have hw:IntKind.i64.wrap (S.now+1)=S.now+1:=pJ _ (by omega)
 obtain ⟨j,y⟩:=pt (w.setCell ⟨s,3,none⟩ (int i64 (GI S)));have E:Kept (λb=>b≠s) w j:=by rw [y];exact (Kept.refl _ _).setCell (by simp) _
 have H:SimAt j s wd t q occ S.tick v ds Mw Mq:=h.self E (by rw [y];exact h.blk.set_ 3 _) rfl rfl rfl rfl
 have C:=pp (py h (py x E));have P:=pp H;have HD:=pp λJ (g:pM j J)=>hD J Mq ((Zs q S.Q).on H.q g)
 have HU:=pp hU;have HZ:=pp h0;have d0:=λd os=>(H.blk.re d os).cell 0
 have d2:=λd os=>(H.blk.re d os).cell 2
 have d3:∀d os,(Go.Sort.grow (redrawn j d) os).cell? ⟨s,3,none⟩=some (int i64 (GI S)):=λd os=>(H.blk.re d os).cell 3
 have ad:∀d os,(Go.Sort.grow (redrawn j d) os).cell? ⟨s,2,none⟩=some (int i64 S.budget):=λd os=>(H.blk.re d os).cell 2
 unfold GI at y;clear h x H E hD hU h0 ht d2;go_enter func153,ntmps153;go_upto_region 2 with fail
 rw [<-y];clear y s3 f3;refine Qk [0,0,0,0,0,0,0,0,0,0,0,0,3,3] (λ_ _ _=>True) (by kernel_rfl) (by kernel_rfl) (λ_ _ _ _ h _=>h) ?_
 repeat (first|(refine Qi ?_)|(refine Qf (λK hK=>?_);go_simp;refine hK _ ?_;clear hK K))
 refine Q8 ?_;repeat (refine Q2 ?_)
 refine Qc ?_;simp only [Qd];intro J g2 _;have G2:=pp g2;have L:=pp (HD.o J g2);clear g2 d0 ad d3 HD;go_upto_region 3 with (go_at_call 202;refine L.o.mono ?_;rintro e_ F ⟨v3,rfl,o3,k3⟩;have K3:=pp k3;have O3:=pp o3;obtain ⟨q3,c3,rfl,-,-,-,-,-⟩:=o3.form E4;clear k3 o3)
 obtain ⟨p,I,m3,ab⟩:=K3.o;obtain ⟨h3,Y,U⟩:=(P.o.on G2.o).queue2 I m3 ab;have A:w.heap.size<=J.heap.size:=pB C.o.2.2.size G2.o.size;have aa:∀g cp len,Value.slice q3 out.length c3=.slice (some ⟨g,0,none⟩) len cp->J.heap.size<=g/\g<F.heap.size/\¬Vi s v Mw p g:=λg cp len e=>by
  obtain ⟨e1,-,-⟩:=Value.slice.inj e;have X:Value.ownBlock (.slice q3 out.length c3)=some g:=by rw [e1];rfl
  have f:=O3.o.block g X;obtain ⟨-,cur,h4⟩:=QC O3.o X;refine ⟨f.1,f.2,λx=>?_⟩
  rcases x with x|x|x|x
  ·have:=C.o.1.blk.lt;omega
  ·have:=(C.o.1.row.block _ x).2;omega
  ·have:=(C.o.1.wd.type x).1;omega
  ·exact F8.2.2.2 ((I.type x).2 _ _ h4)
 have HG:=pp aa;have l:Q6 (QQ s wd t q occ (st 0)) F (Vi s v Mw p) F:=by
  rw [HZ.o];exact Q6.same ⟨v,ds,Mw,p,h3,λ_=>Iff.rfl⟩
 have ae:=pp l;have T:=pp (show Kept (λb=>¬M b) w F from (C.o.2.2.mono λb f e=>f ((C.o.2.1 b).2 (.inl e))).trans ((((Kept.of_below G2.o).mono λ_ _=>trivial)).trans (U.mono λb f h=>f ((C.o.2.1 b).2 h))))
 have R:=pp (show ∀b,Vi s v Mw p b->M b∨w.heap.size<=b from λb f=>(Y b f).imp (λh=>(C.o.2.1 b).2 h) (pB A))
 obtain ⟨n,hn⟩:=pt out.length;have hnm:n<=64:=by omega
 have m:=O3.o.form E4;rw [<-hn] at m ⊢;have HR:=pp (py m hn);clear I m3 ab h3 Y U A aa l hn m C P L HZ K3 G2 ho;go_upto_region 4 with fail
 go_loopw [5,30] (λpv iv wr=>∃i:Nat,iv=.int .i64 i/\Hid (i<=n)/\Hid (Q6 (QQ s wd t q occ (st i)) F (Vi s v Mw p) wr)) (λ_ iv _=>n - (intOf iv).toNat)
 case atStart=>exact ⟨0,rfl,pC _,ae⟩
 case round=>
  obtain ⟨i,rfl,hi,HI⟩:=hrel;by_cases af:i<n
  ·have hin:(i:Int)<(n:Int):=by omega
   have hi0:(0:Int)<=(i:Int):=by omega
   have YV:IntKind.i64.wrap ((i:Int)+1)=(i:Int)+1:=pJ _ (by omega)
   obtain ⟨D,a1,m1,k1⟩:=HI.out;obtain ⟨c,W⟩:∃c,out[i]?=some c:=⟨_,pH (by have:=HR.o.2;omega)⟩
   obtain ⟨q',cap',G,-,-,m,-,V⟩:=HR.o.1;have ac:q3=q':=by simp at G;exact G.1
   subst ac;obtain ⟨g,rfl⟩:=V (by omega)
   obtain ⟨g',o',e,h5⟩:=m (by have:=HR.o.2;omega)
   obtain ⟨rfl,rfl⟩:g=g'/\0=o':=by simpa using e
   obtain ⟨ah,Z,O⟩:=HG.o g c3 out.length rfl;have a:∀(k:Nat) (u:Value),F.cell? ⟨g,k,none⟩=some u->wr.cell? ⟨g,k,none⟩=some u:=λk u hu=>by
    rw [World.cell?_of_block (k1.block g Z O)];exact hu
   have r0:wr.cell? ⟨g,i * 3,none⟩=some (int i64 c.1):=a _ _ (by simpa using h5 i c W 0 _ rfl)
   have r1:wr.cell? ⟨g,i * 3+1,none⟩=some (int i64 c.2.1):=a _ _ (by simpa using h5 i c W 1 _ rfl)
   have r2:wr.cell? ⟨g,i * 3+2,none⟩=some (int i64 c.2.2):=a _ _ (by simpa using h5 i c W 2 _ rfl)
   obtain ⟨W4,B⟩:=pt (wr.alloc (.cells #[int i64 c.1,int i64 c.2.1,int i64 c.2.2] 43));have g4:pM wr W4:=by rw [B];exact Q3 _ _
   obtain ⟨x0,x1,x2,-,-,-⟩:=(Q0.fresh B).c3;have N:Kept (λb=>¬M b) w W4:=by
    have ai:Kept (λb=>¬Vi s v Mw p b) F W4:=k1.on g4
    have z:Kept (λb=>¬M b/\b<w.heap.size) w W4:=(T.o.mono λb f=>f.1).trans (ai.mono λb f h=>by
     rcases R.o b h with h|h
     ·exact f.1 h
     ·have:=f.2;omega)
    exact ⟨z.os,z.tape,z.output,z.size,λb f hK=>z.block b f ⟨hK,f⟩⟩
   have ag:=pp (HU.o i c W W4 D ((Xs s wd t q occ _).on a1 g4) N);have H4:=pp (py m1 (py k1 g4));clear a1 m1 k1 W G m V e h5 ah Z O a g4 N HI;go_upto_region 6 with fail
   rw [<-B];clear B r0 r1 r2;go_upto_region 7 with (go_at_call 203;refine ag.o.mono ?_;rintro e_ w5 ⟨rfl,K5⟩;replace K5:=pp K5)
   clear x0 x1 x2;go_wp2_with fail;go_roundw
   case rel=>exact ⟨i+1,by go_num,pp af,pp (Q6.bind H4.o.1 H4.o.2.1 (Q6.ahead H4.o.2.2 K5.o))⟩
   case measure=>simp [intOf];omega
  ·obtain rfl:i=n:=by have:=hi.out;omega
   have hii:¬(i:Int)<(i:Int):=by omega
   go_wp2_with fail;go_returns;rw [<-HR.o.2];exact ⟨rfl,Q6.bind R.o T.o HI.out⟩
def SS.back (S:SS)(now:Int)(xs:List QI):SS:= { S with now:=now,Q:= { E3 4096 with l:=YA xs [] } }
theorem SimAt.renew {w c f:World}{s t d:Nat}{v:Value}{S:SS}{now:Int}{Q':QS}{c2:Array Value}(h:SimAt w s wd t q occ S v ds Mw Mq)(m:Kept (λb=>b≠s) w c)(n:QA d Q' c M')(l:∀b,M' b->w.heap.size<=b)(g:Q0 c s 111 c2)(i:Kept (λb=>b≠s) c f)(o:Q0 f s 111 #[d,wd,int i64 S.budget,now,occ,v]):
  SimAt f s wd t d occ { S with now:=now,Q:=Q' } v ds Mw M' where
 blk:=o
 row:=(h.row.keep m λb a=>(h.r_no a).2.2).keep i λb a=>(h.r_no a).2.2
 len:=h.len
 wd:=(XR wd t S.T S.k).kept h.wd (m.trans i) (λb a e=>h.s_no.1 (e▸a)) λb cs a e=>by rw [e] at a;exact absurd (Q7 a h.blk) (by decide)
 q:=(Zs d Q').kept n i (λb a e=>by have:=l b a;have:=h.blk.lt;omega) λb cs a e=>by
  rw [e] at a;exact absurd (Q7 a g) (by decide)
 apart:=λb a j=>by have:=l b j;have:=(h.wd.type a).1;omega
theorem Pq (s wd t q:Nat)(occ:Value)(S:SS)(now:Int)(v5:Value)(xs:List QI)(E:∀x∈xs,UC x.2/\Qg x.1)(I:xs.length<=4000)(G:0<=now/\now<=1099511627776)(w:World)(M:Nat->Prop)(h:QQ s wd t q occ S w M)(A:Q5 w 0 92 4 Qt v5 xs)(l:v5.ownBlock≠some s):
  Calls prog 132 #[s,now,v5] w λr w'=>(∃k:Int,r=.returned (int i64 k))/\∃B,Q6 (QQ s wd t B occ (S.back now xs)) w M w':=by
 obtain ⟨v,ds,Mw,Mq,h,m⟩:=h;have hmn:=@YY prog;have hmx:=@ZC prog;have f3:=h.blk.frz 3;have s3:=h.blk.cell 3;have hmi:Xj (Xv now 0) 1099511627776=now:=by unfold Xj Xv;omega
 obtain ⟨N,n⟩:=pt (w.setCell ⟨s,3,none⟩ (int i64 now));have f:Kept (λb=>b≠s) w N:=by rw [n];exact (Kept.refl _ _).setCell (by simp) _
 have g:Q0 N s 111 #[q,wd,int i64 S.budget,now,occ,v]:=by rw [n];exact h.blk.set_ 3 _
 have C:=pp (py h (py m (py f (py g (py E (py I (py A l)))))));have Z:=pp (Sp 4096 N);clear h m f g E I A l G;go_enter func132,ntmps132;go_upto_region 2 with fail
 rw [<-n];clear n s3 f3;have f0:=C.o.2.2.2.1.frz 0;have g0:=C.o.2.2.2.1.cell 0;go_upto_region 3 with (go_at_call 111;refine Z.o.mono ?_;rintro e_ R ⟨B,M',rfl,F,H,a⟩;have W:=pp (py F (py H a));have J:=(C.o.2.2.2.1.on a).cell 0;have Q:=(C.o.2.2.2.1.on a).frz 0;clear F H a)
 obtain ⟨L,p⟩:=pt (R.setCell ⟨s,0,none⟩ (.pointer (some ⟨B,0,none⟩)));rw [<-p];obtain ⟨h,m,f,g,E,I,A,l⟩:=C.o;obtain ⟨F,H,a⟩:=W.o;have j:Kept (λb=>b≠s) w R:=f.on a
 have z:=g.on a;have u:Kept (λb=>b≠s) R L:=by rw [p];exact (Kept.refl _ _).setCell (by simp) _
 have y:Q0 L s 111 #[B,wd,int i64 S.budget,now,occ,v]:=by rw [p];exact z.set_ 0 _
 have d:∀b,M' b->w.heap.size<=b:=λb U=>pB f.size (H b U)
 have i:=h.renew j F d z u y;have c:=j.trans u;have D:=A.keep c λb a e=>l (by rw [a,e])
 have T:=fN B (E3 4096) v5 xs E (by show 0+xs.length<=4000;omega) (by decide) List.Pairwise.nil List.Pairwise.nil L M' i.q D λb P O=>by
  have:=(A.block b P).2;have:=d b O;omega
 have HP:=pp T;have c0:=y.cell 0;have X:=pp (py i (py c d));clear j z u y d i c D T h m f g E I A l F H a p g0 f0 J Q;go_wp2_with (go_at_call 179;refine HP.o.mono ?_;rintro e_ w4 ⟨⟨k,rfl⟩,K⟩;replace K:=pp K);go_returns;obtain ⟨i,c,d⟩:=X.o;have m:=C.o.2.1;obtain ⟨Y,a4,m4,k4⟩:=i.queue K.o;have V:∀b,Vi s v Mw M' b->M b∨w.heap.size<=b:=λb a=>by
  rcases a with a|a|a|a
  ·exact .inl ((m b).2 (.inl a))
  ·exact .inl ((m b).2 (.inr (.inl a)))
  ·exact .inl ((m b).2 (.inr (.inr (.inl a))))
  ·exact .inr (d b a)
 exact ⟨⟨k,rfl⟩,B,Q6.bind V (c.mono λb a e=>a ((m b).2 (.inl e))) ⟨Y,a4,m4,k4⟩⟩
end
section
open Go.RowKit Go.Maps
def GL (f:Cl->Int)(c:Cl):Prop:=f c=3/\Zz (f (Qx c))=true
def F9 (f:Cl->Int)(t:Int)(x:QI):Prop:=(f x.2=3/\Zz (f (Qx x.2))=false)∨(Yv (f x.2)=true/\22<=x.1)∨(Yv (f x.2)=false/\38<=2 * x.2.2.1+max x.1 t)
def LZ (c:Cl):Prop:=(2<=c.1/\c.1<=13)/\(0<=c.2.1/\c.2.1<=40)/\(2<=c.2.2/\c.2.2<=13)
structure SInv (f:Cl->Int)(t:Int)(l:List QI)(P:List Cl):Prop where
 t20:0<=t/\t<=20
 top:∀c,32<=c.2.1->f c≠3
 wet:t<=19->∀c,Yv (f c)=true->c.2.1<=8
 un:∀c,GL f c->36<=2 * c.2.1+t/\(3<=c.1/\c.1<=12)/\(3<=c.2.2/\c.2.2<=12)
 it:∀x∈l,LZ x.2/\F9 f t x
 pc:∀c∈P,LZ c/\F9 f t (t,c)/\∀x∈l,x.2=c->t+2<=x.1
 pd:P.Nodup
theorem Fa {b:Int}(h:Zz b=true):b≠3:=λe=>by subst e;revert h;decide
theorem kU {b:Int}(h:0<YR b):(b=3/\YR b=2)∨(Yv b=true/\YR b=5):=by
 unfold YR at *;cases h1:Uh b
 ·rw [h1] at h;cases h2:Yv b
  ·rw [h2] at h;simp at h
  ·exact .inr ⟨rfl,by simp⟩
 ·unfold Uh at h1;exact .inl ⟨by simpa using h1,by simp⟩
theorem Ma (c:Cl):Qx c≠c:=λe=>by
 have:=congrArg (λc:Cl=>c.2.1) e
 unfold Qx at this;dsimp only at this;omega
theorem SP {d:Cl}(h:Qx d=c):d.1=c.1/\d.2.1=c.2.1+1/\d.2.2=c.2.2:=by
 subst h;unfold Qx;dsimp only;omega
theorem Zt (f:Cl->Int)(c:Cl)(b:Int):Vj f c b c=b:=by unfold Vj;rw [if_pos rfl]
theorem QX {d:Cl}(b:Int)(h:d≠c):Vj f c b d=f d:=by unfold Vj;rw [if_neg h]
theorem gt {t:Int}{x:QI}(h:x∈YS l c t):x∈l∨x=(t,c):=by
 unfold YS at h;split at h
 ·exact .inl h
 ·have:=(CG _ _).mem_iff.2 h;rcases List.mem_append.1 this with a|a
  ·exact .inl (List.mem_filter.1 a).1
  ·exact .inr (by simpa using a)
theorem Cc (val:Cl->Int)(now:Int):∀(ds:List Cl) {l:List QI} {x:QI},x∈YM val now ds l->x∈l∨(x.2∈ds/\x.1=now+YR (val x.2))
 | [],_,_,h=>.inl h
 | d::ds,l,x,h=>by
  rcases Cc val now ds (l:=YS l d (now+YR (val d))) h with a|⟨a,b⟩
  ·rcases gt a with c|rfl
   ·exact .inl c
   ·exact .inr ⟨List.mem_cons_self,rfl⟩
  ·exact .inr ⟨List.mem_cons_of_mem _ a,b⟩
theorem gu {d:Cl}(h:d∈c::YL c):(c.1 - 1<=d.1/\d.1<=c.1+1)/\(c.2.1 - 1<=d.2.1/\d.2.1<=c.2.1+1)/\(c.2.2 - 1<=d.2.2/\d.2.2<=c.2.2+1):=by
 simp [YL] at h;rcases h with rfl|rfl|rfl|rfl|rfl|rfl|rfl<;>(try dsimp only)<;>(refine ⟨⟨?_,?_⟩,⟨?_,?_⟩,⟨?_,?_⟩⟩<;>omega)
def Yf (t:Int)(p:(Cl->Int)×List QI)(c:Cl)(b:Int):(Cl->Int)×List QI:=(Vj p.1 c b,YM (Vj p.1 c b) t (U0 (Vj p.1 c b) c) p.2)
theorem SInv.wake {t:Int}{P:List Cl}(h:SInv f t l P)(hc:(3<=c.1/\c.1<=12)/\(3<=c.2.2/\c.2.2<=12))(hy:36<=2 * c.2.1+t)(hy2:c.2.1<=39):SInv f t (YM f t (U0 f c) l) P:=by
 have key:∀x:QI,x.2∈U0 f c->x.1=t+YR (f x.2)->LZ x.2/\F9 f t x/\t+2<=x.1:=λx i hx1=>by
  obtain ⟨p,j⟩:=List.mem_filter.1 i;have o:0<YR (f x.2):=by simpa using j
  have hn:=gu p;have ht:=h.t20;rcases kU o with ⟨b,g⟩|⟨b,g⟩
  ·refine ⟨by unfold LZ;omega,?_,by omega⟩
   cases hyl:Zz (f (Qx x.2))
   ·exact .inl ⟨b,hyl⟩
   ·have:=h.un x.2 ⟨b,hyl⟩;exact .inr (.inr ⟨by rw [b];decide,by omega⟩)
  ·refine ⟨by unfold LZ;omega,.inr (.inl ⟨b,?_⟩),by omega⟩
   rcases Int.lt_or_le t 17 with m|m
   ·have:=h.wet (by omega) x.2 b
    omega
   ·omega
 exact ⟨h.t20,h.top,h.wet,h.un,λx i=>by
  rcases Cc f t _ i with a|⟨a,g⟩
  ·exact h.it x a
  ·obtain ⟨k,n,-⟩:=key x a g;exact ⟨k,n⟩,λd j=>by
  obtain ⟨k,n,q⟩:=h.pc d j;refine ⟨k,n,λx i e=>?_⟩
  rcases Cc f t _ i with a|⟨a,g⟩
  ·exact q x a e
  ·exact (key x a g).2.2,h.pd⟩
theorem Oe {t:Int}{x:QI}{b:Int}(h:F9 f t x)(i:Zz b=true)(hy:38<=2 * c.2.1+t)(j:x.2=c->Yv b=true->22<=x.1):F9 (Vj f c b) t x:=by
 by_cases e:x.2=c
 ·have hb3:=Fa i;cases hwb:Yv b
  ·refine .inr (.inr ⟨by rw [e,Zt];exact hwb,?_⟩)
   rw [e];omega
  ·exact .inr (.inl ⟨by rw [e,Zt];exact hwb,j e hwb⟩)
 ·rcases h with ⟨a,d⟩|⟨a,d⟩|⟨a,d⟩
  ·by_cases g:Qx x.2=c
   ·have:=SP g;exact .inr (.inr ⟨by rw [QX b e,a];decide,by omega⟩)
   ·exact .inl ⟨by rw [QX b e];exact a,by rw [QX b g];exact d⟩
  ·exact .inr (.inl ⟨by rw [QX b e];exact a,d⟩)
  ·exact .inr (.inr ⟨by rw [QX b e];exact a,d⟩)
theorem SInv.out {t:Int}{P:List Cl}{c:Cl}{b:Int}(h:SInv f t l (c::P))(p:GL f c)(u:38<=2 * c.2.1+t)(v:b=0∨b=f (Qx c)):SInv (Yf t (f,l) c b).1 t (Yf t (f,l) c b).2 P:=by
 have j:Zz b=true:=by
  rcases v with rfl|rfl
  ·decide
  ·exact p.2
 have m:=Fa j;have ht:=h.t20;have o:=h.un c p;have hctop:c.2.1<=31:=by
  rcases Int.lt_or_le c.2.1 32 with a|a
  ·omega
  ·exact absurd p.1 (h.top c a)
 have i:Yv b=true->20<=t:=λk=>by
  rcases v with rfl|rfl
  ·exact absurd k (by decide)
  ·rcases Int.lt_or_le t 20 with a|a
   ·have:=h.wet (by omega) _ k
    unfold Qx at this;dsimp only at this;omega
   ·exact a
 have z:c∉P:=(List.nodup_cons.1 h.pd).1;have q:∀d,GL (Vj f c b) d->36<=2 * d.2.1+t/\(3<=d.1/\d.1<=12)/\(3<=d.2.2/\d.2.2<=12):=λd g=>by
  obtain ⟨a,s⟩:=g;by_cases e:d=c
  ·rw [e,Zt] at a;exact absurd a m
  ·rw [QX b e] at a;by_cases w:Qx d=c
   ·have:=SP w;omega
   ·rw [QX b w] at s;exact h.un d ⟨a,s⟩
 have a:SInv (Vj f c b) t l P:=⟨ht,λd g=>by
  by_cases e:d=c
  ·rw [e,Zt];exact m
  ·rw [QX b e];exact h.top d g,λn d g=>by
  by_cases e:d=c
  ·rw [e,Zt] at g;have:=i g;omega
  ·rw [QX b e] at g;exact h.wet n d g,q,λx r=>⟨(h.it x r).1,Oe (h.it x r).2 j u λe k=>by
   have h3:=(h.pc c List.mem_cons_self).2.2 x r e;have:=i k;omega⟩,λd g=>by
  obtain ⟨y,A,B⟩:=h.pc d (List.mem_cons_of_mem _ g);exact ⟨y,Oe A j u λe k=>absurd (e▸g) z,B⟩,(List.nodup_cons.1 h.pd).2⟩
 exact a.wake o.2 (by omega) (by omega)
theorem SInv.into {t:Int}{P:List Cl}(h:SInv f t l P)(o:(3<=c.1/\c.1<=12)/\(3<=c.2.2/\c.2.2<=12))(n:36<=2 * c.2.1+t)(h31:c.2.1<=31)(hyl:Zz (f c)=true):SInv (Yf t (f,l) c 3).1 t (Yf t (f,l) c 3).2 P:=by
 have ht:=h.t20;have m:=Fa hyl;have XZ:∀x:QI,F9 f t x->F9 (Vj f c 3) t x:=λx i=>by
  by_cases e:x.2=c
  ·rcases i with ⟨a,b⟩|⟨a,b⟩|⟨a,b⟩
   ·rw [e] at a;exact absurd a m
   ·exact .inr (.inr ⟨by rw [e,Zt];decide,by rw [e];omega⟩)
   ·exact .inr (.inr ⟨by rw [e,Zt];decide,b⟩)
  ·rcases i with ⟨a,b⟩|⟨a,b⟩|⟨a,b⟩
   ·refine .inl ⟨by rw [QX 3 e];exact a,?_⟩
    by_cases j:Qx x.2=c
    ·rw [j,Zt];decide
    ·rw [QX 3 j];exact b
   ·exact .inr (.inl ⟨by rw [QX 3 e];exact a,b⟩)
   ·exact .inr (.inr ⟨by rw [QX 3 e];exact a,b⟩)
 have a:SInv (Vj f c 3) t l P:=⟨ht,λd g=>by
  by_cases e:d=c
  ·rw [e] at g;omega
  ·rw [QX 3 e];exact h.top d g,λk d g=>by
  by_cases e:d=c
  ·rw [e,Zt] at g;exact absurd g (by decide)
  ·rw [QX 3 e] at g;exact h.wet k d g,λd g=>by
  obtain ⟨a,b⟩:=g;by_cases e:d=c
  ·rw [e];exact ⟨n,o⟩
  ·rw [QX 3 e] at a;by_cases j:Qx d=c
   ·rw [j,Zt] at b;exact absurd b (by decide)
   ·rw [QX 3 j] at b;exact h.un d ⟨a,b⟩,λx i=>⟨(h.it x i).1,XZ x (h.it x i).2⟩,λd g=>by
  obtain ⟨p,q,r⟩:=h.pc d g;exact ⟨p,XZ _ q,r⟩,h.pd⟩
 exact a.wake o n (by omega)
def Zl (held:Cl->Bool)(t:Int)(p:(Cl->Int)×List QI)(c:Cl):(Cl->Int)×List QI:=
 if decide (p.1 c=3)&&Zz (p.1 (Qx c)) then (if held (Qx c) then Yf t p c 0 else Yf t (Yf t p c (p.1 (Qx c))) (Qx c) 3) else p
theorem SInv.now {t:Int}{P:List Cl}{c:Cl}(h:SInv f t l (c::P)):Yv (f c)=false/\(GL f c->38<=2 * c.2.1+t):=by
 have ht:=h.t20;obtain ⟨k1,d,-⟩:=h.pc c List.mem_cons_self;rcases d with ⟨b,a⟩|⟨b,a⟩|⟨b,a⟩
 ·dsimp only at b a;refine ⟨by rw [b];decide,λe=>?_⟩
  rw [e.2] at a;cases a
 ·dsimp only at a;omega
 ·dsimp only at b a;exact ⟨b,λ_=>by omega⟩
theorem SInv.upd {t:Int}{P:List Cl}{c:Cl}(held:Cl->Bool)(h:SInv f t l (c::P)):SInv (Zl held t (f,l) c).1 t (Zl held t (f,l) c).2 P:=by
 unfold Zl;dsimp only;by_cases a:GL f c
 ·have g:=h.now.2 a;have hcx:=h.un c a;have hctop:c.2.1<=31:=by
   rcases Int.lt_or_le c.2.1 32 with b|b
   ·omega
   ·exact absurd a.1 (h.top c b)
  rw [if_pos (by rw [Bool.and_eq_true,decide_eq_true_eq];exact a)]
  split
  ·exact h.out a g (.inl rfl)
  ·have b:=h.out a g (.inr rfl);have hl:(Qx c).1=c.1/\(Qx c).2.1=c.2.1 - 1/\(Qx c).2.2=c.2.2:=⟨rfl,rfl,rfl⟩;have:=b.into (c:=Qx c) (by omega) (by omega) (by omega) (by
    show Zz (Vj f c (f (Qx c)) (Qx c))=true;rw [QX _ (Ma c)];exact a.2)
   exact this
 ·rw [if_neg (λe=>by
   rw [Bool.and_eq_true,decide_eq_true_eq] at e;exact a e)]
  exact ⟨h.t20,h.top,h.wet,h.un,h.it,λd i=>h.pc d (List.mem_cons_of_mem _ i),(List.nodup_cons.1 h.pd).2⟩
theorem SInv.upds (held:Cl->Bool){t:Int} :∀(P:List Cl) {p:(Cl->Int)×List QI},SInv p.1 t p.2 P->SInv (P.foldl (Zl held t) p).1 t (P.foldl (Zl held t) p).2 []
 | [],_,h=>h
 | _::P,_,h=>SInv.upds held P (h.upd held)
def U2 (held:Cl->Bool)(t:Int)(p:(Cl->Int)×List QI):(Cl->Int)×List QI:=((p.2.take (Xr p.2 (t+1) 8)).map (·.2)).foldl (Zl held (t+1)) (p.1,p.2.drop (Xr p.2 (t+1) 8))
theorem kV (l:List QI)(now many:Int):∀x∈l.take (Xr l now many),x.1<=now:=λx e=>by
 obtain ⟨i,c⟩:=List.getElem?_of_mem e;have a:=(List.getElem?_eq_some_iff.1 c).1;rw [List.length_take] at a;obtain ⟨y,d,b⟩:=Ea l now i (by unfold Xr at a;omega)
 rw [List.getElem?_take_of_lt (by omega)] at c
 rw [c] at d;rw [pE d];exact b
theorem SInv.due {t:Int}(h:SInv f t l [])(h20:t<=19)(m:QH l):SInv f (t+1) (l.drop (Xr l (t+1) 8)) ((l.take (Xr l (t+1) 8)).map (·.2)):=by
 have ht:=h.t20;have XZ:∀x:QI,F9 f t x->F9 f (t+1) x:=λx b=>b.imp_right (Or.imp_right λ⟨d,i⟩=>⟨d,by omega⟩)
 have a:((l.take (Xr l (t+1) 8)).map (·.2)++(l.drop (Xr l (t+1) 8)).map (·.2)).Nodup:=by
  rw [<-List.map_append,List.take_append_drop];exact m
 rw [List.nodup_append] at a;exact ⟨by omega,h.top,λh19=>h.wet (by omega),λc g=>by have:=h.un c g;omega,λx b=>⟨(h.it x (List.mem_of_mem_drop b)).1,XZ x (h.it x (List.mem_of_mem_drop b)).2⟩,λc g=>by
  obtain ⟨y,j,rfl⟩:=List.mem_map.1 g;have hle:=kV l (t+1) 8 y j;obtain ⟨k,n⟩:=h.it y (List.mem_of_mem_take j);refine ⟨k,?_,λx b e=>absurd e.symm (a.2.2 _ g _ (List.mem_map.2 ⟨x,b,rfl⟩))⟩
  rcases n with d|⟨d,i⟩|⟨d,i⟩
  ·exact .inl d
  ·omega
  ·exact .inr (.inr ⟨d,by dsimp only;omega⟩),a.1⟩
theorem SInv.tick {t:Int}(held:Cl->Bool)(h:SInv f t l [])(a:t<=19)(b:QH l):SInv (U2 held t (f,l)).1 (t+1) (U2 held t (f,l)).2 []:=
 SInv.upds held _ (p:=(f,l.drop (Xr l (t+1) 8))) (h.due a b)
theorem SInv.edit (h:SInv f 0 l [])(m:(3<=c.1/\c.1<=12)/\(3<=c.2.2/\c.2.2<=12))(hy:18<=c.2.1)(h31:c.2.1<=31):SInv (Yf 0 (f,l) c 3).1 0 (Yf 0 (f,l) c 3).2 []:=by
 have XZ:∀x:QI,F9 f 0 x->F9 (Vj f c 3) 0 x:=λx j=>by
  by_cases e:x.2=c
  ·rcases j with ⟨b,a⟩|⟨b,a⟩|⟨b,a⟩
   ·refine .inl ⟨by rw [e,Zt],?_⟩
    rw [QX 3 (by rw [e];exact Ma c)]
    exact a
   ·rw [e] at b;have:=h.wet (by decide) c b
    omega
   ·exact .inr (.inr ⟨by rw [e,Zt];decide,a⟩)
  ·rcases j with ⟨b,a⟩|⟨b,a⟩|⟨b,a⟩
   ·refine .inl ⟨by rw [QX 3 e];exact b,?_⟩
    by_cases i:Qx x.2=c
    ·rw [i,Zt];decide
    ·rw [QX 3 i];exact a
   ·exact .inr (.inl ⟨by rw [QX 3 e];exact b,a⟩)
   ·exact .inr (.inr ⟨by rw [QX 3 e];exact b,a⟩)
 have b:SInv (Vj f c 3) 0 l []:=⟨by decide,λd g=>by
  by_cases e:d=c
  ·rw [e] at g;omega
  ·rw [QX 3 e];exact h.top d g,λk d g=>by
  by_cases e:d=c
  ·rw [e,Zt] at g;exact absurd g (by decide)
  ·rw [QX 3 e] at g;exact h.wet k d g,λd g=>by
  obtain ⟨b,a⟩:=g;by_cases e:d=c
  ·rw [e];exact ⟨by omega,m⟩
  ·rw [QX 3 e] at b;by_cases i:Qx d=c
   ·rw [i,Zt] at a;exact absurd a (by decide)
   ·rw [QX 3 i] at a;exact h.un d ⟨b,a⟩,λx j=>⟨(h.it x j).1,XZ x (h.it x j).2⟩,(λd g=>by cases g),List.nodup_nil⟩
 exact b.wake m (by omega) (by omega)
theorem Eg (t:Int)(p:(Cl->Int)×List QI)(c:Cl)(b:Int):∀x∈(Yf t p c b).2,x∈p.2∨x.2∈c::YL c:=λx a=>by
 rcases Cc _ _ _ a with h|⟨h,-⟩
 ·exact .inl h
 ·exact .inr (List.mem_filter.1 h).1
theorem Of {g:List QI}(U:List Cl)(m:QH g)(h:∀x∈g,x∈l∨x.2∈U):g.length<=l.length+U.length:=by
 have key:∀(a b:List Cl),a.Nodup->(∀x∈a,x∈b)->a.length<=b.length:=by
  intro a;induction a with
  | nil=>intro b _ _;simp
  | cons x a n=>
   intro b k j;have d:=j x List.mem_cons_self;have f:=n (b.erase x) (List.nodup_cons.1 k).2 λy i=>(List.mem_erase_of_ne (λe=>(List.nodup_cons.1 k).1 (by rw [<-e];exact i))).2 (j y (List.mem_cons_of_mem _ i))
   have h2:=List.length_erase_of_mem d;have h3:=List.length_pos_of_mem d;simp only [List.length_cons];omega
 have:=key (g.map (·.2)) (l.map (·.2)++U) m λc o=>by
  obtain ⟨x,d,rfl⟩:=List.mem_map.1 o;rcases h x d with f|f
  ·exact List.mem_append_left _ (List.mem_map.2 ⟨x,f,rfl⟩)
  ·exact List.mem_append_right _ f
 simpa using this
theorem UE (t:Int){p:(Cl->Int)×List QI}(c:Cl)(b:Int)(a:QH p.2):QH (Yf t p c b).2:=CI _ _ _ a
theorem MV (t:Int){p:(Cl->Int)×List QI}(c:Cl)(b:Int)(a:Xh p.2):Xh (Yf t p c b).2:=AD _ _ _ a
theorem Mb (held:Cl->Bool)(t:Int){p:(Cl->Int)×List QI}(c:Cl)(a:QH p.2):QH (Zl held t p c).2:=by
 unfold Zl;split
 ·split
  ·exact UE _ _ _ a
  ·exact UE _ _ _ (UE _ _ _ a)
 ·exact a
theorem Og (held:Cl->Bool)(t:Int){p:(Cl->Int)×List QI}(c:Cl)(b:QH p.2):(Zl held t p c).2.length<=p.2.length+12:=by
 refine Of (c::YL c++[(c.1 - 1,c.2.1 - 1,c.2.2),(c.1+1,c.2.1 - 1,c.2.2),(c.1,c.2.1 - 1 - 1,c.2.2),(c.1,c.2.1 - 1,c.2.2 - 1),(c.1,c.2.1 - 1,c.2.2+1)]) (Mb held t c b) λx a=>?_
 have e:∀d,d∈Qx c::YL (Qx c)->d∈c::YL c++[(c.1 - 1,c.2.1 - 1,c.2.2),(c.1+1,c.2.1 - 1,c.2.2),(c.1,c.2.1 - 1 - 1,c.2.2),(c.1,c.2.1 - 1,c.2.2 - 1),(c.1,c.2.1 - 1,c.2.2+1)]:=λd b=>by
  simp only [YL,Qx,List.mem_cons,List.not_mem_nil,or_false,List.cons_append,List.nil_append] at b ⊢;rcases b with rfl|rfl|rfl|rfl|rfl|rfl|rfl
  ·simp
  ·simp
  ·simp
  ·simp
  ·left;rw [show c.2.1 - 1+1=c.2.1 by omega]
  ·simp
  ·simp
 unfold Zl at a;split at a
 ·split at a
  ·exact (Eg _ _ _ _ x a).imp_right (List.mem_append_left _)
  ·rcases Eg _ _ _ _ x a with h|h
   ·exact (Eg _ _ _ _ x h).imp_right (List.mem_append_left _)
   ·exact .inr (e _ h)
 ·exact .inl a
theorem Md (held:Cl->Bool)(t:Int):∀(P:List Cl) {p:(Cl->Int)×List QI},QH p.2->(P.foldl (Zl held t) p).2.length<=p.2.length+12 * P.length/\QH (P.foldl (Zl held t) p).2
 | [],_,a=>⟨by simp,a⟩
 | c::P,_,a=>by
  obtain ⟨h1,b⟩:=Md held t P (Mb held t c a);refine ⟨?_,b⟩;have:=Og held t c a;rw [List.foldl_cons,List.length_cons];omega
theorem bf (held:Cl->Bool)(t:Int)(c:QH l):(U2 held t (f,l)).2.length<=l.length+96/\QH (U2 held t (f,l)).2:=by
 have a:QH (l.drop (Xr l (t+1) 8)):=List.Nodup.sublist ((List.drop_sublist _ _).map _) c;obtain ⟨b,d⟩:=Md held (t+1) ((l.take (Xr l (t+1) 8)).map (·.2)) (p:=(f,l.drop (Xr l (t+1) 8))) a;refine ⟨?_,d⟩;have h3:((l.take (Xr l (t+1) 8)).map (·.2)).length<=8:=by
  rw [List.length_map,List.length_take];unfold Xr;omega
 have h4:(l.drop (Xr l (t+1) 8)).length<=l.length:=by rw [List.length_drop];omega
 unfold U2;dsimp only at b ⊢;omega
theorem Mf (t:Int){p:(Cl->Int)×List QI}(c:Cl)(b:Int)(a:QH p.2):(Yf t p c b).2.length<=p.2.length+7:=by
 have:=Of (c::YL c) (UE t c b a) (Eg t p c b);simpa [YL] using this
end
section
open Go.RowKit
attribute [local go_sem] Oper.semAt_some
abbrev Yk (b:B8):List Value:=[int u8 (n8 b)]
theorem bg (b:B8):(Yk b).length=1:=rfl
abbrev Oh (n:Int):List Value:=[int i64 n]
def QB (n:Int):List B8:=[BitVec.ofInt 8 (n / 1099511627776),BitVec.ofInt 8 (n / 4294967296),BitVec.ofInt 8 (n / 16777216),BitVec.ofInt 8 (n / 65536),BitVec.ofInt 8 (n / 256),BitVec.ofInt 8 n]
theorem Cd (n:Int):(QB n).length=6:=rfl
def QG (w:World)(base:Nat)(v:Value)(bs:List B8)(v':Value)(w':World):Prop:=Q5 w' base 5 1 Yk v' bs/\Kept (λb=>v.ownBlock≠some b) w w'/\(v'.ownBlock=v.ownBlock∨∀b,v'.ownBlock=some b->w.heap.size<=b)
theorem QG.refl {w:World}{v:Value}(h:Q5 w base 5 1 Yk v bs):QG w base v bs v w:=⟨h,Kept.refl _ _,.inl rfl⟩
theorem QG.push {w:World}{v:Value}(h:QG w base v bs v' wr)(a:base<=w.heap.size)(hl:bs.length<=1000000){x:B8}(z:n8 x=y):
  ∃v2 i,(Builtin.append_ #[51,51] 51 #[v',.slice (some ⟨wr.heap.size,0,none⟩) 1 1]).run prog (wr.alloc (.cells #[int u8 y] 5))=.ok v2 i/\QG w base v (bs++[x]) v2 i:=by
 subst z;obtain ⟨s,o,q⟩:=h;have d:Below wr.heap.size wr (wr.alloc (.cells #[int u8 (n8 x)] 5)):=Q3 _ _;have B:Q0 (wr.alloc (.cells #[int u8 (n8 x)] 5)) wr.heap.size 5 #[int u8 (n8 x)]:=Q0.fresh rfl;obtain ⟨g,c,i,hrun,p,t,n⟩:=Yr (P:=prog) (base:=base) (e:=5) (size:=1) (enc:=Yk) (v:=v') (xs:=bs) (ts:=51) (ty:=51) (b:=wr.heap.size) (x:=x) underlying51 DD rfl (by decide) (by decide) rfl (by intro u k;simp [Yk] at k;rcases k with rfl;rfl) (s.on d) (λj u k=>by rw [B.cell j];simpa [Yk] using k) (by omega) (pB a (pB o.size d.size))
 have l:=XQ t;refine ⟨_,i,hrun,p,?_,?_⟩
 ·have f:Kept (λb=>v.ownBlock≠some b/\b<w.heap.size) w i:=((o.on d).mono λb a=>a.1).trans (l.mono λb a e=>by
   rcases q with h|h
   ·exact a.1 (h.symm.trans e)
   ·have:=h b e;have:=a.2;omega)
  exact ⟨f.os,f.tape,f.output,f.size,λb a A=>f.block b a ⟨A,a⟩⟩
 ·rcases n with h|h
  ·rcases q with m|m
   ·exact .inl (by rw [<-m,h];rfl)
   ·refine .inr λb e=>?_
    have r:b=g:=by simpa [Value.ownBlock] using e.symm
    rw [r];exact m g h
  ·refine .inr λb e=>?_
   have r:b=g:=by simpa [Value.ownBlock] using e.symm
   have:=o.size;have:=d.size;omega
theorem QG.six {w:World}{v:Value}(h:QG w base v bs v' wr)(a:base<=w.heap.size)(hl:bs.length<=900000)(n:Int):
  ∃k c v2 f v3 d v4 b v5 g i j,
   (Builtin.append_ #[51,51] 51 #[v',.slice (some ⟨wr.heap.size,0,none⟩) 1 1]).run prog (wr.alloc (.cells #[int u8 (n / 1099511627776%256)] 5))=.ok k c/\
   (Builtin.append_ #[51,51] 51 #[k,.slice (some ⟨c.heap.size,0,none⟩) 1 1]).run prog (c.alloc (.cells #[int u8 (n / 4294967296%256)] 5))=.ok v2 f/\
   (Builtin.append_ #[51,51] 51 #[v2,.slice (some ⟨f.heap.size,0,none⟩) 1 1]).run prog (f.alloc (.cells #[int u8 (n / 16777216%256)] 5))=.ok v3 d/\
   (Builtin.append_ #[51,51] 51 #[v3,.slice (some ⟨d.heap.size,0,none⟩) 1 1]).run prog (d.alloc (.cells #[int u8 (n / 65536%256)] 5))=.ok v4 b/\
   (Builtin.append_ #[51,51] 51 #[v4,.slice (some ⟨b.heap.size,0,none⟩) 1 1]).run prog (b.alloc (.cells #[int u8 (n / 256%256)] 5))=.ok v5 g/\
   (Builtin.append_ #[51,51] 51 #[v5,.slice (some ⟨g.heap.size,0,none⟩) 1 1]).run prog (g.alloc (.cells #[int u8 (n%256)] 5))=.ok i j/\QG w base v (bs++QB n) i j:=by
 obtain ⟨k,c,u,o⟩:=h.push a (by omega) (QF (n / 1099511627776))
 obtain ⟨v2,f,p,g2⟩:=o.push a (by simp;omega) (QF (n / 4294967296))
 obtain ⟨v3,d,q,y⟩:=g2.push a (by simp;omega) (QF (n / 16777216))
 obtain ⟨v4,b,t,l⟩:=y.push a (by simp;omega) (QF (n / 65536))
 obtain ⟨v5,g,x,s⟩:=l.push a (by simp;omega) (QF (n / 256))
 obtain ⟨i,j,r,m⟩:=s.push a (by simp;omega) (QF n)
 refine ⟨k,c,v2,f,v3,d,v4,b,v5,g,i,j,u,p,q,t,x,r,?_⟩;have e:bs++QB n=bs++[BitVec.ofInt 8 (n / 1099511627776)]++[BitVec.ofInt 8 (n / 4294967296)]++[BitVec.ofInt 8 (n / 16777216)]++[BitVec.ofInt 8 (n / 65536)]++[BitVec.ofInt 8 (n / 256)]++[BitVec.ofInt 8 n]:=by simp [QB]
 rw [e];exact m
def YX (l:List Int):List B8:=l.flatMap QB
theorem YT:∀l:List Int,(YX l).length=l.length * 6
 | []=>rfl
 | n::l=>by
  have:=YT l;unfold YX at *;rw [List.flatMap_cons,List.length_append,Cd,this,List.length_cons];omega
theorem Mg (base j:Nat)(v:Value)(bs:List B8)(l:List Int)(E:l.length<=16)(a:bs.length<=800000)(w:World)(p:Q5 w base 5 1 Yk v bs)(c:base<=w.heap.size)(i:Q0 w j 3 (l.map λn=>Value.int .i64 n).toArray)(d:v.ownBlock≠some j):
  Calls prog 34 #[v,.slice (some ⟨j,0,none⟩) l.length l.length] w λr w'=>∃v',r=.returned v'/\QG w base v (bs++YX l) v' w':=by
 obtain ⟨n,f⟩:=pt l.length;rw [<-f] at E ⊢;have u:=pp (py a (py p (py c (py i (py d f)))));clear a p c i d f;go_enter func34,ntmps34;go_upto_region 2 with fail
 go_loopw [0,6,7,10] (λH _ _ kv wr=>∃k:Nat,kv=.int .i64 k/\Hid (k<=n)/\Hid (QG w base v (bs++YX (l.take k)) H wr)) (λ_ _ _ kv _=>n - (intOf kv).toNat)
 case atStart=>exact ⟨0,rfl,pC _,pp (by have:=QG.refl u.o.2.1;simpa [YX] using this)⟩
 case round=>
  obtain ⟨k,rfl,A,m⟩:=hrel;by_cases s:k<n
  ·have hin:(k:Int)<(n:Int):=by omega
   have hi0:(0:Int)<=(k:Int):=by omega
   have YV:IntKind.i64.wrap ((k:Int)+1)=(k:Int)+1:=pJ _ (by omega)
   obtain ⟨a,p,c,i,d,f⟩:=u.o;obtain ⟨x,t⟩:∃x,l[k]?=some x:=⟨_,pH (by omega)⟩
   have g:=m.out.2.1.blk d i;have r0:wr.cell? ⟨j,k,none⟩=some (int i64 x):=by
    rw [g.cell];simp [t]
   have b:=YT (l.take k);rw [List.length_take] at b;obtain ⟨v1,w1,v2,w2,v3,w3,v4,w4,v5,w5,v6,w6,C,z,F,B,D,G,q⟩:=m.out.six c (by rw [List.length_append];omega) x
   have e:bs++YX (l.take k)++QB x=bs++YX (l.take (k+1)):=by
    rw [List.take_add_one,t,List.append_assoc];unfold YX;rw [List.flatMap_append];rfl
   rw [e] at q;have y:=pp q;clear a p c i d f t g b q e m;go_upto_region 5 with fail
   refine wp_loop_rounds 7 ?_;rw [rounds_succ];go_wp2_with (at_builtin;refine Lib.wpList_append_run _ rfl _ _ _ _ rfl _ _ rfl rfl _ _ C ?_);rw [rounds_succ];go_wp2_with (at_builtin;refine Lib.wpList_append_run _ rfl _ _ _ _ rfl _ _ rfl rfl _ _ z ?_);rw [rounds_succ];go_wp2_with (at_builtin;refine Lib.wpList_append_run _ rfl _ _ _ _ rfl _ _ rfl rfl _ _ F ?_);rw [rounds_succ];go_wp2_with (at_builtin;refine Lib.wpList_append_run _ rfl _ _ _ _ rfl _ _ rfl rfl _ _ B ?_);rw [rounds_succ];go_wp2_with (at_builtin;refine Lib.wpList_append_run _ rfl _ _ _ _ rfl _ _ rfl rfl _ _ D ?_);rw [rounds_succ];go_wp2_with (at_builtin;refine Lib.wpList_append_run _ rfl _ _ _ _ rfl _ _ rfl rfl _ _ G ?_);rw [rounds_succ];go_wp2_with fail;go_roundw
   case rel=>exact ⟨k+1,by go_num,pp s,y⟩
   case measure=>simp [intOf];omega
  ·obtain rfl:k=n:=by have:=A.out;omega
   have hii:¬(k:Int)<(k:Int):=by omega
   go_wp2_with fail;go_returns;have h:=m.out;rw [List.take_of_length_le (by have:=u.o.2.2.2.2.2;omega)] at h
   exact ⟨_,rfl,h⟩
end
section
open Go.RowKit Go.Maps
theorem gy (bs:List B8):bs.flatMap Yk=bl (fb bs) bs.length:=by
 have:∀(k:Nat) (bs:List B8),bs.flatMap Yk=bs.map λb=>Value.int .u8 (n8 b):=λ_ bs=>by
  induction bs with
  | nil=>rfl
  | cons b bs c=>rw [List.flatMap_cons,c,List.map_cons];rfl
 rw [this 0];unfold bl;refine List.ext_getElem (by simp) λi a h2=>?_
 simp only [List.length_map] at a;simp [fb,List.getD_eq_getElem?_getD,a]
theorem Ih {w:World}{v:Value}(B:Nat)(h:Q5 w base 5 1 Yk v bs):∃q c,v=.slice q bs.length c/\GoodS w B (q,bs.length,c)/\QW w (q,bs.length,c)=bs:=by
 unfold Q5 at h;rw [gy] at h;obtain ⟨⟨q,n,c⟩,d,a,e,b⟩:=GoodS.own (base:=B) h;dsimp only at a;subst a;exact ⟨q,c,d,e,b.trans (Hp bs)⟩
theorem GoodS.rd8 {w:World}{s:SL}(h:GoodS w base s):Rd w s.1 1 Yk (QW w s):=λh0=>by
 have hl:=h.len;obtain ⟨g,o,c,e⟩:=h.byq (by omega)
 refine ⟨g,o,c,λi x b j u a=>?_⟩
 have hi:=(List.getElem?_eq_some_iff.1 b).1;have d:j=0:=by
  have:=(List.getElem?_eq_some_iff.1 a).1;simp at this;omega
 subst d;obtain rfl:Value.int .u8 (n8 x)=u:=by simpa using a
 have:=e i (by omega)
 rw [Nat.mul_one,Nat.add_zero,this];show some (Value.int .u8 (n8 ((QW w s).getD i 0)))=_;rw [List.getD_eq_getElem?_getD,b];rfl
end
section
open Go.RowKit
attribute [local go_sem] Oper.semAt_some
theorem Mh {α:Type} :∀{l:List α} {n:Nat} {a b:α},l[n]?=some a->(b::l.eraseIdx n).Perm (l.set n b)
 | [],_,_,_,h=>by simp at h
 | x::l,0,a,b,h=>by simp
 | x::l,n+1,a,b,h=>by
  have c:=Mh (l:=l) (n:=n) (a:=a) (b:=b) (by simpa using h)
  rw [List.eraseIdx_cons_succ,List.set_cons_succ];exact (List.Perm.swap x b _).trans (c.cons x)
theorem FX {α:Type} :∀{l:List α} {n:Nat} {a:α},l[n]?=some a->l.Perm (a::l.eraseIdx n)
 | [],_,_,h=>by simp at h
 | x::l,0,a,h=>by
  obtain rfl:x=a:=by simpa using h
  simp
 | x::l,n+1,a,h=>by
  have b:=FX (l:=l) (n:=n) (a:=a) (by simpa using h)
  rw [List.eraseIdx_cons_succ];exact (b.cons x).trans (List.Perm.swap a x _)
theorem Jc {α β:Type}(f:α->β):∀(l:List α) (n:Nat) (b:α),(l.set n b).map f=(l.map f).set n (f b)
 | [],_,_=>rfl
 | _::_,0,_=>rfl
 | x::l,n+1,b=>by
  rw [List.set_cons_succ,List.map_cons,List.map_cons,List.set_cons_succ,Jc f l n b]
theorem Mj {α:Type} :∀{l:List α} {n:Nat} {a:α},l[n]?=some a->l.set n a=l
 | [],_,_,h=>rfl
 | x::l,0,a,h=>by
  obtain rfl:x=a:=by simpa using h
  rfl
 | x::l,n+1,a,h=>by rw [List.set_cons_succ,Mj (by simpa using h)]
section
variable {w w':World}{t s d a n:Nat}{v:Value}{L:List (Nat×TI)}{Ms Mi M:Nat->Prop}{T:TS}{i:TI}
theorem TbAt.disk (h:TbAt w t s d v L Ms Mi T){m:DS}(k:Yw w 0 Ms d m w'):∃c,TbAt w' t s d v L c Mi { T with d:=m }/\(∀b,c b->Ms b∨w.heap.size<=b)/\Kept (λb=>¬Ms b) w w':=by
 have hs:=h.st;have f:∀b,b=t∨b=s∨v.ownBlock=some b∨Mi b->¬Ms b:=λb a j=>by
  obtain ⟨-,-,g⟩:=h.st.disk.mine j;rcases a with rfl|rfl|a|a
  ·rcases g _ _ h.blk with h|h<;>revert h<;>decide
  ·rcases g _ _ h.st.blk with h|h<;>revert h<;>decide
  ·obtain ⟨-,cur',i⟩:=QC h.row a;rcases g _ _ i with h|h<;>revert h<;>decide
  ·obtain ⟨t',cur,p,i⟩:=BY h.its a;rcases g _ _ p with rfl|rfl<;>rcases i with h|h|h<;>revert h<;>decide
 have nob:∀b cs,Q0 w b 5 cs->¬Ms b:=λb cs q j=>by
  rcases (h.st.disk.mine j).2.2 _ _ q with h|h<;>revert h<;>decide
 obtain ⟨c,n,o,e⟩:=k;exact ⟨c,⟨e.blk (f t (.inl rfl)) h.blk,⟨e.blk (f s (.inr (.inl rfl))) h.st.blk,n,pC _⟩,h.row.keep e λb a=>f b (.inr (.inr (.inl a))),(VP L).kept h.its e (λb a=>f b (.inr (.inr (.inr a)))) nob,h.l⟩,o,e⟩
theorem TbAt.itemN (h:TbAt w t s d v L Ms Mi T)(q:L[n]?=some (a,i)):∃A,UY a i w A/\(∀b,A b->Mi b)/\∀(f:TI) (w':World),Q6 (UY a f) w A w'->
  ∃e,TbAt w' t s d v (L.set n (a,f)) Ms e { T with l:=T.l.set n f }/\∀b,e b->Mi b∨w.heap.size<=b:=by
 obtain ⟨A,B,p,z,x,u⟩:CY ((a,i)::L.eraseIdx n) w Mi:=Ar (FX q) Mi h.its;refine ⟨A,p,λb c=>(u b).2 (.inl c),λf w' k=>?_⟩
 have m:=k.kept;have g:∀b,b=t∨b=s∨Ms b∨v.ownBlock=some b->¬A b:=λb c r=>by
  obtain ⟨t',cur,j,o⟩:=p.type r;rcases c with rfl|rfl|c|c
  ·obtain rfl:=Q7 j h.blk;rcases o with h|h|h<;>revert h<;>decide
  ·obtain rfl:=Q7 j h.st.blk;rcases o with h|h|h<;>revert h<;>decide
  ·rcases (h.st.disk.mine c).2.2 _ _ j with rfl|rfl<;>rcases o with h|h|h<;>revert h<;>decide
  ·obtain ⟨-,cur',E⟩:=QC h.row c;obtain rfl:=Q7 j E;rcases o with h|h|h<;>revert h<;>decide
 obtain ⟨e,y,C,k3⟩:=Jo (M:=Mi) (Di a i) (VP (L.eraseIdx n)) p z x u k;have D:(L.set n (a,f)).map (·.1)=L.map (·.1):=by
  rw [Jc];exact Mj (by rw [List.getElem?_map,q];rfl)
 refine ⟨e,⟨m.blk (g t (.inl rfl)) h.blk,⟨m.blk (g s (.inr (.inl rfl))) h.st.blk,h.st.disk.kept m (λb c=>g b (.inr (.inr (.inl c)))) (λb c=>by
  rcases c with c|⟨cur,c⟩
  ·omega
  ·exact λr=>(Di a i).nob p b r cur c),pC _⟩,?_,Ar (Mh q) e y,by rw [Jc,h.l]⟩,C⟩
 rw [D];exact h.row.keep m λb c=>g b (.inr (.inr (.inr c)))
theorem UY.mark {c:Nat}{Mc:Nat->Prop}(g:Q0 w a 142 #[c,.bool i.dirty,int i64 i.pins])(d:Uz c i.x i.z i.cs w Mc)(o:∀b,M b↔b=a∨Mc b)(k:Bool):Q6 (UY a { i with dirty:=k }) w M (w.setCell ⟨a,1,none⟩ (.bool k)):=by
 have l:Kept (λb=>b≠a) w (w.setCell ⟨a,1,none⟩ (.bool k)):=(Kept.refl _ _).setCell (by simp) _
 have f:=(YD c i.x i.z i.cs).kept d l (λb j e=>by
  subst e;obtain ⟨t',cur,n,m⟩:=d.type j;obtain rfl:=Q7 n g;rcases m with h|h<;>revert h<;>decide) (λb cs j e=>by
  subst e;exact absurd (Q7 j g) (by decide))
 have:=UY.turn (i:=i) g d o rfl (Q6.same f);exact this
end
end
end Go.Proofs.YtmbccnioijokfaaGreatDoor