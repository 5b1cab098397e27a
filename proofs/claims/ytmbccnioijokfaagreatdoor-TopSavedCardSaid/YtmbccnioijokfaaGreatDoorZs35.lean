/- A part of the proof. -/
import Derived.Test.YtmbccnioijokfaaGreatDoorZs34
import Derived.Test.YtmbccnioijokfaaGreatDoorZs31
import Derived.Test.YtmbccnioijokfaaGreatDoorZs30
namespace Go.Proofs.YtmbccnioijokfaaGreatDoor
set_option maxRecDepth 100000
set_option maxHeartbeats 32000000
open Go.Value (int)
open Go.IntKind (i64 u8)
open Go.Proofs.Tryz
variable {N b g n m B:Nat}{W w1:World}{v8:Value}{Ms:Nat -> Prop}{ws:List ByteArray}{cs:Array Value}
section
open Go.RowKit Go.Maps
attribute [local go_sem] Oper.semAt_some
theorem mZ:(prog.info? 68).map (λi=>(i.zero,i.size,i.bytes))=some (some (.pointer none),1,8):=by kernel_rfl
theorem gc {a:Nat}(i:Q0 W b 68 #[a])(l:N<=W.heap.size):
  ∃g c w',(Builtin.append_ #[206,206] 206 #[.slice none 0 0,.slice (some ⟨b,0,none⟩) 1 1]).run prog W=.ok (.slice (some ⟨g,0,none⟩) 1 c) w'/\Q5 w' N 68 1 Zj (.slice (some ⟨g,0,none⟩) 1 c) [a]/\Below N W w':=by
 obtain ⟨v',w',hrun,k,-,f,g,c,h⟩:=V0 (P:=prog) (ts:=206) (ty:=206) (enc:=Zj) (x:=a) (b:=b) (w:=W) (base:=N) (xs:=([]:List Nat)) (v:=.slice none 0 0) underlying206 mZ rfl (by decide) (by decide) rfl (by intro u d;simp [Zj] at d;rcases d with rfl;rfl) Q5.nil (λj u d=>by rw [i.cell j];simpa [Zj] using d) (by decide) l
 have e:v'=.slice (some ⟨g,0,none⟩) 1 c:=h;subst e;exact ⟨g,c,w',hrun,k,f⟩
theorem gd {x:BD}(f:Q0 W b 40 (Z5 x))(k:N<=W.heap.size):
  ∃g c w',(Builtin.append_ #[218,218] 218 #[.slice none 0 0,.slice (some ⟨b,0,none⟩) 1 1]).run prog W=.ok (.slice (some ⟨g,0,none⟩) 1 c) w'/\Q5 w' N 40 9 VO (.slice (some ⟨g,0,none⟩) 1 c) [x]/\Below N W w':=by
 obtain ⟨v',w',hrun,h,-,d,g,c,e⟩:=V0 (P:=prog) (ts:=218) (ty:=218) (enc:=VO) (x:=x) (b:=b) (w:=W) (base:=N) (xs:=([]:List BD)) (v:=.slice none 0 0) underlying218 cM rfl (by decide) (by decide) rfl (jP x) Q5.nil (λj u i=>by rw [f.cell j];simpa [VO] using i) (by decide) k
 have a:v'=.slice (some ⟨g,0,none⟩) 1 c:=e;subst a;exact ⟨g,c,w',hrun,h,d⟩
def ph (N:Nat)(x:BD)(v:Value)(w:World):Prop:=∃b,v=.slice (some ⟨b,0,none⟩) 1 1/\N<=b/\Q0 w b 40 (Z5 x)
def kL (N:Nat)(x:BD):Nat->XO:=λi v w=>match i with|12=>ph N x v w|_=>True
theorem kM {N:Nat}{x:BD} :∀i v (w w':World),kL N x i v w->Below w.heap.size w w'->kL N x i v w'
 | 12,_,_,_,⟨b,c,a,d⟩,e=>⟨b,c,a,d.on e⟩
 | 0,_,_,_,_,_=>trivial
 | 1,_,_,_,_,_=>trivial
 | 2,_,_,_,_,_=>trivial
 | 3,_,_,_,_,_=>trivial
 | 4,_,_,_,_,_=>trivial
 | 5,_,_,_,_,_=>trivial
 | 6,_,_,_,_,_=>trivial
 | 7,_,_,_,_,_=>trivial
 | 8,_,_,_,_,_=>trivial
 | 9,_,_,_,_,_=>trivial
 | 10,_,_,_,_,_=>trivial
 | 11,_,_,_,_,_=>trivial
 | _+13,_,_,_,_,_=>trivial
theorem U1 {w:World}{t:TypeId}{b:BD}(h:jO w g t [b]):∀(j:Nat) (u:Value),(Z5 b)[j]?=some u->w.cell? ⟨g,j,none⟩=some u:=λj u d=>by
 obtain ⟨cur,c,a⟩:=h;rw [c.cell];have:=a 0 b rfl j u (by simpa [VO] using d)
 simpa using this
theorem aQ {w:World}{t:TypeId}{q:Option Addr}{c:Nat}{b:BD}(h:IT w n t (.slice q 1 c) [b]):∃g,q=some ⟨g,0,none⟩/\n<=g/\jO w g t [b]:=by
 obtain ⟨q',c',d,-,-,f⟩:=h;obtain ⟨g,a,e,i⟩:=f (by simp)
 injection d with e1
 exact ⟨g,e1.trans a,e,i⟩
abbrev J4 (w:World)(a:Nat)(b:BD):World:=((((((((w.setCell ⟨a,0,none⟩ (int i64 b.1)).setCell ⟨a,1,none⟩ (int i64 b.2.1)).setCell ⟨a,2,none⟩ (int i64 b.2.2.1)).setCell ⟨a,3,none⟩ (int i64 b.2.2.2.1)).setCell ⟨a,4,none⟩ (int i64 b.2.2.2.2.1)).setCell ⟨a,5,none⟩ (int i64 b.2.2.2.2.2.1)).setCell ⟨a,6,none⟩ (int i64 b.2.2.2.2.2.2.1)).setCell ⟨a,7,none⟩ (int i64 b.2.2.2.2.2.2.2.1)).setCell ⟨a,8,none⟩ (.bool b.2.2.2.2.2.2.2.2)
theorem cV {K:Nat->Prop}{w0 w:World}(h:Kept K w0 w){a:Nat}(c:¬K a)(b:BD):Kept K w0 (J4 w a b):=
 ((((((((h.setCell (p:=⟨a,0,none⟩) c _).setCell (p:=⟨a,1,none⟩) c _).setCell (p:=⟨a,2,none⟩) c _).setCell (p:=⟨a,3,none⟩) c _).setCell (p:=⟨a,4,none⟩) c _).setCell (p:=⟨a,5,none⟩) c _).setCell (p:=⟨a,6,none⟩) c _).setCell (p:=⟨a,7,none⟩) c _).setCell (p:=⟨a,8,none⟩) c _
abbrev Lf.go (l:Lf)(b:BD):Lf:=⟨l.a,b,l.x,l.z,l.j⟩
theorem cW (w:World)(a:Nat)(b:BD):Kept (λg=>g≠a) w (J4 w a b):=cV (K:=λg=>g≠a) (Kept.refl _ w) (λh=>h rfl) b
theorem n7 {w:World}{a:Nat}{ty:TypeId}{v0 l v2 v3 v4 v5 j m v9 i u2:Value}(h:Q0 w a ty #[v0,l,v2,v3,v4,v5,j,m,v8,v9,i,u2])(x0 x1 x2 c b e g d f:Value):
  Q0 (((((((((w.setCell ⟨a,0,none⟩ x0).setCell ⟨a,1,none⟩ x1).setCell ⟨a,2,none⟩ x2).setCell ⟨a,3,none⟩ c).setCell ⟨a,4,none⟩ b).setCell ⟨a,5,none⟩ e).setCell ⟨a,6,none⟩ g).setCell ⟨a,7,none⟩ d).setCell ⟨a,8,none⟩ f) a ty #[x0,x1,x2,c,b,e,g,d,f,v9,i,u2]:=by
 have k:=((((((((h.set_ 0 x0).set_ 1 x1).set_ 2 x2).set_ 3 c).set_ 4 b).set_ 5 e).set_ 6 g).set_ 7 d).set_ 8 f;simpa using k
theorem EngAt.step {w:World}{e s wd t q:Nat}{occ:Value}{S:SS}{l:Lf}(h:EngAt w e s wd t q occ S (some l) Ms)(b:BD):EngAt (J4 w l.a b) e s wd t q occ S (some (l.go b)) Ms where
 blk:=(cW w l.a b).blk (λc=>(h.l_no rfl).2 c.symm) h.blk
 life:=λg f=>by
  obtain rfl:l.go b=g:=pE f;exact n7 (h.life l rfl) _ _ _ _ _ _ _ _ _
 sim:=(Xs s wd t q occ S).kept h.sim (cW w l.a b) (λb d c=>(h.l_no rfl).1 (c▸d)) λb cs d c=>absurd (Q7 (c▸d) (h.life l rfl)) (by decide)
def Vk (p:Option Addr)(k:Int)(v:Value):Prop:=∀w:World,(Instr.index 69 (.agg #[.pointer p,.pointer none,.pointer none,.pointer none,.pointer none,.pointer none,.pointer none,.pointer none,.pointer none,.pointer none,.pointer none,.pointer none,.pointer none,.pointer none,.pointer none,.pointer none]) (int i64 k)).run prog w=.ok v w
theorem LM (p:Option Addr):Vk p 0 (.pointer p):=λ_=>by kernel_rfl
theorem LN (p:Option Addr):Vk p 1 (.pointer none):=λ_=>by kernel_rfl
theorem LO (p:Option Addr):Vk p 2 (.pointer none):=λ_=>by kernel_rfl
theorem LP (p:Option Addr):Vk p 3 (.pointer none):=λ_=>by kernel_rfl
theorem LQ (p:Option Addr):Vk p 4 (.pointer none):=λ_=>by kernel_rfl
theorem LR (p:Option Addr):Vk p 5 (.pointer none):=λ_=>by kernel_rfl
theorem LS (p:Option Addr):Vk p 6 (.pointer none):=λ_=>by kernel_rfl
theorem LT (p:Option Addr):Vk p 7 (.pointer none):=λ_=>by kernel_rfl
theorem LU (p:Option Addr):Vk p 8 (.pointer none):=λ_=>by kernel_rfl
theorem LV (p:Option Addr):Vk p 9 (.pointer none):=λ_=>by kernel_rfl
theorem J5 (p:Option Addr):Vk p 10 (.pointer none):=λ_=>by kernel_rfl
theorem J6 (p:Option Addr):Vk p 11 (.pointer none):=λ_=>by kernel_rfl
theorem J7 (p:Option Addr):Vk p 12 (.pointer none):=λ_=>by kernel_rfl
theorem J8 (p:Option Addr):Vk p 13 (.pointer none):=λ_=>by kernel_rfl
theorem J9 (p:Option Addr):Vk p 14 (.pointer none):=λ_=>by kernel_rfl
theorem Ja (p:Option Addr):Vk p 15 (.pointer none):=λ_=>by kernel_rfl
theorem ge (e s wd t q:Nat)(occ:Value)(S S':SS)(l:Lf)(b':BD)(ax K:Int)(C:K<=71000000000000)(aq:0<=K)(hB:BOk K l.b)(A:Ft S.T.cell l.b l.x l.z l.j=b')(ha:AM S.T l.b=true)
  (hx: -1000000000000000<=Qm l.b.1/\Qm l.b.1<=1000000000000000) (hz: -1000000000000000<=Qm l.b.2.2.1/\Qm l.b.2.2.1<=1000000000000000) (hn:S.T.l.length<=1000)
  (w:World) (M:Nat->Prop) (h:Qr e s wd t q occ S (some l) w M)
  (hT:∀W1 M1,Qr e s wd t q (XS e) S (some (l.go b')) W1 M1->Calls prog 153 #[s] W1 λr w'=>r=.returned (int i64 ax)/\Q6 (Qr e s wd t q (XS e) S' (some (l.go b'))) W1 M1 w'):
  Calls prog 105 #[e] w λr w'=>r=.returned (int i64 ax)/\Q6 (Qr e s wd t q (XS e) S' (some (l.go b'))) w M w':=by
 obtain ⟨Ms,h,hM⟩:=h;have hmf:∀(fn:Fn) (first cap:Array Value) (w:World),(Instr.makeFunc fn first cap).run prog w=.ok (.func fn first cap) w:=λ_ _ _ _=>rfl
 have m:Q0 w e 71 (Ua s (some ⟨l.a,0,none⟩)):=h.blk;have e1:=m.cell 1;have e2:=m.cell 2;have e3:=m.cell 3;have e4:=m.cell 4;have e5:=m.cell 5;have e6:=m.cell 6;have e7:=m.cell 7;have e8:=m.cell 8;have e9:=m.cell 9;have be:=m.cell 10;have bi:=m.cell 11;have bh:=m.cell 12;have a5:=m.cell 13;have bc:=m.cell 14;have a4:=m.cell 15;have a9:=m.cell 16;have i0:=LM (some ⟨l.a,0,none⟩);have i1:=LN (some ⟨l.a,0,none⟩);have i2:=LO (some ⟨l.a,0,none⟩);have i3:=LP (some ⟨l.a,0,none⟩);have i4:=LQ (some ⟨l.a,0,none⟩);have i5:=LR (some ⟨l.a,0,none⟩);have i6:=LS (some ⟨l.a,0,none⟩);have i7:=LT (some ⟨l.a,0,none⟩);have i8:=LU (some ⟨l.a,0,none⟩);have i9:=LV (some ⟨l.a,0,none⟩);have ao:=J5 (some ⟨l.a,0,none⟩);have aa:=J6 (some ⟨l.a,0,none⟩);have am:=J7 (some ⟨l.a,0,none⟩);have an:=J8 (some ⟨l.a,0,none⟩);have ai:=J9 (some ⟨l.a,0,none⟩);have av:=Ja (some ⟨l.a,0,none⟩);unfold Vk at i0 i1 i2 i3 i4 i5 i6 i7 i8 i9 ao aa am an ai av;have I:=GJ e s wd t q occ S (some l) l.b hx hz hn w Ms h;rw [ha] at I;have a0:=pp I;have ab:=pp λB (g:Below w.heap.size w B)=>J3 e s wd t q occ S (some l) B Ms (h.on g)
 have aw:∀B (g:Below w.heap.size w B),Yy prog 67 (.pointer (some ⟨t,0,none⟩)) S.T.cell B:=λB g=>by
  obtain ⟨v,ds,Mw,Mq,hs,-⟩:=(h.on g).sim;exact hs.tells hn
 have R:=λB (g:Below w.heap.size w B)=>fx 67 (.pointer (some ⟨t,0,none⟩)) S.T.cell l.b l.x l.z l.j K C aq hB B (enters_of func67 (by kernel_rfl) rfl) (aw B g)
 rw [A] at R;have a1:=pp R;have HS:=pp (py h hM);have y:=pp (h.life l rfl);have HT:=pp hT;have m0:=y.o.cell 0;have m1:=y.o.cell 1;have m2:=y.o.cell 2;have m3:=y.o.cell 3;have m4:=y.o.cell 4;have Y:=y.o.cell 5;have m6:=y.o.cell 6;have V:=y.o.cell 7;have m8:=y.o.cell 8;clear h hM m I aw R hT A ha hx hz hn hB C aq;go_enter func105,ntmps105;go_upto_region 4 with fail
 refine wp_loop_rounds 17 ?_;rw [rounds_succ];go_upto_region 7 with (go_at_call 136;refine a0.o.mono ?_;rintro e_ w1 ⟨rfl,G1⟩;replace G1:=pp G1)
 clear e1 e2 e3 e4 e5 e6 e7 e8 e9 be bi bh a5 bc a4 a9 m0 m1 m2 m3 m4 Y m6 V m8;go_upto_region 8 with (at_builtin;obtain ⟨g,c,G,hrun,X,ah⟩:=gc (N:=w.heap.size) (a:=l.a) (W:=w1.alloc (.cells #[l.a] 68)) (Q0.new' rfl) (pB G1.o.size (Q3 _ _).size);have n:=pp (py X (BE G1.o (pA _) (Q3 _ _) |>.trans (ah.mono (by simp))));clear X ah;refine Lib.wpList_append_run _ rfl _ _ _ _ rfl _ _ rfl rfl _ _ hrun ?_)
 clear i0;go_wp2_with fail
 iterate 15 (rw [rounds_succ];go_wp2_with fail)
 rw [rounds_succ];go_upto_region 10 with fail
 clear i1 i2 i3 i4 i5 i6 i7 i8 i9 ao aa am an ai av;have P:=pp (show ∀W,Below G.heap.size G W->W.cell? ⟨g,0,none⟩=some (.pointer (some ⟨l.a,0,none⟩)) from λW hW=>by
  obtain ⟨q,cap,hv,-,-,bg,-⟩:=(n.o.1.on hW).form BZ;obtain ⟨g',o',hq,h5⟩:=bg (by simp)
  injection hv with e1
  rw [<-e1] at hq;injection hq with hq
  injection hq with e2 e3
  have:=h5 0 _ rfl 0 _ rfl;rw [<-e2,<-e3] at this;exact this)
 have g0:=P.o G (.refl _ _);refine wp_loop_rounds 2 ?_;rw [rounds_succ];go_upto_region 12 with fail
 clear g0;have i:=pp (y.o.on n.o.2);have m0:=λd os=>(i.o.re d os).cell 0
 have m1:=λd os=>(i.o.re d os).cell 1
 have m2:=λd os=>(i.o.re d os).cell 2
 have m3:=λd os=>(i.o.re d os).cell 3
 have m4:=λd os=>(i.o.re d os).cell 4
 have Y:=λd os=>(i.o.re d os).cell 5
 have m6:=λd os=>(i.o.re d os).cell 6
 have V:=λd os=>(i.o.re d os).cell 7
 have m8:=λd os=>(i.o.re d os).cell 8
 have m9:=λd os=>(i.o.re d os).cell 9
 have bk:=λd os=>(i.o.re d os).cell 10
 have D:=λd os=>(i.o.re d os).cell 11
 have ap:=pp λd os=>ab.o (Go.Sort.grow (redrawn G d) os) (after n.o.2 (pK G d os))
 have ad:=pp λd os=>a1.o (Go.Sort.grow (redrawn G d) os) (after n.o.2 (pK G d os))
 refine Qk [0,0,0,0,0,0,0,0,0,0,0,0,2,3,3] (kL w.heap.size b') (by kernel_rfl) (by kernel_rfl) (kM) ?_
 repeat (first|(refine Qi ?_)|(refine Qf (λK C=>?_);go_simp;first|(refine C _ ?_;clear C K)|(apply Exists.intro;refine ⟨λ_=>?_,C _ ?_⟩;(first|exact (ap.o _ _).mono λ_ _ ⟨he,hw⟩=>⟨he,by rw [<-hw];exact pI _ _⟩|exact ad.o _ _);clear C K)))
 refine Q8 ?_;repeat (first|(refine Q2 ?_)|(refine Qv ?lsA (λv_=>?_);case lsA=>(intro w_ bl hp_;((go_simp;exact ⟨Kept.of_below (Q3 _ _),_,rfl,pB n.o.2.size (Qb bl).size,Q0.new' rfl⟩)))))
 refine Qc ?_;simp only [Qd];rintro W3 h3 ⟨-,b3,rfl,af,al⟩;have G3:=pp (after n.o.2 h3);have H3:=pp h3;have bd:=pp (py af al);have HG3:=pp (P.o W3 h3);clear m0 m1 m2 m3 m4 Y m6 V m8 m9 bk D ap ad af al h3;go_upto_region 13 with (at_builtin;obtain ⟨g6,c6,w6,hrun,X,O⟩:=gd (N:=G.heap.size) bd.o.2 H3.o.size;have E:=pp (py X (py (G3.o.trans (O.mono n.o.2.size)) (H3.o.trans O)));clear X O;refine Lib.wpList_append_run _ rfl _ _ _ _ rfl _ _ rfl rfl _ _ hrun ?_)
 go_wp2_with fail;rw [rounds_succ];have a7:=pp (ab.o w6 E.o.2.1);obtain ⟨a6,H,Z,ak,-,ae,-⟩:=E.o.1.form (size:=9) (enc:=VO) (λ_=>rfl)
 obtain ⟨rfl,bj⟩:some ⟨g6,0,none⟩=a6/\c6=H:=by injection Z with e1 e2 e3;exact ⟨e1,e3⟩
 subst bj;have a8:=pp (SK (E0 t) (some ⟨g6,0,none⟩) c6 b' ak w6 ae);clear Z ak ae;go_upto_region 15 with first
  | (go_at_call 138;refine a7.o.mono ?_;rintro e_ w7 ⟨rfl,rfl⟩)
  | (go_at_call 151;refine a8.o.mono ?_;rintro e_ w7 ⟨v7,rfl,ay,g7⟩;have bf:=pp ay;obtain ⟨q7,c7,rfl,-,-,-⟩:=ay;have G7:=pp g7;clear g7)
 obtain ⟨gb,rfl,-,k⟩:=aQ bf.o;have r0:=U1 k 0 _ rfl;have r1:=U1 k 1 _ rfl;have r2:=U1 k 2 _ rfl;have r3:=U1 k 3 _ rfl;have r4:=U1 k 4 _ rfl;have r5:=U1 k 5 _ rfl;have r6:=U1 k 6 _ rfl;have r7:=U1 k 7 _ rfl;have r8:=U1 k 8 _ rfl;clear k;refine wp_loop_rounds 2 ?_;rw [rounds_succ];go_upto_region 17 with fail
 obtain ⟨W8,F⟩:=pt (w7.alloc (.cells (Z5 b') 40));have B8:=Q0.fresh F;have H8:Below w7.heap.size w7 W8:=by rw [F];exact Q3 _ _
 rw [<-F];have G8:=pp (show Below w.heap.size w W8 from after (after E.o.2.1 G7.o) H8);have a2:=P.o W8 (after (after E.o.2.2 G7.o) H8);have g0:=λd os=>cell_regrown (d:=d) (os:=os) a2
 have x0:=λd os=>(B8.re d os).cell 0
 have x1:=λd os=>(B8.re d os).cell 1
 have x2:=λd os=>(B8.re d os).cell 2
 have x3:=λd os=>(B8.re d os).cell 3
 have x4:=λd os=>(B8.re d os).cell 4
 have x5:=λd os=>(B8.re d os).cell 5
 have x6:=λd os=>(B8.re d os).cell 6
 have x7:=λd os=>(B8.re d os).cell 7
 have x8:=λd os=>(B8.re d os).cell 8
 clear r0 r1 r2 r3 r4 r5 r6 r7 r8 F B8 H8 a2;refine Qk [0,0,0,0,0,0,0,3] (λ_ _ _=>True) (by kernel_rfl) (by kernel_rfl) (λ_ _ _ _ h _=>h) ?_
 repeat (first|(refine Qi ?_)|(refine Qf (λK C=>?_);go_simp;refine C _ ?_;clear C K))
 refine Q8 ?_;repeat (refine Q2 ?_)
 refine Qc ?_;simp only [Qd];intro W9 g9 _;have G9:=pp (after G8.o g9);clear g9 g0 x0 x1 x2 x3 x4 x5 x6 x7 x8;have f:=pp (y.o.on G9.o);have m0:=f.o.cell 0;have m1:=f.o.cell 1;have m2:=f.o.cell 2;have m3:=f.o.cell 3;have m4:=f.o.cell 4;have Y:=f.o.cell 5;have m6:=f.o.cell 6;have V:=f.o.cell 7;have m8:=f.o.cell 8;have f0:=f.o.frz 0;have f1:=f.o.frz 1;have f2:=f.o.frz 2;have f3:=f.o.frz 3;have f4:=f.o.frz 4;have f5:=f.o.frz 5;have f6:=f.o.frz 6;have f7:=f.o.frz 7;have f8:=f.o.frz 8;go_upto_region 18 with fail
 obtain ⟨Q,p⟩:=pt (J4 W9 l.a b');unfold J4 at p;rw [<-p];have au:=pp (show Q=J4 W9 l.a b' from p);clear p m0 m1 m2 m3 m4 Y m6 V m8 f0 f1 f2 f3 f4 f5 f6 f7 f8;have u:=pp (show EngAt Q e s wd t q occ S (some (l.go b')) Ms by rw [au.o];exact (HS.o.1.on G9.o).step b')
 go_wp2_with fail;rw [rounds_succ];have e0:=u.o.blk.cell 0;have ac:=pp (JL s wd t q occ (.func 145) #[e] #[] S Q Ms u.o.sim);go_upto_region 20 with (go_at_call 152;refine ac.o.mono ?_;rintro e_ bb ⟨rfl,J⟩;replace J:=pp J)
 obtain ⟨ba,ag,D,ar⟩:=u.o.turn J.o;have aj:=pp (HT.o bb ba ag);have U:=pp (py D ar);obtain ⟨Ms11,az,-⟩:=ag;clear e0;have e0:=az.blk.cell 0;clear az D ar ac;go_wp2_with (go_at_call 153;refine aj.o.mono ?_;rintro e_ w12 ⟨rfl,L⟩;replace L:=pp L);go_returns;refine ⟨rfl,Q6.bind (M':=AV e (some (l.go b')) Ms) (λb A=>.inl ((HS.o.2 b).2 ?_)) ?_ (Q6.bind U.o.1 U.o.2 L.o)⟩
 ·rcases A with A|⟨l',hl,A⟩|A
  ·exact .inl A
  ·obtain rfl:=pE hl;exact .inr (.inl ⟨l,rfl,A⟩)
  ·exact .inr (.inr A)
 ·rw [au.o];exact cV ((Kept.of_below G9.o).mono (K:=λb=>¬M b) λ_ h=>h) (λa3=>a3 ((HS.o.2 l.a).2 (.inr (.inl ⟨l,rfl,rfl⟩)))) b'
theorem SN (f:Value)(w:World):Calls prog 151 #[f,.slice none 0 0] w λr w'=>r=.returned (.slice none 0 0)/\Below w.heap.size w w':=by
 have g:=pp (show Calls prog 199 #[.slice none 0 0] w λr w'=>r=.returned (.slice none 0 0)/\pM w w' by
  have hnl:∀(w:World) (a:Option Addr) (n c b d:Nat),(binOp .eql 218 (.slice a n c) (.slice none b d)).run prog w=.ok (.bool a.isNone) w:=λw a n c b d=>Lib.run_eql_slice_nil w _ _ a n c b d underlying218
  go_enter func199,ntmps199;go_wp2_with fail;go_returns;exact ⟨rfl,pI _ _⟩)
 go_enter func151,ntmps151;go_upto_region 2 with (go_at_call 199;refine g.o.mono ?_;rintro e_ w1 ⟨rfl,e⟩;replace e:=pp e)
 go_upto_region 3 with fail
 refine wp_loop_rounds 1 ?_;rw [rounds_succ];go_wp2_with fail;go_returns;exact ⟨rfl,e.o⟩
theorem aR (e s wd t q:Nat)(occ:Value)(S S':SS)(l:Lf)(E:Int)(ha:AM S.T l.b=false)
  (hx: -1000000000000000<=Qm l.b.1/\Qm l.b.1<=1000000000000000) (hz: -1000000000000000<=Qm l.b.2.2.1/\Qm l.b.2.2.1<=1000000000000000) (hn:S.T.l.length<=1000)
  (w:World) (M:Nat->Prop) (h:Qr e s wd t q occ S (some l) w M)
  (hT:∀W1 M1,Qr e s wd t q (XS e) S (some l) W1 M1->Calls prog 153 #[s] W1 λr w'=>r=.returned (int i64 E)/\Q6 (Qr e s wd t q (XS e) S' (some l)) W1 M1 w'):
  Calls prog 105 #[e] w λr w'=>r=.returned (int i64 E)/\Q6 (Qr e s wd t q (XS e) S' (some l)) w M w':=by
 obtain ⟨Ms,h,hM⟩:=h;have hmf:∀(fn:Fn) (first cap:Array Value) (w:World),(Instr.makeFunc fn first cap).run prog w=.ok (.func fn first cap) w:=λ_ _ _ _=>rfl
 have c:Q0 w e 71 (Ua s (some ⟨l.a,0,none⟩)):=h.blk;have e1:=c.cell 1;have e2:=c.cell 2;have e3:=c.cell 3;have e4:=c.cell 4;have e5:=c.cell 5;have e6:=c.cell 6;have e7:=c.cell 7;have e8:=c.cell 8;have e9:=c.cell 9;have X:=c.cell 10;have Z:=c.cell 11;have Y:=c.cell 12;have L:=c.cell 13;have V:=c.cell 14;have J:=c.cell 15;have P:=c.cell 16;have i0:=LM (some ⟨l.a,0,none⟩);have i1:=LN (some ⟨l.a,0,none⟩);have i2:=LO (some ⟨l.a,0,none⟩);have i3:=LP (some ⟨l.a,0,none⟩);have i4:=LQ (some ⟨l.a,0,none⟩);have i5:=LR (some ⟨l.a,0,none⟩);have i6:=LS (some ⟨l.a,0,none⟩);have i7:=LT (some ⟨l.a,0,none⟩);have i8:=LU (some ⟨l.a,0,none⟩);have i9:=LV (some ⟨l.a,0,none⟩);have B:=J5 (some ⟨l.a,0,none⟩);have p:=J6 (some ⟨l.a,0,none⟩);have z:=J7 (some ⟨l.a,0,none⟩);have A:=J8 (some ⟨l.a,0,none⟩);have x:=J9 (some ⟨l.a,0,none⟩);have D:=Ja (some ⟨l.a,0,none⟩);unfold Vk at i0 i1 i2 i3 i4 i5 i6 i7 i8 i9 B p z A x D;have i:=GJ e s wd t q occ S (some l) l.b hx hz hn w Ms h;rw [ha] at i;have G:=pp i;have O:=pp λW2 (g:pM w W2)=>J3 e s wd t q occ S (some l) W2 Ms (h.on g)
 have HS:=pp (py h hM);have f:=pp (h.life l rfl);have HT:=pp hT;have U:=pp λW=>SN (E0 t) W
 have m0:=f.o.cell 0;have m1:=f.o.cell 1;have m2:=f.o.cell 2;have m3:=f.o.cell 3;have m4:=f.o.cell 4;have m5:=f.o.cell 5;have m6:=f.o.cell 6;have m7:=f.o.cell 7;have m8:=f.o.cell 8;clear h hM c i hT ha hx hz hn;go_enter func105,ntmps105;go_upto_region 4 with fail
 refine wp_loop_rounds 17 ?_;rw [rounds_succ];go_upto_region 7 with (go_at_call 136;refine G.o.mono ?_;rintro I w1 ⟨rfl,H⟩;replace H:=pp H)
 clear e1 e2 e3 e4 e5 e6 e7 e8 e9 X Z Y L V J P m0 m1 m2 m3 m4 m5 m6 m7 m8 i0;go_wp2_with fail
 iterate 15 (rw [rounds_succ];go_wp2_with fail)
 rw [rounds_succ];go_upto_region 10 with fail
 clear i1 i2 i3 i4 i5 i6 i7 i8 i9 B p z A x D;refine wp_loop_rounds 1 ?_;rw [rounds_succ];go_wp2_with fail;have N:=pp (O.o w1 H.o);go_upto_region 15 with first
  | (go_at_call 138;refine N.o.mono ?_;rintro I w7 ⟨rfl,rfl⟩)
  | (go_at_call 151;refine (U.o _).mono ?_;rintro I w8 ⟨rfl,g8⟩;have G8:=pp (after H.o g8);clear g8)
 refine wp_loop_rounds 1 ?_;rw [rounds_succ];have d:=pp (HS.o.1.on G8.o);have e0:=d.o.blk.cell 0;have u:=pp (JL s wd t q occ (.func 145) #[e] #[] S w8 Ms d.o.sim);go_upto_region 20 with (go_at_call 152;refine u.o.mono ?_;rintro I R ⟨rfl,j⟩;replace j:=pp j)
 obtain ⟨Q,v,n,C⟩:=d.o.turn j.o;have y:=pp (HT.o R Q v);have m:=pp (py n C);obtain ⟨Ms11,F,-⟩:=v;clear e0;have e0:=F.blk.cell 0;clear F n C u;go_wp2_with (go_at_call 153;refine y.o.mono ?_;rintro I w12 ⟨rfl,k⟩;replace k:=pp k);go_returns;exact ⟨rfl,Q6.bind (M':=AV e (some l) Ms) (λb hb=>.inl ((HS.o.2 b).2 hb)) ((Kept.of_below G8.o).mono (K:=λb=>¬M b) λ_ h=>h) (Q6.bind m.o.1 m.o.2 k.o)⟩
end
section
open Go.RowKit Go.Maps
section
variable {S:SS}{f:Cl->Int}{ql:List QI}{t:Int}{K D:Nat}
end
abbrev kN (e s wd tb q:Nat)(S S':SS)(l:Lf)(out:Int):Prop:=∀W M,Qr e s wd tb q (XS e) S (some l) W M->Calls prog 153 #[s] W λr w'=>r=.returned (int i64 out)/\Q6 (Qr e s wd tb q (XS e) S' (some l)) W M w'
theorem gg {S:SS}{t:Int}(h:S.now=t)(ht:0<=t/\t<=1000000):GI S=t+1:=by unfold GI Xj;rw [h];omega
end
section
open Go.RowKit Go.Maps
attribute [local go_sem] Oper.semAt_some
abbrev cX (w:World)(a:Nat)(x z:Int)(j:Bool):World:=((w.setCell ⟨a,9,none⟩ (int i64 x)).setCell ⟨a,10,none⟩ (int i64 z)).setCell ⟨a,11,none⟩ (.bool j)
theorem LW {K:Nat->Prop}{w0 w:World}(h:Kept K w0 w){a:Nat}(b:¬K a)(x z:Int)(j:Bool):Kept K w0 (cX w a x z j):=
 ((h.setCell (p:=⟨a,9,none⟩) b _).setCell (p:=⟨a,10,none⟩) b _).setCell (p:=⟨a,11,none⟩) b _
abbrev Lf.say (l:Lf)(x z:Int)(j:Bool):Lf:=⟨l.a,l.b,x,z,j⟩
theorem EngAt.told {w:World}{e s wd t q:Nat}{occ:Value}{S:SS}{l:Lf}(h:EngAt w e s wd t q occ S (some l) Ms)(x z:Int)(j:Bool):EngAt (cX w l.a x z j) e s wd t q occ S (some (l.say x z j)) Ms where
 blk:=(LW (K:=λg=>g≠l.a) (Kept.refl _ w) (λh=>h rfl) x z j).blk (λc=>(h.l_no rfl).2 c.symm) h.blk
 life:=λk f=>by
  obtain rfl:l.say x z j=k:=pE f;have i:=(((h.life l rfl).set_ 9 (int i64 x)).set_ 10 (int i64 z)).set_ 11 (.bool j);simpa using i
 sim:=(Xs s wd t q occ S).kept h.sim (LW (K:=λg=>g≠l.a) (Kept.refl _ w) (λh=>h rfl) x z j) (λb d c=>(h.l_no rfl).1 (c▸d)) λb cs d c=>absurd (Q7 (c▸d) (h.life l rfl)) (by decide)
theorem Oc (e s wd t q:Nat)(occ:Value)(S:SS)(l:Lf)(x z:Int)(j:Bool)(w:World)(M:Nat->Prop)(h:Qr e s wd t q occ S (some l) w M):
  Calls prog 95 #[e,int i64 0,.agg #[int i64 x,int i64 z,.bool j]] w λr w'=>r=.returned (int i64 0)/\Q6 (Qr e s wd t q occ S (some (l.say x z j))) w M w':=by
 obtain ⟨Ms,h,g⟩:=h;obtain ⟨W,f⟩:=pt (w.alloc (.cells #[int i64 x,int i64 z,.bool j] 81));have H:pM w W:=by rw [f];exact Q3 _ _
 have R:Q0 W w.heap.size 81 #[int i64 x,int i64 z,.bool j]:=by rw [f];exact Q0.new' rfl
 have d:=h.on H;have m:=pp (SF e s (some ⟨l.a,0,none⟩) W d.blk);obtain ⟨r0,r1,r2,-,-,-⟩:=R.c3;have f9:=(d.life l rfl).frz 9;have f10:=(d.life l rfl).frz 10;have f11:=(d.life l rfl).frz 11;have m9:=(d.life l rfl).cell 9;have m10:=(d.life l rfl).cell 10;have m11:=(d.life l rfl).cell 11;have u:=pp (py h (py g (py H d)));clear h g H d R;go_enter func95,ntmps95;go_upto_region 1 with fail
 rw [<-f];clear f;go_wp2_with (go_at_call 31;refine m.o.mono ?_;rintro e_ w1 ⟨rfl,rfl⟩);go_returns;obtain ⟨h,g,H,d⟩:=u.o;refine ⟨rfl,M,⟨Ms,d.told x z j,λb=>?_⟩,λb n=>.inl n,?_⟩
 ·rw [g b];constructor
  ·rintro (c|⟨p,c,i⟩|c)
   ·exact .inl c
   ·obtain rfl:=pE c;exact .inr (.inl ⟨_,rfl,i⟩)
   ·exact .inr (.inr c)
  ·rintro (c|⟨p,c,i⟩|c)
   ·exact .inl c
   ·obtain rfl:=pE c;exact .inr (.inl ⟨_,rfl,i⟩)
   ·exact .inr (.inr c)
 ·exact LW ((Kept.of_below H).mono (K:=λb=>¬M b) λ_ h=>h) (λk=>k ((g l.a).2 (.inr (.inl ⟨l,rfl,rfl⟩)))) x z j
def Pp (ty:TypeId):Prop:=ty=71∨ty=83∨Fw ty
theorem Qr.type {w:World}{e s wd t q:Nat}{occ:Value}{S:SS}{L:Option Lf}{M:Nat->Prop}(h:Qr e s wd t q occ S L w M)(c:M b):b<w.heap.size/\∀ty cs,Q0 w b ty cs->Pp ty:=by
 obtain ⟨Ms,h,a⟩:=h;exact h.type ((a b).1 c)
theorem na:¬Pp 79:=by
 intro h;rcases h with h|h|h|h|h|h
 ·revert h;decide
 ·revert h;decide
 ·revert h;decide
 ·revert h;decide
 ·rcases h with h|h|h|h|h|h|h|h|h|h<;>revert h<;>decide
 ·rcases h with h|h<;>revert h<;>decide
def QJ (sh e s wd t q:Nat)(occ:Value)(S:SS)(L:Option Lf):QK:=λw M=>∃Me,Q0 w sh 79 #[e]/\Qr e s wd t q occ S L w Me/\∀b,M b↔b=sh∨Me b
section
variable {w w' w0:World}{sh e s wd t q:Nat}{occ occ':Value}{S S':SS}{L L':Option Lf}{Me M:Nat->Prop}
theorem Qq (sh e s wd t q:Nat)(occ:Value)(S:SS)(L:Option Lf):QK.Fit 5 (QJ sh e s wd t q occ S L) where
 lt:=λ⟨Me,f,c,a⟩ b d=>by
  rcases (a b).1 d with rfl|h
  ·exact f.lt
  ·exact (c.type h).1
 nob:=λ⟨Me,f,c,a⟩ b d cs j=>by
  rcases (a b).1 d with rfl|h
  ·exact absurd (Q7 j f) (by decide)
  ·exact (YB e s wd t q occ S L).nob c b h cs j
 kept:=λ⟨Me,f,c,a⟩ i g k=>⟨Me,i.blk (g _ ((a _).2 (.inl rfl))) f,(YB e s wd t q occ S L).kept c i (λb d=>g b ((a b).2 (.inr d))) k,a⟩
theorem LX (a:Q0 w sh 79 #[e])(b:Qr e s wd t q occ S L w Me):¬Me sh:=λc=>na ((b.type c).2 _ _ a)
theorem QJ.turn (i:Q0 w sh 79 #[e])(m:Qr e s wd t q occ S L w Me)(f:∀b,M b↔b=sh∨Me b)(k:Q6 (Qr e s wd t q occ' S' L') w Me w'):Q6 (QJ sh e s wd t q occ' S' L') w M w':=by
 have d:=LX i m;obtain ⟨a,j,l,g⟩:=k;refine ⟨λb=>b=sh∨a b,⟨a,g.blk d i,j,λ_=>Iff.rfl⟩,λb c=>?_,g.mono λb c h=>c ((f b).2 (.inr h))⟩
 rcases c with rfl|c
 ·exact .inl ((f _).2 (.inl rfl))
 ·exact (l b c).imp_left λh=>(f b).2 (.inr h)
theorem Od {a:Nat}(c:Below w0.heap.size w0 w)(hN:w0.heap.size<=a)(k:Kept (λb=>b≠a) w w'):Below w0.heap.size w0 w':=c.trans (k.below c.size λb h=>by omega)
end
structure Cmd (w0:World)(sh e s wd t q:Nat)(occ:Value)(S:SS)(L:Option Lf)(M:Nat->Prop)(N a:Nat)(ws:List ByteArray)(w:World):Prop where
 sh:QJ sh e s wd t q occ S L w0 M
 new:w0.heap.size<=a
 bel:Below w0.heap.size w0 w
 arg:Z8 N a ws w
theorem Cmd.eat {w0:World}{sh e s wd t q:Nat}{occ:Value}{S:SS}{L:Option Lf}{M:Nat->Prop}{a:Nat}{c:List ByteArray}{w w':World}(h:Cmd w0 sh e s wd t q occ S L M N a ws w)(f:Z8 N a c w')(d:Kept (λb=>b≠a) w w'):Cmd w0 sh e s wd t q occ S L M N a c w':=⟨h.sh,h.new,Od h.bel h.new d,f⟩
theorem Cmd.here {w0:World}{sh e s wd t q:Nat}{occ:Value}{S:SS}{L:Option Lf}{M:Nat->Prop}{a:Nat}{w:World}(h:Cmd w0 sh e s wd t q occ S L M N a ws w):QJ sh e s wd t q occ S L w M:=(Qq sh e s wd t q occ S L).on h.sh h.bel
theorem gh (w0:World)(sh e s wd t q:Nat)(occ:Value)(S S':SS)(L:Option Lf)(M:Nat->Prop)(N a:Nat)(s1 s2 s3:ByteArray)(x y z b:Int)(T:NW s1 x)(E:NW s2 y)(J:NW s3 z)(G:Zi b=true)(w:World)
  (h:Cmd w0 sh e s wd t q occ S L M N a [s1,s2,s3,Q4 (XK b)] w)
  (U:∀W H,Qr e s wd t q occ S L W H->Calls prog 99 #[e,XF (x,y,z),int i64 b] W λr w'=>r=.returned (int i64 0)/\Q6 (Qr e s wd t q occ S' L) W H w'):
  Calls prog 55 #[sh,a] w λr w'=>r=.returned (.string (Q4 [111,107]))/\Q6 (QJ sh e s wd t q occ S' L) w0 M w':=by
 have HC:=pp h;have Z:=pp (NR N a s1 s2 s3 x y z T E J _ w h.arg);have HB:=pp G;have HE:=pp U;clear h T E J G U;go_enter func55,ntmps55;go_upto_region 2 with (go_at_call 98;refine Z.o.mono ?_;rintro l B ⟨rfl,V,O⟩;have j:=pp (HC.o.eat V O);clear V O)
 obtain ⟨A,c⟩:=pt (B.alloc (.cells #[int i64 x,int i64 y,int i64 z] 43));have g:pM B A:=by rw [c];exact Q3 _ _
 have B2:=pp (Q0.fresh c);have P:=pp (show Cmd w0 sh e s wd t q occ S L M N a [Q4 (XK b)] A from ⟨j.o.sh,j.o.new,after j.o.bel g,j.o.arg.on g⟩);have H2:=pp (ky N a b HB.o [] A P.o.arg);rw [<-c];have X:=pp (show B.heap.size≠a by have:=j.o.arg.le;omega)
 clear c g;go_upto_region 4 with first
  | (go_at_call 96;refine H2.o.mono ?_;rintro l w3 ⟨rfl,a3,m⟩;have C:=pp (P.o.eat a3 m);have v:=pp (m.blk X.o B2.o);clear a3 m)
  | (go_at_call 74;refine (Ug N a _ C.o.arg).mono ?_;rintro l w4 ⟨rfl,rfl⟩)
 obtain ⟨Me,f,i,F⟩:=C.o.here;have c0:=λd os=>(v.o.re d os).cell 0
 have c1:=λd os=>(v.o.re d os).cell 1
 have c2:=λd os=>(v.o.re d os).cell 2
 have p0:=λd os=>(f.re d os).cell 0
 have k:=pp (py f (py i F));clear f i F;refine Qk [0,0,0,0,0,0,3,3,3,3,3] (λ_ _ _=>True) (by kernel_rfl) (by kernel_rfl) (λ_ _ _ _ h _=>h) ?_
 repeat (first|(refine Qi ?_)|(refine Qf (λK R=>?_);go_simp;refine R _ ?_;clear R K))
 refine Q8 ?_;repeat (refine Q2 ?_)
 refine Qc ?_;simp only [Qd];intro W5 D _;have p:=pp D;have u:=pp (HE.o W5 Me ((YB e s wd t q occ S L).on k.o.2.1 D));clear D c0 c1 c2 p0;go_wp2_with first
  | (go_at_call 99;refine u.o.mono ?_;rintro l Q ⟨rfl,n⟩;replace n:=pp n)
  | (go_at_call 75;refine (Vt Q.heap.size .ok (Q.alloc (.cells #[.iface 121 (int i64 0)] 20)) (Q0.new' rfl) trivial (by decide)).mono ?_;rintro l w7 ⟨rfl,I⟩;have Y:=pp (after (Q3 _ _) I);clear I)
 go_returns;refine ⟨rfl,Q6.ahead (after C.o.bel p.o) (Q6.on (Qq sh e s wd t q occ S' L) (QJ.turn (k.o.1.on p.o) ((YB e s wd t q occ S L).on k.o.2.1 p.o) k.o.2.2 n.o) Y.o)⟩
end
section
open Go.RowKit Go.Maps Go.Shelf Go.Lib
attribute [local go_sem] Oper.semAt_some
def ZA (n:Nat):Bool:=decide (n=32)
theorem oI (x:Nat)(w:World):Calls prog 39 #[.int .i32 x] w λr w'=>r=.returned (.bool (ZA x))/\w=w':=by
 unfold ZA;by_cases h:x=32
 ·have a:((x:Int)==32)=true:=by subst h;rfl
  go_enter func39,ntmps39;go_wp2_with fail;go_returns;exact ⟨by simp [h],rfl⟩
 ·have a:((x:Int)==32)=false:=by simp;omega
  go_enter func39,ntmps39;go_wp2_with fail;go_returns;exact ⟨by simp [h],rfl⟩
abbrev QD (s:ByteArray):List ByteArray:=goFieldsP ZA s
theorem nd (w:World):PredAtRunes prog 39 #[] ZA w:=λW x _ _=>(oI x W).mono λe w' h=>⟨h.1,0,by rw [<-h.2];rfl⟩
theorem Jb (s:ByteArray)(d:s.size<=4294967296)(w:World):Calls prog 21 #[.string s] w λr w'=>∃A,r=.returned (.slice (some ⟨A,0,none⟩) (QD s).length (QD s).length)/\w.heap.size<=A/\A<w'.heap.size/\Rd w' (some ⟨A,0,none⟩) 1 YJ (QD s)/\Below w.heap.size w w':=by
 have h:=pp (Tryz.strings_FieldsFunc_runes 39 #[] (enters_of func39 (by kernel_rfl) rfl) ZA s w d (nd w))
 clear d;go_enter func21,ntmps21;go_wp2_with (go_at_call 38;refine h.o.mono ?_;rintro e_ f ⟨A,rfl,(H:Hid _)⟩);go_returns;obtain ⟨i,g,k⟩:=H.o;have j:Q5 f w.heap.size 9 1 YJ (.slice (some ⟨A,0,none⟩) (QD s).length (QD s).length) (QD s):=by
  have e:∀l:List ByteArray,l.map Value.string=l.flatMap YJ:=λl=>by
   induction l with
   | nil=>rfl
   | cons a l n=>rw [List.map_cons,List.flatMap_cons,n];rfl
  unfold Q5;rw [<-e (QD s)];exact g
 obtain ⟨q,cap,m,-,-,c,b,-⟩:=j.form jw;injection m with e1
 rw [<-e1] at c b;exact ⟨A,rfl,i,(b _ rfl).2,c,k⟩
theorem gj (p:Addr)(w:World):CallsD prog 22 #[.pointer (some p)] .returning w λe c w'=>e=.returned (.tuple #[])/\c=.returning/\w'=w:=by
 refine callsD_of_wpS func22 rfl λa cs b=>?_
 apply wpS_seq;apply wpS_region;simp [wpOpsS,go_sem,recoverD,b,ntmps22,Exit.thenS];refine wpS_of_wp ?_;go_wp2_with fail;cases a
 simp_all [bodyPostS,results,results22]
end
section
open Go.RowKit Go.Maps
attribute [local go_sem] Oper.semAt_some
def Ig (sh b1 b2 b3 b4 b5:Nat):List (Value×Value):=[(.string ⟨#[119,111,114,108,100]⟩,.func (.func 40) #[sh] #[]),(.string ⟨#[108,111,97,100]⟩,.func (.func 76) #[] #[b1]),(.string ⟨#[117,110,108,111,97,100]⟩,.func (.func 76) #[] #[b2]),(.string ⟨#[102,108,117,115,104]⟩,.func (.func 76) #[] #[b3]),(.string ⟨#[112,105,110]⟩,.func (.func 76) #[] #[b4]),(.string ⟨#[117,110,112,105,110]⟩,.func (.func 76) #[] #[b5]),(.string ⟨#[102,108,117,115,104,97,108,108]⟩,.func (.func 47) #[sh] #[]),(.string ⟨#[102,97,105,108]⟩,.func (.func 48) #[sh] #[]),(.string ⟨#[99,114,97,115,104]⟩,.func (.func 49) #[sh] #[]),(.string ⟨#[115,97,118,101]⟩,.func (.func 50) #[sh] #[]),(.string ⟨#[115,112,97,119,110]⟩,.func (.func 51) #[sh] #[]),(.string ⟨#[107,105,108,108]⟩,.func (.func 52) #[sh] #[]),(.string ⟨#[116,101,108,108]⟩,.func (.func 53) #[sh] #[]),(.string ⟨#[112,108,97,99,101]⟩,.func (.func 54) #[sh] #[]),(.string ⟨#[101,100,105,116]⟩,.func (.func 55) #[sh] #[]),(.string ⟨#[98,114,101,97,107]⟩,.func (.func 56) #[sh] #[]),(.string ⟨#[108,111,111,107]⟩,.func (.func 57) #[sh] #[]),(.string ⟨#[97,116]⟩,.func (.func 58) #[sh] #[]),(.string ⟨#[116,111,112]⟩,.func (.func 59) #[sh] #[]),(.string ⟨#[98,111,100,121]⟩,.func (.func 60) #[sh] #[]),(.string ⟨#[108,105,118,101]⟩,.func (.func 61) #[sh] #[]),(.string ⟨#[104,101,114,101]⟩,.func (.func 62) #[sh] #[]),(.string ⟨#[116,105,99,107]⟩,.func (.func 63) #[sh] #[])]
theorem aS (sh f t:Nat)(w:World):Calls prog 41 #[sh,.func (.func f) #[t] #[]] w λr w'=>r=.returned (.func (.func 76) #[] #[w.heap.size])/\w'=w.alloc (.cells #[.func (.func f) #[t] #[]] 99):=by
 have hmf:∀(a:Fn) (first cap:Array Value) (w:World),(Instr.makeFunc a first cap).run prog w=.ok (.func a first cap) w:=λ_ _ _ _=>rfl
 go_enter func41,ntmps41;go_wp2_with fail;go_returns;exact ⟨rfl,rfl⟩
def CZ (w:World)(bx f t:Nat):Prop:=Q0 w bx 99 #[.func (.func f) #[t] #[]]
def nN (w:World)(sh t:Nat)(r:Ending)(w':World):Prop:=∃m b1 b2 b3 b4 b5,r=.returned (.map (some m))/\YI m (Ig sh b1 b2 b3 b4 b5) w'/\CZ w' b1 42 t/\CZ w' b2 43 t/\Below w.heap.size w w'
theorem YI.cast {l a:List (Value×Value)}{w:World}(h:YI m l w)(e:l=a):YI m a w:=e▸h
theorem Xf {l:List (Value×Value)}{k val:Value}{w0 w:World}(h:YI m l w)(j:N<=m)(d:Below N w0 w)(i:MapKept.IsKey .string k)(e:Instr.findNow .string k (U5 l 0) 0=some none):
  ∃w',(Instr.mapUpdate 61 (.map (some m)) k val).run prog w=.ok () w'/\YI m (l++[(k,val)]) w'/\Kept (λb=>b≠m) w w'/\Below N w0 w':=by
 obtain ⟨w',g,f,a⟩:=Nn (P:=prog) (val:=val) underlying61 underlying9 i h e;exact ⟨w',g,f,a,⟨a.os.trans d.os,a.tape.trans d.tape,a.output.trans d.output,pB d.size a.size,λb c=>(a.block b (pD c (pB j (Nat.le_of_lt h.lt))) (by omega)).trans (d.block b c)⟩⟩
theorem kO (sh e s wd t q:Nat)(occ:Value)(S:SS)(L:Option Lf)(M:Nat->Prop)(w:World)(h:QJ sh e s wd t q occ S L w M):
  Calls prog 23 #[sh] w λr w'=>nN w sh t r w':=by
 have hmf:∀(fn:Fn) (first cap:Array Value) (w:World),(Instr.makeFunc fn first cap).run prog w=.ok (.func fn first cap) w:=λ_ _ _ _=>rfl
 have hmm:=@run_makeMap prog;obtain ⟨Me,af,⟨Ms,he,-⟩,-⟩:=h;have p0:=af.cell 0;have e0:=he.blk.cell 0;have an:=pp (As s wd t q occ S w Ms he.sim);obtain ⟨v,ds,Mw,Mq,hs,-⟩:=he.sim;have am:=pp (GC wd t S.k S.T w Mw hs.wd);have f:w.heap.size<=w.heap.size:=pA _;have g0:pM w (w.alloc (.map #[] 0)):=Q3 _ _;have m0:=KN w;clear af he hs;obtain ⟨y,r1,m1,k1,g1⟩:=Xf (k:=.string ⟨#[119,111,114,108,100]⟩) (val:=.func (.func 40) #[sh] #[]) m0 f g0 trivial (by kernel_rfl)
 clear m0 g0;clear k1;have c:y.heap.size≠w.heap.size:=by have:=m1.lt;omega
 have a:CZ (y.alloc (.cells #[.func (.func 42) #[t] #[]] 99)) y.heap.size 42 t:=Q0.new' rfl;have a2:pM y (y.alloc (.cells #[.func (.func 42) #[t] #[]] 99)):=Q3 _ _;have n2:=m1.on a2;have W:=after g1 a2;obtain ⟨E,r2,m2,k2,g2⟩:=Xf (k:=.string ⟨#[108,111,97,100]⟩) (val:=.func (.func 76) #[] #[y.heap.size]) n2 f W trivial (by kernel_rfl)
 clear a2 n2 W m1 g1;replace a:=k2.blk c a;clear k2;have d:E.heap.size≠w.heap.size:=by have:=m2.lt;omega
 have b:CZ (E.alloc (.cells #[.func (.func 43) #[t] #[]] 99)) E.heap.size 43 t:=Q0.new' rfl;have a3:pM E (E.alloc (.cells #[.func (.func 43) #[t] #[]] 99)):=Q3 _ _;have n3:=m2.on a3;have ab:=after g2 a3;replace a:=Q0.on a a3;obtain ⟨w3,r3,m3,k3,g3⟩:=Xf (k:=.string ⟨#[117,110,108,111,97,100]⟩) (val:=.func (.func 76) #[] #[E.heap.size]) n3 f ab trivial (by kernel_rfl)
 clear a3 n3 ab m2 g2;replace a:=k3.blk c a;replace b:=k3.blk d b;clear k3;have a4:pM w3 (w3.alloc (.cells #[.func (.func 44) #[t] #[]] 99)):=Q3 _ _;have n4:=m3.on a4;have ae:=after g3 a4;replace a:=Q0.on a a4;replace b:=Q0.on b a4;obtain ⟨w4,r4,m4,k4,g4⟩:=Xf (k:=.string ⟨#[102,108,117,115,104]⟩) (val:=.func (.func 76) #[] #[w3.heap.size]) n4 f ae trivial (by kernel_rfl)
 clear a4 n4 ae m3 g3;replace a:=k4.blk c a;replace b:=k4.blk d b;clear k4;have a5:pM w4 (w4.alloc (.cells #[.func (.func 45) #[t] #[]] 99)):=Q3 _ _;have n5:=m4.on a5;have Z:=after g4 a5;replace a:=Q0.on a a5;replace b:=Q0.on b a5;obtain ⟨w5,r5,m5,k5,g5⟩:=Xf (k:=.string ⟨#[112,105,110]⟩) (val:=.func (.func 76) #[] #[w4.heap.size]) n5 f Z trivial (by kernel_rfl)
 clear a5 n5 Z m4 g4;replace a:=k5.blk c a;replace b:=k5.blk d b;clear k5;have a6:pM w5 (w5.alloc (.cells #[.func (.func 46) #[t] #[]] 99)):=Q3 _ _;have n6:=m5.on a6;have ad:=after g5 a6;replace a:=Q0.on a a6;replace b:=Q0.on b a6;obtain ⟨w6,r6,m6,k6,g6⟩:=Xf (k:=.string ⟨#[117,110,112,105,110]⟩) (val:=.func (.func 76) #[] #[w5.heap.size]) n6 f ad trivial (by kernel_rfl)
 clear a6 n6 ad m5 g5;replace a:=k6.blk c a;replace b:=k6.blk d b;clear k6;obtain ⟨w7,r7,m7,k7,g7⟩:=Xf (k:=.string ⟨#[102,108,117,115,104,97,108,108]⟩) (val:=.func (.func 47) #[sh] #[]) m6 f g6 trivial (by kernel_rfl)
 clear m6 g6;replace a:=k7.blk c a;replace b:=k7.blk d b;clear k7;obtain ⟨w8,r8,m8,k8,g8⟩:=Xf (k:=.string ⟨#[102,97,105,108]⟩) (val:=.func (.func 48) #[sh] #[]) m7 f g7 trivial (by kernel_rfl)
 clear m7 g7;replace a:=k8.blk c a;replace b:=k8.blk d b;clear k8;obtain ⟨w9,r9,m9,k9,g9⟩:=Xf (k:=.string ⟨#[99,114,97,115,104]⟩) (val:=.func (.func 49) #[sh] #[]) m8 f g8 trivial (by kernel_rfl)
 clear m8 g8;replace a:=k9.blk c a;replace b:=k9.blk d b;clear k9;obtain ⟨w10,r10,ah,m,ac⟩:=Xf (k:=.string ⟨#[115,97,118,101]⟩) (val:=.func (.func 50) #[sh] #[]) m9 f g9 trivial (by kernel_rfl)
 clear m9 g9;replace a:=m.blk c a;replace b:=m.blk d b;clear m;obtain ⟨w11,r11,N,p,G⟩:=Xf (k:=.string ⟨#[115,112,97,119,110]⟩) (val:=.func (.func 51) #[sh] #[]) ah f ac trivial (by kernel_rfl)
 clear ah ac;replace a:=p.blk c a;replace b:=p.blk d b;clear p;obtain ⟨w12,r12,I,C,aj⟩:=Xf (k:=.string ⟨#[107,105,108,108]⟩) (val:=.func (.func 52) #[sh] #[]) N f G trivial (by kernel_rfl)
 clear N G;replace a:=C.blk c a;replace b:=C.blk d b;clear C;obtain ⟨w13,r13,aa,x,ag⟩:=Xf (k:=.string ⟨#[116,101,108,108]⟩) (val:=.func (.func 53) #[sh] #[]) I f aj trivial (by kernel_rfl)
 clear I aj;replace a:=x.blk c a;replace b:=x.blk d b;clear x;obtain ⟨w14,r14,X,j,O⟩:=Xf (k:=.string ⟨#[112,108,97,99,101]⟩) (val:=.func (.func 54) #[sh] #[]) aa f ag trivial (by kernel_rfl)
 clear aa ag;replace a:=j.blk c a;replace b:=j.blk d b;clear j;obtain ⟨w15,r15,P,l,H⟩:=Xf (k:=.string ⟨#[101,100,105,116]⟩) (val:=.func (.func 55) #[sh] #[]) X f O trivial (by kernel_rfl)
 clear X O;replace a:=l.blk c a;replace b:=l.blk d b;clear l;obtain ⟨w16,r16,F,n,Y⟩:=Xf (k:=.string ⟨#[98,114,101,97,107]⟩) (val:=.func (.func 56) #[sh] #[]) P f H trivial (by kernel_rfl)
 clear P H;replace a:=n.blk c a;replace b:=n.blk d b;clear n;obtain ⟨w17,r17,m17,B,g17⟩:=Xf (k:=.string ⟨#[108,111,111,107]⟩) (val:=.func (.func 57) #[sh] #[]) F f Y trivial (by kernel_rfl)
 clear F Y;replace a:=B.blk c a;replace b:=B.blk d b;clear B;obtain ⟨w18,r18,m18,z,g18⟩:=Xf (k:=.string ⟨#[97,116]⟩) (val:=.func (.func 58) #[sh] #[]) m17 f g17 trivial (by kernel_rfl)
 clear m17 g17;replace a:=z.blk c a;replace b:=z.blk d b;clear z;obtain ⟨w19,r19,m19,A,g19⟩:=Xf (k:=.string ⟨#[116,111,112]⟩) (val:=.func (.func 59) #[sh] #[]) m18 f g18 trivial (by kernel_rfl)
 clear m18 g18;replace a:=A.blk c a;replace b:=A.blk d b;clear A;obtain ⟨w20,r20,ai,g,U⟩:=Xf (k:=.string ⟨#[98,111,100,121]⟩) (val:=.func (.func 60) #[sh] #[]) m19 f g19 trivial (by kernel_rfl)
 clear m19 g19;replace a:=g.blk c a;replace b:=g.blk d b;clear g;obtain ⟨w21,r21,R,D,K⟩:=Xf (k:=.string ⟨#[108,105,118,101]⟩) (val:=.func (.func 61) #[sh] #[]) ai f U trivial (by kernel_rfl)
 clear ai U;replace a:=D.blk c a;replace b:=D.blk d b;clear D;obtain ⟨w22,r22,V,i,ak⟩:=Xf (k:=.string ⟨#[104,101,114,101]⟩) (val:=.func (.func 62) #[sh] #[]) R f K trivial (by kernel_rfl)
 clear R K;replace a:=i.blk c a;replace b:=i.blk d b;clear i;obtain ⟨al,r23,Q,u,J⟩:=Xf (k:=.string ⟨#[116,105,99,107]⟩) (val:=.func (.func 63) #[sh] #[]) V f ak trivial (by kernel_rfl)
 clear V ak;replace a:=u.blk c a;replace b:=u.blk d b;clear u;have HF:=pp (show nN w sh t (.returned (.map (some w.heap.size))) al from ⟨w.heap.size,y.heap.size,E.heap.size,w3.heap.size,w4.heap.size,w5.heap.size,rfl,Q.cast (by kernel_rfl),a,b,J⟩)
 clear a c b d Q J f;go_enter func23,ntmps23;go_wp2_with first
  | (go_at_call 27;refine an.o.mono ?_;rintro e_ w_ ⟨rfl,rfl⟩)
  | (go_at_call 30;refine am.o.mono ?_;rintro e_ w_ ⟨rfl,rfl⟩)
  | (go_at_call 41;refine (aS sh _ t _).mono ?_;rintro e_ w_ ⟨rfl,rfl⟩)
 go_returns;exact HF.o
def Ef (w0:World)(M:Nat->Prop)(Q:QK->ByteArray->Prop)(r:Ending)(w':World):Prop:=∃A out,r=.returned (.string out)/\QK.Fit 5 A/\Q A out/\Q6 A w0 M w'
theorem YI.kept {l:List (Value×Value)}{w w':World}{K:Nat->Prop}(h:YI m l w)(k:Kept K w w')(a:K m):YI m l w':=by
 have:=h.lt;unfold YI at *;rw [k.block m this a];exact h
theorem gk {l:List (Value×Value)}{w:World}{ty:TypeId}(h:YI m l w)(a:Q0 w g ty cs):m≠g:=λe=>by
 subst e;unfold YI at h;unfold Q0 at a;rw [h] at a;cases a
theorem aT (a:Fn)(x y:Array Value)(w:World):(binOp .neq 60 (.func a x y) .nilFunc).run prog w=.ok (.bool true) w:=by kernel_rfl
def nO (tg:Option Bool)(F:FuncId)(sh b1 b2:Nat):Value:=match tg with
 | none=>.func (.func F) #[sh] #[]
 | some false=>.func (.func F) #[] #[b1]
 | some true=>.func (.func F) #[] #[b2]
def nP (tg:Option Bool)(sh a b1 b2:Nat):Array Value:=match tg with
 | none=>#[sh,a]
 | some false=>#[a,b1]
 | some true=>#[a,b2]
theorem LY (sh e s wd t q:Nat)(occ:Value)(S:SS)(L:Option Lf)(M:Nat->Prop)(w:World)(h:QJ sh e s wd t q occ S L w M)(line d:ByteArray)(n:List ByteArray)(hl:line.size<=4294967296)(hw:QD line=d::n)(y:n.length<=900000)(tg:Option Bool)(F:FuncId)(i:Nat)
  (hf:∀B E b3 b4 b5,Instr.findNow .string (.string d) (U5 (Ig sh B E b3 b4 b5) 0) 0=some (some (i,nO tg F sh B E)))
  (eF:∀args w,(callFunc F args).run prog w=.ok (.enter F args) w) (R:World->Ending->World->Prop)
  (hR:∀c r J,Below w.heap.size w c->w.heap.size<c.heap.size->R c r J->∃g,r=.returned (.string g)/\∀cs,Q0 c w.heap.size 9 cs->Q0 J w.heap.size 9 cs/\R w (.returned (.string g)) (J.setCell ⟨w.heap.size,0,none⟩ (.string g)))
  (hC:∀c N a B E w2,Below w.heap.size w c->CZ w2 B 42 t->CZ w2 E 43 t->Cmd c sh e s wd t q occ S L M N a n w2->Calls prog F (nP tg sh a B E) w2 λr w'=>R c r w'):
  Calls prog 9 #[sh,.string line] w λr w'=>R w r w':=by
 rcases tg with _|_|_<;>(
  have hmf:∀(fn:Fn) (first cap:Array Value) (w:World),(Instr.makeFunc fn first cap).run prog w=.ok (.func fn first cap) w:=λ_ _ _ _=>rfl
  have hnf:=aT;obtain ⟨W0,p⟩:=pt (w.alloc (.cells #[.string ⟨#[]⟩] 9));have H0:Below w.heap.size w W0:=by rw [p];exact Q3 _ _
  have R0:Q0 W0 w.heap.size 9 #[.string ⟨#[]⟩]:=Q0.fresh p;have H:=Jb line hl W0;rw [hw] at H;have O:=pp H;have v:=pp (py h (py H0 (py R0 y)));simp only [nO,nP] at hf hC;have HF:=pp hf;have HC:=pp hC;have ag:=pp hR;clear h hl hw y hf hC H H0 R0 hR;go_enter_defers func9,ntmps9;go_upto_region 1 with fail
  rw [<-p];clear p;go_upto_region 2 with (go_at_call 21;refine O.o.mono ?_;rintro K c ⟨A,rfl,(z:Hid _)⟩)
  obtain ⟨W,j⟩:=pt (c.alloc (.cells #[.slice (some ⟨A,0,none⟩) (n.length+1) (n.length+1)] 58));have g2:Below c.heap.size c W:=by rw [j];exact Q3 _ _
  have U:W.heap.size=c.heap.size+1:=by rw [j];simp
  have B2:=Q0.fresh j;obtain ⟨z0⟩:Nonempty Unit:=⟨()⟩;have a0:=B2.cell 0;have hwp:(0:Int)<((n.length+1:Nat):Int):=by omega
  have hne:(((n.length+1:Nat):Int)==0)=false:=by simp;omega
  have af:=pp (show Z8 W.heap.size c.heap.size (d::n) W from ⟨some ⟨A,0,none⟩,n.length+1,B2,pA _,by have:=v.o.2.2.2;simp;omega,⟨pA _,by omega⟩,λb hb=>by
   obtain rfl:=pE hb;have:=z.o.2.1;exact ⟨by dsimp only;omega,by dsimp only;omega⟩,z.o.2.2.1.on g2⟩)
  have G2:=pp g2;have Z:=pp B2;have HS2:=pp U;rw [<-j];clear j g2 U B2 z0;have D:=(Qq sh e s wd t q occ S L).on v.o.1 (after (after v.o.2.1 z.o.2.2.2) G2.o);have ah:=pp (kO sh e s wd t q occ S L M W D);clear D;go_upto_region 6 with first
   | (go_at_call 23;refine ah.o.mono ?_;rintro K w3 ⟨m,B,E,b3,b4,b5,rfl,(x:Hid _)⟩)
   | (go_at_call 24;refine (EL _ _ d n w3 (af.o.on x.o.2.2.2)).mono ?_;rintro K w4 ⟨rfl,X,k4⟩;have H4:=pp (py X k4);have ae:=KM (P:=prog) (mty:=61) (k:=.string d) (i:=i) underlying61 underlying9 trivial (x.o.1.kept k4 (gk x.o.1 (Z.o.on x.o.2.2.2))) (HF.o B E b3 b4 b5);clear X k4)
  have I:Below c.heap.size c w4:=Od (w0:=c) (a:=c.heap.size) (after G2.o x.o.2.2.2) (pA _) H4.o.2;have l:∀{bx G},CZ w3 bx G t->CZ w4 bx G t:=λhx=>H4.o.2.blk (λhe=>by unfold CZ at hx;rw [he] at hx;exact absurd (Q7 hx (Z.o.on x.o.2.2.2)) (by decide)) hx
  have ac:=HC.o c _ _ B E w4 (after v.o.2.1 z.o.2.2.2) (l x.o.2.1) (l x.o.2.2.1) ⟨(Qq sh e s wd t q occ S L).on v.o.1 (after v.o.2.1 z.o.2.2.2),pA _,I,H4.o.1⟩;have ai:=pp ac;have HB4:=pp I;have ab:=after v.o.2.1 z.o.2.2.2;have C:w.heap.size<c.heap.size:=pD v.o.2.2.1.lt z.o.2.2.2.size;have V:=pp (py ab C);clear I ac ae l ab C;go_wp2_with first
   | (go_at_call 25;refine (AH _).mono ?_;rintro K w5 ⟨rfl,rfl⟩)
   | (refine ai.o.mono ?_;intro K J Y;obtain ⟨g,rfl,Q⟩:=ag.o c K J V.o.1 V.o.2 Y;obtain ⟨u,ad⟩:=Q _ (v.o.2.2.1.on z.o.2.2.2);have r6:=u.cell 0;have f6:=u.frz 0;have H6:=pp (py u ad);clear u ad Q Y)
  refine leaves_cons (f:=22) (args:=#[w.heap.size]) (by simp) (by simp [go_sem]) ?_
  refine (gj _ _).mono ?_;rintro K u_ w7 ⟨rfl,rfl,rfl⟩;have aa:Q0 (J.setCell ⟨w.heap.size,0,none⟩ (.string g)) w.heap.size 9 #[.string g]:=H6.o.1.set_ 0 _;have c7:=aa.cell 0;have T:=pp H6.o.2;clear aa;simp [Leaves,settle,results,results9,go_sem,c7];exact T.o
  )
theorem Ef.ends {w0 e:World}{M:Nat->Prop}{Q:QK->ByteArray->Prop}{r:Ending}(i:pM w0 w1)(hlt:w0.heap.size<w1.heap.size)(k:∀b,M b->b<w0.heap.size)(h:Ef w1 M Q r e):∃a,r=.returned (.string a)/\∀cs,Q0 w1 w0.heap.size 9 cs->Q0 e w0.heap.size 9 cs/\Ef w0 M Q (.returned (.string a)) (e.setCell ⟨w0.heap.size,0,none⟩ (.string a)):=by
 obtain ⟨q,a,rfl,c,t,m,s,l,p⟩:=h;refine ⟨a,rfl,λcs j=>?_⟩
 have f:=p.blk (λd=>absurd (k _ d) (by omega)) j
 have g:Kept (λb=>b≠w0.heap.size) e (e.setCell ⟨w0.heap.size,0,none⟩ (.string a)):=(Kept.refl _ _).setCell (by simp) _
 have u:∀b,m b->b≠w0.heap.size:=λb d n=>by
  rcases l b d with o|o
  ·have:=k _ o;omega
  ·omega
 exact ⟨f,q,a,rfl,c,t,m,c.kept s g u (λb cs j n=>absurd (Q7 (n▸j) f) (by decide)),λb d=>(l b d).imp_right λh=>by omega,((Kept.of_below i).trans p).fresh (pA _) _⟩
theorem UZ (sh e s wd t q:Nat)(occ:Value)(S:SS)(L:Option Lf)(M:Nat->Prop)(w:World)(h:QJ sh e s wd t q occ S L w M)(line b:ByteArray)(f:List ByteArray)(z:line.size<=4294967296)(v:QD line=b::f)(d:f.length<=900000)(F:FuncId)(i:Nat)
  (x:∀l m p B n,Instr.findNow .string (.string b) (U5 (Ig sh l m p B n) 0) 0=some (some (i,.func (.func F) #[sh] #[])))
  (y:∀args w,(callFunc F args).run prog w=.ok (.enter F args) w) (Q:QK->ByteArray->Prop)
  (o:∀c N a g,Below w.heap.size w c->Cmd c sh e s wd t q occ S L M N a f g->Calls prog F #[sh,a] g λr w'=>Ef c M Q r w'):
  Calls prog 9 #[sh,.string line] w λr w'=>Ef w M Q r w':=by
 exact LY sh e s wd t q occ S L M w h line b f z v d none F i x y (λc r w'=>Ef c M Q r w') (λc r w6 k j A=>A.ends k j ((Qq sh e s wd t q occ S L).lt h)) λc N a l m g k _ _ u=>o c N a g k u
theorem SO (sh e s wd t q:Nat)(occ:Value)(S:SS)(L:Option Lf)(M:Nat->Prop)(w:World)(h:QJ sh e s wd t q occ S L w M)(line b:ByteArray)(j:List ByteArray)(y:line.size<=4294967296)(v:QD line=b::j)(d:j.length<=900000)(i:Nat)
  (x:∀g m p A o,Instr.findNow .string (.string b) (U5 (Ig sh g m p A o) 0) 0=some (some (i,.func (.func 76) #[] #[g])))
  (Q:QK->ByteArray->Prop)
  (n:∀c N a bx f,Below w.heap.size w c->CZ f bx 42 t->Cmd c sh e s wd t q occ S L M N a j f->Calls prog 76 #[a,bx] f λr w'=>Ef c M Q r w'):
  Calls prog 9 #[sh,.string line] w λr w'=>Ef w M Q r w':=by
 exact LY sh e s wd t q occ S L M w h line b j y v d (some false) 76 i x (enters_of func76 (by kernel_rfl) rfl) (λc r w'=>Ef c M Q r w') (λc r w6 l k z=>z.ends l k ((Qq sh e s wd t q occ S L).lt h)) λc N a g m f l B _ u=>n c N a g f l B u
theorem aU (b:Int):(XK b).length<=20:=by
 by_cases h:b<0∨16<=b
 ·rw [DP h];decide
 ·obtain ⟨n,rfl⟩:=Int.eq_ofNat_of_zero_le (show 0<=b by omega)
  have:∀k:Nat,k<16->(XK (k:Int)).length<=20:=by decide
  exact this n (by omega)
theorem ne (w0:World)(sh e s wd t q:Nat)(occ:Value)(S:SS)(L:Option Lf)(M:Nat->Prop)(N a:Nat)(s1 s2 s3:ByteArray)(x y z:Int)(h1:NW s1 x)(R:NW s2 y)(W:NW s3 z)(X:Qg x)(V:Qg z)(hn:S.T.l.length<=1000)(hne:(S.T.cell (x,y,z)== -1)=false)(w:World)
  (h:Cmd w0 sh e s wd t q occ S L M N a [s1,s2,s3] w):
  Calls prog 58 #[sh,a] w λr w'=>r=.returned (.string (Q4 (XK (S.T.cell (x,y,z)))))/\Below w0.heap.size w0 w':=by
 have HC:=pp h;have H1:=pp (NR N a s1 s2 s3 x y z h1 R W _ w h.arg);have Q:=pp (py X (py V hn));clear h h1 R W X V hn;generalize n:S.T.cell (x,y,z)=bb at *;have J:=pp n;clear n;go_enter func58,ntmps58;go_upto_region 2 with (go_at_call 98;refine H1.o.mono ?_;rintro P Z ⟨rfl,a1,Y⟩;have u:=pp (HC.o.eat a1 Y);clear a1 Y)
 obtain ⟨f,b⟩:=pt (Z.alloc (.cells #[int i64 x,int i64 y,int i64 z] 43));have j:pM Z f:=by rw [b];exact Q3 _ _
 have F:=pp (Q0.fresh b);have H:=pp (show Cmd w0 sh e s wd t q occ S L M N a [] f from ⟨u.o.sh,u.o.new,after u.o.bel j,u.o.arg.on j⟩);rw [<-b];clear b j;go_upto_region 3 with (go_at_call 74;refine (Ug N a _ H.o.arg).mono ?_;rintro P w4 ⟨rfl,rfl⟩)
 obtain ⟨Me,p,C,hM⟩:=H.o.here;obtain ⟨Ms,c,-⟩:=C;have c0:=λd os=>(F.o.re d os).cell 0
 have c1:=λd os=>(F.o.re d os).cell 1
 have c2:=λd os=>(F.o.re d os).cell 2
 have p0:=λd os=>(p.re d os).cell 0
 have e0:=λd os=>(c.blk.re d os).cell 0
 have K:=pp λd os=>As s wd t q occ S (Go.Sort.grow (redrawn f d) os) Ms ((Xs s wd t q occ S).on c.sim (pK _ d os))
 obtain ⟨v,ds,Mw,Mq,O,-⟩:=c.sim;have E:=pp λd os=>UB wd t S.k S.T (Go.Sort.grow (redrawn f d) os) Mw ((XR wd t S.T S.k).on O.wd (pK _ d os))
 have i:=λd os=>(O.tells Q.o.2.2) (x,y,z) ⟨Q.o.1,Q.o.2.1⟩ (Go.Sort.grow (redrawn f d) os) (pK _ d os)
 rw [J.o] at i;have I:=pp i;clear p c O hM i;refine wp_region_quiet_below (by kernel_rfl) (by kernel_rfl) ?_
 repeat (go_big_quiet_step (first|exact Calls.regrown_of ((K.o _ _).mono λ_ _ ⟨c,B⟩=>⟨c,by rw [<-B];exact pI _ _⟩)|exact Calls.regrown_of ((E.o _ _).mono λ_ _ ⟨c,B⟩=>⟨c,by rw [<-B];exact pI _ _⟩)|exact Calls.regrown_of (I.o _ _)))
 refine wpQuiet_nil ?_;intro w' G;obtain ⟨rg,rfl⟩:=G;obtain ⟨W3,g⟩:=pt (Go.Sort.grow (redrawn f rg.d) rg.os);have G3:=pp (show pM f W3 by rw [g];exact pK _ _ _)
 rw [<-g];clear g c0 c1 c2 p0 e0;have m:sL (TV.str (Q4 (XK bb))).str_<=1000000:=by
  show (XK bb).toArray.toList.length<=1000000;exact pB (aU bb) (by decide)
 have D:=pp m;clear m;go_wp2_with first
  | (go_at_call 101;refine (ND bb _).mono ?_;rintro P w6 ⟨rfl,A⟩;replace A:=pp A)
  | (go_at_call 75;refine (Vt w6.heap.size (.str (Q4 (XK bb))) (w6.alloc (.cells #[.iface 9 (.string (Q4 (XK bb)))] 20)) (Q0.new' rfl) trivial D.o).mono ?_;rintro P w7 ⟨rfl,U⟩;have G7:=pp (after (Q3 _ _) U);clear U)
 go_returns;exact ⟨rfl,after (after (after H.o.bel G3.o) A.o) G7.o⟩
theorem gm (w0:World)(sh e s wd t q:Nat)(occ:Value)(S:SS)(l:Lf)(M:Nat->Prop)(N a:Nat)(s1:ByteArray)(D:NW s1 0)(w:World)(C:Vz w0)
  (h:Cmd w0 sh e s wd t q occ S (some l) M N a [s1] w) (I:Zc l.b.1) (B:Zc l.b.2.1) (y:Zc l.b.2.2.1) (z:Zc l.b.2.2.2.1) (x:Zc l.b.2.2.2.2.1) (F:Zc l.b.2.2.2.2.2.1):
  Calls prog 60 #[sh,a] w λr w'=>r=.returned (.string (Fs l.b.1 l.b.2.1 l.b.2.2.1 l.b.2.2.2.1 l.b.2.2.2.2.1 l.b.2.2.2.2.2.1 l.b.2.2.2.2.2.2.2.2))/\Below w0.heap.size w0 w':=by
 have P:=pp h;have Q:=pp (Zk N a s1 0 D _ w h.arg);have V:=pp C;have f:=pp (py I (py B (py y (py z (py x F)))));clear h D C I B y z x F;go_enter func60,ntmps60;go_upto_region 3 with first
  | (go_at_call 73;refine Q.o.mono ?_;rintro u J ⟨rfl,H,v⟩;have p:=pp (P.o.eat H v);clear H v)
  | (go_at_call 74;refine (Ug N a _ p.o.arg).mono ?_;rintro u w4 ⟨rfl,rfl⟩)
 obtain ⟨Me,g,m,K⟩:=p.o.here;obtain ⟨Ms,G,-⟩:=m;have T:=g.cell 0;have j:=pp (fT e s wd t q occ S l J Ms G);clear g G K;go_upto_region 4 with (go_at_call 15;refine j.o.mono ?_;rintro u U ⟨rfl,k⟩;replace k:=pp k)
 obtain ⟨i,d⟩:=pt (U.alloc (.cells (Z5 l.b) 40));have A:=pp (show pM w0 i from after (after p.o.bel k.o) (by rw [d];exact Q3 _ _))
 obtain ⟨⟨b0,b1,b2,b3,b4,b5,b6,b7,b8⟩,-⟩:=(Q0.fresh d).c9;rw [<-d];clear d T;have c:=pp λ(n:Int) (R:Zc n) W (L:pM i W)=>(show YP W n from ⟨R,.inr (V.o.on (after A.o L))⟩)
 go_wp2_with (go_at_call 75;refine (eK i.heap.size l.b.1 l.b.2.1 l.b.2.2.1 l.b.2.2.2.1 l.b.2.2.2.2.1 l.b.2.2.2.2.2.1 l.b.2.2.2.2.2.2.2.2 (i.alloc (.cells #[(TV.vec l.b.1 l.b.2.1 l.b.2.2.1).val,(TV.vec l.b.2.2.2.1 l.b.2.2.2.2.1 l.b.2.2.2.2.2.1).val,(TV.bool l.b.2.2.2.2.2.2.2.2).val] 20)) (Q0.new' rfl) (c.o _ f.o.1 _ (Q3 _ _)) (c.o _ f.o.2.1 _ (Q3 _ _)) (c.o _ f.o.2.2.1 _ (Q3 _ _)) (c.o _ f.o.2.2.2.1 _ (Q3 _ _)) (c.o _ f.o.2.2.2.2.1 _ (Q3 _ _)) (c.o _ f.o.2.2.2.2.2 _ (Q3 _ _))).mono ?_;rintro u w7 ⟨rfl,E⟩;have O:=pp (after (Q3 _ _) E);clear E);go_returns;exact ⟨rfl,after A.o O.o⟩
theorem oJ (b:Nat)(x:TV)(w:World)(d:Q0 w b 20 #[x.val])(c:x.may w)(e:sL x.str_<=1000000):
  Calls prog 93 #[int i64 0,.slice (some ⟨b,0,none⟩) 1 1] w λr w'=>r=.returned (.string x.str_)/\Below w.heap.size w w':=by
 have f:=pp (Vt b x w d c e);clear d c e;generalize x.str_=s at *;go_enter func93,ntmps93;go_wp2_with (go_at_call 75;refine f.o.mono ?_;rintro e_ w1 ⟨rfl,a⟩;replace a:=pp a);go_returns;exact ⟨rfl,a.o⟩
def pi (e s wd t q:Nat)(occ:Value)(S:SS)(b:BD)(Me:Nat->Prop)(N0:Nat)(w:World):Prop:=∃a M',Qr e s wd t q occ S (some ⟨a,b,0,0,false⟩) w M'/\∀b,M' b->Me b∨N0<=b
def kP (e s wd t q:Nat)(occ:Value)(S:SS)(b:BD)(Me:Nat->Prop)(N0:Nat):Nat->XO:=λi v w=>match i with
 | 7=>v=.tuple #[int i64 0,int i64 0]/\pi e s wd t q occ S b Me N0 w
 | 8=>v=.tuple #[int i64 0,int i64 0]
 | 9=>v=.int .i64 0
 | 10=>v=.int .i64 0
 | 11=>v=.int .i64 0
 | _=>True
theorem kQ {e s wd t q:Nat}{occ:Value}{S:SS}{b:BD}{Me:Nat->Prop}{N0:Nat} :∀i v (w w':World),kP e s wd t q occ S b Me N0 i v w->(if i=7 then Below w.heap.size w w' else Kept (λb=>some e≠some b) w w')->kP e s wd t q occ S b Me N0 i v w'
 | 7,_,_,_,⟨d,a,M',c,f⟩,g=>⟨d,a,M',(YB e s wd t q occ S _).on c (by simpa using g),f⟩
 | 8,_,_,_,h,_=>h
 | 9,_,_,_,h,_=>h
 | 10,_,_,_,h,_=>h
 | 11,_,_,_,h,_=>h
 | 0,_,_,_,_,_=>trivial
 | 1,_,_,_,_,_=>trivial
 | 2,_,_,_,_,_=>trivial
 | 3,_,_,_,_,_=>trivial
 | 4,_,_,_,_,_=>trivial
 | 5,_,_,_,_,_=>trivial
 | 6,_,_,_,_,_=>trivial
 | _+12,_,_,_,_,_=>trivial
theorem aV (w0:World)(sh e s wd t q:Nat)(occ:Value)(S:SS)(M:Nat->Prop)(N a:Nat)(s1 s2 s3 U s5:ByteArray)(x y z Z ht:Int)(b:BD)(H:NW s1 x)(P:NW s2 y)(h3:NW s3 z)(h4:NW U Z)(h5:NW s5 ht)(w:World)
  (h:Cmd w0 sh e s wd t q occ S none M N a [s1,s2,s3,U,s5] w)
  (hS:∀W M1,Qr e s wd t q occ S none W M1->Calls prog 92 #[e,.agg #[int i64 x,int i64 y,int i64 z],int i64 Z,int i64 ht] W λr w'=>r=.returned (.tuple #[int i64 0,int i64 0])/\(∃a,Q6 (Qr e s wd t q occ S (some ⟨a,b,0,0,false⟩)) W M1 w')/\Kept (λb=>b≠e) W w'):
  Calls prog 51 #[sh,a] w λr w'=>r=.returned (.string (Q4 (Lib.itoa 0)))/\∃la,Q6 (QJ sh e s wd t q occ S (some ⟨la,b,0,0,false⟩)) w0 M w':=by
 have HC:=pp h;have H1:=pp (cS N a s1 s2 s3 x y z H P h3 _ w h.arg);have HW:=pp (py h4 h5);have HS:=pp hS;clear h H P h3 h4 h5 hS;go_enter func51,ntmps51;go_upto_region 2 with (go_at_call 91;refine H1.o.mono ?_;rintro I w1 ⟨rfl,a1,k1⟩;have R:=pp (HC.o.eat a1 k1);clear a1 k1)
 obtain ⟨W2,v⟩:=pt (w1.alloc (.cells #[int i64 x,int i64 y,int i64 z] 38));have O:pM w1 W2:=by rw [v];exact Q3 _ _
 have B2:=pp (Q0.fresh v);have C2:=pp (show Cmd w0 sh e s wd t q occ S none M N a [U,s5] W2 from ⟨R.o.sh,R.o.new,after R.o.bel O,R.o.arg.on O⟩);rw [<-v];have HG:=pp (show w1.heap.size≠a by have:=R.o.arg.le;omega)
 clear v O;go_upto_region 4 with first
  | (go_at_call 73;refine (Zk N a U Z HW.o.1 _ _ C2.o.arg).mono ?_;rintro I w3 ⟨rfl,a3,k3⟩;have C3:=pp (C2.o.eat a3 k3);have B3:=pp (k3.blk HG.o B2.o);clear a3 k3)
  | (go_at_call 73;refine (Zk N a s5 ht HW.o.2 _ _ C3.o.arg).mono ?_;rintro I w4 ⟨rfl,a4,k4⟩;have V:=pp (C3.o.eat a4 k4);have T:=pp (k4.blk HG.o B3.o);clear a4 k4)
  | (go_at_call 74;refine (Ug N a _ V.o.arg).mono ?_;rintro I w5 ⟨rfl,rfl⟩)
 obtain ⟨Me,n,k,Q⟩:=V.o.here;have u:sh≠e:=λC=>LX n k (by obtain ⟨Ms,H,P⟩:=k;exact (P _).2 (.inl C))
 have c0:=λf d os=>(T.o.sp (D:=[e]) (by
  obtain ⟨Ms,H,-⟩:=k;have:=R.o.bel.size;simp;rintro C;have L:=T.o;rw [C] at L;exact absurd (Q7 L H.blk) (by decide)) f d os).cell 0
 have c1:=λf d os=>(T.o.sp (D:=[e]) (by
  obtain ⟨Ms,H,-⟩:=k;simp;rintro C;have L:=T.o;rw [C] at L;exact absurd (Q7 L H.blk) (by decide)) f d os).cell 1
 have c2:=λf d os=>(T.o.sp (D:=[e]) (by
  obtain ⟨Ms,H,-⟩:=k;simp;rintro C;have L:=T.o;rw [C] at L;exact absurd (Q7 L H.blk) (by decide)) f d os).cell 2
 have p0:=λf d os=>(n.sp (D:=[e]) (by simpa using u) f d os).cell 0
 have ad:=pp (py n (py k (py Q u)));have p:=pp λW (g:pM w4 W)=>HS.o W Me ((YB e s wd t q occ S none).on k g)
 clear n k Q u;refine VI [0,0,0,0,0,0,0,2,2,2,2,2,3] 7 ((some e)) (kP e s wd t q occ S b Me w4.heap.size) (by kernel_rfl) (by kernel_rfl) (kQ) ?_
 repeat (first|(refine Qi ?_)|(refine Qf (λK hK=>?_);go_simp;refine hK _ ?_;clear hK K))
 refine Q8 ?_;refine Q2 ?_;refine Q2 ?_;refine Q2 ?_;refine Q2 ?_;refine Q2 ?_;refine Q2 ?_;refine Q2 ?_;refine Qv ?lsA (λX=>?_)
 case lsA=>(intro B j l;(first|(dsimp only at c;have i:=(show _=_ from c.1.1.2 (by kernel_rfl));subst i;go_simp<;>first|exact Kept.refl _ _|exact ⟨Kept.refl _ _,rfl⟩)|(dsimp only at c;have i:=(show _=_ from c.1.2 (by kernel_rfl));subst i;go_simp<;>first|exact Kept.refl _ _|exact ⟨Kept.refl _ _,rfl⟩)|(dsimp only at c;have i:=(show _=_ from c.2 (by kernel_rfl));subst i;go_simp<;>first|exact Kept.refl _ _|exact ⟨Kept.refl _ _,rfl⟩)|(dsimp only at c;have i:=(show _=_/\_ from c.2 (by kernel_rfl)).1;subst i;go_simp<;>first|exact Kept.refl _ _|exact ⟨Kept.refl _ _,rfl⟩)|(go_simp;refine (p.o B (Y9 j l)).mono ?_;rintro I Y ⟨rfl,⟨a9,J,E,A,-⟩,F⟩;exact ⟨_,rfl,F.mono (by simp [BJ]),rfl,a9,J,E,λb m=>(A b m).imp_right (pB (Qb j).size)⟩)))
 refine Xz ?lsA (λX=>?_)
 case lsA=>(intro B j l c;(first|(dsimp only at c;have i:=(show _=_ from c.1.1.2 (by kernel_rfl));subst i;go_simp<;>first|exact Kept.refl _ _|exact ⟨Kept.refl _ _,rfl⟩)|(dsimp only at c;have i:=(show _=_ from c.1.2 (by kernel_rfl));subst i;go_simp<;>first|exact Kept.refl _ _|exact ⟨Kept.refl _ _,rfl⟩)|(dsimp only at c;have i:=(show _=_ from c.2 (by kernel_rfl));subst i;go_simp<;>first|exact Kept.refl _ _|exact ⟨Kept.refl _ _,rfl⟩)|(dsimp only at c;have i:=(show _=_/\_ from c.2 (by kernel_rfl)).1;subst i;go_simp<;>first|exact Kept.refl _ _|exact ⟨Kept.refl _ _,rfl⟩)|(go_simp;refine (p.o B (Y9 j l)).mono ?_;rintro I Y ⟨rfl,⟨a9,J,E,A,-⟩,F⟩;exact ⟨_,rfl,F.mono (by simp [BJ]),rfl,a9,J,E,λb m=>(A b m).imp_right (pB (Qb j).size)⟩)))
 refine Xz ?lsA (λX=>?_)
 case lsA=>(intro B j l c;(first|(dsimp only at c;have i:=(show _=_ from c.1.1.2 (by kernel_rfl));subst i;go_simp<;>first|exact Kept.refl _ _|exact ⟨Kept.refl _ _,rfl⟩)|(dsimp only at c;have i:=(show _=_ from c.1.2 (by kernel_rfl));subst i;go_simp<;>first|exact Kept.refl _ _|exact ⟨Kept.refl _ _,rfl⟩)|(dsimp only at c;have i:=(show _=_ from c.2 (by kernel_rfl));subst i;go_simp<;>first|exact Kept.refl _ _|exact ⟨Kept.refl _ _,rfl⟩)|(dsimp only at c;have i:=(show _=_/\_ from c.2 (by kernel_rfl)).1;subst i;go_simp<;>first|exact Kept.refl _ _|exact ⟨Kept.refl _ _,rfl⟩)|(go_simp;refine (p.o B (Y9 j l)).mono ?_;rintro I Y ⟨rfl,⟨a9,J,E,A,-⟩,F⟩;exact ⟨_,rfl,F.mono (by simp [BJ]),rfl,a9,J,E,λb m=>(A b m).imp_right (pB (Qb j).size)⟩)))
 refine Xz ?lsA (λX=>?_)
 case lsA=>(intro B j l c;(first|(dsimp only at c;have i:=(show _=_ from c.1.1.2 (by kernel_rfl));subst i;go_simp<;>first|exact Kept.refl _ _|exact ⟨Kept.refl _ _,rfl⟩)|(dsimp only at c;have i:=(show _=_ from c.1.2 (by kernel_rfl));subst i;go_simp<;>first|exact Kept.refl _ _|exact ⟨Kept.refl _ _,rfl⟩)|(dsimp only at c;have i:=(show _=_ from c.2 (by kernel_rfl));subst i;go_simp<;>first|exact Kept.refl _ _|exact ⟨Kept.refl _ _,rfl⟩)|(dsimp only at c;have i:=(show _=_/\_ from c.2 (by kernel_rfl)).1;subst i;go_simp<;>first|exact Kept.refl _ _|exact ⟨Kept.refl _ _,rfl⟩)|(go_simp;refine (p.o B (Y9 j l)).mono ?_;rintro I Y ⟨rfl,⟨a9,J,E,A,-⟩,F⟩;exact ⟨_,rfl,F.mono (by simp [BJ]),rfl,a9,J,E,λb m=>(A b m).imp_right (pB (Qb j).size)⟩)))
 refine Xz ?lsA (λX=>?_)
 case lsA=>(intro B j l c;(first|(dsimp only at c;have i:=(show _=_ from c.1.1.2 (by kernel_rfl));subst i;go_simp<;>first|exact Kept.refl _ _|exact ⟨Kept.refl _ _,rfl⟩)|(dsimp only at c;have i:=(show _=_ from c.1.2 (by kernel_rfl));subst i;go_simp<;>first|exact Kept.refl _ _|exact ⟨Kept.refl _ _,rfl⟩)|(dsimp only at c;have i:=(show _=_ from c.2 (by kernel_rfl));subst i;go_simp<;>first|exact Kept.refl _ _|exact ⟨Kept.refl _ _,rfl⟩)|(dsimp only at c;have i:=(show _=_/\_ from c.2 (by kernel_rfl)).1;subst i;go_simp<;>first|exact Kept.refl _ _|exact ⟨Kept.refl _ _,rfl⟩)|(go_simp;refine (p.o B (Y9 j l)).mono ?_;rintro I Y ⟨rfl,⟨a9,J,E,A,-⟩,F⟩;exact ⟨_,rfl,F.mono (by simp [BJ]),rfl,a9,J,E,λb m=>(A b m).imp_right (pB (Qb j).size)⟩)))
 refine Q2 ?_;refine XX ?_;simp only [Qd];rintro W6 k6 ⟨⟨⟨⟨⟨-,-,a6,M6,m6,n6⟩,-⟩,h9⟩,ab⟩,ac⟩;have G:=pp (py k6 (py m6 n6));clear k6 m6 n6 c0 c1 c2 p0;subst ab;subst ac;go_wp2_with (go_at_call 93;refine (oJ W6.heap.size (.int 0) (W6.alloc (.cells #[.iface 3 (int i64 0)] 20)) (Q0.new' rfl) ⟨by unfold Zc;omega,.inl (by omega)⟩ (pB (YC (by unfold Zc;omega)) (by decide))).mono ?_;rintro I w7 ⟨rfl,g7⟩;have G7:=pp (after (Q3 _ _) g7);clear g7)
 go_returns;obtain ⟨n,k,Q,u⟩:=ad.o;have aa:Me e:=by obtain ⟨Ms,-,P⟩:=k;exact (P e).2 (.inl rfl)
 refine ⟨rfl,a6,Q6.on (Qq sh e s wd t q occ S _) ⟨λb=>b=sh∨M6 b,⟨M6,G.o.1.blk (by simpa using u) n,G.o.2.1,λ_=>Iff.rfl⟩,λb m=>?_,(Kept.of_below V.o.bel).trans (G.o.1.mono λb m=>?_)⟩ G7.o⟩
 ·rcases m with rfl|m
  ·exact .inl ((Q _).2 (.inl rfl))
  ·exact (G.o.2.2 b m).imp (λh=>(Q b).2 (.inr h)) (pB V.o.bel.size)
 ·have:b≠e:=λC=>m ((Q b).2 (.inr (C▸aa)))
  simpa using this
def pj (sh e s wd t q:Nat)(occ:Nat->Value)(S:Nat->SS)(L:Nat->Option Lf)(w0:World)(M:Nat->Prop)(i:Nat)(w:World):Prop:=Q6 (QJ sh e s wd t q (occ i) (S i) (L i)) w0 M w
theorem gn (w0:World)(sh e s wd t q:Nat)(n:Nat)(hn:1<=n/\n<=100)(occ:Nat->Value)(S:Nat->SS)(L:Nat->Option Lf)(b out:Nat->Int)(u:b 0=0)(l:∀i,i<n->b (i+1)=b i+out i)(j:∀i,i<=n->0<=b i/\b i<100)(d:0<=(S n).now/\(S n).now<100)(M:Nat->Prop)(N a:Nat)(s1:ByteArray)(Z:NW s1 n)(w:World)
  (h:Cmd w0 sh e s wd t q (occ 0) (S 0) (L 0) M N a [s1] w)
  (hK:∀i,i<n->∀W U,Qr e s wd t q (occ i) (S i) (L i) W U->Calls prog 105 #[e] W λr w'=>r=.returned (int i64 (out i))/\Q6 (Qr e s wd t q (occ (i+1)) (S (i+1)) (L (i+1))) W U w'):
  Calls prog 63 #[sh,a] w λr w'=>r=.returned (.string (Z4 [Q4 (Lib.itoa (b n)),Q4 (Lib.itoa (S n).now)]))/\Q6 (QJ sh e s wd t q (occ n) (S n) (L n)) w0 M w':=by
 have HC:=pp h;have H1:=pp (Zk N a s1 n Z _ w h.arg);have g:=pp (py l (py j (py d hn)));have HK:=pp hK;have E:=pp u;have hn1:(1:Int)<=(n:Int):=by omega
 have hn2:(n:Int)<=100:=by omega
 clear h Z l j d hK hn u;go_enter func63,ntmps63;go_upto_region 6 with first
  | (go_at_call 73;refine H1.o.mono ?_;rintro x w1 ⟨rfl,a1,Y⟩;have O:=pp (HC.o.eat a1 Y);clear a1 Y)
  | (go_at_call 74;refine (Ug N a _ O.o.arg).mono ?_;rintro x w4 ⟨rfl,rfl⟩)
  | (go_at_call 25;refine (AH _).mono ?_;rintro x w5 ⟨rfl,rfl⟩)
 go_loopw [6,19] (λv H wr=>∃i:Nat,i<=n/\H=.int .i64 i/\v=.int .i64 (b i)/\Hid (pj sh e s wd t q occ S L w0 M i wr)) (λ_ H _=>n - (intOf H).toNat)
 case atStart=>exact ⟨0,pC _,rfl,by rw [E.o],pp (Q6.below O.o.here O.o.bel)⟩
 case round=>
  obtain ⟨i,X,rfl,rfl,hI⟩:=hrel;obtain ⟨M',⟨P,z,A,f⟩,I,F⟩:=hI.out;have p0:=z.cell 0;have y:=pp (py z (py A (py f (py I F))));by_cases c:i<n
  ·have m:(i:Int)<(n:Int):=by omega
   have C:=pp (HK.o i c wr P A);have R:=g.o.2.1 i X;have Q:=g.o.2.1 (i+1) c;have p:=g.o.1 i c;have T:=pp p;have q1: -9223372036854775808<=b i+out i:=by omega
   have q2:b i+out i<=9223372036854775807:=by omega
   have q3:(i:Int)+1<=9223372036854775807:=by omega
   have q4: -9223372036854775808<=(i:Int)+1:=by omega
   clear z A f I F p R Q;go_wp2_with (go_at_call 105;refine C.o.mono ?_;rintro x w2 ⟨rfl,D⟩;replace D:=pp D);go_roundw
   case rel=>exact ⟨i+1,c,by go_num,by rw [T.o],pp (Q6.bind y.o.2.2.2.1 y.o.2.2.2.2 (QJ.turn y.o.1 y.o.2.1 y.o.2.2.1 D.o))⟩
   case measure=>simp [intOf];omega
  ·obtain rfl:i=n:=by omega
   have m:¬(i:Int)<(i:Int):=by omega
   obtain ⟨Ms,G,-⟩:=A;have e0:=G.blk.cell 0;have B:=pp (SC s wd t q (occ i) (S i) wr Ms G.sim);have k:=g.o.2.1 i X;have K:=pp (show ∀W,YP W (b i) from λW=>⟨by unfold Zc;omega,.inl k⟩)
   have J:=pp (show ∀W,YP W (S i).now from λW=>⟨by have:=g.o.2.2.1;unfold Zc;omega,.inl g.o.2.2.1⟩)
   clear z f I F G c k;go_wp2_with first
    | (go_at_call 35;refine B.o.mono ?_;rintro x w2 ⟨rfl,rfl⟩)
    | (go_at_call 75;refine (eJ wr.heap.size (b i) (S i).now (wr.alloc (.cells #[.iface 3 (int i64 (b i)),.iface 3 (int i64 (S i).now)] 20)) (Q0.new' rfl) (K.o _) (J.o _)).mono ?_;rintro x w7 ⟨rfl,V⟩;have G7:=pp (after (Q3 _ _) V);clear V)
   go_returns;exact ⟨rfl,Q6.on (Qq sh e s wd t q _ _ _) hI.out G7.o⟩
def nQ (w0:World)(sh:Nat)(seed lim bu:Int)(M:Nat->Prop)(r:Ending)(w':World):Prop:=∃e s wd t q,r=.returned (.string (Q4 [111,107]))/\Q6 (QJ sh e s wd t q Xb (AC (AU seed lim 200000) 0 bu) none) w0 M w'
theorem aW (w0:World)(sh e s wd t q:Nat)(occ:Value)(S:SS)(L:Option Lf)(M:Nat->Prop)(N a:Nat)(s1 s2 s3:ByteArray)(seed d y:Int)(U:NW s1 seed)(I:NW s2 d)(R:NW s3 y)(w:World)
  (h:Cmd w0 sh e s wd t q occ S L M N a [s1,s2,s3] w):
  Calls prog 40 #[sh,a] w λr w'=>nQ w0 sh seed d y M r w':=by
 have V:=pp h;have H:=pp (py U (py I R));clear h U I R;go_enter func40,ntmps40;go_upto_region 3 with first
  | (go_at_call 73;refine (Zk N a s1 seed H.o.1 _ _ V.o.arg).mono ?_;rintro z w3 ⟨rfl,a3,O⟩;have X:=pp (V.o.eat a3 O);clear a3 O)
  | (go_at_call 73;refine (Zk N a s2 d H.o.2.1 _ _ X.o.arg).mono ?_;rintro z w4 ⟨rfl,a4,T⟩;have P:=pp (X.o.eat a4 T);clear a4 T)
  | (go_at_call 73;refine (Zk N a s3 y H.o.2.2 _ _ P.o.arg).mono ?_;rintro z w5 ⟨rfl,a5,Q⟩;have B:=pp (P.o.eat a5 Q);clear a5 Q)
  | (go_at_call 74;refine (Ug N a _ B.o.arg).mono ?_;rintro z w6 ⟨rfl,rfl⟩)
 have HN:=pp (SH seed d 200000 y w5);go_upto_region 4 with (go_at_call 37;refine HN.o.mono ?_;rintro z K ⟨k,D,g,A,C,M',rfl,(E:Hid _)⟩;obtain ⟨Me,c,i,l⟩:=B.o.here;have Y:=(c.on E.o.2.2).cell 0;have Z:=(c.on E.o.2.2).frz 0;have HS:=pp (py c (py i l));clear c i l)
 obtain ⟨p,j⟩:=pt (K.setCell ⟨sh,0,none⟩ (.pointer (some ⟨k,0,none⟩)));have x:=pp j;rw [<-j];clear j Y Z;go_wp2_with (go_at_call 75;refine (Vt p.heap.size .ok (p.alloc (.cells #[.iface 121 (int i64 0)] 20)) (Q0.new' rfl) trivial (by decide)).mono ?_;rintro z w9 ⟨rfl,J⟩;have G9:=pp (after (Q3 _ _) J);clear J)
 go_returns;obtain ⟨c,i,l⟩:=HS.o;obtain ⟨hA,W,m⟩:=E.o;have v:¬M' sh:=λh=>by have:=W sh h;have:=c.lt;omega
 have n:Kept (λb=>b≠sh) K p:=by rw [x.o];exact (Kept.refl _ _).setCell (by simp) _
 have G:Q0 p sh 79 #[k]:=by rw [x.o];exact (c.on m).set_ 0 _
 have F:Qr k D g A C Xb (AC (AU seed d 200000) 0 y) none p M':=(YB k D g A C Xb _ none).kept hA n (λb m u=>v (u▸m)) λb cs hB u=>absurd (Q7 (u▸hB) (c.on m)) (by decide)
 refine ⟨k,D,g,A,C,rfl,Q6.on (Qq sh k D g A C Xb _ none) ⟨λb=>b=sh∨M' b,⟨M',G,F,λ_=>Iff.rfl⟩,λb f=>?_,?_⟩ G9.o⟩
 ·rcases f with rfl|f
  ·exact .inl ((l _).2 (.inl rfl))
  ·exact .inr (pB B.o.bel.size (W b f))
 ·exact (Kept.of_below (after B.o.bel m)).trans (n.mono λb f u=>f ((l b).2 (.inl u)))
theorem aX (w0:World)(sh e s wd t q:Nat)(occ:Value)(S:SS)(G:TS)(L:Option Lf)(M:Nat->Prop)(N a:Nat)(s1 s2:ByteArray)(x z:Int)(h1:NW s1 x)(W:NW s2 z)(hT:∀n p,Yz t S.T n p->Calls prog 42 #[t,.agg #[int i64 x,int i64 z]] n λr w'=>r=.returned (int i64 0)/\Q6 (Yz t G) n p w')(w:World)(bx:Nat)(i:Q0 w bx 99 #[.func (.func 42) #[t] #[]])
  (h:Cmd w0 sh e s wd t q occ S L M N a [s1,s2] w):
  Calls prog 76 #[a,bx] w λr w'=>r=.returned (.string (Q4 [111,107]))/\Q6 (QJ sh e s wd t q occ { S with T:=G } L) w0 M w':=by
 have HC:=pp h;have H1:=pp (kx N a s1 s2 x z h1 W _ w h.arg);have C:bx≠a:=λF=>by
  obtain ⟨q,c,hB,-⟩:=h.arg;rw [F] at i;exact absurd (Q7 i hB) (by decide)
 have HX:=pp (py i C);have HL:=pp hT;clear h h1 W i C hT;go_enter func76,ntmps76;go_upto_region 2 with (go_at_call 77;refine H1.o.mono ?_;rintro R n ⟨rfl,a1,B⟩;have H:=pp (HC.o.eat a1 B);have X1:=pp (B.blk HX.o.2 HX.o.1);clear a1 B)
 obtain ⟨m,d⟩:=pt (n.alloc (.cells #[int i64 x,int i64 z] 123));have j:pM n m:=by rw [d];exact Q3 _ _
 obtain ⟨c0,c1,-,-⟩:=(Q0.fresh d).pair;have x0:=(X1.o.on j).cell 0;have P:=pp (show Cmd w0 sh e s wd t q occ S L M N a [] m from ⟨H.o.sh,H.o.new,after H.o.bel j,H.o.arg.on j⟩);rw [<-d];clear d j;obtain ⟨Me,y,l,X⟩:=P.o.here;have Q:=pp (py y (py l X));have u:Calls prog 42 #[t,.agg #[int i64 x,int i64 z]] m λr w'=>r=.returned (int i64 0)/\Q6 (Qr e s wd t q occ { S with T:=G } L) m Me w':=by
  obtain ⟨Ms,F,I⟩:=l;obtain ⟨v,ds,Mw,Mq,hs,V⟩:=F.sim;obtain ⟨v',xs,p,g1,g2,g3,O,g⟩:=hs.wd;refine (HL.o m p O).mono ?_;rintro r w' ⟨rfl,k⟩;refine ⟨rfl,?_⟩;have U:¬p wd:=CD O g1 DZ;have A:∀b,v'.ownBlock=some b->¬p b:=λb f=>by
   obtain ⟨-,cur,hc⟩:=QC g2 f;exact CD O hc CF
  obtain ⟨E,B,k2,J⟩:=k;have kw:Q6 (Bb wd t G S.k) m Mw w':=by
   refine ⟨λb=>b=wd∨v'.ownBlock=some b∨E b,⟨v',xs,E,J.blk U g1,g2.keep J A,g3,B,λ_=>Iff.rfl⟩,λb f=>?_,J.mono λb f h=>f ((g b).2 (.inr (.inr h)))⟩
   rcases f with rfl|f|f
   ·exact .inl ((g _).2 (.inl rfl))
   ·exact .inl ((g _).2 (.inr (.inl f)))
   ·exact (k2 b f).imp_left λh=>(g b).2 (.inr (.inr h))
  exact (F.turn ((hs.world kw).under V)).under I
 have D:=pp u;clear y l X u;go_wp2_with first
  | (go_at_call 74;refine (Ug N a _ P.o.arg).mono ?_;rintro R w4 ⟨rfl,rfl⟩)
  | (go_at_call 42;refine D.o.mono ?_;rintro R Z ⟨rfl,K⟩;replace K:=pp K)
  | (go_at_call 75;refine (Vt Z.heap.size .ok (Z.alloc (.cells #[.iface 121 (int i64 0)] 20)) (Q0.new' rfl) trivial (by decide)).mono ?_;rintro R w7 ⟨rfl,Y⟩;have G7:=pp (after (Q3 _ _) Y);clear Y)
 go_returns;exact ⟨rfl,Q6.ahead P.o.bel (Q6.on (Qq sh e s wd t q occ _ L) (QJ.turn Q.o.1 Q.o.2.1 Q.o.2.2 K.o) G7.o)⟩
def aY (w0:World)(Q:ByteArray->Prop)(r:Ending)(w':World):Prop:=∃out,r=.returned (.string out)/\Q out/\Below w0.heap.size w0 w'
theorem kR (sh e s wd t q:Nat)(occ:Value)(S:SS)(L:Option Lf)(M:Nat->Prop)(w:World)(h:QJ sh e s wd t q occ S L w M)(line b:ByteArray)(g:List ByteArray)(C:line.size<=4294967296)(z:QD line=b::g)(f:g.length<=900000)(F:FuncId)(i:Nat)
  (A:∀l n v E o,Instr.findNow .string (.string b) (U5 (Ig sh l n v E o) 0) 0=some (some (i,.func (.func F) #[sh] #[])))
  (B:∀args w,(callFunc F args).run prog w=.ok (.enter F args) w) (Q:ByteArray->Prop)
  (u:∀c N a j,Below w.heap.size w c->Cmd c sh e s wd t q occ S L M N a g j->Calls prog F #[sh,a] j λr w'=>aY c Q r w'):
  Calls prog 9 #[sh,.string line] w λr w'=>aY w Q r w':=by
 exact LY sh e s wd t q occ S L M w h line b g C z f none F i A B (λc r w'=>aY c Q r w') (λc r w6 k hlt D=>by
  obtain ⟨d,rfl,x,m⟩:=D;exact ⟨d,rfl,λcs G=>⟨G.on m,d,rfl,x,(after k m).setCell (p:=⟨w.heap.size,0,none⟩) (pA _) _⟩⟩) λc N a l n j k _ _ y=>u c N a j k y
theorem kS (sh e s wd t q:Nat)(occ:Value)(S:SS)(M:Nat->Prop)(w:World)(line:ByteArray)(L:Option Lf)(h:QJ sh e s wd t q occ S L w M)(s1 s2 s3:ByteArray)(x y z:Int)(hl:line.size<=1000)(m:QD line=[⟨#[97,116]⟩,s1,s2,s3])(g:NW s1 x)(f:NW s2 y)(n:NW s3 z)(o:Qg x)(j:Qg z)(p:S.T.l.length<=1000)(c:(S.T.cell (x,y,z)== -1)=false):
  Calls prog 9 #[sh,.string line] w λr w'=>r=.returned (.string (Q4 (XK (S.T.cell (x,y,z)))))/\Below w.heap.size w w':=by
 refine (kR sh e s wd t q occ S L M w h line _ _ (by omega) m (by simp) 58 17 (λ_ _ _ _ _=>by kernel_rfl) (enters_of func58 (by kernel_rfl) rfl) (λb=>b=Q4 (XK (S.T.cell (x,y,z)))) (λd N a u _ i=>?_)).mono ?_
 ·refine (ne d sh e s wd t q occ S L M N a s1 s2 s3 x y z g f n o j p c u i).mono ?_;rintro r w' ⟨rfl,k⟩;exact ⟨_,rfl,rfl,k⟩
 ·rintro r w' ⟨b,rfl,rfl,k⟩;exact ⟨rfl,k⟩
theorem IOq.on {p:Value}{bs:List Value}{w w':World}(h:IOq B b p bs w)(e:pM w w'):IOq B b p bs w':=by
 obtain ⟨m,v,c,d,l⟩:=h;have lt:∀{g:Nat} {o:Obj},w.heap[g]?=some o->g<w.heap.size:=λh=>(Array.getElem?_eq_some_iff.1 h).1
 refine ⟨m,v,(e.block b (lt c)).trans c,⟨d.1,?_⟩,l⟩;rcases d.2 with a|⟨g,cap,cur,j,a,k,f,i⟩
 ·exact .inl a
 ·exact .inr ⟨g,cap,cur,j,a,k,(e.block g (lt f)).trans f,i⟩
end
end Go.Proofs.YtmbccnioijokfaaGreatDoor