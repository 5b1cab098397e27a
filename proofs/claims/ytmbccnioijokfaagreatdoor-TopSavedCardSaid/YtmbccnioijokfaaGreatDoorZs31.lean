/- A part of the proof. -/
import Derived.Test.YtmbccnioijokfaaGreatDoorZs28
namespace Go.Proofs.YtmbccnioijokfaaGreatDoor
set_option maxRecDepth 100000
set_option maxHeartbeats 32000000
open Go.Value (int)
open Go.IntKind (i64 u8)
open Go.Proofs.Tryz
section
open Go.RowKit Go.Shelf
attribute [local go_sem] Oper.semAt_some
theorem E5 (f c a x y z E sy C wd ht Q O:Int)(st j:Bool)(N M g:Nat)(L:0<=c/\c<=10000)(K:0<=a/\a<=300000)(R: -300000<=sy/\sy<=300000)(w:World)
  (B:Q0 w N 40 #[int i64 x,int i64 y,int i64 z,int i64 E,int i64 sy,int i64 C,int i64 wd,int i64 ht,.bool st]) (D:Q0 w M 81 #[Q,O,.bool j]) (P:Q0 w g 319 #[.pointer (some ⟨N,4,none⟩)]) (k:M≠N) (m:g≠N):
  Calls prog 265 #[f,int i64 c,int i64 a,g,M] w λr w'=>r=.returned (.tuple #[])/\Kept (λb=>b≠N) w w'/\
   Q0 w' N 40 #[int i64 x,int i64 y,int i64 z,int i64 E,int i64 (if j=true then f else Xv (sy - c) (-a)),int i64 C,int i64 wd,int i64 ht,.bool st]:=by
 have v:=@ZC prog;have e1:IntKind.i64.wrap (sy - c)=sy - c:=pJ _ (by omega)
 have e2:IntKind.i64.wrap (-a)= -a:=pJ _ (by omega)
 have q:=pp B;have T:=pp D;have H:=pp P;have I:=pp (py k m);clear B D P k m L K R;have s:=λd os=>(H.o.re d os).cell 0
 have i:=λd os=>(q.o.re d os).cell 4
 simp only [List.getElem?_toArray,List.getElem?_cons_zero,List.getElem?_cons_succ] at s i;go_enter func265,ntmps265;go_upto_region 0 with fail
 refine Qo 10 (by kernel_rfl) rfl (by kernel_rfl) ?_
 simp only [List.take_succ_cons,List.take_zero,List.drop_succ_cons,List.drop_zero];repeat (go_big_quiet_step (fail))
 refine wpQuiet_nil ?_;intro w' u;obtain ⟨G,rfl⟩:=u;clear s i v;obtain ⟨F,h⟩:=pt (Go.Sort.grow (redrawn w G.d) G.os);have e:pM w F:=by rw [h];exact pK _ _ _
 rw [<-h];clear h;have i:=(q.o.on e).cell 4;have S:=(q.o.on e).frz 4;simp only [List.getElem?_toArray,List.getElem?_cons_zero,List.getElem?_cons_succ] at i;go_upto_region 1 with fail
 generalize A:World.setCell F _ _=W2;have t:Q0 W2 N 40 #[int i64 x,int i64 y,int i64 z,int i64 E,int i64 (Xv (sy - c) (-a)),int i64 C,int i64 wd,int i64 ht,.bool st]:=Q0.eqw A ((q.o.on e).set_ 4 _);have p:Kept (λb=>b≠N) w W2:=by rw [<-A];exact ((Kept.of_below e).mono λ_ _=>trivial).setCell (by simp) _
 have J:=(p.blk I.o.1 T.o).cell 2;have s:=(p.blk I.o.2 H.o).cell 0;have i:=t.cell 4;have S:=t.frz 4;simp only [List.getElem?_toArray,List.getElem?_cons_zero,List.getElem?_cons_succ] at J s i;have n:=pp t;have l:=pp p;clear A t p e;cases j
 ·go_wp2_with fail;go_returns;exact ⟨rfl,l.o,n.o⟩
 ·go_wp2_with fail;go_returns;exact ⟨rfl,l.o.setCell (by simp) _,n.o.set_ 4 _⟩
theorem aC (V:FuncId)(lv:Value)(val:Cl->Int)(b:BD)(ix iz:Int)(j:Bool)(M:Int)(hM:M<=71000000000000)(ai:0<=M)(hB:BOk M b)(w:World)
  (eV:∀args w,(callFunc V args).run prog w=.ok (.enter V args) w) (f:Yy prog V lv val w):
  Calls prog 197 #[.agg (Z5 b),.func (.func V) #[lv] #[],.agg #[int i64 ix,int i64 iz,.bool j]] w λr w'=>r=.returned (.agg (Z5 (DV val b j)))/\Below w.heap.size w w':=by
 obtain ⟨hS,-⟩:=hB.box hM;have I:=hS.box (by omega) (by omega)
 have ab:=hS.under (by omega) (by omega)
 have ag:=hS.bd;have ah:=hB.sy;have CB:=λW=>I7 b (by have:=hB.wd;omega) W
 have CC:=λW (h:Below w.heap.size w W)=>P3 V lv val (Qw b).1 (Qw b).2.1 (Qw b).2.2.1 (Qw b).2.2.2.1 (Qw b).2.2.2.2.1 (Qw b).2.2.2.2.2 I.1 W eV (f.on h)
 have CW:=λW (h:Below w.heap.size w W)=>eC V lv val (Qw b).1 (Qw b).2.1 (Qw b).2.2.1 (Qw b).2.2.2.1 (Qw b).2.2.2.2.1 (Qw b).2.2.2.2.2 I.1 W eV (f.on h)
 have CS:=λW (h:Below w.heap.size w W)=>Bm V lv val (Qw b).1 (Qw b).2.1 (Qw b).2.2.1 (Qw b).2.2.2.1 (Qw b).2.2.2.2.1 (Qw b).2.2.2.2.2 (by omega) (by omega) ab.1 W eV (f.on h)
 clear hS I ab ag f eV hM ai hB;unfold DV;have fC:EX val EG (Qw b)=(Qz (Qw b).1 (Qw b).2.1 (Qw b).2.2.1 (Qw b).2.2.2.1 (Qw b).2.2.2.2.1 (Qw b).2.2.2.2.2).any λc=>EG (val c):=by unfold EX;rfl
 have fW:EX val Yv (Qw b)=(Qz (Qw b).1 (Qw b).2.1 (Qw b).2.2.1 (Qw b).2.2.2.1 (Qw b).2.2.2.2.1 (Qw b).2.2.2.2.2).any λc=>Yv (val c):=by unfold EX;rfl
 have fS:Ep val (Qw b)=(Qz (Qw b).1 (Qe ((Qw b).2.1 - 1)) (Qw b).2.2.1 (Qw b).2.2.2.1 (Qw b).2.1 (Qw b).2.2.2.2.2).any λc=>Zh (val c):=by unfold Ep;rfl
 rw [<-fC] at CC;rw [<-fW] at CW;rw [<-fS] at CS;clear fC fW fS;generalize EX val EG (Qw b)=pc at CC ⊢;generalize EX val Yv (Qw b)=pw at CW ⊢;generalize Ep val (Qw b)=ps at CS ⊢;generalize Qw b=bx at CB CC CW CS;obtain ⟨x,y,z,q,sy,m,wd,ht,st⟩:=b;obtain ⟨y1,y2,y3,y4,y5,y6⟩:=bx;simp only [Z5,AX] at *;have ad:=pp CB;have C:=pp CC;have G:=pp CW;have F:=pp CS;clear CB CC CW CS;obtain ⟨N,hN⟩:=pt w.heap.size;obtain ⟨W,hW⟩:=pt (((w.alloc (.cells #[int i64 x,int i64 y,int i64 z,int i64 q,int i64 sy,int i64 m,int i64 wd,int i64 ht,.bool st] 40)).alloc (.cells #[int i64 ix,int i64 iz,.bool j] 81)).alloc (.cells #[int i64 0,int i64 0,int i64 0,int i64 0,int i64 0,int i64 0,int i64 0,int i64 0,.bool false] 40));have H:Below w.heap.size w W:=by rw [hW];go_grown
 have B:Q0 W N 40 _:=Q0.eqw hW.symm (by rw [hN];exact ((Q0.new' rfl).alloc _).alloc _)
 have D:Q0 W (N+1) 81 _:=Q0.eqw hW.symm (by rw [hN];exact (Q0.new' (by simp)).alloc _)
 have R:Q0 W (N+1+1) 40 _:=Q0.eqw hW.symm (by rw [hN];exact Q0.new' (by simp))
 go_enter func197,ntmps197;go_upto_region 1 with fail
 rw [<-hW,<-hN];have HN:=pp hN;clear hW hN;obtain ⟨⟨b0,b1,b2,b3,b4,b5,b6,b7,b8⟩,-⟩:=B.c9;go_upto_region 2 with (go_at_call 139;refine (ad.o _).mono ?_;rintro L w1 ⟨rfl,k1⟩)
 generalize f:World.alloc (World.alloc w1 _) _=W1;have X:Q0 W1 w1.heap.size 210 #[int i64 y1,int i64 y2,int i64 y3,int i64 y4,int i64 y5,int i64 y6]:=Q0.eqw f ((Q0.new' rfl).alloc _);have P:Q0 W1 (w1.heap.size+1) 319 #[.pointer (some ⟨N,4,none⟩)]:=Q0.eqw f (Q0.new' (by simp))
 have hk:Below W.heap.size W W1:=by rw [<-f];exact after k1 (((pI _ _).alloc (pA _) _).alloc (by simp) _)
 have ac:=pD R.lt k1.size;replace B:=B.on hk;replace D:=D.on hk;replace R:=R.on hk;replace H:=after H hk;clear f k1 hk b0 b1 b2 b3 b4 b5 b6 b7 b8 ad;generalize w1.heap.size=g at X P ac ⊢;have Q:N+1≠N:=by omega
 have Y:N+1+1≠N:=by omega
 have hn3:g≠N:=by omega
 have hn5:g≠N+1:=by omega
 have hn6:g+1≠N+1:=by omega
 have S:g+1≠N:=by omega
 have U:w.heap.size<=N+1+1:=by have:=HN.o;omega
 obtain ⟨ae,af⟩:=ah;have aa:=pp (show -300000<=sy/\sy<=300000 by omega)
 clear ae af ac;obtain ⟨⟨x0,x1,x2,O,T,Z⟩,-⟩:=X.c6;cases pc
 ·cases pw
  ·go_upto_region 3 with first
    | (go_at_call 266;refine (C.o _ H).mono ?_;rintro L w2 ⟨rfl,d⟩;replace B:=B.on d;replace D:=D.on d;replace R:=R.on d;replace X:=X.on d;replace P:=P.on d;replace H:=after H d;obtain ⟨⟨x0,x1,x2,O,T,Z⟩,-⟩:=X.c6;clear d)
    | (go_at_call 267;refine (G.o _ H).mono ?_;rintro L w3 ⟨rfl,s⟩;replace B:=B.on s;replace D:=D.on s;replace R:=R.on s;replace X:=X.on s;replace P:=P.on s;replace H:=after H s;obtain ⟨⟨x0,x1,x2,O,T,Z⟩,-⟩:=X.c6;clear s)
   have E:=D.cell 2;have f2:=D.frz 2;simp only [List.getElem?_toArray,List.getElem?_cons_zero,List.getElem?_cons_succ] at E;cases j
   ·go_upto_region 4 with (go_at_call 140;refine (F.o _ H).mono ?_;rintro L w4 ⟨rfl,t⟩;replace B:=B.on t;replace D:=D.on t;replace R:=R.on t;replace X:=X.on t;replace P:=P.on t;replace H:=after H t;have f2:=D.frz 2;have E:=D.cell 2;clear t)
    generalize f:World.setCell _ _ _=W5;replace B:=Q0.eqw f (B.far (p:=⟨N+1,2,none⟩) (by dsimp only;omega) _)
    replace R:=Q0.eqw f (R.far (p:=⟨N+1,2,none⟩) (by dsimp only;omega) _)
    replace P:=Q0.eqw f (P.far (p:=⟨N+1,2,none⟩) (by dsimp only;omega) _)
    replace D:Q0 W5 (N+1) 81 #[int i64 ix,int i64 iz,.bool false]:=Q0.eqw f (D.set_ 2 _);replace H:Below w.heap.size w W5:=by rw [<-f];exact H.setCell (p:=⟨N+1,2,none⟩) (by have:=HN.o;dsimp only;omega) _
    clear f E f2;have l:=E5 28672 4096 262144 x y z q sy m wd ht ix iz st false N (N+1) (g+1) ⟨by decide,by decide⟩ ⟨by decide,by decide⟩ aa.o _ B D P Q S
    have k:=pp l;clear l x0 x1 x2 O T Z C G F;go_upto_region 9 with (go_at_call 265;refine k.o.mono ?_;rintro L w6 ⟨rfl,K,B6⟩;have a:=pp K;have i:=pp (show Q0 w6 N 40 #[int i64 x,int i64 y,int i64 z,int i64 q,int i64 (ZO false false ps false sy),int i64 m,int i64 wd,int i64 ht,.bool st] from B6);clear K B6)
    clear k;have u:=a.o;replace H:=H.trans (u.below (n:=w.heap.size) H.size (λb hb e=>by have:=HN.o;omega))
    obtain ⟨⟨b0,b1,b2,b3,b4,b5,b6,b7,b8⟩,-⟩:=i.o.c9;have J:=u.blk Y R;obtain ⟨⟨r0,r1,r2,r3,r4,r5,r6,r7,r8⟩,f0,f1,f2,f3,f4,f5,f6,f7,f8⟩:=J.c9;clear a u B D X P i R;go_wp2_with fail;have A:=J.st9 (int i64 (x)) (int i64 (y)) (int i64 (z)) (int i64 (q)) (int i64 (ZO false false ps false sy)) (int i64 (m)) (int i64 (wd)) (int i64 (ht)) (.bool (st));obtain ⟨⟨d0,d1,E,d3,d4,d5,d6,d7,d8⟩,-⟩:=A.c9;exact bodyPost_ret (v:=.agg #[int i64 (x),int i64 (y),int i64 (z),int i64 (q),int i64 (ZO false false ps false sy),int i64 (m),int i64 (wd),int i64 (ht),.bool (st)]) (by simp [results,results197,go_sem,d0,d1,E,d3,d4,d5,d6,d7,d8]) rfl ⟨rfl,Z0 H U _ _ _ _ _ _ _ _ _⟩
   ·go_upto_region 4 with (go_at_call 140;refine (F.o _ H).mono ?_;rintro L w4 ⟨rfl,t⟩;replace B:=B.on t;replace D:=D.on t;replace R:=R.on t;replace X:=X.on t;replace P:=P.on t;replace H:=after H t;have f2:=D.frz 2;have E:=D.cell 2;clear t)
    generalize f:World.setCell _ _ _=W5;replace B:=Q0.eqw f (B.far (p:=⟨N+1,2,none⟩) (by dsimp only;omega) _)
    replace R:=Q0.eqw f (R.far (p:=⟨N+1,2,none⟩) (by dsimp only;omega) _)
    replace P:=Q0.eqw f (P.far (p:=⟨N+1,2,none⟩) (by dsimp only;omega) _)
    replace D:Q0 W5 (N+1) 81 #[int i64 ix,int i64 iz,.bool ps]:=Q0.eqw f (D.set_ 2 _);replace H:Below w.heap.size w W5:=by rw [<-f];exact H.setCell (p:=⟨N+1,2,none⟩) (by have:=HN.o;dsimp only;omega) _
    clear f E f2;have l:=E5 28672 4096 262144 x y z q sy m wd ht ix iz st ps N (N+1) (g+1) ⟨by decide,by decide⟩ ⟨by decide,by decide⟩ aa.o _ B D P Q S
    have k:=pp l;clear l x0 x1 x2 O T Z C G F;go_upto_region 9 with (go_at_call 265;refine k.o.mono ?_;rintro L w6 ⟨rfl,K,B6⟩;have a:=pp K;have i:=pp (show Q0 w6 N 40 #[int i64 x,int i64 y,int i64 z,int i64 q,int i64 (ZO false false ps true sy),int i64 m,int i64 wd,int i64 ht,.bool st] from B6);clear K B6)
    clear k;have u:=a.o;replace H:=H.trans (u.below (n:=w.heap.size) H.size (λb hb e=>by have:=HN.o;omega))
    obtain ⟨⟨b0,b1,b2,b3,b4,b5,b6,b7,b8⟩,-⟩:=i.o.c9;have J:=u.blk Y R;obtain ⟨⟨r0,r1,r2,r3,r4,r5,r6,r7,r8⟩,f0,f1,f2,f3,f4,f5,f6,f7,f8⟩:=J.c9;clear a u B D X P i R;go_wp2_with fail;have A:=J.st9 (int i64 (x)) (int i64 (y)) (int i64 (z)) (int i64 (q)) (int i64 (ZO false false ps true sy)) (int i64 (m)) (int i64 (wd)) (int i64 (ht)) (.bool (st));obtain ⟨⟨d0,d1,E,d3,d4,d5,d6,d7,d8⟩,-⟩:=A.c9;exact bodyPost_ret (v:=.agg #[int i64 (x),int i64 (y),int i64 (z),int i64 (q),int i64 (ZO false false ps true sy),int i64 (m),int i64 (wd),int i64 (ht),.bool (st)]) (by simp [results,results197,go_sem,d0,d1,E,d3,d4,d5,d6,d7,d8]) rfl ⟨rfl,Z0 H U _ _ _ _ _ _ _ _ _⟩
  ·go_upto_region 8 with first
    | (go_at_call 266;refine (C.o _ H).mono ?_;rintro L w2 ⟨rfl,d⟩;replace B:=B.on d;replace D:=D.on d;replace R:=R.on d;replace X:=X.on d;replace P:=P.on d;replace H:=after H d;obtain ⟨⟨x0,x1,x2,O,T,Z⟩,-⟩:=X.c6;clear d)
    | (go_at_call 267;refine (G.o _ H).mono ?_;rintro L w3 ⟨rfl,s⟩;replace B:=B.on s;replace D:=D.on s;replace R:=R.on s;replace X:=X.on s;replace P:=P.on s;replace H:=after H s;obtain ⟨⟨x0,x1,x2,O,T,Z⟩,-⟩:=X.c6;clear s)
   have l:=E5 6144 1024 8192 x y z q sy m wd ht ix iz st j N (N+1) (g+1) ⟨by decide,by decide⟩ ⟨by decide,by decide⟩ aa.o _ B D P Q S
   have k:=pp l;clear l x0 x1 x2 O T Z C G F;go_upto_region 9 with (go_at_call 265;refine k.o.mono ?_;rintro L w6 ⟨rfl,K,B6⟩;have a:=pp K;have i:=pp (show Q0 w6 N 40 #[int i64 x,int i64 y,int i64 z,int i64 q,int i64 (ZO false true ps j sy),int i64 m,int i64 wd,int i64 ht,.bool st] from B6);clear K B6)
   clear k;have u:=a.o;replace H:=H.trans (u.below (n:=w.heap.size) H.size (λb hb e=>by have:=HN.o;omega))
   obtain ⟨⟨b0,b1,b2,b3,b4,b5,b6,b7,b8⟩,-⟩:=i.o.c9;have J:=u.blk Y R;obtain ⟨⟨r0,r1,r2,r3,r4,r5,r6,r7,r8⟩,f0,f1,f2,f3,f4,f5,f6,f7,f8⟩:=J.c9;clear a u B D X P i R;go_wp2_with fail;have A:=J.st9 (int i64 (x)) (int i64 (y)) (int i64 (z)) (int i64 (q)) (int i64 (ZO false true ps j sy)) (int i64 (m)) (int i64 (wd)) (int i64 (ht)) (.bool (st));obtain ⟨⟨d0,d1,E,d3,d4,d5,d6,d7,d8⟩,-⟩:=A.c9;exact bodyPost_ret (v:=.agg #[int i64 (x),int i64 (y),int i64 (z),int i64 (q),int i64 (ZO false true ps j sy),int i64 (m),int i64 (wd),int i64 (ht),.bool (st)]) (by simp [results,results197,go_sem,d0,d1,E,d3,d4,d5,d6,d7,d8]) rfl ⟨rfl,Z0 H U _ _ _ _ _ _ _ _ _⟩
 ·go_upto_region 6 with (go_at_call 266;refine (C.o _ H).mono ?_;rintro L w2 ⟨rfl,d⟩;replace B:=B.on d;replace D:=D.on d;replace R:=R.on d;replace X:=X.on d;replace P:=P.on d;replace H:=after H d;obtain ⟨⟨x0,x1,x2,O,T,Z⟩,-⟩:=X.c6;clear d)
  have l:=E5 8192 4096 8192 x y z q sy m wd ht ix iz st j N (N+1) (g+1) ⟨by decide,by decide⟩ ⟨by decide,by decide⟩ aa.o _ B D P Q S
  have k:=pp l;clear l x0 x1 x2 O T Z C G F;go_upto_region 9 with (go_at_call 265;refine k.o.mono ?_;rintro L w6 ⟨rfl,K,B6⟩;have a:=pp K;have i:=pp (show Q0 w6 N 40 #[int i64 x,int i64 y,int i64 z,int i64 q,int i64 (ZO true pw ps j sy),int i64 m,int i64 wd,int i64 ht,.bool st] from B6);clear K B6)
  clear k;have u:=a.o;replace H:=H.trans (u.below (n:=w.heap.size) H.size (λb hb e=>by have:=HN.o;omega))
  obtain ⟨⟨b0,b1,b2,b3,b4,b5,b6,b7,b8⟩,-⟩:=i.o.c9;have J:=u.blk Y R;obtain ⟨⟨r0,r1,r2,r3,r4,r5,r6,r7,r8⟩,f0,f1,f2,f3,f4,f5,f6,f7,f8⟩:=J.c9;clear a u B D X P i R;go_wp2_with fail;have A:=J.st9 (int i64 (x)) (int i64 (y)) (int i64 (z)) (int i64 (q)) (int i64 (ZO true pw ps j sy)) (int i64 (m)) (int i64 (wd)) (int i64 (ht)) (.bool (st));obtain ⟨⟨d0,d1,E,d3,d4,d5,d6,d7,d8⟩,-⟩:=A.c9;exact bodyPost_ret (v:=.agg #[int i64 (x),int i64 (y),int i64 (z),int i64 (q),int i64 (ZO true pw ps j sy),int i64 (m),int i64 (wd),int i64 (ht),.bool (st)]) (by simp [results,results197,go_sem,d0,d1,E,d3,d4,d5,d6,d7,d8]) rfl ⟨rfl,Z0 H U _ _ _ _ _ _ _ _ _⟩
theorem fv (V:FuncId)(lv:Value)(val:Cl->Int)(x:B6)(dx dy dz up M:Int)(hM:M<=71500000000000)(L:0<=M)(hB:Yh M x)(w:World)
  (eV:∀args w,(callFunc V args).run prog w=.ok (.enter V args) w) (j:Yy prog V lv val w):
  Calls prog 268 #[.func (.func V) #[lv] #[],.agg (AX x),.agg #[int i64 dx,int i64 dy,int i64 dz],int i64 up] w λr w'=>r=.returned (jF (Bn val x dx dy dz up))/\Below w.heap.size w w':=by
 have t0:=hB.bd;have tH:=(L7 (val:=val) (up:=up) hB L (by omega)).bd
 have tC:=(cJ (val:=val) (up:=up) (dx:=dx) (dz:=dz) hB L (by omega)).bd
 have tY:=(S0 (val:=val) (dx:=dx) (dy:=dy) (dz:=dz) hB L (by omega)).bd
 have C0:=λW (h:Below w.heap.size w W)=>eP V lv val x dx dy dz M hM L hB W eV (j.on h)
 have CS:=λW (h:Below w.heap.size w W)=>Bm V lv val x.1 x.2.1 x.2.2.1 x.2.2.2.1 x.2.2.2.2.1 x.2.2.2.2.2 (by omega) (by omega) (hB.under L (by omega)).1 W eV (j.on h)
 have C1:=λW (h:Below w.heap.size w W)=>Uo V lv val x 1 (Xj up 65536) M (by omega) L hB W eV (j.on h)
 have C2:=λW (h:Below w.heap.size w W)=>Uo V lv val (YV val x up).1 0 dx (M+10000000) (by omega) (by omega) (L7 hB L (by omega)) W eV (j.on h)
 have C3:=λW (h:Below w.heap.size w W)=>Uo V lv val (oA val x dx up).1 2 dz (M+20000000) (by omega) (by omega) (cH hB L (by omega)) W eV (j.on h)
 have C4:=λW (h:Below w.heap.size w W)=>Uo V lv val (oB val x dx dz up).1 1 (-rise val x up) (M+30000000) (by omega) (by omega) (cI hB L (by omega)) W eV (j.on h)
 have am:=λW=>NB x (oC val x dx dz up).1 (by omega) (by omega) (by omega) (by omega) W
 have ak:=λW=>NB x (st3 val x dx dy dz) (by omega) (by omega) (by omega) (by omega) W
 have q1: -9223372036854775808<=(YV val x up).1.2.1 - x.2.1/\(YV val x up).1.2.1 - x.2.1<=9223372036854775807:=by omega
 have q2: -9223372036854775808<=-((YV val x up).1.2.1 - x.2.1)/\-((YV val x up).1.2.1 - x.2.1)<=9223372036854775807:=by omega
 clear t0 tH tC tY hM L hB j eV;have fC:oC val x dx dz up=ZM val (oB val x dx dz up).1 1 (-rise val x up):=rfl;have fB:oB val x dx dz up=ZM val (oA val x dx up).1 2 dz:=rfl;have fA:oA val x dx up=ZM val (YV val x up).1 0 dx:=rfl;have fH:YV val x up=ZM val x 1 (Xj up 65536):=rfl;have fR:rise val x up=(YV val x up).1.2.1 - x.2.1:=rfl;rw [<-fC] at C4;rw [<-fB] at C3;rw [<-fA] at C2;rw [<-fH] at C1;rw [fR] at C4;have fS:Ep val x=(Qz x.1 (Qe (x.2.1 - 1)) x.2.2.1 x.2.2.2.1 x.2.1 x.2.2.2.2.2).any λc=>Zh (val c):=rfl
 rw [<-fS] at CS;unfold P4 at C0;unfold Bn;clear fC fB fA fH fR fS;generalize YV val x up=H at C1 C2 q1 q2 C4;generalize oA val x dx up=A at C2 C3 ⊢;generalize oB val x dx dz up=B at C3 C4 ⊢;generalize oC val x dx dz up=C at C4 am ⊢;generalize st3 val x dx dy dz=y at C0 ak ⊢;generalize AY val x dx dy=u0 at C0 ⊢;generalize RZ val x dy=u1 at C0 ⊢;generalize Eo val x dx dy dz=u2 at C0 ⊢;generalize Ep val x=st at CS ⊢;generalize Fr x C.1=n1 at am ⊢;generalize Fr x y=n2 at ak ⊢;obtain ⟨r,hr⟩:=pt (AJ y C.1 u0 u1 u2 A.2 B.2 st up n1 n2);rw [<-hr];obtain ⟨a,b,c,d,e,f⟩:=x;obtain ⟨y1,y2,y3,y4,y5,y6⟩:=y;obtain ⟨⟨h1,h2,h3,h4,h5,h6⟩,sh⟩:=H;obtain ⟨⟨a1,a2,a3,a4,a5,a6⟩,sa⟩:=A;obtain ⟨⟨b1,b2,b3,b4,b5,b6⟩,sb⟩:=B;obtain ⟨⟨c1,c2,c3,c4,c5,c6⟩,sc⟩:=C;simp only [Sc,AX,jE,jF] at *;obtain ⟨q1,q3⟩:=q1;obtain ⟨q2,q4⟩:=q2;have HR:=pp hr;clear hr;have ao:=pp C0;have ax:=pp C1;have a0:=pp C2;have az:=pp C3;have av:=pp C4;have aq:=pp CS;have a9:=pp am;have au:=pp ak;clear C0 C1 C2 C3 C4 CS am ak;obtain ⟨W,hW⟩:=pt ((((w.alloc (.cells #[int i64 a,int i64 b,int i64 c,int i64 d,int i64 e,int i64 f] 210)).alloc (.cells #[int i64 dx,int i64 dy,int i64 dz] 38)).alloc (.cells #[int i64 0,int i64 0,int i64 0,int i64 0,int i64 0,int i64 0] 210)).alloc (.cells #[.bool false,.bool false,.bool false] 322));have H:Below w.heap.size w W:=by rw [hW];go_grown
 have hs:W.heap.size=w.heap.size+4:=by rw [hW];simp
 obtain ⟨N,hN⟩:=pt w.heap.size;rw [<-hN] at hs;have HS:=pp hs;clear hs;have U:Q0 W N 210 _:=Q0.eqw hW.symm (by rw [hN];exact (((Q0.new' rfl).alloc _).alloc _).alloc _)
 have D:Q0 W (N+1) 38 _:=Q0.eqw hW.symm (by rw [hN];exact ((Q0.new' (by simp)).alloc _).alloc _)
 have E:Q0 W (N+1+1) 210 _:=Q0.eqw hW.symm (by rw [hN];exact (Q0.new' (by simp)).alloc _)
 have z:Q0 W (N+1+1+1) 322 _:=Q0.eqw hW.symm (by rw [hN];exact Q0.new' (by simp))
 go_enter func268,ntmps268;go_upto_region 1 with fail
 rw [<-hW,<-hN];have HN:=pp hN;clear hW hN;obtain ⟨k,m,q,n,l,s⟩:=U.c6.1;obtain ⟨v0,R,v2,-,-,-⟩:=D.c3;go_upto_region 2 with (go_at_call 272;refine (ao.o _ H).mono ?_;rintro e_ w1 ⟨rfl,k1⟩)
 generalize j:World.alloc (World.alloc w1 _) _=Y1;have u:Below w1.heap.size w1 Y1:=by rw [<-j];go_grown
 have P:Q0 Y1 w1.heap.size 210 #[int i64 y1,int i64 y2,int i64 y3,int i64 y4,int i64 y5,int i64 y6]:=Q0.eqw j ((Q0.new' rfl).alloc _);have Q:Q0 Y1 (w1.heap.size+1) 322 #[.bool u0,.bool u1,.bool u2]:=Q0.eqw j (Q0.new' (by simp))
 have a7:N+4<=w1.heap.size:=by rw [<-HS.o];exact k1.size
 have HY:=pp (after k1 u);replace U:=U.on k1;replace D:=D.on k1;replace E:=E.on k1;replace z:=z.on k1;replace U:=U.on u;replace D:=D.on u;replace E:=E.on u;replace z:=z.on u;replace H:=after (after H k1) u;clear j u k1 k m q n l s v0 R v2;generalize w1.heap.size=gp at P Q a7 ⊢;have t:=pp H;clear H ao;have ap:(u0=false/\u2=false)∨((u0=false/\u2=true∨u0=true)/\up<=0)∨((u0=false/\u2=true∨u0=true)/\0<up/\st=false)∨((u0=false/\u2=true∨u0=true)/\0<up/\st=true):=by
  cases u0<;>cases u2<;>cases st<;>simp<;>omega
 obtain ⟨k,m,q,n,l,s⟩:=U.c6.1;rcases ap with ⟨rfl,rfl⟩|⟨hz,hu⟩|⟨hz,hu,rfl⟩|⟨hz,hu,rfl⟩
 ·obtain rfl:r=((y1,y2,y3,y4,y5,y6),false,u1,false):=by rw [HR.o,Cy (.inl ⟨rfl,rfl⟩)]
  obtain ⟨t0,t1,t2,-,-,-⟩:=Q.c3;have x0:=λf d os=>(P.sp (D:=[N+1+1,N+1+1+1]) (by simp;omega) f d os).c6.1
  have y0:=λf d os=>(Q.sp (D:=[N+1+1,N+1+1+1]) (by simp;omega) f d os).c3
  go_upto_region 3 with fail
  have Y:=E;have B2:=z;refine BH [0,0,2,2] 2 (N+1+1) (210) (#[int i64 y1,int i64 y2,int i64 y3,int i64 y4,int i64 y5,int i64 y6]) 3 (N+1+1+1) (322) (#[.bool false,.bool u1,.bool false]) (by omega) (by kernel_rfl) (by kernel_rfl) ?_
  repeat (first|(refine Qi ?_)|(refine Qf (λK hK=>?_);go_simp;refine hK _ ?_;clear hK K))
  refine Q8 ?_;repeat (refine Q2 ?_)
  refine Qv ?s1 (λaa=>?_)
  case s1=>
   intro Z O g;have L2:=g.blk (by simp [Vx]) Y
   obtain ⟨⟨q0,q1,q2,q3,q4,q5⟩,f0,f1,f2,f3,f4,f5⟩:=L2.c6;go_simp;exact Aj (by decide) US (L2.st6 _ _ _ _ _ _)
  refine Qv ?s2 (λX=>?_)
  case s2=>
   intro Z O g;have T2:=g.blk (by simp [Vx]) B2
   obtain ⟨q0,q1,q2,f0,f1,f2⟩:=T2.c3;go_simp;exact Ak (by decide) UR (T2.st3 _ _ _)
  refine XX ?_;simp only [Qd];rintro Z k_ ⟨⟨-,r1⟩,r2⟩;obtain ⟨⟨m0,m1,m2,m3,m4,m5⟩,-,-,-,-,-,-⟩:=(r1.1 rfl).c6;obtain ⟨j0,j1,j2,-,-,-⟩:=(r2.2 rfl).c3;clear r1 r2 x0 y0 Y B2;simp only [wpList,Exit.then];rename_i i;refine i _ _ (wp_ret ?_)
  try simp only [Exit.then]
  refine bodyPost_ret (v:=.tuple #[.agg #[int i64 y1,int i64 y2,int i64 y3,int i64 y4,int i64 y5,int i64 y6],.agg #[.bool false,.bool u1,.bool false]]) (by simp [results,Tryz.f268,go_sem,m0,m1,m2,m3,m4,m5,j0,j1,j2]) rfl ⟨rfl,?_⟩
  have al:=HN.o;exact (t.o).trans (k_.below (t.o).size (λb hb=>by simp;omega))
 ·rcases hz with ⟨rfl,rfl⟩|rfl<;>(
  obtain rfl:=HR.o.trans (Cy (.inr (.inl hu)));obtain ⟨t0,t1,t2,-,-,-⟩:=Q.c3;have ar:¬0<up:=by omega
  have x0:=λf d os=>(P.sp (D:=[N+1+1,N+1+1+1]) (by simp;omega) f d os).c6.1
  have y0:=λf d os=>(Q.sp (D:=[N+1+1,N+1+1+1]) (by simp;omega) f d os).c3
  go_upto_region 3 with fail
  have Y:=E;have B2:=z;refine BH [0,0,2,2] 2 (N+1+1) (210) (#[int i64 y1,int i64 y2,int i64 y3,int i64 y4,int i64 y5,int i64 y6]) 3 (N+1+1+1) (322) ((by first|exact #[.bool true,.bool u1,.bool u2]|exact #[.bool false,.bool u1,.bool true])) (by omega) (by kernel_rfl) (by kernel_rfl) ?_
  repeat (first|(refine Qi ?_)|(refine Qf (λK hK=>?_);go_simp;refine hK _ ?_;clear hK K))
  refine Q8 ?_;repeat (refine Q2 ?_)
  refine Qv ?s1 (λaa=>?_)
  case s1=>
   intro Z O g;have L2:=g.blk (by simp [Vx]) Y
   obtain ⟨⟨q0,q1,q2,q3,q4,q5⟩,f0,f1,f2,f3,f4,f5⟩:=L2.c6;go_simp;exact Aj (by decide) US (L2.st6 _ _ _ _ _ _)
  refine Qv ?s2 (λX=>?_)
  case s2=>
   intro Z O g;have T2:=g.blk (by simp [Vx]) B2
   obtain ⟨q0,q1,q2,f0,f1,f2⟩:=T2.c3;go_simp;exact Ak (by decide) UR (T2.st3 _ _ _)
  refine XX ?_;simp only [Qd];rintro Z k_ ⟨⟨-,r1⟩,r2⟩;obtain ⟨⟨m0,m1,m2,m3,m4,m5⟩,-,-,-,-,-,-⟩:=(r1.1 rfl).c6;obtain ⟨j0,j1,j2,-,-,-⟩:=(r2.2 rfl).c3;clear r1 r2 x0 y0 Y B2;simp only [wpList,Exit.then];rename_i i;refine i _ _ (wp_ret ?_)
  try simp only [Exit.then]
  refine bodyPost_ret (v:=.tuple #[.agg #[int i64 y1,int i64 y2,int i64 y3,int i64 y4,int i64 y5,int i64 y6],.agg (by first|exact #[.bool true,.bool u1,.bool u2]|exact #[.bool false,.bool u1,.bool true])]) (by simp [results,Tryz.f268,go_sem,m0,m1,m2,m3,m4,m5,j0,j1,j2]) rfl ⟨rfl,?_⟩
  have al:=HN.o;exact (t.o).trans (k_.below (t.o).size (λb hb=>by simp;omega))
  )
 ·rcases hz with ⟨rfl,rfl⟩|rfl<;>(
  obtain rfl:=HR.o.trans (Cy (.inr (.inr (.inl rfl))));obtain ⟨t0,t1,t2,-,-,-⟩:=Q.c3;have ar:decide (up<=0)=false:=by simpa using hu
  go_upto_region 3 with (go_at_call 140;refine (aq.o _ t.o).mono ?_;rintro e_ w2 ⟨rfl,k2⟩)
  clear t0 t1 t2 k m q n l s;replace P:=P.on k2;replace Q:=Q.on k2;replace E:=E.on k2;replace z:=z.on k2;replace t:=pp (after t.o k2);have x0:=λf d os=>(P.sp (D:=[N+1+1,N+1+1+1]) (by simp;omega) f d os).c6.1
  have y0:=λf d os=>(Q.sp (D:=[N+1+1,N+1+1+1]) (by simp;omega) f d os).c3
  go_upto_region 3 with fail
  have Y:=E;have B2:=z;refine BH [0,0,2,2] 2 (N+1+1) (210) (#[int i64 y1,int i64 y2,int i64 y3,int i64 y4,int i64 y5,int i64 y6]) 3 (N+1+1+1) (322) ((by first|exact #[.bool true,.bool u1,.bool u2]|exact #[.bool false,.bool u1,.bool true])) (by omega) (by kernel_rfl) (by kernel_rfl) ?_
  repeat (first|(refine Qi ?_)|(refine Qf (λK hK=>?_);go_simp;refine hK _ ?_;clear hK K))
  refine Q8 ?_;repeat (refine Q2 ?_)
  refine Qv ?s1 (λaa=>?_)
  case s1=>
   intro Z O g;have L2:=g.blk (by simp [Vx]) Y
   obtain ⟨⟨q0,q1,q2,q3,q4,q5⟩,f0,f1,f2,f3,f4,f5⟩:=L2.c6;go_simp;exact Aj (by decide) US (L2.st6 _ _ _ _ _ _)
  refine Qv ?s2 (λX=>?_)
  case s2=>
   intro Z O g;have T2:=g.blk (by simp [Vx]) B2
   obtain ⟨q0,q1,q2,f0,f1,f2⟩:=T2.c3;go_simp;exact Ak (by decide) UR (T2.st3 _ _ _)
  refine XX ?_;simp only [Qd];rintro Z k_ ⟨⟨-,r1⟩,r2⟩;obtain ⟨⟨m0,m1,m2,m3,m4,m5⟩,-,-,-,-,-,-⟩:=(r1.1 rfl).c6;obtain ⟨j0,j1,j2,-,-,-⟩:=(r2.2 rfl).c3;clear r1 r2 x0 y0 Y B2;simp only [wpList,Exit.then];rename_i i;refine i _ _ (wp_ret ?_)
  try simp only [Exit.then]
  refine bodyPost_ret (v:=.tuple #[.agg #[int i64 y1,int i64 y2,int i64 y3,int i64 y4,int i64 y5,int i64 y6],.agg (by first|exact #[.bool true,.bool u1,.bool u2]|exact #[.bool false,.bool u1,.bool true])]) (by simp [results,Tryz.f268,go_sem,m0,m1,m2,m3,m4,m5,j0,j1,j2]) rfl ⟨rfl,?_⟩
  have al:=HN.o;exact (t.o).trans (k_.below (t.o).size (λb hb=>by simp;omega))
  )
 ·rcases hz with ⟨rfl,rfl⟩|rfl<;>(
  obtain ⟨t0,t1,t2,-,-,-⟩:=Q.c3;have ar:decide (up<=0)=false:=by simpa using hu
  obtain ⟨v0,R,v2,-,-,-⟩:=D.c3;have hmn:=@YY prog;go_upto_region 5 with (first|(go_at_call 140;refine (aq.o _ t.o).mono ?_;rintro e_ w2 ⟨rfl,k2⟩;replace t:=pp (after t.o k2);replace U:=U.on k2;replace D:=D.on k2;replace P:=P.on k2;replace Q:=Q.on k2;replace E:=E.on k2;replace z:=z.on k2;clear t0 t1 t2 k m q n l s v0 R v2;obtain ⟨t0,t1,t2,-,-,-⟩:=Q.c3;obtain ⟨k,m,q,n,l,s⟩:=U.c6.1;obtain ⟨v0,R,v2,-,-,-⟩:=D.c3)|(go_at_call 314;refine (ax.o _ t.o).mono ?_;rintro e_ w3 ⟨rfl,k3⟩))
  generalize j:World.alloc w3 _=Y3;have u:Below w3.heap.size w3 Y3:=by rw [<-j];go_grown
  have Hb:Q0 Y3 w3.heap.size 210 #[int i64 h1,int i64 h2,int i64 h3,int i64 h4,int i64 h5,int i64 h6]:=Q0.eqw j (Q0.new' rfl);have ay:gp+2<=w3.heap.size:=by have:=k3.size;have:=Q.lt;omega
  replace U:=U.on k3;replace D:=D.on k3;replace P:=P.on k3;replace Q:=Q.on k3;replace E:=E.on k3;replace z:=z.on k3;replace U:=U.on u;replace D:=D.on u;replace P:=P.on u;replace Q:=Q.on u;replace E:=E.on u;replace z:=z.on u;replace t:=pp (after (after t.o k3) u);clear j u k3 t0 t1 t2 k m q n l s v0 R v2;generalize w3.heap.size=g3 at Hb ay ⊢;obtain ⟨x0,x1,x2,x3,x4,x5⟩:=Hb.c6.1;obtain ⟨k,m,q,n,l,s⟩:=U.c6.1;obtain ⟨v0,R,v2,-,-,-⟩:=D.c3;have ba:g3<Y3.heap.size:=Hb.lt;have bb:N<Y3.heap.size:=U.lt;have a8:N+1<Y3.heap.size:=D.lt;go_upto_region 8 with fail
  generalize j:World.alloc (World.alloc Y3 _) _=Y4;have u:Below Y3.heap.size Y3 Y4:=by rw [<-j];go_grown
  have J:Q0 Y4 Y3.heap.size 322 #[.bool false,.bool true,.bool false]:=Q0.eqw j ((Q0.new' rfl).alloc _);have G:Q0 Y4 (Y3.heap.size+1) 210 #[int i64 h1,int i64 h2,int i64 h3,int i64 h4,int i64 h5,int i64 h6]:=Q0.eqw j (Q0.new' (by simp))
  clear bb a8;replace U:=U.on u;replace D:=D.on u;replace P:=P.on u;replace Q:=Q.on u;replace E:=E.on u;replace z:=z.on u;replace t:=pp (after t.o u);clear j u x0 x1 x2 x3 x4 x5 k m q n l s v0 R v2 Hb;generalize Y3.heap.size=g4 at J G ba ⊢;obtain ⟨k,m,q,n,l,s⟩:=U.c6.1;obtain ⟨v0,R,v2,-,-,-⟩:=D.c3;obtain ⟨x0,x1,x2,x3,x4,x5⟩:=G.c6.1;go_upto_region 9 with (go_at_call 314;refine (a0.o _ t.o).mono ?_;rintro e_ w5 ⟨rfl,F⟩;replace U:=U.on F;replace D:=D.on F;replace P:=P.on F;replace Q:=Q.on F;replace E:=E.on F;replace z:=z.on F;replace J:=J.on F;replace G:=G.on F;obtain ⟨⟨z0,z1,z2,z3,z4,z5⟩,aj,ae,ac,ab,ag,ad⟩:=G.c6;obtain ⟨s0,s1,s2,ai,ah,af⟩:=J.c3)
  generalize j:World.setCell (World.setCell _ _ _) _ _=Y5;have I:Kept (λc=>c≠g4/\c≠g4+1) w5 Y5:=by rw [<-j];exact (US.mono (λb h=>h.2)).setCell (p:=⟨g4,0,none⟩) (λh=>h.1 rfl) _
  have T:Q0 Y5 (g4+1) 210 #[int i64 a1,int i64 a2,int i64 a3,int i64 a4,int i64 a5,int i64 a6]:=Q0.eqw j ((G.st6 (int i64 a1) (int i64 a2) (int i64 a3) (int i64 a4) (int i64 a5) (int i64 a6)).far (p:=⟨g4,0,none⟩) (by dsimp only;omega) _)
  have S:Q0 Y5 g4 322 #[.bool sa,.bool true,.bool false]:=Q0.eqw j ((YQ J (show g4≠g4+1 by omega) (int i64 a1) (int i64 a2) (int i64 a3) (int i64 a4) (int i64 a5) (int i64 a6)).set_ 0 (.bool sa))
  have HB:=pp (show Below w.heap.size w Y5 by
   have h1:=after t.o F;have h2:=HN.o;rw [<-j];exact (Uy h1 (by omega) _ _ _ _ _ _).setCell (p:=⟨g4,0,none⟩) (by dsimp only;omega) _)
  replace U:=I.blk (by omega) U
  replace D:=I.blk (by omega) D
  replace P:=I.blk (by omega) P
  replace Q:=I.blk (by omega) Q
  replace E:=I.blk (by omega) E
  replace z:=I.blk (by omega) z
  clear j I F t z0 z1 z2 z3 z4 z5 aj ae ac ab ag ad s0 s1 s2 ai ah af x0 x1 x2 x3 x4 x5 k m q n l s v0 R v2 G J;have t:=HB;have G:=T;have J:=S;clear HB T S;obtain ⟨k,m,q,n,l,s⟩:=U.c6.1;obtain ⟨v0,R,v2,-,-,-⟩:=D.c3;obtain ⟨x0,x1,x2,x3,x4,x5⟩:=G.c6.1;go_upto_region 10 with (go_at_call 314;refine (az.o _ t.o).mono ?_;rintro e_ w6 ⟨rfl,F⟩;replace U:=U.on F;replace D:=D.on F;replace P:=P.on F;replace Q:=Q.on F;replace E:=E.on F;replace z:=z.on F;replace J:=J.on F;replace G:=G.on F;obtain ⟨⟨z0,z1,z2,z3,z4,z5⟩,aj,ae,ac,ab,ag,ad⟩:=G.c6;obtain ⟨s0,s1,s2,ai,ah,af⟩:=J.c3)
  generalize j:World.setCell (World.setCell _ _ _) _ _=Y6;have I:Kept (λc=>c≠g4/\c≠g4+1) w6 Y6:=by rw [<-j];exact (US.mono (λb h=>h.2)).setCell (p:=⟨g4,2,none⟩) (λh=>h.1 rfl) _
  have T:Q0 Y6 (g4+1) 210 #[int i64 b1,int i64 b2,int i64 b3,int i64 b4,int i64 b5,int i64 b6]:=Q0.eqw j ((G.st6 (int i64 b1) (int i64 b2) (int i64 b3) (int i64 b4) (int i64 b5) (int i64 b6)).far (p:=⟨g4,2,none⟩) (by dsimp only;omega) _)
  have S:Q0 Y6 g4 322 #[.bool sa,.bool true,.bool sb]:=Q0.eqw j ((YQ J (show g4≠g4+1 by omega) (int i64 b1) (int i64 b2) (int i64 b3) (int i64 b4) (int i64 b5) (int i64 b6)).set_ 2 (.bool sb))
  have HB:=pp (show Below w.heap.size w Y6 by
   have h1:=after t.o F;have h2:=HN.o;rw [<-j];exact (Uy h1 (by omega) _ _ _ _ _ _).setCell (p:=⟨g4,2,none⟩) (by dsimp only;omega) _)
  replace U:=I.blk (by omega) U
  replace D:=I.blk (by omega) D
  replace P:=I.blk (by omega) P
  replace Q:=I.blk (by omega) Q
  replace E:=I.blk (by omega) E
  replace z:=I.blk (by omega) z
  clear j I F t z0 z1 z2 z3 z4 z5 aj ae ac ab ag ad s0 s1 s2 ai ah af x0 x1 x2 x3 x4 x5 k m q n l s v0 R v2 G J;have t:=HB;have G:=T;have J:=S;clear HB T S;obtain ⟨k,m,q,n,l,s⟩:=U.c6.1;obtain ⟨v0,R,v2,-,-,-⟩:=D.c3;obtain ⟨x0,x1,x2,x3,x4,x5⟩:=G.c6.1;go_upto_region 11 with (go_at_call 314;refine (av.o _ t.o).mono ?_;rintro e_ w7 ⟨rfl,F⟩;replace U:=U.on F;replace D:=D.on F;replace P:=P.on F;replace Q:=Q.on F;replace E:=E.on F;replace z:=z.on F;replace J:=J.on F;replace G:=G.on F;obtain ⟨⟨z0,z1,z2,z3,z4,z5⟩,aj,ae,ac,ab,ag,ad⟩:=G.c6;obtain ⟨s0,s1,s2,ai,ah,af⟩:=J.c3)
  generalize j:World.setCell (World.setCell _ _ _) _ _=Y7;have I:Kept (λc=>c≠g4/\c≠g4+1) w7 Y7:=by rw [<-j];exact US.mono (λb h=>h.2)
  have T:Q0 Y7 (g4+1) 210 #[int i64 c1,int i64 c2,int i64 c3,int i64 c4,int i64 c5,int i64 c6]:=Q0.eqw j (G.st6 (int i64 c1) (int i64 c2) (int i64 c3) (int i64 c4) (int i64 c5) (int i64 c6));have S:Q0 Y7 g4 322 #[.bool sa,.bool true,.bool sb]:=Q0.eqw j (YQ J (show g4≠g4+1 by omega) (int i64 c1) (int i64 c2) (int i64 c3) (int i64 c4) (int i64 c5) (int i64 c6))
  have HB:=pp (show Below w.heap.size w Y7 by
   have h1:=after t.o F;have h2:=HN.o;rw [<-j];exact Uy h1 (by omega) _ _ _ _ _ _)
  replace U:=I.blk (by omega) U
  replace D:=I.blk (by omega) D
  replace P:=I.blk (by omega) P
  replace Q:=I.blk (by omega) Q
  replace E:=I.blk (by omega) E
  replace z:=I.blk (by omega) z
  clear j I F t z0 z1 z2 z3 z4 z5 aj ae ac ab ag ad s0 s1 s2 ai ah af x0 x1 x2 x3 x4 x5 k m q n l s v0 R v2 G J;have t:=HB;have G:=T;have J:=S;clear HB T S;obtain ⟨k,m,q,n,l,s⟩:=U.c6.1;obtain ⟨v0,R,v2,-,-,-⟩:=D.c3;obtain ⟨x0,x1,x2,x3,x4,x5⟩:=G.c6.1;clear v0 R v2 x0 x1 x2 x3 x4 x5 k m q n l s;obtain ⟨x0,x1,x2,x3,x4,x5⟩:=G.re6;obtain ⟨v0,R,v2,v3,v4,v5⟩:=P.re6;obtain ⟨k,m,q,n,l,s⟩:=U.re6;refine wp_region_quiet_below (by kernel_rfl) (by kernel_rfl) ?_
  repeat (go_big_quiet_step (first|(with_reducible exact Calls.regrown_of (a9.o _))|(with_reducible exact Calls.regrown_of (au.o _))))
  refine wpQuiet_nil ?_;intro w' aw;obtain ⟨rg,rfl⟩:=aw;clear v0 R v2 v3 v4 v5 x0 x1 x2 x3 x4 x5 k m q n l s;obtain ⟨Y8,an⟩:=pt (Go.Sort.grow (redrawn Y7 rg.d) rg.os);rw [<-an];have u:Below Y7.heap.size Y7 Y8:=by rw [an];exact pK _ _ _
  replace P:=P.on u;replace Q:=Q.on u;replace E:=E.on u;replace z:=z.on u;replace G:=G.on u;replace J:=J.on u;replace t:=pp (after t.o u);clear an u U D;rcases (show n1<=n2∨n2<n1 by omega) with hn|hn
  ·obtain rfl:=HR.o.trans (Cy (.inr (.inr (.inr hn))));have x0:=λf d os=>(P.sp (D:=[N+1+1,N+1+1+1]) (by simp;omega) f d os).c6.1
   have y0:=λf d os=>(Q.sp (D:=[N+1+1,N+1+1+1]) (by simp;omega) f d os).c3
   go_upto_region 12 with fail
   have Y:=E;have B2:=z;refine BH [0,0,2,2] 2 (N+1+1) (210) (#[int i64 y1,int i64 y2,int i64 y3,int i64 y4,int i64 y5,int i64 y6]) 3 (N+1+1+1) (322) ((by first|exact #[.bool true,.bool u1,.bool u2]|exact #[.bool false,.bool u1,.bool true])) (by omega) (by kernel_rfl) (by kernel_rfl) ?_
   repeat (first|(refine Qi ?_)|(refine Qf (λK hK=>?_);go_simp;refine hK _ ?_;clear hK K))
   refine Q8 ?_;repeat (refine Q2 ?_)
   refine Qv ?s1 (λaa=>?_)
   case s1=>
    intro Z O g;have L2:=g.blk (by simp [Vx]) Y
    obtain ⟨⟨q0,q1,q2,q3,q4,q5⟩,f0,f1,f2,f3,f4,f5⟩:=L2.c6;go_simp;exact Aj (by decide) US (L2.st6 _ _ _ _ _ _)
   refine Qv ?s2 (λX=>?_)
   case s2=>
    intro Z O g;have T2:=g.blk (by simp [Vx]) B2
    obtain ⟨q0,q1,q2,f0,f1,f2⟩:=T2.c3;go_simp;exact Ak (by decide) UR (T2.st3 _ _ _)
   refine XX ?_;simp only [Qd];rintro Z k_ ⟨⟨-,r1⟩,r2⟩;obtain ⟨⟨m0,m1,m2,m3,m4,m5⟩,-,-,-,-,-,-⟩:=(r1.1 rfl).c6;obtain ⟨j0,j1,j2,-,-,-⟩:=(r2.2 rfl).c3;clear r1 r2 x0 y0 Y B2;simp only [wpList,Exit.then];rename_i i;refine i _ _ (wp_ret ?_)
   try simp only [Exit.then]
   refine bodyPost_ret (v:=.tuple #[.agg #[int i64 y1,int i64 y2,int i64 y3,int i64 y4,int i64 y5,int i64 y6],.agg (by first|exact #[.bool true,.bool u1,.bool u2]|exact #[.bool false,.bool u1,.bool true])]) (by simp [results,Tryz.f268,go_sem,m0,m1,m2,m3,m4,m5,j0,j1,j2]) rfl ⟨rfl,?_⟩
   have al:=HN.o;exact (t.o).trans (k_.below (t.o).size (λb hb=>by simp;omega))
  ·obtain rfl:r=((c1,c2,c3,c4,c5,c6),sa,true,sb):=by first|rw [HR.o,Hw (.inl rfl) hu hn]|rw [HR.o,Hw (.inr rfl) hu hn]
   have hn2:decide (n1<=n2)=false:=by simpa using hn
   have x0:=λf d os=>(G.sp (D:=[N+1+1,N+1+1+1]) (by simp;omega) f d os).c6.1
   have y0:=λf d os=>(J.sp (D:=[N+1+1,N+1+1+1]) (by simp;omega) f d os).c3
   go_upto_region 13 with fail
   have Y:=E;have B2:=z;refine BH [0,0,2,2] 2 (N+1+1) (210) (#[int i64 c1,int i64 c2,int i64 c3,int i64 c4,int i64 c5,int i64 c6]) 3 (N+1+1+1) (322) (#[.bool sa,.bool true,.bool sb]) (by omega) (by kernel_rfl) (by kernel_rfl) ?_
   repeat (first|(refine Qi ?_)|(refine Qf (λK hK=>?_);go_simp;refine hK _ ?_;clear hK K))
   refine Q8 ?_;repeat (refine Q2 ?_)
   refine Qv ?s1 (λaa=>?_)
   case s1=>
    intro Z O g;have L2:=g.blk (by simp [Vx]) Y
    obtain ⟨⟨q0,q1,q2,q3,q4,q5⟩,f0,f1,f2,f3,f4,f5⟩:=L2.c6;go_simp;exact Aj (by decide) US (L2.st6 _ _ _ _ _ _)
   refine Qv ?s2 (λX=>?_)
   case s2=>
    intro Z O g;have T2:=g.blk (by simp [Vx]) B2
    obtain ⟨q0,q1,q2,f0,f1,f2⟩:=T2.c3;go_simp;exact Ak (by decide) UR (T2.st3 _ _ _)
   refine XX ?_;simp only [Qd];rintro Z k_ ⟨⟨-,r1⟩,r2⟩;obtain ⟨⟨m0,m1,m2,m3,m4,m5⟩,-,-,-,-,-,-⟩:=(r1.1 rfl).c6;obtain ⟨j0,j1,j2,-,-,-⟩:=(r2.2 rfl).c3;clear r1 r2 x0 y0 Y B2;simp only [wpList,Exit.then];rename_i i;refine i _ _ (wp_ret ?_)
   try simp only [Exit.then]
   refine bodyPost_ret (v:=.tuple #[.agg #[int i64 c1,int i64 c2,int i64 c3,int i64 c4,int i64 c5,int i64 c6],.agg #[.bool sa,.bool true,.bool sb]]) (by simp [results,Tryz.f268,go_sem,m0,m1,m2,m3,m4,m5,j0,j1,j2]) rfl ⟨rfl,?_⟩
   have al:=HN.o;exact (t.o).trans (k_.below (t.o).size (λb hb=>by simp;omega))
  )
theorem fw (V:FuncId)(lv:Value)(val:Cl->Int)(b:BD)(ix iz:Int)(j:Bool)(M:Int)(hM:M<=71000000000000)(bc:0<=M)(hB:BOk M b)(w:World)
  (eV:∀args w,(callFunc V args).run prog w=.ok (.enter V args) w) (hV:Yy prog V lv val w):
  Calls prog 198 #[.agg (Z5 b),.func (.func V) #[lv] #[],.agg #[int i64 ix,int i64 iz,.bool j]] w λr w'=>r=.returned (.agg (Z5 (Li val b)))/\Below w.heap.size w w':=by
 obtain ⟨hS,-⟩:=hB.box hM;have CB:=λW=>I7 b (by have:=hB.wd;omega) W
 have CU:=λW=>jQ b b.2.2.2.1 b.2.2.2.2.1 b.2.2.2.2.2.1 W
 have C1:=λW (h:Below w.heap.size w W)=>fv V lv val (Qw b) (Ad b.1 b.2.2.2.1) (Ad b.2.1 b.2.2.2.2.1) (Ad b.2.2.1 b.2.2.2.2.2.1) 32768 (M+65536) (by omega) (by omega) hS W eV (hV.on h)
 have fG:ZU val b=Bn val (Qw b) (Ad b.1 b.2.2.2.1) (Ad b.2.1 b.2.2.2.2.1) (Ad b.2.2.1 b.2.2.2.2.2.1) 32768:=by unfold ZU;rfl
 have hG:Yh (M+65536+40000000) (ZU val b).1:=by rw [fG];exact WF hS (by omega) (by omega)
 rw [<-fG] at C1;have a2:=hG.under (by omega) (by omega)
 have a8:=hG.bd;have CS:=λW (h:Below w.heap.size w W)=>Bm V lv val (ZU val b).1.1 (ZU val b).1.2.1 (ZU val b).1.2.2.1 (ZU val b).1.2.2.2.1 (ZU val b).1.2.2.2.2.1 (ZU val b).1.2.2.2.2.2 (by omega) (by omega) a2.1 W eV (hV.on h)
 have fS:Ep val (ZU val b).1=(Qz (ZU val b).1.1 (Qe ((ZU val b).1.2.1 - 1)) (ZU val b).1.2.2.1 (ZU val b).1.2.2.2.1 (ZU val b).1.2.1 (ZU val b).1.2.2.2.2.2).any λc=>Zh (val c):=by unfold Ep;rfl
 rw [<-fS] at CS;have bb:=pp eV;clear fG hG a2 a8 fS hS hM bc hB eV hV bb;unfold Li WU;generalize Ep val (ZU val b).1=ps at CS ⊢;generalize ZU val b=r at C1 CS ⊢;generalize Qw b=bx at CB C1 ⊢;obtain ⟨x,y,z,sx,sy,sz,wd,ht,st⟩:=b;obtain ⟨o1,o2,o3,o4,o5,o6⟩:=bx;obtain ⟨⟨y1,A,J,y4,y5,y6⟩,t1,t2,t3⟩:=r;simp only [Z5,AX,jE,jF] at *;generalize Ad x sx=f1 at CU C1;generalize Ad y sy=f2 at CU C1;generalize Ad z sz=f3 at CU C1;have ae:=pp (λW=>Fk y1 A J o1 o2 o3 W)
 have E:=pp (λW=>Bi x y z (Qs y1 o1) (Qs A o2) (Qs J o3) W)
 have ab:=pp (λW=>jM t1 t2 t3 sx sy sz W)
 generalize Qs y1 o1=u1 at ae E ⊢;generalize Qs A o2=u2 at ae E ⊢;generalize Qs J o3=u3 at ae E ⊢;generalize Q9 x u1=v1 at E ⊢;generalize Q9 y u2=v2 at E ⊢;generalize Q9 z u3=v3 at E ⊢;generalize zb t1 sx=s1 at ab ⊢;generalize zb t2 sy=s2 at ab ⊢;generalize zb t3 sz=s3 at ab ⊢;have aw:=pp CB;have av:=pp CU;have ax:=pp C1;have ay:=pp CS;clear CB CU C1 CS;obtain ⟨N,hN⟩:=pt w.heap.size;obtain ⟨W,hW⟩:=pt (((w.alloc (.cells #[int i64 x,int i64 y,int i64 z,int i64 sx,int i64 sy,int i64 sz,int i64 wd,int i64 ht,.bool st] 40)).alloc (.cells #[int i64 ix,int i64 iz,.bool j] 81)).alloc (.cells #[int i64 0,int i64 0,int i64 0,int i64 0,int i64 0,int i64 0,int i64 0,int i64 0,.bool false] 40));have H:Below w.heap.size w W:=by rw [hW];go_grown
 have B:Q0 W N 40 _:=Q0.eqw hW.symm (by rw [hN];exact ((Q0.new' rfl).alloc _).alloc _)
 have R:Q0 W (N+1+1) 40 _:=Q0.eqw hW.symm (by rw [hN];exact Q0.new' (by simp))
 go_enter func198,ntmps198;go_upto_region 1 with fail
 rw [<-hW,<-hN];have HN:=pp hN;clear hW hN;obtain ⟨⟨F,G,I,Q,b4,S,U,b7,b8⟩,-⟩:=B.c9;go_upto_region 2 with (go_at_call 139;refine (aw.o _).mono ?_;rintro e_ w1 ⟨rfl,k1⟩)
 generalize hV:World.alloc w1 _=W1;have X:Q0 W1 w1.heap.size 210 #[int i64 o1,int i64 o2,int i64 o3,int i64 o4,int i64 o5,int i64 o6]:=Q0.eqw hV (Q0.new' rfl);have hk:Below W.heap.size W W1:=by rw [<-hV];exact after k1 ((pI _ _).alloc (pA _) _)
 have ak:=pD R.lt k1.size;replace B:=B.on hk;replace R:=R.on hk;replace H:=pp (after H hk);clear hV k1 hk F G I Q b4 S U b7 b8 aw;generalize w1.heap.size=g at X ak ⊢;have F:=λd os=>(B.re d os).cell 0
 have G:=λd os=>(B.re d os).cell 1
 have I:=λd os=>(B.re d os).cell 2
 have Q:=λd os=>(B.re d os).cell 3
 have b4:=λd os=>(B.re d os).cell 4
 have S:=λd os=>(B.re d os).cell 5
 have U:=λd os=>(B.re d os).cell 6
 have b7:=λd os=>(B.re d os).cell 7
 have b8:=λd os=>(B.re d os).cell 8
 simp only [List.getElem?_toArray,List.getElem?_cons_zero,List.getElem?_cons_succ] at F G I Q b4 S U b7 b8;obtain ⟨x0,x1,x2,x3,x4,x5⟩:=X.re6;have az:=pp (py B (py R X));have aj:=pp ak;clear B R X ak;have s:=pp (show UT W1.heap.size [⟨10,12,210,#[int i64 0,int i64 0,int i64 0,int i64 0,int i64 0,int i64 0],#[int i64 y1,int i64 A,int i64 J,int i64 y4,int i64 y5,int i64 y6]⟩,⟨11,13,322,#[.bool false,.bool false,.bool false],#[.bool t1,.bool t2,.bool t3]⟩] (Cp [(6,λv _=>v=.tuple #[.agg #[int i64 y1,int i64 A,int i64 J,int i64 y4,int i64 y5,int i64 y6],.agg #[.bool t1,.bool t2,.bool t3]]),(7,λv _=>v=.tuple #[.agg #[int i64 y1,int i64 A,int i64 J,int i64 y4,int i64 y5,int i64 y6],.agg #[.bool t1,.bool t2,.bool t3]]),(8,λv _=>v=.agg #[int i64 y1,int i64 A,int i64 J,int i64 y4,int i64 y5,int i64 y6]),(9,λv _=>v=.agg #[.bool t1,.bool t2,.bool t3])]) from (Cq (Cq (Cq (Cq R9)))))
 have ad:=pp (show R8 [⟨10,12,210,#[int i64 0,int i64 0,int i64 0,int i64 0,int i64 0,int i64 0],#[int i64 y1,int i64 A,int i64 J,int i64 y4,int i64 y5,int i64 y6]⟩,⟨11,13,322,#[.bool false,.bool false,.bool false],#[.bool t1,.bool t2,.bool t3]⟩] from ⟨by simp,by simp⟩)
 refine dC [0,0,0,0,0,0,2,2,2,2,2,2,2,2] _ _ (by kernel_rfl) (by kernel_rfl) s.o ?_
 repeat (first|(refine Qi ?_)|(refine Qf (λK hK=>?_);go_simp;first|(refine hK _ ?_;clear hK K)|(apply Exists.intro;refine ⟨λ_=>?_,hK _ ?_⟩;(exact av.o _);clear hK K)))
 refine Q8 ?_;refine QL ?_;refine QL ?_;refine QL ?_;refine QL ?_;refine QL ?_;refine QL ?_;refine XY rfl ?s6_ (λa7=>?_)
 case s6_=>
  intro S_ O w_ f a k i e;have m:=pp f;have n:=pp e;have q:=pp i;clear a k f e i;go_simp;refine (ax.o _ (after H.o m.o.none)).mono ?_;rintro e_ w9 ⟨rfl,h9⟩;exact ⟨_,rfl,m.o.on h9,n.o.l (by simp) s.o h9 rfl⟩
 refine XY rfl ?s7_ (λa0=>?_)
 case s7_=>
  intro S_ O w_ f a k i e;have P:=pp (show a7=.tuple #[.agg #[int i64 y1,int i64 A,int i64 J,int i64 y4,int i64 y5,int i64 y6],.agg #[.bool t1,.bool t2,.bool t3]] from (e.of (k 6 (by decide) rfl (by kernel_rfl)) (a 6 (by decide) rfl)))
  have m:=pp f;have n:=pp e;have q:=pp i;clear a k f e i;go_simp;have u:=P.o;subst u;clear P;go_simp;exact ⟨m.o,n.o.l (by simp) s.o (pI _ _) rfl⟩
 refine XY rfl ?s8_ (λa3=>?_)
 case s8_=>
  intro S_ O w_ f a k i e;have P:=pp (show a0=.tuple #[.agg #[int i64 y1,int i64 A,int i64 J,int i64 y4,int i64 y5,int i64 y6],.agg #[.bool t1,.bool t2,.bool t3]] from (e.of (k 7 (by decide) rfl (by kernel_rfl)) (a 7 (by decide) rfl)))
  have m:=pp f;have n:=pp e;have q:=pp i;clear a k f e i;go_simp;have u:=P.o;subst u;clear P;go_simp;exact ⟨m.o,n.o.l (by simp) s.o (pI _ _) rfl⟩
 refine XY rfl ?s9_ (λbe=>?_)
 case s9_=>
  intro S_ O w_ f a k i e;have P:=pp (show a0=.tuple #[.agg #[int i64 y1,int i64 A,int i64 J,int i64 y4,int i64 y5,int i64 y6],.agg #[.bool t1,.bool t2,.bool t3]] from (e.of (k 7 (by decide) rfl (by kernel_rfl)) (a 7 (by decide) rfl)))
  have m:=pp f;have n:=pp e;have q:=pp i;clear a k f e i;go_simp;have u:=P.o;subst u;clear P;go_simp;exact ⟨m.o,n.o.l (by simp) s.o (pI _ _) rfl⟩
 refine XY rfl ?s10_ (λah=>?_)
 case s10_=>
  intro S_ O w_ f a k i e;have m:=pp f;have n:=pp e;have q:=pp i;clear a k f e i;go_simp;exact ⟨m.o.on ((pI _ _).alloc (pA _) _),n.o.new (List.mem_cons_self) ad.o s.o (λ_ _=>trivial) m.o.none.size q.o⟩
 refine XY rfl ?s11_ (λac=>?_)
 case s11_=>
  intro S_ O w_ f a k i e;have m:=pp f;have n:=pp e;have q:=pp i;clear a k f e i;go_simp;exact ⟨m.o.on ((pI _ _).alloc (pA _) _),n.o.new (List.mem_cons_of_mem _ (List.mem_cons_self)) ad.o s.o (λ_ _=>trivial) m.o.none.size q.o⟩
 refine XY rfl ?s12_ (λv12_=>?_)
 case s12_=>
  intro S_ O w_ f a k i e;have P:=pp (show a3=.agg #[int i64 y1,int i64 A,int i64 J,int i64 y4,int i64 y5,int i64 y6] from (e.of (k 8 (by decide) rfl (by kernel_rfl)) (a 8 (by decide) rfl)))
  have ag:=pp (show S_ 10 from k 10 (by decide) rfl (by kernel_rfl))
  have C:=pp (show O 10=ah from a 10 (by decide) rfl)
  have af:=pp (show ∃b,O 10=.pointer (some ⟨b,0,none⟩)/\W1.heap.size<=b/\Q0 w_ b 210 #[int i64 0,int i64 0,int i64 0,int i64 0,int i64 0,int i64 0] from e.slot (List.mem_cons_self) ag.o i);have m:=pp f;have n:=pp e;have q:=pp i;clear a k f e i;go_simp;refine af.o.elim λb_ t=>?_
  have E_:=t.1;have am:=pp t.2.1;have L:=t.2.2;have u:=P.o;rw [C.o] at E_;subst u E_;clear af t P;obtain ⟨⟨ba,a4,bg,k3_,k4_,k5_⟩,bf,a6,a5,f3_,f4_,f5_⟩:=L.c6;have ao:=pp L;clear L;go_simp;exact ⟨m.o.new_set am.o US,n.o.set (List.mem_cons_self) ad.o s.o (λ_ _=>trivial) q.o ag.o C.o US (ao.o.st6 _ _ _ _ _ _)⟩
 refine XY rfl ?s13_ (λv13_=>?_)
 case s13_=>
  intro S_ O w_ f a k i e;have P:=pp (show be=.agg #[.bool t1,.bool t2,.bool t3] from (e.of (k 9 (by decide) rfl (by kernel_rfl)) (a 9 (by decide) rfl)))
  have ag:=pp (show S_ 11 from k 11 (by decide) rfl (by kernel_rfl))
  have C:=pp (show O 11=ac from a 11 (by decide) rfl)
  have af:=pp (show ∃b,O 11=.pointer (some ⟨b,0,none⟩)/\W1.heap.size<=b/\Q0 w_ b 322 #[.bool false,.bool false,.bool false] from e.slot (List.mem_cons_of_mem _ (List.mem_cons_self)) ag.o i);have m:=pp f;have n:=pp e;have q:=pp i;clear a k f e i;go_simp;refine af.o.elim λb_ t=>?_
  have E_:=t.1;have am:=pp t.2.1;have L:=t.2.2;have u:=P.o;rw [C.o] at E_;subst u E_;clear af t P;obtain ⟨ba,a4,bg,bf,a6,a5⟩:=L.c3;have ao:=pp L;clear L;go_simp;exact ⟨m.o.new_set am.o UR,n.o.set (List.mem_cons_of_mem _ (List.mem_cons_self)) ad.o s.o (λ_ _=>trivial) q.o ag.o C.o UR (ao.o.st3 _ _ _)⟩
 refine Co λO W2 f a e=>?_
 obtain ⟨aq,au,an,aa⟩:∃b,ah=.pointer (some ⟨b,0,none⟩)/\W1.heap.size<=b/\Q0 W2 b 210 #[int i64 y1,int i64 A,int i64 J,int i64 y4,int i64 y5,int i64 y6]:=by rw [<-show O 10=ah from a 10 (by decide) rfl];exact e.done (List.mem_cons_self) ⟨show 10<14 by decide,rfl⟩ ⟨show 12<14 by decide,rfl⟩
 obtain ⟨ap,a1,al,ai⟩:∃b,ac=.pointer (some ⟨b,0,none⟩)/\W1.heap.size<=b/\Q0 W2 b 322 #[.bool t1,.bool t2,.bool t3]:=by rw [<-show O 11=ac from a 11 (by decide) rfl];exact e.done (List.mem_cons_of_mem _ (List.mem_cons_self)) ⟨show 11<14 by decide,rfl⟩ ⟨show 13<14 by decide,rfl⟩
 subst au a1;have D:=f.none;clear a e f s ad;simp only [Qd];clear F G I Q b4 S U b7 b8 x0 x1 x2 x3 x4 x5 av ax;obtain ⟨B,R,X⟩:=az.o;have n1:aq≠N:=by have h7:=aj.o;have h8:=X.lt;omega
 have n2:ap≠N:=by have h7:=aj.o;have h8:=X.lt;omega
 have n3:g≠N:=by have h7:=aj.o;omega
 have n4:N+1+1≠N:=by omega
 have HX:=pp (py (B.on D) (py (R.on D) (py (X.on D) (py aa ai))));replace H:=pp (after H.o D);clear az aj B R X aa ai an al D;go_simp;go_upto_region 3 with fail
 obtain ⟨B,R,X,Y,T⟩:=HX.o;have F:=λd os=>(B.re d os).cell 0
 have G:=λd os=>(B.re d os).cell 1
 have I:=λd os=>(B.re d os).cell 2
 have x0:=λd os=>(X.re d os).cell 0
 have x1:=λd os=>(X.re d os).cell 1
 have x2:=λd os=>(X.re d os).cell 2
 have y0:=λd os=>(Y.re d os).cell 0
 have y1:=λd os=>(Y.re d os).cell 1
 have A:=λd os=>(Y.re d os).cell 2
 simp only [List.getElem?_toArray,List.getElem?_cons_zero,List.getElem?_cons_succ] at F G I x0 x1 x2 y0 y1 A;refine Qo 9 (by kernel_rfl) rfl (by kernel_rfl) ?_
 simp only [List.take_succ_cons,List.take_zero,List.drop_succ_cons,List.drop_zero];repeat (go_big_quiet_step (first|(with_reducible exact Calls.regrown_of (ae.o _))|(with_reducible exact Calls.regrown_of (E.o _))))
 refine wpQuiet_nil ?_;intro w' a9;obtain ⟨rg,rfl⟩:=a9;clear F G I x0 x1 x2 y0 y1 A X ae E HX;obtain ⟨W3,ar⟩:=pt (Go.Sort.grow (redrawn W2 rg.d) rg.os);have Z:Below W2.heap.size W2 W3:=by rw [ar];exact pK _ _ _
 rw [<-ar];replace B:=B.on Z;replace R:=R.on Z;replace Y:=Y.on Z;replace T:=T.on Z;replace H:=after H.o Z;clear ar Z;obtain ⟨⟨F,G,I,Q,b4,S,U,b7,b8⟩,f0,f1,f2,f3,f4,f5,f6,f7,f8⟩:=B.c9;go_upto_region 4 with fail
 generalize a:(World.setCell (World.setCell (World.setCell W3 _ _) _ _) _ _)=W4;replace B:Q0 W4 (N) 40 #[int i64 v1,int i64 v2,int i64 v3,int i64 sx,int i64 sy,int i64 sz,int i64 wd,int i64 ht,.bool st]:=Q0.eqw a (((B.set_ 0 _).set_ 1 _).set_ 2 _);replace R:=Q0.eqw a (((R.far (p:=⟨N,0,none⟩) (by dsimp only;omega) _).far (p:=⟨N,1,none⟩) (by dsimp only;omega) _).far (p:=⟨N,2,none⟩) (by dsimp only;omega) _)
 replace Y:=Q0.eqw a (((Y.far (p:=⟨N,0,none⟩) (by dsimp only;omega) _).far (p:=⟨N,1,none⟩) (by dsimp only;omega) _).far (p:=⟨N,2,none⟩) (by dsimp only;omega) _)
 replace T:=Q0.eqw a (((T.far (p:=⟨N,0,none⟩) (by dsimp only;omega) _).far (p:=⟨N,1,none⟩) (by dsimp only;omega) _).far (p:=⟨N,2,none⟩) (by dsimp only;omega) _)
 replace H:Below w.heap.size w W4:=by rw [<-a];exact (((H.setCell (p:=⟨N,0,none⟩) (by have:=HN.o;dsimp only;omega) _).setCell (p:=⟨N,1,none⟩) (by have:=HN.o;dsimp only;omega) _).setCell (p:=⟨N,2,none⟩) (by have:=HN.o;dsimp only;omega) _)
 clear a;clear F G I Q b4 S U b7 b8 f0 f1 f2 f3 f4 f5 f6 f7 f8;obtain ⟨⟨F,G,I,Q,b4,S,U,b7,b8⟩,-⟩:=B.c9;obtain ⟨q0,q1,q2,-,-,-⟩:=T.c3;go_upto_region 5 with (go_at_call 270;refine (ab.o _).mono ?_;rintro e_ w5 ⟨rfl,h5⟩;clear F G I Q b4 S U b7 b8 q0 q1 q2;replace B:=B.on h5;replace R:=R.on h5;replace Y:=Y.on h5;replace T:=T.on h5;replace H:=after H h5;clear h5;obtain ⟨⟨F,G,I,Q,b4,S,U,b7,b8⟩,f0,f1,f2,f3,f4,f5,f6,f7,f8⟩:=B.c9)
 generalize a:(World.setCell (World.setCell (World.setCell w5 _ _) _ _) _ _)=W5;replace B:Q0 W5 (N) 40 #[int i64 v1,int i64 v2,int i64 v3,int i64 s1,int i64 s2,int i64 s3,int i64 wd,int i64 ht,.bool st]:=Q0.eqw a (((B.set_ 3 _).set_ 4 _).set_ 5 _);replace R:=Q0.eqw a (((R.far (p:=⟨N,3,none⟩) (by dsimp only;omega) _).far (p:=⟨N,4,none⟩) (by dsimp only;omega) _).far (p:=⟨N,5,none⟩) (by dsimp only;omega) _)
 replace Y:=Q0.eqw a (((Y.far (p:=⟨N,3,none⟩) (by dsimp only;omega) _).far (p:=⟨N,4,none⟩) (by dsimp only;omega) _).far (p:=⟨N,5,none⟩) (by dsimp only;omega) _)
 replace H:Below w.heap.size w W5:=by rw [<-a];exact (((H.setCell (p:=⟨N,3,none⟩) (by have:=HN.o;dsimp only;omega) _).setCell (p:=⟨N,4,none⟩) (by have:=HN.o;dsimp only;omega) _).setCell (p:=⟨N,5,none⟩) (by have:=HN.o;dsimp only;omega) _)
 clear a;clear F G I Q b4 S U b7 b8 f0 f1 f2 f3 f4 f5 f6 f7 f8 T ab;obtain ⟨⟨y0,y1,A,J,y4,y5⟩,-⟩:=Y.c6;go_upto_region 6 with (go_at_call 140;refine (ay.o _ H).mono ?_;rintro e_ w6 ⟨rfl,h6⟩;clear y0 y1 A J y4 y5;replace B:=B.on h6;replace R:=R.on h6;replace H:=after H h6;clear h6;obtain ⟨⟨F,G,I,Q,b4,S,U,b7,b8⟩,f0,f1,f2,f3,f4,f5,f6,f7,f8⟩:=B.c9)
 generalize a:(World.setCell w6 _ _)=W6;replace B:Q0 W6 (N) 40 #[int i64 v1,int i64 v2,int i64 v3,int i64 s1,int i64 s2,int i64 s3,int i64 wd,int i64 ht,.bool ps]:=Q0.eqw a (B.set_ 8 _);replace R:=Q0.eqw a (R.far (p:=⟨N,8,none⟩) (by dsimp only;omega) _)
 replace H:Below w.heap.size w W6:=by rw [<-a];exact (H.setCell (p:=⟨N,8,none⟩) (by have:=HN.o;dsimp only;omega) _)
 clear a;clear F G I Q b4 S U b7 b8 f0 f1 f2 f3 f4 f5 f6 f7 f8 Y ay;obtain ⟨⟨F,G,I,Q,b4,S,U,b7,b8⟩,-⟩:=B.c9;obtain ⟨⟨r0,r1,r2,r3,r4,r5,r6,r7,r8⟩,f0,f1,f2,f3,f4,f5,f6,f7,f8⟩:=R.c9;have bi:w.heap.size<=N+1+1:=by have:=HN.o;omega
 go_wp2_with fail;have bh:=R.st9 (int i64 (v1)) (int i64 (v2)) (int i64 (v3)) (int i64 (s1)) (int i64 (s2)) (int i64 (s3)) (int i64 (wd)) (int i64 (ht)) (.bool (ps));obtain ⟨⟨d0,d1,d2,d3,d4,d5,d6,d7,d8⟩,-⟩:=bh.c9;exact bodyPost_ret (v:=.agg #[int i64 (v1),int i64 (v2),int i64 (v3),int i64 (s1),int i64 (s2),int i64 (s3),int i64 (wd),int i64 (ht),.bool (ps)]) (by simp [results,results198,go_sem,d0,d1,d2,d3,d4,d5,d6,d7,d8]) rfl ⟨rfl,Z0 H bi _ _ _ _ _ _ _ _ _⟩
theorem IZ (a b c:Value)(w:World):(Instr.index 269 (.agg #[a,b,c]) (int i64 0)).run prog w=.ok a w/\(Instr.index 269 (.agg #[a,b,c]) (int i64 1)).run prog w=.ok b w/\(Instr.index 269 (.agg #[a,b,c]) (int i64 2)).run prog w=.ok c w:=by
 refine ⟨?_,?_,?_⟩<;>simp [Instr.index,asIntOf,go_sem]
theorem fx (V:FuncId)(lv:Value)(val:Cl->Int)(b:BD)(d a:Int)(j:Bool)(M:Int)(hM:M<=71000000000000)(I:0<=M)(hB:BOk M b)(w:World)
  (eV:∀args w,(callFunc V args).run prog w=.ok (.enter V args) w) (hV:Yy prog V lv val w):
  Calls prog 150 #[.agg (Z5 b),.func (.func V) #[lv] #[],.agg #[int i64 d,int i64 a,.bool j]] w λr w'=>r=.returned (.agg (Z5 (Ft val b d a j)))/\Below w.heap.size w w':=by
 have C1:=λW=>ac b (.func (.func V) #[lv] #[]) d a j W
 have C2:=λW (h:Below w.heap.size w W)=>aC V lv val (UX b d a) d a j M hM I (hB.walk d a) W eV (hV.on h)
 have C3:=λW (h:Below w.heap.size w W)=>fw V lv val (DV val (UX b d a) j) d a j M hM I ((hB.walk d a).rise val j) W eV (hV.on h)
 unfold Ft;generalize Li val (DV val (UX b d a) j)=q3 at C3 ⊢;generalize DV val (UX b d a) j=q2 at C2 C3;generalize UX b d a=q1 at C1 C2;clear hM I hB eV hV;obtain ⟨x,y,z,sx,sy,sz,wd,ht,st⟩:=b;obtain ⟨x1,y1,z1,U,Z,O,S,P,Cx⟩:=q1;obtain ⟨x2,y2,z2,Y,T,L,aa,Q,Dc⟩:=q2;obtain ⟨x3,y3,z3,A,s,f,l,m,st3⟩:=q3;simp only [Z5] at *;have ab:=pp C1;have ae:=pp C2;have ad:=pp C3;clear C1 C2 C3;have ix0:=λw=>(IZ (.func (.func 196) #[] #[]) (.func (.func 197) #[] #[]) (.func (.func 198) #[] #[]) w).1
 have ix1:=λw=>(IZ (.func (.func 196) #[] #[]) (.func (.func 197) #[] #[]) (.func (.func 198) #[] #[]) w).2.1
 have ix2:=λw=>(IZ (.func (.func 196) #[] #[]) (.func (.func 197) #[] #[]) (.func (.func 198) #[] #[]) w).2.2
 obtain ⟨N,K⟩:=pt w.heap.size;obtain ⟨W,J⟩:=pt (((w.alloc (.cells #[int i64 x,int i64 y,int i64 z,int i64 sx,int i64 sy,int i64 sz,int i64 wd,int i64 ht,.bool st] 40)).alloc (.cells #[int i64 d,int i64 a,.bool j] 81)).alloc (.cells #[int i64 0,int i64 0,int i64 0,int i64 0,int i64 0,int i64 0,int i64 0,int i64 0,.bool false] 40));have H:Below w.heap.size w W:=by rw [J];go_grown
 have B:Q0 W N 40 _:=Q0.eqw J.symm (by rw [K];exact ((Q0.new' rfl).alloc _).alloc _)
 have D:Q0 W (N+1) 81 _:=Q0.eqw J.symm (by rw [K];exact (Q0.new' (by simp)).alloc _)
 have R:Q0 W (N+1+1) 40 _:=Q0.eqw J.symm (by rw [K];exact Q0.new' (by simp))
 go_enter func150,ntmps150;go_upto_region 1 with fail
 rw [<-J,<-K];have HN:=pp K;clear J K;go_upto_region 2 with fail
 go_loopw [8,10] (λ_ kv wr=>((kv=.int .i64 0/\Q0 wr N 40 #[int i64 x,int i64 y,int i64 z,int i64 sx,int i64 sy,int i64 sz,int i64 wd,int i64 ht,.bool st])∨(kv=.int .i64 1/\Q0 wr N 40 #[int i64 x1,int i64 y1,int i64 z1,int i64 U,int i64 Z,int i64 O,int i64 S,int i64 P,.bool Cx])∨(kv=.int .i64 2/\Q0 wr N 40 #[int i64 x2,int i64 y2,int i64 z2,int i64 Y,int i64 T,int i64 L,int i64 aa,int i64 Q,.bool Dc])∨(kv=.int .i64 3/\Q0 wr N 40 #[int i64 x3,int i64 y3,int i64 z3,int i64 A,int i64 s,int i64 f,int i64 l,int i64 m,.bool st3]))/\
  Q0 wr (N+1) 81 #[int i64 d,int i64 a,.bool j]/\Q0 wr (N+1+1) 40 #[int i64 0,int i64 0,int i64 0,int i64 0,int i64 0,int i64 0,int i64 0,int i64 0,.bool false]/\Hid (Below w.heap.size w wr)) (λ_ kv _=>3 - (intOf kv).toNat)
 case atStart=>exact ⟨.inl ⟨rfl,B⟩,D,R,pp H⟩
 case round=>
  clear B D R H;obtain ⟨hd,D,R,H⟩:=hrel;have e:w.heap.size<=N:=by rw [<-HN.o];exact pA _
  have n1:N+1≠N:=by omega
  have n2:N+1+1≠N:=by omega
  rcases hd with ⟨rfl,B⟩|⟨rfl,B⟩|⟨rfl,B⟩|⟨rfl,B⟩
  ·obtain ⟨⟨i,n,u,g,t,p,q,k,C⟩,-⟩:=B.c9;obtain ⟨F,G,E,-,-,-⟩:=D.c3;go_wp2_with (go_at_call 196;refine (ab.o _).mono ?_;rintro e_ w5 ⟨rfl,c⟩;clear i n u g t p q k C F G E;replace B:=B.on c;obtain ⟨⟨i,n,u,g,t,p,q,k,C⟩,f0,f1,f2,f3,f4,f5,f6,f7,f8⟩:=B.c9);have X:=B.st9 (int i64 x1) (int i64 y1) (int i64 z1) (int i64 U) (int i64 Z) (int i64 O) (int i64 S) (int i64 P) (.bool Cx);go_roundw
   case rel=>exact ⟨.inr (.inl ⟨rfl,X⟩),By (D.on c) n1 _ _ _ _ _ _ _ _ _,By (R.on c) n2 _ _ _ _ _ _ _ _ _,pp (Z0 (after H.out c) e _ _ _ _ _ _ _ _ _)⟩
   case measure=>simp [intOf]
  ·obtain ⟨⟨i,n,u,g,t,p,q,k,C⟩,-⟩:=B.c9;obtain ⟨F,G,E,-,-,-⟩:=D.c3;go_wp2_with (go_at_call 197;refine (ae.o _ H.out).mono ?_;rintro e_ w5 ⟨rfl,c⟩;clear i n u g t p q k C F G E;replace B:=B.on c;obtain ⟨⟨i,n,u,g,t,p,q,k,C⟩,f0,f1,f2,f3,f4,f5,f6,f7,f8⟩:=B.c9);have X:=B.st9 (int i64 x2) (int i64 y2) (int i64 z2) (int i64 Y) (int i64 T) (int i64 L) (int i64 aa) (int i64 Q) (.bool Dc);go_roundw
   case rel=>exact ⟨.inr (.inr (.inl ⟨rfl,X⟩)),By (D.on c) n1 _ _ _ _ _ _ _ _ _,By (R.on c) n2 _ _ _ _ _ _ _ _ _,pp (Z0 (after H.out c) e _ _ _ _ _ _ _ _ _)⟩
   case measure=>simp [intOf]
  ·obtain ⟨⟨i,n,u,g,t,p,q,k,C⟩,-⟩:=B.c9;obtain ⟨F,G,E,-,-,-⟩:=D.c3;go_wp2_with (go_at_call 198;refine (ad.o _ H.out).mono ?_;rintro e_ w5 ⟨rfl,c⟩;clear i n u g t p q k C F G E;replace B:=B.on c;obtain ⟨⟨i,n,u,g,t,p,q,k,C⟩,f0,f1,f2,f3,f4,f5,f6,f7,f8⟩:=B.c9);have X:=B.st9 (int i64 x3) (int i64 y3) (int i64 z3) (int i64 A) (int i64 s) (int i64 f) (int i64 l) (int i64 m) (.bool st3);go_roundw
   case rel=>exact ⟨.inr (.inr (.inr ⟨rfl,X⟩)),By (D.on c) n1 _ _ _ _ _ _ _ _ _,By (R.on c) n2 _ _ _ _ _ _ _ _ _,pp (Z0 (after H.out c) e _ _ _ _ _ _ _ _ _)⟩
   case measure=>simp [intOf]
  ·obtain ⟨⟨i,n,u,g,t,p,q,k,C⟩,-⟩:=B.c9;obtain ⟨⟨r0,r1,r2,r3,r4,r5,r6,r7,r8⟩,f0,f1,f2,f3,f4,f5,f6,f7,f8⟩:=R.c9;replace H:=H.out;have e:w.heap.size<=N+1+1:=by omega
   go_wp2_with fail;have ac:=R.st9 (int i64 (x3)) (int i64 (y3)) (int i64 (z3)) (int i64 (A)) (int i64 (s)) (int i64 (f)) (int i64 (l)) (int i64 (m)) (.bool (st3));obtain ⟨⟨F,G,E,d3,d4,d5,d6,d7,d8⟩,-⟩:=ac.c9;exact bodyPost_ret (v:=.agg #[int i64 (x3),int i64 (y3),int i64 (z3),int i64 (A),int i64 (s),int i64 (f),int i64 (l),int i64 (m),.bool (st3)]) (by simp [results,results150,go_sem,F,G,E,d3,d4,d5,d6,d7,d8]) rfl ⟨rfl,Z0 H e _ _ _ _ _ _ _ _ _⟩
end
end Go.Proofs.YtmbccnioijokfaaGreatDoor