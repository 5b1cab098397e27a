/- A part of the proof. -/
import Derived.Test.YtmbccnioijokfaaGreatDoorZs10
namespace Go.Proofs.YtmbccnioijokfaaGreatDoor
set_option maxRecDepth 100000
set_option maxHeartbeats 32000000
open Go.Value (int)
open Go.IntKind (i64 u8)
open Go.Proofs.Tryz
section
open Go.RowKit
structure BoxOk (a b c d e f:Int):Prop where
 a1: -140737488355328<=a
 b1: -140737488355328<=b
 c1: -140737488355328<=c
 d2:d<=140737488355328
 e2:e<=140737488355328
 f2:f<=140737488355328
 ad:a<=d
 be:b<=e
 cf:c<=f
def jj (n m lo hi:Int):Int:=if n=m then lo else hi
theorem jk (n m a b:Int)(w:World):Calls prog 353 #[n,m,a,b] w λr w'=>r=.returned (int i64 (jj n m a b))/\Below w.heap.size w w':=Ym (iQ n m a b w)
theorem DH {n m:Int}(a: -140737488355328<=n)(b:m<=140737488355328)(h:n<=m):jj n m (Qm n) (Qm (Q9 m (-1)))=X9 n m:=by
 rw [<-Rf a b h];unfold jj Qm Q9;rw [Kt]
def BR (n m:Int):Bool:=(n==m)&&(Qe n%65536==0)
theorem OX (n m:Int):((n==m)=false/\BR n m=false)∨((n==m)=true/\(Qe n%65536==0)=false/\BR n m=false)∨((n==m)=true/\(Qe n%65536==0)=true/\BR n m=true):=by
 unfold BR;cases (n==m)<;>cases (Qe n%65536==0)<;>simp
theorem KT {n m:Int}(a: -140737488355328<=n)(b:n<=140737488355328):BR n m=Zu n m:=ON a b
theorem jl (a b c d e f:Int)(hB:BoxOk a b c d e f)(w:World):Calls prog 338 #[.agg #[int i64 a,int i64 b,int i64 c,int i64 d,int i64 e,int i64 f]] w λr w'=>r=.returned (OR a b c d e f)/\Below w.heap.size w w':=by
 obtain ⟨W,E⟩:=pt (((w.alloc (.cells #[int i64 a,int i64 b,int i64 c,int i64 d,int i64 e,int i64 f] 210)).alloc (.cells #[int i64 0,int i64 0,int i64 0] 43)).alloc (.cells #[int i64 0,int i64 0,int i64 0] 43));have H:Below w.heap.size w W:=by rw [E];go_grown
 have A:Q0 W w.heap.size 210 #[int i64 a,int i64 b,int i64 c,int i64 d,int i64 e,int i64 f]:=by rw [E];exact ((Q0.new' rfl).alloc _).alloc _
 have L:Q0 W (w.heap.size+1) 43 #[int i64 0,int i64 0,int i64 0]:=by rw [E];exact (Q0.new' (by simp)).alloc _
 have T:Q0 W (w.heap.size+1+1) 43 #[int i64 0,int i64 0,int i64 0]:=by rw [E];exact Q0.new' (by simp)
 have hs:W.heap.size=w.heap.size+3:=by rw [E];simp
 obtain ⟨N,O⟩:=pt w.heap.size;rw [<-O] at A L T hs;have HS:=pp hs;clear hs;have q:=pp hB;clear hB;go_enter func338,ntmps338;go_upto_region 1 with fail
 rw [<-E,<-O];have I:=pp O;clear O E;obtain ⟨a0,a1,a2,a3,a4,a5⟩:=A.c6.1;go_wp2_with fail;refine (OO _ _ _ _).mono ?_;rintro e z ⟨rfl,s⟩;go_upto_region 2 with fail
 generalize u:World.alloc z _=W1;have X:=Q0.fresh u.symm;replace A:=A.step s u.symm;replace L:=L.step s u.symm;replace T:=T.step s u.symm;replace H:=GR H s u.symm;have hg:N+3<=z.heap.size:=by rw [<-HS.o];exact s.size
 clear u s a0 a1 a2 a3 a4 a5;generalize z.heap.size=g at X hg ⊢;obtain ⟨a0,a1,a2,a3,a4,a5⟩:=A.c6.1;go_wp2_with fail;refine (Bi _ _ _ _ _ _ _).mono ?_;rintro e z ⟨rfl,s⟩;go_wp2_with fail;refine (OO _ _ _ _).mono ?_;rintro e z ⟨rfl,l⟩;replace s:=after s l;clear l;go_upto_region 3 with fail
 generalize u:World.alloc z _=W2;have Y:=Q0.fresh u.symm;replace A:=A.step s u.symm;replace L:=L.step s u.symm;replace T:=T.step s u.symm;have J:=X.lt;replace X:=X.step s u.symm;replace H:=GR H s u.symm;have aa:g<z.heap.size:=pD J s.size;clear u s J a0 a1 a2 a3 a4 a5;generalize z.heap.size=g2 at Y aa ⊢;go_upto_region 4 with fail
 go_loopw [19] (λi wr=>∃k:Nat,k<=3/\i=.int .i64 k/\Q0 wr N 210 #[int i64 a,int i64 b,int i64 c,int i64 d,int i64 e,int i64 f]/\Q0 wr (N+1) 43 #[int i64 0,int i64 0,int i64 0]/\Q0 wr (N+1+1) 43 #[int i64 0,int i64 0,int i64 0]/\
  Q0 wr g 43 #[int i64 (Qm a),int i64 (Qm b),int i64 (Qm c)]/\Q0 wr g2 43 #[int i64 (Qm (Q9 d (-1))),int i64 (Qm (Q9 e (-1))),int i64 (Qm (Q9 f (-1)))]/\Hid (∀j:Nat,j<k->Zu (Xc a b c j) (Xc d e f j)=false)/\Below w.heap.size w wr) (λi _=>3 - (intOf i).toNat)
 case atStart=>exact ⟨0,by omega,rfl,A,L,T,X,Y,λj hj=>by omega,H⟩
 case round=>
  clear A L T X Y H;obtain ⟨k,hk,rfl,A,L,T,X,Y,Z,H⟩:=hrel;by_cases V:k=3
  ·subst V;have HT:=pp (TU Z.out);obtain ⟨k0,k1,k2,Q,k4,S⟩:=A.re6;obtain ⟨x0,x1,x2⟩:=X.re3;obtain ⟨M,y1,y⟩:=Y.re3;go_upto_region 11 with fail
   refine Qk [0,0,0,0,0,0,0,0,0,0,0,0,0,0,0,0,0,0,0,0,0,0,0,0,0,0,0,0,0,0,0,0,0,0,0,0,1,3,1,3,1,3] (λ_ _ _=>True) (by kernel_rfl) (by kernel_rfl) (λ_ _ _ _ h _=>h) ?_
   repeat (first|(refine Qi ?_)|(refine Qf (λK t=>?_);go_simp;first|(refine t _ ?_;clear t K)|(apply Exists.intro;refine ⟨λ_=>?_,t _ ?_⟩;(exact jk _ _ _ _ _);clear t K))|(refine Vo (λK t=>?_);go_simp;refine t _ ?_;clear t K))
   refine Q8 ?_;repeat (refine Q2 ?_)
   refine Qc ?_;simp only [Qd];intro w2 l _;replace A:=A.on l;replace L:=L.on l;replace T:=T.on l;replace X:=X.on l;replace Y:=Y.on l;replace H:=after H l;clear l k0 k1 k2 Q k4 S x0 x1 x2 M y1 y;obtain ⟨M,y1,y,f0,R,f2⟩:=Y.c3;go_upto_region 12 with fail
   generalize F:World.setCell (World.setCell (World.setCell w2 _ _) _ _) _ _=w4;replace L:=Q0.eqw F (((L.far (p:=⟨g2,0,none⟩) (by dsimp only;omega) _).far (p:=⟨g2,1,none⟩) (by dsimp only;omega) _).far (p:=⟨g2,2,none⟩) (by dsimp only;omega) _)
   replace T:=Q0.eqw F (((T.far (p:=⟨g2,0,none⟩) (by dsimp only;omega) _).far (p:=⟨g2,1,none⟩) (by dsimp only;omega) _).far (p:=⟨g2,2,none⟩) (by dsimp only;omega) _)
   replace X:=Q0.eqw F (((X.far (p:=⟨g2,0,none⟩) (by dsimp only;omega) _).far (p:=⟨g2,1,none⟩) (by dsimp only;omega) _).far (p:=⟨g2,2,none⟩) (by dsimp only;omega) _)
   replace Y:=Q0.eqw F (Y.st3 _ _ _);replace H:Below w.heap.size w w4:=by
    rw [<-F,<-I.o];rw [<-I.o] at H;exact ((H.setCell (p:=⟨g2,0,none⟩) (by dsimp only;omega) _).setCell (p:=⟨g2,1,none⟩) (by dsimp only;omega) _).setCell (p:=⟨g2,2,none⟩) (by dsimp only;omega) _
   clear F M y1 y f0 R f2 A;rw [DH q.o.a1 q.o.d2 q.o.ad,DH q.o.b1 q.o.e2 q.o.be,DH q.o.c1 q.o.f2 q.o.cf] at Y;have x0:=λf d os=>(X.sp (D:=[N+1,N+1+1]) (by simp;omega) f d os).c3
   have M:=λf d os=>(Y.sp (D:=[N+1,N+1+1]) (by simp;omega) f d os).c3
   refine BH [0,0,2,2,0] 2 (N+1) 43 (#[int i64 (Qm a),int i64 (Qm b),int i64 (Qm c)]) 3 (N+1+1) 43 (#[int i64 (X9 a d),int i64 (X9 b e),int i64 (X9 c f)]) (by omega) (by kernel_rfl) (by kernel_rfl) ?_
   repeat (first|(refine Qi ?_)|(refine Qf (λK t=>?_);go_simp;refine t _ ?_;clear t K))
   refine Q8 ?_;repeat (refine Q2 ?_)
   refine Qv ?s1 (λ_=>?_)
   case s1=>
    intro w_ ab C;have L2:=C.blk (by simp [Vx]) L
    obtain ⟨b0,b1,b2,f0,R,f2⟩:=L2.c3;go_simp;exact Aj (by decide) UR (L2.st3 _ _ _)
   refine Qv ?s2 (λ_=>?_)
   case s2=>
    intro w_ ab C;have T2:=C.blk (by simp [Vx]) T
    obtain ⟨b0,b1,b2,f0,R,f2⟩:=T2.c3;go_simp;exact Ak (by decide) UR (T2.st3 _ _ _)
   refine Q2 ?_;refine XX ?_;simp only [Qd];rintro z s ⟨⟨-,r1⟩,r2⟩;obtain ⟨U,d1,d2,-,-,-⟩:=(r1.1 rfl).c3;obtain ⟨P,e1,e2,-,-,-⟩:=(r2.2 rfl).c3;clear r1 r2;go_wp2_with fail;refine bodyPost_ret (v:=OR a b c d e f) (by simp [results,results338,go_sem,U,d1,d2,P,e1,e2,HT.o,zI]) rfl ⟨rfl,?_⟩
   rw [<-I.o] at H ⊢;exact H.trans (s.below (by have:=H.size;rwa [<-I.o] at this) (λb hb=>by simp;omega))
  ·have x:k<3:=by omega
   obtain ⟨k0,k1,k2,Q,k4,S⟩:=A.re6;go_upto_region 6 with fail
   refine Qk [0,0,0,0,0,0,0,0,0,0] (λ_ _ _=>True) (by kernel_rfl) (by kernel_rfl) (λ_ _ _ _ h _=>h) ?_
   repeat (first|(refine Qi ?_)|(refine Qf (λK t=>?_);go_simp;first|(refine t _ ?_;clear t K)|(apply Exists.intro;refine ⟨λ_=>?_,t _ ?_⟩;(exact BL _ _ _ _ _);clear t K)))
   refine Q8 ?_;repeat (refine Q2 ?_)
   refine Qc ?_;simp only [Qd];intro w2 l _;replace A:=A.on l;replace L:=L.on l;replace T:=T.on l;replace X:=X.on l;replace Y:=Y.on l;replace H:=after H l;clear l k0 k1 k2 Q k4 S;have b1:=lZ ⟨q.o.a1,by have:=q.o.ad;have:=q.o.d2;omega⟩ ⟨q.o.b1,by have:=q.o.be;have:=q.o.e2;omega⟩ ⟨q.o.c1,by have:=q.o.cf;have:=q.o.f2;omega⟩ k
   have B:=λ(h:BR (Xc a b c k) (Xc d e f k)=false)=>Rr Z.out (by rw [<-KT b1.1 b1.2];exact h)
   have G:=λ(h:BR (Xc a b c k) (Xc d e f k)=true)=>dM (a:=a) (b:=b) (c:=c) (d:=d) (e:=e) (f:=f) x (by rw [<-KT b1.1 b1.2];exact h)
   go_upto_region 7 with fail
   obtain ⟨n,hn⟩:=pt (Xc a b c k);obtain ⟨m,hm⟩:=pt (Xc d e f k);rw [<-hn,<-hm] at B G ⊢;have HNn:=pp hn;have HMm:=pp hm;clear hn hm b1;have hkw:=PK (pA 3) (by decide) x
   obtain ⟨l0,l1,l2,lf0,lf1,lf2⟩:=L.c3;obtain ⟨t0,t1,t2,tf0,tf1,tf2⟩:=T.c3;rcases OX n m with ⟨y1,y⟩|⟨y1,y3,y⟩|⟨y1,y3,y⟩
   ·replace B:=pp (B y);clear G y;go_wp2_with fail;go_roundw
    case rel=>exact ⟨k+1,x,rfl,A,L,T,X,Y,B.o,H⟩
    case measure=>exact ZY x
   ·replace B:=pp (B y);clear G y;go_wp2_with fail;refine (Rj _ _).mono ?_;rintro e z ⟨rfl,rfl⟩;go_wp2_with fail;go_roundw
    case rel=>exact ⟨k+1,x,rfl,A,L,T,X,Y,B.o,H⟩
    case measure=>exact ZY x
   ·replace G:=pp (G y);clear B y;go_wp2_with fail;refine (Rj _ _).mono ?_;rintro e z ⟨rfl,rfl⟩;go_wp2_with fail;have RL:=(L.st3 (int i64 0) (int i64 0) (int i64 0)).far (p:=⟨N+1+1,0,none⟩) (by dsimp only;omega) (int i64 0)
    have ac:=(RL.far (p:=⟨N+1+1,1,none⟩) (by dsimp only;omega) (int i64 0)).far (p:=⟨N+1+1,2,none⟩) (by dsimp only;omega) (int i64 0)
    have RT:=(((T.far (p:=⟨N+1,0,none⟩) (by dsimp only;omega) (int i64 0)).far (p:=⟨N+1,1,none⟩) (by dsimp only;omega) (int i64 0)).far (p:=⟨N+1,2,none⟩) (by dsimp only;omega) (int i64 0)).st3 (int i64 0) (int i64 0) (int i64 0)
    obtain ⟨U,d1,d2,-,-,-⟩:=ac.c3;obtain ⟨P,e1,e2,-,-,-⟩:=RT.c3;refine bodyPost_ret (v:=OR a b c d e f) (by simp [results,results338,go_sem,U,d1,d2,P,e1,e2,G.o,zI]) rfl ⟨rfl,?_⟩
    rw [<-I.o] at H ⊢;exact (((((H.setCell (p:=⟨N+1,0,none⟩) (by dsimp only;omega) _).setCell (p:=⟨N+1,1,none⟩) (by dsimp only;omega) _).setCell (p:=⟨N+1,2,none⟩) (by dsimp only;omega) _).setCell (p:=⟨N+1+1,0,none⟩) (by dsimp only;omega) _).setCell (p:=⟨N+1+1,1,none⟩) (by dsimp only;omega) _).setCell (p:=⟨N+1+1,2,none⟩) (by dsimp only;omega) _
end
end Go.Proofs.YtmbccnioijokfaaGreatDoor