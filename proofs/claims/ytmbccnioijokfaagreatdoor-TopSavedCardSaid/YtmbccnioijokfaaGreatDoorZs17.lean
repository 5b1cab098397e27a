/- A part of the proof. -/
import Derived.Test.YtmbccnioijokfaaGreatDoorZs8
import Derived.Test.YtmbccnioijokfaaGreatDoorZs14
import Derived.Test.YtmbccnioijokfaaGreatDoorZs3
namespace Go.Proofs.YtmbccnioijokfaaGreatDoor
set_option maxRecDepth 100000
set_option maxHeartbeats 32000000
open Go.Value (int)
open Go.IntKind (i64 u8)
open Go.Proofs.Tryz
section
open Go.RowKit
attribute [local go_sem] Oper.semAt_some
theorem ei (x z:Int)(i:Nat)(hi:i<8192)(hx: -70368744177664<=x/\x<=70368744177664)(hz: -70368744177664<=z/\z<=70368744177664)(w:World):
  Calls prog 218 #[.agg #[x,z],int i64 i] w λe w'=>e=.returned (.tuple #[.agg #[int i64 (x * 16+(i:Int)%16),int i64 ((i:Int) / 256),int i64 (z * 16+(i:Int) / 16%16)],.bool true])/\Below w.heap.size w w':=by
 obtain ⟨W,a⟩:=pt ((w.alloc (.cells #[x,z] 123)).alloc (.cells #[int i64 0,int i64 0,int i64 0] 43));have H:Below w.heap.size w W:=by rw [a];go_grown
 have U:Q0 W w.heap.size 123 #[x,z]:=by rw [a];exact (Q0.new' rfl).alloc _
 have R:Q0 W (w.heap.size+1) 43 #[int i64 0,int i64 0,int i64 0]:=by rw [a];exact Q0.new' (by simp)
 obtain ⟨u0,u1,-,-⟩:=U.pair;obtain ⟨r0,r1,r2,s0,s1,s2⟩:=R.c3;have e1:(i:Int).tdiv 256=(i:Int) / 256:=Int.tdiv_eq_ediv_of_nonneg (by omega)
 have e2:(i:Int).tmod 16=(i:Int)%16:=Int.tmod_eq_emod_of_nonneg (by omega)
 have YV:(i:Int)<8192:=by omega
 have hi0:(0:Int)<=i:=by omega
 have d:=pp (show w.heap.size<=w.heap.size+1 by omega)
 go_enter func218,ntmps218;go_upto_region 1 with fail
 rw [<-a];clear a;generalize w.heap.size+1=g at *;go_wp2_with fail;have f:=R.st3 (int i64 (x * 16+(i:Int)%16)) (int i64 ((i:Int) / 256)) (int i64 (z * 16+(i:Int) / 16%16));obtain ⟨b,h,c,-,-,-⟩:=f.c3;exact bodyPost_ret (v:=.tuple #[.agg #[int i64 (x * 16+(i:Int)%16),int i64 ((i:Int) / 256),int i64 (z * 16+(i:Int) / 16%16)],.bool true]) (by simp [results,results218,go_sem,b,h,c]) rfl ⟨rfl,Bg (pI _ _) H d.o rfl⟩
def IH (x z:Int):Array Value:=#[x,z,int i64 (x - 1),z,int i64 (x+1),z,x,int i64 (z - 1),x,int i64 (z+1)]
theorem RH (x z:Int)(hx: -70368744177664<=x/\x<=70368744177664)(hz: -70368744177664<=z/\z<=70368744177664)(w:World):
  Calls prog 235 #[.agg #[x,z]] w λe w'=>e=.returned (.agg (IH x z))/\Below w.heap.size w w':=by
 unfold IH;obtain ⟨W,b⟩:=pt ((w.alloc (.cells #[x,z] 123)).alloc (.cells #[int i64 0,int i64 0,int i64 0,int i64 0,int i64 0,int i64 0,int i64 0,int i64 0,int i64 0,int i64 0] 297));have H:Below w.heap.size w W:=by rw [b];go_grown
 have U:Q0 W w.heap.size 123 #[x,z]:=by rw [b];exact (Q0.new' rfl).alloc _
 have R:Q0 W (w.heap.size+1) 297 #[int i64 0,int i64 0,int i64 0,int i64 0,int i64 0,int i64 0,int i64 0,int i64 0,int i64 0,int i64 0]:=by rw [b];exact Q0.new' (by simp)
 obtain ⟨u0,u1,-,-⟩:=U.pair;have r0:=R.cell 0;have r1:=R.cell 1;have r2:=R.cell 2;have r3:=R.cell 3;have r4:=R.cell 4;have r5:=R.cell 5;have r6:=R.cell 6;have r7:=R.cell 7;have r8:=R.cell 8;have r9:=R.cell 9;have f0:=R.frz 0;have f1:=R.frz 1;have f2:=R.frz 2;have f3:=R.frz 3;have f4:=R.frz 4;have f5:=R.frz 5;have f6:=R.frz 6;have f7:=R.frz 7;have f8:=R.frz 8;have f9:=R.frz 9;have p:=pp (show w.heap.size<=w.heap.size+1 by omega)
 go_enter func235,ntmps235;go_upto_region 1 with fail
 rw [<-b];clear b;generalize w.heap.size+1=g at *;go_wp2_with fail;have a:=(((((((((R.set_ 0 (int i64 x)).set_ 1 (int i64 z)).set_ 2 (int i64 (x - 1))).set_ 3 (int i64 z)).set_ 4 (int i64 (x+1))).set_ 5 (int i64 z)).set_ 6 (int i64 x)).set_ 7 (int i64 (z - 1))).set_ 8 (int i64 x)).set_ 9 (int i64 (z+1));have j:=a.cell 0;have f:=a.cell 1;have c:=a.cell 2;have d:=a.cell 3;have m:=a.cell 4;have k:=a.cell 5;have i:=a.cell 6;have h:=a.cell 7;have l:=a.cell 8;have n:=a.cell 9;simp only [List.setIfInBounds_toArray,List.set_cons_zero,List.set_cons_succ,List.getElem?_toArray,List.getElem?_cons_zero,List.getElem?_cons_succ] at j f c d m k i h l n;refine bodyPost_ret (v:=.agg #[x,z,int i64 (x - 1),z,int i64 (x+1),z,x,int i64 (z - 1),x,int i64 (z+1)]) (by simp [results,results235,go_sem,j,f,c,d,m,k,i,h,l,n]) rfl ⟨rfl,?_⟩
 have h0:=p.o;repeat (refine Below.setCell ?_ (by dsimp only;omega) _)
 exact H
theorem jm (x y z:Int)(w:World):Calls prog 187 #[.agg #[x,y,z]] w λe w'=>
  e=.returned (.agg #[int i64 (Xu x),int i64 (Xu y),int i64 (Xu z),int i64 (Q9 (Xu x) 65536),int i64 (Q9 (Xu y) 65536),int i64 (Q9 (Xu z) 65536)])/\Below w.heap.size w w':=by
 obtain ⟨n,a⟩:=pt ((w.alloc (.cells #[x,y,z] 43)).alloc (.cells #[int i64 0,int i64 0,int i64 0,int i64 0,int i64 0,int i64 0] 210));have H:Below w.heap.size w n:=by rw [a];go_grown
 have X:Q0 n w.heap.size 43 #[x,y,z]:=by rw [a];exact (Q0.new' rfl).alloc _
 have R:Q0 n (w.heap.size+1) 210 #[int i64 0,int i64 0,int i64 0,int i64 0,int i64 0,int i64 0]:=by rw [a];exact Q0.new' (by simp)
 obtain ⟨l,j,m⟩:=X.re3;have G:=pp (show w.heap.size<=w.heap.size+1 by omega)
 go_enter func187,ntmps187;go_upto_region 1 with fail
 rw [<-a];clear a X;generalize w.heap.size+1=g at *;refine Qk [0,0,0,0,0,0,0,0,0,0,2,3] (λi v w=>i=10->∃b,v=.pointer (some ⟨b,0,none⟩)/\n.heap.size<=b/\Q0 w b 38 #[int i64 0,int i64 0,int i64 0]) (by kernel_rfl) (by kernel_rfl) (λ_ _ _ _ h k e=>let ⟨b,h1,h2,h3⟩:=h e;⟨b,h1,h2,h3.on k⟩) ?_
 repeat (first|(refine Qi ?_)|(refine Qf (λK p=>?_);go_simp;first|(refine p _ ?_;clear p K)|(apply Exists.intro;refine ⟨λ_=>?_,p _ ?_⟩;(exact Ym (iS _ _));clear p K)))
 refine Q8 ?_;repeat (first|(refine Q2 ?_)|(refine Qv ?lsA (λv_=>?_);case lsA=>(intro w_ r hp_;((go_simp;exact ⟨Kept.of_below ((pI _ _).alloc (pA _) _),(Qb r).size,Q0.new' rfl⟩)))))
 refine Qc ?_;simp only [Qd];intro W k L;obtain ⟨b,rfl,c,s⟩:=L.2 trivial;clear l j m;obtain ⟨l,j,m,C,E,M⟩:=s.c3;simp only [Act.put];go_upto_region 2 with fail
 obtain ⟨t,a⟩:=pt (((W.setCell ⟨b,0,none⟩ (int i64 (Xu x))).setCell ⟨b,1,none⟩ (int i64 (Xu y))).setCell ⟨b,2,none⟩ (int i64 (Xu z)));rw [<-a];clear l j m C E M;replace R:=R.far3 k c a;replace B:=s.put3 a;replace H:=Bg H k c a;clear a k c s;obtain ⟨l,j,m⟩:=B.re3;refine Qo 5 (by kernel_rfl) rfl (by kernel_rfl) ?_
 simp only [List.take_succ_cons,List.take_zero,List.drop_succ_cons,List.drop_zero];repeat (go_big_quiet_step (exact Calls.regrown_of (Bi _ _ _ _ _ _ _)))
 refine wpQuiet_nil ?_;intro w' q;obtain ⟨f,rfl⟩:=q;clear l j m B;replace R:=R.re f.d f.os;replace H:Below w.heap.size w (Go.Sort.grow (redrawn t f.d) f.os):=after H (pK t f.d f.os);obtain ⟨⟨r0,r1,r2,r3,r4,r5⟩,s0,s1,s2,s3,s4,s5⟩:=R.c6;go_wp2_with fail;have D:=R.st6 (int i64 (Xu x)) (int i64 (Xu y)) (int i64 (Xu z)) (int i64 (Q9 (Xu x) 65536)) (int i64 (Q9 (Xu y) 65536)) (int i64 (Q9 (Xu z) 65536));obtain ⟨⟨I,F,u,A,N,J⟩,-,-,-,-,-,-⟩:=D.c6;refine bodyPost_ret (v:=.agg #[int i64 (Xu x),int i64 (Xu y),int i64 (Xu z),int i64 (Q9 (Xu x) 65536),int i64 (Q9 (Xu y) 65536),int i64 (Q9 (Xu z) 65536)]) (by simp [results,results187,go_sem,I,F,u,A,N,J]) rfl ⟨rfl,?_⟩
 have h0:=G.o;repeat (refine Below.setCell ?_ (by dsimp only;omega) _)
 exact H
end
end Go.Proofs.YtmbccnioijokfaaGreatDoor