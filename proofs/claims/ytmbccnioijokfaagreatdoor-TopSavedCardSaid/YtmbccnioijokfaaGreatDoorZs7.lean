/- A part of the proof. -/
import Derived.Test.YtmbccnioijokfaaGreatDoorZs4
import Derived.Test.YtmbccnioijokfaaGreatDoorZs3
namespace Go.Proofs.YtmbccnioijokfaaGreatDoor
set_option maxRecDepth 100000
set_option maxHeartbeats 32000000
open Go.Value (int)
open Go.IntKind (i64 u8)
open Go.Proofs.Tryz
section
open Go.RowKit Go.Shelf
attribute [local go_sem] Oper.semAt_some
def QM (n:Int):Int:=Xj (Xv n (-2147483648)) 2147483648
theorem KE (n:Int): -2147483648<=QM n/\QM n<=2147483648:=by unfold QM Xj Xv;omega
theorem Nj (n:Int)(w:World):Calls prog 243 #[n] w λr w'=>r=.returned (int i64 (QM n))/\w=w':=by
 have hmn:=@YY prog;have hmx:=@ZC prog;go_enter func243,ntmps243;go_wp2_with fail;go_returns;exact ⟨rfl,rfl⟩
theorem Rp (x y z:Int)(w:World):Calls prog 233 #[.agg #[x,y,z]] w λr w'=>r=.returned (.agg #[int i64 (QM x),int i64 (QM y),int i64 (QM z)])/\Below w.heap.size w w':=by
 have U:Q0 ((w.alloc (.cells #[x,y,z] 43)).alloc (.cells #[int i64 0,int i64 0,int i64 0] 43)) w.heap.size 43 #[x,y,z]:=(Q0.new' rfl).alloc _;have f:Q0 ((w.alloc (.cells #[x,y,z] 43)).alloc (.cells #[int i64 0,int i64 0,int i64 0] 43)) (w.heap.size+1) 43 #[int i64 0,int i64 0,int i64 0]:=Q0.new' (by simp)
 obtain ⟨k0,k1,k2⟩:=U.re3;go_enter func233,ntmps233;go_wp2_with fail;refine Qo 10 (by kernel_rfl) rfl (by kernel_rfl) ?_
 simp only [List.take_succ_cons,List.take_zero,List.drop_succ_cons,List.drop_zero];repeat (go_big_quiet_step (exact Calls.regrown_of (Ym (Nj _ _))))
 refine wpQuiet_nil ?_;intro w' a;obtain ⟨b,rfl⟩:=a;have R:=f.re b.d b.os;obtain ⟨r0,r1,r2,s0,s1,s2⟩:=R.c3;go_wp2_with fail;have g:=R.st3 (int i64 (QM x)) (int i64 (QM y)) (int i64 (QM z));obtain ⟨c,h,e,-,-,-⟩:=g.c3;exact bodyPost_ret (v:=.agg #[int i64 (QM x),int i64 (QM y),int i64 (QM z)]) (by simp [results,results233,go_sem,c,h,e]) rfl ⟨rfl,by (repeat' (first|(with_reducible exact pI _ _)|(with_reducible assumption)|(with_reducible refine Below.alloc ?_ ?_ _)|(with_reducible refine Below.drew ?_)|(with_reducible refine Below.setCell ?_ ?_ _)|(with_reducible refine after ?_ (pK _ _ _))|(refine after ?_ (by with_reducible assumption))|go_size))⟩
theorem TK (b:Nat)(x y z a b' c:Int)(u: -1<=a/\a<=1)(i: -1<=b'/\b'<=1)(A: -1<=c/\c<=1)(w:World)(B:Q0 w b 43 #[x,y,z]):
  Calls prog 242 #[a,b',c,b] w λr w'=>r=.returned (.agg #[int i64 (QM (QM x+a)),int i64 (QM (QM y+b')),int i64 (QM (QM z+c))])/\Below w.heap.size w w':=by
 have U:Q0 (w.alloc (.cells #[int i64 0,int i64 0,int i64 0] 43)) b 43 #[x,y,z]:=B.alloc _;have p:Q0 (w.alloc (.cells #[int i64 0,int i64 0,int i64 0] 43)) w.heap.size 43 #[int i64 0,int i64 0,int i64 0]:=Q0.new' rfl;obtain ⟨k,g,q⟩:=U.re3;have bx:=KE x;have bb:=KE y;have m:=KE z;have s:IntKind.i64.wrap (QM x+a)=QM x+a:=pJ _ (by omega)
 have n:IntKind.i64.wrap (QM y+b')=QM y+b':=pJ _ (by omega)
 have t:IntKind.i64.wrap (QM z+c)=QM z+c:=pJ _ (by omega)
 clear bx bb m u i A;go_enter func242,ntmps242;go_wp2_with fail;refine Qo 17 (by kernel_rfl) rfl (by kernel_rfl) ?_
 simp only [List.take_succ_cons,List.take_zero,List.drop_succ_cons,List.drop_zero];repeat (go_big_quiet_step (first|exact Calls.regrown_of (Ym (Nj _ _))|exact Calls.regrown_of (Rp _ _ _ _)))
 refine wpQuiet_nil ?_;intro w' e;obtain ⟨f,rfl⟩:=e;have R:=p.re f.d f.os;obtain ⟨r0,r1,r2,s0,s1,s2⟩:=R.c3;clear s n t k g q;go_wp2_with fail;have j:=R.st3 (int i64 (QM (QM x+a))) (int i64 (QM (QM y+b'))) (int i64 (QM (QM z+c)));obtain ⟨o,l,h,-,-,-⟩:=j.c3;exact bodyPost_ret (v:=.agg #[int i64 (QM (QM x+a)),int i64 (QM (QM y+b')),int i64 (QM (QM z+c))]) (by simp [results,results242,go_sem,o,l,h]) rfl ⟨rfl,by (repeat' (first|(with_reducible exact pI _ _)|(with_reducible assumption)|(with_reducible refine Below.alloc ?_ ?_ _)|(with_reducible refine Below.drew ?_)|(with_reducible refine Below.setCell ?_ ?_ _)|(with_reducible refine after ?_ (pK _ _ _))|(refine after ?_ (by with_reducible assumption))|go_size))⟩
end
end Go.Proofs.YtmbccnioijokfaaGreatDoor