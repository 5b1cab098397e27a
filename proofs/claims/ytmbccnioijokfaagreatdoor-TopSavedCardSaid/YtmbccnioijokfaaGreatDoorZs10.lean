/- A part of the proof. -/
import Derived.Deep.Cut
import Derived.Test.YtmbccnioijokfaaGreatDoorZs7
namespace Go.Proofs.YtmbccnioijokfaaGreatDoor
set_option maxRecDepth 100000
set_option maxHeartbeats 32000000
open Go.Value (int)
open Go.IntKind (i64 u8)
open Go.Proofs.Tryz
variable {k:Nat}
section
open Go.RowKit
def BN (a b c d e f:Int):Bool:=!(Zu a d||(Zu b e||Zu c f))
def zI (is:Bool)(n:Int):Int:=if is then n else 0
abbrev OR (a b c d e f:Int):Value:=.tuple #[.agg #[int i64 (zI (BN a b c d e f) (Qm a)),int i64 (zI (BN a b c d e f) (Qm b)),int i64 (zI (BN a b c d e f) (Qm c))],
 .agg #[int i64 (zI (BN a b c d e f) (X9 a d)),int i64 (zI (BN a b c d e f) (X9 b e)),int i64 (zI (BN a b c d e f) (X9 c f))],.bool (BN a b c d e f)]
abbrev TT (f:Nat->Int):Array Value:=#[int i64 (f 0),int i64 (f 1),int i64 (f 2)]
theorem arr3_ext {f g:Nat->Int}(h:∀j,j<3->f j=g j):TT f=TT g:=by unfold TT;rw [h 0 (by omega),h 1 (by omega),h 2 (by omega)]
theorem dM {a b c d e f:Int}(g:k<3)(h:Zu (Xc a b c k) (Xc d e f k)=true):BN a b c d e f=false:=by
 match k,g with
 | 0,_=>have:Zu a d=true:=h;simp [BN,this]
 | 1,_=>have:Zu b e=true:=h;simp [BN,this]
 | 2,_=>have:Zu c f=true:=h;simp [BN,this]
theorem TU {a b c d e f:Int}(h:∀j:Nat,j<3->Zu (Xc a b c j) (Xc d e f j)=false):BN a b c d e f=true:=by
 have k:Zu a d=false:=h 0 (by omega)
 have i:Zu b e=false:=h 1 (by omega)
 have g:Zu c f=false:=h 2 (by omega)
 simp [BN,k,i,g]
theorem Rr {a b c d e f:Int}(h:∀j:Nat,j<k->Zu (Xc a b c j) (Xc d e f j)=false)(g:Zu (Xc a b c k) (Xc d e f k)=false):∀j:Nat,j<k+1->Zu (Xc a b c j) (Xc d e f j)=false:=λj hj=>by
 by_cases i:j=k
 ·subst i;exact g
 ·exact h j (by omega)
theorem lZ {a b c:Int}(f: -140737488355328<=a/\a<=140737488355328)(d: -140737488355328<=b/\b<=140737488355328)(e: -140737488355328<=c/\c<=140737488355328)(k:Int): -140737488355328<=Xc a b c k/\Xc a b c k<=140737488355328:=by
 unfold Xc;split
 ·exact f
 ·split
  ·exact d
  ·split
   ·exact e
   ·omega
theorem Bx (n:Int): -2147483648<=Qm n/\Qm n<=2147483648:=by
 have h1:=ZR n;have h2:=ZS n;unfold Qm;omega
end
section
open Go.RowKit Go.Shelf
attribute [local go_sem] Oper.semAt_some
abbrev Ct (x y z:Int):Array Value:=#[int i64 (QM (QM x+ -1)),int i64 (QM (QM y)),int i64 (QM (QM z)),int i64 (QM (QM x+1)),int i64 (QM (QM y)),int i64 (QM (QM z)),int i64 (QM (QM x)),int i64 (QM (QM y+ -1)),int i64 (QM (QM z)),int i64 (QM (QM x)),int i64 (QM (QM y+1)),int i64 (QM (QM z)),int i64 (QM (QM x)),int i64 (QM (QM y)),int i64 (QM (QM z+ -1)),int i64 (QM (QM x)),int i64 (QM (QM y)),int i64 (QM (QM z+1))]
theorem dN (x y z:Int)(w:World):Calls prog 186 #[.agg #[x,y,z]] w λr w'=>r=.returned (.agg (Ct x y z))/\Below w.heap.size w w':=by
 obtain ⟨W,f⟩:=pt ((w.alloc (.cells #[x,y,z] 43)).alloc (.cells #[int i64 0,int i64 0,int i64 0,int i64 0,int i64 0,int i64 0,int i64 0,int i64 0,int i64 0,int i64 0,int i64 0,int i64 0,int i64 0,int i64 0,int i64 0,int i64 0,int i64 0,int i64 0] 257));have H:Below w.heap.size w W:=by rw [f];go_grown
 have U:Q0 W w.heap.size 43 #[x,y,z]:=by rw [f];exact (Q0.new' rfl).alloc _
 have R:Q0 W (w.heap.size+1) 257 #[int i64 0,int i64 0,int i64 0,int i64 0,int i64 0,int i64 0,int i64 0,int i64 0,int i64 0,int i64 0,int i64 0,int i64 0,int i64 0,int i64 0,int i64 0,int i64 0,int i64 0,int i64 0]:=by rw [f];exact Q0.new' (by simp)
 have C:=λW' (h:Below W.heap.size W W') (a b c:Int) (p: -1<=a/\a<=1) (k: -1<=b/\b<=1) (l: -1<=c/\c<=1)=>TK w.heap.size x y z a b c p k l W' (U.on h)
 have e:=pp C;have hen:=enters_of func242 (P:=prog) (by kernel_rfl) rfl
 clear C U;obtain ⟨N,i⟩:=pt w.heap.size;have hmf:∀(j:Fn) (first cap:Array Value) (w:World),(Instr.makeFunc j first cap).run prog w=.ok (.func j first cap) w:=λ_ _ _ _=>rfl
 go_enter func186,ntmps186;go_upto_region 2 with fail
 rw [<-f,<-i];have n:=pp i;clear f;rw [<-i] at e R;clear i;have K:Below W.heap.size W W:=pI _ _;go_wp2_with fail;refine (e.o _ K _ _ _ (by decide) (by decide) (by decide)).mono ?_
 rintro g w1 ⟨rfl,d⟩;replace K:=after K d;replace R:=R.on d;clear d;go_wp2_with fail;refine (e.o _ K _ _ _ (by decide) (by decide) (by decide)).mono ?_
 rintro g w2 ⟨rfl,d⟩;replace K:=after K d;replace R:=R.on d;clear d;go_wp2_with fail;refine (e.o _ K _ _ _ (by decide) (by decide) (by decide)).mono ?_
 rintro g w3 ⟨rfl,d⟩;replace K:=after K d;replace R:=R.on d;clear d;go_wp2_with fail;refine (e.o _ K _ _ _ (by decide) (by decide) (by decide)).mono ?_
 rintro g w4 ⟨rfl,d⟩;replace K:=after K d;replace R:=R.on d;clear d;go_wp2_with fail;refine (e.o _ K _ _ _ (by decide) (by decide) (by decide)).mono ?_
 rintro g w5 ⟨rfl,d⟩;replace K:=after K d;replace R:=R.on d;clear d;go_wp2_with fail;refine (e.o _ K _ _ _ (by decide) (by decide) (by decide)).mono ?_
 rintro g w6 ⟨rfl,d⟩;replace K:=after K d;replace R:=R.on d;clear d;have m:=pp (show (Ct x y z).all (·.oneCell')=true by simp [Value.oneCell'])
 go_simp;repeat (first|(go_big_may;refine wpList_store_rowTo rfl 257 _ _ rfl rfl (N+1) (Ct x y z) rfl rfl 257 _ R (by kernel_rfl) rfl m.o ?_)|go_values|go_skip|go_guarded|go_step|go_upon|go_back)
 have X:=R.row (Ct x y z);refine bodyPost_ret (v:=.agg (Ct x y z)) (results_cell_row rfl _ _ (N+1) 257 (Ct x y z) (0,0) _ rfl X underlying257 rfl (by kernel_rfl)) rfl ⟨rfl,?_⟩
 have h2:=n.o;exact Ut (after H K) (by omega) _
end
end Go.Proofs.YtmbccnioijokfaaGreatDoor