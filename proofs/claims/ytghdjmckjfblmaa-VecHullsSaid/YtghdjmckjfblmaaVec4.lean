/- The walks of the layer 2 (vec): boxes that may be, that are moved, that stand. -/
import Derived.Test.YtghdjmckjfblmaaVec3
import Derived.Test.YtghdjmckjfblmaaLast
namespace Go.Proofs.Ytghdjmckjfblmaa
open Go.RowKit

set_option maxHeartbeats 1000000 in
theorem may1_c (i a b c d e f : Int) (w : World) (u : Nat) (hu : Blk w u 25 #[.int .i64 a, .int .i64 b, .int .i64 c, .int .i64 d, .int .i64 e, .int .i64 f]) :
    Calls Try.prog 52 #[.int .i64 i, .pointer (some ⟨u, 0, none⟩)] w fun r w' => r = .returned (.bool (decide (axI a b c i ≤ axI d e f i))) ∧ Below w.heap.size w w' := by
  obtain ⟨k0, k1, k2, k3, k4, k5⟩ := hu.re6
  go_enter Try.func52, Try.ntmps52
  go_wp2_with fail
  refine wp_region_quiet_below (by kernel_rfl) (by kernel_rfl) ?_
  repeat (go_big_quiet_step (exact Calls.regrown_of (axis_c _ _ _ _ _)))
  refine wpQuiet_nil ?_
  intro w' hw'
  obtain ⟨rg, rfl⟩ := hw'
  go_wp2_with fail
  go_returns
  exact ⟨ret_b rfl, by (repeat' (first | (with_reducible exact Below.refl _ _) | (with_reducible assumption) | (with_reducible refine Below.alloc ?_ ?_ _) | (with_reducible refine Below.drew ?_) | (with_reducible refine Below.setCell ?_ ?_ _) | (with_reducible refine after ?_ (below_regrown _ _ _)) | (refine after ?_ (by with_reducible assumption)) | go_size))⟩
/-- Two ways are the same. -/
def veqB (a b c a' b' c' : Int) : Bool := a == a' && (b == b' && c == c')
theorem veqB_self (a b c : Int) : veqB a b c a b c = true := by simp [veqB]
theorem veqB_iff {a b c a' b' c' : Int} : veqB a b c a' b' c' = true ↔ a = a' ∧ b = b' ∧ c = c' := by simp [veqB]
theorem vec_guard : Try.prog.eqGuardType Try.prog.depth 23 = false := by kernel_rfl
theorem vec_eq (a b c a' b' c' : Int) (w : World) : (binOp .eql 23 (.agg #[.int .i64 a, .int .i64 b, .int .i64 c]) (.agg #[.int .i64 a', .int .i64 b', .int .i64 c'])).run Try.prog w = .ok (.bool (veqB a b c a' b' c')) w := by
  rw [run_eql_struct]
  unfold veqB
  simp [go_sem]
  by_cases h1 : a = a' <;> by_cases h2 : b = b' <;> by_cases h3 : c = c' <;> simp [h1, h2, h3]
/-- A box may be. -/
def mayI (a b c d e f : Int) : Bool := veqB a b c (cutI a) (cutI b) (cutI c) && (veqB d e f (cutI d) (cutI e) (cutI f) && (decide (a ≤ d) && decide (b ≤ e) && decide (c ≤ f)))
set_option maxHeartbeats 2000000 in
theorem may_c (a b c d e f : Int) (w : World) : Calls Try.prog 26 #[.agg #[.int .i64 a, .int .i64 b, .int .i64 c, .int .i64 d, .int .i64 e, .int .i64 f]] w fun r w' => r = .returned (.bool (mayI a b c d e f)) ∧ Below w.heap.size w w' := by
  have he := enters_of Try.func52 (by kernel_rfl) rfl
  have hmf : ∀ (fn : Fn) (first cap : Array Value) (w : World), (Instr.makeFunc fn first cap).run Try.prog w = .ok (.func fn first cap) w := fun _ _ _ _ => rfl
  have U : Blk (w.alloc (.cells (bxV a b c d e f) 25)) w.heap.size 25 (bxV a b c d e f) := Blk.new' rfl
  have ve := vec_eq
  have vg := vec_guard
  obtain ⟨k0, k1, k2, k3, k4, k5⟩ := U.re6
  have HA : ∀ d' os, Calls Try.prog 40 #[.func (.func 52) #[] #[.pointer (some ⟨w.heap.size, 0, none⟩)]] (Go.Sort.grow (redrawn (w.alloc (.cells (bxV a b c d e f) 25)) d') os) fun r w' => r = .returned (.bool (decide (a ≤ d) && decide (b ≤ e) && decide (c ≤ f))) ∧ Below (Go.Sort.grow (redrawn (w.alloc (.cells (bxV a b c d e f) 25)) d') os).heap.size (Go.Sort.grow (redrawn (w.alloc (.cells (bxV a b c d e f) 25)) d') os) w' := by
    intro d' os
    refine (all_c 52 _ (fun i => decide (axI a b c i ≤ axI d e f i)) _ he ?_).mono fun _ _ h => h
    intro i W hW
    exact may1_c i a b c d e f W _ ((U.re d' os).on hW)
  have HA := Lib.hid HA
  unfold mayI
  cases h1 : veqB a b c (cutI a) (cutI b) (cutI c)
  · go_enter Try.func26, Try.ntmps26
    go_wp2_with fail
    refine wp_region_quiet_below (by kernel_rfl) (by kernel_rfl) ?_
    repeat (go_big_quiet_step (exact Calls.regrown_of (cutv_c _ _ _ _)))
    refine wpQuiet_nil ?_
    intro w' hw'
    obtain ⟨rg, rfl⟩ := hw'
    go_wp2_with fail
    go_returns
    exact ⟨ret_b rfl, by (repeat' (first | (with_reducible exact Below.refl _ _) | (with_reducible assumption) | (with_reducible refine Below.alloc ?_ ?_ _) | (with_reducible refine Below.drew ?_) | (with_reducible refine Below.setCell ?_ ?_ _) | (with_reducible refine after ?_ (below_regrown _ _ _)) | (refine after ?_ (by with_reducible assumption)) | go_size))⟩
  cases h2 : veqB d e f (cutI d) (cutI e) (cutI f)
  · go_enter Try.func26, Try.ntmps26
    go_wp2_with fail
    refine wp_region_quiet_below (by kernel_rfl) (by kernel_rfl) ?_
    repeat (go_big_quiet_step (exact Calls.regrown_of (cutv_c _ _ _ _)))
    refine wpQuiet_nil ?_
    intro w' hw'
    obtain ⟨rg, rfl⟩ := hw'
    go_wp2_with fail
    go_returns
    exact ⟨ret_b rfl, by (repeat' (first | (with_reducible exact Below.refl _ _) | (with_reducible assumption) | (with_reducible refine Below.alloc ?_ ?_ _) | (with_reducible refine Below.drew ?_) | (with_reducible refine Below.setCell ?_ ?_ _) | (with_reducible refine after ?_ (below_regrown _ _ _)) | (refine after ?_ (by with_reducible assumption)) | go_size))⟩
  · go_enter Try.func26, Try.ntmps26
    go_wp2_with fail
    refine wp_region_quiet_below (by kernel_rfl) (by kernel_rfl) ?_
    repeat (go_big_quiet_step (first | exact Calls.regrown_of (HA.out _ _) | exact Calls.regrown_of (cutv_c _ _ _ _)))
    refine wpQuiet_nil ?_
    intro w' hw'
    obtain ⟨rg, rfl⟩ := hw'
    go_wp2_with fail
    go_returns
    exact ⟨ret_b (by simp), by (repeat' (first | (with_reducible exact Below.refl _ _) | (with_reducible assumption) | (with_reducible refine Below.alloc ?_ ?_ _) | (with_reducible refine Below.drew ?_) | (with_reducible refine Below.setCell ?_ ?_ _) | (with_reducible refine after ?_ (below_regrown _ _ _)) | (refine after ?_ (by with_reducible assumption)) | go_size))⟩
set_option maxHeartbeats 2000000 in
theorem move_c (a b c d e f x y z : Int) (w : World) : Calls Try.prog 21 #[.agg #[.int .i64 a, .int .i64 b, .int .i64 c, .int .i64 d, .int .i64 e, .int .i64 f], .agg #[.int .i64 x, .int .i64 y, .int .i64 z]] w fun r w' => r = .returned (.agg #[.int .i64 (addI a x), .int .i64 (addI b y), .int .i64 (addI c z), .int .i64 (addI d x), .int .i64 (addI e y), .int .i64 (addI f z)]) ∧ Below w.heap.size w w' := by
  have U : Blk (((w.alloc (.cells (bxV a b c d e f) 25)).alloc (.cells #[.int .i64 x, .int .i64 y, .int .i64 z] 23)).alloc (.cells (bxV 0 0 0 0 0 0) 25)) w.heap.size 25 (bxV a b c d e f) := ((Blk.new' rfl).alloc _).alloc _
  have V : Blk (((w.alloc (.cells (bxV a b c d e f) 25)).alloc (.cells #[.int .i64 x, .int .i64 y, .int .i64 z] 23)).alloc (.cells (bxV 0 0 0 0 0 0) 25)) (w.heap.size + 1) 23 #[.int .i64 x, .int .i64 y, .int .i64 z] := (Blk.new' (by simp)).alloc _
  have R0 : Blk (((w.alloc (.cells (bxV a b c d e f) 25)).alloc (.cells #[.int .i64 x, .int .i64 y, .int .i64 z] 23)).alloc (.cells (bxV 0 0 0 0 0 0) 25)) (w.heap.size + 1 + 1) 25 (bxV 0 0 0 0 0 0) := Blk.new' (by simp)
  obtain ⟨k0, k1, k2, k3, k4, k5⟩ := U.re6
  obtain ⟨l0, l1, l2⟩ := V.re3
  go_enter Try.func21, Try.ntmps21
  go_wp2_with fail
  refine wp_region_last_below 9 (by kernel_rfl) rfl (by kernel_rfl) ?_
  simp only [List.take_succ_cons, List.take_zero, List.drop_succ_cons, List.drop_zero]
  repeat (go_big_quiet_step (exact Calls.regrown_of (add_c _ _ _ _ _ _ _)))
  refine wpQuiet_nil ?_
  intro w' hw'
  obtain ⟨rg, rfl⟩ := hw'
  have R := R0.re rg.d rg.os
  obtain ⟨⟨r0, r1, r2, r3, r4, r5⟩, s0, s1, s2, s3, s4, s5⟩ := R.c6
  go_wp2_with fail
  have R2 := R.st6 (.int .i64 (addI a x)) (.int .i64 (addI b y)) (.int .i64 (addI c z)) (.int .i64 (addI d x)) (.int .i64 (addI e y)) (.int .i64 (addI f z))
  obtain ⟨⟨d0, d1, d2, d3, d4, d5⟩, -, -, -, -, -, -⟩ := R2.c6
  exact bodyPost_ret (v := .agg #[.int .i64 (addI a x), .int .i64 (addI b y), .int .i64 (addI c z), .int .i64 (addI d x), .int .i64 (addI e y), .int .i64 (addI f z)]) (by simp [results, Try.results21, go_sem, d0, d1, d2, d3, d4, d5]) rfl ⟨rfl, by (repeat' (first | (with_reducible exact Below.refl _ _) | (with_reducible assumption) | (with_reducible refine Below.alloc ?_ ?_ _) | (with_reducible refine Below.drew ?_) | (with_reducible refine Below.setCell ?_ ?_ _) | (with_reducible refine after ?_ (below_regrown _ _ _)) | (refine after ?_ (by with_reducible assumption)) | go_size))⟩
end Go.Proofs.Ytghdjmckjfblmaa
