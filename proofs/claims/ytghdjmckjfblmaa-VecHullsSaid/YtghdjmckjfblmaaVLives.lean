/- The layer's own example (layer 2); boxes that are the same. -/
import Derived.Test.YtghdjmckjfblmaaVec4
import Derived.Deep.Cut
namespace Go.Proofs.Ytghdjmckjfblmaa
open Go.RowKit

/-- Two boxes are the same. -/
def boxB (a b c d e f a' b' c' d' e' f' : Int) : Bool := veqB a b c a' b' c' && veqB d e f d' e' f'
theorem boxB_self (a b c d e f : Int) : boxB a b c d e f a b c d e f = true := by simp [boxB, veqB]
theorem boxB_iff {a b c d e f a' b' c' d' e' f' : Int} : boxB a b c d e f a' b' c' d' e' f' = true ↔ (a = a' ∧ b = b' ∧ c = c') ∧ d = d' ∧ e = e' ∧ f = f' := by simp [boxB, veqB]
theorem box_guard : Try.prog.eqGuardType Try.prog.depth 25 = false := by kernel_rfl
theorem box_eq (a b c d e f a' b' c' d' e' f' : Int) (w : World) : (binOp .eql 25 (.agg #[.int .i64 a, .int .i64 b, .int .i64 c, .int .i64 d, .int .i64 e, .int .i64 f]) (.agg #[.int .i64 a', .int .i64 b', .int .i64 c', .int .i64 d', .int .i64 e', .int .i64 f'])).run Try.prog w = .ok (.bool (boxB a b c d e f a' b' c' d' e' f')) w := by
  rw [run_eql_struct]
  unfold boxB veqB
  simp [go_sem]
  by_cases h1 : a = a' <;> by_cases h2 : b = b' <;> by_cases h3 : c = c' <;> by_cases h4 : d = d' <;> by_cases h5 : e = e' <;> by_cases h6 : f = f' <;> simp [h1, h2, h3, h4, h5, h6]
set_option maxHeartbeats 1000000 in
theorem vlives_c (w : World) : Calls Try.prog 15 #[] w fun e w' => e = .returned (.bool true) ∧ Below w.heap.size w w' := by
  have h1 : overI 0 0 0 5 5 5 5 0 0 9 5 5 = false := by decide
  have h2 : overI 0 0 0 5 5 5 0 0 0 5 5 5 = true := by decide
  go_enter Try.func15, Try.ntmps15
  go_wp2_with fail
  refine (over_c _ _ _ _ _ _ _ _ _ _ _ _ _).mono ?_; rintro e w1 ⟨rfl, hb⟩
  have A0 := (((Blk.new w 25 (bxV 0 0 0 5 5 5)).alloc (.cells (bxV 5 0 0 9 5 5) 25)).on hb)
  obtain ⟨⟨k0, k1, k2, k3, k4, k5⟩, -, -, -, -, -, -⟩ := A0.c6
  go_wp2_with fail
  refine (over_c _ _ _ _ _ _ _ _ _ _ _ _ _).mono ?_; rintro e w2 ⟨rfl, hb2⟩
  go_wp2_with fail
  go_returns
  exact ⟨rfl, by (repeat' (first | (with_reducible exact Below.refl _ _) | (with_reducible assumption) | (with_reducible refine Below.alloc ?_ ?_ _) | (with_reducible refine Below.drew ?_) | (with_reducible refine Below.setCell ?_ ?_ _) | (with_reducible refine after ?_ (below_regrown _ _ _)) | (refine after ?_ (by with_reducible assumption)) | go_size))⟩
end Go.Proofs.Ytghdjmckjfblmaa
