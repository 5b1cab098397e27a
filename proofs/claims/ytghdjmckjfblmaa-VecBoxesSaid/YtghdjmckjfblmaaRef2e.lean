/- The walks of the reference of the layer 2: which boxes may be. -/
import Derived.Test.YtghdjmckjfblmaaRef2
namespace Go.Proofs.Ytghdjmckjfblmaa
open Go.RowKit

theorem veqB_comm (a b c d e f : Int) : veqB a b c d e f = veqB d e f a b c := by
  rw [Bool.eq_iff_iff, veqB_iff, veqB_iff]; omega
theorem may_ways (a b c d e f : Int) : (veqB (cutI a) (cutI b) (cutI c) a b c = false ∧ mayI a b c d e f = false) ∨ (veqB (cutI a) (cutI b) (cutI c) a b c = true ∧ veqB (cutI d) (cutI e) (cutI f) d e f = false ∧ mayI a b c d e f = false) ∨
    (veqB (cutI a) (cutI b) (cutI c) a b c = true ∧ veqB (cutI d) (cutI e) (cutI f) d e f = true ∧ decide (a ≤ d) = false ∧ mayI a b c d e f = false) ∨
    (veqB (cutI a) (cutI b) (cutI c) a b c = true ∧ veqB (cutI d) (cutI e) (cutI f) d e f = true ∧ decide (a ≤ d) = true ∧ decide (b ≤ e) = false ∧ mayI a b c d e f = false) ∨
    (veqB (cutI a) (cutI b) (cutI c) a b c = true ∧ veqB (cutI d) (cutI e) (cutI f) d e f = true ∧ decide (a ≤ d) = true ∧ decide (b ≤ e) = true ∧ mayI a b c d e f = decide (c ≤ f)) := by
  unfold mayI
  rw [veqB_comm a b c, veqB_comm d e f]
  cases veqB (cutI a) (cutI b) (cutI c) a b c <;> cases veqB (cutI d) (cutI e) (cutI f) d e f <;> cases decide (a ≤ d) <;> cases decide (b ≤ e) <;> simp
set_option maxHeartbeats 4000000 in
theorem rmay_c (a b c d e f : Int) (w : World) : Calls Try.prog 27 #[.agg #[.int .i64 a, .int .i64 b, .int .i64 c, .int .i64 d, .int .i64 e, .int .i64 f]] w fun r w' => r = .returned (.bool (mayI a b c d e f)) ∧ Below w.heap.size w w' := by
  have ve := vec_eq
  have vg := vec_guard
  have U : Blk (w.alloc (.cells (bxV a b c d e f) 25)) w.heap.size 25 (bxV a b c d e f) := Blk.new' rfl
  obtain ⟨k0, k1, k2, k3, k4, k5⟩ := U.re6
  rcases may_ways a b c d e f with ⟨h1, hm⟩ | ⟨h1, h2, hm⟩ | ⟨h1, h2, h3, hm⟩ | ⟨h1, h2, h3, h4, hm⟩ | ⟨h1, h2, h3, h4, hm⟩
  all_goals
    rw [hm]
    clear hm
    go_enter Try.func27, Try.ntmps27
    go_wp2_with fail
    refine wp_region_quiet_below (by kernel_rfl) (by kernel_rfl) ?_
    repeat (go_big_quiet_step (exact Calls.regrown_of (rcutv_c _ _ _ _)))
    refine wpQuiet_nil ?_
    intro w' hw'
    obtain ⟨rg, rfl⟩ := hw'
    go_wp2_with fail
    go_returns
    exact ⟨ret_b rfl, by (repeat' (first | (with_reducible exact Below.refl _ _) | (with_reducible assumption) | (with_reducible refine Below.alloc ?_ ?_ _) | (with_reducible refine Below.drew ?_) | (with_reducible refine Below.setCell ?_ ?_ _) | (with_reducible refine after ?_ (below_regrown _ _ _)) | (refine after ?_ (by with_reducible assumption)) | go_size))⟩
end Go.Proofs.Ytghdjmckjfblmaa
