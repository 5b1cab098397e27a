/- The walks of the layer 1 (fixed) and of its reference. -/
import Derived.Test.YtmkmaoodeebmfaaRows
import Derived.Test.YtmkmaoodeebmfaaPlain
import Derived.Lib.Mul64
namespace Go.Proofs.Ytmkmaoodeebmfaa
open Go.RowKit

set_option maxRecDepth 100000 in
set_option maxHeartbeats 400000 in
theorem rcut_c (n : Int) (w : World) : Calls Try.prog 51 #[.int .i64 n] w fun e w' => e = .returned (.int .i64 (cutI n)) ∧ w = w' := by
  go_enter Try.func51, Try.ntmps51
  go_wp2
  all_goals (go_returns; exact ⟨ret_i (by unfold cutI; omega), rfl⟩)
set_option maxRecDepth 100000 in
set_option maxHeartbeats 400000 in
theorem fcut_c (n : Int) (w : World) : Calls Try.prog 65 #[.int .i64 n] w fun e w' => e = .returned (.int .i64 (cutI n)) ∧ w = w' := by
  go_enter Try.func65, Try.ntmps65
  go_wp2
  all_goals (go_returns; exact ⟨ret_i (by unfold cutI; omega), rfl⟩)
set_option maxRecDepth 100000 in
set_option maxHeartbeats 400000 in
theorem fadd_c (a b : Int) (w : World) : Calls Try.prog 91 #[.int .i64 a, .int .i64 b] w fun e w' => e = .returned (.int .i64 (addI a b)) ∧ w = w' := by
  have h1 := cutI_lo a
  have h2 := cutI_hi a
  have h3 := cutI_lo b
  have h4 := cutI_hi b
  go_enter Try.func91, Try.ntmps91
  go_wp2_with (go_at_call 65; refine (fcut_c _ _).mono ?_; rintro e w1 ⟨rfl, rfl⟩)
  go_returns
  exact ⟨ret_i rfl, rfl⟩
set_option maxRecDepth 100000 in
set_option maxHeartbeats 400000 in
theorem fsub_c (a b : Int) (w : World) : Calls Try.prog 50 #[.int .i64 a, .int .i64 b] w fun e w' => e = .returned (.int .i64 (subI a b)) ∧ w = w' := by
  have h1 := cutI_lo a
  have h2 := cutI_hi a
  have h3 := cutI_lo b
  have h4 := cutI_hi b
  go_enter Try.func50, Try.ntmps50
  go_wp2_with (go_at_call 65; refine (fcut_c _ _).mono ?_; rintro e w1 ⟨rfl, rfl⟩)
  go_returns
  exact ⟨ret_i rfl, rfl⟩
set_option maxRecDepth 100000 in
set_option maxHeartbeats 400000 in
theorem radd_c (a b : Int) (w : World) : Calls Try.prog 72 #[.int .i64 a, .int .i64 b] w fun e w' => e = .returned (.int .i64 (addI a b)) ∧ w = w' := by
  have h1 := cutI_lo a
  have h2 := cutI_hi a
  have h3 := cutI_lo b
  have h4 := cutI_hi b
  go_enter Try.func72, Try.ntmps72
  go_wp2_with (go_at_call 51; refine (rcut_c _ _).mono ?_; rintro e w1 ⟨rfl, rfl⟩)
  go_returns
  exact ⟨ret_i rfl, rfl⟩
set_option maxRecDepth 100000 in
set_option maxHeartbeats 400000 in
theorem around_c (n m : Int) (hn : -9223372036854775808 ≤ n) (hn2 : n ≤ 9223372036854775807) (hm : 0 < m) (w : World) : Calls Try.prog 29 #[.int .i64 n, .int .i64 m] w fun e w' => e = .returned (.int .i64 (arI n m)) ∧ w = w' := by
  by_cases h : n < 0
  all_goals
    go_enter Try.func29, Try.ntmps29
    go_wp2
    go_returns
    exact ⟨ret_i (by unfold arI; first | rw [if_neg (by omega)] | rw [if_pos h, ← Int.neg_tmod, Int.tmod_eq_emod_of_nonneg (a := -(n + 1)) (b := m) (by omega)]), rfl⟩
set_option maxRecDepth 100000 in
set_option maxHeartbeats 400000 in
theorem rdiv_c (a b : Int) (h1 : -9223372036854775808 ≤ a) (h2 : a ≤ 9223372036854775807) (hb : 0 < b) (w : World) : Calls Try.prog 41 #[.int .i64 a, .int .i64 b] w fun e w' => e = .returned (.int .i64 (a / b)) ∧ w = w' := by
  have p := Lib.hid (rdiv_p a b h1 h2 hb)
  go_enter Try.func41, Try.ntmps41
  go_wp2
  all_goals
    go_returns
    exact ⟨ret_i (by first | exact p.out.1 (by assumption) | exact p.out.2 (by assumption)), rfl⟩
theorem rcut_e (n v : Int) (h : cutI n = v) (w : World) : Calls Try.prog 51 #[.int .i64 n] w fun e w' => e = .returned (.int .i64 v) ∧ w = w' := by
  rw [← h]; exact rcut_c n w
theorem rdiv_e (a b v : Int) (h1 : -9223372036854775808 ≤ a) (h2 : a ≤ 9223372036854775807) (hb : 0 < b) (h : a / b = v) (w : World) : Calls Try.prog 41 #[.int .i64 a, .int .i64 b] w fun e w' => e = .returned (.int .i64 v) ∧ w = w' := by
  rw [← h]; exact rdiv_c a b h1 h2 hb w
