/- The walks of the layer 1 (fixed) and of its reference. -/
import Derived.Test.YtkfedmgodhkfgaaRows
import Derived.Test.YtkfedmgodhkfgaaPlain
import Derived.Lib.Mul64
namespace Go.Proofs.Ytkfedmgodhkfgaa
open Go.RowKit

set_option maxHeartbeats 400000 in
theorem rcut_c (n : Int) (w : World) : Calls Try.prog 13 #[.int .i64 n] w fun e w' => e = .returned (.int .i64 (cutI n)) ∧ w = w' := by
  go_enter Try.func13, Try.ntmps13
  go_wp2
  all_goals (go_returns; exact ⟨ret_i (by unfold cutI; omega), rfl⟩)
set_option maxHeartbeats 400000 in
theorem fcut_c (n : Int) (w : World) : Calls Try.prog 21 #[.int .i64 n] w fun e w' => e = .returned (.int .i64 (cutI n)) ∧ w = w' := by
  go_enter Try.func21, Try.ntmps21
  go_wp2
  all_goals (go_returns; exact ⟨ret_i (by unfold cutI; omega), rfl⟩)
set_option maxHeartbeats 400000 in
theorem fadd_c (a b : Int) (w : World) : Calls Try.prog 22 #[.int .i64 a, .int .i64 b] w fun e w' => e = .returned (.int .i64 (addI a b)) ∧ w = w' := by
  have h1 := cutI_lo a
  have h2 := cutI_hi a
  have h3 := cutI_lo b
  have h4 := cutI_hi b
  go_enter Try.func22, Try.ntmps22
  go_wp2_with (go_at_call 21; refine (fcut_c _ _).mono ?_; rintro e w1 ⟨rfl, rfl⟩)
  go_returns
  exact ⟨ret_i rfl, rfl⟩
set_option maxHeartbeats 400000 in
theorem fsub_c (a b : Int) (w : World) : Calls Try.prog 23 #[.int .i64 a, .int .i64 b] w fun e w' => e = .returned (.int .i64 (subI a b)) ∧ w = w' := by
  have h1 := cutI_lo a
  have h2 := cutI_hi a
  have h3 := cutI_lo b
  have h4 := cutI_hi b
  go_enter Try.func23, Try.ntmps23
  go_wp2_with (go_at_call 21; refine (fcut_c _ _).mono ?_; rintro e w1 ⟨rfl, rfl⟩)
  go_returns
  exact ⟨ret_i rfl, rfl⟩
set_option maxHeartbeats 400000 in
theorem size_c (n : Int) (w : World) : Calls Try.prog 28 #[.int .i64 n] w fun e w' => e = .returned (.tuple #[.int .u64 (absI (cutI n)), .bool (decide (cutI n < 0))]) ∧ w = w' := by
  have h1 := cutI_lo n
  have h2 := cutI_hi n
  go_enter Try.func28, Try.ntmps28
  go_wp2_with (go_at_call 21; refine (fcut_c _ _).mono ?_; rintro e w1 ⟨rfl, rfl⟩)
  all_goals
    go_returns
    exact ⟨ret_t2 (vi (by unfold absI; omega)) (vb (by rw [eq_comm]; simp; omega)), rfl⟩
set_option maxHeartbeats 400000 in
theorem rdiv_c (a b : Int) (h1 : -9223372036854775808 ≤ a) (h2 : a ≤ 9223372036854775807) (hb : 0 < b) (w : World) : Calls Try.prog 31 #[.int .i64 a, .int .i64 b] w fun e w' => e = .returned (.int .i64 (a / b)) ∧ w = w' := by
  have p := Lib.hid (rdiv_p a b h1 h2 hb)
  go_enter Try.func31, Try.ntmps31
  go_wp2
  all_goals
    go_returns
    exact ⟨ret_i (by first | exact p.out.1 (by assumption) | exact p.out.2 (by assumption)), rfl⟩
theorem rcut_e (n v : Int) (h : cutI n = v) (w : World) : Calls Try.prog 13 #[.int .i64 n] w fun e w' => e = .returned (.int .i64 v) ∧ w = w' := by
  rw [← h]; exact rcut_c n w
set_option maxHeartbeats 1000000 in
theorem rmul_0 (a b u v : Int) (hu : cutI a = u) (hv : cutI b = v) (h : u = 0 ∨ u ≠ 0 ∧ v = 0) (w : World) : Calls Try.prog 12 #[.int .i64 a, .int .i64 b] w fun e w' => e = .returned (.int .i64 (mulI a b)) ∧ w = w' := by
  have hm : mulI a b = 0 := by rw [mulI_p (p := 0) (by rw [hu, hv]; rcases h with h | h <;> simp [h])]; decide
  rw [hm]
  clear hm
  rcases h with h | ⟨h, h'⟩
  · subst h
    go_enter Try.func12, Try.ntmps12
    go_wp2_with fail
    refine (rcut_e a 0 hu _).mono ?_; rintro e w1 ⟨rfl, rfl⟩
    go_wp2_with fail
    refine (rcut_c b _).mono ?_; rintro e w1 ⟨rfl, rfl⟩
    clear hu hv
    go_wp2_with fail
    go_returns
    exact ⟨ret_i rfl, rfl⟩
  · subst h'
    have hf : (u == 0) = false := by simpa using h
    go_enter Try.func12, Try.ntmps12
    go_wp2_with fail
    refine (rcut_e a u hu _).mono ?_; rintro e w1 ⟨rfl, rfl⟩
    go_wp2_with fail
    refine (rcut_e b 0 hv _).mono ?_; rintro e w1 ⟨rfl, rfl⟩
    clear hu hv
    go_wp2_with fail
    go_returns
    exact ⟨ret_i rfl, rfl⟩
theorem rdiv_e (a b v : Int) (h1 : -9223372036854775808 ≤ a) (h2 : a ≤ 9223372036854775807) (hb : 0 < b) (h : a / b = v) (w : World) : Calls Try.prog 31 #[.int .i64 a, .int .i64 b] w fun e w' => e = .returned (.int .i64 v) ∧ w = w' := by
  rw [← h]; exact rdiv_c a b h1 h2 hb w
set_option maxHeartbeats 1000000 in
theorem rmul_c (a b : Int) (w : World) : Calls Try.prog 12 #[.int .i64 a, .int .i64 b] w fun e w' => e = .returned (.int .i64 (mulI a b)) ∧ w = w' := by
  rcases sgn_of (cutI_lo a) (cutI_hi a) with ha | ha | ha
  · exact rmul_0 a b _ _ ha rfl (.inl rfl) w
  all_goals
    obtain ⟨x, hu, hx, hx2⟩ := ha
    rcases sgn_of (cutI_lo b) (cutI_hi b) with hb | hb | hb
    · exact rmul_0 a b _ _ hu hb (.inr ⟨by omega, rfl⟩) w
  all_goals
    obtain ⟨y, hv, hy, hy2⟩ := hb
    have hm := mulI_p (a := a) (b := b) (by rw [hu, hv])
    have Hu := Lib.hid hu
    have Hv := Lib.hid hv
    obtain ⟨k1, k2, k3⟩ := mul_p hx hy
    try simp only [Int.neg_mul, Int.mul_neg, Int.neg_neg] at hm
    have Hm := Lib.hid hm
    clear hu hv hm
    have t1 : (x == 0) = false := by simp; omega
    have t2 : (-x == 0) = false := by simp; omega
    have t3 : (y == 0) = false := by simp; omega
    have t4 : (-y == 0) = false := by simp; omega
    have t5 : decide (x < 0) = false := by simp; omega
    have t6 : decide (-x < 0) = true := by simp; omega
    have t7 : decide (y < 0) = false := by simp; omega
    have t8 : decide (-y < 0) = true := by simp; omega
    by_cases hc : x ≤ 9223372036854775807 / y
    · have k4 := k2 hc
      clear k1 k2
      go_enter Try.func12, Try.ntmps12
      go_wp2_with fail
      refine (rcut_e a _ Hu.out _).mono ?_; rintro e w1 ⟨rfl, rfl⟩
      go_wp2_with fail
      refine (rcut_e b _ Hv.out _).mono ?_; rintro e w1 ⟨rfl, rfl⟩
      go_wp2_with fail
      refine (rdiv_c _ _ (by omega) (by omega) (by decide) _).mono ?_; rintro e w1 ⟨rfl, rfl⟩
      go_wp2_with fail
      refine (rcut_c _ _).mono ?_; rintro e w1 ⟨rfl, rfl⟩
      go_wp2_with fail
      go_returns
      exact ⟨ret_i (by rw [Hm.out]), rfl⟩
    · have k4 := k1 (by omega)
      clear k1 k2
      go_enter Try.func12, Try.ntmps12
      go_wp2_with fail
      refine (rcut_e a _ Hu.out _).mono ?_; rintro e w1 ⟨rfl, rfl⟩
      go_wp2_with fail
      refine (rcut_e b _ Hv.out _).mono ?_; rintro e w1 ⟨rfl, rfl⟩
      go_wp2_with fail
      go_returns
      exact ⟨ret_i (by rw [Hm.out]; unfold cutI; omega), rfl⟩
end Go.Proofs.Ytkfedmgodhkfgaa
