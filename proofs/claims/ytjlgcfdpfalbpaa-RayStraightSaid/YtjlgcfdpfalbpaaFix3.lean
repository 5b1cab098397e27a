/- The walks of the layer 1 (fixed) and of its reference: sums that are checked, whole numbers, quotients, ways toward. -/
import Derived.Test.YtjlgcfdpfalbpaaFix2
namespace Go.Proofs.Ytjlgcfdpfalbpaa
open Go.RowKit

set_option maxHeartbeats 400000 in
theorem floor_c (n : Int) (w : World) : Calls Try.prog 63 #[.int .i64 n] w fun e w' => e = .returned (.int .i64 (cutI n / 65536)) ∧ w = w' := by
  have h1 := cutI_lo n
  have h2 := cutI_hi n
  go_enter Try.func63, Try.ntmps63
  go_wp2_with (go_at_call 60; refine (fcut_c _ _).mono ?_; rintro e w1 ⟨rfl, rfl⟩)
  go_returns
  exact ⟨ret_i rfl, rfl⟩
set_option maxHeartbeats 400000 in
theorem frac_c (n : Int) (w : World) : Calls Try.prog 62 #[.int .i64 n] w fun e w' => e = .returned (.int .i64 (cutI n % 65536)) ∧ w = w' := by
  have h1 := cutI_lo n
  have h2 := cutI_hi n
  go_enter Try.func62, Try.ntmps62
  go_wp2_with (go_at_call 60; refine (fcut_c _ _).mono ?_; rintro e w1 ⟨rfl, rfl⟩)
  go_returns
  exact ⟨ret_i (bits_and_mask _), rfl⟩
set_option maxHeartbeats 1000000 in
theorem fdiv_c (a b : Int) (w : World) : Calls Try.prog 46 #[.int .i64 a, .int .i64 b] w fun e w' => (cutI b = 0 → e = .returned (.tuple #[.int .i64 0, .int .i64 1])) ∧ (cutI b ≠ 0 → e = .returned (.tuple #[.int .i64 (quoI a b), .int .i64 0])) ∧ Below w.heap.size w w' := by
  obtain ⟨ax, ay⟩ := absI_bd (cutI_lo a) (cutI_hi a)
  obtain ⟨bx, by_⟩ := absI_bd (cutI_lo b) (cutI_hi b)
  by_cases hb : cutI b = 0
  · have t : (absI (cutI b) == 0) = true := by rw [hb]; decide
    have Hb := Lib.hid hb
    clear hb
    go_enter Try.func46, Try.ntmps46
    go_wp2_with fail
    refine (size_c a _).mono ?_; rintro e w1 ⟨rfl, rfl⟩
    go_wp2_with fail
    refine (size_c b _).mono ?_; rintro e w1 ⟨rfl, rfl⟩
    go_wp2_with fail
    go_returns
    exact ⟨fun _ => rfl, fun h => absurd Hb.out h, Below.refl _ _⟩
  · have t : (absI (cutI b) == 0) = false := by have := absI_pos hb; simp; omega
    have t2 : 0 < absI (cutI b) := absI_pos hb
    have q0 : 0 ≤ absI (cutI a) * 65536 / absI (cutI b) := Int.ediv_nonneg (by omega) (by omega)
    have q1 := Int.ediv_le_self (a := absI (cutI a) * 65536) (absI (cutI b)) (by omega)
    have Hb := Lib.hid hb
    clear hb
    go_enter Try.func46, Try.ntmps46
    go_wp2_with fail
    refine (size_c a _).mono ?_; rintro e w1 ⟨rfl, rfl⟩
    go_wp2_with fail
    refine (size_c b _).mono ?_; rintro e w1 ⟨rfl, rfl⟩
    go_wp2_with fail
    refine wp_region_quiet_below (by kernel_rfl) (by kernel_rfl) ?_
    repeat (go_big_quiet_step (exact Calls.regrown_of (round_c _ _ _ (by omega) (by omega) _)))
    refine wpQuiet_nil ?_
    intro w' hw'
    obtain ⟨p, rfl⟩ := hw'
    have hg := below_regrown w p.d p.os
    go_wp2_with fail
    go_returns
    exact ⟨fun h => absurd h Hb.out, fun _ => ret_t2 (vi rfl) rfl, hg⟩
theorem quo_rel (X y q : Int) (hy : 0 < y) (_h1 : 0 ≤ q) (h2 : q ≤ 1152921504606846977) (h3 : min q 1152921504606846976 = min (X / y) 1152921504606846976) :
    (2 * (X % y) < y → (2 * X) % y = X % y * 2 ∧ min (min (q * 2) 1152921504606846976) 1152921504606846976 = min ((2 * X) / y) 1152921504606846976) ∧
    (y ≤ 2 * (X % y) → (2 * X) % y = X % y * 2 - y ∧ min (min (q * 2) 1152921504606846976 + 1) 1152921504606846976 = min ((2 * X) / y) 1152921504606846976) := by
  obtain ⟨d1, d2⟩ := dbl X y hy
  refine ⟨fun h => ?_, fun h => ?_⟩
  · rw [if_neg (by omega)] at d1 d2
    omega
  · rw [if_pos (by omega)] at d1 d2
    omega
theorem quo_end (q Q r y : Int) (h0 : 0 ≤ r) (_h1 : r < y) (h2 : min q 1152921504606846976 = min Q 1152921504606846976) (hq : 0 ≤ q) :
    (cutI q = rndI Q (r != 0) false) ∧ (0 < r → cutI (-(q + 1)) = rndI Q (r != 0) true) ∧ (r ≤ 0 → cutI (-q) = rndI Q (r != 0) true) := by
  unfold cutI rndI upI
  refine ⟨by simp; omega, fun h => ?_, fun h => ?_⟩
  · have : (r != 0) = true := by simp; omega
    simp [this]; omega
  · have : (r != 0) = false := by simp; omega
    simp [this]; omega
set_option maxHeartbeats 2000000 in
theorem quotient_c (a b : Int) (hb : cutI b ≠ 0) (w : World) : Calls Try.prog 37 #[.int .i64 a, .int .i64 b] w fun e w' => e = .returned (.int .i64 (quoI a b)) ∧ w = w' := by
  have sg : ∀ n : Int, -140737488355328 ≤ n → n ≤ 140737488355328 → (n = absI n ∧ (decide (n < 0) = false)) ∨ (n = -absI n ∧ (decide (n < 0) = true) ∧ 0 < absI n) := by
    intro n _ _
    unfold absI
    by_cases h : n < 0
    · right; simp [h]
    · left; simp [h]
  have a1 := absI_bd (cutI_lo a) (cutI_hi a)
  have b1 := absI_bd (cutI_lo b) (cutI_hi b)
  have b2 := absI_pos hb
  have Ha := Lib.hid (sg _ (cutI_lo a) (cutI_hi a))
  have Hb := Lib.hid (sg _ (cutI_lo b) (cutI_hi b))
  have hq : ∀ n m, decide (cutI a < 0) = n → decide (cutI b < 0) = m → quoI a b = rndI (absI (cutI a) * 65536 / absI (cutI b)) (absI (cutI a) * 65536 % absI (cutI b) != 0) (n != m) := by
    intro n m h1 h2
    rw [← h1, ← h2]; rfl
  have Hq := Lib.hid hq
  clear sg hq hb
  generalize absI (cutI a) = x at *
  generalize absI (cutI b) = y at *
  rcases Ha.out with ⟨hu, sa⟩ | ⟨hu, sa, xp⟩ <;> rcases Hb.out with ⟨hv, sb⟩ | ⟨hv, sb, _⟩
  all_goals
    have HQ := Lib.hid (Hq.out _ _ sa sb)
    rw [hu] at sa
    rw [hv] at sb
    have Hu := Lib.hid hu
    have Hv := Lib.hid hv
    clear hu hv Ha Hb Hq
    have q0 : 0 ≤ x / y := Int.ediv_nonneg (by omega) (by omega)
    have q1 := Int.ediv_le_self (a := x) y (by omega)
    have r0 := Int.emod_nonneg x (show y ≠ 0 by omega)
    have r1 := Int.emod_lt_of_pos x (show 0 < y by omega)
    go_enter Try.func37, Try.ntmps37
    go_wp2_with fail
    refine (rcut_e a _ Hu.out _).mono ?_; rintro e w1 ⟨rfl, rfl⟩
    go_wp2_with fail
    refine (rcut_e b _ Hv.out _).mono ?_; rintro e w1 ⟨rfl, rfl⟩
    go_wp2_with fail
    go_loop [7, 8, 9] (fun q r i => ∃ (k : Nat) (X qq : Int), k ≤ 16 ∧ i = .int .i64 k ∧ X = x * 2 ^ k ∧ r = .int .i64 (X % y) ∧ q = .int .i64 qq ∧ 0 ≤ qq ∧ qq ≤ 1152921504606846977 ∧ min qq 1152921504606846976 = min (X / y) 1152921504606846976) (fun _ _ i => 16 - (intOf i).toNat)
    case atStart => exact ⟨0, x, x / y, by omega, rfl, by simp, rfl, rfl, by omega, by omega, rfl⟩
    case round =>
      obtain ⟨k, X, qq, hk, rfl, hX, rfl, rfl, hq1, hq2, hq3⟩ := hrel
      have s0 := Int.emod_nonneg X (show y ≠ 0 by omega)
      have s1 := Int.emod_lt_of_pos X (show 0 < y by omega)
      have HX := Lib.hid hX
      have HR := Lib.hid (quo_rel X y qq (by omega) hq1 hq2 hq3)
      have H3 := Lib.hid hq3
      clear hX hq3
      by_cases hlt : k < 16
      · by_cases hc : y ≤ X % y * 2 <;> by_cases hm : qq * 2 < 1152921504606846976
        all_goals
          go_wp2_with fail
          go_round
          case rel => first
            | exact ⟨k + 1, 2 * X, _, by omega, by go_num, by rw [HX.out, Int.pow_succ]; rw [Int.mul_comm 2, Int.mul_assoc], congrArg (Value.int .i64) (HR.out.2 (by omega)).1.symm, rfl, by omega, by omega, by have := (HR.out.2 (by omega)).2; omega⟩
            | exact ⟨k + 1, 2 * X, _, by omega, by go_num, by rw [HX.out, Int.pow_succ]; rw [Int.mul_comm 2, Int.mul_assoc], congrArg (Value.int .i64) (HR.out.1 (by omega)).1.symm, rfl, by omega, by omega, by have := (HR.out.1 (by omega)).2; omega⟩
          case measure => simp [intOf]; omega
      · obtain rfl : k = 16 := by omega
        have hX' : X = x * 65536 := by rw [HX.out]; rfl
        have HE := Lib.hid (quo_end qq (X / y) (X % y) y s0 s1 H3.out hq1)
        clear HX HR H3
        subst hX'
        by_cases hc : 0 < x * 65536 % y
        all_goals
          go_wp2_with fail
          refine (rcut_c _ _).mono ?_; rintro e w1 ⟨rfl, rfl⟩
          go_wp2_with fail
          go_returns
          refine ⟨ret_i ?_, rfl⟩
          rw [HQ.out]
          first
            | exact HE.out.1
            | exact HE.out.2.1 hc
            | exact HE.out.2.2 (by omega)
theorem floor_e (n v : Int) (h : cutI n / 65536 = v) (w : World) : Calls Try.prog 63 #[.int .i64 n] w fun e w' => e = .returned (.int .i64 v) ∧ w = w' := by
  rw [← h]; exact floor_c n w
theorem frac_e (n v : Int) (h : cutI n % 65536 = v) (w : World) : Calls Try.prog 62 #[.int .i64 n] w fun e w' => e = .returned (.int .i64 v) ∧ w = w' := by
  rw [← h]; exact frac_c n w
end Go.Proofs.Ytjlgcfdpfalbpaa
