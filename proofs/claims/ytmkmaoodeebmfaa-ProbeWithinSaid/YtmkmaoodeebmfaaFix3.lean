/- The walks of the layer 1 (fixed) and of its reference: sums that are checked, whole numbers, quotients, ways toward. -/
import Derived.Test.YtmkmaoodeebmfaaFix2
namespace Go.Proofs.Ytmkmaoodeebmfaa
open Go.RowKit

set_option maxRecDepth 100000 in
set_option maxHeartbeats 400000 in
theorem floor_c (n : Int) (w : World) : Calls Try.prog 89 #[.int .i64 n] w fun e w' => e = .returned (.int .i64 (cutI n / 65536)) ∧ w = w' := by
  have h1 := cutI_lo n
  have h2 := cutI_hi n
  go_enter Try.func89, Try.ntmps89
  go_wp2_with (go_at_call 65; refine (fcut_c _ _).mono ?_; rintro e w1 ⟨rfl, rfl⟩)
  go_returns
  exact ⟨ret_i rfl, rfl⟩
set_option maxRecDepth 100000 in
set_option maxHeartbeats 400000 in
theorem frac_c (n : Int) (w : World) : Calls Try.prog 75 #[.int .i64 n] w fun e w' => e = .returned (.int .i64 (cutI n % 65536)) ∧ w = w' := by
  have h1 := cutI_lo n
  have h2 := cutI_hi n
  go_enter Try.func75, Try.ntmps75
  go_wp2_with (go_at_call 65; refine (fcut_c _ _).mono ?_; rintro e w1 ⟨rfl, rfl⟩)
  go_returns
  exact ⟨ret_i (bits_and_mask _), rfl⟩
theorem quo_rel (X y q : Int) (hy : 0 < y) (_h1 : 0 ≤ q) (h2 : q ≤ 1152921504606846977) (h3 : min q 1152921504606846976 = min (X / y) 1152921504606846976) :
    (2 * (X % y) < y → (2 * X) % y = X % y * 2 ∧ min (min (q * 2) 1152921504606846976) 1152921504606846976 = min ((2 * X) / y) 1152921504606846976) ∧
    (y ≤ 2 * (X % y) → (2 * X) % y = X % y * 2 - y ∧ min (min (q * 2) 1152921504606846976 + 1) 1152921504606846976 = min ((2 * X) / y) 1152921504606846976) := by
  obtain ⟨d1, d2⟩ := dbl X y hy
  refine ⟨fun h => ?_, fun h => ?_⟩
  · rw [if_neg (by omega)] at d1 d2
    omega
  · rw [if_pos (by omega)] at d1 d2
    omega
theorem quo_end (q Q r y : Int) (h0 : 0 ≤ r) (_h1 : r < y) (h2 : min q 1152921504606846976 = min Q 1152921504606846976) (hq : 0 ≤ q) :
    (cutI q = rndI Q (r != 0) false) ∧ (0 < r → cutI (-(q + 1)) = rndI Q (r != 0) true) ∧ (r ≤ 0 → cutI (-q) = rndI Q (r != 0) true) := by
  unfold cutI rndI upI
  refine ⟨by simp; omega, fun h => ?_, fun h => ?_⟩
  · have : (r != 0) = true := by simp; omega
    simp [this]; omega
  · have : (r != 0) = false := by simp; omega
    simp [this]; omega
theorem floor_e (n v : Int) (h : cutI n / 65536 = v) (w : World) : Calls Try.prog 89 #[.int .i64 n] w fun e w' => e = .returned (.int .i64 v) ∧ w = w' := by
  rw [← h]; exact floor_c n w
theorem frac_e (n v : Int) (h : cutI n % 65536 = v) (w : World) : Calls Try.prog 75 #[.int .i64 n] w fun e w' => e = .returned (.int .i64 v) ∧ w = w' := by
  rw [← h]; exact frac_c n w
end Go.Proofs.Ytmkmaoodeebmfaa
