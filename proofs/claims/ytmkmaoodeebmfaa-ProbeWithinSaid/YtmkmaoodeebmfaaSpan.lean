/- The cells of a box along an axis: the plain law; the document's floor. -/
import Derived.Test.YtmkmaoodeebmfaaFix
namespace Go.Proofs.Ytmkmaoodeebmfaa
open Go.RowKit

/-- The least, the greatest cell from n to m along an axis; is nothing there? -/
def lowI (n : Int) : Int := cutI n / 65536
def topI (n m : Int) : Int := if lowI m * 65536 = m ∧ lowI n < lowI m then lowI m - 1 else lowI m
def thinI (n m : Int) : Bool := (n == m) && (lowI n * 65536 == n)
/-- The program's greatest cell is the document's. -/
theorem topI_prog {n m : Int} (h1 : -140737488355328 ≤ n) (h2 : m ≤ 140737488355328) (h : n ≤ m) : (if n = m then lowI n else cutI (cutI m + cutI (-1)) / 65536) = topI n m := by
  unfold topI lowI
  rw [cutI_id h1 (by omega), cutI_id (by omega) h2, cutI_id (n := -1) (by decide) (by decide)]
  by_cases he : n = m
  · subst he; rw [if_pos rfl, if_neg (by omega)]
  · rw [if_neg he, cutI_id (by omega) (by omega)]
    split <;> omega
theorem thinI_prog {n m : Int} (h1 : -140737488355328 ≤ n) (h2 : n ≤ 140737488355328) : ((n == m) && (cutI n % 65536 == 0)) = thinI n m := by
  unfold thinI lowI
  rw [cutI_id h1 h2]
  congr 1
  rw [Bool.eq_iff_iff]
  simp only [beq_iff_eq]
  omega
theorem topI_low {n m : Int} (h1 : -140737488355328 ≤ n) (h2 : m ≤ 140737488355328) (h : n ≤ m) : lowI n ≤ topI n m := by
  unfold topI lowI
  rw [cutI_id h1 (by omega), cutI_id (by omega) h2]
  split <;> omega
theorem rfloor_c (n : Int) (w : World) : Calls Try.prog 62 #[.int .i64 n] w fun r w' => r = .returned (.int .i64 (lowI n)) ∧ w = w' := by
  have h1 := cutI_lo n
  have h2 := cutI_hi n
  go_enter Try.func62, Try.ntmps62
  go_wp2_with fail
  refine (rcut_c _ _).mono ?_; rintro e w1 ⟨rfl, rfl⟩
  go_wp2_with fail
  refine (rdiv_c _ _ (by omega) (by omega) (by decide) _).mono ?_; rintro e w1 ⟨rfl, rfl⟩
  go_wp2_with fail
  go_returns
  exact ⟨ret_i rfl, rfl⟩
theorem thin_c (n m lo hi : Int) (w : World) : Calls Try.prog 76 #[.int .i64 n, .int .i64 m, .int .i64 lo, .int .i64 hi] w fun r w' => r = .returned (.int .i64 (if n = m then lo else hi)) ∧ w = w' := by
  by_cases h : n = m
  · have h' : (n == m) = true := by simpa using h
    rw [if_pos h]
    clear h
    go_enter Try.func76, Try.ntmps76
    go_wp2_with fail
    go_returns
    exact ⟨rfl, rfl⟩
  · have h' : (n == m) = false := by simpa using h
    rw [if_neg h]
    clear h
    go_enter Try.func76, Try.ntmps76
    go_wp2_with fail
    go_returns
    exact ⟨rfl, rfl⟩
end Go.Proofs.Ytmkmaoodeebmfaa
