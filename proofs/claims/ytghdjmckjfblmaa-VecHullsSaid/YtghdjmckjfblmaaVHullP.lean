/- The box round others: the plain law. -/
import Derived.Test.YtghdjmckjfblmaaVec3
namespace Go.Proofs.Ytghdjmckjfblmaa
open Go.RowKit

/-- The least, and the greatest, of the first n + 1. -/
def loK (f : Nat → Int) : Nat → Int
  | 0 => f 0
  | n + 1 => mnI (loK f n) (f (n + 1))
def hiK (f : Nat → Int) : Nat → Int
  | 0 => f 0
  | n + 1 => mxI (hiK f n) (f (n + 1))
/-- Those of the first n; 0 of none. -/
def loZ (f : Nat → Int) (n : Nat) : Int := if n = 0 then 0 else loK f (n - 1)
def hiZ (f : Nat → Int) (n : Nat) : Int := if n = 0 then 0 else hiK f (n - 1)
theorem loZ_0 (f : Nat → Int) : loZ f 0 = 0 := rfl
theorem hiZ_0 (f : Nat → Int) : hiZ f 0 = 0 := rfl
theorem loZ_pos {f : Nat → Int} {n : Nat} (h : n ≠ 0) : loZ f n = loK f (n - 1) := by unfold loZ; simp [h]
theorem hiZ_pos {f : Nat → Int} {n : Nat} (h : n ≠ 0) : hiZ f n = hiK f (n - 1) := by unfold hiZ; simp [h]
theorem loZ_succ (f : Nat → Int) (n : Nat) : mnI (loK f (n - 1)) (f n) = loZ f (n + 1) := by
  rw [loZ_pos (by omega)]
  cases n with
  | zero => simp [loK, mnI]
  | succ n => simp [loK]
theorem hiZ_succ (f : Nat → Int) (n : Nat) : mxI (hiK f (n - 1)) (f n) = hiZ f (n + 1) := by
  rw [hiZ_pos (by omega)]
  cases n with
  | zero => simp [hiK, mxI]
  | succ n => simp [hiK]
theorem loK_le (f : Nat → Int) : ∀ n i, i ≤ n → loK f n ≤ f i
  | 0, i, h => by obtain rfl : i = 0 := by omega
                  exact Int.le_refl _
  | n + 1, i, h => by
    have h1 := loK_le f n
    unfold loK mnI
    by_cases hi : i = n + 1
    · subst hi; omega
    · have := h1 i (by omega); omega
theorem le_hiK (f : Nat → Int) : ∀ n i, i ≤ n → f i ≤ hiK f n
  | 0, i, h => by obtain rfl : i = 0 := by omega
                  exact Int.le_refl _
  | n + 1, i, h => by
    have h1 := le_hiK f n
    unfold hiK mxI
    by_cases hi : i = n + 1
    · subst hi; omega
    · have := h1 i (by omega); omega
end Go.Proofs.Ytghdjmckjfblmaa
