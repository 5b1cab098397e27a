/- Plain numbers: what the functions of the layers 1 and 2 compute; no program in sight. -/
import Derived.Test.YtkopenemoddbbaaBase
namespace Go.Proofs.Ytkopenemoddbbaa
open Go.RowKit

/-- within the bounds -/
def cutI (n : Int) : Int := min (max n (-140737488355328)) 140737488355328
theorem cutI_lo (n : Int) : -140737488355328 ≤ cutI n := by unfold cutI; omega
theorem cutI_hi (n : Int) : cutI n ≤ 140737488355328 := by unfold cutI; omega
theorem cutI_id {n : Int} (h : -140737488355328 ≤ n) (k : n ≤ 140737488355328) : cutI n = n := by unfold cutI; omega
theorem cutI_cut (n : Int) : cutI (cutI n) = cutI n := by unfold cutI; omega
theorem cutI_mono {a b : Int} (h : a ≤ b) : cutI a ≤ cutI b := by unfold cutI; omega
def addI (a b : Int) : Int := cutI (cutI a + cutI b)
def subI (a b : Int) : Int := cutI (cutI a - cutI b)
/-- a product of fixed numbers, rounded down -/
def mulI (a b : Int) : Int := cutI (cutI a * cutI b / 65536)
/-- brecciaref01.Around -/
def arI (n m : Int) : Int := (if n < 0 then -(n + 1) else n) % m
theorem arI_lo (n : Int) {m : Int} (h : 0 < m) : 0 ≤ arI n m := by unfold arI; exact Int.emod_nonneg _ (by omega)
theorem arI_hi (n : Int) {m : Int} (h : 0 < m) : arI n m < m := by unfold arI; exact Int.emod_lt_of_pos _ h
def towI (n to by_ : Int) : Int := min (max (cutI to) (cutI n - max (cutI by_) 0)) (cutI n + max (cutI by_) 0)
/-- how great a number is -/
def absI (n : Int) : Int := if n < 0 then -n else n
def upI (n : Int) (below rest : Bool) : Int := if below && rest then n + 1 else n
def rndI (q : Int) (rest below : Bool) : Int :=
  if 140737488355328 ≤ q then (if below then -140737488355328 else 140737488355328)
  else if below then -(upI q below rest) else q
theorem upI_bd (n : Int) (b r : Bool) : n ≤ upI n b r ∧ upI n b r ≤ n + 1 := by unfold upI; split <;> omega
/-- a quotient of fixed numbers, rounded down -/
def quoI (a b : Int) : Int := rndI (absI (cutI a) * 65536 / absI (cutI b)) (absI (cutI a) * 65536 % absI (cutI b) != 0) (decide (cutI a < 0) != decide (cutI b < 0))
/-- axis i of a way -/
def axI (x y z i : Int) : Int := if i = 0 then x else if i = 1 then y else if i = 2 then z else 0
/-- axis i of a way of which axis a has got the number n -/
def wiI (x a i n : Int) : Int := if i = a then cutI n else x
theorem ediv_bd (a b : Int) (hb : 0 < b) : b * (a / b) ≤ a ∧ a < b * (a / b) + b := by
  have h1 := Int.mul_ediv_add_emod a b
  have h2 := Int.emod_nonneg a (show b ≠ 0 by omega)
  have h3 := Int.emod_lt_of_pos a hb
  omega
theorem ediv_abs (a b : Int) (hb : 0 < b) (h : 0 ≤ a) : 0 ≤ a / b ∧ a / b ≤ a := by
  refine ⟨Int.ediv_nonneg h (by omega), ?_⟩
  exact Int.ediv_le_self b h
/-- brecciaref01.Div: the quotient that Go gives, made one less where it is too great. -/
theorem rdiv_p (a b : Int) (h1 : -9223372036854775808 ≤ a) (h2 : a ≤ 9223372036854775807) (hb : 0 < b) :
    (a < wrap64 (a.tdiv b * b) → wrap64 (a.tdiv b - 1) = a / b) ∧ (wrap64 (a.tdiv b * b) ≤ a → a.tdiv b = a / b) := by
  have e := ediv_bd a b hb
  rcases Int.le_total 0 a with h | h
  · have e1 : a.tdiv b = a / b := Int.tdiv_eq_ediv_of_nonneg h
    have e2 := ediv_abs a b hb h
    rw [e1]
    have e3 : a / b * b = b * (a / b) := Int.mul_comm _ _
    have e4 : 0 ≤ b * (a / b) := Int.mul_nonneg (by omega) e2.1
    rw [e3, IntWalk.wrap64_in _ (by omega)]
    exact ⟨fun h => by omega, fun _ => rfl⟩
  · have e1 : a.tdiv b = -((-a) / b) := by
      rw [← Int.tdiv_eq_ediv_of_nonneg (show 0 ≤ -a by omega), Int.neg_tdiv, Int.neg_neg]
    have e2 := ediv_abs (-a) b hb (by omega)
    have e5 := ediv_bd (-a) b hb
    rw [e1]
    have e3 : -((-a) / b) * b = -(b * ((-a) / b)) := by rw [Int.neg_mul, Int.mul_comm]
    have e4 : 0 ≤ b * ((-a) / b) := Int.mul_nonneg (by omega) e2.1
    rw [e3, IntWalk.wrap64_in _ (by omega)]
    have key : ∀ q : Int, b * q ≤ a → a < b * q + b → q = a / b := by
      intro q hq hq2
      exact (Int.ediv_eq_iff_of_pos hb).2 ⟨by rw [Int.mul_comm]; exact hq, by rw [Int.mul_comm]; exact hq2⟩ |>.symm
    have e6 : b * (-((-a) / b)) = -(b * ((-a) / b)) := Int.mul_neg _ _
    have e7 : b * (-((-a) / b) - 1) = -(b * ((-a) / b)) - b := by rw [Int.mul_sub, e6, Int.mul_one]
    have e8 : 1 * (-a / b) ≤ b * (-a / b) := Int.mul_le_mul_of_nonneg_right (by omega) e2.1
    refine ⟨fun h => ?_, fun h => ?_⟩
    · rw [IntWalk.wrap64_in _ (by omega)]
      exact key _ (by omega) (by omega)
    · exact key _ (by omega) (by omega)
theorem sgn_of {n : Int} (h : -140737488355328 ≤ n) (k : n ≤ 140737488355328) : n = 0 ∨ (∃ x, n = x ∧ 0 < x ∧ x ≤ 140737488355328) ∨ ∃ x, n = -x ∧ 0 < x ∧ x ≤ 140737488355328 := by
  rcases Int.lt_trichotomy n 0 with h1 | h1 | h1
  · exact .inr (.inr ⟨-n, by omega, by omega, by omega⟩)
  · exact .inl h1
  · exact .inr (.inl ⟨n, rfl, h1, k⟩)
theorem mul_p {x y : Int} (hx : 0 < x) (hy : 0 < y) : (9223372036854775807 / y < x → 9223372036854775807 < x * y) ∧ (x ≤ 9223372036854775807 / y → x * y ≤ 9223372036854775807) ∧ 0 < x * y := by
  refine ⟨fun h => ?_, fun h => ?_, Int.mul_pos hx hy⟩
  · exact (Int.ediv_lt_iff_lt_mul hy).1 h
  · exact (Int.le_ediv_iff_mul_le hy).1 h
theorem mulI_p {a b p : Int} (h : cutI a * cutI b = p) : mulI a b = cutI (p / 65536) := by rw [← h]; rfl
theorem absI_bd {n : Int} (h : -140737488355328 ≤ n) (k : n ≤ 140737488355328) : 0 ≤ absI n ∧ absI n ≤ 140737488355328 := by unfold absI; omega
theorem mul_sgn (u v : Int) : u * v = if (decide (u < 0) != decide (v < 0)) then -(absI u * absI v) else absI u * absI v := by
  unfold absI
  by_cases h1 : u < 0 <;> by_cases h2 : v < 0 <;> simp [h1, h2, Int.neg_mul, Int.mul_neg]
theorem mul_rnd (u v p : Int) (hp : absI u * absI v = p) (h0 : 0 ≤ p) :
    (0 < p / 18446744073709551616 → ∀ r, rndI 140737488355328 r (decide (u < 0) != decide (v < 0)) = cutI (u * v / 65536)) ∧
    (p / 18446744073709551616 ≤ 0 → rndI (p % 18446744073709551616 / 65536) (p % 65536 != 0) (decide (u < 0) != decide (v < 0)) = cutI (u * v / 65536)) := by
  rw [mul_sgn, hp]
  unfold rndI upI cutI
  cases (decide (u < 0) != decide (v < 0)) <;> simp <;> refine ⟨?_, ?_⟩ <;> intros <;> omega
theorem bits_and_mask (n : Int) : bits .and .i64 n 65535 = n % 65536 := by
  show IntKind.i64.wrap ((BitVec.ofInt 64 n &&& BitVec.ofInt 64 65535).toNat : Int) = _
  have e : (BitVec.ofInt 64 65535).toNat = 2 ^ 16 - 1 := by decide
  rw [BitVec.toNat_and, e, Nat.and_two_pow_sub_one_eq_mod, BitVec.toNat_ofInt, IntKind.wrap_i64]
  omega
theorem absI_pos {n : Int} (h : n ≠ 0) : 0 < absI n := by unfold absI; omega
/-- One digit more. -/
theorem dbl (X y : Int) (hy : 0 < y) : (2 * X) / y = 2 * (X / y) + (if y ≤ 2 * (X % y) then 1 else 0) ∧ (2 * X) % y = 2 * (X % y) - (if y ≤ 2 * (X % y) then y else 0) := by
  have h1 := Int.mul_ediv_add_emod X y
  have h2 := Int.emod_nonneg X (show y ≠ 0 by omega)
  have h3 := Int.emod_lt_of_pos X hy
  have h4 := Int.mul_ediv_add_emod (2 * X) y
  have key : ∀ q r : Int, y * q + r = 2 * X → 0 ≤ r → r < y → (2 * X) / y = q ∧ (2 * X) % y = r := by
    intro q r e a b
    have e2 : r + y * q = 2 * X := by omega
    rw [← e2]
    refine ⟨?_, ?_⟩
    · rw [Int.add_mul_ediv_left _ _ (by omega), Int.ediv_eq_zero_of_lt a b]; omega
    · rw [Int.add_mul_emod_self_left, Int.emod_eq_of_lt a b]
  split
  · refine key _ _ ?_ (by omega) (by omega)
    have : y * (2 * (X / y) + 1) = 2 * (y * (X / y)) + y := by rw [Int.mul_add, Int.mul_one, Int.mul_left_comm]
    omega
  · refine key _ _ ?_ (by omega) (by omega)
    have : y * (2 * (X / y) + 0) = 2 * (y * (X / y)) := by rw [Int.add_zero, Int.mul_left_comm]
    omega
end Go.Proofs.Ytkopenemoddbbaa
