/- A float's fixed number: the plain law. No program in sight. -/
import Derived.Test.YtkfedmgodhkfgaaFloatP
namespace Go.Proofs.Ytkfedmgodhkfgaa
open Go Ieee

def oneB : Nat := 4679240012837945344
def mostB : Nat := 4818851601286430720
def leastB : Nat := 14042223638141206528
def mostI : Int := 140737488355328
theorem mostB_eq : mostB = floatI mostI := by decide +kernel
theorem leastB_eq : leastB = floatI (-mostI) := by decide +kernel
theorem read_one : Ieee.double.read oneB = .number false 4503599627370496 (-36) := by decide +kernel
theorem read_most : Ieee.double.read mostB = .number false 4503599627370496 (-5) := by decide +kernel
theorem read_least : Ieee.double.read leastB = .number true 4503599627370496 (-5) := by decide +kernel
/-- A float's fixed number, and why there is none. -/
def frP (f : Nat) : Int × Int :=
  match Ieee.double.read f with
  | .nan _ _ => (0, 1)
  | .infinity s => (if s then -mostI else mostI, 5)
  | .number _ _ _ =>
    match floatBits .mul .f64 f oneB with
    | none => (0, 1)
    | some x =>
      match Ieee.double.read x with
      | .nan _ _ => (0, 1)
      | .infinity s => (if s then -mostI else mostI, 5)
      | .number s m e =>
        if mostI * unitF < unitsD (.number s m e) then (mostI, 5) else if unitsD (.number s m e) < -mostI * unitF then (-mostI, 5) else (unitsD (.number s m e) / unitF, 0)
theorem word_read_nan {t : Bool} {n : Nat} {x : Nat} (h : Ieee.double.read x = .nan t n) : Ieee.double.order x x = none := by
  unfold Format.order; rw [h]; rfl
theorem word_nn (s : Bool) (R : Nat) (h : R ≤ 2047 * 2 ^ 52) : ¬ ∃ t n, Ieee.double.read (Ieee.double.word s R) = .nan t n := by
  rintro ⟨t, n, hr⟩
  have r2 : Ieee.double.word s R % Ieee.double.signWeight = R := by
    have hs : Ieee.double.signWeight = 2 ^ 63 := by rfl
    unfold Format.word
    rw [hs]
    cases s
    · simp only [Bool.false_eq_true, if_false]; omega
    · simp only [if_true]; omega
  unfold Format.read at hr
  simp only [r2] at hr
  rw [show Ieee.double.binade = 2 ^ 52 by rfl, show Ieee.double.infRung = 2047 * 2 ^ 52 by rfl] at hr
  split at hr
  · cases hr
  · split at hr
    · cases hr
    · rw [if_pos (by omega)] at hr
      cases hr
theorem nearest_nn (s : Bool) (m : Nat) (e : Int) : ¬ ∃ t n, Ieee.double.read (Ieee.double.write (.number s m e)) = .nan t n := by
  show ¬ ∃ t n, Ieee.double.read (Ieee.double.nearest s m e) = .nan t n
  unfold Format.nearest
  split
  · exact word_nn s 0 (by omega)
  · exact word_nn s _ (Nat.min_le_right _ _)
theorem from_ways (f : Nat) :
    (floatBits .mul .f64 f oneB = none ∧ Ieee.double.order f f = none ∧ frP f = (0, 1)) ∨
    (∃ x, floatBits .mul .f64 f oneB = some x ∧ Ieee.double.order f f = some .eq ∧ (Ieee.double.order x mostB == some .gt) = true ∧ frP f = (mostI, 5)) ∨
    (∃ x, floatBits .mul .f64 f oneB = some x ∧ Ieee.double.order f f = some .eq ∧ (Ieee.double.order x mostB == some .gt) = false ∧ (Ieee.double.order x leastB == some .lt) = true ∧ frP f = (-mostI, 5)) ∨
    (∃ x s m e, floatBits .mul .f64 f oneB = some x ∧ Ieee.double.order f f = some .eq ∧ (Ieee.double.order x mostB == some .gt) = false ∧ (Ieee.double.order x leastB == some .lt) = false ∧
      Ieee.double.read x = .number s m e ∧ -1074 ≤ e ∧ (unitsD (Ieee.double.read x) / unitF).natAbs ≤ 140737488355328 ∧ frP f = (unitsD (Ieee.double.read x) / unitF, 0)) := by
  unfold frP
  rcases read_place f with ⟨s, m, e, hf, he⟩ | ⟨s, hf⟩ | ⟨s, t, hf⟩
  · right
    obtain ⟨x, hx, hw⟩ : ∃ x, floatBits .mul .f64 f oneB = some x ∧ ∃ s' m' e', x = Ieee.double.write (.number s' m' e') := by
      refine ⟨Ieee.double.write (.number (s ^^ false) (m * 4503599627370496) (e + -36)), ?_, _, _, _, rfl⟩
      show ((Ieee.double.read f).product (Ieee.double.read oneB)).map Ieee.double.write = _
      rw [hf, read_one]; rfl
    have ho : Ieee.double.order f f = some .eq := by
      unfold Format.order
      rw [hf, order_units _ _ _ _ _ _ he he, cmp_eq]
    rw [hf, hx]
    simp only
    rcases read_place x with ⟨t, n, j, hr, hj⟩ | ⟨t, hr⟩ | ⟨t, n, hr⟩
    · have o1 := order_int' (M := mostI) (by decide) hr hj
      have o2 := order_int' (M := -mostI) (by decide) hr hj
      rw [← mostB_eq] at o1
      rw [← leastB_eq] at o2
      have g1 : (Ieee.double.order x mostB == some .gt) = decide (mostI * unitF < unitsD (Ieee.double.read x)) := by rw [o1, cmp_gt_iff]
      have g2 : (Ieee.double.order x leastB == some .lt) = decide (unitsD (Ieee.double.read x) < -mostI * unitF) := by rw [o2, cmp_lt_iff]
      rw [hr] at g1 g2
      rw [hr]
      simp only
      by_cases h1 : mostI * unitF < unitsD (.number t n j)
      · rw [if_pos h1]
        exact .inl ⟨x, rfl, ho, by rw [g1]; simpa using h1, rfl⟩
      · rw [if_neg h1]
        have g1' : (Ieee.double.order x mostB == some .gt) = false := by rw [g1]; simpa using h1
        by_cases h2 : unitsD (.number t n j) < -mostI * unitF
        · rw [if_pos h2]
          exact .inr (.inl ⟨x, rfl, ho, g1', by rw [g2]; simpa using h2, rfl⟩)
        · rw [if_neg h2]
          refine .inr (.inr ⟨x, t, n, j, rfl, ho, g1', by rw [g2]; simpa using h2, hr, hj, ?_, by rw [hr]⟩)
          rw [hr]
          have hu := unitF_pos
          have l1 : unitsD (.number t n j) / unitF ≤ mostI := by
            have := Int.ediv_le_ediv hu (show unitsD (.number t n j) ≤ mostI * unitF by omega)
            rwa [Int.mul_ediv_cancel _ (by omega)] at this
          have l2 : -mostI ≤ unitsD (.number t n j) / unitF := (Int.le_ediv_iff_mul_le hu).2 (by omega)
          unfold mostI at l1 l2
          omega
    · rw [hr]
      cases t with
      | false => exact .inl ⟨x, rfl, ho, by unfold Format.order; rw [hr, read_most]; rfl, rfl⟩
      | true => exact .inr (.inl ⟨x, rfl, ho, by unfold Format.order; rw [hr, read_most]; rfl, by unfold Format.order; rw [hr, read_least]; rfl, rfl⟩)
    · obtain ⟨s', m', e', rfl⟩ := hw
      exact absurd ⟨t, n, hr⟩ (nearest_nn s' m' e')
  · right
    have hx : floatBits .mul .f64 f oneB = some (Ieee.double.write (.infinity (s ^^ false))) := by
      show ((Ieee.double.read f).product (Ieee.double.read oneB)).map Ieee.double.write = _
      rw [hf, read_one]; rfl
    have ho : Ieee.double.order f f = some .eq := by
      unfold Format.order; rw [hf]; cases s <;> decide
    rw [hf]
    cases s with
    | false => exact .inl ⟨_, hx, ho, by decide +kernel, rfl⟩
    | true => exact .inr (.inl ⟨_, hx, ho, by decide +kernel, by decide +kernel, rfl⟩)
  · left
    refine ⟨?_, word_read_nan hf, by rw [hf]⟩
    show ((Ieee.double.read f).product (Ieee.double.read oneB)).map Ieee.double.write = _
    rw [hf, read_one]; rfl
theorem frP_lo (f : Nat) : -mostI ≤ (frP f).1 ∧ (frP f).1 ≤ mostI := by
  rcases from_ways f with ⟨_, _, h⟩ | ⟨x, _, _, _, h⟩ | ⟨x, _, _, _, _, h⟩ | ⟨x, s, m, e, _, _, _, _, _, _, hb, h⟩
  · rw [h]; decide
  · rw [h]; decide
  · rw [h]; decide
  · rw [h]; unfold mostI; simp only; omega
end Go.Proofs.Ytkfedmgodhkfgaa
