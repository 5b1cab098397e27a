/- The cells of a box, in their row: plain lists. No program in sight. -/
import Derived.Test.YtmkmaoodeebmfaaPlain
namespace Go.Proofs.Ytmkmaoodeebmfaa
open Go.RowKit

/-- Whole numbers from the one to the other. -/
def rowL (lo hi : Int) : List Int := (List.range (hi + 1 - lo).toNat).map fun i : Nat => lo + (i : Int)
theorem rowL_nil {lo hi : Int} (h : hi < lo) : rowL lo hi = [] := by
  unfold rowL
  rw [show (hi + 1 - lo).toNat = 0 by omega]; rfl
theorem rowL_cons {lo hi : Int} (h : lo ≤ hi) : rowL lo hi = lo :: rowL (lo + 1) hi := by
  unfold rowL
  rw [show (hi + 1 - lo).toNat = (hi + 1 - (lo + 1)).toNat + 1 by omega, List.range_succ_eq_map]
  simp only [List.map_cons, List.map_map, Int.ofNat_zero, Int.add_zero]
  congr 1
  apply List.map_congr_left
  intro i _
  simp only [Function.comp_apply, Nat.succ_eq_add_one, Int.natCast_add]
  omega
theorem mem_rowL {lo hi n : Int} : n ∈ rowL lo hi ↔ lo ≤ n ∧ n ≤ hi := by
  unfold rowL
  simp only [List.mem_map, List.mem_range]
  constructor
  · rintro ⟨i, h, rfl⟩; omega
  · rintro ⟨h1, h2⟩; exact ⟨(n - lo).toNat, by omega, by omega⟩
theorem rowL_length (lo hi : Int) : (rowL lo hi).length = (hi + 1 - lo).toNat := by simp [rowL]

abbrev Cl := Int × Int × Int
/-- What is still to come, from a cell on: of its row, of its layer, of all. -/
def rest1 (x0 x1 y1 z0 z1 y : Int) : List Cl := (rowL y y1).flatMap fun y => (rowL z0 z1).flatMap fun z => (rowL x0 x1).map fun x => (x, y, z)
def rest2 (x0 x1 y1 z0 z1 y z : Int) : List Cl := ((rowL z z1).flatMap fun z => (rowL x0 x1).map fun x => (x, y, z)) ++ rest1 x0 x1 y1 z0 z1 (y + 1)
def rest3 (x0 x1 y1 z0 z1 y z x : Int) : List Cl := ((rowL x x1).map fun x => (x, y, z)) ++ rest2 x0 x1 y1 z0 z1 y (z + 1)
section
variable {x0 x1 y1 z0 z1 y z x : Int}
theorem rest1_nil (h : y1 < y) : rest1 x0 x1 y1 z0 z1 y = [] := by unfold rest1; rw [rowL_nil h]; rfl
theorem rest1_cons (h : y ≤ y1) : rest1 x0 x1 y1 z0 z1 y = rest2 x0 x1 y1 z0 z1 y z0 := by
  unfold rest2; rw [rest1, rowL_cons h]; rfl
theorem rest2_nil (h : z1 < z) : rest2 x0 x1 y1 z0 z1 y z = rest1 x0 x1 y1 z0 z1 (y + 1) := by unfold rest2; rw [rowL_nil h]; rfl
theorem rest2_cons (h : z ≤ z1) : rest2 x0 x1 y1 z0 z1 y z = rest3 x0 x1 y1 z0 z1 y z x0 := by
  unfold rest3; rw [rest2, rowL_cons h]; simp [rest2, List.append_assoc]
theorem rest3_nil (h : x1 < x) : rest3 x0 x1 y1 z0 z1 y z x = rest2 x0 x1 y1 z0 z1 y (z + 1) := by unfold rest3; rw [rowL_nil h]; rfl
theorem rest3_cons (h : x ≤ x1) : rest3 x0 x1 y1 z0 z1 y z x = (x, y, z) :: rest3 x0 x1 y1 z0 z1 y z (x + 1) := by
  unfold rest3; rw [rowL_cons h]; rfl
end
theorem drop_cons {α : Type} {xs t : List α} {a : α} {i : Nat} (h : xs.drop i = a :: t) : xs[i]? = some a ∧ xs.drop (i + 1) = t ∧ i < xs.length := by
  refine ⟨?_, ?_, ?_⟩
  · have := List.getElem?_drop (xs := xs) (i := i) (j := 0)
    rw [h] at this
    simpa using this.symm
  · rw [← List.tail_drop, h]; rfl
  · rcases Nat.lt_or_ge i xs.length with h' | h'
    · exact h'
    · rw [List.drop_eq_nil_of_le h'] at h; cases h
theorem drop_nil {α : Type} {xs : List α} {i : Nat} (h : xs.drop i = []) (hi : i ≤ xs.length) : i = xs.length := by
  have := List.drop_eq_nil_iff.1 h; omega
/-- All cells of a block of cells. -/
def boxL (x0 x1 y0 y1 z0 z1 : Int) : List Cl := rest1 x0 x1 y1 z0 z1 y0
theorem mem_boxL {x0 x1 y0 y1 z0 z1 : Int} {c : Cl} : c ∈ boxL x0 x1 y0 y1 z0 z1 ↔ (x0 ≤ c.1 ∧ c.1 ≤ x1) ∧ (y0 ≤ c.2.1 ∧ c.2.1 ≤ y1) ∧ z0 ≤ c.2.2 ∧ c.2.2 ≤ z1 := by
  unfold boxL rest1
  simp only [List.mem_flatMap, List.mem_map, mem_rowL]
  constructor
  · rintro ⟨y, hy, z, hz, x, hx, rfl⟩; exact ⟨hx, hy, hz⟩
  · rintro ⟨hx, hy, hz⟩; exact ⟨_, hy, _, hz, _, hx, rfl⟩
theorem flat_len {α β : Type} (l : List α) (f : α → List β) (k : Nat) (h : ∀ a, (f a).length = k) : (l.flatMap f).length = l.length * k := by
  induction l with
  | nil => simp
  | cons a l ih => simp [List.flatMap_cons, h, ih, Nat.succ_mul, Nat.add_comm]
theorem boxL_length (x0 x1 y0 y1 z0 z1 : Int) : (boxL x0 x1 y0 y1 z0 z1).length = (y1 + 1 - y0).toNat * ((z1 + 1 - z0).toNat * (x1 + 1 - x0).toNat) := by
  unfold boxL rest1
  rw [flat_len _ _ ((z1 + 1 - z0).toNat * (x1 + 1 - x0).toNat), rowL_length]
  intro y
  rw [flat_len _ _ (x1 + 1 - x0).toNat, rowL_length]
  intro z
  simp [rowL_length]
end Go.Proofs.Ytmkmaoodeebmfaa
