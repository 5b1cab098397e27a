/- Many cells of a block stored one behind the other. No program in sight. -/
import Derived.Test.YtjlgcfdpfalbpaaBase
import Derived.Great.BuildSlice
namespace Go.Proofs.Ytjlgcfdpfalbpaa
open Go.RowKit

def setL : World → Nat → Nat → List Value → World
  | w, _, _, [] => w
  | w, g, i, v :: vs => setL (w.setCell ⟨g, i, none⟩ v) g (i + 1) vs
def setA : Array Value → Nat → List Value → Array Value
  | cs, _, [] => cs
  | cs, i, v :: vs => setA (cs.setIfInBounds i v) (i + 1) vs
section
variable {w w0 : World} {g n : Nat} {t : TypeId}
theorem setL_blk : ∀ (vs : List Value) (i : Nat) (w : World) (cs : Array Value), Blk w g t cs → Blk (setL w g i vs) g t (setA cs i vs) := by
  intro vs
  induction vs with
  | nil => intro i w cs h; exact h
  | cons v vs ih => intro i w cs h; exact ih (i + 1) _ _ (h.set_ i v)
theorem setA_app : ∀ (vs pre rest : List Value), rest.length = vs.length → setA (pre ++ rest).toArray pre.length vs = (pre ++ vs).toArray := by
  intro vs
  induction vs with
  | nil => intro pre rest h; rw [List.length_eq_zero_iff.1 h]; rfl
  | cons v vs ih =>
    intro pre rest h
    match rest, h with
    | r :: rest, h =>
      have e : (pre ++ r :: rest).toArray.setIfInBounds pre.length v = ((pre ++ [v]) ++ rest).toArray := by
        simp
      have k := ih (pre ++ [v]) rest (by simpa using h)
      unfold setA
      rw [e]
      simpa using k
theorem setL_all {cs : Array Value} {vs : List Value} {w : World} (h : Blk w g t cs) (hn : cs.size = vs.length) : Blk (setL w g 0 vs) g t vs.toArray := by
  have := setL_blk vs 0 w cs h
  have e := setA_app vs [] cs.toList (by simpa using hn)
  simp only [List.nil_append, List.length_nil, Array.toArray_toList] at e
  rwa [e] at this
theorem setL_far {g' : Nat} {t' : TypeId} {cs : Array Value} (hne : g' ≠ g) : ∀ (vs : List Value) (i : Nat) (w : World), Blk w g' t' cs → Blk (setL w g i vs) g' t' cs := by
  intro vs
  induction vs with
  | nil => intro i w h; exact h
  | cons v vs ih => intro i w h; exact ih (i + 1) _ (h.far (p := ⟨g, i, none⟩) hne v)
theorem setL_below (hn : n ≤ g) : ∀ (vs : List Value) (i : Nat) (w : World), Below n w0 w → Below n w0 (setL w g i vs) := by
  intro vs
  induction vs with
  | nil => intro i w h; exact h
  | cons v vs ih => intro i w h; exact ih (i + 1) _ (h.setCell (p := ⟨g, i, none⟩) hn v)
/-! ### A block whose cells are all stored at once (wpList_store_rowTo) -/
theorem Blk.row {cs : Array Value} {w : World} (h : Blk w g t cs) (vs : Array Value) : Blk (w.setRow g vs) g t vs := setRow_heap w g cs vs t (0, 0) h
theorem Blk.row_far {g' : Nat} {t' : TypeId} {cs : Array Value} {w : World} (h : Blk w g' t' cs) (hne : g' ≠ g) (vs : Array Value) : Blk (w.setRow g vs) g' t' cs := (setRow_other w g g' vs hne).trans h
theorem below_row {w w0 : World} (h : Below n w0 w) (hn : n ≤ g) (vs : Array Value) : Below n w0 (w.setRow g vs) :=
  ⟨h.os, h.tape, h.output, by rw [setRow_size]; exact h.size, fun b hb => (setRow_other w g b vs (by omega)).trans (h.block b hb)⟩
end
end Go.Proofs.Ytjlgcfdpfalbpaa
