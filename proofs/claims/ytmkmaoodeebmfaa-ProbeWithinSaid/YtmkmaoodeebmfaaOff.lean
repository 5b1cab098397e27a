/- Stores into one block leave the others as they are. -/
import Derived.Test.YtmkmaoodeebmfaaBxs
namespace Go.Proofs.Ytmkmaoodeebmfaa
open Go.RowKit

section
variable {w W' v : World} {g b o n B i0 i1 i2 : Nat} {t : TypeId} {cs : Array Value} {F : Nat → Nat → Int} {x y z r s u : Value}
theorem Blk.off3 (h : Blk w g t cs) (hg : g ≠ b) (hW : W' = ((w.setCell ⟨b, i0, none⟩ x).setCell ⟨b, i1, none⟩ y).setCell ⟨b, i2, none⟩ z) : Blk W' g t cs := by
  rw [hW]; exact ((h.far (p := ⟨b, i0, none⟩) hg _).far (p := ⟨b, i1, none⟩) hg _).far (p := ⟨b, i2, none⟩) hg _
theorem Bxs.off3 (h : Bxs w g o n F) (hg : g ≠ b) (hW : W' = ((w.setCell ⟨b, i0, none⟩ x).setCell ⟨b, i1, none⟩ y).setCell ⟨b, i2, none⟩ z) : Bxs W' g o n F := by
  rw [hW]; exact ((h.far (p := ⟨b, i0, none⟩) hg _).far (p := ⟨b, i1, none⟩) hg _).far (p := ⟨b, i2, none⟩) hg _
theorem off_below3 (h : Below B v w) (hB : B ≤ b) (hW : W' = ((w.setCell ⟨b, i0, none⟩ x).setCell ⟨b, i1, none⟩ y).setCell ⟨b, i2, none⟩ z) : Below B v W' := by
  rw [hW]; exact ((h.setCell (p := ⟨b, i0, none⟩) hB _).setCell (p := ⟨b, i1, none⟩) hB _).setCell (p := ⟨b, i2, none⟩) hB _
theorem Blk.off6 (h : Blk w g t cs) (hg : g ≠ b) (hW : W' = (((((w.setCell ⟨b, 0, none⟩ x).setCell ⟨b, 1, none⟩ y).setCell ⟨b, 2, none⟩ z).setCell ⟨b, 3, none⟩ r).setCell ⟨b, 4, none⟩ s).setCell ⟨b, 5, none⟩ u) : Blk W' g t cs := by
  rw [hW]; exact (((((h.far (p := ⟨b, 0, none⟩) hg _).far (p := ⟨b, 1, none⟩) hg _).far (p := ⟨b, 2, none⟩) hg _).far (p := ⟨b, 3, none⟩) hg _).far (p := ⟨b, 4, none⟩) hg _).far (p := ⟨b, 5, none⟩) hg _
theorem Bxs.off6 (h : Bxs w g o n F) (hg : g ≠ b) (hW : W' = (((((w.setCell ⟨b, 0, none⟩ x).setCell ⟨b, 1, none⟩ y).setCell ⟨b, 2, none⟩ z).setCell ⟨b, 3, none⟩ r).setCell ⟨b, 4, none⟩ s).setCell ⟨b, 5, none⟩ u) : Bxs W' g o n F := by
  rw [hW]; exact (((((h.far (p := ⟨b, 0, none⟩) hg _).far (p := ⟨b, 1, none⟩) hg _).far (p := ⟨b, 2, none⟩) hg _).far (p := ⟨b, 3, none⟩) hg _).far (p := ⟨b, 4, none⟩) hg _).far (p := ⟨b, 5, none⟩) hg _
theorem off_below6 (h : Below B v w) (hB : B ≤ b) (hW : W' = (((((w.setCell ⟨b, 0, none⟩ x).setCell ⟨b, 1, none⟩ y).setCell ⟨b, 2, none⟩ z).setCell ⟨b, 3, none⟩ r).setCell ⟨b, 4, none⟩ s).setCell ⟨b, 5, none⟩ u) : Below B v W' := by
  rw [hW]; exact (((((h.setCell (p := ⟨b, 0, none⟩) hB _).setCell (p := ⟨b, 1, none⟩) hB _).setCell (p := ⟨b, 2, none⟩) hB _).setCell (p := ⟨b, 3, none⟩) hB _).setCell (p := ⟨b, 4, none⟩) hB _).setCell (p := ⟨b, 5, none⟩) hB _
theorem Bxs.re (h : Bxs w g o n F) (d : Nat) (os : Array Obj) : Bxs (Go.Sort.grow (redrawn w d) os) g o n F := h.on (below_regrown w d os)
end
end Go.Proofs.Ytmkmaoodeebmfaa
