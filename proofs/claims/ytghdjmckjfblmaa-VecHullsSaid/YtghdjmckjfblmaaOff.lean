/- Stores into one block leave the others as they are. -/
import Derived.Test.YtghdjmckjfblmaaBxs
namespace Go.Proofs.Ytghdjmckjfblmaa
open Go.RowKit

section
variable {w W' v : World} {g b o n B i0 i1 i2 : Nat} {t : TypeId} {cs : Array Value} {F : Nat → Nat → Int} {x y z r s u : Value}
theorem Blk.off3 (h : Blk w g t cs) (hg : g ≠ b) (hW : W' = ((w.setCell ⟨b, i0, none⟩ x).setCell ⟨b, i1, none⟩ y).setCell ⟨b, i2, none⟩ z) : Blk W' g t cs := by
  rw [hW]; exact ((h.far (p := ⟨b, i0, none⟩) hg _).far (p := ⟨b, i1, none⟩) hg _).far (p := ⟨b, i2, none⟩) hg _
theorem Bxs.off3 (h : Bxs w g o n F) (hg : g ≠ b) (hW : W' = ((w.setCell ⟨b, i0, none⟩ x).setCell ⟨b, i1, none⟩ y).setCell ⟨b, i2, none⟩ z) : Bxs W' g o n F := by
  rw [hW]; exact ((h.far (p := ⟨b, i0, none⟩) hg _).far (p := ⟨b, i1, none⟩) hg _).far (p := ⟨b, i2, none⟩) hg _
theorem off_below3 (h : Below B v w) (hB : B ≤ b) (hW : W' = ((w.setCell ⟨b, i0, none⟩ x).setCell ⟨b, i1, none⟩ y).setCell ⟨b, i2, none⟩ z) : Below B v W' := by
  rw [hW]; exact ((h.setCell (p := ⟨b, i0, none⟩) hB _).setCell (p := ⟨b, i1, none⟩) hB _).setCell (p := ⟨b, i2, none⟩) hB _
theorem Blk.off6 (h : Blk w g t cs) (hg : g ≠ b) (hW : W' = (((((w.setCell ⟨b, 0, none⟩ x).setCell ⟨b, 1, none⟩ y).setCell ⟨b, 2, none⟩ z).setCell ⟨b, 3, none⟩ r).setCell ⟨b, 4, none⟩ s).setCell ⟨b, 5, none⟩ u) : Blk W' g t cs := by
  rw [hW]; exact (((((h.far (p := ⟨b, 0, none⟩) hg _).far (p := ⟨b, 1, none⟩) hg _).far (p := ⟨b, 2, none⟩) hg _).far (p := ⟨b, 3, none⟩) hg _).far (p := ⟨b, 4, none⟩) hg _).far (p := ⟨b, 5, none⟩) hg _
theorem Bxs.off6 (h : Bxs w g o n F) (hg : g ≠ b) (hW : W' = (((((w.setCell ⟨b, 0, none⟩ x).setCell ⟨b, 1, none⟩ y).setCell ⟨b, 2, none⟩ z).setCell ⟨b, 3, none⟩ r).setCell ⟨b, 4, none⟩ s).setCell ⟨b, 5, none⟩ u) : Bxs W' g o n F := by
  rw [hW]; exact (((((h.far (p := ⟨b, 0, none⟩) hg _).far (p := ⟨b, 1, none⟩) hg _).far (p := ⟨b, 2, none⟩) hg _).far (p := ⟨b, 3, none⟩) hg _).far (p := ⟨b, 4, none⟩) hg _).far (p := ⟨b, 5, none⟩) hg _
theorem off_below6 (h : Below B v w) (hB : B ≤ b) (hW : W' = (((((w.setCell ⟨b, 0, none⟩ x).setCell ⟨b, 1, none⟩ y).setCell ⟨b, 2, none⟩ z).setCell ⟨b, 3, none⟩ r).setCell ⟨b, 4, none⟩ s).setCell ⟨b, 5, none⟩ u) : Below B v W' := by
  rw [hW]; exact (((((h.setCell (p := ⟨b, 0, none⟩) hB _).setCell (p := ⟨b, 1, none⟩) hB _).setCell (p := ⟨b, 2, none⟩) hB _).setCell (p := ⟨b, 3, none⟩) hB _).setCell (p := ⟨b, 4, none⟩) hB _).setCell (p := ⟨b, 5, none⟩) hB _
theorem Bxs.re (h : Bxs w g o n F) (d : Nat) (os : Array Obj) : Bxs (Go.Sort.grow (redrawn w d) os) g o n F := h.on (below_regrown w d os)
end
/-! A counter's next number. -/
theorem next64 {n cap k : Nat} (hc : n ≤ cap) (hm : cap ≤ maxLen) (hlt : k < n) : wrap64 ((k : Int) + 1) = k + 1 := by
  have h1 := Nat.le_trans hc hm
  have h2 : maxLen ≤ 9223372036854775807 := by decide
  have h3 := Nat.le_trans h1 h2
  clear hc hm h1 h2
  exact IntWalk.wrap64_in _ (by omega)
theorem next_val {k : Nat} (h : wrap64 ((k : Int) + 1) = k + 1) : Value.int .i64 (wrap64 ((k : Int) + 1)) = .int .i64 ((k + 1 : Nat) : Int) := by rw [h]; rfl
theorem next_less {n k : Nat} (hlt : k < n) (h : wrap64 ((k : Int) + 1) = k + 1) : n - (intOf (.int .i64 (wrap64 ((k : Int) + 1)))).toNat < n - (intOf (.int .i64 k)).toNat := by
  rw [h]; clear h
  show n - ((k : Int) + 1).toNat < n - (k : Int).toNat
  omega
theorem next_less' {n k : Nat} (hlt : k < n) : n - (intOf (.int .i64 ((k : Int) + 1))).toNat < n - (intOf (.int .i64 k)).toNat := by
  show n - ((k : Int) + 1).toNat < n - (k : Int).toNat
  omega
end Go.Proofs.Ytghdjmckjfblmaa
