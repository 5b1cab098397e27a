/- What a disk's calls leave alone. -/
import Derived.Test.YtlmjggbpophnfaaDoes2
import Derived.Test.YtlmjggbpophnfaaDds
namespace Go.Proofs.Ytlmjggbpophnfaa
open Go.RowKit Go.Maps

section
variable {w0 w : World} {base d : Nat} {M : Nat → Prop} {L : List Nat} {S : DS}
theorem lst_by (h : DiskIs w0 base M d S) (hL : ∀ b, M b ↔ b ∈ L) {b : Nat} (hb : ByteBlk w0 base b) : b ∉ L := fun hm => by
  have hm := (hL b).2 hm
  rcases hb with hb | ⟨cur, hb⟩
  · have := (h.mine hm).1; omega
  · rcases (h.mine hm).2.2 _ _ hb with e | e <;> revert e <;> decide
theorem lst_blk (h : DiskIs w0 base M d S) (hL : ∀ b, M b ↔ b ∈ L) {b : Nat} {t : TypeId} {cs : Array Value} (hb : Blk w0 b t cs) (ht : t ≠ 57 ∧ t ≠ 62) : b ∉ L := fun hm => by
  rcases (h.mine ((hL b).2 hm)).2.2 _ _ hb with e | e
  · exact ht.1 e
  · exact ht.2 e
theorem lst_good (h : DiskIs w0 base M d S) (hL : ∀ b, M b ↔ b ∈ L) (hw : KeptD L w0 w) {s : SL} (hs : GoodS w0 base s) : GoodS w base s ∧ rdB w s = rdB w0 s := hs.kept hw fun _ hb => lst_by h hL hb
theorem lst_ref (h : DiskIs w0 base M d S) (hL : ∀ b, M b ↔ b ∈ L) (hw : KeptD L w0 w) {v : Value} {S' : DS} (hr : RefIs w0 base v S') : RefIs w base v S' := by
  obtain ⟨a, b, sl, ll, e, hr⟩ := hr
  have hk : ∀ g cur, Blk w0 g 75 cur → Blk w g 75 cur := fun g cur hB => Kept.blk hw (lst_blk h hL hB (by decide)) hB
  obtain ⟨g1, g2⟩ := hr.ga.kept hw fun _ hb => lst_by h hL hb
  obtain ⟨g3, g4⟩ := hr.gb.kept hw fun _ hb => lst_by h hL hb
  exact ⟨a, b, sl, ll, e, hr.ra.kept hk, hr.rb.kept hk, g1, g3, by rw [g2]; exact hr.safe, by rw [g4]; exact hr.l⟩
end
theorem sp_cell {w : World} {D : List Nat} {g o : Nat} {v : Value} (h : w.cell? ⟨g, o, none⟩ = some v) (hg : g ∉ D) (f : Nat → Obj) (d : Nat) (os : Array Obj) : (Go.Sort.grow (redrawn (spoil w D f) d) os).cell? ⟨g, o, none⟩ = some v := by
  have hk := msd_kept (w := w) (D := D) (w' := Go.Sort.grow (redrawn (spoil w D f) d) os) ⟨⟨d, os, f⟩, rfl⟩
  have hl := cell_lt h
  unfold World.cell? at *
  dsimp only at *
  rw [hk.block g hl hg]
  exact h
/-- Ahead of a round: both disks, alike, and the variable of the document's. -/
def SI (w wr : World) (d gr : Nat) (R : Int) (k : Nat) : Prop := ∃ (M : Nat → Prop) (S : DS) (a b : SL), DiskIs wr w.heap.size M d S ∧ DOk S k 20 ∧ S.room = R ∧ Blk wr gr 42 (dv S a b) ∧ RefIs wr w.heap.size (.agg (dv S a b)) S ∧ Below w.heap.size w wr ∧ w.heap.size ≤ wr.heap.size ∧ w.heap.size ≤ gr
end Go.Proofs.Ytlmjggbpophnfaa
