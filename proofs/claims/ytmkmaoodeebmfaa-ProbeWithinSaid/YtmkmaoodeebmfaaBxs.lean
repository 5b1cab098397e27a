/- Boxes in a row: what a slice of boxes reads, and how it is opened. -/
import Derived.Test.YtmkmaoodeebmfaaShut
import Derived.Test.YtmkmaoodeebmfaaNext
import Derived.Test.YtmkmaoodeebmfaaPlain
import Derived.Deep.Slices
namespace Go.Proofs.Ytmkmaoodeebmfaa
open Go.ChangeShapes Go.WideShapes Go.ChangeAt Go.RowKit

/-- From cell o of block g on lie n boxes; number i's number j is F i j. -/
def Bxs (w : World) (g o n : Nat) (F : Nat → Nat → Int) : Prop := ∀ i, i < n → ∀ j, j < 6 → w.cell? ⟨g, o + (i * 6 + j), none⟩ = some (.int .i64 (F i j))
section
variable {w w' : World} {g o n : Nat} {F : Nat → Nat → Int}
theorem Bxs.on (h : Bxs w g o n F) (hb : Below w.heap.size w w') : Bxs w' g o n F := fun i hi j hj => by
  have h1 := h i hi j hj
  rw [cell_below hb (cell_lt h1)]; exact h1
theorem Bxs.far (h : Bxs w g o n F) {p : Addr} (hp : g ≠ p.block) (u : Value) : Bxs (w.setCell p u) g o n F := fun i hi j hj => by
  have h1 := h i hi j hj
  unfold World.cell? at *
  rw [Below.heap_setCell w p u g hp]
  exact h1
theorem Bxs.tail (h : Bxs w g o n F) : Bxs w g (o + 6) (n - 1) (fun i => F (i + 1)) := fun i hi j hj => by
  have h1 := h (i + 1) (by omega) j hj
  rwa [show o + ((i + 1) * 6 + j) = o + 6 + (i * 6 + j) by omega] at h1
theorem Bxs.lt (h : Bxs w g o n F) (hn : 0 < n) : g < w.heap.size := cell_lt (h 0 hn 0 (by omega))
theorem Bxs.at (h : Bxs w g o n F) {i : Nat} (hi : i < n) : w.cell? ⟨g, o + i * 6, none⟩ = some (.int .i64 (F i 0)) ∧ w.cell? ⟨g, o + i * 6 + 1, none⟩ = some (.int .i64 (F i 1)) ∧ w.cell? ⟨g, o + i * 6 + 2, none⟩ = some (.int .i64 (F i 2)) ∧
    w.cell? ⟨g, o + i * 6 + 3, none⟩ = some (.int .i64 (F i 3)) ∧ w.cell? ⟨g, o + i * 6 + 4, none⟩ = some (.int .i64 (F i 4)) ∧ w.cell? ⟨g, o + i * 6 + 5, none⟩ = some (.int .i64 (F i 5)) := by
  have h' := h i hi
  simp only [← Nat.add_assoc] at h'
  exact ⟨h' 0 (by omega), h' 1 (by omega), h' 2 (by omega), h' 3 (by omega), h' 4 (by omega), h' 5 (by omega)⟩
end

def intAt (w : World) (p : Addr) : Int := match w.cell? p with | some (.int .i64 x) => x | _ => 0
theorem intAt_eq {w : World} {p : Addr} {x : Int} (h : w.cell? p = some (.int .i64 x)) : intAt w p = x := by unfold intAt; rw [h]
section
variable {H : Type} {enc : TypeId × Value → H} {P : Program}
theorem open_boxes {w : World} {r : Reach} {b0 base : Nat} {spare : Nat → Bool} {held : Bool} {ts t tv ti : TypeId} {g0 g1 f0 f1 f2 : Field} {v : Value} {d : DataW H} {p : List MemPlace} (hts : P.underlying ts = some (.slice t)) (hb : P.underlying t = some (.struct #[g0, g1]))
    (hs : P.underlying tv = some (.struct #[f0, f1, f2])) (hg : boxFields P g0 g1 tv = true) (hf : vecFields P f0 f1 f2 ti = true) (hC : P.cellsOf t = 6) (hi : P.underlying ti = some (.int .i64)) (hv : Value.okWide P w r b0 ts v) (h : DataW.Trod enc P w base spare held ts v d p) :
    (∃ q cap, v = .slice q 0 cap) ∨ ∃ g o n cap F, v = .slice (some ⟨g, o, none⟩) n cap ∧ 0 < n ∧ n ≤ cap ∧ cap ≤ maxLen ∧ Bxs w g o n F ∧ ∀ i j, i < n → j < 6 → In64 (F i j) := by
  obtain ⟨a1, len1, cap1, rfl⟩ := okWide_slice hts hv
  obtain ⟨fuel, h⟩ := h
  rcases Go.Deep.open_slice hts h with ⟨hcs, _⟩ | ⟨a, len, cap, m, k, D, Pl, hcs, _, hl, hm, hmm, _, hel⟩
  · simp [Value.cells] at hcs
    obtain ⟨rfl, rfl, rfl⟩ := hcs
    exact .inl ⟨_, _, rfl⟩
  · simp [Value.cells] at hcs
    obtain ⟨rfl, rfl, rfl⟩ := hcs
    by_cases hn : len1 = 0
    · subst hn; exact .inl ⟨_, _, rfl⟩
    have hlm : len1 ≤ m := by rw [hmm]; split <;> omega
    obtain ⟨g, o, sp⟩ := a
    rw [hC] at hel
    have hrd : ∀ i, i < len1 → ∀ j, j < 6 → ∃ x, w.cell? ((Addr.mk g o sp).add (i * 6 + j)) = some (.int .i64 x) ∧ In64 x := by
      intro i hi' j hj
      obtain ⟨cs', hc, ht'⟩ := hel i (by omega)
      obtain ⟨_, hcl, hat⟩ := World.cells?_some hc
      obtain ⟨a, b, c, d, e, f, rfl, wa, wb, wc, wd, we, wf⟩ := trod_box hb hs hg hf hi hcl ht'
      have h1 := hat j hj
      rw [Go.Deep.add_add] at h1
      rw [h1]
      match j, hj with
      | 0, _ => exact ⟨a, rfl, wa⟩
      | 1, _ => exact ⟨b, rfl, wb⟩
      | 2, _ => exact ⟨c, rfl, wc⟩
      | 3, _ => exact ⟨d, rfl, wd⟩
      | 4, _ => exact ⟨e, rfl, we⟩
      | 5, _ => exact ⟨f, rfl, wf⟩
    have hsp : sp = none := by
      obtain ⟨x, hx, _⟩ := hrd 0 (by omega) 0 (by omega)
      exact cell_spot hx
    subst hsp
    have had : ∀ k, (Addr.mk g o none).add k = ⟨g, o + k, none⟩ := fun k => by
      unfold Addr.add
      by_cases hk : k = 0 <;> simp [hk]
    refine .inr ⟨g, o, len1, cap1, fun i j => intAt w ⟨g, o + (i * 6 + j), none⟩, rfl, by omega, hl, hm, fun i hi' j hj => ?_, fun i j hi' hj => ?_⟩
    · obtain ⟨x, hx, _⟩ := hrd i hi' j hj
      rw [had] at hx
      show _ = some (Value.int .i64 (intAt w ⟨g, o + (i * 6 + j), none⟩))
      rw [hx, intAt_eq hx]
    · obtain ⟨x, hx, hw⟩ := hrd i hi' j hj
      rw [had] at hx
      show In64 (intAt w ⟨g, o + (i * 6 + j), none⟩)
      rw [intAt_eq hx]; exact hw
end
end Go.Proofs.Ytmkmaoodeebmfaa
