/- Rows that a call owns, and rows that are read: the elements of a list, each as its cells. No program in sight. -/
import Derived.Test.YtkopenemoddbbaaNext
import Derived.Lib.AppendZeros
import Derived.Deep.Upon
namespace Go.Proofs.Ytkopenemoddbbaa
open Go.RowKit

section
variable {P : Program} {w w' : World} {base : Nat} {e : TypeId} {size : Nat} {α : Type} {enc : α → List Value} {v : Value} {xs : List α}
/-- v owns a row in a block from base on. -/
def Owns (w : World) (base : Nat) (e : TypeId) (size : Nat) (enc : α → List Value) (v : Value) (xs : List α) : Prop := w.ownsRow base e size v xs.length (xs.flatMap enc)
/-- From q on lie the elements of xs. -/
def Rd (w : World) (q : Option Addr) (size : Nat) (enc : α → List Value) (xs : List α) : Prop :=
  0 < xs.length → ∃ g o, q = some ⟨g, o, none⟩ ∧ ∀ i x, xs[i]? = some x → ∀ j u, (enc x)[j]? = some u → w.cell? ⟨g, o + i * size + j, none⟩ = some u
theorem Rd.on {q : Option Addr} (h : Rd w q size enc xs) (hb : Below w.heap.size w w') : Rd w' q size enc xs := fun hn => by
  obtain ⟨g, o, hq, h1⟩ := h hn
  exact ⟨g, o, hq, fun i x hx j u hu => by rw [cell_below hb (cell_lt (h1 i x hx j u hu))]; exact h1 i x hx j u hu⟩
theorem Rd.at {g o : Nat} (h : Rd w (some ⟨g, o, none⟩) size enc xs) {i : Nat} {x : α} (hx : xs[i]? = some x) {j : Nat} {u : Value} (hu : (enc x)[j]? = some u) : w.cell? ⟨g, o + i * size + j, none⟩ = some u := by
  have hn : 0 < xs.length := by have := (List.getElem?_eq_some_iff.1 hx).1; omega
  obtain ⟨g', o', hq, h1⟩ := h hn
  cases hq
  exact h1 i x hx j u hu
theorem Rd.far {q : Option Addr} (h : Rd w q size enc xs) (hq : ∀ a, q = some a → base ≤ a.block) {p : Addr} (hp : p.block < base) (u : Value) : Rd (w.setCell p u) q size enc xs := fun hn => by
  obtain ⟨g, o, hg, h1⟩ := h hn
  have h2 := hq _ hg
  exact ⟨g, o, hg, fun i x hx j v hv => by
    have h3 := h1 i x hx j v hv
    unfold World.cell? at h3 ⊢
    rw [Below.heap_setCell w p u g (by dsimp only at h2; omega)]
    exact h3⟩
theorem Owns.nil : Owns w base e size enc (.slice none 0 0) ([] : List α) := ⟨by simp, .inl ⟨rfl, rfl⟩⟩
theorem flat_at (hl : ∀ x, (enc x).length = size) : ∀ (xs : List α) (i : Nat) (x : α), xs[i]? = some x → ∀ j u, (enc x)[j]? = some u → (xs.flatMap enc)[i * size + j]? = some u := by
  intro xs
  induction xs with
  | nil => intro i x h; cases h
  | cons y ys ih =>
    intro i x hx j u hu
    rw [List.flatMap_cons]
    have hj : j < size := by rw [← hl x]; exact (List.getElem?_eq_some_iff.1 hu).1
    cases i with
    | zero =>
      obtain rfl : y = x := by simpa using hx
      rw [List.getElem?_append_left (by rw [hl]; omega)]
      simpa using hu
    | succ i =>
      rw [List.getElem?_append_right (by rw [hl, Nat.succ_mul]; omega), hl, show (i + 1) * size + j - size = i * size + j by rw [Nat.succ_mul]; omega]
      exact ih i x (by simpa using hx) j u hu
theorem Owns.form (hl : ∀ x, (enc x).length = size) (h : Owns w base e size enc v xs) : ∃ q cap, v = .slice q xs.length cap ∧ xs.length ≤ cap ∧ cap ≤ maxLen ∧ Rd w q size enc xs ∧ (∀ a, q = some a → base ≤ a.block ∧ a.block < w.heap.size) ∧ (0 < xs.length → ∃ g, q = some ⟨g, 0, none⟩) := by
  rcases h.2 with ⟨hv, h0⟩ | ⟨g, cap, cur, hv, hb, hg, hc, hm, hs, ht⟩
  · exact ⟨none, 0, by rw [hv, h0], by omega, by omega, fun hn => by omega, fun a ha => (by cases ha), fun hn => by omega⟩
  · refine ⟨_, cap, hv, hc, hm, fun _ => ⟨g, 0, rfl, fun i x hx j u hu => ?_⟩, fun a ha => by cases ha; exact ⟨hb, (Array.getElem?_eq_some_iff.1 hg).1⟩, fun _ => ⟨g, rfl⟩⟩
    have h1 := flat_at hl xs i x hx j u hu
    rw [← ht] at h1
    have h2 := (List.getElem?_eq_some_iff.1 h1).1
    rw [List.length_take] at h2
    rw [List.getElem?_take_of_lt (by omega)] at h1
    rw [show 0 + i * size + j = i * size + j by omega]
    have := Blk.cell (w := w) (t := e) (cs := cur) hg (i * size + j)
    rw [this]
    simpa using h1
theorem Owns.on (h : Owns w base e size enc v xs) (hb : Below w.heap.size w w') : Owns w' base e size enc v xs := by
  refine ⟨h.1, ?_⟩
  rcases h.2 with h0 | ⟨g, cap, cur, hv, hbg, hg, r⟩
  · exact .inl h0
  · exact .inr ⟨g, cap, cur, hv, hbg, Blk.on hg hb, r⟩
/-- A store ahead of base leaves it. -/
theorem Owns.far (h : Owns w base e size enc v xs) {p : Addr} (hp : p.block < base) (u : Value) : Owns (w.setCell p u) base e size enc v xs := ownsRow_setCell_below h hp u
theorem Owns.kept (h : Owns w base e size enc v xs) (hk : ∀ g, base ≤ g → g < w.heap.size → w'.heap[g]? = w.heap[g]?) : Owns w' base e size enc v xs := by
  refine ⟨h.1, ?_⟩
  rcases h.2 with h0 | ⟨g, cap, cur, hv, hbg, hg, r⟩
  · exact .inl h0
  · exact .inr ⟨g, cap, cur, hv, hbg, (hk g hbg (Array.getElem?_eq_some_iff.1 hg).1).trans hg, r⟩
theorem Owns.block (h : Owns w base e size enc v xs) : ∀ k, v.ownBlock = some k → base ≤ k ∧ k < w.heap.size := World.ownsRow.lt h
/-- One element behind them. -/
theorem run_push {ts ty : TypeId} {z : Value} {bytes b : Nat} {x : α} (ht : P.underlying ts = some (.slice e)) (hi : (P.info? e).map (fun i => (i.zero, i.size, i.bytes)) = some (some z, size, bytes)) (hz : z.cells.size = size) (hs : 0 < size) (hby : 0 < bytes)
    (hl : (enc x).length = size) (h1 : ∀ u ∈ enc x, u.oneCell' = true) (hown : Owns w base e size enc v xs) (hx : ∀ j u, (enc x)[j]? = some u → w.cell? ⟨b, j, none⟩ = some u) (h47 : (xs.length + 1) * bytes ≤ 140737488355328) (hbase : base ≤ w.heap.size) :
    ∃ v' w', (Builtin.append_ #[ts, ts] ty #[v, .slice (some ⟨b, 0, none⟩) 1 1]).run P w = .ok v' w' ∧ Owns w' base e size enc v' (xs ++ [x]) ∧ w.grownBy w' v.ownBlock ∧ Below base w w' ∧ ∃ g cap, v' = .slice (some ⟨g, 0, none⟩) (xs.length + 1) cap := by
  obtain ⟨i, hi, hz0, hs0, hb0⟩ := info_parts hi
  have h63 : xs.length + 1 ≤ maxLen := by
    have : (xs.length + 1) * 1 ≤ (xs.length + 1) * bytes := Nat.mul_le_mul_left _ hby
    simp only [maxLen]; omega
  obtain ⟨v', w', h2, h3, h4, h5⟩ := run_append_own (P := P) w base ts ty e i z size bytes ht hi hz0 hs0 hb0 hz hs v xs.length (xs.flatMap enc) hown ⟨b, 0, none⟩ 1 1 (enc x) (by rw [hl]; omega) (fun j u hu => by
    have := hx j u hu
    unfold Addr.add
    by_cases hk : j = 0 <;> simp [hk] at this ⊢ <;> exact this) h1 h63 h47 hbase
  refine ⟨v', w', h2, ?_, h4, (Below.refl _ _).grown h4 hbase fun k hk => (hown.block k hk).1, ?_⟩
  · unfold Owns
    rw [List.length_append, List.flatMap_append, List.length_singleton, List.flatMap_singleton]
    exact h3
  · rcases h3.2 with ⟨hv, h0⟩ | ⟨g, cap, _, hv, _⟩
    · omega
    · exact ⟨g, cap, hv⟩
end
/-! ### whole numbers; cells -/
abbrev encI (n : Int) : List Value := [.int .i64 n]
abbrev enc3 (c : Int × Int × Int) : List Value := [.int .i64 c.1, .int .i64 c.2.1, .int .i64 c.2.2]
theorem len3 (c : Int × Int × Int) : (enc3 c).length = 3 := rfl
theorem lenI (n : Int) : (encI n).length = 1 := rfl
end Go.Proofs.Ytkopenemoddbbaa
