/- Rows behind rows: what append makes of them; parts of rows. No program in sight. -/
import Derived.Test.YtlmjggbpophnfaaRow
namespace Go.Proofs.Ytlmjggbpophnfaa
open Go.RowKit

section
variable {P : Program} {w w' : World} {base n m c : Nat} {e : TypeId} {size : Nat} {α : Type} {enc : α → List Value} {v : Value} {xs ys : List α} {q : Option Addr}
theorem flat_inv (hl : ∀ x, (enc x).length = size) : ∀ (xs : List α) (j : Nat) (u : Value), (xs.flatMap enc)[j]? = some u → ∃ i r x, xs[i]? = some x ∧ (enc x)[r]? = some u ∧ j = i * size + r := by
  intro xs
  induction xs with
  | nil => intro j u h; cases h
  | cons y ys ih =>
    intro j u h
    rw [List.flatMap_cons] at h
    by_cases hj : j < size
    · rw [List.getElem?_append_left (by rw [hl]; exact hj)] at h
      exact ⟨0, j, y, rfl, h, by omega⟩
    · rw [List.getElem?_append_right (by rw [hl]; omega), hl] at h
      obtain ⟨i, r, x, h1, h2, h3⟩ := ih _ _ h
      exact ⟨i + 1, r, x, by simpa using h1, h2, by rw [Nat.succ_mul]; omega⟩
theorem flat_len (hl : ∀ x, (enc x).length = size) : ∀ xs : List α, (xs.flatMap enc).length = xs.length * size := by
  intro xs
  induction xs with
  | nil => simp
  | cons y ys ih => rw [List.flatMap_cons, List.length_append, hl, ih, List.length_cons, Nat.succ_mul]; omega
theorem Rd.take {g o : Nat} (h : Rd w (some ⟨g, o, none⟩) size enc xs) (k : Nat) : Rd w (some ⟨g, o, none⟩) size enc (xs.take k) := fun hn => by
  rw [List.length_take] at hn
  refine ⟨g, o, rfl, fun i x hx j u hu => ?_⟩
  rw [List.getElem?_take] at hx
  split at hx
  · exact h.at hx hu
  · cases hx
theorem Rd.drop {g o : Nat} (h : Rd w (some ⟨g, o, none⟩) size enc xs) (k : Nat) : Rd w (some ⟨g, o + k * size, none⟩) size enc (xs.drop k) := fun hn => by
  refine ⟨g, _, rfl, fun i x hx j u hu => ?_⟩
  rw [List.getElem?_drop] at hx
  have := h.at hx hu
  rw [Nat.add_mul, ← Nat.add_assoc] at this
  exact this
theorem Rd.none {q : Option Addr} : Rd w q size enc ([] : List α) := fun hn => absurd hn (by simp)
/-- Any elements (none, too) behind those that are owned. -/
theorem run_rows {ts ty : TypeId} {z : Value} {bytes : Nat} (ht : P.underlying ts = some (.slice e)) (hi : (P.info? e).map (fun i => (i.zero, i.size, i.bytes)) = some (some z, size, bytes)) (hz : z.cells.size = size) (hs : 0 < size) (hby : 0 < bytes)
    (hl : ∀ x, (enc x).length = size) (h1 : ∀ x ∈ ys, ∀ u ∈ enc x, u.oneCell' = true) (hown : Owns w base e size enc v xs) (hy : ys.length = m) (hmc : m ≤ c) (hG : Rd w q size enc ys) (h47 : (xs.length + m) * bytes ≤ 140737488355328) (hbase : base ≤ w.heap.size) :
    ∃ v' w', (Builtin.append_ #[ts, ts] ty #[v, .slice q m c]).run P w = .ok v' w' ∧ Owns w' base e size enc v' (xs ++ ys) ∧ Below base w w' := by
  subst hy
  obtain ⟨i, hi, hz0, hs0, hb0⟩ := info_parts hi
  have h63 : xs.length + ys.length ≤ maxLen := by
    have : (xs.length + ys.length) * 1 ≤ (xs.length + ys.length) * bytes := Nat.mul_le_mul_left _ hby
    simp only [maxLen]; omega
  by_cases hm : 0 < ys.length
  · obtain ⟨g, o, rfl, hB⟩ := hG hm
    obtain ⟨v', w', h2, h3, h4, _⟩ := run_append_own (P := P) w base ts ty e i z size bytes ht hi hz0 hs0 hb0 hz hs v xs.length (xs.flatMap enc) hown ⟨g, o, none⟩ ys.length c (ys.flatMap enc) (flat_len hl ys) (fun j u hj => by
        obtain ⟨k, r, x, e1, e2, rfl⟩ := flat_inv hl ys j u hj
        have := hB k x e1 r u e2
        unfold Addr.add
        by_cases hk : k * size + r = 0
        · rw [if_pos hk]; rw [show o + k * size + r = o by omega] at this; exact this
        · rw [if_neg hk]; rw [show o + k * size + r = o + (k * size + r) by omega] at this; exact this) (fun u hu => by
        rw [List.mem_flatMap] at hu
        obtain ⟨x, hx, hu⟩ := hu
        exact h1 x hx u hu) h63 h47 hbase
    refine ⟨v', w', h2, ?_, (Below.refl _ _).grown h4 hbase fun k hk => (hown.block k hk).1⟩
    unfold Owns
    rw [List.length_append, List.flatMap_append]
    exact h3
  · obtain rfl : ys = [] := by cases ys with | nil => rfl | cons y ys => simp at hm
    have hsrc : Src P i.size ts (.slice q 0 c) 0 [] w := by
      cases q with
      | none => exact Src.ofNil w ht c
      | some a => exact Src.ofSlice w ht a 0 c [] (by simp) (by simp) (by simp)
    obtain ⟨q', cap', rfl, hc', _⟩ := hown.form hl
    refine ⟨_, w, run_append_nothing w ts ts ty e i ht hi q' _ cap' hc' _ hsrc, ?_, Below.refl _ _⟩
    rw [List.append_nil]
    exact hown
end
end Go.Proofs.Ytlmjggbpophnfaa
