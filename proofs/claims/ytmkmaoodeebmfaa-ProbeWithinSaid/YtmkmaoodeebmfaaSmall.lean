/- A small world, opened. -/
import Derived.Test.YtmkmaoodeebmfaaBxs
import Derived.Test.YtmkmaoodeebmfaaProbe2
namespace Go.Proofs.Ytmkmaoodeebmfaa
open Go.ChangeShapes Go.WideShapes Go.ChangeAt Go.RowKit

section
variable {H : Type} {enc : TypeId × Value → H} {P : Program}
def gFields (P : Program) (f0 f1 : Field) (ts ti : TypeId) : Bool := f0.offset == 0 && f1.offset == 1 && (f0.type == ts && f1.type == ti) && (P.cellsOf ts == 1 && P.cellsOf ti == 1)
theorem open_ints {w : World} {base fuel : Nat} {spare : Nat → Bool} {held : Bool} {ts ti : TypeId} {v : Value} {x : DataW H × List MemPlace} (hts : P.underlying ts = some (.slice ti)) (hc : P.cellsOf ti = 1) (hi : P.underlying ti = some (.int .i64))
    (h : DataW.trod enc P w base spare held fuel ts [v] = some x) : ∃ q n c F, v = .slice q n c ∧ n ≤ c ∧ c ≤ maxLen ∧ Iq w q n F ∧ ∀ i, i < n → In64 (F i) := by
  rcases Go.Deep.open_slice1 hts hc h with ⟨hcs, _⟩ | ⟨a, len, cap, m, k, V, D, Pl, hcs, _, hl, hm, hmm, _, hel⟩
  · simp at hcs
    subst hcs
    exact ⟨none, 0, 0, fun _ => 0, rfl, Nat.le_refl _, by decide, fun h => by omega, fun i h => by omega⟩
  · simp at hcs
    subst hcs
    have hlm : len ≤ m := by rw [hmm]; split <;> omega
    obtain ⟨g, o, sp⟩ := a
    have hrd : ∀ i, i < len → ∃ x, w.cell? ((Addr.mk g o sp).add i) = some (.int .i64 x) ∧ In64 x := by
      intro i hi'
      obtain ⟨h1, h2⟩ := hel i (by omega)
      obtain ⟨x, hx, _, wx⟩ := DataW.trod_int hi h2
      simp at hx
      exact ⟨x, by rw [h1, hx], in64_of_wf wx⟩
    refine ⟨some ⟨g, o, sp⟩, len, cap, fun i => intAt w ⟨g, o + i, none⟩, rfl, hl, hm, fun hn => ?_, fun i hi' => ?_⟩
    all_goals
      have hsp : sp = none := by
        obtain ⟨x, hx, _⟩ := hrd 0 (by omega)
        exact cell_spot hx
      subst hsp
      have had : ∀ k, (Addr.mk g o none).add k = ⟨g, o + k, none⟩ := fun k => by
        unfold Addr.add
        by_cases hk : k = 0 <;> simp [hk]
    · refine ⟨g, o, rfl, fun i hi' => ?_⟩
      obtain ⟨x, hx, _⟩ := hrd i hi'
      rw [had] at hx
      show _ = some (Value.int .i64 (intAt w ⟨g, o + i, none⟩))
      rw [hx, intAt_eq hx]
    · obtain ⟨x, hx, hw⟩ := hrd i hi'
      rw [had] at hx
      show In64 (intAt w ⟨g, o + i, none⟩)
      rw [intAt_eq hx]; exact hw
theorem open_world {w : World} {r : Reach} {b0 base : Nat} {spare : Nat → Bool} {held : Bool} {t ts ti : TypeId} {f0 f1 : Field} {v : Value} {d : DataW H} {p : List MemPlace} (hb : P.underlying t = some (.struct #[f0, f1]))
    (hts : P.underlying ts = some (.slice ti)) (hg : gFields P f0 f1 ts ti = true) (hC : P.cellsOf t = 2) (hi : P.underlying ti = some (.int .i64)) (hv : Value.okWide P w r b0 t v) (h : DataW.Trod enc P w base spare held t v d p) :
    ∃ q n c F els, v = .agg #[.slice q n c, .int .i64 els] ∧ n ≤ c ∧ c ≤ maxLen ∧ Iq w q n F ∧ (∀ i, i < n → In64 (F i)) ∧ In64 els := by
  obtain ⟨cs, rfl, hsz⟩ := okWide_struct hb hv
  obtain ⟨fuel, h⟩ := h
  obtain ⟨l⟩ := cs
  have hl : l.length = 2 := hsz.trans hC
  have h2 : DataW.trod enc P w base spare held fuel t l = some (d, p) := by simpa [Value.cells] using h
  simp only [gFields, Bool.and_eq_true, beq_iff_eq] at hg
  obtain ⟨⟨⟨o0, o1⟩, t0, t1⟩, c0, c1⟩ := hg
  obtain ⟨xs, n, _, _, _, hxl, hgg⟩ := DataW.trod_struct hb h2
  match l, hl with
  | [v0, v1], _ =>
    match xs, hxl with
    | [y0, y1], _ =>
      have k0 := hgg 0 f0 rfl
      have k1 := hgg 1 f1 rfl
      rw [o0, t0, c0] at k0
      rw [o1, t1, c1] at k1
      obtain ⟨q, n, c, F, e0, a1, a2, a3, a4⟩ := open_ints (x := y0) hts c1 hi (v := v0) k0
      obtain ⟨els, e1, _, wx⟩ := DataW.trod_int (x := y1) hi k1
      simp at e1
      subst e0 e1
      exact ⟨q, n, c, F, els, rfl, a1, a2, a3, a4, in64_of_wf wx⟩
end
end Go.Proofs.Ytmkmaoodeebmfaa
