/- Deeds in a row: how they are opened. -/
import Derived.Test.YtlmjggbpophnfaaBos
namespace Go.Proofs.Ytlmjggbpophnfaa
open Go.ChangeShapes Go.WideShapes Go.ChangeAt Go.RowKit

abbrev Deed := Int × Int × Int × SL
def Dds (w : World) (q : Option Addr) (n : Nat) (F : Nat → Deed) : Prop := 0 < n → ∃ g o, q = some ⟨g, o, none⟩ ∧ ∀ i, i < n →
  w.cell? ⟨g, o + i * 4, none⟩ = some (.int .i64 (F i).1) ∧ w.cell? ⟨g, o + i * 4 + 1, none⟩ = some (.int .i64 (F i).2.1) ∧ w.cell? ⟨g, o + i * 4 + 2, none⟩ = some (.int .i64 (F i).2.2.1) ∧ w.cell? ⟨g, o + i * 4 + 3, none⟩ = some (slV (F i).2.2.2)
theorem Dds.below {w w' : World} {n : Nat} {q : Option Addr} {F : Nat → Deed} (h : Dds w q n F) (hb : Below w.heap.size w w') : Dds w' q n F := fun hn => by
  obtain ⟨g, o, e, h1⟩ := h hn
  refine ⟨g, o, e, fun i hi => ?_⟩
  obtain ⟨c0, c1, c2, c3⟩ := h1 i hi
  rw [cell_below hb (cell_lt c0), cell_below hb (cell_lt c1), cell_below hb (cell_lt c2), cell_below hb (cell_lt c3)]
  exact ⟨c0, c1, c2, c3⟩
def deedFields (P : Program) (f0 f1 f2 f3 : Field) (ti ts : TypeId) : Bool :=
  ((f0.offset == 0 && f1.offset == 1) && (f2.offset == 2 && f3.offset == 3)) && (((f0.type == ti && f1.type == ti) && (f2.type == ti && f3.type == ts)) && (P.cellsOf ti == 1 && P.cellsOf ts == 1))
section
variable {H : Type} {enc : TypeId × Value → H} {P : Program}
theorem trod_deed {w : World} {base fuel : Nat} {spare : Nat → Bool} {held : Bool} {t ti ts tb : TypeId} {f0 f1 f2 f3 : Field} {cs : List Value} {x : DataW H × List MemPlace} (hs : P.underlying t = some (.struct #[f0, f1, f2, f3]))
    (hf : deedFields P f0 f1 f2 f3 ti ts = true) (hi : P.underlying ti = some (.int .i64)) (hts : P.underlying ts = some (.slice tb)) (hb : P.underlying tb = some (.int .u8)) (hC : P.cellsOf tb = 1) (hl : cs.length = 4) (h : DataW.trod enc P w base spare held fuel t cs = some x) :
    ∃ a b c q n cap F, cs = [.int .i64 a, .int .i64 b, .int .i64 c, .slice q n cap] ∧ In64 a ∧ In64 b ∧ In64 c ∧ n ≤ cap ∧ cap ≤ maxLen ∧ Byq w q n F := by
  simp only [deedFields, Bool.and_eq_true, beq_iff_eq] at hf
  obtain ⟨⟨⟨o0, o1⟩, o2, o3⟩, ⟨⟨t0, t1⟩, t2, t3⟩, hc, hcs⟩ := hf
  obtain ⟨xs, n, _, _, _, hxl, hg⟩ := DataW.trod_struct hs h
  match cs, hl with
  | [v0, v1, v2, v3], _ =>
    match xs, hxl with
    | [y0, y1, y2, y3], _ =>
      have g0 := hg 0 f0 rfl
      have g1 := hg 1 f1 rfl
      have g2 := hg 2 f2 rfl
      have g3 := hg 3 f3 rfl
      rw [o0, t0, hc] at g0
      rw [o1, t1, hc] at g1
      rw [o2, t2, hc] at g2
      rw [o3, t3, hcs] at g3
      obtain ⟨a, ha, _, wa⟩ := DataW.trod_int (x := y0) hi g0
      obtain ⟨b, hb', _, wb⟩ := DataW.trod_int (x := y1) hi g1
      obtain ⟨c, hc', _, wc⟩ := DataW.trod_int (x := y2) hi g2
      obtain ⟨q, m, cap, F, hq, h1, h2, h3⟩ := rd_bytes (x := y3) hts hb hC g3
      simp at ha hb' hc' hq
      subst ha hb' hc' hq
      exact ⟨a, b, c, q, m, cap, F, rfl, in64_of_wf wa, in64_of_wf wb, in64_of_wf wc, h1, h2, h3⟩
def deedAt (w : World) (g o : Nat) : Deed := (intAt' w ⟨g, o, none⟩, intAt' w ⟨g, o + 1, none⟩, intAt' w ⟨g, o + 2, none⟩, slAt w ⟨g, o + 3, none⟩)
where intAt' (w : World) (p : Addr) : Int := match w.cell? p with | some (.int .i64 x) => x | _ => 0
theorem open_deeds {w : World} {r : Reach} {b0 base : Nat} {spare : Nat → Bool} {held : Bool} {tt t ti ts tb : TypeId} {f0 f1 f2 f3 : Field} {v : Value} {d : DataW H} {p : List MemPlace} (htt : P.underlying tt = some (.slice t)) (hs : P.underlying t = some (.struct #[f0, f1, f2, f3]))
    (hf : deedFields P f0 f1 f2 f3 ti ts = true) (hCt : P.cellsOf t = 4) (hi : P.underlying ti = some (.int .i64)) (hts : P.underlying ts = some (.slice tb)) (hb : P.underlying tb = some (.int .u8)) (hC : P.cellsOf tb = 1) (hv : Value.okWide P w r b0 tt v) (h : DataW.Trod enc P w base spare held tt v d p) :
    ∃ q n cap F, v = .slice q n cap ∧ n ≤ cap ∧ cap ≤ maxLen ∧ Dds w q n F ∧ ∀ i, i < n → In64 (F i).1 ∧ In64 (F i).2.1 ∧ In64 (F i).2.2.1 ∧ GoodS w w.heap.size (F i).2.2.2 := by
  obtain ⟨a1, len1, cap1, rfl⟩ := okWide_slice htt hv
  obtain ⟨fuel, h⟩ := h
  rcases Go.Deep.open_slice htt h with ⟨hcs, _⟩ | ⟨a, len, cap, m, k, D, Pl, hcs, _, hl, hm, hmm, _, hel⟩
  · simp [Value.cells] at hcs
    obtain ⟨rfl, rfl, rfl⟩ := hcs
    exact ⟨_, _, _, fun _ => (0, 0, 0, none, 0, 0), rfl, by omega, by omega, fun h => by omega, fun i hi => by omega⟩
  · simp [Value.cells] at hcs
    obtain ⟨rfl, rfl, rfl⟩ := hcs
    by_cases hn : len1 = 0
    · subst hn; exact ⟨_, _, _, fun _ => (0, 0, 0, none, 0, 0), rfl, hl, hm, fun h => by omega, fun i hi => by omega⟩
    have hlm : len1 ≤ m := by rw [hmm]; split <;> omega
    obtain ⟨g, o, sp⟩ := a
    rw [hCt] at hel
    have hrd : ∀ i, i < len1 → ∃ (x y z : Int) (s : SL), w.cell? ((Addr.mk g o sp).add (i * 4)) = some (.int .i64 x) ∧ w.cell? ((Addr.mk g o sp).add (i * 4 + 1)) = some (.int .i64 y) ∧ w.cell? ((Addr.mk g o sp).add (i * 4 + 2)) = some (.int .i64 z) ∧ w.cell? ((Addr.mk g o sp).add (i * 4 + 3)) = some (slV s) ∧ In64 x ∧ In64 y ∧ In64 z ∧ GoodS w w.heap.size s := by
      intro i hi'
      obtain ⟨cs', hc, ht'⟩ := hel i (by omega)
      obtain ⟨_, hcl, hat⟩ := World.cells?_some hc
      obtain ⟨x, y, z, q, n, c, F, rfl, wx, wy, wz, h1, h2, h3⟩ := trod_deed hs hf hi hts hb hC hcl ht'
      have c0 := hat 0 (by omega)
      have c1 := hat 1 (by omega)
      have c2 := hat 2 (by omega)
      have c3 := hat 3 (by omega)
      rw [Go.Deep.add_add] at c0 c1 c2 c3
      refine ⟨x, y, z, (q, n, c), c0, c1, c2, c3, wx, wy, wz, h1, h2, fun h0 => ?_⟩
      obtain ⟨g', o', e', hB⟩ := h3 h0
      exact ⟨g', o', F, e', hB, .inl (hB.lt h0)⟩
    have hsp : sp = none := by
      obtain ⟨x, _, _, _, hx, -⟩ := hrd 0 (by omega)
      exact cell_spot hx
    subst hsp
    have had : ∀ k, (Addr.mk g o none).add k = ⟨g, o + k, none⟩ := fun k => by
      unfold Addr.add
      by_cases hk : k = 0 <;> simp [hk]
    have key : ∀ i, i < len1 → (w.cell? ⟨g, o + i * 4, none⟩ = some (.int .i64 (deedAt w g (o + i * 4)).1) ∧ w.cell? ⟨g, o + i * 4 + 1, none⟩ = some (.int .i64 (deedAt w g (o + i * 4)).2.1) ∧ w.cell? ⟨g, o + i * 4 + 2, none⟩ = some (.int .i64 (deedAt w g (o + i * 4)).2.2.1) ∧ w.cell? ⟨g, o + i * 4 + 3, none⟩ = some (slV (deedAt w g (o + i * 4)).2.2.2)) ∧
        In64 (deedAt w g (o + i * 4)).1 ∧ In64 (deedAt w g (o + i * 4)).2.1 ∧ In64 (deedAt w g (o + i * 4)).2.2.1 ∧ GoodS w w.heap.size (deedAt w g (o + i * 4)).2.2.2 := fun i hi' => by
      obtain ⟨x, y, z, s, c0, c1, c2, c3, wx, wy, wz, hg⟩ := hrd i hi'
      rw [had] at c0 c1 c2 c3
      rw [← Nat.add_assoc] at c1 c2 c3
      have e : deedAt w g (o + i * 4) = (x, y, z, s) := by
        unfold deedAt deedAt.intAt'
        rw [c0, c1, c2, slAt_eq c3]
      rw [e]
      exact ⟨⟨c0, c1, c2, c3⟩, wx, wy, wz, hg⟩
    exact ⟨_, len1, cap1, fun i => deedAt w g (o + i * 4), rfl, hl, hm, fun _ => ⟨g, o, rfl, fun i hi' => (key i hi').1⟩, fun i hi' => (key i hi').2⟩
end
end Go.Proofs.Ytlmjggbpophnfaa
