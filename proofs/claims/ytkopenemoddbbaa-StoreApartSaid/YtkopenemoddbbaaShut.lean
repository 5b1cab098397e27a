/- From a walk that says 'true, and only new memory' to the row: the last step, whatever the arguments' make; and the opening of ways and boxes. -/
import Derived.Test.YtkopenemoddbbaaBase
import Derived.Test.YtkopenemoddbbaaRows
import Derived.ProofKit
import Derived.OpenShut
namespace Go.Proofs.Ytkopenemoddbbaa
open Go.ChangeShapes Go.WideShapes Go.ChangeAt Go.RowKit

theorem own : ownKnob Try.prog.godebug = none := by kernel_rfl
theorem laidOut : laidOutB Try.prog = true := by kernel_rfl

section
variable {H : Type} {enc : TypeId × Value → H} {P : Program}
theorem trodAll_below {W W' : World} (hl : laidOutB P = true) (hb : Below W.heap.size W W') :
    ∀ {ts : List TypeId} {vs : List Value} {ds : List (DataW H)} {ps : List MemPlace}, (∀ t ∈ ts, P.readableRec t = true ∧ t < P.types.size) →
      DataW.TrodAll enc P W 0 (fun _ => true) true ts vs ds ps → (∀ x ∈ ps, x.block < W.heap.size) →
      DataW.TrodAll enc P W' 0 (fun b => decide (b < W.heap.size)) true ts vs ds ps := by
  intro ts
  induction ts with
  | nil =>
    intro vs ds ps _ h _
    obtain ⟨rfl, rfl, rfl⟩ := trodAll_nil h
    exact trodAll_mk0
  | cons t ts ih =>
    intro vs ds ps hts h hp
    obtain ⟨v0, vs0, d0, ds0, p0, q0, rfl, rfl, rfl, h0, r0⟩ := trodAll_cons h
    obtain ⟨hr, hrow⟩ := hts t (List.mem_cons_self ..)
    exact trodAll_cons_mk (Below.trod hl hr hrow h0 hb fun x hx => hp x (by simp [hx])) (ih (fun t ht => hts t (List.mem_cons_of_mem _ ht)) r0 fun x hx => hp x (by simp [hx]))

theorem law_post {f : Func} {s : ChangeSpec} {tb : TypeId} {W W' : World} {args : Array Value} {ds gs : List (DataW H)} {before : List MemPlace}
    (hl : laidOutB P = true) (hts : (f.params.toList.all fun t => P.readableRec t && decide (t < P.types.size)) = true) (hvars : s.vars = []) (hrt : f.resultTypes = #[tb]) (htb : P.underlying tb = some .bool)
    (hW : DataW.Whole enc P f.params.toList s.vars false W args.toList ds gs before)
    (hres : (s.fn H (ds ++ gs)).results = [.lit (.bool true)]) (hargs : (s.fn H (ds ++ gs)).args = ds) (hv : (s.fn H (ds ++ gs)).vars = [])
    (hb : Below W.heap.size W W') : s.post enc P f false true false false W args (.bool true) W' := by
  have hlt : ∀ x ∈ before, x.block < W.heap.size := fun x hx => hW.lt x hx
  have hW0 := hW
  obtain ⟨p, q, hA, hV, hpq, hz, hn⟩ := hW
  rw [hvars] at hV
  obtain ⟨rfl, rfl⟩ := trodVars_none hV
  rw [List.append_nil] at hpq
  subst hpq
  refine ⟨ds, [], before, [], before, [], hW0, ?_, ?_, ?_, World.keptBut_mono (fun p hp => ⟨hp, Or.inr (Or.inl hp)⟩) (hb.frame (· ∈ before)), fun h => by cases h⟩
  · rw [hres, hrt]
    exact trodAll_mk1 (shut_bool htb true)
  · rw [hargs]
    refine trodAll_below hl hb (fun t ht => ?_) hA hlt
    have := List.all_eq_true.1 hts t ht
    simpa using this
  · rw [hvars, hv]
    exact rfl

/-! ### ways and boxes, opened -/
def vecFields (P : Program) (f0 f1 f2 : Field) (ti : TypeId) : Bool :=
  (f0.offset == 0 && f1.offset == 1 && f2.offset == 2) && ((f0.type == ti && f1.type == ti && f2.type == ti) && P.cellsOf ti == 1)
def boxFields (P : Program) (f0 f1 : Field) (tv : TypeId) : Bool :=
  (f0.offset == 0 && f1.offset == 3) && ((f0.type == tv && f1.type == tv) && P.cellsOf tv == 3)

theorem trod_vec {w : World} {base fuel : Nat} {spare : Nat → Bool} {held : Bool} {t ti : TypeId} {f0 f1 f2 : Field} {cs : List Value} {x : DataW H × List MemPlace} (hs : P.underlying t = some (.struct #[f0, f1, f2]))
    (hf : vecFields P f0 f1 f2 ti = true) (hi : P.underlying ti = some (.int .i64)) (hl : cs.length = 3) (h : DataW.trod enc P w base spare held fuel t cs = some x) :
    ∃ a b c, cs = [.int .i64 a, .int .i64 b, .int .i64 c] ∧ In64 a ∧ In64 b ∧ In64 c := by
  simp only [vecFields, Bool.and_eq_true, beq_iff_eq] at hf
  obtain ⟨⟨⟨o0, o1⟩, o2⟩, ⟨⟨t0, t1⟩, t2⟩, hc⟩ := hf
  obtain ⟨xs, n, _, _, _, hxl, hg⟩ := DataW.trod_struct hs h
  match cs, hl with
  | [v0, v1, v2], _ =>
    match xs, hxl with
    | [y0, y1, y2], _ =>
      have g0 := hg 0 f0 rfl
      have g1 := hg 1 f1 rfl
      have g2 := hg 2 f2 rfl
      rw [o0, t0, hc] at g0
      rw [o1, t1, hc] at g1
      rw [o2, t2, hc] at g2
      obtain ⟨a, ha, _, wa⟩ := DataW.trod_int (x := y0) hi g0
      obtain ⟨b, hb, _, wb⟩ := DataW.trod_int (x := y1) hi g1
      obtain ⟨c, hc', _, wc⟩ := DataW.trod_int (x := y2) hi g2
      simp at ha hb hc'
      subst ha hb hc'
      exact ⟨a, b, c, rfl, in64_of_wf wa, in64_of_wf wb, in64_of_wf wc⟩

theorem open_vec {w : World} {r : Reach} {b0 base : Nat} {spare : Nat → Bool} {held : Bool} {t ti : TypeId} {f0 f1 f2 : Field} {v : Value} {d : DataW H} {p : List MemPlace} (hs : P.underlying t = some (.struct #[f0, f1, f2]))
    (hf : vecFields P f0 f1 f2 ti = true) (hC : P.cellsOf t = 3) (hi : P.underlying ti = some (.int .i64)) (hv : Value.okWide P w r b0 t v) (h : DataW.Trod enc P w base spare held t v d p) :
    ∃ a b c, v = .agg #[.int .i64 a, .int .i64 b, .int .i64 c] ∧ In64 a ∧ In64 b ∧ In64 c := by
  obtain ⟨cs, rfl, hsz⟩ := okWide_struct hs hv
  obtain ⟨fuel, h⟩ := h
  obtain ⟨l⟩ := cs
  have hl : l.length = 3 := hsz.trans hC
  obtain ⟨a, b, c, hcs, wa, wb, wc⟩ := trod_vec hs hf hi hl (by simpa [Value.cells] using h)
  subst hcs
  exact ⟨a, b, c, rfl, wa, wb, wc⟩

theorem trod_box {w : World} {base fuel : Nat} {spare : Nat → Bool} {held : Bool} {t tv ti : TypeId} {g0 g1 f0 f1 f2 : Field} {cs : List Value} {x : DataW H × List MemPlace} (hb : P.underlying t = some (.struct #[g0, g1]))
    (hs : P.underlying tv = some (.struct #[f0, f1, f2])) (hg : boxFields P g0 g1 tv = true) (hf : vecFields P f0 f1 f2 ti = true) (hi : P.underlying ti = some (.int .i64)) (hl : cs.length = 6) (h : DataW.trod enc P w base spare held fuel t cs = some x) :
    ∃ a b c d e f, cs = [.int .i64 a, .int .i64 b, .int .i64 c, .int .i64 d, .int .i64 e, .int .i64 f] ∧ In64 a ∧ In64 b ∧ In64 c ∧ In64 d ∧ In64 e ∧ In64 f := by
  simp only [boxFields, Bool.and_eq_true, beq_iff_eq] at hg
  obtain ⟨⟨o0, o1⟩, ⟨t0, t1⟩, hc⟩ := hg
  obtain ⟨xs, n, _, _, _, hxl, hgg⟩ := DataW.trod_struct hb h
  match cs, hl with
  | [v0, v1, v2, v3, v4, v5], _ =>
    match xs, hxl with
    | [y0, y1], _ =>
      have k0 := hgg 0 g0 rfl
      have k1 := hgg 1 g1 rfl
      rw [o0, t0, hc] at k0
      rw [o1, t1, hc] at k1
      obtain ⟨a, b, c, e0, wa, wb, wc⟩ := trod_vec (x := y0) hs hf hi rfl k0
      obtain ⟨d, e, f, e1, wd, we, wf⟩ := trod_vec (x := y1) hs hf hi rfl k1
      simp at e0 e1
      obtain ⟨rfl, rfl, rfl⟩ := e0
      obtain ⟨rfl, rfl, rfl⟩ := e1
      exact ⟨a, b, c, d, e, f, rfl, wa, wb, wc, wd, we, wf⟩

theorem open_box {w : World} {r : Reach} {b0 base : Nat} {spare : Nat → Bool} {held : Bool} {t tv ti : TypeId} {g0 g1 f0 f1 f2 : Field} {v : Value} {d : DataW H} {p : List MemPlace} (hb : P.underlying t = some (.struct #[g0, g1]))
    (hs : P.underlying tv = some (.struct #[f0, f1, f2])) (hg : boxFields P g0 g1 tv = true) (hf : vecFields P f0 f1 f2 ti = true) (hC : P.cellsOf t = 6) (hi : P.underlying ti = some (.int .i64)) (hv : Value.okWide P w r b0 t v) (h : DataW.Trod enc P w base spare held t v d p) :
    ∃ a b c d e f, v = .agg #[.int .i64 a, .int .i64 b, .int .i64 c, .int .i64 d, .int .i64 e, .int .i64 f] ∧ In64 a ∧ In64 b ∧ In64 c ∧ In64 d ∧ In64 e ∧ In64 f := by
  obtain ⟨cs, rfl, hsz⟩ := okWide_struct hb hv
  obtain ⟨fuel, h⟩ := h
  obtain ⟨l⟩ := cs
  have hl : l.length = 6 := hsz.trans hC
  obtain ⟨a, b, c, d, e, f, hcs, wa⟩ := trod_box hb hs hg hf hi hl (by simpa [Value.cells] using h)
  subst hcs
  exact ⟨a, b, c, d, e, f, rfl, wa⟩
end
end Go.Proofs.Ytkopenemoddbbaa
