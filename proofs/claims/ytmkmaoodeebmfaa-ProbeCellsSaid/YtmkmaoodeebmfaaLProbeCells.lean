/- ProbeCells holds: any box. -/
import Derived.Test.YtmkmaoodeebmfaaColl
import Derived.Test.YtmkmaoodeebmfaaMeet4
import Derived.Test.YtmkmaoodeebmfaaUnder
import Derived.Test.YtmkmaoodeebmfaaUnder2
import Derived.Test.YtmkmaoodeebmfaaSelfs
import Derived.Test.YtmkmaoodeebmfaaShut
import Derived.Test.YtmkmaoodeebmfaaSched2
namespace Go.Proofs.Ytmkmaoodeebmfaa
open Go.ChangeShapes Go.WideShapes Go.ChangeAt Go.RowKit
attribute [local go_sem] Oper.semAt_some

theorem nexts {i n : Nat} (h : i < n) (hn : n ≤ 1000000) : (0 : Int) ≤ i ∧ (i : Int) < n ∧ -9223372036854775808 ≤ (i : Int) + 1 ∧ (i : Int) + 1 ≤ 9223372036854775807 := by omega
set_option maxRecDepth 100000 in
set_option maxHeartbeats 8000000 in
theorem probeCells_c (pa pb pc pd pe pf : Int) (ha : In64 pa) (hb : In64 pb) (hc : In64 pc) (hd : In64 pd) (hee : In64 pe) (hf : In64 pf) (halves : Bool) (w : World) :
    Calls Try.prog 4 #[.agg #[.int .i64 pa, .int .i64 pb, .int .i64 pc, .int .i64 pd, .int .i64 pe, .int .i64 pf], .bool halves] w fun e w' => e = .returned (.bool true) ∧ Below w.heap.size w w' := by
  have HNr := Lib.hid (fun W => near_c pa pb pc pd pe pf halves ha hb hc hd hee hf W)
  have da := near_bd halves pa pd
  have db := near_bd halves pb pe
  have dc := near_bd halves pc pf
  clear ha hb hc hd hee hf
  go_enter Try.func4, Try.ntmps4
  go_upto_region 2 with (go_at_call 11; refine (HNr.out _).mono ?_; rintro e_ w3 ⟨rfl, h3⟩)
  have H0 := after ((Below.refl _ w).alloc (Nat.le_refl _) _) h3
  have hsz := H0.size
  generalize hV : World.alloc w3 _ = W3
  have X : Blk W3 w3.heap.size _ _ := Blk.eqw hV (Blk.new' rfl)
  replace H0 : Below w.heap.size w W3 := by rw [← hV]; exact H0.alloc hsz _
  clear hV h3 hsz
  generalize w3.heap.size = gx at X ⊢
  generalize nearLo (unitI halves) pa = a at da X
  generalize nearLo (unitI halves) pb = b at db X
  generalize nearLo (unitI halves) pc = c' at dc X
  generalize nearHi (unitI halves) pa pd = d at da X
  generalize nearHi (unitI halves) pb pe = e at db X
  generalize nearHi (unitI halves) pc pf = f at dc X
  have B1 : BoxOk a b c' d e f := ⟨by omega, by omega, by omega, by omega, by omega, by omega, by omega, by omega, by omega⟩
  have L1 : (cellsI a b c' d e f).length ≤ 1000000 := cells_len (by omega) (by omega) (by omega) (by omega) (by omega) (by omega)
  have hb1 : -140737488355328 ≤ b := by omega
  have hb2 : b ≤ 140737488355328 := by omega
  have P1 := Lib.hid fun W => pcells_c a b c' d e f B1 L1 W
  have Q1 := Lib.hid fun W => rcells_c a b c' d e f B1 L1 W
  have U1 := Lib.hid fun W => under_c a b c' d e f hb1 hb2 W
  have U2 := Lib.hid fun W => runder_c a b c' d e f hb1 hb2 W
  have HL := Lib.hid L1
  clear B1 L1 hb1 hb2 da db dc HNr
  generalize cutI (b - 1) = b' at U1 U2
  generalize cellsI a b c' d e f = xs at P1 Q1 HL
  obtain ⟨x0, x1, x2, x3, x4, x5⟩ := X.c6.1
  go_upto_region 3 with (go_at_call 21; refine (P1.out _).mono ?_; rintro e_ w4 ⟨v, rfl, V, h4⟩)
  replace X := X.on h4
  replace H0 := after H0 h4
  obtain ⟨q1, c1, rfl, k1, k2, R1, -, -⟩ := V.form len3
  clear V h4 x0 x1 x2 x3 x4 x5 k1 k2
  obtain ⟨x0, x1, x2, x3, x4, x5⟩ := X.c6.1
  go_upto_region 4 with (go_at_call 22; refine (Q1.out _).mono ?_; rintro e_ w5 ⟨v, rfl, V, h5⟩)
  replace X := X.on h5
  replace H0 := after H0 h5
  replace R1 := R1.on h5
  obtain ⟨q2, c2, rfl, k1, k2, R2, -, -⟩ := V.form len3
  clear V h5 x0 x1 x2 x3 x4 x5 k1 k2
  go_upto_region 7 with (fail)
  go_loopw [8] (fun iv wr => ∃ (i : Nat), iv = .int .i64 (i : Nat) ∧ Hid (i ≤ xs.length) ∧ Blk wr gx 28 #[.int .i64 a, .int .i64 b, .int .i64 c', .int .i64 d, .int .i64 e, .int .i64 f] ∧ Rd wr q1 3 enc3 xs ∧ Rd wr q2 3 enc3 xs ∧ Hid (Below w.heap.size w wr)) (fun v _ => xs.length - (intOf v).toNat)
  case atStart => exact ⟨0, rfl, Nat.zero_le _, X, R1, R2, H0⟩
  case round =>
    clear X R1 R2 H0
    obtain ⟨i, rfl, hi, X, R1, R2, H0⟩ := hrel
    have cg := cell_guard
    have cs := cell_ne_self
    have bg := boxg_guard
    have bs := box_eq_self
    by_cases hlt : i < xs.length
    · obtain ⟨x, hx⟩ : ∃ x, xs[i]? = some x := ⟨_, List.getElem?_eq_getElem hlt⟩
      have hlt' : (i : Int) < (xs.length : Int) := by omega
      obtain ⟨g1, o1, rfl, hI1⟩ := R1 (by omega)
      obtain ⟨g2, o2, rfl, hI2⟩ := R2 (by omega)
      have e0 : wr.cell? ⟨g1, o1 + i * 3, none⟩ = some (.int .i64 x.1) := hI1 i x hx 0 _ rfl
      have e1 : wr.cell? ⟨g1, o1 + i * 3 + 1, none⟩ = some (.int .i64 x.2.1) := hI1 i x hx 1 _ rfl
      have e2 : wr.cell? ⟨g1, o1 + i * 3 + 2, none⟩ = some (.int .i64 x.2.2) := hI1 i x hx 2 _ rfl
      have f0 : wr.cell? ⟨g2, o2 + i * 3, none⟩ = some (.int .i64 x.1) := hI2 i x hx 0 _ rfl
      have f1 : wr.cell? ⟨g2, o2 + i * 3 + 1, none⟩ = some (.int .i64 x.2.1) := hI2 i x hx 1 _ rfl
      have f2 : wr.cell? ⟨g2, o2 + i * 3 + 2, none⟩ = some (.int .i64 x.2.2) := hI2 i x hx 2 _ rfl
      obtain ⟨n2, n3, n5, n6⟩ := nexts hlt HL.out
      clear hI1 hI2 hx
      have HH := Lib.hid (And.intro X (And.intro R1 R2))
      clear X R1 R2
      go_upto_region 9 with (fail)
      have e0 := fun d os => cell_regrown e0 d os
      have e1 := fun d os => cell_regrown e1 d os
      have e2 := fun d os => cell_regrown e2 d os
      have f0 := fun d os => cell_regrown f0 d os
      have f1 := fun d os => cell_regrown f1 d os
      have f2 := fun d os => cell_regrown f2 d os
      refine wp_sched [0, 0, 0, 0, 0, 0, 0, 0, 0] (fun _ _ _ => True) (by kernel_rfl) (by kernel_rfl) (fun _ _ _ _ h _ => h) ?_
      repeat (first | (refine wpQs_s ?_) | (refine wpQs_q (fun K hK => ?_); go_simp; first | (refine hK _ ?_; clear hK K) | (apply Exists.intro; refine ⟨fun _ => ?_, hK _ ?_⟩; (fail); clear hK K)) | (refine wpQs_f (fun K hK => ?_); go_simp; refine hK _ ?_; clear hK K))
      refine wpQs_nil ?_
      repeat (first | (refine wpLs_skip ?_) | (refine wpLs_one ?lsA (fun v_ => ?_); case lsA => (intro w_ hw_ hp_; (fail))))
      refine wpLs_nilB ?_
      simp only [tails]
      intro W1 h1 _
      go_wp2_with fail
      go_roundw
      case rel => exact ⟨i + 1, rfl, hlt, HH.out.1.on h1, HH.out.2.1.on h1, HH.out.2.2.on h1, after H0.out h1⟩
      case measure => simp [intOf]; omega
    · have hlt' : ¬ (i : Int) < (xs.length : Int) := by omega
      clear R1 R2
      go_upto_region 11 with (fail)
      obtain ⟨x0, x1, x2, x3, x4, x5⟩ := X.re6
      refine wp_sched [0, 0, 0, 0, 0, 0, 0, 0, 0] (fun _ _ _ => True) (by kernel_rfl) (by kernel_rfl) (fun _ _ _ _ h _ => h) ?_
      repeat (first | (refine wpQs_s ?_) | (refine wpQs_q (fun K hK => ?_); go_simp; first | (refine hK _ ?_; clear hK K) | (apply Exists.intro; refine ⟨fun _ => ?_, hK _ ?_⟩; (first | exact U1.out _ | exact U2.out _ | exact plives_c _); clear hK K)) | (refine wpQs_f (fun K hK => ?_); go_simp; refine hK _ ?_; clear hK K))
      refine wpQs_nil ?_
      repeat (first | (refine wpLs_skip ?_) | (refine wpLs_one ?lsA (fun v_ => ?_); case lsA => (intro w_ hw_ hp_; (fail))))
      refine wpLs_nilB ?_
      simp only [tails]
      intro W1 h1 _
      go_wp2_with fail
      go_returns
      exact ⟨rfl, after H0.out h1⟩

set_option maxRecDepth 100000 in
theorem probeCells_lifted (os : Os) (started : os.Started) (H : Type) (enc : TypeId × Value → H) :
    ReturnsInHanded {} Try.checked os 4 .any (Rows.probeCellsSpec.pre6 enc Try.prog Try.f4 Rows.probeCellsRow.domain false) (Rows.probeCellsSpec.post enc Try.prog Try.f4 false true false false) := by
  refine returnsInHanded_of_change (C := Try.checked) own started (by kernel_rfl) Try.func4
    (ChangeSpec.witness6 (enc := enc) (C := Try.checked) false ⟨#[], #[.agg #[.int .i64 0, .int .i64 0, .int .i64 0, .int .i64 0, .int .i64 0, .int .i64 0], .bool false], []⟩ 8 (by kernel_rfl) (by kernel_rfl) (by kernel_rfl) (by kernel_rfl)) ?_
  intro W base args ds gs before hval0 hW hcnd hsz
  have hval : ∀ (j : Nat) t v, Try.f4.params[j]? = some t → args[j]? = some v → Value.okWide Try.prog W .any base t v := hval0
  have hW' := hW
  obtain ⟨p, q, hA0, hV, rfl, hfz, hnd⟩ := hW
  have hA : DataW.TrodAll enc Try.prog W 0 (fun _ => true) true Try.f4.params.toList args.toList ds p := hA0
  rw [Try.params4] at hA hval
  obtain ⟨v0, vs0, d0, ds0, p_0, q_0, hargs, rfl, rfl, h0, r_0⟩ := trodAll_cons hA
  obtain ⟨v1, vs1, d1, ds1, p_1, q_1, rfl, rfl, rfl, h1, r_1⟩ := trodAll_cons r_0
  obtain ⟨rfl, rfl, rfl⟩ := trodAll_nil r_1
  obtain rfl : args = #[v0, v1] := by cases args; simp_all
  obtain ⟨rfl, rfl⟩ := trodVars_none hV
  obtain ⟨p0, q0, r0, s0, t0, u0, rfl, wp0, wq0, wr0, ws0, wt0, wu0⟩ := open_box Try.underlying28 Try.underlying26 (by kernel_rfl) (by kernel_rfl) (by kernel_rfl) Try.underlying3 (hval 0 28 v0 rfl rfl) h0
  obtain ⟨a1, rfl, rfl, rfl⟩ := open_bool Try.underlying4 (hval 1 4 v1 rfl rfl) h1
  refine (probeCells_c p0 q0 r0 s0 t0 u0 wp0 wq0 wr0 ws0 wt0 wu0 a1 W).mono fun e W' ⟨he, hb⟩ => ?_
  subst he
  exact ⟨_, rfl, law_post laidOut (by kernel_rfl) rfl (by kernel_rfl) Try.underlying4 hW' rfl rfl rfl hb⟩

/-- The statement. -/
theorem probeCells_proved : Rows.ProbeCellsSaid :=
  OpenClaim.holds_of_wide 4 Try.f4 rfl rfl rfl rfl rfl rfl rfl ⟨rfl, rfl, rfl, rfl, rfl⟩ rfl rfl rfl rfl rfl (by kernel_rfl) Try.func4 (by kernel_rfl)
    (of_decide_eq_true (by kernel_rfl)) (by unfold Func.isWrapper; first | (rw [if_pos (by decide +kernel)]; kernel_rfl) | (rw [if_neg (by decide +kernel)]; exact ⟨rfl, rfl⟩))
    (fun os started H enc _ => probeCells_lifted os started H enc)
end Go.Proofs.Ytmkmaoodeebmfaa
