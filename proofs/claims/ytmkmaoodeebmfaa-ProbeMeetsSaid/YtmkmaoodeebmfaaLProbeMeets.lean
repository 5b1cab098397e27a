/- ProbeMeets holds: any small world, any box. -/
import Derived.Test.YtmkmaoodeebmfaaMeet3
import Derived.Test.YtmkmaoodeebmfaaMeet4
import Derived.Test.YtmkmaoodeebmfaaSmall
namespace Go.Proofs.Ytmkmaoodeebmfaa
open Go.ChangeShapes Go.WideShapes Go.ChangeAt Go.RowKit
attribute [local go_sem] Oper.semAt_some

set_option maxRecDepth 100000 in
set_option maxHeartbeats 8000000 in
theorem probeMeets_c (q : Option Addr) (n c : Nat) (F : Nat → Int) (els : Int) (_ : n ≤ c) (hm : c ≤ maxLen) (hF : ∀ i, i < n → In64 (F i)) (he : In64 els) (pa pb pc pd pe pf : Int) (ha : In64 pa) (hb : In64 pb) (hc : In64 pc) (hd : In64 pd) (hee : In64 pe) (hf : In64 pf) (halves : Bool) (w : World) (hq : Iq w q n F) :
    Calls Try.prog 3 #[.agg #[.slice q n c, .int .i64 els], .agg #[.int .i64 pa, .int .i64 pb, .int .i64 pc, .int .i64 pd, .int .i64 pe, .int .i64 pf], .bool halves] w fun e w' => e = .returned (.bool true) ∧ Below w.heap.size w w' := by
  have HGd := Lib.hid (fun W (h : Below w.heap.size w W) => rgood13_c q n c F els hm W (hq.on h) hF he)
  have HNr := Lib.hid (fun W => near_c pa pb pc pd pe pf halves ha hb hc hd hee hf W)
  have da := near_bd halves pa pd
  have db := near_bd halves pb pe
  have dc := near_bd halves pc pf
  clear hm hF he ha hb hc hd hee hf hq
  have A0 : Blk ((w.alloc (.cells #[.slice q n c, .int .i64 els] 24)).alloc (.cells #[.int .i64 pa, .int .i64 pb, .int .i64 pc, .int .i64 pd, .int .i64 pe, .int .i64 pf] 28)) w.heap.size 24 #[.slice q n c, .int .i64 els] := (Blk.new' rfl).alloc _
  have B0 : Blk ((w.alloc (.cells #[.slice q n c, .int .i64 els] 24)).alloc (.cells #[.int .i64 pa, .int .i64 pb, .int .i64 pc, .int .i64 pd, .int .i64 pe, .int .i64 pf] 28)) (w.heap.size + 1) 28 #[.int .i64 pa, .int .i64 pb, .int .i64 pc, .int .i64 pd, .int .i64 pe, .int .i64 pf] := Blk.new' (by simp)
  have H0 : Below w.heap.size w ((w.alloc (.cells #[.slice q n c, .int .i64 els] 24)).alloc (.cells #[.int .i64 pa, .int .i64 pb, .int .i64 pc, .int .i64 pd, .int .i64 pe, .int .i64 pf] 28)) := by go_grown
  go_enter Try.func3, Try.ntmps3
  go_upto_region 1 with (fail)
  generalize hV : World.alloc (World.alloc w _) _ = W0
  rw [hV] at A0 B0 H0
  clear hV
  have a0 := A0.cell 0
  have a1 := A0.cell 1
  go_upto_region 2 with (go_at_call 9; refine (HGd.out _ H0).mono ?_; rintro e_ w1 ⟨q2, c2, rfl, R, k1, k2, h1⟩)
  generalize hV : World.alloc w1 _ = W1
  have G : Blk W1 w1.heap.size _ _ := Blk.eqw hV (Blk.new' rfl)
  have h2 : Below w1.heap.size w1 W1 := by rw [← hV]; exact (Below.refl _ _).alloc (Nat.le_refl _) _
  have I := iq_of_rd (R.on h2)
  rw [show (goodL n F).length = min n 216 by simp [goodL]] at I
  replace B0 := (B0.on h1).on h2
  replace H0 := after (after H0 h1) h2
  have K2 := Lib.hid k2
  clear hV h1 h2 k1 k2 R a0 a1 A0
  generalize min n 216 = m at G I ⊢
  generalize w1.heap.size = g at G ⊢
  generalize (fun i => (goodL n F).getD i 0) = F2 at I
  generalize arI els 3 - 1 = els2 at G ⊢
  have g0 := G.cell 0
  have g1 := G.cell 1
  go_upto_region 3 with (go_at_call 10; refine (view_c _ _ _).mono ?_; rintro e_ w2 ⟨rfl, rfl⟩)
  generalize hV : World.alloc W1 _ = W2
  have V2 : Blk W2 W1.heap.size _ _ := Blk.eqw hV (Blk.new' rfl)
  have h2 : Below W1.heap.size W1 W2 := by rw [← hV]; exact (Below.refl _ _).alloc (Nat.le_refl _) _
  replace I := I.on h2
  replace G := G.on h2
  replace B0 := B0.on h2
  replace H0 := after H0 h2
  have T0 := view_tells V2 I
  clear hV h2 V2 g0 g1
  generalize W1.heap.size = g2 at T0 ⊢
  obtain ⟨b0, b1, b2, b3, b4, b5⟩ := B0.c6.1
  go_upto_region 4 with (go_at_call 11; refine (HNr.out _).mono ?_; rintro e_ w3 ⟨rfl, h3⟩)
  generalize hV : World.alloc w3 _ = W3
  have X : Blk W3 w3.heap.size _ _ := Blk.eqw hV (Blk.new' rfl)
  have h2 : Below w3.heap.size w3 W3 := by rw [← hV]; exact (Below.refl _ _).alloc (Nat.le_refl _) _
  replace I := (I.on h3).on h2
  replace G := (G.on h3).on h2
  replace H0 := after (after H0 h3) h2
  replace T0 := (T0.on h3).on h2
  clear hV h2 h3 b0 b1 b2 b3 b4 b5 B0
  generalize w3.heap.size = gx at X ⊢
  generalize nearLo (unitI halves) pa = a at da X
  generalize nearLo (unitI halves) pb = b at db X
  generalize nearLo (unitI halves) pc = c' at dc X
  generalize nearHi (unitI halves) pa pd = d at da X
  generalize nearHi (unitI halves) pb pe = e at db X
  generalize nearHi (unitI halves) pc pf = f at dc X
  have B1 : BoxOk a b c' d e f := ⟨by omega, by omega, by omega, by omega, by omega, by omega, by omega, by omega, by omega⟩
  have cb : cutI (b - 1) = b - 1 := cutI_id (by omega) (by omega)
  have B2 : BoxOk a (cutI (b - 1)) c' d b f := by rw [cb]; exact ⟨by omega, by omega, by omega, by omega, by omega, by omega, by omega, by omega, by omega⟩
  have L1 : (cellsI a b c' d e f).length ≤ 1000000 := cells_len (by omega) (by omega) (by omega) (by omega) (by omega) (by omega)
  have L2 : (cellsI a (cutI (b - 1)) c' d b f).length ≤ 1000000 := by rw [cb]; exact cells_len (by omega) (by omega) (by omega) (by omega) (by omega) (by omega)
  have hb1 : -140737488355328 ≤ b := by omega
  have hb2 : b ≤ 140737488355328 := by omega
  have P1 := Lib.hid fun x y => pmBlocked_c _ _ _ a b c' d e f B1 (Go.Sort.grow (redrawn W3 x) y) view_en (T0.on (below_regrown W3 x y))
  have P2 := Lib.hid fun x y => pmWet_c _ _ _ a b c' d e f B1 (Go.Sort.grow (redrawn W3 x) y) view_en (T0.on (below_regrown W3 x y))
  have P3 := Lib.hid fun x y => pmClimbs_c _ _ _ a b c' d e f B1 (Go.Sort.grow (redrawn W3 x) y) view_en (T0.on (below_regrown W3 x y))
  have P4 := Lib.hid fun x y => pmStands_c _ _ _ a b c' d e f hb1 hb2 B2 (Go.Sort.grow (redrawn W3 x) y) view_en (T0.on (below_regrown W3 x y))
  have Q1 := Lib.hid fun x y => rfBlocked_c q2 m c2 F2 els2 a b c' d e f B1 L1 (Go.Sort.grow (redrawn W3 x) y) (I.on (below_regrown W3 x y))
  have Q2 := Lib.hid fun x y => rfWet_c q2 m c2 F2 els2 a b c' d e f B1 L1 (Go.Sort.grow (redrawn W3 x) y) (I.on (below_regrown W3 x y))
  have Q3 := Lib.hid fun x y => rfClimbs_c q2 m c2 F2 els2 a b c' d e f B1 L1 (Go.Sort.grow (redrawn W3 x) y) (I.on (below_regrown W3 x y))
  have Q4 := Lib.hid fun x y => rfStands_c q2 m c2 F2 els2 a b c' d e f (fun W => runder_c a b c' d e f hb1 hb2 W) B2 L2 (Go.Sort.grow (redrawn W3 x) y) (I.on (below_regrown W3 x y))
  have QL := Lib.hid fun x y => plives_c (Go.Sort.grow (redrawn W3 x) y)
  clear B1 B2 L1 L2 hb1 hb2 cb da db dc T0 I HGd HNr
  generalize (cellsI a b c' d e f).any (fun x => solB (atG m F2 els2 x.1 x.2.1 x.2.2)) = r1 at P1 Q1
  generalize (cellsI a b c' d e f).any (fun x => wetB (atG m F2 els2 x.1 x.2.1 x.2.2)) = r2 at P2 Q2
  generalize (cellsI a b c' d e f).any (fun x => cliB (atG m F2 els2 x.1 x.2.1 x.2.2)) = r3 at P3 Q3
  generalize (cellsI a (cutI (b - 1)) c' d b f).any (fun x => solB (atG m F2 els2 x.1 x.2.1 x.2.2)) = r4 at P4 Q4
  have g0 := fun x y => (G.re x y).cell 0
  have g1 := fun x y => (G.re x y).cell 1
  obtain ⟨x0, x1, x2, x3, x4, x5⟩ := X.re6
  clear G X
  refine wp_sched [0, 0, 0, 0, 0, 0, 0, 0, 0, 0, 0, 0, 0, 0, 0, 0, 0, 0, 0, 0, 0, 0, 0, 0, 0, 0, 0, 0, 0, 0, 0, 0, 0, 0, 0, 0, 0, 0] (fun _ _ _ => True) (by kernel_rfl) (by kernel_rfl) (fun _ _ _ _ h _ => h) ?_
  repeat (first | (refine wpQs_s ?_) | (refine wpQs_q (fun K hK => ?_); go_simp; first | (refine hK _ ?_; clear hK K) | (apply Exists.intro; refine ⟨fun _ => ?_, hK _ ?_⟩; (first | exact P1.out _ _ | exact P2.out _ _ | exact P3.out _ _ | exact P4.out _ _ | exact Q1.out _ _ | exact Q2.out _ _ | exact Q3.out _ _ | exact Q4.out _ _ | exact QL.out _ _); clear hK K)) | (refine wpQs_f (fun K hK => ?_); go_simp; refine hK _ ?_; clear hK K))
  refine wpQs_nil ?_
  repeat (first | (refine wpLs_skip ?_) | (refine wpLs_one ?lsA (fun v_ => ?_); case lsA => (intro w_ hw_ hp_; (fail))))
  refine wpLs_nilB ?_
  simp only [tails]
  intro W h _
  go_wp2_with fail
  go_returns
  exact ⟨rfl, after H0 h⟩

set_option maxRecDepth 100000 in
theorem probeMeets_lifted (os : Os) (started : os.Started) (H : Type) (enc : TypeId × Value → H) :
    ReturnsInHanded {} Try.checked os 3 .any (Rows.probeMeetsSpec.pre6 enc Try.prog Try.f3 Rows.probeMeetsRow.domain false) (Rows.probeMeetsSpec.post enc Try.prog Try.f3 false true false false) := by
  refine returnsInHanded_of_change (C := Try.checked) own started (by kernel_rfl) Try.func3
    (ChangeSpec.witness6 (enc := enc) (C := Try.checked) false ⟨#[], #[.agg #[.slice none 0 0, .int .i64 0], .agg #[.int .i64 0, .int .i64 0, .int .i64 0, .int .i64 0, .int .i64 0, .int .i64 0], .bool false], []⟩ 8 (by kernel_rfl) (by kernel_rfl) (by kernel_rfl) (by kernel_rfl)) ?_
  intro W base args ds gs before hval0 hW hcnd hsz
  have hval : ∀ (j : Nat) t v, Try.f3.params[j]? = some t → args[j]? = some v → Value.okWide Try.prog W .any base t v := hval0
  have hW' := hW
  obtain ⟨p, q, hA0, hV, rfl, hfz, hnd⟩ := hW
  have hA : DataW.TrodAll enc Try.prog W 0 (fun _ => true) true Try.f3.params.toList args.toList ds p := hA0
  rw [Try.params3] at hA hval
  obtain ⟨v0, vs0, d0, ds0, p_0, q_0, hargs, rfl, rfl, h0, r_0⟩ := trodAll_cons hA
  obtain ⟨v1, vs1, d1, ds1, p_1, q_1, rfl, rfl, rfl, h1, r_1⟩ := trodAll_cons r_0
  obtain ⟨v2, vs2, d2, ds2, p_2, q_2, rfl, rfl, rfl, h2, r_2⟩ := trodAll_cons r_1
  obtain ⟨rfl, rfl, rfl⟩ := trodAll_nil r_2
  obtain rfl : args = #[v0, v1, v2] := by cases args; simp_all
  obtain ⟨rfl, rfl⟩ := trodVars_none hV
  obtain ⟨gq0, gn0, gc0, gF0, ge0, rfl, gl0, gm0, gi0, gw0, gv0⟩ := open_world Try.underlying24 Try.underlying22 (by kernel_rfl) (by kernel_rfl) Try.underlying3 (hval 0 24 v0 rfl rfl) h0
  obtain ⟨p1, q1, r1, s1, t1, u1, rfl, wp1, wq1, wr1, ws1, wt1, wu1⟩ := open_box Try.underlying28 Try.underlying26 (by kernel_rfl) (by kernel_rfl) (by kernel_rfl) Try.underlying3 (hval 1 28 v1 rfl rfl) h1
  obtain ⟨a2, rfl, rfl, rfl⟩ := open_bool Try.underlying4 (hval 2 4 v2 rfl rfl) h2
  refine (probeMeets_c gq0 gn0 gc0 gF0 ge0 gl0 gm0 gw0 gv0 p1 q1 r1 s1 t1 u1 wp1 wq1 wr1 ws1 wt1 wu1 a2 W gi0).mono fun e W' ⟨he, hb⟩ => ?_
  subst he
  exact ⟨_, rfl, law_post laidOut (by kernel_rfl) rfl (by kernel_rfl) Try.underlying4 hW' rfl rfl rfl hb⟩

/-- The statement. -/
theorem probeMeets_proved : Rows.ProbeMeetsSaid :=
  OpenClaim.holds_of_wide 3 Try.f3 rfl rfl rfl rfl rfl rfl rfl ⟨rfl, rfl, rfl, rfl, rfl⟩ rfl rfl rfl rfl rfl (by kernel_rfl) Try.func3 (by kernel_rfl)
    (of_decide_eq_true (by kernel_rfl)) (by unfold Func.isWrapper; first | (rw [if_pos (by decide +kernel)]; kernel_rfl) | (rw [if_neg (by decide +kernel)]; exact ⟨rfl, rfl⟩))
    (fun os started H enc _ => probeMeets_lifted os started H enc)
end Go.Proofs.Ytmkmaoodeebmfaa
