/- VecBoxes holds: for any two boxes, any way. -/
import Derived.Test.YtghdjmckjfblmaaVLives
import Derived.Test.YtghdjmckjfblmaaBase2
import Derived.Test.YtghdjmckjfblmaaVec5
import Derived.Test.YtghdjmckjfblmaaRef2b
import Derived.Test.YtghdjmckjfblmaaRef2c
import Derived.Test.YtghdjmckjfblmaaRef2e
import Derived.Test.YtghdjmckjfblmaaShut
namespace Go.Proofs.Ytghdjmckjfblmaa
open Go.ChangeShapes Go.WideShapes Go.ChangeAt Go.RowKit

theorem mayI_of {a b c d e f : Int} (ha : a = cutI a) (hb : b = cutI b) (hc : c = cutI c) (hd : d = cutI d) (he : e = cutI e) (hf : f = cutI f) (h1 : a ≤ d) (h2 : b ≤ e) (h3 : c ≤ f) : mayI a b c d e f = true := by
  unfold mayI
  simp only [Bool.and_eq_true, veqB_iff, decide_eq_true_eq]
  exact ⟨⟨ha, hb, hc⟩, ⟨hd, he, hf⟩, ⟨h1, h2⟩, h3⟩
theorem cutI_mn (a b : Int) : mnI (cutI a) (cutI b) = cutI (mnI (cutI a) (cutI b)) := by unfold mnI cutI; omega
theorem cutI_mx (a b : Int) : mxI (cutI a) (cutI b) = cutI (mxI (cutI a) (cutI b)) := by unfold mxI cutI; omega
theorem mn_le_mx (a b : Int) : mnI a b ≤ mxI a b := by unfold mnI mxI; omega
theorem addI_le {a b : Int} (c : Int) (h : a ≤ b) : addI a c ≤ addI b c := by unfold addI cutI; omega
theorem addI_cut (a b : Int) : addI a b = cutI (addI a b) := by unfold addI; rw [cutI_cut]
theorem overI_comm (a b c d e f a' b' c' d' e' f' : Int) : overI a' b' c' d' e' f' a b c d e f = overI a b c d e f a' b' c' d' e' f' := by
  unfold overI ovI
  rw [Bool.eq_iff_iff]
  simp only [Bool.and_eq_true, decide_eq_true_eq]
  omega

theorem may_t (a b c d e f : Int) (h : mayI a b c d e f = true) (w : World) : Calls Try.prog 26 #[.agg #[.int .i64 a, .int .i64 b, .int .i64 c, .int .i64 d, .int .i64 e, .int .i64 f]] w fun r w' => r = .returned (.bool true) ∧ Below w.heap.size w w' := by
  rw [← h]; exact may_c a b c d e f w
set_option maxHeartbeats 8000000 in
theorem vecBoxes_w (a b c d e f a' b' c' d' e' f' x y z p q r s t u p' q' r' s' t' u' mp mq mr ms mt mu : Int)
    (C1 : Hid (∀ w : World, Calls Try.prog 11 #[.agg #[.int .i64 a, .int .i64 b, .int .i64 c, .int .i64 d, .int .i64 e, .int .i64 f]] w fun o w' => o = .returned (.agg #[.int .i64 p, .int .i64 q, .int .i64 r, .int .i64 s, .int .i64 t, .int .i64 u]) ∧ Below w.heap.size w w'))
    (C2 : Hid (∀ w : World, Calls Try.prog 11 #[.agg #[.int .i64 a', .int .i64 b', .int .i64 c', .int .i64 d', .int .i64 e', .int .i64 f']] w fun o w' => o = .returned (.agg #[.int .i64 p', .int .i64 q', .int .i64 r', .int .i64 s', .int .i64 t', .int .i64 u']) ∧ Below w.heap.size w w'))
    (C3 : Hid (∀ w : World, Calls Try.prog 21 #[.agg #[.int .i64 p, .int .i64 q, .int .i64 r, .int .i64 s, .int .i64 t, .int .i64 u], .agg #[.int .i64 x, .int .i64 y, .int .i64 z]] w fun o w' => o = .returned (.agg #[.int .i64 mp, .int .i64 mq, .int .i64 mr, .int .i64 ms, .int .i64 mt, .int .i64 mu]) ∧ Below w.heap.size w w'))
    (C4 : Hid (∀ w : World, Calls Try.prog 30 #[.agg #[.int .i64 p, .int .i64 q, .int .i64 r, .int .i64 s, .int .i64 t, .int .i64 u], .agg #[.int .i64 x, .int .i64 y, .int .i64 z]] w fun o w' => o = .returned (.agg #[.int .i64 mp, .int .i64 mq, .int .i64 mr, .int .i64 ms, .int .i64 mt, .int .i64 mu]) ∧ Below w.heap.size w w'))
    (m1 : mayI p q r s t u = true) (m2 : mayI mp mq mr ms mt mu = true) (w : World) :
    Calls Try.prog 7 #[.agg #[.int .i64 a, .int .i64 b, .int .i64 c, .int .i64 d, .int .i64 e, .int .i64 f], .agg #[.int .i64 a', .int .i64 b', .int .i64 c', .int .i64 d', .int .i64 e', .int .i64 f'], .agg #[.int .i64 x, .int .i64 y, .int .i64 z]] w fun e w' => e = .returned (.bool true) ∧ Below w.heap.size w w' := by
  have be := box_eq
  have bg := box_guard
  have bs := boxB_self mp mq mr ms mt mu
  have oc := overI_comm p q r s t u p' q' r' s' t' u'
  have t1 : (mayI a b c d e f != mayI a b c d e f) = false := by simp
  have t2 : (overI a b c d e f a' b' c' d' e' f' != overI a b c d e f a' b' c' d' e' f') = false := by simp
  have t3 : (hasI a b c d e f x y z != hasI a b c d e f x y z) = false := by simp
  have t4 : (overI p q r s t u p' q' r' s' t' u' == overI p q r s t u p' q' r' s' t' u') = true := by simp
  have t5 : (overI p' q' r' s' t' u' p q r s t u == overI p q r s t u p' q' r' s' t' u') = true := by rw [oc]; simp
  clear oc
  obtain ⟨W0, hW⟩ : ∃ W0, W0 = ((w.alloc (.cells (bxV a b c d e f) 25)).alloc (.cells (bxV a' b' c' d' e' f') 25)).alloc (.cells #[.int .i64 x, .int .i64 y, .int .i64 z] 23) := ⟨_, rfl⟩
  have A : Blk W0 w.heap.size 25 (bxV a b c d e f) := by rw [hW]; exact ((Blk.new' rfl).alloc _).alloc _
  have B : Blk W0 (w.heap.size + 1) 25 (bxV a' b' c' d' e' f') := by rw [hW]; exact (Blk.new' (by simp)).alloc _
  have V : Blk W0 (w.heap.size + 1 + 1) 23 #[.int .i64 x, .int .i64 y, .int .i64 z] := by rw [hW]; exact Blk.new' (by simp)
  have H : Below w.heap.size w W0 := by rw [hW]; go_grown
  go_enter Try.func7, Try.ntmps7
  go_upto_region 1 with (fail)
  rw [← hW]
  clear hW
  obtain ⟨⟨k0, k1, k2, k3, k4, k5⟩, -, -, -, -, -, -⟩ := A.c6
  go_wp2_with fail
  clear k0 k1 k2 k3 k4 k5
  refine (C1.out _).mono ?_; rintro o w1 ⟨rfl, hb⟩
  go_upto_region 2 with (fail)
  obtain ⟨W1, hW⟩ : ∃ W1, W1 = w1.alloc (.cells #[.int .i64 p, .int .i64 q, .int .i64 r, .int .i64 s, .int .i64 t, .int .i64 u] 25) := ⟨_, rfl⟩
  rw [← hW]
  replace A := A.step hb hW
  replace B := B.step hb hW
  replace V := V.step hb hW
  have X := Blk.fresh hW
  replace H := step_below H hb hW
  clear hW hb
  obtain ⟨⟨k0, k1, k2, k3, k4, k5⟩, -, -, -, -, -, -⟩ := B.c6
  go_wp2_with fail
  clear k0 k1 k2 k3 k4 k5
  refine (C2.out _).mono ?_; rintro o w2 ⟨rfl, hb⟩
  go_upto_region 3 with (fail)
  obtain ⟨W2, hW⟩ : ∃ W2, W2 = w2.alloc (.cells #[.int .i64 p', .int .i64 q', .int .i64 r', .int .i64 s', .int .i64 t', .int .i64 u'] 25) := ⟨_, rfl⟩
  rw [← hW]
  replace A := A.step hb hW
  replace B := B.step hb hW
  replace V := V.step hb hW
  replace X := X.step hb hW
  have Y := Blk.fresh hW
  replace H := step_below H hb hW
  clear hW hb
  obtain ⟨k0, k1, k2, k3, k4, k5⟩ := A.re6
  obtain ⟨l0, l1, l2, l3, l4, l5⟩ := B.re6
  obtain ⟨v0, v1, v2⟩ := V.re3
  refine wp_region_quiet_below (by kernel_rfl) (by kernel_rfl) ?_
  repeat (go_big_quiet_step (first | (go_at_call 26; exact Calls.regrown_of (may_c _ _ _ _ _ _ _)) | (go_at_call 27; exact Calls.regrown_of (rmay_c _ _ _ _ _ _ _)) | (go_at_call 14; exact Calls.regrown_of (over_c _ _ _ _ _ _ _ _ _ _ _ _ _)) | (go_at_call 28; exact Calls.regrown_of (rover_c _ _ _ _ _ _ _ _ _ _ _ _ _)) | (go_at_call 22; exact Calls.regrown_of (has_c _ _ _ _ _ _ _ _ _ _)) | exact Calls.regrown_of (rhas_c _ _ _ _ _ _ _ _ _ _)))
  refine wpQuiet_nil ?_
  intro w' hw'
  obtain ⟨rg, rfl⟩ := hw'
  clear k0 k1 k2 k3 k4 k5 l0 l1 l2 l3 l4 l5 v0 v1 v2
  obtain ⟨W3, hW⟩ : ∃ W3, W3 = Go.Sort.grow (redrawn W2 rg.d) rg.os := ⟨_, rfl⟩
  rw [← hW]
  replace V := V.reW hW
  replace X := X.reW hW
  replace Y := Y.reW hW
  replace H := re_below H hW
  clear hW A B
  obtain ⟨⟨k0, k1, k2, k3, k4, k5⟩, -, -, -, -, -, -⟩ := X.c6
  obtain ⟨v0, v1, v2, -, -, -⟩ := V.c3
  go_wp2_with fail
  clear k0 k1 k2 k3 k4 k5 v0 v1 v2
  refine (C3.out _).mono ?_; rintro o w4 ⟨rfl, hb⟩
  go_upto_region 6 with (fail)
  obtain ⟨W4, hW⟩ : ∃ W4, W4 = w4.alloc (.cells #[.int .i64 mp, .int .i64 mq, .int .i64 mr, .int .i64 ms, .int .i64 mt, .int .i64 mu] 25) := ⟨_, rfl⟩
  rw [← hW]
  replace V := V.step hb hW
  replace X := X.step hb hW
  replace Y := Y.step hb hW
  have M := Blk.fresh hW
  replace H := step_below H hb hW
  clear hW hb
  obtain ⟨k0, k1, k2, k3, k4, k5⟩ := X.re6
  obtain ⟨l0, l1, l2, l3, l4, l5⟩ := Y.re6
  obtain ⟨n0, n1, n2, n3, n4, n5⟩ := M.re6
  obtain ⟨v0, v1, v2⟩ := V.re3
  refine wp_region_quiet_below (by kernel_rfl) (by kernel_rfl) ?_
  repeat (go_big_quiet_step (first | (go_at_call 26; exact Calls.regrown_of (may_t _ _ _ _ _ _ (by assumption) _)) | (go_at_call 30; exact Calls.regrown_of (C4.out _)) | (go_at_call 14; exact Calls.regrown_of (over_c _ _ _ _ _ _ _ _ _ _ _ _ _)) | (go_at_call 28; exact Calls.regrown_of (rover_c _ _ _ _ _ _ _ _ _ _ _ _ _)) | exact Calls.regrown_of (vlives_c _)))
  refine wpQuiet_nil ?_
  intro w' hw'
  obtain ⟨rg, rfl⟩ := hw'
  go_wp2_with fail
  go_returns
  exact ⟨rfl, by (repeat' (first | (with_reducible exact Below.refl _ _) | (with_reducible assumption) | (with_reducible refine Below.alloc ?_ ?_ _) | (with_reducible refine Below.drew ?_) | (with_reducible refine Below.setCell ?_ ?_ _) | (with_reducible refine after ?_ (below_regrown _ _ _)) | (refine after ?_ (by with_reducible assumption)) | go_size))⟩

theorem vecBoxes_c (a b c d e f : Int) (_ : In64 a) (_ : In64 b) (_ : In64 c) (_ : In64 d) (_ : In64 e) (_ : In64 f) (a' b' c' d' e' f' : Int) (_ : In64 a') (_ : In64 b') (_ : In64 c') (_ : In64 d') (_ : In64 e') (_ : In64 f') (x y z : Int) (_ : In64 x) (_ : In64 y) (_ : In64 z) (w : World) :
    Calls Try.prog 7 #[.agg #[.int .i64 a, .int .i64 b, .int .i64 c, .int .i64 d, .int .i64 e, .int .i64 f], .agg #[.int .i64 a', .int .i64 b', .int .i64 c', .int .i64 d', .int .i64 e', .int .i64 f'], .agg #[.int .i64 x, .int .i64 y, .int .i64 z]] w fun e w' => e = .returned (.bool true) ∧ Below w.heap.size w w' :=
  vecBoxes_w a b c d e f a' b' c' d' e' f' x y z _ _ _ _ _ _ _ _ _ _ _ _ _ _ _ _ _ _ (Lib.hid (rgood_c a b c d e f)) (Lib.hid (rgood_c a' b' c' d' e' f')) (Lib.hid (move_c _ _ _ _ _ _ x y z)) (Lib.hid (rmove_c _ _ _ _ _ _ x y z))
    (mayI_of (cutI_mn _ _) (cutI_mn _ _) (cutI_mn _ _) (cutI_mx _ _) (cutI_mx _ _) (cutI_mx _ _) (mn_le_mx _ _) (mn_le_mx _ _) (mn_le_mx _ _))
    (mayI_of (addI_cut _ _) (addI_cut _ _) (addI_cut _ _) (addI_cut _ _) (addI_cut _ _) (addI_cut _ _) (addI_le _ (mn_le_mx _ _)) (addI_le _ (mn_le_mx _ _)) (addI_le _ (mn_le_mx _ _))) w

set_option maxRecDepth 100000 in
theorem vecBoxes_lifted (os : Os) (started : os.Started) (H : Type) (enc : TypeId × Value → H) :
    ReturnsInHanded {} Try.checked os 7 .any (Rows.vecBoxesSpec.pre6 enc Try.prog Try.f7 Rows.vecBoxesRow.domain false) (Rows.vecBoxesSpec.post enc Try.prog Try.f7 false true false false) := by
  refine returnsInHanded_of_change (C := Try.checked) own started (by kernel_rfl) Try.func7
    (ChangeSpec.witness6 (enc := enc) (C := Try.checked) false ⟨#[], #[.agg #[.int .i64 0, .int .i64 0, .int .i64 0, .int .i64 0, .int .i64 0, .int .i64 0], .agg #[.int .i64 0, .int .i64 0, .int .i64 0, .int .i64 0, .int .i64 0, .int .i64 0], .agg #[.int .i64 0, .int .i64 0, .int .i64 0]], []⟩ 8 (by kernel_rfl) (by kernel_rfl) (by kernel_rfl) (by kernel_rfl)) ?_
  intro W base args ds gs before hval0 hW hcnd hsz
  have hval : ∀ (j : Nat) t v, Try.f7.params[j]? = some t → args[j]? = some v → Value.okWide Try.prog W .any base t v := hval0
  have hW' := hW
  obtain ⟨p, q, hA0, hV, rfl, hfz, hnd⟩ := hW
  have hA : DataW.TrodAll enc Try.prog W 0 (fun _ => true) true Try.f7.params.toList args.toList ds p := hA0
  rw [Try.params7] at hA hval
  obtain ⟨v0, vs0, d0, ds0, p_0, q_0, hargs, rfl, rfl, h0, r_0⟩ := trodAll_cons hA
  obtain ⟨v1, vs1, d1, ds1, p_1, q_1, rfl, rfl, rfl, h1, r_1⟩ := trodAll_cons r_0
  obtain ⟨v2, vs2, d2, ds2, p_2, q_2, rfl, rfl, rfl, h2, r_2⟩ := trodAll_cons r_1
  obtain ⟨rfl, rfl, rfl⟩ := trodAll_nil r_2
  obtain rfl : args = #[v0, v1, v2] := by cases args; simp_all
  obtain ⟨rfl, rfl⟩ := trodVars_none hV
  obtain ⟨p0, q0, r0, s0, t0, u0, rfl, wp0, wq0, wr0, ws0, wt0, wu0⟩ := open_box Try.underlying25 Try.underlying23 (by kernel_rfl) (by kernel_rfl) (by kernel_rfl) Try.underlying3 (hval 0 25 v0 rfl rfl) h0
  obtain ⟨p1, q1, r1, s1, t1, u1, rfl, wp1, wq1, wr1, ws1, wt1, wu1⟩ := open_box Try.underlying25 Try.underlying23 (by kernel_rfl) (by kernel_rfl) (by kernel_rfl) Try.underlying3 (hval 1 25 v1 rfl rfl) h1
  obtain ⟨x2, y2, z2, rfl, wx2, wy2, wz2⟩ := open_vec Try.underlying23 (by kernel_rfl) (by kernel_rfl) Try.underlying3 (hval 2 23 v2 rfl rfl) h2
  refine (vecBoxes_c p0 q0 r0 s0 t0 u0 wp0 wq0 wr0 ws0 wt0 wu0 p1 q1 r1 s1 t1 u1 wp1 wq1 wr1 ws1 wt1 wu1 x2 y2 z2 wx2 wy2 wz2 W).mono fun e W' ⟨he, hb⟩ => ?_
  subst he
  exact ⟨_, rfl, law_post laidOut (by kernel_rfl) rfl (by kernel_rfl) Try.underlying4 hW' rfl rfl rfl hb⟩

/-- The statement. -/
theorem vecBoxes_proved : Rows.VecBoxesSaid :=
  OpenClaim.holds_of_wide 7 Try.f7 rfl rfl rfl rfl rfl rfl rfl ⟨rfl, rfl, rfl, rfl, rfl⟩ rfl rfl rfl rfl rfl (by kernel_rfl) Try.func7 (by kernel_rfl)
    (of_decide_eq_true (by kernel_rfl)) (by unfold Func.isWrapper; first | (rw [if_pos (by decide +kernel)]; kernel_rfl) | (rw [if_neg (by decide +kernel)]; exact ⟨rfl, rfl⟩))
    (fun os started H enc _ => vecBoxes_lifted os started H enc)
end Go.Proofs.Ytghdjmckjfblmaa
