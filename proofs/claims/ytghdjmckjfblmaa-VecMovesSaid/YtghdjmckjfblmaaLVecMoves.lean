/- VecMoves holds: for any two boxes and any way. -/
import Derived.Test.YtghdjmckjfblmaaVSmall
import Derived.Test.YtghdjmckjfblmaaRef2b
import Derived.Test.YtghdjmckjfblmaaShut
namespace Go.Proofs.Ytghdjmckjfblmaa
open Go.ChangeShapes Go.WideShapes Go.ChangeAt Go.RowKit

def Sml (a : Int) : Prop := -35184372088832 ≤ a ∧ a ≤ 35184372088832
theorem sml_mn (a b : Int) : Sml (mnI (cutI (smI a)) (cutI (smI b))) := by
  have h1 := smI_bd a
  have h2 := smI_bd b
  unfold Sml mnI
  rw [cutI_id (n := smI a) (by omega) (by omega), cutI_id (n := smI b) (by omega) (by omega)]
  omega
theorem sml_mx (a b : Int) : Sml (mxI (cutI (smI a)) (cutI (smI b))) := by
  have h1 := smI_bd a
  have h2 := smI_bd b
  unfold Sml mxI
  rw [cutI_id (n := smI a) (by omega) (by omega), cutI_id (n := smI b) (by omega) (by omega)]
  omega
theorem sml_add {a b : Int} (ha : Sml a) (hb : Sml b) : addI a b = a + b := by
  unfold Sml at *
  unfold addI
  rw [cutI_id (n := a) (by omega) (by omega), cutI_id (n := b) (by omega) (by omega), cutI_id (by omega) (by omega)]
theorem ov_add {a b c d k : Int} (ha : Sml a) (hb : Sml b) (hc : Sml c) (hd : Sml d) (hk : Sml k) : ovI (addI a k) (addI b k) (addI c k) (addI d k) = ovI a b c d := by
  rw [sml_add ha hk, sml_add hb hk, sml_add hc hk, sml_add hd hk]
  have e1 : (a + k < d + k) = (a < d) := by simp
  have e2 : (c + k < b + k) = (c < b) := by simp
  simp only [ovI, e1, e2]
theorem hs_add {a b x k : Int} (ha : Sml a) (hb : Sml b) (hx : Sml x) (hk : Sml k) : hsI (addI x k) (addI a k) (addI b k) = hsI x a b := by
  rw [sml_add ha hk, sml_add hb hk, sml_add hx hk]
  have e1 : (a + k ≤ x + k) = (a ≤ x) := by simp
  have e2 : (x + k < b + k) = (x < b) := by simp
  have e3 : (x + k ≤ b + k) = (x ≤ b) := by simp
  simp [hsI, e1, e2, e3]
set_option maxHeartbeats 16000000 in
theorem vecMoves_w (a b c d e f a' b' c' d' e' f' x y z p q r s t u p' q' r' s' t' u' : Int)
    (i1 : In64 a) (i2 : In64 b) (i3 : In64 c) (i4 : In64 d) (i5 : In64 e) (i6 : In64 f) (j1 : In64 a') (j2 : In64 b') (j3 : In64 c') (j4 : In64 d') (j5 : In64 e') (j6 : In64 f') (n1 : In64 x) (n2 : In64 y) (n3 : In64 z)
    (P1 : Hid (mnI (cutI (smI a)) (cutI (smI d)) = p)) (P2 : Hid (mnI (cutI (smI b)) (cutI (smI e)) = q)) (P3 : Hid (mnI (cutI (smI c)) (cutI (smI f)) = r)) (P4 : Hid (mxI (cutI (smI a)) (cutI (smI d)) = s)) (P5 : Hid (mxI (cutI (smI b)) (cutI (smI e)) = t)) (P6 : Hid (mxI (cutI (smI c)) (cutI (smI f)) = u))
    (Q1 : Hid (mnI (cutI (smI a')) (cutI (smI d')) = p')) (Q2 : Hid (mnI (cutI (smI b')) (cutI (smI e')) = q')) (Q3 : Hid (mnI (cutI (smI c')) (cutI (smI f')) = r')) (Q4 : Hid (mxI (cutI (smI a')) (cutI (smI d')) = s')) (Q5 : Hid (mxI (cutI (smI b')) (cutI (smI e')) = t')) (Q6 : Hid (mxI (cutI (smI c')) (cutI (smI f')) = u'))
    (o1 : overI (addI p (smI x)) (addI q (smI y)) (addI r (smI z)) (addI s (smI x)) (addI t (smI y)) (addI u (smI z)) (addI p' (smI x)) (addI q' (smI y)) (addI r' (smI z)) (addI s' (smI x)) (addI t' (smI y)) (addI u' (smI z)) = overI p q r s t u p' q' r' s' t' u')
    (o2 : hasI (addI p (smI x)) (addI q (smI y)) (addI r (smI z)) (addI s (smI x)) (addI t (smI y)) (addI u (smI z)) (addI p' (smI x)) (addI q' (smI y)) (addI r' (smI z)) = hasI p q r s t u p' q' r') (w : World) :
    Calls Try.prog 5 #[.agg #[.int .i64 a, .int .i64 b, .int .i64 c, .int .i64 d, .int .i64 e, .int .i64 f], .agg #[.int .i64 a', .int .i64 b', .int .i64 c', .int .i64 d', .int .i64 e', .int .i64 f'], .agg #[.int .i64 x, .int .i64 y, .int .i64 z]] w fun e w' => e = .returned (.bool true) ∧ Below w.heap.size w w' := by
  obtain ⟨W0, hW⟩ : ∃ W0, W0 = ((w.alloc (.cells #[.int .i64 a, .int .i64 b, .int .i64 c, .int .i64 d, .int .i64 e, .int .i64 f] 25)).alloc (.cells #[.int .i64 a', .int .i64 b', .int .i64 c', .int .i64 d', .int .i64 e', .int .i64 f'] 25)).alloc (.cells #[.int .i64 x, .int .i64 y, .int .i64 z] 23) := ⟨_, rfl⟩
  have A : Blk W0 w.heap.size 25 #[.int .i64 a, .int .i64 b, .int .i64 c, .int .i64 d, .int .i64 e, .int .i64 f] := by rw [hW]; exact ((Blk.new' rfl).alloc _).alloc _
  have B : Blk W0 (w.heap.size + 1) 25 #[.int .i64 a', .int .i64 b', .int .i64 c', .int .i64 d', .int .i64 e', .int .i64 f'] := by rw [hW]; exact (Blk.new' (by simp)).alloc _
  have V : Blk W0 (w.heap.size + 1 + 1) 23 #[.int .i64 x, .int .i64 y, .int .i64 z] := by rw [hW]; exact Blk.new' (by simp)
  have H : Below w.heap.size w W0 := by rw [hW]; go_grown
  go_enter Try.func5, Try.ntmps5
  go_upto_region 1 with (fail)
  rw [← hW]
  clear hW
  generalize w.heap.size + 1 + 1 = nv at *
  generalize w.heap.size + 1 = nb at *
  obtain ⟨l0, l1, l2, l3, l4, l5⟩ := A.re6
  refine wp_region_float (t := 25) (z := #[.int .i64 0, .int .i64 0, .int .i64 0, .int .i64 0, .int .i64 0, .int .i64 0]) 8 7 (by kernel_rfl) rfl (by kernel_rfl) rfl (fun _ _ => by kernel_rfl) ?_
  simp only [List.take_succ_cons, List.take_zero, List.drop_succ_cons, List.drop_zero]
  repeat (refine wpRel_step (fun K hK => ?_); go_simp; first | (refine hK _ ?_; clear hK K) | (apply Exists.intro; refine ⟨fun _ => ?_, hK _ ?_⟩; (first | (go_at_call 20; exact small_c _ _ _ (by assumption) (by assumption) (by assumption) _) | exact rgood_c _ _ _ _ _ _ _); clear hK K))
  refine wpRel_nil ?_
  intro b W hb hB hle
  clear l0 l1 l2 l3 l4 l5
  obtain ⟨⟨l0, l1, l2, l3, l4, l5⟩, f0, f1, f2, f3, f4, f5⟩ := hB.c6
  simp only [Act.put]
  go_upto_region 2 with (fail)
  rw [P1.out, P2.out, P3.out, P4.out, P5.out, P6.out]
  obtain ⟨W1, hW⟩ : ∃ W1, W1 = (((((W.setCell ⟨b, 0, none⟩ (.int .i64 p)).setCell ⟨b, 1, none⟩ (.int .i64 q)).setCell ⟨b, 2, none⟩ (.int .i64 r)).setCell ⟨b, 3, none⟩ (.int .i64 s)).setCell ⟨b, 4, none⟩ (.int .i64 t)).setCell ⟨b, 5, none⟩ (.int .i64 u) := ⟨_, rfl⟩
  rw [← hW]
  clear l0 l1 l2 l3 l4 l5 f0 f1 f2 f3 f4 f5
  have X := hB.put6 hW
  replace B := B.far6 hb hle hW
  replace V := V.far6 hb hle hW
  replace H := far_below6 H hb hle hW
  clear hW hb hle hB A
  generalize b = nx at *
  obtain ⟨l0, l1, l2, l3, l4, l5⟩ := B.re6
  refine wp_region_float (t := 25) (z := #[.int .i64 0, .int .i64 0, .int .i64 0, .int .i64 0, .int .i64 0, .int .i64 0]) 8 8 (by kernel_rfl) rfl (by kernel_rfl) rfl (fun _ _ => by kernel_rfl) ?_
  simp only [List.take_succ_cons, List.take_zero, List.drop_succ_cons, List.drop_zero]
  repeat (refine wpRel_step (fun K hK => ?_); go_simp; first | (refine hK _ ?_; clear hK K) | (apply Exists.intro; refine ⟨fun _ => ?_, hK _ ?_⟩; (first | (go_at_call 20; exact small_c _ _ _ (by assumption) (by assumption) (by assumption) _) | exact rgood_c _ _ _ _ _ _ _); clear hK K))
  refine wpRel_nil ?_
  intro b W hb hB hle
  clear l0 l1 l2 l3 l4 l5
  obtain ⟨⟨l0, l1, l2, l3, l4, l5⟩, f0, f1, f2, f3, f4, f5⟩ := hB.c6
  simp only [Act.put]
  go_upto_region 3 with (fail)
  rw [Q1.out, Q2.out, Q3.out, Q4.out, Q5.out, Q6.out]
  obtain ⟨W2, hW⟩ : ∃ W2, W2 = (((((W.setCell ⟨b, 0, none⟩ (.int .i64 p')).setCell ⟨b, 1, none⟩ (.int .i64 q')).setCell ⟨b, 2, none⟩ (.int .i64 r')).setCell ⟨b, 3, none⟩ (.int .i64 s')).setCell ⟨b, 4, none⟩ (.int .i64 t')).setCell ⟨b, 5, none⟩ (.int .i64 u') := ⟨_, rfl⟩
  rw [← hW]
  clear l0 l1 l2 l3 l4 l5 f0 f1 f2 f3 f4 f5
  have Y := hB.put6 hW
  replace X := X.far6 hb hle hW
  replace V := V.far6 hb hle hW
  replace H := far_below6 H hb hle hW
  clear hW hb hle hB B
  generalize b = ny at *
  obtain ⟨l0, l1, l2, -, -, -⟩ := V.c3
  go_wp2_with fail
  clear l0 l1 l2
  refine (small_c _ _ _ n1 n2 n3 _).mono ?_; rintro o w3 ⟨rfl, hb⟩
  go_upto_region 4 with (fail)
  obtain ⟨W3, hW⟩ : ∃ W3, W3 = w3.alloc (.cells #[.int .i64 (smI x), .int .i64 (smI y), .int .i64 (smI z)] 23) := ⟨_, rfl⟩
  rw [← hW]
  replace X := X.step hb hW
  replace Y := Y.step hb hW
  have M := Blk.fresh hW
  replace H := step_below H hb hW
  clear hW hb V
  generalize w3.heap.size = nm at *
  obtain ⟨k0, k1, k2, k3, k4, k5⟩ := X.re6
  obtain ⟨l0, l1, l2, l3, l4, l5⟩ := Y.re6
  obtain ⟨v0, v1, v2⟩ := M.re3
  refine wp_region_quiet_below (by kernel_rfl) (by kernel_rfl) ?_
  repeat (go_big_quiet_step (first | (go_at_call 21; exact Calls.regrown_of (move_c _ _ _ _ _ _ _ _ _ _)) | (go_at_call 14; exact Calls.regrown_of (over_c _ _ _ _ _ _ _ _ _ _ _ _ _)) | (go_at_call 22; exact Calls.regrown_of (has_c _ _ _ _ _ _ _ _ _ _)) | (go_at_call 23; exact Calls.regrown_of (add_c _ _ _ _ _ _ _)) | exact Calls.regrown_of (vlives_c _)))
  refine wpQuiet_nil ?_
  intro w' hw'
  obtain ⟨rg, rfl⟩ := hw'
  go_wp2_with fail
  go_returns
  exact ⟨rfl, by (repeat' (first | (with_reducible exact Below.refl _ _) | (with_reducible assumption) | (with_reducible refine Below.alloc ?_ ?_ _) | (with_reducible refine Below.drew ?_) | (with_reducible refine Below.setCell ?_ ?_ _) | (with_reducible refine after ?_ (below_regrown _ _ _)) | (refine after ?_ (by with_reducible assumption)) | go_size))⟩

theorem vecMoves_c (a b c d e f : Int) (i1 : In64 a) (i2 : In64 b) (i3 : In64 c) (i4 : In64 d) (i5 : In64 e) (i6 : In64 f) (a' b' c' d' e' f' : Int) (j1 : In64 a') (j2 : In64 b') (j3 : In64 c') (j4 : In64 d') (j5 : In64 e') (j6 : In64 f') (x y z : Int) (n1 : In64 x) (n2 : In64 y) (n3 : In64 z) (w : World) :
    Calls Try.prog 5 #[.agg #[.int .i64 a, .int .i64 b, .int .i64 c, .int .i64 d, .int .i64 e, .int .i64 f], .agg #[.int .i64 a', .int .i64 b', .int .i64 c', .int .i64 d', .int .i64 e', .int .i64 f'], .agg #[.int .i64 x, .int .i64 y, .int .i64 z]] w fun e w' => e = .returned (.bool true) ∧ Below w.heap.size w w' :=
  vecMoves_w a b c d e f a' b' c' d' e' f' x y z _ _ _ _ _ _ _ _ _ _ _ _ i1 i2 i3 i4 i5 i6 j1 j2 j3 j4 j5 j6 n1 n2 n3
    (Lib.hid rfl) (Lib.hid rfl) (Lib.hid rfl) (Lib.hid rfl) (Lib.hid rfl) (Lib.hid rfl) (Lib.hid rfl) (Lib.hid rfl) (Lib.hid rfl) (Lib.hid rfl) (Lib.hid rfl) (Lib.hid rfl)
    (by unfold overI; rw [ov_add (sml_mn _ _) (sml_mx _ _) (sml_mn _ _) (sml_mx _ _) (smI_bd x), ov_add (sml_mn _ _) (sml_mx _ _) (sml_mn _ _) (sml_mx _ _) (smI_bd y), ov_add (sml_mn _ _) (sml_mx _ _) (sml_mn _ _) (sml_mx _ _) (smI_bd z)])
    (by unfold hasI; rw [hs_add (sml_mn _ _) (sml_mx _ _) (sml_mn _ _) (smI_bd x), hs_add (sml_mn _ _) (sml_mx _ _) (sml_mn _ _) (smI_bd y), hs_add (sml_mn _ _) (sml_mx _ _) (sml_mn _ _) (smI_bd z)]) w

set_option maxRecDepth 100000 in
theorem vecMoves_lifted (os : Os) (started : os.Started) (H : Type) (enc : TypeId × Value → H) :
    ReturnsInHanded {} Try.checked os 5 .any (Rows.vecMovesSpec.pre6 enc Try.prog Try.f5 Rows.vecMovesRow.domain false) (Rows.vecMovesSpec.post enc Try.prog Try.f5 false true false false) := by
  refine returnsInHanded_of_change (C := Try.checked) own started (by kernel_rfl) Try.func5
    (ChangeSpec.witness6 (enc := enc) (C := Try.checked) false ⟨#[], #[.agg #[.int .i64 0, .int .i64 0, .int .i64 0, .int .i64 0, .int .i64 0, .int .i64 0], .agg #[.int .i64 0, .int .i64 0, .int .i64 0, .int .i64 0, .int .i64 0, .int .i64 0], .agg #[.int .i64 0, .int .i64 0, .int .i64 0]], []⟩ 8 (by kernel_rfl) (by kernel_rfl) (by kernel_rfl) (by kernel_rfl)) ?_
  intro W base args ds gs before hval0 hW hcnd hsz
  have hval : ∀ (j : Nat) t v, Try.f5.params[j]? = some t → args[j]? = some v → Value.okWide Try.prog W .any base t v := hval0
  have hW' := hW
  obtain ⟨p, q, hA0, hV, rfl, hfz, hnd⟩ := hW
  have hA : DataW.TrodAll enc Try.prog W 0 (fun _ => true) true Try.f5.params.toList args.toList ds p := hA0
  rw [Try.params5] at hA hval
  obtain ⟨v0, vs0, d0, ds0, p_0, q_0, hargs, rfl, rfl, h0, r_0⟩ := trodAll_cons hA
  obtain ⟨v1, vs1, d1, ds1, p_1, q_1, rfl, rfl, rfl, h1, r_1⟩ := trodAll_cons r_0
  obtain ⟨v2, vs2, d2, ds2, p_2, q_2, rfl, rfl, rfl, h2, r_2⟩ := trodAll_cons r_1
  obtain ⟨rfl, rfl, rfl⟩ := trodAll_nil r_2
  obtain rfl : args = #[v0, v1, v2] := by cases args; simp_all
  obtain ⟨rfl, rfl⟩ := trodVars_none hV
  obtain ⟨p0, q0, r0, s0, t0, u0, rfl, wp0, wq0, wr0, ws0, wt0, wu0⟩ := open_box Try.underlying25 Try.underlying23 (by kernel_rfl) (by kernel_rfl) (by kernel_rfl) Try.underlying3 (hval 0 25 v0 rfl rfl) h0
  obtain ⟨p1, q1, r1, s1, t1, u1, rfl, wp1, wq1, wr1, ws1, wt1, wu1⟩ := open_box Try.underlying25 Try.underlying23 (by kernel_rfl) (by kernel_rfl) (by kernel_rfl) Try.underlying3 (hval 1 25 v1 rfl rfl) h1
  obtain ⟨x2, y2, z2, rfl, wx2, wy2, wz2⟩ := open_vec Try.underlying23 (by kernel_rfl) (by kernel_rfl) Try.underlying3 (hval 2 23 v2 rfl rfl) h2
  refine (vecMoves_c p0 q0 r0 s0 t0 u0 wp0 wq0 wr0 ws0 wt0 wu0 p1 q1 r1 s1 t1 u1 wp1 wq1 wr1 ws1 wt1 wu1 x2 y2 z2 wx2 wy2 wz2 W).mono fun e W' ⟨he, hb⟩ => ?_
  subst he
  exact ⟨_, rfl, law_post laidOut (by kernel_rfl) rfl (by kernel_rfl) Try.underlying4 hW' rfl rfl rfl hb⟩

/-- The statement. -/
theorem vecMoves_proved : Rows.VecMovesSaid :=
  OpenClaim.holds_of_wide 5 Try.f5 rfl rfl rfl rfl rfl rfl rfl ⟨rfl, rfl, rfl, rfl, rfl⟩ rfl rfl rfl rfl rfl (by kernel_rfl) Try.func5 (by kernel_rfl)
    (of_decide_eq_true (by kernel_rfl)) (by unfold Func.isWrapper; first | (rw [if_pos (by decide +kernel)]; kernel_rfl) | (rw [if_neg (by decide +kernel)]; exact ⟨rfl, rfl⟩))
    (fun os started H enc _ => vecMoves_lifted os started H enc)
end Go.Proofs.Ytghdjmckjfblmaa
