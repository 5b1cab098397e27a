/- VecBack holds: for any two ways. -/
import Derived.Test.YtghdjmckjfblmaaFloat
import Derived.Test.YtghdjmckjfblmaaVSmall
import Derived.Test.YtghdjmckjfblmaaShut
namespace Go.Proofs.Ytghdjmckjfblmaa
open Go.ChangeShapes Go.WideShapes Go.ChangeAt Go.RowKit

def hfI (n : Int) : Int := mulI n 32768
theorem back1 {a b : Int} (ha : -35184372088832 ≤ a ∧ a ≤ 35184372088832) (hb : -35184372088832 ≤ b ∧ b ≤ 35184372088832) : subI (addI a b) b = a ∧ addI (subI a b) b = a := by
  unfold subI addI
  rw [cutI_id (n := a) (by omega) (by omega), cutI_id (n := b) (by omega) (by omega)]
  unfold cutI
  omega
theorem back2 {a : Int} (ha : -35184372088832 ≤ a ∧ a ≤ 35184372088832) : 0 ≤ subI a (addI (hfI a) (hfI a)) ∧ subI a (addI (hfI a) (hfI a)) ≤ 1 := by
  have e : hfI a = a / 2 := by
    unfold hfI mulI
    rw [cutI_id (n := a) (by omega) (by omega), show cutI 32768 = 32768 by decide, show a * 32768 / 65536 = a / 2 by omega, cutI_id (by omega) (by omega)]
  rw [e]
  unfold subI addI
  rw [cutI_id (n := a) (by omega) (by omega)]
  unfold cutI
  omega
set_option maxHeartbeats 8000000 in
theorem vecBack_w (x y z x' y' z' a b c a' b' c' d0 d1 d2 : Int)
    (C1 : Hid (∀ w : World, Calls Try.prog 20 #[.agg #[.int .i64 x, .int .i64 y, .int .i64 z]] w fun o w' => o = .returned (.agg #[.int .i64 a, .int .i64 b, .int .i64 c]) ∧ Below w.heap.size w w'))
    (C2 : Hid (∀ w : World, Calls Try.prog 20 #[.agg #[.int .i64 x', .int .i64 y', .int .i64 z']] w fun o w' => o = .returned (.agg #[.int .i64 a', .int .i64 b', .int .i64 c']) ∧ Below w.heap.size w w'))
    (D0 : Hid (subI a (addI (mulI a 32768) (mulI a 32768)) = d0)) (D1 : Hid (subI b (addI (mulI b 32768) (mulI b 32768)) = d1)) (D2 : Hid (subI c (addI (mulI c 32768) (mulI c 32768)) = d2))
    (p0 : 0 ≤ d0 ∧ d0 ≤ 1) (p1 : 0 ≤ d1 ∧ d1 ≤ 1) (p2 : 0 ≤ d2 ∧ d2 ≤ 1)
    (s1 : veqB (subI (addI a a') a') (subI (addI b b') b') (subI (addI c c') c') a b c = true) (s2 : veqB (addI (subI a a') a') (addI (subI b b') b') (addI (subI c c') c') a b c = true) (w : World) :
    Calls Try.prog 9 #[.agg #[.int .i64 x, .int .i64 y, .int .i64 z], .agg #[.int .i64 x', .int .i64 y', .int .i64 z']] w fun e w' => e = .returned (.bool true) ∧ Below w.heap.size w w' := by
  have ve := vec_eq
  have vg := vec_guard
  obtain ⟨W0, hW⟩ : ∃ W0, W0 = (w.alloc (.cells #[.int .i64 x, .int .i64 y, .int .i64 z] 23)).alloc (.cells #[.int .i64 x', .int .i64 y', .int .i64 z'] 23) := ⟨_, rfl⟩
  have A : Blk W0 w.heap.size 23 #[.int .i64 x, .int .i64 y, .int .i64 z] := by rw [hW]; exact (Blk.new' rfl).alloc _
  have B : Blk W0 (w.heap.size + 1) 23 #[.int .i64 x', .int .i64 y', .int .i64 z'] := by rw [hW]; exact Blk.new' (by simp)
  have H : Below w.heap.size w W0 := by rw [hW]; go_grown
  go_enter Try.func9, Try.ntmps9
  go_upto_region 1 with (fail)
  rw [← hW]
  clear hW
  obtain ⟨k0, k1, k2, -, -, -⟩ := A.c3
  go_wp2_with fail
  clear k0 k1 k2
  refine (C1.out _).mono ?_; rintro o w1 ⟨rfl, hb⟩
  go_upto_region 2 with (fail)
  obtain ⟨W1, hW⟩ : ∃ W1, W1 = w1.alloc (.cells #[.int .i64 a, .int .i64 b, .int .i64 c] 23) := ⟨_, rfl⟩
  rw [← hW]
  replace B := B.step hb hW
  have X := Blk.fresh hW
  replace H := step_below H hb hW
  clear hW hb A
  obtain ⟨k0, k1, k2, -, -, -⟩ := B.c3
  go_wp2_with fail
  clear k0 k1 k2
  refine (C2.out _).mono ?_; rintro o w2 ⟨rfl, hb⟩
  go_upto_region 3 with (fail)
  obtain ⟨W2, hW⟩ : ∃ W2, W2 = w2.alloc (.cells #[.int .i64 a', .int .i64 b', .int .i64 c'] 23) := ⟨_, rfl⟩
  rw [← hW]
  replace X := X.step hb hW
  have Y := Blk.fresh hW
  replace H := step_below H hb hW
  clear hW hb B
  generalize w1.heap.size = nx at *
  generalize w2.heap.size = ny at *
  obtain ⟨k0, k1, k2, -, -, -⟩ := X.c3
  go_wp2_with fail
  clear k0 k1 k2
  refine (scale_c _ _ _ _ _).mono ?_; rintro o w3 ⟨rfl, hb⟩
  go_upto_region 4 with (fail)
  obtain ⟨W3, hW⟩ : ∃ W3, W3 = w3.alloc (.cells #[.int .i64 (mulI a 32768), .int .i64 (mulI b 32768), .int .i64 (mulI c 32768)] 23) := ⟨_, rfl⟩
  rw [← hW]
  replace X := X.step hb hW
  replace Y := Y.step hb hW
  have Z := Blk.fresh hW
  replace H := step_below H hb hW
  clear hW hb
  generalize w3.heap.size = nz at *
  obtain ⟨k0, k1, k2⟩ := X.re3
  obtain ⟨m0, m1, m2⟩ := Z.re3
  refine wp_region_float (t := 23) (z := #[.int .i64 0, .int .i64 0, .int .i64 0]) 5 8 (by kernel_rfl) rfl (by kernel_rfl) rfl (fun _ _ => by kernel_rfl) ?_
  simp only [List.take_succ_cons, List.take_zero, List.drop_succ_cons, List.drop_zero]
  repeat (refine wpRel_step (fun K hK => ?_); go_simp; first | (refine hK _ ?_; clear hK K) | (apply Exists.intro; refine ⟨fun _ => ?_, hK _ ?_⟩; (first | (go_at_call 23; exact add_c _ _ _ _ _ _ _) | exact sub_c _ _ _ _ _ _ _); clear hK K))
  refine wpRel_nil ?_
  intro b W hb hB hle
  clear k0 k1 k2 m0 m1 m2
  obtain ⟨k0, k1, k2, f0, f1, f2⟩ := hB.c3
  simp only [Act.put]
  go_wp2_with fail
  rw [D0.out, D1.out, D2.out]
  obtain ⟨W4, hW⟩ : ∃ W4, W4 = ((W.setCell ⟨b, 0, none⟩ (.int .i64 d0)).setCell ⟨b, 1, none⟩ (.int .i64 d1)).setCell ⟨b, 2, none⟩ (.int .i64 d2) := ⟨_, rfl⟩
  rw [← hW]
  clear k0 k1 k2 f0 f1 f2
  replace X := X.far3 hb hle hW
  replace Y := Y.far3 hb hle hW
  replace B := hB.put3 hW
  replace H := far_below3 H hb hle hW
  clear hW hb hle hB Z
  obtain ⟨k0, k1, k2⟩ := X.re3
  obtain ⟨m0, m1, m2⟩ := Y.re3
  obtain ⟨n0, n1, n2⟩ := B.re3
  refine wp_region_quiet_below (by kernel_rfl) (by kernel_rfl) ?_
  repeat (go_big_quiet_step (first | (go_at_call 23; exact Calls.regrown_of (add_c _ _ _ _ _ _ _)) | (go_at_call 34; exact Calls.regrown_of (sub_c _ _ _ _ _ _ _)) | exact Calls.regrown_of (vlives_c _)))
  refine wpQuiet_nil ?_
  intro w' hw'
  obtain ⟨rg, rfl⟩ := hw'
  go_wp2_with fail
  go_returns
  exact ⟨rfl, by (repeat' (first | (with_reducible exact Below.refl _ _) | (with_reducible assumption) | (with_reducible refine Below.alloc ?_ ?_ _) | (with_reducible refine Below.drew ?_) | (with_reducible refine Below.setCell ?_ ?_ _) | (with_reducible refine after ?_ (below_regrown _ _ _)) | (refine after ?_ (by with_reducible assumption)) | go_size))⟩

theorem vecBack_c (x y z : Int) (h1 : In64 x) (h2 : In64 y) (h3 : In64 z) (x' y' z' : Int) (h4 : In64 x') (h5 : In64 y') (h6 : In64 z') (w : World) :
    Calls Try.prog 9 #[.agg #[.int .i64 x, .int .i64 y, .int .i64 z], .agg #[.int .i64 x', .int .i64 y', .int .i64 z']] w fun e w' => e = .returned (.bool true) ∧ Below w.heap.size w w' :=
  vecBack_w x y z x' y' z' _ _ _ _ _ _ _ _ _ (Lib.hid (small_c x y z h1 h2 h3)) (Lib.hid (small_c x' y' z' h4 h5 h6)) (Lib.hid rfl) (Lib.hid rfl) (Lib.hid rfl) (back2 (smI_bd x)) (back2 (smI_bd y)) (back2 (smI_bd z))
    (veqB_iff.2 ⟨(back1 (smI_bd x) (smI_bd x')).1, (back1 (smI_bd y) (smI_bd y')).1, (back1 (smI_bd z) (smI_bd z')).1⟩) (veqB_iff.2 ⟨(back1 (smI_bd x) (smI_bd x')).2, (back1 (smI_bd y) (smI_bd y')).2, (back1 (smI_bd z) (smI_bd z')).2⟩) w

set_option maxRecDepth 100000 in
theorem vecBack_lifted (os : Os) (started : os.Started) (H : Type) (enc : TypeId × Value → H) :
    ReturnsInHanded {} Try.checked os 9 .any (Rows.vecBackSpec.pre6 enc Try.prog Try.f9 Rows.vecBackRow.domain false) (Rows.vecBackSpec.post enc Try.prog Try.f9 false true false false) := by
  refine returnsInHanded_of_change (C := Try.checked) own started (by kernel_rfl) Try.func9
    (ChangeSpec.witness6 (enc := enc) (C := Try.checked) false ⟨#[], #[.agg #[.int .i64 0, .int .i64 0, .int .i64 0], .agg #[.int .i64 0, .int .i64 0, .int .i64 0]], []⟩ 8 (by kernel_rfl) (by kernel_rfl) (by kernel_rfl) (by kernel_rfl)) ?_
  intro W base args ds gs before hval0 hW hcnd hsz
  have hval : ∀ (j : Nat) t v, Try.f9.params[j]? = some t → args[j]? = some v → Value.okWide Try.prog W .any base t v := hval0
  have hW' := hW
  obtain ⟨p, q, hA0, hV, rfl, hfz, hnd⟩ := hW
  have hA : DataW.TrodAll enc Try.prog W 0 (fun _ => true) true Try.f9.params.toList args.toList ds p := hA0
  rw [Try.params9] at hA hval
  obtain ⟨v0, vs0, d0, ds0, p_0, q_0, hargs, rfl, rfl, h0, r_0⟩ := trodAll_cons hA
  obtain ⟨v1, vs1, d1, ds1, p_1, q_1, rfl, rfl, rfl, h1, r_1⟩ := trodAll_cons r_0
  obtain ⟨rfl, rfl, rfl⟩ := trodAll_nil r_1
  obtain rfl : args = #[v0, v1] := by cases args; simp_all
  obtain ⟨rfl, rfl⟩ := trodVars_none hV
  obtain ⟨x0, y0, z0, rfl, wx0, wy0, wz0⟩ := open_vec Try.underlying23 (by kernel_rfl) (by kernel_rfl) Try.underlying3 (hval 0 23 v0 rfl rfl) h0
  obtain ⟨x1, y1, z1, rfl, wx1, wy1, wz1⟩ := open_vec Try.underlying23 (by kernel_rfl) (by kernel_rfl) Try.underlying3 (hval 1 23 v1 rfl rfl) h1
  refine (vecBack_c x0 y0 z0 wx0 wy0 wz0 x1 y1 z1 wx1 wy1 wz1 W).mono fun e W' ⟨he, hb⟩ => ?_
  subst he
  exact ⟨_, rfl, law_post laidOut (by kernel_rfl) rfl (by kernel_rfl) Try.underlying4 hW' rfl rfl rfl hb⟩

/-- The statement. -/
theorem vecBack_proved : Rows.VecBackSaid :=
  OpenClaim.holds_of_wide 9 Try.f9 rfl rfl rfl rfl rfl rfl rfl ⟨rfl, rfl, rfl, rfl, rfl⟩ rfl rfl rfl rfl rfl (by kernel_rfl) Try.func9 (by kernel_rfl)
    (of_decide_eq_true (by kernel_rfl)) (by unfold Func.isWrapper; first | (rw [if_pos (by decide +kernel)]; kernel_rfl) | (rw [if_neg (by decide +kernel)]; exact ⟨rfl, rfl⟩))
    (fun os started H enc _ => vecBack_lifted os started H enc)
end Go.Proofs.Ytghdjmckjfblmaa
