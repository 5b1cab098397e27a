/- VecAxes holds: for any way, axis and number. -/
import Derived.Test.YtghdjmckjfblmaaBase2
import Derived.Test.YtghdjmckjfblmaaFloat
import Derived.Test.YtghdjmckjfblmaaVLives
import Derived.Test.YtghdjmckjfblmaaRef2
import Derived.Test.YtghdjmckjfblmaaShut
namespace Go.Proofs.Ytghdjmckjfblmaa
open Go.ChangeShapes Go.WideShapes Go.ChangeAt Go.RowKit

theorem vec_ne (a b c a' b' c' : Int) (w : World) : (binOp .neq 23 (.agg #[.int .i64 a, .int .i64 b, .int .i64 c]) (.agg #[.int .i64 a', .int .i64 b', .int .i64 c'])).run Try.prog w = .ok (.bool (!veqB a b c a' b' c')) w := by
  rw [run_neq_struct]
  unfold veqB
  simp [go_sem]
  by_cases h1 : a = a' <;> by_cases h2 : b = b' <;> by_cases h3 : c = c' <;> simp [h1, h2, h3]
theorem wi_ax0 (x y z n : Int) : axI (wiI x 0 0 n) (wiI y 0 1 n) (wiI z 0 2 n) 0 = cutI n := rfl
theorem wi_ax1 (x y z n : Int) : axI (wiI x 1 0 n) (wiI y 1 1 n) (wiI z 1 2 n) 1 = cutI n := rfl
theorem wi_ax2 (x y z n : Int) : axI (wiI x 2 0 n) (wiI y 2 1 n) (wiI z 2 2 n) 2 = cutI n := rfl
set_option maxHeartbeats 8000000 in
theorem vecAxes_w (x y z ax n : Int) (hn : In64 n) (w : World) :
    Calls Try.prog 4 #[.agg #[.int .i64 x, .int .i64 y, .int .i64 z], .int .i64 ax, .int .i64 n] w fun e w' => e = .returned (.bool true) ∧ Below w.heap.size w w' := by
  have ve := vec_ne
  have vg := vec_guard
  have vs := veqB_self
  obtain ⟨W0, hW⟩ : ∃ W0, W0 = (w.alloc (.cells #[.int .i64 x, .int .i64 y, .int .i64 z] 23)).alloc (.cells #[.int .i64 ax, .int .i64 0, .int .i64 1, .int .i64 2] 3) := ⟨_, rfl⟩
  have A : Blk W0 w.heap.size 23 #[.int .i64 x, .int .i64 y, .int .i64 z] := by rw [hW]; exact (Blk.new' rfl).alloc _
  have S : Blk W0 (w.heap.size + 1) 3 #[.int .i64 ax, .int .i64 0, .int .i64 1, .int .i64 2] := by rw [hW]; exact Blk.new' (by simp)
  have H : Below w.heap.size w W0 := by rw [hW]; go_grown
  go_enter Try.func4, Try.ntmps4
  go_upto_region 3 with (fail)
  rw [← hW]
  clear hW
  have hsz : w.heap.size = w.heap.size := rfl
  generalize hv : w.heap.size = nv at A S hsz ⊢
  generalize nv + 1 = ns at *
  go_loopw [8] (fun i wr => ∃ k : Nat, k ≤ 4 ∧ i = .int .i64 k ∧ Blk wr nv 23 #[.int .i64 x, .int .i64 y, .int .i64 z] ∧ Blk wr ns 3 #[.int .i64 ax, .int .i64 0, .int .i64 1, .int .i64 2] ∧ Below w.heap.size w wr) (fun i _ => 4 - (intOf i).toNat)
  case atStart => exact ⟨0, by omega, rfl, A, S, H⟩
  case round =>
    clear A S H
    obtain ⟨k, hk, rfl, A, S, H⟩ := hrel
    rcases (show k = 0 ∨ k = 1 ∨ k = 2 ∨ k = 3 ∨ k = 4 by omega) with rfl | rfl | rfl | rfl | rfl
    · obtain ⟨a0, a1, a2⟩ := A.re3
      have s0 : ∀ d os, (Go.Sort.grow (redrawn wr d) os).cell? ⟨ns, 0, none⟩ = some (.int .i64 (ax)) := fun d os => (S.re d os).cell 0
      go_wp2_with fail
      refine wp_region_float (t := 23) (z := #[.int .i64 0, .int .i64 0, .int .i64 0]) 7 9 (by kernel_rfl) rfl (by kernel_rfl) rfl (fun _ _ => by kernel_rfl) ?_
      simp only [List.take_succ_cons, List.take_zero, List.drop_succ_cons, List.drop_zero]
      repeat (refine wpRel_step (fun K hK => ?_); go_simp; first | (refine hK _ ?_; clear hK K) | (apply Exists.intro; refine ⟨fun _ => ?_, hK _ ?_⟩; (exact with_c _ _ _ _ _ _); clear hK K))
      refine wpRel_nil ?_
      intro b W hb hB hle
      clear a0 a1 a2 s0
      obtain ⟨k0, k1, k2, f0, f1, f2⟩ := hB.c3
      simp only [Act.put]
      go_upto_region 6 with (fail)
      obtain ⟨W4, hW⟩ : ∃ W4, W4 = ((W.setCell ⟨b, 0, none⟩ (.int .i64 (wiI x (ax) 0 n))).setCell ⟨b, 1, none⟩ (.int .i64 (wiI y (ax) 1 n))).setCell ⟨b, 2, none⟩ (.int .i64 (wiI z (ax) 2 n)) := ⟨_, rfl⟩
      rw [← hW]
      clear k0 k1 k2 f0 f1 f2
      replace A := A.far3 hb hle hW
      replace S := S.far3 hb hle hW
      replace B := hB.put3 hW
      replace H := far_below3 H hb hle hW
      clear hW hb hle hB
      obtain ⟨a0, a1, a2⟩ := A.re3
      obtain ⟨b0, b1, b2⟩ := B.re3
      have s0 : ∀ d os, (Go.Sort.grow (redrawn W4 d) os).cell? ⟨ns, 0, none⟩ = some (.int .i64 (ax)) := fun d os => (S.re d os).cell 0
      refine wp_region_quiet_below (by kernel_rfl) (by kernel_rfl) ?_
      repeat (go_big_quiet_step (first | (go_at_call 17; exact Calls.regrown_of (axis_c _ _ _ _ _)) | (go_at_call 12; exact Calls.regrown_of (raxis_c _ _ _ _ _)) | exact Calls.regrown_of (rwith_c _ _ _ _ _ _)))
      refine wpQuiet_nil ?_
      intro w' hw'
      obtain ⟨rg, rfl⟩ := hw'
      clear a0 a1 a2 b0 b1 b2 s0
      obtain ⟨W5, hW⟩ : ∃ W5, W5 = Go.Sort.grow (redrawn W4 rg.d) rg.os := ⟨_, rfl⟩
      rw [← hW]
      replace A := A.reW hW
      replace S := S.reW hW
      replace B := B.reW hW
      replace H := re_below H hW
      clear hW
      obtain ⟨b0, b1, b2, -, -, -⟩ := B.c3
      go_wp2_with fail
      go_roundw
      case rel => exact ⟨1, by omega, by go_num, A, S, H⟩
      case measure => simp [intOf]
    · obtain ⟨a0, a1, a2⟩ := A.re3
      have s0 : ∀ d os, (Go.Sort.grow (redrawn wr d) os).cell? ⟨ns, 1, none⟩ = some (.int .i64 (0)) := fun d os => (S.re d os).cell 1
      go_wp2_with fail
      refine wp_region_float (t := 23) (z := #[.int .i64 0, .int .i64 0, .int .i64 0]) 7 9 (by kernel_rfl) rfl (by kernel_rfl) rfl (fun _ _ => by kernel_rfl) ?_
      simp only [List.take_succ_cons, List.take_zero, List.drop_succ_cons, List.drop_zero]
      repeat (refine wpRel_step (fun K hK => ?_); go_simp; first | (refine hK _ ?_; clear hK K) | (apply Exists.intro; refine ⟨fun _ => ?_, hK _ ?_⟩; (exact with_c _ _ _ _ _ _); clear hK K))
      refine wpRel_nil ?_
      intro b W hb hB hle
      clear a0 a1 a2 s0
      obtain ⟨k0, k1, k2, f0, f1, f2⟩ := hB.c3
      simp only [Act.put]
      go_upto_region 6 with (fail)
      obtain ⟨W4, hW⟩ : ∃ W4, W4 = ((W.setCell ⟨b, 0, none⟩ (.int .i64 (wiI x (0) 0 n))).setCell ⟨b, 1, none⟩ (.int .i64 (wiI y (0) 1 n))).setCell ⟨b, 2, none⟩ (.int .i64 (wiI z (0) 2 n)) := ⟨_, rfl⟩
      rw [← hW]
      clear k0 k1 k2 f0 f1 f2
      replace A := A.far3 hb hle hW
      replace S := S.far3 hb hle hW
      replace B := hB.put3 hW
      replace H := far_below3 H hb hle hW
      clear hW hb hle hB
      obtain ⟨a0, a1, a2⟩ := A.re3
      obtain ⟨b0, b1, b2⟩ := B.re3
      have s0 : ∀ d os, (Go.Sort.grow (redrawn W4 d) os).cell? ⟨ns, 1, none⟩ = some (.int .i64 (0)) := fun d os => (S.re d os).cell 1
      refine wp_region_quiet_below (by kernel_rfl) (by kernel_rfl) ?_
      repeat (go_big_quiet_step (first | (go_at_call 17; exact Calls.regrown_of (axis_c _ _ _ _ _)) | (go_at_call 12; exact Calls.regrown_of (raxis_c _ _ _ _ _)) | exact Calls.regrown_of (rwith_c _ _ _ _ _ _)))
      refine wpQuiet_nil ?_
      intro w' hw'
      obtain ⟨rg, rfl⟩ := hw'
      clear a0 a1 a2 b0 b1 b2 s0
      obtain ⟨W5, hW⟩ : ∃ W5, W5 = Go.Sort.grow (redrawn W4 rg.d) rg.os := ⟨_, rfl⟩
      rw [← hW]
      replace A := A.reW hW
      replace S := S.reW hW
      replace B := B.reW hW
      replace H := re_below H hW
      clear hW
      obtain ⟨b0, b1, b2, -, -, -⟩ := B.c3
      go_wp2_with (first | (go_at_call 17; refine (axis_e _ _ _ _ (cutI n) (wi_ax0 x y z n) _).mono ?_; rintro o w5 ⟨rfl, hb⟩; replace A := A.on hb; replace S := S.on hb; replace H := after H hb; clear hb) | (refine (rcut_c _ _).mono ?_; rintro o w6 ⟨rfl, rfl⟩))
      go_roundw
      case rel => exact ⟨2, by omega, by go_num, A, S, H⟩
      case measure => simp [intOf]
    · obtain ⟨a0, a1, a2⟩ := A.re3
      have s0 : ∀ d os, (Go.Sort.grow (redrawn wr d) os).cell? ⟨ns, 2, none⟩ = some (.int .i64 (1)) := fun d os => (S.re d os).cell 2
      go_wp2_with fail
      refine wp_region_float (t := 23) (z := #[.int .i64 0, .int .i64 0, .int .i64 0]) 7 9 (by kernel_rfl) rfl (by kernel_rfl) rfl (fun _ _ => by kernel_rfl) ?_
      simp only [List.take_succ_cons, List.take_zero, List.drop_succ_cons, List.drop_zero]
      repeat (refine wpRel_step (fun K hK => ?_); go_simp; first | (refine hK _ ?_; clear hK K) | (apply Exists.intro; refine ⟨fun _ => ?_, hK _ ?_⟩; (exact with_c _ _ _ _ _ _); clear hK K))
      refine wpRel_nil ?_
      intro b W hb hB hle
      clear a0 a1 a2 s0
      obtain ⟨k0, k1, k2, f0, f1, f2⟩ := hB.c3
      simp only [Act.put]
      go_upto_region 6 with (fail)
      obtain ⟨W4, hW⟩ : ∃ W4, W4 = ((W.setCell ⟨b, 0, none⟩ (.int .i64 (wiI x (1) 0 n))).setCell ⟨b, 1, none⟩ (.int .i64 (wiI y (1) 1 n))).setCell ⟨b, 2, none⟩ (.int .i64 (wiI z (1) 2 n)) := ⟨_, rfl⟩
      rw [← hW]
      clear k0 k1 k2 f0 f1 f2
      replace A := A.far3 hb hle hW
      replace S := S.far3 hb hle hW
      replace B := hB.put3 hW
      replace H := far_below3 H hb hle hW
      clear hW hb hle hB
      obtain ⟨a0, a1, a2⟩ := A.re3
      obtain ⟨b0, b1, b2⟩ := B.re3
      have s0 : ∀ d os, (Go.Sort.grow (redrawn W4 d) os).cell? ⟨ns, 2, none⟩ = some (.int .i64 (1)) := fun d os => (S.re d os).cell 2
      refine wp_region_quiet_below (by kernel_rfl) (by kernel_rfl) ?_
      repeat (go_big_quiet_step (first | (go_at_call 17; exact Calls.regrown_of (axis_c _ _ _ _ _)) | (go_at_call 12; exact Calls.regrown_of (raxis_c _ _ _ _ _)) | exact Calls.regrown_of (rwith_c _ _ _ _ _ _)))
      refine wpQuiet_nil ?_
      intro w' hw'
      obtain ⟨rg, rfl⟩ := hw'
      clear a0 a1 a2 b0 b1 b2 s0
      obtain ⟨W5, hW⟩ : ∃ W5, W5 = Go.Sort.grow (redrawn W4 rg.d) rg.os := ⟨_, rfl⟩
      rw [← hW]
      replace A := A.reW hW
      replace S := S.reW hW
      replace B := B.reW hW
      replace H := re_below H hW
      clear hW
      obtain ⟨b0, b1, b2, -, -, -⟩ := B.c3
      go_wp2_with (first | (go_at_call 17; refine (axis_e _ _ _ _ (cutI n) (wi_ax1 x y z n) _).mono ?_; rintro o w5 ⟨rfl, hb⟩; replace A := A.on hb; replace S := S.on hb; replace H := after H hb; clear hb) | (refine (rcut_c _ _).mono ?_; rintro o w6 ⟨rfl, rfl⟩))
      go_roundw
      case rel => exact ⟨3, by omega, by go_num, A, S, H⟩
      case measure => simp [intOf]
    · obtain ⟨a0, a1, a2⟩ := A.re3
      have s0 : ∀ d os, (Go.Sort.grow (redrawn wr d) os).cell? ⟨ns, 3, none⟩ = some (.int .i64 (2)) := fun d os => (S.re d os).cell 3
      go_wp2_with fail
      refine wp_region_float (t := 23) (z := #[.int .i64 0, .int .i64 0, .int .i64 0]) 7 9 (by kernel_rfl) rfl (by kernel_rfl) rfl (fun _ _ => by kernel_rfl) ?_
      simp only [List.take_succ_cons, List.take_zero, List.drop_succ_cons, List.drop_zero]
      repeat (refine wpRel_step (fun K hK => ?_); go_simp; first | (refine hK _ ?_; clear hK K) | (apply Exists.intro; refine ⟨fun _ => ?_, hK _ ?_⟩; (exact with_c _ _ _ _ _ _); clear hK K))
      refine wpRel_nil ?_
      intro b W hb hB hle
      clear a0 a1 a2 s0
      obtain ⟨k0, k1, k2, f0, f1, f2⟩ := hB.c3
      simp only [Act.put]
      go_upto_region 6 with (fail)
      obtain ⟨W4, hW⟩ : ∃ W4, W4 = ((W.setCell ⟨b, 0, none⟩ (.int .i64 (wiI x (2) 0 n))).setCell ⟨b, 1, none⟩ (.int .i64 (wiI y (2) 1 n))).setCell ⟨b, 2, none⟩ (.int .i64 (wiI z (2) 2 n)) := ⟨_, rfl⟩
      rw [← hW]
      clear k0 k1 k2 f0 f1 f2
      replace A := A.far3 hb hle hW
      replace S := S.far3 hb hle hW
      replace B := hB.put3 hW
      replace H := far_below3 H hb hle hW
      clear hW hb hle hB
      obtain ⟨a0, a1, a2⟩ := A.re3
      obtain ⟨b0, b1, b2⟩ := B.re3
      have s0 : ∀ d os, (Go.Sort.grow (redrawn W4 d) os).cell? ⟨ns, 3, none⟩ = some (.int .i64 (2)) := fun d os => (S.re d os).cell 3
      refine wp_region_quiet_below (by kernel_rfl) (by kernel_rfl) ?_
      repeat (go_big_quiet_step (first | (go_at_call 17; exact Calls.regrown_of (axis_c _ _ _ _ _)) | (go_at_call 12; exact Calls.regrown_of (raxis_c _ _ _ _ _)) | exact Calls.regrown_of (rwith_c _ _ _ _ _ _)))
      refine wpQuiet_nil ?_
      intro w' hw'
      obtain ⟨rg, rfl⟩ := hw'
      clear a0 a1 a2 b0 b1 b2 s0
      obtain ⟨W5, hW⟩ : ∃ W5, W5 = Go.Sort.grow (redrawn W4 rg.d) rg.os := ⟨_, rfl⟩
      rw [← hW]
      replace A := A.reW hW
      replace S := S.reW hW
      replace B := B.reW hW
      replace H := re_below H hW
      clear hW
      obtain ⟨b0, b1, b2, -, -, -⟩ := B.c3
      go_wp2_with (first | (go_at_call 17; refine (axis_e _ _ _ _ (cutI n) (wi_ax2 x y z n) _).mono ?_; rintro o w5 ⟨rfl, hb⟩; replace A := A.on hb; replace S := S.on hb; replace H := after H hb; clear hb) | (refine (rcut_c _ _).mono ?_; rintro o w6 ⟨rfl, rfl⟩))
      go_roundw
      case rel => exact ⟨4, by omega, by go_num, A, S, H⟩
      case measure => simp [intOf]
    · go_wp2_with fail
      refine (vlives_c _).mono ?_; rintro o w4 ⟨rfl, hb2⟩
      go_wp2_with fail
      go_returns
      exact ⟨rfl, after H hb2⟩

theorem vecAxes_c (x y z : Int) (_ : In64 x) (_ : In64 y) (_ : In64 z) (ax : Int) (_ : In64 ax) (n : Int) (hn : In64 n) (w : World) :
    Calls Try.prog 4 #[.agg #[.int .i64 x, .int .i64 y, .int .i64 z], .int .i64 ax, .int .i64 n] w fun e w' => e = .returned (.bool true) ∧ Below w.heap.size w w' := vecAxes_w x y z ax n hn w

set_option maxRecDepth 100000 in
theorem vecAxes_lifted (os : Os) (started : os.Started) (H : Type) (enc : TypeId × Value → H) :
    ReturnsInHanded {} Try.checked os 4 .any (Rows.vecAxesSpec.pre6 enc Try.prog Try.f4 Rows.vecAxesRow.domain false) (Rows.vecAxesSpec.post enc Try.prog Try.f4 false true false false) := by
  refine returnsInHanded_of_change (C := Try.checked) own started (by kernel_rfl) Try.func4
    (ChangeSpec.witness6 (enc := enc) (C := Try.checked) false ⟨#[], #[.agg #[.int .i64 0, .int .i64 0, .int .i64 0], .int .i64 0, .int .i64 0], []⟩ 8 (by kernel_rfl) (by kernel_rfl) (by kernel_rfl) (by kernel_rfl)) ?_
  intro W base args ds gs before hval0 hW hcnd hsz
  have hval : ∀ (j : Nat) t v, Try.f4.params[j]? = some t → args[j]? = some v → Value.okWide Try.prog W .any base t v := hval0
  have hW' := hW
  obtain ⟨p, q, hA0, hV, rfl, hfz, hnd⟩ := hW
  have hA : DataW.TrodAll enc Try.prog W 0 (fun _ => true) true Try.f4.params.toList args.toList ds p := hA0
  rw [Try.params4] at hA hval
  obtain ⟨v0, vs0, d0, ds0, p_0, q_0, hargs, rfl, rfl, h0, r_0⟩ := trodAll_cons hA
  obtain ⟨v1, vs1, d1, ds1, p_1, q_1, rfl, rfl, rfl, h1, r_1⟩ := trodAll_cons r_0
  obtain ⟨v2, vs2, d2, ds2, p_2, q_2, rfl, rfl, rfl, h2, r_2⟩ := trodAll_cons r_1
  obtain ⟨rfl, rfl, rfl⟩ := trodAll_nil r_2
  obtain rfl : args = #[v0, v1, v2] := by cases args; simp_all
  obtain ⟨rfl, rfl⟩ := trodVars_none hV
  obtain ⟨x0, y0, z0, rfl, wx0, wy0, wz0⟩ := open_vec Try.underlying23 (by kernel_rfl) (by kernel_rfl) Try.underlying3 (hval 0 23 v0 rfl rfl) h0
  obtain ⟨a1, rfl, rfl, rfl, w1⟩ := open_int Try.underlying3 (hval 1 3 v1 rfl rfl) h1
  obtain ⟨a2, rfl, rfl, rfl, w2⟩ := open_int Try.underlying3 (hval 2 3 v2 rfl rfl) h2
  refine (vecAxes_c x0 y0 z0 wx0 wy0 wz0 a1 (in64_of_wf w1) a2 (in64_of_wf w2) W).mono fun e W' ⟨he, hb⟩ => ?_
  subst he
  exact ⟨_, rfl, law_post laidOut (by kernel_rfl) rfl (by kernel_rfl) Try.underlying4 hW' rfl rfl rfl hb⟩

/-- The statement. -/
theorem vecAxes_proved : Rows.VecAxesSaid :=
  OpenClaim.holds_of_wide 4 Try.f4 rfl rfl rfl rfl rfl rfl rfl ⟨rfl, rfl, rfl, rfl, rfl⟩ rfl rfl rfl rfl rfl (by kernel_rfl) Try.func4 (by kernel_rfl)
    (of_decide_eq_true (by kernel_rfl)) (by unfold Func.isWrapper; first | (rw [if_pos (by decide +kernel)]; kernel_rfl) | (rw [if_neg (by decide +kernel)]; exact ⟨rfl, rfl⟩))
    (fun os started H enc _ => vecAxes_lifted os started H enc)
end Go.Proofs.Ytghdjmckjfblmaa
