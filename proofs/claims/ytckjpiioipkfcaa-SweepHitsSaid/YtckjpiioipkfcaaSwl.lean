/- Down; the laws' way; the document's example of layer 15. -/
import Derived.Test.YtckjpiioipkfcaaAlo
import Derived.Test.YtckjpiioipkfcaaFix
namespace Go.Proofs.Ytckjpiioipkfcaa
open Go.RowKit Go.Shelf
attribute [local go_sem] Oper.semAt_some

set_option maxHeartbeats 4000000 in
theorem drop_c (V : FuncId) (lv : Array Value) (val : Cl → Int) (a b c d e f most M : Int) (hM : M ≤ 100000000000) (hM0 : 0 ≤ M) (hB : Sm M a b c d e f) (hm1 : -1000000000 ≤ most) (hm2 : most ≤ 1000000000) (w : World)
    (eV : ∀ args w, (callFunc V args).run Try.prog w = .ok (.enter V args) w) (hV : Tells Try.prog V lv val w) :
    Calls Try.prog 19 #[.func (.func V) #[] lv, .agg #[.int .i64 a, .int .i64 b, .int .i64 c, .int .i64 d, .int .i64 e, .int .i64 f], .int .i64 most] w fun r w' => r = .returned (.int .i64 (-(axisV val a b c d e f 1 (-mxI most 0)).1)) ∧ Below w.heap.size w w' := by
  have hx1 : -1000000000 ≤ mxI most 0 := by unfold mxI; omega
  have hx2 : mxI most 0 ≤ 1000000000 := by unfold mxI; omega
  have hfar := axisV_far val a b c d e f 1 (-mxI most 0)
  have hmx := @run_mx Try.prog
  have HC := Lib.hid fun W (h : Below w.heap.size w W) => saxis_c V lv val a b c d e f 1 (-mxI most 0) M hM hM0 hB W eV (hV.on h)
  generalize axisV val a b c d e f 1 (-mxI most 0) = r at HC hfar ⊢
  obtain ⟨n, hit⟩ := r
  dsimp only at hfar ⊢
  simp only [axT] at HC
  obtain ⟨mx, hmm⟩ : ∃ mx, mx = mxI most 0 := ⟨_, rfl⟩
  rw [← hmm] at HC hx1 hx2
  have e1 : -9223372036854775808 ≤ -mx := by omega
  have e2 : -mx ≤ 9223372036854775807 := by omega
  have e3 : -9223372036854775808 ≤ -n := by omega
  have e4 : -n ≤ 9223372036854775807 := by omega
  have hmx1 : ∀ (ts : Array TypeId) (t : TypeId) (w : World), (Builtin.max_ ts t #[.int .i64 most, .int .i64 0]).run Try.prog w = .ok (.int .i64 mx) w := fun ts t w => by rw [hmx, ← hmm]
  clear hmx hmm hV eV hB hM hM0 hm1 hm2 hfar
  have U : Blk (w.alloc (.cells #[.int .i64 a, .int .i64 b, .int .i64 c, .int .i64 d, .int .i64 e, .int .i64 f] 28)) w.heap.size 28 _ := Blk.new' rfl
  have H0 : Below w.heap.size w (w.alloc (.cells #[.int .i64 a, .int .i64 b, .int .i64 c, .int .i64 d, .int .i64 e, .int .i64 f] 28)) := (Below.refl _ _).alloc (Nat.le_refl _) _
  obtain ⟨u0, u1, u2, u3, u4, u5⟩ := U.c6.1
  go_enter Try.func19, Try.ntmps19
  go_wp2_with (go_at_call 13; refine (HC.out _ H0).mono ?_; rintro e_ w1 ⟨rfl, h1⟩)
  go_returns
  exact ⟨rfl, after H0 h1⟩
def wayI (n : Int) : Int := arI n 786433 - 393216
theorem wayI_bd (n : Int) : -393216 ≤ wayI n ∧ wayI n ≤ 393216 := by
  have h1 := arI_lo n (m := 786433) (by omega)
  have h2 := arI_hi n (m := 786433) (by omega)
  unfold wayI; omega
set_option maxHeartbeats 4000000 in
theorem way_c (x y z : Int) (hx : In64 x) (hy : In64 y) (hz : In64 z) (w : World) : Calls Try.prog 17 #[.agg #[.int .i64 x, .int .i64 y, .int .i64 z]] w fun r w' => r = .returned (.agg #[.int .i64 (wayI x), .int .i64 (wayI y), .int .i64 (wayI z)]) ∧ Below w.heap.size w w' := by
  have U : Blk ((w.alloc (.cells #[.int .i64 x, .int .i64 y, .int .i64 z] 26)).alloc (.cells #[.int .i64 0, .int .i64 0, .int .i64 0] 26)) w.heap.size 26 #[.int .i64 x, .int .i64 y, .int .i64 z] := (Blk.new' rfl).alloc _
  have R0 : Blk ((w.alloc (.cells #[.int .i64 x, .int .i64 y, .int .i64 z] 26)).alloc (.cells #[.int .i64 0, .int .i64 0, .int .i64 0] 26)) (w.heap.size + 1) 26 #[.int .i64 0, .int .i64 0, .int .i64 0] := Blk.new' (by simp)
  have CA := Lib.hid fun (n : Int) (hn : In64 n) W => calls_bel (around_c n 786433 hn.1 hn.2 (by omega) W)
  unfold wayI
  have lx := arI_lo x (m := 786433) (by omega)
  have gx := arI_hi x (m := 786433) (by omega)
  have wx : IntKind.i64.wrap (arI x 786433 - 393216) = arI x 786433 - 393216 := IntWalk.i64_in _ (by omega)
  have ly := arI_lo y (m := 786433) (by omega)
  have gy := arI_hi y (m := 786433) (by omega)
  have wy : IntKind.i64.wrap (arI y 786433 - 393216) = arI y 786433 - 393216 := IntWalk.i64_in _ (by omega)
  have lz := arI_lo z (m := 786433) (by omega)
  have gz := arI_hi z (m := 786433) (by omega)
  have wz : IntKind.i64.wrap (arI z 786433 - 393216) = arI z 786433 - 393216 := IntWalk.i64_in _ (by omega)
  clear lx ly lz gx gy gz
  obtain ⟨k0, k1, k2⟩ := U.re3
  go_enter Try.func17, Try.ntmps17
  go_wp2_with fail
  refine wp_region_last_below 13 (by kernel_rfl) rfl (by kernel_rfl) ?_
  simp only [List.take_succ_cons, List.take_zero, List.drop_succ_cons, List.drop_zero]
  repeat (go_big_quiet_step (exact Calls.regrown_of (CA.out _ (by assumption) _)))
  refine wpQuiet_nil ?_
  intro w' hw'
  obtain ⟨rg, rfl⟩ := hw'
  have R := R0.re rg.d rg.os
  obtain ⟨r0, r1, r2, s0, s1, s2⟩ := R.c3
  go_wp2_with fail
  have R2 := R.st3 (.int .i64 (arI x 786433 - 393216)) (.int .i64 (arI y 786433 - 393216)) (.int .i64 (arI z 786433 - 393216))
  obtain ⟨d0, d1, d2, -, -, -⟩ := R2.c3
  exact bodyPost_ret (v := .agg #[.int .i64 (arI x 786433 - 393216), .int .i64 (arI y 786433 - 393216), .int .i64 (arI z 786433 - 393216)]) (by simp [results, Try.results17, go_sem, d0, d1, d2]) rfl ⟨rfl, by (repeat' (first | (with_reducible exact Below.refl _ _) | (with_reducible assumption) | (with_reducible refine Below.alloc ?_ ?_ _) | (with_reducible refine Below.drew ?_) | (with_reducible refine Below.setCell ?_ ?_ _) | (with_reducible refine after ?_ (below_regrown _ _ _)) | (refine after ?_ (by with_reducible assumption)) | go_size))⟩
theorem lives15 : axisV (fun x => atG 0 (fun _ => 0) 0 x.1 x.2.1 x.2.2) 0 32768 0 65536 98304 65536 1 (-65536) = (-32768, true) := by decide +kernel
set_option maxHeartbeats 4000000 in
theorem slives_c (w : World) : Calls Try.prog 14 #[] w fun r w' => r = .returned (.bool true) ∧ Below w.heap.size w w' := by
  have T1 : ∀ W b, Blk W b 24 #[.slice none 0 0, .int .i64 0] → Tells Try.prog 30 #[.pointer (some ⟨b, 0, none⟩)] (fun x => atG 0 (fun _ => 0) 0 x.1 x.2.1 x.2.2) W := fun W b h => view_tells h (fun h => by omega)
  have c1 := fun W b (h : Blk W b 24 #[.slice none 0 0, .int .i64 0]) => saxis_c 30 #[.pointer (some ⟨b, 0, none⟩)] _ 0 32768 0 65536 98304 65536 1 (-65536) 100000 (by decide) (by decide) ⟨by decide, by decide, by decide, by decide, by decide, by decide, by decide, by decide, by decide, by decide, by decide, by decide⟩ W view_en (T1 W b h)
  rw [lives15] at c1
  simp only [axT] at c1
  have C1 := Lib.hid c1
  clear c1 T1
  go_enter Try.func14, Try.ntmps14
  go_upto_region 2 with (fail)
  have B : Blk (w.alloc (.cells #[.int .i64 0, .int .i64 32768, .int .i64 0, .int .i64 65536, .int .i64 98304, .int .i64 65536] 28)) w.heap.size 28 _ := Blk.new' rfl
  have H0 : Below w.heap.size w (w.alloc (.cells #[.int .i64 0, .int .i64 32768, .int .i64 0, .int .i64 65536, .int .i64 98304, .int .i64 65536] 28)) := (Below.refl _ _).alloc (Nat.le_refl _) _
  obtain ⟨x0, x1, x2, x3, x4, x5⟩ := B.re6
  refine wp_sched [0, 2, 0, 2, 2, 2, 2, 2, 2] (fun i v w => match i with | 1 => ∃ b9, v = .func (.func 30) #[] #[.pointer (some ⟨b9, 0, none⟩)] ∧ Blk w b9 24 #[.slice none 0 0, .int .i64 0] | 3 => v = .tuple #[.int .i64 (-32768), .bool true] | 4 => v = .tuple #[.int .i64 (-32768), .bool true] | 5 => v = .int .i64 (-32768) | 7 => v = .int .i64 (-32768) | _ => v = .bool true) (by kernel_rfl) (by kernel_rfl) (fun i v w w' h hb => by match i, h with | 1, h => obtain ⟨b, h1, h2⟩ := h; exact ⟨b, h1, h2.on hb⟩ | 0, h => exact h | 2, h => exact h | 3, h => exact h | 4, h => exact h | 5, h => exact h | 6, h => exact h | 7, h => exact h | n + 8, h => exact h) ?_
  repeat (first | (refine wpQs_s ?_) | (refine wpQs_q (fun K hK => ?_); go_simp; first | (refine hK _ ?_; clear hK K) | (apply Exists.intro; refine ⟨fun _ => ?_, hK _ ?_⟩; (fail); clear hK K)) | (refine wpQs_f (fun K hK => ?_); go_simp; refine hK _ ?_; clear hK K))
  refine wpQs_nil ?_
  refine wpLs_skip ?_
  refine wpLs_one ?lsA (fun v_ => ?_)
  case lsA => (intro w_ hw_ hp_; (first | (go_simp; refine (view_c _ _ _).mono ?_; rintro e_ w9 ⟨rfl, rfl⟩; exact ⟨_, rfl, Kept.of_below ((Below.refl _ _).alloc (Nat.le_refl _) _), _, rfl, Blk.new' rfl⟩) | (dsimp only at hF_; have h8 := hF_.2 (by kernel_rfl); have E := h8; subst E; go_simp <;> first | exact Kept.refl _ _ | exact ⟨Kept.refl _ _, rfl⟩) | (dsimp only at hF_; have h8 := hF_.1.2 (by kernel_rfl); have E := h8; subst E; go_simp <;> first | exact Kept.refl _ _ | exact ⟨Kept.refl _ _, rfl⟩) | (dsimp only at hF_; have h8 := hF_.2 (by kernel_rfl); obtain ⟨b9, E, hb⟩ := h8; subst E; go_simp; refine (C1.out _ _ hb).mono ?_; rintro e_ w9 ⟨rfl, h9⟩; exact ⟨rfl, Kept.of_below h9⟩)))
  refine wpLs_skip ?_
  refine wpLs_oneF ?lsA (fun v_ => ?_)
  case lsA => (intro w_ hw_ hp_ hF_; (first | (go_simp; refine (view_c _ _ _).mono ?_; rintro e_ w9 ⟨rfl, rfl⟩; exact ⟨_, rfl, Kept.of_below ((Below.refl _ _).alloc (Nat.le_refl _) _), _, rfl, Blk.new' rfl⟩) | (dsimp only at hF_; have h8 := hF_.2 (by kernel_rfl); have E := h8; subst E; go_simp <;> first | exact Kept.refl _ _ | exact ⟨Kept.refl _ _, rfl⟩) | (dsimp only at hF_; have h8 := hF_.1.2 (by kernel_rfl); have E := h8; subst E; go_simp <;> first | exact Kept.refl _ _ | exact ⟨Kept.refl _ _, rfl⟩) | (dsimp only at hF_; have h8 := hF_.2 (by kernel_rfl); obtain ⟨b9, E, hb⟩ := h8; subst E; go_simp; refine (C1.out _ _ hb).mono ?_; rintro e_ w9 ⟨rfl, h9⟩; exact ⟨rfl, Kept.of_below h9⟩)))
  refine wpLs_oneF ?lsA (fun v_ => ?_)
  case lsA => (intro w_ hw_ hp_ hF_; (first | (go_simp; refine (view_c _ _ _).mono ?_; rintro e_ w9 ⟨rfl, rfl⟩; exact ⟨_, rfl, Kept.of_below ((Below.refl _ _).alloc (Nat.le_refl _) _), _, rfl, Blk.new' rfl⟩) | (dsimp only at hF_; have h8 := hF_.2 (by kernel_rfl); have E := h8; subst E; go_simp <;> first | exact Kept.refl _ _ | exact ⟨Kept.refl _ _, rfl⟩) | (dsimp only at hF_; have h8 := hF_.1.2 (by kernel_rfl); have E := h8; subst E; go_simp <;> first | exact Kept.refl _ _ | exact ⟨Kept.refl _ _, rfl⟩) | (dsimp only at hF_; have h8 := hF_.2 (by kernel_rfl); obtain ⟨b9, E, hb⟩ := h8; subst E; go_simp; refine (C1.out _ _ hb).mono ?_; rintro e_ w9 ⟨rfl, h9⟩; exact ⟨rfl, Kept.of_below h9⟩)))
  refine wpLs_oneF ?lsA (fun v_ => ?_)
  case lsA => (intro w_ hw_ hp_ hF_; (first | (go_simp; refine (view_c _ _ _).mono ?_; rintro e_ w9 ⟨rfl, rfl⟩; exact ⟨_, rfl, Kept.of_below ((Below.refl _ _).alloc (Nat.le_refl _) _), _, rfl, Blk.new' rfl⟩) | (dsimp only at hF_; have h8 := hF_.2 (by kernel_rfl); have E := h8; subst E; go_simp <;> first | exact Kept.refl _ _ | exact ⟨Kept.refl _ _, rfl⟩) | (dsimp only at hF_; have h8 := hF_.1.2 (by kernel_rfl); have E := h8; subst E; go_simp <;> first | exact Kept.refl _ _ | exact ⟨Kept.refl _ _, rfl⟩) | (dsimp only at hF_; have h8 := hF_.2 (by kernel_rfl); obtain ⟨b9, E, hb⟩ := h8; subst E; go_simp; refine (C1.out _ _ hb).mono ?_; rintro e_ w9 ⟨rfl, h9⟩; exact ⟨rfl, Kept.of_below h9⟩)))
  refine wpLs_oneF ?lsA (fun v_ => ?_)
  case lsA => (intro w_ hw_ hp_ hF_; (first | (go_simp; refine (view_c _ _ _).mono ?_; rintro e_ w9 ⟨rfl, rfl⟩; exact ⟨_, rfl, Kept.of_below ((Below.refl _ _).alloc (Nat.le_refl _) _), _, rfl, Blk.new' rfl⟩) | (dsimp only at hF_; have h8 := hF_.2 (by kernel_rfl); have E := h8; subst E; go_simp <;> first | exact Kept.refl _ _ | exact ⟨Kept.refl _ _, rfl⟩) | (dsimp only at hF_; have h8 := hF_.1.2 (by kernel_rfl); have E := h8; subst E; go_simp <;> first | exact Kept.refl _ _ | exact ⟨Kept.refl _ _, rfl⟩) | (dsimp only at hF_; have h8 := hF_.2 (by kernel_rfl); obtain ⟨b9, E, hb⟩ := h8; subst E; go_simp; refine (C1.out _ _ hb).mono ?_; rintro e_ w9 ⟨rfl, h9⟩; exact ⟨rfl, Kept.of_below h9⟩)))
  refine wpLs_oneF ?lsA (fun v_ => ?_)
  case lsA => (intro w_ hw_ hp_ hF_; (first | (go_simp; refine (view_c _ _ _).mono ?_; rintro e_ w9 ⟨rfl, rfl⟩; exact ⟨_, rfl, Kept.of_below ((Below.refl _ _).alloc (Nat.le_refl _) _), _, rfl, Blk.new' rfl⟩) | (dsimp only at hF_; have h8 := hF_.2 (by kernel_rfl); have E := h8; subst E; go_simp <;> first | exact Kept.refl _ _ | exact ⟨Kept.refl _ _, rfl⟩) | (dsimp only at hF_; have h8 := hF_.1.2 (by kernel_rfl); have E := h8; subst E; go_simp <;> first | exact Kept.refl _ _ | exact ⟨Kept.refl _ _, rfl⟩) | (dsimp only at hF_; have h8 := hF_.2 (by kernel_rfl); obtain ⟨b9, E, hb⟩ := h8; subst E; go_simp; refine (C1.out _ _ hb).mono ?_; rintro e_ w9 ⟨rfl, h9⟩; exact ⟨rfl, Kept.of_below h9⟩)))
  refine wpLs_oneF ?lsA (fun v_ => ?_)
  case lsA => (intro w_ hw_ hp_ hF_; (first | (go_simp; refine (view_c _ _ _).mono ?_; rintro e_ w9 ⟨rfl, rfl⟩; exact ⟨_, rfl, Kept.of_below ((Below.refl _ _).alloc (Nat.le_refl _) _), _, rfl, Blk.new' rfl⟩) | (dsimp only at hF_; have h8 := hF_.2 (by kernel_rfl); have E := h8; subst E; go_simp <;> first | exact Kept.refl _ _ | exact ⟨Kept.refl _ _, rfl⟩) | (dsimp only at hF_; have h8 := hF_.1.2 (by kernel_rfl); have E := h8; subst E; go_simp <;> first | exact Kept.refl _ _ | exact ⟨Kept.refl _ _, rfl⟩) | (dsimp only at hF_; have h8 := hF_.2 (by kernel_rfl); obtain ⟨b9, E, hb⟩ := h8; subst E; go_simp; refine (C1.out _ _ hb).mono ?_; rintro e_ w9 ⟨rfl, h9⟩; exact ⟨rfl, Kept.of_below h9⟩)))
  refine wpLs_nilB ?_
  simp only [tails]
  rintro W1 h1 ⟨⟨⟨⟨⟨⟨⟨-, b9, rfl, -⟩, rfl⟩, rfl⟩, rfl⟩, rfl⟩, rfl⟩, rfl⟩
  clear x0 x1 x2 x3 x4 x5
  go_wp2_with fail
  go_returns
  exact ⟨rfl, after H0 h1⟩
end Go.Proofs.Ytckjpiioipkfcaa
