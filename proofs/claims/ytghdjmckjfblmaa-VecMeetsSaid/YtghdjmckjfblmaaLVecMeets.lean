/- VecMeets holds: for any two boxes. -/
import Derived.Test.YtghdjmckjfblmaaVMeets
import Derived.Test.YtghdjmckjfblmaaShut
namespace Go.Proofs.Ytghdjmckjfblmaa
open Go.ChangeShapes Go.WideShapes Go.ChangeAt Go.RowKit

set_option maxHeartbeats 8000000 in
theorem vecMeets_w (a b c d e f0 a' b' c' d' e' f' p q r s t u p' q' r' s' t' u' : Int)
    (C1 : Hid (∀ w : World, Calls Try.prog 11 #[.agg #[.int .i64 a, .int .i64 b, .int .i64 c, .int .i64 d, .int .i64 e, .int .i64 f0]] w fun o w' => o = .returned (.agg #[.int .i64 p, .int .i64 q, .int .i64 r, .int .i64 s, .int .i64 t, .int .i64 u]) ∧ Below w.heap.size w w'))
    (C2 : Hid (∀ w : World, Calls Try.prog 11 #[.agg #[.int .i64 a', .int .i64 b', .int .i64 c', .int .i64 d', .int .i64 e', .int .i64 f']] w fun o w' => o = .returned (.agg #[.int .i64 p', .int .i64 q', .int .i64 r', .int .i64 s', .int .i64 t', .int .i64 u']) ∧ Below w.heap.size w w'))
    (f : Int → Bool) (hf : Hid (∀ i, f i = mtI (axI p q r i) (axI s t u i) (axI p' q' r' i) (axI s' t' u' i))) (hov : Hid (meK f 3 = overI p q r s t u p' q' r' s' t' u')) (w : World) :
    Calls Try.prog 3 #[.agg #[.int .i64 a, .int .i64 b, .int .i64 c, .int .i64 d, .int .i64 e, .int .i64 f0], .agg #[.int .i64 a', .int .i64 b', .int .i64 c', .int .i64 d', .int .i64 e', .int .i64 f']] w fun e w' => e = .returned (.bool true) ∧ Below w.heap.size w w' := by
  have hmn := @run_mn Try.prog
  have hmx := @run_mx Try.prog
  have t1 : (overI p q r s t u p' q' r' s' t' u' == overI p q r s t u p' q' r' s' t' u') = true := by simp
  obtain ⟨W0, hW⟩ : ∃ W0, W0 = (w.alloc (.cells (bxV a b c d e f0) 25)).alloc (.cells (bxV a' b' c' d' e' f') 25) := ⟨_, rfl⟩
  have A : Blk W0 w.heap.size 25 (bxV a b c d e f0) := by rw [hW]; exact (Blk.new' rfl).alloc _
  have B : Blk W0 (w.heap.size + 1) 25 (bxV a' b' c' d' e' f') := by rw [hW]; exact Blk.new' (by simp)
  have H : Below w.heap.size w W0 := by rw [hW]; go_grown
  go_enter Try.func3, Try.ntmps3
  go_upto_region 1 with (fail)
  rw [← hW]
  clear hW
  obtain ⟨⟨k0, k1, k2, k3, k4, k5⟩, -, -, -, -, -, -⟩ := A.c6
  go_wp2_with fail
  clear k0 k1 k2 k3 k4 k5
  refine (C1.out _).mono ?_; rintro o w1 ⟨rfl, hb⟩
  go_upto_region 2 with (fail)
  obtain ⟨W1, hW⟩ : ∃ W1, W1 = w1.alloc (.cells #[.int .i64 p, .int .i64 q, .int .i64 r, .int .i64 s, .int .i64 t, .int .i64 u] 25) := ⟨_, rfl⟩
  rw [← hW]
  replace B := B.step hb hW
  have X := Blk.fresh hW
  replace H := step_below H hb hW
  clear hW hb A
  obtain ⟨⟨k0, k1, k2, k3, k4, k5⟩, -, -, -, -, -, -⟩ := B.c6
  go_wp2_with fail
  clear k0 k1 k2 k3 k4 k5
  refine (C2.out _).mono ?_; rintro o w2 ⟨rfl, hb⟩
  go_upto_region 3 with (fail)
  obtain ⟨W2, hW⟩ : ∃ W2, W2 = w2.alloc (.cells #[.int .i64 p', .int .i64 q', .int .i64 r', .int .i64 s', .int .i64 t', .int .i64 u'] 25) := ⟨_, rfl⟩
  rw [← hW]
  replace X := X.step hb hW
  have Y := Blk.fresh hW
  replace H := step_below H hb hW
  clear hW hb B
  generalize w1.heap.size = nx at *
  generalize w2.heap.size = ny at *
  go_wp2_with fail
  go_loopw [7, 8] (fun m i wr => ∃ k : Nat, k ≤ 3 ∧ i = .int .i64 k ∧ m = .bool (meK f k) ∧ Blk wr nx 25 #[.int .i64 p, .int .i64 q, .int .i64 r, .int .i64 s, .int .i64 t, .int .i64 u] ∧ Blk wr ny 25 #[.int .i64 p', .int .i64 q', .int .i64 r', .int .i64 s', .int .i64 t', .int .i64 u'] ∧ Below w.heap.size w wr) (fun _ i _ => 3 - (intOf i).toNat)
  case atStart => exact ⟨0, by omega, rfl, rfl, X, Y, H⟩
  case round =>
    clear X Y H
    obtain ⟨k, hk, rfl, rfl, X, Y, H⟩ := hrel
    obtain ⟨k0, k1, k2, k3, k4, k5⟩ := X.re6
    obtain ⟨l0, l1, l2, l3, l4, l5⟩ := Y.re6
    by_cases hlt : k < 3
    · have hM : meK f (k + 1) = (meK f k && mtI (axI p q r k) (axI s t u k) (axI p' q' r' k) (axI s' t' u' k)) := by
        show (meK f k && f k) = _
        rw [hf.out]
      have HM0 := Lib.hid hM
      clear hM k0 k1 k2 k3 k4 k5 l0 l1 l2 l3 l4 l5
      generalize meK f k = M at *
      rcases mt_ways (axI p q r k) (axI s t u k) (axI p' q' r' k) (axI s' t' u' k) M with ⟨h1, rfl, hm⟩ | ⟨h1, rfl, h3, hm⟩ | ⟨h1, rfl, h3, hm⟩ | ⟨h1, h2, rfl, hm⟩ | ⟨h1, h2, rfl, h4, hm⟩ | ⟨h1, h2, rfl, hm⟩ | ⟨h1, h2, rfl, h4, hm⟩
      all_goals
        have HM := Lib.hid (HM0.out.trans hm)
        clear hm HM0
        obtain ⟨k0, k1, k2, k3, k4, k5⟩ := X.re6
        obtain ⟨l0, l1, l2, l3, l4, l5⟩ := Y.re6
        go_wp2_with fail
        refine wp_region_quiet_below (by kernel_rfl) (by kernel_rfl) ?_
        repeat (go_big_quiet_step (first | (go_at_call 12; exact Calls.regrown_of (raxis_c _ _ _ _ _))))
        refine wpQuiet_nil ?_
        intro w' hw'
        obtain ⟨rg, rfl⟩ := hw'
        clear k0 k1 k2 k3 k4 k5 l0 l1 l2 l3 l4 l5
        obtain ⟨W3, hW⟩ : ∃ W3, W3 = Go.Sort.grow (redrawn wr rg.d) rg.os := ⟨_, rfl⟩
        rw [← hW]
        replace X := X.reW hW
        replace Y := Y.reW hW
        replace H := re_below H hW
        clear hW
        obtain ⟨k0, k1, k2, k3, k4, k5⟩ := X.re6
        obtain ⟨l0, l1, l2, l3, l4, l5⟩ := Y.re6
        go_wp2_with fail
        refine wp_region_quiet_below (by kernel_rfl) (by kernel_rfl) ?_
        repeat (go_big_quiet_step (first | (go_at_call 12; exact Calls.regrown_of (raxis_c _ _ _ _ _))))
        refine wpQuiet_nil ?_
        intro w' hw'
        obtain ⟨rg, rfl⟩ := hw'
        clear k0 k1 k2 k3 k4 k5 l0 l1 l2 l3 l4 l5
        obtain ⟨W4, hW⟩ : ∃ W4, W4 = Go.Sort.grow (redrawn W3 rg.d) rg.os := ⟨_, rfl⟩
        rw [← hW]
        replace X := X.reW hW
        replace Y := Y.reW hW
        replace H := re_below H hW
        clear hW
        obtain ⟨k0, k1, k2, k3, k4, k5⟩ := X.re6
        obtain ⟨l0, l1, l2, l3, l4, l5⟩ := Y.re6
        go_wp2_with fail
        refine wp_region_quiet_below (by kernel_rfl) (by kernel_rfl) ?_
        repeat (go_big_quiet_step (first | (go_at_call 12; exact Calls.regrown_of (raxis_c _ _ _ _ _))))
        refine wpQuiet_nil ?_
        intro w' hw'
        obtain ⟨rg, rfl⟩ := hw'
        clear k0 k1 k2 k3 k4 k5 l0 l1 l2 l3 l4 l5
        obtain ⟨W5, hW⟩ : ∃ W5, W5 = Go.Sort.grow (redrawn W4 rg.d) rg.os := ⟨_, rfl⟩
        rw [← hW]
        replace X := X.reW hW
        replace Y := Y.reW hW
        replace H := re_below H hW
        clear hW
        obtain ⟨⟨k0, k1, k2, k3, k4, k5⟩, -, -, -, -, -, -⟩ := X.c6
        obtain ⟨⟨l0, l1, l2, l3, l4, l5⟩, -, -, -, -, -, -⟩ := Y.c6
        go_wp2_with (go_at_call 13; refine (inside_c _ _ _ _ _ _ _ _ _ _ _ _ _ _ _).mono ?_; rintro e w6 ⟨rfl, hb⟩; replace X := X.on hb; replace Y := Y.on hb; replace H := after H hb; clear hb)
        go_roundw
        case rel => exact ⟨k + 1, by omega, by go_num, by rw [HM.out], X, Y, H⟩
        case measure => simp [intOf]; omega
    · obtain rfl : k = 3 := by omega
      have h3 := hov.out
      obtain ⟨⟨a0, a1, a2, a3, a4, a5⟩, -, -, -, -, -, -⟩ := X.c6
      obtain ⟨⟨b0, b1, b2, b3, b4, b5⟩, -, -, -, -, -, -⟩ := Y.c6
      clear k0 k1 k2 k3 k4 k5 l0 l1 l2 l3 l4 l5
      rw [h3]
      clear h3
      go_wp2_with fail
      refine (over_c _ _ _ _ _ _ _ _ _ _ _ _ _).mono ?_; rintro o w3 ⟨rfl, hb⟩
      go_wp2_with fail
      refine (vlives_c _).mono ?_; rintro o w4 ⟨rfl, hb2⟩
      go_wp2_with fail
      go_returns
      exact ⟨rfl, after (after H hb) hb2⟩

theorem meets_plain (p q r s t u p' q' r' s' t' u' : Int) (h1 : p ≤ s) (h2 : q ≤ t) (h3 : r ≤ u) (k1 : p' ≤ s') (k2 : q' ≤ t') (k3 : r' ≤ u') :
    meK (fun i => mtI (axI p q r i) (axI s t u i) (axI p' q' r' i) (axI s' t' u' i)) 3 = overI p q r s t u p' q' r' s' t' u' := by
  show (((true && mtI p s p' s') && mtI q t q' t') && mtI r u r' u') = _
  rw [mt_ov h1 k1, mt_ov h2 k2, mt_ov h3 k3, Bool.true_and]
  rfl
theorem mn_mx (a b : Int) : mnI a b ≤ mxI a b := by unfold mnI mxI; omega
theorem vecMeets_c (a b c d e f : Int) (_ : In64 a) (_ : In64 b) (_ : In64 c) (_ : In64 d) (_ : In64 e) (_ : In64 f) (a' b' c' d' e' f' : Int) (_ : In64 a') (_ : In64 b') (_ : In64 c') (_ : In64 d') (_ : In64 e') (_ : In64 f') (w : World) :
    Calls Try.prog 3 #[.agg #[.int .i64 a, .int .i64 b, .int .i64 c, .int .i64 d, .int .i64 e, .int .i64 f], .agg #[.int .i64 a', .int .i64 b', .int .i64 c', .int .i64 d', .int .i64 e', .int .i64 f']] w fun e w' => e = .returned (.bool true) ∧ Below w.heap.size w w' :=
  vecMeets_w a b c d e f a' b' c' d' e' f' _ _ _ _ _ _ _ _ _ _ _ _ (Lib.hid (rgood_c a b c d e f)) (Lib.hid (rgood_c a' b' c' d' e' f')) _ (Lib.hid (fun _ => rfl))
    (Lib.hid (meets_plain _ _ _ _ _ _ _ _ _ _ _ _ (mn_mx _ _) (mn_mx _ _) (mn_mx _ _) (mn_mx _ _) (mn_mx _ _) (mn_mx _ _))) w

set_option maxRecDepth 100000 in
theorem vecMeets_lifted (os : Os) (started : os.Started) (H : Type) (enc : TypeId × Value → H) :
    ReturnsInHanded {} Try.checked os 3 .any (Rows.vecMeetsSpec.pre6 enc Try.prog Try.f3 Rows.vecMeetsRow.domain false) (Rows.vecMeetsSpec.post enc Try.prog Try.f3 false true false false) := by
  refine returnsInHanded_of_change (C := Try.checked) own started (by kernel_rfl) Try.func3
    (ChangeSpec.witness6 (enc := enc) (C := Try.checked) false ⟨#[], #[.agg #[.int .i64 0, .int .i64 0, .int .i64 0, .int .i64 0, .int .i64 0, .int .i64 0], .agg #[.int .i64 0, .int .i64 0, .int .i64 0, .int .i64 0, .int .i64 0, .int .i64 0]], []⟩ 8 (by kernel_rfl) (by kernel_rfl) (by kernel_rfl) (by kernel_rfl)) ?_
  intro W base args ds gs before hval0 hW hcnd hsz
  have hval : ∀ (j : Nat) t v, Try.f3.params[j]? = some t → args[j]? = some v → Value.okWide Try.prog W .any base t v := hval0
  have hW' := hW
  obtain ⟨p, q, hA0, hV, rfl, hfz, hnd⟩ := hW
  have hA : DataW.TrodAll enc Try.prog W 0 (fun _ => true) true Try.f3.params.toList args.toList ds p := hA0
  rw [Try.params3] at hA hval
  obtain ⟨v0, vs0, d0, ds0, p_0, q_0, hargs, rfl, rfl, h0, r_0⟩ := trodAll_cons hA
  obtain ⟨v1, vs1, d1, ds1, p_1, q_1, rfl, rfl, rfl, h1, r_1⟩ := trodAll_cons r_0
  obtain ⟨rfl, rfl, rfl⟩ := trodAll_nil r_1
  obtain rfl : args = #[v0, v1] := by cases args; simp_all
  obtain ⟨rfl, rfl⟩ := trodVars_none hV
  obtain ⟨p0, q0, r0, s0, t0, u0, rfl, wp0, wq0, wr0, ws0, wt0, wu0⟩ := open_box Try.underlying25 Try.underlying23 (by kernel_rfl) (by kernel_rfl) (by kernel_rfl) Try.underlying3 (hval 0 25 v0 rfl rfl) h0
  obtain ⟨p1, q1, r1, s1, t1, u1, rfl, wp1, wq1, wr1, ws1, wt1, wu1⟩ := open_box Try.underlying25 Try.underlying23 (by kernel_rfl) (by kernel_rfl) (by kernel_rfl) Try.underlying3 (hval 1 25 v1 rfl rfl) h1
  refine (vecMeets_c p0 q0 r0 s0 t0 u0 wp0 wq0 wr0 ws0 wt0 wu0 p1 q1 r1 s1 t1 u1 wp1 wq1 wr1 ws1 wt1 wu1 W).mono fun e W' ⟨he, hb⟩ => ?_
  subst he
  exact ⟨_, rfl, law_post laidOut (by kernel_rfl) rfl (by kernel_rfl) Try.underlying4 hW' rfl rfl rfl hb⟩

/-- The statement. -/
theorem vecMeets_proved : Rows.VecMeetsSaid :=
  OpenClaim.holds_of_wide 3 Try.f3 rfl rfl rfl rfl rfl rfl rfl ⟨rfl, rfl, rfl, rfl, rfl⟩ rfl rfl rfl rfl rfl (by kernel_rfl) Try.func3 (by kernel_rfl)
    (of_decide_eq_true (by kernel_rfl)) (by unfold Func.isWrapper; first | (rw [if_pos (by decide +kernel)]; kernel_rfl) | (rw [if_neg (by decide +kernel)]; exact ⟨rfl, rfl⟩))
    (fun os started H enc _ => vecMeets_lifted os started H enc)
end Go.Proofs.Ytghdjmckjfblmaa
