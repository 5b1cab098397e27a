/- A layer's box; how far a box goes along an axis. -/
import Derived.Test.YtckjpiioipkfcaaLay1
import Derived.Test.YtckjpiioipkfcaaMeet1
namespace Go.Proofs.Ytckjpiioipkfcaa
open Go.RowKit Go.Shelf
attribute [local go_sem] Oper.semAt_some

abbrev bV6 (a b c d e f : Int) : Array Value := #[.int .i64 a, .int .i64 b, .int .i64 c, .int .i64 d, .int .i64 e, .int .i64 f]
set_option maxHeartbeats 4000000 in
theorem layer_c (a b c d e f axis k : Int) (h1 : -2147483648 ≤ k) (h2 : k + 1 ≤ 2147483648) (w : World) : Calls Try.prog 35 #[.agg #[.int .i64 a, .int .i64 b, .int .i64 c, .int .i64 d, .int .i64 e, .int .i64 f], .int .i64 axis, .int .i64 k] w fun r w' =>
    r = .returned (.agg #[.int .i64 (wiI a axis 0 (k * 65536)), .int .i64 (wiI b axis 1 (k * 65536)), .int .i64 (wiI c axis 2 (k * 65536)), .int .i64 (wiI d axis 0 (k * 65536 + 65536)), .int .i64 (wiI e axis 1 (k * 65536 + 65536)), .int .i64 (wiI f axis 2 (k * 65536 + 65536))]) ∧ Below w.heap.size w w' := by
  have hw : IntKind.i64.wrap (k + 1) = k + 1 := IntWalk.i64_in _ (by omega)
  have o1 : ofI k = k * 65536 := ofI_id (by omega) (by omega)
  have o2 : ofI (k + 1) = k * 65536 + 65536 := by rw [ofI_id (by omega) (by omega)]; omega
  have O := Lib.hid (And.intro o1 o2)
  clear o1 o2 h1 h2
  have U : Blk ((w.alloc (.cells (bV6 a b c d e f) 28)).alloc (.cells (bV6 0 0 0 0 0 0) 28)) w.heap.size 28 (bV6 a b c d e f) := (Blk.new' rfl).alloc _
  have R0 : Blk ((w.alloc (.cells (bV6 a b c d e f) 28)).alloc (.cells (bV6 0 0 0 0 0 0) 28)) (w.heap.size + 1) 28 (bV6 0 0 0 0 0 0) := Blk.new' (by simp)
  obtain ⟨k0, k1, k2, k3, k4, k5⟩ := U.re6
  go_enter Try.func35, Try.ntmps35
  go_upto_region 1 with (fail)
  refine wp_region_last_below 14 (by kernel_rfl) rfl (by kernel_rfl) ?_
  simp only [List.take_succ_cons, List.take_zero, List.drop_succ_cons, List.drop_zero]
  repeat (go_big_quiet_step (first | exact Calls.regrown_of (of_b _ _ O.out.1 _) | exact Calls.regrown_of (of_b _ _ O.out.2 _) | exact Calls.regrown_of (with_c _ _ _ _ _ _)))
  refine wpQuiet_nil ?_
  intro w' hw'
  obtain ⟨rg, rfl⟩ := hw'
  have R := R0.re rg.d rg.os
  obtain ⟨⟨r0, r1, r2, r3, r4, r5⟩, s0, s1, s2, s3, s4, s5⟩ := R.c6
  go_wp2_with fail
  have R2 := R.st6 (.int .i64 (wiI a axis 0 (k * 65536))) (.int .i64 (wiI b axis 1 (k * 65536))) (.int .i64 (wiI c axis 2 (k * 65536))) (.int .i64 (wiI d axis 0 (k * 65536 + 65536))) (.int .i64 (wiI e axis 1 (k * 65536 + 65536))) (.int .i64 (wiI f axis 2 (k * 65536 + 65536)))
  obtain ⟨⟨d0, d1, d2, d3, d4, d5⟩, -, -, -, -, -, -⟩ := R2.c6
  exact bodyPost_ret (v := .agg #[.int .i64 (wiI a axis 0 (k * 65536)), .int .i64 (wiI b axis 1 (k * 65536)), .int .i64 (wiI c axis 2 (k * 65536)), .int .i64 (wiI d axis 0 (k * 65536 + 65536)), .int .i64 (wiI e axis 1 (k * 65536 + 65536)), .int .i64 (wiI f axis 2 (k * 65536 + 65536))]) (by simp [results, Try.results35, go_sem, d0, d1, d2, d3, d4, d5]) rfl ⟨rfl, by (repeat' (first | (with_reducible exact Below.refl _ _) | (with_reducible assumption) | (with_reducible refine Below.alloc ?_ ?_ _) | (with_reducible refine Below.drew ?_) | (with_reducible refine Below.setCell ?_ ?_ _) | (with_reducible refine after ?_ (below_regrown _ _ _)) | (refine after ?_ (by with_reducible assumption)) | go_size))⟩
theorem leave_none {F : Fence} {n : Nat} {P : Program} {fn : Func} {R : Ending → World → Prop} {tmps : Array Value} {w : World} {v : Value} (hv : (results fn tmps).run P w = .ok v w) (hR : R (.returned v) w) : bodyPostM F n P fn R .ret { tmps := tmps, defers := [] } w := ⟨v, hv, hR⟩
def axT (p : Int × Bool) : Value := .tuple #[.int .i64 p.1, .bool p.2]
set_option maxRecDepth 100000 in
set_option maxHeartbeats 8000000 in
theorem saxis_c (V : FuncId) (lv : Array Value) (val : Cl → Int) (a b c d e f axis dd M : Int) (hM : M ≤ 100000000000) (hM0 : 0 ≤ M) (hB : Sm M a b c d e f) (w : World)
    (eV : ∀ args w, (callFunc V args).run Try.prog w = .ok (.enter V args) w) (hV : Tells Try.prog V lv val w) :
    Calls Try.prog 13 #[.func (.func V) #[] lv, .agg #[.int .i64 a, .int .i64 b, .int .i64 c, .int .i64 d, .int .i64 e, .int .i64 f], .int .i64 axis, .int .i64 dd] w fun r w' =>
      r = .returned (axT (axisV val a b c d e f axis dd)) ∧ Below w.heap.size w w' := by
  have HV := Lib.hid hV
  clear hV
  obtain ⟨W, hW⟩ : ∃ W, W = ((((w.alloc (.cells #[.func (.func V) #[] lv] 31)).alloc (.cells #[.int .i64 a, .int .i64 b, .int .i64 c, .int .i64 d, .int .i64 e, .int .i64 f] 28)).alloc (.cells #[.int .i64 axis] 3)).alloc (.cells #[.int .i64 0] 3)).alloc (.cells #[.bool false] 4) := ⟨_, rfl⟩
  have H : Below w.heap.size w W := by rw [hW]; go_grown
  have b0 : Blk W w.heap.size 31 #[.func (.func V) #[] lv] := by rw [hW]; exact ((((Blk.new' rfl).alloc _).alloc _).alloc _).alloc _
  have b1 : Blk W (w.heap.size + 1) 28 #[.int .i64 a, .int .i64 b, .int .i64 c, .int .i64 d, .int .i64 e, .int .i64 f] := by rw [hW]; exact (((Blk.new' (by simp)).alloc _).alloc _).alloc _
  have b2 : Blk W (w.heap.size + 1 + 1) 3 #[.int .i64 axis] := by rw [hW]; exact ((Blk.new' (by simp)).alloc _).alloc _
  have b3 : Blk W (w.heap.size + 1 + 1 + 1) 3 #[.int .i64 0] := by rw [hW]; exact (Blk.new' (by simp)).alloc _
  have b4 : Blk W (w.heap.size + 1 + 1 + 1 + 1) 4 #[.bool false] := by rw [hW]; exact Blk.new' (by simp)
  have hs : W.heap.size = w.heap.size + 5 := by rw [hW]; simp
  obtain ⟨N, hN⟩ : ∃ N, N = w.heap.size := ⟨_, rfl⟩
  rw [← hN] at b0 b1 b2 b3 b4 hs
  have hmn := @run_mn Try.prog
  have hmx := @run_mx Try.prog
  refine (callsIn_wide (n := 5)).1 (callsIn_of_wp_marks Try.func13 rfl trivial ?_ rfl)
  refine wpIn_wide.2 ?_
  simp only [Try.ntmps13, List.size_toArray, List.length_cons, List.length_nil, Nat.reduceAdd, Nat.reduceSub, Array.replicate_succ, Array.replicate_zero, List.push_toArray, List.append_toArray, List.nil_append, List.cons_append]
  go_upto_region 1 with (fail)
  rw [← hW, ← hN]
  have HN := Lib.hid hN
  have HS0 := Lib.hid hs
  clear hW hN hs
  have g0 := b2.cell 0
  by_cases hax : axis < 0 ∨ 3 ≤ axis
  · have hv : axisV val a b c d e f axis dd = (0, false) := by unfold axisV; rw [if_pos hax]
    have HVV := Lib.hid hv
    clear hv
    obtain ⟨r0, f0⟩ := b3.c1
    obtain ⟨s0, q0⟩ := b4.c1
    have e3 := (b3.set_ 0 (.int .i64 0)).far (p := ⟨N + 1 + 1 + 1 + 1, 0, none⟩) (by dsimp only; omega) (.bool false)
    have e4 := (b4.far (p := ⟨N + 1 + 1 + 1, 0, none⟩) (by dsimp only; omega) (.int .i64 0)).set_ 0 (.bool false)
    obtain ⟨d0, -⟩ := e3.c1
    obtain ⟨d1, -⟩ := e4.c1
    have HH := Lib.hid ((H.setCell (p := ⟨N + 1 + 1 + 1, 0, none⟩) (by rw [← HN.out]; dsimp only; omega) (.int .i64 0)).setCell (p := ⟨N + 1 + 1 + 1 + 1, 0, none⟩) (by rw [← HN.out]; dsimp only; omega) (.bool false))
    clear e3 e4 H b0 b1 b2 b3 b4
    rcases hax with hax | hax
    all_goals
      go_wp2_with fail
      refine leave_none (v := axT (0, false)) (by simp [results, Try.f13, go_sem, axT, d0, d1]) ⟨by rw [HVV.out], HH.out⟩
  · obtain ⟨x1, x2⟩ : 0 ≤ axis ∧ axis < 3 := by omega
    have y1 : ¬ axis < 0 := by omega
    have y2 : ¬ 3 ≤ axis := by omega
    have hv : axisV val a b c d e f axis dd = axV (lyB val a b c d e f axis) (axI a b c axis) (axI d e f axis) (farI dd) := by unfold axisV; rw [if_neg hax]
    have HVV := Lib.hid hv
    clear hv hax
    go_upto_region 4 with (fail)
    have hfe : mnI (mxI dd (-4194304)) 4194304 = farI dd := rfl
    rw [hfe]
    clear hfe
    obtain ⟨fb1, fb2⟩ := farI_bd dd
    generalize farI dd = df at HVV fb1 fb2 ⊢
    obtain ⟨a0, a1, a2, a3, a4, a5⟩ := b1.c6.1
    go_wp2_with (go_at_call 33; refine (layers_c _ _ _ _ _ _ _ _ _).mono ?_; rintro e_ w1 ⟨rfl, rfl⟩)
    generalize hV : World.alloc (World.alloc (World.alloc W _) _) _ = W1
    have c1 : Blk W1 W.heap.size 28 #[.int .i64 a, .int .i64 b, .int .i64 c, .int .i64 d, .int .i64 e, .int .i64 f] := Blk.eqw hV (((Blk.new' rfl).alloc _).alloc _)
    have c2 : Blk W1 (W.heap.size + 1) 3 #[.int .i64 axis] := Blk.eqw hV ((Blk.new' (by simp)).alloc _)
    have c3 : Blk W1 (W.heap.size + 1 + 1) 3 #[.int .i64 df] := Blk.eqw hV (Blk.new' (by simp))
    replace b0 := Blk.eqw hV (((b0.alloc _).alloc _).alloc _)
    replace b1 := Blk.eqw hV (((b1.alloc _).alloc _).alloc _)
    replace b2 := Blk.eqw hV (((b2.alloc _).alloc _).alloc _)
    replace b3 := Blk.eqw hV (((b3.alloc _).alloc _).alloc _)
    replace b4 := Blk.eqw hV (((b4.alloc _).alloc _).alloc _)
    have H1 : Below w.heap.size w W1 := by
      have := H.size
      rw [← hV]; exact ((H.alloc H.size _).alloc (by simp; omega) _).alloc (by simp; omega) _
    have hs1 : W1.heap.size = N + 8 := by rw [← hV]; simp [HS0.out]
    rw [HS0.out] at c1 c2 c3 ⊢
    clear hV a0 a1 a2 a3 a4 a5 g0 H
    have HS := Lib.hid hs1
    clear hs1 HS0
    have hit := lay_it (N + 5) (N + 5 + 1) (N + 5 + 1 + 1) a b c d e f axis df M (by omega) hM0 hB fb1 fb2 W1 c1 c2 c3
    have hbd := axI_sm (axis := axis) hB hM0
    generalize axI a b c axis = low at HVV hit hbd
    generalize axI d e f axis = top at HVV hit hbd
    have HBD := Lib.hid hbd
    have HFB := Lib.hid (And.intro fb1 fb2)
    have HSM := Lib.hid hB
    have HM := Lib.hid (And.intro hM hM0)
    have C1 := Lib.hid c1
    have hcap : ∀ x, (x = N + 5 ∨ x = N + 5 + 1 ∨ x = N + 5 + 1 + 1) → x < W1.heap.size := fun x hx => by rw [HS.out]; omega
    have HCAP := Lib.hid hcap
    clear hbd fb1 fb2 hB hM hM0 c1 c2 c3
    refine wp_range (m := 3) (gf := 48) (lb := #[.pointer (some ⟨N + 5, 0, none⟩), .pointer (some ⟨N + 5 + 1, 0, none⟩), .pointer (some ⟨N + 5 + 1 + 1, 0, none⟩)]) rfl (enters_of Try.func48 (by kernel_rfl) rfl) hit hcap (fun _ => rfl)
      (fun Z i A => Hid (∀ j x, j < i → (lays low top df)[j]? = some x → lyB val a b c d e f axis x.1 = false) ∧ Blk A N 31 #[.func (.func V) #[] lv] ∧ Blk A (N + 1) 28 #[.int .i64 a, .int .i64 b, .int .i64 c, .int .i64 d, .int .i64 e, .int .i64 f] ∧ Blk A (N + 1 + 1) 3 #[.int .i64 axis] ∧ Blk A (N + 1 + 1 + 1) 3 #[.int .i64 0] ∧ Blk A (N + 1 + 1 + 1 + 1) 4 #[.bool false] ∧ Below w.heap.size w A)
      (fun Z k i A => k = .ret ∧ Hid (∀ j x, j < i → (lays low top df)[j]? = some x → lyB val a b c d e f axis x.1 = false) ∧ ∃ x, Hid ((lays low top df)[i]? = some x ∧ lyB val a b c d e f axis x.1 = true) ∧ Blk A (N + 1 + 1 + 1) 3 #[.int .i64 x.2] ∧ Blk A (N + 1 + 1 + 1 + 1) 4 #[.bool true] ∧ Below w.heap.size w A)
      ?_ ?_ (fun Z => ⟨fun j x h => by omega, b0, b1, b2, b3, b4, H1⟩) ?round ?done ?stop
    · rintro Z i A B ⟨h1, h2, h3, h4, h5, h6, h7⟩ hk
      have lt : ∀ n, n < 8 → ¬ Priv W1.heap.size Z (N + n) := fun n hn h => by have := h.1; rw [HS.out] at this; omega
      exact ⟨h1, hk.blk (lt 0 (by omega)) h2, hk.blk (lt 1 (by omega)) h3, hk.blk (lt 2 (by omega)) h4, hk.blk (lt 3 (by omega)) h5, hk.blk (lt 4 (by omega)) h6, h7.trans (hk.below h7.size (fun b hb h => by have := h.1; rw [HS.out] at this; rw [← HN.out] at hb; omega))⟩
    · rintro Z k i A B ⟨h1, h2, x, h3, h4, h5, h6⟩ hk
      have lt : ∀ n, n < 8 → ¬ Priv W1.heap.size Z (N + n) := fun n hn h => by have := h.1; rw [HS.out] at this; omega
      exact ⟨h1, h2, x, h3, hk.blk (lt 3 (by omega)) h4, hk.blk (lt 4 (by omega)) h5, h6.trans (hk.below h6.size (fun b hb h => by have := h.1; rw [HS.out] at this; rw [← HN.out] at hb; omega))⟩
    case round =>
      rintro Z l i x A rfl hZ1 hZ2 hx ⟨h1, h2, h3, h4, h5, h6, h7⟩
      clear b0 b1 b2 b3 b4 H1 hit hcap
      gi_wp2
      refine ⟨Kept.refl _ _, fun A2 hA2 hz2 => ?_⟩
      have hs1 := HS.out
      have keep : ∀ n t cs, n < 8 → Blk A (N + n) t cs → Blk A2 (N + n) t cs := fun n t cs hn h => hA2.blk (show N + n ≠ W1.heap.size + 1 by omega) h
      replace h2 : Blk A2 N 31 _ := keep 0 _ _ (by omega) h2
      replace h3 := keep 1 _ _ (by omega) h3
      replace h4 := keep 2 _ _ (by omega) h4
      replace h5 := keep 3 _ _ (by omega) h5
      replace h6 := keep 4 _ _ (by omega) h6
      replace h7 : Below w.heap.size w A2 := h7.trans (hA2.below h7.size (fun b hb => by rw [← HN.out] at hb; omega))
      have hmem := mem_lays (k := x.1) (w := x.2) (low := low) (top := top) (d := df) (List.mem_of_getElem? hx)
      have hbd := HBD.out
      have hfb := HFB.out
      have hmm := HM.out
      have k1 : -2147483648 ≤ x.1 := by omega
      have k2 : x.1 + 1 ≤ 2147483648 := by omega
      have hsm := HSM.out.layer (axis := axis) (k := x.1) (by omega) (by omega) (by omega)
      have hbox := hsm.box (by omega)
      have HLY := Lib.hid fun W => layer_c a b c d e f axis x.1 k1 k2 W
      have hP := fun W (h : Below w.heap.size w W) => pmBlocked_c V lv val _ _ _ _ _ _ hbox W eV (HV.out.on h)
      have hP2 : ∀ dr os, Calls Try.prog 34 #[.func (.func V) #[] lv, .agg #[.int .i64 (wiI a axis 0 (x.1 * 65536)), .int .i64 (wiI b axis 1 (x.1 * 65536)), .int .i64 (wiI c axis 2 (x.1 * 65536)), .int .i64 (wiI d axis 0 (x.1 * 65536 + 65536)), .int .i64 (wiI e axis 1 (x.1 * 65536 + 65536)), .int .i64 (wiI f axis 2 (x.1 * 65536 + 65536))]] (Go.Sort.grow (redrawn A2 dr) os) fun r W' => r = .returned (.bool (lyB val a b c d e f axis x.1)) ∧ Below (Go.Sort.grow (redrawn A2 dr) os).heap.size (Go.Sort.grow (redrawn A2 dr) os) W' := fun dr os =>
        hP _ (h7.trans ((below_regrown A2 dr os).mono h7.size))
      have HX := Lib.hid hx
      have H1 := Lib.hid h1
      have HZ := Lib.hid (And.intro hZ1 hZ2)
      have HA2 := Lib.hid hz2
      clear hA2 hz2 keep hx h1 hZ1 hZ2 hs1 hmem hbd hfb hmm k1 k2 hsm hbox hP
      have g0 := fun d os => (h2.re d os).cell 0
      have g2 := fun d os => (h4.re d os).cell 0
      obtain ⟨x0, x1, x2, x3, x4, x5⟩ := h3.re6
      cases hp : lyB val a b c d e f axis x.1
      · rw [hp] at hP2
        have HP := Lib.hid hp
        replace hP2 := Lib.hid hP2
        clear hp
        gi_wp2
        refine in_sched [0, 0, 0, 0, 0, 0] (fun _ _ _ => True) (by kernel_rfl) (by kernel_rfl) (fun _ _ _ _ h _ => h) (by kernel_rfl) (fun ⟨_, _, h⟩ => h) ?_
        repeat (first | (refine wpQs_s ?_) | (refine wpQs_q (fun K hK => ?_); go_simp; first | (refine hK _ ?_; clear hK K) | (apply Exists.intro; refine ⟨fun _ => ?_, hK _ ?_⟩; (first | exact HLY.out _ | exact hP2.out _ _); clear hK K)) | (refine wpQs_f (fun K hK => ?_); go_simp; refine hK _ ?_; clear hK K))
        refine wpQs_nil ?_
        repeat (first | (refine wpLs_skip ?_) | (refine wpLs_one ?lsA (fun v_ => ?_); case lsA => (intro w_ hw_ hp_; (fail))))
        refine wpLs_nilB ?_
        simp only [tails]
        intro w3 k7 _
        clear g0 g2 x0 x1 x2 x3 x4 x5
        simp only [wpList, Exit.then]
        go_at_K
        gi_wp2
        exact ⟨Kept.of_below k7, fun j y hj hy => (by
          rcases Nat.lt_or_eq_of_le (Nat.le_of_lt_succ hj) with e | e
          · exact H1.out j y e hy
          · subst e; rw [HX.out] at hy; obtain rfl := Option.some.inj hy; exact HP.out), h2.on k7, h3.on k7, h4.on k7, h5.on k7, h6.on k7, after h7 k7⟩
      · rw [hp] at hP2
        have HP := Lib.hid hp
        replace hP2 := Lib.hid hP2
        clear hp
        gi_wp2
        refine in_sched [0, 0, 0, 0, 0, 0] (fun _ _ _ => True) (by kernel_rfl) (by kernel_rfl) (fun _ _ _ _ h _ => h) (by kernel_rfl) (fun ⟨_, _, h⟩ => h) ?_
        repeat (first | (refine wpQs_s ?_) | (refine wpQs_q (fun K hK => ?_); go_simp; first | (refine hK _ ?_; clear hK K) | (apply Exists.intro; refine ⟨fun _ => ?_, hK _ ?_⟩; (first | exact HLY.out _ | exact hP2.out _ _); clear hK K)) | (refine wpQs_f (fun K hK => ?_); go_simp; refine hK _ ?_; clear hK K))
        refine wpQs_nil ?_
        repeat (first | (refine wpLs_skip ?_) | (refine wpLs_one ?lsA (fun v_ => ?_); case lsA => (intro w_ hw_ hp_; (fail))))
        refine wpLs_nilB ?_
        simp only [tails]
        intro w3 k7 _
        clear g0 g2 x0 x1 x2 x3 x4 x5
        replace h5 := h5.on k7
        replace h6 := h6.on k7
        obtain ⟨r0, f0⟩ := h5.c1
        obtain ⟨s0, q0⟩ := h6.c1
        simp only [wpList, Exit.then]
        go_at_K
        gi_wp2
        have hs1 := HS.out
        have n3 : ¬ Keeps W1.heap.size Z (fun x => x = N + 5 ∨ x = N + 5 + 1 ∨ x = N + 5 + 1 + 1) (N + 1 + 1 + 1) := fun h => by rcases h with h | h | h | h; exact absurd h.1 (by omega); all_goals omega
        have n4 : ¬ Keeps W1.heap.size Z (fun x => x = N + 5 ∨ x = N + 5 + 1 ∨ x = N + 5 + 1 + 1) (N + 1 + 1 + 1 + 1) := fun h => by rcases h with h | h | h | h; exact absurd h.1 (by omega); all_goals omega
        refine ⟨((Kept.of_below k7).setCell (p := ⟨N + 1 + 1 + 1, 0, none⟩) n3 _).setCell (p := ⟨N + 1 + 1 + 1 + 1, 0, none⟩) n4 _, rfl, H1.out, x, ⟨HX.out, HP.out⟩,
          (h5.set_ 0 _).far (p := ⟨N + 1 + 1 + 1 + 1, 0, none⟩) (by dsimp only; omega) _, (h6.far (p := ⟨N + 1 + 1 + 1, 0, none⟩) (by dsimp only; omega) _).set_ 0 _, ?_⟩
        replace h7 := after h7 k7
        rw [← HN.out] at h7 ⊢
        exact (h7.setCell (p := ⟨N + 1 + 1 + 1, 0, none⟩) (by dsimp only; omega) _).setCell (p := ⟨N + 1 + 1 + 1 + 1, 0, none⟩) (by dsimp only; omega) _
    case done =>
      rintro Z A ⟨h1, -, -, -, h5, h6, h7⟩ hK
      clear b0 b1 b2 b3 b4 H1 hit hcap
      obtain ⟨r0, f0⟩ := h5.c1
      obtain ⟨s0, q0⟩ := h6.c1
      have HK := Lib.hid hK
      clear hK
      go_wp2_with fail
      have hs1 := HS.out
      have hf : axV (lyB val a b c d e f axis) low top df = (df, false) := by unfold axV; rw [find_no h1.out]
      have e3 := ((h5.set_ 0 (.int .i64 df)).far (p := ⟨N + 1 + 1 + 1 + 1, 0, none⟩) (by dsimp only; omega) (.bool false)).putObj (D := W1.heap.size) (by omega) (.deferred none)
      have e4 := ((h6.far (p := ⟨N + 1 + 1 + 1, 0, none⟩) (by dsimp only; omega) (.int .i64 df)).set_ 0 (.bool false)).putObj (D := W1.heap.size) (by omega) (.deferred none)
      obtain ⟨d0, -⟩ := e3.c1
      obtain ⟨d1, -⟩ := e4.c1
      have hK' := def_far (p := ⟨N + 1 + 1 + 1 + 1, 0, none⟩) (u := .bool false) (def_far (p := ⟨N + 1 + 1 + 1, 0, none⟩) (u := .int .i64 df) HK.out (by dsimp only; omega)) (by dsimp only; omega)
      refine leave_mark hK' (v := axT (df, false)) (by simp [results, Try.f13, go_sem, axT, d0, d1]) ⟨by rw [HVV.out, hf], ?_⟩
      rw [← HN.out] at h7 ⊢
      exact putObj_below ((h7.setCell (p := ⟨N + 1 + 1 + 1, 0, none⟩) (by dsimp only; omega) _).setCell (p := ⟨N + 1 + 1 + 1 + 1, 0, none⟩) (by dsimp only; omega) _) (by omega) _
    case stop =>
      rintro Z k i A hi ⟨rfl, h1, x, hx, h5, h6, h7⟩ hK
      clear b0 b1 b2 b3 b4 H1 hit hcap
      obtain ⟨r0, f0⟩ := h5.c1
      obtain ⟨s0, q0⟩ := h6.c1
      have HK := Lib.hid hK
      clear hK
      go_wp2_with fail
      have hs1 := HS.out
      have hf : axV (lyB val a b c d e f axis) low top df = (x.2, true) := by unfold axV; rw [find_at hx.out.1 hx.out.2 h1.out]
      obtain ⟨d0, -⟩ := (h5.putObj (D := W1.heap.size) (by omega) (.deferred none)).c1
      obtain ⟨d1, -⟩ := (h6.putObj (D := W1.heap.size) (by omega) (.deferred none)).c1
      refine leave_mark HK.out (v := axT (x.2, true)) (by simp [results, Try.f13, go_sem, axT, d0, d1]) ⟨by rw [HVV.out, hf], ?_⟩
      rw [← HN.out] at h7 ⊢
      exact putObj_below h7 (by omega) _
end Go.Proofs.Ytckjpiioipkfcaa
