/- Texts that build one behind the other, laid together: Lay2 Meet2 Meet3 Mov Alo Mv1 Hit1 BodP BodP2 BodP3 FallP GenI GenC Bod1 BodQ CrwP Opn CrwR Crw1 Bod5 Bod6. -/
import Derived.Test.YtmbccnioijokfaaGreatDoorMz4
import Derived.Test.YtmbccnioijokfaaGreatDoorMz1
import Derived.Test.YtmbccnioijokfaaGreatDoorMz2
import Derived.Test.YtmbccnioijokfaaGreatDoorMz3
import Derived.Deep.Cut
namespace Go.Proofs.YtmbccnioijokfaaGreatDoor
open Go.RowKit Go.Shelf
attribute [local go_sem] Oper.semAt_some
abbrev bV6 (a b c d e f : Int) : Array Value := #[.int .i64 a, .int .i64 b, .int .i64 c, .int .i64 d, .int .i64 e, .int .i64 f]
set_option maxRecDepth 100000 in
set_option maxHeartbeats 4000000 in
theorem layer_c (a b c d e f axis k : Int) (h1 : -2147483648 ≤ k) (h2 : k + 1 ≤ 2147483648) (w : World) : Calls Tryz.prog 356 #[.agg #[.int .i64 a, .int .i64 b, .int .i64 c, .int .i64 d, .int .i64 e, .int .i64 f], .int .i64 axis, .int .i64 k] w fun r w' =>
    r = .returned (.agg #[.int .i64 (wiI a axis 0 (k * 65536)), .int .i64 (wiI b axis 1 (k * 65536)), .int .i64 (wiI c axis 2 (k * 65536)), .int .i64 (wiI d axis 0 (k * 65536 + 65536)), .int .i64 (wiI e axis 1 (k * 65536 + 65536)), .int .i64 (wiI f axis 2 (k * 65536 + 65536))]) ∧ Below w.heap.size w w' := by
  have hw : IntKind.i64.wrap (k + 1) = k + 1 := IntWalk.i64_in _ (by omega)
  have o1 : ofI k = k * 65536 := ofI_id (by omega) (by omega)
  have o2 : ofI (k + 1) = k * 65536 + 65536 := by rw [ofI_id (by omega) (by omega)]; omega
  have O := Lib.hid (And.intro o1 o2)
  clear o1 o2 h1 h2
  have U : Blk ((w.alloc (.cells (bV6 a b c d e f) 210)).alloc (.cells (bV6 0 0 0 0 0 0) 210)) w.heap.size 210 (bV6 a b c d e f) := (Blk.new' rfl).alloc _
  have R0 : Blk ((w.alloc (.cells (bV6 a b c d e f) 210)).alloc (.cells (bV6 0 0 0 0 0 0) 210)) (w.heap.size + 1) 210 (bV6 0 0 0 0 0 0) := Blk.new' (by simp)
  obtain ⟨k0, k1, k2, k3, k4, k5⟩ := U.re6
  go_enter Tryz.func356, Tryz.ntmps356
  go_upto_region 1 with (fail)
  refine wp_region_last_below 14 (by kernel_rfl) rfl (by kernel_rfl) ?_
  simp only [List.take_succ_cons, List.take_zero, List.drop_succ_cons, List.drop_zero]
  repeat (go_big_quiet_step (first | exact Calls.regrown_of (of_b _ _ O.out.1 _) | exact Calls.regrown_of (of_b _ _ O.out.2 _) | exact Calls.regrown_of (with_c _ _ _ _ _ _)))
  refine wpQuiet_nil ?_
  intro w' hw'
  obtain ⟨rg, rfl⟩ := hw'
  have R := R0.re rg.d rg.os
  obtain ⟨⟨r0, r1, r2, r3, r4, r5⟩, s0, s1, s2, s3, s4, s5⟩ := R.c6
  go_wp2_with fail
  have R2 := R.st6 (.int .i64 (wiI a axis 0 (k * 65536))) (.int .i64 (wiI b axis 1 (k * 65536))) (.int .i64 (wiI c axis 2 (k * 65536))) (.int .i64 (wiI d axis 0 (k * 65536 + 65536))) (.int .i64 (wiI e axis 1 (k * 65536 + 65536))) (.int .i64 (wiI f axis 2 (k * 65536 + 65536)))
  obtain ⟨⟨d0, d1, d2, d3, d4, d5⟩, -, -, -, -, -, -⟩ := R2.c6
  exact bodyPost_ret (v := .agg #[.int .i64 (wiI a axis 0 (k * 65536)), .int .i64 (wiI b axis 1 (k * 65536)), .int .i64 (wiI c axis 2 (k * 65536)), .int .i64 (wiI d axis 0 (k * 65536 + 65536)), .int .i64 (wiI e axis 1 (k * 65536 + 65536)), .int .i64 (wiI f axis 2 (k * 65536 + 65536))]) (by simp [results, Tryz.results356, go_sem, d0, d1, d2, d3, d4, d5]) rfl ⟨rfl, by (repeat' (first | (with_reducible exact Below.refl _ _) | (with_reducible assumption) | (with_reducible refine Below.alloc ?_ ?_ _) | (with_reducible refine Below.drew ?_) | (with_reducible refine Below.setCell ?_ ?_ _) | (with_reducible refine after ?_ (below_regrown _ _ _)) | (refine after ?_ (by with_reducible assumption)) | go_size))⟩
theorem leave_none {F : Fence} {n : Nat} {P : Program} {fn : Func} {R : Ending → World → Prop} {tmps : Array Value} {w : World} {v : Value} (hv : (results fn tmps).run P w = .ok v w) (hR : R (.returned v) w) : bodyPostM F n P fn R .ret { tmps := tmps, defers := [] } w := ⟨v, hv, hR⟩
def axT (p : Int × Bool) : Value := .tuple #[.int .i64 p.1, .bool p.2]
set_option maxRecDepth 100000 in
set_option maxHeartbeats 8000000 in
theorem saxis_c (V : FuncId) (lv : Value) (val : Cl → Int) (a b c d e f axis dd M : Int) (hM : M ≤ 72000000000000) (hM0 : 0 ≤ M) (hB : Sm M a b c d e f) (w : World)
    (eV : ∀ args w, (callFunc V args).run Tryz.prog w = .ok (.enter V args) w) (hV : Tells Tryz.prog V lv val w) :
    Calls Tryz.prog 341 #[.func (.func V) #[lv] #[], .agg #[.int .i64 a, .int .i64 b, .int .i64 c, .int .i64 d, .int .i64 e, .int .i64 f], .int .i64 axis, .int .i64 dd] w fun r w' =>
      r = .returned (axT (axisV val a b c d e f axis dd)) ∧ Below w.heap.size w w' := by
  have HV := Lib.hid hV
  clear hV
  obtain ⟨W, hW⟩ : ∃ W, W = ((((w.alloc (.cells #[.func (.func V) #[lv] #[]] 74)).alloc (.cells #[.int .i64 a, .int .i64 b, .int .i64 c, .int .i64 d, .int .i64 e, .int .i64 f] 210)).alloc (.cells #[.int .i64 axis] 3)).alloc (.cells #[.int .i64 0] 3)).alloc (.cells #[.bool false] 4) := ⟨_, rfl⟩
  have H : Below w.heap.size w W := by rw [hW]; go_grown
  have b0 : Blk W w.heap.size 74 #[.func (.func V) #[lv] #[]] := by rw [hW]; exact ((((Blk.new' rfl).alloc _).alloc _).alloc _).alloc _
  have b1 : Blk W (w.heap.size + 1) 210 #[.int .i64 a, .int .i64 b, .int .i64 c, .int .i64 d, .int .i64 e, .int .i64 f] := by rw [hW]; exact (((Blk.new' (by simp)).alloc _).alloc _).alloc _
  have b2 : Blk W (w.heap.size + 1 + 1) 3 #[.int .i64 axis] := by rw [hW]; exact ((Blk.new' (by simp)).alloc _).alloc _
  have b3 : Blk W (w.heap.size + 1 + 1 + 1) 3 #[.int .i64 0] := by rw [hW]; exact (Blk.new' (by simp)).alloc _
  have b4 : Blk W (w.heap.size + 1 + 1 + 1 + 1) 4 #[.bool false] := by rw [hW]; exact Blk.new' (by simp)
  have hs : W.heap.size = w.heap.size + 5 := by rw [hW]; simp
  obtain ⟨N, hN⟩ : ∃ N, N = w.heap.size := ⟨_, rfl⟩
  rw [← hN] at b0 b1 b2 b3 b4 hs
  have hmn := @run_mn Tryz.prog
  have hmx := @run_mx Tryz.prog
  refine (callsIn_wide (n := 5)).1 (callsIn_of_wp_marks Tryz.func341 rfl trivial ?_ rfl)
  refine wpIn_wide.2 ?_
  simp only [Tryz.ntmps341, List.size_toArray, List.length_cons, List.length_nil, Nat.reduceAdd, Nat.reduceSub, Array.replicate_succ, Array.replicate_zero, List.push_toArray, List.append_toArray, List.nil_append, List.cons_append]
  go_upto_region 1 with (fail)
  rw [← hW, ← hN]
  have HN := Lib.hid hN
  have HS0 := Lib.hid hs
  clear hW hN hs
  have g0 := b2.cell 0
  by_cases hax : axis < 0 ∨ 3 ≤ axis
  · have hv : axisV val a b c d e f axis dd = (0, false) := by unfold axisV; rw [if_pos hax]
    have HVV := Lib.hid hv
    clear hv
    obtain ⟨r0, f0⟩ := b3.c1
    obtain ⟨s0, q0⟩ := b4.c1
    have e3 := (b3.set_ 0 (.int .i64 0)).far (p := ⟨N + 1 + 1 + 1 + 1, 0, none⟩) (by dsimp only; omega) (.bool false)
    have e4 := (b4.far (p := ⟨N + 1 + 1 + 1, 0, none⟩) (by dsimp only; omega) (.int .i64 0)).set_ 0 (.bool false)
    obtain ⟨d0, -⟩ := e3.c1
    obtain ⟨d1, -⟩ := e4.c1
    have HH := Lib.hid ((H.setCell (p := ⟨N + 1 + 1 + 1, 0, none⟩) (by rw [← HN.out]; dsimp only; omega) (.int .i64 0)).setCell (p := ⟨N + 1 + 1 + 1 + 1, 0, none⟩) (by rw [← HN.out]; dsimp only; omega) (.bool false))
    clear e3 e4 H b0 b1 b2 b3 b4
    rcases hax with hax | hax
    all_goals
      go_wp2_with fail
      refine leave_none (v := axT (0, false)) (by simp [results, Tryz.f341, go_sem, axT, d0, d1]) ⟨by rw [HVV.out], HH.out⟩
  · obtain ⟨x1, x2⟩ : 0 ≤ axis ∧ axis < 3 := by omega
    have y1 : ¬ axis < 0 := by omega
    have y2 : ¬ 3 ≤ axis := by omega
    have hv : axisV val a b c d e f axis dd = axV (lyB val a b c d e f axis) (axI a b c axis) (axI d e f axis) (farI dd) := by unfold axisV; rw [if_neg hax]
    have HVV := Lib.hid hv
    clear hv hax
    go_upto_region 4 with (fail)
    have hfe : mnI (mxI dd (-4194304)) 4194304 = farI dd := rfl
    rw [hfe]
    clear hfe
    obtain ⟨fb1, fb2⟩ := farI_bd dd
    generalize farI dd = df at HVV fb1 fb2 ⊢
    obtain ⟨a0, a1, a2, a3, a4, a5⟩ := b1.c6.1
    go_wp2_with (go_at_call 355; refine (layers_c _ _ _ _ _ _ _ _ _).mono ?_; rintro e_ w1 ⟨rfl, rfl⟩)
    generalize hV : World.alloc (World.alloc (World.alloc W _) _) _ = W1
    have c1 : Blk W1 W.heap.size 210 #[.int .i64 a, .int .i64 b, .int .i64 c, .int .i64 d, .int .i64 e, .int .i64 f] := Blk.eqw hV (((Blk.new' rfl).alloc _).alloc _)
    have c2 : Blk W1 (W.heap.size + 1) 3 #[.int .i64 axis] := Blk.eqw hV ((Blk.new' (by simp)).alloc _)
    have c3 : Blk W1 (W.heap.size + 1 + 1) 3 #[.int .i64 df] := Blk.eqw hV (Blk.new' (by simp))
    replace b0 := Blk.eqw hV (((b0.alloc _).alloc _).alloc _)
    replace b1 := Blk.eqw hV (((b1.alloc _).alloc _).alloc _)
    replace b2 := Blk.eqw hV (((b2.alloc _).alloc _).alloc _)
    replace b3 := Blk.eqw hV (((b3.alloc _).alloc _).alloc _)
    replace b4 := Blk.eqw hV (((b4.alloc _).alloc _).alloc _)
    have H1 : Below w.heap.size w W1 := by
      have := H.size
      rw [← hV]; exact ((H.alloc H.size _).alloc (by simp; omega) _).alloc (by simp; omega) _
    have hs1 : W1.heap.size = N + 8 := by rw [← hV]; simp [HS0.out]
    rw [HS0.out] at c1 c2 c3 ⊢
    clear hV a0 a1 a2 a3 a4 a5 g0 H
    have HS := Lib.hid hs1
    clear hs1 HS0
    have hit := lay_it (N + 5) (N + 5 + 1) (N + 5 + 1 + 1) a b c d e f axis df M (by omega) hM0 hB fb1 fb2 W1 c1 c2 c3
    have hbd := axI_sm (axis := axis) hB hM0
    generalize axI a b c axis = low at HVV hit hbd
    generalize axI d e f axis = top at HVV hit hbd
    have HBD := Lib.hid hbd
    have HFB := Lib.hid (And.intro fb1 fb2)
    have HSM := Lib.hid hB
    have HM := Lib.hid (And.intro hM hM0)
    have C1 := Lib.hid c1
    have hcap : ∀ x, (x = N + 5 ∨ x = N + 5 + 1 ∨ x = N + 5 + 1 + 1) → x < W1.heap.size := fun x hx => by rw [HS.out]; omega
    have HCAP := Lib.hid hcap
    clear hbd fb1 fb2 hB hM hM0 c1 c2 c3
    refine wp_range (m := 3) (gf := 362) (lb := #[.pointer (some ⟨N + 5, 0, none⟩), .pointer (some ⟨N + 5 + 1, 0, none⟩), .pointer (some ⟨N + 5 + 1 + 1, 0, none⟩)]) rfl (enters_of Tryz.func362 (by kernel_rfl) rfl) hit hcap (fun _ => rfl)
      (fun Z i A => Hid (∀ j x, j < i → (lays low top df)[j]? = some x → lyB val a b c d e f axis x.1 = false) ∧ Blk A N 74 #[.func (.func V) #[lv] #[]] ∧ Blk A (N + 1) 210 #[.int .i64 a, .int .i64 b, .int .i64 c, .int .i64 d, .int .i64 e, .int .i64 f] ∧ Blk A (N + 1 + 1) 3 #[.int .i64 axis] ∧ Blk A (N + 1 + 1 + 1) 3 #[.int .i64 0] ∧ Blk A (N + 1 + 1 + 1 + 1) 4 #[.bool false] ∧ Below w.heap.size w A)
      (fun Z k i A => k = .ret ∧ Hid (∀ j x, j < i → (lays low top df)[j]? = some x → lyB val a b c d e f axis x.1 = false) ∧ ∃ x, Hid ((lays low top df)[i]? = some x ∧ lyB val a b c d e f axis x.1 = true) ∧ Blk A (N + 1 + 1 + 1) 3 #[.int .i64 x.2] ∧ Blk A (N + 1 + 1 + 1 + 1) 4 #[.bool true] ∧ Below w.heap.size w A)
      ?_ ?_ (fun Z => ⟨fun j x h => by omega, b0, b1, b2, b3, b4, H1⟩) ?round ?done ?stop
    · rintro Z i A B ⟨h1, h2, h3, h4, h5, h6, h7⟩ hk
      have lt : ∀ n, n < 8 → ¬ Priv W1.heap.size Z (N + n) := fun n hn h => by have := h.1; rw [HS.out] at this; omega
      exact ⟨h1, hk.blk (lt 0 (by omega)) h2, hk.blk (lt 1 (by omega)) h3, hk.blk (lt 2 (by omega)) h4, hk.blk (lt 3 (by omega)) h5, hk.blk (lt 4 (by omega)) h6, h7.trans (hk.below h7.size (fun b hb h => by have := h.1; rw [HS.out] at this; rw [← HN.out] at hb; omega))⟩
    · rintro Z k i A B ⟨h1, h2, x, h3, h4, h5, h6⟩ hk
      have lt : ∀ n, n < 8 → ¬ Priv W1.heap.size Z (N + n) := fun n hn h => by have := h.1; rw [HS.out] at this; omega
      exact ⟨h1, h2, x, h3, hk.blk (lt 3 (by omega)) h4, hk.blk (lt 4 (by omega)) h5, h6.trans (hk.below h6.size (fun b hb h => by have := h.1; rw [HS.out] at this; rw [← HN.out] at hb; omega))⟩
    case round =>
      rintro Z l i x A rfl hZ1 hZ2 hx ⟨h1, h2, h3, h4, h5, h6, h7⟩
      clear b0 b1 b2 b3 b4 H1 hit hcap
      gi_wp2
      refine ⟨Kept.refl _ _, fun A2 hA2 hz2 => ?_⟩
      have hs1 := HS.out
      have keep : ∀ n t cs, n < 8 → Blk A (N + n) t cs → Blk A2 (N + n) t cs := fun n t cs hn h => hA2.blk (show N + n ≠ W1.heap.size + 1 by omega) h
      replace h2 : Blk A2 N 74 _ := keep 0 _ _ (by omega) h2
      replace h3 := keep 1 _ _ (by omega) h3
      replace h4 := keep 2 _ _ (by omega) h4
      replace h5 := keep 3 _ _ (by omega) h5
      replace h6 := keep 4 _ _ (by omega) h6
      replace h7 : Below w.heap.size w A2 := h7.trans (hA2.below h7.size (fun b hb => by rw [← HN.out] at hb; omega))
      have hmem := mem_lays (k := x.1) (w := x.2) (low := low) (top := top) (d := df) (List.mem_of_getElem? hx)
      have hbd := HBD.out
      have hfb := HFB.out
      have hmm := HM.out
      have k1 : -2147483648 ≤ x.1 := by omega
      have k2 : x.1 + 1 ≤ 2147483648 := by omega
      have hsm := HSM.out.layer (axis := axis) (k := x.1) (by omega) (by omega) (by omega)
      have hbox := hsm.box (by omega)
      have HLY := Lib.hid fun W => layer_c a b c d e f axis x.1 k1 k2 W
      have hP := fun W (h : Below w.heap.size w W) => pmBlocked_c V lv val _ _ _ _ _ _ hbox W eV (HV.out.on h)
      have hP2 : ∀ dr os, Calls Tryz.prog 137 #[.func (.func V) #[lv] #[], .agg #[.int .i64 (wiI a axis 0 (x.1 * 65536)), .int .i64 (wiI b axis 1 (x.1 * 65536)), .int .i64 (wiI c axis 2 (x.1 * 65536)), .int .i64 (wiI d axis 0 (x.1 * 65536 + 65536)), .int .i64 (wiI e axis 1 (x.1 * 65536 + 65536)), .int .i64 (wiI f axis 2 (x.1 * 65536 + 65536))]] (Go.Sort.grow (redrawn A2 dr) os) fun r W' => r = .returned (.bool (lyB val a b c d e f axis x.1)) ∧ Below (Go.Sort.grow (redrawn A2 dr) os).heap.size (Go.Sort.grow (redrawn A2 dr) os) W' := fun dr os =>
        hP _ (h7.trans ((below_regrown A2 dr os).mono h7.size))
      have HX := Lib.hid hx
      have H1 := Lib.hid h1
      have HZ := Lib.hid (And.intro hZ1 hZ2)
      have HA2 := Lib.hid hz2
      clear hA2 hz2 keep hx h1 hZ1 hZ2 hs1 hmem hbd hfb hmm k1 k2 hsm hbox hP
      have g0 := fun d os => (h2.re d os).cell 0
      have g2 := fun d os => (h4.re d os).cell 0
      obtain ⟨x0, x1, x2, x3, x4, x5⟩ := h3.re6
      cases hp : lyB val a b c d e f axis x.1
      · rw [hp] at hP2
        have HP := Lib.hid hp
        replace hP2 := Lib.hid hP2
        clear hp
        gi_wp2
        refine in_sched [0, 0, 0, 0, 0, 0] (fun _ _ _ => True) (by kernel_rfl) (by kernel_rfl) (fun _ _ _ _ h _ => h) (by kernel_rfl) (fun ⟨_, _, h⟩ => h) ?_
        repeat (first | (refine wpQs_s ?_) | (refine wpQs_q (fun K hK => ?_); go_simp; first | (refine hK _ ?_; clear hK K) | (apply Exists.intro; refine ⟨fun _ => ?_, hK _ ?_⟩; (first | exact HLY.out _ | exact hP2.out _ _); clear hK K)) | (refine wpQs_f (fun K hK => ?_); go_simp; refine hK _ ?_; clear hK K))
        refine wpQs_nil ?_
        repeat (first | (refine wpLs_skip ?_) | (refine wpLs_one ?lsA (fun v_ => ?_); case lsA => (intro w_ hw_ hp_; (fail))))
        refine wpLs_nilB ?_
        simp only [tails]
        intro w3 k7 _
        clear g0 g2 x0 x1 x2 x3 x4 x5
        simp only [wpList, Exit.then]
        go_at_K
        gi_wp2
        exact ⟨Kept.of_below k7, fun j y hj hy => (by
          rcases Nat.lt_or_eq_of_le (Nat.le_of_lt_succ hj) with e | e
          · exact H1.out j y e hy
          · subst e; rw [HX.out] at hy; obtain rfl := Option.some.inj hy; exact HP.out), h2.on k7, h3.on k7, h4.on k7, h5.on k7, h6.on k7, after h7 k7⟩
      · rw [hp] at hP2
        have HP := Lib.hid hp
        replace hP2 := Lib.hid hP2
        clear hp
        gi_wp2
        refine in_sched [0, 0, 0, 0, 0, 0] (fun _ _ _ => True) (by kernel_rfl) (by kernel_rfl) (fun _ _ _ _ h _ => h) (by kernel_rfl) (fun ⟨_, _, h⟩ => h) ?_
        repeat (first | (refine wpQs_s ?_) | (refine wpQs_q (fun K hK => ?_); go_simp; first | (refine hK _ ?_; clear hK K) | (apply Exists.intro; refine ⟨fun _ => ?_, hK _ ?_⟩; (first | exact HLY.out _ | exact hP2.out _ _); clear hK K)) | (refine wpQs_f (fun K hK => ?_); go_simp; refine hK _ ?_; clear hK K))
        refine wpQs_nil ?_
        repeat (first | (refine wpLs_skip ?_) | (refine wpLs_one ?lsA (fun v_ => ?_); case lsA => (intro w_ hw_ hp_; (fail))))
        refine wpLs_nilB ?_
        simp only [tails]
        intro w3 k7 _
        clear g0 g2 x0 x1 x2 x3 x4 x5
        replace h5 := h5.on k7
        replace h6 := h6.on k7
        obtain ⟨r0, f0⟩ := h5.c1
        obtain ⟨s0, q0⟩ := h6.c1
        simp only [wpList, Exit.then]
        go_at_K
        gi_wp2
        have hs1 := HS.out
        have n3 : ¬ Keeps W1.heap.size Z (fun x => x = N + 5 ∨ x = N + 5 + 1 ∨ x = N + 5 + 1 + 1) (N + 1 + 1 + 1) := fun h => by rcases h with h | h | h | h; exact absurd h.1 (by omega); all_goals omega
        have n4 : ¬ Keeps W1.heap.size Z (fun x => x = N + 5 ∨ x = N + 5 + 1 ∨ x = N + 5 + 1 + 1) (N + 1 + 1 + 1 + 1) := fun h => by rcases h with h | h | h | h; exact absurd h.1 (by omega); all_goals omega
        refine ⟨((Kept.of_below k7).setCell (p := ⟨N + 1 + 1 + 1, 0, none⟩) n3 _).setCell (p := ⟨N + 1 + 1 + 1 + 1, 0, none⟩) n4 _, rfl, H1.out, x, ⟨HX.out, HP.out⟩,
          (h5.set_ 0 _).far (p := ⟨N + 1 + 1 + 1 + 1, 0, none⟩) (by dsimp only; omega) _, (h6.far (p := ⟨N + 1 + 1 + 1, 0, none⟩) (by dsimp only; omega) _).set_ 0 _, ?_⟩
        replace h7 := after h7 k7
        rw [← HN.out] at h7 ⊢
        exact (h7.setCell (p := ⟨N + 1 + 1 + 1, 0, none⟩) (by dsimp only; omega) _).setCell (p := ⟨N + 1 + 1 + 1 + 1, 0, none⟩) (by dsimp only; omega) _
    case done =>
      rintro Z A ⟨h1, -, -, -, h5, h6, h7⟩ hK
      clear b0 b1 b2 b3 b4 H1 hit hcap
      obtain ⟨r0, f0⟩ := h5.c1
      obtain ⟨s0, q0⟩ := h6.c1
      have HK := Lib.hid hK
      clear hK
      go_wp2_with fail
      have hs1 := HS.out
      have hf : axV (lyB val a b c d e f axis) low top df = (df, false) := by unfold axV; rw [find_no h1.out]
      have e3 := ((h5.set_ 0 (.int .i64 df)).far (p := ⟨N + 1 + 1 + 1 + 1, 0, none⟩) (by dsimp only; omega) (.bool false)).putObj (D := W1.heap.size) (by omega) (.deferred none)
      have e4 := ((h6.far (p := ⟨N + 1 + 1 + 1, 0, none⟩) (by dsimp only; omega) (.int .i64 df)).set_ 0 (.bool false)).putObj (D := W1.heap.size) (by omega) (.deferred none)
      obtain ⟨d0, -⟩ := e3.c1
      obtain ⟨d1, -⟩ := e4.c1
      have hK' := def_far (p := ⟨N + 1 + 1 + 1 + 1, 0, none⟩) (u := .bool false) (def_far (p := ⟨N + 1 + 1 + 1, 0, none⟩) (u := .int .i64 df) HK.out (by dsimp only; omega)) (by dsimp only; omega)
      refine leave_mark hK' (v := axT (df, false)) (by simp [results, Tryz.f341, go_sem, axT, d0, d1]) ⟨by rw [HVV.out, hf], ?_⟩
      rw [← HN.out] at h7 ⊢
      exact putObj_below ((h7.setCell (p := ⟨N + 1 + 1 + 1, 0, none⟩) (by dsimp only; omega) _).setCell (p := ⟨N + 1 + 1 + 1 + 1, 0, none⟩) (by dsimp only; omega) _) (by omega) _
    case stop =>
      rintro Z k i A hi ⟨rfl, h1, x, hx, h5, h6, h7⟩ hK
      clear b0 b1 b2 b3 b4 H1 hit hcap
      obtain ⟨r0, f0⟩ := h5.c1
      obtain ⟨s0, q0⟩ := h6.c1
      have HK := Lib.hid hK
      clear hK
      go_wp2_with fail
      have hs1 := HS.out
      have hf : axV (lyB val a b c d e f axis) low top df = (x.2, true) := by unfold axV; rw [find_at hx.out.1 hx.out.2 h1.out]
      obtain ⟨d0, -⟩ := (h5.putObj (D := W1.heap.size) (by omega) (.deferred none)).c1
      obtain ⟨d1, -⟩ := (h6.putObj (D := W1.heap.size) (by omega) (.deferred none)).c1
      refine leave_mark HK.out (v := axT (x.2, true)) (by simp [results, Tryz.f341, go_sem, axT, d0, d1]) ⟨by rw [HVV.out, hf], ?_⟩
      rw [← HN.out] at h7 ⊢
      exact putObj_below h7 (by omega) _
end Go.Proofs.YtmbccnioijokfaaGreatDoor

namespace Go.Proofs.YtmbccnioijokfaaGreatDoor
open Go.RowKit
attribute [local go_sem] Oper.semAt_some
theorem Owns.mono {w : World} {base base' : Nat} {e : TypeId} {size : Nat} {α : Type} {enc : α → List Value} {v : Value} {xs : List α} (h : Owns w base e size enc v xs) (hb : base' ≤ base) : Owns w base' e size enc v xs := by
  refine ⟨h.1, ?_⟩
  rcases h.2 with h0 | ⟨g, cap, cur, hv, hbg, r⟩
  · exact .inl h0
  · exact .inr ⟨g, cap, cur, hv, by omega, r⟩
end Go.Proofs.YtmbccnioijokfaaGreatDoor

namespace Go.Proofs.YtmbccnioijokfaaGreatDoor
open Go.RowKit
attribute [local go_sem] Oper.semAt_some
theorem Rd.below {w w' : World} {base : Nat} {q : Option Addr} {size : Nat} {α : Type} {enc : α → List Value} {xs : List α} (h : Rd w q size enc xs) (hb : Below base w w') (hq : ∀ a, q = some a → a.block < base) : Rd w' q size enc xs := fun hn => by
  obtain ⟨g, o, hg, h1⟩ := h hn
  have h2 := hq _ hg
  exact ⟨g, o, hg, fun i x hx j u hu => by rw [cell_below (p := ⟨g, o + i * size + j, none⟩) hb h2]; exact h1 i x hx j u hu⟩
end Go.Proofs.YtmbccnioijokfaaGreatDoor

namespace Go.Proofs.YtmbccnioijokfaaGreatDoor
open Go.RowKit Go.Shelf
attribute [local go_sem] Oper.semAt_some
set_option maxRecDepth 100000 in
set_option maxHeartbeats 2000000 in
theorem smove_c (a b c d e f x y z : Int) (w : World) : Calls Tryz.prog 342 #[.agg #[.int .i64 a, .int .i64 b, .int .i64 c, .int .i64 d, .int .i64 e, .int .i64 f], .agg #[.int .i64 x, .int .i64 y, .int .i64 z]] w fun r w' => r = .returned (.agg #[.int .i64 (addI a x), .int .i64 (addI b y), .int .i64 (addI c z), .int .i64 (addI d x), .int .i64 (addI e y), .int .i64 (addI f z)]) ∧ Below w.heap.size w w' := by
  have U : Blk (((w.alloc (.cells (bV6 a b c d e f) 210)).alloc (.cells #[.int .i64 x, .int .i64 y, .int .i64 z] 38)).alloc (.cells (bV6 0 0 0 0 0 0) 210)) w.heap.size 210 (bV6 a b c d e f) := ((Blk.new' rfl).alloc _).alloc _
  have V : Blk (((w.alloc (.cells (bV6 a b c d e f) 210)).alloc (.cells #[.int .i64 x, .int .i64 y, .int .i64 z] 38)).alloc (.cells (bV6 0 0 0 0 0 0) 210)) (w.heap.size + 1) 38 #[.int .i64 x, .int .i64 y, .int .i64 z] := (Blk.new' (by simp)).alloc _
  have R0 : Blk (((w.alloc (.cells (bV6 a b c d e f) 210)).alloc (.cells #[.int .i64 x, .int .i64 y, .int .i64 z] 38)).alloc (.cells (bV6 0 0 0 0 0 0) 210)) (w.heap.size + 1 + 1) 210 (bV6 0 0 0 0 0 0) := Blk.new' (by simp)
  obtain ⟨k0, k1, k2, k3, k4, k5⟩ := U.re6
  obtain ⟨l0, l1, l2⟩ := V.re3
  go_enter Tryz.func342, Tryz.ntmps342
  go_wp2_with fail
  refine wp_region_last_below 9 (by kernel_rfl) rfl (by kernel_rfl) ?_
  simp only [List.take_succ_cons, List.take_zero, List.drop_succ_cons, List.drop_zero]
  repeat (go_big_quiet_step (exact Calls.regrown_of (add_c _ _ _ _ _ _ _)))
  refine wpQuiet_nil ?_
  intro w' hw'
  obtain ⟨rg, rfl⟩ := hw'
  have R := R0.re rg.d rg.os
  obtain ⟨⟨r0, r1, r2, r3, r4, r5⟩, s0, s1, s2, s3, s4, s5⟩ := R.c6
  go_wp2_with fail
  have R2 := R.st6 (.int .i64 (addI a x)) (.int .i64 (addI b y)) (.int .i64 (addI c z)) (.int .i64 (addI d x)) (.int .i64 (addI e y)) (.int .i64 (addI f z))
  obtain ⟨⟨d0, d1, d2, d3, d4, d5⟩, -, -, -, -, -, -⟩ := R2.c6
  exact bodyPost_ret (v := .agg #[.int .i64 (addI a x), .int .i64 (addI b y), .int .i64 (addI c z), .int .i64 (addI d x), .int .i64 (addI e y), .int .i64 (addI f z)]) (by simp [results, Tryz.results342, go_sem, d0, d1, d2, d3, d4, d5]) rfl ⟨rfl, by (repeat' (first | (with_reducible exact Below.refl _ _) | (with_reducible assumption) | (with_reducible refine Below.alloc ?_ ?_ _) | (with_reducible refine Below.drew ?_) | (with_reducible refine Below.setCell ?_ ?_ _) | (with_reducible refine after ?_ (below_regrown _ _ _)) | (refine after ?_ (by with_reducible assumption)) | go_size))⟩
end Go.Proofs.YtmbccnioijokfaaGreatDoor

namespace Go.Proofs.YtmbccnioijokfaaGreatDoor
open Go.RowKit Go.Shelf
attribute [local go_sem] Oper.semAt_some
def alT (p : B6 × Bool) : Value := .tuple #[.agg (ag6 p.1), .bool p.2]
set_option maxRecDepth 100000 in
set_option maxHeartbeats 4000000 in
theorem palong_c (V : FuncId) (lv : Value) (val : Cl → Int) (x : B6) (axis dd M : Int) (hM : M ≤ 72000000000000) (hM0 : 0 ≤ M) (hB : Sm6 M x) (w : World)
    (eV : ∀ args w, (callFunc V args).run Tryz.prog w = .ok (.enter V args) w) (hV : Tells Tryz.prog V lv val w) :
    Calls Tryz.prog 314 #[.func (.func V) #[lv] #[], .agg (ag6 x), .int .i64 axis, .int .i64 dd] w fun r w' => r = .returned (alT (al6 (val) x axis dd)) ∧ Below w.heap.size w w' := by
  have HC := Lib.hid fun W (h : Below w.heap.size w W) => saxis_c V lv val x.1 x.2.1 x.2.2.1 x.2.2.2.1 x.2.2.2.2.1 x.2.2.2.2.2 axis dd M hM hM0 hB W eV (hV.on h)
  have hal : al6 (val) x axis dd = (mv6 x axis (ax6 (val) x axis dd).1, (ax6 (val) x axis dd).2) := rfl
  rw [hal]
  unfold ax6 mv6
  obtain ⟨a, b, c, d, e, f⟩ := x
  simp only [ag6] at HC ⊢
  generalize axisV (val) a b c d e f axis dd = r at HC ⊢
  obtain ⟨n, hit⟩ := r
  simp only [axT] at HC ⊢
  clear hV eV hM hM0 hB hal
  obtain ⟨W0, hW0⟩ : ∃ W0, W0 = ((w).alloc (.cells #[.int .i64 a, .int .i64 b, .int .i64 c, .int .i64 d, .int .i64 e, .int .i64 f] 210)).alloc (.cells #[.int .i64 0, .int .i64 0, .int .i64 0, .int .i64 0, .int .i64 0, .int .i64 0] 210) := ⟨_, rfl⟩
  have U : Blk W0 (w.heap.size) 210 _ := Blk.eqw hW0.symm ((Blk.new' (by simp)).alloc _)
  have R0 : Blk W0 (w.heap.size + 1) 210 _ := Blk.eqw hW0.symm (Blk.new' (by simp))
  have H0 : Below w.heap.size w W0 := by rw [hW0]; go_grown
  have XA : True := trivial
  go_enter Tryz.func314, Tryz.ntmps314
  go_upto_region 1 with (fail)
  rw [← hW0]
  clear hW0
  obtain ⟨u0, u1, u2, u3, u4, u5⟩ := U.c6.1
  have XB : True := trivial
  go_upto_region 2 with (go_at_call 341; refine (HC.out _ H0).mono ?_; rintro e_ w1 ⟨rfl, h1⟩)
  replace U := U.on h1
  have R := R0.on h1
  replace H0 := after H0 h1
  clear u0 u1 u2 u3 u4 u5 h1 R0 HC
  obtain ⟨u0, u1, u2, u3, u4, u5⟩ := U.re6
  refine wp_sched [0, 0, 0, 0, 0, 0, 1, 3, 3] (fun _ _ _ => True) (by kernel_rfl) (by kernel_rfl) (fun _ _ _ _ h _ => h) ?_
  repeat (first | (refine wpQs_s ?_) | (refine wpQs_q (fun K hK => ?_); go_simp; first | (refine hK _ ?_; clear hK K) | (apply Exists.intro; refine ⟨fun _ => ?_, hK _ ?_⟩; (first | exact with_c _ _ _ _ _ _ | exact smove_c _ _ _ _ _ _ _ _ _ _); clear hK K)) | (refine wpQs_f (fun K hK => ?_); go_simp; refine hK _ ?_; clear hK K))
  refine wpQs_nil ?_
  repeat (first | (refine wpLs_skip ?_) | (refine wpLs_one ?lsA (fun v_ => ?_); case lsA => (intro w_ hw_ hp_; (fail))))
  refine wpLs_nilB ?_
  simp only [tails]
  intro W2 h2 _
  clear u0 u1 u2 u3 u4 u5
  replace R := R.on h2
  replace H0 := after H0 h2
  obtain ⟨⟨r0, r1, r2, r3, r4, r5⟩, s0, s1, s2, s3, s4, s5⟩ := R.c6
  go_wp2_with fail
  have R2 := R.st6 (.int .i64 (addI a (wiI 0 axis 0 n))) (.int .i64 (addI b (wiI 0 axis 1 n))) (.int .i64 (addI c (wiI 0 axis 2 n))) (.int .i64 (addI d (wiI 0 axis 0 n))) (.int .i64 (addI e (wiI 0 axis 1 n))) (.int .i64 (addI f (wiI 0 axis 2 n)))
  obtain ⟨⟨d0, d1, d2, d3, d4, d5⟩, -, -, -, -, -, -⟩ := R2.c6
  exact bodyPost_ret (v := alT ((addI a (wiI 0 axis 0 n), addI b (wiI 0 axis 1 n), addI c (wiI 0 axis 2 n), addI d (wiI 0 axis 0 n), addI e (wiI 0 axis 1 n), addI f (wiI 0 axis 2 n)), hit)) (by simp [results, Tryz.f314, go_sem, alT, d0, d1, d2, d3, d4, d5]) rfl ⟨rfl, by (repeat' (first | (with_reducible exact Below.refl _ _) | (with_reducible assumption) | (with_reducible refine Below.alloc ?_ ?_ _) | (with_reducible refine Below.drew ?_) | (with_reducible refine Below.setCell ?_ ?_ _) | (with_reducible refine after ?_ (below_regrown _ _ _)) | (refine after ?_ (by with_reducible assumption)) | go_size))⟩
end Go.Proofs.YtmbccnioijokfaaGreatDoor

namespace Go.Proofs.YtmbccnioijokfaaGreatDoor
open Go.RowKit Go.Shelf
attribute [local go_sem] Oper.semAt_some
theorem arr3_at (a b c : Int) (w : World) : (Instr.index 361 (.agg #[.int .i64 a, .int .i64 b, .int .i64 c]) (.int .i64 0)).run Tryz.prog w = .ok (.int .i64 a) w ∧ (Instr.index 361 (.agg #[.int .i64 a, .int .i64 b, .int .i64 c]) (.int .i64 1)).run Tryz.prog w = .ok (.int .i64 b) w ∧ (Instr.index 361 (.agg #[.int .i64 a, .int .i64 b, .int .i64 c]) (.int .i64 2)).run Tryz.prog w = .ok (.int .i64 c) w := by
  refine ⟨?_, ?_, ?_⟩ <;> simp [Instr.index, asIntOf, go_sem]
theorem sx6_far {w : World} {N g : Nat} {t : TypeId} {cs : Array Value} (V : Blk w g t cs) (h : g ≠ N) (v0 v1 v2 v3 v4 v5 : Value) : Blk ((((((w.setCell ⟨N, 0, none⟩ v0).setCell ⟨N, 1, none⟩ v1).setCell ⟨N, 2, none⟩ v2).setCell ⟨N, 3, none⟩ v3).setCell ⟨N, 4, none⟩ v4).setCell ⟨N, 5, none⟩ v5) g t cs :=
  (((((V.far (p := ⟨N, 0, none⟩) h _).far (p := ⟨N, 1, none⟩) h _).far (p := ⟨N, 2, none⟩) h _).far (p := ⟨N, 3, none⟩) h _).far (p := ⟨N, 4, none⟩) h _).far (p := ⟨N, 5, none⟩) h _
theorem sx6_below {w w0 : World} {N n : Nat} (H : Below n w0 w) (h : n ≤ N) (v0 v1 v2 v3 v4 v5 : Value) : Below n w0 ((((((w.setCell ⟨N, 0, none⟩ v0).setCell ⟨N, 1, none⟩ v1).setCell ⟨N, 2, none⟩ v2).setCell ⟨N, 3, none⟩ v3).setCell ⟨N, 4, none⟩ v4).setCell ⟨N, 5, none⟩ v5) :=
  (((((H.setCell (p := ⟨N, 0, none⟩) h _).setCell (p := ⟨N, 1, none⟩) h _).setCell (p := ⟨N, 2, none⟩) h _).setCell (p := ⟨N, 3, none⟩) h _).setCell (p := ⟨N, 4, none⟩) h _).setCell (p := ⟨N, 5, none⟩) h _
set_option maxRecDepth 100000 in
set_option maxHeartbeats 8000000 in
theorem pmove_c (V : FuncId) (lv : Value) (val : Cl → Int) (x : B6) (dx dy dz M : Int) (hM : M ≤ 71500000000000) (hM0 : 0 ≤ M) (hB : Sm6 M x) (w : World)
    (eV : ∀ args w, (callFunc V args).run Tryz.prog w = .ok (.enter V args) w) (hV : Tells Tryz.prog V lv val w) :
    Calls Tryz.prog 272 #[.func (.func V) #[lv] #[], .agg (ag6 x), .agg #[.int .i64 dx, .int .i64 dy, .int .i64 dz]] w fun r w' => r = .returned (moveT val x dx dy dz) ∧ Below w.heap.size w w' := by
  have s1 := al6_sm hB hM0 (by omega) val 1 dy
  have s2 := al6_sm (x := st1 val x dy) s1 (by omega) (by omega) val 0 dx
  have C1 := fun W (h : Below w.heap.size w W) => palong_c V lv val x 1 dy M (by omega) hM0 hB W eV (hV.on h)
  have C2 := fun W (h : Below w.heap.size w W) => palong_c V lv val (st1 val x dy) 0 dx (M + 10000000) (by omega) (by omega) s1 W eV (hV.on h)
  have C3 := fun W (h : Below w.heap.size w W) => palong_c V lv val (st2 val x dx dy) 2 dz (M + 10000000 + 10000000) (by omega) (by omega) s2 W eV (hV.on h)
  unfold moveT
  have e3 : st3 val x dx dy dz = (al6 val (st2 val x dx dy) 2 dz).1 := rfl
  have f3 : hz3 val x dx dy dz = (al6 val (st2 val x dx dy) 2 dz).2 := rfl
  have e2 : st2 val x dx dy = (al6 val (st1 val x dy) 0 dx).1 := rfl
  have f2 : hx2 val x dx dy = (al6 val (st1 val x dy) 0 dx).2 := rfl
  have e1 : st1 val x dy = (al6 val x 1 dy).1 := rfl
  have f1 : hy1 val x dy = (al6 val x 1 dy).2 := rfl
  rw [e3, f3, f2, f1]
  generalize al6 val (st2 val x dx dy) 2 dz = p3 at C3 ⊢
  rw [e2] at C3
  generalize al6 val (st1 val x dy) 0 dx = p2 at C2 C3 ⊢
  rw [e1] at C2
  generalize al6 val x 1 dy = p1 at C1 C2 ⊢
  obtain ⟨⟨a1, b1, c1, d1, g1, h1⟩, u1⟩ := p1
  obtain ⟨⟨a2, b2, c2, d2, g2, h2⟩, u2⟩ := p2
  obtain ⟨⟨a3, b3, c3, d3, g3, h3⟩, u3⟩ := p3
  obtain ⟨a, b, c, d, e, f⟩ := x
  simp only [alT, ag6] at C1 C2 C3 ⊢
  have HC1 := Lib.hid C1
  have HC2 := Lib.hid C2
  have HC3 := Lib.hid C3
  clear C1 C2 C3 s1 s2 hM hM0 hB eV hV e1 e2 e3 f1 f2 f3
  obtain ⟨W, hW⟩ : ∃ W, W = ((((w.alloc (.cells #[.int .i64 a, .int .i64 b, .int .i64 c, .int .i64 d, .int .i64 e, .int .i64 f] 210)).alloc (.cells #[.int .i64 dx, .int .i64 dy, .int .i64 dz] 38)).alloc (.cells #[.int .i64 0, .int .i64 0, .int .i64 0, .int .i64 0, .int .i64 0, .int .i64 0] 210)).alloc (.cells #[.bool false, .bool false, .bool false] 322)).alloc (.cells #[.bool false, .bool false, .bool false] 322) := ⟨_, rfl⟩
  have H : Below w.heap.size w W := by rw [hW]; go_grown
  obtain ⟨N, hN⟩ : ∃ N, N = w.heap.size := ⟨_, rfl⟩
  have U : Blk W N 210 _ := Blk.eqw hW.symm (by rw [hN]; exact ((((Blk.new' rfl).alloc _).alloc _).alloc _).alloc _)
  have D : Blk W (N + 1) 38 _ := Blk.eqw hW.symm (by rw [hN]; exact (((Blk.new' (by simp)).alloc _).alloc _).alloc _)
  have R0 : Blk W (N + 1 + 1) 210 _ := Blk.eqw hW.symm (by rw [hN]; exact ((Blk.new' (by simp)).alloc _).alloc _)
  have R1 : Blk W (N + 1 + 1 + 1) 322 _ := Blk.eqw hW.symm (by rw [hN]; exact (Blk.new' (by simp)).alloc _)
  have T0 : Blk W (N + 1 + 1 + 1 + 1) 322 _ := Blk.eqw hW.symm (by rw [hN]; exact Blk.new' (by simp))
  have ix0 := fun w => (arr3_at 1 0 2 w).1
  have ix1 := fun w => (arr3_at 1 0 2 w).2.1
  have ix2 := fun w => (arr3_at 1 0 2 w).2.2
  go_enter Tryz.func272, Tryz.ntmps272
  go_upto_region 2 with (fail)
  rw [← hW, ← hN]
  have HN := Lib.hid hN
  clear hW hN
  go_upto_region 3 with (fail)
  go_loopw [10, 12] (fun _ kv wr => ((kv = .int .i64 0 ∧ Blk wr N 210 #[.int .i64 a, .int .i64 b, .int .i64 c, .int .i64 d, .int .i64 e, .int .i64 f] ∧ Blk wr (N + 1 + 1 + 1 + 1) 322 #[.bool false, .bool false, .bool false]) ∨ (kv = .int .i64 1 ∧ Blk wr N 210 #[.int .i64 a1, .int .i64 b1, .int .i64 c1, .int .i64 d1, .int .i64 g1, .int .i64 h1] ∧ Blk wr (N + 1 + 1 + 1 + 1) 322 #[.bool false, .bool u1, .bool false]) ∨ (kv = .int .i64 2 ∧ Blk wr N 210 #[.int .i64 a2, .int .i64 b2, .int .i64 c2, .int .i64 d2, .int .i64 g2, .int .i64 h2] ∧ Blk wr (N + 1 + 1 + 1 + 1) 322 #[.bool u2, .bool u1, .bool false]) ∨ (kv = .int .i64 3 ∧ Blk wr N 210 #[.int .i64 a3, .int .i64 b3, .int .i64 c3, .int .i64 d3, .int .i64 g3, .int .i64 h3] ∧ Blk wr (N + 1 + 1 + 1 + 1) 322 #[.bool u2, .bool u1, .bool u3])) ∧ Blk wr (N + 1) 38 #[.int .i64 dx, .int .i64 dy, .int .i64 dz] ∧ Blk wr (N + 1 + 1) 210 #[.int .i64 0, .int .i64 0, .int .i64 0, .int .i64 0, .int .i64 0, .int .i64 0] ∧ Blk wr (N + 1 + 1 + 1) 322 #[.bool false, .bool false, .bool false] ∧ Hid (Below w.heap.size w wr)) (fun _ v _ => 3 - (intOf v).toNat)
  case atStart => exact ⟨.inl ⟨rfl, U, T0⟩, D, R0, R1, H⟩
  case round =>
    clear U T0 D R0 R1 H
    obtain ⟨hd, D, R0, R1, H⟩ := hrel
    have hNw : w.heap.size ≤ N := by rw [← HN.out]; exact Nat.le_refl _
    rcases hd with ⟨rfl, U, T0⟩ | ⟨rfl, U, T0⟩ | ⟨rfl, U, T0⟩ | ⟨rfl, U, T0⟩
    · have hc := fun x y => HC1.out (Go.Sort.grow (redrawn _ x) y) (after H.out (below_regrown _ x y))
      have CC := Lib.hid hc
      clear hc
      obtain ⟨u0, uu1, uu2, uu3, uu4, uu5⟩ := U.re6
      obtain ⟨v0, v1, v2⟩ := D.re3
      go_upto_region 5 with (fail)
      refine wp_sched [1, 1, 0, 0, 0, 0, 0, 0, 0, 0, 1, 3, 3, 3] (fun _ _ _ => True) (by kernel_rfl) (by kernel_rfl) (fun _ _ _ _ h _ => h) ?_
      repeat (first | (refine wpQs_s ?_) | (refine wpQs_q (fun K hK => ?_); go_simp; first | (refine hK _ ?_; clear hK K) | (apply Exists.intro; refine ⟨fun _ => ?_, hK _ ?_⟩; (first | exact CC.out _ _ | exact axis_e _ _ _ _ _ rfl _); clear hK K)) | (refine wpQs_f (fun K hK => ?_); go_simp; refine hK _ ?_; clear hK K))
      refine wpQs_nil ?_
      repeat (first | (refine wpLs_skip ?_) | (refine wpLs_one ?lsA (fun v_ => ?_); case lsA => (intro w_ hw_ hp_; (fail))))
      refine wpLs_nilB ?_
      simp only [tails]
      intro W5 k5 _
      clear u0 uu1 uu2 uu3 uu4 uu5 v0 v1 v2
      replace U := U.on k5
      replace T0 := T0.on k5
      have t1 := T0.cell 1
      have tf := T0.frz 1
      obtain ⟨⟨r0, r1, r2, r3, r4, r5⟩, z0, z1, z2, z3, z4, z5⟩ := U.c6
      go_wp2_with fail
      go_roundw
      case rel => exact ⟨.inr (.inl ⟨rfl, (U.st6 (.int .i64 a1) (.int .i64 b1) (.int .i64 c1) (.int .i64 d1) (.int .i64 g1) (.int .i64 h1)).far (p := ⟨N + 1 + 1 + 1 + 1, 1, none⟩) (by dsimp only; omega) _, (sx6_far T0 (by omega) (.int .i64 a1) (.int .i64 b1) (.int .i64 c1) (.int .i64 d1) (.int .i64 g1) (.int .i64 h1)).set_ 1 (.bool u1)⟩), (sx6_far (D.on k5) (by omega) (.int .i64 a1) (.int .i64 b1) (.int .i64 c1) (.int .i64 d1) (.int .i64 g1) (.int .i64 h1)).far (p := ⟨N + 1 + 1 + 1 + 1, 1, none⟩) (by dsimp only; omega) _, (sx6_far (R0.on k5) (by omega) (.int .i64 a1) (.int .i64 b1) (.int .i64 c1) (.int .i64 d1) (.int .i64 g1) (.int .i64 h1)).far (p := ⟨N + 1 + 1 + 1 + 1, 1, none⟩) (by dsimp only; omega) _, (sx6_far (R1.on k5) (by omega) (.int .i64 a1) (.int .i64 b1) (.int .i64 c1) (.int .i64 d1) (.int .i64 g1) (.int .i64 h1)).far (p := ⟨N + 1 + 1 + 1 + 1, 1, none⟩) (by dsimp only; omega) _, (sx6_below (after H.out k5) hNw (.int .i64 a1) (.int .i64 b1) (.int .i64 c1) (.int .i64 d1) (.int .i64 g1) (.int .i64 h1)).setCell (p := ⟨N + 1 + 1 + 1 + 1, 1, none⟩) (by dsimp only; omega) _⟩
      case measure => simp [intOf]
    · have hc := fun x y => HC2.out (Go.Sort.grow (redrawn _ x) y) (after H.out (below_regrown _ x y))
      have CC := Lib.hid hc
      clear hc
      obtain ⟨u0, uu1, uu2, uu3, uu4, uu5⟩ := U.re6
      obtain ⟨v0, v1, v2⟩ := D.re3
      go_upto_region 5 with (fail)
      refine wp_sched [1, 1, 0, 0, 0, 0, 0, 0, 0, 0, 1, 3, 3, 3] (fun _ _ _ => True) (by kernel_rfl) (by kernel_rfl) (fun _ _ _ _ h _ => h) ?_
      repeat (first | (refine wpQs_s ?_) | (refine wpQs_q (fun K hK => ?_); go_simp; first | (refine hK _ ?_; clear hK K) | (apply Exists.intro; refine ⟨fun _ => ?_, hK _ ?_⟩; (first | exact CC.out _ _ | exact axis_e _ _ _ _ _ rfl _); clear hK K)) | (refine wpQs_f (fun K hK => ?_); go_simp; refine hK _ ?_; clear hK K))
      refine wpQs_nil ?_
      repeat (first | (refine wpLs_skip ?_) | (refine wpLs_one ?lsA (fun v_ => ?_); case lsA => (intro w_ hw_ hp_; (fail))))
      refine wpLs_nilB ?_
      simp only [tails]
      intro W5 k5 _
      clear u0 uu1 uu2 uu3 uu4 uu5 v0 v1 v2
      replace U := U.on k5
      replace T0 := T0.on k5
      have t0 := T0.cell 0
      have tf := T0.frz 0
      obtain ⟨⟨r0, r1, r2, r3, r4, r5⟩, z0, z1, z2, z3, z4, z5⟩ := U.c6
      go_wp2_with fail
      go_roundw
      case rel => exact ⟨.inr (.inr (.inl ⟨rfl, (U.st6 (.int .i64 a2) (.int .i64 b2) (.int .i64 c2) (.int .i64 d2) (.int .i64 g2) (.int .i64 h2)).far (p := ⟨N + 1 + 1 + 1 + 1, 0, none⟩) (by dsimp only; omega) _, (sx6_far T0 (by omega) (.int .i64 a2) (.int .i64 b2) (.int .i64 c2) (.int .i64 d2) (.int .i64 g2) (.int .i64 h2)).set_ 0 (.bool u2)⟩)), (sx6_far (D.on k5) (by omega) (.int .i64 a2) (.int .i64 b2) (.int .i64 c2) (.int .i64 d2) (.int .i64 g2) (.int .i64 h2)).far (p := ⟨N + 1 + 1 + 1 + 1, 0, none⟩) (by dsimp only; omega) _, (sx6_far (R0.on k5) (by omega) (.int .i64 a2) (.int .i64 b2) (.int .i64 c2) (.int .i64 d2) (.int .i64 g2) (.int .i64 h2)).far (p := ⟨N + 1 + 1 + 1 + 1, 0, none⟩) (by dsimp only; omega) _, (sx6_far (R1.on k5) (by omega) (.int .i64 a2) (.int .i64 b2) (.int .i64 c2) (.int .i64 d2) (.int .i64 g2) (.int .i64 h2)).far (p := ⟨N + 1 + 1 + 1 + 1, 0, none⟩) (by dsimp only; omega) _, (sx6_below (after H.out k5) hNw (.int .i64 a2) (.int .i64 b2) (.int .i64 c2) (.int .i64 d2) (.int .i64 g2) (.int .i64 h2)).setCell (p := ⟨N + 1 + 1 + 1 + 1, 0, none⟩) (by dsimp only; omega) _⟩
      case measure => simp [intOf]
    · have hc := fun x y => HC3.out (Go.Sort.grow (redrawn _ x) y) (after H.out (below_regrown _ x y))
      have CC := Lib.hid hc
      clear hc
      obtain ⟨u0, uu1, uu2, uu3, uu4, uu5⟩ := U.re6
      obtain ⟨v0, v1, v2⟩ := D.re3
      go_upto_region 5 with (fail)
      refine wp_sched [1, 1, 0, 0, 0, 0, 0, 0, 0, 0, 1, 3, 3, 3] (fun _ _ _ => True) (by kernel_rfl) (by kernel_rfl) (fun _ _ _ _ h _ => h) ?_
      repeat (first | (refine wpQs_s ?_) | (refine wpQs_q (fun K hK => ?_); go_simp; first | (refine hK _ ?_; clear hK K) | (apply Exists.intro; refine ⟨fun _ => ?_, hK _ ?_⟩; (first | exact CC.out _ _ | exact axis_e _ _ _ _ _ rfl _); clear hK K)) | (refine wpQs_f (fun K hK => ?_); go_simp; refine hK _ ?_; clear hK K))
      refine wpQs_nil ?_
      repeat (first | (refine wpLs_skip ?_) | (refine wpLs_one ?lsA (fun v_ => ?_); case lsA => (intro w_ hw_ hp_; (fail))))
      refine wpLs_nilB ?_
      simp only [tails]
      intro W5 k5 _
      clear u0 uu1 uu2 uu3 uu4 uu5 v0 v1 v2
      replace U := U.on k5
      replace T0 := T0.on k5
      have t2 := T0.cell 2
      have tf := T0.frz 2
      obtain ⟨⟨r0, r1, r2, r3, r4, r5⟩, z0, z1, z2, z3, z4, z5⟩ := U.c6
      go_wp2_with fail
      go_roundw
      case rel => exact ⟨.inr (.inr (.inr ⟨rfl, (U.st6 (.int .i64 a3) (.int .i64 b3) (.int .i64 c3) (.int .i64 d3) (.int .i64 g3) (.int .i64 h3)).far (p := ⟨N + 1 + 1 + 1 + 1, 2, none⟩) (by dsimp only; omega) _, (sx6_far T0 (by omega) (.int .i64 a3) (.int .i64 b3) (.int .i64 c3) (.int .i64 d3) (.int .i64 g3) (.int .i64 h3)).set_ 2 (.bool u3)⟩)), (sx6_far (D.on k5) (by omega) (.int .i64 a3) (.int .i64 b3) (.int .i64 c3) (.int .i64 d3) (.int .i64 g3) (.int .i64 h3)).far (p := ⟨N + 1 + 1 + 1 + 1, 2, none⟩) (by dsimp only; omega) _, (sx6_far (R0.on k5) (by omega) (.int .i64 a3) (.int .i64 b3) (.int .i64 c3) (.int .i64 d3) (.int .i64 g3) (.int .i64 h3)).far (p := ⟨N + 1 + 1 + 1 + 1, 2, none⟩) (by dsimp only; omega) _, (sx6_far (R1.on k5) (by omega) (.int .i64 a3) (.int .i64 b3) (.int .i64 c3) (.int .i64 d3) (.int .i64 g3) (.int .i64 h3)).far (p := ⟨N + 1 + 1 + 1 + 1, 2, none⟩) (by dsimp only; omega) _, (sx6_below (after H.out k5) hNw (.int .i64 a3) (.int .i64 b3) (.int .i64 c3) (.int .i64 d3) (.int .i64 g3) (.int .i64 h3)).setCell (p := ⟨N + 1 + 1 + 1 + 1, 2, none⟩) (by dsimp only; omega) _⟩
      case measure => simp [intOf]
    · have x0 := fun f d os => (U.sp (D := [N + 1 + 1, N + 1 + 1 + 1]) (by simp; omega) f d os).c6.1
      have y0 := fun f d os => (T0.sp (D := [N + 1 + 1, N + 1 + 1 + 1]) (by simp; omega) f d os).c3
      go_upto_region 7 with (fail)
      refine wp_two [0, 0, 2, 2] 2 (N + 1 + 1) 210 (#[.int .i64 a3, .int .i64 b3, .int .i64 c3, .int .i64 d3, .int .i64 g3, .int .i64 h3]) 3 (N + 1 + 1 + 1) 322 (#[.bool u2, .bool u1, .bool u3]) (by omega) (by kernel_rfl) (by kernel_rfl) ?_
      repeat (first | (refine wpQs_s ?_) | (refine wpQs_q (fun K hK => ?_); go_simp; first | (refine hK _ ?_; clear hK K) | (apply Exists.intro; refine ⟨fun _ => ?_, hK _ ?_⟩; (fail); clear hK K)) | (refine wpQs_f (fun K hK => ?_); go_simp; refine hK _ ?_; clear hK K))
      refine wpQs_nil ?_
      repeat (refine wpLs_skip ?_)
      refine wpLs_one ?s1 (fun _ => ?_)
      case s1 =>
        intro w_ hw_ hp_
        have L2 := hp_.blk (by simp [Ds2]) R0
        obtain ⟨⟨q0, q1, q2, q3, q4, q5⟩, f0, f1, f2, f3, f4, f5⟩ := L2.c6
        go_simp
        exact two_fst (by decide) kept6 (L2.st6 _ _ _ _ _ _)
      refine wpLs_one ?s2 (fun _ => ?_)
      case s2 =>
        intro w_ hw_ hp_
        have T2 := hp_.blk (by simp [Ds2]) R1
        obtain ⟨q0, q1, q2, f0, f1, f2⟩ := T2.c3
        go_simp
        exact two_snd (by decide) kept3 (T2.st3 _ _ _)
      refine wpLs_nilD ?_
      simp only [tails]
      rintro w1 k1 ⟨⟨-, r1⟩, r2⟩
      obtain ⟨⟨m0, m1, m2, m3, m4, m5⟩, -, -, -, -, -, -⟩ := (r1.1 rfl).c6
      obtain ⟨j0, j1, j2, -, -, -⟩ := (r2.2 rfl).c3
      clear r1 r2 x0 y0
      go_wp2_with fail
      refine bodyPost_ret (v := .tuple #[.agg #[.int .i64 a3, .int .i64 b3, .int .i64 c3, .int .i64 d3, .int .i64 g3, .int .i64 h3], .agg #[.bool u2, .bool u1, .bool u3]]) (by simp [results, Tryz.f272, go_sem, m0, m1, m2, m3, m4, m5, j0, j1, j2]) rfl ⟨rfl, ?_⟩
      exact H.out.trans (k1.below H.out.size (fun b hb => by simp; omega))
end Go.Proofs.YtmbccnioijokfaaGreatDoor

namespace Go.Proofs.YtmbccnioijokfaaGreatDoor
open Go.RowKit Go.Shelf
attribute [local go_sem] Oper.semAt_some
def zb (b : Bool) (n : Int) : Int := if b then 0 else n
theorem arrb_at (a b c : Bool) (w : World) : (Instr.index 322 (.agg #[.bool a, .bool b, .bool c]) (.int .i64 0)).run Tryz.prog w = .ok (.bool a) w ∧ (Instr.index 322 (.agg #[.bool a, .bool b, .bool c]) (.int .i64 1)).run Tryz.prog w = .ok (.bool b) w ∧ (Instr.index 322 (.agg #[.bool a, .bool b, .bool c]) (.int .i64 2)).run Tryz.prog w = .ok (.bool c) w := by
  refine ⟨?_, ?_, ?_⟩ <;> simp [Instr.index, asIntOf, go_sem]
theorem with_v (x y z a m p q r : Int) (h1 : wiI x a 0 m = p) (h2 : wiI y a 1 m = q) (h3 : wiI z a 2 m = r) (w : World) : Calls Tryz.prog 240 #[.agg #[.int .i64 x, .int .i64 y, .int .i64 z], .int .i64 a, .int .i64 m] w fun e w' => e = .returned (.agg #[.int .i64 p, .int .i64 q, .int .i64 r]) ∧ Below w.heap.size w w' := by
  subst h1 h2 h3; exact with_c x y z a m w
set_option maxRecDepth 100000 in
set_option maxHeartbeats 4000000 in
theorem stop_c (h0 h1 h2 : Bool) (x y z : Int) (w : World) : Calls Tryz.prog 270 #[.agg #[.bool h0, .bool h1, .bool h2], .agg #[.int .i64 x, .int .i64 y, .int .i64 z]] w fun r w' => r = .returned (.agg #[.int .i64 (zb h0 x), .int .i64 (zb h1 y), .int .i64 (zb h2 z)]) ∧ Below w.heap.size w w' := by
  obtain ⟨W, hW⟩ : ∃ W, W = ((w.alloc (.cells #[.bool h0, .bool h1, .bool h2] 322)).alloc (.cells #[.int .i64 x, .int .i64 y, .int .i64 z] 38)).alloc (.cells #[.int .i64 0, .int .i64 0, .int .i64 0] 38) := ⟨_, rfl⟩
  have H : Below w.heap.size w W := by rw [hW]; go_grown
  obtain ⟨N, hN⟩ : ∃ N, N = w.heap.size := ⟨_, rfl⟩
  have A : Blk W N 322 _ := Blk.eqw hW.symm (by rw [hN]; exact ((Blk.new' rfl).alloc _).alloc _)
  have S : Blk W (N + 1) 38 _ := Blk.eqw hW.symm (by rw [hN]; exact (Blk.new' (by simp)).alloc _)
  have R : Blk W (N + 1 + 1) 38 _ := Blk.eqw hW.symm (by rw [hN]; exact Blk.new' (by simp))
  have ix0 := fun w => (arrb_at h0 h1 h2 w).1
  have ix1 := fun w => (arrb_at h0 h1 h2 w).2.1
  have ix2 := fun w => (arrb_at h0 h1 h2 w).2.2
  go_enter Tryz.func270, Tryz.ntmps270
  go_upto_region 1 with (fail)
  rw [← hW, ← hN]
  have HN := Lib.hid hN
  clear hW hN
  obtain ⟨a0, a1, a2, -, -, -⟩ := A.c3
  go_upto_region 2 with (fail)
  go_loopw [5, 6, 8] (fun _ _ kv wr => ((kv = .int .i64 0 ∧ Blk wr (N + 1) 38 #[.int .i64 x, .int .i64 y, .int .i64 z]) ∨ (kv = .int .i64 1 ∧ Blk wr (N + 1) 38 #[.int .i64 (zb h0 x), .int .i64 y, .int .i64 z]) ∨ (kv = .int .i64 2 ∧ Blk wr (N + 1) 38 #[.int .i64 (zb h0 x), .int .i64 (zb h1 y), .int .i64 z]) ∨ (kv = .int .i64 3 ∧ Blk wr (N + 1) 38 #[.int .i64 (zb h0 x), .int .i64 (zb h1 y), .int .i64 (zb h2 z)])) ∧ Blk wr (N + 1 + 1) 38 #[.int .i64 0, .int .i64 0, .int .i64 0] ∧ Hid (Below w.heap.size w wr)) (fun _ _ v _ => 3 - (intOf v).toNat)
  case atStart => exact ⟨.inl ⟨rfl, S⟩, R, H⟩
  case round =>
    clear A S R H a0 a1 a2
    obtain ⟨hd, R, H⟩ := hrel
    have hNw : w.heap.size ≤ N + 1 := by rw [← HN.out]; exact Nat.le_succ _
    rcases hd with ⟨rfl, S⟩ | ⟨rfl, S⟩ | ⟨rfl, S⟩ | ⟨rfl, S⟩
    · cases h0
      · go_wp2_with fail
        go_roundw
        case rel => exact ⟨.inr (.inl ⟨rfl, S⟩), R, H⟩
        case measure => simp [intOf]
      · obtain ⟨s0, s1, s2, t0, t1, t2⟩ := S.c3
        go_wp2_with (go_at_call 240; refine (with_v _ _ _ _ _ _ _ _ rfl rfl rfl _).mono ?_; rintro e_ w5 ⟨rfl, h5⟩; replace S := S.on h5; obtain ⟨s0, s1, s2, t0, t1, t2⟩ := S.c3)
        go_roundw
        case rel => exact ⟨.inr (.inl ⟨rfl, S.st3 _ _ _⟩), (((R.on h5).far (p := ⟨N + 1, 0, none⟩) (by dsimp only; omega) _).far (p := ⟨N + 1, 1, none⟩) (by dsimp only; omega) _).far (p := ⟨N + 1, 2, none⟩) (by dsimp only; omega) _, (((after H.out h5).setCell (p := ⟨N + 1, 0, none⟩) hNw _).setCell (p := ⟨N + 1, 1, none⟩) hNw _).setCell (p := ⟨N + 1, 2, none⟩) hNw _⟩
        case measure => simp [intOf]
    · cases h1
      · go_wp2_with fail
        go_roundw
        case rel => exact ⟨.inr (.inr (.inl ⟨rfl, S⟩)), R, H⟩
        case measure => simp [intOf]
      · obtain ⟨s0, s1, s2, t0, t1, t2⟩ := S.c3
        go_wp2_with (go_at_call 240; refine (with_v _ _ _ _ _ _ _ _ rfl rfl rfl _).mono ?_; rintro e_ w5 ⟨rfl, h5⟩; replace S := S.on h5; obtain ⟨s0, s1, s2, t0, t1, t2⟩ := S.c3)
        go_roundw
        case rel => exact ⟨.inr (.inr (.inl ⟨rfl, S.st3 _ _ _⟩)), (((R.on h5).far (p := ⟨N + 1, 0, none⟩) (by dsimp only; omega) _).far (p := ⟨N + 1, 1, none⟩) (by dsimp only; omega) _).far (p := ⟨N + 1, 2, none⟩) (by dsimp only; omega) _, (((after H.out h5).setCell (p := ⟨N + 1, 0, none⟩) hNw _).setCell (p := ⟨N + 1, 1, none⟩) hNw _).setCell (p := ⟨N + 1, 2, none⟩) hNw _⟩
        case measure => simp [intOf]
    · cases h2
      · go_wp2_with fail
        go_roundw
        case rel => exact ⟨.inr (.inr (.inr ⟨rfl, S⟩)), R, H⟩
        case measure => simp [intOf]
      · obtain ⟨s0, s1, s2, t0, t1, t2⟩ := S.c3
        go_wp2_with (go_at_call 240; refine (with_v _ _ _ _ _ _ _ _ rfl rfl rfl _).mono ?_; rintro e_ w5 ⟨rfl, h5⟩; replace S := S.on h5; obtain ⟨s0, s1, s2, t0, t1, t2⟩ := S.c3)
        go_roundw
        case rel => exact ⟨.inr (.inr (.inr ⟨rfl, S.st3 _ _ _⟩)), (((R.on h5).far (p := ⟨N + 1, 0, none⟩) (by dsimp only; omega) _).far (p := ⟨N + 1, 1, none⟩) (by dsimp only; omega) _).far (p := ⟨N + 1, 2, none⟩) (by dsimp only; omega) _, (((after H.out h5).setCell (p := ⟨N + 1, 0, none⟩) hNw _).setCell (p := ⟨N + 1, 1, none⟩) hNw _).setCell (p := ⟨N + 1, 2, none⟩) hNw _⟩
        case measure => simp [intOf]
    · obtain ⟨s0, s1, s2, -, -, -⟩ := S.c3
      obtain ⟨r0, r1, r2, f0, f1, f2⟩ := R.c3
      replace H := H.out
      have hw2 : w.heap.size ≤ N + 1 + 1 := by omega
      go_wp2_with fail
      have R2 := R.st3 (.int .i64 (zb h0 x)) (.int .i64 (zb h1 y)) (.int .i64 (zb h2 z))
      obtain ⟨d0, d1, d2, -, -, -⟩ := R2.c3
      exact bodyPost_ret (v := .agg #[.int .i64 (zb h0 x), .int .i64 (zb h1 y), .int .i64 (zb h2 z)]) (by simp [results, Tryz.results270, go_sem, d0, d1, d2]) rfl ⟨rfl, by (repeat' (first | (with_reducible exact Below.refl _ _) | (with_reducible assumption) | (with_reducible refine Below.alloc ?_ ?_ _) | (with_reducible refine Below.drew ?_) | (with_reducible refine Below.setCell ?_ ?_ _) | (with_reducible refine after ?_ (below_regrown _ _ _)) | (refine after ?_ (by with_reducible assumption)) | go_size))⟩
end Go.Proofs.YtmbccnioijokfaaGreatDoor

namespace Go.Proofs.YtmbccnioijokfaaGreatDoor
open Go.RowKit
abbrev BD := Int × Int × Int × Int × Int × Int × Int × Int × Bool
abbrev bd9 (b : BD) : Array Value := #[.int .i64 b.1, .int .i64 b.2.1, .int .i64 b.2.2.1, .int .i64 b.2.2.2.1, .int .i64 b.2.2.2.2.1, .int .i64 b.2.2.2.2.2.1, .int .i64 b.2.2.2.2.2.2.1, .int .i64 b.2.2.2.2.2.2.2.1, .bool b.2.2.2.2.2.2.2.2]
def mn3 (x y z : Int) : Int := min (min x y) z
def mx3 (x y z : Int) : Int := max (max x y) z
theorem run_mn3 {P : Program} (ts : Array TypeId) (t : TypeId) (k : IntKind) (x y z : Int) (w : World) : (Builtin.min_ ts t #[.int k x, .int k y, .int k z]).run P w = .ok (.int k (mn3 x y z)) w := by
  have h : mn3 x y z = if z < (if y < x then y else x) then z else (if y < x then y else x) := by unfold mn3; split <;> split <;> omega
  rw [h]
  simp [Builtin.min_, Builtin.min2]
theorem run_mx3 {P : Program} (ts : Array TypeId) (t : TypeId) (k : IntKind) (x y z : Int) (w : World) : (Builtin.max_ ts t #[.int k x, .int k y, .int k z]).run P w = .ok (.int k (mx3 x y z)) w := by
  have h : mx3 x y z = if (if x < y then y else x) < z then z else (if x < y then y else x) := by unfold mx3; split <;> split <;> omega
  rw [h]
  simp [Builtin.max_, Builtin.max2]
def inI (x y z m : Int) : Bool := decide (-m ≤ mn3 x y z) && decide (mx3 x y z ≤ m)
def mayB (b : BD) : Bool := decide (2 ≤ b.2.2.2.2.2.2.1) && decide (b.2.2.2.2.2.2.1 ≤ 131072) && decide (1 ≤ b.2.2.2.2.2.2.2.1) && decide (b.2.2.2.2.2.2.2.1 ≤ 262144) && inI b.1 b.2.1 b.2.2.1 70368744177664 && inI b.2.2.2.1 b.2.2.2.2.1 b.2.2.2.2.2.1 262144
def standI (x y z wd h : Int) : B6 := (subI x (max wd 0 / 2), cutI y, subI z (max wd 0 / 2), addI x (max wd 0 / 2), addI y (max h 0), addI z (max wd 0 / 2))
def boxB (b : BD) : B6 := standI b.1 b.2.1 b.2.2.1 b.2.2.2.2.2.2.1 b.2.2.2.2.2.2.2.1
def clI (n : Int) : Int := mnI (mxI n (-70368744177664)) 70368744177664
def fwI (x d : Int) : Int := subI (clI (addI x d)) x
def walkI (n : Int) : Int := mulI (mnI (mxI n (-65536)) 65536) 16384
def riseI (climbs wet stands jump : Bool) (n : Int) : Int :=
  if climbs then (if jump then 8192 else mxI (n - 4096) (-8192)) else if wet then (if jump then 6144 else mxI (n - 1024) (-8192)) else if jump && stands then 28672 else mxI (n - 4096) (-262144)
section
variable (val : Cl → Int)
def anyB (p : Int → Bool) (x : B6) : Bool := (cellsI x.1 x.2.1 x.2.2.1 x.2.2.2.1 x.2.2.2.2.1 x.2.2.2.2.2).any fun c => p (val c)
def walkB (b : BD) (ix iz : Int) : BD := (b.1, b.2.1, b.2.2.1, walkI ix, b.2.2.2.2.1, walkI iz, b.2.2.2.2.2.2.1, b.2.2.2.2.2.2.2.1, b.2.2.2.2.2.2.2.2)
def riseB (b : BD) (jump : Bool) : BD := (b.1, b.2.1, b.2.2.1, b.2.2.2.1, riseI (anyB val cliB (boxB b)) (anyB val wetB (boxB b)) (unB val (boxB b)) jump b.2.2.2.2.1, b.2.2.2.2.2.1, b.2.2.2.2.2.2.1, b.2.2.2.2.2.2.2.1, b.2.2.2.2.2.2.2.2)
def goV (b : BD) : B6 × Bool × Bool × Bool := stepV val (boxB b) (fwI b.1 b.2.2.2.1) (fwI b.2.1 b.2.2.2.2.1) (fwI b.2.2.1 b.2.2.2.2.2.1) 32768
def putB (b : BD) (o : B6) (r : B6 × Bool × Bool × Bool) (st : Bool) : BD := (addI b.1 (subI r.1.1 o.1), addI b.2.1 (subI r.1.2.1 o.2.1), addI b.2.2.1 (subI r.1.2.2.1 o.2.2.1), zb r.2.1 b.2.2.2.1, zb r.2.2.1 b.2.2.2.2.1, zb r.2.2.2 b.2.2.2.2.2.1, b.2.2.2.2.2.2.1, b.2.2.2.2.2.2.2.1, st)
def goB (b : BD) : BD := putB b (boxB b) (goV val b) (unB val (goV val b).1)
def stepB (b : BD) (ix iz : Int) (jump : Bool) : BD := goB val (riseB val (walkB b ix iz) jump)
end
theorem boxB_walk (b : BD) (ix iz : Int) : boxB (walkB b ix iz) = boxB b := by unfold boxB walkB; rfl
structure BOk (M : Int) (b : BD) : Prop where
  x : -M ≤ b.1 ∧ b.1 ≤ M
  y : -M ≤ b.2.1 ∧ b.2.1 ≤ M
  z : -M ≤ b.2.2.1 ∧ b.2.2.1 ≤ M
  sx : -262144 ≤ b.2.2.2.1 ∧ b.2.2.2.1 ≤ 262144
  sy : -262144 ≤ b.2.2.2.2.1 ∧ b.2.2.2.2.1 ≤ 262144
  sz : -262144 ≤ b.2.2.2.2.2.1 ∧ b.2.2.2.2.2.1 ≤ 262144
  wd : 2 ≤ b.2.2.2.2.2.2.1 ∧ b.2.2.2.2.2.2.1 ≤ 131072
  ht : 1 ≤ b.2.2.2.2.2.2.2.1 ∧ b.2.2.2.2.2.2.2.1 ≤ 262144
theorem BOk.box {M : Int} {b : BD} (h : BOk M b) (hM : M ≤ 71000000000000) : Sm6 (M + 65536) (boxB b) ∧ boxB b = (b.1 - b.2.2.2.2.2.2.1 / 2, b.2.1, b.2.2.1 - b.2.2.2.2.2.2.1 / 2, b.1 + b.2.2.2.2.2.2.1 / 2, b.2.1 + b.2.2.2.2.2.2.2.1, b.2.2.1 + b.2.2.2.2.2.2.1 / 2) := by
  obtain ⟨x, y, z, sx, sy, sz, wd, ht, st⟩ := b
  obtain ⟨⟨a1, a2⟩, ⟨b1, b2⟩, ⟨c1, c2⟩, -, -, -, ⟨w1, w2⟩, h1, h2⟩ := h
  dsimp only at *
  have e : boxB (x, y, z, sx, sy, sz, wd, ht, st) = (x - wd / 2, y, z - wd / 2, x + wd / 2, y + ht, z + wd / 2) := by
    unfold boxB standI addI subI cutI
    dsimp only
    simp only [Prod.mk.injEq]
    refine ⟨?_, ?_, ?_, ?_, ?_, ?_⟩ <;> omega
  refine ⟨?_, e⟩
  rw [e]
  constructor <;> dsimp only <;> omega
end Go.Proofs.YtmbccnioijokfaaGreatDoor

namespace Go.Proofs.YtmbccnioijokfaaGreatDoor
def sh6 (x : B6) (p q r : Int) : B6 := (x.1 + p, x.2.1 + q, x.2.2.1 + r, x.2.2.2.1 + p, x.2.2.2.2.1 + q, x.2.2.2.2.2 + r)
section
variable {val : Cl → Int} {M : Int} {x : B6}
theorem sh6_sh (x : B6) (p q r p' q' r' : Int) : sh6 (sh6 x p q r) p' q' r' = sh6 x (p + p') (q + q') (r + r') := by
  unfold sh6
  simp only [Prod.mk.injEq]
  refine ⟨?_, ?_, ?_, ?_, ?_, ?_⟩ <;> omega
theorem mv_sh (h : Sm6 M x) (hM : M ≤ 74000000000000) {axis n : Int} (ha : axis = 0 ∨ axis = 1 ∨ axis = 2) (h1 : -10000000 ≤ n) (h2 : n ≤ 10000000) :
    mv6 x axis n = sh6 x (if axis = 0 then n else 0) (if axis = 1 then n else 0) (if axis = 2 then n else 0) := by
  obtain ⟨a1, b1, c1, a2, b2, c2, d1, d2, d3, e1, e2, e3⟩ := h
  unfold mv6 sh6
  rw [wi0 h1 h2, wi0 h1 h2, wi0 h1 h2]
  rcases ha with rfl | rfl | rfl
  · simp only [if_true, show ¬ ((1 : Int) = 0) by decide, show ¬ ((0 : Int) = 1) by decide, show ¬ ((2 : Int) = 0) by decide, show ¬ ((0 : Int) = 2) by decide, if_false]
    rw [addI_in (by omega) (by omega) h1 h2, addI_in (by omega) (by omega) (by omega) (by omega), addI_in (by omega) (by omega) (by omega) (by omega), addI_in (by omega) (by omega) h1 h2, addI_in (by omega) (by omega) (by omega) (by omega), addI_in (by omega) (by omega) (by omega) (by omega)]
  · simp only [if_true, show ¬ ((1 : Int) = 0) by decide, show ¬ ((0 : Int) = 1) by decide, show ¬ ((2 : Int) = 1) by decide, show ¬ ((1 : Int) = 2) by decide, if_false]
    rw [addI_in (by omega) (by omega) (by omega) (by omega), addI_in (by omega) (by omega) h1 h2, addI_in (by omega) (by omega) (by omega) (by omega), addI_in (by omega) (by omega) (by omega) (by omega), addI_in (by omega) (by omega) h1 h2, addI_in (by omega) (by omega) (by omega) (by omega)]
  · simp only [if_true, show ¬ ((1 : Int) = 2) by decide, show ¬ ((0 : Int) = 2) by decide, show ¬ ((2 : Int) = 1) by decide, show ¬ ((2 : Int) = 0) by decide, if_false]
    rw [addI_in (by omega) (by omega) (by omega) (by omega), addI_in (by omega) (by omega) (by omega) (by omega), addI_in (by omega) (by omega) h1 h2, addI_in (by omega) (by omega) (by omega) (by omega), addI_in (by omega) (by omega) (by omega) (by omega), addI_in (by omega) (by omega) h1 h2]
theorem sh_sm (h : Sm6 M x) {p q r K : Int} (hp : -K ≤ p ∧ p ≤ K) (hq : -K ≤ q ∧ q ≤ K) (hr : -K ≤ r ∧ r ≤ K) : Sm6 (M + K) (sh6 x p q r) := by
  obtain ⟨a1, b1, c1, a2, b2, c2, d1, d2, d3, e1, e2, e3⟩ := h
  unfold sh6
  constructor <;> dsimp only <;> omega
def Btw (n d : Int) : Prop := (0 ≤ n ∧ n ≤ d) ∨ (d ≤ n ∧ n ≤ 0)
theorem al_sh (val : Cl → Int) (h : Sm6 M x) (hM : M ≤ 74000000000000) {axis d : Int} (ha : axis = 0 ∨ axis = 1 ∨ axis = 2) (h1 : -4194304 ≤ d) (h2 : d ≤ 4194304) :
    ∃ n hit, al6 val x axis d = (sh6 x (if axis = 0 then n else 0) (if axis = 1 then n else 0) (if axis = 2 then n else 0), hit) ∧ Btw n d ∧ (hit = false → n = d) := by
  obtain ⟨h3, h4⟩ := ax6_say val x (i := axis) (by omega) h1 h2
  refine ⟨(ax6 val x axis d).1, (ax6 val x axis d).2, ?_, ?_, h4⟩
  · unfold al6
    rw [mv_sh h hM ha (by omega) (by omega)]
  · unfold Btw
    rcases h3 with ⟨a, b, c⟩ | ⟨a, b, c⟩
    · exact .inl ⟨b, c⟩
    · exact .inr ⟨b, c⟩
theorem Btw.bd {n d K : Int} (h : Btw n d) (h1 : -K ≤ d) (h2 : d ≤ K) : -K ≤ n ∧ n ≤ K := by unfold Btw at h; omega
theorem st3_sh (val : Cl → Int) (h : Sm6 M x) (hM : M ≤ 73000000000000) {dx dy dz : Int} (hx : -4194304 ≤ dx ∧ dx ≤ 4194304) (hy : -4194304 ≤ dy ∧ dy ≤ 4194304) (hz : -4194304 ≤ dz ∧ dz ≤ 4194304) :
    ∃ p q r, st3 val x dx dy dz = sh6 x p q r ∧ Btw p dx ∧ Btw q dy ∧ Btw r dz := by
  obtain ⟨q, t1, e1, b1, -⟩ := al_sh val h (by omega) (axis := 1) (by decide) hy.1 hy.2
  have s1 : Sm6 (M + 4194304) (sh6 x 0 q 0) := sh_sm h (by omega) (b1.bd hy.1 hy.2) (by omega)
  have e1' : st1 val x dy = sh6 x 0 q 0 := by unfold st1; rw [e1]; rfl
  obtain ⟨p, t2, e2, b2, -⟩ := al_sh val s1 (by omega) (axis := 0) (by decide) hx.1 hx.2
  have e2' : st2 val x dx dy = sh6 x p q 0 := by
    unfold st2; rw [e1', e2]
    show sh6 (sh6 x 0 q 0) p 0 0 = _
    rw [sh6_sh, Int.zero_add, Int.add_zero, Int.add_zero]
  have s2 : Sm6 (M + 4194304) (sh6 x p q 0) := sh_sm h (b2.bd hx.1 hx.2) (b1.bd hy.1 hy.2) (by omega)
  obtain ⟨r, t3, e3, b3, -⟩ := al_sh val s2 (by omega) (axis := 2) (by decide) hz.1 hz.2
  refine ⟨p, q, r, ?_, b2, b1, b3⟩
  unfold st3; rw [e2', e3]
  show sh6 (sh6 x p q 0) 0 0 r = _
  rw [sh6_sh, Int.zero_add, Int.add_zero, Int.add_zero]
theorem stepV_sh (val : Cl → Int) (h : Sm6 M x) (hM : M ≤ 73000000000000) {dx dy dz up : Int} (hx : -4194304 ≤ dx ∧ dx ≤ 4194304) (hy : -4194304 ≤ dy ∧ dy ≤ 4194304) (hz : -4194304 ≤ dz ∧ dz ≤ 4194304) (hu : 0 ≤ up ∧ up ≤ 65536) :
    ∃ p q r, (stepV val x dx dy dz up).1 = sh6 x p q r ∧ Btw p dx ∧ (Btw q dy ∨ (0 ≤ q ∧ q ≤ up)) ∧ Btw r dz := by
  unfold stepV stepOf
  split
  · have hm : mnI up 65536 = up := by unfold mnI; omega
    obtain ⟨q, t1, e1, b1, -⟩ := al_sh val h (by omega) (axis := 1) (d := up) (by decide) (by omega) (by omega)
    have hq : 0 ≤ q ∧ q ≤ up := by unfold Btw at b1; omega
    have s1 : Sm6 (M + 4194304) (sh6 x 0 q 0) := sh_sm h (by omega) (by omega) (by omega)
    have e1' : (hi1 val x up).1 = sh6 x 0 q 0 := by unfold hi1; rw [hm, e1]; rfl
    have hr : rise val x up = q := by
      unfold rise; rw [e1']; unfold sh6; dsimp only; omega
    obtain ⟨p, t2, e2, b2, -⟩ := al_sh val s1 (by omega) (axis := 0) (by decide) hx.1 hx.2
    have e2' : (oA val x dx up).1 = sh6 x p q 0 := by
      unfold oA; rw [e1', e2]
      show sh6 (sh6 x 0 q 0) p 0 0 = _
      rw [sh6_sh, Int.zero_add, Int.add_zero, Int.add_zero]
    have s2 : Sm6 (M + 4194304) (sh6 x p q 0) := sh_sm h (b2.bd hx.1 hx.2) (by omega) (by omega)
    obtain ⟨r, t3, e3, b3, -⟩ := al_sh val s2 (by omega) (axis := 2) (by decide) hz.1 hz.2
    have e3' : (oB val x dx dz up).1 = sh6 x p q r := by
      unfold oB; rw [e2', e3]
      show sh6 (sh6 x p q 0) 0 0 r = _
      rw [sh6_sh, Int.zero_add, Int.add_zero, Int.add_zero]
    have s3 : Sm6 (M + 4194304) (sh6 x p q r) := sh_sm h (b2.bd hx.1 hx.2) (by omega) (b3.bd hz.1 hz.2)
    obtain ⟨s, t4, e4, b4, -⟩ := al_sh val s3 (by omega) (axis := 1) (d := -q) (by decide) (by omega) (by omega)
    refine ⟨p, q + s, r, ?_, b2, .inr ?_, b3⟩
    · show (oC val x dx dz up).1 = _
      unfold oC; rw [e3', hr, e4]
      show sh6 (sh6 x p q r) 0 s 0 = _
      rw [sh6_sh, Int.add_zero, Int.add_zero]
    · unfold Btw at b4; omega
  · obtain ⟨p, q, r, e, b1, b2, b3⟩ := st3_sh val h hM hx hy hz
    exact ⟨p, q, r, e, b1, .inl b2, b3⟩
theorem fw_id {n d : Int} (h1 : -70000000000000 ≤ n) (h2 : n ≤ 70000000000000) (h3 : -4194304 ≤ d) (h4 : d ≤ 4194304) : fwI n d = d := by
  unfold fwI clI mnI mxI subI
  rw [addI_in (by omega) (by omega) (by omega) (by omega)]
  unfold cutI
  omega
theorem zb_bd {h : Bool} {n K : Int} (h1 : -K ≤ n ∧ n ≤ K) : -K ≤ zb h n ∧ zb h n ≤ K := by unfold zb; split <;> omega
theorem walk_bd (n : Int) : -16384 ≤ walkI n ∧ walkI n ≤ 16384 := by
  unfold walkI mnI mxI
  rw [mulI_p (p := cutI (min (max n (-65536)) 65536) * 16384) (by rw [cutI_id (n := 16384) (by decide) (by decide)])]
  unfold cutI
  omega
theorem rise_bd (c w s j : Bool) {n : Int} (h : -262144 ≤ n ∧ n ≤ 262144) : -262144 ≤ riseI c w s j n ∧ riseI c w s j n ≤ 262144 := by
  unfold riseI mxI
  split
  · split <;> omega
  · split
    · split <;> omega
    · split <;> omega
theorem goB_say (val : Cl → Int) {b : BD} (h : BOk M b) (hM0 : 0 ≤ M) (hM : M ≤ 70000000000000) :
    ∃ p q r, (goV val b).1 = sh6 (boxB b) p q r ∧ goB val b = (b.1 + p, b.2.1 + q, b.2.2.1 + r, zb (goV val b).2.1 b.2.2.2.1, zb (goV val b).2.2.1 b.2.2.2.2.1, zb (goV val b).2.2.2 b.2.2.2.2.2.1, b.2.2.2.2.2.2.1, b.2.2.2.2.2.2.2.1, unB val (goV val b).1) ∧
      Btw p b.2.2.2.1 ∧ (Btw q b.2.2.2.2.1 ∨ (0 ≤ q ∧ q ≤ 32768)) ∧ Btw r b.2.2.2.2.2.1 := by
  obtain ⟨hS, -⟩ := h.box (by omega)
  obtain ⟨hx, hy, hz, sx, sy, sz, hw, hh⟩ := id h
  have e : goV val b = stepV val (boxB b) b.2.2.2.1 b.2.2.2.2.1 b.2.2.2.2.2.1 32768 := by
    unfold goV
    rw [fw_id (by omega) (by omega) (by omega) (by omega), fw_id (by omega) (by omega) (by omega) (by omega), fw_id (by omega) (by omega) (by omega) (by omega)]
  obtain ⟨p, q, r, e1, b1, b2, b3⟩ := stepV_sh val hS (by omega) (dx := b.2.2.2.1) (dy := b.2.2.2.2.1) (dz := b.2.2.2.2.2.1) (up := 32768) (by omega) (by omega) (by omega) (by omega)
  rw [← e] at e1
  have p1 := b1.bd sx.1 sx.2
  have r1 := b3.bd sz.1 sz.2
  have q1 : -262144 ≤ q ∧ q ≤ 262144 := by
    rcases b2 with b2 | b2
    · exact b2.bd sy.1 sy.2
    · omega
  have s := hS
  obtain ⟨a1, c1, d1, a2, c2, d2, -, -, -, -, -, -⟩ := s
  refine ⟨p, q, r, e1, ?_, b1, b2, b3⟩
  unfold goB putB
  rw [e1]
  unfold sh6
  dsimp only
  have key : ∀ {a o n : Int}, -70000000000000 ≤ a → a ≤ 70000000000000 → -71000000000000 ≤ o → o ≤ 71000000000000 → -262144 ≤ n → n ≤ 262144 → addI a (subI (o + n) o) = a + n := fun {a o n} g1 g2 g3 g4 g5 g6 => by
    have : subI (o + n) o = n := by unfold subI cutI; omega
    rw [this, addI_in (by omega) (by omega) (by omega) (by omega)]
  rw [key (by omega) (by omega) (by omega) (by omega) p1.1 p1.2, key (by omega) (by omega) (by omega) (by omega) q1.1 q1.2, key (by omega) (by omega) (by omega) (by omega) r1.1 r1.2]
theorem BOk.walk {b : BD} (h : BOk M b) (ix iz : Int) : BOk M (walkB b ix iz) := by
  obtain ⟨hx, hy, hz, sx, sy, sz, hw, hh⟩ := h
  have w1 := walk_bd ix
  have w2 := walk_bd iz
  exact ⟨hx, hy, hz, by dsimp only [walkB]; omega, sy, by dsimp only [walkB]; omega, hw, hh⟩
theorem BOk.rise {b : BD} (h : BOk M b) (val : Cl → Int) (j : Bool) : BOk M (riseB val b j) := by
  obtain ⟨hx, hy, hz, sx, sy, sz, hw, hh⟩ := h
  exact ⟨hx, hy, hz, sx, rise_bd _ _ _ _ sy, sz, hw, hh⟩
theorem BOk.mono {M' : Int} {b : BD} (h : BOk M b) (hm : M ≤ M') : BOk M' b := by
  obtain ⟨hx, hy, hz, sx, sy, sz, hw, hh⟩ := h
  exact ⟨by omega, by omega, by omega, sx, sy, sz, hw, hh⟩
theorem BOk.go {b : BD} (h : BOk M b) (hM0 : 0 ≤ M) (hM : M ≤ 70000000000000) (val : Cl → Int) : BOk (M + 262144) (goB val b) := by
  obtain ⟨p, q, r, -, e, b1, b2, b3⟩ := goB_say val h hM0 hM
  obtain ⟨hx, hy, hz, sx, sy, sz, hw, hh⟩ := h
  have p1 := b1.bd sx.1 sx.2
  have r1 := b3.bd sz.1 sz.2
  have q1 : -262144 ≤ q ∧ q ≤ 262144 := by
    rcases b2 with b2 | b2
    · exact b2.bd sy.1 sy.2
    · omega
  rw [e]
  exact ⟨by dsimp only; omega, by dsimp only; omega, by dsimp only; omega, zb_bd sx, zb_bd sy, zb_bd sz, hw, hh⟩
end
end Go.Proofs.YtmbccnioijokfaaGreatDoor

namespace Go.Proofs.YtmbccnioijokfaaGreatDoor
section
variable {M : Int} {x : B6}
theorem axV_free {blk : Int → Bool} {low top d : Int} (h1 : 0 < d → ∀ k, 0 ≤ k * 65536 - top → k * 65536 - top < d → blk k = false) (h2 : d < 0 → ∀ k, (k + 1) * 65536 - low ≤ 0 → d < (k + 1) * 65536 - low → blk k = false) : axV blk low top d = (d, false) := by
  rcases Int.lt_trichotomy d 0 with h | h | h
  · exact axV_dn_none h (h2 h)
  · subst h; exact axV_zero _ _ _
  · exact axV_up_none h (h1 h)
end
end Go.Proofs.YtmbccnioijokfaaGreatDoor

namespace Go.Proofs.YtmbccnioijokfaaGreatDoor
def AirM (val : Cl → Int) : Prop := ∀ c : Cl, 2 ≤ c.1 → c.1 ≤ 12 → 16 ≤ c.2.1 → c.2.1 ≤ 40 → 2 ≤ c.2.2 → c.2.2 ≤ 12 → val c = 0
structure MidX (x : B6) : Prop where
  x0 : 196608 ≤ x.1
  y0 : 1114112 ≤ x.2.1
  z0 : 196608 ≤ x.2.2.1
  x1 : x.2.2.2.1 ≤ 786432
  y1 : x.2.2.2.2.1 ≤ 2097152
  z1 : x.2.2.2.2.2 ≤ 786432
  xx : x.1 < x.2.2.2.1
  yy : x.2.1 < x.2.2.2.2.1
  zz : x.2.2.1 < x.2.2.2.2.2
section
variable {val : Cl → Int} {x : B6}
theorem MidX.sm (h : MidX x) : Sm6 3000000 x := by
  obtain ⟨h1, h2, h3, h4, h5, h6, h7, h8, h9⟩ := h
  exact ⟨by omega, by omega, by omega, by omega, by omega, by omega, by omega, by omega, by omega, by omega, by omega, by omega⟩
theorem inAx_mid {lo hi k : Int} (h1 : 196608 ≤ lo) (h2 : hi ≤ 786432) (h : lo < hi) (hk : inAx lo hi k) : 2 ≤ k ∧ k ≤ 12 := by
  rcases (inAx_iff (by omega) (by omega) (by omega)).1 hk with ⟨a, b, c⟩ | ⟨a, b, c⟩ <;> omega
theorem inAx_high {lo hi k : Int} (h1 : 1048576 ≤ lo) (h2 : hi ≤ 2621440) (h : lo < hi) (hk : inAx lo hi k) : 16 ≤ k ∧ k ≤ 40 := by
  rcases (inAx_iff (by omega) (by omega) (by omega)).1 hk with ⟨a, b, c⟩ | ⟨a, b, c⟩ <;> omega
theorem any_air (h : MidX x) (ha : AirM val) {p : Int → Bool} (hp : p 0 = false) : anyB val p x = false := by
  unfold anyB
  rw [List.any_eq_false]
  intro c hc
  obtain ⟨hx, hy, hz⟩ := mem_cellsI.1 hc
  obtain ⟨h1, h2, h3, h4, h5, h6, h7, h8, h9⟩ := h
  have k1 := inAx_mid h1 h4 h7 hx
  have k2 := inAx_high (by omega) (by omega) h8 hy
  have k3 := inAx_mid h3 h6 h9 hz
  rw [ha c k1.1 k1.2 k2.1 k2.2 k3.1 k3.2, hp]
  simp
theorem al_air (h : MidX x) (hv : AirM val) {axis d : Int} (ha : axis = 0 ∨ axis = 1 ∨ axis = 2) (h1 : -4194304 ≤ d) (h2 : d ≤ 4194304) (h3 : MidX (sh6 x (if axis = 0 then d else 0) (if axis = 1 then d else 0) (if axis = 2 then d else 0))) :
    al6 val x axis d = (sh6 x (if axis = 0 then d else 0) (if axis = 1 then d else 0) (if axis = 2 then d else 0), false) := by
  have e : ax6 val x axis d = (d, false) := by
    unfold ax6 axisV
    rw [if_neg (by omega), far_in h1 h2]
    obtain ⟨a1, a2, a3, a4, a5, a6, a7, a8, a9⟩ := h
    obtain ⟨b1, b2, b3, b4, b5, b6, -, -, -⟩ := h3
    unfold sh6 at b1 b2 b3 b4 b5 b6
    dsimp only at b1 b2 b3 b4 b5 b6
    have key : ∀ k : Int, (axis = 0 → 2 ≤ k ∧ k ≤ 12) → (axis = 1 → 16 ≤ k ∧ k ≤ 40) → (axis = 2 → 2 ≤ k ∧ k ≤ 12) → lyB val x.1 x.2.1 x.2.2.1 x.2.2.2.1 x.2.2.2.2.1 x.2.2.2.2.2 axis k = false := fun k k0 k1 k2 => by
      have kb : -100000000000000 ≤ k * 65536 ∧ k * 65536 ≤ 100000000000000 := by
        rcases ha with e | e | e
        · have := k0 e; omega
        · have := k1 e; omega
        · have := k2 e; omega
      rw [lyB_false]
      intro c hx hy hz
      rw [wi_c (by omega) (by omega), wi_c (by omega) (by omega)] at hx hy hz
      have one : ∀ c : Int, inAx (k * 65536) (k * 65536 + 65536) c → c = k := fun c hc => by
        rcases (inAx_iff (by omega) (by omega) (by omega)).1 hc with ⟨p, q, r⟩ | ⟨p, q, r⟩ <;> omega
      rcases ha with rfl | rfl | rfl
      · rw [if_pos rfl, if_pos rfl] at hx
        rw [if_neg (by decide), if_neg (by decide)] at hy hz
        have := one _ hx
        have g0 := k0 rfl
        have g1 := inAx_high (by omega) (by omega) a8 hy
        have g2 := inAx_mid a3 a6 a9 hz
        rw [hv c (by omega) (by omega) g1.1 g1.2 g2.1 g2.2]
        decide
      · rw [if_pos rfl, if_pos rfl] at hy
        rw [if_neg (by decide), if_neg (by decide)] at hx hz
        have := one _ hy
        have g0 := k1 rfl
        have g1 := inAx_mid a1 a4 a7 hx
        have g2 := inAx_mid a3 a6 a9 hz
        rw [hv c g1.1 g1.2 (by omega) (by omega) g2.1 g2.2]
        decide
      · rw [if_pos rfl, if_pos rfl] at hz
        rw [if_neg (by decide), if_neg (by decide)] at hx hy
        have := one _ hz
        have g0 := k2 rfl
        have g1 := inAx_high (by omega) (by omega) a8 hy
        have g2 := inAx_mid a1 a4 a7 hx
        rw [hv c g2.1 g2.2 g1.1 g1.2 (by omega) (by omega)]
        decide
    refine axV_free (fun hd k k1 k2 => key k ?_ ?_ ?_) (fun hd k k1 k2 => key k ?_ ?_ ?_)
    all_goals intro e; subst e; simp only [axI, if_true, show ¬ ((0 : Int) = 1) by decide, show ¬ ((1 : Int) = 0) by decide, show ¬ ((0 : Int) = 2) by decide, show ¬ ((2 : Int) = 0) by decide, show ¬ ((1 : Int) = 2) by decide, show ¬ ((2 : Int) = 1) by decide, if_false] at *; omega
  unfold al6
  rw [e]
  dsimp only
  rw [mv_sh h.sm (by decide) ha (by omega) (by omega)]
theorem step_air (h : MidX x) (hv : AirM val) {dx dy dz up : Int} (hx : -4194304 ≤ dx ∧ dx ≤ 4194304) (hy : -4194304 ≤ dy ∧ dy ≤ 4194304) (hz : -4194304 ≤ dz ∧ dz ≤ 4194304) (h3 : MidX (sh6 x dx dy dz)) :
    stepV val x dx dy dz up = (sh6 x dx dy dz, false, false, false) := by
  have m1 : MidX (sh6 x 0 dy 0) := by
    obtain ⟨a1, a2, a3, a4, a5, a6, a7, a8, a9⟩ := h
    obtain ⟨b1, b2, b3, b4, b5, b6, -, -, -⟩ := h3
    unfold sh6 at *
    dsimp only at b1 b2 b3 b4 b5 b6
    constructor <;> dsimp only <;> omega
  have m2 : MidX (sh6 x dx dy 0) := by
    obtain ⟨a1, a2, a3, a4, a5, a6, a7, a8, a9⟩ := h
    obtain ⟨b1, b2, b3, b4, b5, b6, -, -, -⟩ := h3
    unfold sh6 at *
    dsimp only at b1 b2 b3 b4 b5 b6
    constructor <;> dsimp only <;> omega
  have c2 : sh6 (sh6 x 0 dy 0) dx 0 0 = sh6 x dx dy 0 := by rw [sh6_sh, Int.zero_add, Int.add_zero, Int.add_zero]
  have c3 : sh6 (sh6 x dx dy 0) 0 0 dz = sh6 x dx dy dz := by rw [sh6_sh, Int.zero_add, Int.add_zero, Int.add_zero]
  have e1 := al_air h hv (axis := 1) (d := dy) (by decide) hy.1 hy.2 m1
  have t1 : st1 val x dy = sh6 x 0 dy 0 := by unfold st1; rw [e1]; rfl
  have u1 : hy1 val x dy = false := by unfold hy1; rw [e1]
  have e2 := al_air m1 hv (axis := 0) (d := dx) (by decide) hx.1 hx.2 (by show MidX (sh6 (sh6 x 0 dy 0) dx 0 0); rw [c2]; exact m2)
  have t2 : st2 val x dx dy = sh6 x dx dy 0 := by unfold st2; rw [t1, e2]; exact c2
  have u2 : hx2 val x dx dy = false := by unfold hx2; rw [t1, e2]
  have e3 := al_air m2 hv (axis := 2) (d := dz) (by decide) hz.1 hz.2 (by show MidX (sh6 (sh6 x dx dy 0) 0 0 dz); rw [c3]; exact h3)
  have t3 : st3 val x dx dy dz = sh6 x dx dy dz := by unfold st3; rw [t2, e3]; exact c3
  have u3 : hz3 val x dx dy dz = false := by unfold hz3; rw [t2, e3]
  unfold stepV
  rw [t3, u1, u2, u3]
  exact stepOf_no (.inl ⟨rfl, rfl⟩)
end
structure FallB (k : Nat) (b : BD) : Prop where
  ok : BOk 2000000 b
  x : 524288 - 16384 * (k : Int) ≤ b.1 ∧ b.1 ≤ 524288 + 16384 * (k : Int)
  z : 524288 - 16384 * (k : Int) ≤ b.2.2.1 ∧ b.2.2.1 ≤ 524288 + 16384 * (k : Int)
  y : b.2.1 = 1441792 - 2048 * ((k : Int) * ((k : Int) + 1))
  sy : b.2.2.2.2.1 = -4096 * (k : Int)
  wd : b.2.2.2.2.2.2.1 = 40000
  ht : b.2.2.2.2.2.2.2.1 = 100000
theorem FallB.mid {k : Nat} (hk : k ≤ 6) {b : BD} (h : FallB k b) : MidX (boxB b) := by
  have hb := (h.ok.box (by decide)).2
  obtain ⟨ok, x, z, y, sy, wd, ht⟩ := h
  rw [hb, wd, ht]
  have hk2 : (k : Int) * ((k : Int) + 1) ≤ 42 ∧ 0 ≤ (k : Int) * ((k : Int) + 1) := by
    rcases (show k = 0 ∨ k = 1 ∨ k = 2 ∨ k = 3 ∨ k = 4 ∨ k = 5 ∨ k = 6 by omega) with rfl | rfl | rfl | rfl | rfl | rfl | rfl <;> decide
  constructor <;> dsimp only <;> omega
theorem FallB.step {k : Nat} (hk : k ≤ 5) {b : BD} (h : FallB k b) {val : Cl → Int} (hv : AirM val) (ix iz : Int) : FallB (k + 1) (stepB val b ix iz false) := by
  have hm := h.mid (by omega)
  obtain ⟨ok, x, z, y, sy, wd, ht⟩ := h
  have hr : riseB val (walkB b ix iz) false = (b.1, b.2.1, b.2.2.1, walkI ix, b.2.2.2.2.1 - 4096, walkI iz, b.2.2.2.2.2.2.1, b.2.2.2.2.2.2.2.1, b.2.2.2.2.2.2.2.2) := by
    unfold riseB
    rw [boxB_walk, any_air hm hv (p := cliB) (by decide), any_air hm hv (p := wetB) (by decide)]
    unfold walkB riseI mxI
    simp only [Bool.false_and, Bool.false_eq_true, if_false]
    rw [Int.max_eq_left (by omega)]
  have hk2 := ((ok.walk ix iz).rise val false)
  rw [hr] at hk2
  have w1 := walk_bd ix
  have w2 := walk_bd iz
  have hbx : boxB (b.1, b.2.1, b.2.2.1, walkI ix, b.2.2.2.2.1 - 4096, walkI iz, b.2.2.2.2.2.2.1, b.2.2.2.2.2.2.2.1, b.2.2.2.2.2.2.2.2) = boxB b := by unfold boxB; rfl
  have hkk : (((k + 1 : Nat) : Int)) * (((k + 1 : Nat) : Int) + 1) = (k : Int) * ((k : Int) + 1) + 2 * ((k : Int) + 1) := by
    rcases (show k = 0 ∨ k = 1 ∨ k = 2 ∨ k = 3 ∨ k = 4 ∨ k = 5 by omega) with rfl | rfl | rfl | rfl | rfl | rfl <;> decide
  have hk3 : (k : Int) * ((k : Int) + 1) ≤ 30 ∧ 0 ≤ (k : Int) * ((k : Int) + 1) := by
    rcases (show k = 0 ∨ k = 1 ∨ k = 2 ∨ k = 3 ∨ k = 4 ∨ k = 5 by omega) with rfl | rfl | rfl | rfl | rfl | rfl <;> decide
  have hm2 : MidX (sh6 (boxB b) (walkI ix) (b.2.2.2.2.1 - 4096) (walkI iz)) := by
    rw [(ok.box (by decide)).2, wd, ht]
    unfold sh6
    constructor <;> dsimp only <;> omega
  have hg : goV val (b.1, b.2.1, b.2.2.1, walkI ix, b.2.2.2.2.1 - 4096, walkI iz, b.2.2.2.2.2.2.1, b.2.2.2.2.2.2.2.1, b.2.2.2.2.2.2.2.2) = (sh6 (boxB b) (walkI ix) (b.2.2.2.2.1 - 4096) (walkI iz), false, false, false) := by
    unfold goV
    rw [hbx]
    dsimp only
    rw [fw_id (by omega) (by omega) (by omega) (by omega), fw_id (by omega) (by omega) (by omega) (by omega), fw_id (by omega) (by omega) (by omega) (by omega)]
    exact step_air hm hv (by omega) (by omega) (by omega) hm2
  obtain ⟨p, q, r, e1, e2, -⟩ := goB_say val hk2 (by decide) (by decide)
  rw [hg] at e1 e2
  rw [hbx] at e1
  have e1' : sh6 (boxB b) (walkI ix) (b.2.2.2.2.1 - 4096) (walkI iz) = sh6 (boxB b) p q r := e1
  unfold sh6 at e1'
  simp only [Prod.mk.injEq] at e1'
  obtain ⟨p1, q1, r1, -, -, -⟩ := e1'
  have e : stepB val b ix iz false = goB val (riseB val (walkB b ix iz) false) := by unfold stepB; rfl
  rw [e, hr, e2]
  refine ⟨?_, ?_, ?_, ?_, ?_, wd, ht⟩
  · have hs := (e2 ▸ hk2.go (by decide) (by decide) val :)
    exact ⟨by dsimp only; omega, by dsimp only; omega, by dsimp only; omega, hs.sx, hs.sy, hs.sz, hs.wd, hs.ht⟩
  · dsimp only; omega
  · dsimp only; omega
  · dsimp only; rw [hkk]; omega
  · unfold zb; dsimp only; simp only [Bool.false_eq_true, if_false]; omega
theorem FallB.low {k : Nat} (hk : k ≤ 6) {b : BD} (h : FallB k b) : 6 ≤ lowI b.1 ∧ lowI b.1 ≤ 10 ∧ 6 ≤ lowI b.2.2.1 ∧ lowI b.2.2.1 ≤ 10 := by
  obtain ⟨ok, x, z, -⟩ := h
  unfold lowI
  rw [cutI_id (by omega) (by omega), cutI_id (by omega) (by omega)]
  omega
end Go.Proofs.YtmbccnioijokfaaGreatDoor

namespace Go.Proofs.YtmbccnioijokfaaGreatDoor
open Go.RowKit
attribute [local go_sem] Oper.semAt_some
abbrev encI1 (n : Int) : Array Value := #[.int .i64 n]
def colG (s px pz : Int) (j : Nat) : Int := groundV s (px * 16 + (j : Int) % 16) (pz * 16 + (j : Int) / 16 % 16)
def cellG (s px pz : Int) (i : Nat) : Int := ofB ((i : Int) / 256) (colG s px pz (i % 256))
def genL (s px pz : Int) : List Int := (List.range 8192).map (cellG s px pz)
def gArr (s px pz : Int) (k : Nat) : Array Value := ((List.range 256).map fun j => Value.int .i64 (if j < k then colG s px pz j else 0)).toArray
theorem gArr_at (s px pz : Int) (k : Nat) {j : Nat} (hj : j < 256) : (gArr s px pz k)[j]? = some (.int .i64 (if j < k then colG s px pz j else 0)) := by simp [gArr, hj]
theorem gArr_set (s px pz : Int) {k : Nat} (hk : k < 256) : (gArr s px pz k).setIfInBounds k (.int .i64 (colG s px pz k)) = gArr s px pz (k + 1) := by
  apply Array.ext_getElem?
  intro i
  have hs : (gArr s px pz k).size = 256 := by simp [gArr]
  by_cases hi : i < 256
  · rw [gArr_at _ _ _ _ hi]
    by_cases h : i = k
    · subst h
      rw [Array.getElem?_setIfInBounds_self_of_lt (by omega), if_pos (by omega)]
    · rw [Array.getElem?_setIfInBounds_ne (fun e => h e.symm), gArr_at _ _ _ _ hi]
      by_cases h2 : i < k
      · rw [if_pos h2, if_pos (by omega)]
      · rw [if_neg h2, if_neg (by omega)]
  · rw [Array.getElem?_eq_none (by rw [Array.size_setIfInBounds]; omega), Array.getElem?_eq_none (by simp [gArr]; omega)]
theorem zero_g1 : Tryz.zeroCells285 = (List.replicate 256 (Value.int .i64 0)).toArray := by kernel_rfl
theorem zero_g (s px pz : Int) : Tryz.zeroCells285 = gArr s px pz 0 := by
  rw [zero_g1]
  unfold gArr
  rw [List.map_congr_left (g := fun _ => Value.int .i64 0) (fun j _ => by simp), List.map_const', List.length_range]
set_option maxRecDepth 100000 in
set_option maxHeartbeats 8000000 in
theorem gen_it (B G : Nat) (s px pz : Int) (hx : -1000000000 ≤ px ∧ px ≤ 1000000000) (hz : -1000000000 ≤ pz ∧ pz ≤ 1000000000) (w : World) (hb : Blk w B 123 #[.int .i64 px, .int .i64 pz]) (hg : Blk w G 3 #[.int .i64 s]) :
    Iter Tryz.prog 217 #[.pointer (some ⟨B, 0, none⟩), .pointer (some ⟨G, 0, none⟩)] encI1 (genL s px pz) (fun x => x = B ∨ x = G) w := by
  intro m l J Jx W hW hJ hJx hY h0
  have A := hW.blk (.inl rfl) hb
  have A1 := hW.blk (.inr rfl) hg
  clear hb hg hW
  refine callsIn_of_wp Tryz.func217 rfl trivial ?_ rfl
  simp only [Tryz.ntmps217, List.size_toArray, List.length_cons, List.length_nil, Nat.reduceAdd, Nat.reduceSub, Array.replicate_succ, Array.replicate_zero, List.push_toArray, List.append_toArray, List.nil_append, List.cons_append]
  refine wpIn_wide.2 ?_
  go_upto_region 1 with (fail)
  obtain ⟨W0, hW0⟩ : ∃ W0, W0 = W.alloc (.cells Tryz.zeroCells285 285) := ⟨_, rfl⟩
  rw [← hW0]
  have H0 : Below W.heap.size W W0 := by rw [hW0]; exact (Below.refl _ _).alloc (Nat.le_refl _) _
  have X0 : Blk W0 W.heap.size 285 (gArr s px pz 0) := by rw [hW0, zero_g s px pz]; exact Blk.new' rfl
  have AL := A.lt
  have AL1 := A1.lt
  clear hW0
  go_wp2_with fail
  go_loopw [9] (fun iv wr => ∃ k : Nat, k ≤ 256 ∧ iv = .int .i64 k ∧ Blk wr W.heap.size 285 (gArr s px pz k) ∧ Hid (Below W.heap.size W wr)) (fun iv _ => 256 - (intOf iv).toNat)
  case atStart => exact ⟨0, by omega, rfl, X0, H0⟩
  case round =>
    obtain ⟨k, hk, rfl, X, H⟩ := hrel
    clear X0 H0
    have A' := A.on H.out
    have A1' := A1.on H.out
    obtain ⟨p0, p1, -, -⟩ := A'.pair
    obtain ⟨s0, -⟩ := A1'.c1
    by_cases hlt : k < 256
    · have hk1 : (k : Int) < 256 := by omega
      have hk0 : (0 : Int) ≤ k := by omega
      have e2 : (k : Int) / 256 = 0 := by omega
      have HF := Lib.hid (cfrom_c px pz k (by omega) (by omega) (by omega) wr)
      have HG := Lib.hid fun W => gground_c s (px * 16 + (k : Int) % 16) (pz * 16 + (k : Int) / 16 % 16) (by omega) (by omega) W
      go_upto_region 5 with (go_at_call 218; refine HF.out.mono ?_; rintro e_ w1 ⟨rfl, g1⟩; have G1 := Lib.hid g1; clear g1)
      obtain ⟨W2, hW2⟩ : ∃ W2, W2 = w1.alloc (.cells #[.int .i64 (px * 16 + (k : Int) % 16), .int .i64 0, .int .i64 (pz * 16 + (k : Int) / 16 % 16)] 43) := ⟨_, rfl⟩
      rw [← hW2]
      have g2 : Below w1.heap.size w1 W2 := by rw [hW2]; exact (Below.refl _ _).alloc (Nat.le_refl _) _
      have C := Blk.fresh hW2
      have G2 := Lib.hid (after G1.out g2)
      obtain ⟨c0, c1, c2, -, -, -⟩ := C.c3
      have s0' := (A1'.on G2.out).cell 0
      have X2 := X.on G2.out
      have hsz : W.heap.size < w1.heap.size := Nat.lt_of_lt_of_le X.lt G1.out.size
      have HSZ := Lib.hid hsz
      clear hW2 HF p0 p1 s0 A' A1' g2 C hsz
      go_upto_region 6 with (go_at_call 219; refine (HG.out _).mono ?_; rintro e_ w3 ⟨rfl, g3⟩; have G3 := Lib.hid (after G2.out g3); have x0 := (X2.on g3).cell k; rw [gArr_at s px pz k hlt] at x0; have xf := (X2.on g3).frz k; have X3 := Lib.hid (X2.on g3); clear g3)
      clear x0 xf c0 c1 c2 s0' X2
      go_wp2_with fail
      have h4 := X3.out.set_ k (.int .i64 (groundV s (px * 16 + (k : Int) % 16) (pz * 16 + (k : Int) / 16 % 16)))
      rw [show groundV s (px * 16 + (k : Int) % 16) (pz * 16 + (k : Int) / 16 % 16) = colG s px pz k from rfl, gArr_set s px pz hlt] at h4
      exact ⟨⟨k + 1, by omega, by go_num, h4, Lib.hid ((after H.out G3.out).setCell (p := ⟨W.heap.size, k, none⟩) (Nat.le_refl _) _)⟩, by simp [intOf]; omega⟩
    · obtain rfl : k = 256 := by omega
      clear A AL A1 AL1
      obtain ⟨Z, hZ⟩ : ∃ Z, Z = wr.heap.size := ⟨_, rfl⟩
      have hJ0 : J Z 0 wr := hJ Z 0 W wr (h0 Z) ((Kept.of_below H.out).mono fun _ _ => trivial)
      have HZ := Lib.hid (show W.heap.size < Z ∧ Z ≤ wr.heap.size from ⟨by rw [hZ]; exact X.lt, by omega⟩)
      have HJ0 := Lib.hid hJ0
      have HLEN := Lib.hid (show (genL s px pz).length = 8192 by simp [genL])
      clear hJ0 hZ H h0
      generalize hg : gArr s px pz 256 = ga at X
      have HGA := Lib.hid hg
      clear hg
      have h256 : ¬ ((256 : Int) < 256) := by omega
      go_wp2_with fail
      refine (wpIn_wide (n := m + 1)).1 ?_
      gi_loopw [27] (fun v A => ∃ i : Nat, v = .int .i64 i ∧ Hid (i ≤ 8192) ∧ Blk A W.heap.size 285 ga ∧ Hid (Z ≤ A.heap.size) ∧ Hid (J Z i A)) (fun v _ => 8192 - (intOf v).toNat)
      case atStart => exact ⟨0, rfl, Lib.hid (by omega), X, Lib.hid HZ.out.2, HJ0⟩
      case round =>
        clear X HJ0
        obtain ⟨i, rfl, hi, X, hz2, hj⟩ := hrel
        by_cases hlt : i < 8192
        · have hi0 : (0 : Int) ≤ i := by omega
          have hi1 : (i : Int) < 8192 := by omega
          have x0 := X.cell (i % 256)
          rw [← HGA.out, gArr_at s px pz 256 (Nat.mod_lt _ (by decide)), if_pos (Nat.mod_lt _ (by decide))] at x0
          have hgb := groundV_bd s (px * 16 + ((i % 256 : Nat) : Int) % 16) (pz * 16 + ((i % 256 : Nat) : Int) / 16 % 16)
          have HO := Lib.hid fun W => gof_c ((i : Int) / 256) (colG s px pz (i % 256)) (by omega) hgb W
          have hci : (genL s px pz)[i]? = some (ofB ((i : Int) / 256) (colG s px pz (i % 256))) := by unfold genL; rw [List.getElem?_map, List.getElem?_range hlt]; rfl
          generalize colG s px pz (i % 256) = gv at *
          have HCI := Lib.hid hci
          have HLT := Lib.hid hlt
          have HX := Lib.hid X
          clear hci hlt hgb
          gi_wp2_with (refine ⟨trivial, ?_⟩; gi_at_call 220; refine (callsIn_wide.2 (HO.out _)).mono ?_; rintro e_ w3 ⟨rfl, rfl⟩; obtain ⟨fn, tmps, assign, body, hy', hR⟩ := hY Z i _ wr (by have := HZ.out.1; omega) hz2.out HCI.out hj.out)
          refine hR.mono ?_
          rintro e_ W3 (⟨rfl, hj3, hk3⟩ | ⟨rfl, hjx3⟩)
          · have X3 := hk3.blk (.inl ⟨Nat.le_refl _, HZ.out.1⟩) HX.out
            have hsz3 := Lib.hid (Nat.le_trans hz2.out hk3.size)
            have HJ3 := Lib.hid hj3
            clear hj3 hk3
            gi_wp2
            go_roundw
            case rel => exact ⟨i + 1, rfl, Lib.hid (by have := HLT.out; omega), X3, hsz3, HJ3⟩
            case measure => have := HLT.out; simp [intOf]; omega
          · gi_wp2
            refine bodyPost_ret (results_none rfl _ _ _) rfl ?_
            exact ⟨⟨_, rfl⟩, Z, by have := HZ.out.1; omega, .inr ⟨i, by rw [HLEN.out]; exact HLT.out, hjx3⟩⟩
        · have hin : i = 8192 := Nat.le_antisymm hi.out (Nat.le_of_not_lt hlt)
          subst hin
          have hlt2 : ¬ ((8192 : Int) < 8192) := by omega
          clear hlt
          gi_wp2
          go_end0
          exact ⟨⟨_, rfl⟩, Z, by have := HZ.out.1; omega, .inl (by rw [HLEN.out]; exact hj.out)⟩
end Go.Proofs.YtmbccnioijokfaaGreatDoor

namespace Go.Proofs.YtmbccnioijokfaaGreatDoor
open Go.RowKit Go.Shelf
attribute [local go_sem] Oper.semAt_some
theorem wpListIn_append_run {F : Fence} {n' : Nat} {P : Program} (w : World) {ops : Array Oper} {rest : List Oper} {o : Oper} {a : Act} {Q : Exit → Act → World → Prop} (hgd : o.guard = none) (s x : Operand) (t tn : TypeId)
    (ho : o.op = .call { callee := .builtin .append, args := #[s, x], argTypes := #[t, tn] }) (vs vx : Value) (hs : a.eval s = vs) (hx : a.eval x = vx)
    (v' : Value) (w' : World) (hr : (Builtin.append_ #[t, tn] o.type #[vs, vx]).run P w = .ok v' w') (h : wpListIn F n' P ops Q rest (a.put o.dst v') w') : wpListIn F n' P ops Q (o :: rest) a w := by
  refine wpListIn_plain hgd fun K hK => ?_
  unfold Oper.wpIn
  refine ⟨?_, ?_⟩
  · simp [Oper.about, ho, resolve, Target.leads, Sem.run_pure]
  · rw [Oper.semAt_plain F _ _ (by rw [ho]; intro c hc'; cases hc')]
    simp [execOp, ho, resolve, invoke, builtin, hs, hx, hr, Result.andThen]
    exact hK _ _ h
theorem Iter.on {P : Program} {gf : Nat} {lb : Array Value} {α : Type} {encs : α → Array Value} {xs : List α} {cap : Nat → Prop} {w0 w1 : World} (h : Iter P gf lb encs xs cap w0) (hk : Kept cap w0 w1) : Iter P gf lb encs xs cap w1 :=
  fun m l J Jx W hW => h m l J Jx W (hk.trans hW)
set_option maxRecDepth 100000 in
set_option maxHeartbeats 1000000 in
theorem gcells_c (s px pz : Int) (w : World) : Calls Tryz.prog 170 #[.int .i64 s, .agg #[.int .i64 px, .int .i64 pz]] w fun r w' =>
    r = .returned (.func (.func 217) #[] #[.pointer (some ⟨w.heap.size + 1, 0, none⟩), .pointer (some ⟨w.heap.size, 0, none⟩)]) ∧ w' = (w.alloc (.cells #[.int .i64 s] 3)).alloc (.cells #[.int .i64 px, .int .i64 pz] 123) := by
  go_enter Tryz.func170, Tryz.ntmps170
  go_wp2_with fail
  go_returns
  exact ⟨rfl, rfl⟩
set_option maxRecDepth 100000 in
set_option maxHeartbeats 1000000 in
theorem clip_c (q : Option Addr) (n c : Nat) (hc : n ≤ c) (w : World) : Calls Tryz.prog 172 #[.slice q n c] w fun r w' => r = .returned (.slice q n n) ∧ w = w' := by
  go_enter Tryz.func172, Tryz.ntmps172
  go_wp2_with fail
  go_returns
  exact ⟨rfl, rfl⟩
theorem Owns.lowB {w : World} {base B size : Nat} {e : TypeId} {α : Type} {enc : α → List Value} {v : Value} {xs : List α} (h : Owns w base e size enc v xs) (hb : B ≤ base) : Owns w B e size enc v xs := by
  refine ⟨h.1, ?_⟩
  rcases h.2 with h0 | ⟨g, cap, cur, hv, hbg, r⟩
  · exact .inl h0
  · exact .inr ⟨g, cap, cur, hv, Nat.le_trans hb hbg, r⟩
theorem infIg : (Tryz.prog.info? 3).map (fun i => (i.zero, i.size, i.bytes)) = some (some (.int .i64 0), 1, 8) := by kernel_rfl
set_option maxRecDepth 100000 in
set_option maxHeartbeats 8000000 in
theorem gchunk_c (s px pz : Int) (hx : -1000000000 ≤ px ∧ px ≤ 1000000000) (hz : -1000000000 ≤ pz ∧ pz ≤ 1000000000) (w : World) :
    Calls Tryz.prog 126 #[.int .i64 s, .agg #[.int .i64 px, .int .i64 pz]] w fun r w' => RowR w (ofR (genL s px pz)) r w' := by
  obtain ⟨N, hN⟩ : ∃ N, N = w.heap.size + 1 := ⟨_, rfl⟩
  obtain ⟨W0, hW0⟩ : ∃ W0, W0 = (w.alloc (.cells #[.int .i64 px, .int .i64 pz] 123)).alloc (.cells #[.slice none 0 0] 31) := ⟨_, rfl⟩
  have H0 : Below w.heap.size w W0 := by rw [hW0]; go_grown
  have P0 : Blk W0 w.heap.size 123 #[.int .i64 px, .int .i64 pz] := by rw [hW0]; exact (Blk.new' rfl).alloc _
  have A0 : Blk W0 N 31 #[.slice none 0 0] := by rw [hW0, hN]; exact Blk.new' (by simp)
  have hs0 : W0.heap.size = w.heap.size + 2 := by rw [hW0]; simp
  obtain ⟨p0, p1, -, -⟩ := P0.pair
  refine (callsIn_wide (n := 5)).1 (callsIn_of_wp_marks Tryz.func126 rfl trivial ?_ rfl)
  refine wpIn_wide.2 ?_
  simp only [Tryz.ntmps126, List.size_toArray, List.length_cons, List.length_nil, Nat.reduceAdd, Nat.reduceSub, Array.replicate_succ, Array.replicate_zero, List.push_toArray, List.append_toArray, List.nil_append, List.cons_append]
  go_upto_region 2 with (fail)
  rw [← hW0, ← hN]
  have HN := Lib.hid hN
  have HS0 := Lib.hid hs0
  clear hW0 hN hs0 P0
  obtain ⟨M, hM⟩ : ∃ M, M = W0.heap.size := ⟨_, rfl⟩
  obtain ⟨W1, hW1⟩ : ∃ W1, W1 = (W0.alloc (.cells #[.int .i64 s] 3)).alloc (.cells #[.int .i64 px, .int .i64 pz] 123) := ⟨_, rfl⟩
  have H1 : Below w.heap.size w W1 := by rw [hW1]; exact ((H0.alloc H0.size _).alloc (H0.alloc H0.size _).size _)
  have S1 : Blk W1 M 3 #[.int .i64 s] := by rw [hW1, hM]; exact (Blk.new' rfl).alloc _
  have P1 : Blk W1 (M + 1) 123 #[.int .i64 px, .int .i64 pz] := by rw [hW1, hM]; exact Blk.new' (by simp)
  have A1 : Blk W1 N 31 #[.slice none 0 0] := by rw [hW1]; exact (A0.alloc _).alloc _
  have hs1 : W1.heap.size = M + 2 := by rw [hW1, hM]; simp
  have HM := Lib.hid (show M = N + 1 by have := HN.out; have := HS0.out; omega)
  have HLEN := Lib.hid (show (genL s px pz).length = 8192 by simp [genL])
  go_wp2_with (go_at_call 170; refine (gcells_c _ _ _ _).mono ?_; rintro e_ w1 ⟨rfl, rfl⟩)
  rw [← hW1, ← hM]
  have HS := Lib.hid hs1
  clear hW1 hM hs1 p0 p1 H0 A0 HS0
  refine wp_range (m := 3) (gf := 217) (lb := #[.pointer (some ⟨M + 1, 0, none⟩), .pointer (some ⟨M, 0, none⟩)]) rfl (enters_of Tryz.func217 (by kernel_rfl) rfl) (gen_it (M + 1) M s px pz hx hz W1 P1 S1) (fun b hb => by have := HS.out; omega) (fun _ => rfl)
    (fun Z i A => ∃ v, Blk A N 31 #[v] ∧ Hid (Owns A (max Z (M + 2)) 3 1 encI v ((genL s px pz).take i)) ∧ Below w.heap.size w A)
    (fun Z k i A => False) ?_ ?_ (fun Z => ⟨_, A1, by rw [List.take_zero]; exact Owns.nil, H1⟩) ?round ?done ?stop
  · rintro Z i A B ⟨v, h1, h2, h3⟩ hk
    exact ⟨v, hk.blk (fun h => by have h4 := h.1; have := HM.out; rw [HS.out] at h4; omega) h1, h2.out.kept (fun g hg hgs => hk.block g hgs (fun h => by have := h.2; have := Nat.le_max_left Z (M + 2); omega)), h3.trans (hk.below h3.size (fun b hb h => by have h4 := h.1; have := HM.out; have := HN.out; rw [HS.out] at h4; omega))⟩
  · rintro Z k i A B h _; exact h.elim
  case round =>
    rintro Z l i x A rfl hZ1 hZ2 hx2 ⟨v, h1, h2, h3⟩
    clear A1 H1 S1 P1
    gi_wp2
    refine ⟨Kept.refl _ _, fun A2 hA2 hz2 => ?_⟩
    have hs1 := HS.out
    have hMN := HM.out
    have hNw := HN.out
    have hmx : max Z (M + 2) = Z := by omega
    rw [hmx] at h2
    replace h1 : Blk A2 N 31 #[v] := hA2.blk (show N ≠ W1.heap.size + 1 by omega) h1
    have V : Owns A2 Z 3 1 encI v ((genL s px pz).take i) := h2.out.kept fun g hg hgs => hA2.block g hgs (show g ≠ W1.heap.size + 1 by omega)
    replace h3 : Below w.heap.size w A2 := h3.trans (hA2.below h3.size (fun b hb => by omega))
    have hz3 : Z ≤ A2.heap.size := by rw [hz2]; omega
    have hi : i < (genL s px pz).length := (List.getElem?_eq_some_iff.1 hx2).1
    have htk : (genL s px pz).take (i + 1) = (genL s px pz).take i ++ [x] := by rw [List.take_add_one, hx2]; rfl
    have htl : ((genL s px pz).take i).length = i := by rw [List.length_take]; omega
    have h8 := HLEN.out
    obtain ⟨A3, hA3⟩ : ∃ A3, A3 = A2.alloc (.cells #[.int .i64 x] 3) := ⟨_, rfl⟩
    have hb3 : Below A2.heap.size A2 A3 := by rw [hA3]; exact (Below.refl _ _).alloc (Nat.le_refl _) _
    have hNew : Blk A3 A2.heap.size 3 #[.int .i64 x] := by rw [hA3]; exact Blk.new' rfl
    obtain ⟨v', w', hrun, V2, -, hb2, g9, c9, rfl⟩ := run_push (P := Tryz.prog) (ts := 31) (ty := 31) (x := x) (b := A2.heap.size) Tryz.underlying31 infIg rfl (by decide) (by decide) rfl (by simp [Value.oneCell']) (V.on hb3)
      (fun j u hu => by rw [hNew.cell j]; simpa using hu) (by rw [htl]; omega) (Nat.le_trans hz3 hb3.size)
    generalize ((genL s px pz).take i).length + 1 = n9 at hrun V2
    rw [← htk] at V2
    have O := (h1.on hb3).below hb2 (by omega)
    have f0 := O.frz 0
    have o0 := O.cell 0
    have hk3 : Kept (Keeps W1.heap.size Z (fun x => x = M + 1 ∨ x = M)) A2 w' := (Kept.of_below hb3).trans ⟨hb2.os, hb2.tape, hb2.output, hb2.size, fun b hb hK => hb2.block b (by
      rcases hK with h | h
      · exact h.2
      · omega)⟩
    have hk4 := hk3.setCell (p := ⟨N, 0, none⟩) (fun h => by
      rcases h with h | h
      · have := h.1; dsimp only at this; omega
      · dsimp only at h; omega) (.slice (some ⟨g9, 0, none⟩) n9 c9)
    have hfin : Below w.heap.size w (w'.setCell ⟨N, 0, none⟩ (.slice (some ⟨g9, 0, none⟩) n9 c9)) := (after h3 hb3 |>.trans (hb2.mono (by omega))).setCell (p := ⟨N, 0, none⟩) (by dsimp only; omega) _
    have V3 := V2.far (p := ⟨N, 0, none⟩) (show N < Z by omega) (.slice (some ⟨g9, 0, none⟩) n9 c9)
    rw [← hmx] at V3
    have HF := Lib.hid (And.intro hk4 (And.intro (O.set_ 0 (.slice (some ⟨g9, 0, none⟩) n9 c9)) (And.intro V3 hfin)))
    have v0 := h1.cell 0
    rw [hA3] at hrun
    clear hA2 hz2 hs1 hmx V hz3 hi htk htl hA3 hb3 hNew V2 hb2 O hk3 hk4 hfin V3 hx2 hZ1 hZ2 h2 h3 h1 hMN hNw h8
    gi_wp2_with (gi_at_builtin; refine wpListIn_append_run _ rfl _ _ _ _ rfl _ _ rfl rfl _ _ hrun ?_)
    exact ⟨HF.out.1, _, HF.out.2.1, HF.out.2.2.1, HF.out.2.2.2⟩
  case done =>
    rintro Z A ⟨v, h1, h2, h3⟩ hK
    clear A1 H1
    have v0 := h1.cell 0
    have hO := h2.out
    rw [List.take_length] at hO
    obtain ⟨q, c, rfl, hc1, hc2, hrd, -⟩ := hO.form lenI
    have HOF := Lib.hid (runof_c A q (genL s px pz).length (genL s px pz) hrd (by rw [HLEN.out]; decide))
    have HCL := Lib.hid (clip_c q (genL s px pz).length c hc1 A)
    have HK := Lib.hid hK
    have H3 := Lib.hid h3
    have HSZ := Lib.hid (Array.getElem?_eq_some_iff.1 hK).1
    clear hK hO hc1 hc2 hrd h1 h2 h3
    go_wp2_with first
      | (go_at_call 172; refine HCL.out.mono ?_; rintro e_ w1 ⟨rfl, rfl⟩)
      | (go_at_call 171; refine HOF.out.mono ?_; rintro e_ w1 ⟨v, rfl, g1, g2⟩; have G1 := Lib.hid g1; have G2 := Lib.hid g2; clear g1 g2)
    refine leave_mark ((G2.out.block _ HSZ.out).trans HK.out) (v := v) (by simp [results, Tryz.f126, go_sem]) ⟨v, rfl, ?_, ?_⟩
    · have h := G1.out.lowB H3.out.size
      refine ⟨h.1, ?_⟩
      rcases h.2 with h0 | ⟨g, cp, cur, hv, hbg, hg, r⟩
      · exact .inl h0
      · refine .inr ⟨g, cp, cur, hv, hbg, (World.putObj_heap_other (fun e => ?_)).trans hg, r⟩
        rw [e, (G2.out.block _ HSZ.out).trans HK.out] at hg
        cases hg
    · exact putObj_below (after H3.out G2.out) (by have := HS.out; have := HM.out; have := HN.out; omega) _
  case stop =>
    rintro Z k i A hi h
    exact h.elim
end Go.Proofs.YtmbccnioijokfaaGreatDoor

namespace Go.Proofs.YtmbccnioijokfaaGreatDoor
open Go.RowKit
attribute [local go_sem] Oper.semAt_some
section
variable {w : World} {g : Nat} {t : TypeId} {a b c d e f k l m : Value}
theorem Blk.c9 (h : Blk w g t #[a, b, c, d, e, f, k, l, m]) : (w.cell? ⟨g, 0, none⟩ = some a ∧ w.cell? ⟨g, 1, none⟩ = some b ∧ w.cell? ⟨g, 2, none⟩ = some c ∧ w.cell? ⟨g, 3, none⟩ = some d ∧ w.cell? ⟨g, 4, none⟩ = some e ∧ w.cell? ⟨g, 5, none⟩ = some f ∧ w.cell? ⟨g, 6, none⟩ = some k ∧ w.cell? ⟨g, 7, none⟩ = some l ∧ w.cell? ⟨g, 8, none⟩ = some m) ∧
    w.frozen? ⟨g, 0, none⟩ = false ∧ w.frozen? ⟨g, 1, none⟩ = false ∧ w.frozen? ⟨g, 2, none⟩ = false ∧ w.frozen? ⟨g, 3, none⟩ = false ∧ w.frozen? ⟨g, 4, none⟩ = false ∧ w.frozen? ⟨g, 5, none⟩ = false ∧ w.frozen? ⟨g, 6, none⟩ = false ∧ w.frozen? ⟨g, 7, none⟩ = false ∧ w.frozen? ⟨g, 8, none⟩ = false :=
  ⟨⟨h.cell 0, h.cell 1, h.cell 2, h.cell 3, h.cell 4, h.cell 5, h.cell 6, h.cell 7, h.cell 8⟩, h.frz 0, h.frz 1, h.frz 2, h.frz 3, h.frz 4, h.frz 5, h.frz 6, h.frz 7, h.frz 8⟩
theorem Blk.st9 {a' b' c' d' e' f' k' l' m' : Value} (h : Blk w g t #[a', b', c', d', e', f', k', l', m']) (a b c d e f k l m : Value) : Blk (((((((((w.setCell ⟨g, 0, none⟩ a).setCell ⟨g, 1, none⟩ b).setCell ⟨g, 2, none⟩ c).setCell ⟨g, 3, none⟩ d).setCell ⟨g, 4, none⟩ e).setCell ⟨g, 5, none⟩ f).setCell ⟨g, 6, none⟩ k).setCell ⟨g, 7, none⟩ l).setCell ⟨g, 8, none⟩ m) g t #[a, b, c, d, e, f, k, l, m] := by
  have h0 : Blk _ g t #[a, b', c', d', e', f', k', l', m'] := h.set_ 0 a
  have h1 : Blk _ g t #[a, b, c', d', e', f', k', l', m'] := h0.set_ 1 b
  have h2 : Blk _ g t #[a, b, c, d', e', f', k', l', m'] := h1.set_ 2 c
  have h3 : Blk _ g t #[a, b, c, d, e', f', k', l', m'] := h2.set_ 3 d
  have h4 : Blk _ g t #[a, b, c, d, e, f', k', l', m'] := h3.set_ 4 e
  have h5 : Blk _ g t #[a, b, c, d, e, f, k', l', m'] := h4.set_ 5 f
  have h6 : Blk _ g t #[a, b, c, d, e, f, k, l', m'] := h5.set_ 6 k
  have h7 : Blk _ g t #[a, b, c, d, e, f, k, l, m'] := h6.set_ 7 l
  have h8 : Blk _ g t #[a, b, c, d, e, f, k, l, m] := h7.set_ 8 m
  exact h8
theorem sx9_far {N : Nat} {cs : Array Value} (V : Blk w g t cs) (h : g ≠ N) (a b c d e f k l m : Value) : Blk (((((((((w.setCell ⟨N, 0, none⟩ a).setCell ⟨N, 1, none⟩ b).setCell ⟨N, 2, none⟩ c).setCell ⟨N, 3, none⟩ d).setCell ⟨N, 4, none⟩ e).setCell ⟨N, 5, none⟩ f).setCell ⟨N, 6, none⟩ k).setCell ⟨N, 7, none⟩ l).setCell ⟨N, 8, none⟩ m) g t cs :=
  ((((((((V.far (p := ⟨N, 0, none⟩) h _).far (p := ⟨N, 1, none⟩) h _).far (p := ⟨N, 2, none⟩) h _).far (p := ⟨N, 3, none⟩) h _).far (p := ⟨N, 4, none⟩) h _).far (p := ⟨N, 5, none⟩) h _).far (p := ⟨N, 6, none⟩) h _).far (p := ⟨N, 7, none⟩) h _).far (p := ⟨N, 8, none⟩) h _
theorem sx9_below {w0 : World} {N n : Nat} (H : Below n w0 w) (h : n ≤ N) (a b c d e f k l m : Value) : Below n w0 (((((((((w.setCell ⟨N, 0, none⟩ a).setCell ⟨N, 1, none⟩ b).setCell ⟨N, 2, none⟩ c).setCell ⟨N, 3, none⟩ d).setCell ⟨N, 4, none⟩ e).setCell ⟨N, 5, none⟩ f).setCell ⟨N, 6, none⟩ k).setCell ⟨N, 7, none⟩ l).setCell ⟨N, 8, none⟩ m) :=
  ((((((((H.setCell (p := ⟨N, 0, none⟩) h _).setCell (p := ⟨N, 1, none⟩) h _).setCell (p := ⟨N, 2, none⟩) h _).setCell (p := ⟨N, 3, none⟩) h _).setCell (p := ⟨N, 4, none⟩) h _).setCell (p := ⟨N, 5, none⟩) h _).setCell (p := ⟨N, 6, none⟩) h _).setCell (p := ⟨N, 7, none⟩) h _).setCell (p := ⟨N, 8, none⟩) h _
end
theorem wi20_c (x y z m : Int) (hm : 0 ≤ m ∧ m ≤ 70368744177664) (w : World) : Calls Tryz.prog 180 #[.agg #[.int .i64 x, .int .i64 y, .int .i64 z], .int .i64 m] w fun r w' => r = .returned (.bool (inI x y z m)) ∧ Below w.heap.size w w' := by
  have hmn := @run_mn3 Tryz.prog
  have hmx := @run_mx3 Tryz.prog
  have q : -9223372036854775808 ≤ -m ∧ -m ≤ 9223372036854775807 := by omega
  obtain ⟨q1, q2⟩ := q
  clear hm
  unfold inI
  by_cases h1 : -m ≤ mn3 x y z
  · by_cases h2 : mx3 x y z ≤ m
    · go_enter Tryz.func180, Tryz.ntmps180
      go_wp2_with fail
      go_returns
      exact ⟨by simp [h1, h2], by (repeat' (first | (with_reducible exact Below.refl _ _) | (with_reducible assumption) | (with_reducible refine Below.alloc ?_ ?_ _) | (with_reducible refine Below.drew ?_) | (with_reducible refine Below.setCell ?_ ?_ _) | (with_reducible refine after ?_ (below_regrown _ _ _)) | (refine after ?_ (by with_reducible assumption)) | go_size))⟩
    · go_enter Tryz.func180, Tryz.ntmps180
      go_wp2_with fail
      go_returns
      exact ⟨by simp [h2], by (repeat' (first | (with_reducible exact Below.refl _ _) | (with_reducible assumption) | (with_reducible refine Below.alloc ?_ ?_ _) | (with_reducible refine Below.drew ?_) | (with_reducible refine Below.setCell ?_ ?_ _) | (with_reducible refine after ?_ (below_regrown _ _ _)) | (refine after ?_ (by with_reducible assumption)) | go_size))⟩
  · go_enter Tryz.func180, Tryz.ntmps180
    go_wp2_with fail
    go_returns
    exact ⟨by simp; omega, by (repeat' (first | (with_reducible exact Below.refl _ _) | (with_reducible assumption) | (with_reducible refine Below.alloc ?_ ?_ _) | (with_reducible refine Below.drew ?_) | (with_reducible refine Below.setCell ?_ ?_ _) | (with_reducible refine after ?_ (below_regrown _ _ _)) | (refine after ?_ (by with_reducible assumption)) | go_size))⟩
set_option maxRecDepth 100000 in
set_option maxHeartbeats 4000000 in
theorem bbox_c (b : BD) (hw : b.2.2.2.2.2.2.1 ≤ 9223372036854775807) (w : World) : Calls Tryz.prog 139 #[.agg (bd9 b)] w fun r w' => r = .returned (.agg (ag6 (boxB b))) ∧ Below w.heap.size w w' := by
  obtain ⟨x, y, z, sx, sy, sz, wd, ht, st⟩ := b
  dsimp only at hw
  have HS := Lib.hid (fun W => stand_c x y z wd ht hw W)
  clear hw
  simp only [boxB, standI, ag6, bd9]
  obtain ⟨W, hW⟩ : ∃ W, W = (w.alloc (.cells #[.int .i64 x, .int .i64 y, .int .i64 z, .int .i64 sx, .int .i64 sy, .int .i64 sz, .int .i64 wd, .int .i64 ht, .bool st] 40)).alloc (.cells #[.int .i64 0, .int .i64 0, .int .i64 0, .int .i64 0, .int .i64 0, .int .i64 0] 210) := ⟨_, rfl⟩
  have H : Below w.heap.size w W := by rw [hW]; go_grown
  have R0 : Blk W (w.heap.size + 1) 210 _ := Blk.eqw hW.symm (Blk.new' (by simp))
  have B0 : Blk W w.heap.size 40 _ := Blk.eqw hW.symm ((Blk.new' rfl).alloc _)
  go_enter Tryz.func139, Tryz.ntmps139
  go_upto_region 1 with (fail)
  rw [← hW]
  clear hW
  obtain ⟨⟨b0, b1, b2, b3, b4, b5, b6, b7, b8⟩, -⟩ := B0.c9
  go_wp2_with (go_at_call 184; refine (HS.out _).mono ?_; rintro e_ w1 ⟨rfl, h1⟩; have R := R0.on h1; obtain ⟨⟨r0, r1, r2, r3, r4, r5⟩, s0, s1, s2, s3, s4, s5⟩ := R.c6)
  have R2 := R.st6 (.int .i64 (subI x (max wd 0 / 2))) (.int .i64 (cutI y)) (.int .i64 (subI z (max wd 0 / 2))) (.int .i64 (addI x (max wd 0 / 2))) (.int .i64 (addI y (max ht 0))) (.int .i64 (addI z (max wd 0 / 2)))
  obtain ⟨⟨d0, d1, d2, d3, d4, d5⟩, -, -, -, -, -, -⟩ := R2.c6
  exact bodyPost_ret (v := .agg #[.int .i64 (subI x (max wd 0 / 2)), .int .i64 (cutI y), .int .i64 (subI z (max wd 0 / 2)), .int .i64 (addI x (max wd 0 / 2)), .int .i64 (addI y (max ht 0)), .int .i64 (addI z (max wd 0 / 2))]) (by simp [results, Tryz.results139, go_sem, d0, d1, d2, d3, d4, d5]) rfl ⟨rfl, by (repeat' (first | (with_reducible exact Below.refl _ _) | (with_reducible assumption) | (with_reducible refine Below.alloc ?_ ?_ _) | (with_reducible refine Below.drew ?_) | (with_reducible refine Below.setCell ?_ ?_ _) | (with_reducible refine after ?_ (below_regrown _ _ _)) | (refine after ?_ (by with_reducible assumption)) | go_size))⟩
set_option maxRecDepth 100000 in
set_option maxHeartbeats 8000000 in
theorem bmay_c (b : BD) (w : World) : Calls Tryz.prog 135 #[.agg (bd9 b)] w fun r w' => r = .returned (.bool (mayB b)) ∧ Below w.heap.size w w' := by
  obtain ⟨x, y, z, sx, sy, sz, wd, ht, st⟩ := b
  have C1 := fun W => wi20_c x y z 70368744177664 ⟨by decide, by decide⟩ W
  have C2 := fun W => wi20_c sx sy sz 262144 ⟨by decide, by decide⟩ W
  unfold mayB
  dsimp only
  generalize inI x y z 70368744177664 = p1 at C1 ⊢
  generalize inI sx sy sz 262144 = p2 at C2 ⊢
  have D1 := Lib.hid C1
  have D2 := Lib.hid C2
  clear C1 C2
  obtain ⟨W, hW⟩ : ∃ W, W = w.alloc (.cells #[.int .i64 x, .int .i64 y, .int .i64 z, .int .i64 sx, .int .i64 sy, .int .i64 sz, .int .i64 wd, .int .i64 ht, .bool st] 40) := ⟨_, rfl⟩
  have H : Below w.heap.size w W := by rw [hW]; go_grown
  have B0 : Blk W w.heap.size 40 _ := Blk.eqw hW.symm (Blk.new' rfl)
  simp only [bd9]
  obtain ⟨⟨b0, b1, b2, b3, b4, b5, b6, b7, b8⟩, -⟩ := B0.c9
  by_cases h1 : 2 ≤ wd
  · by_cases h2 : wd ≤ 131072
    · by_cases h3 : 1 ≤ ht
      · by_cases h4 : ht ≤ 262144
        · have e : (decide (2 ≤ wd) && decide (wd ≤ 131072) && decide (1 ≤ ht) && decide (ht ≤ 262144) && p1 && p2) = (p1 && p2) := by simp [h1, h2, h3, h4]
          rw [e]
          cases p1
          · go_enter Tryz.func135, Tryz.ntmps135
            go_upto_region 1 with (fail)
            rw [← hW]
            clear hW
            go_wp2_with (go_at_call 180; refine (D1.out _).mono ?_; rintro e_ w1 ⟨rfl, k1⟩)
            go_returns
            exact ⟨by simp, after H k1⟩
          · go_enter Tryz.func135, Tryz.ntmps135
            go_upto_region 1 with (fail)
            rw [← hW]
            clear hW
            go_wp2_with (go_at_call 180; first | (refine (D1.out _).mono ?_; rintro e_ w1 ⟨rfl, k1⟩; clear D1; obtain ⟨⟨b0, b1, b2, b3, b4, b5, b6, b7, b8⟩, -⟩ := (B0.on k1).c9) | (refine (D2.out _).mono ?_; rintro e_ w2 ⟨rfl, k2⟩))
            go_returns
            exact ⟨by simp, after (after H k1) k2⟩
        · have e : (decide (2 ≤ wd) && decide (wd ≤ 131072) && decide (1 ≤ ht) && decide (ht ≤ 262144) && p1 && p2) = false := by simp [h4]
          rw [e]
          go_enter Tryz.func135, Tryz.ntmps135
          go_upto_region 1 with (fail)
          rw [← hW]
          clear hW D1 D2
          go_wp2_with fail
          go_returns
          exact ⟨by simp, H⟩
      · have e : (decide (2 ≤ wd) && decide (wd ≤ 131072) && decide (1 ≤ ht) && decide (ht ≤ 262144) && p1 && p2) = false := by simp [h3]
        rw [e]
        go_enter Tryz.func135, Tryz.ntmps135
        go_upto_region 1 with (fail)
        rw [← hW]
        clear hW D1 D2
        go_wp2_with fail
        go_returns
        exact ⟨by simp, H⟩
    · have e : (decide (2 ≤ wd) && decide (wd ≤ 131072) && decide (1 ≤ ht) && decide (ht ≤ 262144) && p1 && p2) = false := by simp [h2]
      rw [e]
      go_enter Tryz.func135, Tryz.ntmps135
      go_upto_region 1 with (fail)
      rw [← hW]
      clear hW D1 D2
      go_wp2_with fail
      go_returns
      exact ⟨by simp, H⟩
  · have e : (decide (2 ≤ wd) && decide (wd ≤ 131072) && decide (1 ≤ ht) && decide (ht ≤ 262144) && p1 && p2) = false := by simp [h1]
    rw [e]
    go_enter Tryz.func135, Tryz.ntmps135
    go_upto_region 1 with (fail)
    rw [← hW]
    clear hW D1 D2
    go_wp2_with fail
    go_returns
    exact ⟨by simp, H⟩
end Go.Proofs.YtmbccnioijokfaaGreatDoor

namespace Go.Proofs.YtmbccnioijokfaaGreatDoor
abbrev V3 := Int × Int × Int
section
variable {M : Int} {a b : BD}
end
end Go.Proofs.YtmbccnioijokfaaGreatDoor

namespace Go.Proofs.YtmbccnioijokfaaGreatDoor
section
variable {val : Cl → Int} {M : Int} {l : List BD}
structure AllOk (val : Cl → Int) (M : Int) (l0 l : List BD) : Prop where
  len : l.length = l0.length
  ok : ∀ (i : Nat) (b : BD), l[i]? = some b → BOk M b
  free : ∀ (i : Nat) (a b : BD), l0[i]? = some a → l[i]? = some b → blk6 val (boxB a) = false → blk6 val (boxB b) = false
theorem getD_at {l : List BD} {i : Nat} {b : BD} (h : l[i]? = some b) : l.getD i default = b := by simp [List.getD_eq_getElem?_getD, h]
theorem AllOk.at {l0 : List BD} (h : AllOk val M l0 l) {i : Nat} (hi : i < l0.length) : ∃ b, l[i]? = some b ∧ l.getD i default = b ∧ BOk M b := by
  have hlt : i < l.length := by rw [h.len]; exact hi
  have e := List.getElem?_eq_getElem hlt
  exact ⟨_, e, getD_at e, h.ok _ _ e⟩
theorem AllOk.mono {M' : Int} {l0 : List BD} (h : AllOk val M l0 l) (hm : M ≤ M') : AllOk val M' l0 l := ⟨h.len, fun i b hi => (h.ok i b hi).mono hm, h.free⟩
end
end Go.Proofs.YtmbccnioijokfaaGreatDoor

namespace Go.Proofs.YtmbccnioijokfaaGreatDoor
open Go.ChangeShapes Go.WideShapes Go.ChangeAt Go.RowKit
def Rws {α : Type} (K : Nat) (enc : α → List Value) (w : World) (q : Option Addr) (n : Nat) (F : Nat → α) : Prop := 0 < n → ∃ g o, q = some ⟨g, o, none⟩ ∧ ∀ i, i < n → ∀ j u, (enc (F i))[j]? = some u → w.cell? ⟨g, o + i * K + j, none⟩ = some u
theorem Rws.on {α : Type} {K : Nat} {enc : α → List Value} {w w' : World} {q : Option Addr} {n : Nat} {F : Nat → α} (h : Rws K enc w q n F) (hb : Below w.heap.size w w') : Rws K enc w' q n F := fun hn => by
  obtain ⟨g, o, e, h1⟩ := h hn
  exact ⟨g, o, e, fun i hi j u hu => by rw [cell_below hb (cell_lt (h1 i hi j u hu))]; exact h1 i hi j u hu⟩
section
variable {H : Type} {enc : TypeId × Value → H} {P : Program}
theorem open_rws {α : Type} [Inhabited α] {K : Nat} (en : α → List Value) (ok : α → Prop) {w : World} {r : Reach} {b0 base : Nat} {spare : Nat → Bool} {held : Bool} {ts t : TypeId} {v : Value} {d : DataW H} {p : List MemPlace} (hts : P.underlying ts = some (.slice t)) (hC : P.cellsOf t = K)
    (hlen : ∀ a, (en a).length = K) (hK : ∃ k, K = k + 1 ∧ ∀ w (a : Addr) x, World.cell? w a = (en x)[0]? → a.spot = none)
    (hrd : ∀ fuel cs x, cs.length = K → DataW.trod enc P w base spare held fuel t cs = some x → ∃ a, cs = en a ∧ ok a)
    (hv : Value.okWide P w r b0 ts v) (h : DataW.Trod enc P w base spare held ts v d p) :
    ∃ q n cap F, v = .slice q n cap ∧ n ≤ cap ∧ cap ≤ maxLen ∧ Rws K en w q n F ∧ ∀ i, i < n → ok (F i) := by
  obtain ⟨a1, len1, cap1, rfl⟩ := okWide_slice hts hv
  obtain ⟨fuel, h⟩ := h
  rcases Go.Deep.open_slice hts h with ⟨hcs, _⟩ | ⟨a, len, cap, m, k, D, Pl, hcs, _, hl, hm, hmm, _, hel⟩
  · simp [Value.cells] at hcs
    obtain ⟨rfl, rfl, rfl⟩ := hcs
    exact ⟨_, _, _, fun _ => default, rfl, Nat.le_refl _, by decide, fun h => by omega, fun i hi => by omega⟩
  · simp [Value.cells] at hcs
    obtain ⟨rfl, rfl, rfl⟩ := hcs
    by_cases hn : len1 = 0
    · subst hn; exact ⟨_, _, _, fun _ => default, rfl, hl, hm, fun h => by omega, fun i hi => by omega⟩
    have hlm : len1 ≤ m := by rw [hmm]; split <;> omega
    obtain ⟨g, o, sp⟩ := a
    rw [hC] at hel
    have hex : ∀ i, i < len1 → ∃ x, ok x ∧ ∀ j u, (en x)[j]? = some u → w.cell? ((Addr.mk g o sp).add (i * K + j)) = some u := by
      intro i hi'
      obtain ⟨cs', hc, ht'⟩ := hel i (by omega)
      obtain ⟨_, hcl, hat⟩ := World.cells?_some hc
      obtain ⟨x, e, hx⟩ := hrd _ _ _ hcl ht'
      refine ⟨x, hx, fun j u hu => ?_⟩
      have hj : j < K := by
        have := (List.getElem?_eq_some_iff.1 hu).1
        rw [hlen] at this; exact this
      have h1 := hat j hj
      rw [Go.Deep.add_add] at h1
      rw [h1, e]
      exact hu
    obtain ⟨F, hF⟩ : ∃ F : Nat → α, ∀ i, i < len1 → ok (F i) ∧ ∀ j u, (en (F i))[j]? = some u → w.cell? ((Addr.mk g o sp).add (i * K + j)) = some u := by
      refine ⟨fun i => if h : i < len1 then Classical.choose (hex i h) else default, fun i hi => ?_⟩
      have e : (if h : i < len1 then Classical.choose (hex i h) else default) = Classical.choose (hex i hi) := dif_pos hi
      dsimp only
      rw [e]
      exact Classical.choose_spec (hex i hi)
    have hsp : sp = none := by
      obtain ⟨k', hk', hs⟩ := hK
      obtain ⟨u, hu⟩ : ∃ u, (en (F 0))[0]? = some u := ⟨_, List.getElem?_eq_getElem (by rw [hlen]; omega)⟩
      have := (hF 0 (by omega)).2 0 u hu
      have h3 := hs w _ (F 0) (this.trans hu.symm)
      simpa [Addr.add] using h3
    subst hsp
    have had : ∀ k, (Addr.mk g o none).add k = ⟨g, o + k, none⟩ := fun k => by
      unfold Addr.add
      by_cases hk : k = 0 <;> simp [hk]
    refine ⟨_, len1, cap1, F, rfl, hl, hm, fun _ => ⟨g, o, rfl, fun i hi j u hu => ?_⟩, fun i hi => (hF i hi).1⟩
    have := (hF i hi).2 j u hu
    rwa [had, ← Nat.add_assoc] at this
def bdFields (P : Program) (f0 f1 f2 f3 f4 : Field) (tv ti tb : TypeId) : Bool :=
  ((f0.offset == 0 && f1.offset == 3) && (f2.offset == 6 && (f3.offset == 7 && f4.offset == 8))) && (((f0.type == tv && f1.type == tv) && (f2.type == ti && (f3.type == ti && f4.type == tb))) && (P.cellsOf tv == 3 && (P.cellsOf ti == 1 && P.cellsOf tb == 1)))
def Bd64 (b : BD) : Prop := In64 b.1 ∧ In64 b.2.1 ∧ In64 b.2.2.1 ∧ In64 b.2.2.2.1 ∧ In64 b.2.2.2.2.1 ∧ In64 b.2.2.2.2.2.1 ∧ In64 b.2.2.2.2.2.2.1 ∧ In64 b.2.2.2.2.2.2.2.1
theorem trod_bd {w : World} {base fuel : Nat} {spare : Nat → Bool} {held : Bool} {t tv ti tb : TypeId} {g0 g1 g2 g3 g4 f0 f1 f2 : Field} {cs : List Value} {x : DataW H × List MemPlace} (hb : P.underlying t = some (.struct #[g0, g1, g2, g3, g4]))
    (hs : P.underlying tv = some (.struct #[f0, f1, f2])) (hg : bdFields P g0 g1 g2 g3 g4 tv ti tb = true) (hf : vecFields P f0 f1 f2 ti = true) (hi : P.underlying ti = some (.int .i64)) (htb : P.underlying tb = some .bool) (hl : cs.length = 9) (h : DataW.trod enc P w base spare held fuel t cs = some x) :
    ∃ b : BD, cs = (bd9 b).toList ∧ Bd64 b := by
  simp only [bdFields, Bool.and_eq_true, beq_iff_eq] at hg
  obtain ⟨⟨⟨o0, o1⟩, o2, o3, o4⟩, ⟨⟨t0, t1⟩, t2, t3, t4⟩, c1, c2, c3⟩ := hg
  obtain ⟨xs, n, _, _, _, hxl, hgg⟩ := DataW.trod_struct hb h
  match cs, hl with
  | [v0, v1, v2, v3, v4, v5, v6, v7, v8], _ =>
    match xs, hxl with
    | [y0, y1, y2, y3, y4], _ =>
      have k0 := hgg 0 g0 rfl
      have k1 := hgg 1 g1 rfl
      have k2 := hgg 2 g2 rfl
      have k3 := hgg 3 g3 rfl
      have k4 := hgg 4 g4 rfl
      rw [o0, t0, c1] at k0
      rw [o1, t1, c1] at k1
      rw [o2, t2, c2] at k2
      rw [o3, t3, c2] at k3
      rw [o4, t4, c3] at k4
      obtain ⟨a, b, c, e0, wa, wb, wc⟩ := trod_vec (x := y0) hs hf hi rfl k0
      obtain ⟨d, e, f, e1, wd, we, wf⟩ := trod_vec (x := y1) hs hf hi rfl k1
      obtain ⟨m, e2, _, wm⟩ := DataW.trod_int (x := y2) hi k2
      obtain ⟨l, e3, _, wl⟩ := DataW.trod_int (x := y3) hi k3
      obtain ⟨s, e4, _⟩ := DataW.trod_bool (x := y4) htb k4
      simp at e0 e1 e2 e3 e4
      obtain ⟨rfl, rfl, rfl⟩ := e0
      obtain ⟨rfl, rfl, rfl⟩ := e1
      subst e2 e3 e4
      exact ⟨(a, b, c, d, e, f, m, l, s), rfl, wa, wb, wc, wd, we, wf, in64_of_wf wm, in64_of_wf wl⟩
abbrev InD := Int × Int × Bool
def enIn (a : InD) : List Value := [.int .i64 a.1, .int .i64 a.2.1, .bool a.2.2]
def enBd (b : BD) : List Value := (bd9 b).toList
def inFields (P : Program) (f0 f1 f2 : Field) (ti tb : TypeId) : Bool :=
  (f0.offset == 0 && (f1.offset == 1 && f2.offset == 2)) && ((f0.type == ti && (f1.type == ti && f2.type == tb)) && (P.cellsOf ti == 1 && P.cellsOf tb == 1))
theorem trod_in {w : World} {base fuel : Nat} {spare : Nat → Bool} {held : Bool} {t ti tb : TypeId} {f0 f1 f2 : Field} {cs : List Value} {x : DataW H × List MemPlace} (hs : P.underlying t = some (.struct #[f0, f1, f2]))
    (hf : inFields P f0 f1 f2 ti tb = true) (hi : P.underlying ti = some (.int .i64)) (htb : P.underlying tb = some .bool) (hl : cs.length = 3) (h : DataW.trod enc P w base spare held fuel t cs = some x) :
    ∃ a : InD, cs = enIn a ∧ In64 a.1 ∧ In64 a.2.1 := by
  simp only [inFields, Bool.and_eq_true, beq_iff_eq] at hf
  obtain ⟨⟨o0, o1, o2⟩, ⟨t0, t1, t2⟩, c1, c2⟩ := hf
  obtain ⟨xs, n, _, _, _, hxl, hg⟩ := DataW.trod_struct hs h
  match cs, hl with
  | [v0, v1, v2], _ =>
    match xs, hxl with
    | [y0, y1, y2], _ =>
      have g0 := hg 0 f0 rfl
      have g1 := hg 1 f1 rfl
      have g2 := hg 2 f2 rfl
      rw [o0, t0, c1] at g0
      rw [o1, t1, c1] at g1
      rw [o2, t2, c2] at g2
      obtain ⟨a, ha, _, wa⟩ := DataW.trod_int (x := y0) hi g0
      obtain ⟨b, hb, _, wb⟩ := DataW.trod_int (x := y1) hi g1
      obtain ⟨c, hc', _⟩ := DataW.trod_bool (x := y2) htb g2
      simp at ha hb hc'
      subst ha hb hc'
      exact ⟨(a, b, c), rfl, in64_of_wf wa, in64_of_wf wb⟩
theorem spot_int {w : World} {a : Addr} {k : IntKind} {n : Int} (h : World.cell? w a = some (.int k n)) : a.spot = none := cell_spot h
theorem open_ins {w : World} {r : Reach} {b0 base : Nat} {spare : Nat → Bool} {held : Bool} {ts t ti tb : TypeId} {f0 f1 f2 : Field} {v : Value} {d : DataW H} {p : List MemPlace} (hts : P.underlying ts = some (.slice t)) (hs : P.underlying t = some (.struct #[f0, f1, f2]))
    (hf : inFields P f0 f1 f2 ti tb = true) (hC : P.cellsOf t = 3) (hi : P.underlying ti = some (.int .i64)) (htb : P.underlying tb = some .bool) (hv : Value.okWide P w r b0 ts v) (h : DataW.Trod enc P w base spare held ts v d p) :
    ∃ q n cap F, v = .slice q n cap ∧ n ≤ cap ∧ cap ≤ maxLen ∧ Rws 3 enIn w q n F ∧ ∀ i, i < n → In64 (F i).1 ∧ In64 (F i).2.1 :=
  open_rws enIn (fun a => In64 a.1 ∧ In64 a.2.1) hts hC (fun _ => rfl) ⟨2, rfl, fun _ _ _ h => spot_int h⟩ (fun _ _ _ hl ht => trod_in hs hf hi htb hl ht) hv h
end
end Go.Proofs.YtmbccnioijokfaaGreatDoor

namespace Go.Proofs.YtmbccnioijokfaaGreatDoor
open Go.RowKit
def Rwb (w : World) (g : Nat) (t : TypeId) (l : List BD) : Prop := ∃ cur : Array Value, Blk w g t cur ∧ ∀ (i : Nat) (b : BD), l[i]? = some b → ∀ (j : Nat) (u : Value), (enBd b)[j]? = some u → cur[i * 9 + j]? = some u
section
variable {w w' : World} {g : Nat} {t : TypeId} {l : List BD} {i : Nat} {b : BD}
theorem Rwb.on (h : Rwb w g t l) (hb : Below w.heap.size w w') : Rwb w' g t l := by
  obtain ⟨cur, h1, h2⟩ := h
  exact ⟨cur, h1.on hb, h2⟩
theorem Rwb.lt (h : Rwb w g t l) : g < w.heap.size := by
  obtain ⟨cur, h1, -⟩ := h
  exact h1.lt
theorem Rwb.frz (h : Rwb w g t l) (k : Nat) : w.frozen? ⟨g, k, none⟩ = false := by
  obtain ⟨cur, h1, -⟩ := h
  exact h1.frz k
end
def BRow (w : World) (n : Nat) (t : TypeId) (v : Value) (l : List BD) : Prop := ∃ q cap, v = .slice q l.length cap ∧ l.length ≤ cap ∧ cap ≤ maxLen ∧ (0 < l.length → ∃ g, q = some ⟨g, 0, none⟩ ∧ n ≤ g ∧ Rwb w g t l)
theorem BRow.of {w : World} {n : Nat} {t : TypeId} {v : Value} {l : List BD} (h : Owns w n t 9 enBd v l) : BRow w n t v l := by
  obtain ⟨q, cap, hv, h1, h2, -, -, -⟩ := Owns.form (size := 9) (enc := enBd) (fun _ => rfl) h
  refine ⟨q, cap, hv, h1, h2, fun hn => ?_⟩
  rcases h.2 with ⟨-, h0⟩ | ⟨g, cap', cur, hv', hb, hg, hc, hm, hs, ht⟩
  · omega
  · rw [hv] at hv'
    injection hv' with e1 e2 e3
    refine ⟨g, e1, hb, cur, hg, fun i b hi j u hu => ?_⟩
    have h3 := flat_at (size := 9) (enc := enBd) (fun _ => rfl) l i b hi j u hu
    rw [← ht] at h3
    have h4 := (List.getElem?_eq_some_iff.1 h3).1
    rw [List.length_take] at h4
    rw [List.getElem?_take_of_lt (by omega)] at h3
    simpa using h3
end Go.Proofs.YtmbccnioijokfaaGreatDoor

namespace Go.Proofs.YtmbccnioijokfaaGreatDoor
open Go.RowKit
attribute [local go_sem] Oper.semAt_some
theorem infBd : (Tryz.prog.info? 40).map (fun i => (i.zero, i.size, i.bytes)) = some (some (.agg #[.int .i64 0, .int .i64 0, .int .i64 0, .int .i64 0, .int .i64 0, .int .i64 0, .int .i64 0, .int .i64 0, .bool false]), 9, 72) := by kernel_rfl
theorem oneB (b : BD) : ∀ u ∈ enBd b, u.oneCell' = true := by
  obtain ⟨x, y, z, sx, sy, sz, wd, ht, st⟩ := b
  simp [enBd, Value.oneCell']
theorem owns_empty {w : World} {t : TypeId} : Owns (w.alloc (.cells #[] t)) w.heap.size t 9 enBd (.slice (some ⟨w.heap.size, 0, none⟩) 0 0) [] := by
  refine ⟨by simp, .inr ⟨w.heap.size, 0, #[], rfl, Nat.le_refl _, Blk.new' rfl, by simp, by decide, by simp, by simp⟩⟩
theorem rd_bd {w : World} {q : Option Addr} {l : List BD} {n : Nat} (h : Rd w q 9 enBd l) (hq : q = none) (hl : l.length = n) : n = 0 ∧ l = [] := by
  have hn : ¬ 0 < l.length := fun hn => by
    obtain ⟨g, o, e, -⟩ := h hn
    rw [hq] at e
    cases e
  have h0 : l.length = 0 := by omega
  exact ⟨by omega, List.length_eq_zero_iff.1 h0⟩
set_option maxRecDepth 100000 in
set_option maxHeartbeats 8000000 in
theorem clone_bd (q : Option Addr) (n c : Nat) (l : List BD) (hl : l.length = n) (hc : n ≤ c) (hn : n ≤ 1000000) (w : World) (h : Rd w q 9 enBd l) :
    Calls Tryz.prog 199 #[.slice q n c] w fun r w' => ∃ v, r = .returned v ∧ Owns w' w.heap.size 40 9 enBd v l ∧ Below w.heap.size w w' := by
  have hnl : ∀ (w : World) (a : Option Addr) (n c n' c' : Nat), (binOp .eql 218 (.slice a n c) (.slice none n' c')).run Tryz.prog w = .ok (.bool a.isNone) w := fun w a n c n' c' => Lib.run_eql_slice_nil w _ _ a n c n' c' Tryz.underlying218
  cases hq : q with
  | none =>
    obtain ⟨rfl, rfl⟩ := rd_bd h hq hl
    subst hq
    go_enter Tryz.func199, Tryz.ntmps199
    go_wp2_with fail
    go_returns
    exact ⟨_, rfl, Owns.nil, Below.refl _ _⟩
  | some a =>
    rw [hq] at h
    have hB : Below w.heap.size w (w.alloc (.cells #[] 40)) := (Below.refl _ _).alloc (Nat.le_refl _) _
    obtain ⟨v1, w5, hrun1, O1, hb1⟩ := run_rows (P := Tryz.prog) (ts := 218) (ty := 218) (enc := enBd) (w := w.alloc (.cells #[] 40)) (base := w.heap.size) (xs := ([] : List BD)) (ys := l) (q := some a) (m := n) (c := c) (v := .slice (some ⟨w.heap.size, 0, none⟩) 0 0) Tryz.underlying218 infBd rfl (by decide) (by decide) (fun _ => rfl) (fun b _ => oneB b) owns_empty hl hc (h.on hB) (by simp; omega) hB.size
    rw [List.nil_append] at O1
    have HO := Lib.hid (And.intro O1 (hB.trans hb1))
    clear O1 hb1 hB h hl hc hn hq
    go_enter Tryz.func199, Tryz.ntmps199
    go_wp2_with (at_builtin; refine Lib.wpList_append_run _ rfl _ _ _ _ rfl _ _ rfl rfl _ _ hrun1 ?_)
    go_returns
    exact ⟨_, rfl, HO.out.1, HO.out.2⟩
end Go.Proofs.YtmbccnioijokfaaGreatDoor

namespace Go.Proofs.YtmbccnioijokfaaGreatDoor
open Go.RowKit
attribute [local go_sem] Oper.semAt_some
theorem bcut1_c (n : Int) (w : World) : Calls Tryz.prog 316 #[.int .i64 n] w fun r w' => r = .returned (.int .i64 (clI n)) ∧ Below w.heap.size w w' := by
  have hmn := @run_mn Tryz.prog
  have hmx := @run_mx Tryz.prog
  go_enter Tryz.func316, Tryz.ntmps316
  go_wp2_with fail
  go_returns
  exact ⟨rfl, Below.refl _ _⟩
set_option maxRecDepth 100000 in
set_option maxHeartbeats 8000000 in
theorem bcut_c (b : BD) (dx dy dz : Int) (w : World) : Calls Tryz.prog 269 #[.agg (bd9 b), .agg #[.int .i64 dx, .int .i64 dy, .int .i64 dz]] w fun r w' => r = .returned (.agg #[.int .i64 (fwI b.1 dx), .int .i64 (fwI b.2.1 dy), .int .i64 (fwI b.2.2.1 dz)]) ∧ Below w.heap.size w w' := by
  obtain ⟨x, y, z, sx, sy, sz, wd, ht, st⟩ := b
  unfold fwI
  simp only [bd9]
  have HA := Lib.hid (fun W => add_c x y z dx dy dz W)
  have HS := Lib.hid (fun W => sub_c (clI (addI x dx)) (clI (addI y dy)) (clI (addI z dz)) x y z W)
  generalize addI x dx = a1 at HA HS ⊢
  generalize addI y dy = a2 at HA HS ⊢
  generalize addI z dz = a3 at HA HS ⊢
  obtain ⟨N, hN⟩ : ∃ N, N = w.heap.size := ⟨_, rfl⟩
  obtain ⟨W, hW⟩ : ∃ W, W = ((w.alloc (.cells #[.int .i64 x, .int .i64 y, .int .i64 z, .int .i64 sx, .int .i64 sy, .int .i64 sz, .int .i64 wd, .int .i64 ht, .bool st] 40)).alloc (.cells #[.int .i64 dx, .int .i64 dy, .int .i64 dz] 38)).alloc (.cells #[.int .i64 0, .int .i64 0, .int .i64 0] 38) := ⟨_, rfl⟩
  have H : Below w.heap.size w W := by rw [hW]; go_grown
  have B : Blk W N 40 _ := Blk.eqw hW.symm (by rw [hN]; exact ((Blk.new' rfl).alloc _).alloc _)
  have D : Blk W (N + 1) 38 _ := Blk.eqw hW.symm (by rw [hN]; exact (Blk.new' (by simp)).alloc _)
  have R : Blk W (N + 1 + 1) 38 _ := Blk.eqw hW.symm (by rw [hN]; exact Blk.new' (by simp))
  go_enter Tryz.func269, Tryz.ntmps269
  go_upto_region 1 with (fail)
  rw [← hW, ← hN]
  have HN := Lib.hid hN
  clear hW hN
  have b0 := B.cell 0
  have b1 := B.cell 1
  have b2 := B.cell 2
  simp at b0 b1 b2
  obtain ⟨d0, d1, d2, -, -, -⟩ := D.c3
  go_upto_region 2 with (go_at_call 195; refine (HA.out _).mono ?_; rintro e_ w1 ⟨rfl, k1⟩)
  generalize hV : World.alloc w1 _ = W1
  have T : Blk W1 w1.heap.size 38 #[.int .i64 a1, .int .i64 a2, .int .i64 a3] := Blk.eqw hV (Blk.new' rfl)
  have h1 : Below w1.heap.size w1 W1 := by rw [← hV]; exact (Below.refl _ _).alloc (Nat.le_refl _) _
  have k2 := after k1 h1
  have HB := Lib.hid (B.on k2)
  have HR := Lib.hid (R.on k2)
  have HH := Lib.hid (after H k2)
  have HT := Lib.hid T
  generalize w1.heap.size = g at HT ⊢
  clear hV h1 k1 k2 B D R H b0 b1 b2 d0 d1 d2 T HA
  have b0 := fun d os => (HB.out.re d os).cell 0
  have b1 := fun d os => (HB.out.re d os).cell 1
  have b2 := fun d os => (HB.out.re d os).cell 2
  simp at b0 b1 b2
  have t0 := fun d os => (HT.out.re d os).cell 0
  have t1 := fun d os => (HT.out.re d os).cell 1
  have t2 := fun d os => (HT.out.re d os).cell 2
  simp at t0 t1 t2
  go_upto_region 3 with (fail)
  refine wp_region_last_below 16 (by kernel_rfl) rfl (by kernel_rfl) ?_
  simp only [List.take_succ_cons, List.take_zero, List.drop_succ_cons, List.drop_zero]
  repeat (go_big_quiet_step (first | (with_reducible exact Calls.regrown_of (bcut1_c _ _)) | (with_reducible exact Calls.regrown_of (HS.out _))))
  refine wpQuiet_nil ?_
  intro w' hw'
  obtain ⟨rg, rfl⟩ := hw'
  clear b0 b1 b2 t0 t1 t2
  have R := HR.out.re rg.d rg.os
  obtain ⟨r0, r1, r2, s0, s1, s2⟩ := R.c3
  have H := HH.out
  have hNw : w.heap.size ≤ N + 1 + 1 := by have := HN.out; omega
  go_wp2_with fail
  have R2 := R.st3 (.int .i64 (subI (clI a1) x)) (.int .i64 (subI (clI a2) y)) (.int .i64 (subI (clI a3) z))
  obtain ⟨d0, d1, d2, -, -, -⟩ := R2.c3
  exact bodyPost_ret (v := .agg #[.int .i64 (subI (clI a1) x), .int .i64 (subI (clI a2) y), .int .i64 (subI (clI a3) z)]) (by simp [results, Tryz.results269, go_sem, d0, d1, d2]) rfl ⟨rfl, by (repeat' (first | (with_reducible exact Below.refl _ _) | (with_reducible assumption) | (with_reducible refine Below.alloc ?_ ?_ _) | (with_reducible refine Below.drew ?_) | (with_reducible refine Below.setCell ?_ ?_ _) | (with_reducible refine after ?_ (below_regrown _ _ _)) | (refine after ?_ (by with_reducible assumption)) | go_size))⟩
theorem bwalk1_c (n : Int) (w : World) : Calls Tryz.prog 263 #[.int .i64 n] w fun r w' => r = .returned (.int .i64 (walkI n)) ∧ Below w.heap.size w w' := by
  have hmn := @run_mn Tryz.prog
  have hmx := @run_mx Tryz.prog
  unfold walkI
  go_enter Tryz.func263, Tryz.ntmps263
  go_wp2_with (go_at_call 264; refine (fmul_c _ _ _).mono ?_; rintro e_ w1 ⟨rfl, k1⟩)
  go_returns
  exact ⟨rfl, k1⟩
end Go.Proofs.YtmbccnioijokfaaGreatDoor

namespace Go.Proofs.YtmbccnioijokfaaGreatDoor
open Go.RowKit
attribute [local go_sem] Oper.semAt_some
def WkI (N : Nat) (t : TypeId) (x y z sy wd ht a c : Int) (st : Bool) : InvT := fun S _ w => ∃ p q : Int, Blk w N t #[.int .i64 x, .int .i64 y, .int .i64 z, .int .i64 p, .int .i64 sy, .int .i64 q, .int .i64 wd, .int .i64 ht, .bool st] ∧ (S 10 → p = a) ∧ (S 13 → q = c)
section
variable {N : Nat} {t : TypeId} {x y z sy wd ht a c : Int} {st : Bool} {S : Nat → Prop} {V : Nat → Value} {w w' : World}
theorem wkI_zero {p q : Int} (h : Blk w N t #[.int .i64 x, .int .i64 y, .int .i64 z, .int .i64 p, .int .i64 sy, .int .i64 q, .int .i64 wd, .int .i64 ht, .bool st]) : WkI N t x y z sy wd ht a c st (fun _ => False) V w := ⟨p, q, h, fun h => h.elim, fun h => h.elim⟩
theorem WkI.below (h : WkI N t x y z sy wd ht a c st S V w) (k : Below w.heap.size w w') : WkI N t x y z sy wd ht a c st S V w' := by
  obtain ⟨p, q, h1, h2⟩ := h
  exact ⟨p, q, h1.on k, h2⟩
theorem WkI.one {p q : Int} {v : Value} (h : Blk w N t #[.int .i64 x, .int .i64 y, .int .i64 z, .int .i64 p, .int .i64 sy, .int .i64 q, .int .i64 wd, .int .i64 ht, .bool st]) (hq : S 13 → q = c) :
    WkI N t x y z sy wd ht a c st (andOf S 10) (upd V 10 v) (w.setCell ⟨N, 3, none⟩ (.int .i64 a)) := ⟨a, q, h.set_ 3 _, fun _ => rfl, fun e => hq (e.resolve_left (by decide))⟩
theorem WkI.two {p q : Int} {v : Value} (h : Blk w N t #[.int .i64 x, .int .i64 y, .int .i64 z, .int .i64 p, .int .i64 sy, .int .i64 q, .int .i64 wd, .int .i64 ht, .bool st]) (hp : S 10 → p = a) :
    WkI N t x y z sy wd ht a c st (andOf S 13) (upd V 13 v) (w.setCell ⟨N, 5, none⟩ (.int .i64 c)) := ⟨p, c, h.set_ 5 _, fun e => hp (e.resolve_left (by decide)), fun _ => rfl⟩
end
theorem kept_one {w : World} {N i : Nat} (u : Value) : Kept (fun c => c ≠ N) w (w.setCell ⟨N, i, none⟩ u) := (Kept.refl _ _).setCell (by simp) _
set_option maxRecDepth 100000 in
set_option maxHeartbeats 8000000 in
theorem bwalks_c (b : BD) (V : Value) (ix iz : Int) (j : Bool) (w : World) : Calls Tryz.prog 196 #[.agg (bd9 b), V, .agg #[.int .i64 ix, .int .i64 iz, .bool j]] w fun r w' => r = .returned (.agg (bd9 (walkB b ix iz))) ∧ Below w.heap.size w w' := by
  obtain ⟨x, y, z, sx, sy, sz, wd, ht, st⟩ := b
  unfold walkB
  simp only [bd9]
  have HX := Lib.hid (fun W => bwalk1_c ix W)
  have HZ := Lib.hid (fun W => bwalk1_c iz W)
  generalize walkI ix = a at HX ⊢
  generalize walkI iz = c at HZ ⊢
  obtain ⟨N, hN⟩ : ∃ N, N = w.heap.size := ⟨_, rfl⟩
  obtain ⟨W, hW⟩ : ∃ W, W = ((w.alloc (.cells #[.int .i64 x, .int .i64 y, .int .i64 z, .int .i64 sx, .int .i64 sy, .int .i64 sz, .int .i64 wd, .int .i64 ht, .bool st] 40)).alloc (.cells #[.int .i64 ix, .int .i64 iz, .bool j] 81)).alloc (.cells #[.int .i64 0, .int .i64 0, .int .i64 0, .int .i64 0, .int .i64 0, .int .i64 0, .int .i64 0, .int .i64 0, .bool false] 40) := ⟨_, rfl⟩
  have H : Below w.heap.size w W := by rw [hW]; go_grown
  have B : Blk W N 40 _ := Blk.eqw hW.symm (by rw [hN]; exact ((Blk.new' rfl).alloc _).alloc _)
  have D : Blk W (N + 1) 81 _ := Blk.eqw hW.symm (by rw [hN]; exact (Blk.new' (by simp)).alloc _)
  have R : Blk W (N + 1 + 1) 40 _ := Blk.eqw hW.symm (by rw [hN]; exact Blk.new' (by simp))
  have d0 := fun f d os => (D.sp (D := [N]) (by simp) f d os).cell 0
  have d1 := fun f d os => (D.sp (D := [N]) (by simp) f d os).cell 1
  simp only [List.getElem?_toArray, List.getElem?_cons_zero, List.getElem?_cons_succ] at d0 d1
  go_enter Tryz.func196, Tryz.ntmps196
  go_upto_region 2 with (fail)
  rw [← hW, ← hN]
  have HN := Lib.hid hN
  clear hW hN
  refine wp_inv [0, 0, 0, 0, 0, 0, 0, 0, 1, 1, 2, 1, 1, 2] [N] (WkI N 40 x y z sy wd ht a c st) (by kernel_rfl) (by kernel_rfl) (fun _ _ _ _ _ h k => h.below k) (fun _ => wkI_zero B) ?_
  repeat (first | (refine wpQs_s ?_) | (refine wpQs_q (fun K hK => ?_); go_simp; first | (refine hK _ ?_; clear hK K) | (apply Exists.intro; refine ⟨fun _ => ?_, hK _ ?_⟩; (first | ((with_reducible refine Calls.mono (HX.out _) ?_); exact fun _ _ h => h) | ((with_reducible refine Calls.mono (HZ.out _) ?_); exact fun _ _ h => h)); clear hK K)) | (refine wpQs_f (fun K hK => ?_); go_simp; refine hK _ ?_; clear hK K))
  refine wpQs_nil ?_
  repeat (refine wpLsI_skip ?_)
  refine wpLsI_one rfl ?s10 (fun v10_ => ?_)
  case s10 =>
    intro S_ V_ w_ hw_ hV_ ha_ hn_ hI_
    obtain ⟨p, q, hb, hp, hq⟩ := hI_
    have HF := Lib.hid (fun v => And.intro (keptD_set (b := N) hw_ (by simp) (kept_one (i := 3) (.int .i64 a))) (WkI.one (a := a) (c := c) (V := V_) (v := v) hb hq))
    have c3 := hb.cell 3
    have f3 := hb.frz 3
    clear hV_ ha_ hn_ hw_ hp hq hb
    go_simp
    exact HF.out _
  repeat (refine wpLsI_skip ?_)
  refine wpLsI_one rfl ?s13 (fun v13_ => ?_)
  case s13 =>
    intro S_ V_ w_ hw_ hV_ ha_ hn_ hI_
    obtain ⟨p, q, hb, hp, hq⟩ := hI_
    have HF := Lib.hid (fun v => And.intro (keptD_set (b := N) hw_ (by simp) (kept_one (i := 5) (.int .i64 c))) (WkI.two (a := a) (c := c) (V := V_) (v := v) hb hp))
    have c3 := hb.cell 5
    have f3 := hb.frz 5
    clear hV_ ha_ hn_ hw_ hp hq hb
    go_simp
    exact HF.out _
  refine wpLsI_nil fun V_ w2 hw_ hV_ hI_ => ?_
  obtain ⟨p, q, B2, hp, hq⟩ := hI_
  obtain rfl := hp ⟨show (10 : Nat) < 14 by decide, rfl⟩
  obtain rfl := hq ⟨show (13 : Nat) < 14 by decide, rfl⟩
  have R2 := hw_.blk (by simp; omega) R
  have H2 := H.trans (hw_.below (n := w.heap.size) H.size (fun b hb h => by have := HN.out; simp at h; omega))
  clear hV_ hw_ d0 d1 R H B D hp hq HX HZ
  simp only [tails]
  obtain ⟨⟨b0, b1, b2, b3, b4, b5, b6, b7, b8⟩, -⟩ := B2.c9
  obtain ⟨⟨r0, r1, r2, r3, r4, r5, r6, r7, r8⟩, f0, f1, f2, f3, f4, f5, f6, f7, f8⟩ := R2.c9
  have hNw : w.heap.size ≤ N + 1 + 1 := by have := HN.out; omega
  go_wp2_with fail
  have R2_ := R2.st9 (.int .i64 (x)) (.int .i64 (y)) (.int .i64 (z)) (.int .i64 (p)) (.int .i64 (sy)) (.int .i64 (q)) (.int .i64 (wd)) (.int .i64 (ht)) (.bool (st))
  obtain ⟨⟨d0, d1, d2, d3, d4, d5, d6, d7, d8⟩, -⟩ := R2_.c9
  exact bodyPost_ret (v := .agg #[.int .i64 (x), .int .i64 (y), .int .i64 (z), .int .i64 (p), .int .i64 (sy), .int .i64 (q), .int .i64 (wd), .int .i64 (ht), .bool (st)]) (by simp [results, Tryz.results196, go_sem, d0, d1, d2, d3, d4, d5, d6, d7, d8]) rfl ⟨rfl, sx9_below H2 hNw _ _ _ _ _ _ _ _ _⟩
end Go.Proofs.YtmbccnioijokfaaGreatDoor

