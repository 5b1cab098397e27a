/- BodyFalls holds: from any place, any number of steps. -/
import Derived.Test.YtnokibdecnddlaaMa8
import Derived.Test.YtnokibdecnddlaaMa9
namespace Go.Proofs.Ytnokibdecnddlaa
open Go.ChangeShapes Go.WideShapes Go.ChangeAt Go.RowKit
attribute [local go_sem] Oper.semAt_some

/-- How high it is behind so many steps. -/
def wtS (y : Int) : Nat → Int
  | 0 => y
  | k + 1 => wtS y k - mnI (4096 * ((k : Int) + 1)) 262144
theorem wtS_bd (y : Int) : ∀ k : Nat, y - 262144 * (k : Int) ≤ wtS y k ∧ wtS y k ≤ y
  | 0 => by unfold wtS; omega
  | k + 1 => by
    obtain ⟨h1, h2⟩ := wtS_bd y k
    unfold wtS mnI
    omega
/-- The speed behind so many steps, and how far it is by then. -/
def flS (k : Nat) : Int := -(mnI (4096 * (k : Int)) 262144)
theorem flS_next (k : Nat) : mxI (flS k - 4096) (-262144) = flS (k + 1) := by unfold flS mnI mxI; omega
theorem flS_bd (k : Nat) : -262144 ≤ flS k ∧ flS k ≤ 0 := by unfold flS mnI; omega
set_option maxRecDepth 100000 in
set_option maxHeartbeats 8000000 in
theorem bodyFalls_c (x y z : Int) (hx : In64 x) (hy : In64 y) (hz : In64 z) (m : Int) (hm : In64 m) (w : World) : Calls Try.prog 5 #[.agg #[.int .i64 x, .int .i64 y, .int .i64 z], .int .i64 m] w fun r w' => r = .returned (.bool true) ∧ Below w.heap.size w w' := by
  have hmn := @run_mn Try.prog
  have HA := Lib.hid (fun W => around_c m 101 hm.1 hm.2 (by decide) W)
  have HX := Lib.hid (fun W => calls_bel (around_c x 300000 hx.1 hx.2 (by decide) W))
  have HY := Lib.hid (fun W => calls_bel (around_c y 1000000 hy.1 hy.2 (by decide) W))
  have HZ := Lib.hid (fun W => calls_bel (around_c z 300000 hz.1 hz.2 (by decide) W))
  have r1 := arI_lo m (m := 101) (by decide)
  have r2 := arI_hi m (m := 101) (by decide)
  have x1 := arI_lo x (m := 300000) (by decide)
  have x2 := arI_hi x (m := 300000) (by decide)
  have y1 := arI_lo y (m := 1000000) (by decide)
  have y2 := arI_hi y (m := 1000000) (by decide)
  have z1 := arI_lo z (m := 300000) (by decide)
  have z2 := arI_hi z (m := 300000) (by decide)
  obtain ⟨r, hr⟩ : ∃ r : Nat, arI m 101 = r := ⟨(arI m 101).toNat, by omega⟩
  rw [hr] at HA r1 r2
  clear hm hr hx hy hz
  generalize arI x 300000 = a at HX x1 x2
  generalize arI y 1000000 = yh at HY y1 y2
  generalize arI z 300000 = c at HZ z1 z2
  have e1 : IntKind.i64.wrap (40000000 + yh) = 40000000 + yh := IntWalk.i64_in _ (by omega)
  have ST : ∀ (k : Nat) W b9, k ≤ 100 → Tells Try.prog 38 #[.pointer (some ⟨b9, 0, none⟩)] emp W → Calls _ _ _ _ _ := fun k W b9 h1 h => by
    have w1 := wtS_bd (40000000 + yh) k
    have w2 := flS_bd k
    have hk : BOk 50000000 (a, wtS (40000000 + yh) k, c, 0, flS k, 0, 40000, 100000, false) := ⟨by dsimp only; omega, by dsimp only; omega, by dsimp only; omega, by dsimp only; omega, by dsimp only; omega, by dsimp only; omega, by dsimp only; omega, by dsimp only; omega⟩
    have h5 := bstep_c 38 #[.pointer (some ⟨b9, 0, none⟩)] emp (a, wtS (40000000 + yh) k, c, 0, flS k, 0, 40000, 100000, false) 0 0 true 50000000 (by decide) (by decide) hk W view_en h
    rw [fall_emp hk (by decide) (by decide) (by omega) w2.2, flS_next] at h5
    have e : wtS (40000000 + yh) k + flS (k + 1) = wtS (40000000 + yh) (k + 1) := by
      show _ = wtS (40000000 + yh) k - mnI (4096 * ((k : Int) + 1)) 262144
      unfold flS
      rw [Int.natCast_add]
      rfl
    rw [e] at h5
    exact h5
  simp only [bd9] at ST
  have HS := Lib.hid ST
  clear ST
  have HBB := Lib.hid (And.intro (And.intro x1 x2) (And.intro (And.intro y1 y2) (And.intro z1 z2)))
  clear x1 x2 y1 y2 z1 z2
  obtain ⟨N, hN⟩ : ∃ N, N = w.heap.size := ⟨_, rfl⟩
  obtain ⟨W, hW⟩ : ∃ W, W = w.alloc (.cells #[.int .i64 x, .int .i64 y, .int .i64 z] 26) := ⟨_, rfl⟩
  have H : Below w.heap.size w W := by rw [hW]; go_grown
  have B : Blk W N 26 _ := Blk.eqw hW.symm (Blk.new' hN)
  go_enter Try.func5, Try.ntmps5
  go_upto_region 1 with (fail)
  rw [← hW, ← hN]
  have HN := Lib.hid hN
  clear hW hN
  go_upto_region 2 with (go_at_call 12; refine (view_c _ _ _).mono ?_; rintro e_ w3 ⟨rfl, rfl⟩)
  generalize hV : World.alloc W _ = W1
  have T0 : Tells Try.prog 38 #[.pointer (some ⟨W.heap.size, 0, none⟩)] emp W1 := view_tells (Blk.eqw hV (Blk.new' rfl)) (fun h => by omega)
  have hk : Below W.heap.size W W1 := by rw [← hV]; exact (Below.refl _ _).alloc (Nat.le_refl _) _
  replace B := B.on hk
  have HH := Lib.hid (after H hk)
  have HT := Lib.hid T0
  clear hV hk H T0
  generalize W.heap.size = q at HT ⊢
  obtain ⟨b0, b1, b2⟩ := B.re3
  refine wp_region_float (t := 35) (z := #[.int .i64 0, .int .i64 0, .int .i64 0, .int .i64 0, .int .i64 0, .int .i64 0, .int .i64 0, .int .i64 0, .bool false]) 12 6 (by kernel_rfl) rfl (by kernel_rfl) rfl (fun _ _ => by kernel_rfl) ?_
  simp only [List.take_succ_cons, List.take_zero, List.drop_succ_cons, List.drop_zero]
  repeat (refine wpRel_step (fun K hK => ?_); go_simp; first | (refine hK _ ?_; clear hK K) | (apply Exists.intro; refine ⟨fun _ => ?_, hK _ ?_⟩; (first | ((with_reducible refine Calls.mono (HX.out _) ?_); exact fun _ _ h => h) | ((with_reducible refine Calls.mono (HY.out _) ?_); exact fun _ _ h => h) | ((with_reducible refine Calls.mono (HZ.out _) ?_); exact fun _ _ h => h)); clear hK K))
  refine wpRel_nil ?_
  intro b W hb hB hle
  clear b0 b1 b2 HX HY HZ
  obtain ⟨⟨k0, k1, k2, k3, k4, k5, k6, k7, k8⟩, f0, f1, f2, f3, f4, f5, f6, f7, f8⟩ := hB.c9
  simp only [Act.put]
  go_upto_region 3 with (fail)
  generalize hV : World.setCell (World.setCell (World.setCell (World.setCell (World.setCell (World.setCell (World.setCell (World.setCell (World.setCell W _ _) _ _) _ _) _ _) _ _) _ _) _ _) _ _) _ _ = W3
  have Y : Blk W3 b 35 #[.int .i64 a, .int .i64 (wtS (40000000 + yh) 0), .int .i64 c, .int .i64 0, .int .i64 (flS 0), .int .i64 0, .int .i64 40000, .int .i64 100000, .bool false] := Blk.eqw hV (hB.st9 _ _ _ _ _ _ _ _ _)
  have HK : Hid (Below W1.heap.size W1 W3) := Lib.hid (by rw [← hV]; exact sx9_below hb hle _ _ _ _ _ _ _ _ _)
  clear hV hb hB k0 k1 k2 k3 k4 k5 k6 k7 k8 f0 f1 f2 f3 f4 f5 f6 f7 f8 e1
  have e0 : wtS (40000000 + yh) 0 = 40000000 + yh := rfl
  have y1 := Y.cell 1
  simp only [List.getElem?_toArray, List.getElem?_cons_zero, List.getElem?_cons_succ] at y1
  clear e0
  have HW := Lib.hid (fun k => wtS_bd (40000000 + yh) k)
  have HNX := Lib.hid (fun k : Nat => show wtS (40000000 + yh) (k + 1) = wtS (40000000 + yh) k - mnI (4096 * ((k : Int) + 1)) 262144 from rfl)
  generalize wtS (40000000 + yh) = wt at HS Y HW HNX y1 ⊢
  go_upto_region 5 with (fail)
  clear y1
  go_loopw [7, 8] (fun vv iv wr => ∃ k : Nat, k ≤ r ∧ iv = .int .i64 ((k : Int) + 1) ∧ vv = .int .i64 (wt k) ∧ Blk wr b 35 #[.int .i64 a, .int .i64 (wt k), .int .i64 c, .int .i64 0, .int .i64 (flS k), .int .i64 0, .int .i64 40000, .int .i64 100000, .bool false] ∧ Hid (Below W1.heap.size W1 wr)) (fun _ iv _ => r + 1 - (intOf iv).toNat)
  case atStart => exact ⟨0, Nat.zero_le _, rfl, rfl, Y, HK⟩
  case round =>
    clear Y HK
    obtain ⟨k, hk, rfl, rfl, Y, HK⟩ := hrel
    by_cases hlt : k < r
    · have h1 : (k : Int) + 1 ≤ (r : Int) := by omega
      have hST := fun W h => HS.out k W q (by omega) h
      have hw1 := HW.out k
      have hyb := HBB.out.2.1
      obtain ⟨p, hp⟩ : ∃ p, mnI (4096 * ((k : Int) + 1)) 262144 = p := ⟨_, rfl⟩
      have hp3 : 0 ≤ p ∧ p ≤ 262144 := by rw [← hp]; unfold mnI; omega
      have hn := HNX.out k
      have hf : flS (k + 1) = -p := by unfold flS; rw [Int.natCast_add, ← hp]; rfl
      rw [hp] at hn
      rw [hn, hf] at hST
      have HST := Lib.hid hST
      have HE := Lib.hid (And.intro hn hf)
      have q1 : -9223372036854775808 ≤ 4096 * ((k : Int) + 1) := by omega
      have q2 : 4096 * ((k : Int) + 1) ≤ 9223372036854775807 := by omega
      have q3 : -9223372036854775808 ≤ wt k - p := by omega
      have q4 : wt k - p ≤ 9223372036854775807 := by omega
      have q5 : -9223372036854775808 ≤ -p := by omega
      have q6 : -p ≤ 9223372036854775807 := by omega
      clear hST hw1 hn hf hp3 hyb
      obtain ⟨⟨b0, b1, b2, b3, b4, b5, b6, b7, b8⟩, f0, f1, f2, f3, f4, f5, f6, f7, f8⟩ := Y.c9
      go_wp2_with first
        | (go_at_call 17; refine (HA.out _).mono ?_; rintro e_ w8 ⟨rfl, rfl⟩)
        | (go_at_call 14; refine (HST.out _ (HT.out.on HK.out)).mono ?_; rintro e_ w5 ⟨rfl, k5⟩; clear b0 b1 b2 b3 b4 b5 b6 b7 b8 f0 f1 f2 f3 f4 f5 f6 f7 f8; have Y5 := Y.on k5; obtain ⟨⟨b0, b1, b2, b3, b4, b5, b6, b7, b8⟩, f0, f1, f2, f3, f4, f5, f6, f7, f8⟩ := Y5.c9)
      refine ⟨⟨k + 1, hlt, by go_num, by rw [HE.out.1], ?_, Lib.hid (sx9_below (after HK.out k5) hle _ _ _ _ _ _ _ _ _)⟩, ?_⟩
      · rw [HE.out.1, HE.out.2]
        exact Y5.st9 _ _ _ _ _ _ _ _ _
      · simp only [intOf]; omega
    · obtain rfl : k = r := by omega
      have h1 : ¬ ((k : Int) + 1 ≤ (k : Int)) := by omega
      go_wp2_with first
        | (go_at_call 17; refine (HA.out _).mono ?_; rintro e_ w8 ⟨rfl, rfl⟩)
        | (go_at_call 16; refine (blives_c _).mono ?_; rintro e_ w5 ⟨rfl, k5⟩)
      go_returns
      have H := HH.out
      exact ⟨rfl, after (after H HK.out) k5⟩
set_option maxRecDepth 100000 in
theorem bodyFalls_lifted (os : Os) (started : os.Started) (H : Type) (enc : TypeId × Value → H) :
    ReturnsInHanded {} Try.checked os 5 .any (Rows.bodyFallsSpec.pre6 enc Try.prog Try.f5 Rows.bodyFallsRow.domain false) (Rows.bodyFallsSpec.post enc Try.prog Try.f5 false true false false) := by
  refine returnsInHanded_of_change (C := Try.checked) own started (by kernel_rfl) Try.func5
    (ChangeSpec.witness6 (enc := enc) (C := Try.checked) false ⟨#[], #[.agg #[.int .i64 0, .int .i64 0, .int .i64 0], .int .i64 0], []⟩ 8 (by kernel_rfl) (by kernel_rfl) (by kernel_rfl) (by kernel_rfl)) ?_
  intro W base args ds gs before hval0 hW hcnd hsz
  have hval : ∀ (j : Nat) t v, Try.f5.params[j]? = some t → args[j]? = some v → Value.okWide Try.prog W .any base t v := hval0
  have hW' := hW
  obtain ⟨p, q, hA0, hV, rfl, hfz, hnd⟩ := hW
  have hA : DataW.TrodAll enc Try.prog W 0 (fun _ => true) true Try.f5.params.toList args.toList ds p := hA0
  rw [Try.params5] at hA hval
  obtain ⟨v0, vs0, d0, ds0, p_0, q_0, hargs, rfl, rfl, h0, r_0⟩ := trodAll_cons hA
  obtain ⟨v1, vs1, d1, ds1, p_1, q_1, rfl, rfl, rfl, h1, r_1⟩ := trodAll_cons r_0
  obtain ⟨rfl, rfl, rfl⟩ := trodAll_nil r_1
  obtain rfl : args = #[v0, v1] := by cases args; simp_all
  obtain ⟨rfl, rfl⟩ := trodVars_none hV
  obtain ⟨x0, y0, z0, rfl, wx0, wy0, wz0⟩ := open_vec Try.underlying26 (by kernel_rfl) (by kernel_rfl) Try.underlying3 (hval 0 26 v0 rfl rfl) h0
  obtain ⟨a1, rfl, rfl, rfl, w1⟩ := open_int Try.underlying3 (hval 1 3 v1 rfl rfl) h1
  refine (bodyFalls_c x0 y0 z0 wx0 wy0 wz0 a1 (in64_of_wf w1) W).mono fun e W' ⟨he, hb⟩ => ?_
  subst he
  exact ⟨_, rfl, law_post laidOut (by kernel_rfl) rfl (by kernel_rfl) Try.underlying4 hW' rfl rfl rfl hb⟩

/-- The statement. -/
theorem bodyFalls_proved : Rows.BodyFallsSaid :=
  OpenClaim.holds_of_wide 5 Try.f5 rfl rfl rfl rfl rfl rfl rfl ⟨rfl, rfl, rfl, rfl, rfl⟩ rfl rfl rfl rfl rfl (by kernel_rfl) Try.func5 (by kernel_rfl)
    (of_decide_eq_true (by kernel_rfl)) (by unfold Func.isWrapper; first | (rw [if_pos (by decide +kernel)]; kernel_rfl) | (rw [if_neg (by decide +kernel)]; exact ⟨rfl, rfl⟩))
    (fun os started H enc _ => bodyFalls_lifted os started H enc)
end Go.Proofs.Ytnokibdecnddlaa
