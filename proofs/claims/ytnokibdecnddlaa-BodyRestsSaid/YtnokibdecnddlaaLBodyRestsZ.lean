/- BodyRests holds: for any body, any number of steps. -/
import Derived.Test.YtnokibdecnddlaaMa8
import Derived.Test.YtnokibdecnddlaaMa9
namespace Go.Proofs.Ytnokibdecnddlaa
open Go.ChangeShapes Go.WideShapes Go.ChangeAt Go.RowKit
attribute [local go_sem] Oper.semAt_some

set_option maxRecDepth 100000 in
set_option maxHeartbeats 8000000 in
theorem bodyRests_c (b : BD) (hb : Bd64 b) (m : Int) (hm : In64 m) (w : World) : Calls Try.prog 4 #[.agg (bd9 b), .int .i64 m] w fun r w' => r = .returned (.bool true) ∧ Below w.heap.size w w' := by
  obtain ⟨i1, i2, i3, i4, i5, i6, i7, i8⟩ := hb
  have HG := Lib.hid (fun W => rgood20_c b i1 i2 i3 i4 i5 i6 i7 i8 W)
  have HA := Lib.hid (fun W => around_c m 10 hm.1 hm.2 (by decide) W)
  have r1 := arI_lo m (m := 10) (by decide)
  have r2 := arI_hi m (m := 10) (by decide)
  obtain ⟨r, hr⟩ : ∃ r : Nat, arI m 10 = r := ⟨(arI m 10).toNat, by omega⟩
  rw [hr] at HA r1 r2
  have hG := goodB_ok b
  clear i1 i2 i3 i4 i5 i6 i7 i8 hm hr
  generalize goodB b = c at HG hG
  obtain ⟨x, y, z, sx, sy, sz, wd, ht, st⟩ := b
  obtain ⟨x', y', z', sx', sy', sz', wd', ht', st'⟩ := c
  have K0 : ∀ s, BOk 500000 (x', 0, z', 0, 0, 0, wd', ht', s) := fun s => by
    obtain ⟨h1, h2, h3, h4, h5, h6, h7, h8⟩ := hG
    exact ⟨h1, by dsimp only; omega, h3, by dsimp only; omega, by dsimp only; omega, by dsimp only; omega, h7, h8⟩
  have ST : ∀ s W b9, Tells Try.prog 38 #[.pointer (some ⟨b9, 0, none⟩)] emp W → Calls _ _ _ _ _ := fun s W b9 h => bstep_c 38 #[.pointer (some ⟨b9, 0, none⟩)] emp (x', 0, z', 0, 0, 0, wd', ht', s) 0 0 false 500000 (by decide) (by decide) (K0 s) W view_en h
  simp only [fun s => rest_emp (K0 s) (by decide) (by decide), bd9] at ST
  have HS := Lib.hid ST
  clear ST K0 hG
  simp only [bd9] at *
  obtain ⟨W, hW⟩ : ∃ W, W = w.alloc (.cells #[.int .i64 x, .int .i64 y, .int .i64 z, .int .i64 sx, .int .i64 sy, .int .i64 sz, .int .i64 wd, .int .i64 ht, .bool st] 28) := ⟨_, rfl⟩
  have H : Below w.heap.size w W := by rw [hW]; go_grown
  have B : Blk W w.heap.size 28 _ := Blk.eqw hW.symm (Blk.new' rfl)
  go_enter Try.func4, Try.ntmps4
  go_upto_region 1 with (fail)
  rw [← hW]
  clear hW
  obtain ⟨⟨b0, b1, b2, b3, b4, b5, b6, b7, b8⟩, -⟩ := B.c9
  go_upto_region 2 with (go_at_call 13; refine (HG.out _).mono ?_; rintro e_ w1 ⟨rfl, k1⟩)
  generalize hV : World.alloc w1 _ = W1
  have G : Blk W1 w1.heap.size 35 #[.int .i64 x', .int .i64 y', .int .i64 z', .int .i64 sx', .int .i64 sy', .int .i64 sz', .int .i64 wd', .int .i64 ht', .bool st'] := Blk.eqw hV (Blk.new' rfl)
  have hk : Below W.heap.size W W1 := by rw [← hV]; exact after k1 ((Below.refl _ _).alloc (Nat.le_refl _) _)
  have hg : w.heap.size ≤ w1.heap.size := Nat.le_trans H.size k1.size
  replace H := after H hk
  clear hV k1 hk b0 b1 b2 b3 b4 b5 b6 b7 b8 HG B
  generalize w1.heap.size = g at G hg ⊢
  obtain ⟨⟨b0, b1, b2, b3, b4, b5, b6, b7, b8⟩, f0, f1, f2, f3, f4, f5, f6, f7, f8⟩ := G.c9
  go_upto_region 4 with (fail)
  generalize hV : World.setCell (World.setCell (World.setCell (World.setCell W1 _ _) _ _) _ _) _ _ = W2
  have G2 : Blk W2 g 35 #[.int .i64 x', .int .i64 0, .int .i64 z', .int .i64 0, .int .i64 0, .int .i64 0, .int .i64 wd', .int .i64 ht', .bool st'] := Blk.eqw hV ((((G.set_ 1 _).set_ 3 _).set_ 4 _).set_ 5 _)
  have H2 : Below w.heap.size w W2 := by rw [← hV]; exact (((H.setCell (p := ⟨g, 1, none⟩) hg _).setCell (p := ⟨g, 3, none⟩) hg _).setCell (p := ⟨g, 4, none⟩) hg _).setCell (p := ⟨g, 5, none⟩) hg _
  clear hV b0 b1 b2 b3 b4 b5 b6 b7 b8 f0 f1 f2 f3 f4 f5 f6 f7 f8 G H hg
  go_upto_region 5 with (go_at_call 12; refine (view_c _ _ _).mono ?_; rintro e_ w3 ⟨rfl, rfl⟩)
  generalize hV : World.alloc W2 _ = W3
  have T0 : Tells Try.prog 38 #[.pointer (some ⟨W2.heap.size, 0, none⟩)] emp W3 := view_tells (Blk.eqw hV (Blk.new' rfl)) (fun h => by omega)
  have hk : Below W2.heap.size W2 W3 := by rw [← hV]; exact (Below.refl _ _).alloc (Nat.le_refl _) _
  have G := G2.on hk
  have H := Lib.hid (after H2 hk)
  clear hV hk G2 H2
  generalize W2.heap.size = q at T0 ⊢
  have HT := Lib.hid T0
  clear T0
  obtain ⟨⟨b0, b1, b2, b3, b4, b5, b6, b7, b8⟩, -⟩ := G.c9
  go_upto_region 6 with (go_at_call 14; refine (HS.out _ _ _ HT.out).mono ?_; rintro e_ w4 ⟨rfl, k4⟩)
  generalize hV : World.alloc w4 _ = W4
  have Y : Blk W4 w4.heap.size 35 #[.int .i64 x', .int .i64 0, .int .i64 z', .int .i64 0, .int .i64 0, .int .i64 0, .int .i64 wd', .int .i64 ht', .bool true] := Blk.eqw hV (Blk.new' rfl)
  have hk : Below W3.heap.size W3 W4 := by rw [← hV]; exact after k4 ((Below.refl _ _).alloc (Nat.le_refl _) _)
  have hy := k4.size
  have HK := Lib.hid hk
  have HG := Lib.hid G
  clear hV k4 hk b0 b1 b2 b3 b4 b5 b6 b7 b8 G
  generalize w4.heap.size = gy at Y hy ⊢
  go_upto_region 7 with (fail)
  go_loopw [8] (fun iv wr => ∃ k : Nat, k ≤ r ∧ iv = .int .i64 k ∧ Blk wr gy 35 #[.int .i64 x', .int .i64 0, .int .i64 z', .int .i64 0, .int .i64 0, .int .i64 0, .int .i64 wd', .int .i64 ht', .bool true] ∧ Hid (Below W3.heap.size W3 wr)) (fun iv _ => r - (intOf iv).toNat)
  case atStart => exact ⟨0, Nat.zero_le _, rfl, Y, HK⟩
  case round =>
    clear Y HK
    obtain ⟨k, hk, rfl, Y, HK⟩ := hrel
    obtain ⟨⟨b0, b1, b2, b3, b4, b5, b6, b7, b8⟩, f0, f1, f2, f3, f4, f5, f6, f7, f8⟩ := Y.c9
    by_cases hlt : k < r
    · have h1 : (k : Int) < (r : Int) := by omega
      go_wp2_with first
        | (go_at_call 17; refine (HA.out _).mono ?_; rintro e_ w8 ⟨rfl, rfl⟩)
        | (go_at_call 14; refine (HS.out _ _ _ (HT.out.on HK.out)).mono ?_; rintro e_ w5 ⟨rfl, k5⟩; clear b0 b1 b2 b3 b4 b5 b6 b7 b8 f0 f1 f2 f3 f4 f5 f6 f7 f8; have Y5 := Y.on k5; obtain ⟨⟨b0, b1, b2, b3, b4, b5, b6, b7, b8⟩, f0, f1, f2, f3, f4, f5, f6, f7, f8⟩ := Y5.c9)
      exact ⟨⟨k + 1, hlt, by go_num, Y5.st9 _ _ _ _ _ _ _ _ _, Lib.hid (sx9_below (after HK.out k5) hy _ _ _ _ _ _ _ _ _)⟩, next_less' hlt⟩
    · obtain rfl : k = r := by omega
      have h1 : ¬ ((k : Int) < (k : Int)) := by omega
      have X := HG.out.on HK.out
      obtain ⟨⟨c0, c1, c2, c3, c4, c5, c6, c7, c8⟩, -⟩ := X.c9
      have ve := vecC_eq x' 0 z' x' 0 z'
      rw [veqC_self] at ve
      have ve2 := vecC_eq 0 0 0 0 0 0
      rw [veqC_self] at ve2
      have vg := vecC_guard
      go_wp2_with first
        | (go_at_call 17; refine (HA.out _).mono ?_; rintro e_ w8 ⟨rfl, rfl⟩)
        | (go_at_call 16; refine (blives_c _).mono ?_; rintro e_ w5 ⟨rfl, k5⟩)
      go_returns
      exact ⟨rfl, after (after H.out HK.out) k5⟩
set_option maxRecDepth 100000 in
theorem bodyRests_lifted (os : Os) (started : os.Started) (H : Type) (enc : TypeId × Value → H) :
    ReturnsInHanded {} Try.checked os 4 .any (Rows.bodyRestsSpec.pre6 enc Try.prog Try.f4 Rows.bodyRestsRow.domain false) (Rows.bodyRestsSpec.post enc Try.prog Try.f4 false true false false) := by
  refine returnsInHanded_of_change (C := Try.checked) own started (by kernel_rfl) Try.func4
    (ChangeSpec.witness6 (enc := enc) (C := Try.checked) false ⟨#[], #[.agg #[.int .i64 0, .int .i64 0, .int .i64 0, .int .i64 0, .int .i64 0, .int .i64 0, .int .i64 0, .int .i64 0, .bool false], .int .i64 0], []⟩ 8 (by kernel_rfl) (by kernel_rfl) (by kernel_rfl) (by kernel_rfl)) ?_
  intro W base args ds gs before hval0 hW hcnd hsz
  have hval : ∀ (j : Nat) t v, Try.f4.params[j]? = some t → args[j]? = some v → Value.okWide Try.prog W .any base t v := hval0
  have hW' := hW
  obtain ⟨p, q, hA0, hV, rfl, hfz, hnd⟩ := hW
  have hA : DataW.TrodAll enc Try.prog W 0 (fun _ => true) true Try.f4.params.toList args.toList ds p := hA0
  rw [Try.params4] at hA hval
  obtain ⟨v0, vs0, d0, ds0, p_0, q_0, hargs, rfl, rfl, h0, r_0⟩ := trodAll_cons hA
  obtain ⟨v1, vs1, d1, ds1, p_1, q_1, rfl, rfl, rfl, h1, r_1⟩ := trodAll_cons r_0
  obtain ⟨rfl, rfl, rfl⟩ := trodAll_nil r_1
  obtain rfl : args = #[v0, v1] := by cases args; simp_all
  obtain ⟨rfl, rfl⟩ := trodVars_none hV
  obtain ⟨b0, rfl, wb0⟩ := open_bd Try.underlying28 Try.underlying26 (by kernel_rfl) (by kernel_rfl) (by kernel_rfl) Try.underlying3 Try.underlying4 (hval 0 28 v0 rfl rfl) h0
  obtain ⟨a1, rfl, rfl, rfl, w1⟩ := open_int Try.underlying3 (hval 1 3 v1 rfl rfl) h1
  refine (bodyRests_c b0 wb0 a1 (in64_of_wf w1) W).mono fun e W' ⟨he, hb⟩ => ?_
  subst he
  exact ⟨_, rfl, law_post laidOut (by kernel_rfl) rfl (by kernel_rfl) Try.underlying4 hW' rfl rfl rfl hb⟩

/-- The statement. -/
theorem bodyRests_proved : Rows.BodyRestsSaid :=
  OpenClaim.holds_of_wide 4 Try.f4 rfl rfl rfl rfl rfl rfl rfl ⟨rfl, rfl, rfl, rfl, rfl⟩ rfl rfl rfl rfl rfl (by kernel_rfl) Try.func4 (by kernel_rfl)
    (of_decide_eq_true (by kernel_rfl)) (by unfold Func.isWrapper; first | (rw [if_pos (by decide +kernel)]; kernel_rfl) | (rw [if_neg (by decide +kernel)]; exact ⟨rfl, rfl⟩))
    (fun os started H enc _ => bodyRests_lifted os started H enc)
end Go.Proofs.Ytnokibdecnddlaa
