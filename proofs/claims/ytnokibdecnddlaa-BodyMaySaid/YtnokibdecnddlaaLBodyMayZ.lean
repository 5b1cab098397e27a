/- BodyMay holds: for any body. -/
import Derived.Test.YtnokibdecnddlaaMa8
import Derived.Test.YtnokibdecnddlaaMa9
namespace Go.Proofs.Ytnokibdecnddlaa
open Go.ChangeShapes Go.WideShapes Go.ChangeAt Go.RowKit
attribute [local go_sem] Oper.semAt_some

theorem BOk.mays {M : Int} {b : BD} (h : BOk M b) (hM : M ≤ 70368744177664) : mayB b = true := by
  obtain ⟨x, y, z, sx, sy, sz, hw, hh⟩ := h
  have e1 : inI b.1 b.2.1 b.2.2.1 70368744177664 = true := inI_iff.2 ⟨by omega, by omega, by omega⟩
  have e2 : inI b.2.2.2.1 b.2.2.2.2.1 b.2.2.2.2.2.1 262144 = true := inI_iff.2 ⟨by omega, by omega, by omega⟩
  unfold mayB
  rw [e1, e2]
  simp
  omega
theorem mayC_sm {M : Int} {x : B6} (h : Sm6 M x) (hM : M ≤ 100000000000000) : mayC x.1 x.2.1 x.2.2.1 x.2.2.2.1 x.2.2.2.2.1 x.2.2.2.2.2 = true := by
  obtain ⟨h1, h2, h3, h4, h5, h6, h7, h8, h9, h10, h11, h12⟩ := h
  unfold mayC veqC
  rw [cutI_id (by omega) (by omega), cutI_id (by omega) (by omega), cutI_id (by omega) (by omega), cutI_id (by omega) (by omega), cutI_id (by omega) (by omega), cutI_id (by omega) (by omega)]
  simp
  omega
set_option maxRecDepth 100000 in
set_option maxHeartbeats 8000000 in
theorem bodyMay_c (b : BD) (hb : Bd64 b) (w : World) : Calls Try.prog 8 #[.agg (bd9 b)] w fun r w' => r = .returned (.bool true) ∧ Below w.heap.size w w' := by
  obtain ⟨i1, i2, i3, i4, i5, i6, i7, i8⟩ := hb
  have HG := Lib.hid (fun W => rgood20_c b i1 i2 i3 i4 i5 i6 i7 i8 W)
  have M1 := fun W => bmay_c b W
  have M2 := fun W => rbmay_c b W
  have hG := goodB_ok b
  clear i1 i2 i3 i4 i5 i6 i7 i8
  generalize goodB b = c at HG hG
  have M3 := fun W => bmay_c c W
  rw [hG.mays (by decide)] at M3
  have B1 := fun W => bbox_c c (by have := hG.wd; omega) W
  have B2 := fun W => rbbox_c c (by have := hG.wd; omega) W
  have hS := (hG.box (by decide)).1
  have M4 := fun W => rmayC_c (boxB c).1 (boxB c).2.1 (boxB c).2.2.1 (boxB c).2.2.2.1 (boxB c).2.2.2.2.1 (boxB c).2.2.2.2.2 W
  rw [mayC_sm hS (by decide)] at M4
  generalize boxB c = bx at B1 B2 M4
  have hh := hG.ht
  generalize mayB b = pb at M1 M2
  clear hG hS
  obtain ⟨x, y, z, sx, sy, sz, wd, ht, st⟩ := b
  obtain ⟨x', y', z', sx', sy', sz', wd', ht', st'⟩ := c
  obtain ⟨o1, o2, o3, o4, o5, o6⟩ := bx
  dsimp only at hh
  have E1 := fun W => eye_c x' y' z' sx' sy' sz' wd' ht' st' hh W
  have E2 := fun W => reye_c x' y' z' sx' sy' sz' wd' ht' st' hh W
  generalize addI x' 0 = a1 at E1 E2
  generalize addI y' (ht' * 4 / 5) = a2 at E1 E2
  generalize addI z' 0 = a3 at E1 E2
  simp only [bd9, ag6] at *
  have D1 := Lib.hid M1
  have D2 := Lib.hid M2
  have D3 := Lib.hid M3
  have D4 := Lib.hid M4
  have D5 := Lib.hid B1
  have D6 := Lib.hid B2
  have D7 := Lib.hid E1
  have D8 := Lib.hid E2
  clear M1 M2 M3 M4 B1 B2 E1 E2 hh
  obtain ⟨W, hW⟩ : ∃ W, W = w.alloc (.cells #[.int .i64 x, .int .i64 y, .int .i64 z, .int .i64 sx, .int .i64 sy, .int .i64 sz, .int .i64 wd, .int .i64 ht, .bool st] 28) := ⟨_, rfl⟩
  have H : Below w.heap.size w W := by rw [hW]; go_grown
  have B : Blk W w.heap.size 28 _ := Blk.eqw hW.symm (Blk.new' rfl)
  go_enter Try.func8, Try.ntmps8
  go_upto_region 1 with (fail)
  rw [← hW]
  clear hW
  obtain ⟨⟨b0, b1, b2, b3, b4, b5, b6, b7, b8⟩, -⟩ := B.c9
  go_upto_region 2 with (go_at_call 13; refine (HG.out _).mono ?_; rintro e_ w1 ⟨rfl, k1⟩)
  generalize hV : World.alloc w1 _ = W1
  have G : Blk W1 w1.heap.size 28 #[.int .i64 x', .int .i64 y', .int .i64 z', .int .i64 sx', .int .i64 sy', .int .i64 sz', .int .i64 wd', .int .i64 ht', .bool st'] := Blk.eqw hV (Blk.new' rfl)
  have hk : Below W.heap.size W W1 := by rw [← hV]; exact after k1 ((Below.refl _ _).alloc (Nat.le_refl _) _)
  replace B := B.on hk
  replace H := after H hk
  clear hV k1 hk b0 b1 b2 b3 b4 b5 b6 b7 b8 HG
  generalize w1.heap.size = g at G ⊢
  obtain ⟨⟨b0, b1, b2, b3, b4, b5, b6, b7, b8⟩, -⟩ := B.c9
  go_upto_region 3 with (fail)
  generalize hV : World.alloc W1 _ = W2
  have X : Blk W2 W1.heap.size 35 #[.int .i64 x, .int .i64 y, .int .i64 z, .int .i64 sx, .int .i64 sy, .int .i64 sz, .int .i64 wd, .int .i64 ht, .bool st] := Blk.eqw hV (Blk.new' rfl)
  have hk : Below W1.heap.size W1 W2 := by rw [← hV]; exact (Below.refl _ _).alloc (Nat.le_refl _) _
  replace B := B.on hk
  replace G := G.on hk
  replace H := after H hk
  generalize W1.heap.size = h at X ⊢
  clear hV hk b0 b1 b2 b3 b4 b5 b6 b7 b8
  obtain ⟨⟨b0, b1, b2, b3, b4, b5, b6, b7, b8⟩, -⟩ := G.c9
  go_upto_region 4 with (fail)
  generalize hV : World.alloc W2 _ = W3
  have Y : Blk W3 W2.heap.size 35 #[.int .i64 x', .int .i64 y', .int .i64 z', .int .i64 sx', .int .i64 sy', .int .i64 sz', .int .i64 wd', .int .i64 ht', .bool st'] := Blk.eqw hV (Blk.new' rfl)
  have hk : Below W2.heap.size W2 W3 := by rw [← hV]; exact (Below.refl _ _).alloc (Nat.le_refl _) _
  replace B := B.on hk
  replace G := G.on hk
  replace X := X.on hk
  have HH := Lib.hid (after H hk)
  generalize W2.heap.size = k at Y ⊢
  clear hV hk b0 b1 b2 b3 b4 b5 b6 b7 b8 H
  have b0_ := fun d os => (B.re d os).cell 0
  have b1_ := fun d os => (B.re d os).cell 1
  have b2_ := fun d os => (B.re d os).cell 2
  have b3_ := fun d os => (B.re d os).cell 3
  have b4_ := fun d os => (B.re d os).cell 4
  have b5_ := fun d os => (B.re d os).cell 5
  have b6_ := fun d os => (B.re d os).cell 6
  have b7_ := fun d os => (B.re d os).cell 7
  have b8_ := fun d os => (B.re d os).cell 8
  have g0_ := fun d os => (G.re d os).cell 0
  have g1_ := fun d os => (G.re d os).cell 1
  have g2_ := fun d os => (G.re d os).cell 2
  have g3_ := fun d os => (G.re d os).cell 3
  have g4_ := fun d os => (G.re d os).cell 4
  have g5_ := fun d os => (G.re d os).cell 5
  have g6_ := fun d os => (G.re d os).cell 6
  have g7_ := fun d os => (G.re d os).cell 7
  have g8_ := fun d os => (G.re d os).cell 8
  have x0_ := fun d os => (X.re d os).cell 0
  have x1_ := fun d os => (X.re d os).cell 1
  have x2_ := fun d os => (X.re d os).cell 2
  have x3_ := fun d os => (X.re d os).cell 3
  have x4_ := fun d os => (X.re d os).cell 4
  have x5_ := fun d os => (X.re d os).cell 5
  have x6_ := fun d os => (X.re d os).cell 6
  have x7_ := fun d os => (X.re d os).cell 7
  have x8_ := fun d os => (X.re d os).cell 8
  have y0_ := fun d os => (Y.re d os).cell 0
  have y1_ := fun d os => (Y.re d os).cell 1
  have y2_ := fun d os => (Y.re d os).cell 2
  have y3_ := fun d os => (Y.re d os).cell 3
  have y4_ := fun d os => (Y.re d os).cell 4
  have y5_ := fun d os => (Y.re d os).cell 5
  have y6_ := fun d os => (Y.re d os).cell 6
  have y7_ := fun d os => (Y.re d os).cell 7
  have y8_ := fun d os => (Y.re d os).cell 8
  simp only [List.getElem?_toArray, List.getElem?_cons_zero, List.getElem?_cons_succ] at b0_ b1_ b2_ b3_ b4_ b5_ b6_ b7_ b8_ g0_ g1_ g2_ g3_ g4_ g5_ g6_ g7_ g8_ x0_ x1_ x2_ x3_ x4_ x5_ x6_ x7_ x8_ y0_ y1_ y2_ y3_ y4_ y5_ y6_ y7_ y8_
  have HE1 := Lib.hid (And.intro B (And.intro G (And.intro X Y)))
  clear B G X Y
  have be := box_eq_self o1 o2 o3 o4 o5 o6
  have bg := boxg_guard
  have ve := vecC_eq a1 a2 a3 a1 a2 a3
  rw [veqC_self] at ve
  have vg := vecC_guard
  have hpb : (pb == pb) = true := by simp
  refine wp_region_quiet_below (by kernel_rfl) (by kernel_rfl) ?_
  repeat (go_big_quiet_step (first | (with_reducible exact Calls.regrown_of (D1.out _)) | (with_reducible exact Calls.regrown_of (D2.out _)) | (with_reducible exact Calls.regrown_of (D3.out _)) | (with_reducible exact Calls.regrown_of (D4.out _)) | (with_reducible exact Calls.regrown_of (D5.out _)) | (with_reducible exact Calls.regrown_of (D6.out _)) | (with_reducible exact Calls.regrown_of (D7.out _)) | (with_reducible exact Calls.regrown_of (D8.out _)) | (with_reducible exact Calls.regrown_of (blives_c _))))
  refine wpQuiet_nil ?_
  intro w' hw'
  obtain ⟨rg, rfl⟩ := hw'
  clear b0_ b1_ b2_ b3_ b4_ b5_ b6_ b7_ b8_ g0_ g1_ g2_ g3_ g4_ g5_ g6_ g7_ g8_ x0_ x1_ x2_ x3_ x4_ x5_ x6_ x7_ x8_ y0_ y1_ y2_ y3_ y4_ y5_ y6_ y7_ y8_
  go_wp2_with fail
  go_returns
  exact ⟨rfl, after HH.out (below_regrown _ _ _)⟩
set_option maxRecDepth 100000 in
theorem bodyMay_lifted (os : Os) (started : os.Started) (H : Type) (enc : TypeId × Value → H) :
    ReturnsInHanded {} Try.checked os 8 .any (Rows.bodyMaySpec.pre6 enc Try.prog Try.f8 Rows.bodyMayRow.domain false) (Rows.bodyMaySpec.post enc Try.prog Try.f8 false true false false) := by
  refine returnsInHanded_of_change (C := Try.checked) own started (by kernel_rfl) Try.func8
    (ChangeSpec.witness6 (enc := enc) (C := Try.checked) false ⟨#[], #[.agg #[.int .i64 0, .int .i64 0, .int .i64 0, .int .i64 0, .int .i64 0, .int .i64 0, .int .i64 0, .int .i64 0, .bool false]], []⟩ 8 (by kernel_rfl) (by kernel_rfl) (by kernel_rfl) (by kernel_rfl)) ?_
  intro W base args ds gs before hval0 hW hcnd hsz
  have hval : ∀ (j : Nat) t v, Try.f8.params[j]? = some t → args[j]? = some v → Value.okWide Try.prog W .any base t v := hval0
  have hW' := hW
  obtain ⟨p, q, hA0, hV, rfl, hfz, hnd⟩ := hW
  have hA : DataW.TrodAll enc Try.prog W 0 (fun _ => true) true Try.f8.params.toList args.toList ds p := hA0
  rw [Try.params8] at hA hval
  obtain ⟨v0, vs0, d0, ds0, p_0, q_0, hargs, rfl, rfl, h0, r_0⟩ := trodAll_cons hA
  obtain ⟨rfl, rfl, rfl⟩ := trodAll_nil r_0
  obtain rfl : args = #[v0] := by cases args; simp_all
  obtain ⟨rfl, rfl⟩ := trodVars_none hV
  obtain ⟨b0, rfl, wb0⟩ := open_bd Try.underlying28 Try.underlying26 (by kernel_rfl) (by kernel_rfl) (by kernel_rfl) Try.underlying3 Try.underlying4 (hval 0 28 v0 rfl rfl) h0
  refine (bodyMay_c b0 wb0 W).mono fun e W' ⟨he, hb⟩ => ?_
  subst he
  exact ⟨_, rfl, law_post laidOut (by kernel_rfl) rfl (by kernel_rfl) Try.underlying4 hW' rfl rfl rfl hb⟩

/-- The statement. -/
theorem bodyMay_proved : Rows.BodyMaySaid :=
  OpenClaim.holds_of_wide 8 Try.f8 rfl rfl rfl rfl rfl rfl rfl ⟨rfl, rfl, rfl, rfl, rfl⟩ rfl rfl rfl rfl rfl (by kernel_rfl) Try.func8 (by kernel_rfl)
    (of_decide_eq_true (by kernel_rfl)) (by unfold Func.isWrapper; first | (rw [if_pos (by decide +kernel)]; kernel_rfl) | (rw [if_neg (by decide +kernel)]; exact ⟨rfl, rfl⟩))
    (fun os started H enc _ => bodyMay_lifted os started H enc)
end Go.Proofs.Ytnokibdecnddlaa
