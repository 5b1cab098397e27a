/- ProbeWhole holds: any small world, any cell. -/
import Derived.Test.YtmkmaoodeebmfaaWhole1
import Derived.Test.YtmkmaoodeebmfaaBlocks2
import Derived.Test.YtmkmaoodeebmfaaLives14
import Derived.Test.YtmkmaoodeebmfaaSmall
import Derived.Test.YtmkmaoodeebmfaaSelfs
namespace Go.Proofs.Ytmkmaoodeebmfaa
open Go.ChangeShapes Go.WideShapes Go.ChangeAt Go.RowKit Go.Shelf
attribute [local go_sem] Oper.semAt_some

theorem setL_one (n : Int) : setL [n] = [n] := by
  have h1 := setL_len [n]
  have h2 : n ∈ setL [n] := mem_setL.2 (by simp)
  match h : setL [n], h1, h2 with
  | [y], _, h2 => simp at h2; rw [h2]
set_option maxRecDepth 100000 in
set_option maxHeartbeats 8000000 in
theorem probeWhole_c (q : Option Addr) (n c : Nat) (F : Nat → Int) (els : Int) (_ : n ≤ c) (hm : c ≤ maxLen) (hF : ∀ i, i < n → In64 (F i)) (he : In64 els) (x y z : Int) (hx : In64 x) (hy : In64 y) (hz : In64 z) (w : World) (hq : Iq w q n F) :
    Calls Try.prog 8 #[.agg #[.slice q n c, .int .i64 els], .agg #[.int .i64 x, .int .i64 y, .int .i64 z]] w fun e w' => e = .returned (.bool true) ∧ Below w.heap.size w w' := by
  have HGd := Lib.hid (fun W (h : Below w.heap.size w W) => rgood13_c q n c F els hm W (hq.on h) hF he)
  have CA := Lib.hid fun (n : Int) (hn : In64 n) W => calls_bel (around_c n 8 hn.1 hn.2 (by omega) W)
  have lx := arI_lo x (m := 8) (by omega)
  have gx := arI_hi x (m := 8) (by omega)
  have wx : IntKind.i64.wrap (arI x 8 - 1) = arI x 8 - 1 := IntWalk.i64_in _ (by omega)
  have ly := arI_lo y (m := 8) (by omega)
  have gy := arI_hi y (m := 8) (by omega)
  have wy : IntKind.i64.wrap (arI y 8 - 1) = arI y 8 - 1 := IntWalk.i64_in _ (by omega)
  have lz := arI_lo z (m := 8) (by omega)
  have gz := arI_hi z (m := 8) (by omega)
  have wz : IntKind.i64.wrap (arI z 8 - 1) = arI z 8 - 1 := IntWalk.i64_in _ (by omega)
  have HLZ := Lib.hid (And.intro lx (And.intro gx (And.intro ly (And.intro gy (And.intro lz gz)))))
  clear hm hF he hq lx gx ly gy lz gz
  obtain ⟨W0, hW0⟩ : ∃ W0, W0 = (w.alloc (.cells #[.slice q n c, .int .i64 els] 24)).alloc (.cells #[.int .i64 x, .int .i64 y, .int .i64 z] 40) := ⟨_, rfl⟩
  have A0 : Blk W0 w.heap.size 24 #[.slice q n c, .int .i64 els] := by rw [hW0]; exact (Blk.new' rfl).alloc _
  have B0 : Blk W0 (w.heap.size + 1) 40 #[.int .i64 x, .int .i64 y, .int .i64 z] := by rw [hW0]; exact Blk.new' (by simp)
  have H0 : Below w.heap.size w W0 := by rw [hW0]; go_grown
  go_enter Try.func8, Try.ntmps8
  go_upto_region 1 with (fail)
  rw [← hW0]
  clear hW0
  have a0 := A0.cell 0
  have a1 := A0.cell 1
  go_upto_region 2 with (go_at_call 9; refine (HGd.out _ H0).mono ?_; rintro e_ w1 ⟨q2, c2, rfl, R, k1, k2, h1⟩)
  generalize hV : World.alloc w1 _ = W1
  have G : Blk W1 w1.heap.size _ _ := Blk.eqw hV (Blk.new' rfl)
  have h2 : Below w1.heap.size w1 W1 := by rw [← hV]; exact (Below.refl _ _).alloc (Nat.le_refl _) _
  have I := iq_of_rd (R.on h2)
  rw [show (goodL n F).length = min n 216 by simp [goodL]] at I
  replace B0 := (B0.on h1).on h2
  replace H0 := after (after H0 h1) h2
  clear hV h1 h2 k1 k2 R a0 a1 A0
  generalize min n 216 = m at G I ⊢
  generalize w1.heap.size = g at G ⊢
  generalize (fun i => (goodL n F).getD i 0) = F2 at I
  generalize arI els 3 - 1 = els2 at G ⊢
  have g0 := G.cell 0
  have g1 := G.cell 1
  go_upto_region 3 with (go_at_call 10; refine (view_c _ _ _).mono ?_; rintro e_ w2 ⟨rfl, rfl⟩)
  generalize hV : World.alloc W1 _ = W2
  have V2 : Blk W2 W1.heap.size _ _ := Blk.eqw hV (Blk.new' rfl)
  have h2 : Below W1.heap.size W1 W2 := by rw [← hV]; exact (Below.refl _ _).alloc (Nat.le_refl _) _
  replace I := I.on h2
  replace G := G.on h2
  replace B0 := B0.on h2
  replace H0 := after H0 h2
  have T0 := view_tells V2 I
  clear hV h2 V2 g0 g1
  generalize W1.heap.size = g2 at T0 ⊢
  obtain ⟨b0, b1, b2⟩ := B0.re3
  refine wp_sched [0, 0, 0, 0, 0, 0, 0, 0, 0, 0, 0, 0, 0, 2, 3] (fun _ v w => ∃ b9, v = .pointer (some ⟨b9, 0, none⟩) ∧ Blk w b9 40 #[.int .i64 0, .int .i64 0, .int .i64 0] ∧ W2.heap.size ≤ b9) (by kernel_rfl) (by kernel_rfl) (fun _ _ _ _ ⟨b, h1, h2, h3⟩ h => ⟨b, h1, h2.on h, h3⟩) ?_
  repeat (first | (refine wpQs_s ?_) | (refine wpQs_q (fun K hK => ?_); go_simp; first | (refine hK _ ?_; clear hK K) | (apply Exists.intro; refine ⟨fun _ => ?_, hK _ ?_⟩; (exact CA.out _ (by assumption) _); clear hK K)) | (refine wpQs_f (fun K hK => ?_); go_simp; refine hK _ ?_; clear hK K))
  refine wpQs_nil ?_
  repeat (first | (refine wpLs_skip ?_) | (refine wpLs_one ?lsA (fun v_ => ?_); case lsA => (intro w_ hw_ hp_; (go_simp; exact ⟨Kept.of_below ((Below.refl _ _).alloc (Nat.le_refl _) _), Blk.new' rfl, (msd_kept hw_).size⟩))))
  refine wpLs_nilB ?_
  simp only [tails]
  rintro W3 h3 ⟨-, gc, rfl, D, hgc⟩
  clear b0 b1 b2 B0 wx wy wz
  have hgl := G.lt
  obtain ⟨y0, y1, y2, f0, f1, f2⟩ := D.c3
  have hlz := HLZ.out
  generalize arI x 8 = ax at hlz ⊢
  generalize arI y 8 = ay at hlz ⊢
  generalize arI z 8 = az at hlz ⊢
  go_upto_region 4 with (fail)
  obtain ⟨X, hX⟩ : ∃ X, X = ax - 1 := ⟨_, rfl⟩
  obtain ⟨Y, hY⟩ : ∃ Y, Y = ay - 1 := ⟨_, rfl⟩
  obtain ⟨Z, hZ⟩ : ∃ Z, Z = az - 1 := ⟨_, rfl⟩
  rw [← hX, ← hY, ← hZ]
  have bX1 : -1 ≤ X := by omega
  have bX2 : X ≤ 6 := by omega
  have bY1 : -1 ≤ Y := by omega
  have bY2 : Y ≤ 6 := by omega
  have bZ1 : -1 ≤ Z := by omega
  have bZ2 : Z ≤ 6 := by omega
  clear hX hY hZ hlz HLZ
  generalize hV : World.setCell (World.setCell (World.setCell W3 _ _) _ _) _ _ = W4
  have D2 : Blk W4 gc 40 #[.int .i64 X, .int .i64 Y, .int .i64 Z] := Blk.eqw hV (D.st3 _ _ _)
  have h4 : Below W2.heap.size W2 W4 := by rw [← hV]; exact ((h3.setCell (p := ⟨gc, 0, none⟩) hgc _).setCell (p := ⟨gc, 1, none⟩) hgc _).setCell (p := ⟨gc, 2, none⟩) hgc _
  replace I := I.on h4
  replace G := G.on h4
  replace T0 := T0.on h4
  have K0 := after H0 h4
  clear hV h3 h4 D y0 y1 y2 f0 f1 f2 hgc
  have L1 : (cellsI (X * 65536) (Y * 65536) (Z * 65536) (X * 65536 + 65536) (Y * 65536 + 65536) (Z * 65536 + 65536)) = [(X, Y, Z)] := cells_one (by omega) (by omega) (by omega) (by omega) (by omega) (by omega)
  have L2 : (cellsI (X * 65536) (cutI (Y * 65536 - 1)) (Z * 65536) (X * 65536 + 65536) (Y * 65536) (Z * 65536 + 65536)) = [(X, Y - 1, Z)] := cells_under (by omega) (by omega) (by omega) (by omega) (by omega) (by omega)
  have B1 : BoxOk (X * 65536) (Y * 65536) (Z * 65536) (X * 65536 + 65536) (Y * 65536 + 65536) (Z * 65536 + 65536) := ⟨by omega, by omega, by omega, by omega, by omega, by omega, by omega, by omega, by omega⟩
  have cb : cutI (Y * 65536 - 1) = Y * 65536 - 1 := cutI_id (by omega) (by omega)
  have B2 : BoxOk (X * 65536) (cutI (Y * 65536 - 1)) (Z * 65536) (X * 65536 + 65536) (Y * 65536) (Z * 65536 + 65536) := by rw [cb]; exact ⟨by omega, by omega, by omega, by omega, by omega, by omega, by omega, by omega, by omega⟩
  have M1 : (cellsI (X * 65536) (Y * 65536) (Z * 65536) (X * 65536 + 65536) (Y * 65536 + 65536) (Z * 65536 + 65536)).length ≤ 1000000 := by rw [L1]; simp
  have QB := fun W => rbox_c X Y Z (by omega) (by omega) (by omega) (by omega) (by omega) (by omega) W
  have QC := fun W => pcells_c (X * 65536) (Y * 65536) (Z * 65536) (X * 65536 + 65536) (Y * 65536 + 65536) (Z * 65536 + 65536) B1 M1 W
  have QK := fun W (h : Below W4.heap.size W4 W) => pblocks_c 40 _ _ (X * 65536) (Y * 65536) (Z * 65536) (X * 65536 + 65536) (Y * 65536 + 65536) (Z * 65536 + 65536) B1 M1 W view_en (T0.on h)
  have QA := fun W (h : Below W4.heap.size W4 W) => at_c q2 m c2 F2 els2 X Y Z W (I.on h)
  have QU := fun W (h : Below W4.heap.size W4 W) => at_c q2 m c2 F2 els2 X (Y - 1) Z W (I.on h)
  have P1 := fun W (h : Below W4.heap.size W4 W) => pmBlocked_c _ _ _ (X * 65536) (Y * 65536) (Z * 65536) (X * 65536 + 65536) (Y * 65536 + 65536) (Z * 65536 + 65536) B1 W view_en (T0.on h)
  have P2 := fun W (h : Below W4.heap.size W4 W) => pmWet_c _ _ _ (X * 65536) (Y * 65536) (Z * 65536) (X * 65536 + 65536) (Y * 65536 + 65536) (Z * 65536 + 65536) B1 W view_en (T0.on h)
  have P3 := fun W (h : Below W4.heap.size W4 W) => pmClimbs_c _ _ _ (X * 65536) (Y * 65536) (Z * 65536) (X * 65536 + 65536) (Y * 65536 + 65536) (Z * 65536 + 65536) B1 W view_en (T0.on h)
  have P4 := fun W (h : Below W4.heap.size W4 W) => pmStands_c _ _ _ (X * 65536) (Y * 65536) (Z * 65536) (X * 65536 + 65536) (Y * 65536 + 65536) (Z * 65536 + 65536) (by omega) (by omega) B2 W view_en (T0.on h)
  simp only [L1, L2, List.map_cons, List.map_nil, setL_one, List.any_cons, List.any_nil, Bool.or_false] at QC QK P1 P2 P3 P4
  generalize atG m F2 els2 X Y Z = nn at QK QA P1 P2 P3
  generalize atG m F2 els2 X (Y - 1) Z = nu at QU P4
  have hcl : cliB nn = (nn == 4) := rfl
  rw [hcl] at P3
  have HQB := Lib.hid QB
  have HQC := Lib.hid QC
  have HQK := Lib.hid QK
  have HQA := Lib.hid QA
  have HQU := Lib.hid QU
  have HP1 := Lib.hid P1
  have HP2 := Lib.hid P2
  have HP3 := Lib.hid P3
  have HP4 := Lib.hid P4
  have HK0 := Lib.hid K0
  clear QB QC QK QA QU P1 P2 P3 P4 L1 L2 B1 B2 M1 cb I T0 hcl K0 H0
  obtain ⟨d0, d1, d2, -, -, -⟩ := D2.c3
  go_upto_region 5 with (go_at_call 35; refine (HQB.out _).mono ?_; rintro e_ w5 ⟨rfl, h5⟩)
  generalize hV : World.alloc w5 _ = W5
  have hy : Below w5.heap.size w5 W5 := by rw [← hV]; exact (Below.refl _ _).alloc (Nat.le_refl _) _
  have B : Blk W5 w5.heap.size 28 #[.int .i64 (X * 65536), .int .i64 (Y * 65536), .int .i64 (Z * 65536), .int .i64 (X * 65536 + 65536), .int .i64 (Y * 65536 + 65536), .int .i64 (Z * 65536 + 65536)] := Blk.eqw hV (Blk.new' rfl)
  replace G := (G.on h5).on hy
  replace D2 := (D2.on h5).on hy
  have K := after h5 hy
  clear hV hy h5 d0 d1 d2
  generalize w5.heap.size = gb at B ⊢
  obtain ⟨d0, d1, d2, -, -, -⟩ := D2.c3
  have g0 := G.cell 0
  have g1 := G.cell 1
  go_upto_region 6 with (go_at_call 36; refine (HQA.out _ K).mono ?_; rintro e_ w6 ⟨rfl, h6⟩)
  replace G := G.on h6
  replace D2 := D2.on h6
  replace B := B.on h6
  replace K := after K h6
  clear d0 d1 d2 g0 g1 h6
  obtain ⟨x0, x1, x2, x3, x4, x5⟩ := B.c6.1
  go_upto_region 7 with (go_at_call 21; refine (HQC.out _).mono ?_; rintro e_ w7 ⟨v, rfl, V, h7⟩)
  obtain ⟨q3, c3, rfl, k1, k2, R3, -, -⟩ := V.form len3
  replace G := G.on h7
  replace D2 := D2.on h7
  replace B := B.on h7
  replace K := after K h7
  clear V k1 k2 x0 x1 x2 x3 x4 x5 h7
  obtain ⟨x0, x1, x2, x3, x4, x5⟩ := B.c6.1
  go_upto_region 8 with (go_at_call 33; refine (HQK.out _ K).mono ?_; rintro e_ w8 ⟨v, rfl, V, h8⟩)
  obtain ⟨q4, c4, rfl, k1, k2, R4, -, -⟩ := V.form lenI
  replace G := G.on h8
  replace D2 := D2.on h8
  replace B := B.on h8
  replace R3 := R3.on h8
  replace K := after K h8
  clear V k1 k2 x0 x1 x2 x3 x4 x5 h8
  obtain ⟨d0, d1, d2, -, -, -⟩ := D2.c3
  have g0 := G.cell 0
  have g1 := G.cell 1
  have c1 : -9223372036854775808 ≤ Y - 1 := by omega
  have c2' : Y - 1 ≤ 9223372036854775807 := by omega
  go_upto_region 11 with (go_at_call 36; refine (HQU.out _ K).mono ?_; rintro e_ w9 ⟨rfl, h9⟩)
  replace D2 := D2.on h9
  replace B := B.on h9
  replace R3 := R3.on h9
  replace R4 := R4.on h9
  replace K := after K h9
  clear d0 d1 d2 g0 g1 h9 c1 c2' G
  obtain ⟨g3, o3, rfl, hI3⟩ := R3 (by simp)
  obtain ⟨g4, o4, rfl, hI4⟩ := R4 (by simp)
  have e0 : w9.cell? ⟨g3, o3, none⟩ = some (.int .i64 X) := by have := hI3 0 (X, Y, Z) rfl 0 _ rfl; simpa using this
  have e1 : w9.cell? ⟨g3, o3 + 1, none⟩ = some (.int .i64 Y) := by have := hI3 0 (X, Y, Z) rfl 1 _ rfl; simpa using this
  have e2 : w9.cell? ⟨g3, o3 + 2, none⟩ = some (.int .i64 Z) := by have := hI3 0 (X, Y, Z) rfl 2 _ rfl; simpa using this
  have e3 : w9.cell? ⟨g4, o4, none⟩ = some (.int .i64 nn) := by have := hI4 0 nn rfl 0 _ rfl; simpa using this
  have e0 := fun d os => cell_regrown e0 d os
  have e1 := fun d os => cell_regrown e1 d os
  have e2 := fun d os => cell_regrown e2 d os
  have e3 := fun d os => cell_regrown e3 d os
  have hk := fun d os => after K (below_regrown w9 d os)
  have Z1 := Lib.hid fun d os => HP1.out _ (hk d os)
  have Z2 := Lib.hid fun d os => HP2.out _ (hk d os)
  have Z3 := Lib.hid fun d os => HP3.out _ (hk d os)
  have Z4 := Lib.hid fun d os => HP4.out _ (hk d os)
  clear hI3 hI4 R3 R4 hk
  have cg := cell_guard
  have cs := cell_eq_self
  obtain ⟨x0, x1, x2, x3, x4, x5⟩ := B.re6
  obtain ⟨d0, d1, d2⟩ := D2.re3
  refine wp_sched [0, 0, 0, 0, 0, 0, 0, 0, 0, 0, 0, 0, 0, 0, 0, 0, 0, 0, 0, 0, 0, 0, 0, 0, 0, 0, 0, 0, 0, 0, 0, 0, 0, 0, 0, 0, 0, 0, 0, 0, 0, 0, 0, 0, 0, 0, 0, 0] (fun _ _ _ => True) (by kernel_rfl) (by kernel_rfl) (fun _ _ _ _ h _ => h) ?_
  repeat (first | (refine wpQs_s ?_) | (refine wpQs_q (fun K hK => ?_); go_simp; first | (refine hK _ ?_; clear hK K) | (apply Exists.intro; refine ⟨fun _ => ?_, hK _ ?_⟩; (first | exact Z1.out _ _ | exact Z2.out _ _ | exact Z3.out _ _ | exact Z4.out _ _ | exact calls_bel (rsolid_c _ _) | exact calls_bel (rwet_c _ _) | exact plives_c _); clear hK K)) | (refine wpQs_f (fun K hK => ?_); go_simp; refine hK _ ?_; clear hK K))
  refine wpQs_nil ?_
  repeat (first | (refine wpLs_skip ?_) | (refine wpLs_one ?lsA (fun v_ => ?_); case lsA => (intro w_ hw_ hp_; (fail))))
  refine wpLs_nilB ?_
  simp only [tails]
  intro W9 k9 _
  clear x0 x1 x2 x3 x4 x5 d0 d1 d2 e0 e1 e2 e3
  go_wp2_with fail
  go_returns
  exact ⟨rfl, after (after HK0.out K) k9⟩

set_option maxRecDepth 100000 in
theorem probeWhole_lifted (os : Os) (started : os.Started) (H : Type) (enc : TypeId × Value → H) :
    ReturnsInHanded {} Try.checked os 8 .any (Rows.probeWholeSpec.pre6 enc Try.prog Try.f8 Rows.probeWholeRow.domain false) (Rows.probeWholeSpec.post enc Try.prog Try.f8 false true false false) := by
  refine returnsInHanded_of_change (C := Try.checked) own started (by kernel_rfl) Try.func8
    (ChangeSpec.witness6 (enc := enc) (C := Try.checked) false ⟨#[], #[.agg #[.slice none 0 0, .int .i64 0], .agg #[.int .i64 0, .int .i64 0, .int .i64 0]], []⟩ 8 (by kernel_rfl) (by kernel_rfl) (by kernel_rfl) (by kernel_rfl)) ?_
  intro W base args ds gs before hval0 hW hcnd hsz
  have hval : ∀ (j : Nat) t v, Try.f8.params[j]? = some t → args[j]? = some v → Value.okWide Try.prog W .any base t v := hval0
  have hW' := hW
  obtain ⟨p, q, hA0, hV, rfl, hfz, hnd⟩ := hW
  have hA : DataW.TrodAll enc Try.prog W 0 (fun _ => true) true Try.f8.params.toList args.toList ds p := hA0
  rw [Try.params8] at hA hval
  obtain ⟨v0, vs0, d0, ds0, p_0, q_0, hargs, rfl, rfl, h0, r_0⟩ := trodAll_cons hA
  obtain ⟨v1, vs1, d1, ds1, p_1, q_1, rfl, rfl, rfl, h1, r_1⟩ := trodAll_cons r_0
  obtain ⟨rfl, rfl, rfl⟩ := trodAll_nil r_1
  obtain rfl : args = #[v0, v1] := by cases args; simp_all
  obtain ⟨rfl, rfl⟩ := trodVars_none hV
  obtain ⟨gq0, gn0, gc0, gF0, ge0, rfl, gl0, gm0, gi0, gw0, gv0⟩ := open_world Try.underlying24 Try.underlying22 (by kernel_rfl) (by kernel_rfl) Try.underlying3 (hval 0 24 v0 rfl rfl) h0
  obtain ⟨x1, y1, z1, rfl, wx1, wy1, wz1⟩ := open_vec Try.underlying40 (by kernel_rfl) (by kernel_rfl) Try.underlying3 (hval 1 40 v1 rfl rfl) h1
  refine (probeWhole_c gq0 gn0 gc0 gF0 ge0 gl0 gm0 gw0 gv0 x1 y1 z1 wx1 wy1 wz1 W gi0).mono fun e W' ⟨he, hb⟩ => ?_
  subst he
  exact ⟨_, rfl, law_post laidOut (by kernel_rfl) rfl (by kernel_rfl) Try.underlying4 hW' rfl rfl rfl hb⟩

/-- The statement. -/
theorem probeWhole_proved : Rows.ProbeWholeSaid :=
  OpenClaim.holds_of_wide 8 Try.f8 rfl rfl rfl rfl rfl rfl rfl ⟨rfl, rfl, rfl, rfl, rfl⟩ rfl rfl rfl rfl rfl (by kernel_rfl) Try.func8 (by kernel_rfl)
    (of_decide_eq_true (by kernel_rfl)) (by unfold Func.isWrapper; first | (rw [if_pos (by decide +kernel)]; kernel_rfl) | (rw [if_neg (by decide +kernel)]; exact ⟨rfl, rfl⟩))
    (fun os started H enc _ => probeWhole_lifted os started H enc)
end Go.Proofs.Ytmkmaoodeebmfaa
