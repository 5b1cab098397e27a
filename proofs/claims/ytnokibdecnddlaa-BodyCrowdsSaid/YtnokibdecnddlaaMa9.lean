/- Texts that build one behind the other, laid together: Bod4 BodP3 Small Opn Bod3 Selfs. -/
import Derived.Test.YtnokibdecnddlaaMa6
import Derived.Test.YtnokibdecnddlaaMa8
import Derived.Test.YtnokibdecnddlaaMa5
import Derived.Test.YtnokibdecnddlaaMa4
import Derived.Test.YtnokibdecnddlaaMa1
/- A body made of any, near a small world. -/
namespace Go.Proofs.Ytnokibdecnddlaa
open Go.RowKit
attribute [local go_sem] Oper.semAt_some

def goodB (b : BD) : BD := (arI b.1 524289 - 65536, arI b.2.1 524289 - 65536, arI b.2.2.1 524289 - 65536, arI b.2.2.2.1 524289 - 262144, arI b.2.2.2.2.1 524289 - 262144, arI b.2.2.2.2.2.1 524289 - 262144, 2 + arI b.2.2.2.2.2.2.1 78642, 1 + arI b.2.2.2.2.2.2.2.1 131072, b.2.2.2.2.2.2.2.2)
theorem goodB_ok (b : BD) : BOk 500000 (goodB b) := by
  have a := fun n => arI_lo n (m := 524289) (by decide)
  have c := fun n => arI_hi n (m := 524289) (by decide)
  have d := arI_lo b.2.2.2.2.2.2.1 (m := 78642) (by decide)
  have e := arI_hi b.2.2.2.2.2.2.1 (m := 78642) (by decide)
  have f := arI_lo b.2.2.2.2.2.2.2.1 (m := 131072) (by decide)
  have g := arI_hi b.2.2.2.2.2.2.2.1 (m := 131072) (by decide)
  have a1 := a b.1
  have a2 := a b.2.1
  have a3 := a b.2.2.1
  have a4 := a b.2.2.2.1
  have a5 := a b.2.2.2.2.1
  have a6 := a b.2.2.2.2.2.1
  have c1 := c b.1
  have c2 := c b.2.1
  have c3 := c b.2.2.1
  have c4 := c b.2.2.2.1
  have c5 := c b.2.2.2.2.1
  have c6 := c b.2.2.2.2.2.1
  unfold goodB
  constructor <;> dsimp only <;> omega
theorem goodB_more (b : BD) : (goodB b).2.2.2.2.2.2.1 ≤ 78643 ∧ (goodB b).2.2.2.2.2.2.2.1 ≤ 131072 ∧ (-65536 ≤ (goodB b).1 ∧ (goodB b).1 ≤ 458752) ∧ (-65536 ≤ (goodB b).2.1 ∧ (goodB b).2.1 ≤ 458752) ∧ -65536 ≤ (goodB b).2.2.1 ∧ (goodB b).2.2.1 ≤ 458752 := by
  have e := arI_hi b.2.2.2.2.2.2.1 (m := 78642) (by decide)
  have g := arI_hi b.2.2.2.2.2.2.2.1 (m := 131072) (by decide)
  have a1 := arI_lo b.1 (m := 524289) (by decide)
  have a2 := arI_lo b.2.1 (m := 524289) (by decide)
  have a3 := arI_lo b.2.2.1 (m := 524289) (by decide)
  have c1 := arI_hi b.1 (m := 524289) (by decide)
  have c2 := arI_hi b.2.1 (m := 524289) (by decide)
  have c3 := arI_hi b.2.2.1 (m := 524289) (by decide)
  unfold goodB
  dsimp only
  omega
set_option maxRecDepth 100000 in
set_option maxHeartbeats 8000000 in
theorem rgood20_c (b : BD) (h1 : In64 b.1) (h2 : In64 b.2.1) (h3 : In64 b.2.2.1) (h4 : In64 b.2.2.2.1) (h5 : In64 b.2.2.2.2.1) (h6 : In64 b.2.2.2.2.2.1) (h7 : In64 b.2.2.2.2.2.2.1) (h8 : In64 b.2.2.2.2.2.2.2.1) (w : World) :
    Calls Try.prog 13 #[.agg (bd9 b)] w fun r w' => r = .returned (.agg (bd9 (goodB b))) ∧ Below w.heap.size w w' := by
  obtain ⟨x, y, z, sx, sy, sz, wd, ht, st⟩ := b
  dsimp only at *
  unfold goodB
  simp only [bd9]
  have Ax := Lib.hid (fun W => calls_bel (around_c x 524289 h1.1 h1.2 (by decide) W))
  have Lx := arI_lo x (m := 524289) (by decide)
  have Ux := arI_hi x (m := 524289) (by decide)
  have Ay := Lib.hid (fun W => calls_bel (around_c y 524289 h2.1 h2.2 (by decide) W))
  have Ly := arI_lo y (m := 524289) (by decide)
  have Uy := arI_hi y (m := 524289) (by decide)
  have Az := Lib.hid (fun W => calls_bel (around_c z 524289 h3.1 h3.2 (by decide) W))
  have Lz := arI_lo z (m := 524289) (by decide)
  have Uz := arI_hi z (m := 524289) (by decide)
  have Asx := Lib.hid (fun W => calls_bel (around_c sx 524289 h4.1 h4.2 (by decide) W))
  have Lsx := arI_lo sx (m := 524289) (by decide)
  have Usx := arI_hi sx (m := 524289) (by decide)
  have Asy := Lib.hid (fun W => calls_bel (around_c sy 524289 h5.1 h5.2 (by decide) W))
  have Lsy := arI_lo sy (m := 524289) (by decide)
  have Usy := arI_hi sy (m := 524289) (by decide)
  have Asz := Lib.hid (fun W => calls_bel (around_c sz 524289 h6.1 h6.2 (by decide) W))
  have Lsz := arI_lo sz (m := 524289) (by decide)
  have Usz := arI_hi sz (m := 524289) (by decide)
  have Awd := Lib.hid (fun W => calls_bel (around_c wd 78642 h7.1 h7.2 (by decide) W))
  have Lwd := arI_lo wd (m := 78642) (by decide)
  have Uwd := arI_hi wd (m := 78642) (by decide)
  have Aht := Lib.hid (fun W => calls_bel (around_c ht 131072 h8.1 h8.2 (by decide) W))
  have Lht := arI_lo ht (m := 131072) (by decide)
  have Uht := arI_hi ht (m := 131072) (by decide)
  generalize arI x 524289 = cx at Ax Lx Ux ⊢
  generalize arI y 524289 = cy at Ay Ly Uy ⊢
  generalize arI z 524289 = cz at Az Lz Uz ⊢
  generalize arI sx 524289 = csx at Asx Lsx Usx ⊢
  generalize arI sy 524289 = csy at Asy Lsy Usy ⊢
  generalize arI sz 524289 = csz at Asz Lsz Usz ⊢
  generalize arI wd 78642 = cwd at Awd Lwd Uwd ⊢
  generalize arI ht 131072 = cht at Aht Lht Uht ⊢
  have ex : IntKind.i64.wrap (cx - 65536) = cx - 65536 := IntWalk.i64_in _ (by omega)
  clear Lx Ux
  have ey : IntKind.i64.wrap (cy - 65536) = cy - 65536 := IntWalk.i64_in _ (by omega)
  clear Ly Uy
  have ez : IntKind.i64.wrap (cz - 65536) = cz - 65536 := IntWalk.i64_in _ (by omega)
  clear Lz Uz
  have esx : IntKind.i64.wrap (csx - 262144) = csx - 262144 := IntWalk.i64_in _ (by omega)
  clear Lsx Usx
  have esy : IntKind.i64.wrap (csy - 262144) = csy - 262144 := IntWalk.i64_in _ (by omega)
  clear Lsy Usy
  have esz : IntKind.i64.wrap (csz - 262144) = csz - 262144 := IntWalk.i64_in _ (by omega)
  clear Lsz Usz
  have g1 : -9223372036854775808 ≤ 2 + cwd ∧ 2 + cwd ≤ 9223372036854775807 := by omega
  have g2 : -9223372036854775808 ≤ 1 + cht ∧ 1 + cht ≤ 9223372036854775807 := by omega
  obtain ⟨g3, g4⟩ := g1
  obtain ⟨g5, g6⟩ := g2
  clear h1 h2 h3 h4 h5 h6 h7 h8 Lwd Uwd Lht Uht
  obtain ⟨N, hN⟩ : ∃ N, N = w.heap.size := ⟨_, rfl⟩
  obtain ⟨W, hW⟩ : ∃ W, W = ((w.alloc (.cells #[.int .i64 x, .int .i64 y, .int .i64 z, .int .i64 sx, .int .i64 sy, .int .i64 sz, .int .i64 wd, .int .i64 ht, .bool st] 28)).alloc (.cells #[.int .i64 0, .int .i64 0, .int .i64 0, .int .i64 0, .int .i64 0, .int .i64 0, .int .i64 0, .int .i64 0, .bool false] 28)).alloc (.cells #[.int .i64 0, .int .i64 0, .int .i64 0, .int .i64 0, .int .i64 0, .int .i64 0, .int .i64 0, .int .i64 0, .bool false] 28) := ⟨_, rfl⟩
  have H : Below w.heap.size w W := by rw [hW]; go_grown
  have B : Blk W N 28 _ := Blk.eqw hW.symm (by rw [hN]; exact ((Blk.new' rfl).alloc _).alloc _)
  have R : Blk W (N + 1) 28 _ := Blk.eqw hW.symm (by rw [hN]; exact (Blk.new' (by simp)).alloc _)
  have O : Blk W (N + 1 + 1) 28 _ := Blk.eqw hW.symm (by rw [hN]; exact Blk.new' (by simp))
  go_enter Try.func13, Try.ntmps13
  go_upto_region 2 with (fail)
  rw [← hW, ← hN]
  have HN := Lib.hid hN
  clear hW hN
  have HB := Lib.hid B
  have HR := Lib.hid R
  have HO := Lib.hid O
  have HH := Lib.hid H
  clear B R O H
  have b0 := fun d os => (HB.out.re d os).cell 0
  have b1 := fun d os => (HB.out.re d os).cell 1
  have b2 := fun d os => (HB.out.re d os).cell 2
  simp at b0 b1 b2
  refine wp_region_last_below 17 (by kernel_rfl) rfl (by kernel_rfl) ?_
  simp only [List.take_succ_cons, List.take_zero, List.drop_succ_cons, List.drop_zero]
  repeat (go_big_quiet_step (first | (with_reducible exact Calls.regrown_of (Ax.out _)) | (with_reducible exact Calls.regrown_of (Ay.out _)) | (with_reducible exact Calls.regrown_of (Az.out _))))
  refine wpQuiet_nil ?_
  intro w' hw'
  obtain ⟨rg, rfl⟩ := hw'
  clear b0 b1 b2 Ax Ay Az
  obtain ⟨W1, hW1⟩ : ∃ W1, W1 = Go.Sort.grow (redrawn W rg.d) rg.os := ⟨_, rfl⟩
  have hb1 : Below W.heap.size W W1 := by rw [hW1]; exact below_regrown _ _ _
  rw [← hW1]
  clear hW1
  have HB1 := Lib.hid (HB.out.on hb1)
  have HR1 := Lib.hid (HR.out.on hb1)
  have HO1 := Lib.hid (HO.out.on hb1)
  have HH1 := Lib.hid (after HH.out hb1)
  clear hb1 HB HR HO HH
  obtain ⟨⟨o0, o1, o2, o3, o4, o5, o6, o7, o8⟩, f0, f1, f2, f3, f4, f5, f6, f7, f8⟩ := HO1.out.c9
  go_upto_region 3 with (fail)
  generalize hV : World.setCell (World.setCell (World.setCell W1 _ _) _ _) _ _ = W2
  have O2 : Blk W2 (N + 1 + 1) 28 #[.int .i64 (cx - 65536), .int .i64 (cy - 65536), .int .i64 (cz - 65536), .int .i64 0, .int .i64 0, .int .i64 0, .int .i64 0, .int .i64 0, .bool false] := Blk.eqw hV (((HO1.out.set_ 0 _).set_ 1 _).set_ 2 _)
  have B2 := Blk.eqw hV (((HB1.out.far (p := ⟨N + 1 + 1, 0, none⟩) (by dsimp only; omega) _).far (p := ⟨N + 1 + 1, 1, none⟩) (by dsimp only; omega) _).far (p := ⟨N + 1 + 1, 2, none⟩) (by dsimp only; omega) _)
  have R2 := Blk.eqw hV (((HR1.out.far (p := ⟨N + 1 + 1, 0, none⟩) (by dsimp only; omega) _).far (p := ⟨N + 1 + 1, 1, none⟩) (by dsimp only; omega) _).far (p := ⟨N + 1 + 1, 2, none⟩) (by dsimp only; omega) _)
  have H2 : Below w.heap.size w W2 := by rw [← hV]; exact ((HH1.out.setCell (p := ⟨N + 1 + 1, 0, none⟩) (by have := HN.out; dsimp only; omega) _).setCell (p := ⟨N + 1 + 1, 1, none⟩) (by have := HN.out; dsimp only; omega) _).setCell (p := ⟨N + 1 + 1, 2, none⟩) (by have := HN.out; dsimp only; omega) _
  clear hV o0 o1 o2 o3 o4 o5 o6 o7 o8 f0 f1 f2 f3 f4 f5 f6 f7 f8 HB1 HR1 HO1 HH1
  have HB := Lib.hid B2
  have HR := Lib.hid R2
  have HO := Lib.hid O2
  have HH := Lib.hid H2
  clear B2 R2 O2 H2
  have b0 := fun d os => (HB.out.re d os).cell 3
  have b1 := fun d os => (HB.out.re d os).cell 4
  have b2 := fun d os => (HB.out.re d os).cell 5
  simp at b0 b1 b2
  refine wp_region_last_below 17 (by kernel_rfl) rfl (by kernel_rfl) ?_
  simp only [List.take_succ_cons, List.take_zero, List.drop_succ_cons, List.drop_zero]
  repeat (go_big_quiet_step (first | (with_reducible exact Calls.regrown_of (Asx.out _)) | (with_reducible exact Calls.regrown_of (Asy.out _)) | (with_reducible exact Calls.regrown_of (Asz.out _))))
  refine wpQuiet_nil ?_
  intro w' hw'
  obtain ⟨rg, rfl⟩ := hw'
  clear b0 b1 b2 Asx Asy Asz
  obtain ⟨W3, hW3⟩ : ∃ W3, W3 = Go.Sort.grow (redrawn W2 rg.d) rg.os := ⟨_, rfl⟩
  have hb3 : Below W2.heap.size W2 W3 := by rw [hW3]; exact below_regrown _ _ _
  rw [← hW3]
  clear hW3
  have HB3 := Lib.hid (HB.out.on hb3)
  have HR3 := Lib.hid (HR.out.on hb3)
  have HO3 := Lib.hid (HO.out.on hb3)
  have HH3 := Lib.hid (after HH.out hb3)
  clear hb3 HB HR HO HH
  obtain ⟨⟨o0, o1, o2, o3, o4, o5, o6, o7, o8⟩, f0, f1, f2, f3, f4, f5, f6, f7, f8⟩ := HO3.out.c9
  go_upto_region 4 with (fail)
  generalize hV : World.setCell (World.setCell (World.setCell W3 _ _) _ _) _ _ = W4
  have O4 : Blk W4 (N + 1 + 1) 28 #[.int .i64 (cx - 65536), .int .i64 (cy - 65536), .int .i64 (cz - 65536), .int .i64 (csx - 262144), .int .i64 (csy - 262144), .int .i64 (csz - 262144), .int .i64 0, .int .i64 0, .bool false] := Blk.eqw hV (((HO3.out.set_ 3 _).set_ 4 _).set_ 5 _)
  have B4 := Blk.eqw hV (((HB3.out.far (p := ⟨N + 1 + 1, 3, none⟩) (by dsimp only; omega) _).far (p := ⟨N + 1 + 1, 4, none⟩) (by dsimp only; omega) _).far (p := ⟨N + 1 + 1, 5, none⟩) (by dsimp only; omega) _)
  have R4 := Blk.eqw hV (((HR3.out.far (p := ⟨N + 1 + 1, 3, none⟩) (by dsimp only; omega) _).far (p := ⟨N + 1 + 1, 4, none⟩) (by dsimp only; omega) _).far (p := ⟨N + 1 + 1, 5, none⟩) (by dsimp only; omega) _)
  have H4 : Below w.heap.size w W4 := by rw [← hV]; exact ((HH3.out.setCell (p := ⟨N + 1 + 1, 3, none⟩) (by have := HN.out; dsimp only; omega) _).setCell (p := ⟨N + 1 + 1, 4, none⟩) (by have := HN.out; dsimp only; omega) _).setCell (p := ⟨N + 1 + 1, 5, none⟩) (by have := HN.out; dsimp only; omega) _
  clear hV o0 o1 o2 o3 o4 o5 o6 o7 o8 f0 f1 f2 f3 f4 f5 f6 f7 f8 HB3 HR3 HO3 HH3
  obtain ⟨⟨b0, b1, b2, b3, b4, b5, b6, b7, b8⟩, -⟩ := B4.c9
  go_upto_region 5 with (go_at_call 17; refine (Awd.out _).mono ?_; rintro e_ w5 ⟨rfl, k5⟩; clear b0 b1 b2 b3 b4 b5 b6 b7 b8; replace B4 := B4.on k5; replace R4 := R4.on k5; replace O4 := O4.on k5; replace H4 := after H4 k5; clear k5; obtain ⟨⟨o0, o1, o2, o3, o4, o5, o6, o7, o8⟩, f0, f1, f2, f3, f4, f5, f6, f7, f8⟩ := O4.c9)
  generalize hV : World.setCell w5 _ _ = W5
  replace O4 : Blk W5 (N + 1 + 1) 28 #[.int .i64 (cx - 65536), .int .i64 (cy - 65536), .int .i64 (cz - 65536), .int .i64 (csx - 262144), .int .i64 (csy - 262144), .int .i64 (csz - 262144), .int .i64 (2 + cwd), .int .i64 0, .bool false] := Blk.eqw hV (O4.set_ 6 _)
  replace B4 := Blk.eqw hV (B4.far (p := ⟨N + 1 + 1, 6, none⟩) (by dsimp only; omega) _)
  replace R4 := Blk.eqw hV (R4.far (p := ⟨N + 1 + 1, 6, none⟩) (by dsimp only; omega) _)
  replace H4 : Below w.heap.size w W5 := by rw [← hV]; exact H4.setCell (p := ⟨N + 1 + 1, 6, none⟩) (by have := HN.out; dsimp only; omega) _
  clear hV o0 o1 o2 o3 o4 o5 o6 o7 o8 f0 f1 f2 f3 f4 f5 f6 f7 f8 Awd
  obtain ⟨⟨b0, b1, b2, b3, b4, b5, b6, b7, b8⟩, -⟩ := B4.c9
  go_upto_region 6 with (go_at_call 17; refine (Aht.out _).mono ?_; rintro e_ w6 ⟨rfl, k6⟩; clear b0 b1 b2 b3 b4 b5 b6 b7 b8; replace B4 := B4.on k6; replace R4 := R4.on k6; replace O4 := O4.on k6; replace H4 := after H4 k6; clear k6; obtain ⟨⟨o0, o1, o2, o3, o4, o5, o6, o7, o8⟩, f0, f1, f2, f3, f4, f5, f6, f7, f8⟩ := O4.c9)
  generalize hV : World.setCell w6 _ _ = W6
  replace O4 : Blk W6 (N + 1 + 1) 28 #[.int .i64 (cx - 65536), .int .i64 (cy - 65536), .int .i64 (cz - 65536), .int .i64 (csx - 262144), .int .i64 (csy - 262144), .int .i64 (csz - 262144), .int .i64 (2 + cwd), .int .i64 (1 + cht), .bool false] := Blk.eqw hV (O4.set_ 7 _)
  replace B4 := Blk.eqw hV (B4.far (p := ⟨N + 1 + 1, 7, none⟩) (by dsimp only; omega) _)
  replace R4 := Blk.eqw hV (R4.far (p := ⟨N + 1 + 1, 7, none⟩) (by dsimp only; omega) _)
  replace H4 : Below w.heap.size w W6 := by rw [← hV]; exact H4.setCell (p := ⟨N + 1 + 1, 7, none⟩) (by have := HN.out; dsimp only; omega) _
  clear hV o0 o1 o2 o3 o4 o5 o6 o7 o8 f0 f1 f2 f3 f4 f5 f6 f7 f8 Aht
  have b8 := B4.cell 8
  have f8 := O4.frz 8
  have o8 := O4.cell 8
  simp at b8 o8
  go_upto_region 7 with (fail)
  generalize hV : World.setCell W6 _ _ = W7
  replace O4 : Blk W7 (N + 1 + 1) 28 #[.int .i64 (cx - 65536), .int .i64 (cy - 65536), .int .i64 (cz - 65536), .int .i64 (csx - 262144), .int .i64 (csy - 262144), .int .i64 (csz - 262144), .int .i64 (2 + cwd), .int .i64 (1 + cht), .bool st] := Blk.eqw hV (O4.set_ 8 _)
  replace R4 := Blk.eqw hV (R4.far (p := ⟨N + 1 + 1, 8, none⟩) (by dsimp only; omega) _)
  replace H4 : Below w.heap.size w W7 := by rw [← hV]; exact H4.setCell (p := ⟨N + 1 + 1, 8, none⟩) (by have := HN.out; dsimp only; omega) _
  clear hV f8 o8 b8 B4
  obtain ⟨⟨o0, o1, o2, o3, o4, o5, o6, o7, o8⟩, -⟩ := O4.c9
  obtain ⟨⟨r0, r1, r2, r3, r4, r5, r6, r7, r8⟩, f0, f1, f2, f3, f4, f5, f6, f7, f8⟩ := R4.c9
  have hNw : w.heap.size ≤ N + 1 := by have := HN.out; omega
  go_wp2_with fail
  have R2_ := R4.st9 (.int .i64 (cx - 65536)) (.int .i64 (cy - 65536)) (.int .i64 (cz - 65536)) (.int .i64 (csx - 262144)) (.int .i64 (csy - 262144)) (.int .i64 (csz - 262144)) (.int .i64 (2 + cwd)) (.int .i64 (1 + cht)) (.bool (st))
  obtain ⟨⟨d0, d1, d2, d3, d4, d5, d6, d7, d8⟩, -⟩ := R2_.c9
  exact bodyPost_ret (v := .agg #[.int .i64 (cx - 65536), .int .i64 (cy - 65536), .int .i64 (cz - 65536), .int .i64 (csx - 262144), .int .i64 (csy - 262144), .int .i64 (csz - 262144), .int .i64 (2 + cwd), .int .i64 (1 + cht), .bool (st)]) (by simp [results, Try.results13, go_sem, d0, d1, d2, d3, d4, d5, d6, d7, d8]) rfl ⟨rfl, sx9_below H4 hNw _ _ _ _ _ _ _ _ _⟩
end Go.Proofs.Ytnokibdecnddlaa

/- Bodies in an empty world: they fall, and rest. Plain. No program in sight. -/
namespace Go.Proofs.Ytnokibdecnddlaa

/-- What an empty world tells. -/
def emp : Cl → Int := fun x => atG 0 (fun _ => 0) 0 x.1 x.2.1 x.2.2
theorem emp_is (c : Cl) : emp c = if c.2.1 < 0 then 1 else 0 := by
  unfold emp atG
  split
  · rfl
  · split
    · split
      · omega
      · rfl
    · rfl
theorem emp_up {c : Cl} (h : 0 ≤ c.2.1) : emp c = 0 := by rw [emp_is, if_neg (by omega)]
theorem inAx_up0 {lo hi k : Int} (h1 : -140737488355328 ≤ lo) (h2 : hi ≤ 140737488355328) (h : lo ≤ hi) (h0 : 0 ≤ lo) (hk : inAx lo hi k) : 0 ≤ k := by
  rcases (inAx_iff h1 h2 h).1 hk with ⟨a, b, c⟩ | ⟨a, b, c⟩ <;> omega
section
variable {M : Int} {x : B6}
/-- Nothing above the floor. -/
theorem any_emp (h : Sm6 M x) (hM : M ≤ 73000000000000) (h0 : 0 ≤ x.2.1) {p : Int → Bool} (hp : p 0 = false) : anyB emp p x = false := by
  unfold anyB
  rw [List.any_eq_false]
  intro c hc
  obtain ⟨-, hy, -⟩ := mem_cellsI.1 hc
  obtain ⟨a1, b1, c1, a2, b2, c2, d1, d2, d3, e1, e2, e3⟩ := h
  rw [emp_up (inAx_up0 (by omega) (by omega) d2 h0 hy), hp]
  simp
theorem un_emp (h : Sm6 M x) (hM : M ≤ 73000000000000) (h0 : 1 ≤ x.2.1) : unB emp x = false := by
  unfold unB
  rw [List.any_eq_false]
  intro c hc
  obtain ⟨-, hy, -⟩ := mem_cellsI.1 hc
  obtain ⟨a1, b1, c1, a2, b2, c2, d1, d2, d3, e1, e2, e3⟩ := h
  rw [cutI_id (by omega) (by omega)] at hy
  rw [emp_up (inAx_up0 (by omega) (by omega) (by omega) (by omega) hy)]
  decide
theorem inAx_some {lo hi : Int} (h1 : -100000000000000 ≤ lo) (h2 : hi ≤ 100000000000000) (h : lo < hi) : inAx lo hi (lo / 65536) := (inAx_iff (by omega) (by omega) (by omega)).2 (.inl ⟨h, by omega, by omega⟩)
/-- On the floor it stands. -/
theorem un_floor (h : Sm6 M x) (hM : M ≤ 73000000000000) (h0 : x.2.1 = 0) (hx : x.1 < x.2.2.2.1) (hz : x.2.2.1 < x.2.2.2.2.2) : unB emp x = true := by
  unfold unB
  rw [List.any_eq_true]
  obtain ⟨a1, b1, c1, a2, b2, c2, d1, d2, d3, e1, e2, e3⟩ := h
  refine ⟨(x.1 / 65536, -1, x.2.2.1 / 65536), mem_cellsI.2 ⟨inAx_some (by omega) (by omega) hx, ?_, inAx_some (by omega) (by omega) hz⟩, ?_⟩
  · rw [cutI_id (by omega) (by omega), h0]
    show inAx (0 - 1) 0 (-1)
    exact (inAx_iff (by omega) (by omega) (by omega)).2 (.inl ⟨by omega, by omega, by omega⟩)
  · rw [emp_is]
    show solB (if (-1 : Int) < 0 then 1 else 0) = true
    decide
theorem axV_free {blk : Int → Bool} {low top d : Int} (h1 : 0 < d → ∀ k, 0 ≤ k * 65536 - top → k * 65536 - top < d → blk k = false) (h2 : d < 0 → ∀ k, (k + 1) * 65536 - low ≤ 0 → d < (k + 1) * 65536 - low → blk k = false) : axV blk low top d = (d, false) := by
  rcases Int.lt_trichotomy d 0 with h | h | h
  · exact axV_dn_none h (h2 h)
  · subst h; exact axV_zero _ _ _
  · exact axV_up_none h (h1 h)
/-- Above the floor a box goes as far as it is told. -/
theorem al_emp (h : Sm6 M x) (hM0 : 0 ≤ M) (hM : M ≤ 73000000000000) {axis d : Int} (ha : axis = 0 ∨ axis = 1 ∨ axis = 2) (h1 : -4194304 ≤ d) (h2 : d ≤ 4194304) (h0 : 0 ≤ x.2.1) (h3 : axis = 1 → 0 ≤ x.2.1 + d) :
    al6 emp x axis d = (sh6 x (if axis = 0 then d else 0) (if axis = 1 then d else 0) (if axis = 2 then d else 0), false) := by
  have e : ax6 emp x axis d = (d, false) := by
    unfold ax6 axisV
    rw [if_neg (by omega), far_in h1 h2]
    obtain ⟨a1, b1, c1, a2, b2, c2, d1, d2, d3, e1, e2, e3⟩ := h
    have key : ∀ k, (axis = 1 → 0 ≤ k) → lyB emp x.1 x.2.1 x.2.2.1 x.2.2.2.1 x.2.2.2.2.1 x.2.2.2.2.2 axis k = false ∨ ¬ (-100000000000000 ≤ k * 65536 ∧ k * 65536 ≤ 100000000000000) := fun k hk => by
      by_cases hb : -100000000000000 ≤ k * 65536 ∧ k * 65536 ≤ 100000000000000
      · left
        rw [lyB_false]
        intro c _ hy _
        have : 0 ≤ c.2.1 := by
          rw [wi_c (by omega) (by omega), wi_c (by omega) (by omega)] at hy
          by_cases h1 : (1 : Int) = axis
          · rw [if_pos h1, if_pos h1] at hy
            exact inAx_up0 (by omega) (by omega) (by omega) (by have := hk h1.symm; omega) hy
          · rw [if_neg h1, if_neg h1] at hy
            exact inAx_up0 (by omega) (by omega) d2 h0 hy
        rw [emp_up this]
        decide
      · exact .inr hb
    have lo : -73000000000000 ≤ axI x.1 x.2.1 x.2.2.1 axis ∧ axI x.1 x.2.1 x.2.2.1 axis ≤ 73000000000000 := by
      rcases ha with rfl | rfl | rfl <;> simp [axI] <;> omega
    have hi : -73000000000000 ≤ axI x.2.2.2.1 x.2.2.2.2.1 x.2.2.2.2.2 axis ∧ axI x.2.2.2.1 x.2.2.2.2.1 x.2.2.2.2.2 axis ≤ 74000000000000 := by
      rcases ha with rfl | rfl | rfl <;> simp [axI] <;> omega
    refine axV_free (fun hd k k1 k2 => ?_) (fun hd k k1 k2 => ?_)
    · refine (key k fun e => ?_).resolve_right fun hn => hn ⟨by omega, by omega⟩
      subst e
      simp [axI] at k1 k2
      omega
    · refine (key k fun e => ?_).resolve_right fun hn => hn ⟨by omega, by omega⟩
      subst e
      have := h3 rfl
      simp [axI] at k1 k2
      omega
  unfold al6
  rw [e]
  dsimp only
  rw [mv_sh h (by omega) ha (by omega) (by omega)]
/-- Free flight. -/
theorem step_emp (h : Sm6 M x) (hM0 : 0 ≤ M) (hM : M ≤ 72000000000000) {dx dy dz up : Int} (hx : -4194304 ≤ dx ∧ dx ≤ 4194304) (hy : -4194304 ≤ dy ∧ dy ≤ 4194304) (hz : -4194304 ≤ dz ∧ dz ≤ 4194304) (h0 : 0 ≤ x.2.1) (h1 : 0 ≤ x.2.1 + dy) :
    stepV emp x dx dy dz up = (sh6 x dx dy dz, false, false, false) := by
  have e1 := al_emp h hM0 (by omega) (axis := 1) (by decide) hy.1 hy.2 h0 (fun _ => h1)
  have s1 : Sm6 (M + 4194304) (sh6 x 0 dy 0) := sh_sm h (by omega) hy (by omega)
  have t1 : st1 emp x dy = sh6 x 0 dy 0 := by unfold st1; rw [e1]; rfl
  have u1 : hy1 emp x dy = false := by unfold hy1; rw [e1]
  have e2 := al_emp s1 (by omega) (by omega) (axis := 0) (by decide) hx.1 hx.2 h1 (fun e => absurd e (by decide))
  have t2 : st2 emp x dx dy = sh6 x dx dy 0 := by
    unfold st2; rw [t1, e2]
    show sh6 (sh6 x 0 dy 0) dx 0 0 = _
    rw [sh6_sh, Int.zero_add, Int.add_zero, Int.add_zero]
  have u2 : hx2 emp x dx dy = false := by unfold hx2; rw [t1, e2]
  have s2 : Sm6 (M + 4194304) (sh6 x dx dy 0) := sh_sm h hx hy (by omega)
  have e3 := al_emp s2 (by omega) (by omega) (axis := 2) (by decide) hz.1 hz.2 h1 (fun e => absurd e (by decide))
  have t3 : st3 emp x dx dy dz = sh6 x dx dy dz := by
    unfold st3; rw [t2, e3]
    show sh6 (sh6 x dx dy 0) 0 0 dz = _
    rw [sh6_sh, Int.zero_add, Int.add_zero, Int.add_zero]
  have u3 : hz3 emp x dx dy dz = false := by unfold hz3; rw [t2, e3]
  unfold stepV
  rw [t3, u1, u2, u3]
  exact stepOf_no (.inl ⟨rfl, rfl⟩)
theorem back_in {a o n : Int} (g1 : -72000000000000 ≤ a) (g2 : a ≤ 72000000000000) (g3 : -73000000000000 ≤ o) (g4 : o ≤ 73000000000000) (g5 : -1000000 ≤ n) (g6 : n ≤ 1000000) : addI a (subI (o + n) o) = a + n := by
  have : subI (o + n) o = n := by unfold subI cutI; omega
  rw [this, addI_in (by omega) (by omega) (by omega) (by omega)]
/-- A body that flies freely. -/
theorem go_emp {b : BD} (h : BOk M b) (hM0 : 0 ≤ M) (hM : M ≤ 70368744177664) (h0 : 262144 ≤ b.2.1) :
    goB emp b = (b.1 + fwI b.1 b.2.2.2.1, b.2.1 + fwI b.2.1 b.2.2.2.2.1, b.2.2.1 + fwI b.2.2.1 b.2.2.2.2.2.1, b.2.2.2.1, b.2.2.2.2.1, b.2.2.2.2.2.1, b.2.2.2.2.2.2.1, b.2.2.2.2.2.2.2.1, unB emp (sh6 (boxB b) (fwI b.1 b.2.2.2.1) (fwI b.2.1 b.2.2.2.2.1) (fwI b.2.2.1 b.2.2.2.2.2.1))) := by
  obtain ⟨hS, hbx⟩ := h.box (by omega)
  obtain ⟨hx, hy, hz, sx, sy, sz, hw, hh⟩ := id h
  have f1 := fw_bd (n := b.1) (d := b.2.2.2.1) (K := 262144) (by omega) (by omega) (by omega) (by omega) (by omega)
  have f2 := fw_bd (n := b.2.1) (d := b.2.2.2.2.1) (K := 262144) (by omega) (by omega) (by omega) (by omega) (by omega)
  have f3 := fw_bd (n := b.2.2.1) (d := b.2.2.2.2.2.1) (K := 262144) (by omega) (by omega) (by omega) (by omega) (by omega)
  have hb : (boxB b).2.1 = b.2.1 := by rw [hbx]
  have e : goV emp b = (sh6 (boxB b) (fwI b.1 b.2.2.2.1) (fwI b.2.1 b.2.2.2.2.1) (fwI b.2.2.1 b.2.2.2.2.2.1), false, false, false) := by
    unfold goV
    exact step_emp hS (by omega) (by omega) (by omega) (by omega) (by omega) (by omega) (by omega)
  obtain ⟨a1, c1, d1, a2, c2, d2, -, -, -, -, -, -⟩ := hS
  unfold goB putB
  rw [e]
  generalize fwI b.1 b.2.2.2.1 = p at f1
  generalize fwI b.2.1 b.2.2.2.2.1 = q at f2
  generalize fwI b.2.2.1 b.2.2.2.2.2.1 = r at f3
  unfold sh6 zb
  dsimp only
  rw [back_in (by omega) (by omega) (by omega) (by omega) (by omega) (by omega), back_in (by omega) (by omega) (by omega) (by omega) (by omega) (by omega), back_in (by omega) (by omega) (by omega) (by omega) (by omega) (by omega)]
  simp
theorem walk_zero : walkI 0 = 0 := by decide
/-- A body on the floor, told nothing. -/
theorem rest_emp {x z wd ht : Int} {st : Bool} (h : BOk M (x, 0, z, 0, 0, 0, wd, ht, st)) (hM0 : 0 ≤ M) (hM : M ≤ 70000000000000) : stepB emp (x, 0, z, 0, 0, 0, wd, ht, st) 0 0 false = (x, 0, z, 0, 0, 0, wd, ht, true) := by
  have hw : walkB (x, 0, z, 0, 0, 0, wd, ht, st) 0 0 = (x, 0, z, 0, 0, 0, wd, ht, st) := by unfold walkB; rw [walk_zero]
  obtain ⟨hS, hbx⟩ := h.box (by omega)
  obtain ⟨hx, hy, hz, sx, sy, sz, hwd, hh⟩ := id h
  dsimp only at hx hy hz hwd hh hbx
  have hr : riseB emp (x, 0, z, 0, 0, 0, wd, ht, st) false = (x, 0, z, 0, -4096, 0, wd, ht, st) := by
    unfold riseB
    rw [any_emp hS (by omega) (by rw [hbx]; exact Int.le_refl _) (p := cliB) (by decide), any_emp hS (by omega) (by rw [hbx]; exact Int.le_refl _) (p := wetB) (by decide)]
    rfl
  have hbx2 : boxB (x, 0, z, 0, -4096, 0, wd, ht, st) = boxB (x, 0, z, 0, 0, 0, wd, ht, st) := by unfold boxB; rfl
  generalize hX : boxB (x, 0, z, 0, 0, 0, wd, ht, st) = X at hS hbx hbx2
  have hX1 : X.2.1 = 0 := by rw [hbx]
  have hX2 : X.1 < X.2.2.2.1 := by rw [hbx]; dsimp only; omega
  have hX3 : X.2.2.1 < X.2.2.2.2.2 := by rw [hbx]; dsimp only; omega
  have hX4 : X.2.1 < X.2.2.2.2.1 := by rw [hbx]; dsimp only; omega
  have hf : fwI x 0 = 0 ∧ fwI 0 (-4096) = -4096 ∧ fwI z 0 = 0 := ⟨fw_id (by omega) (by omega) (by omega) (by omega), by decide, fw_id (by omega) (by omega) (by omega) (by omega)⟩
  have z0 : ∀ axis : Int, (axis = 0 ∨ axis = 1 ∨ axis = 2) → mv6 X axis 0 = X := fun axis ha => by
    rw [mv_sh hS (by omega) ha (by decide) (by decide)]
    unfold sh6
    simp
  have e1 : ax6 emp X 1 (-4096) = (0, true) := by
    unfold ax6 axisV
    rw [if_neg (by decide), far_in (by decide) (by decide)]
    have hl : axI X.1 X.2.1 X.2.2.1 1 = 0 := by show X.2.1 = 0; exact hX1
    rw [hl, axV_dn_hit (k := -1) (by decide) (by decide) (by decide) ?_ (fun k' h1 h2 => by omega)]
    · rfl
    · cases hb : lyB emp X.1 X.2.1 X.2.2.1 X.2.2.2.1 X.2.2.2.2.1 X.2.2.2.2.2 1 (-1)
      · obtain ⟨a1, b1, c1, a2, b2, c2, d1, d2, d3, e1, e2, e3⟩ := hS
        rw [lyB_false] at hb
        have := hb (X.1 / 65536, -1, X.2.2.1 / 65536) (by rw [wi_c (by decide) (by decide), wi_c (by decide) (by decide), if_neg (by decide), if_neg (by decide)]; exact inAx_some (by omega) (by omega) hX2)
          (by rw [wi_c (by decide) (by decide), wi_c (by decide) (by decide), if_pos rfl, if_pos rfl]; exact inAx_cell (by decide) (by decide)) (by rw [wi_c (by decide) (by decide), wi_c (by decide) (by decide), if_neg (by decide), if_neg (by decide)]; exact inAx_some (by omega) (by omega) hX3)
        rw [emp_is] at this
        change solB (if (-1 : Int) < 0 then 1 else 0) = false at this
        exact absurd this (by decide)
      · rfl
  have e0 : ∀ axis : Int, (axis = 0 ∨ axis = 2) → ax6 emp X axis 0 = (0, false) := fun axis ha => by
    unfold ax6 axisV
    rw [if_neg (by omega), far_in (by decide) (by decide)]
    exact axV_zero _ _ _
  have t1 : st1 emp X (-4096) = X := by unfold st1 al6; rw [e1]; exact z0 1 (by decide)
  have u1 : hy1 emp X (-4096) = true := by unfold hy1 al6; rw [e1]
  have t2 : st2 emp X 0 (-4096) = X := by unfold st2 al6; rw [t1, e0 0 (by decide)]; exact z0 0 (by decide)
  have u2 : hx2 emp X 0 (-4096) = false := by unfold hx2 al6; rw [t1, e0 0 (by decide)]
  have t3 : st3 emp X 0 (-4096) 0 = X := by unfold st3 al6; rw [t2, e0 2 (by decide)]; exact z0 2 (by decide)
  have u3 : hz3 emp X 0 (-4096) 0 = false := by unfold hz3 al6; rw [t2, e0 2 (by decide)]
  have eg : goV emp (x, 0, z, 0, -4096, 0, wd, ht, st) = (X, false, true, false) := by
    unfold goV
    rw [hbx2]
    dsimp only
    rw [hf.1, hf.2.1, hf.2.2]
    unfold stepV
    rw [t3, u1, u2, u3]
    exact stepOf_no (.inl ⟨rfl, rfl⟩)
  unfold stepB
  rw [hw, hr]
  unfold goB putB
  rw [eg, hbx2, un_floor hS (by omega) hX1 hX2 hX3]
  have hs : ∀ n : Int, subI n n = 0 := fun n => by unfold subI cutI; omega
  dsimp only
  rw [hs, hs, hs, addI_in (by omega) (by omega) (by decide) (by decide), addI_in (by decide) (by decide) (by decide) (by decide), addI_in (by omega) (by omega) (by decide) (by decide)]
  simp [zb]
/-- A body that falls freely, whether it jumps or not. -/
theorem fall_emp {x y z sy wd ht : Int} {st : Bool} (h : BOk M (x, y, z, 0, sy, 0, wd, ht, st)) (hM0 : 0 ≤ M) (hM : M ≤ 60000000000000) (h0 : 600000 ≤ y) (_ : sy ≤ 0) (j : Bool) :
    stepB emp (x, y, z, 0, sy, 0, wd, ht, st) 0 0 j = (x, y + mxI (sy - 4096) (-262144), z, 0, mxI (sy - 4096) (-262144), 0, wd, ht, false) := by
  have hw : walkB (x, y, z, 0, sy, 0, wd, ht, st) 0 0 = (x, y, z, 0, sy, 0, wd, ht, st) := by unfold walkB; rw [walk_zero]
  obtain ⟨hS, hbx⟩ := h.box (by omega)
  have h1 : 1 ≤ (boxB (x, y, z, 0, sy, 0, wd, ht, st)).2.1 := by rw [hbx]; dsimp only; omega
  have hr : riseB emp (x, y, z, 0, sy, 0, wd, ht, st) j = (x, y, z, 0, mxI (sy - 4096) (-262144), 0, wd, ht, st) := by
    unfold riseB
    rw [any_emp hS (by omega) (by omega) (p := cliB) (by decide), any_emp hS (by omega) (by omega) (p := wetB) (by decide), un_emp hS (by omega) h1]
    cases j <;> rfl
  have hk := h.rise emp j
  rw [hr] at hk
  obtain ⟨hx, hy, hz, sx, hsy, sz, hwd, hh⟩ := id hk
  dsimp only at hx hy hz hsy hwd hh
  have hb2 := hk.box (by omega)
  obtain ⟨hS2, hbx2⟩ := hb2
  have hsh : Sm6 (M + 65536 + 262144) (sh6 (boxB (x, y, z, 0, mxI (sy - 4096) (-262144), 0, wd, ht, st)) 0 (mxI (sy - 4096) (-262144)) 0) := sh_sm hS2 (by omega) hsy (by omega)
  unfold stepB
  rw [hw, hr, go_emp hk hM0 (by omega) (by dsimp only; omega)]
  dsimp only
  rw [fw_id (n := x) (by omega) (by omega) (by decide) (by decide), fw_id (n := y) (by omega) (by omega) (by omega) (by omega), fw_id (n := z) (by omega) (by omega) (by decide) (by decide), un_emp hsh (by omega) (by rw [hbx2]; unfold sh6; dsimp only; omega), Int.add_zero, Int.add_zero]
/-- A step over nothing, anywhere: no farther than the edge. -/
theorem edge_emp {b : BD} (h : BOk 70368744177664 b) (h0 : 600000 ≤ b.2.1) (ix iz : Int) (j : Bool) : BOk 70368744177664 (stepB emp b ix iz j) ∧ b.2.1 - 262144 ≤ (stepB emp b ix iz j).2.1 := by
  have hk := (h.walk ix iz).rise emp j
  obtain ⟨hx, hy, hz, sx, hsy, sz, hwd, hh⟩ := id hk
  have e1 : (riseB emp (walkB b ix iz) j).2.1 = b.2.1 := rfl
  unfold stepB
  rw [go_emp hk (by decide) (by decide) (by omega)]
  have key : ∀ {n d : Int}, -70368744177664 ≤ n → n ≤ 70368744177664 → -262144 ≤ d → d ≤ 262144 → -70368744177664 ≤ n + fwI n d ∧ n + fwI n d ≤ 70368744177664 := fun {n d} g1 g2 g3 g4 => by
    unfold fwI clI mnI mxI subI
    rw [addI_in (by omega) (by omega) (by omega) (by omega)]
    unfold cutI
    omega
  have f2 := fw_bd (n := (riseB emp (walkB b ix iz) j).2.1) (d := (riseB emp (walkB b ix iz) j).2.2.2.2.1) (K := 262144) (by omega) (by omega) (by omega) (by omega) (by omega)
  refine ⟨⟨key (by omega) (by omega) (by omega) (by omega), key (by omega) (by omega) (by omega) (by omega), key (by omega) (by omega) (by omega) (by omega), sx, hsy, sz, hwd, hh⟩, ?_⟩
  dsimp only
  omega
end
end Go.Proofs.Ytnokibdecnddlaa

/- A small world, opened. -/
namespace Go.Proofs.Ytnokibdecnddlaa
open Go.ChangeShapes Go.WideShapes Go.ChangeAt Go.RowKit

section
variable {H : Type} {enc : TypeId × Value → H} {P : Program}
def gFields (P : Program) (f0 f1 : Field) (ts ti : TypeId) : Bool := f0.offset == 0 && f1.offset == 1 && (f0.type == ts && f1.type == ti) && (P.cellsOf ts == 1 && P.cellsOf ti == 1)
theorem open_ints {w : World} {base fuel : Nat} {spare : Nat → Bool} {held : Bool} {ts ti : TypeId} {v : Value} {x : DataW H × List MemPlace} (hts : P.underlying ts = some (.slice ti)) (hc : P.cellsOf ti = 1) (hi : P.underlying ti = some (.int .i64))
    (h : DataW.trod enc P w base spare held fuel ts [v] = some x) : ∃ q n c F, v = .slice q n c ∧ n ≤ c ∧ c ≤ maxLen ∧ Iq w q n F ∧ ∀ i, i < n → In64 (F i) := by
  rcases Go.Deep.open_slice1 hts hc h with ⟨hcs, _⟩ | ⟨a, len, cap, m, k, V, D, Pl, hcs, _, hl, hm, hmm, _, hel⟩
  · simp at hcs
    subst hcs
    exact ⟨none, 0, 0, fun _ => 0, rfl, Nat.le_refl _, by decide, fun h => by omega, fun i h => by omega⟩
  · simp at hcs
    subst hcs
    have hlm : len ≤ m := by rw [hmm]; split <;> omega
    obtain ⟨g, o, sp⟩ := a
    have hrd : ∀ i, i < len → ∃ x, w.cell? ((Addr.mk g o sp).add i) = some (.int .i64 x) ∧ In64 x := by
      intro i hi'
      obtain ⟨h1, h2⟩ := hel i (by omega)
      obtain ⟨x, hx, _, wx⟩ := DataW.trod_int hi h2
      simp at hx
      exact ⟨x, by rw [h1, hx], in64_of_wf wx⟩
    refine ⟨some ⟨g, o, sp⟩, len, cap, fun i => intAt w ⟨g, o + i, none⟩, rfl, hl, hm, fun hn => ?_, fun i hi' => ?_⟩
    all_goals
      have hsp : sp = none := by
        obtain ⟨x, hx, _⟩ := hrd 0 (by omega)
        exact cell_spot hx
      subst hsp
      have had : ∀ k, (Addr.mk g o none).add k = ⟨g, o + k, none⟩ := fun k => by
        unfold Addr.add
        by_cases hk : k = 0 <;> simp [hk]
    · refine ⟨g, o, rfl, fun i hi' => ?_⟩
      obtain ⟨x, hx, _⟩ := hrd i hi'
      rw [had] at hx
      show _ = some (Value.int .i64 (intAt w ⟨g, o + i, none⟩))
      rw [hx, intAt_eq hx]
    · obtain ⟨x, hx, hw⟩ := hrd i hi'
      rw [had] at hx
      show In64 (intAt w ⟨g, o + i, none⟩)
      rw [intAt_eq hx]; exact hw
theorem open_world {w : World} {r : Reach} {b0 base : Nat} {spare : Nat → Bool} {held : Bool} {t ts ti : TypeId} {f0 f1 : Field} {v : Value} {d : DataW H} {p : List MemPlace} (hb : P.underlying t = some (.struct #[f0, f1]))
    (hts : P.underlying ts = some (.slice ti)) (hg : gFields P f0 f1 ts ti = true) (hC : P.cellsOf t = 2) (hi : P.underlying ti = some (.int .i64)) (hv : Value.okWide P w r b0 t v) (h : DataW.Trod enc P w base spare held t v d p) :
    ∃ q n c F els, v = .agg #[.slice q n c, .int .i64 els] ∧ n ≤ c ∧ c ≤ maxLen ∧ Iq w q n F ∧ (∀ i, i < n → In64 (F i)) ∧ In64 els := by
  obtain ⟨cs, rfl, hsz⟩ := okWide_struct hb hv
  obtain ⟨fuel, h⟩ := h
  obtain ⟨l⟩ := cs
  have hl : l.length = 2 := hsz.trans hC
  have h2 : DataW.trod enc P w base spare held fuel t l = some (d, p) := by simpa [Value.cells] using h
  simp only [gFields, Bool.and_eq_true, beq_iff_eq] at hg
  obtain ⟨⟨⟨o0, o1⟩, t0, t1⟩, c0, c1⟩ := hg
  obtain ⟨xs, n, _, _, _, hxl, hgg⟩ := DataW.trod_struct hb h2
  match l, hl with
  | [v0, v1], _ =>
    match xs, hxl with
    | [y0, y1], _ =>
      have k0 := hgg 0 f0 rfl
      have k1 := hgg 1 f1 rfl
      rw [o0, t0, c0] at k0
      rw [o1, t1, c1] at k1
      obtain ⟨q, n, c, F, e0, a1, a2, a3, a4⟩ := open_ints (x := y0) hts c1 hi (v := v0) k0
      obtain ⟨els, e1, _, wx⟩ := DataW.trod_int (x := y1) hi k1
      simp at e1
      subst e0 e1
      exact ⟨q, n, c, F, els, rfl, a1, a2, a3, a4, in64_of_wf wx⟩
end
end Go.Proofs.Ytnokibdecnddlaa

/- Bodies and inputs among the arguments, and in rows: how they are opened. -/
namespace Go.Proofs.Ytnokibdecnddlaa
open Go.ChangeShapes Go.WideShapes Go.ChangeAt Go.RowKit

/-- What a row reads, each element of so many cells. -/
def Rws {α : Type} (K : Nat) (enc : α → List Value) (w : World) (q : Option Addr) (n : Nat) (F : Nat → α) : Prop := 0 < n → ∃ g o, q = some ⟨g, o, none⟩ ∧ ∀ i, i < n → ∀ j u, (enc (F i))[j]? = some u → w.cell? ⟨g, o + i * K + j, none⟩ = some u
theorem Rws.on {α : Type} {K : Nat} {enc : α → List Value} {w w' : World} {q : Option Addr} {n : Nat} {F : Nat → α} (h : Rws K enc w q n F) (hb : Below w.heap.size w w') : Rws K enc w' q n F := fun hn => by
  obtain ⟨g, o, e, h1⟩ := h hn
  exact ⟨g, o, e, fun i hi j u hu => by rw [cell_below hb (cell_lt (h1 i hi j u hu))]; exact h1 i hi j u hu⟩
section
variable {H : Type} {enc : TypeId × Value → H} {P : Program}
theorem open_rws {α : Type} [Inhabited α] {K : Nat} (en : α → List Value) (ok : α → Prop) {w : World} {r : Reach} {b0 base : Nat} {spare : Nat → Bool} {held : Bool} {ts t : TypeId} {v : Value} {d : DataW H} {p : List MemPlace} (hts : P.underlying ts = some (.slice t)) (hC : P.cellsOf t = K)
    (hlen : ∀ a, (en a).length = K) (hK : ∃ k, K = k + 1 ∧ ∀ w (a : Addr) x, World.cell? w a = (en x)[0]? → a.spot = none)
    (hrd : ∀ fuel cs x, cs.length = K → DataW.trod enc P w base spare held fuel t cs = some x → ∃ a, cs = en a ∧ ok a)
    (hv : Value.okWide P w r b0 ts v) (h : DataW.Trod enc P w base spare held ts v d p) :
    ∃ q n cap F, v = .slice q n cap ∧ n ≤ cap ∧ cap ≤ maxLen ∧ Rws K en w q n F ∧ ∀ i, i < n → ok (F i) := by
  obtain ⟨a1, len1, cap1, rfl⟩ := okWide_slice hts hv
  obtain ⟨fuel, h⟩ := h
  rcases Go.Deep.open_slice hts h with ⟨hcs, _⟩ | ⟨a, len, cap, m, k, D, Pl, hcs, _, hl, hm, hmm, _, hel⟩
  · simp [Value.cells] at hcs
    obtain ⟨rfl, rfl, rfl⟩ := hcs
    exact ⟨_, _, _, fun _ => default, rfl, Nat.le_refl _, by decide, fun h => by omega, fun i hi => by omega⟩
  · simp [Value.cells] at hcs
    obtain ⟨rfl, rfl, rfl⟩ := hcs
    by_cases hn : len1 = 0
    · subst hn; exact ⟨_, _, _, fun _ => default, rfl, hl, hm, fun h => by omega, fun i hi => by omega⟩
    have hlm : len1 ≤ m := by rw [hmm]; split <;> omega
    obtain ⟨g, o, sp⟩ := a
    rw [hC] at hel
    have hex : ∀ i, i < len1 → ∃ x, ok x ∧ ∀ j u, (en x)[j]? = some u → w.cell? ((Addr.mk g o sp).add (i * K + j)) = some u := by
      intro i hi'
      obtain ⟨cs', hc, ht'⟩ := hel i (by omega)
      obtain ⟨_, hcl, hat⟩ := World.cells?_some hc
      obtain ⟨x, e, hx⟩ := hrd _ _ _ hcl ht'
      refine ⟨x, hx, fun j u hu => ?_⟩
      have hj : j < K := by
        have := (List.getElem?_eq_some_iff.1 hu).1
        rw [hlen] at this; exact this
      have h1 := hat j hj
      rw [Go.Deep.add_add] at h1
      rw [h1, e]
      exact hu
    obtain ⟨F, hF⟩ : ∃ F : Nat → α, ∀ i, i < len1 → ok (F i) ∧ ∀ j u, (en (F i))[j]? = some u → w.cell? ((Addr.mk g o sp).add (i * K + j)) = some u := by
      refine ⟨fun i => if h : i < len1 then Classical.choose (hex i h) else default, fun i hi => ?_⟩
      have e : (if h : i < len1 then Classical.choose (hex i h) else default) = Classical.choose (hex i hi) := dif_pos hi
      dsimp only
      rw [e]
      exact Classical.choose_spec (hex i hi)
    have hsp : sp = none := by
      obtain ⟨k', hk', hs⟩ := hK
      obtain ⟨u, hu⟩ : ∃ u, (en (F 0))[0]? = some u := ⟨_, List.getElem?_eq_getElem (by rw [hlen]; omega)⟩
      have := (hF 0 (by omega)).2 0 u hu
      have h3 := hs w _ (F 0) (this.trans hu.symm)
      simpa [Addr.add] using h3
    subst hsp
    have had : ∀ k, (Addr.mk g o none).add k = ⟨g, o + k, none⟩ := fun k => by
      unfold Addr.add
      by_cases hk : k = 0 <;> simp [hk]
    refine ⟨_, len1, cap1, F, rfl, hl, hm, fun _ => ⟨g, o, rfl, fun i hi j u hu => ?_⟩, fun i hi => (hF i hi).1⟩
    have := (hF i hi).2 j u hu
    rwa [had, ← Nat.add_assoc] at this
/-! a body -/
def bdFields (P : Program) (f0 f1 f2 f3 f4 : Field) (tv ti tb : TypeId) : Bool :=
  ((f0.offset == 0 && f1.offset == 3) && (f2.offset == 6 && (f3.offset == 7 && f4.offset == 8))) && (((f0.type == tv && f1.type == tv) && (f2.type == ti && (f3.type == ti && f4.type == tb))) && (P.cellsOf tv == 3 && (P.cellsOf ti == 1 && P.cellsOf tb == 1)))
/-- Its numbers are such. -/
def Bd64 (b : BD) : Prop := In64 b.1 ∧ In64 b.2.1 ∧ In64 b.2.2.1 ∧ In64 b.2.2.2.1 ∧ In64 b.2.2.2.2.1 ∧ In64 b.2.2.2.2.2.1 ∧ In64 b.2.2.2.2.2.2.1 ∧ In64 b.2.2.2.2.2.2.2.1
theorem trod_bd {w : World} {base fuel : Nat} {spare : Nat → Bool} {held : Bool} {t tv ti tb : TypeId} {g0 g1 g2 g3 g4 f0 f1 f2 : Field} {cs : List Value} {x : DataW H × List MemPlace} (hb : P.underlying t = some (.struct #[g0, g1, g2, g3, g4]))
    (hs : P.underlying tv = some (.struct #[f0, f1, f2])) (hg : bdFields P g0 g1 g2 g3 g4 tv ti tb = true) (hf : vecFields P f0 f1 f2 ti = true) (hi : P.underlying ti = some (.int .i64)) (htb : P.underlying tb = some .bool) (hl : cs.length = 9) (h : DataW.trod enc P w base spare held fuel t cs = some x) :
    ∃ b : BD, cs = (bd9 b).toList ∧ Bd64 b := by
  simp only [bdFields, Bool.and_eq_true, beq_iff_eq] at hg
  obtain ⟨⟨⟨o0, o1⟩, o2, o3, o4⟩, ⟨⟨t0, t1⟩, t2, t3, t4⟩, c1, c2, c3⟩ := hg
  obtain ⟨xs, n, _, _, _, hxl, hgg⟩ := DataW.trod_struct hb h
  match cs, hl with
  | [v0, v1, v2, v3, v4, v5, v6, v7, v8], _ =>
    match xs, hxl with
    | [y0, y1, y2, y3, y4], _ =>
      have k0 := hgg 0 g0 rfl
      have k1 := hgg 1 g1 rfl
      have k2 := hgg 2 g2 rfl
      have k3 := hgg 3 g3 rfl
      have k4 := hgg 4 g4 rfl
      rw [o0, t0, c1] at k0
      rw [o1, t1, c1] at k1
      rw [o2, t2, c2] at k2
      rw [o3, t3, c2] at k3
      rw [o4, t4, c3] at k4
      obtain ⟨a, b, c, e0, wa, wb, wc⟩ := trod_vec (x := y0) hs hf hi rfl k0
      obtain ⟨d, e, f, e1, wd, we, wf⟩ := trod_vec (x := y1) hs hf hi rfl k1
      obtain ⟨m, e2, _, wm⟩ := DataW.trod_int (x := y2) hi k2
      obtain ⟨l, e3, _, wl⟩ := DataW.trod_int (x := y3) hi k3
      obtain ⟨s, e4, _⟩ := DataW.trod_bool (x := y4) htb k4
      simp at e0 e1 e2 e3 e4
      obtain ⟨rfl, rfl, rfl⟩ := e0
      obtain ⟨rfl, rfl, rfl⟩ := e1
      subst e2 e3 e4
      exact ⟨(a, b, c, d, e, f, m, l, s), rfl, wa, wb, wc, wd, we, wf, in64_of_wf wm, in64_of_wf wl⟩
theorem open_bd {w : World} {r : Reach} {b0 base : Nat} {spare : Nat → Bool} {held : Bool} {t tv ti tb : TypeId} {g0 g1 g2 g3 g4 f0 f1 f2 : Field} {v : Value} {d : DataW H} {p : List MemPlace} (hb : P.underlying t = some (.struct #[g0, g1, g2, g3, g4]))
    (hs : P.underlying tv = some (.struct #[f0, f1, f2])) (hg : bdFields P g0 g1 g2 g3 g4 tv ti tb = true) (hf : vecFields P f0 f1 f2 ti = true) (hC : P.cellsOf t = 9) (hi : P.underlying ti = some (.int .i64)) (htb : P.underlying tb = some .bool) (hv : Value.okWide P w r b0 t v) (h : DataW.Trod enc P w base spare held t v d p) :
    ∃ b : BD, v = .agg (bd9 b) ∧ Bd64 b := by
  obtain ⟨cs, rfl, hsz⟩ := okWide_struct hb hv
  obtain ⟨fuel, h⟩ := h
  obtain ⟨l⟩ := cs
  have hl : l.length = 9 := hsz.trans hC
  obtain ⟨b, hcs, wa⟩ := trod_bd hb hs hg hf hi htb hl (by simpa [Value.cells] using h)
  subst hcs
  exact ⟨b, rfl, wa⟩
/-! an input -/
abbrev InD := Int × Int × Bool
def enIn (a : InD) : List Value := [.int .i64 a.1, .int .i64 a.2.1, .bool a.2.2]
def enBd (b : BD) : List Value := (bd9 b).toList
def inFields (P : Program) (f0 f1 f2 : Field) (ti tb : TypeId) : Bool :=
  (f0.offset == 0 && (f1.offset == 1 && f2.offset == 2)) && ((f0.type == ti && (f1.type == ti && f2.type == tb)) && (P.cellsOf ti == 1 && P.cellsOf tb == 1))
theorem trod_in {w : World} {base fuel : Nat} {spare : Nat → Bool} {held : Bool} {t ti tb : TypeId} {f0 f1 f2 : Field} {cs : List Value} {x : DataW H × List MemPlace} (hs : P.underlying t = some (.struct #[f0, f1, f2]))
    (hf : inFields P f0 f1 f2 ti tb = true) (hi : P.underlying ti = some (.int .i64)) (htb : P.underlying tb = some .bool) (hl : cs.length = 3) (h : DataW.trod enc P w base spare held fuel t cs = some x) :
    ∃ a : InD, cs = enIn a ∧ In64 a.1 ∧ In64 a.2.1 := by
  simp only [inFields, Bool.and_eq_true, beq_iff_eq] at hf
  obtain ⟨⟨o0, o1, o2⟩, ⟨t0, t1, t2⟩, c1, c2⟩ := hf
  obtain ⟨xs, n, _, _, _, hxl, hg⟩ := DataW.trod_struct hs h
  match cs, hl with
  | [v0, v1, v2], _ =>
    match xs, hxl with
    | [y0, y1, y2], _ =>
      have g0 := hg 0 f0 rfl
      have g1 := hg 1 f1 rfl
      have g2 := hg 2 f2 rfl
      rw [o0, t0, c1] at g0
      rw [o1, t1, c1] at g1
      rw [o2, t2, c2] at g2
      obtain ⟨a, ha, _, wa⟩ := DataW.trod_int (x := y0) hi g0
      obtain ⟨b, hb, _, wb⟩ := DataW.trod_int (x := y1) hi g1
      obtain ⟨c, hc', _⟩ := DataW.trod_bool (x := y2) htb g2
      simp at ha hb hc'
      subst ha hb hc'
      exact ⟨(a, b, c), rfl, in64_of_wf wa, in64_of_wf wb⟩
theorem spot_int {w : World} {a : Addr} {k : IntKind} {n : Int} (h : World.cell? w a = some (.int k n)) : a.spot = none := cell_spot h
theorem open_ins {w : World} {r : Reach} {b0 base : Nat} {spare : Nat → Bool} {held : Bool} {ts t ti tb : TypeId} {f0 f1 f2 : Field} {v : Value} {d : DataW H} {p : List MemPlace} (hts : P.underlying ts = some (.slice t)) (hs : P.underlying t = some (.struct #[f0, f1, f2]))
    (hf : inFields P f0 f1 f2 ti tb = true) (hC : P.cellsOf t = 3) (hi : P.underlying ti = some (.int .i64)) (htb : P.underlying tb = some .bool) (hv : Value.okWide P w r b0 ts v) (h : DataW.Trod enc P w base spare held ts v d p) :
    ∃ q n cap F, v = .slice q n cap ∧ n ≤ cap ∧ cap ≤ maxLen ∧ Rws 3 enIn w q n F ∧ ∀ i, i < n → In64 (F i).1 ∧ In64 (F i).2.1 :=
  open_rws enIn (fun a => In64 a.1 ∧ In64 a.2.1) hts hC (fun _ => rfl) ⟨2, rfl, fun _ _ _ h => spot_int h⟩ (fun _ _ _ hl ht => trod_in hs hf hi htb hl ht) hv h
theorem open_bds {w : World} {r : Reach} {b0 base : Nat} {spare : Nat → Bool} {held : Bool} {ts t tv ti tb : TypeId} {g0 g1 g2 g3 g4 f0 f1 f2 : Field} {v : Value} {d : DataW H} {p : List MemPlace} (hts : P.underlying ts = some (.slice t)) (hb : P.underlying t = some (.struct #[g0, g1, g2, g3, g4]))
    (hs : P.underlying tv = some (.struct #[f0, f1, f2])) (hg : bdFields P g0 g1 g2 g3 g4 tv ti tb = true) (hf : vecFields P f0 f1 f2 ti = true) (hC : P.cellsOf t = 9) (hi : P.underlying ti = some (.int .i64)) (htb : P.underlying tb = some .bool) (hv : Value.okWide P w r b0 ts v) (h : DataW.Trod enc P w base spare held ts v d p) :
    ∃ q n cap F, v = .slice q n cap ∧ n ≤ cap ∧ cap ≤ maxLen ∧ Rws 9 enBd w q n F ∧ ∀ i, i < n → Bd64 (F i) :=
  open_rws enBd Bd64 hts hC (fun _ => rfl) ⟨8, rfl, fun _ _ _ h => spot_int h⟩ (fun _ _ _ hl ht => trod_bd hb hs hg hf hi htb hl ht) hv h
end
end Go.Proofs.Ytnokibdecnddlaa

/- Bodies: where one looks from; a way that is cut, by the document; a body made of any. -/
namespace Go.Proofs.Ytnokibdecnddlaa
open Go.RowKit
attribute [local go_sem] Oper.semAt_some

set_option maxRecDepth 100000 in
set_option maxHeartbeats 4000000 in
theorem eye_c (x y z sx sy sz wd ht : Int) (st : Bool) (hh : 1 ≤ ht ∧ ht ≤ 262144) (w : World) : Calls Try.prog 24 #[.agg (bd9 (x, y, z, sx, sy, sz, wd, ht, st))] w fun r w' => r = .returned (.agg #[.int .i64 (addI x 0), .int .i64 (addI y (ht * 4 / 5)), .int .i64 (addI z 0)]) ∧ Below w.heap.size w w' := by
  have q : -9223372036854775808 ≤ ht * 4 ∧ ht * 4 ≤ 9223372036854775807 ∧ -9223372036854775808 ≤ ht * 4 / 5 ∧ ht * 4 / 5 ≤ 9223372036854775807 ∧ 0 ≤ ht * 4 := by omega
  obtain ⟨q1, q2, q3, q4, q5⟩ := q
  have e : (ht * 4).tdiv 5 = ht * 4 / 5 := Int.tdiv_eq_ediv_of_nonneg q5
  have HA := Lib.hid (fun W => add_c x y z 0 (ht * 4 / 5) 0 W)
  simp only [bd9]
  obtain ⟨W, hW⟩ : ∃ W, W = (w.alloc (.cells #[.int .i64 x, .int .i64 y, .int .i64 z, .int .i64 sx, .int .i64 sy, .int .i64 sz, .int .i64 wd, .int .i64 ht, .bool st] 35)).alloc (.cells #[.int .i64 0, .int .i64 0, .int .i64 0] 26) := ⟨_, rfl⟩
  have H : Below w.heap.size w W := by rw [hW]; go_grown
  have R0 : Blk W (w.heap.size + 1) 26 _ := Blk.eqw hW.symm (Blk.new' (by simp))
  have B0 : Blk W w.heap.size 35 _ := Blk.eqw hW.symm ((Blk.new' rfl).alloc _)
  clear hh
  go_enter Try.func24, Try.ntmps24
  go_upto_region 1 with (fail)
  rw [← hW]
  clear hW
  obtain ⟨⟨b0, b1, b2, b3, b4, b5, b6, b7, b8⟩, -⟩ := B0.c9
  go_wp2_with (go_at_call 57; refine (HA.out _).mono ?_; rintro e_ w1 ⟨rfl, h1⟩; have R := R0.on h1; obtain ⟨r0, r1, r2, s0, s1, s2⟩ := R.c3)
  have R2 := R.st3 (.int .i64 (addI x 0)) (.int .i64 (addI y (ht * 4 / 5))) (.int .i64 (addI z 0))
  obtain ⟨d0, d1, d2, -, -, -⟩ := R2.c3
  exact bodyPost_ret (v := .agg #[.int .i64 (addI x 0), .int .i64 (addI y (ht * 4 / 5)), .int .i64 (addI z 0)]) (by simp [results, Try.results24, go_sem, d0, d1, d2]) rfl ⟨rfl, by (repeat' (first | (with_reducible exact Below.refl _ _) | (with_reducible assumption) | (with_reducible refine Below.alloc ?_ ?_ _) | (with_reducible refine Below.drew ?_) | (with_reducible refine Below.setCell ?_ ?_ _) | (with_reducible refine after ?_ (below_regrown _ _ _)) | (refine after ?_ (by with_reducible assumption)) | go_size))⟩
set_option maxRecDepth 100000 in
set_option maxHeartbeats 4000000 in
theorem reye_c (x y z sx sy sz wd ht : Int) (st : Bool) (hh : 1 ≤ ht ∧ ht ≤ 262144) (w : World) : Calls Try.prog 25 #[.agg (bd9 (x, y, z, sx, sy, sz, wd, ht, st))] w fun r w' => r = .returned (.agg #[.int .i64 (addI x 0), .int .i64 (addI y (ht * 4 / 5)), .int .i64 (addI z 0)]) ∧ Below w.heap.size w w' := by
  have e : IntKind.i64.wrap (ht * 4) = ht * 4 := IntWalk.i64_in _ (by omega)
  have HA := Lib.hid (fun W => raddv_c x y z 0 (ht * 4 / 5) 0 W)
  have HD := Lib.hid (fun W => calls_bel (rdiv_c (ht * 4) 5 (by omega) (by omega) (by decide) W))
  simp only [bd9]
  obtain ⟨W, hW⟩ : ∃ W, W = (w.alloc (.cells #[.int .i64 x, .int .i64 y, .int .i64 z, .int .i64 sx, .int .i64 sy, .int .i64 sz, .int .i64 wd, .int .i64 ht, .bool st] 28)).alloc (.cells #[.int .i64 0, .int .i64 0, .int .i64 0] 26) := ⟨_, rfl⟩
  have H : Below w.heap.size w W := by rw [hW]; go_grown
  have R0 : Blk W (w.heap.size + 1) 26 _ := Blk.eqw hW.symm (Blk.new' (by simp))
  have B0 : Blk W w.heap.size 28 _ := Blk.eqw hW.symm ((Blk.new' rfl).alloc _)
  clear hh
  have b0 := fun d os => (B0.re d os).cell 0
  have b1 := fun d os => (B0.re d os).cell 1
  have b2 := fun d os => (B0.re d os).cell 2
  have b7 := fun d os => (B0.re d os).cell 7
  simp at b0 b1 b2 b7
  go_enter Try.func25, Try.ntmps25
  go_upto_region 1 with (fail)
  rw [← hW]
  clear hW
  refine wp_region_last_below 8 (by kernel_rfl) rfl (by kernel_rfl) ?_
  simp only [List.take_succ_cons, List.take_zero, List.drop_succ_cons, List.drop_zero]
  repeat (go_big_quiet_step (first | (with_reducible exact Calls.regrown_of (HD.out _)) | (with_reducible exact Calls.regrown_of (HA.out _))))
  refine wpQuiet_nil ?_
  intro w' hw'
  obtain ⟨rg, rfl⟩ := hw'
  have R := R0.re rg.d rg.os
  obtain ⟨r0, r1, r2, s0, s1, s2⟩ := R.c3
  go_wp2_with fail
  have R2 := R.st3 (.int .i64 (addI x 0)) (.int .i64 (addI y (ht * 4 / 5))) (.int .i64 (addI z 0))
  obtain ⟨d0, d1, d2, -, -, -⟩ := R2.c3
  exact bodyPost_ret (v := .agg #[.int .i64 (addI x 0), .int .i64 (addI y (ht * 4 / 5)), .int .i64 (addI z 0)]) (by simp [results, Try.results25, go_sem, d0, d1, d2]) rfl ⟨rfl, by (repeat' (first | (with_reducible exact Below.refl _ _) | (with_reducible assumption) | (with_reducible refine Below.alloc ?_ ?_ _) | (with_reducible refine Below.drew ?_) | (with_reducible refine Below.setCell ?_ ?_ _) | (with_reducible refine after ?_ (below_regrown _ _ _)) | (refine after ?_ (by with_reducible assumption)) | go_size))⟩
theorem fw_ref {x d : Int} (h1 : -140737488355328 ≤ x ∧ x ≤ 140737488355328) (h2 : -140737488355328 ≤ d ∧ d ≤ 140737488355328) : cutI (mnI (mxI (x + d) (-70368744177664)) 70368744177664 - x) = fwI x d := by
  unfold fwI clI subI addI mnI mxI
  rw [cutI_id h1.1 h1.2, cutI_id h2.1 h2.2]
  unfold cutI
  omega
set_option maxRecDepth 100000 in
set_option maxHeartbeats 8000000 in
theorem rfar_c (b : BD) (dx dy dz : Int) (h1 : -140737488355328 ≤ b.1 ∧ b.1 ≤ 140737488355328) (h2 : -140737488355328 ≤ b.2.1 ∧ b.2.1 ≤ 140737488355328) (h3 : -140737488355328 ≤ b.2.2.1 ∧ b.2.2.1 ≤ 140737488355328)
    (k1 : -140737488355328 ≤ dx ∧ dx ≤ 140737488355328) (k2 : -140737488355328 ≤ dy ∧ dy ≤ 140737488355328) (k3 : -140737488355328 ≤ dz ∧ dz ≤ 140737488355328) (w : World) :
    Calls Try.prog 49 #[.agg (bd9 b), .agg #[.int .i64 dx, .int .i64 dy, .int .i64 dz]] w fun r w' => r = .returned (.agg #[.int .i64 (fwI b.1 dx), .int .i64 (fwI b.2.1 dy), .int .i64 (fwI b.2.2.1 dz)]) ∧ Below w.heap.size w w' := by
  obtain ⟨x, y, z, sx, sy, sz, wd, ht, st⟩ := b
  dsimp only at *
  simp only [bd9]
  have hmn := @run_mn Try.prog
  have hmx := @run_mx Try.prog
  have E1 := fw_ref h1 k1
  have E2 := fw_ref h2 k2
  have E3 := fw_ref h3 k3
  have I1 : (-9223372036854775808 ≤ x + dx ∧ x + dx ≤ 9223372036854775807) ∧ -9223372036854775808 ≤ mnI (mxI (x + dx) (-70368744177664)) 70368744177664 - x ∧ mnI (mxI (x + dx) (-70368744177664)) 70368744177664 - x ≤ 9223372036854775807 := by unfold mnI mxI; omega
  have I2 : (-9223372036854775808 ≤ y + dy ∧ y + dy ≤ 9223372036854775807) ∧ -9223372036854775808 ≤ mnI (mxI (y + dy) (-70368744177664)) 70368744177664 - y ∧ mnI (mxI (y + dy) (-70368744177664)) 70368744177664 - y ≤ 9223372036854775807 := by unfold mnI mxI; omega
  have I3 : (-9223372036854775808 ≤ z + dz ∧ z + dz ≤ 9223372036854775807) ∧ -9223372036854775808 ≤ mnI (mxI (z + dz) (-70368744177664)) 70368744177664 - z ∧ mnI (mxI (z + dz) (-70368744177664)) 70368744177664 - z ≤ 9223372036854775807 := by unfold mnI mxI; omega
  generalize fwI x dx = f1 at E1 ⊢
  generalize fwI y dy = f2 at E2 ⊢
  generalize fwI z dz = f3 at E3 ⊢
  have HE := Lib.hid (And.intro E1 (And.intro E2 E3))
  clear E1 E2 E3 h1 h2 h3 k1 k2 k3
  obtain ⟨N, hN⟩ : ∃ N, N = w.heap.size := ⟨_, rfl⟩
  obtain ⟨W, hW⟩ : ∃ W, W = (((w.alloc (.cells #[.int .i64 x, .int .i64 y, .int .i64 z, .int .i64 sx, .int .i64 sy, .int .i64 sz, .int .i64 wd, .int .i64 ht, .bool st] 28)).alloc (.cells #[.int .i64 dx, .int .i64 dy, .int .i64 dz] 26)).alloc (.cells #[.int .i64 0, .int .i64 0, .int .i64 0] 26)).alloc (.cells #[.int .i64 0, .int .i64 0, .int .i64 0] 26) := ⟨_, rfl⟩
  have H : Below w.heap.size w W := by rw [hW]; go_grown
  have B : Blk W N 28 _ := Blk.eqw hW.symm (by rw [hN]; exact (((Blk.new' rfl).alloc _).alloc _).alloc _)
  have D : Blk W (N + 1) 26 _ := Blk.eqw hW.symm (by rw [hN]; exact ((Blk.new' (by simp)).alloc _).alloc _)
  have R : Blk W (N + 1 + 1) 26 _ := Blk.eqw hW.symm (by rw [hN]; exact (Blk.new' (by simp)).alloc _)
  have O : Blk W (N + 1 + 1 + 1) 26 _ := Blk.eqw hW.symm (by rw [hN]; exact Blk.new' (by simp))
  go_enter Try.func49, Try.ntmps49
  go_upto_region 2 with (fail)
  rw [← hW, ← hN]
  have HN := Lib.hid hN
  clear hW hN
  go_upto_region 3 with (fail)
  go_loopw [6] (fun kv wr => ((kv = .int .i64 0 ∧ Blk wr (N + 1 + 1 + 1) 26 #[.int .i64 0, .int .i64 0, .int .i64 0]) ∨ (kv = .int .i64 1 ∧ Blk wr (N + 1 + 1 + 1) 26 #[.int .i64 f1, .int .i64 0, .int .i64 0]) ∨ (kv = .int .i64 2 ∧ Blk wr (N + 1 + 1 + 1) 26 #[.int .i64 f1, .int .i64 f2, .int .i64 0]) ∨ (kv = .int .i64 3 ∧ Blk wr (N + 1 + 1 + 1) 26 #[.int .i64 f1, .int .i64 f2, .int .i64 f3])) ∧
    Blk wr N 28 #[.int .i64 x, .int .i64 y, .int .i64 z, .int .i64 sx, .int .i64 sy, .int .i64 sz, .int .i64 wd, .int .i64 ht, .bool st] ∧ Blk wr (N + 1) 26 #[.int .i64 dx, .int .i64 dy, .int .i64 dz] ∧ Blk wr (N + 1 + 1) 26 #[.int .i64 0, .int .i64 0, .int .i64 0] ∧ Hid (Below w.heap.size w wr)) (fun kv _ => 3 - (intOf kv).toNat)
  case atStart => exact ⟨.inl ⟨rfl, O⟩, B, D, R, Lib.hid H⟩
  case round =>
    clear B D R O H
    obtain ⟨hd, B, D, R, H⟩ := hrel
    rcases hd with ⟨rfl, O⟩ | ⟨rfl, O⟩ | ⟨rfl, O⟩ | ⟨rfl, O⟩
    · obtain ⟨⟨i1, i2⟩, i3, i4⟩ := I1
      obtain ⟨b0, b1, b2⟩ : wr.cell? ⟨N, 0, none⟩ = some (.int .i64 x) ∧ wr.cell? ⟨N, 1, none⟩ = some (.int .i64 y) ∧ wr.cell? ⟨N, 2, none⟩ = some (.int .i64 z) := ⟨B.cell 0, B.cell 1, B.cell 2⟩
      (try clear I1); (try clear I2); (try clear I3)
      go_upto_region 6 with (go_at_call 21; refine (raxis_v _ _ _ _ x rfl _).mono ?_; rintro e_ w5 ⟨rfl, h5⟩)
      replace B := B.on h5
      replace D := D.on h5
      replace R := R.on h5
      replace O := O.on h5
      replace H := Lib.hid (after H.out h5)
      clear h5 b0 b1 b2
      obtain ⟨d0, d1, d2, -, -, -⟩ := D.c3
      go_upto_region 7 with (go_at_call 21; refine (raxis_v _ _ _ _ dx rfl _).mono ?_; rintro e_ w6 ⟨rfl, h6⟩)
      replace B := B.on h6
      replace D := D.on h6
      replace R := R.on h6
      replace O := O.on h6
      replace H := Lib.hid (after H.out h6)
      clear h6 d0 d1 d2 i1 i2
      obtain ⟨o0, o1, o2, -, -, -⟩ := O.c3
      go_wp2_with (go_at_call 50; refine (rwith_v _ _ _ _ _ f1 0 0 (by first | rfl | exact HE.out.1) (by first | rfl | exact HE.out.1) (by first | rfl | exact HE.out.1) _).mono ?_; rintro e_ w7 ⟨rfl, h7⟩; replace O := O.on h7; obtain ⟨o0, o1, o2, t0, t1, t2⟩ := O.c3)
      have O2 := O.st3 (.int .i64 (f1)) (.int .i64 (0)) (.int .i64 (0))
      have hNw : w.heap.size ≤ N + 1 + 1 + 1 := by rw [← HN.out]; omega
      go_roundw
      case rel => exact ⟨.inr (.inl ⟨rfl, O2⟩), (((B.on h7).far (p := ⟨N + 1 + 1 + 1, 0, none⟩) (by dsimp only; omega) _).far (p := ⟨N + 1 + 1 + 1, 1, none⟩) (by dsimp only; omega) _).far (p := ⟨N + 1 + 1 + 1, 2, none⟩) (by dsimp only; omega) _, (((D.on h7).far (p := ⟨N + 1 + 1 + 1, 0, none⟩) (by dsimp only; omega) _).far (p := ⟨N + 1 + 1 + 1, 1, none⟩) (by dsimp only; omega) _).far (p := ⟨N + 1 + 1 + 1, 2, none⟩) (by dsimp only; omega) _, (((R.on h7).far (p := ⟨N + 1 + 1 + 1, 0, none⟩) (by dsimp only; omega) _).far (p := ⟨N + 1 + 1 + 1, 1, none⟩) (by dsimp only; omega) _).far (p := ⟨N + 1 + 1 + 1, 2, none⟩) (by dsimp only; omega) _, Lib.hid ((((after H.out h7).setCell (p := ⟨N + 1 + 1 + 1, 0, none⟩) hNw _).setCell (p := ⟨N + 1 + 1 + 1, 1, none⟩) hNw _).setCell (p := ⟨N + 1 + 1 + 1, 2, none⟩) hNw _)⟩
      case measure => simp [intOf]
    · obtain ⟨⟨i1, i2⟩, i3, i4⟩ := I2
      obtain ⟨b0, b1, b2⟩ : wr.cell? ⟨N, 0, none⟩ = some (.int .i64 x) ∧ wr.cell? ⟨N, 1, none⟩ = some (.int .i64 y) ∧ wr.cell? ⟨N, 2, none⟩ = some (.int .i64 z) := ⟨B.cell 0, B.cell 1, B.cell 2⟩
      (try clear I1); (try clear I2); (try clear I3)
      go_upto_region 6 with (go_at_call 21; refine (raxis_v _ _ _ _ y rfl _).mono ?_; rintro e_ w5 ⟨rfl, h5⟩)
      replace B := B.on h5
      replace D := D.on h5
      replace R := R.on h5
      replace O := O.on h5
      replace H := Lib.hid (after H.out h5)
      clear h5 b0 b1 b2
      obtain ⟨d0, d1, d2, -, -, -⟩ := D.c3
      go_upto_region 7 with (go_at_call 21; refine (raxis_v _ _ _ _ dy rfl _).mono ?_; rintro e_ w6 ⟨rfl, h6⟩)
      replace B := B.on h6
      replace D := D.on h6
      replace R := R.on h6
      replace O := O.on h6
      replace H := Lib.hid (after H.out h6)
      clear h6 d0 d1 d2 i1 i2
      obtain ⟨o0, o1, o2, -, -, -⟩ := O.c3
      go_wp2_with (go_at_call 50; refine (rwith_v _ _ _ _ _ f1 f2 0 (by first | rfl | exact HE.out.2.1) (by first | rfl | exact HE.out.2.1) (by first | rfl | exact HE.out.2.1) _).mono ?_; rintro e_ w7 ⟨rfl, h7⟩; replace O := O.on h7; obtain ⟨o0, o1, o2, t0, t1, t2⟩ := O.c3)
      have O2 := O.st3 (.int .i64 (f1)) (.int .i64 (f2)) (.int .i64 (0))
      have hNw : w.heap.size ≤ N + 1 + 1 + 1 := by rw [← HN.out]; omega
      go_roundw
      case rel => exact ⟨.inr (.inr (.inl ⟨rfl, O2⟩)), (((B.on h7).far (p := ⟨N + 1 + 1 + 1, 0, none⟩) (by dsimp only; omega) _).far (p := ⟨N + 1 + 1 + 1, 1, none⟩) (by dsimp only; omega) _).far (p := ⟨N + 1 + 1 + 1, 2, none⟩) (by dsimp only; omega) _, (((D.on h7).far (p := ⟨N + 1 + 1 + 1, 0, none⟩) (by dsimp only; omega) _).far (p := ⟨N + 1 + 1 + 1, 1, none⟩) (by dsimp only; omega) _).far (p := ⟨N + 1 + 1 + 1, 2, none⟩) (by dsimp only; omega) _, (((R.on h7).far (p := ⟨N + 1 + 1 + 1, 0, none⟩) (by dsimp only; omega) _).far (p := ⟨N + 1 + 1 + 1, 1, none⟩) (by dsimp only; omega) _).far (p := ⟨N + 1 + 1 + 1, 2, none⟩) (by dsimp only; omega) _, Lib.hid ((((after H.out h7).setCell (p := ⟨N + 1 + 1 + 1, 0, none⟩) hNw _).setCell (p := ⟨N + 1 + 1 + 1, 1, none⟩) hNw _).setCell (p := ⟨N + 1 + 1 + 1, 2, none⟩) hNw _)⟩
      case measure => simp [intOf]
    · obtain ⟨⟨i1, i2⟩, i3, i4⟩ := I3
      obtain ⟨b0, b1, b2⟩ : wr.cell? ⟨N, 0, none⟩ = some (.int .i64 x) ∧ wr.cell? ⟨N, 1, none⟩ = some (.int .i64 y) ∧ wr.cell? ⟨N, 2, none⟩ = some (.int .i64 z) := ⟨B.cell 0, B.cell 1, B.cell 2⟩
      (try clear I1); (try clear I2); (try clear I3)
      go_upto_region 6 with (go_at_call 21; refine (raxis_v _ _ _ _ z rfl _).mono ?_; rintro e_ w5 ⟨rfl, h5⟩)
      replace B := B.on h5
      replace D := D.on h5
      replace R := R.on h5
      replace O := O.on h5
      replace H := Lib.hid (after H.out h5)
      clear h5 b0 b1 b2
      obtain ⟨d0, d1, d2, -, -, -⟩ := D.c3
      go_upto_region 7 with (go_at_call 21; refine (raxis_v _ _ _ _ dz rfl _).mono ?_; rintro e_ w6 ⟨rfl, h6⟩)
      replace B := B.on h6
      replace D := D.on h6
      replace R := R.on h6
      replace O := O.on h6
      replace H := Lib.hid (after H.out h6)
      clear h6 d0 d1 d2 i1 i2
      obtain ⟨o0, o1, o2, -, -, -⟩ := O.c3
      go_wp2_with (go_at_call 50; refine (rwith_v _ _ _ _ _ f1 f2 f3 (by first | rfl | exact HE.out.2.2) (by first | rfl | exact HE.out.2.2) (by first | rfl | exact HE.out.2.2) _).mono ?_; rintro e_ w7 ⟨rfl, h7⟩; replace O := O.on h7; obtain ⟨o0, o1, o2, t0, t1, t2⟩ := O.c3)
      have O2 := O.st3 (.int .i64 (f1)) (.int .i64 (f2)) (.int .i64 (f3))
      have hNw : w.heap.size ≤ N + 1 + 1 + 1 := by rw [← HN.out]; omega
      go_roundw
      case rel => exact ⟨.inr (.inr (.inr ⟨rfl, O2⟩)), (((B.on h7).far (p := ⟨N + 1 + 1 + 1, 0, none⟩) (by dsimp only; omega) _).far (p := ⟨N + 1 + 1 + 1, 1, none⟩) (by dsimp only; omega) _).far (p := ⟨N + 1 + 1 + 1, 2, none⟩) (by dsimp only; omega) _, (((D.on h7).far (p := ⟨N + 1 + 1 + 1, 0, none⟩) (by dsimp only; omega) _).far (p := ⟨N + 1 + 1 + 1, 1, none⟩) (by dsimp only; omega) _).far (p := ⟨N + 1 + 1 + 1, 2, none⟩) (by dsimp only; omega) _, (((R.on h7).far (p := ⟨N + 1 + 1 + 1, 0, none⟩) (by dsimp only; omega) _).far (p := ⟨N + 1 + 1 + 1, 1, none⟩) (by dsimp only; omega) _).far (p := ⟨N + 1 + 1 + 1, 2, none⟩) (by dsimp only; omega) _, Lib.hid ((((after H.out h7).setCell (p := ⟨N + 1 + 1 + 1, 0, none⟩) hNw _).setCell (p := ⟨N + 1 + 1 + 1, 1, none⟩) hNw _).setCell (p := ⟨N + 1 + 1 + 1, 2, none⟩) hNw _)⟩
      case measure => simp [intOf]
    · obtain ⟨o0, o1, o2, -, -, -⟩ := O.c3
      obtain ⟨r0, r1, r2, s0, s1, s2⟩ := R.c3
      clear I1 I2 I3
      replace H := H.out
      have hw2 : w.heap.size ≤ N + 1 + 1 := by rw [← HN.out]; omega
      go_wp2_with fail
      have R2 := R.st3 (.int .i64 (f1)) (.int .i64 (f2)) (.int .i64 (f3))
      obtain ⟨d0, d1, d2, -, -, -⟩ := R2.c3
      exact bodyPost_ret (v := .agg #[.int .i64 (f1), .int .i64 (f2), .int .i64 (f3)]) (by simp [results, Try.results49, go_sem, d0, d1, d2]) rfl ⟨rfl, by (repeat' (first | (with_reducible exact Below.refl _ _) | (with_reducible assumption) | (with_reducible refine Below.alloc ?_ ?_ _) | (with_reducible refine Below.drew ?_) | (with_reducible refine Below.setCell ?_ ?_ _) | (with_reducible refine after ?_ (below_regrown _ _ _)) | (refine after ?_ (by with_reducible assumption)) | go_size))⟩
end Go.Proofs.Ytnokibdecnddlaa

/- Structs are what they are. -/
namespace Go.Proofs.Ytnokibdecnddlaa
open Go.ChangeShapes Go.WideShapes Go.ChangeAt Go.RowKit

theorem cell_guard : Try.prog.eqGuardType Try.prog.depth 74 = false := by kernel_rfl
theorem boxg_guard : Try.prog.eqGuardType Try.prog.depth 48 = false := by kernel_rfl
theorem cell_ne_self (a b c : Int) (w : World) : (binOp .neq 74 (.agg #[.int .i64 a, .int .i64 b, .int .i64 c]) (.agg #[.int .i64 a, .int .i64 b, .int .i64 c])).run Try.prog w = .ok (.bool false) w := by
  rw [run_neq_struct]
  simp [go_sem]
theorem cell_eq_self (a b c : Int) (w : World) : (binOp .eql 74 (.agg #[.int .i64 a, .int .i64 b, .int .i64 c]) (.agg #[.int .i64 a, .int .i64 b, .int .i64 c])).run Try.prog w = .ok (.bool true) w := by
  rw [run_eql_struct]
  simp [go_sem]
theorem box_eq_self (a b c d e f : Int) (w : World) : (binOp .eql 48 (.agg #[.int .i64 a, .int .i64 b, .int .i64 c, .int .i64 d, .int .i64 e, .int .i64 f]) (.agg #[.int .i64 a, .int .i64 b, .int .i64 c, .int .i64 d, .int .i64 e, .int .i64 f])).run Try.prog w = .ok (.bool true) w := by
  rw [run_eql_struct]
  simp [go_sem]
end Go.Proofs.Ytnokibdecnddlaa
