/- Texts that build one behind the other, laid together: Stp1 Stp2. -/
import Derived.Test.YtckjpiioipkfcaaLSweepStepsZ5
/- The program's: a box that steps up. -/
namespace Go.Proofs.Ytckjpiioipkfcaa
open Go.RowKit Go.Shelf
attribute [local go_sem] Oper.semAt_some

set_option maxRecDepth 100000 in
set_option maxHeartbeats 8000000 in
theorem pstep_c (V : FuncId) (lv : Array Value) (val : Cl → Int) (x : B6) (dx dy dz up M : Int) (hM : M ≤ 10000000000) (hM0 : 0 ≤ M) (hB : Sm6 M x) (w : World)
    (eV : ∀ args w, (callFunc V args).run Try.prog w = .ok (.enter V args) w) (hV : Tells Try.prog V lv val w) :
    Calls Try.prog 27 #[.func (.func V) #[] lv, .agg (ag6 x), .agg #[.int .i64 dx, .int .i64 dy, .int .i64 dz], .int .i64 up] w fun r w' => r = .returned (bhT (stepV val x dx dy dz up)) ∧ Below w.heap.size w w' := by
  have t0 := hB.bd
  have tH := (hi1_sm (val := val) (up := up) hB hM0 (by omega)).bd
  have tC := (oC_sm (val := val) (up := up) (dx := dx) (dz := dz) hB hM0 (by omega)).bd
  have tY := (st3_sm (val := val) (dx := dx) (dy := dy) (dz := dz) hB hM0 (by omega)).bd
  have C0 := fun W (h : Below w.heap.size w W) => pmove_c V lv val x dx dy dz M hM hM0 hB W eV (hV.on h)
  have CS := fun W (h : Below w.heap.size w W) => pmStands_c V lv val x.1 x.2.1 x.2.2.1 x.2.2.2.1 x.2.2.2.2.1 x.2.2.2.2.2 (by omega) (by omega) (hB.under hM0 (by omega)).1 W eV (hV.on h)
  have C1 := fun W (h : Below w.heap.size w W) => palong_c V lv val x 1 (mnI up 65536) M (by omega) hM0 hB W eV (hV.on h)
  have C2 := fun W (h : Below w.heap.size w W) => palong_c V lv val (hi1 val x up).1 0 dx (M + 10000000) (by omega) (by omega) (hi1_sm hB hM0 (by omega)) W eV (hV.on h)
  have C3 := fun W (h : Below w.heap.size w W) => palong_c V lv val (oA val x dx up).1 2 dz (M + 20000000) (by omega) (by omega) (oA_sm hB hM0 (by omega)) W eV (hV.on h)
  have C4 := fun W (h : Below w.heap.size w W) => palong_c V lv val (oB val x dx dz up).1 1 (-rise val x up) (M + 30000000) (by omega) (by omega) (oB_sm hB hM0 (by omega)) W eV (hV.on h)
  have CW1 := fun W => pwent_c x (oC val x dx dz up).1 (by omega) (by omega) (by omega) (by omega) W
  have CW2 := fun W => pwent_c x (st3 val x dx dy dz) (by omega) (by omega) (by omega) (by omega) W
  have q1 : -9223372036854775808 ≤ (hi1 val x up).1.2.1 - x.2.1 ∧ (hi1 val x up).1.2.1 - x.2.1 ≤ 9223372036854775807 := by omega
  have q2 : -9223372036854775808 ≤ -((hi1 val x up).1.2.1 - x.2.1) ∧ -((hi1 val x up).1.2.1 - x.2.1) ≤ 9223372036854775807 := by omega
  clear t0 tH tC tY hM hM0 hB hV eV
  have fC : oC val x dx dz up = al6 val (oB val x dx dz up).1 1 (-rise val x up) := rfl
  have fB : oB val x dx dz up = al6 val (oA val x dx up).1 2 dz := rfl
  have fA : oA val x dx up = al6 val (hi1 val x up).1 0 dx := rfl
  have fH : hi1 val x up = al6 val x 1 (mnI up 65536) := rfl
  have fR : rise val x up = (hi1 val x up).1.2.1 - x.2.1 := rfl
  rw [← fC] at C4
  rw [← fB] at C3
  rw [← fA] at C2
  rw [← fH] at C1
  rw [fR] at C4
  have fS : unB val x = (cellsI x.1 (cutI (x.2.1 - 1)) x.2.2.1 x.2.2.2.1 x.2.1 x.2.2.2.2.2).any fun c => solB (val c) := rfl
  rw [← fS] at CS
  unfold moveT at C0
  unfold stepV
  clear fC fB fA fH fR fS
  generalize hi1 val x up = H at C1 C2 q1 q2 C4
  generalize oA val x dx up = A at C2 C3 ⊢
  generalize oB val x dx dz up = B at C3 C4 ⊢
  generalize oC val x dx dz up = C at C4 CW1 ⊢
  generalize st3 val x dx dy dz = y at C0 CW2 ⊢
  generalize hx2 val x dx dy = u0 at C0 ⊢
  generalize hy1 val x dy = u1 at C0 ⊢
  generalize hz3 val x dx dy dz = u2 at C0 ⊢
  generalize unB val x = st at CS ⊢
  generalize wentI x C.1 = n1 at CW1 ⊢
  generalize wentI x y = n2 at CW2 ⊢
  obtain ⟨r, hr⟩ : ∃ r, r = stepOf y C.1 u0 u1 u2 A.2 B.2 st up n1 n2 := ⟨_, rfl⟩
  rw [← hr]
  obtain ⟨a, b, c, d, e, f⟩ := x
  obtain ⟨y1, y2, y3, y4, y5, y6⟩ := y
  obtain ⟨⟨h1, h2, h3, h4, h5, h6⟩, sh⟩ := H
  obtain ⟨⟨a1, a2, a3, a4, a5, a6⟩, sa⟩ := A
  obtain ⟨⟨b1, b2, b3, b4, b5, b6⟩, sb⟩ := B
  obtain ⟨⟨c1, c2, c3, c4, c5, c6⟩, sc⟩ := C
  simp only [alT, ag6, ah3, bhT] at *
  obtain ⟨q1, q3⟩ := q1
  obtain ⟨q2, q4⟩ := q2
  have HR := Lib.hid hr
  clear hr
  have HC0 := Lib.hid C0
  have HC1 := Lib.hid C1
  have HC2 := Lib.hid C2
  have HC3 := Lib.hid C3
  have HC4 := Lib.hid C4
  have HCS := Lib.hid CS
  have HW1 := Lib.hid CW1
  have HW2 := Lib.hid CW2
  clear C0 C1 C2 C3 C4 CS CW1 CW2
  obtain ⟨W, hW⟩ : ∃ W, W = (((w.alloc (.cells #[.int .i64 a, .int .i64 b, .int .i64 c, .int .i64 d, .int .i64 e, .int .i64 f] 28)).alloc (.cells #[.int .i64 dx, .int .i64 dy, .int .i64 dz] 26)).alloc (.cells #[.int .i64 0, .int .i64 0, .int .i64 0, .int .i64 0, .int .i64 0, .int .i64 0] 28)).alloc (.cells #[.bool false, .bool false, .bool false] 46) := ⟨_, rfl⟩
  have H : Below w.heap.size w W := by rw [hW]; go_grown
  have hs : W.heap.size = w.heap.size + 4 := by rw [hW]; simp
  obtain ⟨N, hN⟩ : ∃ N, N = w.heap.size := ⟨_, rfl⟩
  rw [← hN] at hs
  have HS := Lib.hid hs
  clear hs
  have U : Blk W N 28 _ := Blk.eqw hW.symm (by rw [hN]; exact (((Blk.new' rfl).alloc _).alloc _).alloc _)
  have D : Blk W (N + 1) 26 _ := Blk.eqw hW.symm (by rw [hN]; exact ((Blk.new' (by simp)).alloc _).alloc _)
  have R0 : Blk W (N + 1 + 1) 28 _ := Blk.eqw hW.symm (by rw [hN]; exact (Blk.new' (by simp)).alloc _)
  have R1 : Blk W (N + 1 + 1 + 1) 46 _ := Blk.eqw hW.symm (by rw [hN]; exact Blk.new' (by simp))
  go_enter Try.func27, Try.ntmps27
  go_upto_region 1 with (fail)
  rw [← hW, ← hN]
  have HN := Lib.hid hN
  clear hW hN
  obtain ⟨u0', uu1, uu2, uu3, uu4, uu5⟩ := U.c6.1
  obtain ⟨v0, v1, v2, -, -, -⟩ := D.c3
  go_upto_region 2 with (go_at_call 24; refine (HC0.out _ H).mono ?_; rintro e_ w1 ⟨rfl, k1⟩)
  generalize hV : World.alloc (World.alloc w1 _) _ = Y1
  have hy : Below w1.heap.size w1 Y1 := by rw [← hV]; go_grown
  have P : Blk Y1 w1.heap.size 28 #[.int .i64 y1, .int .i64 y2, .int .i64 y3, .int .i64 y4, .int .i64 y5, .int .i64 y6] := Blk.eqw hV ((Blk.new' rfl).alloc _)
  have Q : Blk Y1 (w1.heap.size + 1) 46 #[.bool u0, .bool u1, .bool u2] := Blk.eqw hV (Blk.new' (by simp))
  have hgp : N + 4 ≤ w1.heap.size := by rw [← HS.out]; exact k1.size
  have HY := Lib.hid (after k1 hy)
  replace U := U.on k1
  replace D := D.on k1
  replace R0 := R0.on k1
  replace R1 := R1.on k1
  replace U := U.on hy
  replace D := D.on hy
  replace R0 := R0.on hy
  replace R1 := R1.on hy
  replace H := after (after H k1) hy
  clear hV hy k1 u0' uu1 uu2 uu3 uu4 uu5 v0 v1 v2
  generalize w1.heap.size = gp at P Q hgp ⊢
  have HH := Lib.hid H
  clear H HC0
  have ways : (u0 = false ∧ u2 = false) ∨ (u0 = false ∧ u2 = true ∧ up ≤ 0) ∨ (u0 = true ∧ up ≤ 0) ∨ (u0 = false ∧ u2 = true ∧ 0 < up ∧ st = false) ∨ (u0 = true ∧ 0 < up ∧ st = false) ∨ (u0 = false ∧ u2 = true ∧ 0 < up ∧ st = true) ∨ (u0 = true ∧ 0 < up ∧ st = true) := by
    cases u0 <;> cases u2 <;> cases st <;> simp <;> omega
  obtain ⟨u0', uu1, uu2, uu3, uu4, uu5⟩ := U.c6.1
  rcases ways with ⟨rfl, rfl⟩ | ⟨rfl, rfl, hu⟩ | ⟨rfl, hu⟩ | ⟨rfl, rfl, hu, rfl⟩ | ⟨rfl, hu, rfl⟩ | ⟨rfl, rfl, hu, rfl⟩ | ⟨rfl, hu, rfl⟩
  · obtain rfl : r = ((y1, y2, y3, y4, y5, y6), false, u1, false) := by rw [HR.out, stepOf_no (.inl ⟨rfl, rfl⟩)]
    obtain ⟨t0, t1, t2, -, -, -⟩ := Q.c3
    have x0 := fun f d os => (P.sp (D := [N + 1 + 1, N + 1 + 1 + 1]) (by simp; omega) f d os).c6.1
    have y0 := fun f d os => (Q.sp (D := [N + 1 + 1, N + 1 + 1 + 1]) (by simp; omega) f d os).c3
    go_upto_region 3 with (fail)
    have B1 := R0
    have B2 := R1
    refine wp_two [0, 0, 2, 2] 2 (N + 1 + 1) (28) (#[.int .i64 y1, .int .i64 y2, .int .i64 y3, .int .i64 y4, .int .i64 y5, .int .i64 y6]) 3 (N + 1 + 1 + 1) (46) (#[.bool false, .bool u1, .bool false]) (by omega) (by kernel_rfl) (by kernel_rfl) ?_
    repeat (first | (refine wpQs_s ?_) | (refine wpQs_q (fun K hK => ?_); go_simp; first | (refine hK _ ?_; clear hK K) | (apply Exists.intro; refine ⟨fun _ => ?_, hK _ ?_⟩; (fail); clear hK K)))
    refine wpQs_nil ?_
    repeat (refine wpLs_skip ?_)
    refine wpLs_one ?s1 (fun vs1_ => ?_)
    case s1 =>
      intro w_ hw_ hp_
      have L2 := hp_.blk (by simp [Ds2]) B1
      obtain ⟨⟨q0, q1, q2, q3, q4, q5⟩, f0, f1, f2, f3, f4, f5⟩ := L2.c6
      go_simp
      exact two_fst (by decide) kept6 (L2.st6 _ _ _ _ _ _)
    refine wpLs_one ?s2 (fun vs2_ => ?_)
    case s2 =>
      intro w_ hw_ hp_
      have T2 := hp_.blk (by simp [Ds2]) B2
      obtain ⟨q0, q1, q2, f0, f1, f2⟩ := T2.c3
      go_simp
      exact two_snd (by decide) kept3 (T2.st3 _ _ _)
    refine wpLs_nilD ?_
    simp only [tails]
    rintro w_ k_ ⟨⟨-, r1⟩, r2⟩
    obtain ⟨⟨m0, m1, m2, m3, m4, m5⟩, -, -, -, -, -, -⟩ := (r1.1 rfl).c6
    obtain ⟨j0, j1, j2, -, -, -⟩ := (r2.2 rfl).c3
    clear r1 r2 x0 y0 B1 B2
    simp only [wpList, Exit.then]
    rename_i hKret
    refine hKret _ _ (wp_ret ?_)
    try simp only [Exit.then]
    refine bodyPost_ret (v := .tuple #[.agg #[.int .i64 y1, .int .i64 y2, .int .i64 y3, .int .i64 y4, .int .i64 y5, .int .i64 y6], .agg #[.bool false, .bool u1, .bool false]]) (by simp [results, Try.f27, go_sem, m0, m1, m2, m3, m4, m5, j0, j1, j2]) rfl ⟨rfl, ?_⟩
    have hN_ := HN.out
    exact (HH.out).trans (k_.below (HH.out).size (fun b hb => by simp; omega))
  · obtain rfl : r = ((y1, y2, y3, y4, y5, y6), false, u1, true) := by rw [HR.out, stepOf_no (.inr (.inl hu))]
    obtain ⟨t0, t1, t2, -, -, -⟩ := Q.c3
    have hu1 : ¬ 0 < up := by omega
    have x0 := fun f d os => (P.sp (D := [N + 1 + 1, N + 1 + 1 + 1]) (by simp; omega) f d os).c6.1
    have y0 := fun f d os => (Q.sp (D := [N + 1 + 1, N + 1 + 1 + 1]) (by simp; omega) f d os).c3
    go_upto_region 3 with (fail)
    have B1 := R0
    have B2 := R1
    refine wp_two [0, 0, 2, 2] 2 (N + 1 + 1) (28) (#[.int .i64 y1, .int .i64 y2, .int .i64 y3, .int .i64 y4, .int .i64 y5, .int .i64 y6]) 3 (N + 1 + 1 + 1) (46) (#[.bool false, .bool u1, .bool true]) (by omega) (by kernel_rfl) (by kernel_rfl) ?_
    repeat (first | (refine wpQs_s ?_) | (refine wpQs_q (fun K hK => ?_); go_simp; first | (refine hK _ ?_; clear hK K) | (apply Exists.intro; refine ⟨fun _ => ?_, hK _ ?_⟩; (fail); clear hK K)))
    refine wpQs_nil ?_
    repeat (refine wpLs_skip ?_)
    refine wpLs_one ?s1 (fun vs1_ => ?_)
    case s1 =>
      intro w_ hw_ hp_
      have L2 := hp_.blk (by simp [Ds2]) B1
      obtain ⟨⟨q0, q1, q2, q3, q4, q5⟩, f0, f1, f2, f3, f4, f5⟩ := L2.c6
      go_simp
      exact two_fst (by decide) kept6 (L2.st6 _ _ _ _ _ _)
    refine wpLs_one ?s2 (fun vs2_ => ?_)
    case s2 =>
      intro w_ hw_ hp_
      have T2 := hp_.blk (by simp [Ds2]) B2
      obtain ⟨q0, q1, q2, f0, f1, f2⟩ := T2.c3
      go_simp
      exact two_snd (by decide) kept3 (T2.st3 _ _ _)
    refine wpLs_nilD ?_
    simp only [tails]
    rintro w_ k_ ⟨⟨-, r1⟩, r2⟩
    obtain ⟨⟨m0, m1, m2, m3, m4, m5⟩, -, -, -, -, -, -⟩ := (r1.1 rfl).c6
    obtain ⟨j0, j1, j2, -, -, -⟩ := (r2.2 rfl).c3
    clear r1 r2 x0 y0 B1 B2
    simp only [wpList, Exit.then]
    rename_i hKret
    refine hKret _ _ (wp_ret ?_)
    try simp only [Exit.then]
    refine bodyPost_ret (v := .tuple #[.agg #[.int .i64 y1, .int .i64 y2, .int .i64 y3, .int .i64 y4, .int .i64 y5, .int .i64 y6], .agg #[.bool false, .bool u1, .bool true]]) (by simp [results, Try.f27, go_sem, m0, m1, m2, m3, m4, m5, j0, j1, j2]) rfl ⟨rfl, ?_⟩
    have hN_ := HN.out
    exact (HH.out).trans (k_.below (HH.out).size (fun b hb => by simp; omega))
  · obtain rfl : r = ((y1, y2, y3, y4, y5, y6), true, u1, u2) := by rw [HR.out, stepOf_no (.inr (.inl hu))]
    obtain ⟨t0, t1, t2, -, -, -⟩ := Q.c3
    have hu1 : ¬ 0 < up := by omega
    have x0 := fun f d os => (P.sp (D := [N + 1 + 1, N + 1 + 1 + 1]) (by simp; omega) f d os).c6.1
    have y0 := fun f d os => (Q.sp (D := [N + 1 + 1, N + 1 + 1 + 1]) (by simp; omega) f d os).c3
    go_upto_region 3 with (fail)
    have B1 := R0
    have B2 := R1
    refine wp_two [0, 0, 2, 2] 2 (N + 1 + 1) (28) (#[.int .i64 y1, .int .i64 y2, .int .i64 y3, .int .i64 y4, .int .i64 y5, .int .i64 y6]) 3 (N + 1 + 1 + 1) (46) (#[.bool true, .bool u1, .bool u2]) (by omega) (by kernel_rfl) (by kernel_rfl) ?_
    repeat (first | (refine wpQs_s ?_) | (refine wpQs_q (fun K hK => ?_); go_simp; first | (refine hK _ ?_; clear hK K) | (apply Exists.intro; refine ⟨fun _ => ?_, hK _ ?_⟩; (fail); clear hK K)))
    refine wpQs_nil ?_
    repeat (refine wpLs_skip ?_)
    refine wpLs_one ?s1 (fun vs1_ => ?_)
    case s1 =>
      intro w_ hw_ hp_
      have L2 := hp_.blk (by simp [Ds2]) B1
      obtain ⟨⟨q0, q1, q2, q3, q4, q5⟩, f0, f1, f2, f3, f4, f5⟩ := L2.c6
      go_simp
      exact two_fst (by decide) kept6 (L2.st6 _ _ _ _ _ _)
    refine wpLs_one ?s2 (fun vs2_ => ?_)
    case s2 =>
      intro w_ hw_ hp_
      have T2 := hp_.blk (by simp [Ds2]) B2
      obtain ⟨q0, q1, q2, f0, f1, f2⟩ := T2.c3
      go_simp
      exact two_snd (by decide) kept3 (T2.st3 _ _ _)
    refine wpLs_nilD ?_
    simp only [tails]
    rintro w_ k_ ⟨⟨-, r1⟩, r2⟩
    obtain ⟨⟨m0, m1, m2, m3, m4, m5⟩, -, -, -, -, -, -⟩ := (r1.1 rfl).c6
    obtain ⟨j0, j1, j2, -, -, -⟩ := (r2.2 rfl).c3
    clear r1 r2 x0 y0 B1 B2
    simp only [wpList, Exit.then]
    rename_i hKret
    refine hKret _ _ (wp_ret ?_)
    try simp only [Exit.then]
    refine bodyPost_ret (v := .tuple #[.agg #[.int .i64 y1, .int .i64 y2, .int .i64 y3, .int .i64 y4, .int .i64 y5, .int .i64 y6], .agg #[.bool true, .bool u1, .bool u2]]) (by simp [results, Try.f27, go_sem, m0, m1, m2, m3, m4, m5, j0, j1, j2]) rfl ⟨rfl, ?_⟩
    have hN_ := HN.out
    exact (HH.out).trans (k_.below (HH.out).size (fun b hb => by simp; omega))
  · obtain rfl : r = ((y1, y2, y3, y4, y5, y6), false, u1, true) := by rw [HR.out, stepOf_no (.inr (.inr (.inl rfl)))]
    obtain ⟨t0, t1, t2, -, -, -⟩ := Q.c3
    have hu1 : decide (up ≤ 0) = false := by simpa using hu
    go_upto_region 3 with (go_at_call 44; refine (HCS.out _ HH.out).mono ?_; rintro e_ w2 ⟨rfl, k2⟩)
    clear t0 t1 t2 u0' uu1 uu2 uu3 uu4 uu5
    replace P := P.on k2
    replace Q := Q.on k2
    replace R0 := R0.on k2
    replace R1 := R1.on k2
    replace HH := Lib.hid (after HH.out k2)
    have x0 := fun f d os => (P.sp (D := [N + 1 + 1, N + 1 + 1 + 1]) (by simp; omega) f d os).c6.1
    have y0 := fun f d os => (Q.sp (D := [N + 1 + 1, N + 1 + 1 + 1]) (by simp; omega) f d os).c3
    go_upto_region 3 with (fail)
    have B1 := R0
    have B2 := R1
    refine wp_two [0, 0, 2, 2] 2 (N + 1 + 1) (28) (#[.int .i64 y1, .int .i64 y2, .int .i64 y3, .int .i64 y4, .int .i64 y5, .int .i64 y6]) 3 (N + 1 + 1 + 1) (46) (#[.bool false, .bool u1, .bool true]) (by omega) (by kernel_rfl) (by kernel_rfl) ?_
    repeat (first | (refine wpQs_s ?_) | (refine wpQs_q (fun K hK => ?_); go_simp; first | (refine hK _ ?_; clear hK K) | (apply Exists.intro; refine ⟨fun _ => ?_, hK _ ?_⟩; (fail); clear hK K)))
    refine wpQs_nil ?_
    repeat (refine wpLs_skip ?_)
    refine wpLs_one ?s1 (fun vs1_ => ?_)
    case s1 =>
      intro w_ hw_ hp_
      have L2 := hp_.blk (by simp [Ds2]) B1
      obtain ⟨⟨q0, q1, q2, q3, q4, q5⟩, f0, f1, f2, f3, f4, f5⟩ := L2.c6
      go_simp
      exact two_fst (by decide) kept6 (L2.st6 _ _ _ _ _ _)
    refine wpLs_one ?s2 (fun vs2_ => ?_)
    case s2 =>
      intro w_ hw_ hp_
      have T2 := hp_.blk (by simp [Ds2]) B2
      obtain ⟨q0, q1, q2, f0, f1, f2⟩ := T2.c3
      go_simp
      exact two_snd (by decide) kept3 (T2.st3 _ _ _)
    refine wpLs_nilD ?_
    simp only [tails]
    rintro w_ k_ ⟨⟨-, r1⟩, r2⟩
    obtain ⟨⟨m0, m1, m2, m3, m4, m5⟩, -, -, -, -, -, -⟩ := (r1.1 rfl).c6
    obtain ⟨j0, j1, j2, -, -, -⟩ := (r2.2 rfl).c3
    clear r1 r2 x0 y0 B1 B2
    simp only [wpList, Exit.then]
    rename_i hKret
    refine hKret _ _ (wp_ret ?_)
    try simp only [Exit.then]
    refine bodyPost_ret (v := .tuple #[.agg #[.int .i64 y1, .int .i64 y2, .int .i64 y3, .int .i64 y4, .int .i64 y5, .int .i64 y6], .agg #[.bool false, .bool u1, .bool true]]) (by simp [results, Try.f27, go_sem, m0, m1, m2, m3, m4, m5, j0, j1, j2]) rfl ⟨rfl, ?_⟩
    have hN_ := HN.out
    exact (HH.out).trans (k_.below (HH.out).size (fun b hb => by simp; omega))
  · obtain rfl : r = ((y1, y2, y3, y4, y5, y6), true, u1, u2) := by rw [HR.out, stepOf_no (.inr (.inr (.inl rfl)))]
    obtain ⟨t0, t1, t2, -, -, -⟩ := Q.c3
    have hu1 : decide (up ≤ 0) = false := by simpa using hu
    go_upto_region 3 with (go_at_call 44; refine (HCS.out _ HH.out).mono ?_; rintro e_ w2 ⟨rfl, k2⟩)
    clear t0 t1 t2 u0' uu1 uu2 uu3 uu4 uu5
    replace P := P.on k2
    replace Q := Q.on k2
    replace R0 := R0.on k2
    replace R1 := R1.on k2
    replace HH := Lib.hid (after HH.out k2)
    have x0 := fun f d os => (P.sp (D := [N + 1 + 1, N + 1 + 1 + 1]) (by simp; omega) f d os).c6.1
    have y0 := fun f d os => (Q.sp (D := [N + 1 + 1, N + 1 + 1 + 1]) (by simp; omega) f d os).c3
    go_upto_region 3 with (fail)
    have B1 := R0
    have B2 := R1
    refine wp_two [0, 0, 2, 2] 2 (N + 1 + 1) (28) (#[.int .i64 y1, .int .i64 y2, .int .i64 y3, .int .i64 y4, .int .i64 y5, .int .i64 y6]) 3 (N + 1 + 1 + 1) (46) (#[.bool true, .bool u1, .bool u2]) (by omega) (by kernel_rfl) (by kernel_rfl) ?_
    repeat (first | (refine wpQs_s ?_) | (refine wpQs_q (fun K hK => ?_); go_simp; first | (refine hK _ ?_; clear hK K) | (apply Exists.intro; refine ⟨fun _ => ?_, hK _ ?_⟩; (fail); clear hK K)))
    refine wpQs_nil ?_
    repeat (refine wpLs_skip ?_)
    refine wpLs_one ?s1 (fun vs1_ => ?_)
    case s1 =>
      intro w_ hw_ hp_
      have L2 := hp_.blk (by simp [Ds2]) B1
      obtain ⟨⟨q0, q1, q2, q3, q4, q5⟩, f0, f1, f2, f3, f4, f5⟩ := L2.c6
      go_simp
      exact two_fst (by decide) kept6 (L2.st6 _ _ _ _ _ _)
    refine wpLs_one ?s2 (fun vs2_ => ?_)
    case s2 =>
      intro w_ hw_ hp_
      have T2 := hp_.blk (by simp [Ds2]) B2
      obtain ⟨q0, q1, q2, f0, f1, f2⟩ := T2.c3
      go_simp
      exact two_snd (by decide) kept3 (T2.st3 _ _ _)
    refine wpLs_nilD ?_
    simp only [tails]
    rintro w_ k_ ⟨⟨-, r1⟩, r2⟩
    obtain ⟨⟨m0, m1, m2, m3, m4, m5⟩, -, -, -, -, -, -⟩ := (r1.1 rfl).c6
    obtain ⟨j0, j1, j2, -, -, -⟩ := (r2.2 rfl).c3
    clear r1 r2 x0 y0 B1 B2
    simp only [wpList, Exit.then]
    rename_i hKret
    refine hKret _ _ (wp_ret ?_)
    try simp only [Exit.then]
    refine bodyPost_ret (v := .tuple #[.agg #[.int .i64 y1, .int .i64 y2, .int .i64 y3, .int .i64 y4, .int .i64 y5, .int .i64 y6], .agg #[.bool true, .bool u1, .bool u2]]) (by simp [results, Try.f27, go_sem, m0, m1, m2, m3, m4, m5, j0, j1, j2]) rfl ⟨rfl, ?_⟩
    have hN_ := HN.out
    exact (HH.out).trans (k_.below (HH.out).size (fun b hb => by simp; omega))
  · obtain ⟨t0, t1, t2, -, -, -⟩ := Q.c3
    have hu1 : decide (up ≤ 0) = false := by simpa using hu
    obtain ⟨v0, v1, v2, -, -, -⟩ := D.c3
    have hmn := @run_mn Try.prog
    go_upto_region 5 with (first | (go_at_call 44; refine (HCS.out _ HH.out).mono ?_; rintro e_ w2 ⟨rfl, k2⟩; replace HH := Lib.hid (after HH.out k2); replace U := U.on k2; replace D := D.on k2; replace P := P.on k2; replace Q := Q.on k2; replace R0 := R0.on k2; replace R1 := R1.on k2; clear t0 t1 t2 u0' uu1 uu2 uu3 uu4 uu5 v0 v1 v2; obtain ⟨t0, t1, t2, -, -, -⟩ := Q.c3; obtain ⟨u0', uu1, uu2, uu3, uu4, uu5⟩ := U.c6.1; obtain ⟨v0, v1, v2, -, -, -⟩ := D.c3) | (go_at_call 39; refine (HC1.out _ HH.out).mono ?_; rintro e_ w3 ⟨rfl, k3⟩))
    generalize hV : World.alloc w3 _ = Y3
    have hy : Below w3.heap.size w3 Y3 := by rw [← hV]; go_grown
    have Hb : Blk Y3 w3.heap.size 28 #[.int .i64 h1, .int .i64 h2, .int .i64 h3, .int .i64 h4, .int .i64 h5, .int .i64 h6] := Blk.eqw hV (Blk.new' rfl)
    have hg3 : gp + 2 ≤ w3.heap.size := by have := k3.size; have := Q.lt; omega
    replace U := U.on k3
    replace D := D.on k3
    replace P := P.on k3
    replace Q := Q.on k3
    replace R0 := R0.on k3
    replace R1 := R1.on k3
    replace U := U.on hy
    replace D := D.on hy
    replace P := P.on hy
    replace Q := Q.on hy
    replace R0 := R0.on hy
    replace R1 := R1.on hy
    replace HH := Lib.hid (after (after HH.out k3) hy)
    clear hV hy k3 t0 t1 t2 u0' uu1 uu2 uu3 uu4 uu5 v0 v1 v2
    generalize w3.heap.size = g3 at Hb hg3 ⊢
    obtain ⟨x0, x1, x2, x3, x4, x5⟩ := Hb.c6.1
    obtain ⟨u0', uu1, uu2, uu3, uu4, uu5⟩ := U.c6.1
    obtain ⟨v0, v1, v2, -, -, -⟩ := D.c3
    have hg4 : g3 < Y3.heap.size := Hb.lt
    have hg5 : N < Y3.heap.size := U.lt
    have hg6 : N + 1 < Y3.heap.size := D.lt
    go_upto_region 8 with (fail)
    generalize hV : World.alloc (World.alloc Y3 _) _ = Y4
    have hy : Below Y3.heap.size Y3 Y4 := by rw [← hV]; go_grown
    have Ow : Blk Y4 Y3.heap.size 46 #[.bool false, .bool true, .bool false] := Blk.eqw hV ((Blk.new' rfl).alloc _)
    have Ou : Blk Y4 (Y3.heap.size + 1) 28 #[.int .i64 h1, .int .i64 h2, .int .i64 h3, .int .i64 h4, .int .i64 h5, .int .i64 h6] := Blk.eqw hV (Blk.new' (by simp))
    clear hg5 hg6
    replace U := U.on hy
    replace D := D.on hy
    replace P := P.on hy
    replace Q := Q.on hy
    replace R0 := R0.on hy
    replace R1 := R1.on hy
    replace HH := Lib.hid (after HH.out hy)
    clear hV hy x0 x1 x2 x3 x4 x5 u0' uu1 uu2 uu3 uu4 uu5 v0 v1 v2 Hb
    generalize Y3.heap.size = g4 at Ow Ou hg4 ⊢
    obtain ⟨u0', uu1, uu2, uu3, uu4, uu5⟩ := U.c6.1
    obtain ⟨v0, v1, v2, -, -, -⟩ := D.c3
    obtain ⟨x0, x1, x2, x3, x4, x5⟩ := Ou.c6.1
    go_upto_region 9 with (go_at_call 39; refine (HC2.out _ HH.out).mono ?_; rintro e_ w5 ⟨rfl, k5⟩; replace U := U.on k5; replace D := D.on k5; replace P := P.on k5; replace Q := Q.on k5; replace R0 := R0.on k5; replace R1 := R1.on k5; replace Ow := Ow.on k5; replace Ou := Ou.on k5; obtain ⟨⟨z0, z1, z2, z3, z4, z5⟩, zf0, zf1, zf2, zf3, zf4, zf5⟩ := Ou.c6; obtain ⟨s0, s1, s2, sf0, sf1, sf2⟩ := Ow.c3)
    generalize hV : World.setCell (World.setCell _ _ _) _ _ = Y5
    have hk : Kept (fun c => c ≠ g4 ∧ c ≠ g4 + 1) w5 Y5 := by rw [← hV]; exact (kept6.mono (fun b h => h.2)).setCell (p := ⟨g4, 0, none⟩) (fun h => h.1 rfl) _
    have Ou2 : Blk Y5 (g4 + 1) 28 #[.int .i64 a1, .int .i64 a2, .int .i64 a3, .int .i64 a4, .int .i64 a5, .int .i64 a6] := Blk.eqw hV ((Ou.st6 (.int .i64 a1) (.int .i64 a2) (.int .i64 a3) (.int .i64 a4) (.int .i64 a5) (.int .i64 a6)).far (p := ⟨g4, 0, none⟩) (by dsimp only; omega) _)
    have Ow2 : Blk Y5 g4 46 #[.bool sa, .bool true, .bool false] := Blk.eqw hV ((sx6_far Ow (show g4 ≠ g4 + 1 by omega) (.int .i64 a1) (.int .i64 a2) (.int .i64 a3) (.int .i64 a4) (.int .i64 a5) (.int .i64 a6)).set_ 0 (.bool sa))
    have HB := Lib.hid (show Below w.heap.size w Y5 by
      have h1 := after HH.out k5
      have h2 := HN.out
      rw [← hV]
      exact (sx6_below h1 (by omega) _ _ _ _ _ _).setCell (p := ⟨g4, 0, none⟩) (by dsimp only; omega) _)
    replace U := hk.blk (by omega) U
    replace D := hk.blk (by omega) D
    replace P := hk.blk (by omega) P
    replace Q := hk.blk (by omega) Q
    replace R0 := hk.blk (by omega) R0
    replace R1 := hk.blk (by omega) R1
    clear hV hk k5 HH z0 z1 z2 z3 z4 z5 zf0 zf1 zf2 zf3 zf4 zf5 s0 s1 s2 sf0 sf1 sf2 x0 x1 x2 x3 x4 x5 u0' uu1 uu2 uu3 uu4 uu5 v0 v1 v2 Ou Ow
    have HH := HB
    have Ou := Ou2
    have Ow := Ow2
    clear HB Ou2 Ow2
    obtain ⟨u0', uu1, uu2, uu3, uu4, uu5⟩ := U.c6.1
    obtain ⟨v0, v1, v2, -, -, -⟩ := D.c3
    obtain ⟨x0, x1, x2, x3, x4, x5⟩ := Ou.c6.1
    go_upto_region 10 with (go_at_call 39; refine (HC3.out _ HH.out).mono ?_; rintro e_ w6 ⟨rfl, k5⟩; replace U := U.on k5; replace D := D.on k5; replace P := P.on k5; replace Q := Q.on k5; replace R0 := R0.on k5; replace R1 := R1.on k5; replace Ow := Ow.on k5; replace Ou := Ou.on k5; obtain ⟨⟨z0, z1, z2, z3, z4, z5⟩, zf0, zf1, zf2, zf3, zf4, zf5⟩ := Ou.c6; obtain ⟨s0, s1, s2, sf0, sf1, sf2⟩ := Ow.c3)
    generalize hV : World.setCell (World.setCell _ _ _) _ _ = Y6
    have hk : Kept (fun c => c ≠ g4 ∧ c ≠ g4 + 1) w6 Y6 := by rw [← hV]; exact (kept6.mono (fun b h => h.2)).setCell (p := ⟨g4, 2, none⟩) (fun h => h.1 rfl) _
    have Ou2 : Blk Y6 (g4 + 1) 28 #[.int .i64 b1, .int .i64 b2, .int .i64 b3, .int .i64 b4, .int .i64 b5, .int .i64 b6] := Blk.eqw hV ((Ou.st6 (.int .i64 b1) (.int .i64 b2) (.int .i64 b3) (.int .i64 b4) (.int .i64 b5) (.int .i64 b6)).far (p := ⟨g4, 2, none⟩) (by dsimp only; omega) _)
    have Ow2 : Blk Y6 g4 46 #[.bool sa, .bool true, .bool sb] := Blk.eqw hV ((sx6_far Ow (show g4 ≠ g4 + 1 by omega) (.int .i64 b1) (.int .i64 b2) (.int .i64 b3) (.int .i64 b4) (.int .i64 b5) (.int .i64 b6)).set_ 2 (.bool sb))
    have HB := Lib.hid (show Below w.heap.size w Y6 by
      have h1 := after HH.out k5
      have h2 := HN.out
      rw [← hV]
      exact (sx6_below h1 (by omega) _ _ _ _ _ _).setCell (p := ⟨g4, 2, none⟩) (by dsimp only; omega) _)
    replace U := hk.blk (by omega) U
    replace D := hk.blk (by omega) D
    replace P := hk.blk (by omega) P
    replace Q := hk.blk (by omega) Q
    replace R0 := hk.blk (by omega) R0
    replace R1 := hk.blk (by omega) R1
    clear hV hk k5 HH z0 z1 z2 z3 z4 z5 zf0 zf1 zf2 zf3 zf4 zf5 s0 s1 s2 sf0 sf1 sf2 x0 x1 x2 x3 x4 x5 u0' uu1 uu2 uu3 uu4 uu5 v0 v1 v2 Ou Ow
    have HH := HB
    have Ou := Ou2
    have Ow := Ow2
    clear HB Ou2 Ow2
    obtain ⟨u0', uu1, uu2, uu3, uu4, uu5⟩ := U.c6.1
    obtain ⟨v0, v1, v2, -, -, -⟩ := D.c3
    obtain ⟨x0, x1, x2, x3, x4, x5⟩ := Ou.c6.1
    go_upto_region 11 with (go_at_call 39; refine (HC4.out _ HH.out).mono ?_; rintro e_ w7 ⟨rfl, k5⟩; replace U := U.on k5; replace D := D.on k5; replace P := P.on k5; replace Q := Q.on k5; replace R0 := R0.on k5; replace R1 := R1.on k5; replace Ow := Ow.on k5; replace Ou := Ou.on k5; obtain ⟨⟨z0, z1, z2, z3, z4, z5⟩, zf0, zf1, zf2, zf3, zf4, zf5⟩ := Ou.c6; obtain ⟨s0, s1, s2, sf0, sf1, sf2⟩ := Ow.c3)
    generalize hV : World.setCell (World.setCell _ _ _) _ _ = Y7
    have hk : Kept (fun c => c ≠ g4 ∧ c ≠ g4 + 1) w7 Y7 := by rw [← hV]; exact kept6.mono (fun b h => h.2)
    have Ou2 : Blk Y7 (g4 + 1) 28 #[.int .i64 c1, .int .i64 c2, .int .i64 c3, .int .i64 c4, .int .i64 c5, .int .i64 c6] := Blk.eqw hV (Ou.st6 (.int .i64 c1) (.int .i64 c2) (.int .i64 c3) (.int .i64 c4) (.int .i64 c5) (.int .i64 c6))
    have Ow2 : Blk Y7 g4 46 #[.bool sa, .bool true, .bool sb] := Blk.eqw hV (sx6_far Ow (show g4 ≠ g4 + 1 by omega) (.int .i64 c1) (.int .i64 c2) (.int .i64 c3) (.int .i64 c4) (.int .i64 c5) (.int .i64 c6))
    have HB := Lib.hid (show Below w.heap.size w Y7 by
      have h1 := after HH.out k5
      have h2 := HN.out
      rw [← hV]
      exact sx6_below h1 (by omega) _ _ _ _ _ _)
    replace U := hk.blk (by omega) U
    replace D := hk.blk (by omega) D
    replace P := hk.blk (by omega) P
    replace Q := hk.blk (by omega) Q
    replace R0 := hk.blk (by omega) R0
    replace R1 := hk.blk (by omega) R1
    clear hV hk k5 HH z0 z1 z2 z3 z4 z5 zf0 zf1 zf2 zf3 zf4 zf5 s0 s1 s2 sf0 sf1 sf2 x0 x1 x2 x3 x4 x5 u0' uu1 uu2 uu3 uu4 uu5 v0 v1 v2 Ou Ow
    have HH := HB
    have Ou := Ou2
    have Ow := Ow2
    clear HB Ou2 Ow2
    obtain ⟨u0', uu1, uu2, uu3, uu4, uu5⟩ := U.c6.1
    obtain ⟨v0, v1, v2, -, -, -⟩ := D.c3
    obtain ⟨x0, x1, x2, x3, x4, x5⟩ := Ou.c6.1
    clear v0 v1 v2 x0 x1 x2 x3 x4 x5 u0' uu1 uu2 uu3 uu4 uu5
    obtain ⟨x0, x1, x2, x3, x4, x5⟩ := Ou.re6
    obtain ⟨v0, v1, v2, v3, v4, v5⟩ := P.re6
    obtain ⟨u0', uu1, uu2, uu3, uu4, uu5⟩ := U.re6
    refine wp_region_quiet_below (by kernel_rfl) (by kernel_rfl) ?_
    repeat (go_big_quiet_step (first | (with_reducible exact Calls.regrown_of (HW1.out _)) | (with_reducible exact Calls.regrown_of (HW2.out _))))
    refine wpQuiet_nil ?_
    intro w' hw'
    obtain ⟨rg, rfl⟩ := hw'
    clear v0 v1 v2 v3 v4 v5 x0 x1 x2 x3 x4 x5 u0' uu1 uu2 uu3 uu4 uu5
    obtain ⟨Y8, hY8⟩ : ∃ Y8, Y8 = Go.Sort.grow (redrawn Y7 rg.d) rg.os := ⟨_, rfl⟩
    rw [← hY8]
    have hy : Below Y7.heap.size Y7 Y8 := by rw [hY8]; exact below_regrown _ _ _
    replace P := P.on hy
    replace Q := Q.on hy
    replace R0 := R0.on hy
    replace R1 := R1.on hy
    replace Ou := Ou.on hy
    replace Ow := Ow.on hy
    replace HH := Lib.hid (after HH.out hy)
    clear hY8 hy U D
    rcases (show n1 ≤ n2 ∨ n2 < n1 by omega) with hn | hn
    · obtain rfl : r = ((y1, y2, y3, y4, y5, y6), false, u1, true) := by rw [HR.out, stepOf_no (.inr (.inr (.inr hn)))]
      have x0 := fun f d os => (P.sp (D := [N + 1 + 1, N + 1 + 1 + 1]) (by simp; omega) f d os).c6.1
      have y0 := fun f d os => (Q.sp (D := [N + 1 + 1, N + 1 + 1 + 1]) (by simp; omega) f d os).c3
      go_upto_region 12 with (fail)
      have B1 := R0
      have B2 := R1
      refine wp_two [0, 0, 2, 2] 2 (N + 1 + 1) (28) (#[.int .i64 y1, .int .i64 y2, .int .i64 y3, .int .i64 y4, .int .i64 y5, .int .i64 y6]) 3 (N + 1 + 1 + 1) (46) (#[.bool false, .bool u1, .bool true]) (by omega) (by kernel_rfl) (by kernel_rfl) ?_
      repeat (first | (refine wpQs_s ?_) | (refine wpQs_q (fun K hK => ?_); go_simp; first | (refine hK _ ?_; clear hK K) | (apply Exists.intro; refine ⟨fun _ => ?_, hK _ ?_⟩; (fail); clear hK K)))
      refine wpQs_nil ?_
      repeat (refine wpLs_skip ?_)
      refine wpLs_one ?s1 (fun vs1_ => ?_)
      case s1 =>
        intro w_ hw_ hp_
        have L2 := hp_.blk (by simp [Ds2]) B1
        obtain ⟨⟨q0, q1, q2, q3, q4, q5⟩, f0, f1, f2, f3, f4, f5⟩ := L2.c6
        go_simp
        exact two_fst (by decide) kept6 (L2.st6 _ _ _ _ _ _)
      refine wpLs_one ?s2 (fun vs2_ => ?_)
      case s2 =>
        intro w_ hw_ hp_
        have T2 := hp_.blk (by simp [Ds2]) B2
        obtain ⟨q0, q1, q2, f0, f1, f2⟩ := T2.c3
        go_simp
        exact two_snd (by decide) kept3 (T2.st3 _ _ _)
      refine wpLs_nilD ?_
      simp only [tails]
      rintro w_ k_ ⟨⟨-, r1⟩, r2⟩
      obtain ⟨⟨m0, m1, m2, m3, m4, m5⟩, -, -, -, -, -, -⟩ := (r1.1 rfl).c6
      obtain ⟨j0, j1, j2, -, -, -⟩ := (r2.2 rfl).c3
      clear r1 r2 x0 y0 B1 B2
      simp only [wpList, Exit.then]
      rename_i hKret
      refine hKret _ _ (wp_ret ?_)
      try simp only [Exit.then]
      refine bodyPost_ret (v := .tuple #[.agg #[.int .i64 y1, .int .i64 y2, .int .i64 y3, .int .i64 y4, .int .i64 y5, .int .i64 y6], .agg #[.bool false, .bool u1, .bool true]]) (by simp [results, Try.f27, go_sem, m0, m1, m2, m3, m4, m5, j0, j1, j2]) rfl ⟨rfl, ?_⟩
      have hN_ := HN.out
      exact (HH.out).trans (k_.below (HH.out).size (fun b hb => by simp; omega))
    · obtain rfl : r = ((c1, c2, c3, c4, c5, c6), sa, true, sb) := by rw [HR.out, stepOf_yes (.inr rfl) hu hn]
      have hn2 : decide (n1 ≤ n2) = false := by simpa using hn
      have x0 := fun f d os => (Ou.sp (D := [N + 1 + 1, N + 1 + 1 + 1]) (by simp; omega) f d os).c6.1
      have y0 := fun f d os => (Ow.sp (D := [N + 1 + 1, N + 1 + 1 + 1]) (by simp; omega) f d os).c3
      go_upto_region 13 with (fail)
      have B1 := R0
      have B2 := R1
      refine wp_two [0, 0, 2, 2] 2 (N + 1 + 1) (28) (#[.int .i64 c1, .int .i64 c2, .int .i64 c3, .int .i64 c4, .int .i64 c5, .int .i64 c6]) 3 (N + 1 + 1 + 1) (46) (#[.bool sa, .bool true, .bool sb]) (by omega) (by kernel_rfl) (by kernel_rfl) ?_
      repeat (first | (refine wpQs_s ?_) | (refine wpQs_q (fun K hK => ?_); go_simp; first | (refine hK _ ?_; clear hK K) | (apply Exists.intro; refine ⟨fun _ => ?_, hK _ ?_⟩; (fail); clear hK K)))
      refine wpQs_nil ?_
      repeat (refine wpLs_skip ?_)
      refine wpLs_one ?s1 (fun vs1_ => ?_)
      case s1 =>
        intro w_ hw_ hp_
        have L2 := hp_.blk (by simp [Ds2]) B1
        obtain ⟨⟨q0, q1, q2, q3, q4, q5⟩, f0, f1, f2, f3, f4, f5⟩ := L2.c6
        go_simp
        exact two_fst (by decide) kept6 (L2.st6 _ _ _ _ _ _)
      refine wpLs_one ?s2 (fun vs2_ => ?_)
      case s2 =>
        intro w_ hw_ hp_
        have T2 := hp_.blk (by simp [Ds2]) B2
        obtain ⟨q0, q1, q2, f0, f1, f2⟩ := T2.c3
        go_simp
        exact two_snd (by decide) kept3 (T2.st3 _ _ _)
      refine wpLs_nilD ?_
      simp only [tails]
      rintro w_ k_ ⟨⟨-, r1⟩, r2⟩
      obtain ⟨⟨m0, m1, m2, m3, m4, m5⟩, -, -, -, -, -, -⟩ := (r1.1 rfl).c6
      obtain ⟨j0, j1, j2, -, -, -⟩ := (r2.2 rfl).c3
      clear r1 r2 x0 y0 B1 B2
      simp only [wpList, Exit.then]
      rename_i hKret
      refine hKret _ _ (wp_ret ?_)
      try simp only [Exit.then]
      refine bodyPost_ret (v := .tuple #[.agg #[.int .i64 c1, .int .i64 c2, .int .i64 c3, .int .i64 c4, .int .i64 c5, .int .i64 c6], .agg #[.bool sa, .bool true, .bool sb]]) (by simp [results, Try.f27, go_sem, m0, m1, m2, m3, m4, m5, j0, j1, j2]) rfl ⟨rfl, ?_⟩
      have hN_ := HN.out
      exact (HH.out).trans (k_.below (HH.out).size (fun b hb => by simp; omega))
  · obtain ⟨t0, t1, t2, -, -, -⟩ := Q.c3
    have hu1 : decide (up ≤ 0) = false := by simpa using hu
    obtain ⟨v0, v1, v2, -, -, -⟩ := D.c3
    have hmn := @run_mn Try.prog
    go_upto_region 5 with (first | (go_at_call 44; refine (HCS.out _ HH.out).mono ?_; rintro e_ w2 ⟨rfl, k2⟩; replace HH := Lib.hid (after HH.out k2); replace U := U.on k2; replace D := D.on k2; replace P := P.on k2; replace Q := Q.on k2; replace R0 := R0.on k2; replace R1 := R1.on k2; clear t0 t1 t2 u0' uu1 uu2 uu3 uu4 uu5 v0 v1 v2; obtain ⟨t0, t1, t2, -, -, -⟩ := Q.c3; obtain ⟨u0', uu1, uu2, uu3, uu4, uu5⟩ := U.c6.1; obtain ⟨v0, v1, v2, -, -, -⟩ := D.c3) | (go_at_call 39; refine (HC1.out _ HH.out).mono ?_; rintro e_ w3 ⟨rfl, k3⟩))
    generalize hV : World.alloc w3 _ = Y3
    have hy : Below w3.heap.size w3 Y3 := by rw [← hV]; go_grown
    have Hb : Blk Y3 w3.heap.size 28 #[.int .i64 h1, .int .i64 h2, .int .i64 h3, .int .i64 h4, .int .i64 h5, .int .i64 h6] := Blk.eqw hV (Blk.new' rfl)
    have hg3 : gp + 2 ≤ w3.heap.size := by have := k3.size; have := Q.lt; omega
    replace U := U.on k3
    replace D := D.on k3
    replace P := P.on k3
    replace Q := Q.on k3
    replace R0 := R0.on k3
    replace R1 := R1.on k3
    replace U := U.on hy
    replace D := D.on hy
    replace P := P.on hy
    replace Q := Q.on hy
    replace R0 := R0.on hy
    replace R1 := R1.on hy
    replace HH := Lib.hid (after (after HH.out k3) hy)
    clear hV hy k3 t0 t1 t2 u0' uu1 uu2 uu3 uu4 uu5 v0 v1 v2
    generalize w3.heap.size = g3 at Hb hg3 ⊢
    obtain ⟨x0, x1, x2, x3, x4, x5⟩ := Hb.c6.1
    obtain ⟨u0', uu1, uu2, uu3, uu4, uu5⟩ := U.c6.1
    obtain ⟨v0, v1, v2, -, -, -⟩ := D.c3
    have hg4 : g3 < Y3.heap.size := Hb.lt
    have hg5 : N < Y3.heap.size := U.lt
    have hg6 : N + 1 < Y3.heap.size := D.lt
    go_upto_region 8 with (fail)
    generalize hV : World.alloc (World.alloc Y3 _) _ = Y4
    have hy : Below Y3.heap.size Y3 Y4 := by rw [← hV]; go_grown
    have Ow : Blk Y4 Y3.heap.size 46 #[.bool false, .bool true, .bool false] := Blk.eqw hV ((Blk.new' rfl).alloc _)
    have Ou : Blk Y4 (Y3.heap.size + 1) 28 #[.int .i64 h1, .int .i64 h2, .int .i64 h3, .int .i64 h4, .int .i64 h5, .int .i64 h6] := Blk.eqw hV (Blk.new' (by simp))
    clear hg5 hg6
    replace U := U.on hy
    replace D := D.on hy
    replace P := P.on hy
    replace Q := Q.on hy
    replace R0 := R0.on hy
    replace R1 := R1.on hy
    replace HH := Lib.hid (after HH.out hy)
    clear hV hy x0 x1 x2 x3 x4 x5 u0' uu1 uu2 uu3 uu4 uu5 v0 v1 v2 Hb
    generalize Y3.heap.size = g4 at Ow Ou hg4 ⊢
    obtain ⟨u0', uu1, uu2, uu3, uu4, uu5⟩ := U.c6.1
    obtain ⟨v0, v1, v2, -, -, -⟩ := D.c3
    obtain ⟨x0, x1, x2, x3, x4, x5⟩ := Ou.c6.1
    go_upto_region 9 with (go_at_call 39; refine (HC2.out _ HH.out).mono ?_; rintro e_ w5 ⟨rfl, k5⟩; replace U := U.on k5; replace D := D.on k5; replace P := P.on k5; replace Q := Q.on k5; replace R0 := R0.on k5; replace R1 := R1.on k5; replace Ow := Ow.on k5; replace Ou := Ou.on k5; obtain ⟨⟨z0, z1, z2, z3, z4, z5⟩, zf0, zf1, zf2, zf3, zf4, zf5⟩ := Ou.c6; obtain ⟨s0, s1, s2, sf0, sf1, sf2⟩ := Ow.c3)
    generalize hV : World.setCell (World.setCell _ _ _) _ _ = Y5
    have hk : Kept (fun c => c ≠ g4 ∧ c ≠ g4 + 1) w5 Y5 := by rw [← hV]; exact (kept6.mono (fun b h => h.2)).setCell (p := ⟨g4, 0, none⟩) (fun h => h.1 rfl) _
    have Ou2 : Blk Y5 (g4 + 1) 28 #[.int .i64 a1, .int .i64 a2, .int .i64 a3, .int .i64 a4, .int .i64 a5, .int .i64 a6] := Blk.eqw hV ((Ou.st6 (.int .i64 a1) (.int .i64 a2) (.int .i64 a3) (.int .i64 a4) (.int .i64 a5) (.int .i64 a6)).far (p := ⟨g4, 0, none⟩) (by dsimp only; omega) _)
    have Ow2 : Blk Y5 g4 46 #[.bool sa, .bool true, .bool false] := Blk.eqw hV ((sx6_far Ow (show g4 ≠ g4 + 1 by omega) (.int .i64 a1) (.int .i64 a2) (.int .i64 a3) (.int .i64 a4) (.int .i64 a5) (.int .i64 a6)).set_ 0 (.bool sa))
    have HB := Lib.hid (show Below w.heap.size w Y5 by
      have h1 := after HH.out k5
      have h2 := HN.out
      rw [← hV]
      exact (sx6_below h1 (by omega) _ _ _ _ _ _).setCell (p := ⟨g4, 0, none⟩) (by dsimp only; omega) _)
    replace U := hk.blk (by omega) U
    replace D := hk.blk (by omega) D
    replace P := hk.blk (by omega) P
    replace Q := hk.blk (by omega) Q
    replace R0 := hk.blk (by omega) R0
    replace R1 := hk.blk (by omega) R1
    clear hV hk k5 HH z0 z1 z2 z3 z4 z5 zf0 zf1 zf2 zf3 zf4 zf5 s0 s1 s2 sf0 sf1 sf2 x0 x1 x2 x3 x4 x5 u0' uu1 uu2 uu3 uu4 uu5 v0 v1 v2 Ou Ow
    have HH := HB
    have Ou := Ou2
    have Ow := Ow2
    clear HB Ou2 Ow2
    obtain ⟨u0', uu1, uu2, uu3, uu4, uu5⟩ := U.c6.1
    obtain ⟨v0, v1, v2, -, -, -⟩ := D.c3
    obtain ⟨x0, x1, x2, x3, x4, x5⟩ := Ou.c6.1
    go_upto_region 10 with (go_at_call 39; refine (HC3.out _ HH.out).mono ?_; rintro e_ w6 ⟨rfl, k5⟩; replace U := U.on k5; replace D := D.on k5; replace P := P.on k5; replace Q := Q.on k5; replace R0 := R0.on k5; replace R1 := R1.on k5; replace Ow := Ow.on k5; replace Ou := Ou.on k5; obtain ⟨⟨z0, z1, z2, z3, z4, z5⟩, zf0, zf1, zf2, zf3, zf4, zf5⟩ := Ou.c6; obtain ⟨s0, s1, s2, sf0, sf1, sf2⟩ := Ow.c3)
    generalize hV : World.setCell (World.setCell _ _ _) _ _ = Y6
    have hk : Kept (fun c => c ≠ g4 ∧ c ≠ g4 + 1) w6 Y6 := by rw [← hV]; exact (kept6.mono (fun b h => h.2)).setCell (p := ⟨g4, 2, none⟩) (fun h => h.1 rfl) _
    have Ou2 : Blk Y6 (g4 + 1) 28 #[.int .i64 b1, .int .i64 b2, .int .i64 b3, .int .i64 b4, .int .i64 b5, .int .i64 b6] := Blk.eqw hV ((Ou.st6 (.int .i64 b1) (.int .i64 b2) (.int .i64 b3) (.int .i64 b4) (.int .i64 b5) (.int .i64 b6)).far (p := ⟨g4, 2, none⟩) (by dsimp only; omega) _)
    have Ow2 : Blk Y6 g4 46 #[.bool sa, .bool true, .bool sb] := Blk.eqw hV ((sx6_far Ow (show g4 ≠ g4 + 1 by omega) (.int .i64 b1) (.int .i64 b2) (.int .i64 b3) (.int .i64 b4) (.int .i64 b5) (.int .i64 b6)).set_ 2 (.bool sb))
    have HB := Lib.hid (show Below w.heap.size w Y6 by
      have h1 := after HH.out k5
      have h2 := HN.out
      rw [← hV]
      exact (sx6_below h1 (by omega) _ _ _ _ _ _).setCell (p := ⟨g4, 2, none⟩) (by dsimp only; omega) _)
    replace U := hk.blk (by omega) U
    replace D := hk.blk (by omega) D
    replace P := hk.blk (by omega) P
    replace Q := hk.blk (by omega) Q
    replace R0 := hk.blk (by omega) R0
    replace R1 := hk.blk (by omega) R1
    clear hV hk k5 HH z0 z1 z2 z3 z4 z5 zf0 zf1 zf2 zf3 zf4 zf5 s0 s1 s2 sf0 sf1 sf2 x0 x1 x2 x3 x4 x5 u0' uu1 uu2 uu3 uu4 uu5 v0 v1 v2 Ou Ow
    have HH := HB
    have Ou := Ou2
    have Ow := Ow2
    clear HB Ou2 Ow2
    obtain ⟨u0', uu1, uu2, uu3, uu4, uu5⟩ := U.c6.1
    obtain ⟨v0, v1, v2, -, -, -⟩ := D.c3
    obtain ⟨x0, x1, x2, x3, x4, x5⟩ := Ou.c6.1
    go_upto_region 11 with (go_at_call 39; refine (HC4.out _ HH.out).mono ?_; rintro e_ w7 ⟨rfl, k5⟩; replace U := U.on k5; replace D := D.on k5; replace P := P.on k5; replace Q := Q.on k5; replace R0 := R0.on k5; replace R1 := R1.on k5; replace Ow := Ow.on k5; replace Ou := Ou.on k5; obtain ⟨⟨z0, z1, z2, z3, z4, z5⟩, zf0, zf1, zf2, zf3, zf4, zf5⟩ := Ou.c6; obtain ⟨s0, s1, s2, sf0, sf1, sf2⟩ := Ow.c3)
    generalize hV : World.setCell (World.setCell _ _ _) _ _ = Y7
    have hk : Kept (fun c => c ≠ g4 ∧ c ≠ g4 + 1) w7 Y7 := by rw [← hV]; exact kept6.mono (fun b h => h.2)
    have Ou2 : Blk Y7 (g4 + 1) 28 #[.int .i64 c1, .int .i64 c2, .int .i64 c3, .int .i64 c4, .int .i64 c5, .int .i64 c6] := Blk.eqw hV (Ou.st6 (.int .i64 c1) (.int .i64 c2) (.int .i64 c3) (.int .i64 c4) (.int .i64 c5) (.int .i64 c6))
    have Ow2 : Blk Y7 g4 46 #[.bool sa, .bool true, .bool sb] := Blk.eqw hV (sx6_far Ow (show g4 ≠ g4 + 1 by omega) (.int .i64 c1) (.int .i64 c2) (.int .i64 c3) (.int .i64 c4) (.int .i64 c5) (.int .i64 c6))
    have HB := Lib.hid (show Below w.heap.size w Y7 by
      have h1 := after HH.out k5
      have h2 := HN.out
      rw [← hV]
      exact sx6_below h1 (by omega) _ _ _ _ _ _)
    replace U := hk.blk (by omega) U
    replace D := hk.blk (by omega) D
    replace P := hk.blk (by omega) P
    replace Q := hk.blk (by omega) Q
    replace R0 := hk.blk (by omega) R0
    replace R1 := hk.blk (by omega) R1
    clear hV hk k5 HH z0 z1 z2 z3 z4 z5 zf0 zf1 zf2 zf3 zf4 zf5 s0 s1 s2 sf0 sf1 sf2 x0 x1 x2 x3 x4 x5 u0' uu1 uu2 uu3 uu4 uu5 v0 v1 v2 Ou Ow
    have HH := HB
    have Ou := Ou2
    have Ow := Ow2
    clear HB Ou2 Ow2
    obtain ⟨u0', uu1, uu2, uu3, uu4, uu5⟩ := U.c6.1
    obtain ⟨v0, v1, v2, -, -, -⟩ := D.c3
    obtain ⟨x0, x1, x2, x3, x4, x5⟩ := Ou.c6.1
    clear v0 v1 v2 x0 x1 x2 x3 x4 x5 u0' uu1 uu2 uu3 uu4 uu5
    obtain ⟨x0, x1, x2, x3, x4, x5⟩ := Ou.re6
    obtain ⟨v0, v1, v2, v3, v4, v5⟩ := P.re6
    obtain ⟨u0', uu1, uu2, uu3, uu4, uu5⟩ := U.re6
    refine wp_region_quiet_below (by kernel_rfl) (by kernel_rfl) ?_
    repeat (go_big_quiet_step (first | (with_reducible exact Calls.regrown_of (HW1.out _)) | (with_reducible exact Calls.regrown_of (HW2.out _))))
    refine wpQuiet_nil ?_
    intro w' hw'
    obtain ⟨rg, rfl⟩ := hw'
    clear v0 v1 v2 v3 v4 v5 x0 x1 x2 x3 x4 x5 u0' uu1 uu2 uu3 uu4 uu5
    obtain ⟨Y8, hY8⟩ : ∃ Y8, Y8 = Go.Sort.grow (redrawn Y7 rg.d) rg.os := ⟨_, rfl⟩
    rw [← hY8]
    have hy : Below Y7.heap.size Y7 Y8 := by rw [hY8]; exact below_regrown _ _ _
    replace P := P.on hy
    replace Q := Q.on hy
    replace R0 := R0.on hy
    replace R1 := R1.on hy
    replace Ou := Ou.on hy
    replace Ow := Ow.on hy
    replace HH := Lib.hid (after HH.out hy)
    clear hY8 hy U D
    rcases (show n1 ≤ n2 ∨ n2 < n1 by omega) with hn | hn
    · obtain rfl : r = ((y1, y2, y3, y4, y5, y6), true, u1, u2) := by rw [HR.out, stepOf_no (.inr (.inr (.inr hn)))]
      have x0 := fun f d os => (P.sp (D := [N + 1 + 1, N + 1 + 1 + 1]) (by simp; omega) f d os).c6.1
      have y0 := fun f d os => (Q.sp (D := [N + 1 + 1, N + 1 + 1 + 1]) (by simp; omega) f d os).c3
      go_upto_region 12 with (fail)
      have B1 := R0
      have B2 := R1
      refine wp_two [0, 0, 2, 2] 2 (N + 1 + 1) (28) (#[.int .i64 y1, .int .i64 y2, .int .i64 y3, .int .i64 y4, .int .i64 y5, .int .i64 y6]) 3 (N + 1 + 1 + 1) (46) (#[.bool true, .bool u1, .bool u2]) (by omega) (by kernel_rfl) (by kernel_rfl) ?_
      repeat (first | (refine wpQs_s ?_) | (refine wpQs_q (fun K hK => ?_); go_simp; first | (refine hK _ ?_; clear hK K) | (apply Exists.intro; refine ⟨fun _ => ?_, hK _ ?_⟩; (fail); clear hK K)))
      refine wpQs_nil ?_
      repeat (refine wpLs_skip ?_)
      refine wpLs_one ?s1 (fun vs1_ => ?_)
      case s1 =>
        intro w_ hw_ hp_
        have L2 := hp_.blk (by simp [Ds2]) B1
        obtain ⟨⟨q0, q1, q2, q3, q4, q5⟩, f0, f1, f2, f3, f4, f5⟩ := L2.c6
        go_simp
        exact two_fst (by decide) kept6 (L2.st6 _ _ _ _ _ _)
      refine wpLs_one ?s2 (fun vs2_ => ?_)
      case s2 =>
        intro w_ hw_ hp_
        have T2 := hp_.blk (by simp [Ds2]) B2
        obtain ⟨q0, q1, q2, f0, f1, f2⟩ := T2.c3
        go_simp
        exact two_snd (by decide) kept3 (T2.st3 _ _ _)
      refine wpLs_nilD ?_
      simp only [tails]
      rintro w_ k_ ⟨⟨-, r1⟩, r2⟩
      obtain ⟨⟨m0, m1, m2, m3, m4, m5⟩, -, -, -, -, -, -⟩ := (r1.1 rfl).c6
      obtain ⟨j0, j1, j2, -, -, -⟩ := (r2.2 rfl).c3
      clear r1 r2 x0 y0 B1 B2
      simp only [wpList, Exit.then]
      rename_i hKret
      refine hKret _ _ (wp_ret ?_)
      try simp only [Exit.then]
      refine bodyPost_ret (v := .tuple #[.agg #[.int .i64 y1, .int .i64 y2, .int .i64 y3, .int .i64 y4, .int .i64 y5, .int .i64 y6], .agg #[.bool true, .bool u1, .bool u2]]) (by simp [results, Try.f27, go_sem, m0, m1, m2, m3, m4, m5, j0, j1, j2]) rfl ⟨rfl, ?_⟩
      have hN_ := HN.out
      exact (HH.out).trans (k_.below (HH.out).size (fun b hb => by simp; omega))
    · obtain rfl : r = ((c1, c2, c3, c4, c5, c6), sa, true, sb) := by rw [HR.out, stepOf_yes (.inl rfl) hu hn]
      have hn2 : decide (n1 ≤ n2) = false := by simpa using hn
      have x0 := fun f d os => (Ou.sp (D := [N + 1 + 1, N + 1 + 1 + 1]) (by simp; omega) f d os).c6.1
      have y0 := fun f d os => (Ow.sp (D := [N + 1 + 1, N + 1 + 1 + 1]) (by simp; omega) f d os).c3
      go_upto_region 13 with (fail)
      have B1 := R0
      have B2 := R1
      refine wp_two [0, 0, 2, 2] 2 (N + 1 + 1) (28) (#[.int .i64 c1, .int .i64 c2, .int .i64 c3, .int .i64 c4, .int .i64 c5, .int .i64 c6]) 3 (N + 1 + 1 + 1) (46) (#[.bool sa, .bool true, .bool sb]) (by omega) (by kernel_rfl) (by kernel_rfl) ?_
      repeat (first | (refine wpQs_s ?_) | (refine wpQs_q (fun K hK => ?_); go_simp; first | (refine hK _ ?_; clear hK K) | (apply Exists.intro; refine ⟨fun _ => ?_, hK _ ?_⟩; (fail); clear hK K)))
      refine wpQs_nil ?_
      repeat (refine wpLs_skip ?_)
      refine wpLs_one ?s1 (fun vs1_ => ?_)
      case s1 =>
        intro w_ hw_ hp_
        have L2 := hp_.blk (by simp [Ds2]) B1
        obtain ⟨⟨q0, q1, q2, q3, q4, q5⟩, f0, f1, f2, f3, f4, f5⟩ := L2.c6
        go_simp
        exact two_fst (by decide) kept6 (L2.st6 _ _ _ _ _ _)
      refine wpLs_one ?s2 (fun vs2_ => ?_)
      case s2 =>
        intro w_ hw_ hp_
        have T2 := hp_.blk (by simp [Ds2]) B2
        obtain ⟨q0, q1, q2, f0, f1, f2⟩ := T2.c3
        go_simp
        exact two_snd (by decide) kept3 (T2.st3 _ _ _)
      refine wpLs_nilD ?_
      simp only [tails]
      rintro w_ k_ ⟨⟨-, r1⟩, r2⟩
      obtain ⟨⟨m0, m1, m2, m3, m4, m5⟩, -, -, -, -, -, -⟩ := (r1.1 rfl).c6
      obtain ⟨j0, j1, j2, -, -, -⟩ := (r2.2 rfl).c3
      clear r1 r2 x0 y0 B1 B2
      simp only [wpList, Exit.then]
      rename_i hKret
      refine hKret _ _ (wp_ret ?_)
      try simp only [Exit.then]
      refine bodyPost_ret (v := .tuple #[.agg #[.int .i64 c1, .int .i64 c2, .int .i64 c3, .int .i64 c4, .int .i64 c5, .int .i64 c6], .agg #[.bool sa, .bool true, .bool sb]]) (by simp [results, Try.f27, go_sem, m0, m1, m2, m3, m4, m5, j0, j1, j2]) rfl ⟨rfl, ?_⟩
      have hN_ := HN.out
      exact (HH.out).trans (k_.below (HH.out).size (fun b hb => by simp; omega))
end Go.Proofs.Ytckjpiioipkfcaa

/- The document's: a box that steps up. -/
namespace Go.Proofs.Ytckjpiioipkfcaa
open Go.RowKit Go.Shelf
attribute [local go_sem] Oper.semAt_some

set_option maxRecDepth 100000 in
set_option maxHeartbeats 8000000 in
theorem rstep_c (q : Option Addr) (n cp : Nat) (F : Nat → Int) (els : Int) (x : B6) (dx dy dz up M : Int) (hM : M ≤ 10000000000) (hM0 : 0 ≤ M) (hB : Sm6 M x) (w : World) (hq : Iq w q n F) :
    Calls Try.prog 28 #[.agg #[.slice q n cp, .int .i64 els], .agg (ag6 x), .agg #[.int .i64 dx, .int .i64 dy, .int .i64 dz], .int .i64 up] w fun r w' => r = .returned (bhT (stepV (fun c => atG n F els c.1 c.2.1 c.2.2) x dx dy dz up)) ∧ Below w.heap.size w w' := by
  obtain ⟨val, hval⟩ : ∃ val : Cl → Int, val = fun c => atG n F els c.1 c.2.1 c.2.2 := ⟨_, rfl⟩
  rw [← hval]
  have t0 := hB.bd
  have tH := (hi1_sm (val := val) (up := up) hB hM0 (by omega)).bd
  have tC := (oC_sm (val := val) (up := up) (dx := dx) (dz := dz) hB hM0 (by omega)).bd
  have tY := (st3_sm (val := val) (dx := dx) (dy := dy) (dz := dz) hB hM0 (by omega)).bd
  have C0 := fun W (h : Below w.heap.size w W) => rsmove_c q n cp F els x dx dy dz M hM hM0 hB W (hq.on h)
  have CS := fun W (h : Below w.heap.size w W) => rfStands_c q n cp F els x.1 x.2.1 x.2.2.1 x.2.2.2.1 x.2.2.2.2.1 x.2.2.2.2.2 (fun W => runder_c _ _ _ _ _ _ (by omega) (by omega) W) (hB.under hM0 (by omega)).1 (hB.under hM0 (by omega)).2 W (hq.on h)
  have C1 := fun W (h : Below w.heap.size w W) => ralong_c q n cp F els x 1 (mnI up 65536) M (by omega) hM0 hB W (hq.on h)
  have C2 := fun W (h : Below w.heap.size w W) => ralong_c q n cp F els (hi1 val x up).1 0 dx (M + 10000000) (by omega) (by omega) (hi1_sm hB hM0 (by omega)) W (hq.on h)
  have C3 := fun W (h : Below w.heap.size w W) => ralong_c q n cp F els (oA val x dx up).1 2 dz (M + 20000000) (by omega) (by omega) (oA_sm hB hM0 (by omega)) W (hq.on h)
  have C4 := fun W (h : Below w.heap.size w W) => ralong_c q n cp F els (oB val x dx dz up).1 1 (-rise val x up) (M + 30000000) (by omega) (by omega) (oB_sm hB hM0 (by omega)) W (hq.on h)
  have CW1 := fun W => rwent_c x (oC val x dx dz up).1 (by omega) (by omega) (by omega) (by omega) W
  have CW2 := fun W => rwent_c x (st3 val x dx dy dz) (by omega) (by omega) (by omega) (by omega) W
  have q1 : -9223372036854775808 ≤ (hi1 val x up).1.2.1 - x.2.1 ∧ (hi1 val x up).1.2.1 - x.2.1 ≤ 9223372036854775807 := by omega
  have q2 : -9223372036854775808 ≤ -((hi1 val x up).1.2.1 - x.2.1) ∧ -((hi1 val x up).1.2.1 - x.2.1) ≤ 9223372036854775807 := by omega
  rw [← hval] at C0 C1 C2 C3 C4
  have hv : ∀ c : Cl, atG n F els c.1 c.2.1 c.2.2 = val c := fun c => by rw [hval]
  simp only [hv] at CS
  clear hv
  clear t0 tH tC tY hM hM0 hB hq hval
  have fC : oC val x dx dz up = al6 val (oB val x dx dz up).1 1 (-rise val x up) := rfl
  have fB : oB val x dx dz up = al6 val (oA val x dx up).1 2 dz := rfl
  have fA : oA val x dx up = al6 val (hi1 val x up).1 0 dx := rfl
  have fH : hi1 val x up = al6 val x 1 (mnI up 65536) := rfl
  have fR : rise val x up = (hi1 val x up).1.2.1 - x.2.1 := rfl
  rw [← fC] at C4
  rw [← fB] at C3
  rw [← fA] at C2
  rw [← fH] at C1
  rw [fR] at C4
  have fS : unB val x = (cellsI x.1 (cutI (x.2.1 - 1)) x.2.2.1 x.2.2.2.1 x.2.1 x.2.2.2.2.2).any fun c => solB (val c) := rfl
  rw [← fS] at CS
  unfold moveT at C0
  unfold stepV
  clear fC fB fA fH fR fS
  generalize hi1 val x up = H at C1 C2 q1 q2 C4
  generalize oA val x dx up = A at C2 C3 ⊢
  generalize oB val x dx dz up = B at C3 C4 ⊢
  generalize oC val x dx dz up = C at C4 CW1 ⊢
  generalize st3 val x dx dy dz = y at C0 CW2 ⊢
  generalize hx2 val x dx dy = u0 at C0 ⊢
  generalize hy1 val x dy = u1 at C0 ⊢
  generalize hz3 val x dx dy dz = u2 at C0 ⊢
  generalize unB val x = st at CS ⊢
  generalize wentI x C.1 = n1 at CW1 ⊢
  generalize wentI x y = n2 at CW2 ⊢
  obtain ⟨r, hr⟩ : ∃ r, r = stepOf y C.1 u0 u1 u2 A.2 B.2 st up n1 n2 := ⟨_, rfl⟩
  rw [← hr]
  obtain ⟨a, b, c, d, e, f⟩ := x
  obtain ⟨y1, y2, y3, y4, y5, y6⟩ := y
  obtain ⟨⟨h1, h2, h3, h4, h5, h6⟩, sh⟩ := H
  obtain ⟨⟨a1, a2, a3, a4, a5, a6⟩, sa⟩ := A
  obtain ⟨⟨b1, b2, b3, b4, b5, b6⟩, sb⟩ := B
  obtain ⟨⟨c1, c2, c3, c4, c5, c6⟩, sc⟩ := C
  simp only [alT, ag6, ah3, bhT] at *
  obtain ⟨q1, q3⟩ := q1
  obtain ⟨q2, q4⟩ := q2
  have HR := Lib.hid hr
  clear hr
  have HC0 := Lib.hid C0
  have HC1 := Lib.hid C1
  have HC2 := Lib.hid C2
  have HC3 := Lib.hid C3
  have HC4 := Lib.hid C4
  have HCS := Lib.hid CS
  have HW1 := Lib.hid CW1
  have HW2 := Lib.hid CW2
  clear C0 C1 C2 C3 C4 CS CW1 CW2
  obtain ⟨W, hW⟩ : ∃ W, W = ((((w.alloc (.cells #[.slice q n cp, .int .i64 els] 24)).alloc (.cells #[.int .i64 a, .int .i64 b, .int .i64 c, .int .i64 d, .int .i64 e, .int .i64 f] 28)).alloc (.cells #[.int .i64 dx, .int .i64 dy, .int .i64 dz] 26)).alloc (.cells #[.int .i64 0, .int .i64 0, .int .i64 0, .int .i64 0, .int .i64 0, .int .i64 0] 28)).alloc (.cells #[.bool false, .bool false, .bool false] 45) := ⟨_, rfl⟩
  have H : Below w.heap.size w W := by rw [hW]; go_grown
  have hs : W.heap.size = w.heap.size + 5 := by rw [hW]; simp
  obtain ⟨N, hN⟩ : ∃ N, N = w.heap.size := ⟨_, rfl⟩
  rw [← hN] at hs
  have HS := Lib.hid hs
  clear hs
  have G : Blk W N 24 _ := Blk.eqw hW.symm (by rw [hN]; exact ((((Blk.new' rfl).alloc _).alloc _).alloc _).alloc _)
  have U : Blk W (N + 1) 28 _ := Blk.eqw hW.symm (by rw [hN]; exact (((Blk.new' (by simp)).alloc _).alloc _).alloc _)
  have D : Blk W (N + 1 + 1) 26 _ := Blk.eqw hW.symm (by rw [hN]; exact ((Blk.new' (by simp)).alloc _).alloc _)
  have R0 : Blk W (N + 1 + 1 + 1) 28 _ := Blk.eqw hW.symm (by rw [hN]; exact (Blk.new' (by simp)).alloc _)
  have R1 : Blk W (N + 1 + 1 + 1 + 1) 45 _ := Blk.eqw hW.symm (by rw [hN]; exact Blk.new' (by simp))
  go_enter Try.func28, Try.ntmps28
  go_upto_region 1 with (fail)
  rw [← hW, ← hN]
  have HN := Lib.hid hN
  clear hW hN
  obtain ⟨u0', uu1, uu2, uu3, uu4, uu5⟩ := U.c6.1
  obtain ⟨v0, v1, v2, -, -, -⟩ := D.c3
  have g0 := G.cell 0
  have gg1 := G.cell 1
  go_upto_region 2 with (go_at_call 25; refine (HC0.out _ H).mono ?_; rintro e_ w1 ⟨rfl, k1⟩)
  generalize hV : World.alloc (World.alloc w1 _) _ = Y1
  have hy : Below w1.heap.size w1 Y1 := by rw [← hV]; go_grown
  have P : Blk Y1 w1.heap.size 28 #[.int .i64 y1, .int .i64 y2, .int .i64 y3, .int .i64 y4, .int .i64 y5, .int .i64 y6] := Blk.eqw hV ((Blk.new' rfl).alloc _)
  have Q : Blk Y1 (w1.heap.size + 1) 45 #[.bool u0, .bool u1, .bool u2] := Blk.eqw hV (Blk.new' (by simp))
  have hgp : N + 5 ≤ w1.heap.size := by rw [← HS.out]; exact k1.size
  replace G := G.on k1
  replace U := U.on k1
  replace D := D.on k1
  replace R0 := R0.on k1
  replace R1 := R1.on k1
  replace G := G.on hy
  replace U := U.on hy
  replace D := D.on hy
  replace R0 := R0.on hy
  replace R1 := R1.on hy
  replace H := after (after H k1) hy
  clear hV hy k1 u0' uu1 uu2 uu3 uu4 uu5 v0 v1 v2 g0 gg1
  generalize w1.heap.size = gp at P Q hgp ⊢
  have HH := Lib.hid H
  clear H HC0
  obtain ⟨u0', uu1, uu2, uu3, uu4, uu5⟩ := U.c6.1
  have g0 := G.cell 0
  have gg1 := G.cell 1
  go_upto_region 3 with (go_at_call 46; refine (HCS.out _ HH.out).mono ?_; rintro e_ w2 ⟨rfl, k2⟩)
  replace G := G.on k2
  replace U := U.on k2
  replace D := D.on k2
  replace P := P.on k2
  replace Q := Q.on k2
  replace R0 := R0.on k2
  replace R1 := R1.on k2
  have HH2 := Lib.hid (after HH.out k2)
  clear u0' uu1 uu2 uu3 uu4 uu5 g0 gg1 HH k2
  have HH := HH2
  clear HH2
  have ways : (u0 = false ∧ u2 = false) ∨ (u0 = false ∧ u2 = true ∧ st = false) ∨ (u0 = true ∧ st = false) ∨ (u0 = false ∧ u2 = true ∧ st = true ∧ up ≤ 0) ∨ (u0 = true ∧ st = true ∧ up ≤ 0) ∨ (u0 = false ∧ u2 = true ∧ 0 < up ∧ st = true) ∨ (u0 = true ∧ 0 < up ∧ st = true) := by
    cases u0 <;> cases u2 <;> cases st <;> simp <;> omega
  obtain ⟨t0, t1, t2, -, -, -⟩ := Q.c3
  rcases ways with ⟨rfl, rfl⟩ | ⟨rfl, rfl, rfl⟩ | ⟨rfl, rfl⟩ | ⟨rfl, rfl, rfl, hu⟩ | ⟨rfl, rfl, hu⟩ | ⟨rfl, rfl, hu, rfl⟩ | ⟨rfl, hu, rfl⟩
  · obtain rfl : r = ((y1, y2, y3, y4, y5, y6), false, u1, false) := by rw [HR.out, stepOf_no (.inl ⟨rfl, rfl⟩)]
    have x0 := fun f d os => (P.sp (D := [N + 1 + 1 + 1, N + 1 + 1 + 1 + 1]) (by simp; omega) f d os).c6.1
    have y0 := fun f d os => (Q.sp (D := [N + 1 + 1 + 1, N + 1 + 1 + 1 + 1]) (by simp; omega) f d os).c3
    go_upto_region 4 with (fail)
    have B1 := R0
    have B2 := R1
    refine wp_two [0, 0, 2, 2] 2 (N + 1 + 1 + 1) (28) (#[.int .i64 y1, .int .i64 y2, .int .i64 y3, .int .i64 y4, .int .i64 y5, .int .i64 y6]) 3 (N + 1 + 1 + 1 + 1) (45) (#[.bool false, .bool u1, .bool false]) (by omega) (by kernel_rfl) (by kernel_rfl) ?_
    repeat (first | (refine wpQs_s ?_) | (refine wpQs_q (fun K hK => ?_); go_simp; first | (refine hK _ ?_; clear hK K) | (apply Exists.intro; refine ⟨fun _ => ?_, hK _ ?_⟩; (fail); clear hK K)))
    refine wpQs_nil ?_
    repeat (refine wpLs_skip ?_)
    refine wpLs_one ?s1 (fun vs1_ => ?_)
    case s1 =>
      intro w_ hw_ hp_
      have L2 := hp_.blk (by simp [Ds2]) B1
      obtain ⟨⟨q0, q1, q2, q3, q4, q5⟩, f0, f1, f2, f3, f4, f5⟩ := L2.c6
      go_simp
      exact two_fst (by decide) kept6 (L2.st6 _ _ _ _ _ _)
    refine wpLs_one ?s2 (fun vs2_ => ?_)
    case s2 =>
      intro w_ hw_ hp_
      have T2 := hp_.blk (by simp [Ds2]) B2
      obtain ⟨q0, q1, q2, f0, f1, f2⟩ := T2.c3
      go_simp
      exact two_snd (by decide) kept3 (T2.st3 _ _ _)
    refine wpLs_nilD ?_
    simp only [tails]
    rintro w_ k_ ⟨⟨-, r1⟩, r2⟩
    obtain ⟨⟨m0, m1, m2, m3, m4, m5⟩, -, -, -, -, -, -⟩ := (r1.1 rfl).c6
    obtain ⟨j0, j1, j2, -, -, -⟩ := (r2.2 rfl).c3
    clear r1 r2 x0 y0 B1 B2
    simp only [wpList, Exit.then]
    rename_i hKret
    refine hKret _ _ (wp_ret ?_)
    try simp only [Exit.then]
    refine bodyPost_ret (v := .tuple #[.agg #[.int .i64 y1, .int .i64 y2, .int .i64 y3, .int .i64 y4, .int .i64 y5, .int .i64 y6], .agg #[.bool false, .bool u1, .bool false]]) (by simp [results, Try.f28, go_sem, m0, m1, m2, m3, m4, m5, j0, j1, j2]) rfl ⟨rfl, ?_⟩
    have hN_ := HN.out
    exact (HH.out).trans (k_.below (HH.out).size (fun b hb => by simp; omega))
  · obtain rfl : r = ((y1, y2, y3, y4, y5, y6), false, u1, true) := by rw [HR.out, stepOf_no (.inr (.inr (.inl rfl)))]
    have x0 := fun f d os => (P.sp (D := [N + 1 + 1 + 1, N + 1 + 1 + 1 + 1]) (by simp; omega) f d os).c6.1
    have y0 := fun f d os => (Q.sp (D := [N + 1 + 1 + 1, N + 1 + 1 + 1 + 1]) (by simp; omega) f d os).c3
    go_upto_region 4 with (fail)
    have B1 := R0
    have B2 := R1
    refine wp_two [0, 0, 2, 2] 2 (N + 1 + 1 + 1) (28) (#[.int .i64 y1, .int .i64 y2, .int .i64 y3, .int .i64 y4, .int .i64 y5, .int .i64 y6]) 3 (N + 1 + 1 + 1 + 1) (45) (#[.bool false, .bool u1, .bool true]) (by omega) (by kernel_rfl) (by kernel_rfl) ?_
    repeat (first | (refine wpQs_s ?_) | (refine wpQs_q (fun K hK => ?_); go_simp; first | (refine hK _ ?_; clear hK K) | (apply Exists.intro; refine ⟨fun _ => ?_, hK _ ?_⟩; (fail); clear hK K)))
    refine wpQs_nil ?_
    repeat (refine wpLs_skip ?_)
    refine wpLs_one ?s1 (fun vs1_ => ?_)
    case s1 =>
      intro w_ hw_ hp_
      have L2 := hp_.blk (by simp [Ds2]) B1
      obtain ⟨⟨q0, q1, q2, q3, q4, q5⟩, f0, f1, f2, f3, f4, f5⟩ := L2.c6
      go_simp
      exact two_fst (by decide) kept6 (L2.st6 _ _ _ _ _ _)
    refine wpLs_one ?s2 (fun vs2_ => ?_)
    case s2 =>
      intro w_ hw_ hp_
      have T2 := hp_.blk (by simp [Ds2]) B2
      obtain ⟨q0, q1, q2, f0, f1, f2⟩ := T2.c3
      go_simp
      exact two_snd (by decide) kept3 (T2.st3 _ _ _)
    refine wpLs_nilD ?_
    simp only [tails]
    rintro w_ k_ ⟨⟨-, r1⟩, r2⟩
    obtain ⟨⟨m0, m1, m2, m3, m4, m5⟩, -, -, -, -, -, -⟩ := (r1.1 rfl).c6
    obtain ⟨j0, j1, j2, -, -, -⟩ := (r2.2 rfl).c3
    clear r1 r2 x0 y0 B1 B2
    simp only [wpList, Exit.then]
    rename_i hKret
    refine hKret _ _ (wp_ret ?_)
    try simp only [Exit.then]
    refine bodyPost_ret (v := .tuple #[.agg #[.int .i64 y1, .int .i64 y2, .int .i64 y3, .int .i64 y4, .int .i64 y5, .int .i64 y6], .agg #[.bool false, .bool u1, .bool true]]) (by simp [results, Try.f28, go_sem, m0, m1, m2, m3, m4, m5, j0, j1, j2]) rfl ⟨rfl, ?_⟩
    have hN_ := HN.out
    exact (HH.out).trans (k_.below (HH.out).size (fun b hb => by simp; omega))
  · obtain rfl : r = ((y1, y2, y3, y4, y5, y6), true, u1, u2) := by rw [HR.out, stepOf_no (.inr (.inr (.inl rfl)))]
    have x0 := fun f d os => (P.sp (D := [N + 1 + 1 + 1, N + 1 + 1 + 1 + 1]) (by simp; omega) f d os).c6.1
    have y0 := fun f d os => (Q.sp (D := [N + 1 + 1 + 1, N + 1 + 1 + 1 + 1]) (by simp; omega) f d os).c3
    go_upto_region 4 with (fail)
    have B1 := R0
    have B2 := R1
    refine wp_two [0, 0, 2, 2] 2 (N + 1 + 1 + 1) (28) (#[.int .i64 y1, .int .i64 y2, .int .i64 y3, .int .i64 y4, .int .i64 y5, .int .i64 y6]) 3 (N + 1 + 1 + 1 + 1) (45) (#[.bool true, .bool u1, .bool u2]) (by omega) (by kernel_rfl) (by kernel_rfl) ?_
    repeat (first | (refine wpQs_s ?_) | (refine wpQs_q (fun K hK => ?_); go_simp; first | (refine hK _ ?_; clear hK K) | (apply Exists.intro; refine ⟨fun _ => ?_, hK _ ?_⟩; (fail); clear hK K)))
    refine wpQs_nil ?_
    repeat (refine wpLs_skip ?_)
    refine wpLs_one ?s1 (fun vs1_ => ?_)
    case s1 =>
      intro w_ hw_ hp_
      have L2 := hp_.blk (by simp [Ds2]) B1
      obtain ⟨⟨q0, q1, q2, q3, q4, q5⟩, f0, f1, f2, f3, f4, f5⟩ := L2.c6
      go_simp
      exact two_fst (by decide) kept6 (L2.st6 _ _ _ _ _ _)
    refine wpLs_one ?s2 (fun vs2_ => ?_)
    case s2 =>
      intro w_ hw_ hp_
      have T2 := hp_.blk (by simp [Ds2]) B2
      obtain ⟨q0, q1, q2, f0, f1, f2⟩ := T2.c3
      go_simp
      exact two_snd (by decide) kept3 (T2.st3 _ _ _)
    refine wpLs_nilD ?_
    simp only [tails]
    rintro w_ k_ ⟨⟨-, r1⟩, r2⟩
    obtain ⟨⟨m0, m1, m2, m3, m4, m5⟩, -, -, -, -, -, -⟩ := (r1.1 rfl).c6
    obtain ⟨j0, j1, j2, -, -, -⟩ := (r2.2 rfl).c3
    clear r1 r2 x0 y0 B1 B2
    simp only [wpList, Exit.then]
    rename_i hKret
    refine hKret _ _ (wp_ret ?_)
    try simp only [Exit.then]
    refine bodyPost_ret (v := .tuple #[.agg #[.int .i64 y1, .int .i64 y2, .int .i64 y3, .int .i64 y4, .int .i64 y5, .int .i64 y6], .agg #[.bool true, .bool u1, .bool u2]]) (by simp [results, Try.f28, go_sem, m0, m1, m2, m3, m4, m5, j0, j1, j2]) rfl ⟨rfl, ?_⟩
    have hN_ := HN.out
    exact (HH.out).trans (k_.below (HH.out).size (fun b hb => by simp; omega))
  · obtain rfl : r = ((y1, y2, y3, y4, y5, y6), false, u1, true) := by rw [HR.out, stepOf_no (.inr (.inl hu))]
    have x0 := fun f d os => (P.sp (D := [N + 1 + 1 + 1, N + 1 + 1 + 1 + 1]) (by simp; omega) f d os).c6.1
    have y0 := fun f d os => (Q.sp (D := [N + 1 + 1 + 1, N + 1 + 1 + 1 + 1]) (by simp; omega) f d os).c3
    go_upto_region 4 with (fail)
    have B1 := R0
    have B2 := R1
    refine wp_two [0, 0, 2, 2] 2 (N + 1 + 1 + 1) (28) (#[.int .i64 y1, .int .i64 y2, .int .i64 y3, .int .i64 y4, .int .i64 y5, .int .i64 y6]) 3 (N + 1 + 1 + 1 + 1) (45) (#[.bool false, .bool u1, .bool true]) (by omega) (by kernel_rfl) (by kernel_rfl) ?_
    repeat (first | (refine wpQs_s ?_) | (refine wpQs_q (fun K hK => ?_); go_simp; first | (refine hK _ ?_; clear hK K) | (apply Exists.intro; refine ⟨fun _ => ?_, hK _ ?_⟩; (fail); clear hK K)))
    refine wpQs_nil ?_
    repeat (refine wpLs_skip ?_)
    refine wpLs_one ?s1 (fun vs1_ => ?_)
    case s1 =>
      intro w_ hw_ hp_
      have L2 := hp_.blk (by simp [Ds2]) B1
      obtain ⟨⟨q0, q1, q2, q3, q4, q5⟩, f0, f1, f2, f3, f4, f5⟩ := L2.c6
      go_simp
      exact two_fst (by decide) kept6 (L2.st6 _ _ _ _ _ _)
    refine wpLs_one ?s2 (fun vs2_ => ?_)
    case s2 =>
      intro w_ hw_ hp_
      have T2 := hp_.blk (by simp [Ds2]) B2
      obtain ⟨q0, q1, q2, f0, f1, f2⟩ := T2.c3
      go_simp
      exact two_snd (by decide) kept3 (T2.st3 _ _ _)
    refine wpLs_nilD ?_
    simp only [tails]
    rintro w_ k_ ⟨⟨-, r1⟩, r2⟩
    obtain ⟨⟨m0, m1, m2, m3, m4, m5⟩, -, -, -, -, -, -⟩ := (r1.1 rfl).c6
    obtain ⟨j0, j1, j2, -, -, -⟩ := (r2.2 rfl).c3
    clear r1 r2 x0 y0 B1 B2
    simp only [wpList, Exit.then]
    rename_i hKret
    refine hKret _ _ (wp_ret ?_)
    try simp only [Exit.then]
    refine bodyPost_ret (v := .tuple #[.agg #[.int .i64 y1, .int .i64 y2, .int .i64 y3, .int .i64 y4, .int .i64 y5, .int .i64 y6], .agg #[.bool false, .bool u1, .bool true]]) (by simp [results, Try.f28, go_sem, m0, m1, m2, m3, m4, m5, j0, j1, j2]) rfl ⟨rfl, ?_⟩
    have hN_ := HN.out
    exact (HH.out).trans (k_.below (HH.out).size (fun b hb => by simp; omega))
  · obtain rfl : r = ((y1, y2, y3, y4, y5, y6), true, u1, u2) := by rw [HR.out, stepOf_no (.inr (.inl hu))]
    have x0 := fun f d os => (P.sp (D := [N + 1 + 1 + 1, N + 1 + 1 + 1 + 1]) (by simp; omega) f d os).c6.1
    have y0 := fun f d os => (Q.sp (D := [N + 1 + 1 + 1, N + 1 + 1 + 1 + 1]) (by simp; omega) f d os).c3
    go_upto_region 4 with (fail)
    have B1 := R0
    have B2 := R1
    refine wp_two [0, 0, 2, 2] 2 (N + 1 + 1 + 1) (28) (#[.int .i64 y1, .int .i64 y2, .int .i64 y3, .int .i64 y4, .int .i64 y5, .int .i64 y6]) 3 (N + 1 + 1 + 1 + 1) (45) (#[.bool true, .bool u1, .bool u2]) (by omega) (by kernel_rfl) (by kernel_rfl) ?_
    repeat (first | (refine wpQs_s ?_) | (refine wpQs_q (fun K hK => ?_); go_simp; first | (refine hK _ ?_; clear hK K) | (apply Exists.intro; refine ⟨fun _ => ?_, hK _ ?_⟩; (fail); clear hK K)))
    refine wpQs_nil ?_
    repeat (refine wpLs_skip ?_)
    refine wpLs_one ?s1 (fun vs1_ => ?_)
    case s1 =>
      intro w_ hw_ hp_
      have L2 := hp_.blk (by simp [Ds2]) B1
      obtain ⟨⟨q0, q1, q2, q3, q4, q5⟩, f0, f1, f2, f3, f4, f5⟩ := L2.c6
      go_simp
      exact two_fst (by decide) kept6 (L2.st6 _ _ _ _ _ _)
    refine wpLs_one ?s2 (fun vs2_ => ?_)
    case s2 =>
      intro w_ hw_ hp_
      have T2 := hp_.blk (by simp [Ds2]) B2
      obtain ⟨q0, q1, q2, f0, f1, f2⟩ := T2.c3
      go_simp
      exact two_snd (by decide) kept3 (T2.st3 _ _ _)
    refine wpLs_nilD ?_
    simp only [tails]
    rintro w_ k_ ⟨⟨-, r1⟩, r2⟩
    obtain ⟨⟨m0, m1, m2, m3, m4, m5⟩, -, -, -, -, -, -⟩ := (r1.1 rfl).c6
    obtain ⟨j0, j1, j2, -, -, -⟩ := (r2.2 rfl).c3
    clear r1 r2 x0 y0 B1 B2
    simp only [wpList, Exit.then]
    rename_i hKret
    refine hKret _ _ (wp_ret ?_)
    try simp only [Exit.then]
    refine bodyPost_ret (v := .tuple #[.agg #[.int .i64 y1, .int .i64 y2, .int .i64 y3, .int .i64 y4, .int .i64 y5, .int .i64 y6], .agg #[.bool true, .bool u1, .bool u2]]) (by simp [results, Try.f28, go_sem, m0, m1, m2, m3, m4, m5, j0, j1, j2]) rfl ⟨rfl, ?_⟩
    have hN_ := HN.out
    exact (HH.out).trans (k_.below (HH.out).size (fun b hb => by simp; omega))
  · have hu1 : decide (up ≤ 0) = false := by simpa using hu
    have hmn := @run_mn Try.prog
    obtain ⟨u0', uu1, uu2, uu3, uu4, uu5⟩ := U.c6.1
    have g0 := G.cell 0
    have gg1 := G.cell 1
    go_upto_region 6 with (go_at_call 41; refine (HC1.out _ HH.out).mono ?_; rintro e_ w3 ⟨rfl, k3⟩)
    generalize hV : World.alloc w3 _ = Y3
    have hy : Below w3.heap.size w3 Y3 := by rw [← hV]; go_grown
    have Hb : Blk Y3 w3.heap.size 28 #[.int .i64 h1, .int .i64 h2, .int .i64 h3, .int .i64 h4, .int .i64 h5, .int .i64 h6] := Blk.eqw hV (Blk.new' rfl)
    replace G := G.on k3
    replace U := U.on k3
    replace D := D.on k3
    replace P := P.on k3
    replace Q := Q.on k3
    replace R0 := R0.on k3
    replace R1 := R1.on k3
    replace G := G.on hy
    replace U := U.on hy
    replace D := D.on hy
    replace P := P.on hy
    replace Q := Q.on hy
    replace R0 := R0.on hy
    replace R1 := R1.on hy
    have HH2 := Lib.hid (after (after HH.out k3) hy)
    clear hV hy k3 HH t0 t1 t2 u0' uu1 uu2 uu3 uu4 uu5 g0 gg1
    have HH := HH2
    clear HH2
    generalize w3.heap.size = g3 at Hb ⊢
    obtain ⟨u0', uu1, uu2, uu3, uu4, uu5⟩ := U.c6.1
    obtain ⟨x0, x1, x2, x3, x4, x5⟩ := Hb.c6.1
    obtain ⟨v0, v1, v2, -, -, -⟩ := D.c3
    have g0 := G.cell 0
    have gg1 := G.cell 1
    go_upto_region 8 with (go_at_call 41; refine (HC2.out _ HH.out).mono ?_; rintro e_ w4 ⟨rfl, k3⟩)
    generalize hV : World.alloc w4 _ = Y4
    have hy : Below w4.heap.size w4 Y4 := by rw [← hV]; go_grown
    have Ha : Blk Y4 w4.heap.size 28 #[.int .i64 a1, .int .i64 a2, .int .i64 a3, .int .i64 a4, .int .i64 a5, .int .i64 a6] := Blk.eqw hV (Blk.new' rfl)
    replace G := G.on k3
    replace U := U.on k3
    replace D := D.on k3
    replace P := P.on k3
    replace Q := Q.on k3
    replace R0 := R0.on k3
    replace R1 := R1.on k3
    replace G := G.on hy
    replace U := U.on hy
    replace D := D.on hy
    replace P := P.on hy
    replace Q := Q.on hy
    replace R0 := R0.on hy
    replace R1 := R1.on hy
    have HH2 := Lib.hid (after (after HH.out k3) hy)
    clear hV hy k3 HH Hb u0' uu1 uu2 uu3 uu4 uu5 g0 gg1 x0 x1 x2 x3 x4 x5 v0 v1 v2
    have HH := HH2
    clear HH2
    generalize w4.heap.size = g_w4 at Ha ⊢
    obtain ⟨u0', uu1, uu2, uu3, uu4, uu5⟩ := U.c6.1
    obtain ⟨x0, x1, x2, x3, x4, x5⟩ := Ha.c6.1
    obtain ⟨v0, v1, v2, -, -, -⟩ := D.c3
    have g0 := G.cell 0
    have gg1 := G.cell 1
    go_upto_region 9 with (go_at_call 41; refine (HC3.out _ HH.out).mono ?_; rintro e_ w5 ⟨rfl, k3⟩)
    generalize hV : World.alloc w5 _ = Y5
    have hy : Below w5.heap.size w5 Y5 := by rw [← hV]; go_grown
    have Hc : Blk Y5 w5.heap.size 28 #[.int .i64 b1, .int .i64 b2, .int .i64 b3, .int .i64 b4, .int .i64 b5, .int .i64 b6] := Blk.eqw hV (Blk.new' rfl)
    replace G := G.on k3
    replace U := U.on k3
    replace D := D.on k3
    replace P := P.on k3
    replace Q := Q.on k3
    replace R0 := R0.on k3
    replace R1 := R1.on k3
    replace G := G.on hy
    replace U := U.on hy
    replace D := D.on hy
    replace P := P.on hy
    replace Q := Q.on hy
    replace R0 := R0.on hy
    replace R1 := R1.on hy
    have HH2 := Lib.hid (after (after HH.out k3) hy)
    clear hV hy k3 HH Ha u0' uu1 uu2 uu3 uu4 uu5 g0 gg1 x0 x1 x2 x3 x4 x5 v0 v1 v2
    have HH := HH2
    clear HH2
    generalize w5.heap.size = g_w5 at Hc ⊢
    obtain ⟨u0', uu1, uu2, uu3, uu4, uu5⟩ := U.c6.1
    obtain ⟨x0, x1, x2, x3, x4, x5⟩ := Hc.c6.1
    obtain ⟨v0, v1, v2, -, -, -⟩ := D.c3
    have g0 := G.cell 0
    have gg1 := G.cell 1
    go_upto_region 10 with (go_at_call 41; refine (HC4.out _ HH.out).mono ?_; rintro e_ w6 ⟨rfl, k3⟩)
    generalize hV : World.alloc w6 _ = Y6
    have hy : Below w6.heap.size w6 Y6 := by rw [← hV]; go_grown
    have Hd : Blk Y6 w6.heap.size 28 #[.int .i64 c1, .int .i64 c2, .int .i64 c3, .int .i64 c4, .int .i64 c5, .int .i64 c6] := Blk.eqw hV (Blk.new' rfl)
    replace G := G.on k3
    replace U := U.on k3
    replace D := D.on k3
    replace P := P.on k3
    replace Q := Q.on k3
    replace R0 := R0.on k3
    replace R1 := R1.on k3
    replace G := G.on hy
    replace U := U.on hy
    replace D := D.on hy
    replace P := P.on hy
    replace Q := Q.on hy
    replace R0 := R0.on hy
    replace R1 := R1.on hy
    have HH2 := Lib.hid (after (after HH.out k3) hy)
    clear hV hy k3 HH Hc u0' uu1 uu2 uu3 uu4 uu5 g0 gg1 x0 x1 x2 x3 x4 x5 v0 v1 v2
    have HH := HH2
    clear HH2
    generalize w6.heap.size = g_w6 at Hd ⊢
    obtain ⟨x0, x1, x2, x3, x4, x5⟩ := Hd.re6
    obtain ⟨v0, v1, v2, v3, v4, v5⟩ := P.re6
    obtain ⟨u0', uu1, uu2, uu3, uu4, uu5⟩ := U.re6
    refine wp_region_quiet_below (by kernel_rfl) (by kernel_rfl) ?_
    repeat (go_big_quiet_step (first | (with_reducible exact Calls.regrown_of (HW1.out _)) | (with_reducible exact Calls.regrown_of (HW2.out _))))
    refine wpQuiet_nil ?_
    intro w' hw'
    obtain ⟨rg, rfl⟩ := hw'
    clear v0 v1 v2 v3 v4 v5 x0 x1 x2 x3 x4 x5 u0' uu1 uu2 uu3 uu4 uu5
    obtain ⟨Y8, hY8⟩ : ∃ Y8, Y8 = Go.Sort.grow (redrawn Y6 rg.d) rg.os := ⟨_, rfl⟩
    rw [← hY8]
    have hy : Below Y6.heap.size Y6 Y8 := by rw [hY8]; exact below_regrown _ _ _
    replace P := P.on hy
    replace Q := Q.on hy
    replace R0 := R0.on hy
    replace R1 := R1.on hy
    replace Hd := Hd.on hy
    have HH2 := Lib.hid (after HH.out hy)
    clear hY8 hy U D G HH
    have HH := HH2
    clear HH2
    rcases (show n1 ≤ n2 ∨ n2 < n1 by omega) with hn | hn
    · obtain rfl : r = ((y1, y2, y3, y4, y5, y6), false, u1, true) := by rw [HR.out, stepOf_no (.inr (.inr (.inr hn)))]
      have hn2 : decide (n2 < n1) = false := by simpa using hn
      have x0 := fun f d os => (P.sp (D := [N + 1 + 1 + 1, N + 1 + 1 + 1 + 1]) (by simp; omega) f d os).c6.1
      have y0 := fun f d os => (Q.sp (D := [N + 1 + 1 + 1, N + 1 + 1 + 1 + 1]) (by simp; omega) f d os).c3
      go_upto_region 12 with (fail)
      have B1 := R0
      have B2 := R1
      refine wp_two [0, 0, 2, 2] 2 (N + 1 + 1 + 1) (28) (#[.int .i64 y1, .int .i64 y2, .int .i64 y3, .int .i64 y4, .int .i64 y5, .int .i64 y6]) 3 (N + 1 + 1 + 1 + 1) (45) (#[.bool false, .bool u1, .bool true]) (by omega) (by kernel_rfl) (by kernel_rfl) ?_
      repeat (first | (refine wpQs_s ?_) | (refine wpQs_q (fun K hK => ?_); go_simp; first | (refine hK _ ?_; clear hK K) | (apply Exists.intro; refine ⟨fun _ => ?_, hK _ ?_⟩; (fail); clear hK K)))
      refine wpQs_nil ?_
      repeat (refine wpLs_skip ?_)
      refine wpLs_one ?s1 (fun vs1_ => ?_)
      case s1 =>
        intro w_ hw_ hp_
        have L2 := hp_.blk (by simp [Ds2]) B1
        obtain ⟨⟨q0, q1, q2, q3, q4, q5⟩, f0, f1, f2, f3, f4, f5⟩ := L2.c6
        go_simp
        exact two_fst (by decide) kept6 (L2.st6 _ _ _ _ _ _)
      refine wpLs_one ?s2 (fun vs2_ => ?_)
      case s2 =>
        intro w_ hw_ hp_
        have T2 := hp_.blk (by simp [Ds2]) B2
        obtain ⟨q0, q1, q2, f0, f1, f2⟩ := T2.c3
        go_simp
        exact two_snd (by decide) kept3 (T2.st3 _ _ _)
      refine wpLs_nilD ?_
      simp only [tails]
      rintro w_ k_ ⟨⟨-, r1⟩, r2⟩
      obtain ⟨⟨m0, m1, m2, m3, m4, m5⟩, -, -, -, -, -, -⟩ := (r1.1 rfl).c6
      obtain ⟨j0, j1, j2, -, -, -⟩ := (r2.2 rfl).c3
      clear r1 r2 x0 y0 B1 B2
      simp only [wpList, Exit.then]
      rename_i hKret
      refine hKret _ _ (wp_ret ?_)
      try simp only [Exit.then]
      refine bodyPost_ret (v := .tuple #[.agg #[.int .i64 y1, .int .i64 y2, .int .i64 y3, .int .i64 y4, .int .i64 y5, .int .i64 y6], .agg #[.bool false, .bool u1, .bool true]]) (by simp [results, Try.f28, go_sem, m0, m1, m2, m3, m4, m5, j0, j1, j2]) rfl ⟨rfl, ?_⟩
      have hN_ := HN.out
      exact (HH.out).trans (k_.below (HH.out).size (fun b hb => by simp; omega))
    · obtain rfl : r = ((c1, c2, c3, c4, c5, c6), sa, true, sb) := by rw [HR.out, stepOf_yes (.inr rfl) hu hn]
      obtain ⟨x0, x1, x2, x3, x4, x5⟩ := Hd.c6.1
      obtain ⟨⟨r0, r1, r2, r3, r4, r5⟩, z0, z1, z2, z3, z4, z5⟩ := R0.c6
      obtain ⟨t0, t1, t2, tf0, tf1, tf2⟩ := R1.c3
      repeat (first | go_skip | go_guarded | go_step | go_upon | go_back)
      have hNw := HN.out
      have K0 := HH.out
      have X0 := ((((R0.st6 (.int .i64 c1) (.int .i64 c2) (.int .i64 c3) (.int .i64 c4) (.int .i64 c5) (.int .i64 c6)).far (p := ⟨N + 1 + 1 + 1 + 1, 0, none⟩) (by dsimp only; omega) (.bool sa)).far (p := ⟨N + 1 + 1 + 1 + 1, 1, none⟩) (by dsimp only; omega) (.bool true)).far (p := ⟨N + 1 + 1 + 1 + 1, 2, none⟩) (by dsimp only; omega) (.bool sb))
      have X1 := (sx6_far R1 (show N + 1 + 1 + 1 + 1 ≠ N + 1 + 1 + 1 by omega) (.int .i64 c1) (.int .i64 c2) (.int .i64 c3) (.int .i64 c4) (.int .i64 c5) (.int .i64 c6)).st3 (.bool sa) (.bool true) (.bool sb)
      obtain ⟨⟨m0, m1, m2, m3, m4, m5⟩, -, -, -, -, -, -⟩ := X0.c6
      obtain ⟨j0, j1, j2, -, -, -⟩ := X1.c3
      refine bodyPost_ret (v := .tuple #[.agg #[.int .i64 c1, .int .i64 c2, .int .i64 c3, .int .i64 c4, .int .i64 c5, .int .i64 c6], .agg #[.bool sa, .bool true, .bool sb]]) (by simp [results, Try.f28, go_sem, m0, m1, m2, m3, m4, m5, j0, j1, j2]) rfl ⟨rfl, ?_⟩
      exact (((sx6_below K0 (by omega) _ _ _ _ _ _).setCell (p := ⟨N + 1 + 1 + 1 + 1, 0, none⟩) (by dsimp only; omega) _).setCell (p := ⟨N + 1 + 1 + 1 + 1, 1, none⟩) (by dsimp only; omega) _).setCell (p := ⟨N + 1 + 1 + 1 + 1, 2, none⟩) (by dsimp only; omega) _
  · have hu1 : decide (up ≤ 0) = false := by simpa using hu
    have hmn := @run_mn Try.prog
    obtain ⟨u0', uu1, uu2, uu3, uu4, uu5⟩ := U.c6.1
    have g0 := G.cell 0
    have gg1 := G.cell 1
    go_upto_region 6 with (go_at_call 41; refine (HC1.out _ HH.out).mono ?_; rintro e_ w3 ⟨rfl, k3⟩)
    generalize hV : World.alloc w3 _ = Y3
    have hy : Below w3.heap.size w3 Y3 := by rw [← hV]; go_grown
    have Hb : Blk Y3 w3.heap.size 28 #[.int .i64 h1, .int .i64 h2, .int .i64 h3, .int .i64 h4, .int .i64 h5, .int .i64 h6] := Blk.eqw hV (Blk.new' rfl)
    replace G := G.on k3
    replace U := U.on k3
    replace D := D.on k3
    replace P := P.on k3
    replace Q := Q.on k3
    replace R0 := R0.on k3
    replace R1 := R1.on k3
    replace G := G.on hy
    replace U := U.on hy
    replace D := D.on hy
    replace P := P.on hy
    replace Q := Q.on hy
    replace R0 := R0.on hy
    replace R1 := R1.on hy
    have HH2 := Lib.hid (after (after HH.out k3) hy)
    clear hV hy k3 HH t0 t1 t2 u0' uu1 uu2 uu3 uu4 uu5 g0 gg1
    have HH := HH2
    clear HH2
    generalize w3.heap.size = g3 at Hb ⊢
    obtain ⟨u0', uu1, uu2, uu3, uu4, uu5⟩ := U.c6.1
    obtain ⟨x0, x1, x2, x3, x4, x5⟩ := Hb.c6.1
    obtain ⟨v0, v1, v2, -, -, -⟩ := D.c3
    have g0 := G.cell 0
    have gg1 := G.cell 1
    go_upto_region 8 with (go_at_call 41; refine (HC2.out _ HH.out).mono ?_; rintro e_ w4 ⟨rfl, k3⟩)
    generalize hV : World.alloc w4 _ = Y4
    have hy : Below w4.heap.size w4 Y4 := by rw [← hV]; go_grown
    have Ha : Blk Y4 w4.heap.size 28 #[.int .i64 a1, .int .i64 a2, .int .i64 a3, .int .i64 a4, .int .i64 a5, .int .i64 a6] := Blk.eqw hV (Blk.new' rfl)
    replace G := G.on k3
    replace U := U.on k3
    replace D := D.on k3
    replace P := P.on k3
    replace Q := Q.on k3
    replace R0 := R0.on k3
    replace R1 := R1.on k3
    replace G := G.on hy
    replace U := U.on hy
    replace D := D.on hy
    replace P := P.on hy
    replace Q := Q.on hy
    replace R0 := R0.on hy
    replace R1 := R1.on hy
    have HH2 := Lib.hid (after (after HH.out k3) hy)
    clear hV hy k3 HH Hb u0' uu1 uu2 uu3 uu4 uu5 g0 gg1 x0 x1 x2 x3 x4 x5 v0 v1 v2
    have HH := HH2
    clear HH2
    generalize w4.heap.size = g_w4 at Ha ⊢
    obtain ⟨u0', uu1, uu2, uu3, uu4, uu5⟩ := U.c6.1
    obtain ⟨x0, x1, x2, x3, x4, x5⟩ := Ha.c6.1
    obtain ⟨v0, v1, v2, -, -, -⟩ := D.c3
    have g0 := G.cell 0
    have gg1 := G.cell 1
    go_upto_region 9 with (go_at_call 41; refine (HC3.out _ HH.out).mono ?_; rintro e_ w5 ⟨rfl, k3⟩)
    generalize hV : World.alloc w5 _ = Y5
    have hy : Below w5.heap.size w5 Y5 := by rw [← hV]; go_grown
    have Hc : Blk Y5 w5.heap.size 28 #[.int .i64 b1, .int .i64 b2, .int .i64 b3, .int .i64 b4, .int .i64 b5, .int .i64 b6] := Blk.eqw hV (Blk.new' rfl)
    replace G := G.on k3
    replace U := U.on k3
    replace D := D.on k3
    replace P := P.on k3
    replace Q := Q.on k3
    replace R0 := R0.on k3
    replace R1 := R1.on k3
    replace G := G.on hy
    replace U := U.on hy
    replace D := D.on hy
    replace P := P.on hy
    replace Q := Q.on hy
    replace R0 := R0.on hy
    replace R1 := R1.on hy
    have HH2 := Lib.hid (after (after HH.out k3) hy)
    clear hV hy k3 HH Ha u0' uu1 uu2 uu3 uu4 uu5 g0 gg1 x0 x1 x2 x3 x4 x5 v0 v1 v2
    have HH := HH2
    clear HH2
    generalize w5.heap.size = g_w5 at Hc ⊢
    obtain ⟨u0', uu1, uu2, uu3, uu4, uu5⟩ := U.c6.1
    obtain ⟨x0, x1, x2, x3, x4, x5⟩ := Hc.c6.1
    obtain ⟨v0, v1, v2, -, -, -⟩ := D.c3
    have g0 := G.cell 0
    have gg1 := G.cell 1
    go_upto_region 10 with (go_at_call 41; refine (HC4.out _ HH.out).mono ?_; rintro e_ w6 ⟨rfl, k3⟩)
    generalize hV : World.alloc w6 _ = Y6
    have hy : Below w6.heap.size w6 Y6 := by rw [← hV]; go_grown
    have Hd : Blk Y6 w6.heap.size 28 #[.int .i64 c1, .int .i64 c2, .int .i64 c3, .int .i64 c4, .int .i64 c5, .int .i64 c6] := Blk.eqw hV (Blk.new' rfl)
    replace G := G.on k3
    replace U := U.on k3
    replace D := D.on k3
    replace P := P.on k3
    replace Q := Q.on k3
    replace R0 := R0.on k3
    replace R1 := R1.on k3
    replace G := G.on hy
    replace U := U.on hy
    replace D := D.on hy
    replace P := P.on hy
    replace Q := Q.on hy
    replace R0 := R0.on hy
    replace R1 := R1.on hy
    have HH2 := Lib.hid (after (after HH.out k3) hy)
    clear hV hy k3 HH Hc u0' uu1 uu2 uu3 uu4 uu5 g0 gg1 x0 x1 x2 x3 x4 x5 v0 v1 v2
    have HH := HH2
    clear HH2
    generalize w6.heap.size = g_w6 at Hd ⊢
    obtain ⟨x0, x1, x2, x3, x4, x5⟩ := Hd.re6
    obtain ⟨v0, v1, v2, v3, v4, v5⟩ := P.re6
    obtain ⟨u0', uu1, uu2, uu3, uu4, uu5⟩ := U.re6
    refine wp_region_quiet_below (by kernel_rfl) (by kernel_rfl) ?_
    repeat (go_big_quiet_step (first | (with_reducible exact Calls.regrown_of (HW1.out _)) | (with_reducible exact Calls.regrown_of (HW2.out _))))
    refine wpQuiet_nil ?_
    intro w' hw'
    obtain ⟨rg, rfl⟩ := hw'
    clear v0 v1 v2 v3 v4 v5 x0 x1 x2 x3 x4 x5 u0' uu1 uu2 uu3 uu4 uu5
    obtain ⟨Y8, hY8⟩ : ∃ Y8, Y8 = Go.Sort.grow (redrawn Y6 rg.d) rg.os := ⟨_, rfl⟩
    rw [← hY8]
    have hy : Below Y6.heap.size Y6 Y8 := by rw [hY8]; exact below_regrown _ _ _
    replace P := P.on hy
    replace Q := Q.on hy
    replace R0 := R0.on hy
    replace R1 := R1.on hy
    replace Hd := Hd.on hy
    have HH2 := Lib.hid (after HH.out hy)
    clear hY8 hy U D G HH
    have HH := HH2
    clear HH2
    rcases (show n1 ≤ n2 ∨ n2 < n1 by omega) with hn | hn
    · obtain rfl : r = ((y1, y2, y3, y4, y5, y6), true, u1, u2) := by rw [HR.out, stepOf_no (.inr (.inr (.inr hn)))]
      have hn2 : decide (n2 < n1) = false := by simpa using hn
      have x0 := fun f d os => (P.sp (D := [N + 1 + 1 + 1, N + 1 + 1 + 1 + 1]) (by simp; omega) f d os).c6.1
      have y0 := fun f d os => (Q.sp (D := [N + 1 + 1 + 1, N + 1 + 1 + 1 + 1]) (by simp; omega) f d os).c3
      go_upto_region 12 with (fail)
      have B1 := R0
      have B2 := R1
      refine wp_two [0, 0, 2, 2] 2 (N + 1 + 1 + 1) (28) (#[.int .i64 y1, .int .i64 y2, .int .i64 y3, .int .i64 y4, .int .i64 y5, .int .i64 y6]) 3 (N + 1 + 1 + 1 + 1) (45) (#[.bool true, .bool u1, .bool u2]) (by omega) (by kernel_rfl) (by kernel_rfl) ?_
      repeat (first | (refine wpQs_s ?_) | (refine wpQs_q (fun K hK => ?_); go_simp; first | (refine hK _ ?_; clear hK K) | (apply Exists.intro; refine ⟨fun _ => ?_, hK _ ?_⟩; (fail); clear hK K)))
      refine wpQs_nil ?_
      repeat (refine wpLs_skip ?_)
      refine wpLs_one ?s1 (fun vs1_ => ?_)
      case s1 =>
        intro w_ hw_ hp_
        have L2 := hp_.blk (by simp [Ds2]) B1
        obtain ⟨⟨q0, q1, q2, q3, q4, q5⟩, f0, f1, f2, f3, f4, f5⟩ := L2.c6
        go_simp
        exact two_fst (by decide) kept6 (L2.st6 _ _ _ _ _ _)
      refine wpLs_one ?s2 (fun vs2_ => ?_)
      case s2 =>
        intro w_ hw_ hp_
        have T2 := hp_.blk (by simp [Ds2]) B2
        obtain ⟨q0, q1, q2, f0, f1, f2⟩ := T2.c3
        go_simp
        exact two_snd (by decide) kept3 (T2.st3 _ _ _)
      refine wpLs_nilD ?_
      simp only [tails]
      rintro w_ k_ ⟨⟨-, r1⟩, r2⟩
      obtain ⟨⟨m0, m1, m2, m3, m4, m5⟩, -, -, -, -, -, -⟩ := (r1.1 rfl).c6
      obtain ⟨j0, j1, j2, -, -, -⟩ := (r2.2 rfl).c3
      clear r1 r2 x0 y0 B1 B2
      simp only [wpList, Exit.then]
      rename_i hKret
      refine hKret _ _ (wp_ret ?_)
      try simp only [Exit.then]
      refine bodyPost_ret (v := .tuple #[.agg #[.int .i64 y1, .int .i64 y2, .int .i64 y3, .int .i64 y4, .int .i64 y5, .int .i64 y6], .agg #[.bool true, .bool u1, .bool u2]]) (by simp [results, Try.f28, go_sem, m0, m1, m2, m3, m4, m5, j0, j1, j2]) rfl ⟨rfl, ?_⟩
      have hN_ := HN.out
      exact (HH.out).trans (k_.below (HH.out).size (fun b hb => by simp; omega))
    · obtain rfl : r = ((c1, c2, c3, c4, c5, c6), sa, true, sb) := by rw [HR.out, stepOf_yes (.inl rfl) hu hn]
      obtain ⟨x0, x1, x2, x3, x4, x5⟩ := Hd.c6.1
      obtain ⟨⟨r0, r1, r2, r3, r4, r5⟩, z0, z1, z2, z3, z4, z5⟩ := R0.c6
      obtain ⟨t0, t1, t2, tf0, tf1, tf2⟩ := R1.c3
      repeat (first | go_skip | go_guarded | go_step | go_upon | go_back)
      have hNw := HN.out
      have K0 := HH.out
      have X0 := ((((R0.st6 (.int .i64 c1) (.int .i64 c2) (.int .i64 c3) (.int .i64 c4) (.int .i64 c5) (.int .i64 c6)).far (p := ⟨N + 1 + 1 + 1 + 1, 0, none⟩) (by dsimp only; omega) (.bool sa)).far (p := ⟨N + 1 + 1 + 1 + 1, 1, none⟩) (by dsimp only; omega) (.bool true)).far (p := ⟨N + 1 + 1 + 1 + 1, 2, none⟩) (by dsimp only; omega) (.bool sb))
      have X1 := (sx6_far R1 (show N + 1 + 1 + 1 + 1 ≠ N + 1 + 1 + 1 by omega) (.int .i64 c1) (.int .i64 c2) (.int .i64 c3) (.int .i64 c4) (.int .i64 c5) (.int .i64 c6)).st3 (.bool sa) (.bool true) (.bool sb)
      obtain ⟨⟨m0, m1, m2, m3, m4, m5⟩, -, -, -, -, -, -⟩ := X0.c6
      obtain ⟨j0, j1, j2, -, -, -⟩ := X1.c3
      refine bodyPost_ret (v := .tuple #[.agg #[.int .i64 c1, .int .i64 c2, .int .i64 c3, .int .i64 c4, .int .i64 c5, .int .i64 c6], .agg #[.bool sa, .bool true, .bool sb]]) (by simp [results, Try.f28, go_sem, m0, m1, m2, m3, m4, m5, j0, j1, j2]) rfl ⟨rfl, ?_⟩
      exact (((sx6_below K0 (by omega) _ _ _ _ _ _).setCell (p := ⟨N + 1 + 1 + 1 + 1, 0, none⟩) (by dsimp only; omega) _).setCell (p := ⟨N + 1 + 1 + 1 + 1, 1, none⟩) (by dsimp only; omega) _).setCell (p := ⟨N + 1 + 1 + 1 + 1, 2, none⟩) (by dsimp only; omega) _
end Go.Proofs.Ytckjpiioipkfcaa
