/- Texts that build one behind the other, laid together: Stp1 Sched4 Many Selfs SwP4 Free. -/
import Derived.Test.YtckjpiioipkfcaaLSweepFreeZ5
import Derived.Test.YtckjpiioipkfcaaLSweepFreeZ2
import Derived.Test.YtckjpiioipkfcaaLSweepFreeZ1
import Derived.Test.YtckjpiioipkfcaaLSweepFreeZ4
/- The program's: a box that steps up. -/
namespace Go.Proofs.Ytckjpiioipkfcaa
open Go.RowKit Go.Shelf
attribute [local go_sem] Oper.semAt_some

set_option maxRecDepth 100000 in
set_option maxHeartbeats 8000000 in
theorem pstep_c (V : FuncId) (lv : Array Value) (val : Cl → Int) (x : B6) (dx dy dz up M : Int) (hM : M ≤ 10000000000) (hM0 : 0 ≤ M) (hB : Sm6 M x) (w : World)
    (eV : ∀ args w, (callFunc V args).run Try.prog w = .ok (.enter V args) w) (hV : Tells Try.prog V lv val w) :
    Calls Try.prog 27 #[.func (.func V) #[] lv, .agg (ag6 x), .agg #[.int .i64 dx, .int .i64 dy, .int .i64 dz], .int .i64 up] w fun r w' => r = .returned (bhT (stepV val x dx dy dz up)) ∧ Below w.heap.size w w' := by
  have t0 := hB.bd
  have tH := (hi1_sm (val := val) (up := up) hB hM0 (by omega)).bd
  have tC := (oC_sm (val := val) (up := up) (dx := dx) (dz := dz) hB hM0 (by omega)).bd
  have tY := (st3_sm (val := val) (dx := dx) (dy := dy) (dz := dz) hB hM0 (by omega)).bd
  have C0 := fun W (h : Below w.heap.size w W) => pmove_c V lv val x dx dy dz M hM hM0 hB W eV (hV.on h)
  have CS := fun W (h : Below w.heap.size w W) => pmStands_c V lv val x.1 x.2.1 x.2.2.1 x.2.2.2.1 x.2.2.2.2.1 x.2.2.2.2.2 (by omega) (by omega) (hB.under hM0 (by omega)).1 W eV (hV.on h)
  have C1 := fun W (h : Below w.heap.size w W) => palong_c V lv val x 1 (mnI up 65536) M (by omega) hM0 hB W eV (hV.on h)
  have C2 := fun W (h : Below w.heap.size w W) => palong_c V lv val (hi1 val x up).1 0 dx (M + 10000000) (by omega) (by omega) (hi1_sm hB hM0 (by omega)) W eV (hV.on h)
  have C3 := fun W (h : Below w.heap.size w W) => palong_c V lv val (oA val x dx up).1 2 dz (M + 20000000) (by omega) (by omega) (oA_sm hB hM0 (by omega)) W eV (hV.on h)
  have C4 := fun W (h : Below w.heap.size w W) => palong_c V lv val (oB val x dx dz up).1 1 (-rise val x up) (M + 30000000) (by omega) (by omega) (oB_sm hB hM0 (by omega)) W eV (hV.on h)
  have CW1 := fun W => pwent_c x (oC val x dx dz up).1 (by omega) (by omega) (by omega) (by omega) W
  have CW2 := fun W => pwent_c x (st3 val x dx dy dz) (by omega) (by omega) (by omega) (by omega) W
  have q1 : -9223372036854775808 ≤ (hi1 val x up).1.2.1 - x.2.1 ∧ (hi1 val x up).1.2.1 - x.2.1 ≤ 9223372036854775807 := by omega
  have q2 : -9223372036854775808 ≤ -((hi1 val x up).1.2.1 - x.2.1) ∧ -((hi1 val x up).1.2.1 - x.2.1) ≤ 9223372036854775807 := by omega
  clear t0 tH tC tY hM hM0 hB hV eV
  have fC : oC val x dx dz up = al6 val (oB val x dx dz up).1 1 (-rise val x up) := rfl
  have fB : oB val x dx dz up = al6 val (oA val x dx up).1 2 dz := rfl
  have fA : oA val x dx up = al6 val (hi1 val x up).1 0 dx := rfl
  have fH : hi1 val x up = al6 val x 1 (mnI up 65536) := rfl
  have fR : rise val x up = (hi1 val x up).1.2.1 - x.2.1 := rfl
  rw [← fC] at C4
  rw [← fB] at C3
  rw [← fA] at C2
  rw [← fH] at C1
  rw [fR] at C4
  have fS : unB val x = (cellsI x.1 (cutI (x.2.1 - 1)) x.2.2.1 x.2.2.2.1 x.2.1 x.2.2.2.2.2).any fun c => solB (val c) := rfl
  rw [← fS] at CS
  unfold moveT at C0
  unfold stepV
  clear fC fB fA fH fR fS
  generalize hi1 val x up = H at C1 C2 q1 q2 C4
  generalize oA val x dx up = A at C2 C3 ⊢
  generalize oB val x dx dz up = B at C3 C4 ⊢
  generalize oC val x dx dz up = C at C4 CW1 ⊢
  generalize st3 val x dx dy dz = y at C0 CW2 ⊢
  generalize hx2 val x dx dy = u0 at C0 ⊢
  generalize hy1 val x dy = u1 at C0 ⊢
  generalize hz3 val x dx dy dz = u2 at C0 ⊢
  generalize unB val x = st at CS ⊢
  generalize wentI x C.1 = n1 at CW1 ⊢
  generalize wentI x y = n2 at CW2 ⊢
  obtain ⟨r, hr⟩ : ∃ r, r = stepOf y C.1 u0 u1 u2 A.2 B.2 st up n1 n2 := ⟨_, rfl⟩
  rw [← hr]
  obtain ⟨a, b, c, d, e, f⟩ := x
  obtain ⟨y1, y2, y3, y4, y5, y6⟩ := y
  obtain ⟨⟨h1, h2, h3, h4, h5, h6⟩, sh⟩ := H
  obtain ⟨⟨a1, a2, a3, a4, a5, a6⟩, sa⟩ := A
  obtain ⟨⟨b1, b2, b3, b4, b5, b6⟩, sb⟩ := B
  obtain ⟨⟨c1, c2, c3, c4, c5, c6⟩, sc⟩ := C
  simp only [alT, ag6, ah3, bhT] at *
  obtain ⟨q1, q3⟩ := q1
  obtain ⟨q2, q4⟩ := q2
  have HR := Lib.hid hr
  clear hr
  have HC0 := Lib.hid C0
  have HC1 := Lib.hid C1
  have HC2 := Lib.hid C2
  have HC3 := Lib.hid C3
  have HC4 := Lib.hid C4
  have HCS := Lib.hid CS
  have HW1 := Lib.hid CW1
  have HW2 := Lib.hid CW2
  clear C0 C1 C2 C3 C4 CS CW1 CW2
  obtain ⟨W, hW⟩ : ∃ W, W = (((w.alloc (.cells #[.int .i64 a, .int .i64 b, .int .i64 c, .int .i64 d, .int .i64 e, .int .i64 f] 28)).alloc (.cells #[.int .i64 dx, .int .i64 dy, .int .i64 dz] 26)).alloc (.cells #[.int .i64 0, .int .i64 0, .int .i64 0, .int .i64 0, .int .i64 0, .int .i64 0] 28)).alloc (.cells #[.bool false, .bool false, .bool false] 46) := ⟨_, rfl⟩
  have H : Below w.heap.size w W := by rw [hW]; go_grown
  have hs : W.heap.size = w.heap.size + 4 := by rw [hW]; simp
  obtain ⟨N, hN⟩ : ∃ N, N = w.heap.size := ⟨_, rfl⟩
  rw [← hN] at hs
  have HS := Lib.hid hs
  clear hs
  have U : Blk W N 28 _ := Blk.eqw hW.symm (by rw [hN]; exact (((Blk.new' rfl).alloc _).alloc _).alloc _)
  have D : Blk W (N + 1) 26 _ := Blk.eqw hW.symm (by rw [hN]; exact ((Blk.new' (by simp)).alloc _).alloc _)
  have R0 : Blk W (N + 1 + 1) 28 _ := Blk.eqw hW.symm (by rw [hN]; exact (Blk.new' (by simp)).alloc _)
  have R1 : Blk W (N + 1 + 1 + 1) 46 _ := Blk.eqw hW.symm (by rw [hN]; exact Blk.new' (by simp))
  go_enter Try.func27, Try.ntmps27
  go_upto_region 1 with (fail)
  rw [← hW, ← hN]
  have HN := Lib.hid hN
  clear hW hN
  obtain ⟨u0', uu1, uu2, uu3, uu4, uu5⟩ := U.c6.1
  obtain ⟨v0, v1, v2, -, -, -⟩ := D.c3
  go_upto_region 2 with (go_at_call 24; refine (HC0.out _ H).mono ?_; rintro e_ w1 ⟨rfl, k1⟩)
  generalize hV : World.alloc (World.alloc w1 _) _ = Y1
  have hy : Below w1.heap.size w1 Y1 := by rw [← hV]; go_grown
  have P : Blk Y1 w1.heap.size 28 #[.int .i64 y1, .int .i64 y2, .int .i64 y3, .int .i64 y4, .int .i64 y5, .int .i64 y6] := Blk.eqw hV ((Blk.new' rfl).alloc _)
  have Q : Blk Y1 (w1.heap.size + 1) 46 #[.bool u0, .bool u1, .bool u2] := Blk.eqw hV (Blk.new' (by simp))
  have hgp : N + 4 ≤ w1.heap.size := by rw [← HS.out]; exact k1.size
  have HY := Lib.hid (after k1 hy)
  replace U := U.on k1
  replace D := D.on k1
  replace R0 := R0.on k1
  replace R1 := R1.on k1
  replace U := U.on hy
  replace D := D.on hy
  replace R0 := R0.on hy
  replace R1 := R1.on hy
  replace H := after (after H k1) hy
  clear hV hy k1 u0' uu1 uu2 uu3 uu4 uu5 v0 v1 v2
  generalize w1.heap.size = gp at P Q hgp ⊢
  have HH := Lib.hid H
  clear H HC0
  have ways : (u0 = false ∧ u2 = false) ∨ (u0 = false ∧ u2 = true ∧ up ≤ 0) ∨ (u0 = true ∧ up ≤ 0) ∨ (u0 = false ∧ u2 = true ∧ 0 < up ∧ st = false) ∨ (u0 = true ∧ 0 < up ∧ st = false) ∨ (u0 = false ∧ u2 = true ∧ 0 < up ∧ st = true) ∨ (u0 = true ∧ 0 < up ∧ st = true) := by
    cases u0 <;> cases u2 <;> cases st <;> simp <;> omega
  obtain ⟨u0', uu1, uu2, uu3, uu4, uu5⟩ := U.c6.1
  rcases ways with ⟨rfl, rfl⟩ | ⟨rfl, rfl, hu⟩ | ⟨rfl, hu⟩ | ⟨rfl, rfl, hu, rfl⟩ | ⟨rfl, hu, rfl⟩ | ⟨rfl, rfl, hu, rfl⟩ | ⟨rfl, hu, rfl⟩
  · obtain rfl : r = ((y1, y2, y3, y4, y5, y6), false, u1, false) := by rw [HR.out, stepOf_no (.inl ⟨rfl, rfl⟩)]
    obtain ⟨t0, t1, t2, -, -, -⟩ := Q.c3
    have x0 := fun f d os => (P.sp (D := [N + 1 + 1, N + 1 + 1 + 1]) (by simp; omega) f d os).c6.1
    have y0 := fun f d os => (Q.sp (D := [N + 1 + 1, N + 1 + 1 + 1]) (by simp; omega) f d os).c3
    go_upto_region 3 with (fail)
    have B1 := R0
    have B2 := R1
    refine wp_two [0, 0, 2, 2] 2 (N + 1 + 1) (28) (#[.int .i64 y1, .int .i64 y2, .int .i64 y3, .int .i64 y4, .int .i64 y5, .int .i64 y6]) 3 (N + 1 + 1 + 1) (46) (#[.bool false, .bool u1, .bool false]) (by omega) (by kernel_rfl) (by kernel_rfl) ?_
    repeat (first | (refine wpQs_s ?_) | (refine wpQs_q (fun K hK => ?_); go_simp; first | (refine hK _ ?_; clear hK K) | (apply Exists.intro; refine ⟨fun _ => ?_, hK _ ?_⟩; (fail); clear hK K)))
    refine wpQs_nil ?_
    repeat (refine wpLs_skip ?_)
    refine wpLs_one ?s1 (fun vs1_ => ?_)
    case s1 =>
      intro w_ hw_ hp_
      have L2 := hp_.blk (by simp [Ds2]) B1
      obtain ⟨⟨q0, q1, q2, q3, q4, q5⟩, f0, f1, f2, f3, f4, f5⟩ := L2.c6
      go_simp
      exact two_fst (by decide) kept6 (L2.st6 _ _ _ _ _ _)
    refine wpLs_one ?s2 (fun vs2_ => ?_)
    case s2 =>
      intro w_ hw_ hp_
      have T2 := hp_.blk (by simp [Ds2]) B2
      obtain ⟨q0, q1, q2, f0, f1, f2⟩ := T2.c3
      go_simp
      exact two_snd (by decide) kept3 (T2.st3 _ _ _)
    refine wpLs_nilD ?_
    simp only [tails]
    rintro w_ k_ ⟨⟨-, r1⟩, r2⟩
    obtain ⟨⟨m0, m1, m2, m3, m4, m5⟩, -, -, -, -, -, -⟩ := (r1.1 rfl).c6
    obtain ⟨j0, j1, j2, -, -, -⟩ := (r2.2 rfl).c3
    clear r1 r2 x0 y0 B1 B2
    simp only [wpList, Exit.then]
    rename_i hKret
    refine hKret _ _ (wp_ret ?_)
    try simp only [Exit.then]
    refine bodyPost_ret (v := .tuple #[.agg #[.int .i64 y1, .int .i64 y2, .int .i64 y3, .int .i64 y4, .int .i64 y5, .int .i64 y6], .agg #[.bool false, .bool u1, .bool false]]) (by simp [results, Try.f27, go_sem, m0, m1, m2, m3, m4, m5, j0, j1, j2]) rfl ⟨rfl, ?_⟩
    have hN_ := HN.out
    exact (HH.out).trans (k_.below (HH.out).size (fun b hb => by simp; omega))
  · obtain rfl : r = ((y1, y2, y3, y4, y5, y6), false, u1, true) := by rw [HR.out, stepOf_no (.inr (.inl hu))]
    obtain ⟨t0, t1, t2, -, -, -⟩ := Q.c3
    have hu1 : ¬ 0 < up := by omega
    have x0 := fun f d os => (P.sp (D := [N + 1 + 1, N + 1 + 1 + 1]) (by simp; omega) f d os).c6.1
    have y0 := fun f d os => (Q.sp (D := [N + 1 + 1, N + 1 + 1 + 1]) (by simp; omega) f d os).c3
    go_upto_region 3 with (fail)
    have B1 := R0
    have B2 := R1
    refine wp_two [0, 0, 2, 2] 2 (N + 1 + 1) (28) (#[.int .i64 y1, .int .i64 y2, .int .i64 y3, .int .i64 y4, .int .i64 y5, .int .i64 y6]) 3 (N + 1 + 1 + 1) (46) (#[.bool false, .bool u1, .bool true]) (by omega) (by kernel_rfl) (by kernel_rfl) ?_
    repeat (first | (refine wpQs_s ?_) | (refine wpQs_q (fun K hK => ?_); go_simp; first | (refine hK _ ?_; clear hK K) | (apply Exists.intro; refine ⟨fun _ => ?_, hK _ ?_⟩; (fail); clear hK K)))
    refine wpQs_nil ?_
    repeat (refine wpLs_skip ?_)
    refine wpLs_one ?s1 (fun vs1_ => ?_)
    case s1 =>
      intro w_ hw_ hp_
      have L2 := hp_.blk (by simp [Ds2]) B1
      obtain ⟨⟨q0, q1, q2, q3, q4, q5⟩, f0, f1, f2, f3, f4, f5⟩ := L2.c6
      go_simp
      exact two_fst (by decide) kept6 (L2.st6 _ _ _ _ _ _)
    refine wpLs_one ?s2 (fun vs2_ => ?_)
    case s2 =>
      intro w_ hw_ hp_
      have T2 := hp_.blk (by simp [Ds2]) B2
      obtain ⟨q0, q1, q2, f0, f1, f2⟩ := T2.c3
      go_simp
      exact two_snd (by decide) kept3 (T2.st3 _ _ _)
    refine wpLs_nilD ?_
    simp only [tails]
    rintro w_ k_ ⟨⟨-, r1⟩, r2⟩
    obtain ⟨⟨m0, m1, m2, m3, m4, m5⟩, -, -, -, -, -, -⟩ := (r1.1 rfl).c6
    obtain ⟨j0, j1, j2, -, -, -⟩ := (r2.2 rfl).c3
    clear r1 r2 x0 y0 B1 B2
    simp only [wpList, Exit.then]
    rename_i hKret
    refine hKret _ _ (wp_ret ?_)
    try simp only [Exit.then]
    refine bodyPost_ret (v := .tuple #[.agg #[.int .i64 y1, .int .i64 y2, .int .i64 y3, .int .i64 y4, .int .i64 y5, .int .i64 y6], .agg #[.bool false, .bool u1, .bool true]]) (by simp [results, Try.f27, go_sem, m0, m1, m2, m3, m4, m5, j0, j1, j2]) rfl ⟨rfl, ?_⟩
    have hN_ := HN.out
    exact (HH.out).trans (k_.below (HH.out).size (fun b hb => by simp; omega))
  · obtain rfl : r = ((y1, y2, y3, y4, y5, y6), true, u1, u2) := by rw [HR.out, stepOf_no (.inr (.inl hu))]
    obtain ⟨t0, t1, t2, -, -, -⟩ := Q.c3
    have hu1 : ¬ 0 < up := by omega
    have x0 := fun f d os => (P.sp (D := [N + 1 + 1, N + 1 + 1 + 1]) (by simp; omega) f d os).c6.1
    have y0 := fun f d os => (Q.sp (D := [N + 1 + 1, N + 1 + 1 + 1]) (by simp; omega) f d os).c3
    go_upto_region 3 with (fail)
    have B1 := R0
    have B2 := R1
    refine wp_two [0, 0, 2, 2] 2 (N + 1 + 1) (28) (#[.int .i64 y1, .int .i64 y2, .int .i64 y3, .int .i64 y4, .int .i64 y5, .int .i64 y6]) 3 (N + 1 + 1 + 1) (46) (#[.bool true, .bool u1, .bool u2]) (by omega) (by kernel_rfl) (by kernel_rfl) ?_
    repeat (first | (refine wpQs_s ?_) | (refine wpQs_q (fun K hK => ?_); go_simp; first | (refine hK _ ?_; clear hK K) | (apply Exists.intro; refine ⟨fun _ => ?_, hK _ ?_⟩; (fail); clear hK K)))
    refine wpQs_nil ?_
    repeat (refine wpLs_skip ?_)
    refine wpLs_one ?s1 (fun vs1_ => ?_)
    case s1 =>
      intro w_ hw_ hp_
      have L2 := hp_.blk (by simp [Ds2]) B1
      obtain ⟨⟨q0, q1, q2, q3, q4, q5⟩, f0, f1, f2, f3, f4, f5⟩ := L2.c6
      go_simp
      exact two_fst (by decide) kept6 (L2.st6 _ _ _ _ _ _)
    refine wpLs_one ?s2 (fun vs2_ => ?_)
    case s2 =>
      intro w_ hw_ hp_
      have T2 := hp_.blk (by simp [Ds2]) B2
      obtain ⟨q0, q1, q2, f0, f1, f2⟩ := T2.c3
      go_simp
      exact two_snd (by decide) kept3 (T2.st3 _ _ _)
    refine wpLs_nilD ?_
    simp only [tails]
    rintro w_ k_ ⟨⟨-, r1⟩, r2⟩
    obtain ⟨⟨m0, m1, m2, m3, m4, m5⟩, -, -, -, -, -, -⟩ := (r1.1 rfl).c6
    obtain ⟨j0, j1, j2, -, -, -⟩ := (r2.2 rfl).c3
    clear r1 r2 x0 y0 B1 B2
    simp only [wpList, Exit.then]
    rename_i hKret
    refine hKret _ _ (wp_ret ?_)
    try simp only [Exit.then]
    refine bodyPost_ret (v := .tuple #[.agg #[.int .i64 y1, .int .i64 y2, .int .i64 y3, .int .i64 y4, .int .i64 y5, .int .i64 y6], .agg #[.bool true, .bool u1, .bool u2]]) (by simp [results, Try.f27, go_sem, m0, m1, m2, m3, m4, m5, j0, j1, j2]) rfl ⟨rfl, ?_⟩
    have hN_ := HN.out
    exact (HH.out).trans (k_.below (HH.out).size (fun b hb => by simp; omega))
  · obtain rfl : r = ((y1, y2, y3, y4, y5, y6), false, u1, true) := by rw [HR.out, stepOf_no (.inr (.inr (.inl rfl)))]
    obtain ⟨t0, t1, t2, -, -, -⟩ := Q.c3
    have hu1 : decide (up ≤ 0) = false := by simpa using hu
    go_upto_region 3 with (go_at_call 44; refine (HCS.out _ HH.out).mono ?_; rintro e_ w2 ⟨rfl, k2⟩)
    clear t0 t1 t2 u0' uu1 uu2 uu3 uu4 uu5
    replace P := P.on k2
    replace Q := Q.on k2
    replace R0 := R0.on k2
    replace R1 := R1.on k2
    replace HH := Lib.hid (after HH.out k2)
    have x0 := fun f d os => (P.sp (D := [N + 1 + 1, N + 1 + 1 + 1]) (by simp; omega) f d os).c6.1
    have y0 := fun f d os => (Q.sp (D := [N + 1 + 1, N + 1 + 1 + 1]) (by simp; omega) f d os).c3
    go_upto_region 3 with (fail)
    have B1 := R0
    have B2 := R1
    refine wp_two [0, 0, 2, 2] 2 (N + 1 + 1) (28) (#[.int .i64 y1, .int .i64 y2, .int .i64 y3, .int .i64 y4, .int .i64 y5, .int .i64 y6]) 3 (N + 1 + 1 + 1) (46) (#[.bool false, .bool u1, .bool true]) (by omega) (by kernel_rfl) (by kernel_rfl) ?_
    repeat (first | (refine wpQs_s ?_) | (refine wpQs_q (fun K hK => ?_); go_simp; first | (refine hK _ ?_; clear hK K) | (apply Exists.intro; refine ⟨fun _ => ?_, hK _ ?_⟩; (fail); clear hK K)))
    refine wpQs_nil ?_
    repeat (refine wpLs_skip ?_)
    refine wpLs_one ?s1 (fun vs1_ => ?_)
    case s1 =>
      intro w_ hw_ hp_
      have L2 := hp_.blk (by simp [Ds2]) B1
      obtain ⟨⟨q0, q1, q2, q3, q4, q5⟩, f0, f1, f2, f3, f4, f5⟩ := L2.c6
      go_simp
      exact two_fst (by decide) kept6 (L2.st6 _ _ _ _ _ _)
    refine wpLs_one ?s2 (fun vs2_ => ?_)
    case s2 =>
      intro w_ hw_ hp_
      have T2 := hp_.blk (by simp [Ds2]) B2
      obtain ⟨q0, q1, q2, f0, f1, f2⟩ := T2.c3
      go_simp
      exact two_snd (by decide) kept3 (T2.st3 _ _ _)
    refine wpLs_nilD ?_
    simp only [tails]
    rintro w_ k_ ⟨⟨-, r1⟩, r2⟩
    obtain ⟨⟨m0, m1, m2, m3, m4, m5⟩, -, -, -, -, -, -⟩ := (r1.1 rfl).c6
    obtain ⟨j0, j1, j2, -, -, -⟩ := (r2.2 rfl).c3
    clear r1 r2 x0 y0 B1 B2
    simp only [wpList, Exit.then]
    rename_i hKret
    refine hKret _ _ (wp_ret ?_)
    try simp only [Exit.then]
    refine bodyPost_ret (v := .tuple #[.agg #[.int .i64 y1, .int .i64 y2, .int .i64 y3, .int .i64 y4, .int .i64 y5, .int .i64 y6], .agg #[.bool false, .bool u1, .bool true]]) (by simp [results, Try.f27, go_sem, m0, m1, m2, m3, m4, m5, j0, j1, j2]) rfl ⟨rfl, ?_⟩
    have hN_ := HN.out
    exact (HH.out).trans (k_.below (HH.out).size (fun b hb => by simp; omega))
  · obtain rfl : r = ((y1, y2, y3, y4, y5, y6), true, u1, u2) := by rw [HR.out, stepOf_no (.inr (.inr (.inl rfl)))]
    obtain ⟨t0, t1, t2, -, -, -⟩ := Q.c3
    have hu1 : decide (up ≤ 0) = false := by simpa using hu
    go_upto_region 3 with (go_at_call 44; refine (HCS.out _ HH.out).mono ?_; rintro e_ w2 ⟨rfl, k2⟩)
    clear t0 t1 t2 u0' uu1 uu2 uu3 uu4 uu5
    replace P := P.on k2
    replace Q := Q.on k2
    replace R0 := R0.on k2
    replace R1 := R1.on k2
    replace HH := Lib.hid (after HH.out k2)
    have x0 := fun f d os => (P.sp (D := [N + 1 + 1, N + 1 + 1 + 1]) (by simp; omega) f d os).c6.1
    have y0 := fun f d os => (Q.sp (D := [N + 1 + 1, N + 1 + 1 + 1]) (by simp; omega) f d os).c3
    go_upto_region 3 with (fail)
    have B1 := R0
    have B2 := R1
    refine wp_two [0, 0, 2, 2] 2 (N + 1 + 1) (28) (#[.int .i64 y1, .int .i64 y2, .int .i64 y3, .int .i64 y4, .int .i64 y5, .int .i64 y6]) 3 (N + 1 + 1 + 1) (46) (#[.bool true, .bool u1, .bool u2]) (by omega) (by kernel_rfl) (by kernel_rfl) ?_
    repeat (first | (refine wpQs_s ?_) | (refine wpQs_q (fun K hK => ?_); go_simp; first | (refine hK _ ?_; clear hK K) | (apply Exists.intro; refine ⟨fun _ => ?_, hK _ ?_⟩; (fail); clear hK K)))
    refine wpQs_nil ?_
    repeat (refine wpLs_skip ?_)
    refine wpLs_one ?s1 (fun vs1_ => ?_)
    case s1 =>
      intro w_ hw_ hp_
      have L2 := hp_.blk (by simp [Ds2]) B1
      obtain ⟨⟨q0, q1, q2, q3, q4, q5⟩, f0, f1, f2, f3, f4, f5⟩ := L2.c6
      go_simp
      exact two_fst (by decide) kept6 (L2.st6 _ _ _ _ _ _)
    refine wpLs_one ?s2 (fun vs2_ => ?_)
    case s2 =>
      intro w_ hw_ hp_
      have T2 := hp_.blk (by simp [Ds2]) B2
      obtain ⟨q0, q1, q2, f0, f1, f2⟩ := T2.c3
      go_simp
      exact two_snd (by decide) kept3 (T2.st3 _ _ _)
    refine wpLs_nilD ?_
    simp only [tails]
    rintro w_ k_ ⟨⟨-, r1⟩, r2⟩
    obtain ⟨⟨m0, m1, m2, m3, m4, m5⟩, -, -, -, -, -, -⟩ := (r1.1 rfl).c6
    obtain ⟨j0, j1, j2, -, -, -⟩ := (r2.2 rfl).c3
    clear r1 r2 x0 y0 B1 B2
    simp only [wpList, Exit.then]
    rename_i hKret
    refine hKret _ _ (wp_ret ?_)
    try simp only [Exit.then]
    refine bodyPost_ret (v := .tuple #[.agg #[.int .i64 y1, .int .i64 y2, .int .i64 y3, .int .i64 y4, .int .i64 y5, .int .i64 y6], .agg #[.bool true, .bool u1, .bool u2]]) (by simp [results, Try.f27, go_sem, m0, m1, m2, m3, m4, m5, j0, j1, j2]) rfl ⟨rfl, ?_⟩
    have hN_ := HN.out
    exact (HH.out).trans (k_.below (HH.out).size (fun b hb => by simp; omega))
  · obtain ⟨t0, t1, t2, -, -, -⟩ := Q.c3
    have hu1 : decide (up ≤ 0) = false := by simpa using hu
    obtain ⟨v0, v1, v2, -, -, -⟩ := D.c3
    have hmn := @run_mn Try.prog
    go_upto_region 5 with (first | (go_at_call 44; refine (HCS.out _ HH.out).mono ?_; rintro e_ w2 ⟨rfl, k2⟩; replace HH := Lib.hid (after HH.out k2); replace U := U.on k2; replace D := D.on k2; replace P := P.on k2; replace Q := Q.on k2; replace R0 := R0.on k2; replace R1 := R1.on k2; clear t0 t1 t2 u0' uu1 uu2 uu3 uu4 uu5 v0 v1 v2; obtain ⟨t0, t1, t2, -, -, -⟩ := Q.c3; obtain ⟨u0', uu1, uu2, uu3, uu4, uu5⟩ := U.c6.1; obtain ⟨v0, v1, v2, -, -, -⟩ := D.c3) | (go_at_call 39; refine (HC1.out _ HH.out).mono ?_; rintro e_ w3 ⟨rfl, k3⟩))
    generalize hV : World.alloc w3 _ = Y3
    have hy : Below w3.heap.size w3 Y3 := by rw [← hV]; go_grown
    have Hb : Blk Y3 w3.heap.size 28 #[.int .i64 h1, .int .i64 h2, .int .i64 h3, .int .i64 h4, .int .i64 h5, .int .i64 h6] := Blk.eqw hV (Blk.new' rfl)
    have hg3 : gp + 2 ≤ w3.heap.size := by have := k3.size; have := Q.lt; omega
    replace U := U.on k3
    replace D := D.on k3
    replace P := P.on k3
    replace Q := Q.on k3
    replace R0 := R0.on k3
    replace R1 := R1.on k3
    replace U := U.on hy
    replace D := D.on hy
    replace P := P.on hy
    replace Q := Q.on hy
    replace R0 := R0.on hy
    replace R1 := R1.on hy
    replace HH := Lib.hid (after (after HH.out k3) hy)
    clear hV hy k3 t0 t1 t2 u0' uu1 uu2 uu3 uu4 uu5 v0 v1 v2
    generalize w3.heap.size = g3 at Hb hg3 ⊢
    obtain ⟨x0, x1, x2, x3, x4, x5⟩ := Hb.c6.1
    obtain ⟨u0', uu1, uu2, uu3, uu4, uu5⟩ := U.c6.1
    obtain ⟨v0, v1, v2, -, -, -⟩ := D.c3
    have hg4 : g3 < Y3.heap.size := Hb.lt
    have hg5 : N < Y3.heap.size := U.lt
    have hg6 : N + 1 < Y3.heap.size := D.lt
    go_upto_region 8 with (fail)
    generalize hV : World.alloc (World.alloc Y3 _) _ = Y4
    have hy : Below Y3.heap.size Y3 Y4 := by rw [← hV]; go_grown
    have Ow : Blk Y4 Y3.heap.size 46 #[.bool false, .bool true, .bool false] := Blk.eqw hV ((Blk.new' rfl).alloc _)
    have Ou : Blk Y4 (Y3.heap.size + 1) 28 #[.int .i64 h1, .int .i64 h2, .int .i64 h3, .int .i64 h4, .int .i64 h5, .int .i64 h6] := Blk.eqw hV (Blk.new' (by simp))
    clear hg5 hg6
    replace U := U.on hy
    replace D := D.on hy
    replace P := P.on hy
    replace Q := Q.on hy
    replace R0 := R0.on hy
    replace R1 := R1.on hy
    replace HH := Lib.hid (after HH.out hy)
    clear hV hy x0 x1 x2 x3 x4 x5 u0' uu1 uu2 uu3 uu4 uu5 v0 v1 v2 Hb
    generalize Y3.heap.size = g4 at Ow Ou hg4 ⊢
    obtain ⟨u0', uu1, uu2, uu3, uu4, uu5⟩ := U.c6.1
    obtain ⟨v0, v1, v2, -, -, -⟩ := D.c3
    obtain ⟨x0, x1, x2, x3, x4, x5⟩ := Ou.c6.1
    go_upto_region 9 with (go_at_call 39; refine (HC2.out _ HH.out).mono ?_; rintro e_ w5 ⟨rfl, k5⟩; replace U := U.on k5; replace D := D.on k5; replace P := P.on k5; replace Q := Q.on k5; replace R0 := R0.on k5; replace R1 := R1.on k5; replace Ow := Ow.on k5; replace Ou := Ou.on k5; obtain ⟨⟨z0, z1, z2, z3, z4, z5⟩, zf0, zf1, zf2, zf3, zf4, zf5⟩ := Ou.c6; obtain ⟨s0, s1, s2, sf0, sf1, sf2⟩ := Ow.c3)
    generalize hV : World.setCell (World.setCell _ _ _) _ _ = Y5
    have hk : Kept (fun c => c ≠ g4 ∧ c ≠ g4 + 1) w5 Y5 := by rw [← hV]; exact (kept6.mono (fun b h => h.2)).setCell (p := ⟨g4, 0, none⟩) (fun h => h.1 rfl) _
    have Ou2 : Blk Y5 (g4 + 1) 28 #[.int .i64 a1, .int .i64 a2, .int .i64 a3, .int .i64 a4, .int .i64 a5, .int .i64 a6] := Blk.eqw hV ((Ou.st6 (.int .i64 a1) (.int .i64 a2) (.int .i64 a3) (.int .i64 a4) (.int .i64 a5) (.int .i64 a6)).far (p := ⟨g4, 0, none⟩) (by dsimp only; omega) _)
    have Ow2 : Blk Y5 g4 46 #[.bool sa, .bool true, .bool false] := Blk.eqw hV ((sx6_far Ow (show g4 ≠ g4 + 1 by omega) (.int .i64 a1) (.int .i64 a2) (.int .i64 a3) (.int .i64 a4) (.int .i64 a5) (.int .i64 a6)).set_ 0 (.bool sa))
    have HB := Lib.hid (show Below w.heap.size w Y5 by
      have h1 := after HH.out k5
      have h2 := HN.out
      rw [← hV]
      exact (sx6_below h1 (by omega) _ _ _ _ _ _).setCell (p := ⟨g4, 0, none⟩) (by dsimp only; omega) _)
    replace U := hk.blk (by omega) U
    replace D := hk.blk (by omega) D
    replace P := hk.blk (by omega) P
    replace Q := hk.blk (by omega) Q
    replace R0 := hk.blk (by omega) R0
    replace R1 := hk.blk (by omega) R1
    clear hV hk k5 HH z0 z1 z2 z3 z4 z5 zf0 zf1 zf2 zf3 zf4 zf5 s0 s1 s2 sf0 sf1 sf2 x0 x1 x2 x3 x4 x5 u0' uu1 uu2 uu3 uu4 uu5 v0 v1 v2 Ou Ow
    have HH := HB
    have Ou := Ou2
    have Ow := Ow2
    clear HB Ou2 Ow2
    obtain ⟨u0', uu1, uu2, uu3, uu4, uu5⟩ := U.c6.1
    obtain ⟨v0, v1, v2, -, -, -⟩ := D.c3
    obtain ⟨x0, x1, x2, x3, x4, x5⟩ := Ou.c6.1
    go_upto_region 10 with (go_at_call 39; refine (HC3.out _ HH.out).mono ?_; rintro e_ w6 ⟨rfl, k5⟩; replace U := U.on k5; replace D := D.on k5; replace P := P.on k5; replace Q := Q.on k5; replace R0 := R0.on k5; replace R1 := R1.on k5; replace Ow := Ow.on k5; replace Ou := Ou.on k5; obtain ⟨⟨z0, z1, z2, z3, z4, z5⟩, zf0, zf1, zf2, zf3, zf4, zf5⟩ := Ou.c6; obtain ⟨s0, s1, s2, sf0, sf1, sf2⟩ := Ow.c3)
    generalize hV : World.setCell (World.setCell _ _ _) _ _ = Y6
    have hk : Kept (fun c => c ≠ g4 ∧ c ≠ g4 + 1) w6 Y6 := by rw [← hV]; exact (kept6.mono (fun b h => h.2)).setCell (p := ⟨g4, 2, none⟩) (fun h => h.1 rfl) _
    have Ou2 : Blk Y6 (g4 + 1) 28 #[.int .i64 b1, .int .i64 b2, .int .i64 b3, .int .i64 b4, .int .i64 b5, .int .i64 b6] := Blk.eqw hV ((Ou.st6 (.int .i64 b1) (.int .i64 b2) (.int .i64 b3) (.int .i64 b4) (.int .i64 b5) (.int .i64 b6)).far (p := ⟨g4, 2, none⟩) (by dsimp only; omega) _)
    have Ow2 : Blk Y6 g4 46 #[.bool sa, .bool true, .bool sb] := Blk.eqw hV ((sx6_far Ow (show g4 ≠ g4 + 1 by omega) (.int .i64 b1) (.int .i64 b2) (.int .i64 b3) (.int .i64 b4) (.int .i64 b5) (.int .i64 b6)).set_ 2 (.bool sb))
    have HB := Lib.hid (show Below w.heap.size w Y6 by
      have h1 := after HH.out k5
      have h2 := HN.out
      rw [← hV]
      exact (sx6_below h1 (by omega) _ _ _ _ _ _).setCell (p := ⟨g4, 2, none⟩) (by dsimp only; omega) _)
    replace U := hk.blk (by omega) U
    replace D := hk.blk (by omega) D
    replace P := hk.blk (by omega) P
    replace Q := hk.blk (by omega) Q
    replace R0 := hk.blk (by omega) R0
    replace R1 := hk.blk (by omega) R1
    clear hV hk k5 HH z0 z1 z2 z3 z4 z5 zf0 zf1 zf2 zf3 zf4 zf5 s0 s1 s2 sf0 sf1 sf2 x0 x1 x2 x3 x4 x5 u0' uu1 uu2 uu3 uu4 uu5 v0 v1 v2 Ou Ow
    have HH := HB
    have Ou := Ou2
    have Ow := Ow2
    clear HB Ou2 Ow2
    obtain ⟨u0', uu1, uu2, uu3, uu4, uu5⟩ := U.c6.1
    obtain ⟨v0, v1, v2, -, -, -⟩ := D.c3
    obtain ⟨x0, x1, x2, x3, x4, x5⟩ := Ou.c6.1
    go_upto_region 11 with (go_at_call 39; refine (HC4.out _ HH.out).mono ?_; rintro e_ w7 ⟨rfl, k5⟩; replace U := U.on k5; replace D := D.on k5; replace P := P.on k5; replace Q := Q.on k5; replace R0 := R0.on k5; replace R1 := R1.on k5; replace Ow := Ow.on k5; replace Ou := Ou.on k5; obtain ⟨⟨z0, z1, z2, z3, z4, z5⟩, zf0, zf1, zf2, zf3, zf4, zf5⟩ := Ou.c6; obtain ⟨s0, s1, s2, sf0, sf1, sf2⟩ := Ow.c3)
    generalize hV : World.setCell (World.setCell _ _ _) _ _ = Y7
    have hk : Kept (fun c => c ≠ g4 ∧ c ≠ g4 + 1) w7 Y7 := by rw [← hV]; exact kept6.mono (fun b h => h.2)
    have Ou2 : Blk Y7 (g4 + 1) 28 #[.int .i64 c1, .int .i64 c2, .int .i64 c3, .int .i64 c4, .int .i64 c5, .int .i64 c6] := Blk.eqw hV (Ou.st6 (.int .i64 c1) (.int .i64 c2) (.int .i64 c3) (.int .i64 c4) (.int .i64 c5) (.int .i64 c6))
    have Ow2 : Blk Y7 g4 46 #[.bool sa, .bool true, .bool sb] := Blk.eqw hV (sx6_far Ow (show g4 ≠ g4 + 1 by omega) (.int .i64 c1) (.int .i64 c2) (.int .i64 c3) (.int .i64 c4) (.int .i64 c5) (.int .i64 c6))
    have HB := Lib.hid (show Below w.heap.size w Y7 by
      have h1 := after HH.out k5
      have h2 := HN.out
      rw [← hV]
      exact sx6_below h1 (by omega) _ _ _ _ _ _)
    replace U := hk.blk (by omega) U
    replace D := hk.blk (by omega) D
    replace P := hk.blk (by omega) P
    replace Q := hk.blk (by omega) Q
    replace R0 := hk.blk (by omega) R0
    replace R1 := hk.blk (by omega) R1
    clear hV hk k5 HH z0 z1 z2 z3 z4 z5 zf0 zf1 zf2 zf3 zf4 zf5 s0 s1 s2 sf0 sf1 sf2 x0 x1 x2 x3 x4 x5 u0' uu1 uu2 uu3 uu4 uu5 v0 v1 v2 Ou Ow
    have HH := HB
    have Ou := Ou2
    have Ow := Ow2
    clear HB Ou2 Ow2
    obtain ⟨u0', uu1, uu2, uu3, uu4, uu5⟩ := U.c6.1
    obtain ⟨v0, v1, v2, -, -, -⟩ := D.c3
    obtain ⟨x0, x1, x2, x3, x4, x5⟩ := Ou.c6.1
    clear v0 v1 v2 x0 x1 x2 x3 x4 x5 u0' uu1 uu2 uu3 uu4 uu5
    obtain ⟨x0, x1, x2, x3, x4, x5⟩ := Ou.re6
    obtain ⟨v0, v1, v2, v3, v4, v5⟩ := P.re6
    obtain ⟨u0', uu1, uu2, uu3, uu4, uu5⟩ := U.re6
    refine wp_region_quiet_below (by kernel_rfl) (by kernel_rfl) ?_
    repeat (go_big_quiet_step (first | (with_reducible exact Calls.regrown_of (HW1.out _)) | (with_reducible exact Calls.regrown_of (HW2.out _))))
    refine wpQuiet_nil ?_
    intro w' hw'
    obtain ⟨rg, rfl⟩ := hw'
    clear v0 v1 v2 v3 v4 v5 x0 x1 x2 x3 x4 x5 u0' uu1 uu2 uu3 uu4 uu5
    obtain ⟨Y8, hY8⟩ : ∃ Y8, Y8 = Go.Sort.grow (redrawn Y7 rg.d) rg.os := ⟨_, rfl⟩
    rw [← hY8]
    have hy : Below Y7.heap.size Y7 Y8 := by rw [hY8]; exact below_regrown _ _ _
    replace P := P.on hy
    replace Q := Q.on hy
    replace R0 := R0.on hy
    replace R1 := R1.on hy
    replace Ou := Ou.on hy
    replace Ow := Ow.on hy
    replace HH := Lib.hid (after HH.out hy)
    clear hY8 hy U D
    rcases (show n1 ≤ n2 ∨ n2 < n1 by omega) with hn | hn
    · obtain rfl : r = ((y1, y2, y3, y4, y5, y6), false, u1, true) := by rw [HR.out, stepOf_no (.inr (.inr (.inr hn)))]
      have x0 := fun f d os => (P.sp (D := [N + 1 + 1, N + 1 + 1 + 1]) (by simp; omega) f d os).c6.1
      have y0 := fun f d os => (Q.sp (D := [N + 1 + 1, N + 1 + 1 + 1]) (by simp; omega) f d os).c3
      go_upto_region 12 with (fail)
      have B1 := R0
      have B2 := R1
      refine wp_two [0, 0, 2, 2] 2 (N + 1 + 1) (28) (#[.int .i64 y1, .int .i64 y2, .int .i64 y3, .int .i64 y4, .int .i64 y5, .int .i64 y6]) 3 (N + 1 + 1 + 1) (46) (#[.bool false, .bool u1, .bool true]) (by omega) (by kernel_rfl) (by kernel_rfl) ?_
      repeat (first | (refine wpQs_s ?_) | (refine wpQs_q (fun K hK => ?_); go_simp; first | (refine hK _ ?_; clear hK K) | (apply Exists.intro; refine ⟨fun _ => ?_, hK _ ?_⟩; (fail); clear hK K)))
      refine wpQs_nil ?_
      repeat (refine wpLs_skip ?_)
      refine wpLs_one ?s1 (fun vs1_ => ?_)
      case s1 =>
        intro w_ hw_ hp_
        have L2 := hp_.blk (by simp [Ds2]) B1
        obtain ⟨⟨q0, q1, q2, q3, q4, q5⟩, f0, f1, f2, f3, f4, f5⟩ := L2.c6
        go_simp
        exact two_fst (by decide) kept6 (L2.st6 _ _ _ _ _ _)
      refine wpLs_one ?s2 (fun vs2_ => ?_)
      case s2 =>
        intro w_ hw_ hp_
        have T2 := hp_.blk (by simp [Ds2]) B2
        obtain ⟨q0, q1, q2, f0, f1, f2⟩ := T2.c3
        go_simp
        exact two_snd (by decide) kept3 (T2.st3 _ _ _)
      refine wpLs_nilD ?_
      simp only [tails]
      rintro w_ k_ ⟨⟨-, r1⟩, r2⟩
      obtain ⟨⟨m0, m1, m2, m3, m4, m5⟩, -, -, -, -, -, -⟩ := (r1.1 rfl).c6
      obtain ⟨j0, j1, j2, -, -, -⟩ := (r2.2 rfl).c3
      clear r1 r2 x0 y0 B1 B2
      simp only [wpList, Exit.then]
      rename_i hKret
      refine hKret _ _ (wp_ret ?_)
      try simp only [Exit.then]
      refine bodyPost_ret (v := .tuple #[.agg #[.int .i64 y1, .int .i64 y2, .int .i64 y3, .int .i64 y4, .int .i64 y5, .int .i64 y6], .agg #[.bool false, .bool u1, .bool true]]) (by simp [results, Try.f27, go_sem, m0, m1, m2, m3, m4, m5, j0, j1, j2]) rfl ⟨rfl, ?_⟩
      have hN_ := HN.out
      exact (HH.out).trans (k_.below (HH.out).size (fun b hb => by simp; omega))
    · obtain rfl : r = ((c1, c2, c3, c4, c5, c6), sa, true, sb) := by rw [HR.out, stepOf_yes (.inr rfl) hu hn]
      have hn2 : decide (n1 ≤ n2) = false := by simpa using hn
      have x0 := fun f d os => (Ou.sp (D := [N + 1 + 1, N + 1 + 1 + 1]) (by simp; omega) f d os).c6.1
      have y0 := fun f d os => (Ow.sp (D := [N + 1 + 1, N + 1 + 1 + 1]) (by simp; omega) f d os).c3
      go_upto_region 13 with (fail)
      have B1 := R0
      have B2 := R1
      refine wp_two [0, 0, 2, 2] 2 (N + 1 + 1) (28) (#[.int .i64 c1, .int .i64 c2, .int .i64 c3, .int .i64 c4, .int .i64 c5, .int .i64 c6]) 3 (N + 1 + 1 + 1) (46) (#[.bool sa, .bool true, .bool sb]) (by omega) (by kernel_rfl) (by kernel_rfl) ?_
      repeat (first | (refine wpQs_s ?_) | (refine wpQs_q (fun K hK => ?_); go_simp; first | (refine hK _ ?_; clear hK K) | (apply Exists.intro; refine ⟨fun _ => ?_, hK _ ?_⟩; (fail); clear hK K)))
      refine wpQs_nil ?_
      repeat (refine wpLs_skip ?_)
      refine wpLs_one ?s1 (fun vs1_ => ?_)
      case s1 =>
        intro w_ hw_ hp_
        have L2 := hp_.blk (by simp [Ds2]) B1
        obtain ⟨⟨q0, q1, q2, q3, q4, q5⟩, f0, f1, f2, f3, f4, f5⟩ := L2.c6
        go_simp
        exact two_fst (by decide) kept6 (L2.st6 _ _ _ _ _ _)
      refine wpLs_one ?s2 (fun vs2_ => ?_)
      case s2 =>
        intro w_ hw_ hp_
        have T2 := hp_.blk (by simp [Ds2]) B2
        obtain ⟨q0, q1, q2, f0, f1, f2⟩ := T2.c3
        go_simp
        exact two_snd (by decide) kept3 (T2.st3 _ _ _)
      refine wpLs_nilD ?_
      simp only [tails]
      rintro w_ k_ ⟨⟨-, r1⟩, r2⟩
      obtain ⟨⟨m0, m1, m2, m3, m4, m5⟩, -, -, -, -, -, -⟩ := (r1.1 rfl).c6
      obtain ⟨j0, j1, j2, -, -, -⟩ := (r2.2 rfl).c3
      clear r1 r2 x0 y0 B1 B2
      simp only [wpList, Exit.then]
      rename_i hKret
      refine hKret _ _ (wp_ret ?_)
      try simp only [Exit.then]
      refine bodyPost_ret (v := .tuple #[.agg #[.int .i64 c1, .int .i64 c2, .int .i64 c3, .int .i64 c4, .int .i64 c5, .int .i64 c6], .agg #[.bool sa, .bool true, .bool sb]]) (by simp [results, Try.f27, go_sem, m0, m1, m2, m3, m4, m5, j0, j1, j2]) rfl ⟨rfl, ?_⟩
      have hN_ := HN.out
      exact (HH.out).trans (k_.below (HH.out).size (fun b hb => by simp; omega))
  · obtain ⟨t0, t1, t2, -, -, -⟩ := Q.c3
    have hu1 : decide (up ≤ 0) = false := by simpa using hu
    obtain ⟨v0, v1, v2, -, -, -⟩ := D.c3
    have hmn := @run_mn Try.prog
    go_upto_region 5 with (first | (go_at_call 44; refine (HCS.out _ HH.out).mono ?_; rintro e_ w2 ⟨rfl, k2⟩; replace HH := Lib.hid (after HH.out k2); replace U := U.on k2; replace D := D.on k2; replace P := P.on k2; replace Q := Q.on k2; replace R0 := R0.on k2; replace R1 := R1.on k2; clear t0 t1 t2 u0' uu1 uu2 uu3 uu4 uu5 v0 v1 v2; obtain ⟨t0, t1, t2, -, -, -⟩ := Q.c3; obtain ⟨u0', uu1, uu2, uu3, uu4, uu5⟩ := U.c6.1; obtain ⟨v0, v1, v2, -, -, -⟩ := D.c3) | (go_at_call 39; refine (HC1.out _ HH.out).mono ?_; rintro e_ w3 ⟨rfl, k3⟩))
    generalize hV : World.alloc w3 _ = Y3
    have hy : Below w3.heap.size w3 Y3 := by rw [← hV]; go_grown
    have Hb : Blk Y3 w3.heap.size 28 #[.int .i64 h1, .int .i64 h2, .int .i64 h3, .int .i64 h4, .int .i64 h5, .int .i64 h6] := Blk.eqw hV (Blk.new' rfl)
    have hg3 : gp + 2 ≤ w3.heap.size := by have := k3.size; have := Q.lt; omega
    replace U := U.on k3
    replace D := D.on k3
    replace P := P.on k3
    replace Q := Q.on k3
    replace R0 := R0.on k3
    replace R1 := R1.on k3
    replace U := U.on hy
    replace D := D.on hy
    replace P := P.on hy
    replace Q := Q.on hy
    replace R0 := R0.on hy
    replace R1 := R1.on hy
    replace HH := Lib.hid (after (after HH.out k3) hy)
    clear hV hy k3 t0 t1 t2 u0' uu1 uu2 uu3 uu4 uu5 v0 v1 v2
    generalize w3.heap.size = g3 at Hb hg3 ⊢
    obtain ⟨x0, x1, x2, x3, x4, x5⟩ := Hb.c6.1
    obtain ⟨u0', uu1, uu2, uu3, uu4, uu5⟩ := U.c6.1
    obtain ⟨v0, v1, v2, -, -, -⟩ := D.c3
    have hg4 : g3 < Y3.heap.size := Hb.lt
    have hg5 : N < Y3.heap.size := U.lt
    have hg6 : N + 1 < Y3.heap.size := D.lt
    go_upto_region 8 with (fail)
    generalize hV : World.alloc (World.alloc Y3 _) _ = Y4
    have hy : Below Y3.heap.size Y3 Y4 := by rw [← hV]; go_grown
    have Ow : Blk Y4 Y3.heap.size 46 #[.bool false, .bool true, .bool false] := Blk.eqw hV ((Blk.new' rfl).alloc _)
    have Ou : Blk Y4 (Y3.heap.size + 1) 28 #[.int .i64 h1, .int .i64 h2, .int .i64 h3, .int .i64 h4, .int .i64 h5, .int .i64 h6] := Blk.eqw hV (Blk.new' (by simp))
    clear hg5 hg6
    replace U := U.on hy
    replace D := D.on hy
    replace P := P.on hy
    replace Q := Q.on hy
    replace R0 := R0.on hy
    replace R1 := R1.on hy
    replace HH := Lib.hid (after HH.out hy)
    clear hV hy x0 x1 x2 x3 x4 x5 u0' uu1 uu2 uu3 uu4 uu5 v0 v1 v2 Hb
    generalize Y3.heap.size = g4 at Ow Ou hg4 ⊢
    obtain ⟨u0', uu1, uu2, uu3, uu4, uu5⟩ := U.c6.1
    obtain ⟨v0, v1, v2, -, -, -⟩ := D.c3
    obtain ⟨x0, x1, x2, x3, x4, x5⟩ := Ou.c6.1
    go_upto_region 9 with (go_at_call 39; refine (HC2.out _ HH.out).mono ?_; rintro e_ w5 ⟨rfl, k5⟩; replace U := U.on k5; replace D := D.on k5; replace P := P.on k5; replace Q := Q.on k5; replace R0 := R0.on k5; replace R1 := R1.on k5; replace Ow := Ow.on k5; replace Ou := Ou.on k5; obtain ⟨⟨z0, z1, z2, z3, z4, z5⟩, zf0, zf1, zf2, zf3, zf4, zf5⟩ := Ou.c6; obtain ⟨s0, s1, s2, sf0, sf1, sf2⟩ := Ow.c3)
    generalize hV : World.setCell (World.setCell _ _ _) _ _ = Y5
    have hk : Kept (fun c => c ≠ g4 ∧ c ≠ g4 + 1) w5 Y5 := by rw [← hV]; exact (kept6.mono (fun b h => h.2)).setCell (p := ⟨g4, 0, none⟩) (fun h => h.1 rfl) _
    have Ou2 : Blk Y5 (g4 + 1) 28 #[.int .i64 a1, .int .i64 a2, .int .i64 a3, .int .i64 a4, .int .i64 a5, .int .i64 a6] := Blk.eqw hV ((Ou.st6 (.int .i64 a1) (.int .i64 a2) (.int .i64 a3) (.int .i64 a4) (.int .i64 a5) (.int .i64 a6)).far (p := ⟨g4, 0, none⟩) (by dsimp only; omega) _)
    have Ow2 : Blk Y5 g4 46 #[.bool sa, .bool true, .bool false] := Blk.eqw hV ((sx6_far Ow (show g4 ≠ g4 + 1 by omega) (.int .i64 a1) (.int .i64 a2) (.int .i64 a3) (.int .i64 a4) (.int .i64 a5) (.int .i64 a6)).set_ 0 (.bool sa))
    have HB := Lib.hid (show Below w.heap.size w Y5 by
      have h1 := after HH.out k5
      have h2 := HN.out
      rw [← hV]
      exact (sx6_below h1 (by omega) _ _ _ _ _ _).setCell (p := ⟨g4, 0, none⟩) (by dsimp only; omega) _)
    replace U := hk.blk (by omega) U
    replace D := hk.blk (by omega) D
    replace P := hk.blk (by omega) P
    replace Q := hk.blk (by omega) Q
    replace R0 := hk.blk (by omega) R0
    replace R1 := hk.blk (by omega) R1
    clear hV hk k5 HH z0 z1 z2 z3 z4 z5 zf0 zf1 zf2 zf3 zf4 zf5 s0 s1 s2 sf0 sf1 sf2 x0 x1 x2 x3 x4 x5 u0' uu1 uu2 uu3 uu4 uu5 v0 v1 v2 Ou Ow
    have HH := HB
    have Ou := Ou2
    have Ow := Ow2
    clear HB Ou2 Ow2
    obtain ⟨u0', uu1, uu2, uu3, uu4, uu5⟩ := U.c6.1
    obtain ⟨v0, v1, v2, -, -, -⟩ := D.c3
    obtain ⟨x0, x1, x2, x3, x4, x5⟩ := Ou.c6.1
    go_upto_region 10 with (go_at_call 39; refine (HC3.out _ HH.out).mono ?_; rintro e_ w6 ⟨rfl, k5⟩; replace U := U.on k5; replace D := D.on k5; replace P := P.on k5; replace Q := Q.on k5; replace R0 := R0.on k5; replace R1 := R1.on k5; replace Ow := Ow.on k5; replace Ou := Ou.on k5; obtain ⟨⟨z0, z1, z2, z3, z4, z5⟩, zf0, zf1, zf2, zf3, zf4, zf5⟩ := Ou.c6; obtain ⟨s0, s1, s2, sf0, sf1, sf2⟩ := Ow.c3)
    generalize hV : World.setCell (World.setCell _ _ _) _ _ = Y6
    have hk : Kept (fun c => c ≠ g4 ∧ c ≠ g4 + 1) w6 Y6 := by rw [← hV]; exact (kept6.mono (fun b h => h.2)).setCell (p := ⟨g4, 2, none⟩) (fun h => h.1 rfl) _
    have Ou2 : Blk Y6 (g4 + 1) 28 #[.int .i64 b1, .int .i64 b2, .int .i64 b3, .int .i64 b4, .int .i64 b5, .int .i64 b6] := Blk.eqw hV ((Ou.st6 (.int .i64 b1) (.int .i64 b2) (.int .i64 b3) (.int .i64 b4) (.int .i64 b5) (.int .i64 b6)).far (p := ⟨g4, 2, none⟩) (by dsimp only; omega) _)
    have Ow2 : Blk Y6 g4 46 #[.bool sa, .bool true, .bool sb] := Blk.eqw hV ((sx6_far Ow (show g4 ≠ g4 + 1 by omega) (.int .i64 b1) (.int .i64 b2) (.int .i64 b3) (.int .i64 b4) (.int .i64 b5) (.int .i64 b6)).set_ 2 (.bool sb))
    have HB := Lib.hid (show Below w.heap.size w Y6 by
      have h1 := after HH.out k5
      have h2 := HN.out
      rw [← hV]
      exact (sx6_below h1 (by omega) _ _ _ _ _ _).setCell (p := ⟨g4, 2, none⟩) (by dsimp only; omega) _)
    replace U := hk.blk (by omega) U
    replace D := hk.blk (by omega) D
    replace P := hk.blk (by omega) P
    replace Q := hk.blk (by omega) Q
    replace R0 := hk.blk (by omega) R0
    replace R1 := hk.blk (by omega) R1
    clear hV hk k5 HH z0 z1 z2 z3 z4 z5 zf0 zf1 zf2 zf3 zf4 zf5 s0 s1 s2 sf0 sf1 sf2 x0 x1 x2 x3 x4 x5 u0' uu1 uu2 uu3 uu4 uu5 v0 v1 v2 Ou Ow
    have HH := HB
    have Ou := Ou2
    have Ow := Ow2
    clear HB Ou2 Ow2
    obtain ⟨u0', uu1, uu2, uu3, uu4, uu5⟩ := U.c6.1
    obtain ⟨v0, v1, v2, -, -, -⟩ := D.c3
    obtain ⟨x0, x1, x2, x3, x4, x5⟩ := Ou.c6.1
    go_upto_region 11 with (go_at_call 39; refine (HC4.out _ HH.out).mono ?_; rintro e_ w7 ⟨rfl, k5⟩; replace U := U.on k5; replace D := D.on k5; replace P := P.on k5; replace Q := Q.on k5; replace R0 := R0.on k5; replace R1 := R1.on k5; replace Ow := Ow.on k5; replace Ou := Ou.on k5; obtain ⟨⟨z0, z1, z2, z3, z4, z5⟩, zf0, zf1, zf2, zf3, zf4, zf5⟩ := Ou.c6; obtain ⟨s0, s1, s2, sf0, sf1, sf2⟩ := Ow.c3)
    generalize hV : World.setCell (World.setCell _ _ _) _ _ = Y7
    have hk : Kept (fun c => c ≠ g4 ∧ c ≠ g4 + 1) w7 Y7 := by rw [← hV]; exact kept6.mono (fun b h => h.2)
    have Ou2 : Blk Y7 (g4 + 1) 28 #[.int .i64 c1, .int .i64 c2, .int .i64 c3, .int .i64 c4, .int .i64 c5, .int .i64 c6] := Blk.eqw hV (Ou.st6 (.int .i64 c1) (.int .i64 c2) (.int .i64 c3) (.int .i64 c4) (.int .i64 c5) (.int .i64 c6))
    have Ow2 : Blk Y7 g4 46 #[.bool sa, .bool true, .bool sb] := Blk.eqw hV (sx6_far Ow (show g4 ≠ g4 + 1 by omega) (.int .i64 c1) (.int .i64 c2) (.int .i64 c3) (.int .i64 c4) (.int .i64 c5) (.int .i64 c6))
    have HB := Lib.hid (show Below w.heap.size w Y7 by
      have h1 := after HH.out k5
      have h2 := HN.out
      rw [← hV]
      exact sx6_below h1 (by omega) _ _ _ _ _ _)
    replace U := hk.blk (by omega) U
    replace D := hk.blk (by omega) D
    replace P := hk.blk (by omega) P
    replace Q := hk.blk (by omega) Q
    replace R0 := hk.blk (by omega) R0
    replace R1 := hk.blk (by omega) R1
    clear hV hk k5 HH z0 z1 z2 z3 z4 z5 zf0 zf1 zf2 zf3 zf4 zf5 s0 s1 s2 sf0 sf1 sf2 x0 x1 x2 x3 x4 x5 u0' uu1 uu2 uu3 uu4 uu5 v0 v1 v2 Ou Ow
    have HH := HB
    have Ou := Ou2
    have Ow := Ow2
    clear HB Ou2 Ow2
    obtain ⟨u0', uu1, uu2, uu3, uu4, uu5⟩ := U.c6.1
    obtain ⟨v0, v1, v2, -, -, -⟩ := D.c3
    obtain ⟨x0, x1, x2, x3, x4, x5⟩ := Ou.c6.1
    clear v0 v1 v2 x0 x1 x2 x3 x4 x5 u0' uu1 uu2 uu3 uu4 uu5
    obtain ⟨x0, x1, x2, x3, x4, x5⟩ := Ou.re6
    obtain ⟨v0, v1, v2, v3, v4, v5⟩ := P.re6
    obtain ⟨u0', uu1, uu2, uu3, uu4, uu5⟩ := U.re6
    refine wp_region_quiet_below (by kernel_rfl) (by kernel_rfl) ?_
    repeat (go_big_quiet_step (first | (with_reducible exact Calls.regrown_of (HW1.out _)) | (with_reducible exact Calls.regrown_of (HW2.out _))))
    refine wpQuiet_nil ?_
    intro w' hw'
    obtain ⟨rg, rfl⟩ := hw'
    clear v0 v1 v2 v3 v4 v5 x0 x1 x2 x3 x4 x5 u0' uu1 uu2 uu3 uu4 uu5
    obtain ⟨Y8, hY8⟩ : ∃ Y8, Y8 = Go.Sort.grow (redrawn Y7 rg.d) rg.os := ⟨_, rfl⟩
    rw [← hY8]
    have hy : Below Y7.heap.size Y7 Y8 := by rw [hY8]; exact below_regrown _ _ _
    replace P := P.on hy
    replace Q := Q.on hy
    replace R0 := R0.on hy
    replace R1 := R1.on hy
    replace Ou := Ou.on hy
    replace Ow := Ow.on hy
    replace HH := Lib.hid (after HH.out hy)
    clear hY8 hy U D
    rcases (show n1 ≤ n2 ∨ n2 < n1 by omega) with hn | hn
    · obtain rfl : r = ((y1, y2, y3, y4, y5, y6), true, u1, u2) := by rw [HR.out, stepOf_no (.inr (.inr (.inr hn)))]
      have x0 := fun f d os => (P.sp (D := [N + 1 + 1, N + 1 + 1 + 1]) (by simp; omega) f d os).c6.1
      have y0 := fun f d os => (Q.sp (D := [N + 1 + 1, N + 1 + 1 + 1]) (by simp; omega) f d os).c3
      go_upto_region 12 with (fail)
      have B1 := R0
      have B2 := R1
      refine wp_two [0, 0, 2, 2] 2 (N + 1 + 1) (28) (#[.int .i64 y1, .int .i64 y2, .int .i64 y3, .int .i64 y4, .int .i64 y5, .int .i64 y6]) 3 (N + 1 + 1 + 1) (46) (#[.bool true, .bool u1, .bool u2]) (by omega) (by kernel_rfl) (by kernel_rfl) ?_
      repeat (first | (refine wpQs_s ?_) | (refine wpQs_q (fun K hK => ?_); go_simp; first | (refine hK _ ?_; clear hK K) | (apply Exists.intro; refine ⟨fun _ => ?_, hK _ ?_⟩; (fail); clear hK K)))
      refine wpQs_nil ?_
      repeat (refine wpLs_skip ?_)
      refine wpLs_one ?s1 (fun vs1_ => ?_)
      case s1 =>
        intro w_ hw_ hp_
        have L2 := hp_.blk (by simp [Ds2]) B1
        obtain ⟨⟨q0, q1, q2, q3, q4, q5⟩, f0, f1, f2, f3, f4, f5⟩ := L2.c6
        go_simp
        exact two_fst (by decide) kept6 (L2.st6 _ _ _ _ _ _)
      refine wpLs_one ?s2 (fun vs2_ => ?_)
      case s2 =>
        intro w_ hw_ hp_
        have T2 := hp_.blk (by simp [Ds2]) B2
        obtain ⟨q0, q1, q2, f0, f1, f2⟩ := T2.c3
        go_simp
        exact two_snd (by decide) kept3 (T2.st3 _ _ _)
      refine wpLs_nilD ?_
      simp only [tails]
      rintro w_ k_ ⟨⟨-, r1⟩, r2⟩
      obtain ⟨⟨m0, m1, m2, m3, m4, m5⟩, -, -, -, -, -, -⟩ := (r1.1 rfl).c6
      obtain ⟨j0, j1, j2, -, -, -⟩ := (r2.2 rfl).c3
      clear r1 r2 x0 y0 B1 B2
      simp only [wpList, Exit.then]
      rename_i hKret
      refine hKret _ _ (wp_ret ?_)
      try simp only [Exit.then]
      refine bodyPost_ret (v := .tuple #[.agg #[.int .i64 y1, .int .i64 y2, .int .i64 y3, .int .i64 y4, .int .i64 y5, .int .i64 y6], .agg #[.bool true, .bool u1, .bool u2]]) (by simp [results, Try.f27, go_sem, m0, m1, m2, m3, m4, m5, j0, j1, j2]) rfl ⟨rfl, ?_⟩
      have hN_ := HN.out
      exact (HH.out).trans (k_.below (HH.out).size (fun b hb => by simp; omega))
    · obtain rfl : r = ((c1, c2, c3, c4, c5, c6), sa, true, sb) := by rw [HR.out, stepOf_yes (.inl rfl) hu hn]
      have hn2 : decide (n1 ≤ n2) = false := by simpa using hn
      have x0 := fun f d os => (Ou.sp (D := [N + 1 + 1, N + 1 + 1 + 1]) (by simp; omega) f d os).c6.1
      have y0 := fun f d os => (Ow.sp (D := [N + 1 + 1, N + 1 + 1 + 1]) (by simp; omega) f d os).c3
      go_upto_region 13 with (fail)
      have B1 := R0
      have B2 := R1
      refine wp_two [0, 0, 2, 2] 2 (N + 1 + 1) (28) (#[.int .i64 c1, .int .i64 c2, .int .i64 c3, .int .i64 c4, .int .i64 c5, .int .i64 c6]) 3 (N + 1 + 1 + 1) (46) (#[.bool sa, .bool true, .bool sb]) (by omega) (by kernel_rfl) (by kernel_rfl) ?_
      repeat (first | (refine wpQs_s ?_) | (refine wpQs_q (fun K hK => ?_); go_simp; first | (refine hK _ ?_; clear hK K) | (apply Exists.intro; refine ⟨fun _ => ?_, hK _ ?_⟩; (fail); clear hK K)))
      refine wpQs_nil ?_
      repeat (refine wpLs_skip ?_)
      refine wpLs_one ?s1 (fun vs1_ => ?_)
      case s1 =>
        intro w_ hw_ hp_
        have L2 := hp_.blk (by simp [Ds2]) B1
        obtain ⟨⟨q0, q1, q2, q3, q4, q5⟩, f0, f1, f2, f3, f4, f5⟩ := L2.c6
        go_simp
        exact two_fst (by decide) kept6 (L2.st6 _ _ _ _ _ _)
      refine wpLs_one ?s2 (fun vs2_ => ?_)
      case s2 =>
        intro w_ hw_ hp_
        have T2 := hp_.blk (by simp [Ds2]) B2
        obtain ⟨q0, q1, q2, f0, f1, f2⟩ := T2.c3
        go_simp
        exact two_snd (by decide) kept3 (T2.st3 _ _ _)
      refine wpLs_nilD ?_
      simp only [tails]
      rintro w_ k_ ⟨⟨-, r1⟩, r2⟩
      obtain ⟨⟨m0, m1, m2, m3, m4, m5⟩, -, -, -, -, -, -⟩ := (r1.1 rfl).c6
      obtain ⟨j0, j1, j2, -, -, -⟩ := (r2.2 rfl).c3
      clear r1 r2 x0 y0 B1 B2
      simp only [wpList, Exit.then]
      rename_i hKret
      refine hKret _ _ (wp_ret ?_)
      try simp only [Exit.then]
      refine bodyPost_ret (v := .tuple #[.agg #[.int .i64 c1, .int .i64 c2, .int .i64 c3, .int .i64 c4, .int .i64 c5, .int .i64 c6], .agg #[.bool sa, .bool true, .bool sb]]) (by simp [results, Try.f27, go_sem, m0, m1, m2, m3, m4, m5, j0, j1, j2]) rfl ⟨rfl, ?_⟩
      have hN_ := HN.out
      exact (HH.out).trans (k_.below (HH.out).size (fun b hb => by simp; omega))
end Go.Proofs.Ytckjpiioipkfcaa

/- A region that draws its order: one invariant over what is laid; guarded operations. No program in sight. -/
namespace Go.Proofs.Ytckjpiioipkfcaa
open Go.RowKit

section
variable {P : Program} {ops : Array Oper} {C : World → Prop} {ks : List Nat}
/-- Some value and world of which R holds. -/
def sumUponI (P : Program) (R : Rel) (w : World) : Result Next → Prop
  | .ok (.value u) w' => R u w'
  | .ok .skip w' => R undef w'
  | .ok (.enter f args) w' => w' = w ∧ Calls P f args w (fun e w'' => ∃ u, e = .returned u ∧ R u w'')
  | _ => False
def sumAtI (P : Program) (o : Oper) (a : Act) (R : Rel) (w : World) : Prop := sumUponI P R w ((execOp a.eval o).run P w)
theorem wp_of_sumAtI {o : Oper} {a : Act} {w : World} {R : Rel} {K : Act → World → Prop} {Q' : Exit → Act → World → Prop} (h : sumAtI P o a R w) (hk : ∀ v w', R v w' → K (a.put o.dst v) w') : o.wp P a w K Q' := by
  unfold sumAtI at h
  unfold Oper.wp
  generalize (execOp a.eval o).run P w = r at *
  cases r with
  | ok nx w' =>
    cases nx <;> simp only [sumUponI] at h <;> simp only [Oper.upon]
    case value u => exact hk _ _ h
    case skip => exact hk _ _ h
    case enter f args =>
      obtain ⟨e1, hc⟩ := h
      rw [e1]
      exact hc.mono fun e w'' ⟨u, he, hR⟩ => by subst he; exact hk _ _ hR
  | halt x w' => simp only [sumUponI] at h
theorem sumAtI.alike {o : Oper} {R : Rel} {w : World} {a b : Act} (hs : ∀ cs b, o.op ≠ .select cs b) (h : Alike ops o a b) (hy : sumAtI P o a R w) : sumAtI P o b R w := by
  unfold sumAtI at *
  rwa [← exec_alike hs h]
theorem sumAtI.mono {o : Oper} {a : Act} {R R' : Rel} {w : World} (hr : ∀ v w, R v w → R' v w) (h : sumAtI P o a R w) : sumAtI P o a R' w := by
  unfold sumAtI at *
  generalize (execOp a.eval o).run P w = r at *
  cases r with
  | ok nx w' =>
    cases nx <;> simp only [sumUponI] at h ⊢
    case value u => exact hr _ _ h
    case skip => exact hr _ _ h
    case enter f args => exact ⟨h.1, h.2.mono fun e w'' ⟨u, he, hR⟩ => ⟨u, he, hr _ _ hR⟩⟩
  | halt x w' => simp only [sumUponI] at h
/-- The same behind a guard. -/
def sumGI (P : Program) (ops : Array Oper) (o : Oper) (a : Act) (R : Rel) (w : World) : Prop :=
  (Region.wanted o (yielded ops a.tmps) = true ∧ sumAtI P o a R w) ∨ (Region.wanted o (yielded ops a.tmps) = false ∧ R undef w)
theorem sumGI.mono {o : Oper} {a : Act} {R R' : Rel} {w : World} (hr : ∀ v w, R v w → R' v w) (h : sumGI P ops o a R w) : sumGI P ops o a R' w :=
  h.imp (fun h => ⟨h.1, h.2.mono hr⟩) fun h => ⟨h.1, hr _ _ h.2⟩
theorem sumGI.alike {o : Oper} {R : Rel} {w : World} {a b : Act} (hs : ∀ cs b, o.op ≠ .select cs b) (h : Alike ops o a b) (hz : a.tmps.size = b.tmps.size) (hy : sumGI P ops o a R w) : sumGI P ops o b R w := by
  unfold sumGI at *
  rw [← wanted_alike h hz]
  exact hy.imp (fun h1 => ⟨h1.1, h1.2.alike hs h⟩) id
def upd (vs : Nat → Value) (i : Nat) (v : Value) : Nat → Value := fun j => if j = i then v else vs j
theorem upd_same (vs : Nat → Value) (i : Nat) (v : Value) : upd vs i v i = v := by unfold upd; rw [if_pos rfl]
theorem upd_ne {vs : Nat → Value} {i j : Nat} {v : Value} (h : j ≠ i) : upd vs i v j = vs j := by unfold upd; rw [if_neg h]
/-- Of what is laid, its values and the world. -/
abbrev InvT := (Nat → Prop) → (Nat → Value) → World → Prop
def andOf (S : Nat → Prop) (i : Nat) : Nat → Prop := fun j => j = i ∨ S j
def wpLsI (P : Program) (ops : Array Oper) (C : World → Prop) (I : InvT) (an : Nat → Nat → Bool) (ks0 : List Nat) (T : Act → World → Prop) : List Nat → List Oper → Nat → Act → (Nat → Value) → Prop
  | _, [], n, a, vs => ∀ V w', C w' → (∀ j, j < n → kd ks0 j = 2 → V j = vs j) → I (fun j => j < n ∧ kd ks0 j = 2) V w' → T a w'
  | [], _ :: _, _, _, _ => False
  | 0 :: ks, _ :: l, i, a, vs => wpLsI P ops C I an ks0 T ks l (i + 1) a vs
  | 1 :: ks, _ :: l, i, a, vs => wpLsI P ops C I an ks0 T ks l (i + 1) a vs
  | 2 :: ks, o :: l, i, a, vs => (∀ S V w', C w' → (∀ j, j < i → kd ks0 j = 2 → V j = vs j) → (∀ j, j < i → kd ks0 j = 2 → an i j = true → S j) → ¬ S i → I S V w' → sumGI P ops o a (fun v w => C w ∧ I (andOf S i) (upd V i v) w) w') ∧ ∀ v, wpLsI P ops C I an ks0 T ks l (i + 1) (a.put o.dst v) (upd vs i v)
  | (_ + 3) :: ks, _ :: l, i, a, vs => wpLsI P ops C I an ks0 T ks l (i + 1) a vs
section
variable {l : List Oper}
theorem ls_factsI {I : InvT} {an : Nat → Nat → Bool} {T : Act → World → Prop} : ∀ (r : List Oper) (kr : List Nat) (k : Nat) (a : Act) (vs : Nat → Value), l.drop k = r → ks.drop k = kr → k ≤ l.length → wpLsI P l.toArray C I an ks T kr r k a vs →
    ∀ V : Nat → Value, (∀ j, j < k → kd ks j = 2 → V j = vs j) → (∀ i o, k ≤ i → l.toArray[i]? = some o → kd ks i = 2 → ∀ S w', C w' → (∀ j, j < i → kd ks j = 2 → an i j = true → S j) → ¬ S i → I S V w' → sumGI P l.toArray o (stL l.toArray V (nums ks pL k i) a) (fun v w => C w ∧ I (andOf S i) (upd V i v) w) w') ∧
      ∀ w', C w' → I (fun j => j < l.length ∧ kd ks j = 2) V w' → T (stL l.toArray V (nums ks pL k l.length) a) w' := by
  intro r
  induction r with
  | nil =>
    intro kr k a vs hr _ hkl h V hvs
    have hk : k = l.length := by have : l.length ≤ k := by simpa using hr
                                 omega
    refine ⟨fun i o hi ho => ?_, fun w' h1 h2 => ?_⟩
    · have := (Array.getElem?_eq_some_iff.1 ho).1; simp at this; omega
    · rw [nums_none (Nat.le_of_eq hk.symm)]; unfold wpLsI at h; subst hk; exact h V w' h1 hvs h2
  | cons o r ih =>
    intro kr k a vs hr hkr hkl h V hvs
    obtain ⟨ho, hr', hlt⟩ := op_at hr
    have hdst : dstOf l.toArray k = o.dst := by unfold dstOf; rw [ho]; rfl
    cases kr with
    | nil => exact h.elim
    | cons c kr =>
      obtain ⟨hc, hkr'⟩ := kd_at hkr
      have skip : c ≠ 2 → wpLsI P l.toArray C I an ks T kr r (k + 1) a vs → (∀ i o, k ≤ i → l.toArray[i]? = some o → kd ks i = 2 → ∀ S w', C w' → (∀ j, j < i → kd ks j = 2 → an i j = true → S j) → ¬ S i → I S V w' → sumGI P l.toArray o (stL l.toArray V (nums ks pL k i) a) (fun v w => C w ∧ I (andOf S i) (upd V i v) w) w') ∧
          ∀ w', C w' → I (fun j => j < l.length ∧ kd ks j = 2) V w' → T (stL l.toArray V (nums ks pL k l.length) a) w' := fun hc2 h => by
        obtain ⟨h3, h4⟩ := ih kr (k + 1) a vs hr' hkr' hlt h V (fun j hj hj2 => hvs j (by rcases Nat.lt_or_eq_of_le (Nat.le_of_lt_succ hj) with e | e; exact e; subst e; omega) hj2)
        have hst : ∀ n, k < n → nums ks pL k n = nums ks pL (k + 1) n := fun n hn => by rw [nums_step hn, hc, if_neg (by simpa using hc2)]
        refine ⟨fun i o' hi ho' hk2 => ?_, fun w' h1 h2 => by rw [hst _ hlt]; exact h4 w' h1 h2⟩
        rcases Nat.lt_or_eq_of_le hi with h5 | h5
        · rw [hst i h5]; exact h3 i o' (by omega) ho' hk2
        · subst h5; omega
      match c, h, hc, skip with
      | 0, h, hc, skip => unfold wpLsI at h; exact skip (by omega) h
      | 1, h, hc, skip => unfold wpLsI at h; exact skip (by omega) h
      | 2, h, hc, _ =>
        unfold wpLsI at h
        obtain ⟨h3, h4⟩ := ih kr (k + 1) _ _ hr' hkr' hlt (h.2 (V k)) V (fun j hj hj2 => by rcases Nat.lt_or_eq_of_le (Nat.le_of_lt_succ hj) with e | e; exact (hvs j e hj2).trans (upd_ne (by omega)).symm; subst e; exact (upd_same _ _ _).symm)
        have hst : ∀ n, k < n → stL l.toArray V (nums ks pL k n) a = stL l.toArray V (nums ks pL (k + 1) n) (a.put o.dst (V k)) := fun n hn => by
          rw [nums_step hn, hc, if_pos (by simp), stL_cons, hdst]
        refine ⟨fun i o' hi ho' hk2 => ?_, fun w' h1 h2 => by rw [hst _ hlt]; exact h4 w' h1 h2⟩
        rcases Nat.lt_or_eq_of_le hi with h5 | h5
        · rw [hst i h5]; exact h3 i o' (by omega) ho' hk2
        · subst h5
          rw [nums_none (Nat.le_refl _)]
          rw [ho] at ho'
          obtain rfl := Option.some.inj ho'
          exact fun S w' h6 h8 h9 h10 => h.1 S V w' h6 hvs h8 h9 h10
      | c + 3, h, hc, skip => unfold wpLsI at h; exact skip (by omega) h
end
variable {anc : Nat → Nat → Prop}
variable {Q : Exit → Act → World → Prop} {V : Nat → Value} {a0 : Act}
/-- The l's that are laid. -/
def lsUp (ks : List Nat) (n : Nat) (listed : Array Bool) : Nat → Prop := fun j => j < n ∧ kd ks j = 2 ∧ up listed j = true
theorem lsUp_skip {listed : Array Bool} {n i : Nat} (hi : i < listed.size) (hk : kd ks i ≠ 2) : lsUp ks n (listed.setIfInBounds i true) = lsUp ks n listed := by
  funext j
  unfold lsUp
  rw [up_set hi]
  by_cases h : j = i
  · subst h; simp [hk]
  · rw [if_neg h]
theorem lsUp_add {listed : Array Bool} {n i : Nat} (hi : i < listed.size) (hn : i < n) (hk : kd ks i = 2) : lsUp ks n (listed.setIfInBounds i true) = andOf (lsUp ks n listed) i := by
  funext j
  unfold lsUp andOf
  rw [up_set hi]
  by_cases h : j = i
  · subst h; simp [hk, hn]
  · rw [if_neg h]; simp [h]
theorem lsUp_all {listed : Array Bool} {n : Nat} (h : ∀ i, i < n → kd ks i = 2 → up listed i = true) : lsUp ks n listed = fun j => j < n ∧ kd ks j = 2 := by
  funext j
  unfold lsUp
  exact propext ⟨fun h => ⟨h.1, h.2.1⟩, fun h1 => ⟨h1.1, h1.2, h j h1.1 h1.2⟩⟩
theorem Sch.phase1I (H : Sch ops ks anc) {Vq : Nat → Value} {I : InvT} {an : Nat → Nat → Bool} (han : ∀ i j, an i j = true → i < ops.size → j < ops.size → anc i j)
    (hC : ∀ w w', C w → Below w.heap.size w w' → C w') (hR : ∀ S V w w', C w → I S V w → Below w.heap.size w w' → I S V w')
    (hG : ∀ (i : Nat) (o : Oper), ops[i]? = some o → kd ks i < 2 → Owe P ops C (kd ks i) o (Vq i) (stL ops Vq (nums ks pQ 0 i) a0))
    (hL : ∀ V : Nat → Value, (∀ (i : Nat) (o : Oper), ops[i]? = some o → kd ks i = 2 → ∀ S w', C w' → (∀ j, j < i → kd ks j = 2 → an i j = true → S j) → ¬ S i → I S V w' → sumGI P ops o (stL ops V (nums ks pL 0 i) (stL ops Vq (nums ks pQ 0 ops.size) a0)) (fun v w => C w ∧ I (andOf S i) (upd V i v) w) w') ∧
      ∀ w', C w' → I (fun j => j < ops.size ∧ kd ks j = 2) V w' → wpList P ops (Exit.then (fun a w => Q .normal a w) (fun _ _ _ => False)) ((nums ks pT 0 ops.size).filterMap fun i => ops[i]?) (stL ops V (nums ks pL 0 ops.size) (stL ops Vq (nums ks pQ 0 ops.size) a0)) w') :
    ∀ (f : Nat) (listed : Array Bool) (V : Nat → Value) (w : World), listed.size = ops.size → Upw ops listed → cnt ops.size listed = f → (∀ i, kd ks i < 2 → V i = Vq i) → (∀ i, 3 ≤ kd ks i → up listed i = false) → C w →
      I (lsUp ks ops.size listed) V w → Go.wpAny P .any ops Q f listed (stL ops V ((nonT ks ops.size).filter (up listed)) a0) w := by
  intro f
  induction f with
  | zero =>
    intro listed V w hs hU hc hV hT hw hRs
    refine H.phase2 (V := V) (a0 := a0) (fun i o ho hk => ?_) 0 listed _ w hs hU hc (fun i hi _ => cnt_zero hc hi) (fun t _ => rfl) (stL_size _ _ _) ?_
    · have := hG i o ho (by omega)
      rw [show stL ops V (nums ks pQ 0 i) a0 = stL ops Vq (nums ks pQ 0 i) a0 from stL_same H.apart fun j => ⟨Iff.rfl, fun h => hV j (by have := (mem_nums.1 h).2; simpa [pQ] using this)⟩, hV i (by omega)]
      unfold Owe at this
      rwa [if_neg (by omega)] at this
    · exact finish listed V w hs hV hT hw hRs (fun i hi _ => cnt_zero hc hi)
  | succ f ih =>
    intro listed V w hs hU hc hV hT hw hRs
    by_cases hall : ∀ i, i < ops.size → kd ks i = 0 ∨ kd ks i = 2 → up listed i = true
    · refine H.phase2 (V := V) (a0 := a0) (fun i o ho hk => ?_) (f + 1) listed _ w hs hU hc hall (fun t _ => rfl) (stL_size _ _ _) ?_
      · have := hG i o ho (by omega)
        rw [show stL ops V (nums ks pQ 0 i) a0 = stL ops Vq (nums ks pQ 0 i) a0 from stL_same H.apart fun j => ⟨Iff.rfl, fun h => hV j (by have := (mem_nums.1 h).2; simpa [pQ] using this)⟩, hV i (by omega)]
        unfold Owe at this
        rwa [if_neg (by omega)] at this
      · exact finish listed V w hs hV hT hw hRs hall
    · refine ⟨fun hr => absurd hr (H.ready_ne hs (by omega)), fun i hi => ?_⟩
      obtain ⟨hu, o, ho, he⟩ := mem_ready.1 hi
      have hlt := (Array.getElem?_eq_some_iff.1 ho).1
      rw [getD_any (by omega)] at hu
      have hdst : dstOf ops i = o.dst := by unfold dstOf; rw [ho]; rfl
      have hup : ∀ j, anc i j → up listed j = true := fun j => H.anc_up hU i o j ho he
      have hk3 : kd ks i < 3 := by
        rcases Nat.lt_or_ge (kd ks i) 3 with h | h
        · exact h
        · exfalso
          apply hall
          intro j hj hk
          rcases H.tail i o ho h j hj with h1 | h1 | h1
          · omega
          · omega
          · exact hup j h1
      have hU' := hU.set (by omega) ho he
      have hs' : (listed.setIfInBounds i true).size = ops.size := by simp [hs]
      have hc' : cnt ops.size (listed.setIfInBounds i true) = f := by have := cnt_set hs hlt hu; omega
      have hT' : ∀ j, 3 ≤ kd ks j → up (listed.setIfInBounds i true) j = false := fun j hj => by
        rw [up_set (by omega), if_neg (fun e => by subst e; omega)]; exact hT j hj
      have hst : ∀ (V' : Nat → Value) (v : Value), (∀ j, j ≠ i → V' j = V j) → V' i = v → (stL ops V ((nonT ks ops.size).filter (up listed)) a0).put o.dst v = stL ops V' ((nonT ks ops.size).filter (up (listed.setIfInBounds i true))) a0 := fun V' v h1 h2 => by
        have e : (stL ops V ((nonT ks ops.size).filter (up listed)) a0).put o.dst v = stL ops V' ((nonT ks ops.size).filter (up listed) ++ [i]) a0 := by
          rw [stL_app, stL_cons, hdst, h2, show stL ops V' ((nonT ks ops.size).filter (up listed)) a0 = stL ops V ((nonT ks ops.size).filter (up listed)) a0 from stL_same H.apart fun j => ⟨Iff.rfl, fun h => h1 j (fun e => by subst e; exact absurd ((List.mem_filter.1 h).2.symm.trans hu) (by decide))⟩]
          rfl
        rw [e]
        refine stL_same H.apart fun j => ⟨?_, fun _ => rfl⟩
        rw [List.mem_append, List.mem_filter, List.mem_filter, List.mem_singleton, up_set (by omega), mem_nonT]
        constructor
        · rintro (⟨h3, h4⟩ | rfl)
          · exact ⟨h3, by split <;> first | rfl | exact h4⟩
          · exact ⟨⟨hlt, hk3⟩, by rw [if_pos rfl]⟩
        · rintro ⟨h3, h4⟩
          by_cases hji : j = i
          · exact .inr hji
          · rw [if_neg hji] at h4; exact .inl ⟨h3, h4⟩
      have hlooks : ∀ t ∈ o.looksAt ops, ∀ j, dstOf ops j = some t → (up listed j = true ∧ j < i ∧ (kd ks j < 2 ∨ (kd ks i = 2 ∧ kd ks j = 2))) ∨ 3 ≤ kd ks j := fun t ht j hj => by
        rcases H.looks i o ho t ht j hj with ⟨h1, h2⟩ | h1
        · exact .inl ⟨hup j h1, (H.lower i j h1).1, by omega⟩
        · exact .inr h1.2.2
      unfold wpOp
      rw [ho]
      dsimp only
      by_cases hk : kd ks i < 2
      · have hal : Alike ops o (stL ops Vq (nums ks pQ 0 i) a0) (stL ops V ((nonT ks ops.size).filter (up listed)) a0) := fun t ht => by
          refine stL_agree H.apart fun j hj => ?_
          rcases hlooks t ht j hj with ⟨h1, h2, h3⟩ | h3
          · exact ⟨⟨fun _ => List.mem_filter.2 ⟨mem_nonT.2 ⟨by omega, by omega⟩, h1⟩, fun _ => mem_nums.2 ⟨⟨Nat.zero_le _, h2⟩, by simp [pQ]; omega⟩⟩, fun _ => (hV j (by omega)).symm⟩
          · exact ⟨⟨fun h => (by have := (mem_nums.1 h).2; simp [pQ] at this; omega), fun h => (by have := (mem_nonT.1 (List.mem_filter.1 h).1).2; omega)⟩, fun h => (by have := (mem_nums.1 h).2; simp [pQ] at this; omega)⟩
        have hy0 := hG i o ho hk
        have hy : Gives P ops C o (V i) (stL ops V ((nonT ks ops.size).filter (up listed)) a0) := by
          rw [hV i hk]
          unfold Owe at hy0
          by_cases hz : kd ks i = 0
          · rw [if_pos hz] at hy0
            exact Gives.alike (H.sel i o · · ho) hal (by rw [stL_size, stL_size]) hy0
          · rw [if_neg hz] at hy0
            exact Gives.alike (H.sel i o · · ho) hal (by rw [stL_size, stL_size]) hy0.gives
        have hls : lsUp ks ops.size (listed.setIfInBounds i true) = lsUp ks ops.size listed := lsUp_skip (by omega) (by omega)
        rcases hy with ⟨hwn, hv⟩ | ⟨hwn, hv⟩
        · rw [if_pos hwn]
          refine .inl (wp_of_relAt (hv w hw) fun w' hb => ?_)
          rw [hst V (V i) (fun _ _ => rfl) rfl]
          exact ih _ V w' hs' hU' hc' hV hT' (hC _ _ hw hb) (by rw [hls]; exact hR _ _ _ _ hw hRs hb)
        · rw [if_neg (by rw [hwn]; decide), ← hv, hst V (V i) (fun _ _ => rfl) rfl]
          exact ih _ V w hs' hU' hc' hV hT' hw (by rw [hls]; exact hRs)
      · have hk2 : kd ks i = 2 := by omega
        have hal : Alike ops o (stL ops V (nums ks pL 0 i) (stL ops Vq (nums ks pQ 0 ops.size) a0)) (stL ops V ((nonT ks ops.size).filter (up listed)) a0) := fun t ht => by
          rw [show stL ops Vq (nums ks pQ 0 ops.size) a0 = stL ops V (nums ks pQ 0 ops.size) a0 from stL_same H.apart fun j => ⟨Iff.rfl, fun h => (hV j (by have := (mem_nums.1 h).2; simpa [pQ] using this)).symm⟩, ← stL_app]
          refine stL_agree H.apart fun j hj => ⟨?_, fun _ => rfl⟩
          rcases hlooks t ht j hj with ⟨h1, h2, h3⟩ | h3
          · refine ⟨fun _ => List.mem_filter.2 ⟨mem_nonT.2 ⟨by omega, by omega⟩, h1⟩, fun _ => ?_⟩
            rcases h3 with h3 | ⟨-, h3⟩
            · exact List.mem_append_left _ (mem_nums.2 ⟨⟨Nat.zero_le _, by omega⟩, by simp [pQ]; omega⟩)
            · exact List.mem_append_right _ (mem_nums.2 ⟨⟨Nat.zero_le _, h2⟩, by simp [pL, h3]⟩)
          · refine ⟨fun h => ?_, fun h => (by have := (mem_nonT.1 (List.mem_filter.1 h).1).2; omega)⟩
            rcases List.mem_append.1 h with h | h
            · have := (mem_nums.1 h).2; simp [pQ] at this; omega
            · have := (mem_nums.1 h).2; simp [pL] at this; omega
        have hls := lsUp_add (ks := ks) (n := ops.size) (listed := listed) (by omega) hlt hk2
        have hy := sumGI.alike (H.sel i o · · ho) hal (by rw [stL_size, stL_size, stL_size]) ((hL V).1 i o ho hk2 (lsUp ks ops.size listed) w hw (fun j hj1 hj2 hj3 => ⟨by omega, hj2, hup j (han i j hj3 hlt (by omega))⟩) (fun h => by have := h.2.2; rw [show up listed i = listed.getD i false from rfl, hu] at this; cases this) hRs)
        rcases hy with ⟨hwn, hy⟩ | ⟨hwn, hy⟩
        · rw [if_pos hwn]
          refine .inl (wp_of_sumAtI hy fun v w' hv => ?_)
          rw [hst (upd V i v) v (fun j hj => upd_ne hj) (upd_same _ _ _)]
          exact ih _ _ w' hs' hU' hc' (fun j hj => by rw [upd_ne (fun e => by subst e; omega)]; exact hV j hj) hT' hv.1 (by rw [hls]; exact hv.2)
        · rw [if_neg (by rw [hwn]; decide), hst (upd V i undef) undef (fun j hj => upd_ne hj) (upd_same _ _ _)]
          exact ih _ _ w hs' hU' hc' (fun j hj => by rw [upd_ne (fun e => by subst e; omega)]; exact hV j hj) hT' hw (by rw [hls]; exact hy.2)
where
  finish (listed : Array Bool) (V : Nat → Value) (w : World) (hs : listed.size = ops.size) (hV : ∀ i, kd ks i < 2 → V i = Vq i) (hT : ∀ i, 3 ≤ kd ks i → up listed i = false) (hw : C w) (hRs : I (lsUp ks ops.size listed) V w)
      (hall : ∀ i, i < ops.size → kd ks i = 0 ∨ kd ks i = 2 → up listed i = true) : wpList P ops (Exit.then (fun a w => Q .normal a w) (fun _ _ _ => False)) (((nums ks pT 0 ops.size).filter fun i => !up listed i).filterMap fun i => ops[i]?)
        (stL ops V ((nums ks pF 0 ops.size).filter fun i => !up listed i) (stL ops V ((nonT ks ops.size).filter (up listed)) a0)) w := by
    have h := (hL V).2 w hw (by rw [← lsUp_all (listed := listed) fun i hi hk => hall i hi (.inr hk)]; exact hRs)
    rw [show stL ops Vq (nums ks pQ 0 ops.size) a0 = stL ops V (nums ks pQ 0 ops.size) a0 from stL_same H.apart fun j => ⟨Iff.rfl, fun h => (hV j (by have := (mem_nums.1 h).2; simpa [pQ] using this)).symm⟩, ← stL_app] at h
    rw [← stL_app, List.filter_eq_self.2 (fun i hi => by
      have := (mem_nums.1 hi).2
      rw [hT i (by simpa [pT] using this)]; rfl)]
    rw [show stL ops V ((nonT ks ops.size).filter (up listed) ++ (nums ks pF 0 ops.size).filter fun i => !up listed i) a0 = stL ops V (nums ks pQ 0 ops.size ++ nums ks pL 0 ops.size) a0 from stL_same H.apart fun j => ⟨?_, fun _ => rfl⟩]
    · exact h
    · rw [List.mem_append, List.mem_filter, List.mem_filter, mem_nonT, mem_nums]
      simp only [pF, beq_iff_eq, Bool.not_eq_true']
      constructor
      · rintro (h1 | h1)
        · exact h1.1
        · exact ⟨h1.1.1.2, by omega⟩
      · intro h1
        cases hu : up listed j with
        | true => exact .inl ⟨h1, rfl⟩
        | false =>
          refine .inr ⟨⟨⟨Nat.zero_le _, h1.1⟩, ?_⟩, rfl⟩
          have h2 : ¬ (kd ks j = 0 ∨ kd ks j = 2) := fun h => by rw [hall j h1.1 h] at hu; cases hu
          omega

/-- But for the blocks D all lies as it lay. -/
def KeptD (D : List Nat) (w0 w : World) : Prop := Kept (fun b => b ∉ D) w0 w
section
variable {D : List Nat} {w0 w w' : World}
theorem KeptD.on (h : KeptD D w0 w) (k : Below w.heap.size w w') : KeptD D w0 w' := Kept.on h k
theorem KeptD.none (h : KeptD [] w0 w) : Below w0.heap.size w0 w := Kept.none h
theorem KeptD.blk {g : Nat} {t : TypeId} {cs : Array Value} (h : KeptD D w0 w) (hg : g ∉ D) (hb : Blk w0 g t cs) : Blk w g t cs := Kept.blk h hg hb
end
theorem wpLsI_nil {w0 : World} {D : List Nat} {I : InvT} {an : Nat → Nat → Bool} {ks0 : List Nat} {T : Act → World → Prop} {n : Nat} {a : Act} {vs : Nat → Value} (h : ∀ V w', KeptD D w0 w' → (∀ j, j < n → kd ks0 j = 2 → V j = vs j) → I (fun j => j < n ∧ kd ks0 j = 2) V w' → T a w') : wpLsI P ops (Msd w0 D) I an ks0 T [] [] n a vs := by
  unfold wpLsI; exact fun V w' hw => h V w' (msd_kept hw)
/-- An l without a guard. -/
theorem wpLsI_one {w0 : World} {D : List Nat} {I : InvT} {an : Nat → Nat → Bool} {ks0 : List Nat} {T : Act → World → Prop} {i : Nat} {a : Act} {vs : Nat → Value} {o : Oper} {l : List Oper} (hg : o.guard = none)
    (h1 : ∀ S V w', KeptD D w0 w' → (∀ j, j < i → kd ks0 j = 2 → V j = vs j) → (∀ j, j < i → kd ks0 j = 2 → an i j = true → S j) → ¬ S i → I S V w' → sumAtI P o a (fun v w => KeptD D w0 w ∧ I (andOf S i) (upd V i v) w) w') (h2 : ∀ v, wpLsI P ops (Msd w0 D) I an ks0 T ks l (i + 1) (a.put o.dst v) (upd vs i v)) :
    wpLsI P ops (Msd w0 D) I an ks0 T (2 :: ks) (o :: l) i a vs := by
  unfold wpLsI
  exact ⟨fun S V w' hw hV ha hn hI => .inl ⟨by simp [Region.wanted, hg], (h1 S V w' (msd_kept hw) hV ha hn hI).mono fun v w h => ⟨msd_of h.1, h.2⟩⟩, h2⟩
/-- An l behind a guard. -/
theorem wpLsI_grd {w0 : World} {D : List Nat} {I : InvT} {an : Nat → Nat → Bool} {ks0 : List Nat} {T : Act → World → Prop} {i : Nat} {a : Act} {vs : Nat → Value} {o : Oper} {l : List Oper}
    (h1 : ∀ S V w', KeptD D w0 w' → (∀ j, j < i → kd ks0 j = 2 → V j = vs j) → (∀ j, j < i → kd ks0 j = 2 → an i j = true → S j) → ¬ S i → I S V w' → sumGI P ops o a (fun v w => KeptD D w0 w ∧ I (andOf S i) (upd V i v) w) w') (h2 : ∀ v, wpLsI P ops (Msd w0 D) I an ks0 T ks l (i + 1) (a.put o.dst v) (upd vs i v)) :
    wpLsI P ops (Msd w0 D) I an ks0 T (2 :: ks) (o :: l) i a vs := by
  unfold wpLsI
  exact ⟨fun S V w' hw hV ha hn hI => (h1 S V w' (msd_kept hw) hV ha hn hI).mono fun v w h => ⟨msd_of h.1, h.2⟩, h2⟩
theorem wpLsI_skip {I : InvT} {an : Nat → Nat → Bool} {ks0 : List Nat} {T : Act → World → Prop} {i : Nat} {a : Act} {vs : Nat → Value} {o : Oper} {l : List Oper} {k : Nat} (h : wpLsI P ops C I an ks0 T ks l (i + 1) a vs) (hk : notTwo k := by exact trivial) : wpLsI P ops C I an ks0 T (k :: ks) (o :: l) i a vs := by
  match k, hk with
  | 0, _ => unfold wpLsI; exact h
  | 1, _ => unfold wpLsI; exact h
  | k + 3, _ => unfold wpLsI; exact h
theorem any_inv {Q : Exit → Act → World → Prop} {a : Act} {w : World} {l : List Oper} (ks : List Nat) (D : List Nat) (I : InvT) (hB : schedB0 l.toArray ks = true)
    (hR : ∀ S V w1 w2, Kept (fun b => b ∉ D) w w1 → I S V w1 → Below w1.heap.size w1 w2 → I S V w2) (h0 : ∀ V, I (fun _ => False) V w)
    (h : wpQs P l.toArray (Msd w D) (fun a' => wpLsI P l.toArray (Msd w D) I (ancB (Region.before l.toArray)) ks (fun a'' w'' => wpList P l.toArray (Exit.then (fun a w => Q .normal a w) (fun _ _ _ => False)) (tails ks l) a'' w'') ks l 0 a' (fun _ => undef)) ks l a) :
    Go.wpAny P .any l.toArray Q l.toArray.size (Array.replicate l.toArray.size false) a { w with drawn := w.drawn + 1 } := by
  have H := sch_of0 hB
  have hlen : ks.length = l.length := by simpa using H.len
  obtain ⟨Vq, h1, h2⟩ := qs_facts (l := l) (ks := ks) l ks 0 a rfl rfl h
  have e : l.length = l.toArray.size := by simp
  have h3 := fun V => ls_factsI (l := l) (ks := ks) l ks 0 _ _ rfl rfl (Nat.zero_le _) h2 V (fun j hj => by omega)
  rw [tails_eq (l := l) (ks := ks) l ks 0 rfl rfl hlen, e] at h3
  have hd0 : ∀ K : Nat → Prop, Kept K w { w with drawn := w.drawn + 1 } := fun K => ⟨rfl, rfl, rfl, Nat.le_refl _, fun _ _ _ => rfl⟩
  have := H.phase1I (C := Msd w D) (Q := Q) (a0 := a) (I := I) (an := ancB (Region.before l.toArray)) (fun i j h h1 h2 => ⟨h1, h2, h⟩) (Vq := Vq) (fun w1 w2 h4 h5 => msd_of ((msd_kept h4).trans (Kept.of_below h5))) (fun S V w1 w2 hw => hR S V w1 w2 (msd_kept hw)) (fun i o ho hk => h1 i o (Nat.zero_le _) ho hk)
    (fun V => ⟨fun i o ho hk => (h3 V).1 i o (Nat.zero_le _) ho hk, (h3 V).2⟩)
    l.toArray.size (Array.replicate l.toArray.size false) Vq { w with drawn := w.drawn + 1 } (by simp) (fun j o hj => by simp [up, Array.getElem?_replicate] at hj; split at hj <;> cases hj)
    (by simp only [cnt]; rw [List.countP_eq_length.2 (fun i _ => by simp [up, Array.getElem?_replicate]; split <;> rfl)]; simp) (fun _ _ => rfl) (fun i _ => by simp [up, Array.getElem?_replicate]; split <;> rfl) (msd_of (hd0 _))
    (by
      have e2 : lsUp ks l.toArray.size (Array.replicate l.toArray.size false) = fun _ => False := by
        funext j
        exact propext ⟨fun h => (by have := h.2.2; simp [up, Array.getElem?_replicate] at this; split at this <;> cases this), fun h => h.elim⟩
      rw [e2]
      exact hR _ _ w _ (Kept.refl _ _) (h0 Vq) ⟨rfl, rfl, rfl, Nat.le_refl _, fun _ _ => rfl⟩)
  have hf : (nonT ks l.toArray.size).filter (up (Array.replicate l.toArray.size false)) = [] := List.filter_eq_nil_iff.2 fun i _ => by simp [up, Array.getElem?_replicate]; split <;> simp
  rw [hf] at this
  exact this
/-- THE LAW: one invariant; the blocks D may be written. -/
theorem wp_inv {id : Nat} {Q : Exit → Act → World → Prop} {a : Act} {w : World} {l : List Oper} (ks : List Nat) (D : List Nat) (I : InvT) (hm : P.follows .mixedOrders = true) (hB : schedB0 l.toArray ks = true)
    (hR : ∀ S V w1 w2, Kept (fun b => b ∉ D) w w1 → I S V w1 → Below w1.heap.size w1 w2 → I S V w2) (h0 : ∀ V, I (fun _ => False) V w)
    (h : wpQs P l.toArray (Msd w D) (fun a' => wpLsI P l.toArray (Msd w D) I (ancB (Region.before l.toArray)) ks (fun a'' w'' => wpList P l.toArray (Exit.then (fun a w => Q .normal a w) (fun _ _ _ => False)) (tails ks l) a'' w'') ks l 0 a' (fun _ => undef)) ks l a) : (Code.region id l.toArray true).wp P Q a w :=
  wp_region_any hm (any_inv ks D I hB hR h0 h)
theorem in_inv {l' n id : Nat} {Q : Exit → Act → World → Prop} {a : Act} {w : World} {l : List Oper} (ks : List Nat) (D : List Nat) (I : InvT) (hm : P.follows .mixedOrders = true) (hB : schedB0 l.toArray ks = true)
    (hR : ∀ S V w1 w2, Kept (fun b => b ∉ D) w w1 → I S V w1 → Below w1.heap.size w1 w2 → I S V w2) (h0 : ∀ V, I (fun _ => False) V w) (hd : noDefer l.toArray = true) (hQ : ¬ LetsOut Q)
    (h : wpQs P l.toArray (Msd w D) (fun a' => wpLsI P l.toArray (Msd w D) I (ancB (Region.before l.toArray)) ks (fun a'' w'' => wpList P l.toArray (Exit.then (fun a w => Q .normal a w) (fun _ _ _ => False)) (tails ks l) a'' w'') ks l 0 a' (fun _ => undef)) ks l a) : (Code.region id l.toArray true).wpIn (Fence.wide.inRound l') n P Q a w :=
  wpIn_region_any hm (any_in hd hQ _ _ _ _ (any_inv ks D I hB hR h0 h))
attribute [go_sem] sumAtI sumUponI
end
end Go.Proofs.Ytckjpiioipkfcaa

/- Regions that lay new variables and store into them, in any order: an invariant. No program in sight. -/
namespace Go.Proofs.Ytckjpiioipkfcaa
open Go.RowKit

/-- A new variable: the numbers of its allocation and its store, its type, its cells ahead of that and behind. -/
structure BoxCfg where
  a : Nat
  s : Nat
  t : TypeId
  z : Array Value
  c : Array Value
/-- Only blocks from n on of these types are turned. -/
structure StepTs (n : Nat) (ts : List TypeId) (w w' : World) : Prop where
  size : w.heap.size ≤ w'.heap.size
  keep : ∀ b, b < w.heap.size → (b < n ∨ ∀ t ∈ ts, ∀ cs, ¬ Blk w b t cs) → w'.heap[b]? = w.heap[b]?
section
variable {n N : Nat} {ts : List TypeId} {w w' : World} {B : List BoxCfg} {U : Nat → Rel} {S : Nat → Prop} {V : Nat → Value}
theorem StepTs.of_below (h : Below w.heap.size w w') : StepTs n ts w w' := ⟨h.size, fun b hb _ => h.block b hb⟩
theorem StepTs.blk {b : Nat} {t' : TypeId} {cs : Array Value} (h : StepTs n ts w w') (hb : Blk w b t' cs) (hne : t' ∉ ts) : Blk w' b t' cs :=
  (h.keep b hb.lt (.inr fun t ht ds hd => hne (by
    unfold Blk at hb hd
    rw [hb] at hd
    injection hd with hd; injection hd with h1 h2; exact h2 ▸ ht))).trans hb
theorem StepTs.old {b : Nat} {t' : TypeId} {cs : Array Value} (h : StepTs n ts w w') (hb : Blk w b t' cs) (hn : b < n) : Blk w' b t' cs := (h.keep b hb.lt (.inl hn)).trans hb
def BoxI (N : Nat) (x : BoxCfg) : InvT := fun S V w => (S x.s → S x.a) ∧ (S x.a → ∃ b, V x.a = .pointer (some ⟨b, 0, none⟩) ∧ N ≤ b ∧ (¬ S x.s → Blk w b x.t x.z) ∧ (S x.s → Blk w b x.t x.c))
def ManyI (N : Nat) (B : List BoxCfg) (U : Nat → Rel) : InvT := fun S V w =>
  (∀ i, S i → U i (V i) w) ∧ (∀ x ∈ B, BoxI N x S V w) ∧ (∀ x ∈ B, ∀ y ∈ B, x.a ≠ y.a → S x.a → S y.a → V x.a ≠ V y.a)
def OkB (B : List BoxCfg) : Prop := B.Pairwise (fun x y => x.a ≠ y.a ∧ x.s ≠ y.s ∧ x.a ≠ y.s ∧ x.s ≠ y.a) ∧ ∀ x ∈ B, x.a ≠ x.s
theorem pw_mem {α : Type} {R : α → α → Prop} : ∀ {l : List α}, l.Pairwise R → ∀ x ∈ l, ∀ y ∈ l, x = y ∨ R x y ∨ R y x := by
  intro l
  induction l with
  | nil => intro _ x hx; cases hx
  | cons a l ih =>
    intro h x hx y hy
    rw [List.pairwise_cons] at h
    rcases List.mem_cons.1 hx with e | hx' <;> rcases List.mem_cons.1 hy with e' | hy'
    · exact .inl (e.trans e'.symm)
    · exact .inr (.inl (e ▸ h.1 y hy'))
    · exact .inr (.inr (e' ▸ h.1 x hx'))
    · exact ih h.2 x hx' y hy'
theorem OkB.of (h : OkB B) {x y : BoxCfg} (hx : x ∈ B) (hy : y ∈ B) : x = y ∨ (x.a ≠ y.a ∧ x.s ≠ y.s ∧ x.a ≠ y.s ∧ x.s ≠ y.a) := by
  rcases pw_mem h.1 x hx y hy with e | e | e
  · exact .inl e
  · exact .inr e
  · exact .inr ⟨e.1.symm, e.2.1.symm, e.2.2.2.symm, e.2.2.1.symm⟩
/-- What the relations of the other operations must bear. -/
def Bears (N : Nat) (B : List BoxCfg) (U : Nat → Rel) : Prop := ∀ i v w w', U i v w → StepTs N (B.map (·.t)) w w' → U i v w'
theorem manyI_zero : ManyI N B U (fun _ => False) V w := ⟨fun _ h => h.elim, fun _ _ => ⟨fun h => h.elim, fun h => h.elim⟩, fun _ _ _ _ _ h => h.elim⟩
theorem ManyI.below (hU : Bears N B U) (h : ManyI N B U S V w) (hb : Below w.heap.size w w') : ManyI N B U S V w' :=
  ⟨fun i hi => hU i _ _ _ (h.1 i hi) (StepTs.of_below hb), fun x hx => ⟨(h.2.1 x hx).1, fun ha => by
    obtain ⟨b, h1, h2, h3, h4⟩ := (h.2.1 x hx).2 ha
    exact ⟨b, h1, h2, fun hs => (h3 hs).on hb, fun hs => (h4 hs).on hb⟩⟩, h.2.2⟩
/-- An operation that lays no such variable. -/
theorem ManyI.l {i : Nat} {v : Value} (hi : ∀ x ∈ B, x.a ≠ i ∧ x.s ≠ i) (hU : Bears N B U) (h : ManyI N B U S V w) (hb : Below w.heap.size w w') (hu : U i v w') : ManyI N B U (andOf S i) (upd V i v) w' := by
  have h := h.below hU hb
  refine ⟨fun j hj => ?_, fun x hx => ⟨fun hs => ?_, fun ha => ?_⟩, fun x hx y hy hne h1 h2 => ?_⟩
  · by_cases e : j = i
    · subst e; rw [upd_same]; exact hu
    · rw [upd_ne e]; exact h.1 j (hj.resolve_left e)
  · exact .inr ((h.2.1 x hx).1 (hs.resolve_left (hi x hx).2))
  · obtain ⟨b, h1, h2, h3, h4⟩ := (h.2.1 x hx).2 (ha.resolve_left (hi x hx).1)
    rw [upd_ne (hi x hx).1]
    exact ⟨b, h1, h2, fun hs => h3 fun k => hs (.inr k), fun hs => h4 (hs.resolve_left (hi x hx).2)⟩
  · rw [upd_ne (hi x hx).1, upd_ne (hi y hy).1]
    exact h.2.2 x hx y hy hne (h1.resolve_left (hi x hx).1) (h2.resolve_left (hi y hy).1)
/-- A variable is laid. -/
theorem ManyI.new {x : BoxCfg} (hx : x ∈ B) (hB : OkB B) (hU : Bears N B U) (hT : ∀ v w, U x.a v w) (hN : N ≤ w.heap.size) (hn : ¬ S x.a) (h : ManyI N B U S V w) : ManyI N B U (andOf S x.a) (upd V x.a (.pointer (some ⟨w.heap.size, 0, none⟩))) (w.alloc (.cells x.z x.t)) := by
  have hb : Below w.heap.size w (w.alloc (.cells x.z x.t)) := (Below.refl _ _).alloc (Nat.le_refl _) _
  have hs0 : ¬ S x.s := fun hs => hn ((h.2.1 x hx).1 hs)
  have hlt : ∀ y ∈ B, S y.a → V y.a ≠ .pointer (some ⟨w.heap.size, 0, none⟩) := fun y hy ha e => by
    obtain ⟨b, h1, h2, h3, h4⟩ := (h.2.1 y hy).2 ha
    have : b < w.heap.size := by
      by_cases hs : S y.s
      · exact (h4 hs).lt
      · exact (h3 hs).lt
    rw [h1] at e
    injection e with e; injection e with e; injection e with e
    omega
  have k := h.below hU hb
  refine ⟨fun j hj => ?_, fun y hy => ?_, fun y hy z hz hne h1 h2 => ?_⟩
  · by_cases e : j = x.a
    · subst e; exact hT _ _
    · rw [upd_ne e]; exact k.1 j (hj.resolve_left e)
  · rcases hB.of hy hx with rfl | ⟨e1, e2, e3, e4⟩
    · have hne := hB.2 y hy
      refine ⟨fun _ => .inl rfl, fun _ => ⟨w.heap.size, upd_same _ _ _, hN, fun _ => Blk.new w _ _, fun hs => absurd (hs.resolve_left hne.symm) hs0⟩⟩
    · refine ⟨fun hs => .inr ((k.2.1 y hy).1 (hs.resolve_left e4)), fun ha => ?_⟩
      obtain ⟨b, h1, h2, h3, h4⟩ := (k.2.1 y hy).2 (ha.resolve_left e1)
      rw [upd_ne e1]
      exact ⟨b, h1, h2, fun hs => h3 fun k => hs (.inr k), fun hs => h4 (hs.resolve_left e4)⟩
  · by_cases e1 : y.a = x.a
    · have e2 : z.a ≠ x.a := fun e => hne (e1.trans e.symm)
      rw [e1, upd_same, upd_ne e2]
      exact fun e => hlt z hz (h2.resolve_left e2) e.symm
    · by_cases e2 : z.a = x.a
      · rw [e2, upd_same, upd_ne e1]
        exact hlt y hy (h1.resolve_left e1)
      · rw [upd_ne e1, upd_ne e2]
        exact k.2.2 y hy z hz hne (h1.resolve_left e1) (h2.resolve_left e2)
/-- A variable is set. -/
theorem ManyI.set {x : BoxCfg} {b : Nat} {v : Value} (hx : x ∈ B) (hB : OkB B) (hU : Bears N B U) (hT : ∀ v w, U x.s v w) (hn : ¬ S x.s) (h : ManyI N B U S V w) (ha : S x.a) (hv : V x.a = .pointer (some ⟨b, 0, none⟩)) (hk : Kept (fun c => c ≠ b) w w') (hb : Blk w' b x.t x.c) : ManyI N B U (andOf S x.s) (upd V x.s v) w' := by
  have hne := hB.2 x hx
  obtain ⟨b', h1, h2, h3, h4⟩ := (h.2.1 x hx).2 ha
  obtain rfl : b = b' := by rw [hv] at h1; injection h1 with e; injection e with e; injection e
  have hz := h3 hn
  have hst : StepTs N (B.map (·.t)) w w' := ⟨hk.size, fun c hc hcc => hk.block c hc fun e => by
    subst e
    rcases hcc with h5 | h5
    · omega
    · exact h5 x.t (List.mem_map.2 ⟨x, hx, rfl⟩) _ hz⟩
  refine ⟨fun j hj => ?_, fun y hy => ?_, fun y hy z hz' hne' k1 k2 => ?_⟩
  · by_cases e : j = x.s
    · subst e; exact hT _ _
    · rw [upd_ne e]; exact hU _ _ _ _ (h.1 j (hj.resolve_left e)) hst
  · rcases hB.of hy hx with rfl | ⟨e1, e2, e3, e4⟩
    · refine ⟨fun _ => .inr ha, fun _ => ⟨b, by rw [upd_ne hne]; exact hv, h2, fun hs => absurd (.inl rfl) hs, fun _ => hb⟩⟩
    · refine ⟨fun hs => .inr ((h.2.1 y hy).1 (hs.resolve_left e2)), fun hya => ?_⟩
      obtain ⟨c, k1, k2, k3, k4⟩ := (h.2.1 y hy).2 (hya.resolve_left e3)
      have hcb : c ≠ b := fun e => h.2.2 y hy x hx e1 (hya.resolve_left e3) ha (by rw [k1, hv, e])
      rw [upd_ne e3]
      exact ⟨c, k1, k2, fun hs => hk.blk hcb (k3 fun k => hs (.inr k)), fun hs => hk.blk hcb (k4 (hs.resolve_left e2))⟩
  · have f1 : y.a ≠ x.s := by rcases hB.of hy hx with rfl | ⟨_, _, e3, _⟩; exact hne; exact e3
    have f2 : z.a ≠ x.s := by rcases hB.of hz' hx with rfl | ⟨_, _, e3, _⟩; exact hne; exact e3
    rw [upd_ne f1, upd_ne f2]
    exact h.2.2 y hy z hz' hne' (k1.resolve_left f1) (k2.resolve_left f2)
theorem ManyI.of {j : Nat} {v : Value} (h : ManyI N B U S V w) (hs : S j) (hv : V j = v) : U j v w := hv ▸ h.1 j hs
/-- At a store: where it goes. -/
theorem ManyI.slot {x : BoxCfg} (hx : x ∈ B) (h : ManyI N B U S V w) (ha : S x.a) (hn : ¬ S x.s) : ∃ b, V x.a = .pointer (some ⟨b, 0, none⟩) ∧ N ≤ b ∧ Blk w b x.t x.z := by
  obtain ⟨b, h1, h2, h3, _⟩ := (h.2.1 x hx).2 ha
  exact ⟨b, h1, h2, h3 hn⟩
theorem ManyI.done {x : BoxCfg} (hx : x ∈ B) (h : ManyI N B U S V w) (ha : S x.a) (hs : S x.s) : ∃ b, V x.a = .pointer (some ⟨b, 0, none⟩) ∧ N ≤ b ∧ Blk w b x.t x.c := by
  obtain ⟨b, h1, h2, _, h4⟩ := (h.2.1 x hx).2 ha
  exact ⟨b, h1, h2, h4 hs⟩
/-- A store into a new block keeps what was there. -/
theorem KeptD.new_set {w0 : World} {D : List Nat} {b : Nat} (h : KeptD D w0 w) (hb : w0.heap.size ≤ b) (hk : Kept (fun c => c ≠ b) w w') : KeptD D w0 w' :=
  ⟨hk.os.trans h.os, hk.tape.trans h.tape, hk.output.trans h.output, Nat.le_trans h.size hk.size, fun c hc hD => (hk.block c (Nat.lt_of_lt_of_le hc h.size) (by omega)).trans (h.block c hc hD)⟩
end
/-- Relations by the numbers of their operations. -/
def relsU : List (Nat × Rel) → Nat → Rel
  | [], _ => fun _ _ => True
  | (k, R) :: l, i => if i = k then R else relsU l i
section
variable {N : Nat} {B : List BoxCfg} {l : List (Nat × Rel)} {k : Nat}
theorem bears_nil : Bears N B (relsU []) := fun _ _ _ _ h _ => h
theorem bears_cons {R : Rel} (hR : ∀ v w w', R v w → StepTs N (B.map (·.t)) w w' → R v w') (h : Bears N B (relsU l)) : Bears N B (relsU ((k, R) :: l)) := fun i v w w' hv hs => by
  unfold relsU at *
  by_cases e : i = k
  · rw [if_pos e] at *; exact hR v w w' hv hs
  · rw [if_neg e] at *; exact h i v w w' hv hs
theorem bears_val {x : Value} (h : Bears N B (relsU l)) : Bears N B (relsU ((k, fun v _ => v = x) :: l)) := bears_cons (fun _ _ _ hv _ => hv) h
end
/-- THE LAW for new variables. -/
theorem wp_many {P : Program} {id : Nat} {Q : Exit → Act → World → Prop} {a : Act} {w : World} {l : List Oper} (ks : List Nat) (B : List BoxCfg) (U : Nat → Rel) (hm : P.follows .mixedOrders = true) (hB : schedB0 l.toArray ks = true) (hU : Bears w.heap.size B U)
    (h : wpQs P l.toArray (Msd w []) (fun a' => wpLsI P l.toArray (Msd w []) (ManyI w.heap.size B U) (ancB (Region.before l.toArray)) ks (fun a'' w'' => wpList P l.toArray (Exit.then (fun a w => Q .normal a w) (fun _ _ _ => False)) (tails ks l) a'' w'') ks l 0 a' (fun _ => undef)) ks l a) : (Code.region id l.toArray true).wp P Q a w :=
  wp_inv ks [] _ hm hB (fun _ _ _ _ _ h1 h2 => h1.below hU h2) (fun _ => manyI_zero) h
theorem in_many {P : Program} {l' n id : Nat} {Q : Exit → Act → World → Prop} {a : Act} {w : World} {l : List Oper} (ks : List Nat) (B : List BoxCfg) (U : Nat → Rel) (hm : P.follows .mixedOrders = true) (hB : schedB0 l.toArray ks = true) (hU : Bears w.heap.size B U) (hd : noDefer l.toArray = true) (hQ : ¬ LetsOut Q)
    (h : wpQs P l.toArray (Msd w []) (fun a' => wpLsI P l.toArray (Msd w []) (ManyI w.heap.size B U) (ancB (Region.before l.toArray)) ks (fun a'' w'' => wpList P l.toArray (Exit.then (fun a w => Q .normal a w) (fun _ _ _ => False)) (tails ks l) a'' w'') ks l 0 a' (fun _ => undef)) ks l a) : (Code.region id l.toArray true).wpIn (Fence.wide.inRound l') n P Q a w :=
  in_inv ks [] _ hm hB (fun _ _ _ _ _ h1 h2 => h1.below hU h2) (fun _ => manyI_zero) hd hQ h
end Go.Proofs.Ytckjpiioipkfcaa

/- Structs are what they are. -/
namespace Go.Proofs.Ytckjpiioipkfcaa
open Go.ChangeShapes Go.WideShapes Go.ChangeAt Go.RowKit

theorem cell_guard : Try.prog.eqGuardType Try.prog.depth 59 = false := by kernel_rfl
theorem boxg_guard : Try.prog.eqGuardType Try.prog.depth 28 = false := by kernel_rfl
theorem cell_ne_self (a b c : Int) (w : World) : (binOp .neq 59 (.agg #[.int .i64 a, .int .i64 b, .int .i64 c]) (.agg #[.int .i64 a, .int .i64 b, .int .i64 c])).run Try.prog w = .ok (.bool false) w := by
  rw [run_neq_struct]
  simp [go_sem]
theorem cell_eq_self (a b c : Int) (w : World) : (binOp .eql 59 (.agg #[.int .i64 a, .int .i64 b, .int .i64 c]) (.agg #[.int .i64 a, .int .i64 b, .int .i64 c])).run Try.prog w = .ok (.bool true) w := by
  rw [run_eql_struct]
  simp [go_sem]
theorem box_eq_self (a b c d e f : Int) (w : World) : (binOp .eql 28 (.agg #[.int .i64 a, .int .i64 b, .int .i64 c, .int .i64 d, .int .i64 e, .int .i64 f]) (.agg #[.int .i64 a, .int .i64 b, .int .i64 c, .int .i64 d, .int .i64 e, .int .i64 f])).run Try.prog w = .ok (.bool true) w := by
  rw [run_eql_struct]
  simp [go_sem]
end Go.Proofs.Ytckjpiioipkfcaa

/- A way in two parts. No program in sight. -/
namespace Go.Proofs.Ytckjpiioipkfcaa
open Go.RowKit

theorem axV_up_cases (blk : Int → Bool) (low top : Int) {d : Int} (hd : 0 < d) :
    (∃ k, 0 ≤ k * 65536 - top ∧ k * 65536 - top < d ∧ blk k = true ∧ (∀ k', k' < k → 0 ≤ k' * 65536 - top → blk k' = false) ∧ axV blk low top d = (k * 65536 - top, true)) ∨
    ((∀ k', 0 ≤ k' * 65536 - top → k' * 65536 - top < d → blk k' = false) ∧ axV blk low top d = (d, false)) := by
  by_cases h : ∃ n : Nat, 0 ≤ ((top + 65535) / 65536 + (n : Int)) * 65536 - top ∧ ((top + 65535) / 65536 + (n : Int)) * 65536 - top < d ∧ blk ((top + 65535) / 65536 + (n : Int)) = true
  · left
    obtain ⟨n, hn⟩ := h
    induction n using Nat.strongRecOn with
    | ind n ih =>
      by_cases hm : ∃ m : Nat, m < n ∧ 0 ≤ ((top + 65535) / 65536 + (m : Int)) * 65536 - top ∧ ((top + 65535) / 65536 + (m : Int)) * 65536 - top < d ∧ blk ((top + 65535) / 65536 + (m : Int)) = true
      · obtain ⟨m, hmn, hm⟩ := hm
        exact ih m hmn hm
      · have hn2 : ∀ k', k' < (top + 65535) / 65536 + (n : Int) → 0 ≤ k' * 65536 - top → blk k' = false := fun k' h1 h2 => by
          cases hb : blk k' with
          | false => rfl
          | true =>
            exfalso
            apply hm
            refine ⟨(k' - (top + 65535) / 65536).toNat, by omega, ?_⟩
            rw [show (top + 65535) / 65536 + (((k' - (top + 65535) / 65536).toNat : Nat) : Int) = k' by omega]
            exact ⟨by omega, by omega, hb⟩
        exact ⟨_, hn.1, hn.2.1, hn.2.2, hn2, axV_up_hit hd hn.1 hn.2.1 hn.2.2 hn2⟩
  · right
    have hn : ∀ k', 0 ≤ k' * 65536 - top → k' * 65536 - top < d → blk k' = false := fun k' h1 h2 => by
      cases hb : blk k' with
      | false => rfl
      | true =>
        exfalso
        apply h
        refine ⟨(k' - (top + 65535) / 65536).toNat, ?_⟩
        rw [show (top + 65535) / 65536 + (((k' - (top + 65535) / 65536).toNat : Nat) : Int) = k' by omega]
        exact ⟨by omega, by omega, hb⟩
    exact ⟨hn, axV_up_none hd hn⟩
theorem axV_dn_cases (blk : Int → Bool) (low top : Int) {d : Int} (hd : d < 0) :
    (∃ k, (k + 1) * 65536 - low ≤ 0 ∧ d < (k + 1) * 65536 - low ∧ blk k = true ∧ (∀ k', k < k' → (k' + 1) * 65536 - low ≤ 0 → blk k' = false) ∧ axV blk low top d = ((k + 1) * 65536 - low, true)) ∨
    ((∀ k', (k' + 1) * 65536 - low ≤ 0 → d < (k' + 1) * 65536 - low → blk k' = false) ∧ axV blk low top d = (d, false)) := by
  by_cases h : ∃ n : Nat, (low / 65536 - (n : Int)) * 65536 - low ≤ 0 ∧ d < (low / 65536 - (n : Int)) * 65536 - low ∧ blk (low / 65536 - 1 - (n : Int)) = true
  · left
    obtain ⟨n, hn⟩ := h
    induction n using Nat.strongRecOn with
    | ind n ih =>
      by_cases hm : ∃ m : Nat, m < n ∧ (low / 65536 - (m : Int)) * 65536 - low ≤ 0 ∧ d < (low / 65536 - (m : Int)) * 65536 - low ∧ blk (low / 65536 - 1 - (m : Int)) = true
      · obtain ⟨m, hmn, hm⟩ := hm
        exact ih m hmn hm
      · have hn2 : ∀ k', low / 65536 - 1 - (n : Int) < k' → (k' + 1) * 65536 - low ≤ 0 → blk k' = false := fun k' h1 h2 => by
          cases hb : blk k' with
          | false => rfl
          | true =>
            exfalso
            apply hm
            refine ⟨(low / 65536 - 1 - k').toNat, by omega, ?_⟩
            rw [show low / 65536 - (((low / 65536 - 1 - k').toNat : Nat) : Int) = k' + 1 by omega, show low / 65536 - 1 - (((low / 65536 - 1 - k').toNat : Nat) : Int) = k' by omega]
            exact ⟨by omega, by omega, hb⟩
        have h1 : (low / 65536 - 1 - (n : Int) + 1) * 65536 - low ≤ 0 := by have := hn.1; omega
        have h2 : d < (low / 65536 - 1 - (n : Int) + 1) * 65536 - low := by have := hn.2.1; omega
        exact ⟨_, h1, h2, hn.2.2, hn2, axV_dn_hit hd h1 h2 hn.2.2 hn2⟩
  · right
    have hn : ∀ k', (k' + 1) * 65536 - low ≤ 0 → d < (k' + 1) * 65536 - low → blk k' = false := fun k' h1 h2 => by
      cases hb : blk k' with
      | false => rfl
      | true =>
        exfalso
        apply h
        refine ⟨(low / 65536 - 1 - k').toNat, ?_⟩
        rw [show low / 65536 - (((low / 65536 - 1 - k').toNat : Nat) : Int) = k' + 1 by omega, show low / 65536 - 1 - (((low / 65536 - 1 - k').toNat : Nat) : Int) = k' by omega]
        exact ⟨by omega, by omega, hb⟩
    exact ⟨hn, axV_dn_none hd hn⟩
/-- By a way in two parts of one side. -/
theorem axV_parts (blk : Int → Bool) (low top : Int) {d e : Int} (h : (0 ≤ d ∧ 0 ≤ e) ∨ (d ≤ 0 ∧ e ≤ 0)) :
    ((axV blk low top d).2 = true ∧ axV blk low top (d + e) = axV blk low top d) ∨
    (axV blk low top d = (d, false) ∧ d + (axV blk (low + d) (top + d) e).1 = (axV blk low top (d + e)).1 ∧ (axV blk (low + d) (top + d) e).2 = (axV blk low top (d + e)).2) := by
  by_cases hd0 : d = 0
  · subst hd0
    right
    rw [axV_zero, Int.add_zero, Int.add_zero, Int.zero_add, Int.zero_add]
    exact ⟨rfl, rfl, rfl⟩
  rcases (show (0 < d ∧ 0 ≤ e) ∨ (d < 0 ∧ e ≤ 0) by omega) with ⟨hd, he⟩ | ⟨hd, he⟩
  · rcases axV_up_cases blk low top hd with ⟨k, h1, h2, h3, h4, h5⟩ | ⟨h1, h2⟩
    · left
      rw [h5]
      exact ⟨rfl, axV_up_hit (by omega) h1 (by omega) h3 h4⟩
    · right
      refine ⟨h2, ?_⟩
      by_cases he0 : e = 0
      · subst he0
        rw [axV_zero, Int.add_zero, h2]
        exact ⟨by simp, rfl⟩
      · rcases axV_up_cases blk (low + d) (top + d) (show 0 < e by omega) with ⟨k, g1, g2, g3, g4, g5⟩ | ⟨g1, g2⟩
        · rw [g5, axV_up_hit (k := k) (by omega) (by omega) (by omega) g3 (fun k' hk hk2 => by
            by_cases hw : k' * 65536 - top < d
            · exact h1 k' hk2 hw
            · exact g4 k' hk (by omega))]
          exact ⟨by dsimp only; omega, rfl⟩
        · rw [g2, axV_up_none (by omega) (fun k' hk hk2 => by
            by_cases hw : k' * 65536 - top < d
            · exact h1 k' hk hw
            · exact g1 k' (by omega) (by omega))]
          exact ⟨rfl, rfl⟩
  · rcases axV_dn_cases blk low top hd with ⟨k, h1, h2, h3, h4, h5⟩ | ⟨h1, h2⟩
    · left
      rw [h5]
      exact ⟨rfl, axV_dn_hit (by omega) h1 (by omega) h3 h4⟩
    · right
      refine ⟨h2, ?_⟩
      by_cases he0 : e = 0
      · subst he0
        rw [axV_zero, Int.add_zero, h2]
        exact ⟨by simp, rfl⟩
      · rcases axV_dn_cases blk (low + d) (top + d) (show e < 0 by omega) with ⟨k, g1, g2, g3, g4, g5⟩ | ⟨g1, g2⟩
        · rw [g5, axV_dn_hit (k := k) (by omega) (by omega) (by omega) g3 (fun k' hk hk2 => by
            by_cases hw : d < (k' + 1) * 65536 - low
            · exact h1 k' hk2 hw
            · exact g4 k' hk (by omega))]
          exact ⟨by dsimp only; omega, rfl⟩
        · rw [g2, axV_dn_none (by omega) (fun k' hk hk2 => by
            by_cases hw : d < (k' + 1) * 65536 - low
            · exact h1 k' hk hw
            · exact g1 k' (by omega) (by omega))]
          exact ⟨rfl, rfl⟩
theorem lyB_same (val : Cl → Int) {M : Int} {x : B6} (h : Sm6 M x) (hM0 : 0 ≤ M) (hM : M ≤ 10000000000000) {axis n : Int} (h1 : -10000000 ≤ n) (h2 : n ≤ 10000000) (k : Int) :
    lyB val (mv6 x axis n).1 (mv6 x axis n).2.1 (mv6 x axis n).2.2.1 (mv6 x axis n).2.2.2.1 (mv6 x axis n).2.2.2.2.1 (mv6 x axis n).2.2.2.2.2 axis k = lyB val x.1 x.2.1 x.2.2.1 x.2.2.2.1 x.2.2.2.2.1 x.2.2.2.2.2 axis k := by
  obtain ⟨h3, h4, h5, h6, h7, h8, h9, h10, h11, h12, h13, h14⟩ := h
  have key : ∀ (a i m : Int), -100000000000000 ≤ a → a ≤ 100000000000000 → wiI (addI a (wiI 0 axis i n)) axis i m = wiI a axis i m := fun a i m g1 g2 => by
    rw [wi0 h1 h2]
    unfold wiI
    by_cases e : i = axis
    · rw [if_pos e, if_pos e]
    · rw [if_neg e, if_neg e, if_neg e, addI_in g1 g2 (by omega) (by omega)]; omega
  unfold lyB mv6
  dsimp only
  rw [key _ _ _ (by omega) (by omega), key _ _ _ (by omega) (by omega), key _ _ _ (by omega) (by omega), key _ _ _ (by omega) (by omega), key _ _ _ (by omega) (by omega), key _ _ _ (by omega) (by omega)]
theorem axI_mv {M : Int} {x : B6} (h : Sm6 M x) (hM0 : 0 ≤ M) (hM : M ≤ 10000000000000) {axis n : Int} (ha : 0 ≤ axis ∧ axis < 3) (h1 : -10000000 ≤ n) (h2 : n ≤ 10000000) :
    axI (mv6 x axis n).1 (mv6 x axis n).2.1 (mv6 x axis n).2.2.1 axis = axI x.1 x.2.1 x.2.2.1 axis + n ∧ axI (mv6 x axis n).2.2.2.1 (mv6 x axis n).2.2.2.2.1 (mv6 x axis n).2.2.2.2.2 axis = axI x.2.2.2.1 x.2.2.2.2.1 x.2.2.2.2.2 axis + n := by
  obtain ⟨h3, h4, h5, h6, h7, h8, h9, h10, h11, h12, h13, h14⟩ := h
  unfold mv6
  rw [wi0 h1 h2, wi0 h1 h2, wi0 h1 h2]
  rcases (show axis = 0 ∨ axis = 1 ∨ axis = 2 by omega) with rfl | rfl | rfl <;> simp only [axI] <;> constructor <;> simp <;> rw [addI_in (by omega) (by omega) h1 h2]
theorem far_in {d : Int} (h1 : -4194304 ≤ d) (h2 : d ≤ 4194304) : farI d = d := by unfold farI; omega
theorem parts6 (val : Cl → Int) {M : Int} {x : B6} (h : Sm6 M x) (hM0 : 0 ≤ M) (hM : M ≤ 10000000000000) {axis d e : Int} (ha : 0 ≤ axis ∧ axis < 3) (hs : (0 ≤ d ∧ 0 ≤ e) ∨ (d ≤ 0 ∧ e ≤ 0)) (d1 : -200000 ≤ d) (d2 : d ≤ 200000) (e1 : -200000 ≤ e) (e2 : e ≤ 200000) :
    ((ax6 val x axis d).2 = true ∧ ax6 val x axis (d + e) = ax6 val x axis d) ∨
    (ax6 val x axis d = (d, false) ∧ d + (ax6 val (mv6 x axis d) axis e).1 = (ax6 val x axis (d + e)).1 ∧ (ax6 val (mv6 x axis d) axis e).2 = (ax6 val x axis (d + e)).2) := by
  unfold ax6 axisV
  rw [if_neg (by omega), if_neg (by omega), if_neg (by omega), far_in (by omega) (by omega), far_in (by omega) (by omega), far_in (by omega) (by omega)]
  have hl : lyB val (mv6 x axis d).1 (mv6 x axis d).2.1 (mv6 x axis d).2.2.1 (mv6 x axis d).2.2.2.1 (mv6 x axis d).2.2.2.2.1 (mv6 x axis d).2.2.2.2.2 axis = lyB val x.1 x.2.1 x.2.2.1 x.2.2.2.1 x.2.2.2.2.1 x.2.2.2.2.2 axis := funext fun k => lyB_same val h hM0 hM (by omega) (by omega) k
  rw [hl, (axI_mv h hM0 hM ha (by omega) (by omega)).1, (axI_mv h hM0 hM ha (by omega) (by omega)).2]
  exact axV_parts _ _ _ hs
end Go.Proofs.Ytckjpiioipkfcaa

/- A box that goes and is not blocked stays so: plain. No program in sight. -/
namespace Go.Proofs.Ytckjpiioipkfcaa

/-- A layer that a box has a part of. -/
def inAx (lo hi k : Int) : Prop := thinI lo hi = false ∧ lowI lo ≤ k ∧ k ≤ topI lo hi
theorem mem_cellsI {a b c d e f : Int} {x : Cl} : x ∈ cellsI a b c d e f ↔ inAx a d x.1 ∧ inAx b e x.2.1 ∧ inAx c f x.2.2 := by
  unfold cellsI inAx isI
  cases h1 : thinI a d <;> cases h2 : thinI b e <;> cases h3 : thinI c f <;> simp [mem_boxL, and_assoc]
theorem inAx_iff {lo hi k : Int} (h1 : -140737488355328 ≤ lo) (h2 : hi ≤ 140737488355328) (h : lo ≤ hi) : inAx lo hi k ↔ (lo < hi ∧ lo < (k + 1) * 65536 ∧ k * 65536 < hi) ∨ (lo = hi ∧ k * 65536 < lo ∧ lo < (k + 1) * 65536) := by
  unfold inAx thinI topI lowI
  rw [cutI_id h1 (by omega), cutI_id (by omega) h2]
  simp only [Bool.and_eq_false_iff, beq_eq_false_iff_ne, ne_eq]
  constructor
  · rintro ⟨t, k1, k2⟩
    split at k2 <;> omega
  · intro hc
    refine ⟨by omega, by omega, ?_⟩
    split <;> omega
theorem inAx_cell {k : Int} (h1 : -100000000000000 ≤ k * 65536) (h2 : k * 65536 ≤ 100000000000000) : inAx (k * 65536) (k * 65536 + 65536) k := (inAx_iff (by omega) (by omega) (by omega)).2 (.inl ⟨by omega, by omega, by omega⟩)
theorem inAx_up {lo hi m k : Int} (h1 : -100000000000000 ≤ lo) (h2 : hi ≤ 100000000000000) (h : lo ≤ hi) (m1 : 0 ≤ m) (m2 : m ≤ 10000000) (hk : inAx (lo + m) (hi + m) k) : inAx lo hi k ∨ (0 ≤ k * 65536 - hi ∧ k * 65536 - hi < m) := by
  rw [inAx_iff (by omega) (by omega) (by omega)] at *
  omega
theorem inAx_dn {lo hi m k : Int} (h1 : -100000000000000 ≤ lo) (h2 : hi ≤ 100000000000000) (h : lo ≤ hi) (m1 : m ≤ 0) (m2 : -10000000 ≤ m) (hk : inAx (lo + m) (hi + m) k) : inAx lo hi k ∨ ((k + 1) * 65536 - lo ≤ 0 ∧ m < (k + 1) * 65536 - lo) := by
  rw [inAx_iff (by omega) (by omega) (by omega)] at *
  omega
def blk6 (val : Cl → Int) (x : B6) : Bool := (cellsI x.1 x.2.1 x.2.2.1 x.2.2.2.1 x.2.2.2.2.1 x.2.2.2.2.2).any fun c => solB (val c)
theorem blk6_false {val : Cl → Int} {x : B6} : blk6 val x = false ↔ ∀ c, inAx x.1 x.2.2.2.1 c.1 → inAx x.2.1 x.2.2.2.2.1 c.2.1 → inAx x.2.2.1 x.2.2.2.2.2 c.2.2 → solB (val c) = false := by
  unfold blk6
  rw [List.any_eq_false]
  constructor
  · intro h c h1 h2 h3
    simpa using h c (mem_cellsI.2 ⟨h1, h2, h3⟩)
  · intro h c hc
    obtain ⟨h1, h2, h3⟩ := mem_cellsI.1 hc
    simpa using h c h1 h2 h3
theorem lyB_false {val : Cl → Int} {a b c d e f axis k : Int} : lyB val a b c d e f axis k = false ↔ ∀ x : Cl, inAx (wiI a axis 0 (k * 65536)) (wiI d axis 0 (k * 65536 + 65536)) x.1 → inAx (wiI b axis 1 (k * 65536)) (wiI e axis 1 (k * 65536 + 65536)) x.2.1 → inAx (wiI c axis 2 (k * 65536)) (wiI f axis 2 (k * 65536 + 65536)) x.2.2 → solB (val x) = false := by
  have h := blk6_false (val := val) (x := (wiI a axis 0 (k * 65536), wiI b axis 1 (k * 65536), wiI c axis 2 (k * 65536), wiI d axis 0 (k * 65536 + 65536), wiI e axis 1 (k * 65536 + 65536), wiI f axis 2 (k * 65536 + 65536)))
  exact h
/-- Layers that are nearer than where it stops are not blocked. -/
theorem axV_near {blk : Int → Bool} {low top d m k : Int} (hm : (0 ≤ m ∧ m ≤ (axV blk low top d).1) ∨ ((axV blk low top d).1 ≤ m ∧ m ≤ 0)) :
    ((0 ≤ k * 65536 - top ∧ k * 65536 - top < m) → blk k = false) ∧ (((k + 1) * 65536 - low ≤ 0 ∧ m < (k + 1) * 65536 - low) → blk k = false) := by
  rcases (show d = 0 ∨ 0 < d ∨ d < 0 by omega) with rfl | hd | hd
  · rw [axV_zero] at hm
    dsimp only at hm
    exact ⟨fun h => by omega, fun h => by omega⟩
  · rcases axV_up_cases blk low top hd with ⟨k0, h1, h2, h3, h4, h5⟩ | ⟨h4, h5⟩
    · rw [h5] at hm; dsimp only at hm
      exact ⟨fun h => h4 k (by omega) h.1, fun h => by omega⟩
    · rw [h5] at hm; dsimp only at hm
      exact ⟨fun h => h4 k h.1 (by omega), fun h => by omega⟩
  · rcases axV_dn_cases blk low top hd with ⟨k0, h1, h2, h3, h4, h5⟩ | ⟨h4, h5⟩
    · rw [h5] at hm; dsimp only at hm
      exact ⟨fun h => by omega, fun h => h4 k (by omega) h.1⟩
    · rw [h5] at hm; dsimp only at hm
      exact ⟨fun h => by omega, fun h => h4 k h.1 (by omega)⟩
/-- THE LAW: wherever it is on its way, it is not blocked. -/
theorem free6 {val : Cl → Int} {M : Int} {x : B6} (h : Sm6 M x) (hM0 : 0 ≤ M) (hM : M ≤ 10000000000000) {axis dd m : Int} (ha : 0 ≤ axis ∧ axis < 3) (hx : blk6 val x = false)
    (hm : (0 ≤ m ∧ m ≤ (ax6 val x axis dd).1) ∨ ((ax6 val x axis dd).1 ≤ m ∧ m ≤ 0)) : blk6 val (mv6 x axis m) = false := by
  obtain ⟨f1, f2⟩ := axisV_far val x.1 x.2.1 x.2.2.1 x.2.2.2.1 x.2.2.2.2.1 x.2.2.2.2.2 axis dd
  have m1 : -10000000 ≤ m ∧ m ≤ 10000000 := by unfold ax6 at hm; omega
  clear f1 f2
  unfold ax6 axisV at hm
  rw [if_neg (by omega)] at hm
  have near := fun k => axV_near (k := k) hm
  clear hm
  obtain ⟨h3, h4, h5, h6, h7, h8, h9, h10, h11, h12, h13, h14⟩ := h
  obtain ⟨a, b, c, d, e, f⟩ := x
  dsimp only at *
  rw [blk6_false] at *
  dsimp only at *
  unfold mv6
  dsimp only
  rw [wi0 m1.1 m1.2, wi0 m1.1 m1.2, wi0 m1.1 m1.2]
  intro y
  rcases (show axis = 0 ∨ axis = 1 ∨ axis = 2 by omega) with rfl | rfl | rfl
  · have e0 : (if (0 : Int) = 0 then m else 0) = m := rfl
    have e1 : (if (1 : Int) = 0 then m else 0) = 0 := rfl
    have e2 : (if (2 : Int) = 0 then m else 0) = 0 := rfl
    rw [e0, e1, e2, addI_in (a := a) (by omega) (by omega) m1.1 m1.2, addI_in (a := b) (by omega) (by omega) (by omega) (by omega), addI_in (a := c) (by omega) (by omega) (by omega) (by omega), addI_in (a := d) (by omega) (by omega) m1.1 m1.2, addI_in (a := e) (by omega) (by omega) (by omega) (by omega), addI_in (a := f) (by omega) (by omega) (by omega) (by omega),
      Int.add_zero, Int.add_zero, Int.add_zero, Int.add_zero]
    intro k1 k2 k3
    obtain ⟨n1, n2⟩ := near y.1
    simp only [axI, ↓reduceIte] at n1 n2
    have lay : lyB val a b c d e f 0 y.1 = false → -100000000000000 ≤ y.1 * 65536 → y.1 * 65536 ≤ 100000000000000 → solB (val y) = false := fun hl r1 r2 => by
      rw [lyB_false] at hl
      refine hl y ?_ ?_ ?_
      · rw [wi_c (by omega) (by omega), wi_c (by omega) (by omega), if_pos rfl, if_pos rfl]; exact inAx_cell r1 r2
      · rw [wi_c (by omega) (by omega), wi_c (by omega) (by omega), if_neg (by decide), if_neg (by decide)]; exact k2
      · rw [wi_c (by omega) (by omega), wi_c (by omega) (by omega), if_neg (by decide), if_neg (by decide)]; exact k3
    rcases (show 0 ≤ m ∨ m ≤ 0 by omega) with hm | hm
    · rcases inAx_up (by omega) (by omega) h9 hm m1.2 k1 with g | g
      · exact hx y g k2 k3
      · exact lay (n1 g) (by omega) (by omega)
    · rcases inAx_dn (by omega) (by omega) h9 hm m1.1 k1 with g | g
      · exact hx y g k2 k3
      · exact lay (n2 g) (by omega) (by omega)
  · have e0 : (if (0 : Int) = 1 then m else 0) = 0 := rfl
    have e1 : (if (1 : Int) = 1 then m else 0) = m := rfl
    have e2 : (if (2 : Int) = 1 then m else 0) = 0 := rfl
    rw [e0, e1, e2, addI_in (a := a) (by omega) (by omega) (by omega) (by omega), addI_in (a := b) (by omega) (by omega) m1.1 m1.2, addI_in (a := c) (by omega) (by omega) (by omega) (by omega), addI_in (a := d) (by omega) (by omega) (by omega) (by omega), addI_in (a := e) (by omega) (by omega) m1.1 m1.2, addI_in (a := f) (by omega) (by omega) (by omega) (by omega),
      Int.add_zero, Int.add_zero, Int.add_zero, Int.add_zero]
    intro k1 k2 k3
    obtain ⟨n1, n2⟩ := near y.2.1
    simp [axI] at n1 n2
    have lay : lyB val a b c d e f 1 y.2.1 = false → -100000000000000 ≤ y.2.1 * 65536 → y.2.1 * 65536 ≤ 100000000000000 → solB (val y) = false := fun hl r1 r2 => by
      rw [lyB_false] at hl
      refine hl y ?_ ?_ ?_
      · rw [wi_c (by omega) (by omega), wi_c (by omega) (by omega), if_neg (by decide), if_neg (by decide)]; exact k1
      · rw [wi_c (by omega) (by omega), wi_c (by omega) (by omega), if_pos rfl, if_pos rfl]; exact inAx_cell r1 r2
      · rw [wi_c (by omega) (by omega), wi_c (by omega) (by omega), if_neg (by decide), if_neg (by decide)]; exact k3
    rcases (show 0 ≤ m ∨ m ≤ 0 by omega) with hm | hm
    · rcases inAx_up (by omega) (by omega) h10 hm m1.2 k2 with g | g
      · exact hx y k1 g k3
      · exact lay (n1 (by omega) (by omega)) (by omega) (by omega)
    · rcases inAx_dn (by omega) (by omega) h10 hm m1.1 k2 with g | g
      · exact hx y k1 g k3
      · exact lay (n2 (by omega) (by omega)) (by omega) (by omega)
  · have e0 : (if (0 : Int) = 2 then m else 0) = 0 := rfl
    have e1 : (if (1 : Int) = 2 then m else 0) = 0 := rfl
    have e2 : (if (2 : Int) = 2 then m else 0) = m := rfl
    rw [e0, e1, e2, addI_in (a := a) (by omega) (by omega) (by omega) (by omega), addI_in (a := b) (by omega) (by omega) (by omega) (by omega), addI_in (a := c) (by omega) (by omega) m1.1 m1.2, addI_in (a := d) (by omega) (by omega) (by omega) (by omega), addI_in (a := e) (by omega) (by omega) (by omega) (by omega), addI_in (a := f) (by omega) (by omega) m1.1 m1.2,
      Int.add_zero, Int.add_zero, Int.add_zero, Int.add_zero]
    intro k1 k2 k3
    obtain ⟨n1, n2⟩ := near y.2.2
    simp [axI] at n1 n2
    have lay : lyB val a b c d e f 2 y.2.2 = false → -100000000000000 ≤ y.2.2 * 65536 → y.2.2 * 65536 ≤ 100000000000000 → solB (val y) = false := fun hl r1 r2 => by
      rw [lyB_false] at hl
      refine hl y ?_ ?_ ?_
      · rw [wi_c (by omega) (by omega), wi_c (by omega) (by omega), if_neg (by decide), if_neg (by decide)]; exact k1
      · rw [wi_c (by omega) (by omega), wi_c (by omega) (by omega), if_neg (by decide), if_neg (by decide)]; exact k2
      · rw [wi_c (by omega) (by omega), wi_c (by omega) (by omega), if_pos rfl, if_pos rfl]; exact inAx_cell r1 r2
    rcases (show 0 ≤ m ∨ m ≤ 0 by omega) with hm | hm
    · rcases inAx_up (by omega) (by omega) h11 hm m1.2 k3 with g | g
      · exact hx y k1 k2 g
      · exact lay (n1 (by omega) (by omega)) (by omega) (by omega)
    · rcases inAx_dn (by omega) (by omega) h11 hm m1.1 k3 with g | g
      · exact hx y k1 k2 g
      · exact lay (n2 (by omega) (by omega)) (by omega) (by omega)
theorem free_al {val : Cl → Int} {M : Int} {x : B6} (h : Sm6 M x) (hM0 : 0 ≤ M) (hM : M ≤ 10000000000000) {axis : Int} (dd : Int) (ha : 0 ≤ axis ∧ axis < 3) (hx : blk6 val x = false) : blk6 val (al6 val x axis dd).1 = false :=
  free6 h hM0 hM ha hx (dd := dd) (by omega)
theorem free_st3 {val : Cl → Int} {M : Int} {x : B6} (h : Sm6 M x) (hM0 : 0 ≤ M) (hM : M ≤ 1000000000000) (dx dy dz : Int) (hx : blk6 val x = false) : blk6 val (st3 val x dx dy dz) = false := by
  have s1 := al6_sm h hM0 (by omega) val 1 dy
  have s2 := al6_sm (x := st1 val x dy) s1 (by omega) (by omega) val 0 dx
  exact free_al s2 (by omega) (by omega) dz (by decide) (free_al s1 (by omega) (by omega) dx (by decide) (free_al h hM0 (by omega) dy (by decide) hx))
end Go.Proofs.Ytckjpiioipkfcaa
