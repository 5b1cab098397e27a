/- Texts that build one behind the other, laid together: Stp1 Bod8 BodP2 Bod9 Bod11 Ref2d Bod2 Bod12. -/
import Derived.Test.YtnokibdecnddlaaMa7
import Derived.Test.YtnokibdecnddlaaMa6
import Derived.Test.YtnokibdecnddlaaMa4
import Derived.Test.YtnokibdecnddlaaMa1
/- The program's: a box that steps up. -/
namespace Go.Proofs.Ytnokibdecnddlaa
open Go.RowKit Go.Shelf
attribute [local go_sem] Oper.semAt_some

set_option maxRecDepth 100000 in
set_option maxHeartbeats 8000000 in
theorem pstep_c (V : FuncId) (lv : Array Value) (val : Cl → Int) (x : B6) (dx dy dz up M : Int) (hM : M ≤ 71500000000000) (hM0 : 0 ≤ M) (hB : Sm6 M x) (w : World)
    (eV : ∀ args w, (callFunc V args).run Try.prog w = .ok (.enter V args) w) (hV : Tells Try.prog V lv val w) :
    Calls Try.prog 78 #[.func (.func V) #[] lv, .agg (ag6 x), .agg #[.int .i64 dx, .int .i64 dy, .int .i64 dz], .int .i64 up] w fun r w' => r = .returned (bhT (stepV val x dx dy dz up)) ∧ Below w.heap.size w w' := by
  have t0 := hB.bd
  have tH := (hi1_sm (val := val) (up := up) hB hM0 (by omega)).bd
  have tC := (oC_sm (val := val) (up := up) (dx := dx) (dz := dz) hB hM0 (by omega)).bd
  have tY := (st3_sm (val := val) (dx := dx) (dy := dy) (dz := dz) hB hM0 (by omega)).bd
  have C0 := fun W (h : Below w.heap.size w W) => pmove_c V lv val x dx dy dz M hM hM0 hB W eV (hV.on h)
  have CS := fun W (h : Below w.heap.size w W) => pmStands_c V lv val x.1 x.2.1 x.2.2.1 x.2.2.2.1 x.2.2.2.2.1 x.2.2.2.2.2 (by omega) (by omega) (hB.under hM0 (by omega)).1 W eV (hV.on h)
  have C1 := fun W (h : Below w.heap.size w W) => palong_c V lv val x 1 (mnI up 65536) M (by omega) hM0 hB W eV (hV.on h)
  have C2 := fun W (h : Below w.heap.size w W) => palong_c V lv val (hi1 val x up).1 0 dx (M + 10000000) (by omega) (by omega) (hi1_sm hB hM0 (by omega)) W eV (hV.on h)
  have C3 := fun W (h : Below w.heap.size w W) => palong_c V lv val (oA val x dx up).1 2 dz (M + 20000000) (by omega) (by omega) (oA_sm hB hM0 (by omega)) W eV (hV.on h)
  have C4 := fun W (h : Below w.heap.size w W) => palong_c V lv val (oB val x dx dz up).1 1 (-rise val x up) (M + 30000000) (by omega) (by omega) (oB_sm hB hM0 (by omega)) W eV (hV.on h)
  have CW1 := fun W => pwent_c x (oC val x dx dz up).1 (by omega) (by omega) (by omega) (by omega) W
  have CW2 := fun W => pwent_c x (st3 val x dx dy dz) (by omega) (by omega) (by omega) (by omega) W
  have q1 : -9223372036854775808 ≤ (hi1 val x up).1.2.1 - x.2.1 ∧ (hi1 val x up).1.2.1 - x.2.1 ≤ 9223372036854775807 := by omega
  have q2 : -9223372036854775808 ≤ -((hi1 val x up).1.2.1 - x.2.1) ∧ -((hi1 val x up).1.2.1 - x.2.1) ≤ 9223372036854775807 := by omega
  clear t0 tH tC tY hM hM0 hB hV eV
  have fC : oC val x dx dz up = al6 val (oB val x dx dz up).1 1 (-rise val x up) := rfl
  have fB : oB val x dx dz up = al6 val (oA val x dx up).1 2 dz := rfl
  have fA : oA val x dx up = al6 val (hi1 val x up).1 0 dx := rfl
  have fH : hi1 val x up = al6 val x 1 (mnI up 65536) := rfl
  have fR : rise val x up = (hi1 val x up).1.2.1 - x.2.1 := rfl
  rw [← fC] at C4
  rw [← fB] at C3
  rw [← fA] at C2
  rw [← fH] at C1
  rw [fR] at C4
  have fS : unB val x = (cellsI x.1 (cutI (x.2.1 - 1)) x.2.2.1 x.2.2.2.1 x.2.1 x.2.2.2.2.2).any fun c => solB (val c) := rfl
  rw [← fS] at CS
  unfold moveT at C0
  unfold stepV
  clear fC fB fA fH fR fS
  generalize hi1 val x up = H at C1 C2 q1 q2 C4
  generalize oA val x dx up = A at C2 C3 ⊢
  generalize oB val x dx dz up = B at C3 C4 ⊢
  generalize oC val x dx dz up = C at C4 CW1 ⊢
  generalize st3 val x dx dy dz = y at C0 CW2 ⊢
  generalize hx2 val x dx dy = u0 at C0 ⊢
  generalize hy1 val x dy = u1 at C0 ⊢
  generalize hz3 val x dx dy dz = u2 at C0 ⊢
  generalize unB val x = st at CS ⊢
  generalize wentI x C.1 = n1 at CW1 ⊢
  generalize wentI x y = n2 at CW2 ⊢
  obtain ⟨r, hr⟩ : ∃ r, r = stepOf y C.1 u0 u1 u2 A.2 B.2 st up n1 n2 := ⟨_, rfl⟩
  rw [← hr]
  obtain ⟨a, b, c, d, e, f⟩ := x
  obtain ⟨y1, y2, y3, y4, y5, y6⟩ := y
  obtain ⟨⟨h1, h2, h3, h4, h5, h6⟩, sh⟩ := H
  obtain ⟨⟨a1, a2, a3, a4, a5, a6⟩, sa⟩ := A
  obtain ⟨⟨b1, b2, b3, b4, b5, b6⟩, sb⟩ := B
  obtain ⟨⟨c1, c2, c3, c4, c5, c6⟩, sc⟩ := C
  simp only [alT, ag6, ah3, bhT] at *
  obtain ⟨q1, q3⟩ := q1
  obtain ⟨q2, q4⟩ := q2
  have HR := Lib.hid hr
  clear hr
  have HC0 := Lib.hid C0
  have HC1 := Lib.hid C1
  have HC2 := Lib.hid C2
  have HC3 := Lib.hid C3
  have HC4 := Lib.hid C4
  have HCS := Lib.hid CS
  have HW1 := Lib.hid CW1
  have HW2 := Lib.hid CW2
  clear C0 C1 C2 C3 C4 CS CW1 CW2
  obtain ⟨W, hW⟩ : ∃ W, W = (((w.alloc (.cells #[.int .i64 a, .int .i64 b, .int .i64 c, .int .i64 d, .int .i64 e, .int .i64 f] 48)).alloc (.cells #[.int .i64 dx, .int .i64 dy, .int .i64 dz] 26)).alloc (.cells #[.int .i64 0, .int .i64 0, .int .i64 0, .int .i64 0, .int .i64 0, .int .i64 0] 48)).alloc (.cells #[.bool false, .bool false, .bool false] 89) := ⟨_, rfl⟩
  have H : Below w.heap.size w W := by rw [hW]; go_grown
  have hs : W.heap.size = w.heap.size + 4 := by rw [hW]; simp
  obtain ⟨N, hN⟩ : ∃ N, N = w.heap.size := ⟨_, rfl⟩
  rw [← hN] at hs
  have HS := Lib.hid hs
  clear hs
  have U : Blk W N 48 _ := Blk.eqw hW.symm (by rw [hN]; exact (((Blk.new' rfl).alloc _).alloc _).alloc _)
  have D : Blk W (N + 1) 26 _ := Blk.eqw hW.symm (by rw [hN]; exact ((Blk.new' (by simp)).alloc _).alloc _)
  have R0 : Blk W (N + 1 + 1) 48 _ := Blk.eqw hW.symm (by rw [hN]; exact (Blk.new' (by simp)).alloc _)
  have R1 : Blk W (N + 1 + 1 + 1) 89 _ := Blk.eqw hW.symm (by rw [hN]; exact Blk.new' (by simp))
  go_enter Try.func78, Try.ntmps78
  go_upto_region 1 with (fail)
  rw [← hW, ← hN]
  have HN := Lib.hid hN
  clear hW hN
  obtain ⟨u0', uu1, uu2, uu3, uu4, uu5⟩ := U.c6.1
  obtain ⟨v0, v1, v2, -, -, -⟩ := D.c3
  go_upto_region 2 with (go_at_call 67; refine (HC0.out _ H).mono ?_; rintro e_ w1 ⟨rfl, k1⟩)
  generalize hV : World.alloc (World.alloc w1 _) _ = Y1
  have hy : Below w1.heap.size w1 Y1 := by rw [← hV]; go_grown
  have P : Blk Y1 w1.heap.size 48 #[.int .i64 y1, .int .i64 y2, .int .i64 y3, .int .i64 y4, .int .i64 y5, .int .i64 y6] := Blk.eqw hV ((Blk.new' rfl).alloc _)
  have Q : Blk Y1 (w1.heap.size + 1) 89 #[.bool u0, .bool u1, .bool u2] := Blk.eqw hV (Blk.new' (by simp))
  have hgp : N + 4 ≤ w1.heap.size := by rw [← HS.out]; exact k1.size
  have HY := Lib.hid (after k1 hy)
  replace U := U.on k1
  replace D := D.on k1
  replace R0 := R0.on k1
  replace R1 := R1.on k1
  replace U := U.on hy
  replace D := D.on hy
  replace R0 := R0.on hy
  replace R1 := R1.on hy
  replace H := after (after H k1) hy
  clear hV hy k1 u0' uu1 uu2 uu3 uu4 uu5 v0 v1 v2
  generalize w1.heap.size = gp at P Q hgp ⊢
  have HH := Lib.hid H
  clear H HC0
  have ways : (u0 = false ∧ u2 = false) ∨ (u0 = false ∧ u2 = true ∧ up ≤ 0) ∨ (u0 = true ∧ up ≤ 0) ∨ (u0 = false ∧ u2 = true ∧ 0 < up ∧ st = false) ∨ (u0 = true ∧ 0 < up ∧ st = false) ∨ (u0 = false ∧ u2 = true ∧ 0 < up ∧ st = true) ∨ (u0 = true ∧ 0 < up ∧ st = true) := by
    cases u0 <;> cases u2 <;> cases st <;> simp <;> omega
  obtain ⟨u0', uu1, uu2, uu3, uu4, uu5⟩ := U.c6.1
  rcases ways with ⟨rfl, rfl⟩ | ⟨rfl, rfl, hu⟩ | ⟨rfl, hu⟩ | ⟨rfl, rfl, hu, rfl⟩ | ⟨rfl, hu, rfl⟩ | ⟨rfl, rfl, hu, rfl⟩ | ⟨rfl, hu, rfl⟩
  · obtain rfl : r = ((y1, y2, y3, y4, y5, y6), false, u1, false) := by rw [HR.out, stepOf_no (.inl ⟨rfl, rfl⟩)]
    obtain ⟨t0, t1, t2, -, -, -⟩ := Q.c3
    have x0 := fun f d os => (P.sp (D := [N + 1 + 1, N + 1 + 1 + 1]) (by simp; omega) f d os).c6.1
    have y0 := fun f d os => (Q.sp (D := [N + 1 + 1, N + 1 + 1 + 1]) (by simp; omega) f d os).c3
    go_upto_region 3 with (fail)
    have B1 := R0
    have B2 := R1
    refine wp_two [0, 0, 2, 2] 2 (N + 1 + 1) (48) (#[.int .i64 y1, .int .i64 y2, .int .i64 y3, .int .i64 y4, .int .i64 y5, .int .i64 y6]) 3 (N + 1 + 1 + 1) (89) (#[.bool false, .bool u1, .bool false]) (by omega) (by kernel_rfl) (by kernel_rfl) ?_
    repeat (first | (refine wpQs_s ?_) | (refine wpQs_q (fun K hK => ?_); go_simp; first | (refine hK _ ?_; clear hK K) | (apply Exists.intro; refine ⟨fun _ => ?_, hK _ ?_⟩; (fail); clear hK K)))
    refine wpQs_nil ?_
    repeat (refine wpLs_skip ?_)
    refine wpLs_one ?s1 (fun vs1_ => ?_)
    case s1 =>
      intro w_ hw_ hp_
      have L2 := hp_.blk (by simp [Ds2]) B1
      obtain ⟨⟨q0, q1, q2, q3, q4, q5⟩, f0, f1, f2, f3, f4, f5⟩ := L2.c6
      go_simp
      exact two_fst (by decide) kept6 (L2.st6 _ _ _ _ _ _)
    refine wpLs_one ?s2 (fun vs2_ => ?_)
    case s2 =>
      intro w_ hw_ hp_
      have T2 := hp_.blk (by simp [Ds2]) B2
      obtain ⟨q0, q1, q2, f0, f1, f2⟩ := T2.c3
      go_simp
      exact two_snd (by decide) kept3 (T2.st3 _ _ _)
    refine wpLs_nilD ?_
    simp only [tails]
    rintro w_ k_ ⟨⟨-, r1⟩, r2⟩
    obtain ⟨⟨m0, m1, m2, m3, m4, m5⟩, -, -, -, -, -, -⟩ := (r1.1 rfl).c6
    obtain ⟨j0, j1, j2, -, -, -⟩ := (r2.2 rfl).c3
    clear r1 r2 x0 y0 B1 B2
    simp only [wpList, Exit.then]
    rename_i hKret
    refine hKret _ _ (wp_ret ?_)
    try simp only [Exit.then]
    refine bodyPost_ret (v := .tuple #[.agg #[.int .i64 y1, .int .i64 y2, .int .i64 y3, .int .i64 y4, .int .i64 y5, .int .i64 y6], .agg #[.bool false, .bool u1, .bool false]]) (by simp [results, Try.f78, go_sem, m0, m1, m2, m3, m4, m5, j0, j1, j2]) rfl ⟨rfl, ?_⟩
    have hN_ := HN.out
    exact (HH.out).trans (k_.below (HH.out).size (fun b hb => by simp; omega))
  · obtain rfl : r = ((y1, y2, y3, y4, y5, y6), false, u1, true) := by rw [HR.out, stepOf_no (.inr (.inl hu))]
    obtain ⟨t0, t1, t2, -, -, -⟩ := Q.c3
    have hu1 : ¬ 0 < up := by omega
    have x0 := fun f d os => (P.sp (D := [N + 1 + 1, N + 1 + 1 + 1]) (by simp; omega) f d os).c6.1
    have y0 := fun f d os => (Q.sp (D := [N + 1 + 1, N + 1 + 1 + 1]) (by simp; omega) f d os).c3
    go_upto_region 3 with (fail)
    have B1 := R0
    have B2 := R1
    refine wp_two [0, 0, 2, 2] 2 (N + 1 + 1) (48) (#[.int .i64 y1, .int .i64 y2, .int .i64 y3, .int .i64 y4, .int .i64 y5, .int .i64 y6]) 3 (N + 1 + 1 + 1) (89) (#[.bool false, .bool u1, .bool true]) (by omega) (by kernel_rfl) (by kernel_rfl) ?_
    repeat (first | (refine wpQs_s ?_) | (refine wpQs_q (fun K hK => ?_); go_simp; first | (refine hK _ ?_; clear hK K) | (apply Exists.intro; refine ⟨fun _ => ?_, hK _ ?_⟩; (fail); clear hK K)))
    refine wpQs_nil ?_
    repeat (refine wpLs_skip ?_)
    refine wpLs_one ?s1 (fun vs1_ => ?_)
    case s1 =>
      intro w_ hw_ hp_
      have L2 := hp_.blk (by simp [Ds2]) B1
      obtain ⟨⟨q0, q1, q2, q3, q4, q5⟩, f0, f1, f2, f3, f4, f5⟩ := L2.c6
      go_simp
      exact two_fst (by decide) kept6 (L2.st6 _ _ _ _ _ _)
    refine wpLs_one ?s2 (fun vs2_ => ?_)
    case s2 =>
      intro w_ hw_ hp_
      have T2 := hp_.blk (by simp [Ds2]) B2
      obtain ⟨q0, q1, q2, f0, f1, f2⟩ := T2.c3
      go_simp
      exact two_snd (by decide) kept3 (T2.st3 _ _ _)
    refine wpLs_nilD ?_
    simp only [tails]
    rintro w_ k_ ⟨⟨-, r1⟩, r2⟩
    obtain ⟨⟨m0, m1, m2, m3, m4, m5⟩, -, -, -, -, -, -⟩ := (r1.1 rfl).c6
    obtain ⟨j0, j1, j2, -, -, -⟩ := (r2.2 rfl).c3
    clear r1 r2 x0 y0 B1 B2
    simp only [wpList, Exit.then]
    rename_i hKret
    refine hKret _ _ (wp_ret ?_)
    try simp only [Exit.then]
    refine bodyPost_ret (v := .tuple #[.agg #[.int .i64 y1, .int .i64 y2, .int .i64 y3, .int .i64 y4, .int .i64 y5, .int .i64 y6], .agg #[.bool false, .bool u1, .bool true]]) (by simp [results, Try.f78, go_sem, m0, m1, m2, m3, m4, m5, j0, j1, j2]) rfl ⟨rfl, ?_⟩
    have hN_ := HN.out
    exact (HH.out).trans (k_.below (HH.out).size (fun b hb => by simp; omega))
  · obtain rfl : r = ((y1, y2, y3, y4, y5, y6), true, u1, u2) := by rw [HR.out, stepOf_no (.inr (.inl hu))]
    obtain ⟨t0, t1, t2, -, -, -⟩ := Q.c3
    have hu1 : ¬ 0 < up := by omega
    have x0 := fun f d os => (P.sp (D := [N + 1 + 1, N + 1 + 1 + 1]) (by simp; omega) f d os).c6.1
    have y0 := fun f d os => (Q.sp (D := [N + 1 + 1, N + 1 + 1 + 1]) (by simp; omega) f d os).c3
    go_upto_region 3 with (fail)
    have B1 := R0
    have B2 := R1
    refine wp_two [0, 0, 2, 2] 2 (N + 1 + 1) (48) (#[.int .i64 y1, .int .i64 y2, .int .i64 y3, .int .i64 y4, .int .i64 y5, .int .i64 y6]) 3 (N + 1 + 1 + 1) (89) (#[.bool true, .bool u1, .bool u2]) (by omega) (by kernel_rfl) (by kernel_rfl) ?_
    repeat (first | (refine wpQs_s ?_) | (refine wpQs_q (fun K hK => ?_); go_simp; first | (refine hK _ ?_; clear hK K) | (apply Exists.intro; refine ⟨fun _ => ?_, hK _ ?_⟩; (fail); clear hK K)))
    refine wpQs_nil ?_
    repeat (refine wpLs_skip ?_)
    refine wpLs_one ?s1 (fun vs1_ => ?_)
    case s1 =>
      intro w_ hw_ hp_
      have L2 := hp_.blk (by simp [Ds2]) B1
      obtain ⟨⟨q0, q1, q2, q3, q4, q5⟩, f0, f1, f2, f3, f4, f5⟩ := L2.c6
      go_simp
      exact two_fst (by decide) kept6 (L2.st6 _ _ _ _ _ _)
    refine wpLs_one ?s2 (fun vs2_ => ?_)
    case s2 =>
      intro w_ hw_ hp_
      have T2 := hp_.blk (by simp [Ds2]) B2
      obtain ⟨q0, q1, q2, f0, f1, f2⟩ := T2.c3
      go_simp
      exact two_snd (by decide) kept3 (T2.st3 _ _ _)
    refine wpLs_nilD ?_
    simp only [tails]
    rintro w_ k_ ⟨⟨-, r1⟩, r2⟩
    obtain ⟨⟨m0, m1, m2, m3, m4, m5⟩, -, -, -, -, -, -⟩ := (r1.1 rfl).c6
    obtain ⟨j0, j1, j2, -, -, -⟩ := (r2.2 rfl).c3
    clear r1 r2 x0 y0 B1 B2
    simp only [wpList, Exit.then]
    rename_i hKret
    refine hKret _ _ (wp_ret ?_)
    try simp only [Exit.then]
    refine bodyPost_ret (v := .tuple #[.agg #[.int .i64 y1, .int .i64 y2, .int .i64 y3, .int .i64 y4, .int .i64 y5, .int .i64 y6], .agg #[.bool true, .bool u1, .bool u2]]) (by simp [results, Try.f78, go_sem, m0, m1, m2, m3, m4, m5, j0, j1, j2]) rfl ⟨rfl, ?_⟩
    have hN_ := HN.out
    exact (HH.out).trans (k_.below (HH.out).size (fun b hb => by simp; omega))
  · obtain rfl : r = ((y1, y2, y3, y4, y5, y6), false, u1, true) := by rw [HR.out, stepOf_no (.inr (.inr (.inl rfl)))]
    obtain ⟨t0, t1, t2, -, -, -⟩ := Q.c3
    have hu1 : decide (up ≤ 0) = false := by simpa using hu
    go_upto_region 3 with (go_at_call 77; refine (HCS.out _ HH.out).mono ?_; rintro e_ w2 ⟨rfl, k2⟩)
    clear t0 t1 t2 u0' uu1 uu2 uu3 uu4 uu5
    replace P := P.on k2
    replace Q := Q.on k2
    replace R0 := R0.on k2
    replace R1 := R1.on k2
    replace HH := Lib.hid (after HH.out k2)
    have x0 := fun f d os => (P.sp (D := [N + 1 + 1, N + 1 + 1 + 1]) (by simp; omega) f d os).c6.1
    have y0 := fun f d os => (Q.sp (D := [N + 1 + 1, N + 1 + 1 + 1]) (by simp; omega) f d os).c3
    go_upto_region 3 with (fail)
    have B1 := R0
    have B2 := R1
    refine wp_two [0, 0, 2, 2] 2 (N + 1 + 1) (48) (#[.int .i64 y1, .int .i64 y2, .int .i64 y3, .int .i64 y4, .int .i64 y5, .int .i64 y6]) 3 (N + 1 + 1 + 1) (89) (#[.bool false, .bool u1, .bool true]) (by omega) (by kernel_rfl) (by kernel_rfl) ?_
    repeat (first | (refine wpQs_s ?_) | (refine wpQs_q (fun K hK => ?_); go_simp; first | (refine hK _ ?_; clear hK K) | (apply Exists.intro; refine ⟨fun _ => ?_, hK _ ?_⟩; (fail); clear hK K)))
    refine wpQs_nil ?_
    repeat (refine wpLs_skip ?_)
    refine wpLs_one ?s1 (fun vs1_ => ?_)
    case s1 =>
      intro w_ hw_ hp_
      have L2 := hp_.blk (by simp [Ds2]) B1
      obtain ⟨⟨q0, q1, q2, q3, q4, q5⟩, f0, f1, f2, f3, f4, f5⟩ := L2.c6
      go_simp
      exact two_fst (by decide) kept6 (L2.st6 _ _ _ _ _ _)
    refine wpLs_one ?s2 (fun vs2_ => ?_)
    case s2 =>
      intro w_ hw_ hp_
      have T2 := hp_.blk (by simp [Ds2]) B2
      obtain ⟨q0, q1, q2, f0, f1, f2⟩ := T2.c3
      go_simp
      exact two_snd (by decide) kept3 (T2.st3 _ _ _)
    refine wpLs_nilD ?_
    simp only [tails]
    rintro w_ k_ ⟨⟨-, r1⟩, r2⟩
    obtain ⟨⟨m0, m1, m2, m3, m4, m5⟩, -, -, -, -, -, -⟩ := (r1.1 rfl).c6
    obtain ⟨j0, j1, j2, -, -, -⟩ := (r2.2 rfl).c3
    clear r1 r2 x0 y0 B1 B2
    simp only [wpList, Exit.then]
    rename_i hKret
    refine hKret _ _ (wp_ret ?_)
    try simp only [Exit.then]
    refine bodyPost_ret (v := .tuple #[.agg #[.int .i64 y1, .int .i64 y2, .int .i64 y3, .int .i64 y4, .int .i64 y5, .int .i64 y6], .agg #[.bool false, .bool u1, .bool true]]) (by simp [results, Try.f78, go_sem, m0, m1, m2, m3, m4, m5, j0, j1, j2]) rfl ⟨rfl, ?_⟩
    have hN_ := HN.out
    exact (HH.out).trans (k_.below (HH.out).size (fun b hb => by simp; omega))
  · obtain rfl : r = ((y1, y2, y3, y4, y5, y6), true, u1, u2) := by rw [HR.out, stepOf_no (.inr (.inr (.inl rfl)))]
    obtain ⟨t0, t1, t2, -, -, -⟩ := Q.c3
    have hu1 : decide (up ≤ 0) = false := by simpa using hu
    go_upto_region 3 with (go_at_call 77; refine (HCS.out _ HH.out).mono ?_; rintro e_ w2 ⟨rfl, k2⟩)
    clear t0 t1 t2 u0' uu1 uu2 uu3 uu4 uu5
    replace P := P.on k2
    replace Q := Q.on k2
    replace R0 := R0.on k2
    replace R1 := R1.on k2
    replace HH := Lib.hid (after HH.out k2)
    have x0 := fun f d os => (P.sp (D := [N + 1 + 1, N + 1 + 1 + 1]) (by simp; omega) f d os).c6.1
    have y0 := fun f d os => (Q.sp (D := [N + 1 + 1, N + 1 + 1 + 1]) (by simp; omega) f d os).c3
    go_upto_region 3 with (fail)
    have B1 := R0
    have B2 := R1
    refine wp_two [0, 0, 2, 2] 2 (N + 1 + 1) (48) (#[.int .i64 y1, .int .i64 y2, .int .i64 y3, .int .i64 y4, .int .i64 y5, .int .i64 y6]) 3 (N + 1 + 1 + 1) (89) (#[.bool true, .bool u1, .bool u2]) (by omega) (by kernel_rfl) (by kernel_rfl) ?_
    repeat (first | (refine wpQs_s ?_) | (refine wpQs_q (fun K hK => ?_); go_simp; first | (refine hK _ ?_; clear hK K) | (apply Exists.intro; refine ⟨fun _ => ?_, hK _ ?_⟩; (fail); clear hK K)))
    refine wpQs_nil ?_
    repeat (refine wpLs_skip ?_)
    refine wpLs_one ?s1 (fun vs1_ => ?_)
    case s1 =>
      intro w_ hw_ hp_
      have L2 := hp_.blk (by simp [Ds2]) B1
      obtain ⟨⟨q0, q1, q2, q3, q4, q5⟩, f0, f1, f2, f3, f4, f5⟩ := L2.c6
      go_simp
      exact two_fst (by decide) kept6 (L2.st6 _ _ _ _ _ _)
    refine wpLs_one ?s2 (fun vs2_ => ?_)
    case s2 =>
      intro w_ hw_ hp_
      have T2 := hp_.blk (by simp [Ds2]) B2
      obtain ⟨q0, q1, q2, f0, f1, f2⟩ := T2.c3
      go_simp
      exact two_snd (by decide) kept3 (T2.st3 _ _ _)
    refine wpLs_nilD ?_
    simp only [tails]
    rintro w_ k_ ⟨⟨-, r1⟩, r2⟩
    obtain ⟨⟨m0, m1, m2, m3, m4, m5⟩, -, -, -, -, -, -⟩ := (r1.1 rfl).c6
    obtain ⟨j0, j1, j2, -, -, -⟩ := (r2.2 rfl).c3
    clear r1 r2 x0 y0 B1 B2
    simp only [wpList, Exit.then]
    rename_i hKret
    refine hKret _ _ (wp_ret ?_)
    try simp only [Exit.then]
    refine bodyPost_ret (v := .tuple #[.agg #[.int .i64 y1, .int .i64 y2, .int .i64 y3, .int .i64 y4, .int .i64 y5, .int .i64 y6], .agg #[.bool true, .bool u1, .bool u2]]) (by simp [results, Try.f78, go_sem, m0, m1, m2, m3, m4, m5, j0, j1, j2]) rfl ⟨rfl, ?_⟩
    have hN_ := HN.out
    exact (HH.out).trans (k_.below (HH.out).size (fun b hb => by simp; omega))
  · obtain ⟨t0, t1, t2, -, -, -⟩ := Q.c3
    have hu1 : decide (up ≤ 0) = false := by simpa using hu
    obtain ⟨v0, v1, v2, -, -, -⟩ := D.c3
    have hmn := @run_mn Try.prog
    go_upto_region 5 with (first | (go_at_call 77; refine (HCS.out _ HH.out).mono ?_; rintro e_ w2 ⟨rfl, k2⟩; replace HH := Lib.hid (after HH.out k2); replace U := U.on k2; replace D := D.on k2; replace P := P.on k2; replace Q := Q.on k2; replace R0 := R0.on k2; replace R1 := R1.on k2; clear t0 t1 t2 u0' uu1 uu2 uu3 uu4 uu5 v0 v1 v2; obtain ⟨t0, t1, t2, -, -, -⟩ := Q.c3; obtain ⟨u0', uu1, uu2, uu3, uu4, uu5⟩ := U.c6.1; obtain ⟨v0, v1, v2, -, -, -⟩ := D.c3) | (go_at_call 93; refine (HC1.out _ HH.out).mono ?_; rintro e_ w3 ⟨rfl, k3⟩))
    generalize hV : World.alloc w3 _ = Y3
    have hy : Below w3.heap.size w3 Y3 := by rw [← hV]; go_grown
    have Hb : Blk Y3 w3.heap.size 48 #[.int .i64 h1, .int .i64 h2, .int .i64 h3, .int .i64 h4, .int .i64 h5, .int .i64 h6] := Blk.eqw hV (Blk.new' rfl)
    have hg3 : gp + 2 ≤ w3.heap.size := by have := k3.size; have := Q.lt; omega
    replace U := U.on k3
    replace D := D.on k3
    replace P := P.on k3
    replace Q := Q.on k3
    replace R0 := R0.on k3
    replace R1 := R1.on k3
    replace U := U.on hy
    replace D := D.on hy
    replace P := P.on hy
    replace Q := Q.on hy
    replace R0 := R0.on hy
    replace R1 := R1.on hy
    replace HH := Lib.hid (after (after HH.out k3) hy)
    clear hV hy k3 t0 t1 t2 u0' uu1 uu2 uu3 uu4 uu5 v0 v1 v2
    generalize w3.heap.size = g3 at Hb hg3 ⊢
    obtain ⟨x0, x1, x2, x3, x4, x5⟩ := Hb.c6.1
    obtain ⟨u0', uu1, uu2, uu3, uu4, uu5⟩ := U.c6.1
    obtain ⟨v0, v1, v2, -, -, -⟩ := D.c3
    have hg4 : g3 < Y3.heap.size := Hb.lt
    have hg5 : N < Y3.heap.size := U.lt
    have hg6 : N + 1 < Y3.heap.size := D.lt
    go_upto_region 8 with (fail)
    generalize hV : World.alloc (World.alloc Y3 _) _ = Y4
    have hy : Below Y3.heap.size Y3 Y4 := by rw [← hV]; go_grown
    have Ow : Blk Y4 Y3.heap.size 89 #[.bool false, .bool true, .bool false] := Blk.eqw hV ((Blk.new' rfl).alloc _)
    have Ou : Blk Y4 (Y3.heap.size + 1) 48 #[.int .i64 h1, .int .i64 h2, .int .i64 h3, .int .i64 h4, .int .i64 h5, .int .i64 h6] := Blk.eqw hV (Blk.new' (by simp))
    clear hg5 hg6
    replace U := U.on hy
    replace D := D.on hy
    replace P := P.on hy
    replace Q := Q.on hy
    replace R0 := R0.on hy
    replace R1 := R1.on hy
    replace HH := Lib.hid (after HH.out hy)
    clear hV hy x0 x1 x2 x3 x4 x5 u0' uu1 uu2 uu3 uu4 uu5 v0 v1 v2 Hb
    generalize Y3.heap.size = g4 at Ow Ou hg4 ⊢
    obtain ⟨u0', uu1, uu2, uu3, uu4, uu5⟩ := U.c6.1
    obtain ⟨v0, v1, v2, -, -, -⟩ := D.c3
    obtain ⟨x0, x1, x2, x3, x4, x5⟩ := Ou.c6.1
    go_upto_region 9 with (go_at_call 93; refine (HC2.out _ HH.out).mono ?_; rintro e_ w5 ⟨rfl, k5⟩; replace U := U.on k5; replace D := D.on k5; replace P := P.on k5; replace Q := Q.on k5; replace R0 := R0.on k5; replace R1 := R1.on k5; replace Ow := Ow.on k5; replace Ou := Ou.on k5; obtain ⟨⟨z0, z1, z2, z3, z4, z5⟩, zf0, zf1, zf2, zf3, zf4, zf5⟩ := Ou.c6; obtain ⟨s0, s1, s2, sf0, sf1, sf2⟩ := Ow.c3)
    generalize hV : World.setCell (World.setCell _ _ _) _ _ = Y5
    have hk : Kept (fun c => c ≠ g4 ∧ c ≠ g4 + 1) w5 Y5 := by rw [← hV]; exact (kept6.mono (fun b h => h.2)).setCell (p := ⟨g4, 0, none⟩) (fun h => h.1 rfl) _
    have Ou2 : Blk Y5 (g4 + 1) 48 #[.int .i64 a1, .int .i64 a2, .int .i64 a3, .int .i64 a4, .int .i64 a5, .int .i64 a6] := Blk.eqw hV ((Ou.st6 (.int .i64 a1) (.int .i64 a2) (.int .i64 a3) (.int .i64 a4) (.int .i64 a5) (.int .i64 a6)).far (p := ⟨g4, 0, none⟩) (by dsimp only; omega) _)
    have Ow2 : Blk Y5 g4 89 #[.bool sa, .bool true, .bool false] := Blk.eqw hV ((sx6_far Ow (show g4 ≠ g4 + 1 by omega) (.int .i64 a1) (.int .i64 a2) (.int .i64 a3) (.int .i64 a4) (.int .i64 a5) (.int .i64 a6)).set_ 0 (.bool sa))
    have HB := Lib.hid (show Below w.heap.size w Y5 by
      have h1 := after HH.out k5
      have h2 := HN.out
      rw [← hV]
      exact (sx6_below h1 (by omega) _ _ _ _ _ _).setCell (p := ⟨g4, 0, none⟩) (by dsimp only; omega) _)
    replace U := hk.blk (by omega) U
    replace D := hk.blk (by omega) D
    replace P := hk.blk (by omega) P
    replace Q := hk.blk (by omega) Q
    replace R0 := hk.blk (by omega) R0
    replace R1 := hk.blk (by omega) R1
    clear hV hk k5 HH z0 z1 z2 z3 z4 z5 zf0 zf1 zf2 zf3 zf4 zf5 s0 s1 s2 sf0 sf1 sf2 x0 x1 x2 x3 x4 x5 u0' uu1 uu2 uu3 uu4 uu5 v0 v1 v2 Ou Ow
    have HH := HB
    have Ou := Ou2
    have Ow := Ow2
    clear HB Ou2 Ow2
    obtain ⟨u0', uu1, uu2, uu3, uu4, uu5⟩ := U.c6.1
    obtain ⟨v0, v1, v2, -, -, -⟩ := D.c3
    obtain ⟨x0, x1, x2, x3, x4, x5⟩ := Ou.c6.1
    go_upto_region 10 with (go_at_call 93; refine (HC3.out _ HH.out).mono ?_; rintro e_ w6 ⟨rfl, k5⟩; replace U := U.on k5; replace D := D.on k5; replace P := P.on k5; replace Q := Q.on k5; replace R0 := R0.on k5; replace R1 := R1.on k5; replace Ow := Ow.on k5; replace Ou := Ou.on k5; obtain ⟨⟨z0, z1, z2, z3, z4, z5⟩, zf0, zf1, zf2, zf3, zf4, zf5⟩ := Ou.c6; obtain ⟨s0, s1, s2, sf0, sf1, sf2⟩ := Ow.c3)
    generalize hV : World.setCell (World.setCell _ _ _) _ _ = Y6
    have hk : Kept (fun c => c ≠ g4 ∧ c ≠ g4 + 1) w6 Y6 := by rw [← hV]; exact (kept6.mono (fun b h => h.2)).setCell (p := ⟨g4, 2, none⟩) (fun h => h.1 rfl) _
    have Ou2 : Blk Y6 (g4 + 1) 48 #[.int .i64 b1, .int .i64 b2, .int .i64 b3, .int .i64 b4, .int .i64 b5, .int .i64 b6] := Blk.eqw hV ((Ou.st6 (.int .i64 b1) (.int .i64 b2) (.int .i64 b3) (.int .i64 b4) (.int .i64 b5) (.int .i64 b6)).far (p := ⟨g4, 2, none⟩) (by dsimp only; omega) _)
    have Ow2 : Blk Y6 g4 89 #[.bool sa, .bool true, .bool sb] := Blk.eqw hV ((sx6_far Ow (show g4 ≠ g4 + 1 by omega) (.int .i64 b1) (.int .i64 b2) (.int .i64 b3) (.int .i64 b4) (.int .i64 b5) (.int .i64 b6)).set_ 2 (.bool sb))
    have HB := Lib.hid (show Below w.heap.size w Y6 by
      have h1 := after HH.out k5
      have h2 := HN.out
      rw [← hV]
      exact (sx6_below h1 (by omega) _ _ _ _ _ _).setCell (p := ⟨g4, 2, none⟩) (by dsimp only; omega) _)
    replace U := hk.blk (by omega) U
    replace D := hk.blk (by omega) D
    replace P := hk.blk (by omega) P
    replace Q := hk.blk (by omega) Q
    replace R0 := hk.blk (by omega) R0
    replace R1 := hk.blk (by omega) R1
    clear hV hk k5 HH z0 z1 z2 z3 z4 z5 zf0 zf1 zf2 zf3 zf4 zf5 s0 s1 s2 sf0 sf1 sf2 x0 x1 x2 x3 x4 x5 u0' uu1 uu2 uu3 uu4 uu5 v0 v1 v2 Ou Ow
    have HH := HB
    have Ou := Ou2
    have Ow := Ow2
    clear HB Ou2 Ow2
    obtain ⟨u0', uu1, uu2, uu3, uu4, uu5⟩ := U.c6.1
    obtain ⟨v0, v1, v2, -, -, -⟩ := D.c3
    obtain ⟨x0, x1, x2, x3, x4, x5⟩ := Ou.c6.1
    go_upto_region 11 with (go_at_call 93; refine (HC4.out _ HH.out).mono ?_; rintro e_ w7 ⟨rfl, k5⟩; replace U := U.on k5; replace D := D.on k5; replace P := P.on k5; replace Q := Q.on k5; replace R0 := R0.on k5; replace R1 := R1.on k5; replace Ow := Ow.on k5; replace Ou := Ou.on k5; obtain ⟨⟨z0, z1, z2, z3, z4, z5⟩, zf0, zf1, zf2, zf3, zf4, zf5⟩ := Ou.c6; obtain ⟨s0, s1, s2, sf0, sf1, sf2⟩ := Ow.c3)
    generalize hV : World.setCell (World.setCell _ _ _) _ _ = Y7
    have hk : Kept (fun c => c ≠ g4 ∧ c ≠ g4 + 1) w7 Y7 := by rw [← hV]; exact kept6.mono (fun b h => h.2)
    have Ou2 : Blk Y7 (g4 + 1) 48 #[.int .i64 c1, .int .i64 c2, .int .i64 c3, .int .i64 c4, .int .i64 c5, .int .i64 c6] := Blk.eqw hV (Ou.st6 (.int .i64 c1) (.int .i64 c2) (.int .i64 c3) (.int .i64 c4) (.int .i64 c5) (.int .i64 c6))
    have Ow2 : Blk Y7 g4 89 #[.bool sa, .bool true, .bool sb] := Blk.eqw hV (sx6_far Ow (show g4 ≠ g4 + 1 by omega) (.int .i64 c1) (.int .i64 c2) (.int .i64 c3) (.int .i64 c4) (.int .i64 c5) (.int .i64 c6))
    have HB := Lib.hid (show Below w.heap.size w Y7 by
      have h1 := after HH.out k5
      have h2 := HN.out
      rw [← hV]
      exact sx6_below h1 (by omega) _ _ _ _ _ _)
    replace U := hk.blk (by omega) U
    replace D := hk.blk (by omega) D
    replace P := hk.blk (by omega) P
    replace Q := hk.blk (by omega) Q
    replace R0 := hk.blk (by omega) R0
    replace R1 := hk.blk (by omega) R1
    clear hV hk k5 HH z0 z1 z2 z3 z4 z5 zf0 zf1 zf2 zf3 zf4 zf5 s0 s1 s2 sf0 sf1 sf2 x0 x1 x2 x3 x4 x5 u0' uu1 uu2 uu3 uu4 uu5 v0 v1 v2 Ou Ow
    have HH := HB
    have Ou := Ou2
    have Ow := Ow2
    clear HB Ou2 Ow2
    obtain ⟨u0', uu1, uu2, uu3, uu4, uu5⟩ := U.c6.1
    obtain ⟨v0, v1, v2, -, -, -⟩ := D.c3
    obtain ⟨x0, x1, x2, x3, x4, x5⟩ := Ou.c6.1
    clear v0 v1 v2 x0 x1 x2 x3 x4 x5 u0' uu1 uu2 uu3 uu4 uu5
    obtain ⟨x0, x1, x2, x3, x4, x5⟩ := Ou.re6
    obtain ⟨v0, v1, v2, v3, v4, v5⟩ := P.re6
    obtain ⟨u0', uu1, uu2, uu3, uu4, uu5⟩ := U.re6
    refine wp_region_quiet_below (by kernel_rfl) (by kernel_rfl) ?_
    repeat (go_big_quiet_step (first | (with_reducible exact Calls.regrown_of (HW1.out _)) | (with_reducible exact Calls.regrown_of (HW2.out _))))
    refine wpQuiet_nil ?_
    intro w' hw'
    obtain ⟨rg, rfl⟩ := hw'
    clear v0 v1 v2 v3 v4 v5 x0 x1 x2 x3 x4 x5 u0' uu1 uu2 uu3 uu4 uu5
    obtain ⟨Y8, hY8⟩ : ∃ Y8, Y8 = Go.Sort.grow (redrawn Y7 rg.d) rg.os := ⟨_, rfl⟩
    rw [← hY8]
    have hy : Below Y7.heap.size Y7 Y8 := by rw [hY8]; exact below_regrown _ _ _
    replace P := P.on hy
    replace Q := Q.on hy
    replace R0 := R0.on hy
    replace R1 := R1.on hy
    replace Ou := Ou.on hy
    replace Ow := Ow.on hy
    replace HH := Lib.hid (after HH.out hy)
    clear hY8 hy U D
    rcases (show n1 ≤ n2 ∨ n2 < n1 by omega) with hn | hn
    · obtain rfl : r = ((y1, y2, y3, y4, y5, y6), false, u1, true) := by rw [HR.out, stepOf_no (.inr (.inr (.inr hn)))]
      have x0 := fun f d os => (P.sp (D := [N + 1 + 1, N + 1 + 1 + 1]) (by simp; omega) f d os).c6.1
      have y0 := fun f d os => (Q.sp (D := [N + 1 + 1, N + 1 + 1 + 1]) (by simp; omega) f d os).c3
      go_upto_region 12 with (fail)
      have B1 := R0
      have B2 := R1
      refine wp_two [0, 0, 2, 2] 2 (N + 1 + 1) (48) (#[.int .i64 y1, .int .i64 y2, .int .i64 y3, .int .i64 y4, .int .i64 y5, .int .i64 y6]) 3 (N + 1 + 1 + 1) (89) (#[.bool false, .bool u1, .bool true]) (by omega) (by kernel_rfl) (by kernel_rfl) ?_
      repeat (first | (refine wpQs_s ?_) | (refine wpQs_q (fun K hK => ?_); go_simp; first | (refine hK _ ?_; clear hK K) | (apply Exists.intro; refine ⟨fun _ => ?_, hK _ ?_⟩; (fail); clear hK K)))
      refine wpQs_nil ?_
      repeat (refine wpLs_skip ?_)
      refine wpLs_one ?s1 (fun vs1_ => ?_)
      case s1 =>
        intro w_ hw_ hp_
        have L2 := hp_.blk (by simp [Ds2]) B1
        obtain ⟨⟨q0, q1, q2, q3, q4, q5⟩, f0, f1, f2, f3, f4, f5⟩ := L2.c6
        go_simp
        exact two_fst (by decide) kept6 (L2.st6 _ _ _ _ _ _)
      refine wpLs_one ?s2 (fun vs2_ => ?_)
      case s2 =>
        intro w_ hw_ hp_
        have T2 := hp_.blk (by simp [Ds2]) B2
        obtain ⟨q0, q1, q2, f0, f1, f2⟩ := T2.c3
        go_simp
        exact two_snd (by decide) kept3 (T2.st3 _ _ _)
      refine wpLs_nilD ?_
      simp only [tails]
      rintro w_ k_ ⟨⟨-, r1⟩, r2⟩
      obtain ⟨⟨m0, m1, m2, m3, m4, m5⟩, -, -, -, -, -, -⟩ := (r1.1 rfl).c6
      obtain ⟨j0, j1, j2, -, -, -⟩ := (r2.2 rfl).c3
      clear r1 r2 x0 y0 B1 B2
      simp only [wpList, Exit.then]
      rename_i hKret
      refine hKret _ _ (wp_ret ?_)
      try simp only [Exit.then]
      refine bodyPost_ret (v := .tuple #[.agg #[.int .i64 y1, .int .i64 y2, .int .i64 y3, .int .i64 y4, .int .i64 y5, .int .i64 y6], .agg #[.bool false, .bool u1, .bool true]]) (by simp [results, Try.f78, go_sem, m0, m1, m2, m3, m4, m5, j0, j1, j2]) rfl ⟨rfl, ?_⟩
      have hN_ := HN.out
      exact (HH.out).trans (k_.below (HH.out).size (fun b hb => by simp; omega))
    · obtain rfl : r = ((c1, c2, c3, c4, c5, c6), sa, true, sb) := by rw [HR.out, stepOf_yes (.inr rfl) hu hn]
      have hn2 : decide (n1 ≤ n2) = false := by simpa using hn
      have x0 := fun f d os => (Ou.sp (D := [N + 1 + 1, N + 1 + 1 + 1]) (by simp; omega) f d os).c6.1
      have y0 := fun f d os => (Ow.sp (D := [N + 1 + 1, N + 1 + 1 + 1]) (by simp; omega) f d os).c3
      go_upto_region 13 with (fail)
      have B1 := R0
      have B2 := R1
      refine wp_two [0, 0, 2, 2] 2 (N + 1 + 1) (48) (#[.int .i64 c1, .int .i64 c2, .int .i64 c3, .int .i64 c4, .int .i64 c5, .int .i64 c6]) 3 (N + 1 + 1 + 1) (89) (#[.bool sa, .bool true, .bool sb]) (by omega) (by kernel_rfl) (by kernel_rfl) ?_
      repeat (first | (refine wpQs_s ?_) | (refine wpQs_q (fun K hK => ?_); go_simp; first | (refine hK _ ?_; clear hK K) | (apply Exists.intro; refine ⟨fun _ => ?_, hK _ ?_⟩; (fail); clear hK K)))
      refine wpQs_nil ?_
      repeat (refine wpLs_skip ?_)
      refine wpLs_one ?s1 (fun vs1_ => ?_)
      case s1 =>
        intro w_ hw_ hp_
        have L2 := hp_.blk (by simp [Ds2]) B1
        obtain ⟨⟨q0, q1, q2, q3, q4, q5⟩, f0, f1, f2, f3, f4, f5⟩ := L2.c6
        go_simp
        exact two_fst (by decide) kept6 (L2.st6 _ _ _ _ _ _)
      refine wpLs_one ?s2 (fun vs2_ => ?_)
      case s2 =>
        intro w_ hw_ hp_
        have T2 := hp_.blk (by simp [Ds2]) B2
        obtain ⟨q0, q1, q2, f0, f1, f2⟩ := T2.c3
        go_simp
        exact two_snd (by decide) kept3 (T2.st3 _ _ _)
      refine wpLs_nilD ?_
      simp only [tails]
      rintro w_ k_ ⟨⟨-, r1⟩, r2⟩
      obtain ⟨⟨m0, m1, m2, m3, m4, m5⟩, -, -, -, -, -, -⟩ := (r1.1 rfl).c6
      obtain ⟨j0, j1, j2, -, -, -⟩ := (r2.2 rfl).c3
      clear r1 r2 x0 y0 B1 B2
      simp only [wpList, Exit.then]
      rename_i hKret
      refine hKret _ _ (wp_ret ?_)
      try simp only [Exit.then]
      refine bodyPost_ret (v := .tuple #[.agg #[.int .i64 c1, .int .i64 c2, .int .i64 c3, .int .i64 c4, .int .i64 c5, .int .i64 c6], .agg #[.bool sa, .bool true, .bool sb]]) (by simp [results, Try.f78, go_sem, m0, m1, m2, m3, m4, m5, j0, j1, j2]) rfl ⟨rfl, ?_⟩
      have hN_ := HN.out
      exact (HH.out).trans (k_.below (HH.out).size (fun b hb => by simp; omega))
  · obtain ⟨t0, t1, t2, -, -, -⟩ := Q.c3
    have hu1 : decide (up ≤ 0) = false := by simpa using hu
    obtain ⟨v0, v1, v2, -, -, -⟩ := D.c3
    have hmn := @run_mn Try.prog
    go_upto_region 5 with (first | (go_at_call 77; refine (HCS.out _ HH.out).mono ?_; rintro e_ w2 ⟨rfl, k2⟩; replace HH := Lib.hid (after HH.out k2); replace U := U.on k2; replace D := D.on k2; replace P := P.on k2; replace Q := Q.on k2; replace R0 := R0.on k2; replace R1 := R1.on k2; clear t0 t1 t2 u0' uu1 uu2 uu3 uu4 uu5 v0 v1 v2; obtain ⟨t0, t1, t2, -, -, -⟩ := Q.c3; obtain ⟨u0', uu1, uu2, uu3, uu4, uu5⟩ := U.c6.1; obtain ⟨v0, v1, v2, -, -, -⟩ := D.c3) | (go_at_call 93; refine (HC1.out _ HH.out).mono ?_; rintro e_ w3 ⟨rfl, k3⟩))
    generalize hV : World.alloc w3 _ = Y3
    have hy : Below w3.heap.size w3 Y3 := by rw [← hV]; go_grown
    have Hb : Blk Y3 w3.heap.size 48 #[.int .i64 h1, .int .i64 h2, .int .i64 h3, .int .i64 h4, .int .i64 h5, .int .i64 h6] := Blk.eqw hV (Blk.new' rfl)
    have hg3 : gp + 2 ≤ w3.heap.size := by have := k3.size; have := Q.lt; omega
    replace U := U.on k3
    replace D := D.on k3
    replace P := P.on k3
    replace Q := Q.on k3
    replace R0 := R0.on k3
    replace R1 := R1.on k3
    replace U := U.on hy
    replace D := D.on hy
    replace P := P.on hy
    replace Q := Q.on hy
    replace R0 := R0.on hy
    replace R1 := R1.on hy
    replace HH := Lib.hid (after (after HH.out k3) hy)
    clear hV hy k3 t0 t1 t2 u0' uu1 uu2 uu3 uu4 uu5 v0 v1 v2
    generalize w3.heap.size = g3 at Hb hg3 ⊢
    obtain ⟨x0, x1, x2, x3, x4, x5⟩ := Hb.c6.1
    obtain ⟨u0', uu1, uu2, uu3, uu4, uu5⟩ := U.c6.1
    obtain ⟨v0, v1, v2, -, -, -⟩ := D.c3
    have hg4 : g3 < Y3.heap.size := Hb.lt
    have hg5 : N < Y3.heap.size := U.lt
    have hg6 : N + 1 < Y3.heap.size := D.lt
    go_upto_region 8 with (fail)
    generalize hV : World.alloc (World.alloc Y3 _) _ = Y4
    have hy : Below Y3.heap.size Y3 Y4 := by rw [← hV]; go_grown
    have Ow : Blk Y4 Y3.heap.size 89 #[.bool false, .bool true, .bool false] := Blk.eqw hV ((Blk.new' rfl).alloc _)
    have Ou : Blk Y4 (Y3.heap.size + 1) 48 #[.int .i64 h1, .int .i64 h2, .int .i64 h3, .int .i64 h4, .int .i64 h5, .int .i64 h6] := Blk.eqw hV (Blk.new' (by simp))
    clear hg5 hg6
    replace U := U.on hy
    replace D := D.on hy
    replace P := P.on hy
    replace Q := Q.on hy
    replace R0 := R0.on hy
    replace R1 := R1.on hy
    replace HH := Lib.hid (after HH.out hy)
    clear hV hy x0 x1 x2 x3 x4 x5 u0' uu1 uu2 uu3 uu4 uu5 v0 v1 v2 Hb
    generalize Y3.heap.size = g4 at Ow Ou hg4 ⊢
    obtain ⟨u0', uu1, uu2, uu3, uu4, uu5⟩ := U.c6.1
    obtain ⟨v0, v1, v2, -, -, -⟩ := D.c3
    obtain ⟨x0, x1, x2, x3, x4, x5⟩ := Ou.c6.1
    go_upto_region 9 with (go_at_call 93; refine (HC2.out _ HH.out).mono ?_; rintro e_ w5 ⟨rfl, k5⟩; replace U := U.on k5; replace D := D.on k5; replace P := P.on k5; replace Q := Q.on k5; replace R0 := R0.on k5; replace R1 := R1.on k5; replace Ow := Ow.on k5; replace Ou := Ou.on k5; obtain ⟨⟨z0, z1, z2, z3, z4, z5⟩, zf0, zf1, zf2, zf3, zf4, zf5⟩ := Ou.c6; obtain ⟨s0, s1, s2, sf0, sf1, sf2⟩ := Ow.c3)
    generalize hV : World.setCell (World.setCell _ _ _) _ _ = Y5
    have hk : Kept (fun c => c ≠ g4 ∧ c ≠ g4 + 1) w5 Y5 := by rw [← hV]; exact (kept6.mono (fun b h => h.2)).setCell (p := ⟨g4, 0, none⟩) (fun h => h.1 rfl) _
    have Ou2 : Blk Y5 (g4 + 1) 48 #[.int .i64 a1, .int .i64 a2, .int .i64 a3, .int .i64 a4, .int .i64 a5, .int .i64 a6] := Blk.eqw hV ((Ou.st6 (.int .i64 a1) (.int .i64 a2) (.int .i64 a3) (.int .i64 a4) (.int .i64 a5) (.int .i64 a6)).far (p := ⟨g4, 0, none⟩) (by dsimp only; omega) _)
    have Ow2 : Blk Y5 g4 89 #[.bool sa, .bool true, .bool false] := Blk.eqw hV ((sx6_far Ow (show g4 ≠ g4 + 1 by omega) (.int .i64 a1) (.int .i64 a2) (.int .i64 a3) (.int .i64 a4) (.int .i64 a5) (.int .i64 a6)).set_ 0 (.bool sa))
    have HB := Lib.hid (show Below w.heap.size w Y5 by
      have h1 := after HH.out k5
      have h2 := HN.out
      rw [← hV]
      exact (sx6_below h1 (by omega) _ _ _ _ _ _).setCell (p := ⟨g4, 0, none⟩) (by dsimp only; omega) _)
    replace U := hk.blk (by omega) U
    replace D := hk.blk (by omega) D
    replace P := hk.blk (by omega) P
    replace Q := hk.blk (by omega) Q
    replace R0 := hk.blk (by omega) R0
    replace R1 := hk.blk (by omega) R1
    clear hV hk k5 HH z0 z1 z2 z3 z4 z5 zf0 zf1 zf2 zf3 zf4 zf5 s0 s1 s2 sf0 sf1 sf2 x0 x1 x2 x3 x4 x5 u0' uu1 uu2 uu3 uu4 uu5 v0 v1 v2 Ou Ow
    have HH := HB
    have Ou := Ou2
    have Ow := Ow2
    clear HB Ou2 Ow2
    obtain ⟨u0', uu1, uu2, uu3, uu4, uu5⟩ := U.c6.1
    obtain ⟨v0, v1, v2, -, -, -⟩ := D.c3
    obtain ⟨x0, x1, x2, x3, x4, x5⟩ := Ou.c6.1
    go_upto_region 10 with (go_at_call 93; refine (HC3.out _ HH.out).mono ?_; rintro e_ w6 ⟨rfl, k5⟩; replace U := U.on k5; replace D := D.on k5; replace P := P.on k5; replace Q := Q.on k5; replace R0 := R0.on k5; replace R1 := R1.on k5; replace Ow := Ow.on k5; replace Ou := Ou.on k5; obtain ⟨⟨z0, z1, z2, z3, z4, z5⟩, zf0, zf1, zf2, zf3, zf4, zf5⟩ := Ou.c6; obtain ⟨s0, s1, s2, sf0, sf1, sf2⟩ := Ow.c3)
    generalize hV : World.setCell (World.setCell _ _ _) _ _ = Y6
    have hk : Kept (fun c => c ≠ g4 ∧ c ≠ g4 + 1) w6 Y6 := by rw [← hV]; exact (kept6.mono (fun b h => h.2)).setCell (p := ⟨g4, 2, none⟩) (fun h => h.1 rfl) _
    have Ou2 : Blk Y6 (g4 + 1) 48 #[.int .i64 b1, .int .i64 b2, .int .i64 b3, .int .i64 b4, .int .i64 b5, .int .i64 b6] := Blk.eqw hV ((Ou.st6 (.int .i64 b1) (.int .i64 b2) (.int .i64 b3) (.int .i64 b4) (.int .i64 b5) (.int .i64 b6)).far (p := ⟨g4, 2, none⟩) (by dsimp only; omega) _)
    have Ow2 : Blk Y6 g4 89 #[.bool sa, .bool true, .bool sb] := Blk.eqw hV ((sx6_far Ow (show g4 ≠ g4 + 1 by omega) (.int .i64 b1) (.int .i64 b2) (.int .i64 b3) (.int .i64 b4) (.int .i64 b5) (.int .i64 b6)).set_ 2 (.bool sb))
    have HB := Lib.hid (show Below w.heap.size w Y6 by
      have h1 := after HH.out k5
      have h2 := HN.out
      rw [← hV]
      exact (sx6_below h1 (by omega) _ _ _ _ _ _).setCell (p := ⟨g4, 2, none⟩) (by dsimp only; omega) _)
    replace U := hk.blk (by omega) U
    replace D := hk.blk (by omega) D
    replace P := hk.blk (by omega) P
    replace Q := hk.blk (by omega) Q
    replace R0 := hk.blk (by omega) R0
    replace R1 := hk.blk (by omega) R1
    clear hV hk k5 HH z0 z1 z2 z3 z4 z5 zf0 zf1 zf2 zf3 zf4 zf5 s0 s1 s2 sf0 sf1 sf2 x0 x1 x2 x3 x4 x5 u0' uu1 uu2 uu3 uu4 uu5 v0 v1 v2 Ou Ow
    have HH := HB
    have Ou := Ou2
    have Ow := Ow2
    clear HB Ou2 Ow2
    obtain ⟨u0', uu1, uu2, uu3, uu4, uu5⟩ := U.c6.1
    obtain ⟨v0, v1, v2, -, -, -⟩ := D.c3
    obtain ⟨x0, x1, x2, x3, x4, x5⟩ := Ou.c6.1
    go_upto_region 11 with (go_at_call 93; refine (HC4.out _ HH.out).mono ?_; rintro e_ w7 ⟨rfl, k5⟩; replace U := U.on k5; replace D := D.on k5; replace P := P.on k5; replace Q := Q.on k5; replace R0 := R0.on k5; replace R1 := R1.on k5; replace Ow := Ow.on k5; replace Ou := Ou.on k5; obtain ⟨⟨z0, z1, z2, z3, z4, z5⟩, zf0, zf1, zf2, zf3, zf4, zf5⟩ := Ou.c6; obtain ⟨s0, s1, s2, sf0, sf1, sf2⟩ := Ow.c3)
    generalize hV : World.setCell (World.setCell _ _ _) _ _ = Y7
    have hk : Kept (fun c => c ≠ g4 ∧ c ≠ g4 + 1) w7 Y7 := by rw [← hV]; exact kept6.mono (fun b h => h.2)
    have Ou2 : Blk Y7 (g4 + 1) 48 #[.int .i64 c1, .int .i64 c2, .int .i64 c3, .int .i64 c4, .int .i64 c5, .int .i64 c6] := Blk.eqw hV (Ou.st6 (.int .i64 c1) (.int .i64 c2) (.int .i64 c3) (.int .i64 c4) (.int .i64 c5) (.int .i64 c6))
    have Ow2 : Blk Y7 g4 89 #[.bool sa, .bool true, .bool sb] := Blk.eqw hV (sx6_far Ow (show g4 ≠ g4 + 1 by omega) (.int .i64 c1) (.int .i64 c2) (.int .i64 c3) (.int .i64 c4) (.int .i64 c5) (.int .i64 c6))
    have HB := Lib.hid (show Below w.heap.size w Y7 by
      have h1 := after HH.out k5
      have h2 := HN.out
      rw [← hV]
      exact sx6_below h1 (by omega) _ _ _ _ _ _)
    replace U := hk.blk (by omega) U
    replace D := hk.blk (by omega) D
    replace P := hk.blk (by omega) P
    replace Q := hk.blk (by omega) Q
    replace R0 := hk.blk (by omega) R0
    replace R1 := hk.blk (by omega) R1
    clear hV hk k5 HH z0 z1 z2 z3 z4 z5 zf0 zf1 zf2 zf3 zf4 zf5 s0 s1 s2 sf0 sf1 sf2 x0 x1 x2 x3 x4 x5 u0' uu1 uu2 uu3 uu4 uu5 v0 v1 v2 Ou Ow
    have HH := HB
    have Ou := Ou2
    have Ow := Ow2
    clear HB Ou2 Ow2
    obtain ⟨u0', uu1, uu2, uu3, uu4, uu5⟩ := U.c6.1
    obtain ⟨v0, v1, v2, -, -, -⟩ := D.c3
    obtain ⟨x0, x1, x2, x3, x4, x5⟩ := Ou.c6.1
    clear v0 v1 v2 x0 x1 x2 x3 x4 x5 u0' uu1 uu2 uu3 uu4 uu5
    obtain ⟨x0, x1, x2, x3, x4, x5⟩ := Ou.re6
    obtain ⟨v0, v1, v2, v3, v4, v5⟩ := P.re6
    obtain ⟨u0', uu1, uu2, uu3, uu4, uu5⟩ := U.re6
    refine wp_region_quiet_below (by kernel_rfl) (by kernel_rfl) ?_
    repeat (go_big_quiet_step (first | (with_reducible exact Calls.regrown_of (HW1.out _)) | (with_reducible exact Calls.regrown_of (HW2.out _))))
    refine wpQuiet_nil ?_
    intro w' hw'
    obtain ⟨rg, rfl⟩ := hw'
    clear v0 v1 v2 v3 v4 v5 x0 x1 x2 x3 x4 x5 u0' uu1 uu2 uu3 uu4 uu5
    obtain ⟨Y8, hY8⟩ : ∃ Y8, Y8 = Go.Sort.grow (redrawn Y7 rg.d) rg.os := ⟨_, rfl⟩
    rw [← hY8]
    have hy : Below Y7.heap.size Y7 Y8 := by rw [hY8]; exact below_regrown _ _ _
    replace P := P.on hy
    replace Q := Q.on hy
    replace R0 := R0.on hy
    replace R1 := R1.on hy
    replace Ou := Ou.on hy
    replace Ow := Ow.on hy
    replace HH := Lib.hid (after HH.out hy)
    clear hY8 hy U D
    rcases (show n1 ≤ n2 ∨ n2 < n1 by omega) with hn | hn
    · obtain rfl : r = ((y1, y2, y3, y4, y5, y6), true, u1, u2) := by rw [HR.out, stepOf_no (.inr (.inr (.inr hn)))]
      have x0 := fun f d os => (P.sp (D := [N + 1 + 1, N + 1 + 1 + 1]) (by simp; omega) f d os).c6.1
      have y0 := fun f d os => (Q.sp (D := [N + 1 + 1, N + 1 + 1 + 1]) (by simp; omega) f d os).c3
      go_upto_region 12 with (fail)
      have B1 := R0
      have B2 := R1
      refine wp_two [0, 0, 2, 2] 2 (N + 1 + 1) (48) (#[.int .i64 y1, .int .i64 y2, .int .i64 y3, .int .i64 y4, .int .i64 y5, .int .i64 y6]) 3 (N + 1 + 1 + 1) (89) (#[.bool true, .bool u1, .bool u2]) (by omega) (by kernel_rfl) (by kernel_rfl) ?_
      repeat (first | (refine wpQs_s ?_) | (refine wpQs_q (fun K hK => ?_); go_simp; first | (refine hK _ ?_; clear hK K) | (apply Exists.intro; refine ⟨fun _ => ?_, hK _ ?_⟩; (fail); clear hK K)))
      refine wpQs_nil ?_
      repeat (refine wpLs_skip ?_)
      refine wpLs_one ?s1 (fun vs1_ => ?_)
      case s1 =>
        intro w_ hw_ hp_
        have L2 := hp_.blk (by simp [Ds2]) B1
        obtain ⟨⟨q0, q1, q2, q3, q4, q5⟩, f0, f1, f2, f3, f4, f5⟩ := L2.c6
        go_simp
        exact two_fst (by decide) kept6 (L2.st6 _ _ _ _ _ _)
      refine wpLs_one ?s2 (fun vs2_ => ?_)
      case s2 =>
        intro w_ hw_ hp_
        have T2 := hp_.blk (by simp [Ds2]) B2
        obtain ⟨q0, q1, q2, f0, f1, f2⟩ := T2.c3
        go_simp
        exact two_snd (by decide) kept3 (T2.st3 _ _ _)
      refine wpLs_nilD ?_
      simp only [tails]
      rintro w_ k_ ⟨⟨-, r1⟩, r2⟩
      obtain ⟨⟨m0, m1, m2, m3, m4, m5⟩, -, -, -, -, -, -⟩ := (r1.1 rfl).c6
      obtain ⟨j0, j1, j2, -, -, -⟩ := (r2.2 rfl).c3
      clear r1 r2 x0 y0 B1 B2
      simp only [wpList, Exit.then]
      rename_i hKret
      refine hKret _ _ (wp_ret ?_)
      try simp only [Exit.then]
      refine bodyPost_ret (v := .tuple #[.agg #[.int .i64 y1, .int .i64 y2, .int .i64 y3, .int .i64 y4, .int .i64 y5, .int .i64 y6], .agg #[.bool true, .bool u1, .bool u2]]) (by simp [results, Try.f78, go_sem, m0, m1, m2, m3, m4, m5, j0, j1, j2]) rfl ⟨rfl, ?_⟩
      have hN_ := HN.out
      exact (HH.out).trans (k_.below (HH.out).size (fun b hb => by simp; omega))
    · obtain rfl : r = ((c1, c2, c3, c4, c5, c6), sa, true, sb) := by rw [HR.out, stepOf_yes (.inl rfl) hu hn]
      have hn2 : decide (n1 ≤ n2) = false := by simpa using hn
      have x0 := fun f d os => (Ou.sp (D := [N + 1 + 1, N + 1 + 1 + 1]) (by simp; omega) f d os).c6.1
      have y0 := fun f d os => (Ow.sp (D := [N + 1 + 1, N + 1 + 1 + 1]) (by simp; omega) f d os).c3
      go_upto_region 13 with (fail)
      have B1 := R0
      have B2 := R1
      refine wp_two [0, 0, 2, 2] 2 (N + 1 + 1) (48) (#[.int .i64 c1, .int .i64 c2, .int .i64 c3, .int .i64 c4, .int .i64 c5, .int .i64 c6]) 3 (N + 1 + 1 + 1) (89) (#[.bool sa, .bool true, .bool sb]) (by omega) (by kernel_rfl) (by kernel_rfl) ?_
      repeat (first | (refine wpQs_s ?_) | (refine wpQs_q (fun K hK => ?_); go_simp; first | (refine hK _ ?_; clear hK K) | (apply Exists.intro; refine ⟨fun _ => ?_, hK _ ?_⟩; (fail); clear hK K)))
      refine wpQs_nil ?_
      repeat (refine wpLs_skip ?_)
      refine wpLs_one ?s1 (fun vs1_ => ?_)
      case s1 =>
        intro w_ hw_ hp_
        have L2 := hp_.blk (by simp [Ds2]) B1
        obtain ⟨⟨q0, q1, q2, q3, q4, q5⟩, f0, f1, f2, f3, f4, f5⟩ := L2.c6
        go_simp
        exact two_fst (by decide) kept6 (L2.st6 _ _ _ _ _ _)
      refine wpLs_one ?s2 (fun vs2_ => ?_)
      case s2 =>
        intro w_ hw_ hp_
        have T2 := hp_.blk (by simp [Ds2]) B2
        obtain ⟨q0, q1, q2, f0, f1, f2⟩ := T2.c3
        go_simp
        exact two_snd (by decide) kept3 (T2.st3 _ _ _)
      refine wpLs_nilD ?_
      simp only [tails]
      rintro w_ k_ ⟨⟨-, r1⟩, r2⟩
      obtain ⟨⟨m0, m1, m2, m3, m4, m5⟩, -, -, -, -, -, -⟩ := (r1.1 rfl).c6
      obtain ⟨j0, j1, j2, -, -, -⟩ := (r2.2 rfl).c3
      clear r1 r2 x0 y0 B1 B2
      simp only [wpList, Exit.then]
      rename_i hKret
      refine hKret _ _ (wp_ret ?_)
      try simp only [Exit.then]
      refine bodyPost_ret (v := .tuple #[.agg #[.int .i64 c1, .int .i64 c2, .int .i64 c3, .int .i64 c4, .int .i64 c5, .int .i64 c6], .agg #[.bool sa, .bool true, .bool sb]]) (by simp [results, Try.f78, go_sem, m0, m1, m2, m3, m4, m5, j0, j1, j2]) rfl ⟨rfl, ?_⟩
      have hN_ := HN.out
      exact (HH.out).trans (k_.below (HH.out).size (fun b hb => by simp; omega))
end Go.Proofs.Ytnokibdecnddlaa

/- Bodies, the program's: where one comes to. -/
namespace Go.Proofs.Ytnokibdecnddlaa
open Go.RowKit Go.Shelf
attribute [local go_sem] Oper.semAt_some

set_option maxRecDepth 100000 in
set_option maxHeartbeats 8000000 in
theorem bgoes_c (V : FuncId) (lv : Array Value) (val : Cl → Int) (b : BD) (ix iz : Int) (j : Bool) (M : Int) (hM : M ≤ 71000000000000) (hM0 : 0 ≤ M) (hB : BOk M b) (w : World)
    (eV : ∀ args w, (callFunc V args).run Try.prog w = .ok (.enter V args) w) (hV : Tells Try.prog V lv val w) :
    Calls Try.prog 42 #[.agg (bd9 b), .func (.func V) #[] lv, .agg #[.int .i64 ix, .int .i64 iz, .bool j]] w fun r w' => r = .returned (.agg (bd9 (goB val b))) ∧ Below w.heap.size w w' := by
  obtain ⟨hS, -⟩ := hB.box hM
  have CB := fun W => bbox_c b (by have := hB.wd; omega) W
  have CU := fun W => bcut_c b b.2.2.2.1 b.2.2.2.2.1 b.2.2.2.2.2.1 W
  have C1 := fun W (h : Below w.heap.size w W) => pstep_c V lv val (boxB b) (fwI b.1 b.2.2.2.1) (fwI b.2.1 b.2.2.2.2.1) (fwI b.2.2.1 b.2.2.2.2.2.1) 32768 (M + 65536) (by omega) (by omega) hS W eV (hV.on h)
  have fG : goV val b = stepV val (boxB b) (fwI b.1 b.2.2.2.1) (fwI b.2.1 b.2.2.2.2.1) (fwI b.2.2.1 b.2.2.2.2.2.1) 32768 := by unfold goV; rfl
  have hG : Sm6 (M + 65536 + 40000000) (goV val b).1 := by rw [fG]; exact stepV_sm hS (by omega) (by omega)
  rw [← fG] at C1
  have hun := hG.under (by omega) (by omega)
  have hbd := hG.bd
  have CS := fun W (h : Below w.heap.size w W) => pmStands_c V lv val (goV val b).1.1 (goV val b).1.2.1 (goV val b).1.2.2.1 (goV val b).1.2.2.2.1 (goV val b).1.2.2.2.2.1 (goV val b).1.2.2.2.2.2 (by omega) (by omega) hun.1 W eV (hV.on h)
  have fS : unB val (goV val b).1 = (cellsI (goV val b).1.1 (cutI ((goV val b).1.2.1 - 1)) (goV val b).1.2.2.1 (goV val b).1.2.2.2.1 (goV val b).1.2.1 (goV val b).1.2.2.2.2.2).any fun c => solB (val c) := by unfold unB; rfl
  rw [← fS] at CS
  have HN9 := Lib.hid eV
  clear fG hG hun hbd fS hS hM hM0 hB eV hV HN9
  unfold goB putB
  generalize unB val (goV val b).1 = ps at CS ⊢
  generalize goV val b = r at C1 CS ⊢
  generalize boxB b = bx at CB C1 ⊢
  obtain ⟨x, y, z, sx, sy, sz, wd, ht, st⟩ := b
  obtain ⟨o1, o2, o3, o4, o5, o6⟩ := bx
  obtain ⟨⟨y1, y2, y3, y4, y5, y6⟩, t1, t2, t3⟩ := r
  simp only [bd9, ag6, ah3, bhT] at *
  generalize fwI x sx = f1 at CU C1
  generalize fwI y sy = f2 at CU C1
  generalize fwI z sz = f3 at CU C1
  have HSB := Lib.hid (fun W => sub_c y1 y2 y3 o1 o2 o3 W)
  have HAD := Lib.hid (fun W => add_c x y z (subI y1 o1) (subI y2 o2) (subI y3 o3) W)
  have HSP := Lib.hid (fun W => stop_c t1 t2 t3 sx sy sz W)
  generalize subI y1 o1 = u1 at HSB HAD ⊢
  generalize subI y2 o2 = u2 at HSB HAD ⊢
  generalize subI y3 o3 = u3 at HSB HAD ⊢
  generalize addI x u1 = v1 at HAD ⊢
  generalize addI y u2 = v2 at HAD ⊢
  generalize addI z u3 = v3 at HAD ⊢
  generalize zb t1 sx = s1 at HSP ⊢
  generalize zb t2 sy = s2 at HSP ⊢
  generalize zb t3 sz = s3 at HSP ⊢
  have HCB := Lib.hid CB
  have HCU := Lib.hid CU
  have HC1 := Lib.hid C1
  have HCS := Lib.hid CS
  clear CB CU C1 CS
  obtain ⟨N, hN⟩ : ∃ N, N = w.heap.size := ⟨_, rfl⟩
  obtain ⟨W, hW⟩ : ∃ W, W = ((w.alloc (.cells #[.int .i64 x, .int .i64 y, .int .i64 z, .int .i64 sx, .int .i64 sy, .int .i64 sz, .int .i64 wd, .int .i64 ht, .bool st] 35)).alloc (.cells #[.int .i64 ix, .int .i64 iz, .bool j] 38)).alloc (.cells #[.int .i64 0, .int .i64 0, .int .i64 0, .int .i64 0, .int .i64 0, .int .i64 0, .int .i64 0, .int .i64 0, .bool false] 35) := ⟨_, rfl⟩
  have H : Below w.heap.size w W := by rw [hW]; go_grown
  have B : Blk W N 35 _ := Blk.eqw hW.symm (by rw [hN]; exact ((Blk.new' rfl).alloc _).alloc _)
  have R : Blk W (N + 1 + 1) 35 _ := Blk.eqw hW.symm (by rw [hN]; exact Blk.new' (by simp))
  go_enter Try.func42, Try.ntmps42
  go_upto_region 1 with (fail)
  rw [← hW, ← hN]
  have HN := Lib.hid hN
  clear hW hN
  obtain ⟨⟨b0, b1, b2, b3, b4, b5, b6, b7, b8⟩, -⟩ := B.c9
  go_upto_region 2 with (go_at_call 23; refine (HCB.out _).mono ?_; rintro e_ w1 ⟨rfl, k1⟩)
  generalize hV : World.alloc w1 _ = W1
  have X : Blk W1 w1.heap.size 48 #[.int .i64 o1, .int .i64 o2, .int .i64 o3, .int .i64 o4, .int .i64 o5, .int .i64 o6] := Blk.eqw hV (Blk.new' rfl)
  have hk : Below W.heap.size W W1 := by rw [← hV]; exact after k1 ((Below.refl _ _).alloc (Nat.le_refl _) _)
  have hgN := Nat.lt_of_lt_of_le R.lt k1.size
  replace B := B.on hk
  replace R := R.on hk
  replace H := Lib.hid (after H hk)
  clear hV k1 hk b0 b1 b2 b3 b4 b5 b6 b7 b8 HCB
  generalize w1.heap.size = g at X hgN ⊢
  have b0 := fun d os => (B.re d os).cell 0
  have b1 := fun d os => (B.re d os).cell 1
  have b2 := fun d os => (B.re d os).cell 2
  have b3 := fun d os => (B.re d os).cell 3
  have b4 := fun d os => (B.re d os).cell 4
  have b5 := fun d os => (B.re d os).cell 5
  have b6 := fun d os => (B.re d os).cell 6
  have b7 := fun d os => (B.re d os).cell 7
  have b8 := fun d os => (B.re d os).cell 8
  simp only [List.getElem?_toArray, List.getElem?_cons_zero, List.getElem?_cons_succ] at b0 b1 b2 b3 b4 b5 b6 b7 b8
  obtain ⟨x0, x1, x2, x3, x4, x5⟩ := X.re6
  have HBK := Lib.hid (And.intro B (And.intro R X))
  have HGN := Lib.hid hgN
  clear B R X hgN
  have HU_ := Lib.hid (show Bears W1.heap.size [⟨10, 12, 48, #[.int .i64 0, .int .i64 0, .int .i64 0, .int .i64 0, .int .i64 0, .int .i64 0], #[.int .i64 y1, .int .i64 y2, .int .i64 y3, .int .i64 y4, .int .i64 y5, .int .i64 y6]⟩, ⟨11, 13, 89, #[.bool false, .bool false, .bool false], #[.bool t1, .bool t2, .bool t3]⟩] (relsU [(6, fun v _ => v = .tuple #[.agg #[.int .i64 y1, .int .i64 y2, .int .i64 y3, .int .i64 y4, .int .i64 y5, .int .i64 y6], .agg #[.bool t1, .bool t2, .bool t3]]), (7, fun v _ => v = .tuple #[.agg #[.int .i64 y1, .int .i64 y2, .int .i64 y3, .int .i64 y4, .int .i64 y5, .int .i64 y6], .agg #[.bool t1, .bool t2, .bool t3]]), (8, fun v _ => v = .agg #[.int .i64 y1, .int .i64 y2, .int .i64 y3, .int .i64 y4, .int .i64 y5, .int .i64 y6]), (9, fun v _ => v = .agg #[.bool t1, .bool t2, .bool t3])]) from (bears_val (bears_val (bears_val (bears_val bears_nil)))))
  have HO_ := Lib.hid (show OkB [⟨10, 12, 48, #[.int .i64 0, .int .i64 0, .int .i64 0, .int .i64 0, .int .i64 0, .int .i64 0], #[.int .i64 y1, .int .i64 y2, .int .i64 y3, .int .i64 y4, .int .i64 y5, .int .i64 y6]⟩, ⟨11, 13, 89, #[.bool false, .bool false, .bool false], #[.bool t1, .bool t2, .bool t3]⟩] from ⟨by simp, by simp⟩)
  refine wp_many [0, 0, 0, 0, 0, 0, 2, 2, 2, 2, 2, 2, 2, 2] _ _ (by kernel_rfl) (by kernel_rfl) HU_.out ?_
  repeat (first | (refine wpQs_s ?_) | (refine wpQs_q (fun K hK => ?_); go_simp; first | (refine hK _ ?_; clear hK K) | (apply Exists.intro; refine ⟨fun _ => ?_, hK _ ?_⟩; (exact HCU.out _); clear hK K)) | (refine wpQs_f (fun K hK => ?_); go_simp; refine hK _ ?_; clear hK K))
  refine wpQs_nil ?_
  refine wpLsI_skip ?_
  refine wpLsI_skip ?_
  refine wpLsI_skip ?_
  refine wpLsI_skip ?_
  refine wpLsI_skip ?_
  refine wpLsI_skip ?_
  refine wpLsI_one rfl ?s6_ (fun v6_ => ?_)
  case s6_ =>
    intro S_ V_ w_ hw_ hV_ ha_ hn_ hI_
    have HW_ := Lib.hid hw_
    have HI_ := Lib.hid hI_
    have Hn_ := Lib.hid hn_
    clear hV_ ha_ hw_ hI_ hn_
    go_simp
    refine (HC1.out _ (after H.out HW_.out.none)).mono ?_
    rintro e_ w9 ⟨rfl, h9⟩
    exact ⟨_, rfl, HW_.out.on h9, HI_.out.l (by simp) HU_.out h9 rfl⟩
  refine wpLsI_one rfl ?s7_ (fun v7_ => ?_)
  case s7_ =>
    intro S_ V_ w_ hw_ hV_ ha_ hn_ hI_
    have F_ := Lib.hid (show v6_ = .tuple #[.agg #[.int .i64 y1, .int .i64 y2, .int .i64 y3, .int .i64 y4, .int .i64 y5, .int .i64 y6], .agg #[.bool t1, .bool t2, .bool t3]] from (hI_.of (ha_ 6 (by decide) rfl (by kernel_rfl)) (hV_ 6 (by decide) rfl)))
    have HW_ := Lib.hid hw_
    have HI_ := Lib.hid hI_
    have Hn_ := Lib.hid hn_
    clear hV_ ha_ hw_ hI_ hn_
    go_simp
    have h8_ := F_.out
    subst h8_
    clear F_
    go_simp
    exact ⟨HW_.out, HI_.out.l (by simp) HU_.out (Below.refl _ _) rfl⟩
  refine wpLsI_one rfl ?s8_ (fun v8_ => ?_)
  case s8_ =>
    intro S_ V_ w_ hw_ hV_ ha_ hn_ hI_
    have F_ := Lib.hid (show v7_ = .tuple #[.agg #[.int .i64 y1, .int .i64 y2, .int .i64 y3, .int .i64 y4, .int .i64 y5, .int .i64 y6], .agg #[.bool t1, .bool t2, .bool t3]] from (hI_.of (ha_ 7 (by decide) rfl (by kernel_rfl)) (hV_ 7 (by decide) rfl)))
    have HW_ := Lib.hid hw_
    have HI_ := Lib.hid hI_
    have Hn_ := Lib.hid hn_
    clear hV_ ha_ hw_ hI_ hn_
    go_simp
    have h8_ := F_.out
    subst h8_
    clear F_
    go_simp
    exact ⟨HW_.out, HI_.out.l (by simp) HU_.out (Below.refl _ _) rfl⟩
  refine wpLsI_one rfl ?s9_ (fun v9_ => ?_)
  case s9_ =>
    intro S_ V_ w_ hw_ hV_ ha_ hn_ hI_
    have F_ := Lib.hid (show v7_ = .tuple #[.agg #[.int .i64 y1, .int .i64 y2, .int .i64 y3, .int .i64 y4, .int .i64 y5, .int .i64 y6], .agg #[.bool t1, .bool t2, .bool t3]] from (hI_.of (ha_ 7 (by decide) rfl (by kernel_rfl)) (hV_ 7 (by decide) rfl)))
    have HW_ := Lib.hid hw_
    have HI_ := Lib.hid hI_
    have Hn_ := Lib.hid hn_
    clear hV_ ha_ hw_ hI_ hn_
    go_simp
    have h8_ := F_.out
    subst h8_
    clear F_
    go_simp
    exact ⟨HW_.out, HI_.out.l (by simp) HU_.out (Below.refl _ _) rfl⟩
  refine wpLsI_one rfl ?s10_ (fun v10_ => ?_)
  case s10_ =>
    intro S_ V_ w_ hw_ hV_ ha_ hn_ hI_
    have HW_ := Lib.hid hw_
    have HI_ := Lib.hid hI_
    have Hn_ := Lib.hid hn_
    clear hV_ ha_ hw_ hI_ hn_
    go_simp
    exact ⟨HW_.out.on ((Below.refl _ _).alloc (Nat.le_refl _) _), HI_.out.new (List.mem_cons_self) HO_.out HU_.out (fun _ _ => trivial) HW_.out.none.size Hn_.out⟩
  refine wpLsI_one rfl ?s11_ (fun v11_ => ?_)
  case s11_ =>
    intro S_ V_ w_ hw_ hV_ ha_ hn_ hI_
    have HW_ := Lib.hid hw_
    have HI_ := Lib.hid hI_
    have Hn_ := Lib.hid hn_
    clear hV_ ha_ hw_ hI_ hn_
    go_simp
    exact ⟨HW_.out.on ((Below.refl _ _).alloc (Nat.le_refl _) _), HI_.out.new (List.mem_cons_of_mem _ (List.mem_cons_self)) HO_.out HU_.out (fun _ _ => trivial) HW_.out.none.size Hn_.out⟩
  refine wpLsI_one rfl ?s12_ (fun v12_ => ?_)
  case s12_ =>
    intro S_ V_ w_ hw_ hV_ ha_ hn_ hI_
    have F_ := Lib.hid (show v8_ = .agg #[.int .i64 y1, .int .i64 y2, .int .i64 y3, .int .i64 y4, .int .i64 y5, .int .i64 y6] from (hI_.of (ha_ 8 (by decide) rfl (by kernel_rfl)) (hV_ 8 (by decide) rfl)))
    have HS_ := Lib.hid (show S_ 10 from ha_ 10 (by decide) rfl (by kernel_rfl))
    have HVV_ := Lib.hid (show V_ 10 = v10_ from hV_ 10 (by decide) rfl)
    have hx_ := Lib.hid (show ∃ b, V_ 10 = .pointer (some ⟨b, 0, none⟩) ∧ W1.heap.size ≤ b ∧ Blk w_ b 48 #[.int .i64 0, .int .i64 0, .int .i64 0, .int .i64 0, .int .i64 0, .int .i64 0] from hI_.slot (List.mem_cons_self) HS_.out hn_)
    have HW_ := Lib.hid hw_
    have HI_ := Lib.hid hI_
    have Hn_ := Lib.hid hn_
    clear hV_ ha_ hw_ hI_ hn_
    go_simp
    refine hx_.out.elim fun b_ hy_ => ?_
    have E_ := hy_.1
    have HN_ := Lib.hid hy_.2.1
    have hb_ := hy_.2.2
    have h8_ := F_.out
    rw [HVV_.out] at E_
    subst h8_ E_
    clear hx_ hy_ F_
    obtain ⟨⟨k0_, k1_, k2_, k3_, k4_, k5_⟩, f0_, f1_, f2_, f3_, f4_, f5_⟩ := hb_.c6
    have Hb_ := Lib.hid hb_
    clear hb_
    go_simp
    exact ⟨HW_.out.new_set HN_.out kept6, HI_.out.set (List.mem_cons_self) HO_.out HU_.out (fun _ _ => trivial) Hn_.out HS_.out HVV_.out kept6 (Hb_.out.st6 _ _ _ _ _ _)⟩
  refine wpLsI_one rfl ?s13_ (fun v13_ => ?_)
  case s13_ =>
    intro S_ V_ w_ hw_ hV_ ha_ hn_ hI_
    have F_ := Lib.hid (show v9_ = .agg #[.bool t1, .bool t2, .bool t3] from (hI_.of (ha_ 9 (by decide) rfl (by kernel_rfl)) (hV_ 9 (by decide) rfl)))
    have HS_ := Lib.hid (show S_ 11 from ha_ 11 (by decide) rfl (by kernel_rfl))
    have HVV_ := Lib.hid (show V_ 11 = v11_ from hV_ 11 (by decide) rfl)
    have hx_ := Lib.hid (show ∃ b, V_ 11 = .pointer (some ⟨b, 0, none⟩) ∧ W1.heap.size ≤ b ∧ Blk w_ b 89 #[.bool false, .bool false, .bool false] from hI_.slot (List.mem_cons_of_mem _ (List.mem_cons_self)) HS_.out hn_)
    have HW_ := Lib.hid hw_
    have HI_ := Lib.hid hI_
    have Hn_ := Lib.hid hn_
    clear hV_ ha_ hw_ hI_ hn_
    go_simp
    refine hx_.out.elim fun b_ hy_ => ?_
    have E_ := hy_.1
    have HN_ := Lib.hid hy_.2.1
    have hb_ := hy_.2.2
    have h8_ := F_.out
    rw [HVV_.out] at E_
    subst h8_ E_
    clear hx_ hy_ F_
    obtain ⟨k0_, k1_, k2_, f0_, f1_, f2_⟩ := hb_.c3
    have Hb_ := Lib.hid hb_
    clear hb_
    go_simp
    exact ⟨HW_.out.new_set HN_.out kept3, HI_.out.set (List.mem_cons_of_mem _ (List.mem_cons_self)) HO_.out HU_.out (fun _ _ => trivial) Hn_.out HS_.out HVV_.out kept3 (Hb_.out.st3 _ _ _)⟩
  refine wpLsI_nil fun V_ W2 hw_ hV_ hI_ => ?_
  obtain ⟨g0_W2, E10_, N0_W2, X0_W2⟩ : ∃ b, v10_ = .pointer (some ⟨b, 0, none⟩) ∧ W1.heap.size ≤ b ∧ Blk W2 b 48 #[.int .i64 y1, .int .i64 y2, .int .i64 y3, .int .i64 y4, .int .i64 y5, .int .i64 y6] := by rw [← show V_ 10 = v10_ from hV_ 10 (by decide) rfl]; exact hI_.done (List.mem_cons_self) ⟨show 10 < 14 by decide, rfl⟩ ⟨show 12 < 14 by decide, rfl⟩
  obtain ⟨g1_W2, E11_, N1_W2, X1_W2⟩ : ∃ b, v11_ = .pointer (some ⟨b, 0, none⟩) ∧ W1.heap.size ≤ b ∧ Blk W2 b 89 #[.bool t1, .bool t2, .bool t3] := by rw [← show V_ 11 = v11_ from hV_ 11 (by decide) rfl]; exact hI_.done (List.mem_cons_of_mem _ (List.mem_cons_self)) ⟨show 11 < 14 by decide, rfl⟩ ⟨show 13 < 14 by decide, rfl⟩
  subst E10_ E11_
  have h_W2 := hw_.none
  clear hV_ hI_ hw_ HU_ HO_
  simp only [tails]
  clear b0 b1 b2 b3 b4 b5 b6 b7 b8 x0 x1 x2 x3 x4 x5 HCU HC1
  obtain ⟨B, R, X⟩ := HBK.out
  have n1 : g0_W2 ≠ N := by have h7 := HGN.out; have h8 := X.lt; omega
  have n2 : g1_W2 ≠ N := by have h7 := HGN.out; have h8 := X.lt; omega
  have n3 : g ≠ N := by have h7 := HGN.out; omega
  have n4 : N + 1 + 1 ≠ N := by omega
  have HX := Lib.hid (And.intro (B.on h_W2) (And.intro (R.on h_W2) (And.intro (X.on h_W2) (And.intro X0_W2 X1_W2))))
  replace H := Lib.hid (after H.out h_W2)
  clear HBK HGN B R X X0_W2 X1_W2 N0_W2 N1_W2 h_W2
  go_simp
  go_upto_region 3 with (fail)
  obtain ⟨B, R, X, Y, T⟩ := HX.out
  have b0 := fun d os => (B.re d os).cell 0
  have b1 := fun d os => (B.re d os).cell 1
  have b2 := fun d os => (B.re d os).cell 2
  have x0 := fun d os => (X.re d os).cell 0
  have x1 := fun d os => (X.re d os).cell 1
  have x2 := fun d os => (X.re d os).cell 2
  have y0 := fun d os => (Y.re d os).cell 0
  have y1 := fun d os => (Y.re d os).cell 1
  have y2 := fun d os => (Y.re d os).cell 2
  simp only [List.getElem?_toArray, List.getElem?_cons_zero, List.getElem?_cons_succ] at b0 b1 b2 x0 x1 x2 y0 y1 y2
  refine wp_region_last_below 9 (by kernel_rfl) rfl (by kernel_rfl) ?_
  simp only [List.take_succ_cons, List.take_zero, List.drop_succ_cons, List.drop_zero]
  repeat (go_big_quiet_step (first | (with_reducible exact Calls.regrown_of (HSB.out _)) | (with_reducible exact Calls.regrown_of (HAD.out _))))
  refine wpQuiet_nil ?_
  intro w' hw'
  obtain ⟨rg, rfl⟩ := hw'
  clear b0 b1 b2 x0 x1 x2 y0 y1 y2 X HSB HAD HX
  obtain ⟨W3, hW3⟩ : ∃ W3, W3 = Go.Sort.grow (redrawn W2 rg.d) rg.os := ⟨_, rfl⟩
  have hb3 : Below W2.heap.size W2 W3 := by rw [hW3]; exact below_regrown _ _ _
  rw [← hW3]
  replace B := B.on hb3
  replace R := R.on hb3
  replace Y := Y.on hb3
  replace T := T.on hb3
  replace H := after H.out hb3
  clear hW3 hb3
  obtain ⟨⟨b0, b1, b2, b3, b4, b5, b6, b7, b8⟩, f0, f1, f2, f3, f4, f5, f6, f7, f8⟩ := B.c9
  go_upto_region 4 with (fail)
  generalize hV_ : (World.setCell (World.setCell (World.setCell W3 _ _) _ _) _ _) = W4
  replace B : Blk W4 (N) 35 #[.int .i64 v1, .int .i64 v2, .int .i64 v3, .int .i64 sx, .int .i64 sy, .int .i64 sz, .int .i64 wd, .int .i64 ht, .bool st] := Blk.eqw hV_ (((B.set_ 0 _).set_ 1 _).set_ 2 _)
  replace R := Blk.eqw hV_ (((R.far (p := ⟨N, 0, none⟩) (by dsimp only; omega) _).far (p := ⟨N, 1, none⟩) (by dsimp only; omega) _).far (p := ⟨N, 2, none⟩) (by dsimp only; omega) _)
  replace Y := Blk.eqw hV_ (((Y.far (p := ⟨N, 0, none⟩) (by dsimp only; omega) _).far (p := ⟨N, 1, none⟩) (by dsimp only; omega) _).far (p := ⟨N, 2, none⟩) (by dsimp only; omega) _)
  replace T := Blk.eqw hV_ (((T.far (p := ⟨N, 0, none⟩) (by dsimp only; omega) _).far (p := ⟨N, 1, none⟩) (by dsimp only; omega) _).far (p := ⟨N, 2, none⟩) (by dsimp only; omega) _)
  replace H : Below w.heap.size w W4 := by rw [← hV_]; exact (((H.setCell (p := ⟨N, 0, none⟩) (by have := HN.out; dsimp only; omega) _).setCell (p := ⟨N, 1, none⟩) (by have := HN.out; dsimp only; omega) _).setCell (p := ⟨N, 2, none⟩) (by have := HN.out; dsimp only; omega) _)
  clear hV_
  clear b0 b1 b2 b3 b4 b5 b6 b7 b8 f0 f1 f2 f3 f4 f5 f6 f7 f8
  obtain ⟨⟨b0, b1, b2, b3, b4, b5, b6, b7, b8⟩, -⟩ := B.c9
  obtain ⟨q0, q1, q2, -, -, -⟩ := T.c3
  go_upto_region 5 with (go_at_call 79; refine (HSP.out _).mono ?_; rintro e_ w5 ⟨rfl, h5⟩; clear b0 b1 b2 b3 b4 b5 b6 b7 b8 q0 q1 q2; replace B := B.on h5; replace R := R.on h5; replace Y := Y.on h5; replace T := T.on h5; replace H := after H h5; clear h5; obtain ⟨⟨b0, b1, b2, b3, b4, b5, b6, b7, b8⟩, f0, f1, f2, f3, f4, f5, f6, f7, f8⟩ := B.c9)
  generalize hV_ : (World.setCell (World.setCell (World.setCell w5 _ _) _ _) _ _) = W5
  replace B : Blk W5 (N) 35 #[.int .i64 v1, .int .i64 v2, .int .i64 v3, .int .i64 s1, .int .i64 s2, .int .i64 s3, .int .i64 wd, .int .i64 ht, .bool st] := Blk.eqw hV_ (((B.set_ 3 _).set_ 4 _).set_ 5 _)
  replace R := Blk.eqw hV_ (((R.far (p := ⟨N, 3, none⟩) (by dsimp only; omega) _).far (p := ⟨N, 4, none⟩) (by dsimp only; omega) _).far (p := ⟨N, 5, none⟩) (by dsimp only; omega) _)
  replace Y := Blk.eqw hV_ (((Y.far (p := ⟨N, 3, none⟩) (by dsimp only; omega) _).far (p := ⟨N, 4, none⟩) (by dsimp only; omega) _).far (p := ⟨N, 5, none⟩) (by dsimp only; omega) _)
  replace H : Below w.heap.size w W5 := by rw [← hV_]; exact (((H.setCell (p := ⟨N, 3, none⟩) (by have := HN.out; dsimp only; omega) _).setCell (p := ⟨N, 4, none⟩) (by have := HN.out; dsimp only; omega) _).setCell (p := ⟨N, 5, none⟩) (by have := HN.out; dsimp only; omega) _)
  clear hV_
  clear b0 b1 b2 b3 b4 b5 b6 b7 b8 f0 f1 f2 f3 f4 f5 f6 f7 f8 T HSP
  obtain ⟨⟨y0, y1, y2, y3, y4, y5⟩, -⟩ := Y.c6
  go_upto_region 6 with (go_at_call 77; refine (HCS.out _ H).mono ?_; rintro e_ w6 ⟨rfl, h6⟩; clear y0 y1 y2 y3 y4 y5; replace B := B.on h6; replace R := R.on h6; replace H := after H h6; clear h6; obtain ⟨⟨b0, b1, b2, b3, b4, b5, b6, b7, b8⟩, f0, f1, f2, f3, f4, f5, f6, f7, f8⟩ := B.c9)
  generalize hV_ : (World.setCell w6 _ _) = W6
  replace B : Blk W6 (N) 35 #[.int .i64 v1, .int .i64 v2, .int .i64 v3, .int .i64 s1, .int .i64 s2, .int .i64 s3, .int .i64 wd, .int .i64 ht, .bool ps] := Blk.eqw hV_ (B.set_ 8 _)
  replace R := Blk.eqw hV_ (R.far (p := ⟨N, 8, none⟩) (by dsimp only; omega) _)
  replace H : Below w.heap.size w W6 := by rw [← hV_]; exact (H.setCell (p := ⟨N, 8, none⟩) (by have := HN.out; dsimp only; omega) _)
  clear hV_
  clear b0 b1 b2 b3 b4 b5 b6 b7 b8 f0 f1 f2 f3 f4 f5 f6 f7 f8 Y HCS
  obtain ⟨⟨b0, b1, b2, b3, b4, b5, b6, b7, b8⟩, -⟩ := B.c9
  obtain ⟨⟨r0, r1, r2, r3, r4, r5, r6, r7, r8⟩, f0, f1, f2, f3, f4, f5, f6, f7, f8⟩ := R.c9
  have hNw : w.heap.size ≤ N + 1 + 1 := by have := HN.out; omega
  go_wp2_with fail
  have R2_ := R.st9 (.int .i64 (v1)) (.int .i64 (v2)) (.int .i64 (v3)) (.int .i64 (s1)) (.int .i64 (s2)) (.int .i64 (s3)) (.int .i64 (wd)) (.int .i64 (ht)) (.bool (ps))
  obtain ⟨⟨d0, d1, d2, d3, d4, d5, d6, d7, d8⟩, -⟩ := R2_.c9
  exact bodyPost_ret (v := .agg #[.int .i64 (v1), .int .i64 (v2), .int .i64 (v3), .int .i64 (s1), .int .i64 (s2), .int .i64 (s3), .int .i64 (wd), .int .i64 (ht), .bool (ps)]) (by simp [results, Try.results42, go_sem, d0, d1, d2, d3, d4, d5, d6, d7, d8]) rfl ⟨rfl, sx9_below H hNw _ _ _ _ _ _ _ _ _⟩
end Go.Proofs.Ytnokibdecnddlaa

/- A body's step: how far it goes. Plain. No program in sight. -/
namespace Go.Proofs.Ytnokibdecnddlaa

/-- A box shifted. -/
def sh6 (x : B6) (p q r : Int) : B6 := (x.1 + p, x.2.1 + q, x.2.2.1 + r, x.2.2.2.1 + p, x.2.2.2.2.1 + q, x.2.2.2.2.2 + r)
section
variable {val : Cl → Int} {M : Int} {x : B6}
theorem sh6_sh (x : B6) (p q r p' q' r' : Int) : sh6 (sh6 x p q r) p' q' r' = sh6 x (p + p') (q + q') (r + r') := by
  unfold sh6
  simp only [Prod.mk.injEq]
  refine ⟨?_, ?_, ?_, ?_, ?_, ?_⟩ <;> omega
theorem mv_sh (h : Sm6 M x) (hM : M ≤ 74000000000000) {axis n : Int} (ha : axis = 0 ∨ axis = 1 ∨ axis = 2) (h1 : -10000000 ≤ n) (h2 : n ≤ 10000000) :
    mv6 x axis n = sh6 x (if axis = 0 then n else 0) (if axis = 1 then n else 0) (if axis = 2 then n else 0) := by
  obtain ⟨a1, b1, c1, a2, b2, c2, d1, d2, d3, e1, e2, e3⟩ := h
  unfold mv6 sh6
  rw [wi0 h1 h2, wi0 h1 h2, wi0 h1 h2]
  rcases ha with rfl | rfl | rfl
  · simp only [if_true, show ¬ ((1 : Int) = 0) by decide, show ¬ ((0 : Int) = 1) by decide, show ¬ ((2 : Int) = 0) by decide, show ¬ ((0 : Int) = 2) by decide, if_false]
    rw [addI_in (by omega) (by omega) h1 h2, addI_in (by omega) (by omega) (by omega) (by omega), addI_in (by omega) (by omega) (by omega) (by omega), addI_in (by omega) (by omega) h1 h2, addI_in (by omega) (by omega) (by omega) (by omega), addI_in (by omega) (by omega) (by omega) (by omega)]
  · simp only [if_true, show ¬ ((1 : Int) = 0) by decide, show ¬ ((0 : Int) = 1) by decide, show ¬ ((2 : Int) = 1) by decide, show ¬ ((1 : Int) = 2) by decide, if_false]
    rw [addI_in (by omega) (by omega) (by omega) (by omega), addI_in (by omega) (by omega) h1 h2, addI_in (by omega) (by omega) (by omega) (by omega), addI_in (by omega) (by omega) (by omega) (by omega), addI_in (by omega) (by omega) h1 h2, addI_in (by omega) (by omega) (by omega) (by omega)]
  · simp only [if_true, show ¬ ((1 : Int) = 2) by decide, show ¬ ((0 : Int) = 2) by decide, show ¬ ((2 : Int) = 1) by decide, show ¬ ((2 : Int) = 0) by decide, if_false]
    rw [addI_in (by omega) (by omega) (by omega) (by omega), addI_in (by omega) (by omega) (by omega) (by omega), addI_in (by omega) (by omega) h1 h2, addI_in (by omega) (by omega) (by omega) (by omega), addI_in (by omega) (by omega) (by omega) (by omega), addI_in (by omega) (by omega) h1 h2]
theorem sh_sm (h : Sm6 M x) {p q r K : Int} (hp : -K ≤ p ∧ p ≤ K) (hq : -K ≤ q ∧ q ≤ K) (hr : -K ≤ r ∧ r ≤ K) : Sm6 (M + K) (sh6 x p q r) := by
  obtain ⟨a1, b1, c1, a2, b2, c2, d1, d2, d3, e1, e2, e3⟩ := h
  unfold sh6
  constructor <;> dsimp only <;> omega
/-- Between none and the whole way. -/
def Btw (n d : Int) : Prop := (0 ≤ n ∧ n ≤ d) ∨ (d ≤ n ∧ n ≤ 0)
theorem al_sh (val : Cl → Int) (h : Sm6 M x) (hM : M ≤ 74000000000000) {axis d : Int} (ha : axis = 0 ∨ axis = 1 ∨ axis = 2) (h1 : -4194304 ≤ d) (h2 : d ≤ 4194304) :
    ∃ n hit, al6 val x axis d = (sh6 x (if axis = 0 then n else 0) (if axis = 1 then n else 0) (if axis = 2 then n else 0), hit) ∧ Btw n d ∧ (hit = false → n = d) := by
  obtain ⟨h3, h4⟩ := ax6_say val x (i := axis) (by omega) h1 h2
  refine ⟨(ax6 val x axis d).1, (ax6 val x axis d).2, ?_, ?_, h4⟩
  · unfold al6
    rw [mv_sh h hM ha (by omega) (by omega)]
  · unfold Btw
    rcases h3 with ⟨a, b, c⟩ | ⟨a, b, c⟩
    · exact .inl ⟨b, c⟩
    · exact .inr ⟨b, c⟩
theorem Btw.bd {n d K : Int} (h : Btw n d) (h1 : -K ≤ d) (h2 : d ≤ K) : -K ≤ n ∧ n ≤ K := by unfold Btw at h; omega
theorem st3_sh (val : Cl → Int) (h : Sm6 M x) (hM : M ≤ 73000000000000) {dx dy dz : Int} (hx : -4194304 ≤ dx ∧ dx ≤ 4194304) (hy : -4194304 ≤ dy ∧ dy ≤ 4194304) (hz : -4194304 ≤ dz ∧ dz ≤ 4194304) :
    ∃ p q r, st3 val x dx dy dz = sh6 x p q r ∧ Btw p dx ∧ Btw q dy ∧ Btw r dz := by
  obtain ⟨q, t1, e1, b1, -⟩ := al_sh val h (by omega) (axis := 1) (by decide) hy.1 hy.2
  have s1 : Sm6 (M + 4194304) (sh6 x 0 q 0) := sh_sm h (by omega) (b1.bd hy.1 hy.2) (by omega)
  have e1' : st1 val x dy = sh6 x 0 q 0 := by unfold st1; rw [e1]; rfl
  obtain ⟨p, t2, e2, b2, -⟩ := al_sh val s1 (by omega) (axis := 0) (by decide) hx.1 hx.2
  have e2' : st2 val x dx dy = sh6 x p q 0 := by
    unfold st2; rw [e1', e2]
    show sh6 (sh6 x 0 q 0) p 0 0 = _
    rw [sh6_sh, Int.zero_add, Int.add_zero, Int.add_zero]
  have s2 : Sm6 (M + 4194304) (sh6 x p q 0) := sh_sm h (b2.bd hx.1 hx.2) (b1.bd hy.1 hy.2) (by omega)
  obtain ⟨r, t3, e3, b3, -⟩ := al_sh val s2 (by omega) (axis := 2) (by decide) hz.1 hz.2
  refine ⟨p, q, r, ?_, b2, b1, b3⟩
  unfold st3; rw [e2', e3]
  show sh6 (sh6 x p q 0) 0 0 r = _
  rw [sh6_sh, Int.zero_add, Int.add_zero, Int.add_zero]
/-- A step goes no farther than told, and no higher than that, or than it steps. -/
theorem stepV_sh (val : Cl → Int) (h : Sm6 M x) (hM : M ≤ 73000000000000) {dx dy dz up : Int} (hx : -4194304 ≤ dx ∧ dx ≤ 4194304) (hy : -4194304 ≤ dy ∧ dy ≤ 4194304) (hz : -4194304 ≤ dz ∧ dz ≤ 4194304) (hu : 0 ≤ up ∧ up ≤ 65536) :
    ∃ p q r, (stepV val x dx dy dz up).1 = sh6 x p q r ∧ Btw p dx ∧ (Btw q dy ∨ (0 ≤ q ∧ q ≤ up)) ∧ Btw r dz := by
  unfold stepV stepOf
  split
  · have hm : mnI up 65536 = up := by unfold mnI; omega
    obtain ⟨q, t1, e1, b1, -⟩ := al_sh val h (by omega) (axis := 1) (d := up) (by decide) (by omega) (by omega)
    have hq : 0 ≤ q ∧ q ≤ up := by unfold Btw at b1; omega
    have s1 : Sm6 (M + 4194304) (sh6 x 0 q 0) := sh_sm h (by omega) (by omega) (by omega)
    have e1' : (hi1 val x up).1 = sh6 x 0 q 0 := by unfold hi1; rw [hm, e1]; rfl
    have hr : rise val x up = q := by
      unfold rise; rw [e1']; unfold sh6; dsimp only; omega
    obtain ⟨p, t2, e2, b2, -⟩ := al_sh val s1 (by omega) (axis := 0) (by decide) hx.1 hx.2
    have e2' : (oA val x dx up).1 = sh6 x p q 0 := by
      unfold oA; rw [e1', e2]
      show sh6 (sh6 x 0 q 0) p 0 0 = _
      rw [sh6_sh, Int.zero_add, Int.add_zero, Int.add_zero]
    have s2 : Sm6 (M + 4194304) (sh6 x p q 0) := sh_sm h (b2.bd hx.1 hx.2) (by omega) (by omega)
    obtain ⟨r, t3, e3, b3, -⟩ := al_sh val s2 (by omega) (axis := 2) (by decide) hz.1 hz.2
    have e3' : (oB val x dx dz up).1 = sh6 x p q r := by
      unfold oB; rw [e2', e3]
      show sh6 (sh6 x p q 0) 0 0 r = _
      rw [sh6_sh, Int.zero_add, Int.add_zero, Int.add_zero]
    have s3 : Sm6 (M + 4194304) (sh6 x p q r) := sh_sm h (b2.bd hx.1 hx.2) (by omega) (b3.bd hz.1 hz.2)
    obtain ⟨s, t4, e4, b4, -⟩ := al_sh val s3 (by omega) (axis := 1) (d := -q) (by decide) (by omega) (by omega)
    refine ⟨p, q + s, r, ?_, b2, .inr ?_, b3⟩
    · show (oC val x dx dz up).1 = _
      unfold oC; rw [e3', hr, e4]
      show sh6 (sh6 x p q r) 0 s 0 = _
      rw [sh6_sh, Int.add_zero, Int.add_zero]
    · unfold Btw at b4; omega
  · obtain ⟨p, q, r, e, b1, b2, b3⟩ := st3_sh val h hM hx hy hz
    exact ⟨p, q, r, e, b1, .inl b2, b3⟩
theorem fw_id {n d : Int} (h1 : -70000000000000 ≤ n) (h2 : n ≤ 70000000000000) (h3 : -4194304 ≤ d) (h4 : d ≤ 4194304) : fwI n d = d := by
  unfold fwI clI mnI mxI subI
  rw [addI_in (by omega) (by omega) (by omega) (by omega)]
  unfold cutI
  omega
theorem fw_bd {n d K : Int} (h1 : -70368744177664 ≤ n) (h2 : n ≤ 70368744177664) (h3 : -K ≤ d) (h4 : d ≤ K) (hK : K ≤ 4194304) : -K ≤ fwI n d ∧ fwI n d ≤ K := by
  unfold fwI clI mnI mxI subI
  rw [addI_in (by omega) (by omega) (by omega) (by omega)]
  unfold cutI
  omega
theorem zb_bd {h : Bool} {n K : Int} (h1 : -K ≤ n ∧ n ≤ K) : -K ≤ zb h n ∧ zb h n ≤ K := by unfold zb; split <;> omega
theorem walk_bd (n : Int) : -16384 ≤ walkI n ∧ walkI n ≤ 16384 := by
  unfold walkI mnI mxI
  rw [mulI_p (p := cutI (min (max n (-65536)) 65536) * 16384) (by rw [cutI_id (n := 16384) (by decide) (by decide)])]
  unfold cutI
  omega
theorem rise_bd (c w s j : Bool) {n : Int} (h : -262144 ≤ n ∧ n ≤ 262144) : -262144 ≤ riseI c w s j n ∧ riseI c w s j n ≤ 262144 := by
  unfold riseI mxI
  split
  · split <;> omega
  · split
    · split <;> omega
    · split <;> omega
/-- What a step does to a body near: where it comes to, whatever it hits. -/
theorem goB_say (val : Cl → Int) {b : BD} (h : BOk M b) (hM0 : 0 ≤ M) (hM : M ≤ 70000000000000) :
    ∃ p q r, (goV val b).1 = sh6 (boxB b) p q r ∧ goB val b = (b.1 + p, b.2.1 + q, b.2.2.1 + r, zb (goV val b).2.1 b.2.2.2.1, zb (goV val b).2.2.1 b.2.2.2.2.1, zb (goV val b).2.2.2 b.2.2.2.2.2.1, b.2.2.2.2.2.2.1, b.2.2.2.2.2.2.2.1, unB val (goV val b).1) ∧
      Btw p b.2.2.2.1 ∧ (Btw q b.2.2.2.2.1 ∨ (0 ≤ q ∧ q ≤ 32768)) ∧ Btw r b.2.2.2.2.2.1 := by
  obtain ⟨hS, -⟩ := h.box (by omega)
  obtain ⟨hx, hy, hz, sx, sy, sz, hw, hh⟩ := id h
  have e : goV val b = stepV val (boxB b) b.2.2.2.1 b.2.2.2.2.1 b.2.2.2.2.2.1 32768 := by
    unfold goV
    rw [fw_id (by omega) (by omega) (by omega) (by omega), fw_id (by omega) (by omega) (by omega) (by omega), fw_id (by omega) (by omega) (by omega) (by omega)]
  obtain ⟨p, q, r, e1, b1, b2, b3⟩ := stepV_sh val hS (by omega) (dx := b.2.2.2.1) (dy := b.2.2.2.2.1) (dz := b.2.2.2.2.2.1) (up := 32768) (by omega) (by omega) (by omega) (by omega)
  rw [← e] at e1
  have p1 := b1.bd sx.1 sx.2
  have r1 := b3.bd sz.1 sz.2
  have q1 : -262144 ≤ q ∧ q ≤ 262144 := by
    rcases b2 with b2 | b2
    · exact b2.bd sy.1 sy.2
    · omega
  have s := hS
  obtain ⟨a1, c1, d1, a2, c2, d2, -, -, -, -, -, -⟩ := s
  refine ⟨p, q, r, e1, ?_, b1, b2, b3⟩
  unfold goB putB
  rw [e1]
  unfold sh6
  dsimp only
  have key : ∀ {a o n : Int}, -70000000000000 ≤ a → a ≤ 70000000000000 → -71000000000000 ≤ o → o ≤ 71000000000000 → -262144 ≤ n → n ≤ 262144 → addI a (subI (o + n) o) = a + n := fun {a o n} g1 g2 g3 g4 g5 g6 => by
    have : subI (o + n) o = n := by unfold subI cutI; omega
    rw [this, addI_in (by omega) (by omega) (by omega) (by omega)]
  rw [key (by omega) (by omega) (by omega) (by omega) p1.1 p1.2, key (by omega) (by omega) (by omega) (by omega) q1.1 q1.2, key (by omega) (by omega) (by omega) (by omega) r1.1 r1.2]
theorem BOk.walk {b : BD} (h : BOk M b) (ix iz : Int) : BOk M (walkB b ix iz) := by
  obtain ⟨hx, hy, hz, sx, sy, sz, hw, hh⟩ := h
  have w1 := walk_bd ix
  have w2 := walk_bd iz
  exact ⟨hx, hy, hz, by dsimp only [walkB]; omega, sy, by dsimp only [walkB]; omega, hw, hh⟩
theorem BOk.rise {b : BD} (h : BOk M b) (val : Cl → Int) (j : Bool) : BOk M (riseB val b j) := by
  obtain ⟨hx, hy, hz, sx, sy, sz, hw, hh⟩ := h
  exact ⟨hx, hy, hz, sx, rise_bd _ _ _ _ sy, sz, hw, hh⟩
theorem BOk.mono {M' : Int} {b : BD} (h : BOk M b) (hm : M ≤ M') : BOk M' b := by
  obtain ⟨hx, hy, hz, sx, sy, sz, hw, hh⟩ := h
  exact ⟨by omega, by omega, by omega, sx, sy, sz, hw, hh⟩
theorem BOk.go {b : BD} (h : BOk M b) (hM0 : 0 ≤ M) (hM : M ≤ 70000000000000) (val : Cl → Int) : BOk (M + 262144) (goB val b) := by
  obtain ⟨p, q, r, -, e, b1, b2, b3⟩ := goB_say val h hM0 hM
  obtain ⟨hx, hy, hz, sx, sy, sz, hw, hh⟩ := h
  have p1 := b1.bd sx.1 sx.2
  have r1 := b3.bd sz.1 sz.2
  have q1 : -262144 ≤ q ∧ q ≤ 262144 := by
    rcases b2 with b2 | b2
    · exact b2.bd sy.1 sy.2
    · omega
  rw [e]
  exact ⟨by dsimp only; omega, by dsimp only; omega, by dsimp only; omega, zb_bd sx, zb_bd sy, zb_bd sz, hw, hh⟩
theorem BOk.step {b : BD} (h : BOk M b) (hM0 : 0 ≤ M) (hM : M ≤ 70000000000000) (val : Cl → Int) (ix iz : Int) (j : Bool) : BOk (M + 262144) (stepB val b ix iz j) := ((h.walk ix iz).rise val j).go hM0 hM val
end
end Go.Proofs.Ytnokibdecnddlaa

/- Bodies, the program's: a step. -/
namespace Go.Proofs.Ytnokibdecnddlaa
open Go.RowKit Go.Shelf
attribute [local go_sem] Oper.semAt_some

theorem arrf_at (a b c : Value) (w : World) : (Instr.index 77 (.agg #[a, b, c]) (.int .i64 0)).run Try.prog w = .ok a w ∧ (Instr.index 77 (.agg #[a, b, c]) (.int .i64 1)).run Try.prog w = .ok b w ∧ (Instr.index 77 (.agg #[a, b, c]) (.int .i64 2)).run Try.prog w = .ok c w := by
  refine ⟨?_, ?_, ?_⟩ <;> simp [Instr.index, asIntOf, go_sem]
set_option maxRecDepth 100000 in
set_option maxHeartbeats 8000000 in
theorem bstep_c (V : FuncId) (lv : Array Value) (val : Cl → Int) (b : BD) (ix iz : Int) (j : Bool) (M : Int) (hM : M ≤ 71000000000000) (hM0 : 0 ≤ M) (hB : BOk M b) (w : World)
    (eV : ∀ args w, (callFunc V args).run Try.prog w = .ok (.enter V args) w) (hV : Tells Try.prog V lv val w) :
    Calls Try.prog 14 #[.agg (bd9 b), .func (.func V) #[] lv, .agg #[.int .i64 ix, .int .i64 iz, .bool j]] w fun r w' => r = .returned (.agg (bd9 (stepB val b ix iz j))) ∧ Below w.heap.size w w' := by
  have C1 := fun W => bwalks_c b (.func (.func V) #[] lv) ix iz j W
  have C2 := fun W (h : Below w.heap.size w W) => brises_c V lv val (walkB b ix iz) ix iz j M hM hM0 (hB.walk ix iz) W eV (hV.on h)
  have C3 := fun W (h : Below w.heap.size w W) => bgoes_c V lv val (riseB val (walkB b ix iz) j) ix iz j M hM hM0 ((hB.walk ix iz).rise val j) W eV (hV.on h)
  unfold stepB
  generalize goB val (riseB val (walkB b ix iz) j) = q3 at C3 ⊢
  generalize riseB val (walkB b ix iz) j = q2 at C2 C3
  generalize walkB b ix iz = q1 at C1 C2
  clear hM hM0 hB eV hV
  obtain ⟨x, y, z, sx, sy, sz, wd, ht, st⟩ := b
  obtain ⟨x1, y1, z1, sx1, sy1, sz1, wd1, ht1, st1⟩ := q1
  obtain ⟨x2, y2, z2, sx2, sy2, sz2, wd2, ht2, st2⟩ := q2
  obtain ⟨x3, y3, z3, sx3, sy3, sz3, wd3, ht3, st3⟩ := q3
  simp only [bd9] at *
  have HC1 := Lib.hid C1
  have HC2 := Lib.hid C2
  have HC3 := Lib.hid C3
  clear C1 C2 C3
  have ix0 := fun w => (arrf_at (.func (.func 40) #[] #[]) (.func (.func 41) #[] #[]) (.func (.func 42) #[] #[]) w).1
  have ix1 := fun w => (arrf_at (.func (.func 40) #[] #[]) (.func (.func 41) #[] #[]) (.func (.func 42) #[] #[]) w).2.1
  have ix2 := fun w => (arrf_at (.func (.func 40) #[] #[]) (.func (.func 41) #[] #[]) (.func (.func 42) #[] #[]) w).2.2
  obtain ⟨N, hN⟩ : ∃ N, N = w.heap.size := ⟨_, rfl⟩
  obtain ⟨W, hW⟩ : ∃ W, W = ((w.alloc (.cells #[.int .i64 x, .int .i64 y, .int .i64 z, .int .i64 sx, .int .i64 sy, .int .i64 sz, .int .i64 wd, .int .i64 ht, .bool st] 35)).alloc (.cells #[.int .i64 ix, .int .i64 iz, .bool j] 38)).alloc (.cells #[.int .i64 0, .int .i64 0, .int .i64 0, .int .i64 0, .int .i64 0, .int .i64 0, .int .i64 0, .int .i64 0, .bool false] 35) := ⟨_, rfl⟩
  have H : Below w.heap.size w W := by rw [hW]; go_grown
  have B : Blk W N 35 _ := Blk.eqw hW.symm (by rw [hN]; exact ((Blk.new' rfl).alloc _).alloc _)
  have D : Blk W (N + 1) 38 _ := Blk.eqw hW.symm (by rw [hN]; exact (Blk.new' (by simp)).alloc _)
  have R : Blk W (N + 1 + 1) 35 _ := Blk.eqw hW.symm (by rw [hN]; exact Blk.new' (by simp))
  go_enter Try.func14, Try.ntmps14
  go_upto_region 1 with (fail)
  rw [← hW, ← hN]
  have HN := Lib.hid hN
  clear hW hN
  go_upto_region 2 with (fail)
  go_loopw [8, 10] (fun _ kv wr => ((kv = .int .i64 0 ∧ Blk wr N 35 #[.int .i64 x, .int .i64 y, .int .i64 z, .int .i64 sx, .int .i64 sy, .int .i64 sz, .int .i64 wd, .int .i64 ht, .bool st]) ∨ (kv = .int .i64 1 ∧ Blk wr N 35 #[.int .i64 x1, .int .i64 y1, .int .i64 z1, .int .i64 sx1, .int .i64 sy1, .int .i64 sz1, .int .i64 wd1, .int .i64 ht1, .bool st1]) ∨ (kv = .int .i64 2 ∧ Blk wr N 35 #[.int .i64 x2, .int .i64 y2, .int .i64 z2, .int .i64 sx2, .int .i64 sy2, .int .i64 sz2, .int .i64 wd2, .int .i64 ht2, .bool st2]) ∨ (kv = .int .i64 3 ∧ Blk wr N 35 #[.int .i64 x3, .int .i64 y3, .int .i64 z3, .int .i64 sx3, .int .i64 sy3, .int .i64 sz3, .int .i64 wd3, .int .i64 ht3, .bool st3])) ∧
    Blk wr (N + 1) 38 #[.int .i64 ix, .int .i64 iz, .bool j] ∧ Blk wr (N + 1 + 1) 35 #[.int .i64 0, .int .i64 0, .int .i64 0, .int .i64 0, .int .i64 0, .int .i64 0, .int .i64 0, .int .i64 0, .bool false] ∧ Hid (Below w.heap.size w wr)) (fun _ kv _ => 3 - (intOf kv).toNat)
  case atStart => exact ⟨.inl ⟨rfl, B⟩, D, R, Lib.hid H⟩
  case round =>
    clear B D R H
    obtain ⟨hd, D, R, H⟩ := hrel
    have hNw : w.heap.size ≤ N := by rw [← HN.out]; exact Nat.le_refl _
    have n1 : N + 1 ≠ N := by omega
    have n2 : N + 1 + 1 ≠ N := by omega
    rcases hd with ⟨rfl, B⟩ | ⟨rfl, B⟩ | ⟨rfl, B⟩ | ⟨rfl, B⟩
    · obtain ⟨⟨b0, b1, b2, b3, b4, b5, b6, b7, b8⟩, -⟩ := B.c9
      obtain ⟨d0, d1, d2, -, -, -⟩ := D.c3
      go_wp2_with (go_at_call 40; refine (HC1.out _).mono ?_; rintro e_ w5 ⟨rfl, h5⟩; clear b0 b1 b2 b3 b4 b5 b6 b7 b8 d0 d1 d2; replace B := B.on h5; obtain ⟨⟨b0, b1, b2, b3, b4, b5, b6, b7, b8⟩, f0, f1, f2, f3, f4, f5, f6, f7, f8⟩ := B.c9)
      have B2 := B.st9 (.int .i64 x1) (.int .i64 y1) (.int .i64 z1) (.int .i64 sx1) (.int .i64 sy1) (.int .i64 sz1) (.int .i64 wd1) (.int .i64 ht1) (.bool st1)
      go_roundw
      case rel => exact ⟨.inr (.inl ⟨rfl, B2⟩), sx9_far (D.on h5) n1 _ _ _ _ _ _ _ _ _, sx9_far (R.on h5) n2 _ _ _ _ _ _ _ _ _, Lib.hid (sx9_below (after H.out h5) hNw _ _ _ _ _ _ _ _ _)⟩
      case measure => simp [intOf]
    · obtain ⟨⟨b0, b1, b2, b3, b4, b5, b6, b7, b8⟩, -⟩ := B.c9
      obtain ⟨d0, d1, d2, -, -, -⟩ := D.c3
      go_wp2_with (go_at_call 41; refine (HC2.out _ H.out).mono ?_; rintro e_ w5 ⟨rfl, h5⟩; clear b0 b1 b2 b3 b4 b5 b6 b7 b8 d0 d1 d2; replace B := B.on h5; obtain ⟨⟨b0, b1, b2, b3, b4, b5, b6, b7, b8⟩, f0, f1, f2, f3, f4, f5, f6, f7, f8⟩ := B.c9)
      have B2 := B.st9 (.int .i64 x2) (.int .i64 y2) (.int .i64 z2) (.int .i64 sx2) (.int .i64 sy2) (.int .i64 sz2) (.int .i64 wd2) (.int .i64 ht2) (.bool st2)
      go_roundw
      case rel => exact ⟨.inr (.inr (.inl ⟨rfl, B2⟩)), sx9_far (D.on h5) n1 _ _ _ _ _ _ _ _ _, sx9_far (R.on h5) n2 _ _ _ _ _ _ _ _ _, Lib.hid (sx9_below (after H.out h5) hNw _ _ _ _ _ _ _ _ _)⟩
      case measure => simp [intOf]
    · obtain ⟨⟨b0, b1, b2, b3, b4, b5, b6, b7, b8⟩, -⟩ := B.c9
      obtain ⟨d0, d1, d2, -, -, -⟩ := D.c3
      go_wp2_with (go_at_call 42; refine (HC3.out _ H.out).mono ?_; rintro e_ w5 ⟨rfl, h5⟩; clear b0 b1 b2 b3 b4 b5 b6 b7 b8 d0 d1 d2; replace B := B.on h5; obtain ⟨⟨b0, b1, b2, b3, b4, b5, b6, b7, b8⟩, f0, f1, f2, f3, f4, f5, f6, f7, f8⟩ := B.c9)
      have B2 := B.st9 (.int .i64 x3) (.int .i64 y3) (.int .i64 z3) (.int .i64 sx3) (.int .i64 sy3) (.int .i64 sz3) (.int .i64 wd3) (.int .i64 ht3) (.bool st3)
      go_roundw
      case rel => exact ⟨.inr (.inr (.inr ⟨rfl, B2⟩)), sx9_far (D.on h5) n1 _ _ _ _ _ _ _ _ _, sx9_far (R.on h5) n2 _ _ _ _ _ _ _ _ _, Lib.hid (sx9_below (after H.out h5) hNw _ _ _ _ _ _ _ _ _)⟩
      case measure => simp [intOf]
    · obtain ⟨⟨b0, b1, b2, b3, b4, b5, b6, b7, b8⟩, -⟩ := B.c9
      obtain ⟨⟨r0, r1, r2, r3, r4, r5, r6, r7, r8⟩, f0, f1, f2, f3, f4, f5, f6, f7, f8⟩ := R.c9
      replace H := H.out
      have hNw : w.heap.size ≤ N + 1 + 1 := by omega
      go_wp2_with fail
      have R2_ := R.st9 (.int .i64 (x3)) (.int .i64 (y3)) (.int .i64 (z3)) (.int .i64 (sx3)) (.int .i64 (sy3)) (.int .i64 (sz3)) (.int .i64 (wd3)) (.int .i64 (ht3)) (.bool (st3))
      obtain ⟨⟨d0, d1, d2, d3, d4, d5, d6, d7, d8⟩, -⟩ := R2_.c9
      exact bodyPost_ret (v := .agg #[.int .i64 (x3), .int .i64 (y3), .int .i64 (z3), .int .i64 (sx3), .int .i64 (sy3), .int .i64 (sz3), .int .i64 (wd3), .int .i64 (ht3), .bool (st3)]) (by simp [results, Try.results14, go_sem, d0, d1, d2, d3, d4, d5, d6, d7, d8]) rfl ⟨rfl, sx9_below H hNw _ _ _ _ _ _ _ _ _⟩
end Go.Proofs.Ytnokibdecnddlaa

/- The document's example of a body. -/
namespace Go.Proofs.Ytnokibdecnddlaa
open Go.RowKit Go.Shelf
attribute [local go_sem] Oper.semAt_some

/-- What an empty world tells. -/
def eval0 : Cl → Int := fun x => atG 0 (fun _ => 0) 0 x.1 x.2.1 x.2.2
theorem lives20 : (stepB eval0 (0, 300000, 0, 0, 0, 0, 40000, 100000, false) 0 0 false).2.2.2.2.1 = -4096 := by decide +kernel
theorem bfield1 (x y z sx sy sz wd ht : Int) (st : Bool) (w : World) : (Instr.field 35 (.agg #[.int .i64 x, .int .i64 y, .int .i64 z, .int .i64 sx, .int .i64 sy, .int .i64 sz, .int .i64 wd, .int .i64 ht, .bool st]) 1).run Try.prog w = .ok (.agg #[.int .i64 sx, .int .i64 sy, .int .i64 sz]) w := by
  simp [Instr.field, asAgg, go_sem]
theorem vfield1 (x y z : Int) (w : World) : (Instr.field 26 (.agg #[.int .i64 x, .int .i64 y, .int .i64 z]) 1).run Try.prog w = .ok (.int .i64 y) w := by
  simp [Instr.field, asAgg, go_sem]
set_option maxRecDepth 100000 in
set_option maxHeartbeats 8000000 in
theorem blives_c (w : World) : Calls Try.prog 16 #[] w fun r w' => r = .returned (.bool true) ∧ Below w.heap.size w w' := by
  have hl := lives20
  have bf := bfield1
  have vf := vfield1
  have C1 := fun W b9 (h : Tells Try.prog 38 #[.pointer (some ⟨b9, 0, none⟩)] eval0 W) => bstep_c 38 #[.pointer (some ⟨b9, 0, none⟩)] eval0 (0, 300000, 0, 0, 0, 0, 40000, 100000, false) 0 0 false 300000 (by decide) (by decide) ⟨by decide, by decide, by decide, by decide, by decide, by decide, by decide, by decide⟩ W view_en h
  generalize stepB eval0 (0, 300000, 0, 0, 0, 0, 40000, 100000, false) 0 0 false = p at hl C1
  obtain ⟨x, y, z, sx, sy, sz, wd, ht, st⟩ := p
  dsimp only at hl
  subst hl
  simp only [bd9] at C1
  have HC := Lib.hid C1
  clear C1
  go_enter Try.func16, Try.ntmps16
  go_upto_region 2 with (fail)
  generalize hV : World.alloc w _ = W
  have B : Blk W w.heap.size 35 _ := Blk.eqw hV (Blk.new' rfl)
  have H0 : Below w.heap.size w W := by rw [← hV]; exact (Below.refl _ _).alloc (Nat.le_refl _) _
  have b0 := fun d os => (B.re d os).cell 0
  have b1 := fun d os => (B.re d os).cell 1
  have b2 := fun d os => (B.re d os).cell 2
  have b3 := fun d os => (B.re d os).cell 3
  have b4 := fun d os => (B.re d os).cell 4
  have b5 := fun d os => (B.re d os).cell 5
  have b6 := fun d os => (B.re d os).cell 6
  have b7 := fun d os => (B.re d os).cell 7
  have b8 := fun d os => (B.re d os).cell 8
  simp only [List.getElem?_toArray, List.getElem?_cons_zero, List.getElem?_cons_succ] at b0 b1 b2 b3 b4 b5 b6 b7 b8
  clear hV B
  refine wp_sched [0, 0, 2, 0, 3, 3, 3, 3, 3] (fun _ v w => ∃ b9, v = .func (.func 38) #[] #[.pointer (some ⟨b9, 0, none⟩)] ∧ Tells Try.prog 38 #[.pointer (some ⟨b9, 0, none⟩)] eval0 w) (by kernel_rfl) (by kernel_rfl) (fun _ _ _ _ ⟨b, h1, h2⟩ h => ⟨b, h1, h2.on h⟩) ?_
  repeat (first | (refine wpQs_s ?_) | (refine wpQs_q (fun K hK => ?_); go_simp; first | (refine hK _ ?_; clear hK K) | (apply Exists.intro; refine ⟨fun _ => ?_, hK _ ?_⟩; (fail); clear hK K)) | (refine wpQs_f (fun K hK => ?_); go_simp; refine hK _ ?_; clear hK K))
  refine wpQs_nil ?_
  repeat (first | (refine wpLs_skip ?_) | (refine wpLs_one ?lsA (fun v_ => ?_); case lsA => (intro w_ hw_ hp_; (go_simp; refine (view_c _ _ _).mono ?_; rintro e_ w9 ⟨rfl, rfl⟩; exact ⟨_, rfl, Kept.of_below ((Below.refl _ _).alloc (Nat.le_refl _) _), _, rfl, view_tells (Blk.new' rfl) (fun h => by omega)⟩))))
  refine wpLs_nilB ?_
  simp only [tails]
  rintro W1 h1 ⟨-, b9, rfl, hT⟩
  clear b0 b1 b2 b3 b4 b5 b6 b7 b8
  go_wp2_with (go_at_call 14; refine (HC.out _ _ hT).mono ?_; rintro e_ w2 ⟨rfl, h2⟩)
  go_returns
  exact ⟨rfl, after (after H0 h1) h2⟩
end Go.Proofs.Ytnokibdecnddlaa

/- The walks of the reference of the layer 2: the box that stands on a place. -/
namespace Go.Proofs.Ytnokibdecnddlaa
open Go.RowKit

set_option maxHeartbeats 2000000 in
theorem rstand_m (x y z wd h m k : Int) (hm : mxI wd 0 = m) (hk : mxI h 0 = k) (_m0 : 0 ≤ m) (_m1 : m ≤ 9223372036854775807) (w : World) : Calls Try.prog 53 #[.agg #[.int .i64 x, .int .i64 y, .int .i64 z], .int .i64 wd, .int .i64 h] w fun r w' => r = .returned (.agg #[.int .i64 (subI x (m / 2)), .int .i64 (cutI y), .int .i64 (subI z (m / 2)), .int .i64 (addI x (m / 2)), .int .i64 (addI y k), .int .i64 (addI z (m / 2))]) ∧ Below w.heap.size w w' := by
  have hmx := @run_mx Try.prog
  have U : Blk ((w.alloc (.cells #[.int .i64 x, .int .i64 y, .int .i64 z] 26)).alloc (.cells (bxV 0 0 0 0 0 0) 48)) w.heap.size 26 #[.int .i64 x, .int .i64 y, .int .i64 z] := (Blk.new' rfl).alloc _
  have R0 : Blk ((w.alloc (.cells #[.int .i64 x, .int .i64 y, .int .i64 z] 26)).alloc (.cells (bxV 0 0 0 0 0 0) 48)) (w.heap.size + 1) 48 (bxV 0 0 0 0 0 0) := Blk.new' (by simp)
  obtain ⟨k0, k1, k2⟩ := U.re3
  go_enter Try.func53, Try.ntmps53
  go_wp2_with fail
  refine wp_region_last_below 27 (by kernel_rfl) rfl (by kernel_rfl) ?_
  simp only [List.take_succ_cons, List.take_zero, List.drop_succ_cons, List.drop_zero]
  repeat (go_big_quiet_step (first | exact Calls.regrown_of (calls_bel (rsub_c _ _ _)) | exact Calls.regrown_of (calls_bel (radd_c _ _ _)) | exact Calls.regrown_of (calls_bel (rcut_c _ _))))
  refine wpQuiet_nil ?_
  intro w' hw'
  obtain ⟨rg, rfl⟩ := hw'
  have R := R0.re rg.d rg.os
  obtain ⟨⟨r0, r1, r2, r3, r4, r5⟩, s0, s1, s2, s3, s4, s5⟩ := R.c6
  go_wp2_with fail
  have R2 := R.st6 (.int .i64 (subI x (m / 2))) (.int .i64 (cutI y)) (.int .i64 (subI z (m / 2))) (.int .i64 (addI x (m / 2))) (.int .i64 (addI y k)) (.int .i64 (addI z (m / 2)))
  obtain ⟨⟨d0, d1, d2, d3, d4, d5⟩, -, -, -, -, -, -⟩ := R2.c6
  exact bodyPost_ret (v := .agg #[.int .i64 (subI x (m / 2)), .int .i64 (cutI y), .int .i64 (subI z (m / 2)), .int .i64 (addI x (m / 2)), .int .i64 (addI y k), .int .i64 (addI z (m / 2))]) (by simp [results, Try.results53, go_sem, d0, d1, d2, d3, d4, d5]) rfl ⟨rfl, by (repeat' (first | (with_reducible exact Below.refl _ _) | (with_reducible assumption) | (with_reducible refine Below.alloc ?_ ?_ _) | (with_reducible refine Below.drew ?_) | (with_reducible refine Below.setCell ?_ ?_ _) | (with_reducible refine after ?_ (below_regrown _ _ _)) | (refine after ?_ (by with_reducible assumption)) | go_size))⟩
theorem rstand_c (x y z wd h : Int) (hw : wd ≤ 9223372036854775807) (w : World) : Calls Try.prog 53 #[.agg #[.int .i64 x, .int .i64 y, .int .i64 z], .int .i64 wd, .int .i64 h] w fun r w' => r = .returned (.agg #[.int .i64 (subI x (max wd 0 / 2)), .int .i64 (cutI y), .int .i64 (subI z (max wd 0 / 2)), .int .i64 (addI x (max wd 0 / 2)), .int .i64 (addI y (max h 0)), .int .i64 (addI z (max wd 0 / 2))]) ∧ Below w.heap.size w w' :=
  rstand_m x y z wd h _ _ rfl rfl (by unfold mxI; omega) (by unfold mxI; omega) w
end Go.Proofs.Ytnokibdecnddlaa

/- Bodies, the document's: may one be, its box, a way that is cut; a body made of any. -/
namespace Go.Proofs.Ytnokibdecnddlaa
open Go.RowKit
attribute [local go_sem] Oper.semAt_some

theorem raxis_v (x y z a p : Int) (h : axI x y z a = p) (w : World) : Calls Try.prog 21 #[.agg #[.int .i64 x, .int .i64 y, .int .i64 z], .int .i64 a] w fun e w' => e = .returned (.int .i64 p) ∧ Below w.heap.size w w' := by
  subst h; exact raxis_c x y z a w
theorem rwith_v (x y z a m p q r : Int) (h1 : wiI x a 0 m = p) (h2 : wiI y a 1 m = q) (h3 : wiI z a 2 m = r) (w : World) : Calls Try.prog 50 #[.agg #[.int .i64 x, .int .i64 y, .int .i64 z], .int .i64 a, .int .i64 m] w fun e w' => e = .returned (.agg #[.int .i64 p, .int .i64 q, .int .i64 r]) ∧ Below w.heap.size w w' := by
  subst h1 h2 h3; exact rwith_c x y z a m w
theorem inI_no {x y z m : Int} (h : x < -m ∨ m < x ∨ y < -m ∨ m < y ∨ z < -m ∨ m < z) : inI x y z m = false := by
  cases e : inI x y z m
  · rfl
  · rw [inI_iff] at e; omega
set_option maxRecDepth 100000 in
set_option maxHeartbeats 8000000 in
theorem rwi20_c (x y z m : Int) (hm : 0 ≤ m ∧ m ≤ 70368744177664) (w : World) : Calls Try.prog 55 #[.agg #[.int .i64 x, .int .i64 y, .int .i64 z], .int .i64 m] w fun r w' => r = .returned (.bool (inI x y z m)) ∧ Below w.heap.size w w' := by
  obtain ⟨W, hW⟩ : ∃ W, W = w.alloc (.cells #[.int .i64 x, .int .i64 y, .int .i64 z] 26) := ⟨_, rfl⟩
  have H : Below w.heap.size w W := by rw [hW]; go_grown
  have B : Blk W w.heap.size 26 _ := Blk.eqw hW.symm (Blk.new' rfl)
  have q : -9223372036854775808 ≤ -m ∧ -m ≤ 9223372036854775807 := by omega
  obtain ⟨q1, q2⟩ := q
  clear hm
  go_enter Try.func55, Try.ntmps55
  go_upto_region 1 with (fail)
  rw [← hW]
  clear hW
  go_upto_region 2 with (fail)
  go_loopw [5] (fun kv wr => Hid (kv = .int .i64 0 ∨ (kv = .int .i64 1 ∧ -m ≤ x ∧ x ≤ m) ∨ (kv = .int .i64 2 ∧ (-m ≤ x ∧ x ≤ m) ∧ -m ≤ y ∧ y ≤ m) ∨ (kv = .int .i64 3 ∧ (-m ≤ x ∧ x ≤ m) ∧ (-m ≤ y ∧ y ≤ m) ∧ -m ≤ z ∧ z ≤ m)) ∧ Blk wr w.heap.size 26 #[.int .i64 x, .int .i64 y, .int .i64 z] ∧ Hid (Below w.heap.size w wr)) (fun kv _ => 3 - (intOf kv).toNat)
  case atStart => exact ⟨Lib.hid (.inl rfl), B, Lib.hid H⟩
  case round =>
    clear B H
    obtain ⟨hk, B, H⟩ := hrel
    obtain ⟨b0, b1, b2, -, -, -⟩ := B.c3
    rcases hk.out with rfl | ⟨rfl, h1⟩ | ⟨rfl, h1, h2⟩ | ⟨rfl, h1, h2, h3⟩
    · clear hk
      by_cases g1 : x < -m
      · go_wp2_with (go_at_call 21; refine (raxis_v _ _ _ _ x rfl _).mono ?_; rintro e_ w5 ⟨rfl, h5⟩)
        go_returns
        rw [inI_no (by omega)]
        exact ⟨by simp, after H.out h5⟩
      · by_cases g2 : m < x
        · go_wp2_with (go_at_call 21; refine (raxis_v _ _ _ _ x rfl _).mono ?_; rintro e_ w5 ⟨rfl, h5⟩)
          go_returns
          rw [inI_no (by omega)]
          exact ⟨by simp, after H.out h5⟩
        · go_wp2_with (go_at_call 21; refine (raxis_v _ _ _ _ x rfl _).mono ?_; rintro e_ w5 ⟨rfl, h5⟩)
          go_roundw
          case rel => exact ⟨Lib.hid (.inr (.inl ⟨rfl, by omega, by omega⟩)), B.on h5, Lib.hid (after H.out h5)⟩
          case measure => simp [intOf]
    · clear hk
      by_cases g1 : y < -m
      · go_wp2_with (go_at_call 21; refine (raxis_v _ _ _ _ y rfl _).mono ?_; rintro e_ w5 ⟨rfl, h5⟩)
        go_returns
        rw [inI_no (by omega)]
        exact ⟨by simp, after H.out h5⟩
      · by_cases g2 : m < y
        · go_wp2_with (go_at_call 21; refine (raxis_v _ _ _ _ y rfl _).mono ?_; rintro e_ w5 ⟨rfl, h5⟩)
          go_returns
          rw [inI_no (by omega)]
          exact ⟨by simp, after H.out h5⟩
        · go_wp2_with (go_at_call 21; refine (raxis_v _ _ _ _ y rfl _).mono ?_; rintro e_ w5 ⟨rfl, h5⟩)
          go_roundw
          case rel => exact ⟨Lib.hid (.inr (.inr (.inl ⟨rfl, h1, by omega, by omega⟩))), B.on h5, Lib.hid (after H.out h5)⟩
          case measure => simp [intOf]
    · clear hk
      by_cases g1 : z < -m
      · go_wp2_with (go_at_call 21; refine (raxis_v _ _ _ _ z rfl _).mono ?_; rintro e_ w5 ⟨rfl, h5⟩)
        go_returns
        rw [inI_no (by omega)]
        exact ⟨by simp, after H.out h5⟩
      · by_cases g2 : m < z
        · go_wp2_with (go_at_call 21; refine (raxis_v _ _ _ _ z rfl _).mono ?_; rintro e_ w5 ⟨rfl, h5⟩)
          go_returns
          rw [inI_no (by omega)]
          exact ⟨by simp, after H.out h5⟩
        · go_wp2_with (go_at_call 21; refine (raxis_v _ _ _ _ z rfl _).mono ?_; rintro e_ w5 ⟨rfl, h5⟩)
          go_roundw
          case rel => exact ⟨Lib.hid (.inr (.inr (.inr ⟨rfl, h1, h2, by omega, by omega⟩))), B.on h5, Lib.hid (after H.out h5)⟩
          case measure => simp [intOf]
    · clear hk
      go_wp2_with fail
      go_returns
      rw [inI_iff.2 ⟨h1, h2, h3⟩]
      exact ⟨by simp, H.out⟩
set_option maxRecDepth 100000 in
set_option maxHeartbeats 8000000 in
theorem rbmay_c (b : BD) (w : World) : Calls Try.prog 22 #[.agg (bd9 b)] w fun r w' => r = .returned (.bool (mayB b)) ∧ Below w.heap.size w w' := by
  obtain ⟨x, y, z, sx, sy, sz, wd, ht, st⟩ := b
  have C1 := fun W => rwi20_c x y z 70368744177664 ⟨by decide, by decide⟩ W
  have C2 := fun W => rwi20_c sx sy sz 262144 ⟨by decide, by decide⟩ W
  unfold mayB
  dsimp only
  generalize inI x y z 70368744177664 = p1 at C1 ⊢
  generalize inI sx sy sz 262144 = p2 at C2 ⊢
  have D1 := Lib.hid C1
  have D2 := Lib.hid C2
  clear C1 C2
  obtain ⟨W, hW⟩ : ∃ W, W = w.alloc (.cells #[.int .i64 x, .int .i64 y, .int .i64 z, .int .i64 sx, .int .i64 sy, .int .i64 sz, .int .i64 wd, .int .i64 ht, .bool st] 28) := ⟨_, rfl⟩
  have H : Below w.heap.size w W := by rw [hW]; go_grown
  have B0 : Blk W w.heap.size 28 _ := Blk.eqw hW.symm (Blk.new' rfl)
  simp only [bd9]
  obtain ⟨⟨b0, b1, b2, b3, b4, b5, b6, b7, b8⟩, -⟩ := B0.c9
  go_enter Try.func22, Try.ntmps22
  go_upto_region 1 with (fail)
  rw [← hW]
  clear hW
  go_upto_region 2 with (go_at_call 55; refine (D1.out _).mono ?_; rintro e_ w1 ⟨rfl, k1⟩)
  obtain ⟨⟨b0, b1, b2, b3, b4, b5, b6, b7, b8⟩, -⟩ := (B0.on k1).c9
  go_upto_region 3 with (go_at_call 55; refine (D2.out _).mono ?_; rintro e_ w2 ⟨rfl, k2⟩)
  obtain ⟨⟨b0, b1, b2, b3, b4, b5, b6, b7, b8⟩, -⟩ := ((B0.on k1).on k2).c9
  have HH := Lib.hid (after (after H k1) k2)
  clear D1 D2 k1 k2 H B0
  cases p1
  · go_wp2_with fail
    go_returns
    exact ⟨by simp, HH.out⟩
  · cases p2
    · go_wp2_with fail
      go_returns
      exact ⟨by simp, HH.out⟩
    · by_cases h1 : 2 ≤ wd
      · by_cases h2 : wd ≤ 131072
        · by_cases h3 : 1 ≤ ht
          · by_cases h4 : ht ≤ 262144
            · go_wp2_with fail
              go_returns
              exact ⟨by simp [h1, h2, h3, h4], HH.out⟩
            · go_wp2_with fail
              go_returns
              exact ⟨by simp; omega, HH.out⟩
          · go_wp2_with fail
            go_returns
            exact ⟨by simp; omega, HH.out⟩
        · go_wp2_with fail
          go_returns
          exact ⟨by simp; omega, HH.out⟩
      · go_wp2_with fail
        go_returns
        exact ⟨by simp; omega, HH.out⟩
set_option maxRecDepth 100000 in
set_option maxHeartbeats 4000000 in
theorem rbbox_c (b : BD) (hw : b.2.2.2.2.2.2.1 ≤ 9223372036854775807) (w : World) : Calls Try.prog 19 #[.agg (bd9 b)] w fun r w' => r = .returned (.agg (ag6 (boxB b))) ∧ Below w.heap.size w w' := by
  obtain ⟨x, y, z, sx, sy, sz, wd, ht, st⟩ := b
  dsimp only at hw
  have HS := Lib.hid (fun W => rstand_c x y z wd ht hw W)
  clear hw
  simp only [boxB, standI, ag6, bd9]
  obtain ⟨W, hW⟩ : ∃ W, W = (w.alloc (.cells #[.int .i64 x, .int .i64 y, .int .i64 z, .int .i64 sx, .int .i64 sy, .int .i64 sz, .int .i64 wd, .int .i64 ht, .bool st] 28)).alloc (.cells #[.int .i64 0, .int .i64 0, .int .i64 0, .int .i64 0, .int .i64 0, .int .i64 0] 48) := ⟨_, rfl⟩
  have H : Below w.heap.size w W := by rw [hW]; go_grown
  have R0 : Blk W (w.heap.size + 1) 48 _ := Blk.eqw hW.symm (Blk.new' (by simp))
  have B0 : Blk W w.heap.size 28 _ := Blk.eqw hW.symm ((Blk.new' rfl).alloc _)
  go_enter Try.func19, Try.ntmps19
  go_upto_region 1 with (fail)
  rw [← hW]
  clear hW
  obtain ⟨⟨b0, b1, b2, b3, b4, b5, b6, b7, b8⟩, -⟩ := B0.c9
  go_wp2_with (go_at_call 53; refine (HS.out _).mono ?_; rintro e_ w1 ⟨rfl, h1⟩; have R := R0.on h1; obtain ⟨⟨r0, r1, r2, r3, r4, r5⟩, s0, s1, s2, s3, s4, s5⟩ := R.c6)
  have R2 := R.st6 (.int .i64 (subI x (max wd 0 / 2))) (.int .i64 (cutI y)) (.int .i64 (subI z (max wd 0 / 2))) (.int .i64 (addI x (max wd 0 / 2))) (.int .i64 (addI y (max ht 0))) (.int .i64 (addI z (max wd 0 / 2)))
  obtain ⟨⟨d0, d1, d2, d3, d4, d5⟩, -, -, -, -, -, -⟩ := R2.c6
  exact bodyPost_ret (v := .agg #[.int .i64 (subI x (max wd 0 / 2)), .int .i64 (cutI y), .int .i64 (subI z (max wd 0 / 2)), .int .i64 (addI x (max wd 0 / 2)), .int .i64 (addI y (max ht 0)), .int .i64 (addI z (max wd 0 / 2))]) (by simp [results, Try.results19, go_sem, d0, d1, d2, d3, d4, d5]) rfl ⟨rfl, by (repeat' (first | (with_reducible exact Below.refl _ _) | (with_reducible assumption) | (with_reducible refine Below.alloc ?_ ?_ _) | (with_reducible refine Below.drew ?_) | (with_reducible refine Below.setCell ?_ ?_ _) | (with_reducible refine after ?_ (below_regrown _ _ _)) | (refine after ?_ (by with_reducible assumption)) | go_size))⟩
end Go.Proofs.Ytnokibdecnddlaa

/- Which boxes may be, by the document; ways that are the same. -/
namespace Go.Proofs.Ytnokibdecnddlaa
open Go.RowKit

/-- Two ways are the same. -/
def veqC (a b c a' b' c' : Int) : Bool := a == a' && (b == b' && c == c')
theorem veqC_self (a b c : Int) : veqC a b c a b c = true := by simp [veqC]
theorem veqC_iff {a b c a' b' c' : Int} : veqC a b c a' b' c' = true ↔ a = a' ∧ b = b' ∧ c = c' := by simp [veqC]
theorem vecC_guard : Try.prog.eqGuardType Try.prog.depth 26 = false := by kernel_rfl
theorem vecC_eq (a b c a' b' c' : Int) (w : World) : (binOp .eql 26 (.agg #[.int .i64 a, .int .i64 b, .int .i64 c]) (.agg #[.int .i64 a', .int .i64 b', .int .i64 c'])).run Try.prog w = .ok (.bool (veqC a b c a' b' c')) w := by
  rw [run_eql_struct]
  unfold veqC
  simp [go_sem]
  by_cases h1 : a = a' <;> by_cases h2 : b = b' <;> by_cases h3 : c = c' <;> simp [h1, h2, h3]
/-- A box may be. -/
def mayC (a b c d e f : Int) : Bool := veqC a b c (cutI a) (cutI b) (cutI c) && (veqC d e f (cutI d) (cutI e) (cutI f) && (decide (a ≤ d) && decide (b ≤ e) && decide (c ≤ f)))
theorem veqC_comm (a b c d e f : Int) : veqC a b c d e f = veqC d e f a b c := by
  rw [Bool.eq_iff_iff, veqC_iff, veqC_iff]; omega
theorem mayC_ways (a b c d e f : Int) : (veqC (cutI a) (cutI b) (cutI c) a b c = false ∧ mayC a b c d e f = false) ∨ (veqC (cutI a) (cutI b) (cutI c) a b c = true ∧ veqC (cutI d) (cutI e) (cutI f) d e f = false ∧ mayC a b c d e f = false) ∨
    (veqC (cutI a) (cutI b) (cutI c) a b c = true ∧ veqC (cutI d) (cutI e) (cutI f) d e f = true ∧ decide (a ≤ d) = false ∧ mayC a b c d e f = false) ∨
    (veqC (cutI a) (cutI b) (cutI c) a b c = true ∧ veqC (cutI d) (cutI e) (cutI f) d e f = true ∧ decide (a ≤ d) = true ∧ decide (b ≤ e) = false ∧ mayC a b c d e f = false) ∨
    (veqC (cutI a) (cutI b) (cutI c) a b c = true ∧ veqC (cutI d) (cutI e) (cutI f) d e f = true ∧ decide (a ≤ d) = true ∧ decide (b ≤ e) = true ∧ mayC a b c d e f = decide (c ≤ f)) := by
  unfold mayC
  rw [veqC_comm a b c, veqC_comm d e f]
  cases veqC (cutI a) (cutI b) (cutI c) a b c <;> cases veqC (cutI d) (cutI e) (cutI f) d e f <;> cases decide (a ≤ d) <;> cases decide (b ≤ e) <;> simp
set_option maxHeartbeats 4000000 in
theorem rmayC_c (a b c d e f : Int) (w : World) : Calls Try.prog 26 #[.agg #[.int .i64 a, .int .i64 b, .int .i64 c, .int .i64 d, .int .i64 e, .int .i64 f]] w fun r w' => r = .returned (.bool (mayC a b c d e f)) ∧ Below w.heap.size w w' := by
  have ve := vecC_eq
  have vg := vecC_guard
  have U : Blk (w.alloc (.cells (bxV a b c d e f) 48)) w.heap.size 48 (bxV a b c d e f) := Blk.new' rfl
  obtain ⟨k0, k1, k2, k3, k4, k5⟩ := U.re6
  rcases mayC_ways a b c d e f with ⟨h1, hm⟩ | ⟨h1, h2, hm⟩ | ⟨h1, h2, h3, hm⟩ | ⟨h1, h2, h3, h4, hm⟩ | ⟨h1, h2, h3, h4, hm⟩
  all_goals
    rw [hm]
    clear hm
    go_enter Try.func26, Try.ntmps26
    go_wp2_with fail
    refine wp_region_quiet_below (by kernel_rfl) (by kernel_rfl) ?_
    repeat (go_big_quiet_step (exact Calls.regrown_of (rcutv_c _ _ _ _)))
    refine wpQuiet_nil ?_
    intro w' hw'
    obtain ⟨rg, rfl⟩ := hw'
    go_wp2_with fail
    go_returns
    exact ⟨ret_b rfl, by (repeat' (first | (with_reducible exact Below.refl _ _) | (with_reducible assumption) | (with_reducible refine Below.alloc ?_ ?_ _) | (with_reducible refine Below.drew ?_) | (with_reducible refine Below.setCell ?_ ?_ _) | (with_reducible refine after ?_ (below_regrown _ _ _)) | (refine after ?_ (by with_reducible assumption)) | go_size))⟩
end Go.Proofs.Ytnokibdecnddlaa
