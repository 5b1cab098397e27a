/- Texts that build one behind the other, laid together: BodP4 Opn2 Stp2 Bod10. -/
import Derived.Test.YtnokibdecnddlaaMa8
import Derived.Test.YtnokibdecnddlaaMa9
import Derived.Test.YtnokibdecnddlaaMa7
/- A body that is not blocked, behind a step. Plain. No program in sight. -/
namespace Go.Proofs.Ytnokibdecnddlaa

/-- What is told of a step: how far, and that it stays free. -/
structure StFree (val : Cl → Int) (b s : BD) : Prop where
  wd : s.2.2.2.2.2.2.1 = b.2.2.2.2.2.2.1
  ht : s.2.2.2.2.2.2.2.1 = b.2.2.2.2.2.2.2.1
  x : -16384 ≤ s.1 - b.1 ∧ s.1 - b.1 ≤ 32768
  y : -262144 ≤ s.2.1 - b.2.1 ∧ s.2.1 - b.2.1 ≤ 262144
  z : -16384 ≤ s.2.2.1 - b.2.2.1 ∧ s.2.2.1 - b.2.2.1 ≤ 32768
  free : blk6 val (boxB b) = false → blk6 val (boxB s) = false
theorem box_shift {M : Int} {b s : BD} {p q r : Int} (h : BOk M b) (hs : BOk M s) (hM : M ≤ 71000000000000) (e1 : s.1 = b.1 + p) (e2 : s.2.1 = b.2.1 + q) (e3 : s.2.2.1 = b.2.2.1 + r) (e4 : s.2.2.2.2.2.2.1 = b.2.2.2.2.2.2.1) (e5 : s.2.2.2.2.2.2.2.1 = b.2.2.2.2.2.2.2.1) : boxB s = sh6 (boxB b) p q r := by
  have hb := (h.box hM).2
  have hs' := (hs.box hM).2
  obtain ⟨x, y, z, sx, sy, sz, wd, ht, st⟩ := b
  obtain ⟨x', y', z', sx', sy', sz', wd', ht', st'⟩ := s
  dsimp only at e1 e2 e3 e4 e5 hb hs'
  subst e1 e2 e3 e4 e5
  rw [hb, hs']
  unfold sh6
  dsimp only
  simp only [Prod.mk.injEq]
  refine ⟨?_, ?_, ?_, ?_, ?_, ?_⟩ <;> first | trivial | omega
theorem step_free (val : Cl → Int) {M : Int} {b : BD} (h : BOk M b) (hM0 : 0 ≤ M) (hM : M ≤ 70000000000000) (ix iz : Int) (j : Bool) : StFree val b (stepB val b ix iz j) := by
  have h2 := (h.walk ix iz).rise val j
  have hbx : boxB (riseB val (walkB b ix iz) j) = boxB b := by rw [boxB_rise, boxB_walk]
  have hst := h.step hM0 hM val ix iz j
  obtain ⟨p, q, r, e1, e2, b1, b2, b3⟩ := goB_say val h2 hM0 hM
  have c1 : (riseB val (walkB b ix iz) j).1 = b.1 := by unfold riseB walkB; rfl
  have c2 : (riseB val (walkB b ix iz) j).2.1 = b.2.1 := by unfold riseB walkB; rfl
  have c3 : (riseB val (walkB b ix iz) j).2.2.1 = b.2.2.1 := by unfold riseB walkB; rfl
  have c4 : (riseB val (walkB b ix iz) j).2.2.2.2.2.2.1 = b.2.2.2.2.2.2.1 := by unfold riseB walkB; rfl
  have c5 : (riseB val (walkB b ix iz) j).2.2.2.2.2.2.2.1 = b.2.2.2.2.2.2.2.1 := by unfold riseB walkB; rfl
  have c6 : (riseB val (walkB b ix iz) j).2.2.2.1 = walkI ix := by unfold riseB walkB; rfl
  have c7 : (riseB val (walkB b ix iz) j).2.2.2.2.2.1 = walkI iz := by unfold riseB walkB; rfl
  have w1 := walk_bd ix
  have w2 := walk_bd iz
  have sy := h2.sy
  rw [c6] at b1
  rw [c7] at b3
  have e : stepB val b ix iz j = goB val (riseB val (walkB b ix iz) j) := by unfold stepB; rfl
  have k1 : (stepB val b ix iz j).1 = b.1 + p := by rw [e, e2]; dsimp only; rw [c1]
  have k2 : (stepB val b ix iz j).2.1 = b.2.1 + q := by rw [e, e2]; dsimp only; rw [c2]
  have k3 : (stepB val b ix iz j).2.2.1 = b.2.2.1 + r := by rw [e, e2]; dsimp only; rw [c3]
  have k4 : (stepB val b ix iz j).2.2.2.2.2.2.1 = b.2.2.2.2.2.2.1 := by rw [e, e2]; dsimp only; rw [c4]
  have k5 : (stepB val b ix iz j).2.2.2.2.2.2.2.1 = b.2.2.2.2.2.2.2.1 := by rw [e, e2]; dsimp only; rw [c5]
  have p1 := b1.bd w1.1 w1.2
  have r1 := b3.bd w2.1 w2.2
  have q1 : -262144 ≤ q ∧ q ≤ 262144 := by
    rcases b2 with b2 | b2
    · exact b2.bd sy.1 sy.2
    · omega
  refine ⟨k4, k5, by rw [k1]; omega, by rw [k2]; omega, by rw [k3]; omega, fun hf => ?_⟩
  rw [box_shift (h.mono (M' := M + 262144) (by omega)) hst (by omega) k1 k2 k3 k4 k5, ← hbx, ← e1]
  obtain ⟨hS, -⟩ := h2.box (by omega)
  unfold goV
  exact free_stepV hS (by omega) (by omega) (by rw [hbx]; exact hf)
end Go.Proofs.Ytnokibdecnddlaa

/- Inputs in a row, one by one. -/
namespace Go.Proofs.Ytnokibdecnddlaa
open Go.RowKit

theorem Rws.in3 {w : World} {q : Option Addr} {n : Nat} {F : Nat → InD} (h : Rws 3 enIn w q n F) {k : Nat} (hk : k < n) {a b : Int} {c : Bool} (e : F k = (a, b, c)) : ∃ g o, q = some ⟨g, o, none⟩ ∧ w.cell? ⟨g, o + k * 3, none⟩ = some (.int .i64 a) ∧ w.cell? ⟨g, o + k * 3 + 1, none⟩ = some (.int .i64 b) ∧ w.cell? ⟨g, o + k * 3 + 2, none⟩ = some (.bool c) := by
  obtain ⟨g, o, hq, h1⟩ := h (by omega)
  have h2 := h1 k hk
  rw [e] at h2
  exact ⟨g, o, hq, h2 0 _ rfl, h2 1 _ rfl, h2 2 _ rfl⟩
theorem Rws.in3' {w : World} {g o : Nat} {n : Nat} {F : Nat → InD} (h : Rws 3 enIn w (some ⟨g, o, none⟩) n F) {k : Nat} (hk : k < n) {a b : Int} {c : Bool} (e : F k = (a, b, c)) : w.cell? ⟨g, o + k * 3, none⟩ = some (.int .i64 a) ∧ w.cell? ⟨g, o + k * 3 + 1, none⟩ = some (.int .i64 b) ∧ w.cell? ⟨g, o + k * 3 + 2, none⟩ = some (.bool c) := by
  obtain ⟨g', o', e', h1⟩ := h.in3 hk e
  injection e' with e'
  injection e' with e1 e2
  subst e1 e2
  exact h1
end Go.Proofs.Ytnokibdecnddlaa

/- The document's: a box that steps up. -/
namespace Go.Proofs.Ytnokibdecnddlaa
open Go.RowKit Go.Shelf
attribute [local go_sem] Oper.semAt_some

set_option maxRecDepth 100000 in
set_option maxHeartbeats 8000000 in
theorem rstep_c (q : Option Addr) (n cp : Nat) (F : Nat → Int) (els : Int) (x : B6) (dx dy dz up M : Int) (hM : M ≤ 71500000000000) (hM0 : 0 ≤ M) (hB : Sm6 M x) (w : World) (hq : Iq w q n F) :
    Calls Try.prog 48 #[.agg #[.slice q n cp, .int .i64 els], .agg (ag6 x), .agg #[.int .i64 dx, .int .i64 dy, .int .i64 dz], .int .i64 up] w fun r w' => r = .returned (bhT (stepV (fun c => atG n F els c.1 c.2.1 c.2.2) x dx dy dz up)) ∧ Below w.heap.size w w' := by
  obtain ⟨val, hval⟩ : ∃ val : Cl → Int, val = fun c => atG n F els c.1 c.2.1 c.2.2 := ⟨_, rfl⟩
  rw [← hval]
  have t0 := hB.bd
  have tH := (hi1_sm (val := val) (up := up) hB hM0 (by omega)).bd
  have tC := (oC_sm (val := val) (up := up) (dx := dx) (dz := dz) hB hM0 (by omega)).bd
  have tY := (st3_sm (val := val) (dx := dx) (dy := dy) (dz := dz) hB hM0 (by omega)).bd
  have C0 := fun W (h : Below w.heap.size w W) => rsmove_c q n cp F els x dx dy dz M hM hM0 hB W (hq.on h)
  have CS := fun W (h : Below w.heap.size w W) => rfStands_c q n cp F els x.1 x.2.1 x.2.2.1 x.2.2.2.1 x.2.2.2.2.1 x.2.2.2.2.2 (fun W => runder_c _ _ _ _ _ _ (by omega) (by omega) W) (hB.under hM0 (by omega)).1 (hB.under hM0 (by omega)).2 W (hq.on h)
  have C1 := fun W (h : Below w.heap.size w W) => ralong_c q n cp F els x 1 (mnI up 65536) M (by omega) hM0 hB W (hq.on h)
  have C2 := fun W (h : Below w.heap.size w W) => ralong_c q n cp F els (hi1 val x up).1 0 dx (M + 10000000) (by omega) (by omega) (hi1_sm hB hM0 (by omega)) W (hq.on h)
  have C3 := fun W (h : Below w.heap.size w W) => ralong_c q n cp F els (oA val x dx up).1 2 dz (M + 20000000) (by omega) (by omega) (oA_sm hB hM0 (by omega)) W (hq.on h)
  have C4 := fun W (h : Below w.heap.size w W) => ralong_c q n cp F els (oB val x dx dz up).1 1 (-rise val x up) (M + 30000000) (by omega) (by omega) (oB_sm hB hM0 (by omega)) W (hq.on h)
  have CW1 := fun W => rwent_c x (oC val x dx dz up).1 (by omega) (by omega) (by omega) (by omega) W
  have CW2 := fun W => rwent_c x (st3 val x dx dy dz) (by omega) (by omega) (by omega) (by omega) W
  have q1 : -9223372036854775808 ≤ (hi1 val x up).1.2.1 - x.2.1 ∧ (hi1 val x up).1.2.1 - x.2.1 ≤ 9223372036854775807 := by omega
  have q2 : -9223372036854775808 ≤ -((hi1 val x up).1.2.1 - x.2.1) ∧ -((hi1 val x up).1.2.1 - x.2.1) ≤ 9223372036854775807 := by omega
  rw [← hval] at C0 C1 C2 C3 C4
  have hv : ∀ c : Cl, atG n F els c.1 c.2.1 c.2.2 = val c := fun c => by rw [hval]
  simp only [hv] at CS
  clear hv
  clear t0 tH tC tY hM hM0 hB hq hval
  have fC : oC val x dx dz up = al6 val (oB val x dx dz up).1 1 (-rise val x up) := rfl
  have fB : oB val x dx dz up = al6 val (oA val x dx up).1 2 dz := rfl
  have fA : oA val x dx up = al6 val (hi1 val x up).1 0 dx := rfl
  have fH : hi1 val x up = al6 val x 1 (mnI up 65536) := rfl
  have fR : rise val x up = (hi1 val x up).1.2.1 - x.2.1 := rfl
  rw [← fC] at C4
  rw [← fB] at C3
  rw [← fA] at C2
  rw [← fH] at C1
  rw [fR] at C4
  have fS : unB val x = (cellsI x.1 (cutI (x.2.1 - 1)) x.2.2.1 x.2.2.2.1 x.2.1 x.2.2.2.2.2).any fun c => solB (val c) := rfl
  rw [← fS] at CS
  unfold moveT at C0
  unfold stepV
  clear fC fB fA fH fR fS
  generalize hi1 val x up = H at C1 C2 q1 q2 C4
  generalize oA val x dx up = A at C2 C3 ⊢
  generalize oB val x dx dz up = B at C3 C4 ⊢
  generalize oC val x dx dz up = C at C4 CW1 ⊢
  generalize st3 val x dx dy dz = y at C0 CW2 ⊢
  generalize hx2 val x dx dy = u0 at C0 ⊢
  generalize hy1 val x dy = u1 at C0 ⊢
  generalize hz3 val x dx dy dz = u2 at C0 ⊢
  generalize unB val x = st at CS ⊢
  generalize wentI x C.1 = n1 at CW1 ⊢
  generalize wentI x y = n2 at CW2 ⊢
  obtain ⟨r, hr⟩ : ∃ r, r = stepOf y C.1 u0 u1 u2 A.2 B.2 st up n1 n2 := ⟨_, rfl⟩
  rw [← hr]
  obtain ⟨a, b, c, d, e, f⟩ := x
  obtain ⟨y1, y2, y3, y4, y5, y6⟩ := y
  obtain ⟨⟨h1, h2, h3, h4, h5, h6⟩, sh⟩ := H
  obtain ⟨⟨a1, a2, a3, a4, a5, a6⟩, sa⟩ := A
  obtain ⟨⟨b1, b2, b3, b4, b5, b6⟩, sb⟩ := B
  obtain ⟨⟨c1, c2, c3, c4, c5, c6⟩, sc⟩ := C
  simp only [alT, ag6, ah3, bhT] at *
  obtain ⟨q1, q3⟩ := q1
  obtain ⟨q2, q4⟩ := q2
  have HR := Lib.hid hr
  clear hr
  have HC0 := Lib.hid C0
  have HC1 := Lib.hid C1
  have HC2 := Lib.hid C2
  have HC3 := Lib.hid C3
  have HC4 := Lib.hid C4
  have HCS := Lib.hid CS
  have HW1 := Lib.hid CW1
  have HW2 := Lib.hid CW2
  clear C0 C1 C2 C3 C4 CS CW1 CW2
  obtain ⟨W, hW⟩ : ∃ W, W = ((((w.alloc (.cells #[.slice q n cp, .int .i64 els] 24)).alloc (.cells #[.int .i64 a, .int .i64 b, .int .i64 c, .int .i64 d, .int .i64 e, .int .i64 f] 48)).alloc (.cells #[.int .i64 dx, .int .i64 dy, .int .i64 dz] 26)).alloc (.cells #[.int .i64 0, .int .i64 0, .int .i64 0, .int .i64 0, .int .i64 0, .int .i64 0] 48)).alloc (.cells #[.bool false, .bool false, .bool false] 79) := ⟨_, rfl⟩
  have H : Below w.heap.size w W := by rw [hW]; go_grown
  have hs : W.heap.size = w.heap.size + 5 := by rw [hW]; simp
  obtain ⟨N, hN⟩ : ∃ N, N = w.heap.size := ⟨_, rfl⟩
  rw [← hN] at hs
  have HS := Lib.hid hs
  clear hs
  have G : Blk W N 24 _ := Blk.eqw hW.symm (by rw [hN]; exact ((((Blk.new' rfl).alloc _).alloc _).alloc _).alloc _)
  have U : Blk W (N + 1) 48 _ := Blk.eqw hW.symm (by rw [hN]; exact (((Blk.new' (by simp)).alloc _).alloc _).alloc _)
  have D : Blk W (N + 1 + 1) 26 _ := Blk.eqw hW.symm (by rw [hN]; exact ((Blk.new' (by simp)).alloc _).alloc _)
  have R0 : Blk W (N + 1 + 1 + 1) 48 _ := Blk.eqw hW.symm (by rw [hN]; exact (Blk.new' (by simp)).alloc _)
  have R1 : Blk W (N + 1 + 1 + 1 + 1) 79 _ := Blk.eqw hW.symm (by rw [hN]; exact Blk.new' (by simp))
  go_enter Try.func48, Try.ntmps48
  go_upto_region 1 with (fail)
  rw [← hW, ← hN]
  have HN := Lib.hid hN
  clear hW hN
  obtain ⟨u0', uu1, uu2, uu3, uu4, uu5⟩ := U.c6.1
  obtain ⟨v0, v1, v2, -, -, -⟩ := D.c3
  have g0 := G.cell 0
  have gg1 := G.cell 1
  go_upto_region 2 with (go_at_call 71; refine (HC0.out _ H).mono ?_; rintro e_ w1 ⟨rfl, k1⟩)
  generalize hV : World.alloc (World.alloc w1 _) _ = Y1
  have hy : Below w1.heap.size w1 Y1 := by rw [← hV]; go_grown
  have P : Blk Y1 w1.heap.size 48 #[.int .i64 y1, .int .i64 y2, .int .i64 y3, .int .i64 y4, .int .i64 y5, .int .i64 y6] := Blk.eqw hV ((Blk.new' rfl).alloc _)
  have Q : Blk Y1 (w1.heap.size + 1) 79 #[.bool u0, .bool u1, .bool u2] := Blk.eqw hV (Blk.new' (by simp))
  have hgp : N + 5 ≤ w1.heap.size := by rw [← HS.out]; exact k1.size
  replace G := G.on k1
  replace U := U.on k1
  replace D := D.on k1
  replace R0 := R0.on k1
  replace R1 := R1.on k1
  replace G := G.on hy
  replace U := U.on hy
  replace D := D.on hy
  replace R0 := R0.on hy
  replace R1 := R1.on hy
  replace H := after (after H k1) hy
  clear hV hy k1 u0' uu1 uu2 uu3 uu4 uu5 v0 v1 v2 g0 gg1
  generalize w1.heap.size = gp at P Q hgp ⊢
  have HH := Lib.hid H
  clear H HC0
  obtain ⟨u0', uu1, uu2, uu3, uu4, uu5⟩ := U.c6.1
  have g0 := G.cell 0
  have gg1 := G.cell 1
  go_upto_region 3 with (go_at_call 46; refine (HCS.out _ HH.out).mono ?_; rintro e_ w2 ⟨rfl, k2⟩)
  replace G := G.on k2
  replace U := U.on k2
  replace D := D.on k2
  replace P := P.on k2
  replace Q := Q.on k2
  replace R0 := R0.on k2
  replace R1 := R1.on k2
  have HH2 := Lib.hid (after HH.out k2)
  clear u0' uu1 uu2 uu3 uu4 uu5 g0 gg1 HH k2
  have HH := HH2
  clear HH2
  have ways : (u0 = false ∧ u2 = false) ∨ (u0 = false ∧ u2 = true ∧ st = false) ∨ (u0 = true ∧ st = false) ∨ (u0 = false ∧ u2 = true ∧ st = true ∧ up ≤ 0) ∨ (u0 = true ∧ st = true ∧ up ≤ 0) ∨ (u0 = false ∧ u2 = true ∧ 0 < up ∧ st = true) ∨ (u0 = true ∧ 0 < up ∧ st = true) := by
    cases u0 <;> cases u2 <;> cases st <;> simp <;> omega
  obtain ⟨t0, t1, t2, -, -, -⟩ := Q.c3
  rcases ways with ⟨rfl, rfl⟩ | ⟨rfl, rfl, rfl⟩ | ⟨rfl, rfl⟩ | ⟨rfl, rfl, rfl, hu⟩ | ⟨rfl, rfl, hu⟩ | ⟨rfl, rfl, hu, rfl⟩ | ⟨rfl, hu, rfl⟩
  · obtain rfl : r = ((y1, y2, y3, y4, y5, y6), false, u1, false) := by rw [HR.out, stepOf_no (.inl ⟨rfl, rfl⟩)]
    have x0 := fun f d os => (P.sp (D := [N + 1 + 1 + 1, N + 1 + 1 + 1 + 1]) (by simp; omega) f d os).c6.1
    have y0 := fun f d os => (Q.sp (D := [N + 1 + 1 + 1, N + 1 + 1 + 1 + 1]) (by simp; omega) f d os).c3
    go_upto_region 4 with (fail)
    have B1 := R0
    have B2 := R1
    refine wp_two [0, 0, 2, 2] 2 (N + 1 + 1 + 1) (48) (#[.int .i64 y1, .int .i64 y2, .int .i64 y3, .int .i64 y4, .int .i64 y5, .int .i64 y6]) 3 (N + 1 + 1 + 1 + 1) (79) (#[.bool false, .bool u1, .bool false]) (by omega) (by kernel_rfl) (by kernel_rfl) ?_
    repeat (first | (refine wpQs_s ?_) | (refine wpQs_q (fun K hK => ?_); go_simp; first | (refine hK _ ?_; clear hK K) | (apply Exists.intro; refine ⟨fun _ => ?_, hK _ ?_⟩; (fail); clear hK K)))
    refine wpQs_nil ?_
    repeat (refine wpLs_skip ?_)
    refine wpLs_one ?s1 (fun vs1_ => ?_)
    case s1 =>
      intro w_ hw_ hp_
      have L2 := hp_.blk (by simp [Ds2]) B1
      obtain ⟨⟨q0, q1, q2, q3, q4, q5⟩, f0, f1, f2, f3, f4, f5⟩ := L2.c6
      go_simp
      exact two_fst (by decide) kept6 (L2.st6 _ _ _ _ _ _)
    refine wpLs_one ?s2 (fun vs2_ => ?_)
    case s2 =>
      intro w_ hw_ hp_
      have T2 := hp_.blk (by simp [Ds2]) B2
      obtain ⟨q0, q1, q2, f0, f1, f2⟩ := T2.c3
      go_simp
      exact two_snd (by decide) kept3 (T2.st3 _ _ _)
    refine wpLs_nilD ?_
    simp only [tails]
    rintro w_ k_ ⟨⟨-, r1⟩, r2⟩
    obtain ⟨⟨m0, m1, m2, m3, m4, m5⟩, -, -, -, -, -, -⟩ := (r1.1 rfl).c6
    obtain ⟨j0, j1, j2, -, -, -⟩ := (r2.2 rfl).c3
    clear r1 r2 x0 y0 B1 B2
    simp only [wpList, Exit.then]
    rename_i hKret
    refine hKret _ _ (wp_ret ?_)
    try simp only [Exit.then]
    refine bodyPost_ret (v := .tuple #[.agg #[.int .i64 y1, .int .i64 y2, .int .i64 y3, .int .i64 y4, .int .i64 y5, .int .i64 y6], .agg #[.bool false, .bool u1, .bool false]]) (by simp [results, Try.f48, go_sem, m0, m1, m2, m3, m4, m5, j0, j1, j2]) rfl ⟨rfl, ?_⟩
    have hN_ := HN.out
    exact (HH.out).trans (k_.below (HH.out).size (fun b hb => by simp; omega))
  · obtain rfl : r = ((y1, y2, y3, y4, y5, y6), false, u1, true) := by rw [HR.out, stepOf_no (.inr (.inr (.inl rfl)))]
    have x0 := fun f d os => (P.sp (D := [N + 1 + 1 + 1, N + 1 + 1 + 1 + 1]) (by simp; omega) f d os).c6.1
    have y0 := fun f d os => (Q.sp (D := [N + 1 + 1 + 1, N + 1 + 1 + 1 + 1]) (by simp; omega) f d os).c3
    go_upto_region 4 with (fail)
    have B1 := R0
    have B2 := R1
    refine wp_two [0, 0, 2, 2] 2 (N + 1 + 1 + 1) (48) (#[.int .i64 y1, .int .i64 y2, .int .i64 y3, .int .i64 y4, .int .i64 y5, .int .i64 y6]) 3 (N + 1 + 1 + 1 + 1) (79) (#[.bool false, .bool u1, .bool true]) (by omega) (by kernel_rfl) (by kernel_rfl) ?_
    repeat (first | (refine wpQs_s ?_) | (refine wpQs_q (fun K hK => ?_); go_simp; first | (refine hK _ ?_; clear hK K) | (apply Exists.intro; refine ⟨fun _ => ?_, hK _ ?_⟩; (fail); clear hK K)))
    refine wpQs_nil ?_
    repeat (refine wpLs_skip ?_)
    refine wpLs_one ?s1 (fun vs1_ => ?_)
    case s1 =>
      intro w_ hw_ hp_
      have L2 := hp_.blk (by simp [Ds2]) B1
      obtain ⟨⟨q0, q1, q2, q3, q4, q5⟩, f0, f1, f2, f3, f4, f5⟩ := L2.c6
      go_simp
      exact two_fst (by decide) kept6 (L2.st6 _ _ _ _ _ _)
    refine wpLs_one ?s2 (fun vs2_ => ?_)
    case s2 =>
      intro w_ hw_ hp_
      have T2 := hp_.blk (by simp [Ds2]) B2
      obtain ⟨q0, q1, q2, f0, f1, f2⟩ := T2.c3
      go_simp
      exact two_snd (by decide) kept3 (T2.st3 _ _ _)
    refine wpLs_nilD ?_
    simp only [tails]
    rintro w_ k_ ⟨⟨-, r1⟩, r2⟩
    obtain ⟨⟨m0, m1, m2, m3, m4, m5⟩, -, -, -, -, -, -⟩ := (r1.1 rfl).c6
    obtain ⟨j0, j1, j2, -, -, -⟩ := (r2.2 rfl).c3
    clear r1 r2 x0 y0 B1 B2
    simp only [wpList, Exit.then]
    rename_i hKret
    refine hKret _ _ (wp_ret ?_)
    try simp only [Exit.then]
    refine bodyPost_ret (v := .tuple #[.agg #[.int .i64 y1, .int .i64 y2, .int .i64 y3, .int .i64 y4, .int .i64 y5, .int .i64 y6], .agg #[.bool false, .bool u1, .bool true]]) (by simp [results, Try.f48, go_sem, m0, m1, m2, m3, m4, m5, j0, j1, j2]) rfl ⟨rfl, ?_⟩
    have hN_ := HN.out
    exact (HH.out).trans (k_.below (HH.out).size (fun b hb => by simp; omega))
  · obtain rfl : r = ((y1, y2, y3, y4, y5, y6), true, u1, u2) := by rw [HR.out, stepOf_no (.inr (.inr (.inl rfl)))]
    have x0 := fun f d os => (P.sp (D := [N + 1 + 1 + 1, N + 1 + 1 + 1 + 1]) (by simp; omega) f d os).c6.1
    have y0 := fun f d os => (Q.sp (D := [N + 1 + 1 + 1, N + 1 + 1 + 1 + 1]) (by simp; omega) f d os).c3
    go_upto_region 4 with (fail)
    have B1 := R0
    have B2 := R1
    refine wp_two [0, 0, 2, 2] 2 (N + 1 + 1 + 1) (48) (#[.int .i64 y1, .int .i64 y2, .int .i64 y3, .int .i64 y4, .int .i64 y5, .int .i64 y6]) 3 (N + 1 + 1 + 1 + 1) (79) (#[.bool true, .bool u1, .bool u2]) (by omega) (by kernel_rfl) (by kernel_rfl) ?_
    repeat (first | (refine wpQs_s ?_) | (refine wpQs_q (fun K hK => ?_); go_simp; first | (refine hK _ ?_; clear hK K) | (apply Exists.intro; refine ⟨fun _ => ?_, hK _ ?_⟩; (fail); clear hK K)))
    refine wpQs_nil ?_
    repeat (refine wpLs_skip ?_)
    refine wpLs_one ?s1 (fun vs1_ => ?_)
    case s1 =>
      intro w_ hw_ hp_
      have L2 := hp_.blk (by simp [Ds2]) B1
      obtain ⟨⟨q0, q1, q2, q3, q4, q5⟩, f0, f1, f2, f3, f4, f5⟩ := L2.c6
      go_simp
      exact two_fst (by decide) kept6 (L2.st6 _ _ _ _ _ _)
    refine wpLs_one ?s2 (fun vs2_ => ?_)
    case s2 =>
      intro w_ hw_ hp_
      have T2 := hp_.blk (by simp [Ds2]) B2
      obtain ⟨q0, q1, q2, f0, f1, f2⟩ := T2.c3
      go_simp
      exact two_snd (by decide) kept3 (T2.st3 _ _ _)
    refine wpLs_nilD ?_
    simp only [tails]
    rintro w_ k_ ⟨⟨-, r1⟩, r2⟩
    obtain ⟨⟨m0, m1, m2, m3, m4, m5⟩, -, -, -, -, -, -⟩ := (r1.1 rfl).c6
    obtain ⟨j0, j1, j2, -, -, -⟩ := (r2.2 rfl).c3
    clear r1 r2 x0 y0 B1 B2
    simp only [wpList, Exit.then]
    rename_i hKret
    refine hKret _ _ (wp_ret ?_)
    try simp only [Exit.then]
    refine bodyPost_ret (v := .tuple #[.agg #[.int .i64 y1, .int .i64 y2, .int .i64 y3, .int .i64 y4, .int .i64 y5, .int .i64 y6], .agg #[.bool true, .bool u1, .bool u2]]) (by simp [results, Try.f48, go_sem, m0, m1, m2, m3, m4, m5, j0, j1, j2]) rfl ⟨rfl, ?_⟩
    have hN_ := HN.out
    exact (HH.out).trans (k_.below (HH.out).size (fun b hb => by simp; omega))
  · obtain rfl : r = ((y1, y2, y3, y4, y5, y6), false, u1, true) := by rw [HR.out, stepOf_no (.inr (.inl hu))]
    have x0 := fun f d os => (P.sp (D := [N + 1 + 1 + 1, N + 1 + 1 + 1 + 1]) (by simp; omega) f d os).c6.1
    have y0 := fun f d os => (Q.sp (D := [N + 1 + 1 + 1, N + 1 + 1 + 1 + 1]) (by simp; omega) f d os).c3
    go_upto_region 4 with (fail)
    have B1 := R0
    have B2 := R1
    refine wp_two [0, 0, 2, 2] 2 (N + 1 + 1 + 1) (48) (#[.int .i64 y1, .int .i64 y2, .int .i64 y3, .int .i64 y4, .int .i64 y5, .int .i64 y6]) 3 (N + 1 + 1 + 1 + 1) (79) (#[.bool false, .bool u1, .bool true]) (by omega) (by kernel_rfl) (by kernel_rfl) ?_
    repeat (first | (refine wpQs_s ?_) | (refine wpQs_q (fun K hK => ?_); go_simp; first | (refine hK _ ?_; clear hK K) | (apply Exists.intro; refine ⟨fun _ => ?_, hK _ ?_⟩; (fail); clear hK K)))
    refine wpQs_nil ?_
    repeat (refine wpLs_skip ?_)
    refine wpLs_one ?s1 (fun vs1_ => ?_)
    case s1 =>
      intro w_ hw_ hp_
      have L2 := hp_.blk (by simp [Ds2]) B1
      obtain ⟨⟨q0, q1, q2, q3, q4, q5⟩, f0, f1, f2, f3, f4, f5⟩ := L2.c6
      go_simp
      exact two_fst (by decide) kept6 (L2.st6 _ _ _ _ _ _)
    refine wpLs_one ?s2 (fun vs2_ => ?_)
    case s2 =>
      intro w_ hw_ hp_
      have T2 := hp_.blk (by simp [Ds2]) B2
      obtain ⟨q0, q1, q2, f0, f1, f2⟩ := T2.c3
      go_simp
      exact two_snd (by decide) kept3 (T2.st3 _ _ _)
    refine wpLs_nilD ?_
    simp only [tails]
    rintro w_ k_ ⟨⟨-, r1⟩, r2⟩
    obtain ⟨⟨m0, m1, m2, m3, m4, m5⟩, -, -, -, -, -, -⟩ := (r1.1 rfl).c6
    obtain ⟨j0, j1, j2, -, -, -⟩ := (r2.2 rfl).c3
    clear r1 r2 x0 y0 B1 B2
    simp only [wpList, Exit.then]
    rename_i hKret
    refine hKret _ _ (wp_ret ?_)
    try simp only [Exit.then]
    refine bodyPost_ret (v := .tuple #[.agg #[.int .i64 y1, .int .i64 y2, .int .i64 y3, .int .i64 y4, .int .i64 y5, .int .i64 y6], .agg #[.bool false, .bool u1, .bool true]]) (by simp [results, Try.f48, go_sem, m0, m1, m2, m3, m4, m5, j0, j1, j2]) rfl ⟨rfl, ?_⟩
    have hN_ := HN.out
    exact (HH.out).trans (k_.below (HH.out).size (fun b hb => by simp; omega))
  · obtain rfl : r = ((y1, y2, y3, y4, y5, y6), true, u1, u2) := by rw [HR.out, stepOf_no (.inr (.inl hu))]
    have x0 := fun f d os => (P.sp (D := [N + 1 + 1 + 1, N + 1 + 1 + 1 + 1]) (by simp; omega) f d os).c6.1
    have y0 := fun f d os => (Q.sp (D := [N + 1 + 1 + 1, N + 1 + 1 + 1 + 1]) (by simp; omega) f d os).c3
    go_upto_region 4 with (fail)
    have B1 := R0
    have B2 := R1
    refine wp_two [0, 0, 2, 2] 2 (N + 1 + 1 + 1) (48) (#[.int .i64 y1, .int .i64 y2, .int .i64 y3, .int .i64 y4, .int .i64 y5, .int .i64 y6]) 3 (N + 1 + 1 + 1 + 1) (79) (#[.bool true, .bool u1, .bool u2]) (by omega) (by kernel_rfl) (by kernel_rfl) ?_
    repeat (first | (refine wpQs_s ?_) | (refine wpQs_q (fun K hK => ?_); go_simp; first | (refine hK _ ?_; clear hK K) | (apply Exists.intro; refine ⟨fun _ => ?_, hK _ ?_⟩; (fail); clear hK K)))
    refine wpQs_nil ?_
    repeat (refine wpLs_skip ?_)
    refine wpLs_one ?s1 (fun vs1_ => ?_)
    case s1 =>
      intro w_ hw_ hp_
      have L2 := hp_.blk (by simp [Ds2]) B1
      obtain ⟨⟨q0, q1, q2, q3, q4, q5⟩, f0, f1, f2, f3, f4, f5⟩ := L2.c6
      go_simp
      exact two_fst (by decide) kept6 (L2.st6 _ _ _ _ _ _)
    refine wpLs_one ?s2 (fun vs2_ => ?_)
    case s2 =>
      intro w_ hw_ hp_
      have T2 := hp_.blk (by simp [Ds2]) B2
      obtain ⟨q0, q1, q2, f0, f1, f2⟩ := T2.c3
      go_simp
      exact two_snd (by decide) kept3 (T2.st3 _ _ _)
    refine wpLs_nilD ?_
    simp only [tails]
    rintro w_ k_ ⟨⟨-, r1⟩, r2⟩
    obtain ⟨⟨m0, m1, m2, m3, m4, m5⟩, -, -, -, -, -, -⟩ := (r1.1 rfl).c6
    obtain ⟨j0, j1, j2, -, -, -⟩ := (r2.2 rfl).c3
    clear r1 r2 x0 y0 B1 B2
    simp only [wpList, Exit.then]
    rename_i hKret
    refine hKret _ _ (wp_ret ?_)
    try simp only [Exit.then]
    refine bodyPost_ret (v := .tuple #[.agg #[.int .i64 y1, .int .i64 y2, .int .i64 y3, .int .i64 y4, .int .i64 y5, .int .i64 y6], .agg #[.bool true, .bool u1, .bool u2]]) (by simp [results, Try.f48, go_sem, m0, m1, m2, m3, m4, m5, j0, j1, j2]) rfl ⟨rfl, ?_⟩
    have hN_ := HN.out
    exact (HH.out).trans (k_.below (HH.out).size (fun b hb => by simp; omega))
  · have hu1 : decide (up ≤ 0) = false := by simpa using hu
    have hmn := @run_mn Try.prog
    obtain ⟨u0', uu1, uu2, uu3, uu4, uu5⟩ := U.c6.1
    have g0 := G.cell 0
    have gg1 := G.cell 1
    go_upto_region 6 with (go_at_call 82; refine (HC1.out _ HH.out).mono ?_; rintro e_ w3 ⟨rfl, k3⟩)
    generalize hV : World.alloc w3 _ = Y3
    have hy : Below w3.heap.size w3 Y3 := by rw [← hV]; go_grown
    have Hb : Blk Y3 w3.heap.size 48 #[.int .i64 h1, .int .i64 h2, .int .i64 h3, .int .i64 h4, .int .i64 h5, .int .i64 h6] := Blk.eqw hV (Blk.new' rfl)
    replace G := G.on k3
    replace U := U.on k3
    replace D := D.on k3
    replace P := P.on k3
    replace Q := Q.on k3
    replace R0 := R0.on k3
    replace R1 := R1.on k3
    replace G := G.on hy
    replace U := U.on hy
    replace D := D.on hy
    replace P := P.on hy
    replace Q := Q.on hy
    replace R0 := R0.on hy
    replace R1 := R1.on hy
    have HH2 := Lib.hid (after (after HH.out k3) hy)
    clear hV hy k3 HH t0 t1 t2 u0' uu1 uu2 uu3 uu4 uu5 g0 gg1
    have HH := HH2
    clear HH2
    generalize w3.heap.size = g3 at Hb ⊢
    obtain ⟨u0', uu1, uu2, uu3, uu4, uu5⟩ := U.c6.1
    obtain ⟨x0, x1, x2, x3, x4, x5⟩ := Hb.c6.1
    obtain ⟨v0, v1, v2, -, -, -⟩ := D.c3
    have g0 := G.cell 0
    have gg1 := G.cell 1
    go_upto_region 8 with (go_at_call 82; refine (HC2.out _ HH.out).mono ?_; rintro e_ w4 ⟨rfl, k3⟩)
    generalize hV : World.alloc w4 _ = Y4
    have hy : Below w4.heap.size w4 Y4 := by rw [← hV]; go_grown
    have Ha : Blk Y4 w4.heap.size 48 #[.int .i64 a1, .int .i64 a2, .int .i64 a3, .int .i64 a4, .int .i64 a5, .int .i64 a6] := Blk.eqw hV (Blk.new' rfl)
    replace G := G.on k3
    replace U := U.on k3
    replace D := D.on k3
    replace P := P.on k3
    replace Q := Q.on k3
    replace R0 := R0.on k3
    replace R1 := R1.on k3
    replace G := G.on hy
    replace U := U.on hy
    replace D := D.on hy
    replace P := P.on hy
    replace Q := Q.on hy
    replace R0 := R0.on hy
    replace R1 := R1.on hy
    have HH2 := Lib.hid (after (after HH.out k3) hy)
    clear hV hy k3 HH Hb u0' uu1 uu2 uu3 uu4 uu5 g0 gg1 x0 x1 x2 x3 x4 x5 v0 v1 v2
    have HH := HH2
    clear HH2
    generalize w4.heap.size = g_w4 at Ha ⊢
    obtain ⟨u0', uu1, uu2, uu3, uu4, uu5⟩ := U.c6.1
    obtain ⟨x0, x1, x2, x3, x4, x5⟩ := Ha.c6.1
    obtain ⟨v0, v1, v2, -, -, -⟩ := D.c3
    have g0 := G.cell 0
    have gg1 := G.cell 1
    go_upto_region 9 with (go_at_call 82; refine (HC3.out _ HH.out).mono ?_; rintro e_ w5 ⟨rfl, k3⟩)
    generalize hV : World.alloc w5 _ = Y5
    have hy : Below w5.heap.size w5 Y5 := by rw [← hV]; go_grown
    have Hc : Blk Y5 w5.heap.size 48 #[.int .i64 b1, .int .i64 b2, .int .i64 b3, .int .i64 b4, .int .i64 b5, .int .i64 b6] := Blk.eqw hV (Blk.new' rfl)
    replace G := G.on k3
    replace U := U.on k3
    replace D := D.on k3
    replace P := P.on k3
    replace Q := Q.on k3
    replace R0 := R0.on k3
    replace R1 := R1.on k3
    replace G := G.on hy
    replace U := U.on hy
    replace D := D.on hy
    replace P := P.on hy
    replace Q := Q.on hy
    replace R0 := R0.on hy
    replace R1 := R1.on hy
    have HH2 := Lib.hid (after (after HH.out k3) hy)
    clear hV hy k3 HH Ha u0' uu1 uu2 uu3 uu4 uu5 g0 gg1 x0 x1 x2 x3 x4 x5 v0 v1 v2
    have HH := HH2
    clear HH2
    generalize w5.heap.size = g_w5 at Hc ⊢
    obtain ⟨u0', uu1, uu2, uu3, uu4, uu5⟩ := U.c6.1
    obtain ⟨x0, x1, x2, x3, x4, x5⟩ := Hc.c6.1
    obtain ⟨v0, v1, v2, -, -, -⟩ := D.c3
    have g0 := G.cell 0
    have gg1 := G.cell 1
    go_upto_region 10 with (go_at_call 82; refine (HC4.out _ HH.out).mono ?_; rintro e_ w6 ⟨rfl, k3⟩)
    generalize hV : World.alloc w6 _ = Y6
    have hy : Below w6.heap.size w6 Y6 := by rw [← hV]; go_grown
    have Hd : Blk Y6 w6.heap.size 48 #[.int .i64 c1, .int .i64 c2, .int .i64 c3, .int .i64 c4, .int .i64 c5, .int .i64 c6] := Blk.eqw hV (Blk.new' rfl)
    replace G := G.on k3
    replace U := U.on k3
    replace D := D.on k3
    replace P := P.on k3
    replace Q := Q.on k3
    replace R0 := R0.on k3
    replace R1 := R1.on k3
    replace G := G.on hy
    replace U := U.on hy
    replace D := D.on hy
    replace P := P.on hy
    replace Q := Q.on hy
    replace R0 := R0.on hy
    replace R1 := R1.on hy
    have HH2 := Lib.hid (after (after HH.out k3) hy)
    clear hV hy k3 HH Hc u0' uu1 uu2 uu3 uu4 uu5 g0 gg1 x0 x1 x2 x3 x4 x5 v0 v1 v2
    have HH := HH2
    clear HH2
    generalize w6.heap.size = g_w6 at Hd ⊢
    obtain ⟨x0, x1, x2, x3, x4, x5⟩ := Hd.re6
    obtain ⟨v0, v1, v2, v3, v4, v5⟩ := P.re6
    obtain ⟨u0', uu1, uu2, uu3, uu4, uu5⟩ := U.re6
    refine wp_region_quiet_below (by kernel_rfl) (by kernel_rfl) ?_
    repeat (go_big_quiet_step (first | (with_reducible exact Calls.regrown_of (HW1.out _)) | (with_reducible exact Calls.regrown_of (HW2.out _))))
    refine wpQuiet_nil ?_
    intro w' hw'
    obtain ⟨rg, rfl⟩ := hw'
    clear v0 v1 v2 v3 v4 v5 x0 x1 x2 x3 x4 x5 u0' uu1 uu2 uu3 uu4 uu5
    obtain ⟨Y8, hY8⟩ : ∃ Y8, Y8 = Go.Sort.grow (redrawn Y6 rg.d) rg.os := ⟨_, rfl⟩
    rw [← hY8]
    have hy : Below Y6.heap.size Y6 Y8 := by rw [hY8]; exact below_regrown _ _ _
    replace P := P.on hy
    replace Q := Q.on hy
    replace R0 := R0.on hy
    replace R1 := R1.on hy
    replace Hd := Hd.on hy
    have HH2 := Lib.hid (after HH.out hy)
    clear hY8 hy U D G HH
    have HH := HH2
    clear HH2
    rcases (show n1 ≤ n2 ∨ n2 < n1 by omega) with hn | hn
    · obtain rfl : r = ((y1, y2, y3, y4, y5, y6), false, u1, true) := by rw [HR.out, stepOf_no (.inr (.inr (.inr hn)))]
      have hn2 : decide (n2 < n1) = false := by simpa using hn
      have x0 := fun f d os => (P.sp (D := [N + 1 + 1 + 1, N + 1 + 1 + 1 + 1]) (by simp; omega) f d os).c6.1
      have y0 := fun f d os => (Q.sp (D := [N + 1 + 1 + 1, N + 1 + 1 + 1 + 1]) (by simp; omega) f d os).c3
      go_upto_region 12 with (fail)
      have B1 := R0
      have B2 := R1
      refine wp_two [0, 0, 2, 2] 2 (N + 1 + 1 + 1) (48) (#[.int .i64 y1, .int .i64 y2, .int .i64 y3, .int .i64 y4, .int .i64 y5, .int .i64 y6]) 3 (N + 1 + 1 + 1 + 1) (79) (#[.bool false, .bool u1, .bool true]) (by omega) (by kernel_rfl) (by kernel_rfl) ?_
      repeat (first | (refine wpQs_s ?_) | (refine wpQs_q (fun K hK => ?_); go_simp; first | (refine hK _ ?_; clear hK K) | (apply Exists.intro; refine ⟨fun _ => ?_, hK _ ?_⟩; (fail); clear hK K)))
      refine wpQs_nil ?_
      repeat (refine wpLs_skip ?_)
      refine wpLs_one ?s1 (fun vs1_ => ?_)
      case s1 =>
        intro w_ hw_ hp_
        have L2 := hp_.blk (by simp [Ds2]) B1
        obtain ⟨⟨q0, q1, q2, q3, q4, q5⟩, f0, f1, f2, f3, f4, f5⟩ := L2.c6
        go_simp
        exact two_fst (by decide) kept6 (L2.st6 _ _ _ _ _ _)
      refine wpLs_one ?s2 (fun vs2_ => ?_)
      case s2 =>
        intro w_ hw_ hp_
        have T2 := hp_.blk (by simp [Ds2]) B2
        obtain ⟨q0, q1, q2, f0, f1, f2⟩ := T2.c3
        go_simp
        exact two_snd (by decide) kept3 (T2.st3 _ _ _)
      refine wpLs_nilD ?_
      simp only [tails]
      rintro w_ k_ ⟨⟨-, r1⟩, r2⟩
      obtain ⟨⟨m0, m1, m2, m3, m4, m5⟩, -, -, -, -, -, -⟩ := (r1.1 rfl).c6
      obtain ⟨j0, j1, j2, -, -, -⟩ := (r2.2 rfl).c3
      clear r1 r2 x0 y0 B1 B2
      simp only [wpList, Exit.then]
      rename_i hKret
      refine hKret _ _ (wp_ret ?_)
      try simp only [Exit.then]
      refine bodyPost_ret (v := .tuple #[.agg #[.int .i64 y1, .int .i64 y2, .int .i64 y3, .int .i64 y4, .int .i64 y5, .int .i64 y6], .agg #[.bool false, .bool u1, .bool true]]) (by simp [results, Try.f48, go_sem, m0, m1, m2, m3, m4, m5, j0, j1, j2]) rfl ⟨rfl, ?_⟩
      have hN_ := HN.out
      exact (HH.out).trans (k_.below (HH.out).size (fun b hb => by simp; omega))
    · obtain rfl : r = ((c1, c2, c3, c4, c5, c6), sa, true, sb) := by rw [HR.out, stepOf_yes (.inr rfl) hu hn]
      obtain ⟨x0, x1, x2, x3, x4, x5⟩ := Hd.c6.1
      obtain ⟨⟨r0, r1, r2, r3, r4, r5⟩, z0, z1, z2, z3, z4, z5⟩ := R0.c6
      obtain ⟨t0, t1, t2, tf0, tf1, tf2⟩ := R1.c3
      repeat (first | go_skip | go_guarded | go_step | go_upon | go_back)
      have hNw := HN.out
      have K0 := HH.out
      have X0 := ((((R0.st6 (.int .i64 c1) (.int .i64 c2) (.int .i64 c3) (.int .i64 c4) (.int .i64 c5) (.int .i64 c6)).far (p := ⟨N + 1 + 1 + 1 + 1, 0, none⟩) (by dsimp only; omega) (.bool sa)).far (p := ⟨N + 1 + 1 + 1 + 1, 1, none⟩) (by dsimp only; omega) (.bool true)).far (p := ⟨N + 1 + 1 + 1 + 1, 2, none⟩) (by dsimp only; omega) (.bool sb))
      have X1 := (sx6_far R1 (show N + 1 + 1 + 1 + 1 ≠ N + 1 + 1 + 1 by omega) (.int .i64 c1) (.int .i64 c2) (.int .i64 c3) (.int .i64 c4) (.int .i64 c5) (.int .i64 c6)).st3 (.bool sa) (.bool true) (.bool sb)
      obtain ⟨⟨m0, m1, m2, m3, m4, m5⟩, -, -, -, -, -, -⟩ := X0.c6
      obtain ⟨j0, j1, j2, -, -, -⟩ := X1.c3
      refine bodyPost_ret (v := .tuple #[.agg #[.int .i64 c1, .int .i64 c2, .int .i64 c3, .int .i64 c4, .int .i64 c5, .int .i64 c6], .agg #[.bool sa, .bool true, .bool sb]]) (by simp [results, Try.f48, go_sem, m0, m1, m2, m3, m4, m5, j0, j1, j2]) rfl ⟨rfl, ?_⟩
      exact (((sx6_below K0 (by omega) _ _ _ _ _ _).setCell (p := ⟨N + 1 + 1 + 1 + 1, 0, none⟩) (by dsimp only; omega) _).setCell (p := ⟨N + 1 + 1 + 1 + 1, 1, none⟩) (by dsimp only; omega) _).setCell (p := ⟨N + 1 + 1 + 1 + 1, 2, none⟩) (by dsimp only; omega) _
  · have hu1 : decide (up ≤ 0) = false := by simpa using hu
    have hmn := @run_mn Try.prog
    obtain ⟨u0', uu1, uu2, uu3, uu4, uu5⟩ := U.c6.1
    have g0 := G.cell 0
    have gg1 := G.cell 1
    go_upto_region 6 with (go_at_call 82; refine (HC1.out _ HH.out).mono ?_; rintro e_ w3 ⟨rfl, k3⟩)
    generalize hV : World.alloc w3 _ = Y3
    have hy : Below w3.heap.size w3 Y3 := by rw [← hV]; go_grown
    have Hb : Blk Y3 w3.heap.size 48 #[.int .i64 h1, .int .i64 h2, .int .i64 h3, .int .i64 h4, .int .i64 h5, .int .i64 h6] := Blk.eqw hV (Blk.new' rfl)
    replace G := G.on k3
    replace U := U.on k3
    replace D := D.on k3
    replace P := P.on k3
    replace Q := Q.on k3
    replace R0 := R0.on k3
    replace R1 := R1.on k3
    replace G := G.on hy
    replace U := U.on hy
    replace D := D.on hy
    replace P := P.on hy
    replace Q := Q.on hy
    replace R0 := R0.on hy
    replace R1 := R1.on hy
    have HH2 := Lib.hid (after (after HH.out k3) hy)
    clear hV hy k3 HH t0 t1 t2 u0' uu1 uu2 uu3 uu4 uu5 g0 gg1
    have HH := HH2
    clear HH2
    generalize w3.heap.size = g3 at Hb ⊢
    obtain ⟨u0', uu1, uu2, uu3, uu4, uu5⟩ := U.c6.1
    obtain ⟨x0, x1, x2, x3, x4, x5⟩ := Hb.c6.1
    obtain ⟨v0, v1, v2, -, -, -⟩ := D.c3
    have g0 := G.cell 0
    have gg1 := G.cell 1
    go_upto_region 8 with (go_at_call 82; refine (HC2.out _ HH.out).mono ?_; rintro e_ w4 ⟨rfl, k3⟩)
    generalize hV : World.alloc w4 _ = Y4
    have hy : Below w4.heap.size w4 Y4 := by rw [← hV]; go_grown
    have Ha : Blk Y4 w4.heap.size 48 #[.int .i64 a1, .int .i64 a2, .int .i64 a3, .int .i64 a4, .int .i64 a5, .int .i64 a6] := Blk.eqw hV (Blk.new' rfl)
    replace G := G.on k3
    replace U := U.on k3
    replace D := D.on k3
    replace P := P.on k3
    replace Q := Q.on k3
    replace R0 := R0.on k3
    replace R1 := R1.on k3
    replace G := G.on hy
    replace U := U.on hy
    replace D := D.on hy
    replace P := P.on hy
    replace Q := Q.on hy
    replace R0 := R0.on hy
    replace R1 := R1.on hy
    have HH2 := Lib.hid (after (after HH.out k3) hy)
    clear hV hy k3 HH Hb u0' uu1 uu2 uu3 uu4 uu5 g0 gg1 x0 x1 x2 x3 x4 x5 v0 v1 v2
    have HH := HH2
    clear HH2
    generalize w4.heap.size = g_w4 at Ha ⊢
    obtain ⟨u0', uu1, uu2, uu3, uu4, uu5⟩ := U.c6.1
    obtain ⟨x0, x1, x2, x3, x4, x5⟩ := Ha.c6.1
    obtain ⟨v0, v1, v2, -, -, -⟩ := D.c3
    have g0 := G.cell 0
    have gg1 := G.cell 1
    go_upto_region 9 with (go_at_call 82; refine (HC3.out _ HH.out).mono ?_; rintro e_ w5 ⟨rfl, k3⟩)
    generalize hV : World.alloc w5 _ = Y5
    have hy : Below w5.heap.size w5 Y5 := by rw [← hV]; go_grown
    have Hc : Blk Y5 w5.heap.size 48 #[.int .i64 b1, .int .i64 b2, .int .i64 b3, .int .i64 b4, .int .i64 b5, .int .i64 b6] := Blk.eqw hV (Blk.new' rfl)
    replace G := G.on k3
    replace U := U.on k3
    replace D := D.on k3
    replace P := P.on k3
    replace Q := Q.on k3
    replace R0 := R0.on k3
    replace R1 := R1.on k3
    replace G := G.on hy
    replace U := U.on hy
    replace D := D.on hy
    replace P := P.on hy
    replace Q := Q.on hy
    replace R0 := R0.on hy
    replace R1 := R1.on hy
    have HH2 := Lib.hid (after (after HH.out k3) hy)
    clear hV hy k3 HH Ha u0' uu1 uu2 uu3 uu4 uu5 g0 gg1 x0 x1 x2 x3 x4 x5 v0 v1 v2
    have HH := HH2
    clear HH2
    generalize w5.heap.size = g_w5 at Hc ⊢
    obtain ⟨u0', uu1, uu2, uu3, uu4, uu5⟩ := U.c6.1
    obtain ⟨x0, x1, x2, x3, x4, x5⟩ := Hc.c6.1
    obtain ⟨v0, v1, v2, -, -, -⟩ := D.c3
    have g0 := G.cell 0
    have gg1 := G.cell 1
    go_upto_region 10 with (go_at_call 82; refine (HC4.out _ HH.out).mono ?_; rintro e_ w6 ⟨rfl, k3⟩)
    generalize hV : World.alloc w6 _ = Y6
    have hy : Below w6.heap.size w6 Y6 := by rw [← hV]; go_grown
    have Hd : Blk Y6 w6.heap.size 48 #[.int .i64 c1, .int .i64 c2, .int .i64 c3, .int .i64 c4, .int .i64 c5, .int .i64 c6] := Blk.eqw hV (Blk.new' rfl)
    replace G := G.on k3
    replace U := U.on k3
    replace D := D.on k3
    replace P := P.on k3
    replace Q := Q.on k3
    replace R0 := R0.on k3
    replace R1 := R1.on k3
    replace G := G.on hy
    replace U := U.on hy
    replace D := D.on hy
    replace P := P.on hy
    replace Q := Q.on hy
    replace R0 := R0.on hy
    replace R1 := R1.on hy
    have HH2 := Lib.hid (after (after HH.out k3) hy)
    clear hV hy k3 HH Hc u0' uu1 uu2 uu3 uu4 uu5 g0 gg1 x0 x1 x2 x3 x4 x5 v0 v1 v2
    have HH := HH2
    clear HH2
    generalize w6.heap.size = g_w6 at Hd ⊢
    obtain ⟨x0, x1, x2, x3, x4, x5⟩ := Hd.re6
    obtain ⟨v0, v1, v2, v3, v4, v5⟩ := P.re6
    obtain ⟨u0', uu1, uu2, uu3, uu4, uu5⟩ := U.re6
    refine wp_region_quiet_below (by kernel_rfl) (by kernel_rfl) ?_
    repeat (go_big_quiet_step (first | (with_reducible exact Calls.regrown_of (HW1.out _)) | (with_reducible exact Calls.regrown_of (HW2.out _))))
    refine wpQuiet_nil ?_
    intro w' hw'
    obtain ⟨rg, rfl⟩ := hw'
    clear v0 v1 v2 v3 v4 v5 x0 x1 x2 x3 x4 x5 u0' uu1 uu2 uu3 uu4 uu5
    obtain ⟨Y8, hY8⟩ : ∃ Y8, Y8 = Go.Sort.grow (redrawn Y6 rg.d) rg.os := ⟨_, rfl⟩
    rw [← hY8]
    have hy : Below Y6.heap.size Y6 Y8 := by rw [hY8]; exact below_regrown _ _ _
    replace P := P.on hy
    replace Q := Q.on hy
    replace R0 := R0.on hy
    replace R1 := R1.on hy
    replace Hd := Hd.on hy
    have HH2 := Lib.hid (after HH.out hy)
    clear hY8 hy U D G HH
    have HH := HH2
    clear HH2
    rcases (show n1 ≤ n2 ∨ n2 < n1 by omega) with hn | hn
    · obtain rfl : r = ((y1, y2, y3, y4, y5, y6), true, u1, u2) := by rw [HR.out, stepOf_no (.inr (.inr (.inr hn)))]
      have hn2 : decide (n2 < n1) = false := by simpa using hn
      have x0 := fun f d os => (P.sp (D := [N + 1 + 1 + 1, N + 1 + 1 + 1 + 1]) (by simp; omega) f d os).c6.1
      have y0 := fun f d os => (Q.sp (D := [N + 1 + 1 + 1, N + 1 + 1 + 1 + 1]) (by simp; omega) f d os).c3
      go_upto_region 12 with (fail)
      have B1 := R0
      have B2 := R1
      refine wp_two [0, 0, 2, 2] 2 (N + 1 + 1 + 1) (48) (#[.int .i64 y1, .int .i64 y2, .int .i64 y3, .int .i64 y4, .int .i64 y5, .int .i64 y6]) 3 (N + 1 + 1 + 1 + 1) (79) (#[.bool true, .bool u1, .bool u2]) (by omega) (by kernel_rfl) (by kernel_rfl) ?_
      repeat (first | (refine wpQs_s ?_) | (refine wpQs_q (fun K hK => ?_); go_simp; first | (refine hK _ ?_; clear hK K) | (apply Exists.intro; refine ⟨fun _ => ?_, hK _ ?_⟩; (fail); clear hK K)))
      refine wpQs_nil ?_
      repeat (refine wpLs_skip ?_)
      refine wpLs_one ?s1 (fun vs1_ => ?_)
      case s1 =>
        intro w_ hw_ hp_
        have L2 := hp_.blk (by simp [Ds2]) B1
        obtain ⟨⟨q0, q1, q2, q3, q4, q5⟩, f0, f1, f2, f3, f4, f5⟩ := L2.c6
        go_simp
        exact two_fst (by decide) kept6 (L2.st6 _ _ _ _ _ _)
      refine wpLs_one ?s2 (fun vs2_ => ?_)
      case s2 =>
        intro w_ hw_ hp_
        have T2 := hp_.blk (by simp [Ds2]) B2
        obtain ⟨q0, q1, q2, f0, f1, f2⟩ := T2.c3
        go_simp
        exact two_snd (by decide) kept3 (T2.st3 _ _ _)
      refine wpLs_nilD ?_
      simp only [tails]
      rintro w_ k_ ⟨⟨-, r1⟩, r2⟩
      obtain ⟨⟨m0, m1, m2, m3, m4, m5⟩, -, -, -, -, -, -⟩ := (r1.1 rfl).c6
      obtain ⟨j0, j1, j2, -, -, -⟩ := (r2.2 rfl).c3
      clear r1 r2 x0 y0 B1 B2
      simp only [wpList, Exit.then]
      rename_i hKret
      refine hKret _ _ (wp_ret ?_)
      try simp only [Exit.then]
      refine bodyPost_ret (v := .tuple #[.agg #[.int .i64 y1, .int .i64 y2, .int .i64 y3, .int .i64 y4, .int .i64 y5, .int .i64 y6], .agg #[.bool true, .bool u1, .bool u2]]) (by simp [results, Try.f48, go_sem, m0, m1, m2, m3, m4, m5, j0, j1, j2]) rfl ⟨rfl, ?_⟩
      have hN_ := HN.out
      exact (HH.out).trans (k_.below (HH.out).size (fun b hb => by simp; omega))
    · obtain rfl : r = ((c1, c2, c3, c4, c5, c6), sa, true, sb) := by rw [HR.out, stepOf_yes (.inl rfl) hu hn]
      obtain ⟨x0, x1, x2, x3, x4, x5⟩ := Hd.c6.1
      obtain ⟨⟨r0, r1, r2, r3, r4, r5⟩, z0, z1, z2, z3, z4, z5⟩ := R0.c6
      obtain ⟨t0, t1, t2, tf0, tf1, tf2⟩ := R1.c3
      repeat (first | go_skip | go_guarded | go_step | go_upon | go_back)
      have hNw := HN.out
      have K0 := HH.out
      have X0 := ((((R0.st6 (.int .i64 c1) (.int .i64 c2) (.int .i64 c3) (.int .i64 c4) (.int .i64 c5) (.int .i64 c6)).far (p := ⟨N + 1 + 1 + 1 + 1, 0, none⟩) (by dsimp only; omega) (.bool sa)).far (p := ⟨N + 1 + 1 + 1 + 1, 1, none⟩) (by dsimp only; omega) (.bool true)).far (p := ⟨N + 1 + 1 + 1 + 1, 2, none⟩) (by dsimp only; omega) (.bool sb))
      have X1 := (sx6_far R1 (show N + 1 + 1 + 1 + 1 ≠ N + 1 + 1 + 1 by omega) (.int .i64 c1) (.int .i64 c2) (.int .i64 c3) (.int .i64 c4) (.int .i64 c5) (.int .i64 c6)).st3 (.bool sa) (.bool true) (.bool sb)
      obtain ⟨⟨m0, m1, m2, m3, m4, m5⟩, -, -, -, -, -, -⟩ := X0.c6
      obtain ⟨j0, j1, j2, -, -, -⟩ := X1.c3
      refine bodyPost_ret (v := .tuple #[.agg #[.int .i64 c1, .int .i64 c2, .int .i64 c3, .int .i64 c4, .int .i64 c5, .int .i64 c6], .agg #[.bool sa, .bool true, .bool sb]]) (by simp [results, Try.f48, go_sem, m0, m1, m2, m3, m4, m5, j0, j1, j2]) rfl ⟨rfl, ?_⟩
      exact (((sx6_below K0 (by omega) _ _ _ _ _ _).setCell (p := ⟨N + 1 + 1 + 1 + 1, 0, none⟩) (by dsimp only; omega) _).setCell (p := ⟨N + 1 + 1 + 1 + 1, 1, none⟩) (by dsimp only; omega) _).setCell (p := ⟨N + 1 + 1 + 1 + 1, 2, none⟩) (by dsimp only; omega) _
end Go.Proofs.Ytnokibdecnddlaa

/- Bodies, the document's: a step. -/
namespace Go.Proofs.Ytnokibdecnddlaa
open Go.RowKit Go.Shelf
attribute [local go_sem] Oper.semAt_some

theorem rfall_c (n less least : Int) (h : -9223372036854775808 ≤ n - less ∧ n - less ≤ 9223372036854775807) (w : World) : Calls Try.prog 47 #[.int .i64 n, .int .i64 less, .int .i64 least] w fun r w' => r = .returned (.int .i64 (mxI (n - less) least)) ∧ w = w' := by
  have hmx := @run_mx Try.prog
  obtain ⟨h1, h2⟩ := h
  go_enter Try.func47, Try.ntmps47
  go_wp2_with fail
  go_returns
  exact ⟨rfl, rfl⟩
set_option maxRecDepth 100000 in
set_option maxHeartbeats 16000000 in
theorem rstep20_c (q : Option Addr) (n cp : Nat) (F : Nat → Int) (els : Int) (b : BD) (ix iz : Int) (j : Bool) (M : Int) (hM : M ≤ 70000000000000) (hM0 : 0 ≤ M) (hB : BOk M b) (w : World) (hq : Iq w q n F) :
    Calls Try.prog 15 #[.agg #[.slice q n cp, .int .i64 els], .agg (bd9 b), .agg #[.int .i64 ix, .int .i64 iz, .bool j]] w fun r w' => r = .returned (.agg (bd9 (stepB (fun c => atG n F els c.1 c.2.1 c.2.2) b ix iz j))) ∧ Below w.heap.size w w' := by
  obtain ⟨val, hval⟩ : ∃ val : Cl → Int, val = fun c => atG n F els c.1 c.2.1 c.2.2 := ⟨_, rfl⟩
  rw [← hval]
  obtain ⟨hS, -⟩ := hB.box (by omega)
  have hb1 := hS.box (by omega) (by omega)
  have hb2 := hS.under (by omega) (by omega)
  have hbd := hS.bd
  have CB := fun W => rbbox_c b (by have := hB.wd; omega) W
  have CC := fun W (h : Below w.heap.size w W) => rfClimbs_c q n cp F els (boxB b).1 (boxB b).2.1 (boxB b).2.2.1 (boxB b).2.2.2.1 (boxB b).2.2.2.2.1 (boxB b).2.2.2.2.2 hb1.1 hb1.2 W (hq.on h)
  have CW := fun W (h : Below w.heap.size w W) => rfWet_c q n cp F els (boxB b).1 (boxB b).2.1 (boxB b).2.2.1 (boxB b).2.2.2.1 (boxB b).2.2.2.2.1 (boxB b).2.2.2.2.2 hb1.1 hb1.2 W (hq.on h)
  have CS := fun W (h : Below w.heap.size w W) => rfStands_c q n cp F els (boxB b).1 (boxB b).2.1 (boxB b).2.2.1 (boxB b).2.2.2.1 (boxB b).2.2.2.2.1 (boxB b).2.2.2.2.2 (fun W => runder_c _ _ _ _ _ _ (by omega) (by omega) W) hb2.1 hb2.2 W (hq.on h)
  have fC : anyB val cliB (boxB b) = (cellsI (boxB b).1 (boxB b).2.1 (boxB b).2.2.1 (boxB b).2.2.2.1 (boxB b).2.2.2.2.1 (boxB b).2.2.2.2.2).any fun x => cliB (atG n F els x.1 x.2.1 x.2.2) := by rw [hval]; unfold anyB; rfl
  have fW : anyB val wetB (boxB b) = (cellsI (boxB b).1 (boxB b).2.1 (boxB b).2.2.1 (boxB b).2.2.2.1 (boxB b).2.2.2.2.1 (boxB b).2.2.2.2.2).any fun x => wetB (atG n F els x.1 x.2.1 x.2.2) := by rw [hval]; unfold anyB; rfl
  have fS : unB val (boxB b) = (cellsI (boxB b).1 (cutI ((boxB b).2.1 - 1)) (boxB b).2.2.1 (boxB b).2.2.2.1 (boxB b).2.1 (boxB b).2.2.2.2.2).any fun x => solB (atG n F els x.1 x.2.1 x.2.2) := by rw [hval]; unfold unB; rfl
  rw [← fC] at CC
  rw [← fW] at CW
  rw [← fS] at CS
  clear fC fW fS
  -- the speed up and down
  have hr : stepB val b ix iz j = goB val (b.1, b.2.1, b.2.2.1, walkI ix, riseI (anyB val cliB (boxB b)) (anyB val wetB (boxB b)) (unB val (boxB b)) j b.2.2.2.2.1, walkI iz, b.2.2.2.2.2.2.1, b.2.2.2.2.2.2.2.1, b.2.2.2.2.2.2.2.2) := by
    unfold stepB riseB
    rw [boxB_walk]
    rfl
  have hk : BOk M (b.1, b.2.1, b.2.2.1, walkI ix, riseI (anyB val cliB (boxB b)) (anyB val wetB (boxB b)) (unB val (boxB b)) j b.2.2.2.2.1, walkI iz, b.2.2.2.2.2.2.1, b.2.2.2.2.2.2.2.1, b.2.2.2.2.2.2.2.2) := by
    have w1 := walk_bd ix
    have w2 := walk_bd iz
    exact ⟨hB.x, hB.y, hB.z, by dsimp only; omega, rise_bd _ _ _ _ hB.sy, by dsimp only; omega, hB.wd, hB.ht⟩
  have hbx : boxB (b.1, b.2.1, b.2.2.1, walkI ix, riseI (anyB val cliB (boxB b)) (anyB val wetB (boxB b)) (unB val (boxB b)) j b.2.2.2.2.1, walkI iz, b.2.2.2.2.2.2.1, b.2.2.2.2.2.2.2.1, b.2.2.2.2.2.2.2.2) = boxB b := by unfold boxB; rfl
  have hsy := hB.sy
  rw [hr]
  clear hr
  generalize anyB val cliB (boxB b) = pc at CC hk hbx ⊢
  generalize anyB val wetB (boxB b) = pw at CW hk hbx ⊢
  generalize unB val (boxB b) = ps at CS hk hbx ⊢
  have CM1 := fun W => calls_bel (rmul_c (mnI (mxI ix (-65536)) 65536) 16384 W)
  have CM2 := fun W => calls_bel (rmul_c (mnI (mxI iz (-65536)) 65536) 16384 W)
  have g1 : mulI (mnI (mxI ix (-65536)) 65536) 16384 = walkI ix := rfl
  have g2 : mulI (mnI (mxI iz (-65536)) 65536) 16384 = walkI iz := rfl
  rw [g1] at CM1
  rw [g2] at CM2
  clear g1 g2
  generalize walkI ix = a1 at CM1 hk hbx ⊢
  generalize walkI iz = a3 at CM2 hk hbx ⊢
  obtain ⟨a2, ha2⟩ : ∃ a2, a2 = riseI pc pw ps j b.2.2.2.2.1 := ⟨_, rfl⟩
  rw [← ha2] at hk hbx ⊢
  -- where it comes to
  obtain ⟨b2, hb2'⟩ : ∃ b2 : BD, b2 = (b.1, b.2.1, b.2.2.1, a1, a2, a3, b.2.2.2.2.2.2.1, b.2.2.2.2.2.2.2.1, b.2.2.2.2.2.2.2.2) := ⟨_, rfl⟩
  have CF := fun W => rfar_c b2 a1 a2 a3 (by have := hk.x; rw [hb2']; dsimp only at *; omega) (by have := hk.y; rw [hb2']; dsimp only at *; omega) (by have := hk.z; rw [hb2']; dsimp only at *; omega) (by have := hk.sx; dsimp only at *; omega) (by have := hk.sy; dsimp only at *; omega) (by have := hk.sz; dsimp only at *; omega) W
  have C1 := fun W (h : Below w.heap.size w W) => rstep_c q n cp F els (boxB b) (fwI b.1 a1) (fwI b.2.1 a2) (fwI b.2.2.1 a3) 32768 (M + 65536) (by omega) (by omega) hS W (hq.on h)
  rw [← hval] at C1
  have fG : goV val b2 = stepV val (boxB b) (fwI b.1 a1) (fwI b.2.1 a2) (fwI b.2.2.1 a3) 32768 := by rw [hb2']; unfold goV; rw [hbx]
  have hG : Sm6 (M + 65536 + 40000000) (goV val b2).1 := by rw [fG]; exact stepV_sm hS (by omega) (by omega)
  rw [← fG] at C1
  have hun := hG.under (by omega) (by omega)
  have hgd := hG.bd
  have CS2 := fun W (h : Below w.heap.size w W) => rfStands_c q n cp F els (goV val b2).1.1 (goV val b2).1.2.1 (goV val b2).1.2.2.1 (goV val b2).1.2.2.2.1 (goV val b2).1.2.2.2.2.1 (goV val b2).1.2.2.2.2.2 (fun W => runder_c _ _ _ _ _ _ (by omega) (by omega) W) hun.1 hun.2 W (hq.on h)
  have fS2 : unB val (goV val b2).1 = (cellsI (goV val b2).1.1 (cutI ((goV val b2).1.2.1 - 1)) (goV val b2).1.2.2.1 (goV val b2).1.2.2.2.1 (goV val b2).1.2.1 (goV val b2).1.2.2.2.2.2).any fun x => solB (atG n F els x.1 x.2.1 x.2.2) := by rw [hval]; unfold unB; rfl
  rw [← fS2] at CS2
  have hgo : goB val b2 = putB b2 (boxB b) (goV val b2) (unB val (goV val b2).1) := by unfold goB; rw [hb2', hbx]
  rw [← hb2', hgo]
  clear fG hG hun hgd fS2 hgo hbx hk hS hb1 hb2 hbd hM hM0 hB
  generalize unB val (goV val b2).1 = ps2 at CS2 ⊢
  generalize goV val b2 = r at C1 CS2 ⊢
  generalize boxB b = bx at CB CC CW CS C1 ⊢
  subst hb2'
  unfold putB
  obtain ⟨x, y, z, sx, sy, sz, wd, ht, st⟩ := b
  obtain ⟨o1, o2, o3, o4, o5, o6⟩ := bx
  obtain ⟨⟨y1, y2, y3, y4, y5, y6⟩, t1, t2, t3⟩ := r
  simp only [bd9, ag6, ah3, bhT] at *
  generalize fwI x a1 = f1 at CF C1
  generalize fwI y a2 = f2 at CF C1
  generalize fwI z a3 = f3 at CF C1
  have HSB := Lib.hid (fun W => rsubv_c y1 y2 y3 o1 o2 o3 W)
  have HAD := Lib.hid (fun W => raddv_c x y z (subI y1 o1) (subI y2 o2) (subI y3 o3) W)
  generalize subI y1 o1 = u1 at HSB HAD ⊢
  generalize subI y2 o2 = u2 at HSB HAD ⊢
  generalize subI y3 o3 = u3 at HSB HAD ⊢
  generalize addI x u1 = v1 at HAD ⊢
  generalize addI y u2 = v2 at HAD ⊢
  generalize addI z u3 = v3 at HAD ⊢
  have HCB := Lib.hid CB
  have HCC := Lib.hid CC
  have HCW := Lib.hid CW
  have HCS := Lib.hid CS
  have HM1 := Lib.hid CM1
  have HM2 := Lib.hid CM2
  have HCF := Lib.hid CF
  have HC1 := Lib.hid C1
  have HS2 := Lib.hid CS2
  have HA2 := Lib.hid ha2
  have HSY := Lib.hid hsy
  clear CB CC CW CS CM1 CM2 CF C1 CS2 ha2 hsy hq hval
  have hmn := @run_mn Try.prog
  have hmx := @run_mx Try.prog
  obtain ⟨N, hN⟩ : ∃ N, N = w.heap.size := ⟨_, rfl⟩
  obtain ⟨W, hW⟩ : ∃ W, W = (((w.alloc (.cells #[.slice q n cp, .int .i64 els] 24)).alloc (.cells #[.int .i64 x, .int .i64 y, .int .i64 z, .int .i64 sx, .int .i64 sy, .int .i64 sz, .int .i64 wd, .int .i64 ht, .bool st] 28)).alloc (.cells #[.int .i64 ix, .int .i64 iz, .bool j] 39)).alloc (.cells #[.int .i64 0, .int .i64 0, .int .i64 0, .int .i64 0, .int .i64 0, .int .i64 0, .int .i64 0, .int .i64 0, .bool false] 28) := ⟨_, rfl⟩
  have H : Below w.heap.size w W := by rw [hW]; go_grown
  have G : Blk W N 24 _ := Blk.eqw hW.symm (by rw [hN]; exact (((Blk.new' rfl).alloc _).alloc _).alloc _)
  have B : Blk W (N + 1) 28 _ := Blk.eqw hW.symm (by rw [hN]; exact ((Blk.new' (by simp)).alloc _).alloc _)
  have D : Blk W (N + 1 + 1) 39 _ := Blk.eqw hW.symm (by rw [hN]; exact (Blk.new' (by simp)).alloc _)
  have R : Blk W (N + 1 + 1 + 1) 28 _ := Blk.eqw hW.symm (by rw [hN]; exact Blk.new' (by simp))
  go_enter Try.func15, Try.ntmps15
  go_upto_region 1 with (fail)
  rw [← hW, ← hN]
  have HN := Lib.hid hN
  clear hW hN
  obtain ⟨⟨b0, b1, b2, b3, b4, b5, b6, b7, b8⟩, -⟩ := B.c9
  go_upto_region 2 with (go_at_call 19; refine (HCB.out _).mono ?_; rintro e_ w1 ⟨rfl, k1⟩)
  generalize hV : World.alloc w1 _ = W1
  have X : Blk W1 w1.heap.size 48 #[.int .i64 o1, .int .i64 o2, .int .i64 o3, .int .i64 o4, .int .i64 o5, .int .i64 o6] := Blk.eqw hV (Blk.new' rfl)
  have hk : Below W.heap.size W W1 := by rw [← hV]; exact after k1 ((Below.refl _ _).alloc (Nat.le_refl _) _)
  have hgN := Nat.lt_of_lt_of_le R.lt k1.size
  replace G := G.on hk
  replace B := B.on hk
  replace D := D.on hk
  replace R := R.on hk
  replace H := after H hk
  clear hV k1 hk b0 b1 b2 b3 b4 b5 b6 b7 b8 HCB
  generalize w1.heap.size = g at X hgN ⊢
  obtain ⟨d0, d1, d2, -, -, -⟩ := D.c3
  go_upto_region 3 with (go_at_call 43; refine (HM1.out _).mono ?_; rintro e_ w2 ⟨rfl, h2⟩; clear d0 d1 d2; replace G := G.on h2; replace B := B.on h2; replace D := D.on h2; replace R := R.on h2; replace X := X.on h2; replace H := after H h2; clear h2; obtain ⟨⟨b0, b1, b2, b3, b4, b5, b6, b7, b8⟩, f0, f1_, f2_, f3_, f4, f5, f6, f7, f8⟩ := B.c9)
  generalize hV_ : (World.setCell w2 _ _) = W2
  replace B : Blk W2 (N + 1) 28 #[.int .i64 x, .int .i64 y, .int .i64 z, .int .i64 a1, .int .i64 sy, .int .i64 sz, .int .i64 wd, .int .i64 ht, .bool st] := Blk.eqw hV_ (B.set_ 3 _)
  replace G := Blk.eqw hV_ (G.far (p := ⟨N + 1, 3, none⟩) (by dsimp only; omega) _)
  replace D := Blk.eqw hV_ (D.far (p := ⟨N + 1, 3, none⟩) (by dsimp only; omega) _)
  replace R := Blk.eqw hV_ (R.far (p := ⟨N + 1, 3, none⟩) (by dsimp only; omega) _)
  replace X := Blk.eqw hV_ (X.far (p := ⟨N + 1, 3, none⟩) (by dsimp only; omega) _)
  replace H : Below w.heap.size w W2 := by rw [← hV_]; exact (H.setCell (p := ⟨N + 1, 3, none⟩) (by have := HN.out; dsimp only; omega) _)
  clear hV_
  clear b0 b1 b2 b3 b4 b5 b6 b7 b8 f0 f1_ f2_ f3_ f4 f5 f6 f7 f8 HM1
  obtain ⟨d0, d1, d2, -, -, -⟩ := D.c3
  go_upto_region 4 with (go_at_call 43; refine (HM2.out _).mono ?_; rintro e_ w3 ⟨rfl, h3⟩; clear d0 d1 d2; replace G := G.on h3; replace B := B.on h3; replace D := D.on h3; replace R := R.on h3; replace X := X.on h3; replace H := after H h3; clear h3; obtain ⟨⟨b0, b1, b2, b3, b4, b5, b6, b7, b8⟩, f0, f1_, f2_, f3_, f4, f5, f6, f7, f8⟩ := B.c9)
  generalize hV_ : (World.setCell w3 _ _) = W3
  replace B : Blk W3 (N + 1) 28 #[.int .i64 x, .int .i64 y, .int .i64 z, .int .i64 a1, .int .i64 sy, .int .i64 a3, .int .i64 wd, .int .i64 ht, .bool st] := Blk.eqw hV_ (B.set_ 5 _)
  replace G := Blk.eqw hV_ (G.far (p := ⟨N + 1, 5, none⟩) (by dsimp only; omega) _)
  replace D := Blk.eqw hV_ (D.far (p := ⟨N + 1, 5, none⟩) (by dsimp only; omega) _)
  replace R := Blk.eqw hV_ (R.far (p := ⟨N + 1, 5, none⟩) (by dsimp only; omega) _)
  replace X := Blk.eqw hV_ (X.far (p := ⟨N + 1, 5, none⟩) (by dsimp only; omega) _)
  replace H : Below w.heap.size w W3 := by rw [← hV_]; exact (H.setCell (p := ⟨N + 1, 5, none⟩) (by have := HN.out; dsimp only; omega) _)
  clear hV_
  clear b0 b1 b2 b3 b4 b5 b6 b7 b8 f0 f1_ f2_ f3_ f4 f5 f6 f7 f8 HM2 hmn
  have c0 := G.cell 0
  have c1 := G.cell 1
  simp only [List.getElem?_toArray, List.getElem?_cons_zero, List.getElem?_cons_succ] at c0 c1
  obtain ⟨⟨x0, x1, x2, x3, x4, x5⟩, -⟩ := X.c6
  go_upto_region 7 with first
    | (go_at_call 44; refine (HCC.out _ H).mono ?_; rintro e_ w4 ⟨rfl, h4⟩; clear c0 c1 x0 x1 x2 x3 x4 x5; replace G := G.on h4; replace B := B.on h4; replace D := D.on h4; replace R := R.on h4; replace X := X.on h4; replace H := after H h4; clear h4; have c0 := G.cell 0; have c1 := G.cell 1; simp only [List.getElem?_toArray, List.getElem?_cons_zero, List.getElem?_cons_succ] at c0 c1; obtain ⟨⟨x0, x1, x2, x3, x4, x5⟩, -⟩ := X.c6)
    | (go_at_call 45; refine (HCW.out _ H).mono ?_; rintro e_ w5 ⟨rfl, h5⟩; clear c0 c1 x0 x1 x2 x3 x4 x5; replace G := G.on h5; replace B := B.on h5; replace D := D.on h5; replace R := R.on h5; replace X := X.on h5; replace H := after H h5; clear h5; have c0 := G.cell 0; have c1 := G.cell 1; simp only [List.getElem?_toArray, List.getElem?_cons_zero, List.getElem?_cons_succ] at c0 c1; obtain ⟨⟨x0, x1, x2, x3, x4, x5⟩, -⟩ := X.c6)
    | (go_at_call 46; refine (HCS.out _ H).mono ?_; rintro e_ w6 ⟨rfl, h6⟩; clear c0 c1 x0 x1 x2 x3 x4 x5; replace G := G.on h6; replace B := B.on h6; replace D := D.on h6; replace R := R.on h6; replace X := X.on h6; replace H := after H h6; clear h6)
  clear HCC HCW HCS
  have b4 := B.cell 4
  have f4 := B.frz 4
  have d2 := D.cell 2
  simp only [List.getElem?_toArray, List.getElem?_cons_zero, List.getElem?_cons_succ] at b4 d2
  go_upto_if 43 with (fail)
  go_cut [] from 43 (fun wx => Blk wx (N + 1) 28 #[.int .i64 x, .int .i64 y, .int .i64 z, .int .i64 a1, .int .i64 a2, .int .i64 a3, .int .i64 wd, .int .i64 ht, .bool st] ∧ Blk wx N 24 #[.slice q n cp, .int .i64 els] ∧ Blk wx (N + 1 + 1 + 1) 28 #[.int .i64 0, .int .i64 0, .int .i64 0, .int .i64 0, .int .i64 0, .int .i64 0, .int .i64 0, .int .i64 0, .bool false] ∧ Blk wx g 48 #[.int .i64 o1, .int .i64 o2, .int .i64 o3, .int .i64 o4, .int .i64 o5, .int .i64 o6] ∧ Hid (Below w.heap.size w wx))
  case first =>
    obtain ⟨s1, s2⟩ := HSY.out
    have q1 : -9223372036854775808 ≤ sy - 4096 ∧ sy - 4096 ≤ 9223372036854775807 := by omega
    have q2 : -9223372036854775808 ≤ sy - 1024 ∧ sy - 1024 ≤ 9223372036854775807 := by omega
    have HQ1 := Lib.hid q1
    have HQ2 := Lib.hid q2
    clear q1 q2 s1 s2
    cases pc <;> cases pw <;> cases j <;> cases ps
    all_goals
      go_wp2_with (go_at_call 47; refine (rfall_c _ _ _ (by first | exact HQ1.out | exact HQ2.out) _).mono ?_; rintro e_ w7 ⟨rfl, rfl⟩)
      go_meet
      case rel =>
        first
          | exact ⟨by rw [HA2.out]; exact B.set_ 4 _, G.far (p := ⟨N + 1, 4, none⟩) (by dsimp only; omega) _, R.far (p := ⟨N + 1, 4, none⟩) (by dsimp only; omega) _, X.far (p := ⟨N + 1, 4, none⟩) (by dsimp only; omega) _, Lib.hid (H.setCell (p := ⟨N + 1, 4, none⟩) (by have := HN.out; dsimp only; omega) _)⟩
          | exact ⟨by rw [HA2.out]; exact (B.set_ 4 _).set_ 4 _, (G.far (p := ⟨N + 1, 4, none⟩) (by dsimp only; omega) _).far (p := ⟨N + 1, 4, none⟩) (by dsimp only; omega) _, (R.far (p := ⟨N + 1, 4, none⟩) (by dsimp only; omega) _).far (p := ⟨N + 1, 4, none⟩) (by dsimp only; omega) _, (X.far (p := ⟨N + 1, 4, none⟩) (by dsimp only; omega) _).far (p := ⟨N + 1, 4, none⟩) (by dsimp only; omega) _, Lib.hid ((H.setCell (p := ⟨N + 1, 4, none⟩) (by have := HN.out; dsimp only; omega) _).setCell (p := ⟨N + 1, 4, none⟩) (by have := HN.out; dsimp only; omega) _)⟩
  case rest =>
    clear b4 f4 d2 G B D R X H hmx
    obtain ⟨B, G, R, X, H⟩ := hcut
    go_upto_region 19 with (fail)
    have HBK := Lib.hid (And.intro B (And.intro G (And.intro R X)))
    have b0 := fun d os => (B.re d os).cell 0
    have b1 := fun d os => (B.re d os).cell 1
    have b2 := fun d os => (B.re d os).cell 2
    have b3 := fun d os => (B.re d os).cell 3
    have b4 := fun d os => (B.re d os).cell 4
    have b5 := fun d os => (B.re d os).cell 5
    have b6 := fun d os => (B.re d os).cell 6
    have b7 := fun d os => (B.re d os).cell 7
    have b8 := fun d os => (B.re d os).cell 8
    have c0 := fun d os => (G.re d os).cell 0
    have c1 := fun d os => (G.re d os).cell 1
    simp only [List.getElem?_toArray, List.getElem?_cons_zero, List.getElem?_cons_succ] at b0 b1 b2 b3 b4 b5 b6 b7 b8 c0 c1
    obtain ⟨x0, x1, x2, x3, x4, x5⟩ := X.re6
    clear B G R X
    have HU_ := Lib.hid (show Bears wc.heap.size [⟨10, 12, 48, #[.int .i64 0, .int .i64 0, .int .i64 0, .int .i64 0, .int .i64 0, .int .i64 0], #[.int .i64 y1, .int .i64 y2, .int .i64 y3, .int .i64 y4, .int .i64 y5, .int .i64 y6]⟩, ⟨11, 13, 79, #[.bool false, .bool false, .bool false], #[.bool t1, .bool t2, .bool t3]⟩] (relsU [(6, fun v _ => v = .tuple #[.agg #[.int .i64 y1, .int .i64 y2, .int .i64 y3, .int .i64 y4, .int .i64 y5, .int .i64 y6], .agg #[.bool t1, .bool t2, .bool t3]]), (7, fun v _ => v = .tuple #[.agg #[.int .i64 y1, .int .i64 y2, .int .i64 y3, .int .i64 y4, .int .i64 y5, .int .i64 y6], .agg #[.bool t1, .bool t2, .bool t3]]), (8, fun v _ => v = .agg #[.int .i64 y1, .int .i64 y2, .int .i64 y3, .int .i64 y4, .int .i64 y5, .int .i64 y6]), (9, fun v _ => v = .agg #[.bool t1, .bool t2, .bool t3])]) from (bears_val (bears_val (bears_val (bears_val bears_nil)))))
    have HO_ := Lib.hid (show OkB [⟨10, 12, 48, #[.int .i64 0, .int .i64 0, .int .i64 0, .int .i64 0, .int .i64 0, .int .i64 0], #[.int .i64 y1, .int .i64 y2, .int .i64 y3, .int .i64 y4, .int .i64 y5, .int .i64 y6]⟩, ⟨11, 13, 79, #[.bool false, .bool false, .bool false], #[.bool t1, .bool t2, .bool t3]⟩] from ⟨by simp, by simp⟩)
    refine wp_many [0, 0, 0, 0, 0, 0, 2, 2, 2, 2, 2, 2, 2, 2] _ _ (by kernel_rfl) (by kernel_rfl) HU_.out ?_
    repeat (first | (refine wpQs_s ?_) | (refine wpQs_q (fun K hK => ?_); go_simp; first | (refine hK _ ?_; clear hK K) | (apply Exists.intro; refine ⟨fun _ => ?_, hK _ ?_⟩; (exact HCF.out _); clear hK K)) | (refine wpQs_f (fun K hK => ?_); go_simp; refine hK _ ?_; clear hK K))
    refine wpQs_nil ?_
    refine wpLsI_skip ?_
    refine wpLsI_skip ?_
    refine wpLsI_skip ?_
    refine wpLsI_skip ?_
    refine wpLsI_skip ?_
    refine wpLsI_skip ?_
    refine wpLsI_one rfl ?s6_ (fun v6_ => ?_)
    case s6_ =>
      intro S_ V_ w_ hw_ hV_ ha_ hn_ hI_
      have HW_ := Lib.hid hw_
      have HI_ := Lib.hid hI_
      have Hn_ := Lib.hid hn_
      clear hV_ ha_ hw_ hI_ hn_
      go_simp
      refine (HC1.out _ (after H.out HW_.out.none)).mono ?_
      rintro e_ w9 ⟨rfl, h9⟩
      exact ⟨_, rfl, HW_.out.on h9, HI_.out.l (by simp) HU_.out h9 rfl⟩
    refine wpLsI_one rfl ?s7_ (fun v7_ => ?_)
    case s7_ =>
      intro S_ V_ w_ hw_ hV_ ha_ hn_ hI_
      have F_ := Lib.hid (show v6_ = .tuple #[.agg #[.int .i64 y1, .int .i64 y2, .int .i64 y3, .int .i64 y4, .int .i64 y5, .int .i64 y6], .agg #[.bool t1, .bool t2, .bool t3]] from (hI_.of (ha_ 6 (by decide) rfl (by kernel_rfl)) (hV_ 6 (by decide) rfl)))
      have HW_ := Lib.hid hw_
      have HI_ := Lib.hid hI_
      have Hn_ := Lib.hid hn_
      clear hV_ ha_ hw_ hI_ hn_
      go_simp
      have h8_ := F_.out
      subst h8_
      clear F_
      go_simp
      exact ⟨HW_.out, HI_.out.l (by simp) HU_.out (Below.refl _ _) rfl⟩
    refine wpLsI_one rfl ?s8_ (fun v8_ => ?_)
    case s8_ =>
      intro S_ V_ w_ hw_ hV_ ha_ hn_ hI_
      have F_ := Lib.hid (show v7_ = .tuple #[.agg #[.int .i64 y1, .int .i64 y2, .int .i64 y3, .int .i64 y4, .int .i64 y5, .int .i64 y6], .agg #[.bool t1, .bool t2, .bool t3]] from (hI_.of (ha_ 7 (by decide) rfl (by kernel_rfl)) (hV_ 7 (by decide) rfl)))
      have HW_ := Lib.hid hw_
      have HI_ := Lib.hid hI_
      have Hn_ := Lib.hid hn_
      clear hV_ ha_ hw_ hI_ hn_
      go_simp
      have h8_ := F_.out
      subst h8_
      clear F_
      go_simp
      exact ⟨HW_.out, HI_.out.l (by simp) HU_.out (Below.refl _ _) rfl⟩
    refine wpLsI_one rfl ?s9_ (fun v9_ => ?_)
    case s9_ =>
      intro S_ V_ w_ hw_ hV_ ha_ hn_ hI_
      have F_ := Lib.hid (show v7_ = .tuple #[.agg #[.int .i64 y1, .int .i64 y2, .int .i64 y3, .int .i64 y4, .int .i64 y5, .int .i64 y6], .agg #[.bool t1, .bool t2, .bool t3]] from (hI_.of (ha_ 7 (by decide) rfl (by kernel_rfl)) (hV_ 7 (by decide) rfl)))
      have HW_ := Lib.hid hw_
      have HI_ := Lib.hid hI_
      have Hn_ := Lib.hid hn_
      clear hV_ ha_ hw_ hI_ hn_
      go_simp
      have h8_ := F_.out
      subst h8_
      clear F_
      go_simp
      exact ⟨HW_.out, HI_.out.l (by simp) HU_.out (Below.refl _ _) rfl⟩
    refine wpLsI_one rfl ?s10_ (fun v10_ => ?_)
    case s10_ =>
      intro S_ V_ w_ hw_ hV_ ha_ hn_ hI_
      have HW_ := Lib.hid hw_
      have HI_ := Lib.hid hI_
      have Hn_ := Lib.hid hn_
      clear hV_ ha_ hw_ hI_ hn_
      go_simp
      exact ⟨HW_.out.on ((Below.refl _ _).alloc (Nat.le_refl _) _), HI_.out.new (List.mem_cons_self) HO_.out HU_.out (fun _ _ => trivial) HW_.out.none.size Hn_.out⟩
    refine wpLsI_one rfl ?s11_ (fun v11_ => ?_)
    case s11_ =>
      intro S_ V_ w_ hw_ hV_ ha_ hn_ hI_
      have HW_ := Lib.hid hw_
      have HI_ := Lib.hid hI_
      have Hn_ := Lib.hid hn_
      clear hV_ ha_ hw_ hI_ hn_
      go_simp
      exact ⟨HW_.out.on ((Below.refl _ _).alloc (Nat.le_refl _) _), HI_.out.new (List.mem_cons_of_mem _ (List.mem_cons_self)) HO_.out HU_.out (fun _ _ => trivial) HW_.out.none.size Hn_.out⟩
    refine wpLsI_one rfl ?s12_ (fun v12_ => ?_)
    case s12_ =>
      intro S_ V_ w_ hw_ hV_ ha_ hn_ hI_
      have F_ := Lib.hid (show v8_ = .agg #[.int .i64 y1, .int .i64 y2, .int .i64 y3, .int .i64 y4, .int .i64 y5, .int .i64 y6] from (hI_.of (ha_ 8 (by decide) rfl (by kernel_rfl)) (hV_ 8 (by decide) rfl)))
      have HS_ := Lib.hid (show S_ 10 from ha_ 10 (by decide) rfl (by kernel_rfl))
      have HVV_ := Lib.hid (show V_ 10 = v10_ from hV_ 10 (by decide) rfl)
      have hx_ := Lib.hid (show ∃ b, V_ 10 = .pointer (some ⟨b, 0, none⟩) ∧ wc.heap.size ≤ b ∧ Blk w_ b 48 #[.int .i64 0, .int .i64 0, .int .i64 0, .int .i64 0, .int .i64 0, .int .i64 0] from hI_.slot (List.mem_cons_self) HS_.out hn_)
      have HW_ := Lib.hid hw_
      have HI_ := Lib.hid hI_
      have Hn_ := Lib.hid hn_
      clear hV_ ha_ hw_ hI_ hn_
      go_simp
      refine hx_.out.elim fun b_ hy_ => ?_
      have E_ := hy_.1
      have HN_ := Lib.hid hy_.2.1
      have hb_ := hy_.2.2
      have h8_ := F_.out
      rw [HVV_.out] at E_
      subst h8_ E_
      clear hx_ hy_ F_
      obtain ⟨⟨k0_, k1_, k2_, k3_, k4_, k5_⟩, f0_, f1_, f2_, f3_, f4_, f5_⟩ := hb_.c6
      have Hb_ := Lib.hid hb_
      clear hb_
      go_simp
      exact ⟨HW_.out.new_set HN_.out kept6, HI_.out.set (List.mem_cons_self) HO_.out HU_.out (fun _ _ => trivial) Hn_.out HS_.out HVV_.out kept6 (Hb_.out.st6 _ _ _ _ _ _)⟩
    refine wpLsI_one rfl ?s13_ (fun v13_ => ?_)
    case s13_ =>
      intro S_ V_ w_ hw_ hV_ ha_ hn_ hI_
      have F_ := Lib.hid (show v9_ = .agg #[.bool t1, .bool t2, .bool t3] from (hI_.of (ha_ 9 (by decide) rfl (by kernel_rfl)) (hV_ 9 (by decide) rfl)))
      have HS_ := Lib.hid (show S_ 11 from ha_ 11 (by decide) rfl (by kernel_rfl))
      have HVV_ := Lib.hid (show V_ 11 = v11_ from hV_ 11 (by decide) rfl)
      have hx_ := Lib.hid (show ∃ b, V_ 11 = .pointer (some ⟨b, 0, none⟩) ∧ wc.heap.size ≤ b ∧ Blk w_ b 79 #[.bool false, .bool false, .bool false] from hI_.slot (List.mem_cons_of_mem _ (List.mem_cons_self)) HS_.out hn_)
      have HW_ := Lib.hid hw_
      have HI_ := Lib.hid hI_
      have Hn_ := Lib.hid hn_
      clear hV_ ha_ hw_ hI_ hn_
      go_simp
      refine hx_.out.elim fun b_ hy_ => ?_
      have E_ := hy_.1
      have HN_ := Lib.hid hy_.2.1
      have hb_ := hy_.2.2
      have h8_ := F_.out
      rw [HVV_.out] at E_
      subst h8_ E_
      clear hx_ hy_ F_
      obtain ⟨k0_, k1_, k2_, f0_, f1_, f2_⟩ := hb_.c3
      have Hb_ := Lib.hid hb_
      clear hb_
      go_simp
      exact ⟨HW_.out.new_set HN_.out kept3, HI_.out.set (List.mem_cons_of_mem _ (List.mem_cons_self)) HO_.out HU_.out (fun _ _ => trivial) Hn_.out HS_.out HVV_.out kept3 (Hb_.out.st3 _ _ _)⟩
    refine wpLsI_nil fun V_ W8 hw_ hV_ hI_ => ?_
    obtain ⟨g0_W8, E10_, N0_W8, X0_W8⟩ : ∃ b, v10_ = .pointer (some ⟨b, 0, none⟩) ∧ wc.heap.size ≤ b ∧ Blk W8 b 48 #[.int .i64 y1, .int .i64 y2, .int .i64 y3, .int .i64 y4, .int .i64 y5, .int .i64 y6] := by rw [← show V_ 10 = v10_ from hV_ 10 (by decide) rfl]; exact hI_.done (List.mem_cons_self) ⟨show 10 < 14 by decide, rfl⟩ ⟨show 12 < 14 by decide, rfl⟩
    obtain ⟨g1_W8, E11_, N1_W8, X1_W8⟩ : ∃ b, v11_ = .pointer (some ⟨b, 0, none⟩) ∧ wc.heap.size ≤ b ∧ Blk W8 b 79 #[.bool t1, .bool t2, .bool t3] := by rw [← show V_ 11 = v11_ from hV_ 11 (by decide) rfl]; exact hI_.done (List.mem_cons_of_mem _ (List.mem_cons_self)) ⟨show 11 < 14 by decide, rfl⟩ ⟨show 13 < 14 by decide, rfl⟩
    subst E10_ E11_
    have h_W8 := hw_.none
    clear hV_ hI_ hw_ HU_ HO_
    simp only [tails]
    clear b0 b1 b2 b3 b4 b5 b6 b7 b8 c0 c1 x0 x1 x2 x3 x4 x5 HCF HC1
    obtain ⟨B, G, R, X⟩ := HBK.out
    have hXl := X.lt
    have n1 : g0_W8 ≠ N + 1 := by omega
    have n2 : g1_W8 ≠ N + 1 := by omega
    have HX := Lib.hid (And.intro (B.on h_W8) (And.intro (G.on h_W8) (And.intro (R.on h_W8) (And.intro (X.on h_W8) (And.intro X0_W8 X1_W8)))))
    replace H := Lib.hid (after H.out h_W8)
    clear HBK hXl B G R X X0_W8 X1_W8 N0_W8 N1_W8 h_W8
    go_simp
    go_upto_region 20 with (fail)
    obtain ⟨B, G, R, X, Y, T⟩ := HX.out
    have b0 := fun d os => (B.re d os).cell 0
    have b1 := fun d os => (B.re d os).cell 1
    have b2 := fun d os => (B.re d os).cell 2
    have x0 := fun d os => (X.re d os).cell 0
    have x1 := fun d os => (X.re d os).cell 1
    have x2 := fun d os => (X.re d os).cell 2
    have y0 := fun d os => (Y.re d os).cell 0
    have y1_ := fun d os => (Y.re d os).cell 1
    have y2_ := fun d os => (Y.re d os).cell 2
    simp only [List.getElem?_toArray, List.getElem?_cons_zero, List.getElem?_cons_succ] at b0 b1 b2 x0 x1 x2 y0 y1_ y2_
    refine wp_region_last_below 9 (by kernel_rfl) rfl (by kernel_rfl) ?_
    simp only [List.take_succ_cons, List.take_zero, List.drop_succ_cons, List.drop_zero]
    repeat (go_big_quiet_step (first | (with_reducible exact Calls.regrown_of (HSB.out _)) | (with_reducible exact Calls.regrown_of (HAD.out _))))
    refine wpQuiet_nil ?_
    intro w' hw'
    obtain ⟨rg, rfl⟩ := hw'
    clear b0 b1 b2 x0 x1 x2 y0 y1_ y2_ X HSB HAD HX
    obtain ⟨W9, hW9⟩ : ∃ W9, W9 = Go.Sort.grow (redrawn W8 rg.d) rg.os := ⟨_, rfl⟩
    have hb9 : Below W8.heap.size W8 W9 := by rw [hW9]; exact below_regrown _ _ _
    rw [← hW9]
    replace B := B.on hb9
    replace G := G.on hb9
    replace R := R.on hb9
    replace Y := Y.on hb9
    replace T := T.on hb9
    replace H := after H.out hb9
    clear hW9 hb9
    obtain ⟨⟨b0, b1, b2, b3, b4, b5, b6, b7, b8⟩, f0, f1_, f2_, f3_, f4, f5, f6, f7, f8⟩ := B.c9
    go_upto_region 21 with (fail)
    generalize hV_ : (World.setCell (World.setCell (World.setCell W9 _ _) _ _) _ _) = W10
    replace B : Blk W10 (N + 1) 28 #[.int .i64 v1, .int .i64 v2, .int .i64 v3, .int .i64 a1, .int .i64 a2, .int .i64 a3, .int .i64 wd, .int .i64 ht, .bool st] := Blk.eqw hV_ (((B.set_ 0 _).set_ 1 _).set_ 2 _)
    replace G := Blk.eqw hV_ (((G.far (p := ⟨N + 1, 0, none⟩) (by dsimp only; omega) _).far (p := ⟨N + 1, 1, none⟩) (by dsimp only; omega) _).far (p := ⟨N + 1, 2, none⟩) (by dsimp only; omega) _)
    replace R := Blk.eqw hV_ (((R.far (p := ⟨N + 1, 0, none⟩) (by dsimp only; omega) _).far (p := ⟨N + 1, 1, none⟩) (by dsimp only; omega) _).far (p := ⟨N + 1, 2, none⟩) (by dsimp only; omega) _)
    replace Y := Blk.eqw hV_ (((Y.far (p := ⟨N + 1, 0, none⟩) (by dsimp only; omega) _).far (p := ⟨N + 1, 1, none⟩) (by dsimp only; omega) _).far (p := ⟨N + 1, 2, none⟩) (by dsimp only; omega) _)
    replace T := Blk.eqw hV_ (((T.far (p := ⟨N + 1, 0, none⟩) (by dsimp only; omega) _).far (p := ⟨N + 1, 1, none⟩) (by dsimp only; omega) _).far (p := ⟨N + 1, 2, none⟩) (by dsimp only; omega) _)
    replace H : Below w.heap.size w W10 := by rw [← hV_]; exact (((H.setCell (p := ⟨N + 1, 0, none⟩) (by have := HN.out; dsimp only; omega) _).setCell (p := ⟨N + 1, 1, none⟩) (by have := HN.out; dsimp only; omega) _).setCell (p := ⟨N + 1, 2, none⟩) (by have := HN.out; dsimp only; omega) _)
    clear hV_
    clear b0 b1 b2 b3 b4 b5 b6 b7 b8 f0 f1_ f2_ f3_ f4 f5 f6 f7 f8
    have HH := Lib.hid H
    clear H
    go_upto_region 22 with (fail)
    go_loopw [14] (fun kv wr => ((kv = .int .i64 0 ∧ Blk wr (N + 1) 28 #[.int .i64 v1, .int .i64 v2, .int .i64 v3, .int .i64 a1, .int .i64 a2, .int .i64 a3, .int .i64 wd, .int .i64 ht, .bool st]) ∨ (kv = .int .i64 1 ∧ Blk wr (N + 1) 28 #[.int .i64 v1, .int .i64 v2, .int .i64 v3, .int .i64 (zb t1 a1), .int .i64 a2, .int .i64 a3, .int .i64 wd, .int .i64 ht, .bool st]) ∨ (kv = .int .i64 2 ∧ Blk wr (N + 1) 28 #[.int .i64 v1, .int .i64 v2, .int .i64 v3, .int .i64 (zb t1 a1), .int .i64 (zb t2 a2), .int .i64 a3, .int .i64 wd, .int .i64 ht, .bool st]) ∨ (kv = .int .i64 3 ∧ Blk wr (N + 1) 28 #[.int .i64 v1, .int .i64 v2, .int .i64 v3, .int .i64 (zb t1 a1), .int .i64 (zb t2 a2), .int .i64 (zb t3 a3), .int .i64 wd, .int .i64 ht, .bool st])) ∧
      Blk wr N 24 #[.slice q n cp, .int .i64 els] ∧ Blk wr (N + 1 + 1 + 1) 28 #[.int .i64 0, .int .i64 0, .int .i64 0, .int .i64 0, .int .i64 0, .int .i64 0, .int .i64 0, .int .i64 0, .bool false] ∧ Blk wr g0_W8 48 #[.int .i64 y1, .int .i64 y2, .int .i64 y3, .int .i64 y4, .int .i64 y5, .int .i64 y6] ∧ Blk wr g1_W8 79 #[.bool t1, .bool t2, .bool t3] ∧ Hid (Below w.heap.size w wr)) (fun kv _ => 3 - (intOf kv).toNat)
    case atStart => exact ⟨.inl ⟨rfl, B⟩, G, R, Y, T, HH⟩
    case round =>
      clear B G R Y T HH
      obtain ⟨hd, G, R, Y, T, H⟩ := hrel
      obtain ⟨tt0, tt1, tt2, -, -, -⟩ := T.c3
      rcases hd with ⟨rfl, B⟩ | ⟨rfl, B⟩ | ⟨rfl, B⟩ | ⟨rfl, B⟩
      · cases t1
        · go_wp2_with fail
          go_roundw
          case rel => exact ⟨.inr (.inl ⟨rfl, B⟩), G, R, Y, T, H⟩
          case measure => simp [intOf]
        · have b3 := B.cell 3
          have b4 := B.cell 4
          have b5 := B.cell 5
          simp only [List.getElem?_toArray, List.getElem?_cons_zero, List.getElem?_cons_succ] at b3 b4 b5
          replace H := H.out
          go_wp2_with (go_at_call 50; refine (rwith_v _ _ _ _ _ 0 a2 a3 (by first | rfl | decide) (by first | rfl | decide) (by first | rfl | decide) _).mono ?_; rintro e_ w9 ⟨rfl, h9⟩; clear b3 b4 b5 tt0 tt1 tt2; replace B := B.on h9; replace G := G.on h9; replace R := R.on h9; replace Y := Y.on h9; replace T := T.on h9; replace H := after H h9; clear h9; have f3_ := B.frz 3; have f4 := B.frz 4; have f5 := B.frz 5; have b3 := B.cell 3; have b4 := B.cell 4; have b5 := B.cell 5; simp only [List.getElem?_toArray, List.getElem?_cons_zero, List.getElem?_cons_succ] at b3 b4 b5)
          generalize hV : World.setCell (World.setCell (World.setCell w9 _ _) _ _) _ _ = W11
          replace B : Blk W11 (N + 1) 28 #[.int .i64 v1, .int .i64 v2, .int .i64 v3, .int .i64 0, .int .i64 a2, .int .i64 a3, .int .i64 wd, .int .i64 ht, .bool st] := Blk.eqw hV (((B.set_ 3 _).set_ 4 _).set_ 5 _)
          replace G := Blk.eqw hV (((G.far (p := ⟨N + 1, 3, none⟩) (by dsimp only; omega) _).far (p := ⟨N + 1, 4, none⟩) (by dsimp only; omega) _).far (p := ⟨N + 1, 5, none⟩) (by dsimp only; omega) _)
          replace R := Blk.eqw hV (((R.far (p := ⟨N + 1, 3, none⟩) (by dsimp only; omega) _).far (p := ⟨N + 1, 4, none⟩) (by dsimp only; omega) _).far (p := ⟨N + 1, 5, none⟩) (by dsimp only; omega) _)
          replace Y := Blk.eqw hV (((Y.far (p := ⟨N + 1, 3, none⟩) (by dsimp only; omega) _).far (p := ⟨N + 1, 4, none⟩) (by dsimp only; omega) _).far (p := ⟨N + 1, 5, none⟩) (by dsimp only; omega) _)
          replace T := Blk.eqw hV (((T.far (p := ⟨N + 1, 3, none⟩) (by dsimp only; omega) _).far (p := ⟨N + 1, 4, none⟩) (by dsimp only; omega) _).far (p := ⟨N + 1, 5, none⟩) (by dsimp only; omega) _)
          have HH := Lib.hid (show Below w.heap.size w W11 by rw [← hV]; exact ((H.setCell (p := ⟨N + 1, 3, none⟩) (by have := HN.out; dsimp only; omega) _).setCell (p := ⟨N + 1, 4, none⟩) (by have := HN.out; dsimp only; omega) _).setCell (p := ⟨N + 1, 5, none⟩) (by have := HN.out; dsimp only; omega) _)
          go_roundw
          case rel => exact ⟨.inr (.inl ⟨rfl, B⟩), G, R, Y, T, HH⟩
          case measure => simp [intOf]
      · cases t2
        · go_wp2_with fail
          go_roundw
          case rel => exact ⟨.inr (.inr (.inl ⟨rfl, B⟩)), G, R, Y, T, H⟩
          case measure => simp [intOf]
        · have b3 := B.cell 3
          have b4 := B.cell 4
          have b5 := B.cell 5
          simp only [List.getElem?_toArray, List.getElem?_cons_zero, List.getElem?_cons_succ] at b3 b4 b5
          replace H := H.out
          go_wp2_with (go_at_call 50; refine (rwith_v _ _ _ _ _ (zb t1 a1) 0 a3 (by first | rfl | decide) (by first | rfl | decide) (by first | rfl | decide) _).mono ?_; rintro e_ w9 ⟨rfl, h9⟩; clear b3 b4 b5 tt0 tt1 tt2; replace B := B.on h9; replace G := G.on h9; replace R := R.on h9; replace Y := Y.on h9; replace T := T.on h9; replace H := after H h9; clear h9; have f3_ := B.frz 3; have f4 := B.frz 4; have f5 := B.frz 5; have b3 := B.cell 3; have b4 := B.cell 4; have b5 := B.cell 5; simp only [List.getElem?_toArray, List.getElem?_cons_zero, List.getElem?_cons_succ] at b3 b4 b5)
          generalize hV : World.setCell (World.setCell (World.setCell w9 _ _) _ _) _ _ = W11
          replace B : Blk W11 (N + 1) 28 #[.int .i64 v1, .int .i64 v2, .int .i64 v3, .int .i64 (zb t1 a1), .int .i64 0, .int .i64 a3, .int .i64 wd, .int .i64 ht, .bool st] := Blk.eqw hV (((B.set_ 3 _).set_ 4 _).set_ 5 _)
          replace G := Blk.eqw hV (((G.far (p := ⟨N + 1, 3, none⟩) (by dsimp only; omega) _).far (p := ⟨N + 1, 4, none⟩) (by dsimp only; omega) _).far (p := ⟨N + 1, 5, none⟩) (by dsimp only; omega) _)
          replace R := Blk.eqw hV (((R.far (p := ⟨N + 1, 3, none⟩) (by dsimp only; omega) _).far (p := ⟨N + 1, 4, none⟩) (by dsimp only; omega) _).far (p := ⟨N + 1, 5, none⟩) (by dsimp only; omega) _)
          replace Y := Blk.eqw hV (((Y.far (p := ⟨N + 1, 3, none⟩) (by dsimp only; omega) _).far (p := ⟨N + 1, 4, none⟩) (by dsimp only; omega) _).far (p := ⟨N + 1, 5, none⟩) (by dsimp only; omega) _)
          replace T := Blk.eqw hV (((T.far (p := ⟨N + 1, 3, none⟩) (by dsimp only; omega) _).far (p := ⟨N + 1, 4, none⟩) (by dsimp only; omega) _).far (p := ⟨N + 1, 5, none⟩) (by dsimp only; omega) _)
          have HH := Lib.hid (show Below w.heap.size w W11 by rw [← hV]; exact ((H.setCell (p := ⟨N + 1, 3, none⟩) (by have := HN.out; dsimp only; omega) _).setCell (p := ⟨N + 1, 4, none⟩) (by have := HN.out; dsimp only; omega) _).setCell (p := ⟨N + 1, 5, none⟩) (by have := HN.out; dsimp only; omega) _)
          go_roundw
          case rel => exact ⟨.inr (.inr (.inl ⟨rfl, B⟩)), G, R, Y, T, HH⟩
          case measure => simp [intOf]
      · cases t3
        · go_wp2_with fail
          go_roundw
          case rel => exact ⟨.inr (.inr (.inr ⟨rfl, B⟩)), G, R, Y, T, H⟩
          case measure => simp [intOf]
        · have b3 := B.cell 3
          have b4 := B.cell 4
          have b5 := B.cell 5
          simp only [List.getElem?_toArray, List.getElem?_cons_zero, List.getElem?_cons_succ] at b3 b4 b5
          replace H := H.out
          go_wp2_with (go_at_call 50; refine (rwith_v _ _ _ _ _ (zb t1 a1) (zb t2 a2) 0 (by first | rfl | decide) (by first | rfl | decide) (by first | rfl | decide) _).mono ?_; rintro e_ w9 ⟨rfl, h9⟩; clear b3 b4 b5 tt0 tt1 tt2; replace B := B.on h9; replace G := G.on h9; replace R := R.on h9; replace Y := Y.on h9; replace T := T.on h9; replace H := after H h9; clear h9; have f3_ := B.frz 3; have f4 := B.frz 4; have f5 := B.frz 5; have b3 := B.cell 3; have b4 := B.cell 4; have b5 := B.cell 5; simp only [List.getElem?_toArray, List.getElem?_cons_zero, List.getElem?_cons_succ] at b3 b4 b5)
          generalize hV : World.setCell (World.setCell (World.setCell w9 _ _) _ _) _ _ = W11
          replace B : Blk W11 (N + 1) 28 #[.int .i64 v1, .int .i64 v2, .int .i64 v3, .int .i64 (zb t1 a1), .int .i64 (zb t2 a2), .int .i64 0, .int .i64 wd, .int .i64 ht, .bool st] := Blk.eqw hV (((B.set_ 3 _).set_ 4 _).set_ 5 _)
          replace G := Blk.eqw hV (((G.far (p := ⟨N + 1, 3, none⟩) (by dsimp only; omega) _).far (p := ⟨N + 1, 4, none⟩) (by dsimp only; omega) _).far (p := ⟨N + 1, 5, none⟩) (by dsimp only; omega) _)
          replace R := Blk.eqw hV (((R.far (p := ⟨N + 1, 3, none⟩) (by dsimp only; omega) _).far (p := ⟨N + 1, 4, none⟩) (by dsimp only; omega) _).far (p := ⟨N + 1, 5, none⟩) (by dsimp only; omega) _)
          replace Y := Blk.eqw hV (((Y.far (p := ⟨N + 1, 3, none⟩) (by dsimp only; omega) _).far (p := ⟨N + 1, 4, none⟩) (by dsimp only; omega) _).far (p := ⟨N + 1, 5, none⟩) (by dsimp only; omega) _)
          replace T := Blk.eqw hV (((T.far (p := ⟨N + 1, 3, none⟩) (by dsimp only; omega) _).far (p := ⟨N + 1, 4, none⟩) (by dsimp only; omega) _).far (p := ⟨N + 1, 5, none⟩) (by dsimp only; omega) _)
          have HH := Lib.hid (show Below w.heap.size w W11 by rw [← hV]; exact ((H.setCell (p := ⟨N + 1, 3, none⟩) (by have := HN.out; dsimp only; omega) _).setCell (p := ⟨N + 1, 4, none⟩) (by have := HN.out; dsimp only; omega) _).setCell (p := ⟨N + 1, 5, none⟩) (by have := HN.out; dsimp only; omega) _)
          go_roundw
          case rel => exact ⟨.inr (.inr (.inr ⟨rfl, B⟩)), G, R, Y, T, HH⟩
          case measure => simp [intOf]
      · have c0 := G.cell 0
        have c1 := G.cell 1
        simp only [List.getElem?_toArray, List.getElem?_cons_zero, List.getElem?_cons_succ] at c0 c1
        obtain ⟨⟨y0, y1_, y2_, y3_, y4_, y5_⟩, -⟩ := Y.c6
        replace H := H.out
        clear tt0 tt1 tt2
        go_upto_region 27 with (go_at_call 46; refine (HS2.out _ H).mono ?_; rintro e_ w6 ⟨rfl, h6⟩; clear c0 c1 y0 y1_ y2_ y3_ y4_ y5_; replace B := B.on h6; replace R := R.on h6; replace H := after H h6; clear h6; obtain ⟨⟨b0, b1, b2, b3, b4, b5, b6, b7, b8⟩, f0, f1_, f2_, f3_, f4, f5, f6, f7, f8⟩ := B.c9)
        generalize hV_ : (World.setCell w6 _ _) = W12
        replace B : Blk W12 (N + 1) 28 #[.int .i64 v1, .int .i64 v2, .int .i64 v3, .int .i64 (zb t1 a1), .int .i64 (zb t2 a2), .int .i64 (zb t3 a3), .int .i64 wd, .int .i64 ht, .bool ps2] := Blk.eqw hV_ (B.set_ 8 _)
        replace R := Blk.eqw hV_ (R.far (p := ⟨N + 1, 8, none⟩) (by dsimp only; omega) _)
        replace H : Below w.heap.size w W12 := by rw [← hV_]; exact (H.setCell (p := ⟨N + 1, 8, none⟩) (by have := HN.out; dsimp only; omega) _)
        clear hV_
        clear b0 b1 b2 b3 b4 b5 b6 b7 b8 f0 f1_ f2_ f3_ f4 f5 f6 f7 f8 G Y T HS2
        obtain ⟨⟨b0, b1, b2, b3, b4, b5, b6, b7, b8⟩, -⟩ := B.c9
        obtain ⟨⟨r0, r1, r2, r3, r4, r5, r6, r7, r8⟩, f0, f1_, f2_, f3_, f4, f5, f6, f7, f8⟩ := R.c9
        have hNw : w.heap.size ≤ N + 1 + 1 + 1 := by have := HN.out; omega
        go_wp2_with fail
        have R2_ := R.st9 (.int .i64 (v1)) (.int .i64 (v2)) (.int .i64 (v3)) (.int .i64 (zb t1 a1)) (.int .i64 (zb t2 a2)) (.int .i64 (zb t3 a3)) (.int .i64 (wd)) (.int .i64 (ht)) (.bool (ps2))
        obtain ⟨⟨d0, d1, d2, d3, d4, d5, d6, d7, d8⟩, -⟩ := R2_.c9
        exact bodyPost_ret (v := .agg #[.int .i64 (v1), .int .i64 (v2), .int .i64 (v3), .int .i64 (zb t1 a1), .int .i64 (zb t2 a2), .int .i64 (zb t3 a3), .int .i64 (wd), .int .i64 (ht), .bool (ps2)]) (by simp [results, Try.results15, go_sem, d0, d1, d2, d3, d4, d5, d6, d7, d8]) rfl ⟨rfl, sx9_below H hNw _ _ _ _ _ _ _ _ _⟩
end Go.Proofs.Ytnokibdecnddlaa
