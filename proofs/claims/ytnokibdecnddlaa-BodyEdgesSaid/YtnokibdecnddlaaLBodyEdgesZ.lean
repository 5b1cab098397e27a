/- BodyEdges holds: at any edge, any speed, any inputs. -/
import Derived.Test.YtnokibdecnddlaaMa8
import Derived.Test.YtnokibdecnddlaaMa9
namespace Go.Proofs.Ytnokibdecnddlaa
open Go.ChangeShapes Go.WideShapes Go.ChangeAt Go.RowKit
attribute [local go_sem] Oper.semAt_some

theorem u64_rem (x : Int) {m : Int} (hm : 0 < m) (hm2 : m ≤ 1000000) : ∃ i : Nat, (i : Int) < m ∧ IntKind.i64.wrap ((IntKind.u64.wrap x).tmod m) = i := by
  have h0 : 0 ≤ IntKind.u64.wrap x := by rw [IntKind.wrap_u64]; omega
  have h1 : 0 ≤ (IntKind.u64.wrap x).tmod m := Int.tmod_nonneg _ h0
  have h2 : (IntKind.u64.wrap x).tmod m < m := Int.tmod_lt_of_pos _ hm
  refine ⟨((IntKind.u64.wrap x).tmod m).toNat, by omega, ?_⟩
  rw [IntWalk.i64_in _ (by omega)]
  omega
theorem three_at {w : World} {g : Nat} {a b c : Int} (h : Blk w g 3 #[.int .i64 a, .int .i64 b, .int .i64 c]) {i : Nat} (hi : (i : Int) < 3) : ∃ e, w.cell? ⟨g, i, none⟩ = some (.int .i64 e) ∧ (e = a ∨ e = b ∨ e = c) := by
  rcases (show i = 0 ∨ i = 1 ∨ i = 2 by omega) with rfl | rfl | rfl
  · exact ⟨a, h.cell 0, .inl rfl⟩
  · exact ⟨b, h.cell 1, .inr (.inl rfl)⟩
  · exact ⟨c, h.cell 2, .inr (.inr rfl)⟩
set_option maxRecDepth 100000 in
set_option maxHeartbeats 8000000 in
theorem bodyEdges_c (x y z : Int) (_ : In64 x) (_ : In64 y) (_ : In64 z) (b : BD) (hb : Bd64 b) (q : Option Addr) (n cap : Nat) (F : Nat → InD) (hn : n ≤ cap) (hm : cap ≤ maxLen) (w : World) (hq : Rws 3 enIn w q n F) (_ : ∀ i, i < n → In64 (F i).1 ∧ In64 (F i).2.1) :
    Calls Try.prog 7 #[.agg #[.int .i64 x, .int .i64 y, .int .i64 z], .agg (bd9 b), .slice q n cap] w fun r w' => r = .returned (.bool true) ∧ Below w.heap.size w w' := by
  obtain ⟨i1, i2, i3, i4, i5, i6, i7, i8⟩ := hb
  have HG := Lib.hid (fun W => rgood20_c b i1 i2 i3 i4 i5 i6 i7 i8 W)
  have hG := goodB_ok b
  clear i1 i2 i3 i4 i5 i6 i7 i8
  generalize goodB b = c at HG hG
  obtain ⟨bx, by_, bz, sx, sy, sz, wd, ht, st⟩ := b
  obtain ⟨x', y', z', sx', sy', sz', wd', ht', st'⟩ := c
  have HGG := Lib.hid hG
  have HM := Lib.hid (And.intro hn hm)
  have HQ := Lib.hid hq
  clear hG hn hm hq
  simp only [bd9] at *
  obtain ⟨N, hN⟩ : ∃ N, N = w.heap.size := ⟨_, rfl⟩
  obtain ⟨W, hW⟩ : ∃ W, W = (w.alloc (.cells #[.int .i64 x, .int .i64 y, .int .i64 z] 26)).alloc (.cells #[.int .i64 bx, .int .i64 by_, .int .i64 bz, .int .i64 sx, .int .i64 sy, .int .i64 sz, .int .i64 wd, .int .i64 ht, .bool st] 28) := ⟨_, rfl⟩
  have H : Below w.heap.size w W := by rw [hW]; go_grown
  have V : Blk W N 26 _ := Blk.eqw hW.symm ((Blk.new' hN).alloc _)
  have B : Blk W (N + 1) 28 _ := Blk.eqw hW.symm (Blk.new' (by rw [hN]; simp))
  go_enter Try.func7, Try.ntmps7
  go_upto_region 1 with (fail)
  rw [← hW, ← hN]
  have HN := Lib.hid hN
  clear hW hN
  obtain ⟨⟨b0, b1, b2, b3, b4, b5, b6, b7, b8⟩, -⟩ := B.c9
  go_upto_region 2 with (go_at_call 13; refine (HG.out _).mono ?_; rintro e_ w1 ⟨rfl, k1⟩)
  generalize hV : World.alloc w1 _ = W1
  have G : Blk W1 w1.heap.size 35 #[.int .i64 x', .int .i64 y', .int .i64 z', .int .i64 sx', .int .i64 sy', .int .i64 sz', .int .i64 wd', .int .i64 ht', .bool st'] := Blk.eqw hV (Blk.new' rfl)
  have hk : Below W.heap.size W W1 := by rw [← hV]; exact after k1 ((Below.refl _ _).alloc (Nat.le_refl _) _)
  have hg : w.heap.size ≤ w1.heap.size := Nat.le_trans H.size k1.size
  replace H := after H hk
  replace V := V.on hk
  clear hV k1 hk b0 b1 b2 b3 b4 b5 b6 b7 b8 HG B
  generalize w1.heap.size = g at G hg ⊢
  go_upto_region 4 with (fail)
  generalize hV : World.alloc W1 _ = W2
  have S : Blk W2 W1.heap.size 3 #[.int .i64 70368744177664, .int .i64 (-70368744177664), .int .i64 0] := Blk.eqw hV (Blk.new' rfl)
  have hk : Below W1.heap.size W1 W2 := by rw [← hV]; exact (Below.refl _ _).alloc (Nat.le_refl _) _
  replace H := after H hk
  replace V := V.on hk
  replace G := G.on hk
  generalize W1.heap.size = s at S ⊢
  clear hV hk
  obtain ⟨v0, v1, v2⟩ := V.re3
  obtain ⟨kx, kx1, kx2⟩ := u64_rem x (m := 3) (by decide) (by decide)
  obtain ⟨ky, ky1, ky2⟩ := u64_rem y (m := 300000) (by decide) (by decide)
  obtain ⟨kz, kz1, kz2⟩ := u64_rem z (m := 3) (by decide) (by decide)
  obtain ⟨ex, ex1, ex2⟩ := three_at S kx1
  obtain ⟨ez, ez1, ez2⟩ := three_at S kz1
  have hex : -70368744177664 ≤ ex ∧ ex ≤ 70368744177664 := by omega
  have hez : -70368744177664 ≤ ez ∧ ez ≤ 70368744177664 := by omega
  have c1 := cell_regrown ex1
  have c2 := cell_regrown ez1
  have e1 : IntKind.i64.wrap (70368744177664 - (ky : Int)) = 70368744177664 - (ky : Int) := IntWalk.i64_in _ (by omega)
  have hx0 : (0 : Int) ≤ (kx : Int) := by omega
  have hz0 : (0 : Int) ≤ (kz : Int) := by omega
  have HE := Lib.hid (And.intro hex (And.intro hez ky1))
  clear ex1 ez1 ex2 ez2 hex hez ky1
  refine wp_region_last_below 25 (by kernel_rfl) rfl (by kernel_rfl) ?_
  simp only [List.take_succ_cons, List.take_zero, List.drop_succ_cons, List.drop_zero]
  repeat (go_big_quiet_step (fail))
  refine wpQuiet_nil ?_
  intro w' hw'
  obtain ⟨rg, rfl⟩ := hw'
  clear v0 v1 v2 c1 c2 kx2 ky2 kz2 hx0 hz0 kx1 kz1
  obtain ⟨W3, hW3⟩ : ∃ W3, W3 = Go.Sort.grow (redrawn W2 rg.d) rg.os := ⟨_, rfl⟩
  have hb3 : Below W2.heap.size W2 W3 := by rw [hW3]; exact below_regrown _ _ _
  rw [← hW3]
  replace G := G.on hb3
  replace H := after H hb3
  clear hW3 hb3 V S
  obtain ⟨⟨b0, b1, b2, b3, b4, b5, b6, b7, b8⟩, f0, f1, f2, f3, f4, f5, f6, f7, f8⟩ := G.c9
  go_upto_region 5 with (fail)
  generalize hV : World.setCell (World.setCell (World.setCell W3 _ _) _ _) _ _ = W4
  have G4 : Blk W4 g 35 #[.int .i64 ex, .int .i64 (70368744177664 - (ky : Int)), .int .i64 ez, .int .i64 sx', .int .i64 sy', .int .i64 sz', .int .i64 wd', .int .i64 ht', .bool st'] := Blk.eqw hV (((G.set_ 0 _).set_ 1 _).set_ 2 _)
  have H4 : Below w.heap.size w W4 := by rw [← hV]; exact ((H.setCell (p := ⟨g, 0, none⟩) hg _).setCell (p := ⟨g, 1, none⟩) hg _).setCell (p := ⟨g, 2, none⟩) hg _
  clear hV b0 b1 b2 b3 b4 b5 b6 b7 b8 f0 f1 f2 f3 f4 f5 f6 f7 f8 G H e1
  go_upto_region 6 with (go_at_call 12; refine (view_c _ _ _).mono ?_; rintro e_ w3 ⟨rfl, rfl⟩)
  generalize hV : World.alloc (World.alloc W4 _) _ = W5
  have B9 : Blk W5 (W4.heap.size + 1) 24 #[.slice (some ⟨W4.heap.size, 0, none⟩) 0 0, .int .i64 0] := Blk.eqw hV (Blk.new' (by simp))
  have hk : Below W4.heap.size W4 W5 := by rw [← hV]; exact ((Below.refl _ _).alloc (Nat.le_refl _) _).alloc (by simp) _
  have hgn : W4.heap.size + 1 ≠ g := by have := G4.lt; omega
  have G5 := G4.on hk
  have H5 := Lib.hid (after H4 hk)
  generalize W4.heap.size = s9 at B9 hgn ⊢
  clear hV hk G4 H4
  have hbk : BOk 70368744177664 (ex, 70368744177664 - (ky : Int), ez, sx', sy', sz', wd', ht', st') := by
    obtain ⟨h1, h2, h3, h4, h5, h6, h7, h8⟩ := HGG.out
    obtain ⟨j1, j2, j3⟩ := HE.out
    exact ⟨j1, by dsimp only; omega, j2, h4, h5, h6, h7, h8⟩
  have I0 : Hid (BOk 70368744177664 (ex, 70368744177664 - (ky : Int), ez, sx', sy', sz', wd', ht', st') ∧ 70368743877664 - 262144 * ((0 : Nat) : Int) ≤ 70368744177664 - (ky : Int)) := Lib.hid ⟨hbk, by have := HE.out.2.2; omega⟩
  clear hbk HE HGG
  generalize (70368744177664 - (ky : Int)) = yy at G5 I0 ⊢
  have HGS := Lib.hid hg
  clear hg
  go_upto_region 7 with (fail)
  go_loopw [11] (fun iv wr => ∃ (k : Nat) (x1 y1 z1 sx1 sy1 sz1 wd1 ht1 : Int) (st1 : Bool), k ≤ n ∧ k ≤ 6 ∧ iv = .int .i64 k ∧ Blk wr g 35 #[.int .i64 x1, .int .i64 y1, .int .i64 z1, .int .i64 sx1, .int .i64 sy1, .int .i64 sz1, .int .i64 wd1, .int .i64 ht1, .bool st1] ∧ Blk wr (s9 + 1) 24 #[.slice (some ⟨s9, 0, none⟩) 0 0, .int .i64 0] ∧ Hid (BOk 70368744177664 (x1, y1, z1, sx1, sy1, sz1, wd1, ht1, st1) ∧ 70368743877664 - 262144 * (k : Int) ≤ y1) ∧ Hid (Below w.heap.size w wr)) (fun iv _ => n - (intOf iv).toNat)
  case atStart => exact ⟨0, _, _, _, _, _, _, _, _, _, Nat.zero_le _, Nat.zero_le _, rfl, G5, B9, I0, H5⟩
  case round =>
    clear G5 B9 I0 H5
    obtain ⟨k, x1, y1, z1, sx1, sy1, sz1, wd1, ht1, st1, hk, hk6, rfl, G, B9, I, H⟩ := hrel
    have hdone : ¬ ((k : Int) < n) ∨ ((k : Int) < n ∧ ¬ ((k : Int) < 6)) ∨ (k < n ∧ k < 6) := by omega
    rcases hdone with h1 | ⟨h1, h2⟩ | ⟨hlt, hk13⟩
    · go_wp2_with (go_at_call 16; refine (blives_c _).mono ?_; rintro e_ w5 ⟨rfl, k5⟩)
      go_returns
      exact ⟨rfl, after H.out k5⟩
    · go_wp2_with (go_at_call 16; refine (blives_c _).mono ?_; rintro e_ w5 ⟨rfl, k5⟩)
      go_returns
      exact ⟨rfl, after H.out k5⟩
    · have h1 : (k : Int) < n := by omega
      have h2 : (k : Int) < 6 := by omega
      have hk0 : (0 : Int) ≤ (k : Int) := by omega
      have hkc : k < cap := by have := HM.out.1; omega
      obtain ⟨gq, oq, rfl, hcell⟩ := (HQ.out.on H.out) (by omega)
      have hc0 := hcell k hlt 0 _ rfl
      have hc1 := hcell k hlt 1 _ rfl
      have hc2 := hcell k hlt 2 _ rfl
      simp only [Nat.add_zero] at hc0
      generalize F k = inp at hc0 hc1 hc2
      obtain ⟨ix, iz, jj⟩ := inp
      dsimp only at hc0 hc1 hc2
      have c0 := cell_regrown hc0
      have c1 := cell_regrown hc1
      have c2 := cell_regrown hc2
      clear hcell hc0 hc1 hc2
      have ed := edge_emp I.out.1 (by have := I.out.2; dsimp only; omega) ix iz jj
      have hst := fun W (h : Below wr.heap.size wr W) => bstep_c 38 #[.pointer (some ⟨s9 + 1, 0, none⟩)] emp (x1, y1, z1, sx1, sy1, sz1, wd1, ht1, st1) ix iz jj 70368744177664 (by decide) (by decide) I.out.1 W view_en (view_tells (B9.on h) (fun h => by omega))
      generalize stepB emp (x1, y1, z1, sx1, sy1, sz1, wd1, ht1, st1) ix iz jj = c2 at ed hst
      have hmy := fun W => bmay_c c2 W
      have hmt : mayB c2 = true := by
        obtain ⟨⟨m1, m2, m3, m4, m5, m6, m7, m8⟩, -⟩ := ed
        have e1 : inI c2.1 c2.2.1 c2.2.2.1 70368744177664 = true := inI_iff.2 ⟨by omega, by omega, by omega⟩
        have e2 : inI c2.2.2.2.1 c2.2.2.2.2.1 c2.2.2.2.2.2.1 262144 = true := inI_iff.2 ⟨by omega, by omega, by omega⟩
        unfold mayB
        rw [e1, e2]
        simp
        omega
      rw [hmt] at hmy
      obtain ⟨x2, y2, z2, sx2, sy2, sz2, wd2, ht2, st2⟩ := c2
      dsimp only at ed
      simp only [bd9] at hst hmy
      have HST := Lib.hid hst
      have HMY := Lib.hid hmy
      have HED := Lib.hid (show BOk 70368744177664 (x2, y2, z2, sx2, sy2, sz2, wd2, ht2, st2) ∧ 70368743877664 - 262144 * ((k + 1 : Nat) : Int) ≤ y2 from ⟨ed.1, by have := I.out.2; have := ed.2; omega⟩)
      clear hst hmy hmt ed
      have b0 := fun d os => (G.re d os).cell 0
      have b1 := fun d os => (G.re d os).cell 1
      have b2 := fun d os => (G.re d os).cell 2
      have b3 := fun d os => (G.re d os).cell 3
      have b4 := fun d os => (G.re d os).cell 4
      have b5 := fun d os => (G.re d os).cell 5
      have b6 := fun d os => (G.re d os).cell 6
      have b7 := fun d os => (G.re d os).cell 7
      have b8 := fun d os => (G.re d os).cell 8
      simp only [List.getElem?_toArray, List.getElem?_cons_zero, List.getElem?_cons_succ] at b0 b1 b2 b3 b4 b5 b6 b7 b8
      go_upto_region 9 with (fail)
      refine wp_region_last_below 7 (by kernel_rfl) rfl (by kernel_rfl) ?_
      simp only [List.take_succ_cons, List.take_zero, List.drop_succ_cons, List.drop_zero]
      repeat (go_big_quiet_step (with_reducible exact Calls.regrown_of (HST.out _ (below_regrown _ _ _))))
      refine wpQuiet_nil ?_
      intro w' hw'
      obtain ⟨rg, rfl⟩ := hw'
      clear b0 b1 b2 b3 b4 b5 b6 b7 b8 c0 c1 HST
      obtain ⟨W6, hW6⟩ : ∃ W6, W6 = Go.Sort.grow (redrawn wr rg.d) rg.os := ⟨_, rfl⟩
      have hb6 : Below wr.heap.size wr W6 := by rw [hW6]; exact below_regrown _ _ _
      rw [← hW6]
      replace G := G.on hb6
      replace B9 := B9.on hb6
      have H6 := Lib.hid (after H.out hb6)
      clear hW6 hb6 H I
      obtain ⟨⟨b0, b1, b2, b3, b4, b5, b6, b7, b8⟩, f0, f1, f2, f3, f4, f5, f6, f7, f8⟩ := G.c9
      go_upto_region 10 with (fail)
      generalize hV : World.setCell (World.setCell (World.setCell (World.setCell (World.setCell (World.setCell (World.setCell (World.setCell (World.setCell W6 _ _) _ _) _ _) _ _) _ _) _ _) _ _) _ _) _ _ = W7
      have G7 : Blk W7 g 35 #[.int .i64 x2, .int .i64 y2, .int .i64 z2, .int .i64 sx2, .int .i64 sy2, .int .i64 sz2, .int .i64 wd2, .int .i64 ht2, .bool st2] := Blk.eqw hV (G.st9 _ _ _ _ _ _ _ _ _)
      have B7 := Blk.eqw hV (sx9_far B9 hgn _ _ _ _ _ _ _ _ _)
      have H7 : Below w.heap.size w W7 := by rw [← hV]; exact sx9_below H6.out HGS.out _ _ _ _ _ _ _ _ _
      clear hV b0 b1 b2 b3 b4 b5 b6 b7 b8 f0 f1 f2 f3 f4 f5 f6 f7 f8 G B9 H6
      obtain ⟨⟨b0, b1, b2, b3, b4, b5, b6, b7, b8⟩, -⟩ := G7.c9
      go_wp2_with (go_at_call 20; refine (HMY.out _).mono ?_; rintro e_ w8 ⟨rfl, k8⟩)
      exact ⟨⟨k + 1, x2, y2, z2, sx2, sy2, sz2, wd2, ht2, st2, hlt, hk13, by go_num, G7.on k8, B7.on k8, HED, Lib.hid (after H7 k8)⟩, next_less' hlt⟩
set_option maxRecDepth 100000 in
theorem bodyEdges_lifted (os : Os) (started : os.Started) (H : Type) (enc : TypeId × Value → H) :
    ReturnsInHanded {} Try.checked os 7 .any (Rows.bodyEdgesSpec.pre6 enc Try.prog Try.f7 Rows.bodyEdgesRow.domain false) (Rows.bodyEdgesSpec.post enc Try.prog Try.f7 false true false false) := by
  refine returnsInHanded_of_change (C := Try.checked) own started (by kernel_rfl) Try.func7
    (ChangeSpec.witness6 (enc := enc) (C := Try.checked) false ⟨#[], #[.agg #[.int .i64 0, .int .i64 0, .int .i64 0], .agg #[.int .i64 0, .int .i64 0, .int .i64 0, .int .i64 0, .int .i64 0, .int .i64 0, .int .i64 0, .int .i64 0, .bool false], .slice none 0 0], []⟩ 8 (by kernel_rfl) (by kernel_rfl) (by kernel_rfl) (by kernel_rfl)) ?_
  intro W base args ds gs before hval0 hW hcnd hsz
  have hval : ∀ (j : Nat) t v, Try.f7.params[j]? = some t → args[j]? = some v → Value.okWide Try.prog W .any base t v := hval0
  have hW' := hW
  obtain ⟨p, q, hA0, hV, rfl, hfz, hnd⟩ := hW
  have hA : DataW.TrodAll enc Try.prog W 0 (fun _ => true) true Try.f7.params.toList args.toList ds p := hA0
  rw [Try.params7] at hA hval
  obtain ⟨v0, vs0, d0, ds0, p_0, q_0, hargs, rfl, rfl, h0, r_0⟩ := trodAll_cons hA
  obtain ⟨v1, vs1, d1, ds1, p_1, q_1, rfl, rfl, rfl, h1, r_1⟩ := trodAll_cons r_0
  obtain ⟨v2, vs2, d2, ds2, p_2, q_2, rfl, rfl, rfl, h2, r_2⟩ := trodAll_cons r_1
  obtain ⟨rfl, rfl, rfl⟩ := trodAll_nil r_2
  obtain rfl : args = #[v0, v1, v2] := by cases args; simp_all
  obtain ⟨rfl, rfl⟩ := trodVars_none hV
  obtain ⟨x0, y0, z0, rfl, wx0, wy0, wz0⟩ := open_vec Try.underlying26 (by kernel_rfl) (by kernel_rfl) Try.underlying3 (hval 0 26 v0 rfl rfl) h0
  obtain ⟨b1, rfl, wb1⟩ := open_bd Try.underlying28 Try.underlying26 (by kernel_rfl) (by kernel_rfl) (by kernel_rfl) Try.underlying3 Try.underlying4 (hval 1 28 v1 rfl rfl) h1
  obtain ⟨A2, n2, k2, l2, rfl, b2, c2, e2, f2⟩ := open_ins Try.underlying29 Try.underlying39 (by kernel_rfl) (by kernel_rfl) Try.underlying3 Try.underlying4 (hval 2 29 v2 rfl rfl) h2
  refine (bodyEdges_c x0 y0 z0 wx0 wy0 wz0 b1 wb1 A2 n2 k2 l2 b2 c2 W e2 f2).mono fun e W' ⟨he, hb⟩ => ?_
  subst he
  exact ⟨_, rfl, law_post laidOut (by kernel_rfl) rfl (by kernel_rfl) Try.underlying4 hW' rfl rfl rfl hb⟩

/-- The statement. -/
theorem bodyEdges_proved : Rows.BodyEdgesSaid :=
  OpenClaim.holds_of_wide 7 Try.f7 rfl rfl rfl rfl rfl rfl rfl ⟨rfl, rfl, rfl, rfl, rfl⟩ rfl rfl rfl rfl rfl (by kernel_rfl) Try.func7 (by kernel_rfl)
    (of_decide_eq_true (by kernel_rfl)) (by unfold Func.isWrapper; first | (rw [if_pos (by decide +kernel)]; kernel_rfl) | (rw [if_neg (by decide +kernel)]; exact ⟨rfl, rfl⟩))
    (fun os started H enc _ => bodyEdges_lifted os started H enc)
end Go.Proofs.Ytnokibdecnddlaa
