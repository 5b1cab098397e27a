/- BodyFree holds: any small world, any body, any inputs. -/
import Derived.Test.YtnokibdecnddlaaMa8
import Derived.Test.YtnokibdecnddlaaMa9
import Derived.Test.YtnokibdecnddlaaMa10
namespace Go.Proofs.Ytnokibdecnddlaa
open Go.ChangeShapes Go.WideShapes Go.ChangeAt Go.RowKit Go.Shelf
attribute [local go_sem] Oper.semAt_some

set_option maxRecDepth 100000 in
set_option maxHeartbeats 16000000 in
theorem bodyFree_c (q : Option Addr) (n c : Nat) (F : Nat → Int) (els : Int) (_ : n ≤ c) (hm : c ≤ maxLen) (hF : ∀ i, i < n → In64 (F i)) (he : In64 els) (b : BD) (hb : Bd64 b) (ql : Option Addr) (nl cl : Nat) (FL : Nat → InD) (hnl : nl ≤ cl) (hml : cl ≤ maxLen) (w : World) (hq : Iq w q n F) (hql : Rws 3 enIn w ql nl FL) (_ : ∀ i, i < nl → In64 (FL i).1 ∧ In64 (FL i).2.1) :
    Calls Try.prog 6 #[.agg #[.slice q n c, .int .i64 els], .agg (bd9 b), .slice ql nl cl] w fun r w' => r = .returned (.bool true) ∧ Below w.heap.size w w' := by
  obtain ⟨i1, i2, i3, i4, i5, i6, i7, i8⟩ := hb
  have hmx := @run_mx Try.prog
  have HG := Lib.hid (fun W => rgood20_c b i1 i2 i3 i4 i5 i6 i7 i8 W)
  have hG := goodB_ok b
  clear i1 i2 i3 i4 i5 i6 i7 i8
  generalize goodB b = cb at HG hG
  obtain ⟨bx, by_, bz, sx, sy, sz, wd, ht, st⟩ := b
  obtain ⟨x', y', z', sx', sy', sz', wd', ht', st'⟩ := cb
  have HGG := Lib.hid hG
  have HM := Lib.hid (And.intro hnl hml)
  have HQ := Lib.hid hql
  have HGd := Lib.hid (fun W (h : Below w.heap.size w W) => rgood13_c q n c F els hm W (hq.on h) hF he)
  clear hG hnl hml hql hm hF he hq
  simp only [bd9] at *
  obtain ⟨N, hN⟩ : ∃ N, N = w.heap.size := ⟨_, rfl⟩
  obtain ⟨W, hW⟩ : ∃ W, W = (w.alloc (.cells #[.slice q n c, .int .i64 els] 24)).alloc (.cells #[.int .i64 bx, .int .i64 by_, .int .i64 bz, .int .i64 sx, .int .i64 sy, .int .i64 sz, .int .i64 wd, .int .i64 ht, .bool st] 28) := ⟨_, rfl⟩
  have H : Below w.heap.size w W := by rw [hW]; go_grown
  have A : Blk W N 24 _ := Blk.eqw hW.symm ((Blk.new' hN).alloc _)
  have B : Blk W (N + 1) 28 _ := Blk.eqw hW.symm (Blk.new' (by rw [hN]; simp))
  go_enter Try.func6, Try.ntmps6
  go_upto_region 1 with (fail)
  rw [← hW, ← hN]
  have HN := Lib.hid hN
  clear hW hN
  have a0 := A.cell 0
  have a1 := A.cell 1
  simp only [List.getElem?_toArray, List.getElem?_cons_zero, List.getElem?_cons_succ] at a0 a1
  go_upto_region 2 with (go_at_call 11; refine (HGd.out _ H).mono ?_; rintro e_ w1 ⟨q2, c2, rfl, R, k1, k2, h1⟩)
  generalize hV : World.alloc w1 _ = W1
  have G : Blk W1 w1.heap.size _ _ := Blk.eqw hV (Blk.new' rfl)
  have h2 : Below w1.heap.size w1 W1 := by rw [← hV]; exact (Below.refl _ _).alloc (Nat.le_refl _) _
  have I := iq_of_rd (R.on h2)
  rw [show (goodL n F).length = min n 216 by simp [goodL]] at I
  replace B := (B.on h1).on h2
  replace H := after (after H h1) h2
  clear hV h1 h2 k1 k2 R a0 a1 A HGd
  generalize min n 216 = m at G I ⊢
  generalize w1.heap.size = g at G ⊢
  generalize (fun i => (goodL n F).getD i 0) = F2 at I
  generalize arI els 3 - 1 = els2 at G ⊢
  have g0 := G.cell 0
  have g1 := G.cell 1
  simp only [List.getElem?_toArray, List.getElem?_cons_zero, List.getElem?_cons_succ] at g0 g1
  go_upto_region 3 with (go_at_call 12; refine (view_c _ _ _).mono ?_; rintro e_ w2 ⟨rfl, rfl⟩)
  generalize hV : World.alloc W1 _ = W2
  have T0 := view_tells (Blk.eqw hV (Blk.new' rfl)) (I.on (by rw [← hV]; exact (Below.refl _ _).alloc (Nat.le_refl _) _))
  have h2 : Below W1.heap.size W1 W2 := by rw [← hV]; exact (Below.refl _ _).alloc (Nat.le_refl _) _
  replace I := I.on h2
  replace G := G.on h2
  replace B := B.on h2
  have H2 := Lib.hid (after H h2)
  have HIT := Lib.hid (And.intro I (And.intro G T0))
  have hN2 : N + 1 < W2.heap.size := B.lt
  clear hV h2 g0 g1 I G T0 H
  generalize W1.heap.size = g2 at HIT ⊢
  obtain ⟨⟨b0, b1, b2, b3, b4, b5, b6, b7, b8⟩, -⟩ := B.c9
  go_upto_region 4 with (go_at_call 13; refine (HG.out _).mono ?_; rintro e_ w3 ⟨rfl, k3⟩)
  generalize hV : World.alloc w3 _ = W3
  have XB : Blk W3 w3.heap.size 35 #[.int .i64 x', .int .i64 y', .int .i64 z', .int .i64 sx', .int .i64 sy', .int .i64 sz', .int .i64 wd', .int .i64 ht', .bool st'] := Blk.eqw hV (Blk.new' rfl)
  have hk : Below W2.heap.size W2 W3 := by rw [← hV]; exact after k3 ((Below.refl _ _).alloc (Nat.le_refl _) _)
  have hgx := k3.size
  have K4 := Lib.hid hk
  clear hV k3 hk b0 b1 b2 b3 b4 b5 b6 b7 b8 B HG
  generalize w3.heap.size = gx at XB hgx ⊢
  -- is it blocked?
  obtain ⟨val, hval⟩ : ∃ val : Cl → Int, val = fun x => atG m F2 els2 x.1 x.2.1 x.2.2 := ⟨_, rfl⟩
  have hbk := fun (b : BD) (M : Int) (h : BOk M b) (hM0 : 0 ≤ M) (hM : M ≤ 70000000000000) W (hw : Below W2.heap.size W2 W) => rfBlocked_c q2 m c2 F2 els2 (boxB b).1 (boxB b).2.1 (boxB b).2.2.1 (boxB b).2.2.2.1 (boxB b).2.2.2.2.1 (boxB b).2.2.2.2.2 ((h.box (by omega)).1.box (by omega) (by omega)).1 ((h.box (by omega)).1.box (by omega) (by omega)).2 W (HIT.out.1.on hw)
  have hbv : ∀ b : BD, ((cellsI (boxB b).1 (boxB b).2.1 (boxB b).2.2.1 (boxB b).2.2.2.1 (boxB b).2.2.2.2.1 (boxB b).2.2.2.2.2).any fun x => solB (atG m F2 els2 x.1 x.2.1 x.2.2)) = blk6 val (boxB b) := fun b => by rw [hval]; unfold blk6; rfl
  simp only [hbv] at hbk
  have HBK := Lib.hid hbk
  have HBX := Lib.hid (fun (b : BD) (M : Int) (h : BOk M b) W => rbbox_c b (by have := h.wd; omega) W)
  clear hbk hbv
  have hst0 := fun (b : BD) (ix iz : Int) (jj : Bool) (M : Int) (h : BOk M b) (hM0 : 0 ≤ M) (hM : M ≤ 70000000000000) W (hw : Below W2.heap.size W2 W) => bstep_c 38 #[.pointer (some ⟨g2, 0, none⟩)] (fun x => atG m F2 els2 x.1 x.2.1 x.2.2) b ix iz jj M (by omega) hM0 h W view_en (HIT.out.2.2.on hw)
  rw [← hval] at hst0
  have HS0 := Lib.hid hst0
  clear hst0 hval
  have b1_ := HBX.out _ _ HGG.out
  have b2_ := HBK.out _ _ HGG.out (by decide) (by decide)
  generalize hbb : blk6 val (boxB (x', y', z', sx', sy', sz', wd', ht', st')) = pb at b2_
  have I0 : Hid (BOk (500000 + 262144 * ((0 : Nat) : Int)) (x', y', z', sx', sy', sz', wd', ht', st') ∧ (pb = false → blk6 val (boxB (x', y', z', sx', sy', sz', wd', ht', st')) = false)) := Lib.hid ⟨HGG.out.mono (by decide), fun h => hbb.trans h⟩
  generalize boxB (x', y', z', sx', sy', sz', wd', ht', st') = bx0 at b1_ b2_
  obtain ⟨o1, o2, o3, o4, o5, o6⟩ := bx0
  simp only [bd9, ag6] at b1_ b2_
  have HB1 := Lib.hid b1_
  have HB2 := Lib.hid b2_
  clear b1_ b2_ hbb
  have hG3 := HIT.out.2.1.on K4.out
  have g0 := fun d os => (hG3.re d os).cell 0
  have g1 := fun d os => (hG3.re d os).cell 1
  simp only [List.getElem?_toArray, List.getElem?_cons_zero, List.getElem?_cons_succ] at g0 g1
  have b0 := fun d os => (XB.re d os).cell 0
  have b1 := fun d os => (XB.re d os).cell 1
  have b2 := fun d os => (XB.re d os).cell 2
  have b3 := fun d os => (XB.re d os).cell 3
  have b4 := fun d os => (XB.re d os).cell 4
  have b5 := fun d os => (XB.re d os).cell 5
  have b6 := fun d os => (XB.re d os).cell 6
  have b7 := fun d os => (XB.re d os).cell 7
  have b8 := fun d os => (XB.re d os).cell 8
  simp only [List.getElem?_toArray, List.getElem?_cons_zero, List.getElem?_cons_succ] at b0 b1 b2 b3 b4 b5 b6 b7 b8
  refine wp_region_quiet_below (by kernel_rfl) (by kernel_rfl) ?_
  repeat (go_big_quiet_step (first | (with_reducible exact Calls.regrown_of (HB1.out _)) | (with_reducible exact Calls.regrown_of (HB2.out _ (after K4.out (below_regrown _ _ _))))))
  refine wpQuiet_nil ?_
  intro w' hw'
  obtain ⟨rg, rfl⟩ := hw'
  clear b0 b1 b2 b3 b4 b5 b6 b7 b8 g0 g1 hG3 HB1 HB2
  obtain ⟨W5, hW5⟩ : ∃ W5, W5 = Go.Sort.grow (redrawn W3 rg.d) rg.os := ⟨_, rfl⟩
  have hb5 : Below W3.heap.size W3 W5 := by rw [hW5]; exact below_regrown _ _ _
  rw [← hW5]
  replace XB := XB.on hb5
  have K5 := Lib.hid (after K4.out hb5)
  clear hW5 hb5 K4 HGG
  go_upto_region 6 with (fail)
  go_loopw [11] (fun iv wr => ∃ (k : Nat) (x1 y1 z1 sx1 sy1 sz1 wd1 ht1 : Int) (st1 : Bool), k ≤ nl ∧ k ≤ 8 ∧ iv = .int .i64 k ∧ Blk wr gx 35 #[.int .i64 x1, .int .i64 y1, .int .i64 z1, .int .i64 sx1, .int .i64 sy1, .int .i64 sz1, .int .i64 wd1, .int .i64 ht1, .bool st1] ∧ Hid (BOk (500000 + 262144 * (k : Int)) (x1, y1, z1, sx1, sy1, sz1, wd1, ht1, st1) ∧ (pb = false → blk6 val (boxB (x1, y1, z1, sx1, sy1, sz1, wd1, ht1, st1)) = false)) ∧ Hid (Below W2.heap.size W2 wr)) (fun iv _ => nl - (intOf iv).toNat)
  case atStart => exact ⟨0, _, _, _, _, _, _, _, _, _, Nat.zero_le _, Nat.zero_le _, rfl, XB, I0, K5⟩
  case round =>
    clear XB I0 K5
    obtain ⟨k, x1, y1, z1, sx1, sy1, sz1, wd1, ht1, st1, hk, hk6, rfl, X, I, KK⟩ := hrel
    have hdone : ¬ ((k : Int) < nl) ∨ ((k : Int) < nl ∧ ¬ ((k : Int) < 8)) ∨ (k < nl ∧ k < 8) := by omega
    rcases hdone with h1 | ⟨h1, h2⟩ | ⟨hlt, hk13⟩
    · go_wp2_with (go_at_call 16; refine (blives_c _).mono ?_; rintro e_ w5 ⟨rfl, k5⟩)
      go_returns
      exact ⟨rfl, after (after H2.out KK.out) k5⟩
    · go_wp2_with (go_at_call 16; refine (blives_c _).mono ?_; rintro e_ w5 ⟨rfl, k5⟩)
      go_returns
      exact ⟨rfl, after (after H2.out KK.out) k5⟩
    · have h1 : (k : Int) < nl := by omega
      have h2 : (k : Int) < 8 := by omega
      have hk0 : (0 : Int) ≤ (k : Int) := by omega
      have hkc : k < cl := by have := HM.out.1; omega
      obtain ⟨⟨ix, iz, jj⟩, hin⟩ : ∃ inp, FL k = inp := ⟨_, rfl⟩
      obtain ⟨gq, oq, rfl, hc0, hc1, hc2⟩ := (HQ.out.on (after H2.out KK.out)).in3 hlt hin
      have c0 := cell_regrown hc0
      have c1 := cell_regrown hc1
      have c2_ := cell_regrown hc2
      clear hin hc0 hc1 hc2
      have hM : (500000 + 262144 * (k : Int)) ≤ 70000000000000 := by omega
      have hM0 : (0 : Int) ≤ 500000 + 262144 * (k : Int) := by omega
      have ed := I.out.1.step hM0 hM val ix iz jj
      have sf := step_free val I.out.1 hM0 hM ix iz jj
      have hst := HS0.out _ ix iz jj _ I.out.1 hM0 hM
      generalize stepB val (x1, y1, z1, sx1, sy1, sz1, wd1, ht1, st1) ix iz jj = e2 at ed sf hst
      have hmy := fun W => bmay_c e2 W
      have hmt : mayB e2 = true := by
        obtain ⟨m1, m2, m3, m4, m5, m6, m7, m8⟩ := ed
        have e1 : inI e2.1 e2.2.1 e2.2.2.1 70368744177664 = true := inI_iff.2 ⟨by omega, by omega, by omega⟩
        have e3 : inI e2.2.2.2.1 e2.2.2.2.2.1 e2.2.2.2.2.2.1 262144 = true := inI_iff.2 ⟨by omega, by omega, by omega⟩
        unfold mayB
        rw [e1, e3]
        simp
        omega
      rw [hmt] at hmy
      have b1_ := HBX.out _ _ ed
      have b2_ := HBK.out _ _ ed (by omega) (by omega)
      have hfr := fun h => sf.free (I.out.2 h)
      obtain ⟨x2, y2, z2, sx2, sy2, sz2, wd2, ht2, st2⟩ := e2
      obtain ⟨ewd, eht, dx, dy, dz, -⟩ := sf
      dsimp only at ewd eht dx dy dz
      subst ewd eht
      have ed1 := ed.x
      have ed2 := ed.y
      have ed3 := ed.z
      have ec1 := I.out.1.x
      have ec2 := I.out.1.y
      have ec3 := I.out.1.z
      dsimp only at ed1 ed2 ed3 ec1 ec2 ec3
      have HD := Lib.hid (And.intro dx (And.intro dy (And.intro dz (And.intro ed1 (And.intro ed2 (And.intro ed3 (And.intro ec1 (And.intro ec2 ec3))))))))
      have HED := Lib.hid (show BOk (500000 + 262144 * ((k + 1 : Nat) : Int)) (x2, y2, z2, sx2, sy2, sz2, wd2, ht2, st2) ∧ (pb = false → blk6 val (boxB (x2, y2, z2, sx2, sy2, sz2, wd2, ht2, st2)) = false) from ⟨ed.mono (by omega), hfr⟩)
      have hfr2 : pb = false → blk6 val (boxB (x2, y2, z2, sx2, sy2, sz2, wd2, ht2, st2)) = false := hfr
      generalize blk6 val (boxB (x2, y2, z2, sx2, sy2, sz2, wd2, ht2, st2)) = p2 at b2_ hfr2
      generalize boxB (x2, y2, z2, sx2, sy2, sz2, wd2, ht2, st2) = bx2 at b1_ b2_
      obtain ⟨o1, o2, o3, o4, o5, o6⟩ := bx2
      simp only [bd9, ag6] at hst hmy b1_ b2_
      have HST := Lib.hid hst
      have HMY := Lib.hid hmy
      have HB1 := Lib.hid b1_
      have HB2 := Lib.hid b2_
      have HF := Lib.hid hfr2
      clear hst hmy hmt ed hM hM0 I hfr hfr2 b1_ b2_ dx dy dz ed1 ed2 ed3 ec1 ec2 ec3
      have b0 := fun d os => (X.re d os).cell 0
      have b1 := fun d os => (X.re d os).cell 1
      have b2 := fun d os => (X.re d os).cell 2
      have b3 := fun d os => (X.re d os).cell 3
      have b4 := fun d os => (X.re d os).cell 4
      have b5 := fun d os => (X.re d os).cell 5
      have b6 := fun d os => (X.re d os).cell 6
      have b7 := fun d os => (X.re d os).cell 7
      have b8 := fun d os => (X.re d os).cell 8
      simp only [List.getElem?_toArray, List.getElem?_cons_zero, List.getElem?_cons_succ] at b0 b1 b2 b3 b4 b5 b6 b7 b8
      go_upto_region 8 with (fail)
      refine wp_region_float (t := 35) (z := #[.int .i64 0, .int .i64 0, .int .i64 0, .int .i64 0, .int .i64 0, .int .i64 0, .int .i64 0, .int .i64 0, .bool false]) 7 12 (by kernel_rfl) rfl (by kernel_rfl) rfl (fun _ _ => by kernel_rfl) ?_
      simp only [List.take_succ_cons, List.take_zero, List.drop_succ_cons, List.drop_zero]
      repeat (refine wpRel_step (fun K hK => ?_); go_simp; first | (refine hK _ ?_; clear hK K) | (apply Exists.intro; refine ⟨fun _ => ?_, hK _ ?_⟩; (((with_reducible refine Calls.mono (HST.out _ (after KK.out (below_regrown _ _ _))) ?_); exact fun _ _ h => h)); clear hK K))
      refine wpRel_nil ?_
      intro b W hb hB hle
      clear b0 b1 b2 b3 b4 b5 b6 b7 b8 c0 c1 c2_ HST
      obtain ⟨⟨b0, b1, b2, b3, b4, b5, b6, b7, b8⟩, f0, f1, f2, f3, f4, f5, f6, f7, f8⟩ := hB.c9
      simp only [Act.put]
      go_upto_region 9 with (fail)
      generalize hV : World.setCell (World.setCell (World.setCell (World.setCell (World.setCell (World.setCell (World.setCell (World.setCell (World.setCell W _ _) _ _) _ _) _ _) _ _) _ _) _ _) _ _) _ _ = W6
      have Y : Blk W6 b 35 #[.int .i64 x2, .int .i64 y2, .int .i64 z2, .int .i64 sx2, .int .i64 sy2, .int .i64 sz2, .int .i64 wd2, .int .i64 ht2, .bool st2] := Blk.eqw hV (hB.st9 _ _ _ _ _ _ _ _ _)
      have hb6 : Below wr.heap.size wr W6 := by rw [← hV]; exact sx9_below hb hle _ _ _ _ _ _ _ _ _
      replace X := X.on hb6
      have K6 := Lib.hid (after KK.out hb6)
      clear hV hb hB hb6 b0 b1 b2 b3 b4 b5 b6 b7 b8 f0 f1 f2 f3 f4 f5 f6 f7 f8 KK hle
      obtain ⟨⟨y0_, y1_, y2_, y3_, y4_, y5_, y6_, y7_, y8_⟩, -⟩ := Y.c9
      go_upto_region 11 with (go_at_call 20; refine (HMY.out _).mono ?_; rintro e_ W7 ⟨rfl, h7⟩; clear y0_ y1_ y2_ y3_ y4_ y5_ y6_ y7_ y8_; replace X := X.on h7; replace Y := Y.on h7; have K7 := Lib.hid (after K6.out h7); clear h7; obtain ⟨⟨y0_, y1_, y2_, y3_, y4_, y5_, y6_, y7_, y8_⟩, -⟩ := Y.c9; obtain ⟨⟨x0_, x1_, x2_, x3_, x4_, x5_, x6_, x7_, x8_⟩, -⟩ := X.c9)
      clear y0_ y1_ y2_ y3_ y4_ y5_ y6_ y7_ y8_ x0_ x1_ x2_ x3_ x4_ x5_ x6_ x7_ x8_ HMY K6
      have HKB := Lib.hid (And.intro hk13 h2)
      cases pb
      · have hp2 := HF.out rfl
        subst hp2
        have hG3 := HIT.out.2.1.on K7.out
        have g0 := fun d os => (hG3.re d os).cell 0
        have g1 := fun d os => (hG3.re d os).cell 1
        simp only [List.getElem?_toArray, List.getElem?_cons_zero, List.getElem?_cons_succ] at g0 g1
        have y0_ := fun d os => (Y.re d os).cell 0
        have y1_ := fun d os => (Y.re d os).cell 1
        have y2_ := fun d os => (Y.re d os).cell 2
        have y3_ := fun d os => (Y.re d os).cell 3
        have y4_ := fun d os => (Y.re d os).cell 4
        have y5_ := fun d os => (Y.re d os).cell 5
        have y6_ := fun d os => (Y.re d os).cell 6
        have y7_ := fun d os => (Y.re d os).cell 7
        have y8_ := fun d os => (Y.re d os).cell 8
        simp only [List.getElem?_toArray, List.getElem?_cons_zero, List.getElem?_cons_succ] at y0_ y1_ y2_ y3_ y4_ y5_ y6_ y7_ y8_
        refine wp_region_quiet_below (by kernel_rfl) (by kernel_rfl) ?_
        repeat (go_big_quiet_step (first | (with_reducible exact Calls.regrown_of (HB1.out _)) | (with_reducible exact Calls.regrown_of (HB2.out _ (after K7.out (below_regrown _ _ _))))))
        refine wpQuiet_nil ?_
        intro w' hw'
        obtain ⟨rg, rfl⟩ := hw'
        clear y0_ y1_ y2_ y3_ y4_ y5_ y6_ y7_ y8_ g0 g1 hG3 HB1 HB2
        obtain ⟨W8, hW8⟩ : ∃ W8, W8 = Go.Sort.grow (redrawn W7 rg.d) rg.os := ⟨_, rfl⟩
        have hb8 : Below W7.heap.size W7 W8 := by rw [hW8]; exact below_regrown _ _ _
        rw [← hW8]
        replace X := X.on hb8
        replace Y := Y.on hb8
        have K8 := Lib.hid (after K7.out hb8)
        clear hW8 hb8 K7
        go_upto_region 14 with (fail)
        go_loopw [13] (fun kv wq => Hid (kv = .int .i64 0 ∨ kv = .int .i64 1 ∨ kv = .int .i64 2 ∨ kv = .int .i64 3) ∧ Blk wq gx 35 #[.int .i64 x1, .int .i64 y1, .int .i64 z1, .int .i64 sx1, .int .i64 sy1, .int .i64 sz1, .int .i64 wd2, .int .i64 ht2, .bool st1] ∧ Blk wq b 35 #[.int .i64 x2, .int .i64 y2, .int .i64 z2, .int .i64 sx2, .int .i64 sy2, .int .i64 sz2, .int .i64 wd2, .int .i64 ht2, .bool st2] ∧ Hid (Below W2.heap.size W2 wq)) (fun kv _ => 3 - (intOf kv).toNat)
        case atStart => exact ⟨Lib.hid (.inl rfl), X, Y, K8⟩
        case round =>
          clear X Y K8
          obtain ⟨hd, X, Y, K9⟩ := hrel
          have hd := hd.out
          rcases hd with rfl | rfl | rfl | rfl
          · clear hd
            have n1 : ¬ (mxI 16384 32768 < x2 - x1) := by have := HD.out; unfold mxI; omega
            have n2 : ¬ (x2 - x1 < -16384) := by have := HD.out; omega
            have he : IntKind.i64.wrap (x2 - x1) = x2 - x1 := IntWalk.i64_in _ (by have := HD.out; have := HKB.out; omega)
            have HA1 := Lib.hid (fun W => raxis_v x2 y2 z2 0 x2 rfl W)
            have HA2 := Lib.hid (fun W => raxis_v x1 y1 z1 0 x1 rfl W)
            have x0_ := fun d os => (X.re d os).cell 0
            have x1_ := fun d os => (X.re d os).cell 1
            have x2_ := fun d os => (X.re d os).cell 2
            have y0_ := fun d os => (Y.re d os).cell 0
            have y1_ := fun d os => (Y.re d os).cell 1
            have y2_ := fun d os => (Y.re d os).cell 2
            simp only [List.getElem?_toArray, List.getElem?_cons_zero, List.getElem?_cons_succ] at x0_ x1_ x2_ y0_ y1_ y2_
            go_upto_region 16 with (fail)
            refine wp_region_quiet_below (by kernel_rfl) (by kernel_rfl) ?_
            repeat (go_big_quiet_step (first | (with_reducible exact Calls.regrown_of (HA1.out _)) | (with_reducible exact Calls.regrown_of (HA2.out _))))
            refine wpQuiet_nil ?_
            intro w' hw'
            obtain ⟨rg, rfl⟩ := hw'
            clear x0_ x1_ x2_ y0_ y1_ y2_ HA1 HA2 he
            go_wp2_with fail
            go_roundw
            case rel => exact ⟨Lib.hid (.inr (.inl rfl)), X.re _ _, Y.re _ _, Lib.hid (after K9.out (below_regrown _ _ _))⟩
            case measure => simp [intOf]
          · clear hd
            have n1 : ¬ (mxI 262144 32768 < y2 - y1) := by have := HD.out; unfold mxI; omega
            have n2 : ¬ (y2 - y1 < -262144) := by have := HD.out; omega
            have he : IntKind.i64.wrap (y2 - y1) = y2 - y1 := IntWalk.i64_in _ (by have := HD.out; have := HKB.out; omega)
            have HA1 := Lib.hid (fun W => raxis_v x2 y2 z2 1 y2 rfl W)
            have HA2 := Lib.hid (fun W => raxis_v x1 y1 z1 1 y1 rfl W)
            have x0_ := fun d os => (X.re d os).cell 0
            have x1_ := fun d os => (X.re d os).cell 1
            have x2_ := fun d os => (X.re d os).cell 2
            have y0_ := fun d os => (Y.re d os).cell 0
            have y1_ := fun d os => (Y.re d os).cell 1
            have y2_ := fun d os => (Y.re d os).cell 2
            simp only [List.getElem?_toArray, List.getElem?_cons_zero, List.getElem?_cons_succ] at x0_ x1_ x2_ y0_ y1_ y2_
            go_upto_region 16 with (fail)
            refine wp_region_quiet_below (by kernel_rfl) (by kernel_rfl) ?_
            repeat (go_big_quiet_step (first | (with_reducible exact Calls.regrown_of (HA1.out _)) | (with_reducible exact Calls.regrown_of (HA2.out _))))
            refine wpQuiet_nil ?_
            intro w' hw'
            obtain ⟨rg, rfl⟩ := hw'
            clear x0_ x1_ x2_ y0_ y1_ y2_ HA1 HA2 he
            go_wp2_with fail
            go_roundw
            case rel => exact ⟨Lib.hid (.inr (.inr (.inl rfl))), X.re _ _, Y.re _ _, Lib.hid (after K9.out (below_regrown _ _ _))⟩
            case measure => simp [intOf]
          · clear hd
            have n1 : ¬ (mxI 16384 32768 < z2 - z1) := by have := HD.out; unfold mxI; omega
            have n2 : ¬ (z2 - z1 < -16384) := by have := HD.out; omega
            have he : IntKind.i64.wrap (z2 - z1) = z2 - z1 := IntWalk.i64_in _ (by have := HD.out; have := HKB.out; omega)
            have HA1 := Lib.hid (fun W => raxis_v x2 y2 z2 2 z2 rfl W)
            have HA2 := Lib.hid (fun W => raxis_v x1 y1 z1 2 z1 rfl W)
            have x0_ := fun d os => (X.re d os).cell 0
            have x1_ := fun d os => (X.re d os).cell 1
            have x2_ := fun d os => (X.re d os).cell 2
            have y0_ := fun d os => (Y.re d os).cell 0
            have y1_ := fun d os => (Y.re d os).cell 1
            have y2_ := fun d os => (Y.re d os).cell 2
            simp only [List.getElem?_toArray, List.getElem?_cons_zero, List.getElem?_cons_succ] at x0_ x1_ x2_ y0_ y1_ y2_
            go_upto_region 16 with (fail)
            refine wp_region_quiet_below (by kernel_rfl) (by kernel_rfl) ?_
            repeat (go_big_quiet_step (first | (with_reducible exact Calls.regrown_of (HA1.out _)) | (with_reducible exact Calls.regrown_of (HA2.out _))))
            refine wpQuiet_nil ?_
            intro w' hw'
            obtain ⟨rg, rfl⟩ := hw'
            clear x0_ x1_ x2_ y0_ y1_ y2_ HA1 HA2 he
            go_wp2_with fail
            go_roundw
            case rel => exact ⟨Lib.hid (.inr (.inr (.inr rfl))), X.re _ _, Y.re _ _, Lib.hid (after K9.out (below_regrown _ _ _))⟩
            case measure => simp [intOf]
          · clear hd
            obtain ⟨⟨y0_, y1_, y2_, y3_, y4_, y5_, y6_, y7_, y8_⟩, -⟩ := Y.c9
            obtain ⟨⟨x0_, x1_, x2_, x3_, x4_, x5_, x6_, x7_, x8_⟩, f0, f1, f2, f3, f4, f5, f6, f7, f8⟩ := X.c9
            go_wp2_with fail
            exact ⟨⟨k + 1, x2, y2, z2, sx2, sy2, sz2, wd2, ht2, st2, hlt, hk13, by go_num, X.st9 _ _ _ _ _ _ _ _ _, HED, Lib.hid (sx9_below K9.out hgx _ _ _ _ _ _ _ _ _)⟩, next_less' hlt⟩
      · clear HF
        refine wp_region_quiet_below (by kernel_rfl) (by kernel_rfl) ?_
        repeat (go_big_quiet_step (fail))
        refine wpQuiet_nil ?_
        intro w' hw'
        obtain ⟨rg, rfl⟩ := hw'
        clear HB1 HB2
        obtain ⟨W8, hW8⟩ : ∃ W8, W8 = Go.Sort.grow (redrawn W7 rg.d) rg.os := ⟨_, rfl⟩
        have hb8 : Below W7.heap.size W7 W8 := by rw [hW8]; exact below_regrown _ _ _
        rw [← hW8]
        replace X := X.on hb8
        replace Y := Y.on hb8
        have K8 := Lib.hid (after K7.out hb8)
        clear hW8 hb8 K7
        go_upto_region 14 with (fail)
        go_loopw [13] (fun kv wq => Hid (kv = .int .i64 0 ∨ kv = .int .i64 1 ∨ kv = .int .i64 2 ∨ kv = .int .i64 3) ∧ Blk wq gx 35 #[.int .i64 x1, .int .i64 y1, .int .i64 z1, .int .i64 sx1, .int .i64 sy1, .int .i64 sz1, .int .i64 wd2, .int .i64 ht2, .bool st1] ∧ Blk wq b 35 #[.int .i64 x2, .int .i64 y2, .int .i64 z2, .int .i64 sx2, .int .i64 sy2, .int .i64 sz2, .int .i64 wd2, .int .i64 ht2, .bool st2] ∧ Hid (Below W2.heap.size W2 wq)) (fun kv _ => 3 - (intOf kv).toNat)
        case atStart => exact ⟨Lib.hid (.inl rfl), X, Y, K8⟩
        case round =>
          clear X Y K8
          obtain ⟨hd, X, Y, K9⟩ := hrel
          have hd := hd.out
          rcases hd with rfl | rfl | rfl | rfl
          · clear hd
            have n1 : ¬ (mxI 16384 32768 < x2 - x1) := by have := HD.out; unfold mxI; omega
            have n2 : ¬ (x2 - x1 < -16384) := by have := HD.out; omega
            have he : IntKind.i64.wrap (x2 - x1) = x2 - x1 := IntWalk.i64_in _ (by have := HD.out; have := HKB.out; omega)
            have HA1 := Lib.hid (fun W => raxis_v x2 y2 z2 0 x2 rfl W)
            have HA2 := Lib.hid (fun W => raxis_v x1 y1 z1 0 x1 rfl W)
            have x0_ := fun d os => (X.re d os).cell 0
            have x1_ := fun d os => (X.re d os).cell 1
            have x2_ := fun d os => (X.re d os).cell 2
            have y0_ := fun d os => (Y.re d os).cell 0
            have y1_ := fun d os => (Y.re d os).cell 1
            have y2_ := fun d os => (Y.re d os).cell 2
            simp only [List.getElem?_toArray, List.getElem?_cons_zero, List.getElem?_cons_succ] at x0_ x1_ x2_ y0_ y1_ y2_
            go_upto_region 16 with (fail)
            refine wp_region_quiet_below (by kernel_rfl) (by kernel_rfl) ?_
            repeat (go_big_quiet_step (first | (with_reducible exact Calls.regrown_of (HA1.out _)) | (with_reducible exact Calls.regrown_of (HA2.out _))))
            refine wpQuiet_nil ?_
            intro w' hw'
            obtain ⟨rg, rfl⟩ := hw'
            clear x0_ x1_ x2_ y0_ y1_ y2_ HA1 HA2 he
            go_wp2_with fail
            go_roundw
            case rel => exact ⟨Lib.hid (.inr (.inl rfl)), X.re _ _, Y.re _ _, Lib.hid (after K9.out (below_regrown _ _ _))⟩
            case measure => simp [intOf]
          · clear hd
            have n1 : ¬ (mxI 262144 32768 < y2 - y1) := by have := HD.out; unfold mxI; omega
            have n2 : ¬ (y2 - y1 < -262144) := by have := HD.out; omega
            have he : IntKind.i64.wrap (y2 - y1) = y2 - y1 := IntWalk.i64_in _ (by have := HD.out; have := HKB.out; omega)
            have HA1 := Lib.hid (fun W => raxis_v x2 y2 z2 1 y2 rfl W)
            have HA2 := Lib.hid (fun W => raxis_v x1 y1 z1 1 y1 rfl W)
            have x0_ := fun d os => (X.re d os).cell 0
            have x1_ := fun d os => (X.re d os).cell 1
            have x2_ := fun d os => (X.re d os).cell 2
            have y0_ := fun d os => (Y.re d os).cell 0
            have y1_ := fun d os => (Y.re d os).cell 1
            have y2_ := fun d os => (Y.re d os).cell 2
            simp only [List.getElem?_toArray, List.getElem?_cons_zero, List.getElem?_cons_succ] at x0_ x1_ x2_ y0_ y1_ y2_
            go_upto_region 16 with (fail)
            refine wp_region_quiet_below (by kernel_rfl) (by kernel_rfl) ?_
            repeat (go_big_quiet_step (first | (with_reducible exact Calls.regrown_of (HA1.out _)) | (with_reducible exact Calls.regrown_of (HA2.out _))))
            refine wpQuiet_nil ?_
            intro w' hw'
            obtain ⟨rg, rfl⟩ := hw'
            clear x0_ x1_ x2_ y0_ y1_ y2_ HA1 HA2 he
            go_wp2_with fail
            go_roundw
            case rel => exact ⟨Lib.hid (.inr (.inr (.inl rfl))), X.re _ _, Y.re _ _, Lib.hid (after K9.out (below_regrown _ _ _))⟩
            case measure => simp [intOf]
          · clear hd
            have n1 : ¬ (mxI 16384 32768 < z2 - z1) := by have := HD.out; unfold mxI; omega
            have n2 : ¬ (z2 - z1 < -16384) := by have := HD.out; omega
            have he : IntKind.i64.wrap (z2 - z1) = z2 - z1 := IntWalk.i64_in _ (by have := HD.out; have := HKB.out; omega)
            have HA1 := Lib.hid (fun W => raxis_v x2 y2 z2 2 z2 rfl W)
            have HA2 := Lib.hid (fun W => raxis_v x1 y1 z1 2 z1 rfl W)
            have x0_ := fun d os => (X.re d os).cell 0
            have x1_ := fun d os => (X.re d os).cell 1
            have x2_ := fun d os => (X.re d os).cell 2
            have y0_ := fun d os => (Y.re d os).cell 0
            have y1_ := fun d os => (Y.re d os).cell 1
            have y2_ := fun d os => (Y.re d os).cell 2
            simp only [List.getElem?_toArray, List.getElem?_cons_zero, List.getElem?_cons_succ] at x0_ x1_ x2_ y0_ y1_ y2_
            go_upto_region 16 with (fail)
            refine wp_region_quiet_below (by kernel_rfl) (by kernel_rfl) ?_
            repeat (go_big_quiet_step (first | (with_reducible exact Calls.regrown_of (HA1.out _)) | (with_reducible exact Calls.regrown_of (HA2.out _))))
            refine wpQuiet_nil ?_
            intro w' hw'
            obtain ⟨rg, rfl⟩ := hw'
            clear x0_ x1_ x2_ y0_ y1_ y2_ HA1 HA2 he
            go_wp2_with fail
            go_roundw
            case rel => exact ⟨Lib.hid (.inr (.inr (.inr rfl))), X.re _ _, Y.re _ _, Lib.hid (after K9.out (below_regrown _ _ _))⟩
            case measure => simp [intOf]
          · clear hd
            obtain ⟨⟨y0_, y1_, y2_, y3_, y4_, y5_, y6_, y7_, y8_⟩, -⟩ := Y.c9
            obtain ⟨⟨x0_, x1_, x2_, x3_, x4_, x5_, x6_, x7_, x8_⟩, f0, f1, f2, f3, f4, f5, f6, f7, f8⟩ := X.c9
            go_wp2_with fail
            exact ⟨⟨k + 1, x2, y2, z2, sx2, sy2, sz2, wd2, ht2, st2, hlt, hk13, by go_num, X.st9 _ _ _ _ _ _ _ _ _, HED, Lib.hid (sx9_below K9.out hgx _ _ _ _ _ _ _ _ _)⟩, next_less' hlt⟩
set_option maxRecDepth 100000 in
theorem bodyFree_lifted (os : Os) (started : os.Started) (H : Type) (enc : TypeId × Value → H) :
    ReturnsInHanded {} Try.checked os 6 .any (Rows.bodyFreeSpec.pre6 enc Try.prog Try.f6 Rows.bodyFreeRow.domain false) (Rows.bodyFreeSpec.post enc Try.prog Try.f6 false true false false) := by
  refine returnsInHanded_of_change (C := Try.checked) own started (by kernel_rfl) Try.func6
    (ChangeSpec.witness6 (enc := enc) (C := Try.checked) false ⟨#[], #[.agg #[.slice none 0 0, .int .i64 0], .agg #[.int .i64 0, .int .i64 0, .int .i64 0, .int .i64 0, .int .i64 0, .int .i64 0, .int .i64 0, .int .i64 0, .bool false], .slice none 0 0], []⟩ 8 (by kernel_rfl) (by kernel_rfl) (by kernel_rfl) (by kernel_rfl)) ?_
  intro W base args ds gs before hval0 hW hcnd hsz
  have hval : ∀ (j : Nat) t v, Try.f6.params[j]? = some t → args[j]? = some v → Value.okWide Try.prog W .any base t v := hval0
  have hW' := hW
  obtain ⟨p, q, hA0, hV, rfl, hfz, hnd⟩ := hW
  have hA : DataW.TrodAll enc Try.prog W 0 (fun _ => true) true Try.f6.params.toList args.toList ds p := hA0
  rw [Try.params6] at hA hval
  obtain ⟨v0, vs0, d0, ds0, p_0, q_0, hargs, rfl, rfl, h0, r_0⟩ := trodAll_cons hA
  obtain ⟨v1, vs1, d1, ds1, p_1, q_1, rfl, rfl, rfl, h1, r_1⟩ := trodAll_cons r_0
  obtain ⟨v2, vs2, d2, ds2, p_2, q_2, rfl, rfl, rfl, h2, r_2⟩ := trodAll_cons r_1
  obtain ⟨rfl, rfl, rfl⟩ := trodAll_nil r_2
  obtain rfl : args = #[v0, v1, v2] := by cases args; simp_all
  obtain ⟨rfl, rfl⟩ := trodVars_none hV
  obtain ⟨gq0, gn0, gc0, gF0, ge0, rfl, gl0, gm0, gi0, gw0, gv0⟩ := open_world Try.underlying24 Try.underlying22 (by kernel_rfl) (by kernel_rfl) Try.underlying3 (hval 0 24 v0 rfl rfl) h0
  obtain ⟨b1, rfl, wb1⟩ := open_bd Try.underlying28 Try.underlying26 (by kernel_rfl) (by kernel_rfl) (by kernel_rfl) Try.underlying3 Try.underlying4 (hval 1 28 v1 rfl rfl) h1
  obtain ⟨A2, n2, k2, l2, rfl, b2, c2, e2, f2⟩ := open_ins Try.underlying29 Try.underlying39 (by kernel_rfl) (by kernel_rfl) Try.underlying3 Try.underlying4 (hval 2 29 v2 rfl rfl) h2
  refine (bodyFree_c gq0 gn0 gc0 gF0 ge0 gl0 gm0 gw0 gv0 b1 wb1 A2 n2 k2 l2 b2 c2 W gi0 e2 f2).mono fun e W' ⟨he, hb⟩ => ?_
  subst he
  exact ⟨_, rfl, law_post laidOut (by kernel_rfl) rfl (by kernel_rfl) Try.underlying4 hW' rfl rfl rfl hb⟩

/-- The statement. -/
theorem bodyFree_proved : Rows.BodyFreeSaid :=
  OpenClaim.holds_of_wide 6 Try.f6 rfl rfl rfl rfl rfl rfl rfl ⟨rfl, rfl, rfl, rfl, rfl⟩ rfl rfl rfl rfl rfl (by kernel_rfl) Try.func6 (by kernel_rfl)
    (of_decide_eq_true (by kernel_rfl)) (by unfold Func.isWrapper; first | (rw [if_pos (by decide +kernel)]; kernel_rfl) | (rw [if_neg (by decide +kernel)]; exact ⟨rfl, rfl⟩))
    (fun os started H enc _ => bodyFree_lifted os started H enc)
end Go.Proofs.Ytnokibdecnddlaa
