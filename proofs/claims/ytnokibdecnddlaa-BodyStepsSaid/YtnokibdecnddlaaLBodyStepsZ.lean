/- BodySteps holds: any small world, any body, any inputs. -/
import Derived.Test.YtnokibdecnddlaaMa10
import Derived.Test.YtnokibdecnddlaaMa8
import Derived.Test.YtnokibdecnddlaaMa9
namespace Go.Proofs.Ytnokibdecnddlaa
open Go.ChangeShapes Go.WideShapes Go.ChangeAt Go.RowKit Go.Shelf
attribute [local go_sem] Oper.semAt_some

theorem bd_neq_self (x y z sx sy sz wd ht : Int) (st : Bool) (w : World) : (binOp .neq 28 (.agg #[.int .i64 x, .int .i64 y, .int .i64 z, .int .i64 sx, .int .i64 sy, .int .i64 sz, .int .i64 wd, .int .i64 ht, .bool st]) (.agg #[.int .i64 x, .int .i64 y, .int .i64 z, .int .i64 sx, .int .i64 sy, .int .i64 sz, .int .i64 wd, .int .i64 ht, .bool st])).run Try.prog w = .ok (.bool false) w := by
  rw [run_neq_struct]
  simp [go_sem]
theorem bd_guard : Try.prog.eqGuardType Try.prog.depth 28 = false := by kernel_rfl
set_option maxRecDepth 100000 in
set_option maxHeartbeats 16000000 in
theorem bodySteps_c (q : Option Addr) (n c : Nat) (F : Nat → Int) (els : Int) (_ : n ≤ c) (hm : c ≤ maxLen) (hF : ∀ i, i < n → In64 (F i)) (he : In64 els) (b : BD) (hb : Bd64 b) (ql : Option Addr) (nl cl : Nat) (FL : Nat → InD) (hnl : nl ≤ cl) (hml : cl ≤ maxLen) (w : World) (hq : Iq w q n F) (hql : Rws 3 enIn w ql nl FL) (_ : ∀ i, i < nl → In64 (FL i).1 ∧ In64 (FL i).2.1) :
    Calls Try.prog 3 #[.agg #[.slice q n c, .int .i64 els], .agg (bd9 b), .slice ql nl cl] w fun r w' => r = .returned (.bool true) ∧ Below w.heap.size w w' := by
  obtain ⟨i1, i2, i3, i4, i5, i6, i7, i8⟩ := hb
  have HG := Lib.hid (fun W => rgood20_c b i1 i2 i3 i4 i5 i6 i7 i8 W)
  have hG := goodB_ok b
  clear i1 i2 i3 i4 i5 i6 i7 i8
  generalize goodB b = cb at HG hG
  obtain ⟨bx, by_, bz, sx, sy, sz, wd, ht, st⟩ := b
  obtain ⟨x', y', z', sx', sy', sz', wd', ht', st'⟩ := cb
  have HGG := Lib.hid hG
  have HM := Lib.hid (And.intro hnl hml)
  have HQ := Lib.hid hql
  have HGd := Lib.hid (fun W (h : Below w.heap.size w W) => rgood13_c q n c F els hm W (hq.on h) hF he)
  clear hG hnl hml hql hm hF he hq
  simp only [bd9] at *
  obtain ⟨N, hN⟩ : ∃ N, N = w.heap.size := ⟨_, rfl⟩
  obtain ⟨W, hW⟩ : ∃ W, W = (w.alloc (.cells #[.slice q n c, .int .i64 els] 24)).alloc (.cells #[.int .i64 bx, .int .i64 by_, .int .i64 bz, .int .i64 sx, .int .i64 sy, .int .i64 sz, .int .i64 wd, .int .i64 ht, .bool st] 28) := ⟨_, rfl⟩
  have H : Below w.heap.size w W := by rw [hW]; go_grown
  have A : Blk W N 24 _ := Blk.eqw hW.symm ((Blk.new' hN).alloc _)
  have B : Blk W (N + 1) 28 _ := Blk.eqw hW.symm (Blk.new' (by rw [hN]; simp))
  go_enter Try.func3, Try.ntmps3
  go_upto_region 1 with (fail)
  rw [← hW, ← hN]
  have HN := Lib.hid hN
  clear hW hN
  have a0 := A.cell 0
  have a1 := A.cell 1
  simp only [List.getElem?_toArray, List.getElem?_cons_zero, List.getElem?_cons_succ] at a0 a1
  go_upto_region 2 with (go_at_call 11; refine (HGd.out _ H).mono ?_; rintro e_ w1 ⟨q2, c2, rfl, R, k1, k2, h1⟩)
  generalize hV : World.alloc w1 _ = W1
  have G : Blk W1 w1.heap.size _ _ := Blk.eqw hV (Blk.new' rfl)
  have h2 : Below w1.heap.size w1 W1 := by rw [← hV]; exact (Below.refl _ _).alloc (Nat.le_refl _) _
  have I := iq_of_rd (R.on h2)
  rw [show (goodL n F).length = min n 216 by simp [goodL]] at I
  replace B := (B.on h1).on h2
  replace H := after (after H h1) h2
  clear hV h1 h2 k1 k2 R a0 a1 A HGd
  generalize min n 216 = m at G I ⊢
  generalize w1.heap.size = g at G ⊢
  generalize (fun i => (goodL n F).getD i 0) = F2 at I
  generalize arI els 3 - 1 = els2 at G ⊢
  have g0 := G.cell 0
  have g1 := G.cell 1
  simp only [List.getElem?_toArray, List.getElem?_cons_zero, List.getElem?_cons_succ] at g0 g1
  go_upto_region 3 with (go_at_call 12; refine (view_c _ _ _).mono ?_; rintro e_ w2 ⟨rfl, rfl⟩)
  generalize hV : World.alloc W1 _ = W2
  have T0 := view_tells (Blk.eqw hV (Blk.new' rfl)) (I.on (by rw [← hV]; exact (Below.refl _ _).alloc (Nat.le_refl _) _))
  have h2 : Below W1.heap.size W1 W2 := by rw [← hV]; exact (Below.refl _ _).alloc (Nat.le_refl _) _
  replace I := I.on h2
  replace G := G.on h2
  replace B := B.on h2
  have H2 := Lib.hid (after H h2)
  have HIT := Lib.hid (And.intro I (And.intro G T0))
  have hN2 : N + 1 < W2.heap.size := B.lt
  clear hV h2 g0 g1 I G T0 H
  generalize W1.heap.size = g2 at HIT ⊢
  obtain ⟨⟨b0, b1, b2, b3, b4, b5, b6, b7, b8⟩, -⟩ := B.c9
  go_upto_region 4 with (go_at_call 13; refine (HG.out _).mono ?_; rintro e_ w3 ⟨rfl, k3⟩)
  generalize hV : World.alloc w3 _ = W3
  have RB : Blk W3 w3.heap.size 28 #[.int .i64 x', .int .i64 y', .int .i64 z', .int .i64 sx', .int .i64 sy', .int .i64 sz', .int .i64 wd', .int .i64 ht', .bool st'] := Blk.eqw hV (Blk.new' rfl)
  have hk : Below W2.heap.size W2 W3 := by rw [← hV]; exact after k3 ((Below.refl _ _).alloc (Nat.le_refl _) _)
  have hgr := k3.size
  have HK := Lib.hid hk
  clear hV k3 hk b0 b1 b2 b3 b4 b5 b6 b7 b8 B HG
  generalize w3.heap.size = gr at RB hgr ⊢
  obtain ⟨⟨b0, b1, b2, b3, b4, b5, b6, b7, b8⟩, -⟩ := RB.c9
  go_upto_region 5 with (fail)
  generalize hV : World.alloc W3 _ = W4
  have XB : Blk W4 W3.heap.size 35 #[.int .i64 x', .int .i64 y', .int .i64 z', .int .i64 sx', .int .i64 sy', .int .i64 sz', .int .i64 wd', .int .i64 ht', .bool st'] := Blk.eqw hV (Blk.new' rfl)
  have hk : Below W3.heap.size W3 W4 := by rw [← hV]; exact (Below.refl _ _).alloc (Nat.le_refl _) _
  have hgx : gr < W3.heap.size := RB.lt
  replace RB := RB.on hk
  have K4 := Lib.hid (after HK.out hk)
  clear hV hk b0 b1 b2 b3 b4 b5 b6 b7 b8 HK
  generalize W3.heap.size = gx at XB hgx ⊢
  have I0 : Hid (BOk (500000 + 262144 * ((0 : Nat) : Int)) (x', y', z', sx', sy', sz', wd', ht', st')) := Lib.hid (HGG.out.mono (by decide))
  clear HGG
  go_upto_region 6 with (fail)
  go_loopw [11] (fun iv wr => ∃ (k : Nat) (x1 y1 z1 sx1 sy1 sz1 wd1 ht1 : Int) (st1 : Bool), k ≤ nl ∧ k ≤ 8 ∧ iv = .int .i64 k ∧ Blk wr gx 35 #[.int .i64 x1, .int .i64 y1, .int .i64 z1, .int .i64 sx1, .int .i64 sy1, .int .i64 sz1, .int .i64 wd1, .int .i64 ht1, .bool st1] ∧ Blk wr gr 28 #[.int .i64 x1, .int .i64 y1, .int .i64 z1, .int .i64 sx1, .int .i64 sy1, .int .i64 sz1, .int .i64 wd1, .int .i64 ht1, .bool st1] ∧ Hid (BOk (500000 + 262144 * (k : Int)) (x1, y1, z1, sx1, sy1, sz1, wd1, ht1, st1)) ∧ Hid (Below W2.heap.size W2 wr)) (fun iv _ => nl - (intOf iv).toNat)
  case atStart => exact ⟨0, _, _, _, _, _, _, _, _, _, Nat.zero_le _, Nat.zero_le _, rfl, XB, RB, I0, K4⟩
  case round =>
    clear XB RB I0 K4
    obtain ⟨k, x1, y1, z1, sx1, sy1, sz1, wd1, ht1, st1, hk, hk6, rfl, X, R, I, K⟩ := hrel
    have hdone : ¬ ((k : Int) < nl) ∨ ((k : Int) < nl ∧ ¬ ((k : Int) < 8)) ∨ (k < nl ∧ k < 8) := by omega
    rcases hdone with h1 | ⟨h1, h2⟩ | ⟨hlt, hk13⟩
    · go_wp2_with (go_at_call 16; refine (blives_c _).mono ?_; rintro e_ w5 ⟨rfl, k5⟩)
      go_returns
      exact ⟨rfl, after (after H2.out K.out) k5⟩
    · go_wp2_with (go_at_call 16; refine (blives_c _).mono ?_; rintro e_ w5 ⟨rfl, k5⟩)
      go_returns
      exact ⟨rfl, after (after H2.out K.out) k5⟩
    · have h1 : (k : Int) < nl := by omega
      have h2 : (k : Int) < 8 := by omega
      have hk0 : (0 : Int) ≤ (k : Int) := by omega
      have hkc : k < cl := by have := HM.out.1; omega
      obtain ⟨⟨ix, iz, jj⟩, hin⟩ : ∃ inp, FL k = inp := ⟨_, rfl⟩
      obtain ⟨gq, oq, rfl, hc0, hc1, hc2⟩ := (HQ.out.on (after H2.out K.out)).in3 hlt hin
      have HIN := Lib.hid hin
      clear hin
      have c0 := cell_regrown hc0
      have c1 := cell_regrown hc1
      have c2_ := cell_regrown hc2
      have hM : (500000 + 262144 * (k : Int)) ≤ 70000000000000 := by omega
      have hM0 : (0 : Int) ≤ 500000 + 262144 * (k : Int) := by omega
      have ed := I.out.step hM0 hM (fun x => atG m F2 els2 x.1 x.2.1 x.2.2) ix iz jj
      have hst := fun W (h : Below W2.heap.size W2 W) => bstep_c 38 #[.pointer (some ⟨g2, 0, none⟩)] (fun x => atG m F2 els2 x.1 x.2.1 x.2.2) (x1, y1, z1, sx1, sy1, sz1, wd1, ht1, st1) ix iz jj (500000 + 262144 * (k : Int)) (by omega) hM0 I.out W view_en (HIT.out.2.2.on h)
      have hrt := fun W (h : Below W2.heap.size W2 W) => rstep20_c q2 m c2 F2 els2 (x1, y1, z1, sx1, sy1, sz1, wd1, ht1, st1) ix iz jj (500000 + 262144 * (k : Int)) hM hM0 I.out W (HIT.out.1.on h)
      generalize stepB (fun x => atG m F2 els2 x.1 x.2.1 x.2.2) (x1, y1, z1, sx1, sy1, sz1, wd1, ht1, st1) ix iz jj = e2 at ed hst hrt
      obtain ⟨x2, y2, z2, sx2, sy2, sz2, wd2, ht2, st2⟩ := e2
      simp only [bd9] at hst hrt
      have HST := Lib.hid hst
      have HRT := Lib.hid hrt
      have HED := Lib.hid (show BOk (500000 + 262144 * ((k + 1 : Nat) : Int)) (x2, y2, z2, sx2, sy2, sz2, wd2, ht2, st2) from ed.mono (by omega))
      clear hst hrt ed hM hM0 I hc0 hc1 hc2
      have b0 := fun d os => (X.re d os).cell 0
      have b1 := fun d os => (X.re d os).cell 1
      have b2 := fun d os => (X.re d os).cell 2
      have b3 := fun d os => (X.re d os).cell 3
      have b4 := fun d os => (X.re d os).cell 4
      have b5 := fun d os => (X.re d os).cell 5
      have b6 := fun d os => (X.re d os).cell 6
      have b7 := fun d os => (X.re d os).cell 7
      have b8 := fun d os => (X.re d os).cell 8
      simp only [List.getElem?_toArray, List.getElem?_cons_zero, List.getElem?_cons_succ] at b0 b1 b2 b3 b4 b5 b6 b7 b8
      go_upto_region 8 with (fail)
      refine wp_region_last_below 7 (by kernel_rfl) rfl (by kernel_rfl) ?_
      simp only [List.take_succ_cons, List.take_zero, List.drop_succ_cons, List.drop_zero]
      repeat (go_big_quiet_step (with_reducible exact Calls.regrown_of (HST.out _ (after K.out (below_regrown _ _ _)))))
      refine wpQuiet_nil ?_
      intro w' hw'
      obtain ⟨rg, rfl⟩ := hw'
      clear b0 b1 b2 b3 b4 b5 b6 b7 b8 c0 c1 c2_ HST
      obtain ⟨W6, hW6⟩ : ∃ W6, W6 = Go.Sort.grow (redrawn wr rg.d) rg.os := ⟨_, rfl⟩
      have hb6 : Below wr.heap.size wr W6 := by rw [hW6]; exact below_regrown _ _ _
      rw [← hW6]
      replace X := X.on hb6
      replace R := R.on hb6
      have K6 := Lib.hid (after K.out hb6)
      clear hW6 hb6 K
      obtain ⟨⟨b0, b1, b2, b3, b4, b5, b6, b7, b8⟩, f0, f1, f2, f3, f4, f5, f6, f7, f8⟩ := X.c9
      go_upto_region 9 with (fail)
      generalize hV : World.setCell (World.setCell (World.setCell (World.setCell (World.setCell (World.setCell (World.setCell (World.setCell (World.setCell W6 _ _) _ _) _ _) _ _) _ _) _ _) _ _) _ _) _ _ = W7
      have X7 : Blk W7 gx 35 #[.int .i64 x2, .int .i64 y2, .int .i64 z2, .int .i64 sx2, .int .i64 sy2, .int .i64 sz2, .int .i64 wd2, .int .i64 ht2, .bool st2] := Blk.eqw hV (X.st9 _ _ _ _ _ _ _ _ _)
      have R7 := Blk.eqw hV (sx9_far R (show gr ≠ gx by omega) _ _ _ _ _ _ _ _ _)
      have K7 := Lib.hid (show Below W2.heap.size W2 W7 by rw [← hV]; exact sx9_below K6.out (by omega) _ _ _ _ _ _ _ _ _)
      clear hV b0 b1 b2 b3 b4 b5 b6 b7 b8 f0 f1 f2 f3 f4 f5 f6 f7 f8 X R K6
      obtain ⟨hc0, hc1, hc2⟩ := (HQ.out.on (after H2.out K7.out)).in3' hlt HIN.out
      have c0 := cell_regrown hc0
      have c1 := cell_regrown hc1
      have c2_ := cell_regrown hc2
      have hG7 := HIT.out.2.1.on K7.out
      have g0 := fun d os => (hG7.re d os).cell 0
      have g1 := fun d os => (hG7.re d os).cell 1
      simp only [List.getElem?_toArray, List.getElem?_cons_zero, List.getElem?_cons_succ] at g0 g1
      have b0 := fun d os => (R7.re d os).cell 0
      have b1 := fun d os => (R7.re d os).cell 1
      have b2 := fun d os => (R7.re d os).cell 2
      have b3 := fun d os => (R7.re d os).cell 3
      have b4 := fun d os => (R7.re d os).cell 4
      have b5 := fun d os => (R7.re d os).cell 5
      have b6 := fun d os => (R7.re d os).cell 6
      have b7 := fun d os => (R7.re d os).cell 7
      have b8 := fun d os => (R7.re d os).cell 8
      simp only [List.getElem?_toArray, List.getElem?_cons_zero, List.getElem?_cons_succ] at b0 b1 b2 b3 b4 b5 b6 b7 b8
      clear hc0 hc1 hc2 hG7
      refine wp_region_last_below 7 (by kernel_rfl) rfl (by kernel_rfl) ?_
      simp only [List.take_succ_cons, List.take_zero, List.drop_succ_cons, List.drop_zero]
      repeat (go_big_quiet_step (with_reducible exact Calls.regrown_of (HRT.out _ (after K7.out (below_regrown _ _ _)))))
      refine wpQuiet_nil ?_
      intro w' hw'
      obtain ⟨rg, rfl⟩ := hw'
      clear b0 b1 b2 b3 b4 b5 b6 b7 b8 c0 c1 c2_ g0 g1 HRT
      obtain ⟨W8, hW8⟩ : ∃ W8, W8 = Go.Sort.grow (redrawn W7 rg.d) rg.os := ⟨_, rfl⟩
      have hb8 : Below W7.heap.size W7 W8 := by rw [hW8]; exact below_regrown _ _ _
      rw [← hW8]
      replace X7 := X7.on hb8
      replace R7 := R7.on hb8
      have K8 := Lib.hid (after K7.out hb8)
      clear hW8 hb8 K7
      obtain ⟨⟨b0, b1, b2, b3, b4, b5, b6, b7, b8⟩, f0, f1, f2, f3, f4, f5, f6, f7, f8⟩ := R7.c9
      go_upto_region 10 with (fail)
      generalize hV : World.setCell (World.setCell (World.setCell (World.setCell (World.setCell (World.setCell (World.setCell (World.setCell (World.setCell W8 _ _) _ _) _ _) _ _) _ _) _ _) _ _) _ _) _ _ = W9
      have R9 : Blk W9 gr 28 #[.int .i64 x2, .int .i64 y2, .int .i64 z2, .int .i64 sx2, .int .i64 sy2, .int .i64 sz2, .int .i64 wd2, .int .i64 ht2, .bool st2] := Blk.eqw hV (R7.st9 _ _ _ _ _ _ _ _ _)
      have X9 := Blk.eqw hV (sx9_far X7 (show gx ≠ gr by omega) _ _ _ _ _ _ _ _ _)
      have K9 := Lib.hid (show Below W2.heap.size W2 W9 by rw [← hV]; exact sx9_below K8.out (by omega) _ _ _ _ _ _ _ _ _)
      clear hV b0 b1 b2 b3 b4 b5 b6 b7 b8 f0 f1 f2 f3 f4 f5 f6 f7 f8 X7 R7 K8
      obtain ⟨⟨b0, b1, b2, b3, b4, b5, b6, b7, b8⟩, -⟩ := X9.c9
      obtain ⟨⟨c0, c1, c2_, c3, c4, c5, c6, c7, c8⟩, -⟩ := R9.c9
      have bn := bd_neq_self x2 y2 z2 sx2 sy2 sz2 wd2 ht2 st2
      have bg := bd_guard
      go_wp2_with fail
      exact ⟨⟨k + 1, x2, y2, z2, sx2, sy2, sz2, wd2, ht2, st2, hlt, hk13, by go_num, X9, R9, HED, K9⟩, next_less' hlt⟩
set_option maxRecDepth 100000 in
theorem bodySteps_lifted (os : Os) (started : os.Started) (H : Type) (enc : TypeId × Value → H) :
    ReturnsInHanded {} Try.checked os 3 .any (Rows.bodyStepsSpec.pre6 enc Try.prog Try.f3 Rows.bodyStepsRow.domain false) (Rows.bodyStepsSpec.post enc Try.prog Try.f3 false true false false) := by
  refine returnsInHanded_of_change (C := Try.checked) own started (by kernel_rfl) Try.func3
    (ChangeSpec.witness6 (enc := enc) (C := Try.checked) false ⟨#[], #[.agg #[.slice none 0 0, .int .i64 0], .agg #[.int .i64 0, .int .i64 0, .int .i64 0, .int .i64 0, .int .i64 0, .int .i64 0, .int .i64 0, .int .i64 0, .bool false], .slice none 0 0], []⟩ 8 (by kernel_rfl) (by kernel_rfl) (by kernel_rfl) (by kernel_rfl)) ?_
  intro W base args ds gs before hval0 hW hcnd hsz
  have hval : ∀ (j : Nat) t v, Try.f3.params[j]? = some t → args[j]? = some v → Value.okWide Try.prog W .any base t v := hval0
  have hW' := hW
  obtain ⟨p, q, hA0, hV, rfl, hfz, hnd⟩ := hW
  have hA : DataW.TrodAll enc Try.prog W 0 (fun _ => true) true Try.f3.params.toList args.toList ds p := hA0
  rw [Try.params3] at hA hval
  obtain ⟨v0, vs0, d0, ds0, p_0, q_0, hargs, rfl, rfl, h0, r_0⟩ := trodAll_cons hA
  obtain ⟨v1, vs1, d1, ds1, p_1, q_1, rfl, rfl, rfl, h1, r_1⟩ := trodAll_cons r_0
  obtain ⟨v2, vs2, d2, ds2, p_2, q_2, rfl, rfl, rfl, h2, r_2⟩ := trodAll_cons r_1
  obtain ⟨rfl, rfl, rfl⟩ := trodAll_nil r_2
  obtain rfl : args = #[v0, v1, v2] := by cases args; simp_all
  obtain ⟨rfl, rfl⟩ := trodVars_none hV
  obtain ⟨gq0, gn0, gc0, gF0, ge0, rfl, gl0, gm0, gi0, gw0, gv0⟩ := open_world Try.underlying24 Try.underlying22 (by kernel_rfl) (by kernel_rfl) Try.underlying3 (hval 0 24 v0 rfl rfl) h0
  obtain ⟨b1, rfl, wb1⟩ := open_bd Try.underlying28 Try.underlying26 (by kernel_rfl) (by kernel_rfl) (by kernel_rfl) Try.underlying3 Try.underlying4 (hval 1 28 v1 rfl rfl) h1
  obtain ⟨A2, n2, k2, l2, rfl, b2, c2, e2, f2⟩ := open_ins Try.underlying29 Try.underlying39 (by kernel_rfl) (by kernel_rfl) Try.underlying3 Try.underlying4 (hval 2 29 v2 rfl rfl) h2
  refine (bodySteps_c gq0 gn0 gc0 gF0 ge0 gl0 gm0 gw0 gv0 b1 wb1 A2 n2 k2 l2 b2 c2 W gi0 e2 f2).mono fun e W' ⟨he, hb⟩ => ?_
  subst he
  exact ⟨_, rfl, law_post laidOut (by kernel_rfl) rfl (by kernel_rfl) Try.underlying4 hW' rfl rfl rfl hb⟩

/-- The statement. -/
theorem bodySteps_proved : Rows.BodyStepsSaid :=
  OpenClaim.holds_of_wide 3 Try.f3 rfl rfl rfl rfl rfl rfl rfl ⟨rfl, rfl, rfl, rfl, rfl⟩ rfl rfl rfl rfl rfl (by kernel_rfl) Try.func3 (by kernel_rfl)
    (of_decide_eq_true (by kernel_rfl)) (by unfold Func.isWrapper; first | (rw [if_pos (by decide +kernel)]; kernel_rfl) | (rw [if_neg (by decide +kernel)]; exact ⟨rfl, rfl⟩))
    (fun os started H enc _ => bodySteps_lifted os started H enc)
end Go.Proofs.Ytnokibdecnddlaa
