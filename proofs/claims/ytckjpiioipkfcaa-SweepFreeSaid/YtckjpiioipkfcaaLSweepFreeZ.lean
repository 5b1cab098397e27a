/- SweepFree holds: any small world, any box, any ways. -/
import Derived.Test.YtckjpiioipkfcaaLSweepFreeZ6
import Derived.Test.YtckjpiioipkfcaaLSweepFreeZ5
/- Steps and ways along an axis of a box that is not blocked: plain. No program in sight. -/
namespace Go.Proofs.Ytckjpiioipkfcaa

theorem Sm6.mono {M M' : Int} {x : B6} (h : Sm6 M x) (hm : M ≤ M') : Sm6 M' x := by
  obtain ⟨h1, h2, h3, h4, h5, h6, h7, h8, h9, h10, h11, h12⟩ := h
  exact ⟨by omega, by omega, by omega, by omega, by omega, by omega, h7, h8, h9, h10, h11, h12⟩
section
variable {val : Cl → Int} {x : B6} {dx dy dz up M : Int}
theorem stepV_sm (h : Sm6 M x) (hM0 : 0 ≤ M) (hM : M ≤ 1000000000000) : Sm6 (M + 40000000) (stepV val x dx dy dz up).1 := by
  unfold stepV stepOf
  split
  · exact oC_sm h hM0 hM
  · exact (st3_sm h hM0 hM).mono (by omega)
theorem free_stepV (h : Sm6 M x) (hM0 : 0 ≤ M) (hM : M ≤ 1000000000000) (hx : blk6 val x = false) : blk6 val (stepV val x dx dy dz up).1 = false := by
  unfold stepV stepOf
  split
  · have k1 : blk6 val (hi1 val x up).1 = false := free_al h hM0 (by omega) (mnI up 65536) (by decide) hx
    have k2 : blk6 val (oA val x dx up).1 = false := free_al (hi1_sm h hM0 hM) (by omega) (by omega) dx (by decide) k1
    have k3 : blk6 val (oB val x dx dz up).1 = false := free_al (oA_sm h hM0 hM) (by omega) (by omega) dz (by decide) k2
    exact free_al (oB_sm h hM0 hM) (by omega) (by omega) (-rise val x up) (by decide) k3
  · exact free_st3 h hM0 hM dx dy dz hx
theorem Sm6.box (h : Sm6 M x) (hM0 : 0 ≤ M) (hM : M ≤ 1000000000000) : BoxOk x.1 x.2.1 x.2.2.1 x.2.2.2.1 x.2.2.2.2.1 x.2.2.2.2.2 ∧ (cellsI x.1 x.2.1 x.2.2.1 x.2.2.2.1 x.2.2.2.2.1 x.2.2.2.2.2).length ≤ 1000000 := ⟨Sm.box h (by omega), Sm.cells h⟩
end
theorem axV_miss {blk : Int → Bool} {low top d : Int} (h : (axV blk low top d).2 = false) : (axV blk low top d).1 = d := by
  unfold axV at *
  split at h
  · cases h
  · rfl
/-- What is known of how far it goes. -/
theorem ax6_say (val : Cl → Int) (x : B6) {i m : Int} (hi : 0 ≤ i ∧ i < 3) (h1 : -4194304 ≤ m) (h2 : m ≤ 4194304) :
    (((0 ≤ m ∧ 0 ≤ (ax6 val x i m).1 ∧ (ax6 val x i m).1 ≤ m) ∨ (m ≤ 0 ∧ m ≤ (ax6 val x i m).1 ∧ (ax6 val x i m).1 ≤ 0))) ∧ ((ax6 val x i m).2 = false → (ax6 val x i m).1 = m) := by
  unfold ax6 axisV
  rw [if_neg (by omega), far_in h1 h2]
  obtain ⟨h3, h4⟩ := axV_bd (blk := lyB val x.1 x.2.1 x.2.2.1 x.2.2.2.1 x.2.2.2.2.1 x.2.2.2.2.2 i) (low := axI x.1 x.2.1 x.2.2.1 i) (top := axI x.2.2.2.1 x.2.2.2.2.1 x.2.2.2.2.2 i) (d := m)
  refine ⟨?_, axV_miss⟩
  rcases (show 0 ≤ m ∨ m ≤ 0 by omega) with h | h
  · exact .inl ⟨h, h3 h⟩
  · exact .inr ⟨h, h4 h⟩
/-- The tests of a way and what came of it. -/
theorem way_tests {n m : Int} (h : (0 ≤ m ∧ 0 ≤ n ∧ n ≤ m) ∨ (m ≤ 0 ∧ m ≤ n ∧ n ≤ 0)) (h1 : -4194304 ≤ m) (h2 : m ≤ 4194304) :
    decide (n * m < 0) = false ∧ decide (mxI m (-m) < mxI n (-n)) = false ∧ -9223372036854775808 ≤ n * m ∧ n * m ≤ 9223372036854775807 := by
  have k : 0 ≤ n * m ∧ n * m ≤ 4194304 * 4194304 := by
    rcases h with ⟨a, b, c⟩ | ⟨a, b, c⟩
    · exact ⟨Int.mul_nonneg b a, Int.mul_le_mul (by omega) h2 a (by omega)⟩
    · rw [← Int.neg_mul_neg]
      exact ⟨Int.mul_nonneg (by omega) (by omega), Int.mul_le_mul (by omega) (by omega) (by omega) (by omega)⟩
  obtain ⟨k1, k2⟩ := k
  refine ⟨?_, ?_, by omega, by omega⟩
  · simpa using k1
  · unfold mxI; simp only [decide_eq_false_iff_not]; omega
theorem tdiv_half {n : Int} (h1 : -4194304 ≤ n) (h2 : n ≤ 4194304) : (0 ≤ n ∧ 0 ≤ n.tdiv 2 ∧ n.tdiv 2 ≤ n) ∨ (n ≤ 0 ∧ n ≤ n.tdiv 2 ∧ n.tdiv 2 ≤ 0) := by
  rcases (show 0 ≤ n ∨ n < 0 by omega) with h | h
  · left
    rw [Int.tdiv_eq_ediv_of_nonneg h]
    omega
  · right
    have e : n.tdiv 2 = -((-n) / 2) := by
      rw [← Int.tdiv_eq_ediv_of_nonneg (by omega), Int.neg_tdiv, Int.neg_neg]
    omega
/-- Half of the way that it goes is free. -/
theorem free_half {val : Cl → Int} {M : Int} {x : B6} (h : Sm6 M x) (hM0 : 0 ≤ M) (hM : M ≤ 10000000000000) {i m : Int} (hi : 0 ≤ i ∧ i < 3) (h1 : -4194304 ≤ m) (h2 : m ≤ 4194304) (hx : blk6 val x = false) : blk6 val (mv6 x i ((ax6 val x i m).1.tdiv 2)) = false := by
  obtain ⟨h3, -⟩ := ax6_say val x hi h1 h2
  have h4 := tdiv_half (n := (ax6 val x i m).1) (by omega) (by omega)
  exact free6 h hM0 hM hi hx (dd := m) (by omega)
end Go.Proofs.Ytckjpiioipkfcaa

/- SweepFree holds: any small world, any box, any ways. -/
namespace Go.Proofs.Ytckjpiioipkfcaa
open Go.ChangeShapes Go.WideShapes Go.ChangeAt Go.RowKit Go.Shelf
attribute [local go_sem] Oper.semAt_some

theorem nextk3 {i : Nat} (h : i < 3) : (0 : Int) ≤ i ∧ (i : Int) < 3 ∧ -9223372036854775808 ≤ (i : Int) + 1 ∧ (i : Int) + 1 ≤ 9223372036854775807 := by omega
set_option maxRecDepth 100000 in
set_option maxHeartbeats 8000000 in
theorem sweepFree_c (q : Option Addr) (n c : Nat) (F : Nat → Int) (els : Int) (_ : n ≤ c) (hm : c ≤ maxLen) (hF : ∀ i, i < n → In64 (F i)) (he : In64 els) (pa pb pc pd pe pf : Int) (ha : In64 pa) (hb : In64 pb) (hc : In64 pc) (hd : In64 pd) (hee : In64 pe) (hf : In64 pf) (dx dy dz : Int) (hdx : In64 dx) (hdy : In64 dy) (hdz : In64 dz) (halves : Bool) (w : World) (hq : Iq w q n F) :
    Calls Try.prog 7 #[.agg #[.slice q n c, .int .i64 els], .agg #[.int .i64 pa, .int .i64 pb, .int .i64 pc, .int .i64 pd, .int .i64 pe, .int .i64 pf], .agg #[.int .i64 dx, .int .i64 dy, .int .i64 dz], .bool halves] w fun e w' => e = .returned (.bool true) ∧ Below w.heap.size w w' := by
  have HGd := Lib.hid (fun W (h : Below w.heap.size w W) => rgood13_c q n c F els hm W (hq.on h) hF he)
  have HNr := Lib.hid (fun halves W => nearx_c pa pb pc pd pe pf halves ha hb hc hd hee hf W)
  have HWy := Lib.hid (fun W => way_c dx dy dz hdx hdy hdz W)
  clear hm hF he ha hb hc hd hee hf hq hdx hdy hdz
  obtain ⟨W0, hW0⟩ : ∃ W0, W0 = ((w.alloc (.cells #[.slice q n c, .int .i64 els] 24)).alloc (.cells #[.int .i64 pa, .int .i64 pb, .int .i64 pc, .int .i64 pd, .int .i64 pe, .int .i64 pf] 28)).alloc (.cells #[.int .i64 dx, .int .i64 dy, .int .i64 dz] 26) := ⟨_, rfl⟩
  have A0 : Blk W0 w.heap.size 24 #[.slice q n c, .int .i64 els] := by rw [hW0]; exact ((Blk.new' rfl).alloc _).alloc _
  have B0 : Blk W0 (w.heap.size + 1) 28 #[.int .i64 pa, .int .i64 pb, .int .i64 pc, .int .i64 pd, .int .i64 pe, .int .i64 pf] := by rw [hW0]; exact (Blk.new' (by simp)).alloc _
  have V0 : Blk W0 (w.heap.size + 1 + 1) 26 #[.int .i64 dx, .int .i64 dy, .int .i64 dz] := by rw [hW0]; exact Blk.new' (by simp)
  have H0 : Below w.heap.size w W0 := by rw [hW0]; go_grown
  go_enter Try.func7, Try.ntmps7
  go_upto_region 1 with (fail)
  rw [← hW0]
  clear hW0
  have a0 := A0.cell 0
  have a1 := A0.cell 1
  go_upto_region 2 with (go_at_call 9; refine (HGd.out _ H0).mono ?_; rintro e_ w1 ⟨q2, c2, rfl, R, k1, k2, h1⟩)
  generalize hV : World.alloc w1 _ = W1
  have G : Blk W1 w1.heap.size _ _ := Blk.eqw hV (Blk.new' rfl)
  have h2 : Below w1.heap.size w1 W1 := by rw [← hV]; exact (Below.refl _ _).alloc (Nat.le_refl _) _
  have I := iq_of_rd (R.on h2)
  rw [show (goodL n F).length = min n 216 by simp [goodL]] at I
  replace B0 := (B0.on h1).on h2
  replace V0 := (V0.on h1).on h2
  replace H0 := after (after H0 h1) h2
  clear hV h1 h2 k1 k2 R a0 a1 A0
  generalize min n 216 = m at G I ⊢
  generalize w1.heap.size = g at G ⊢
  generalize (fun i => (goodL n F).getD i 0) = F2 at I
  generalize arI els 3 - 1 = els2 at G ⊢
  have g0 := G.cell 0
  have g1 := G.cell 1
  go_upto_region 3 with (go_at_call 10; refine (view_c _ _ _).mono ?_; rintro e_ w2 ⟨rfl, rfl⟩)
  generalize hV : World.alloc W1 _ = W2
  have V2 : Blk W2 W1.heap.size _ _ := Blk.eqw hV (Blk.new' rfl)
  have h2 : Below W1.heap.size W1 W2 := by rw [← hV]; exact (Below.refl _ _).alloc (Nat.le_refl _) _
  replace I := I.on h2
  replace G := G.on h2
  replace B0 := B0.on h2
  replace V0 := V0.on h2
  replace H0 := after H0 h2
  have T0 := view_tells V2 I
  clear hV h2 V2 g0 g1
  generalize W1.heap.size = g2 at T0 ⊢
  obtain ⟨b0, b1, b2, b3, b4, b5⟩ := B0.c6.1
  go_upto_region 4 with (go_at_call 11; refine (HNr.out _ _).mono ?_; rintro e_ w3 ⟨⟨a, b, c', d, e, f⟩, rfl, hsm, h3⟩)
  simp only [ag6]
  generalize hV : World.alloc w3 _ = W3
  have X : Blk W3 w3.heap.size _ _ := Blk.eqw hV (Blk.new' rfl)
  have h2 : Below w3.heap.size w3 W3 := by rw [← hV]; exact (Below.refl _ _).alloc (Nat.le_refl _) _
  replace I := (I.on h3).on h2
  replace G := (G.on h3).on h2
  replace V0 := (V0.on h3).on h2
  replace T0 := (T0.on h3).on h2
  have H3 := Lib.hid (after (after H0 h3) h2)
  clear hV h2 h3 b0 b1 b2 b3 b4 b5 B0 H0
  generalize w3.heap.size = gx at X ⊢
  generalize w.heap.size + 1 + 1 = gv at V0 ⊢
  obtain ⟨val, hval⟩ : ∃ val : Cl → Int, val = fun x => atG m F2 els2 x.1 x.2.1 x.2.2 := ⟨_, rfl⟩
  rw [← hval] at T0
  have CB : ∀ z : B6, Sm6 50000000 z → ∀ W, Below W3.heap.size W3 W → Calls Try.prog 26 #[.agg #[.slice q2 m c2, .int .i64 els2], .agg (ag6 z)] W fun r w' => r = .returned (.bool (blk6 val z)) ∧ Below W.heap.size W w' := by
    intro z hz W h
    obtain ⟨h1, h2⟩ := hz.box (by omega) (by omega)
    rw [hval]
    exact rfBlocked_c q2 m c2 F2 els2 z.1 z.2.1 z.2.2.1 z.2.2.2.1 z.2.2.2.2.1 z.2.2.2.2.2 h1 h2 W (I.on h)
  have CM := fun W (h : Below W3.heap.size W3 W) => pmove_c 30 #[.pointer (some ⟨g2, 0, none⟩)] val (a, b, c', d, e, f) (wayI dx) (wayI dy) (wayI dz) 600000 (by omega) (by omega) hsm W view_en (T0.on h)
  have CS := fun W (h : Below W3.heap.size W3 W) => pstep_c 30 #[.pointer (some ⟨g2, 0, none⟩)] val (a, b, c', d, e, f) (wayI dx) (wayI dy) (wayI dz) 65536 600000 (by omega) (by omega) hsm W view_en (T0.on h)
  have CA : ∀ i k W, Below W3.heap.size W3 W → Calls Try.prog 13 #[.func (.func 30) #[] #[.pointer (some ⟨g2, 0, none⟩)], .agg #[.int .i64 a, .int .i64 b, .int .i64 c', .int .i64 d, .int .i64 e, .int .i64 f], .int .i64 i, .int .i64 k] W fun r w' => r = .returned (axT (ax6 val (a, b, c', d, e, f) i k)) ∧ Below W.heap.size W w' := fun i k W h => saxis_c 30 _ val a b c' d e f i k 600000 (by omega) (by omega) hsm W view_en (T0.on h)
  have fy := fun hx : blk6 val (a, b, c', d, e, f) = false => free_st3 hsm (by omega) (by omega) (wayI dx) (wayI dy) (wayI dz) hx
  have fs := fun hx : blk6 val (a, b, c', d, e, f) = false => free_stepV (dx := wayI dx) (dy := wayI dy) (dz := wayI dz) (up := 65536) hsm (by omega) (by omega) hx
  have fh := fun (i k : Int) (hi : 0 ≤ i ∧ i < 3) (h1 : -4194304 ≤ k) (h2 : k ≤ 4194304) (hx : blk6 val (a, b, c', d, e, f) = false) => free_half hsm (by omega) (by omega) hi h1 h2 hx
  have say := fun (i k : Int) (hi : 0 ≤ i ∧ i < 3) (h1 : -4194304 ≤ k) (h2 : k ≤ 4194304) => ax6_say val (a, b, c', d, e, f) hi h1 h2
  have sx : Sm6 50000000 (a, b, c', d, e, f) := hsm.mono (by omega)
  have sy : Sm6 50000000 (st3 val (a, b, c', d, e, f) (wayI dx) (wayI dy) (wayI dz)) := (st3_sm hsm (by omega) (by omega)).mono (by omega)
  have ss : Sm6 50000000 (stepV val (a, b, c', d, e, f) (wayI dx) (wayI dy) (wayI dz) 65536).1 := (stepV_sm hsm (by omega) (by omega)).mono (by omega)
  have sh := fun (i k : Int) (hi : 0 ≤ i ∧ i < 3) (h1 : -10000000 ≤ k) (h2 : k ≤ 10000000) => (mv6_sm hsm (by omega) (by omega) (axis := i) h1 h2).mono (show 600000 + 10000000 ≤ 50000000 by omega)
  have Bx := CB _ sx
  have By := CB _ sy
  have Bs := CB _ ss
  unfold moveT at CM
  generalize stepV val (a, b, c', d, e, f) (wayI dx) (wayI dy) (wayI dz) 65536 = pp at CS fs Bs
  generalize st3 val (a, b, c', d, e, f) (wayI dx) (wayI dy) (wayI dz) = yy at CM fy By
  generalize hx2 val (a, b, c', d, e, f) (wayI dx) (wayI dy) = u1 at CM
  generalize hy1 val (a, b, c', d, e, f) (wayI dy) = u2 at CM
  generalize hz3 val (a, b, c', d, e, f) (wayI dx) (wayI dy) (wayI dz) = u3 at CM
  generalize hbl : blk6 val (a, b, c', d, e, f) = bl at fy fs fh Bx
  generalize blk6 val yy = by' at fy By
  generalize blk6 val pp.1 = bs' at fs Bs
  obtain ⟨y1, y2, y3, y4, y5, y6⟩ := yy
  obtain ⟨⟨s1, s2, s3, s4, s5, s6⟩, t1, t2, t3⟩ := pp
  simp only [ag6, ah3, bhT] at CM CS Bx By Bs
  have HCM := Lib.hid CM
  have HCS := Lib.hid CS
  have HCA := Lib.hid CA
  have HCB := Lib.hid CB
  have HBx := Lib.hid Bx
  have HBy := Lib.hid By
  have HBs := Lib.hid Bs
  have Hfy := Lib.hid fy
  have Hfs := Lib.hid fs
  have Hfh := Lib.hid fh
  have Hsay := Lib.hid say
  have Hsh := Lib.hid sh
  clear CM CS CA CB Bx By Bs fy fs fh say sh sx sy ss hbl hval hsm T0 I HGd HNr
  have K0 : Below W3.heap.size W3 W3 := Below.refl _ _
  obtain ⟨x0, x1, x2, x3, x4, x5⟩ := X.c6.1
  have g0 := G.cell 0
  have g1 := G.cell 1
  go_upto_region 5 with (go_at_call 26; refine (HBx.out _ K0).mono ?_; rintro e_ w4 ⟨rfl, h4⟩)
  replace G := G.on h4
  replace X := X.on h4
  replace V0 := V0.on h4
  have HK := Lib.hid h4
  clear x0 x1 x2 x3 x4 x5 g0 g1 K0 h4 HBx
  obtain ⟨x0, x1, x2, x3, x4, x5⟩ := X.re6
  obtain ⟨z0, z1, z2⟩ := V0.re3
  have HU_ := Lib.hid (show Bears w4.heap.size [⟨8, 10, 28, #[.int .i64 0, .int .i64 0, .int .i64 0, .int .i64 0, .int .i64 0, .int .i64 0], #[.int .i64 y1, .int .i64 y2, .int .i64 y3, .int .i64 y4, .int .i64 y5, .int .i64 y6]⟩, ⟨9, 11, 46, #[.bool false, .bool false, .bool false], #[.bool u1, .bool u2, .bool u3]⟩] (relsU [(4, fun v _ => v = .tuple #[.agg #[.int .i64 y1, .int .i64 y2, .int .i64 y3, .int .i64 y4, .int .i64 y5, .int .i64 y6], .agg #[.bool u1, .bool u2, .bool u3]]), (5, fun v _ => v = .tuple #[.agg #[.int .i64 y1, .int .i64 y2, .int .i64 y3, .int .i64 y4, .int .i64 y5, .int .i64 y6], .agg #[.bool u1, .bool u2, .bool u3]]), (6, fun v _ => v = .agg #[.int .i64 y1, .int .i64 y2, .int .i64 y3, .int .i64 y4, .int .i64 y5, .int .i64 y6]), (7, fun v _ => v = .agg #[.bool u1, .bool u2, .bool u3])]) from (bears_val (bears_val (bears_val (bears_val bears_nil)))))
  have HO_ := Lib.hid (show OkB [⟨8, 10, 28, #[.int .i64 0, .int .i64 0, .int .i64 0, .int .i64 0, .int .i64 0, .int .i64 0], #[.int .i64 y1, .int .i64 y2, .int .i64 y3, .int .i64 y4, .int .i64 y5, .int .i64 y6]⟩, ⟨9, 11, 46, #[.bool false, .bool false, .bool false], #[.bool u1, .bool u2, .bool u3]⟩] from ⟨by simp, by simp⟩)
  refine wp_many [0, 0, 0, 0, 2, 2, 2, 2, 2, 2, 2, 2] _ _ (by kernel_rfl) (by kernel_rfl) HU_.out ?_
  repeat (first | (refine wpQs_s ?_) | (refine wpQs_q (fun K hK => ?_); go_simp; first | (refine hK _ ?_; clear hK K) | (apply Exists.intro; refine ⟨fun _ => ?_, hK _ ?_⟩; (exact HWy.out _); clear hK K)) | (refine wpQs_f (fun K hK => ?_); go_simp; refine hK _ ?_; clear hK K))
  refine wpQs_nil ?_
  refine wpLsI_skip ?_
  refine wpLsI_skip ?_
  refine wpLsI_skip ?_
  refine wpLsI_skip ?_
  refine wpLsI_one rfl ?s4_ (fun v4_ => ?_)
  case s4_ =>
    intro S_ V_ w_ hw_ hV_ ha_ hn_ hI_
    have HW_ := Lib.hid hw_
    have HI_ := Lib.hid hI_
    have Hn_ := Lib.hid hn_
    clear hV_ ha_ hw_ hI_ hn_
    go_simp
    refine (HCM.out _ (after HK.out HW_.out.none)).mono ?_
    rintro e_ w9 ⟨rfl, h9⟩
    exact ⟨_, rfl, HW_.out.on h9, HI_.out.l (by simp) HU_.out h9 rfl⟩
  refine wpLsI_one rfl ?s5_ (fun v5_ => ?_)
  case s5_ =>
    intro S_ V_ w_ hw_ hV_ ha_ hn_ hI_
    have F_ := Lib.hid (show v4_ = .tuple #[.agg #[.int .i64 y1, .int .i64 y2, .int .i64 y3, .int .i64 y4, .int .i64 y5, .int .i64 y6], .agg #[.bool u1, .bool u2, .bool u3]] from (hI_.of (ha_ 4 (by decide) rfl (by kernel_rfl)) (hV_ 4 (by decide) rfl)))
    have HW_ := Lib.hid hw_
    have HI_ := Lib.hid hI_
    have Hn_ := Lib.hid hn_
    clear hV_ ha_ hw_ hI_ hn_
    go_simp
    have h8_ := F_.out
    subst h8_
    clear F_
    go_simp
    exact ⟨HW_.out, HI_.out.l (by simp) HU_.out (Below.refl _ _) rfl⟩
  refine wpLsI_one rfl ?s6_ (fun v6_ => ?_)
  case s6_ =>
    intro S_ V_ w_ hw_ hV_ ha_ hn_ hI_
    have F_ := Lib.hid (show v5_ = .tuple #[.agg #[.int .i64 y1, .int .i64 y2, .int .i64 y3, .int .i64 y4, .int .i64 y5, .int .i64 y6], .agg #[.bool u1, .bool u2, .bool u3]] from (hI_.of (ha_ 5 (by decide) rfl (by kernel_rfl)) (hV_ 5 (by decide) rfl)))
    have HW_ := Lib.hid hw_
    have HI_ := Lib.hid hI_
    have Hn_ := Lib.hid hn_
    clear hV_ ha_ hw_ hI_ hn_
    go_simp
    have h8_ := F_.out
    subst h8_
    clear F_
    go_simp
    exact ⟨HW_.out, HI_.out.l (by simp) HU_.out (Below.refl _ _) rfl⟩
  refine wpLsI_one rfl ?s7_ (fun v7_ => ?_)
  case s7_ =>
    intro S_ V_ w_ hw_ hV_ ha_ hn_ hI_
    have F_ := Lib.hid (show v5_ = .tuple #[.agg #[.int .i64 y1, .int .i64 y2, .int .i64 y3, .int .i64 y4, .int .i64 y5, .int .i64 y6], .agg #[.bool u1, .bool u2, .bool u3]] from (hI_.of (ha_ 5 (by decide) rfl (by kernel_rfl)) (hV_ 5 (by decide) rfl)))
    have HW_ := Lib.hid hw_
    have HI_ := Lib.hid hI_
    have Hn_ := Lib.hid hn_
    clear hV_ ha_ hw_ hI_ hn_
    go_simp
    have h8_ := F_.out
    subst h8_
    clear F_
    go_simp
    exact ⟨HW_.out, HI_.out.l (by simp) HU_.out (Below.refl _ _) rfl⟩
  refine wpLsI_one rfl ?s8_ (fun v8_ => ?_)
  case s8_ =>
    intro S_ V_ w_ hw_ hV_ ha_ hn_ hI_
    have HW_ := Lib.hid hw_
    have HI_ := Lib.hid hI_
    have Hn_ := Lib.hid hn_
    clear hV_ ha_ hw_ hI_ hn_
    go_simp
    exact ⟨HW_.out.on ((Below.refl _ _).alloc (Nat.le_refl _) _), HI_.out.new (List.mem_cons_self) HO_.out HU_.out (fun _ _ => trivial) HW_.out.none.size Hn_.out⟩
  refine wpLsI_one rfl ?s9_ (fun v9_ => ?_)
  case s9_ =>
    intro S_ V_ w_ hw_ hV_ ha_ hn_ hI_
    have HW_ := Lib.hid hw_
    have HI_ := Lib.hid hI_
    have Hn_ := Lib.hid hn_
    clear hV_ ha_ hw_ hI_ hn_
    go_simp
    exact ⟨HW_.out.on ((Below.refl _ _).alloc (Nat.le_refl _) _), HI_.out.new (List.mem_cons_of_mem _ (List.mem_cons_self)) HO_.out HU_.out (fun _ _ => trivial) HW_.out.none.size Hn_.out⟩
  refine wpLsI_one rfl ?s10_ (fun v10_ => ?_)
  case s10_ =>
    intro S_ V_ w_ hw_ hV_ ha_ hn_ hI_
    have F_ := Lib.hid (show v6_ = .agg #[.int .i64 y1, .int .i64 y2, .int .i64 y3, .int .i64 y4, .int .i64 y5, .int .i64 y6] from (hI_.of (ha_ 6 (by decide) rfl (by kernel_rfl)) (hV_ 6 (by decide) rfl)))
    have HS_ := Lib.hid (show S_ 8 from ha_ 8 (by decide) rfl (by kernel_rfl))
    have HVV_ := Lib.hid (show V_ 8 = v8_ from hV_ 8 (by decide) rfl)
    have hx_ := Lib.hid (show ∃ b, V_ 8 = .pointer (some ⟨b, 0, none⟩) ∧ w4.heap.size ≤ b ∧ Blk w_ b 28 #[.int .i64 0, .int .i64 0, .int .i64 0, .int .i64 0, .int .i64 0, .int .i64 0] from hI_.slot (List.mem_cons_self) HS_.out hn_)
    have HW_ := Lib.hid hw_
    have HI_ := Lib.hid hI_
    have Hn_ := Lib.hid hn_
    clear hV_ ha_ hw_ hI_ hn_
    go_simp
    refine hx_.out.elim fun b_ hy_ => ?_
    have E_ := hy_.1
    have HN_ := Lib.hid hy_.2.1
    have hb_ := hy_.2.2
    have h8_ := F_.out
    rw [HVV_.out] at E_
    subst h8_ E_
    clear hx_ hy_ F_
    obtain ⟨⟨k0_, k1_, k2_, k3_, k4_, k5_⟩, f0_, f1_, f2_, f3_, f4_, f5_⟩ := hb_.c6
    have Hb_ := Lib.hid hb_
    clear hb_
    go_simp
    exact ⟨HW_.out.new_set HN_.out kept6, HI_.out.set (List.mem_cons_self) HO_.out HU_.out (fun _ _ => trivial) Hn_.out HS_.out HVV_.out kept6 (Hb_.out.st6 _ _ _ _ _ _)⟩
  refine wpLsI_one rfl ?s11_ (fun v11_ => ?_)
  case s11_ =>
    intro S_ V_ w_ hw_ hV_ ha_ hn_ hI_
    have F_ := Lib.hid (show v7_ = .agg #[.bool u1, .bool u2, .bool u3] from (hI_.of (ha_ 7 (by decide) rfl (by kernel_rfl)) (hV_ 7 (by decide) rfl)))
    have HS_ := Lib.hid (show S_ 9 from ha_ 9 (by decide) rfl (by kernel_rfl))
    have HVV_ := Lib.hid (show V_ 9 = v9_ from hV_ 9 (by decide) rfl)
    have hx_ := Lib.hid (show ∃ b, V_ 9 = .pointer (some ⟨b, 0, none⟩) ∧ w4.heap.size ≤ b ∧ Blk w_ b 46 #[.bool false, .bool false, .bool false] from hI_.slot (List.mem_cons_of_mem _ (List.mem_cons_self)) HS_.out hn_)
    have HW_ := Lib.hid hw_
    have HI_ := Lib.hid hI_
    have Hn_ := Lib.hid hn_
    clear hV_ ha_ hw_ hI_ hn_
    go_simp
    refine hx_.out.elim fun b_ hy_ => ?_
    have E_ := hy_.1
    have HN_ := Lib.hid hy_.2.1
    have hb_ := hy_.2.2
    have h8_ := F_.out
    rw [HVV_.out] at E_
    subst h8_ E_
    clear hx_ hy_ F_
    obtain ⟨k0_, k1_, k2_, f0_, f1_, f2_⟩ := hb_.c3
    have Hb_ := Lib.hid hb_
    clear hb_
    go_simp
    exact ⟨HW_.out.new_set HN_.out kept3, HI_.out.set (List.mem_cons_of_mem _ (List.mem_cons_self)) HO_.out HU_.out (fun _ _ => trivial) Hn_.out HS_.out HVV_.out kept3 (Hb_.out.st3 _ _ _)⟩
  refine wpLsI_nil fun V_ W5 hw_ hV_ hI_ => ?_
  obtain ⟨g0_W5, E8_, N0_W5, X0_W5⟩ : ∃ b, v8_ = .pointer (some ⟨b, 0, none⟩) ∧ w4.heap.size ≤ b ∧ Blk W5 b 28 #[.int .i64 y1, .int .i64 y2, .int .i64 y3, .int .i64 y4, .int .i64 y5, .int .i64 y6] := by rw [← show V_ 8 = v8_ from hV_ 8 (by decide) rfl]; exact hI_.done (List.mem_cons_self) ⟨show 8 < 12 by decide, rfl⟩ ⟨show 10 < 12 by decide, rfl⟩
  obtain ⟨g1_W5, E9_, N1_W5, X1_W5⟩ : ∃ b, v9_ = .pointer (some ⟨b, 0, none⟩) ∧ w4.heap.size ≤ b ∧ Blk W5 b 46 #[.bool u1, .bool u2, .bool u3] := by rw [← show V_ 9 = v9_ from hV_ 9 (by decide) rfl]; exact hI_.done (List.mem_cons_of_mem _ (List.mem_cons_self)) ⟨show 9 < 12 by decide, rfl⟩ ⟨show 11 < 12 by decide, rfl⟩
  subst E8_ E9_
  have h_W5 := hw_.none
  clear hV_ hI_ hw_ HU_ HO_
  simp only [tails]
  replace G := G.on h_W5
  replace X := X.on h_W5
  replace V0 := V0.on h_W5
  have HK2 := Lib.hid (after HK.out h_W5)
  clear x0 x1 x2 x3 x4 x5 z0 z1 z2 h_W5 HK HCM X1_W5
  have HK := HK2
  clear HK2
  obtain ⟨x0, x1, x2, x3, x4, x5⟩ := X.re6
  obtain ⟨z0, z1, z2⟩ := V0.re3
  go_upto_region 6 with (fail)
  have HU_ := Lib.hid (show Bears W5.heap.size [⟨8, 10, 28, #[.int .i64 0, .int .i64 0, .int .i64 0, .int .i64 0, .int .i64 0, .int .i64 0], #[.int .i64 s1, .int .i64 s2, .int .i64 s3, .int .i64 s4, .int .i64 s5, .int .i64 s6]⟩, ⟨9, 11, 46, #[.bool false, .bool false, .bool false], #[.bool t1, .bool t2, .bool t3]⟩] (relsU [(4, fun v _ => v = .tuple #[.agg #[.int .i64 s1, .int .i64 s2, .int .i64 s3, .int .i64 s4, .int .i64 s5, .int .i64 s6], .agg #[.bool t1, .bool t2, .bool t3]]), (5, fun v _ => v = .tuple #[.agg #[.int .i64 s1, .int .i64 s2, .int .i64 s3, .int .i64 s4, .int .i64 s5, .int .i64 s6], .agg #[.bool t1, .bool t2, .bool t3]]), (6, fun v _ => v = .agg #[.int .i64 s1, .int .i64 s2, .int .i64 s3, .int .i64 s4, .int .i64 s5, .int .i64 s6]), (7, fun v _ => v = .agg #[.bool t1, .bool t2, .bool t3])]) from (bears_val (bears_val (bears_val (bears_val bears_nil)))))
  have HO_ := Lib.hid (show OkB [⟨8, 10, 28, #[.int .i64 0, .int .i64 0, .int .i64 0, .int .i64 0, .int .i64 0, .int .i64 0], #[.int .i64 s1, .int .i64 s2, .int .i64 s3, .int .i64 s4, .int .i64 s5, .int .i64 s6]⟩, ⟨9, 11, 46, #[.bool false, .bool false, .bool false], #[.bool t1, .bool t2, .bool t3]⟩] from ⟨by simp, by simp⟩)
  refine wp_many [0, 0, 0, 0, 2, 2, 2, 2, 2, 2, 2, 2] _ _ (by kernel_rfl) (by kernel_rfl) HU_.out ?_
  repeat (first | (refine wpQs_s ?_) | (refine wpQs_q (fun K hK => ?_); go_simp; first | (refine hK _ ?_; clear hK K) | (apply Exists.intro; refine ⟨fun _ => ?_, hK _ ?_⟩; (exact HWy.out _); clear hK K)) | (refine wpQs_f (fun K hK => ?_); go_simp; refine hK _ ?_; clear hK K))
  refine wpQs_nil ?_
  refine wpLsI_skip ?_
  refine wpLsI_skip ?_
  refine wpLsI_skip ?_
  refine wpLsI_skip ?_
  refine wpLsI_one rfl ?s4_ (fun v4_ => ?_)
  case s4_ =>
    intro S_ V_ w_ hw_ hV_ ha_ hn_ hI_
    have HW_ := Lib.hid hw_
    have HI_ := Lib.hid hI_
    have Hn_ := Lib.hid hn_
    clear hV_ ha_ hw_ hI_ hn_
    go_simp
    refine (HCS.out _ (after HK.out HW_.out.none)).mono ?_
    rintro e_ w9 ⟨rfl, h9⟩
    exact ⟨_, rfl, HW_.out.on h9, HI_.out.l (by simp) HU_.out h9 rfl⟩
  refine wpLsI_one rfl ?s5_ (fun v5_ => ?_)
  case s5_ =>
    intro S_ V_ w_ hw_ hV_ ha_ hn_ hI_
    have F_ := Lib.hid (show v4_ = .tuple #[.agg #[.int .i64 s1, .int .i64 s2, .int .i64 s3, .int .i64 s4, .int .i64 s5, .int .i64 s6], .agg #[.bool t1, .bool t2, .bool t3]] from (hI_.of (ha_ 4 (by decide) rfl (by kernel_rfl)) (hV_ 4 (by decide) rfl)))
    have HW_ := Lib.hid hw_
    have HI_ := Lib.hid hI_
    have Hn_ := Lib.hid hn_
    clear hV_ ha_ hw_ hI_ hn_
    go_simp
    have h8_ := F_.out
    subst h8_
    clear F_
    go_simp
    exact ⟨HW_.out, HI_.out.l (by simp) HU_.out (Below.refl _ _) rfl⟩
  refine wpLsI_one rfl ?s6_ (fun v6_ => ?_)
  case s6_ =>
    intro S_ V_ w_ hw_ hV_ ha_ hn_ hI_
    have F_ := Lib.hid (show v5_ = .tuple #[.agg #[.int .i64 s1, .int .i64 s2, .int .i64 s3, .int .i64 s4, .int .i64 s5, .int .i64 s6], .agg #[.bool t1, .bool t2, .bool t3]] from (hI_.of (ha_ 5 (by decide) rfl (by kernel_rfl)) (hV_ 5 (by decide) rfl)))
    have HW_ := Lib.hid hw_
    have HI_ := Lib.hid hI_
    have Hn_ := Lib.hid hn_
    clear hV_ ha_ hw_ hI_ hn_
    go_simp
    have h8_ := F_.out
    subst h8_
    clear F_
    go_simp
    exact ⟨HW_.out, HI_.out.l (by simp) HU_.out (Below.refl _ _) rfl⟩
  refine wpLsI_one rfl ?s7_ (fun v7_ => ?_)
  case s7_ =>
    intro S_ V_ w_ hw_ hV_ ha_ hn_ hI_
    have F_ := Lib.hid (show v5_ = .tuple #[.agg #[.int .i64 s1, .int .i64 s2, .int .i64 s3, .int .i64 s4, .int .i64 s5, .int .i64 s6], .agg #[.bool t1, .bool t2, .bool t3]] from (hI_.of (ha_ 5 (by decide) rfl (by kernel_rfl)) (hV_ 5 (by decide) rfl)))
    have HW_ := Lib.hid hw_
    have HI_ := Lib.hid hI_
    have Hn_ := Lib.hid hn_
    clear hV_ ha_ hw_ hI_ hn_
    go_simp
    have h8_ := F_.out
    subst h8_
    clear F_
    go_simp
    exact ⟨HW_.out, HI_.out.l (by simp) HU_.out (Below.refl _ _) rfl⟩
  refine wpLsI_one rfl ?s8_ (fun v8_ => ?_)
  case s8_ =>
    intro S_ V_ w_ hw_ hV_ ha_ hn_ hI_
    have HW_ := Lib.hid hw_
    have HI_ := Lib.hid hI_
    have Hn_ := Lib.hid hn_
    clear hV_ ha_ hw_ hI_ hn_
    go_simp
    exact ⟨HW_.out.on ((Below.refl _ _).alloc (Nat.le_refl _) _), HI_.out.new (List.mem_cons_self) HO_.out HU_.out (fun _ _ => trivial) HW_.out.none.size Hn_.out⟩
  refine wpLsI_one rfl ?s9_ (fun v9_ => ?_)
  case s9_ =>
    intro S_ V_ w_ hw_ hV_ ha_ hn_ hI_
    have HW_ := Lib.hid hw_
    have HI_ := Lib.hid hI_
    have Hn_ := Lib.hid hn_
    clear hV_ ha_ hw_ hI_ hn_
    go_simp
    exact ⟨HW_.out.on ((Below.refl _ _).alloc (Nat.le_refl _) _), HI_.out.new (List.mem_cons_of_mem _ (List.mem_cons_self)) HO_.out HU_.out (fun _ _ => trivial) HW_.out.none.size Hn_.out⟩
  refine wpLsI_one rfl ?s10_ (fun v10_ => ?_)
  case s10_ =>
    intro S_ V_ w_ hw_ hV_ ha_ hn_ hI_
    have F_ := Lib.hid (show v6_ = .agg #[.int .i64 s1, .int .i64 s2, .int .i64 s3, .int .i64 s4, .int .i64 s5, .int .i64 s6] from (hI_.of (ha_ 6 (by decide) rfl (by kernel_rfl)) (hV_ 6 (by decide) rfl)))
    have HS_ := Lib.hid (show S_ 8 from ha_ 8 (by decide) rfl (by kernel_rfl))
    have HVV_ := Lib.hid (show V_ 8 = v8_ from hV_ 8 (by decide) rfl)
    have hx_ := Lib.hid (show ∃ b, V_ 8 = .pointer (some ⟨b, 0, none⟩) ∧ W5.heap.size ≤ b ∧ Blk w_ b 28 #[.int .i64 0, .int .i64 0, .int .i64 0, .int .i64 0, .int .i64 0, .int .i64 0] from hI_.slot (List.mem_cons_self) HS_.out hn_)
    have HW_ := Lib.hid hw_
    have HI_ := Lib.hid hI_
    have Hn_ := Lib.hid hn_
    clear hV_ ha_ hw_ hI_ hn_
    go_simp
    refine hx_.out.elim fun b_ hy_ => ?_
    have E_ := hy_.1
    have HN_ := Lib.hid hy_.2.1
    have hb_ := hy_.2.2
    have h8_ := F_.out
    rw [HVV_.out] at E_
    subst h8_ E_
    clear hx_ hy_ F_
    obtain ⟨⟨k0_, k1_, k2_, k3_, k4_, k5_⟩, f0_, f1_, f2_, f3_, f4_, f5_⟩ := hb_.c6
    have Hb_ := Lib.hid hb_
    clear hb_
    go_simp
    exact ⟨HW_.out.new_set HN_.out kept6, HI_.out.set (List.mem_cons_self) HO_.out HU_.out (fun _ _ => trivial) Hn_.out HS_.out HVV_.out kept6 (Hb_.out.st6 _ _ _ _ _ _)⟩
  refine wpLsI_one rfl ?s11_ (fun v11_ => ?_)
  case s11_ =>
    intro S_ V_ w_ hw_ hV_ ha_ hn_ hI_
    have F_ := Lib.hid (show v7_ = .agg #[.bool t1, .bool t2, .bool t3] from (hI_.of (ha_ 7 (by decide) rfl (by kernel_rfl)) (hV_ 7 (by decide) rfl)))
    have HS_ := Lib.hid (show S_ 9 from ha_ 9 (by decide) rfl (by kernel_rfl))
    have HVV_ := Lib.hid (show V_ 9 = v9_ from hV_ 9 (by decide) rfl)
    have hx_ := Lib.hid (show ∃ b, V_ 9 = .pointer (some ⟨b, 0, none⟩) ∧ W5.heap.size ≤ b ∧ Blk w_ b 46 #[.bool false, .bool false, .bool false] from hI_.slot (List.mem_cons_of_mem _ (List.mem_cons_self)) HS_.out hn_)
    have HW_ := Lib.hid hw_
    have HI_ := Lib.hid hI_
    have Hn_ := Lib.hid hn_
    clear hV_ ha_ hw_ hI_ hn_
    go_simp
    refine hx_.out.elim fun b_ hy_ => ?_
    have E_ := hy_.1
    have HN_ := Lib.hid hy_.2.1
    have hb_ := hy_.2.2
    have h8_ := F_.out
    rw [HVV_.out] at E_
    subst h8_ E_
    clear hx_ hy_ F_
    obtain ⟨k0_, k1_, k2_, f0_, f1_, f2_⟩ := hb_.c3
    have Hb_ := Lib.hid hb_
    clear hb_
    go_simp
    exact ⟨HW_.out.new_set HN_.out kept3, HI_.out.set (List.mem_cons_of_mem _ (List.mem_cons_self)) HO_.out HU_.out (fun _ _ => trivial) Hn_.out HS_.out HVV_.out kept3 (Hb_.out.st3 _ _ _)⟩
  refine wpLsI_nil fun V_ W6 hw_ hV_ hI_ => ?_
  obtain ⟨g0_W6, E8_, N0_W6, X0_W6⟩ : ∃ b, v8_ = .pointer (some ⟨b, 0, none⟩) ∧ W5.heap.size ≤ b ∧ Blk W6 b 28 #[.int .i64 s1, .int .i64 s2, .int .i64 s3, .int .i64 s4, .int .i64 s5, .int .i64 s6] := by rw [← show V_ 8 = v8_ from hV_ 8 (by decide) rfl]; exact hI_.done (List.mem_cons_self) ⟨show 8 < 12 by decide, rfl⟩ ⟨show 10 < 12 by decide, rfl⟩
  obtain ⟨g1_W6, E9_, N1_W6, X1_W6⟩ : ∃ b, v9_ = .pointer (some ⟨b, 0, none⟩) ∧ W5.heap.size ≤ b ∧ Blk W6 b 46 #[.bool t1, .bool t2, .bool t3] := by rw [← show V_ 9 = v9_ from hV_ 9 (by decide) rfl]; exact hI_.done (List.mem_cons_of_mem _ (List.mem_cons_self)) ⟨show 9 < 12 by decide, rfl⟩ ⟨show 11 < 12 by decide, rfl⟩
  subst E8_ E9_
  have h_W6 := hw_.none
  clear hV_ hI_ hw_ HU_ HO_
  simp only [tails]
  replace G := G.on h_W6
  replace X := X.on h_W6
  replace V0 := V0.on h_W6
  replace X0_W5 := X0_W5.on h_W6
  have HK2 := Lib.hid (after HK.out h_W6)
  clear x0 x1 x2 x3 x4 x5 z0 z1 z2 h_W6 HK HCS X1_W6
  have HK := HK2
  clear HK2
  have ways : bl = true ∨ (bl = false ∧ by' = false ∧ bs' = false) := by
    cases hb : bl
    · exact .inr ⟨rfl, Hfy.out hb, Hfs.out hb⟩
    · exact .inl rfl
  have hd6 : -4194304 ≤ wayI dx ∧ wayI dx ≤ 4194304 ∧ -4194304 ≤ wayI dy ∧ wayI dy ≤ 4194304 ∧ -4194304 ≤ wayI dz ∧ wayI dz ≤ 4194304 := by
    have h1 := wayI_bd dx
    have h2 := wayI_bd dy
    have h3 := wayI_bd dz
    omega
  have HD6 := Lib.hid hd6
  clear hd6 Hfy Hfs
  have g0 := G.cell 0
  have g1 := G.cell 1
  obtain ⟨p0, p1, p2, p3, p4, p5⟩ := X0_W5.c6.1
  obtain ⟨q0, q1, q2', q3, q4, q5⟩ := X0_W6.c6.1
  rcases ways with rfl | ⟨rfl, rfl, rfl⟩
  · go_upto_region 10 with (fail)
    clear p0 p1 p2 p3 p4 p5 q0 q1 q2' q3 q4 q5 g0 g1 X0_W5 X0_W6 HBy HBs
    go_loopw [17] (fun iv wr => ∃ (i : Nat), iv = .int .i64 (i : Nat) ∧ Hid (i ≤ 3) ∧ Blk wr g 24 #[.slice q2 m c2, .int .i64 els2] ∧ Blk wr gx 28 #[.int .i64 a, .int .i64 b, .int .i64 c', .int .i64 d, .int .i64 e, .int .i64 f] ∧ Blk wr gv 26 #[.int .i64 dx, .int .i64 dy, .int .i64 dz] ∧ Hid (Below W3.heap.size W3 wr)) (fun v _ => 3 - (intOf v).toNat)
    case atStart => exact ⟨0, rfl, Lib.hid (by decide), G, X, V0, HK⟩
    case round =>
      clear G X V0 HK
      obtain ⟨i, rfl, hi, G, X, V0, K⟩ := hrel
      by_cases hlt : i < 3
      · obtain ⟨m1, m2, m3, m4⟩ := nextk3 hlt
        obtain ⟨mm, hmm⟩ : ∃ mm, mm = axI (wayI dx) (wayI dy) (wayI dz) i := ⟨_, rfl⟩
        have hmb : -4194304 ≤ mm ∧ mm ≤ 4194304 := by
          have h6 := HD6.out
          rw [hmm]; unfold axI
          split
          · exact ⟨h6.1, h6.2.1⟩
          split
          · exact ⟨h6.2.2.1, h6.2.2.2.1⟩
          split
          · exact ⟨h6.2.2.2.2.1, h6.2.2.2.2.2⟩
          · decide
        have hRX := Lib.hid fun W => raxis_e (wayI dx) (wayI dy) (wayI dz) i mm hmm.symm W
        obtain ⟨hs1, hs2⟩ := Hsay.out i mm ⟨m1, m2⟩ hmb.1 hmb.2
        have hPA := Lib.hid fun W h => HCA.out i mm W h
        have hFH := Hfh.out i mm ⟨m1, m2⟩ hmb.1 hmb.2
        have hSH := Hsh.out i
        clear hmm
        generalize hr : ax6 val (a, b, c', d, e, f) i mm = r at hPA hs1 hs2 hFH
        obtain ⟨nn, hit⟩ := r
        dsimp only [axT] at hPA hs1 hs2 hFH
        clear hr
        obtain ⟨w1, w2, w3', w4'⟩ := way_tests hs1 hmb.1 hmb.2
        have hnb : -4194304 ≤ nn ∧ nn ≤ 4194304 := by omega
        obtain ⟨hn1, hn2⟩ := hnb
        obtain ⟨hm1, hm2⟩ := hmb
        have HT := Lib.hid (And.intro w1 w2)
        have HS1 := Lib.hid hs1
        have HS2 := Lib.hid hs2
        have HFH := Lib.hid hFH
        have HSH := Lib.hid hSH
        clear w1 w2 hs1 hs2 hFH hSH
        obtain ⟨x0, x1, x2, x3, x4, x5⟩ := X.re6
        obtain ⟨z0, z1, z2⟩ := V0.re3
        have hP := fun x y => hPA.out (Go.Sort.grow (redrawn wr x) y) (after K.out (below_regrown _ x y))
        have PP := Lib.hid hP
        clear hP hPA
        go_upto_region 12 with (fail)
        refine wp_sched [0, 0, 0, 0, 0, 0, 0, 0, 0, 0, 0, 0, 0] (fun _ _ _ => True) (by kernel_rfl) (by kernel_rfl) (fun _ _ _ _ h _ => h) ?_
        repeat (first | (refine wpQs_s ?_) | (refine wpQs_q (fun K hK => ?_); go_simp; first | (refine hK _ ?_; clear hK K) | (apply Exists.intro; refine ⟨fun _ => ?_, hK _ ?_⟩; (first | exact HWy.out _ | exact hRX.out _ | exact PP.out _ _); clear hK K)) | (refine wpQs_f (fun K hK => ?_); go_simp; refine hK _ ?_; clear hK K))
        refine wpQs_nil ?_
        repeat (first | (refine wpLs_skip ?_) | (refine wpLs_one ?lsA (fun v_ => ?_); case lsA => (intro w_ hw_ hp_; (fail))))
        refine wpLs_nilB ?_
        simp only [tails]
        intro W7 h7 _
        clear x0 x1 x2 x3 x4 x5 z0 z1 z2 PP
        replace G := G.on h7
        replace X := X.on h7
        replace V0 := V0.on h7
        have K7 := Lib.hid (after K.out h7)
        clear h7 K
        have K := K7
        clear K7
        obtain ⟨z0, z1, z2, -, -, -⟩ := V0.c3
        go_upto_region 14 with (first | (go_at_call 17; refine (HWy.out _).mono ?_; rintro e_ w8 ⟨rfl, h8⟩) | (go_at_call 22; refine (hRX.out _).mono ?_; rintro e_ w9 ⟨rfl, h9⟩))
        replace G := G.on h8
        replace X := X.on h8
        replace V0 := V0.on h8
        replace G := G.on h9
        replace X := X.on h9
        replace V0 := V0.on h9
        have K9 := Lib.hid (after (after K.out h8) h9)
        clear h8 h9 K z0 z1 z2 hRX
        have hmx := @run_mx Try.prog
        obtain ⟨w1, w2⟩ := HT.out
        clear HT
        cases hit
        · obtain rfl : nn = mm := HS2.out rfl
          clear HS2
          go_upto_region 16 with (fail)
          clear w1 w2 hmx w3' w4'
          clear HFH HSH
          refine wp_region_quiet_below (by kernel_rfl) (by kernel_rfl) ?_
          repeat (go_big_quiet_step (fail))
          refine wpQuiet_nil ?_
          intro w' hw'
          obtain ⟨rg, rfl⟩ := hw'
          obtain ⟨W10, hW10⟩ : ∃ W10, W10 = Go.Sort.grow (redrawn w9 rg.d) rg.os := ⟨_, rfl⟩
          rw [← hW10]
          have h10 : Below w9.heap.size w9 W10 := by rw [hW10]; exact below_regrown _ _ _
          clear hW10
          replace G := G.on h10
          replace X := X.on h10
          replace V0 := V0.on h10
          go_wp2_with fail
          go_roundw
          case rel => exact ⟨i + 1, rfl, Lib.hid hlt, G, X, V0, Lib.hid (after K9.out h10)⟩
          case measure => simp [intOf]; omega
        · clear HS2 HFH HSH
          go_upto_region 16 with (fail)
          clear w1 w2 hmx w3' w4'
          refine wp_region_quiet_below (by kernel_rfl) (by kernel_rfl) ?_
          repeat (go_big_quiet_step (fail))
          refine wpQuiet_nil ?_
          intro w' hw'
          obtain ⟨rg, rfl⟩ := hw'
          obtain ⟨W10, hW10⟩ : ∃ W10, W10 = Go.Sort.grow (redrawn w9 rg.d) rg.os := ⟨_, rfl⟩
          rw [← hW10]
          have h10 : Below w9.heap.size w9 W10 := by rw [hW10]; exact below_regrown _ _ _
          clear hW10
          replace G := G.on h10
          replace X := X.on h10
          replace V0 := V0.on h10
          go_wp2_with fail
          go_roundw
          case rel => exact ⟨i + 1, rfl, Lib.hid hlt, G, X, V0, Lib.hid (after K9.out h10)⟩
          case measure => simp [intOf]; omega
      · have hlt' : ¬ (i : Int) < 3 := by omega
        go_wp2_with (go_at_call 14; refine (slives_c _).mono ?_; rintro e_ w9 ⟨rfl, h9⟩)
        go_returns
        exact ⟨rfl, after (after H3.out K.out) h9⟩
  · go_upto_region 10 with (first | (go_at_call 26; (with_reducible refine (HBy.out _ HK.out).mono ?_); rintro e_ w7 ⟨rfl, h7⟩; replace HK := Lib.hid (after HK.out h7); replace G := G.on h7; replace X := X.on h7; replace V0 := V0.on h7; replace X0_W6 := X0_W6.on h7; clear g0 g1 q0 q1 q2' q3 q4 q5; have g0 := G.cell 0; have g1 := G.cell 1; obtain ⟨q0, q1, q2', q3, q4, q5⟩ := X0_W6.c6.1) | (go_at_call 26; (with_reducible refine (HBs.out _ HK.out).mono ?_); rintro e_ w8 ⟨rfl, h8⟩; replace HK := Lib.hid (after HK.out h8); replace G := G.on h8; replace X := X.on h8; replace V0 := V0.on h8))
    clear p0 p1 p2 p3 p4 p5 q0 q1 q2' q3 q4 q5 g0 g1 X0_W5 X0_W6 HBy HBs
    go_loopw [17] (fun iv wr => ∃ (i : Nat), iv = .int .i64 (i : Nat) ∧ Hid (i ≤ 3) ∧ Blk wr g 24 #[.slice q2 m c2, .int .i64 els2] ∧ Blk wr gx 28 #[.int .i64 a, .int .i64 b, .int .i64 c', .int .i64 d, .int .i64 e, .int .i64 f] ∧ Blk wr gv 26 #[.int .i64 dx, .int .i64 dy, .int .i64 dz] ∧ Hid (Below W3.heap.size W3 wr)) (fun v _ => 3 - (intOf v).toNat)
    case atStart => exact ⟨0, rfl, Lib.hid (by decide), G, X, V0, HK⟩
    case round =>
      clear G X V0 HK
      obtain ⟨i, rfl, hi, G, X, V0, K⟩ := hrel
      by_cases hlt : i < 3
      · obtain ⟨m1, m2, m3, m4⟩ := nextk3 hlt
        obtain ⟨mm, hmm⟩ : ∃ mm, mm = axI (wayI dx) (wayI dy) (wayI dz) i := ⟨_, rfl⟩
        have hmb : -4194304 ≤ mm ∧ mm ≤ 4194304 := by
          have h6 := HD6.out
          rw [hmm]; unfold axI
          split
          · exact ⟨h6.1, h6.2.1⟩
          split
          · exact ⟨h6.2.2.1, h6.2.2.2.1⟩
          split
          · exact ⟨h6.2.2.2.2.1, h6.2.2.2.2.2⟩
          · decide
        have hRX := Lib.hid fun W => raxis_e (wayI dx) (wayI dy) (wayI dz) i mm hmm.symm W
        obtain ⟨hs1, hs2⟩ := Hsay.out i mm ⟨m1, m2⟩ hmb.1 hmb.2
        have hPA := Lib.hid fun W h => HCA.out i mm W h
        have hFH := Hfh.out i mm ⟨m1, m2⟩ hmb.1 hmb.2
        have hSH := Hsh.out i
        clear hmm
        generalize hr : ax6 val (a, b, c', d, e, f) i mm = r at hPA hs1 hs2 hFH
        obtain ⟨nn, hit⟩ := r
        dsimp only [axT] at hPA hs1 hs2 hFH
        clear hr
        obtain ⟨w1, w2, w3', w4'⟩ := way_tests hs1 hmb.1 hmb.2
        have hnb : -4194304 ≤ nn ∧ nn ≤ 4194304 := by omega
        obtain ⟨hn1, hn2⟩ := hnb
        obtain ⟨hm1, hm2⟩ := hmb
        have HT := Lib.hid (And.intro w1 w2)
        have HS1 := Lib.hid hs1
        have HS2 := Lib.hid hs2
        have HFH := Lib.hid hFH
        have HSH := Lib.hid hSH
        clear w1 w2 hs1 hs2 hFH hSH
        obtain ⟨x0, x1, x2, x3, x4, x5⟩ := X.re6
        obtain ⟨z0, z1, z2⟩ := V0.re3
        have hP := fun x y => hPA.out (Go.Sort.grow (redrawn wr x) y) (after K.out (below_regrown _ x y))
        have PP := Lib.hid hP
        clear hP hPA
        go_upto_region 12 with (fail)
        refine wp_sched [0, 0, 0, 0, 0, 0, 0, 0, 0, 0, 0, 0, 0] (fun _ _ _ => True) (by kernel_rfl) (by kernel_rfl) (fun _ _ _ _ h _ => h) ?_
        repeat (first | (refine wpQs_s ?_) | (refine wpQs_q (fun K hK => ?_); go_simp; first | (refine hK _ ?_; clear hK K) | (apply Exists.intro; refine ⟨fun _ => ?_, hK _ ?_⟩; (first | exact HWy.out _ | exact hRX.out _ | exact PP.out _ _); clear hK K)) | (refine wpQs_f (fun K hK => ?_); go_simp; refine hK _ ?_; clear hK K))
        refine wpQs_nil ?_
        repeat (first | (refine wpLs_skip ?_) | (refine wpLs_one ?lsA (fun v_ => ?_); case lsA => (intro w_ hw_ hp_; (fail))))
        refine wpLs_nilB ?_
        simp only [tails]
        intro W7 h7 _
        clear x0 x1 x2 x3 x4 x5 z0 z1 z2 PP
        replace G := G.on h7
        replace X := X.on h7
        replace V0 := V0.on h7
        have K7 := Lib.hid (after K.out h7)
        clear h7 K
        have K := K7
        clear K7
        obtain ⟨z0, z1, z2, -, -, -⟩ := V0.c3
        go_upto_region 14 with (first | (go_at_call 17; refine (HWy.out _).mono ?_; rintro e_ w8 ⟨rfl, h8⟩) | (go_at_call 22; refine (hRX.out _).mono ?_; rintro e_ w9 ⟨rfl, h9⟩))
        replace G := G.on h8
        replace X := X.on h8
        replace V0 := V0.on h8
        replace G := G.on h9
        replace X := X.on h9
        replace V0 := V0.on h9
        have K9 := Lib.hid (after (after K.out h8) h9)
        clear h8 h9 K z0 z1 z2 hRX
        have hmx := @run_mx Try.prog
        obtain ⟨w1, w2⟩ := HT.out
        clear HT
        cases hit
        · obtain rfl : nn = mm := HS2.out rfl
          clear HS2
          go_upto_region 16 with (fail)
          clear w1 w2 hmx w3' w4'
          have hhb := tdiv_half hn1 hn2
          have hB9 := HCB.out (mv6 (a, b, c', d, e, f) i (nn.tdiv 2)) (HSH.out _ ⟨m1, m2⟩ (by omega) (by omega))
          have hF : blk6 val (mv6 (a, b, c', d, e, f) i (nn.tdiv 2)) = false := by first | exact HFH.out rfl | exact HFH.out trivial | exact HFH.out
          rw [hF] at hB9
          clear hF
          clear hhb HFH HSH
          dsimp only [ag6, mv6] at hB9
          have BB := Lib.hid fun x y => hB9 (Go.Sort.grow (redrawn w9 x) y) (after K9.out (below_regrown _ x y))
          clear hB9
          obtain ⟨x0, x1, x2, x3, x4, x5⟩ := X.re6
          have g0 := fun x y => (G.re x y).cell 0
          have g1 := fun x y => (G.re x y).cell 1
          refine wp_region_quiet_below (by kernel_rfl) (by kernel_rfl) ?_
          repeat (go_big_quiet_step (first | exact Calls.regrown_of (rwith_c _ _ _ _ _ _) | exact Calls.regrown_of (srmove_c _ _ _ _ _ _ _ _ _ _) | exact Calls.regrown_of (BB.out _ _)))
          refine wpQuiet_nil ?_
          intro w' hw'
          obtain ⟨rg, rfl⟩ := hw'
          clear x0 x1 x2 x3 x4 x5 g0 g1
          obtain ⟨W10, hW10⟩ : ∃ W10, W10 = Go.Sort.grow (redrawn w9 rg.d) rg.os := ⟨_, rfl⟩
          rw [← hW10]
          have h10 : Below w9.heap.size w9 W10 := by rw [hW10]; exact below_regrown _ _ _
          clear hW10
          replace G := G.on h10
          replace X := X.on h10
          replace V0 := V0.on h10
          go_wp2_with fail
          go_roundw
          case rel => exact ⟨i + 1, rfl, Lib.hid hlt, G, X, V0, Lib.hid (after K9.out h10)⟩
          case measure => simp [intOf]; omega
        · clear HS2 HFH HSH
          go_upto_region 16 with (fail)
          clear w1 w2 hmx w3' w4'
          refine wp_region_quiet_below (by kernel_rfl) (by kernel_rfl) ?_
          repeat (go_big_quiet_step (fail))
          refine wpQuiet_nil ?_
          intro w' hw'
          obtain ⟨rg, rfl⟩ := hw'
          obtain ⟨W10, hW10⟩ : ∃ W10, W10 = Go.Sort.grow (redrawn w9 rg.d) rg.os := ⟨_, rfl⟩
          rw [← hW10]
          have h10 : Below w9.heap.size w9 W10 := by rw [hW10]; exact below_regrown _ _ _
          clear hW10
          replace G := G.on h10
          replace X := X.on h10
          replace V0 := V0.on h10
          go_wp2_with fail
          go_roundw
          case rel => exact ⟨i + 1, rfl, Lib.hid hlt, G, X, V0, Lib.hid (after K9.out h10)⟩
          case measure => simp [intOf]; omega
      · have hlt' : ¬ (i : Int) < 3 := by omega
        go_wp2_with (go_at_call 14; refine (slives_c _).mono ?_; rintro e_ w9 ⟨rfl, h9⟩)
        go_returns
        exact ⟨rfl, after (after H3.out K.out) h9⟩

set_option maxRecDepth 100000 in
theorem sweepFree_lifted (os : Os) (started : os.Started) (H : Type) (enc : TypeId × Value → H) :
    ReturnsInHanded {} Try.checked os 7 .any (Rows.sweepFreeSpec.pre6 enc Try.prog Try.f7 Rows.sweepFreeRow.domain false) (Rows.sweepFreeSpec.post enc Try.prog Try.f7 false true false false) := by
  refine returnsInHanded_of_change (C := Try.checked) own started (by kernel_rfl) Try.func7
    (ChangeSpec.witness6 (enc := enc) (C := Try.checked) false ⟨#[], #[.agg #[.slice none 0 0, .int .i64 0], .agg #[.int .i64 0, .int .i64 0, .int .i64 0, .int .i64 0, .int .i64 0, .int .i64 0], .agg #[.int .i64 0, .int .i64 0, .int .i64 0], .bool false], []⟩ 8 (by kernel_rfl) (by kernel_rfl) (by kernel_rfl) (by kernel_rfl)) ?_
  intro W base args ds gs before hval0 hW hcnd hsz
  have hval : ∀ (j : Nat) t v, Try.f7.params[j]? = some t → args[j]? = some v → Value.okWide Try.prog W .any base t v := hval0
  have hW' := hW
  obtain ⟨p, q, hA0, hV, rfl, hfz, hnd⟩ := hW
  have hA : DataW.TrodAll enc Try.prog W 0 (fun _ => true) true Try.f7.params.toList args.toList ds p := hA0
  rw [Try.params7] at hA hval
  obtain ⟨v0, vs0, d0, ds0, p_0, q_0, hargs, rfl, rfl, h0, r_0⟩ := trodAll_cons hA
  obtain ⟨v1, vs1, d1, ds1, p_1, q_1, rfl, rfl, rfl, h1, r_1⟩ := trodAll_cons r_0
  obtain ⟨v2, vs2, d2, ds2, p_2, q_2, rfl, rfl, rfl, h2, r_2⟩ := trodAll_cons r_1
  obtain ⟨v3, vs3, d3, ds3, p_3, q_3, rfl, rfl, rfl, h3, r_3⟩ := trodAll_cons r_2
  obtain ⟨rfl, rfl, rfl⟩ := trodAll_nil r_3
  obtain rfl : args = #[v0, v1, v2, v3] := by cases args; simp_all
  obtain ⟨rfl, rfl⟩ := trodVars_none hV
  obtain ⟨gq0, gn0, gc0, gF0, ge0, rfl, gl0, gm0, gi0, gw0, gv0⟩ := open_world Try.underlying24 Try.underlying22 (by kernel_rfl) (by kernel_rfl) Try.underlying3 (hval 0 24 v0 rfl rfl) h0
  obtain ⟨p1, q1, r1, s1, t1, u1, rfl, wp1, wq1, wr1, ws1, wt1, wu1⟩ := open_box Try.underlying28 Try.underlying26 (by kernel_rfl) (by kernel_rfl) (by kernel_rfl) Try.underlying3 (hval 1 28 v1 rfl rfl) h1
  obtain ⟨x2, y2, z2, rfl, wx2, wy2, wz2⟩ := open_vec Try.underlying26 (by kernel_rfl) (by kernel_rfl) Try.underlying3 (hval 2 26 v2 rfl rfl) h2
  obtain ⟨a3, rfl, rfl, rfl⟩ := open_bool Try.underlying4 (hval 3 4 v3 rfl rfl) h3
  refine (sweepFree_c gq0 gn0 gc0 gF0 ge0 gl0 gm0 gw0 gv0 p1 q1 r1 s1 t1 u1 wp1 wq1 wr1 ws1 wt1 wu1 x2 y2 z2 wx2 wy2 wz2 a3 W gi0).mono fun e W' ⟨he, hb⟩ => ?_
  subst he
  exact ⟨_, rfl, law_post laidOut (by kernel_rfl) rfl (by kernel_rfl) Try.underlying4 hW' rfl rfl rfl hb⟩

/-- The statement. -/
theorem sweepFree_proved : Rows.SweepFreeSaid :=
  OpenClaim.holds_of_wide 7 Try.f7 rfl rfl rfl rfl rfl rfl rfl ⟨rfl, rfl, rfl, rfl, rfl⟩ rfl rfl rfl rfl rfl (by kernel_rfl) Try.func7 (by kernel_rfl)
    (of_decide_eq_true (by kernel_rfl)) (by unfold Func.isWrapper; first | (rw [if_pos (by decide +kernel)]; kernel_rfl) | (rw [if_neg (by decide +kernel)]; exact ⟨rfl, rfl⟩))
    (fun os started H enc _ => sweepFree_lifted os started H enc)
end Go.Proofs.Ytckjpiioipkfcaa
