/- The program's cells of a box. -/
import Derived.Test.YtmkmaoodeebmfaaSpan4
import Derived.Test.YtmkmaoodeebmfaaSpan2
import Derived.Test.YtmkmaoodeebmfaaVec4
namespace Go.Proofs.Ytmkmaoodeebmfaa
open Go.RowKit

/-- A box within the bounds. -/
structure BoxOk (a b c d e f : Int) : Prop where
  a1 : -140737488355328 ≤ a
  b1 : -140737488355328 ≤ b
  c1 : -140737488355328 ≤ c
  d2 : d ≤ 140737488355328
  e2 : e ≤ 140737488355328
  f2 : f ≤ 140737488355328
  ad : a ≤ d
  be : b ≤ e
  cf : c ≤ f
def pkI (n m lo hi : Int) : Int := if n = m then lo else hi
theorem thin_p (n m lo hi : Int) (w : World) : Calls Try.prog 76 #[.int .i64 n, .int .i64 m, .int .i64 lo, .int .i64 hi] w fun r w' => r = .returned (.int .i64 (pkI n m lo hi)) ∧ Below w.heap.size w w' := calls_bel (thin_c n m lo hi w)
theorem topI_prog2 {n m : Int} (h1 : -140737488355328 ≤ n) (h2 : m ≤ 140737488355328) (h : n ≤ m) : pkI n m (lowI n) (lowI (addI m (-1))) = topI n m := by
  rw [← topI_prog h1 h2 h]; unfold pkI lowI addI; rw [cutI_cut]
def pthinB (n m : Int) : Bool := (n == m) && (cutI n % 65536 == 0)
theorem pthin_ways (n m : Int) : ((n == m) = false ∧ pthinB n m = false) ∨ ((n == m) = true ∧ (cutI n % 65536 == 0) = false ∧ pthinB n m = false) ∨ ((n == m) = true ∧ (cutI n % 65536 == 0) = true ∧ pthinB n m = true) := by
  unfold pthinB
  cases (n == m) <;> cases (cutI n % 65536 == 0) <;> simp
theorem pthin_is {n m : Int} (h1 : -140737488355328 ≤ n) (h2 : n ≤ 140737488355328) : pthinB n m = thinI n m := thinI_prog h1 h2
set_option maxRecDepth 100000 in
set_option maxHeartbeats 8000000 in
theorem span_c (a b c d e f : Int) (hB : BoxOk a b c d e f) (w : World) : Calls Try.prog 61 #[.agg #[.int .i64 a, .int .i64 b, .int .i64 c, .int .i64 d, .int .i64 e, .int .i64 f]] w fun r w' => r = .returned (spanV a b c d e f) ∧ Below w.heap.size w w' := by
  obtain ⟨W, hW⟩ : ∃ W, W = ((w.alloc (.cells #[.int .i64 a, .int .i64 b, .int .i64 c, .int .i64 d, .int .i64 e, .int .i64 f] 28)).alloc (.cells #[.int .i64 0, .int .i64 0, .int .i64 0] 40)).alloc (.cells #[.int .i64 0, .int .i64 0, .int .i64 0] 40) := ⟨_, rfl⟩
  have H : Below w.heap.size w W := by rw [hW]; go_grown
  have A : Blk W w.heap.size 28 #[.int .i64 a, .int .i64 b, .int .i64 c, .int .i64 d, .int .i64 e, .int .i64 f] := by rw [hW]; exact ((Blk.new' rfl).alloc _).alloc _
  have L : Blk W (w.heap.size + 1) 40 #[.int .i64 0, .int .i64 0, .int .i64 0] := by rw [hW]; exact (Blk.new' (by simp)).alloc _
  have T : Blk W (w.heap.size + 1 + 1) 40 #[.int .i64 0, .int .i64 0, .int .i64 0] := by rw [hW]; exact Blk.new' (by simp)
  have hs : W.heap.size = w.heap.size + 3 := by rw [hW]; simp
  obtain ⟨N, hN⟩ : ∃ N, N = w.heap.size := ⟨_, rfl⟩
  rw [← hN] at A L T hs
  have HS := Lib.hid hs
  clear hs
  have HB := Lib.hid hB
  clear hB
  go_enter Try.func61, Try.ntmps61
  go_upto_region 1 with (fail)
  rw [← hW, ← hN]
  have HN := Lib.hid hN
  clear hN hW
  obtain ⟨a0, a1, a2, a3, a4, a5⟩ := A.c6.1
  go_wp2_with fail
  refine (cof_c _ _ _ _).mono ?_; rintro e w1 ⟨rfl, h1⟩
  go_upto_region 2 with (fail)
  generalize hV : World.alloc w1 _ = W1
  have X := Blk.fresh hV.symm
  replace A := A.step h1 hV.symm
  replace L := L.step h1 hV.symm
  replace T := T.step h1 hV.symm
  replace H := step_below H h1 hV.symm
  have hg : N + 3 ≤ w1.heap.size := by rw [← HS.out]; exact h1.size
  clear hV h1 a0 a1 a2 a3 a4 a5
  generalize w1.heap.size = g at X hg ⊢
  obtain ⟨a0, a1, a2, a3, a4, a5⟩ := A.c6.1
  go_wp2_with fail
  refine (add_c _ _ _ _ _ _ _).mono ?_; rintro e w1 ⟨rfl, h1⟩
  go_wp2_with fail
  refine (cof_c _ _ _ _).mono ?_; rintro e w1 ⟨rfl, h2⟩
  replace h1 := after h1 h2
  clear h2
  go_upto_region 3 with (fail)
  generalize hV : World.alloc w1 _ = W2
  have Y := Blk.fresh hV.symm
  replace A := A.step h1 hV.symm
  replace L := L.step h1 hV.symm
  replace T := T.step h1 hV.symm
  have hgX := X.lt
  replace X := X.step h1 hV.symm
  replace H := step_below H h1 hV.symm
  have hg2 : g < w1.heap.size := Nat.lt_of_lt_of_le hgX h1.size
  clear hV h1 hgX a0 a1 a2 a3 a4 a5
  generalize w1.heap.size = g2 at Y hg2 ⊢
  go_upto_region 4 with (fail)
  go_loopw [19] (fun i wr => ∃ k : Nat, k ≤ 3 ∧ i = .int .i64 k ∧ Blk wr N 28 #[.int .i64 a, .int .i64 b, .int .i64 c, .int .i64 d, .int .i64 e, .int .i64 f] ∧ Blk wr (N + 1) 40 #[.int .i64 0, .int .i64 0, .int .i64 0] ∧ Blk wr (N + 1 + 1) 40 #[.int .i64 0, .int .i64 0, .int .i64 0] ∧ 
    Blk wr g 40 #[.int .i64 (lowI a), .int .i64 (lowI b), .int .i64 (lowI c)] ∧ Blk wr g2 40 #[.int .i64 (lowI (addI d (-1))), .int .i64 (lowI (addI e (-1))), .int .i64 (lowI (addI f (-1)))] ∧ Hid (∀ j : Nat, j < k → thinI (axI a b c j) (axI d e f j) = false) ∧ Below w.heap.size w wr) (fun i _ => 3 - (intOf i).toNat)
  case atStart => exact ⟨0, by omega, rfl, A, L, T, X, Y, fun j hj => by omega, H⟩
  case round =>
    clear A L T X Y H
    obtain ⟨k, hk, rfl, A, L, T, X, Y, Z, H⟩ := hrel
    by_cases hk3 : k = 3
    · subst hk3
      have HT := Lib.hid (thin_yes Z.out)
      obtain ⟨k0, k1, k2, k3, k4, k5⟩ := A.re6
      obtain ⟨x0, x1, x2⟩ := X.re3
      obtain ⟨y0, y1, y2⟩ := Y.re3
      go_upto_region 11 with (fail)
      refine wp_sched [0, 0, 0, 0, 0, 0, 0, 0, 0, 0, 0, 0, 0, 0, 0, 0, 0, 0, 0, 0, 0, 0, 0, 0, 0, 0, 0, 0, 0, 0, 0, 0, 0, 0, 0, 0, 1, 3, 1, 3, 1, 3] (fun _ _ _ => True) (by kernel_rfl) (by kernel_rfl) (fun _ _ _ _ h _ => h) ?_
      repeat (first | (refine wpQs_s ?_) | (refine wpQs_q (fun K hK => ?_); go_simp; first | (refine hK _ ?_; clear hK K) | (apply Exists.intro; refine ⟨fun _ => ?_, hK _ ?_⟩; (exact thin_p _ _ _ _ _); clear hK K)) | (refine wpQs_f (fun K hK => ?_); go_simp; refine hK _ ?_; clear hK K))
      refine wpQs_nil ?_
      repeat (first | (refine wpLs_skip ?_) | (refine wpLs_one ?lsA (fun v_ => ?_); case lsA => (intro w_ hw_ hp_; (fail))))
      refine wpLs_nilB ?_
      simp only [tails]
      intro w2 h2 _
      replace A := A.on h2
      replace L := L.on h2
      replace T := T.on h2
      replace X := X.on h2
      replace Y := Y.on h2
      replace H := after H h2
      clear h2 k0 k1 k2 k3 k4 k5 x0 x1 x2 y0 y1 y2
      obtain ⟨y0, y1, y2, f0, f1, f2⟩ := Y.c3
      go_upto_region 12 with (fail)
      generalize h4 : World.setCell (World.setCell (World.setCell w2 _ _) _ _) _ _ = w4
      replace L := Blk.eqw h4 (((L.far (p := ⟨g2, 0, none⟩) (by dsimp only; omega) _).far (p := ⟨g2, 1, none⟩) (by dsimp only; omega) _).far (p := ⟨g2, 2, none⟩) (by dsimp only; omega) _)
      replace T := Blk.eqw h4 (((T.far (p := ⟨g2, 0, none⟩) (by dsimp only; omega) _).far (p := ⟨g2, 1, none⟩) (by dsimp only; omega) _).far (p := ⟨g2, 2, none⟩) (by dsimp only; omega) _)
      replace X := Blk.eqw h4 (((X.far (p := ⟨g2, 0, none⟩) (by dsimp only; omega) _).far (p := ⟨g2, 1, none⟩) (by dsimp only; omega) _).far (p := ⟨g2, 2, none⟩) (by dsimp only; omega) _)
      replace Y := Blk.eqw h4 (Y.st3 _ _ _)
      replace H : Below w.heap.size w w4 := by
        rw [← h4, ← HN.out]; rw [← HN.out] at H
        exact ((H.setCell (p := ⟨g2, 0, none⟩) (by dsimp only; omega) _).setCell (p := ⟨g2, 1, none⟩) (by dsimp only; omega) _).setCell (p := ⟨g2, 2, none⟩) (by dsimp only; omega) _
      clear h4 y0 y1 y2 f0 f1 f2 A
      rw [topI_prog2 HB.out.a1 HB.out.d2 HB.out.ad, topI_prog2 HB.out.b1 HB.out.e2 HB.out.be, topI_prog2 HB.out.c1 HB.out.f2 HB.out.cf] at Y
      have x0 := fun f d os => (X.sp (D := [N + 1, N + 1 + 1]) (by simp; omega) f d os).c3
      have y0 := fun f d os => (Y.sp (D := [N + 1, N + 1 + 1]) (by simp; omega) f d os).c3
      refine wp_two [0, 0, 2, 2, 0] 2 (N + 1) 40 (#[.int .i64 (lowI a), .int .i64 (lowI b), .int .i64 (lowI c)]) 3 (N + 1 + 1) 40 (#[.int .i64 (topI a d), .int .i64 (topI b e), .int .i64 (topI c f)]) (by omega) (by kernel_rfl) (by kernel_rfl) ?_
      repeat (first | (refine wpQs_s ?_) | (refine wpQs_q (fun K hK => ?_); go_simp; first | (refine hK _ ?_; clear hK K) | (apply Exists.intro; refine ⟨fun _ => ?_, hK _ ?_⟩; (fail); clear hK K)) | (refine wpQs_f (fun K hK => ?_); go_simp; refine hK _ ?_; clear hK K))
      refine wpQs_nil ?_
      repeat (refine wpLs_skip ?_)
      refine wpLs_one ?s1 (fun _ => ?_)
      case s1 =>
        intro w_ hw_ hp_
        have L2 := hp_.blk (by simp [Ds2]) L
        obtain ⟨b0, b1, b2, f0, f1, f2⟩ := L2.c3
        go_simp
        exact two_fst (by decide) kept3 (L2.st3 _ _ _)
      refine wpLs_one ?s2 (fun _ => ?_)
      case s2 =>
        intro w_ hw_ hp_
        have T2 := hp_.blk (by simp [Ds2]) T
        obtain ⟨b0, b1, b2, f0, f1, f2⟩ := T2.c3
        go_simp
        exact two_snd (by decide) kept3 (T2.st3 _ _ _)
      refine wpLs_skip ?_
      refine wpLs_nilD ?_
      simp only [tails]
      rintro w1 h1 ⟨⟨-, r1⟩, r2⟩
      obtain ⟨d0, d1, d2, -, -, -⟩ := (r1.1 rfl).c3
      obtain ⟨e0, e1, e2, -, -, -⟩ := (r2.2 rfl).c3
      clear r1 r2
      go_wp2_with fail
      refine bodyPost_ret (v := spanV a b c d e f) (by simp [results, Try.results61, go_sem, d0, d1, d2, e0, e1, e2, HT.out, zI]) rfl ⟨rfl, ?_⟩
      rw [← HN.out] at H ⊢
      exact H.trans (h1.below (by have := H.size; rwa [← HN.out] at this) (fun b hb => by simp; omega))
    · have hlt : k < 3 := by omega
      obtain ⟨k0, k1, k2, k3, k4, k5⟩ := A.re6
      go_upto_region 6 with (fail)
      refine wp_sched [0, 0, 0, 0, 0, 0, 0, 0, 0, 0] (fun _ _ _ => True) (by kernel_rfl) (by kernel_rfl) (fun _ _ _ _ h _ => h) ?_
      repeat (first | (refine wpQs_s ?_) | (refine wpQs_q (fun K hK => ?_); go_simp; first | (refine hK _ ?_; clear hK K) | (apply Exists.intro; refine ⟨fun _ => ?_, hK _ ?_⟩; (exact axis_c _ _ _ _ _); clear hK K)) | (refine wpQs_f (fun K hK => ?_); go_simp; refine hK _ ?_; clear hK K))
      refine wpQs_nil ?_
      repeat (first | (refine wpLs_skip ?_) | (refine wpLs_one ?lsA (fun v_ => ?_); case lsA => (intro w_ hw_ hp_; (fail))))
      refine wpLs_nilB ?_
      simp only [tails]
      intro w2 h2 _
      replace A := A.on h2
      replace L := L.on h2
      replace T := T.on h2
      replace X := X.on h2
      replace Y := Y.on h2
      replace H := after H h2
      clear h2 k0 k1 k2 k3 k4 k5
      have b1 := ax_bd ⟨HB.out.a1, by have := HB.out.ad; have := HB.out.d2; omega⟩ ⟨HB.out.b1, by have := HB.out.be; have := HB.out.e2; omega⟩ ⟨HB.out.c1, by have := HB.out.cf; have := HB.out.f2; omega⟩ k
      have Z1 := fun (h : pthinB (axI a b c k) (axI d e f k) = false) => thin_next Z.out (by rw [← pthin_is b1.1 b1.2]; exact h)
      have Z2 := fun (h : pthinB (axI a b c k) (axI d e f k) = true) => thin_no (a := a) (b := b) (c := c) (d := d) (e := e) (f := f) hlt (by rw [← pthin_is b1.1 b1.2]; exact h)
      go_upto_region 7 with (fail)
      obtain ⟨n, hn⟩ : ∃ n, n = axI a b c k := ⟨_, rfl⟩
      obtain ⟨m, hm⟩ : ∃ m, m = axI d e f k := ⟨_, rfl⟩
      rw [← hn, ← hm] at Z1 Z2 ⊢
      have HNn := Lib.hid hn
      have HMm := Lib.hid hm
      clear hn hm b1
      have hkw := next64 (Nat.le_refl 3) (by decide) hlt
      obtain ⟨l0, l1, l2, lf0, lf1, lf2⟩ := L.c3
      obtain ⟨t0, t1, t2, tf0, tf1, tf2⟩ := T.c3
      rcases pthin_ways n m with ⟨y1, y2⟩ | ⟨y1, y3, y2⟩ | ⟨y1, y3, y2⟩
      · replace Z1 := Lib.hid (Z1 y2)
        clear Z2 y2
        go_wp2_with fail
        go_roundw
        case rel => exact ⟨k + 1, hlt, rfl, A, L, T, X, Y, Z1.out, H⟩
        case measure => exact next_less' hlt
      · replace Z1 := Lib.hid (Z1 y2)
        clear Z2 y2
        go_wp2_with fail
        refine (frac_c _ _).mono ?_; rintro e w1 ⟨rfl, rfl⟩
        go_wp2_with fail
        go_roundw
        case rel => exact ⟨k + 1, hlt, rfl, A, L, T, X, Y, Z1.out, H⟩
        case measure => exact next_less' hlt
      · replace Z2 := Lib.hid (Z2 y2)
        clear Z1 y2
        go_wp2_with fail
        refine (frac_c _ _).mono ?_; rintro e w1 ⟨rfl, rfl⟩
        go_wp2_with fail
        have RL := (L.st3 (.int .i64 0) (.int .i64 0) (.int .i64 0)).far (p := ⟨N + 1 + 1, 0, none⟩) (by dsimp only; omega) (.int .i64 0)
        have RL2 := (RL.far (p := ⟨N + 1 + 1, 1, none⟩) (by dsimp only; omega) (.int .i64 0)).far (p := ⟨N + 1 + 1, 2, none⟩) (by dsimp only; omega) (.int .i64 0)
        have RT := (((T.far (p := ⟨N + 1, 0, none⟩) (by dsimp only; omega) (.int .i64 0)).far (p := ⟨N + 1, 1, none⟩) (by dsimp only; omega) (.int .i64 0)).far (p := ⟨N + 1, 2, none⟩) (by dsimp only; omega) (.int .i64 0)).st3 (.int .i64 0) (.int .i64 0) (.int .i64 0)
        obtain ⟨d0, d1, d2, -, -, -⟩ := RL2.c3
        obtain ⟨e0, e1, e2, -, -, -⟩ := RT.c3
        refine bodyPost_ret (v := spanV a b c d e f) (by simp [results, Try.results61, go_sem, d0, d1, d2, e0, e1, e2, Z2.out, zI]) rfl ⟨rfl, ?_⟩
        rw [← HN.out] at H ⊢
        exact (((((H.setCell (p := ⟨N + 1, 0, none⟩) (by dsimp only; omega) _).setCell (p := ⟨N + 1, 1, none⟩) (by dsimp only; omega) _).setCell (p := ⟨N + 1, 2, none⟩) (by dsimp only; omega) _).setCell (p := ⟨N + 1 + 1, 0, none⟩) (by dsimp only; omega) _).setCell (p := ⟨N + 1 + 1, 1, none⟩) (by dsimp only; omega) _).setCell (p := ⟨N + 1 + 1, 2, none⟩) (by dsimp only; omega) _
end Go.Proofs.Ytmkmaoodeebmfaa
