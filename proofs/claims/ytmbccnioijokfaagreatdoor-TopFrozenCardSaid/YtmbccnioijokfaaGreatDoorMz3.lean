/- Texts that build one behind the other, laid together: Span5 CelT Vec5 CelT2 Bxs Under2 Byt App App2 Crc5 Crc1 Crc2 FrozK DiskW StrM Crc4 Crc6 GenT Disk1 Disk2 RunT. -/
import Derived.Test.YtmbccnioijokfaaGreatDoorMz2
import Derived.Test.YtmbccnioijokfaaGreatDoorMz1
import Derived.Deep.Cut
import Derived.Deep.Slices
import Derived.Lib.AppendZeros
import Derived.Deep.Upon
import Derived.Test.YtmbccnioijokfaaGreatDoorChecked
import Derived.Lib.SliceRun
import Derived.Test.YtmbccnioijokfaaGreatDoorRows
import Derived.JoinedCond
import Derived.Maps.OwnSet
import Derived.Maps.RangeWalk
import Derived.MapKept
import Derived.Lib.SlBytesConst
import Derived.Laws.BytesArg
import Derived.Shelf.SlMaps.Clone
import Derived.Maps.OwnOps
namespace Go.Proofs.YtmbccnioijokfaaGreatDoor
open Go.RowKit
structure BoxOk (a b c d e f : Int) : Prop where
  a1 : -140737488355328 ≤ a
  b1 : -140737488355328 ≤ b
  c1 : -140737488355328 ≤ c
  d2 : d ≤ 140737488355328
  e2 : e ≤ 140737488355328
  f2 : f ≤ 140737488355328
  ad : a ≤ d
  be : b ≤ e
  cf : c ≤ f
def pkI (n m lo hi : Int) : Int := if n = m then lo else hi
theorem thin_p (n m lo hi : Int) (w : World) : Calls Tryz.prog 353 #[.int .i64 n, .int .i64 m, .int .i64 lo, .int .i64 hi] w fun r w' => r = .returned (.int .i64 (pkI n m lo hi)) ∧ Below w.heap.size w w' := calls_bel (thin_c n m lo hi w)
theorem topI_prog2 {n m : Int} (h1 : -140737488355328 ≤ n) (h2 : m ≤ 140737488355328) (h : n ≤ m) : pkI n m (lowI n) (lowI (addI m (-1))) = topI n m := by
  rw [← topI_prog h1 h2 h]; unfold pkI lowI addI; rw [cutI_cut]
def pthinB (n m : Int) : Bool := (n == m) && (cutI n % 65536 == 0)
theorem pthin_ways (n m : Int) : ((n == m) = false ∧ pthinB n m = false) ∨ ((n == m) = true ∧ (cutI n % 65536 == 0) = false ∧ pthinB n m = false) ∨ ((n == m) = true ∧ (cutI n % 65536 == 0) = true ∧ pthinB n m = true) := by
  unfold pthinB
  cases (n == m) <;> cases (cutI n % 65536 == 0) <;> simp
theorem pthin_is {n m : Int} (h1 : -140737488355328 ≤ n) (h2 : n ≤ 140737488355328) : pthinB n m = thinI n m := thinI_prog h1 h2
set_option maxRecDepth 100000 in
set_option maxHeartbeats 8000000 in
theorem span_c (a b c d e f : Int) (hB : BoxOk a b c d e f) (w : World) : Calls Tryz.prog 338 #[.agg #[.int .i64 a, .int .i64 b, .int .i64 c, .int .i64 d, .int .i64 e, .int .i64 f]] w fun r w' => r = .returned (spanV a b c d e f) ∧ Below w.heap.size w w' := by
  obtain ⟨W, hW⟩ : ∃ W, W = ((w.alloc (.cells #[.int .i64 a, .int .i64 b, .int .i64 c, .int .i64 d, .int .i64 e, .int .i64 f] 210)).alloc (.cells #[.int .i64 0, .int .i64 0, .int .i64 0] 43)).alloc (.cells #[.int .i64 0, .int .i64 0, .int .i64 0] 43) := ⟨_, rfl⟩
  have H : Below w.heap.size w W := by rw [hW]; go_grown
  have A : Blk W w.heap.size 210 #[.int .i64 a, .int .i64 b, .int .i64 c, .int .i64 d, .int .i64 e, .int .i64 f] := by rw [hW]; exact ((Blk.new' rfl).alloc _).alloc _
  have L : Blk W (w.heap.size + 1) 43 #[.int .i64 0, .int .i64 0, .int .i64 0] := by rw [hW]; exact (Blk.new' (by simp)).alloc _
  have T : Blk W (w.heap.size + 1 + 1) 43 #[.int .i64 0, .int .i64 0, .int .i64 0] := by rw [hW]; exact Blk.new' (by simp)
  have hs : W.heap.size = w.heap.size + 3 := by rw [hW]; simp
  obtain ⟨N, hN⟩ : ∃ N, N = w.heap.size := ⟨_, rfl⟩
  rw [← hN] at A L T hs
  have HS := Lib.hid hs
  clear hs
  have HB := Lib.hid hB
  clear hB
  go_enter Tryz.func338, Tryz.ntmps338
  go_upto_region 1 with (fail)
  rw [← hW, ← hN]
  have HN := Lib.hid hN
  clear hN hW
  obtain ⟨a0, a1, a2, a3, a4, a5⟩ := A.c6.1
  go_wp2_with fail
  refine (cof_c _ _ _ _).mono ?_; rintro e w1 ⟨rfl, h1⟩
  go_upto_region 2 with (fail)
  generalize hV : World.alloc w1 _ = W1
  have X := Blk.fresh hV.symm
  replace A := A.step h1 hV.symm
  replace L := L.step h1 hV.symm
  replace T := T.step h1 hV.symm
  replace H := step_below H h1 hV.symm
  have hg : N + 3 ≤ w1.heap.size := by rw [← HS.out]; exact h1.size
  clear hV h1 a0 a1 a2 a3 a4 a5
  generalize w1.heap.size = g at X hg ⊢
  obtain ⟨a0, a1, a2, a3, a4, a5⟩ := A.c6.1
  go_wp2_with fail
  refine (add_c _ _ _ _ _ _ _).mono ?_; rintro e w1 ⟨rfl, h1⟩
  go_wp2_with fail
  refine (cof_c _ _ _ _).mono ?_; rintro e w1 ⟨rfl, h2⟩
  replace h1 := after h1 h2
  clear h2
  go_upto_region 3 with (fail)
  generalize hV : World.alloc w1 _ = W2
  have Y := Blk.fresh hV.symm
  replace A := A.step h1 hV.symm
  replace L := L.step h1 hV.symm
  replace T := T.step h1 hV.symm
  have hgX := X.lt
  replace X := X.step h1 hV.symm
  replace H := step_below H h1 hV.symm
  have hg2 : g < w1.heap.size := Nat.lt_of_lt_of_le hgX h1.size
  clear hV h1 hgX a0 a1 a2 a3 a4 a5
  generalize w1.heap.size = g2 at Y hg2 ⊢
  go_upto_region 4 with (fail)
  go_loopw [19] (fun i wr => ∃ k : Nat, k ≤ 3 ∧ i = .int .i64 k ∧ Blk wr N 210 #[.int .i64 a, .int .i64 b, .int .i64 c, .int .i64 d, .int .i64 e, .int .i64 f] ∧ Blk wr (N + 1) 43 #[.int .i64 0, .int .i64 0, .int .i64 0] ∧ Blk wr (N + 1 + 1) 43 #[.int .i64 0, .int .i64 0, .int .i64 0] ∧
    Blk wr g 43 #[.int .i64 (lowI a), .int .i64 (lowI b), .int .i64 (lowI c)] ∧ Blk wr g2 43 #[.int .i64 (lowI (addI d (-1))), .int .i64 (lowI (addI e (-1))), .int .i64 (lowI (addI f (-1)))] ∧ Hid (∀ j : Nat, j < k → thinI (axI a b c j) (axI d e f j) = false) ∧ Below w.heap.size w wr) (fun i _ => 3 - (intOf i).toNat)
  case atStart => exact ⟨0, by omega, rfl, A, L, T, X, Y, fun j hj => by omega, H⟩
  case round =>
    clear A L T X Y H
    obtain ⟨k, hk, rfl, A, L, T, X, Y, Z, H⟩ := hrel
    by_cases hk3 : k = 3
    · subst hk3
      have HT := Lib.hid (thin_yes Z.out)
      obtain ⟨k0, k1, k2, k3, k4, k5⟩ := A.re6
      obtain ⟨x0, x1, x2⟩ := X.re3
      obtain ⟨y0, y1, y2⟩ := Y.re3
      go_upto_region 11 with (fail)
      refine wp_sched [0, 0, 0, 0, 0, 0, 0, 0, 0, 0, 0, 0, 0, 0, 0, 0, 0, 0, 0, 0, 0, 0, 0, 0, 0, 0, 0, 0, 0, 0, 0, 0, 0, 0, 0, 0, 1, 3, 1, 3, 1, 3] (fun _ _ _ => True) (by kernel_rfl) (by kernel_rfl) (fun _ _ _ _ h _ => h) ?_
      repeat (first | (refine wpQs_s ?_) | (refine wpQs_q (fun K hK => ?_); go_simp; first | (refine hK _ ?_; clear hK K) | (apply Exists.intro; refine ⟨fun _ => ?_, hK _ ?_⟩; (exact thin_p _ _ _ _ _); clear hK K)) | (refine wpQs_f (fun K hK => ?_); go_simp; refine hK _ ?_; clear hK K))
      refine wpQs_nil ?_
      repeat (first | (refine wpLs_skip ?_) | (refine wpLs_one ?lsA (fun v_ => ?_); case lsA => (intro w_ hw_ hp_; (fail))))
      refine wpLs_nilB ?_
      simp only [tails]
      intro w2 h2 _
      replace A := A.on h2
      replace L := L.on h2
      replace T := T.on h2
      replace X := X.on h2
      replace Y := Y.on h2
      replace H := after H h2
      clear h2 k0 k1 k2 k3 k4 k5 x0 x1 x2 y0 y1 y2
      obtain ⟨y0, y1, y2, f0, f1, f2⟩ := Y.c3
      go_upto_region 12 with (fail)
      generalize h4 : World.setCell (World.setCell (World.setCell w2 _ _) _ _) _ _ = w4
      replace L := Blk.eqw h4 (((L.far (p := ⟨g2, 0, none⟩) (by dsimp only; omega) _).far (p := ⟨g2, 1, none⟩) (by dsimp only; omega) _).far (p := ⟨g2, 2, none⟩) (by dsimp only; omega) _)
      replace T := Blk.eqw h4 (((T.far (p := ⟨g2, 0, none⟩) (by dsimp only; omega) _).far (p := ⟨g2, 1, none⟩) (by dsimp only; omega) _).far (p := ⟨g2, 2, none⟩) (by dsimp only; omega) _)
      replace X := Blk.eqw h4 (((X.far (p := ⟨g2, 0, none⟩) (by dsimp only; omega) _).far (p := ⟨g2, 1, none⟩) (by dsimp only; omega) _).far (p := ⟨g2, 2, none⟩) (by dsimp only; omega) _)
      replace Y := Blk.eqw h4 (Y.st3 _ _ _)
      replace H : Below w.heap.size w w4 := by
        rw [← h4, ← HN.out]; rw [← HN.out] at H
        exact ((H.setCell (p := ⟨g2, 0, none⟩) (by dsimp only; omega) _).setCell (p := ⟨g2, 1, none⟩) (by dsimp only; omega) _).setCell (p := ⟨g2, 2, none⟩) (by dsimp only; omega) _
      clear h4 y0 y1 y2 f0 f1 f2 A
      rw [topI_prog2 HB.out.a1 HB.out.d2 HB.out.ad, topI_prog2 HB.out.b1 HB.out.e2 HB.out.be, topI_prog2 HB.out.c1 HB.out.f2 HB.out.cf] at Y
      have x0 := fun f d os => (X.sp (D := [N + 1, N + 1 + 1]) (by simp; omega) f d os).c3
      have y0 := fun f d os => (Y.sp (D := [N + 1, N + 1 + 1]) (by simp; omega) f d os).c3
      refine wp_two [0, 0, 2, 2, 0] 2 (N + 1) 43 (#[.int .i64 (lowI a), .int .i64 (lowI b), .int .i64 (lowI c)]) 3 (N + 1 + 1) 43 (#[.int .i64 (topI a d), .int .i64 (topI b e), .int .i64 (topI c f)]) (by omega) (by kernel_rfl) (by kernel_rfl) ?_
      repeat (first | (refine wpQs_s ?_) | (refine wpQs_q (fun K hK => ?_); go_simp; first | (refine hK _ ?_; clear hK K) | (apply Exists.intro; refine ⟨fun _ => ?_, hK _ ?_⟩; (fail); clear hK K)) | (refine wpQs_f (fun K hK => ?_); go_simp; refine hK _ ?_; clear hK K))
      refine wpQs_nil ?_
      repeat (refine wpLs_skip ?_)
      refine wpLs_one ?s1 (fun _ => ?_)
      case s1 =>
        intro w_ hw_ hp_
        have L2 := hp_.blk (by simp [Ds2]) L
        obtain ⟨b0, b1, b2, f0, f1, f2⟩ := L2.c3
        go_simp
        exact two_fst (by decide) kept3 (L2.st3 _ _ _)
      refine wpLs_one ?s2 (fun _ => ?_)
      case s2 =>
        intro w_ hw_ hp_
        have T2 := hp_.blk (by simp [Ds2]) T
        obtain ⟨b0, b1, b2, f0, f1, f2⟩ := T2.c3
        go_simp
        exact two_snd (by decide) kept3 (T2.st3 _ _ _)
      refine wpLs_skip ?_
      refine wpLs_nilD ?_
      simp only [tails]
      rintro w1 h1 ⟨⟨-, r1⟩, r2⟩
      obtain ⟨d0, d1, d2, -, -, -⟩ := (r1.1 rfl).c3
      obtain ⟨e0, e1, e2, -, -, -⟩ := (r2.2 rfl).c3
      clear r1 r2
      go_wp2_with fail
      refine bodyPost_ret (v := spanV a b c d e f) (by simp [results, Tryz.results338, go_sem, d0, d1, d2, e0, e1, e2, HT.out, zI]) rfl ⟨rfl, ?_⟩
      rw [← HN.out] at H ⊢
      exact H.trans (h1.below (by have := H.size; rwa [← HN.out] at this) (fun b hb => by simp; omega))
    · have hlt : k < 3 := by omega
      obtain ⟨k0, k1, k2, k3, k4, k5⟩ := A.re6
      go_upto_region 6 with (fail)
      refine wp_sched [0, 0, 0, 0, 0, 0, 0, 0, 0, 0] (fun _ _ _ => True) (by kernel_rfl) (by kernel_rfl) (fun _ _ _ _ h _ => h) ?_
      repeat (first | (refine wpQs_s ?_) | (refine wpQs_q (fun K hK => ?_); go_simp; first | (refine hK _ ?_; clear hK K) | (apply Exists.intro; refine ⟨fun _ => ?_, hK _ ?_⟩; (exact axis_c _ _ _ _ _); clear hK K)) | (refine wpQs_f (fun K hK => ?_); go_simp; refine hK _ ?_; clear hK K))
      refine wpQs_nil ?_
      repeat (first | (refine wpLs_skip ?_) | (refine wpLs_one ?lsA (fun v_ => ?_); case lsA => (intro w_ hw_ hp_; (fail))))
      refine wpLs_nilB ?_
      simp only [tails]
      intro w2 h2 _
      replace A := A.on h2
      replace L := L.on h2
      replace T := T.on h2
      replace X := X.on h2
      replace Y := Y.on h2
      replace H := after H h2
      clear h2 k0 k1 k2 k3 k4 k5
      have b1 := ax_bd ⟨HB.out.a1, by have := HB.out.ad; have := HB.out.d2; omega⟩ ⟨HB.out.b1, by have := HB.out.be; have := HB.out.e2; omega⟩ ⟨HB.out.c1, by have := HB.out.cf; have := HB.out.f2; omega⟩ k
      have Z1 := fun (h : pthinB (axI a b c k) (axI d e f k) = false) => thin_next Z.out (by rw [← pthin_is b1.1 b1.2]; exact h)
      have Z2 := fun (h : pthinB (axI a b c k) (axI d e f k) = true) => thin_no (a := a) (b := b) (c := c) (d := d) (e := e) (f := f) hlt (by rw [← pthin_is b1.1 b1.2]; exact h)
      go_upto_region 7 with (fail)
      obtain ⟨n, hn⟩ : ∃ n, n = axI a b c k := ⟨_, rfl⟩
      obtain ⟨m, hm⟩ : ∃ m, m = axI d e f k := ⟨_, rfl⟩
      rw [← hn, ← hm] at Z1 Z2 ⊢
      have HNn := Lib.hid hn
      have HMm := Lib.hid hm
      clear hn hm b1
      have hkw := next64 (Nat.le_refl 3) (by decide) hlt
      obtain ⟨l0, l1, l2, lf0, lf1, lf2⟩ := L.c3
      obtain ⟨t0, t1, t2, tf0, tf1, tf2⟩ := T.c3
      rcases pthin_ways n m with ⟨y1, y2⟩ | ⟨y1, y3, y2⟩ | ⟨y1, y3, y2⟩
      · replace Z1 := Lib.hid (Z1 y2)
        clear Z2 y2
        go_wp2_with fail
        go_roundw
        case rel => exact ⟨k + 1, hlt, rfl, A, L, T, X, Y, Z1.out, H⟩
        case measure => exact next_less' hlt
      · replace Z1 := Lib.hid (Z1 y2)
        clear Z2 y2
        go_wp2_with fail
        refine (frac_c _ _).mono ?_; rintro e w1 ⟨rfl, rfl⟩
        go_wp2_with fail
        go_roundw
        case rel => exact ⟨k + 1, hlt, rfl, A, L, T, X, Y, Z1.out, H⟩
        case measure => exact next_less' hlt
      · replace Z2 := Lib.hid (Z2 y2)
        clear Z1 y2
        go_wp2_with fail
        refine (frac_c _ _).mono ?_; rintro e w1 ⟨rfl, rfl⟩
        go_wp2_with fail
        have RL := (L.st3 (.int .i64 0) (.int .i64 0) (.int .i64 0)).far (p := ⟨N + 1 + 1, 0, none⟩) (by dsimp only; omega) (.int .i64 0)
        have RL2 := (RL.far (p := ⟨N + 1 + 1, 1, none⟩) (by dsimp only; omega) (.int .i64 0)).far (p := ⟨N + 1 + 1, 2, none⟩) (by dsimp only; omega) (.int .i64 0)
        have RT := (((T.far (p := ⟨N + 1, 0, none⟩) (by dsimp only; omega) (.int .i64 0)).far (p := ⟨N + 1, 1, none⟩) (by dsimp only; omega) (.int .i64 0)).far (p := ⟨N + 1, 2, none⟩) (by dsimp only; omega) (.int .i64 0)).st3 (.int .i64 0) (.int .i64 0) (.int .i64 0)
        obtain ⟨d0, d1, d2, -, -, -⟩ := RL2.c3
        obtain ⟨e0, e1, e2, -, -, -⟩ := RT.c3
        refine bodyPost_ret (v := spanV a b c d e f) (by simp [results, Tryz.results338, go_sem, d0, d1, d2, e0, e1, e2, Z2.out, zI]) rfl ⟨rfl, ?_⟩
        rw [← HN.out] at H ⊢
        exact (((((H.setCell (p := ⟨N + 1, 0, none⟩) (by dsimp only; omega) _).setCell (p := ⟨N + 1, 1, none⟩) (by dsimp only; omega) _).setCell (p := ⟨N + 1, 2, none⟩) (by dsimp only; omega) _).setCell (p := ⟨N + 1 + 1, 0, none⟩) (by dsimp only; omega) _).setCell (p := ⟨N + 1 + 1, 1, none⟩) (by dsimp only; omega) _).setCell (p := ⟨N + 1 + 1, 2, none⟩) (by dsimp only; omega) _
end Go.Proofs.YtmbccnioijokfaaGreatDoor

namespace Go.Proofs.YtmbccnioijokfaaGreatDoor
open Go.RowKit
attribute [local go_sem] Oper.semAt_some
theorem tq_neg {a b : Int} (h : a ≤ 0) : a.tdiv b = -((-a) / b) := by rw [← Int.tdiv_eq_ediv_of_nonneg (show 0 ≤ -a by omega), Int.neg_tdiv, Int.neg_neg]
theorem tr_neg {a b : Int} (h : a ≤ 0) : a.tmod b = -((-a) % b) := by rw [← Int.tmod_eq_emod_of_nonneg (show 0 ≤ -a by omega), Int.neg_tmod, Int.neg_neg]
theorem tdiv16 (a : Int) : (a.tmod 16 < 0 → a.tdiv 16 - 1 = a / 16) ∧ (¬ a.tmod 16 < 0 → a.tdiv 16 = a / 16) := by
  rcases Int.le_total 0 a with h | h
  · rw [Int.tdiv_eq_ediv_of_nonneg h, Int.tmod_eq_emod_of_nonneg h]; omega
  · rw [tq_neg h, tr_neg h]; omega
theorem tmod16 (a : Int) : (a.tmod 16 < 0 → a.tmod 16 + 16 = a % 16) ∧ (¬ a.tmod 16 < 0 → a.tmod 16 = a % 16) := by
  rcases Int.le_total 0 a with h | h
  · rw [Int.tmod_eq_emod_of_nonneg h]; omega
  · rw [tr_neg h]; omega
theorem tdiv16_bd {a : Int} (h : In64 a) : -9223372036854775808 ≤ a.tdiv 16 - 1 ∧ a.tdiv 16 ≤ 9223372036854775807 ∧ -16 < a.tmod 16 ∧ a.tmod 16 < 16 := by
  unfold In64 at h
  rcases Int.le_total 0 a with h0 | h0
  · rw [Int.tdiv_eq_ediv_of_nonneg h0, Int.tmod_eq_emod_of_nonneg h0]; omega
  · rw [tq_neg h0, tr_neg h0]; omega
theorem tdiv8 (a : Int) : (a.tmod 8 < 0 → a.tdiv 8 - 1 = a / 8) ∧ (¬ a.tmod 8 < 0 → a.tdiv 8 = a / 8) := by
  rcases Int.le_total 0 a with h | h
  · rw [Int.tdiv_eq_ediv_of_nonneg h, Int.tmod_eq_emod_of_nonneg h]; omega
  · rw [tq_neg h, tr_neg h]; omega
theorem tmod8 (a : Int) : (a.tmod 8 < 0 → a.tmod 8 + 8 = a % 8) ∧ (¬ a.tmod 8 < 0 → a.tmod 8 = a % 8) := by
  rcases Int.le_total 0 a with h | h
  · rw [Int.tmod_eq_emod_of_nonneg h]; omega
  · rw [tr_neg h]; omega
theorem tdiv8_bd {a : Int} (h : In64 a) : -9223372036854775808 ≤ a.tdiv 8 - 1 ∧ a.tdiv 8 ≤ 9223372036854775807 ∧ -8 < a.tmod 8 ∧ a.tmod 8 < 8 := by
  unfold In64 at h
  rcases Int.le_total 0 a with h0 | h0
  · rw [Int.tdiv_eq_ediv_of_nonneg h0, Int.tmod_eq_emod_of_nonneg h0]; omega
  · rw [tq_neg h0, tr_neg h0]; omega
set_option maxRecDepth 100000 in
set_option maxHeartbeats 400000 in
theorem cdiv16_c (a : Int) (h : In64 a) (w : World) : Calls Tryz.prog 158 #[.int .i64 a, .int .i64 16] w fun e w' => e = .returned (.int .i64 (a / 16)) ∧ w = w' := by
  have p := Lib.hid (tdiv16 a)
  obtain ⟨b1, b2, b3, b4⟩ := tdiv16_bd h
  clear h
  by_cases h0 : a.tmod 16 < 0
  all_goals
    go_enter Tryz.func158, Tryz.ntmps158
    go_wp2
    go_returns
    exact ⟨ret_i (by first | exact p.out.1 h0 | exact p.out.2 h0), rfl⟩
theorem cdiv8_c (a : Int) (h : In64 a) (w : World) : Calls Tryz.prog 158 #[.int .i64 a, .int .i64 8] w fun e w' => e = .returned (.int .i64 (a / 8)) ∧ w = w' := by
  have p := Lib.hid (tdiv8 a)
  obtain ⟨b1, b2, b3, b4⟩ := tdiv8_bd h
  clear h
  by_cases h0 : a.tmod 8 < 0
  all_goals
    go_enter Tryz.func158, Tryz.ntmps158
    go_wp2
    go_returns
    exact ⟨ret_i (by first | exact p.out.1 h0 | exact p.out.2 h0), rfl⟩
set_option maxRecDepth 100000 in
set_option maxHeartbeats 400000 in
theorem cmod16_c (a : Int) (h : In64 a) (w : World) : Calls Tryz.prog 282 #[.int .i64 a, .int .i64 16] w fun e w' => e = .returned (.int .i64 (a % 16)) ∧ w = w' := by
  have p := Lib.hid (tmod16 a)
  obtain ⟨b1, b2, b3, b4⟩ := tdiv16_bd h
  clear h
  by_cases h0 : a.tmod 16 < 0
  all_goals
    go_enter Tryz.func282, Tryz.ntmps282
    go_wp2
    go_returns
    exact ⟨ret_i (by first | exact p.out.1 h0 | exact p.out.2 h0), rfl⟩
theorem cmod8_c (a : Int) (h : In64 a) (w : World) : Calls Tryz.prog 282 #[.int .i64 a, .int .i64 8] w fun e w' => e = .returned (.int .i64 (a % 8)) ∧ w = w' := by
  have p := Lib.hid (tmod8 a)
  obtain ⟨b1, b2, b3, b4⟩ := tdiv8_bd h
  clear h
  by_cases h0 : a.tmod 8 < 0
  all_goals
    go_enter Tryz.func282, Tryz.ntmps282
    go_wp2
    go_returns
    exact ⟨ret_i (by first | exact p.out.1 h0 | exact p.out.2 h0), rfl⟩
theorem Blk.pair {w : World} {g : Nat} {t : TypeId} {x y : Value} (h : Blk w g t #[x, y]) : w.cell? ⟨g, 0, none⟩ = some x ∧ w.cell? ⟨g, 1, none⟩ = some y ∧ w.frozen? ⟨g, 0, none⟩ = false ∧ w.frozen? ⟨g, 1, none⟩ = false := ⟨h.cell 0, h.cell 1, h.frz 0, h.frz 1⟩
theorem Blk.stp {w : World} {g : Nat} {t : TypeId} {x y : Value} (h : Blk w g t #[x, y]) (a b : Value) : Blk ((w.setCell ⟨g, 0, none⟩ a).setCell ⟨g, 1, none⟩ b) g t #[a, b] := (h.set_ 0 a).set_ 1 b
theorem Blk.rep {w : World} {g : Nat} {t : TypeId} {a b : Value} (h : Blk w g t #[a, b]) : (∀ d os, (Go.Sort.grow (redrawn w d) os).cell? ⟨g, 0, none⟩ = some a) ∧ (∀ d os, (Go.Sort.grow (redrawn w d) os).cell? ⟨g, 1, none⟩ = some b) := ⟨fun d os => (h.re d os).cell 0, fun d os => (h.re d os).cell 1⟩
set_option maxRecDepth 100000 in
set_option maxHeartbeats 1000000 in
theorem cchunk_c (x y z : Int) (hx : In64 x) (hz : In64 z) (w : World) : Calls Tryz.prog 108 #[.agg #[.int .i64 x, .int .i64 y, .int .i64 z]] w fun e w' => e = .returned (.agg #[.int .i64 (x / 16), .int .i64 (z / 16)]) ∧ Below w.heap.size w w' := by
  have U : Blk ((w.alloc (.cells #[.int .i64 x, .int .i64 y, .int .i64 z] 43)).alloc (.cells #[.int .i64 0, .int .i64 0] 123)) w.heap.size 43 #[.int .i64 x, .int .i64 y, .int .i64 z] := (Blk.new' rfl).alloc _
  have R0 : Blk ((w.alloc (.cells #[.int .i64 x, .int .i64 y, .int .i64 z] 43)).alloc (.cells #[.int .i64 0, .int .i64 0] 123)) (w.heap.size + 1) 123 #[.int .i64 0, .int .i64 0] := Blk.new' (by simp)
  obtain ⟨k0, k1, k2⟩ := U.re3
  go_enter Tryz.func108, Tryz.ntmps108
  go_wp2_with fail
  refine wp_region_last_below 7 (by kernel_rfl) rfl (by kernel_rfl) ?_
  simp only [List.take_succ_cons, List.take_zero, List.drop_succ_cons, List.drop_zero]
  repeat (go_big_quiet_step (exact Calls.regrown_of (calls_bel (cdiv16_c _ (by assumption) _))))
  refine wpQuiet_nil ?_
  intro w' hw'
  obtain ⟨rg, rfl⟩ := hw'
  have R := R0.re rg.d rg.os
  obtain ⟨r0, r1, s0, s1⟩ := R.pair
  go_wp2_with fail
  have R2 := R.stp (.int .i64 (x / 16)) (.int .i64 (z / 16))
  obtain ⟨d0, d1, -, -⟩ := R2.pair
  exact bodyPost_ret (v := .agg #[.int .i64 (x / 16), .int .i64 (z / 16)]) (by simp [results, Tryz.results108, go_sem, d0, d1]) rfl ⟨rfl, by (repeat' (first | (with_reducible exact Below.refl _ _) | (with_reducible assumption) | (with_reducible refine Below.alloc ?_ ?_ _) | (with_reducible refine Below.drew ?_) | (with_reducible refine Below.setCell ?_ ?_ _) | (with_reducible refine after ?_ (below_regrown _ _ _)) | (refine after ?_ (by with_reducible assumption)) | go_size))⟩
def idxI (x y z : Int) : Int := (y * 16 + z % 16) * 16 + x % 16
def inY (y : Int) : Bool := decide (0 ≤ y) && decide (y < 32)
def idxT (x y z : Int) : Value := if inY y then .tuple #[.int .i64 (idxI x y z), .bool true] else .tuple #[.int .i64 0, .bool false]
set_option maxRecDepth 100000 in
set_option maxHeartbeats 1000000 in
theorem cindex_c (x y z : Int) (hx : In64 x) (hz : In64 z) (w : World) : Calls Tryz.prog 208 #[.agg #[.int .i64 x, .int .i64 y, .int .i64 z]] w fun e w' => e = .returned (idxT x y z) ∧ Below w.heap.size w w' := by
  obtain ⟨W, hW⟩ : ∃ W, W = w.alloc (.cells #[.int .i64 x, .int .i64 y, .int .i64 z] 43) := ⟨_, rfl⟩
  have H : Below w.heap.size w W := by rw [hW]; go_grown
  have U : Blk W w.heap.size 43 #[.int .i64 x, .int .i64 y, .int .i64 z] := by rw [hW]; exact Blk.new' rfl
  obtain ⟨k0, k1, k2⟩ := U.re3
  obtain ⟨c0, c1, c2, -, -, -⟩ := U.c3
  unfold idxT inY
  by_cases h1 : y < 0
  · rw [if_neg (by simp; omega)]
    clear U k0 k1 k2
    go_enter Tryz.func208, Tryz.ntmps208
    go_upto_region 1 with (fail)
    rw [← hW]
    clear hW
    go_wp2_with fail
    go_returns
    exact ⟨rfl, H⟩
  · by_cases h2 : 32 ≤ y
    · rw [if_neg (by simp; omega)]
      clear U k0 k1 k2
      have h1' : 0 ≤ y := by omega
      go_enter Tryz.func208, Tryz.ntmps208
      go_upto_region 1 with (fail)
      rw [← hW]
      clear hW
      go_wp2_with fail
      go_returns
      exact ⟨rfl, H⟩
    · rw [if_pos (by simp; omega)]
      have h1' : 0 ≤ y := by omega
      have h2' : y < 32 := by omega
      clear h1 h2
      have hz1 : 0 ≤ z % 16 ∧ z % 16 < 16 := by omega
      have hx1 : 0 ≤ x % 16 ∧ x % 16 < 16 := by omega
      have s1 : IntKind.i64.wrap (y * 16) = y * 16 := IntWalk.i64_in _ (by omega)
      have s2 : IntKind.i64.wrap (y * 16 + z % 16) = y * 16 + z % 16 := IntWalk.i64_in _ (by omega)
      have s3 : IntKind.i64.wrap ((y * 16 + z % 16) * 16) = (y * 16 + z % 16) * 16 := IntWalk.i64_in _ (by omega)
      have s4 : IntKind.i64.wrap ((y * 16 + z % 16) * 16 + x % 16) = (y * 16 + z % 16) * 16 + x % 16 := IntWalk.i64_in _ (by omega)
      go_enter Tryz.func208, Tryz.ntmps208
      go_upto_region 1 with (fail)
      rw [← hW]
      clear hW
      go_upto_region 3 with (fail)
      refine wp_region_quiet_below (by kernel_rfl) (by kernel_rfl) ?_
      repeat (go_big_quiet_step (exact Calls.regrown_of (calls_bel (cmod16_c _ (by assumption) _))))
      refine wpQuiet_nil ?_
      intro w' hw'
      obtain ⟨rg, rfl⟩ := hw'
      go_wp2_with fail
      go_returns
      exact ⟨rfl, after H (below_regrown W _ _)⟩
end Go.Proofs.YtmbccnioijokfaaGreatDoor

namespace Go.Proofs.YtmbccnioijokfaaGreatDoor
open Go.RowKit
set_option maxRecDepth 100000 in
set_option maxHeartbeats 2000000 in
theorem stand_aa (x y z wd h : Int) (_w1 : wd ≤ 9223372036854775807) (g1 : wd < 0) (g2 : h < 0) (w : World) : Calls Tryz.prog 184 #[.agg #[.int .i64 x, .int .i64 y, .int .i64 z], .int .i64 wd, .int .i64 h] w fun r w' => r = .returned (.agg #[.int .i64 (subI x (0)), .int .i64 (subI y 0), .int .i64 (subI z (0)), .int .i64 (addI x (0)), .int .i64 (addI y 0), .int .i64 (addI z (0))]) ∧ Below w.heap.size w w' := by
  have U : Blk (((w.alloc (.cells #[.int .i64 x, .int .i64 y, .int .i64 z] 38)).alloc (.cells (bxV 0 0 0 0 0 0) 210)).alloc (.cells #[.int .i64 (0), .int .i64 0, .int .i64 (0)] 38)) w.heap.size 38 #[.int .i64 x, .int .i64 y, .int .i64 z] := ((Blk.new' rfl).alloc _).alloc _
  have R0 : Blk (((w.alloc (.cells #[.int .i64 x, .int .i64 y, .int .i64 z] 38)).alloc (.cells (bxV 0 0 0 0 0 0) 210)).alloc (.cells #[.int .i64 (0), .int .i64 0, .int .i64 (0)] 38)) (w.heap.size + 1) 210 (bxV 0 0 0 0 0 0) := (Blk.new' (by simp)).alloc _
  have V : Blk (((w.alloc (.cells #[.int .i64 x, .int .i64 y, .int .i64 z] 38)).alloc (.cells (bxV 0 0 0 0 0 0) 210)).alloc (.cells #[.int .i64 (0), .int .i64 0, .int .i64 (0)] 38)) (w.heap.size + 1 + 1) 38 #[.int .i64 0, .int .i64 0, .int .i64 0] := Blk.new' (by simp)
  obtain ⟨k0, k1, k2⟩ := U.re3
  obtain ⟨l0, l1, l2⟩ := V.re3
  go_enter Tryz.func184, Tryz.ntmps184
  go_wp2_with fail
  refine wp_region_last_below 11 (by kernel_rfl) rfl (by kernel_rfl) ?_
  simp only [List.take_succ_cons, List.take_zero, List.drop_succ_cons, List.drop_zero]
  repeat (go_big_quiet_step (first | exact Calls.regrown_of (sub_c _ _ _ _ _ _ _) | exact Calls.regrown_of (add_c _ _ _ _ _ _ _)))
  refine wpQuiet_nil ?_
  intro w' hw'
  obtain ⟨rg, rfl⟩ := hw'
  have R := R0.re rg.d rg.os
  obtain ⟨⟨r0, r1, r2, r3, r4, r5⟩, s0, s1, s2, s3, s4, s5⟩ := R.c6
  go_wp2_with fail
  have R2 := R.st6 (.int .i64 (subI x (0))) (.int .i64 (subI y 0)) (.int .i64 (subI z (0))) (.int .i64 (addI x (0))) (.int .i64 (addI y 0)) (.int .i64 (addI z (0)))
  obtain ⟨⟨d0, d1, d2, d3, d4, d5⟩, -, -, -, -, -, -⟩ := R2.c6
  exact bodyPost_ret (v := .agg #[.int .i64 (subI x (0)), .int .i64 (subI y 0), .int .i64 (subI z (0)), .int .i64 (addI x (0)), .int .i64 (addI y 0), .int .i64 (addI z (0))]) (by simp [results, Tryz.results184, go_sem, d0, d1, d2, d3, d4, d5]) rfl ⟨rfl, by (repeat' (first | (with_reducible exact Below.refl _ _) | (with_reducible assumption) | (with_reducible refine Below.alloc ?_ ?_ _) | (with_reducible refine Below.drew ?_) | (with_reducible refine Below.setCell ?_ ?_ _) | (with_reducible refine after ?_ (below_regrown _ _ _)) | (refine after ?_ (by with_reducible assumption)) | go_size))⟩
set_option maxRecDepth 100000 in
set_option maxHeartbeats 2000000 in
theorem stand_ab (x y z wd h : Int) (_w1 : wd ≤ 9223372036854775807) (g1 : wd < 0) (g2 : 0 ≤ h) (w : World) : Calls Tryz.prog 184 #[.agg #[.int .i64 x, .int .i64 y, .int .i64 z], .int .i64 wd, .int .i64 h] w fun r w' => r = .returned (.agg #[.int .i64 (subI x (0)), .int .i64 (subI y 0), .int .i64 (subI z (0)), .int .i64 (addI x (0)), .int .i64 (addI y h), .int .i64 (addI z (0))]) ∧ Below w.heap.size w w' := by
  have U : Blk (((w.alloc (.cells #[.int .i64 x, .int .i64 y, .int .i64 z] 38)).alloc (.cells (bxV 0 0 0 0 0 0) 210)).alloc (.cells #[.int .i64 (0), .int .i64 0, .int .i64 (0)] 38)) w.heap.size 38 #[.int .i64 x, .int .i64 y, .int .i64 z] := ((Blk.new' rfl).alloc _).alloc _
  have R0 : Blk (((w.alloc (.cells #[.int .i64 x, .int .i64 y, .int .i64 z] 38)).alloc (.cells (bxV 0 0 0 0 0 0) 210)).alloc (.cells #[.int .i64 (0), .int .i64 0, .int .i64 (0)] 38)) (w.heap.size + 1) 210 (bxV 0 0 0 0 0 0) := (Blk.new' (by simp)).alloc _
  have V : Blk (((w.alloc (.cells #[.int .i64 x, .int .i64 y, .int .i64 z] 38)).alloc (.cells (bxV 0 0 0 0 0 0) 210)).alloc (.cells #[.int .i64 (0), .int .i64 0, .int .i64 (0)] 38)) (w.heap.size + 1 + 1) 38 #[.int .i64 0, .int .i64 0, .int .i64 0] := Blk.new' (by simp)
  obtain ⟨k0, k1, k2⟩ := U.re3
  obtain ⟨l0, l1, l2⟩ := V.re3
  go_enter Tryz.func184, Tryz.ntmps184
  go_wp2_with fail
  refine wp_region_last_below 11 (by kernel_rfl) rfl (by kernel_rfl) ?_
  simp only [List.take_succ_cons, List.take_zero, List.drop_succ_cons, List.drop_zero]
  repeat (go_big_quiet_step (first | exact Calls.regrown_of (sub_c _ _ _ _ _ _ _) | exact Calls.regrown_of (add_c _ _ _ _ _ _ _)))
  refine wpQuiet_nil ?_
  intro w' hw'
  obtain ⟨rg, rfl⟩ := hw'
  have R := R0.re rg.d rg.os
  obtain ⟨⟨r0, r1, r2, r3, r4, r5⟩, s0, s1, s2, s3, s4, s5⟩ := R.c6
  go_wp2_with fail
  have R2 := R.st6 (.int .i64 (subI x (0))) (.int .i64 (subI y 0)) (.int .i64 (subI z (0))) (.int .i64 (addI x (0))) (.int .i64 (addI y h)) (.int .i64 (addI z (0)))
  obtain ⟨⟨d0, d1, d2, d3, d4, d5⟩, -, -, -, -, -, -⟩ := R2.c6
  exact bodyPost_ret (v := .agg #[.int .i64 (subI x (0)), .int .i64 (subI y 0), .int .i64 (subI z (0)), .int .i64 (addI x (0)), .int .i64 (addI y h), .int .i64 (addI z (0))]) (by simp [results, Tryz.results184, go_sem, d0, d1, d2, d3, d4, d5]) rfl ⟨rfl, by (repeat' (first | (with_reducible exact Below.refl _ _) | (with_reducible assumption) | (with_reducible refine Below.alloc ?_ ?_ _) | (with_reducible refine Below.drew ?_) | (with_reducible refine Below.setCell ?_ ?_ _) | (with_reducible refine after ?_ (below_regrown _ _ _)) | (refine after ?_ (by with_reducible assumption)) | go_size))⟩
set_option maxRecDepth 100000 in
set_option maxHeartbeats 2000000 in
theorem stand_ba (x y z wd h : Int) (_w1 : wd ≤ 9223372036854775807) (g1 : 0 ≤ wd) (g2 : h < 0) (w : World) : Calls Tryz.prog 184 #[.agg #[.int .i64 x, .int .i64 y, .int .i64 z], .int .i64 wd, .int .i64 h] w fun r w' => r = .returned (.agg #[.int .i64 (subI x (wd / 2)), .int .i64 (subI y 0), .int .i64 (subI z (wd / 2)), .int .i64 (addI x (wd / 2)), .int .i64 (addI y 0), .int .i64 (addI z (wd / 2))]) ∧ Below w.heap.size w w' := by
  have U : Blk (((w.alloc (.cells #[.int .i64 x, .int .i64 y, .int .i64 z] 38)).alloc (.cells (bxV 0 0 0 0 0 0) 210)).alloc (.cells #[.int .i64 (wd / 2), .int .i64 0, .int .i64 (wd / 2)] 38)) w.heap.size 38 #[.int .i64 x, .int .i64 y, .int .i64 z] := ((Blk.new' rfl).alloc _).alloc _
  have R0 : Blk (((w.alloc (.cells #[.int .i64 x, .int .i64 y, .int .i64 z] 38)).alloc (.cells (bxV 0 0 0 0 0 0) 210)).alloc (.cells #[.int .i64 (wd / 2), .int .i64 0, .int .i64 (wd / 2)] 38)) (w.heap.size + 1) 210 (bxV 0 0 0 0 0 0) := (Blk.new' (by simp)).alloc _
  have V : Blk (((w.alloc (.cells #[.int .i64 x, .int .i64 y, .int .i64 z] 38)).alloc (.cells (bxV 0 0 0 0 0 0) 210)).alloc (.cells #[.int .i64 (wd / 2), .int .i64 0, .int .i64 (wd / 2)] 38)) (w.heap.size + 1 + 1) 38 #[.int .i64 (wd / 2), .int .i64 0, .int .i64 (wd / 2)] := Blk.new' (by simp)
  obtain ⟨k0, k1, k2⟩ := U.re3
  obtain ⟨l0, l1, l2⟩ := V.re3
  go_enter Tryz.func184, Tryz.ntmps184
  go_wp2_with fail
  refine wp_region_last_below 11 (by kernel_rfl) rfl (by kernel_rfl) ?_
  simp only [List.take_succ_cons, List.take_zero, List.drop_succ_cons, List.drop_zero]
  repeat (go_big_quiet_step (first | exact Calls.regrown_of (sub_c _ _ _ _ _ _ _) | exact Calls.regrown_of (add_c _ _ _ _ _ _ _)))
  refine wpQuiet_nil ?_
  intro w' hw'
  obtain ⟨rg, rfl⟩ := hw'
  have R := R0.re rg.d rg.os
  obtain ⟨⟨r0, r1, r2, r3, r4, r5⟩, s0, s1, s2, s3, s4, s5⟩ := R.c6
  go_wp2_with fail
  have R2 := R.st6 (.int .i64 (subI x (wd / 2))) (.int .i64 (subI y 0)) (.int .i64 (subI z (wd / 2))) (.int .i64 (addI x (wd / 2))) (.int .i64 (addI y 0)) (.int .i64 (addI z (wd / 2)))
  obtain ⟨⟨d0, d1, d2, d3, d4, d5⟩, -, -, -, -, -, -⟩ := R2.c6
  exact bodyPost_ret (v := .agg #[.int .i64 (subI x (wd / 2)), .int .i64 (subI y 0), .int .i64 (subI z (wd / 2)), .int .i64 (addI x (wd / 2)), .int .i64 (addI y 0), .int .i64 (addI z (wd / 2))]) (by simp [results, Tryz.results184, go_sem, d0, d1, d2, d3, d4, d5]) rfl ⟨rfl, by (repeat' (first | (with_reducible exact Below.refl _ _) | (with_reducible assumption) | (with_reducible refine Below.alloc ?_ ?_ _) | (with_reducible refine Below.drew ?_) | (with_reducible refine Below.setCell ?_ ?_ _) | (with_reducible refine after ?_ (below_regrown _ _ _)) | (refine after ?_ (by with_reducible assumption)) | go_size))⟩
set_option maxRecDepth 100000 in
set_option maxHeartbeats 2000000 in
theorem stand_bb (x y z wd h : Int) (_w1 : wd ≤ 9223372036854775807) (g1 : 0 ≤ wd) (g2 : 0 ≤ h) (w : World) : Calls Tryz.prog 184 #[.agg #[.int .i64 x, .int .i64 y, .int .i64 z], .int .i64 wd, .int .i64 h] w fun r w' => r = .returned (.agg #[.int .i64 (subI x (wd / 2)), .int .i64 (subI y 0), .int .i64 (subI z (wd / 2)), .int .i64 (addI x (wd / 2)), .int .i64 (addI y h), .int .i64 (addI z (wd / 2))]) ∧ Below w.heap.size w w' := by
  have U : Blk (((w.alloc (.cells #[.int .i64 x, .int .i64 y, .int .i64 z] 38)).alloc (.cells (bxV 0 0 0 0 0 0) 210)).alloc (.cells #[.int .i64 (wd / 2), .int .i64 0, .int .i64 (wd / 2)] 38)) w.heap.size 38 #[.int .i64 x, .int .i64 y, .int .i64 z] := ((Blk.new' rfl).alloc _).alloc _
  have R0 : Blk (((w.alloc (.cells #[.int .i64 x, .int .i64 y, .int .i64 z] 38)).alloc (.cells (bxV 0 0 0 0 0 0) 210)).alloc (.cells #[.int .i64 (wd / 2), .int .i64 0, .int .i64 (wd / 2)] 38)) (w.heap.size + 1) 210 (bxV 0 0 0 0 0 0) := (Blk.new' (by simp)).alloc _
  have V : Blk (((w.alloc (.cells #[.int .i64 x, .int .i64 y, .int .i64 z] 38)).alloc (.cells (bxV 0 0 0 0 0 0) 210)).alloc (.cells #[.int .i64 (wd / 2), .int .i64 0, .int .i64 (wd / 2)] 38)) (w.heap.size + 1 + 1) 38 #[.int .i64 (wd / 2), .int .i64 0, .int .i64 (wd / 2)] := Blk.new' (by simp)
  obtain ⟨k0, k1, k2⟩ := U.re3
  obtain ⟨l0, l1, l2⟩ := V.re3
  go_enter Tryz.func184, Tryz.ntmps184
  go_wp2_with fail
  refine wp_region_last_below 11 (by kernel_rfl) rfl (by kernel_rfl) ?_
  simp only [List.take_succ_cons, List.take_zero, List.drop_succ_cons, List.drop_zero]
  repeat (go_big_quiet_step (first | exact Calls.regrown_of (sub_c _ _ _ _ _ _ _) | exact Calls.regrown_of (add_c _ _ _ _ _ _ _)))
  refine wpQuiet_nil ?_
  intro w' hw'
  obtain ⟨rg, rfl⟩ := hw'
  have R := R0.re rg.d rg.os
  obtain ⟨⟨r0, r1, r2, r3, r4, r5⟩, s0, s1, s2, s3, s4, s5⟩ := R.c6
  go_wp2_with fail
  have R2 := R.st6 (.int .i64 (subI x (wd / 2))) (.int .i64 (subI y 0)) (.int .i64 (subI z (wd / 2))) (.int .i64 (addI x (wd / 2))) (.int .i64 (addI y h)) (.int .i64 (addI z (wd / 2)))
  obtain ⟨⟨d0, d1, d2, d3, d4, d5⟩, -, -, -, -, -, -⟩ := R2.c6
  exact bodyPost_ret (v := .agg #[.int .i64 (subI x (wd / 2)), .int .i64 (subI y 0), .int .i64 (subI z (wd / 2)), .int .i64 (addI x (wd / 2)), .int .i64 (addI y h), .int .i64 (addI z (wd / 2))]) (by simp [results, Tryz.results184, go_sem, d0, d1, d2, d3, d4, d5]) rfl ⟨rfl, by (repeat' (first | (with_reducible exact Below.refl _ _) | (with_reducible assumption) | (with_reducible refine Below.alloc ?_ ?_ _) | (with_reducible refine Below.drew ?_) | (with_reducible refine Below.setCell ?_ ?_ _) | (with_reducible refine after ?_ (below_regrown _ _ _)) | (refine after ?_ (by with_reducible assumption)) | go_size))⟩
theorem stand_c (x y z wd h : Int) (hw : wd ≤ 9223372036854775807) (w : World) : Calls Tryz.prog 184 #[.agg #[.int .i64 x, .int .i64 y, .int .i64 z], .int .i64 wd, .int .i64 h] w fun r w' => r = .returned (.agg #[.int .i64 (subI x (max wd 0 / 2)), .int .i64 (cutI y), .int .i64 (subI z (max wd 0 / 2)), .int .i64 (addI x (max wd 0 / 2)), .int .i64 (addI y (max h 0)), .int .i64 (addI z (max wd 0 / 2))]) ∧ Below w.heap.size w w' := by
  have e : cutI y = subI y 0 := by unfold subI; rw [show cutI 0 = 0 by decide, Int.sub_zero, cutI_cut]
  rw [e]
  rcases Int.lt_or_le wd 0 with g1 | g1 <;> rcases Int.lt_or_le h 0 with g2 | g2
  · rw [show max wd 0 = 0 by omega, show max h 0 = 0 by omega]; exact stand_aa x y z wd h hw g1 g2 w
  · rw [show max wd 0 = 0 by omega, show max h 0 = h by omega]; exact stand_ab x y z wd h hw g1 g2 w
  · rw [show max wd 0 = wd by omega, show max h 0 = 0 by omega]; exact stand_ba x y z wd h hw g1 g2 w
  · rw [show max wd 0 = wd by omega, show max h 0 = h by omega]; exact stand_bb x y z wd h hw g1 g2 w
end Go.Proofs.YtmbccnioijokfaaGreatDoor

namespace Go.Proofs.YtmbccnioijokfaaGreatDoor
open Go.RowKit
attribute [local go_sem] Oper.semAt_some
set_option maxRecDepth 100000 in
set_option maxHeartbeats 1000000 in
theorem cfrom_c (x z : Int) (i : Nat) (hi : i < 8192) (hx : -70368744177664 ≤ x ∧ x ≤ 70368744177664) (hz : -70368744177664 ≤ z ∧ z ≤ 70368744177664) (w : World) :
    Calls Tryz.prog 218 #[.agg #[.int .i64 x, .int .i64 z], .int .i64 i] w fun e w' => e = .returned (.tuple #[.agg #[.int .i64 (x * 16 + (i : Int) % 16), .int .i64 ((i : Int) / 256), .int .i64 (z * 16 + (i : Int) / 16 % 16)], .bool true]) ∧ Below w.heap.size w w' := by
  obtain ⟨W, hW⟩ : ∃ W, W = (w.alloc (.cells #[.int .i64 x, .int .i64 z] 123)).alloc (.cells #[.int .i64 0, .int .i64 0, .int .i64 0] 43) := ⟨_, rfl⟩
  have H : Below w.heap.size w W := by rw [hW]; go_grown
  have U : Blk W w.heap.size 123 #[.int .i64 x, .int .i64 z] := by rw [hW]; exact (Blk.new' rfl).alloc _
  have R : Blk W (w.heap.size + 1) 43 #[.int .i64 0, .int .i64 0, .int .i64 0] := by rw [hW]; exact Blk.new' (by simp)
  obtain ⟨u0, u1, -, -⟩ := U.pair
  obtain ⟨r0, r1, r2, s0, s1, s2⟩ := R.c3
  have e1 : (i : Int).tdiv 256 = (i : Int) / 256 := Int.tdiv_eq_ediv_of_nonneg (by omega)
  have e2 : (i : Int).tmod 16 = (i : Int) % 16 := Int.tmod_eq_emod_of_nonneg (by omega)
  have hi1 : (i : Int) < 8192 := by omega
  have hi0 : (0 : Int) ≤ i := by omega
  have HW := Lib.hid (show w.heap.size ≤ w.heap.size + 1 by omega)
  go_enter Tryz.func218, Tryz.ntmps218
  go_upto_region 1 with (fail)
  rw [← hW]
  clear hW
  generalize w.heap.size + 1 = g at *
  go_wp2_with fail
  have R2 := R.st3 (.int .i64 (x * 16 + (i : Int) % 16)) (.int .i64 ((i : Int) / 256)) (.int .i64 (z * 16 + (i : Int) / 16 % 16))
  obtain ⟨d0, d1, d2, -, -, -⟩ := R2.c3
  exact bodyPost_ret (v := .tuple #[.agg #[.int .i64 (x * 16 + (i : Int) % 16), .int .i64 ((i : Int) / 256), .int .i64 (z * 16 + (i : Int) / 16 % 16)], .bool true]) (by simp [results, Tryz.results218, go_sem, d0, d1, d2]) rfl ⟨rfl, far_below3 (Below.refl _ _) H HW.out rfl⟩
def besides (x z : Int) : Array Value := #[.int .i64 x, .int .i64 z, .int .i64 (x - 1), .int .i64 z, .int .i64 (x + 1), .int .i64 z, .int .i64 x, .int .i64 (z - 1), .int .i64 x, .int .i64 (z + 1)]
set_option maxRecDepth 100000 in
set_option maxHeartbeats 1000000 in
theorem cbeside_c (x z : Int) (hx : -70368744177664 ≤ x ∧ x ≤ 70368744177664) (hz : -70368744177664 ≤ z ∧ z ≤ 70368744177664) (w : World) :
    Calls Tryz.prog 235 #[.agg #[.int .i64 x, .int .i64 z]] w fun e w' => e = .returned (.agg (besides x z)) ∧ Below w.heap.size w w' := by
  unfold besides
  obtain ⟨W, hW⟩ : ∃ W, W = (w.alloc (.cells #[.int .i64 x, .int .i64 z] 123)).alloc (.cells #[.int .i64 0, .int .i64 0, .int .i64 0, .int .i64 0, .int .i64 0, .int .i64 0, .int .i64 0, .int .i64 0, .int .i64 0, .int .i64 0] 297) := ⟨_, rfl⟩
  have H : Below w.heap.size w W := by rw [hW]; go_grown
  have U : Blk W w.heap.size 123 #[.int .i64 x, .int .i64 z] := by rw [hW]; exact (Blk.new' rfl).alloc _
  have R : Blk W (w.heap.size + 1) 297 #[.int .i64 0, .int .i64 0, .int .i64 0, .int .i64 0, .int .i64 0, .int .i64 0, .int .i64 0, .int .i64 0, .int .i64 0, .int .i64 0] := by rw [hW]; exact Blk.new' (by simp)
  obtain ⟨u0, u1, -, -⟩ := U.pair
  have r0 := R.cell 0
  have r1 := R.cell 1
  have r2 := R.cell 2
  have r3 := R.cell 3
  have r4 := R.cell 4
  have r5 := R.cell 5
  have r6 := R.cell 6
  have r7 := R.cell 7
  have r8 := R.cell 8
  have r9 := R.cell 9
  have f0 := R.frz 0
  have f1 := R.frz 1
  have f2 := R.frz 2
  have f3 := R.frz 3
  have f4 := R.frz 4
  have f5 := R.frz 5
  have f6 := R.frz 6
  have f7 := R.frz 7
  have f8 := R.frz 8
  have f9 := R.frz 9
  have HW := Lib.hid (show w.heap.size ≤ w.heap.size + 1 by omega)
  go_enter Tryz.func235, Tryz.ntmps235
  go_upto_region 1 with (fail)
  rw [← hW]
  clear hW
  generalize w.heap.size + 1 = g at *
  go_wp2_with fail
  have R2 := (((((((((R.set_ 0 (.int .i64 x)).set_ 1 (.int .i64 z)).set_ 2 (.int .i64 (x - 1))).set_ 3 (.int .i64 z)).set_ 4 (.int .i64 (x + 1))).set_ 5 (.int .i64 z)).set_ 6 (.int .i64 x)).set_ 7 (.int .i64 (z - 1))).set_ 8 (.int .i64 x)).set_ 9 (.int .i64 (z + 1))
  have d0 := R2.cell 0
  have d1 := R2.cell 1
  have d2 := R2.cell 2
  have d3 := R2.cell 3
  have d4 := R2.cell 4
  have d5 := R2.cell 5
  have d6 := R2.cell 6
  have d7 := R2.cell 7
  have d8 := R2.cell 8
  have d9 := R2.cell 9
  simp only [List.setIfInBounds_toArray, List.set_cons_zero, List.set_cons_succ, List.getElem?_toArray, List.getElem?_cons_zero, List.getElem?_cons_succ] at d0 d1 d2 d3 d4 d5 d6 d7 d8 d9
  refine bodyPost_ret (v := .agg #[.int .i64 x, .int .i64 z, .int .i64 (x - 1), .int .i64 z, .int .i64 (x + 1), .int .i64 z, .int .i64 x, .int .i64 (z - 1), .int .i64 x, .int .i64 (z + 1)]) (by simp [results, Tryz.results235, go_sem, d0, d1, d2, d3, d4, d5, d6, d7, d8, d9]) rfl ⟨rfl, ?_⟩
  have h0 := HW.out
  repeat (refine Below.setCell ?_ (by dsimp only; omega) _)
  exact H
end Go.Proofs.YtmbccnioijokfaaGreatDoor

namespace Go.Proofs.YtmbccnioijokfaaGreatDoor
open Go.ChangeShapes Go.WideShapes Go.ChangeAt Go.RowKit
def Bxs (w : World) (g o n : Nat) (F : Nat → Nat → Int) : Prop := ∀ i, i < n → ∀ j, j < 6 → w.cell? ⟨g, o + (i * 6 + j), none⟩ = some (.int .i64 (F i j))
section
variable {w w' : World} {g o n : Nat} {F : Nat → Nat → Int}
theorem Bxs.on (h : Bxs w g o n F) (hb : Below w.heap.size w w') : Bxs w' g o n F := fun i hi j hj => by
  have h1 := h i hi j hj
  rw [cell_below hb (cell_lt h1)]; exact h1
theorem Bxs.lt (h : Bxs w g o n F) (hn : 0 < n) : g < w.heap.size := cell_lt (h 0 hn 0 (by omega))
theorem Bxs.at (h : Bxs w g o n F) {i : Nat} (hi : i < n) : w.cell? ⟨g, o + i * 6, none⟩ = some (.int .i64 (F i 0)) ∧ w.cell? ⟨g, o + i * 6 + 1, none⟩ = some (.int .i64 (F i 1)) ∧ w.cell? ⟨g, o + i * 6 + 2, none⟩ = some (.int .i64 (F i 2)) ∧
    w.cell? ⟨g, o + i * 6 + 3, none⟩ = some (.int .i64 (F i 3)) ∧ w.cell? ⟨g, o + i * 6 + 4, none⟩ = some (.int .i64 (F i 4)) ∧ w.cell? ⟨g, o + i * 6 + 5, none⟩ = some (.int .i64 (F i 5)) := by
  have h' := h i hi
  simp only [← Nat.add_assoc] at h'
  exact ⟨h' 0 (by omega), h' 1 (by omega), h' 2 (by omega), h' 3 (by omega), h' 4 (by omega), h' 5 (by omega)⟩
end
section
variable {H : Type} {enc : TypeId × Value → H} {P : Program}
end
end Go.Proofs.YtmbccnioijokfaaGreatDoor

namespace Go.Proofs.YtmbccnioijokfaaGreatDoor
open Go.RowKit
theorem sub_one {b : Int} (h1 : -140737488355328 ≤ b) (h2 : b ≤ 140737488355328) : subI b 1 = cutI (b - 1) := by
  unfold subI; rw [cutI_id h1 h2]; rfl
theorem cut_cut (b : Int) : cutI (cutI b) = cutI b := cutI_id (cutI_lo b) (cutI_hi b)
set_option maxRecDepth 100000 in
set_option maxHeartbeats 2000000 in
theorem under_raw (a b c d e f : Int) (h1 : -140737488355328 ≤ b) (h2 : b ≤ 140737488355328) (w : World) : Calls Tryz.prog 185 #[.agg #[.int .i64 a, .int .i64 b, .int .i64 c, .int .i64 d, .int .i64 e, .int .i64 f]] w fun r w' => r = .returned (.agg #[.int .i64 (wiI a 1 0 (cutI (b - 1))), .int .i64 (wiI b 1 1 (cutI (b - 1))), .int .i64 (wiI c 1 2 (cutI (b - 1))), .int .i64 (wiI d 1 0 b), .int .i64 (wiI e 1 1 b), .int .i64 (wiI f 1 2 b)]) ∧ Below w.heap.size w w' := by
  have U : Blk ((w.alloc (.cells #[.int .i64 a, .int .i64 b, .int .i64 c, .int .i64 d, .int .i64 e, .int .i64 f] 210)).alloc (.cells #[.int .i64 0, .int .i64 0, .int .i64 0, .int .i64 0, .int .i64 0, .int .i64 0] 210)) w.heap.size 210 #[.int .i64 a, .int .i64 b, .int .i64 c, .int .i64 d, .int .i64 e, .int .i64 f] := (Blk.new' rfl).alloc _
  have R0 : Blk ((w.alloc (.cells #[.int .i64 a, .int .i64 b, .int .i64 c, .int .i64 d, .int .i64 e, .int .i64 f] 210)).alloc (.cells #[.int .i64 0, .int .i64 0, .int .i64 0, .int .i64 0, .int .i64 0, .int .i64 0] 210)) (w.heap.size + 1) 210 #[.int .i64 0, .int .i64 0, .int .i64 0, .int .i64 0, .int .i64 0, .int .i64 0] := Blk.new' (by simp)
  obtain ⟨k0, k1, k2, k3, k4, k5⟩ := U.re6
  obtain ⟨⟨u0, u1, u2, u3, u4, u5⟩, -, -, -, -, -, -⟩ := U.c6
  have hs : ∀ w, Calls Tryz.prog 241 #[.int .i64 b, .int .i64 1] w fun e w' => e = .returned (.int .i64 (cutI (b - 1))) ∧ w = w' := fun w => by have := fsub_c b 1 w; rwa [sub_one h1 h2] at this
  go_enter Tryz.func185, Tryz.ntmps185
  go_upto_region 2 with (fail)
  refine wp_region_last_below 10 (by kernel_rfl) rfl (by kernel_rfl) ?_
  simp only [List.take_succ_cons, List.take_zero, List.drop_succ_cons, List.drop_zero]
  repeat (go_big_quiet_step (first | (go_at_call 241; exact Calls.regrown_of (calls_bel (hs _))) | exact Calls.regrown_of (with_c _ _ _ _ _ _)))
  refine wpQuiet_nil ?_
  intro w' hw'
  obtain ⟨rg, rfl⟩ := hw'
  have R := R0.re rg.d rg.os
  obtain ⟨⟨r0, r1, r2, r3, r4, r5⟩, f0, f1, f2, f3, f4, f5⟩ := R.c6
  go_wp2_with fail
  have R2 := R.st6 (.int .i64 (wiI a 1 0 (cutI (b - 1)))) (.int .i64 (wiI b 1 1 (cutI (b - 1)))) (.int .i64 (wiI c 1 2 (cutI (b - 1)))) (.int .i64 (wiI d 1 0 b)) (.int .i64 (wiI e 1 1 b)) (.int .i64 (wiI f 1 2 b))
  obtain ⟨⟨d0, d1, d2, d3, d4, d5⟩, -, -, -, -, -, -⟩ := R2.c6
  exact bodyPost_ret (v := .agg #[.int .i64 (wiI a 1 0 (cutI (b - 1))), .int .i64 (wiI b 1 1 (cutI (b - 1))), .int .i64 (wiI c 1 2 (cutI (b - 1))), .int .i64 (wiI d 1 0 b), .int .i64 (wiI e 1 1 b), .int .i64 (wiI f 1 2 b)]) (by simp [results, Tryz.results185, go_sem, d0, d1, d2, d3, d4, d5]) rfl ⟨rfl, by (repeat' (first | (with_reducible exact Below.refl _ _) | (with_reducible assumption) | (with_reducible refine Below.alloc ?_ ?_ _) | (with_reducible refine Below.drew ?_) | (with_reducible refine Below.setCell ?_ ?_ _) | (with_reducible refine after ?_ (below_regrown _ _ _)) | (refine after ?_ (by with_reducible assumption)) | go_size))⟩
theorem under_c (a b c d e f : Int) (h1 : -140737488355328 ≤ b) (h2 : b ≤ 140737488355328) (w : World) : Calls Tryz.prog 185 #[.agg #[.int .i64 a, .int .i64 b, .int .i64 c, .int .i64 d, .int .i64 e, .int .i64 f]] w fun r w' => r = .returned (.agg #[.int .i64 a, .int .i64 (cutI (b - 1)), .int .i64 c, .int .i64 d, .int .i64 b, .int .i64 f]) ∧ Below w.heap.size w w' := by
  have h := under_raw a b c d e f h1 h2 w
  rw [show wiI a 1 0 (cutI (b - 1)) = a from rfl, show wiI b 1 1 (cutI (b - 1)) = cutI (b - 1) from cut_cut _, show wiI c 1 2 (cutI (b - 1)) = c from rfl, show wiI d 1 0 b = d from rfl, show wiI e 1 1 b = b from cutI_id h1 h2, show wiI f 1 2 b = f from rfl] at h
  exact h
end Go.Proofs.YtmbccnioijokfaaGreatDoor

namespace Go.Proofs.YtmbccnioijokfaaGreatDoor
open Go.ChangeShapes Go.WideShapes Go.ChangeAt Go.RowKit
def n16 (c : B16) : Int := c.toNat
def n8 (x : B8) : Int := x.toNat
theorem n8_lt (c : B8) : 0 ≤ n8 c ∧ n8 c < 256 := ⟨by unfold n8; omega, by unfold n8; have := c.isLt; omega⟩
theorem n16_eq {a b : B16} : n16 a = n16 b ↔ a = b := by
  unfold n16
  constructor
  · intro h; exact BitVec.eq_of_toNat_eq (by omega)
  · rintro rfl; rfl
def Byt (w : World) (g o n : Nat) (F : Nat → B8) : Prop := ∀ i, i < n → w.cell? ⟨g, o + i, none⟩ = some (.int .u8 (n8 (F i)))
def Byq (w : World) (q : Option Addr) (n : Nat) (F : Nat → B8) : Prop := 0 < n → ∃ g o, q = some ⟨g, o, none⟩ ∧ Byt w g o n F
section
variable {w w' : World} {g o n : Nat} {F : Nat → B8} {q : Option Addr}
theorem Byt.on (h : Byt w g o n F) (hb : Below w.heap.size w w') : Byt w' g o n F := fun i hi => by
  have h1 := h i hi
  rw [cell_below hb (cell_lt h1)]; exact h1
theorem Byt.lt (h : Byt w g o n F) (hn : 0 < n) : g < w.heap.size := cell_lt (h 0 hn)
theorem Byt.le {m : Nat} (h : Byt w g o n F) (hm : m ≤ n) : Byt w g o m F := fun i hi => h i (by omega)
theorem Byt.re (h : Byt w g o n F) (d : Nat) (os : Array Obj) : Byt (Go.Sort.grow (redrawn w d) os) g o n F := h.on (below_regrown w d os)
theorem Byq.on (h : Byq w q n F) (hb : Below w.heap.size w w') : Byq w' q n F := fun hn => by
  obtain ⟨g, o, e, h1⟩ := h hn
  exact ⟨g, o, e, h1.on hb⟩
theorem Byq.le {m : Nat} (h : Byq w q n F) (hm : m ≤ n) : Byq w q m F := fun h0 => by
  obtain ⟨g, o, e, h1⟩ := h (by omega)
  exact ⟨g, o, e, h1.le hm⟩
theorem Byq.zero : Byq w q 0 F := fun h => by omega
theorem Byq.of (h : Byt w g o n F) : Byq w (some ⟨g, o, none⟩) n F := fun _ => ⟨g, o, rfl, h⟩
end
def byteAt (w : World) (p : Addr) : B8 := match w.cell? p with | some (.int .u8 x) => BitVec.ofInt 8 x | _ => 0
theorem byteAt_eq {w : World} {p : Addr} {x : Int} (h : w.cell? p = some (.int .u8 x)) : byteAt w p = BitVec.ofInt 8 x := by unfold byteAt; rw [h]
section
variable {H : Type} {enc : TypeId × Value → H} {P : Program}
end
end Go.Proofs.YtmbccnioijokfaaGreatDoor

namespace Go.Proofs.YtmbccnioijokfaaGreatDoor
open Go.RowKit Go.Deep
def bl (F : Nat → B8) (n : Nat) : List Value := (List.range n).map fun i => .int .u8 (n8 (F i))
theorem bl_len (F : Nat → B8) (n : Nat) : (bl F n).length = n := by simp [bl]
theorem bl_at {F : Nat → B8} {n i : Nat} (h : i < n) : (bl F n)[i]? = some (.int .u8 (n8 (F i))) := by simp [bl, h]
def cat (F : Nat → B8) (n : Nat) (G : Nat → B8) (i : Nat) : B8 := if i < n then F i else G (i - n)
theorem cat_0 (F G : Nat → B8) : cat F 0 G = G := funext fun i => by simp [cat]
theorem bl_cat (F : Nat → B8) (n : Nat) (G : Nat → B8) (m : Nat) : bl (cat F n G) (n + m) = bl F n ++ bl G m := by
  apply List.ext_getElem?
  intro i
  by_cases h : i < n
  · rw [bl_at (by omega), List.getElem?_append_left (by rw [bl_len]; exact h), bl_at h]; simp [cat, h]
  · rw [List.getElem?_append_right (by rw [bl_len]; omega), bl_len]
    by_cases h2 : i < n + m
    · rw [bl_at h2, bl_at (by omega)]; simp [cat, h]
    · rw [List.getElem?_eq_none (by rw [bl_len]; omega), List.getElem?_eq_none (by rw [bl_len]; omega)]
def updB (F : Nat → B8) (k : Nat) (x : B8) (i : Nat) : B8 := if i = k then x else F i
section
variable {P : Program} {w w' : World} {base n m c g cap : Nat} {e t : TypeId} {F G : Nat → B8} {v : Value} {q : Option Addr}
theorem own_nil : w.ownsRow base e 1 (.slice none 0 0) 0 (bl F 0) := ⟨rfl, .inl ⟨rfl, rfl⟩⟩
theorem own_form (h : w.ownsRow base e 1 v n (bl F n)) (hn : 0 < n) : ∃ g cap cur, v = .slice (some ⟨g, 0, none⟩) n cap ∧ base ≤ g ∧ Blk w g e cur ∧ n ≤ cap ∧ cap ≤ maxLen ∧ n ≤ cur.size ∧ Byt w g 0 n F := by
  rcases h.2 with ⟨_, h0⟩ | ⟨g, cap, cur, hv, hb, hg, hc, hm, hs, ht⟩
  · omega
  · refine ⟨g, cap, cur, hv, hb, hg, hc, hm, by omega, fun i hi => ?_⟩
    have h1 : cur[i]? = some (.int .u8 (n8 (F i))) := by
      have h2 := bl_at (F := F) hi
      rw [← ht, Nat.mul_one, List.getElem?_take_of_lt hi] at h2
      simpa using h2
    rw [Nat.zero_add, Blk.cell hg, h1]
theorem own_byq (h : w.ownsRow base e 1 v n (bl F n)) : ∃ q cap, v = .slice q n cap ∧ n ≤ cap ∧ cap ≤ maxLen ∧ Byq w q n F := by
  by_cases hn : 0 < n
  · obtain ⟨g, cap, _, hv, _, _, hc, hm, _, hb⟩ := own_form h hn
    exact ⟨_, cap, hv, hc, hm, Byq.of hb⟩
  · obtain rfl : n = 0 := by omega
    rcases h.2 with ⟨hv, _⟩ | ⟨g, cap, cur, hv, hb, hg, hc, hm, hs, ht⟩
    · exact ⟨_, _, hv, Nat.le_refl _, by omega, Byq.zero⟩
    · exact ⟨_, _, hv, hc, hm, Byq.zero⟩
theorem run_app {ts ty : TypeId} (ht : P.underlying ts = some (.slice e)) (hi : (P.info? e).map (fun i => (i.zero, i.size, i.bytes)) = some (some (.int .u8 0), 1, 1))
    (hown : w.ownsRow base e 1 v n (bl F n)) (hmc : m ≤ c) (hG : Byq w q m G) (h47 : n + m ≤ 140737488355328) (hbase : base ≤ w.heap.size) :
    ∃ v' w', (Builtin.append_ #[ts, ts] ty #[v, .slice q m c]).run P w = .ok v' w' ∧ w'.ownsRow base e 1 v' (n + m) (bl (cat F n G) (n + m)) ∧ Below base w w' := by
  obtain ⟨i, hi, hz, hs, hby⟩ := info_parts hi
  by_cases hm : 0 < m
  · obtain ⟨g, o, rfl, hB⟩ := hG hm
    obtain ⟨v', w', h1, h2, h3, _⟩ := run_append_own (P := P) w base ts ty e i (.int .u8 0) 1 1 ht hi hz hs hby rfl (by decide) v n (bl F n) hown ⟨g, o, none⟩ m c (bl G m) (by rw [bl_len]; omega) (fun j u hj => by
        have hjm : j < m := by
          rcases Nat.lt_or_ge j m with h | h
          · exact h
          · rw [List.getElem?_eq_none (by rw [bl_len]; exact h)] at hj; cases hj
        rw [bl_at hjm] at hj
        obtain rfl := Option.some.inj hj
        have := hB j hjm
        unfold Addr.add
        by_cases hk : j = 0 <;> simp [hk] at this ⊢ <;> exact this) (fun u hu => by
        simp [bl] at hu
        obtain ⟨k, _, rfl⟩ := hu
        rfl) (by simp only [maxLen]; omega) (by omega) hbase
    refine ⟨v', w', h1, by rw [bl_cat]; exact h2, (Below.refl _ _).grown h3 hbase fun k hk => ?_⟩
    rcases hown.2 with ⟨hv, _⟩ | ⟨g', cap', cur, hv, hb, _⟩
    · subst hv; simp [Value.ownBlock] at hk
    · subst hv; simp [Value.ownBlock] at hk; omega
  · obtain rfl : m = 0 := by omega
    have hsrc : Src P i.size ts (.slice q 0 c) 0 [] w := by
      cases q with
      | none => exact Src.ofNil w ht c
      | some a => exact Src.ofSlice w ht a 0 c [] (by simp) (by simp) (by simp)
    obtain ⟨q', cap', rfl, hc', _, _⟩ := own_byq hown
    refine ⟨_, w, run_append_nothing w ts ts ty e i ht hi q' n cap' hc' _ hsrc, ?_, Below.refl _ _⟩
    rw [bl_cat]
    simpa [bl] using hown
theorem Byt.put {cur : Array Value} {k : Nat} {x : B8} (h : Byt w g 0 n F) (hC : Blk w g e cur) (hn : n ≤ cur.size) (hk : k < n) : Byt (w.setCell ⟨g, k, none⟩ (.int .u8 (n8 x))) g 0 n (updB F k x) := fun i hi => by
  have h1 := h i hi
  rw [Nat.zero_add] at h1 ⊢
  rw [(hC.set_ k _).cell]
  rw [hC.cell] at h1
  unfold updB
  by_cases hik : i = k
  · subst hik; rw [if_pos rfl, Array.getElem?_setIfInBounds_self_of_lt (by omega)]
  · rw [if_neg hik, ← h1]
    rw [Array.getElem?_setIfInBounds_ne (fun h => hik h.symm)]
end
end Go.Proofs.YtmbccnioijokfaaGreatDoor

namespace Go.Proofs.YtmbccnioijokfaaGreatDoor
open Go.RowKit Go.Deep
section
variable {P : Program} {w w' : World} {base n m c g cap : Nat} {e t : TypeId} {F G : Nat → B8} {v : Value} {q : Option Addr}
theorem own_low {B : Nat} (h : w.ownsRow base e 1 v n (bl F n)) (hb : B ≤ base) : w.ownsRow B e 1 v n (bl F n) := by
  refine ⟨h.1, ?_⟩
  rcases h.2 with h0 | ⟨g, cap, cur, hv, hbg, r⟩
  · exact .inl h0
  · exact .inr ⟨g, cap, cur, hv, Nat.le_trans hb hbg, r⟩
end
end Go.Proofs.YtmbccnioijokfaaGreatDoor

namespace Go.Proofs.YtmbccnioijokfaaGreatDoor
open Go.RowKit
theorem inf8 : (Tryz.prog.info? 5).map (fun i => (i.zero, i.size, i.bytes)) = some (some (.int .u8 0), 1, 1) := by kernel_rfl
set_option maxRecDepth 100000 in
set_option maxHeartbeats 1000000 in
theorem clone_c (q : Option Addr) (n c : Nat) (F : Nat → B8) (hc : n ≤ c) (h47 : n ≤ 140737488355328) (w : World) (hq : Byq w q n F) :
    Calls Tryz.prog 214 #[.slice q n c] w fun r w' => ∃ v, r = .returned v ∧ w'.ownsRow w.heap.size 5 1 v n (bl F n) ∧ Below w.heap.size w w' := by
  have hnl : ∀ (w : World) (a : Option Addr) (n c n' c' : Nat), (binOp .eql 51 (.slice a n c) (.slice none n' c')).run Tryz.prog w = .ok (.bool a.isNone) w := fun w a n c n' c' => Lib.run_eql_slice_nil w _ _ a n c n' c' Tryz.underlying51
  cases q with
  | none =>
    have h0 : n = 0 := by
      rcases Nat.eq_zero_or_pos n with h | h
      · exact h
      · obtain ⟨g, o, h1, _⟩ := hq h; cases h1
    subst h0
    go_enter Tryz.func214, Tryz.ntmps214
    go_wp2_with fail
    go_returns
    exact ⟨_, rfl, own_nil, Below.refl _ _⟩
  | some a =>
    obtain ⟨W0, hW⟩ : ∃ W0, W0 = w.alloc (.cells #[] 5) := ⟨_, rfl⟩
    have hb0 : Below w.heap.size w W0 := by rw [hW]; exact (Below.refl _ _).alloc (Nat.le_refl _) _
    have hown : W0.ownsRow w.heap.size 5 1 (.slice (some ⟨w.heap.size, 0, none⟩) 0 0) 0 (bl F 0) :=
      ⟨rfl, .inr ⟨w.heap.size, 0, #[], rfl, Nat.le_refl _, by rw [hW]; exact heap_alloc_new w _, Nat.le_refl _, by omega, rfl, rfl⟩⟩
    obtain ⟨v1, W1, hrun1, hown1, hb1⟩ := run_app (P := Tryz.prog) (w := W0) (base := w.heap.size) (ty := 51) Tryz.underlying51 inf8 hown hc (hq.on hb0) (by omega) hb0.size
    rw [cat_0, Nat.zero_add] at hown1
    rw [hW] at hrun1
    go_enter Tryz.func214, Tryz.ntmps214
    go_wp2_with (at_builtin; refine Lib.wpList_append_run _ rfl _ _ _ _ rfl _ _ rfl rfl _ _ hrun1 ?_)
    go_returns
    exact ⟨_, rfl, hown1, hb0.trans hb1⟩
end Go.Proofs.YtmbccnioijokfaaGreatDoor

namespace Go.Proofs.YtmbccnioijokfaaGreatDoor
open Go.RowKit
theorem shl16 (c : B16) (k m : Nat) (hm : 2 ^ k = m) : IntKind.u16.wrap (n16 c * (m : Int)) = n16 (c <<< k) := by
  rw [IntKind.wrap_u16]
  unfold n16
  rw [BitVec.toNat_shiftLeft, Nat.shiftLeft_eq, hm]
  omega
theorem shr16 (c : B16) (k m : Nat) (hm : 2 ^ k = m) : n16 c / (m : Int) = n16 (c >>> k) := by
  unfold n16
  rw [BitVec.toNat_ushiftRight, Nat.shiftRight_eq_div_pow, hm]
  omega
theorem xor16 (a b : B16) : bits .xor .u16 (n16 a) (n16 b) = n16 (a ^^^ b) := by
  unfold n16
  rw [u16_xor_nat _ _ (by have := a.isLt; omega) (by have := b.isLt; omega), BitVec.toNat_xor]
theorem and16 (a b : B16) : bits .and .u16 (n16 a) (n16 b) = n16 (a &&& b) := by
  unfold n16
  rw [u16_and_nat _ _ (by have := a.isLt; omega) (by have := b.isLt; omega), BitVec.toNat_and]
theorem poly16 : (4129 : Int) = n16 0x1021#16 := by decide
theorem top16 (c : B16) : (bits .and .u16 (n16 c) 32768 != 0) = c.msb := by
  rw [show (32768 : Int) = n16 (BitVec.twoPow 16 15) by decide, and16, show (0 : Int) = n16 0#16 by decide, BitVec.and_twoPow, BitVec.msb_eq_getLsbD_last]
  cases c.getLsbD 15 <;> decide
theorem nib8h (x : B8) : IntKind.u16.wrap (n8 x / 16) = n16 (x.setWidth 16 >>> 4) := by
  rw [IntKind.wrap_u16]
  unfold n16 n8
  rw [BitVec.toNat_ushiftRight, Nat.shiftRight_eq_div_pow, BitVec.toNat_setWidth]
  have := x.isLt
  omega
theorem nib8l (x : B8) : IntKind.u16.wrap (bits .and .u8 (n8 x) 15) = n16 (x.setWidth 16 &&& 15#16) := by
  rw [IntKind.wrap_u16]
  unfold n16 n8
  rw [show (15 : Int) = ((15 : Nat) : Int) from rfl, u8_and_nat _ _ (by have := x.isLt; omega) (by omega), BitVec.toNat_and, BitVec.toNat_setWidth]
  have h1 := x.isLt
  have h2 : x.toNat &&& 15 ≤ 15 := Nat.and_le_right
  rw [show x.toNat % 2 ^ 16 = x.toNat by omega, show (15#16).toNat = 15 by decide]
  omega
theorem step_c (c : B16) (w : World) : Calls Tryz.prog 357 #[.int .u16 (n16 c)] w fun r w' => r = .returned (.int .u16 (n16 (st c))) ∧ w = w' := by
  have ht := top16 c
  have hl : IntKind.u16.wrap (n16 c * 2) = n16 (c <<< 1) := shl16 c 1 2 rfl
  have hx : bits .xor .u16 (n16 (c <<< 1)) 4129 = n16 (c <<< 1 ^^^ 0x1021#16) := by rw [poly16, xor16]
  cases hm : c.msb with
  | true =>
    rw [hm] at ht
    go_enter Tryz.func357, Tryz.ntmps357
    go_wp2_with fail
    go_returns
    exact ⟨ret_i (by unfold st; rw [hm]; rfl), rfl⟩
  | false =>
    rw [hm] at ht
    go_enter Tryz.func357, Tryz.ntmps357
    go_wp2_with fail
    go_returns
    exact ⟨ret_i (by unfold st; rw [hm]; simp), rfl⟩
def tc (k i : Nat) : Value := if i < k then .int .u16 (n16 (tb (BitVec.ofNat 16 i))) else .int .u16 0
def tabA (k : Nat) : Array Value := #[tc k 0, tc k 1, tc k 2, tc k 3, tc k 4, tc k 5, tc k 6, tc k 7, tc k 8, tc k 9, tc k 10, tc k 11, tc k 12, tc k 13, tc k 14, tc k 15]
theorem tabA_0 : tabA 0 = #[.int .u16 0, .int .u16 0, .int .u16 0, .int .u16 0, .int .u16 0, .int .u16 0, .int .u16 0, .int .u16 0, .int .u16 0, .int .u16 0, .int .u16 0, .int .u16 0, .int .u16 0, .int .u16 0, .int .u16 0, .int .u16 0] := rfl
theorem tabA_next : ∀ k, k < 16 → (tabA k).setIfInBounds k (.int .u16 (n16 (tb (BitVec.ofNat 16 k)))) = tabA (k + 1)
  | 0, _ => rfl
  | 1, _ => rfl
  | 2, _ => rfl
  | 3, _ => rfl
  | 4, _ => rfl
  | 5, _ => rfl
  | 6, _ => rfl
  | 7, _ => rfl
  | 8, _ => rfl
  | 9, _ => rfl
  | 10, _ => rfl
  | 11, _ => rfl
  | 12, _ => rfl
  | 13, _ => rfl
  | 14, _ => rfl
  | 15, _ => rfl
  | k + 16, h => by omega
theorem tabA_at (k : Nat) : k < 16 → (tabA 16)[k]? = some (.int .u16 (n16 (tb (BitVec.ofNat 16 k)))) := by
  intro h
  match k, h with
  | 0, _ => rfl
  | 1, _ => rfl
  | 2, _ => rfl
  | 3, _ => rfl
  | 4, _ => rfl
  | 5, _ => rfl
  | 6, _ => rfl
  | 7, _ => rfl
  | 8, _ => rfl
  | 9, _ => rfl
  | 10, _ => rfl
  | 11, _ => rfl
  | 12, _ => rfl
  | 13, _ => rfl
  | 14, _ => rfl
  | 15, _ => rfl
  | k + 16, h => omega
theorem tabA_cell (k : Nat) : k < 16 → (tabA k)[k]? = some (tc k k) := by
  intro h
  match k, h with
  | 0, _ => rfl
  | 1, _ => rfl
  | 2, _ => rfl
  | 3, _ => rfl
  | 4, _ => rfl
  | 5, _ => rfl
  | 6, _ => rfl
  | 7, _ => rfl
  | 8, _ => rfl
  | 9, _ => rfl
  | 10, _ => rfl
  | 11, _ => rfl
  | 12, _ => rfl
  | 13, _ => rfl
  | 14, _ => rfl
  | 15, _ => rfl
  | k + 16, h => omega
theorem Blk.cells16 {w : World} {g : Nat} {t : TypeId} {c0 c1 c2 c3 c4 c5 c6 c7 c8 c9 c10 c11 c12 c13 c14 c15 : Value} (h : Blk w g t #[c0, c1, c2, c3, c4, c5, c6, c7, c8, c9, c10, c11, c12, c13, c14, c15]) : w.cell? ⟨g, 0, none⟩ = some c0 ∧ w.cell? ⟨g, 1, none⟩ = some c1 ∧ w.cell? ⟨g, 2, none⟩ = some c2 ∧ w.cell? ⟨g, 3, none⟩ = some c3 ∧ w.cell? ⟨g, 4, none⟩ = some c4 ∧ w.cell? ⟨g, 5, none⟩ = some c5 ∧ w.cell? ⟨g, 6, none⟩ = some c6 ∧ w.cell? ⟨g, 7, none⟩ = some c7 ∧ w.cell? ⟨g, 8, none⟩ = some c8 ∧ w.cell? ⟨g, 9, none⟩ = some c9 ∧ w.cell? ⟨g, 10, none⟩ = some c10 ∧ w.cell? ⟨g, 11, none⟩ = some c11 ∧ w.cell? ⟨g, 12, none⟩ = some c12 ∧ w.cell? ⟨g, 13, none⟩ = some c13 ∧ w.cell? ⟨g, 14, none⟩ = some c14 ∧ w.cell? ⟨g, 15, none⟩ = some c15 :=
  ⟨h.cell 0, h.cell 1, h.cell 2, h.cell 3, h.cell 4, h.cell 5, h.cell 6, h.cell 7, h.cell 8, h.cell 9, h.cell 10, h.cell 11, h.cell 12, h.cell 13, h.cell 14, h.cell 15⟩
theorem Blk.frz16 {w : World} {g : Nat} {t : TypeId} {cs : Array Value} (h : Blk w g t cs) : w.frozen? ⟨g, 0, none⟩ = false ∧ w.frozen? ⟨g, 1, none⟩ = false ∧ w.frozen? ⟨g, 2, none⟩ = false ∧ w.frozen? ⟨g, 3, none⟩ = false ∧ w.frozen? ⟨g, 4, none⟩ = false ∧ w.frozen? ⟨g, 5, none⟩ = false ∧ w.frozen? ⟨g, 6, none⟩ = false ∧ w.frozen? ⟨g, 7, none⟩ = false ∧ w.frozen? ⟨g, 8, none⟩ = false ∧ w.frozen? ⟨g, 9, none⟩ = false ∧ w.frozen? ⟨g, 10, none⟩ = false ∧ w.frozen? ⟨g, 11, none⟩ = false ∧ w.frozen? ⟨g, 12, none⟩ = false ∧ w.frozen? ⟨g, 13, none⟩ = false ∧ w.frozen? ⟨g, 14, none⟩ = false ∧ w.frozen? ⟨g, 15, none⟩ = false :=
  ⟨h.frz 0, h.frz 1, h.frz 2, h.frz 3, h.frz 4, h.frz 5, h.frz 6, h.frz 7, h.frz 8, h.frz 9, h.frz 10, h.frz 11, h.frz 12, h.frz 13, h.frz 14, h.frz 15⟩
theorem Blk.st16 {w : World} {g : Nat} {t : TypeId} {c0 c1 c2 c3 c4 c5 c6 c7 c8 c9 c10 c11 c12 c13 c14 c15 : Value} (d0 d1 d2 d3 d4 d5 d6 d7 d8 d9 d10 d11 d12 d13 d14 d15 : Value) (h : Blk w g t #[c0, c1, c2, c3, c4, c5, c6, c7, c8, c9, c10, c11, c12, c13, c14, c15]) : Blk ((((((((((((((((w.setCell ⟨g, 0, none⟩ d0).setCell ⟨g, 1, none⟩ d1).setCell ⟨g, 2, none⟩ d2).setCell ⟨g, 3, none⟩ d3).setCell ⟨g, 4, none⟩ d4).setCell ⟨g, 5, none⟩ d5).setCell ⟨g, 6, none⟩ d6).setCell ⟨g, 7, none⟩ d7).setCell ⟨g, 8, none⟩ d8).setCell ⟨g, 9, none⟩ d9).setCell ⟨g, 10, none⟩ d10).setCell ⟨g, 11, none⟩ d11).setCell ⟨g, 12, none⟩ d12).setCell ⟨g, 13, none⟩ d13).setCell ⟨g, 14, none⟩ d14).setCell ⟨g, 15, none⟩ d15) g t #[d0, d1, d2, d3, d4, d5, d6, d7, d8, d9, d10, d11, d12, d13, d14, d15] := by
  have h0 : Blk (w.setCell ⟨g, 0, none⟩ d0) g t #[d0, c1, c2, c3, c4, c5, c6, c7, c8, c9, c10, c11, c12, c13, c14, c15] := h.set_ 0 d0
  have h1 : Blk ((w.setCell ⟨g, 0, none⟩ d0).setCell ⟨g, 1, none⟩ d1) g t #[d0, d1, c2, c3, c4, c5, c6, c7, c8, c9, c10, c11, c12, c13, c14, c15] := h0.set_ 1 d1
  have h2 : Blk (((w.setCell ⟨g, 0, none⟩ d0).setCell ⟨g, 1, none⟩ d1).setCell ⟨g, 2, none⟩ d2) g t #[d0, d1, d2, c3, c4, c5, c6, c7, c8, c9, c10, c11, c12, c13, c14, c15] := h1.set_ 2 d2
  have h3 : Blk ((((w.setCell ⟨g, 0, none⟩ d0).setCell ⟨g, 1, none⟩ d1).setCell ⟨g, 2, none⟩ d2).setCell ⟨g, 3, none⟩ d3) g t #[d0, d1, d2, d3, c4, c5, c6, c7, c8, c9, c10, c11, c12, c13, c14, c15] := h2.set_ 3 d3
  have h4 : Blk (((((w.setCell ⟨g, 0, none⟩ d0).setCell ⟨g, 1, none⟩ d1).setCell ⟨g, 2, none⟩ d2).setCell ⟨g, 3, none⟩ d3).setCell ⟨g, 4, none⟩ d4) g t #[d0, d1, d2, d3, d4, c5, c6, c7, c8, c9, c10, c11, c12, c13, c14, c15] := h3.set_ 4 d4
  have h5 : Blk ((((((w.setCell ⟨g, 0, none⟩ d0).setCell ⟨g, 1, none⟩ d1).setCell ⟨g, 2, none⟩ d2).setCell ⟨g, 3, none⟩ d3).setCell ⟨g, 4, none⟩ d4).setCell ⟨g, 5, none⟩ d5) g t #[d0, d1, d2, d3, d4, d5, c6, c7, c8, c9, c10, c11, c12, c13, c14, c15] := h4.set_ 5 d5
  have h6 : Blk (((((((w.setCell ⟨g, 0, none⟩ d0).setCell ⟨g, 1, none⟩ d1).setCell ⟨g, 2, none⟩ d2).setCell ⟨g, 3, none⟩ d3).setCell ⟨g, 4, none⟩ d4).setCell ⟨g, 5, none⟩ d5).setCell ⟨g, 6, none⟩ d6) g t #[d0, d1, d2, d3, d4, d5, d6, c7, c8, c9, c10, c11, c12, c13, c14, c15] := h5.set_ 6 d6
  have h7 : Blk ((((((((w.setCell ⟨g, 0, none⟩ d0).setCell ⟨g, 1, none⟩ d1).setCell ⟨g, 2, none⟩ d2).setCell ⟨g, 3, none⟩ d3).setCell ⟨g, 4, none⟩ d4).setCell ⟨g, 5, none⟩ d5).setCell ⟨g, 6, none⟩ d6).setCell ⟨g, 7, none⟩ d7) g t #[d0, d1, d2, d3, d4, d5, d6, d7, c8, c9, c10, c11, c12, c13, c14, c15] := h6.set_ 7 d7
  have h8 : Blk (((((((((w.setCell ⟨g, 0, none⟩ d0).setCell ⟨g, 1, none⟩ d1).setCell ⟨g, 2, none⟩ d2).setCell ⟨g, 3, none⟩ d3).setCell ⟨g, 4, none⟩ d4).setCell ⟨g, 5, none⟩ d5).setCell ⟨g, 6, none⟩ d6).setCell ⟨g, 7, none⟩ d7).setCell ⟨g, 8, none⟩ d8) g t #[d0, d1, d2, d3, d4, d5, d6, d7, d8, c9, c10, c11, c12, c13, c14, c15] := h7.set_ 8 d8
  have h9 : Blk ((((((((((w.setCell ⟨g, 0, none⟩ d0).setCell ⟨g, 1, none⟩ d1).setCell ⟨g, 2, none⟩ d2).setCell ⟨g, 3, none⟩ d3).setCell ⟨g, 4, none⟩ d4).setCell ⟨g, 5, none⟩ d5).setCell ⟨g, 6, none⟩ d6).setCell ⟨g, 7, none⟩ d7).setCell ⟨g, 8, none⟩ d8).setCell ⟨g, 9, none⟩ d9) g t #[d0, d1, d2, d3, d4, d5, d6, d7, d8, d9, c10, c11, c12, c13, c14, c15] := h8.set_ 9 d9
  have h10 : Blk (((((((((((w.setCell ⟨g, 0, none⟩ d0).setCell ⟨g, 1, none⟩ d1).setCell ⟨g, 2, none⟩ d2).setCell ⟨g, 3, none⟩ d3).setCell ⟨g, 4, none⟩ d4).setCell ⟨g, 5, none⟩ d5).setCell ⟨g, 6, none⟩ d6).setCell ⟨g, 7, none⟩ d7).setCell ⟨g, 8, none⟩ d8).setCell ⟨g, 9, none⟩ d9).setCell ⟨g, 10, none⟩ d10) g t #[d0, d1, d2, d3, d4, d5, d6, d7, d8, d9, d10, c11, c12, c13, c14, c15] := h9.set_ 10 d10
  have h11 : Blk ((((((((((((w.setCell ⟨g, 0, none⟩ d0).setCell ⟨g, 1, none⟩ d1).setCell ⟨g, 2, none⟩ d2).setCell ⟨g, 3, none⟩ d3).setCell ⟨g, 4, none⟩ d4).setCell ⟨g, 5, none⟩ d5).setCell ⟨g, 6, none⟩ d6).setCell ⟨g, 7, none⟩ d7).setCell ⟨g, 8, none⟩ d8).setCell ⟨g, 9, none⟩ d9).setCell ⟨g, 10, none⟩ d10).setCell ⟨g, 11, none⟩ d11) g t #[d0, d1, d2, d3, d4, d5, d6, d7, d8, d9, d10, d11, c12, c13, c14, c15] := h10.set_ 11 d11
  have h12 : Blk (((((((((((((w.setCell ⟨g, 0, none⟩ d0).setCell ⟨g, 1, none⟩ d1).setCell ⟨g, 2, none⟩ d2).setCell ⟨g, 3, none⟩ d3).setCell ⟨g, 4, none⟩ d4).setCell ⟨g, 5, none⟩ d5).setCell ⟨g, 6, none⟩ d6).setCell ⟨g, 7, none⟩ d7).setCell ⟨g, 8, none⟩ d8).setCell ⟨g, 9, none⟩ d9).setCell ⟨g, 10, none⟩ d10).setCell ⟨g, 11, none⟩ d11).setCell ⟨g, 12, none⟩ d12) g t #[d0, d1, d2, d3, d4, d5, d6, d7, d8, d9, d10, d11, d12, c13, c14, c15] := h11.set_ 12 d12
  have h13 : Blk ((((((((((((((w.setCell ⟨g, 0, none⟩ d0).setCell ⟨g, 1, none⟩ d1).setCell ⟨g, 2, none⟩ d2).setCell ⟨g, 3, none⟩ d3).setCell ⟨g, 4, none⟩ d4).setCell ⟨g, 5, none⟩ d5).setCell ⟨g, 6, none⟩ d6).setCell ⟨g, 7, none⟩ d7).setCell ⟨g, 8, none⟩ d8).setCell ⟨g, 9, none⟩ d9).setCell ⟨g, 10, none⟩ d10).setCell ⟨g, 11, none⟩ d11).setCell ⟨g, 12, none⟩ d12).setCell ⟨g, 13, none⟩ d13) g t #[d0, d1, d2, d3, d4, d5, d6, d7, d8, d9, d10, d11, d12, d13, c14, c15] := h12.set_ 13 d13
  have h14 : Blk (((((((((((((((w.setCell ⟨g, 0, none⟩ d0).setCell ⟨g, 1, none⟩ d1).setCell ⟨g, 2, none⟩ d2).setCell ⟨g, 3, none⟩ d3).setCell ⟨g, 4, none⟩ d4).setCell ⟨g, 5, none⟩ d5).setCell ⟨g, 6, none⟩ d6).setCell ⟨g, 7, none⟩ d7).setCell ⟨g, 8, none⟩ d8).setCell ⟨g, 9, none⟩ d9).setCell ⟨g, 10, none⟩ d10).setCell ⟨g, 11, none⟩ d11).setCell ⟨g, 12, none⟩ d12).setCell ⟨g, 13, none⟩ d13).setCell ⟨g, 14, none⟩ d14) g t #[d0, d1, d2, d3, d4, d5, d6, d7, d8, d9, d10, d11, d12, d13, d14, c15] := h13.set_ 14 d14
  have h15 : Blk ((((((((((((((((w.setCell ⟨g, 0, none⟩ d0).setCell ⟨g, 1, none⟩ d1).setCell ⟨g, 2, none⟩ d2).setCell ⟨g, 3, none⟩ d3).setCell ⟨g, 4, none⟩ d4).setCell ⟨g, 5, none⟩ d5).setCell ⟨g, 6, none⟩ d6).setCell ⟨g, 7, none⟩ d7).setCell ⟨g, 8, none⟩ d8).setCell ⟨g, 9, none⟩ d9).setCell ⟨g, 10, none⟩ d10).setCell ⟨g, 11, none⟩ d11).setCell ⟨g, 12, none⟩ d12).setCell ⟨g, 13, none⟩ d13).setCell ⟨g, 14, none⟩ d14).setCell ⟨g, 15, none⟩ d15) g t #[d0, d1, d2, d3, d4, d5, d6, d7, d8, d9, d10, d11, d12, d13, d14, d15] := h14.set_ 15 d15
  exact h15
set_option maxRecDepth 100000 in
set_option maxHeartbeats 4000000 in
theorem steps_c (w : World) : Calls Tryz.prog 348 #[] w fun r w' => r = .returned (.agg (tabA 16)) ∧ Below w.heap.size w w' := by
  go_enter Tryz.func348, Tryz.ntmps348
  go_upto_region 4 with (fail)
  obtain ⟨W1, hW⟩ : ∃ W1, W1 = (w.alloc (.cells (tabA 0) 392)).alloc (.cells (tabA 0) 392) := ⟨_, rfl⟩
  have R : Blk W1 w.heap.size 392 (tabA 0) := by rw [hW]; exact (Blk.new' rfl).alloc _
  have C : Blk W1 (w.heap.size + 1) 392 (tabA 0) := by rw [hW]; exact Blk.new' (by simp)
  have H : Below w.heap.size w W1 := by rw [hW]; go_grown
  rw [tabA_0] at hW
  rw [← hW]
  clear hW
  generalize hv : w.heap.size = nr at R C ⊢
  go_loopw [5] (fun i wr => ∃ k : Nat, k ≤ 16 ∧ i = .int .i64 k ∧ Blk wr nr 392 (tabA 0) ∧ Blk wr (nr + 1) 392 (tabA k) ∧ Below w.heap.size w wr) (fun i _ => 16 - (intOf i).toNat)
  case atStart => exact ⟨0, by omega, rfl, R, C, H⟩
  case round =>
    clear R C H
    obtain ⟨k, hk, rfl, R, C, H⟩ := hrel
    by_cases hlt : k < 16
    · go_upto_region 8 with (fail)
      have hs4 : ((k : Int) * (4096 : Int) : Int) = n16 (stN 0 (BitVec.ofNat 16 k <<< 12)) := by
        unfold n16 stN
        rw [BitVec.toNat_shiftLeft, Nat.shiftLeft_eq, BitVec.toNat_ofNat]
        omega
      have hd : decide ((k : Int) < 16) = true := by simp; omega
      rw [hs4, hd]
      clear hs4 hd
      go_loopw [4, 11] (fun c i wq => ∃ j : Nat, j ≤ 4 ∧ c = .int .u16 (n16 (stN j (BitVec.ofNat 16 k <<< 12))) ∧ i = .int .i64 j ∧ wq = wr) (fun _ i _ => 4 - (intOf i).toNat)
      case atStart => exact ⟨0, by omega, rfl, rfl, rfl⟩
      case round =>
        obtain ⟨j, hj, rfl, rfl, rfl⟩ := hrel
        by_cases hlj : j < 4
        · go_wp2_with fail
          refine (step_c _ _).mono ?_
          rintro e w1 ⟨rfl, rfl⟩
          rw [stN_succ]
          go_wp2_with fail
          go_roundw
          case rel => exact ⟨j + 1, by omega, rfl, by go_num, trivial⟩
          case measure => simp [intOf]; omega
        · obtain rfl : j = 4 := by omega
          have f := C.frz k
          have c0 : wr.cell? ⟨nr + 1, k, none⟩ = some (tc k k) := by rw [C.cell]; exact tabA_cell k hlt
          go_wp2_with fail
          rw [show stN 4 (BitVec.ofNat 16 k <<< 12) = tb (BitVec.ofNat 16 k) from rfl]
          refine ⟨⟨k + 1, hlt, by go_num, R.far (by simp) _, ?_, H.setCell (by simp; omega) _⟩, by simp [intOf]; omega⟩
          rw [← tabA_next k hlt]
          exact C.set_ k _
    · obtain rfl : k = 16 := by omega
      replace C : Blk wr (nr + 1) 392 #[.int .u16 (n16 (tb (BitVec.ofNat 16 0))), .int .u16 (n16 (tb (BitVec.ofNat 16 1))), .int .u16 (n16 (tb (BitVec.ofNat 16 2))), .int .u16 (n16 (tb (BitVec.ofNat 16 3))), .int .u16 (n16 (tb (BitVec.ofNat 16 4))), .int .u16 (n16 (tb (BitVec.ofNat 16 5))), .int .u16 (n16 (tb (BitVec.ofNat 16 6))), .int .u16 (n16 (tb (BitVec.ofNat 16 7))), .int .u16 (n16 (tb (BitVec.ofNat 16 8))), .int .u16 (n16 (tb (BitVec.ofNat 16 9))), .int .u16 (n16 (tb (BitVec.ofNat 16 10))), .int .u16 (n16 (tb (BitVec.ofNat 16 11))), .int .u16 (n16 (tb (BitVec.ofNat 16 12))), .int .u16 (n16 (tb (BitVec.ofNat 16 13))), .int .u16 (n16 (tb (BitVec.ofNat 16 14))), .int .u16 (n16 (tb (BitVec.ofNat 16 15)))] := C
      have h16 := C.cells16
      obtain ⟨k0, k1, k2, k3, k4, k5, k6, k7, k8, k9, k10, k11, k12, k13, k14, k15⟩ := h16
      replace R : Blk wr nr 392 #[.int .u16 0, .int .u16 0, .int .u16 0, .int .u16 0, .int .u16 0, .int .u16 0, .int .u16 0, .int .u16 0, .int .u16 0, .int .u16 0, .int .u16 0, .int .u16 0, .int .u16 0, .int .u16 0, .int .u16 0, .int .u16 0] := R
      have h16 := R.cells16
      obtain ⟨r0, r1, r2, r3, r4, r5, r6, r7, r8, r9, r10, r11, r12, r13, r14, r15⟩ := h16
      have h16 := R.frz16
      obtain ⟨f0, f1, f2, f3, f4, f5, f6, f7, f8, f9, f10, f11, f12, f13, f14, f15⟩ := h16
      go_wp2_with fail
      have R2 := R.st16 (.int .u16 (n16 (tb (BitVec.ofNat 16 0)))) (.int .u16 (n16 (tb (BitVec.ofNat 16 1)))) (.int .u16 (n16 (tb (BitVec.ofNat 16 2)))) (.int .u16 (n16 (tb (BitVec.ofNat 16 3)))) (.int .u16 (n16 (tb (BitVec.ofNat 16 4)))) (.int .u16 (n16 (tb (BitVec.ofNat 16 5)))) (.int .u16 (n16 (tb (BitVec.ofNat 16 6)))) (.int .u16 (n16 (tb (BitVec.ofNat 16 7)))) (.int .u16 (n16 (tb (BitVec.ofNat 16 8)))) (.int .u16 (n16 (tb (BitVec.ofNat 16 9)))) (.int .u16 (n16 (tb (BitVec.ofNat 16 10)))) (.int .u16 (n16 (tb (BitVec.ofNat 16 11)))) (.int .u16 (n16 (tb (BitVec.ofNat 16 12)))) (.int .u16 (n16 (tb (BitVec.ofNat 16 13)))) (.int .u16 (n16 (tb (BitVec.ofNat 16 14)))) (.int .u16 (n16 (tb (BitVec.ofNat 16 15))))
      have h16 := R2.cells16
      obtain ⟨d0, d1, d2, d3, d4, d5, d6, d7, d8, d9, d10, d11, d12, d13, d14, d15⟩ := h16
      exact bodyPost_ret (v := .agg #[.int .u16 (n16 (tb (BitVec.ofNat 16 0))), .int .u16 (n16 (tb (BitVec.ofNat 16 1))), .int .u16 (n16 (tb (BitVec.ofNat 16 2))), .int .u16 (n16 (tb (BitVec.ofNat 16 3))), .int .u16 (n16 (tb (BitVec.ofNat 16 4))), .int .u16 (n16 (tb (BitVec.ofNat 16 5))), .int .u16 (n16 (tb (BitVec.ofNat 16 6))), .int .u16 (n16 (tb (BitVec.ofNat 16 7))), .int .u16 (n16 (tb (BitVec.ofNat 16 8))), .int .u16 (n16 (tb (BitVec.ofNat 16 9))), .int .u16 (n16 (tb (BitVec.ofNat 16 10))), .int .u16 (n16 (tb (BitVec.ofNat 16 11))), .int .u16 (n16 (tb (BitVec.ofNat 16 12))), .int .u16 (n16 (tb (BitVec.ofNat 16 13))), .int .u16 (n16 (tb (BitVec.ofNat 16 14))), .int .u16 (n16 (tb (BitVec.ofNat 16 15)))]) (by simp [results, Tryz.results348, go_sem, d0, d1, d2, d3, d4, d5, d6, d7, d8, d9, d10, d11, d12, d13, d14, d15]) rfl ⟨rfl, by (repeat' (first | (with_reducible exact Below.refl _ _) | (with_reducible assumption) | (with_reducible refine Below.alloc ?_ ?_ _) | (with_reducible refine Below.drew ?_) | (with_reducible refine Below.setCell ?_ ?_ _) | (with_reducible refine after ?_ (below_regrown _ _ _)) | (refine after ?_ (by with_reducible assumption)) | go_size))⟩
end Go.Proofs.YtmbccnioijokfaaGreatDoor

namespace Go.Proofs.YtmbccnioijokfaaGreatDoor
open Go.RowKit
theorem nib_lt (c y : B16) (hy : n16 y < 16) : 0 ≤ n16 ((c >>> 12) ^^^ y) ∧ n16 ((c >>> 12) ^^^ y) < 16 ∧ ((c >>> 12) ^^^ y).toNat < 16 := by
  have h1 : ((c >>> 12) ^^^ y).toNat < 2 ^ 4 := by
    rw [BitVec.toNat_xor]
    refine Nat.xor_lt_two_pow ?_ ?_
    · rw [BitVec.toNat_ushiftRight, Nat.shiftRight_eq_div_pow]
      have := c.isLt
      omega
    · unfold n16 at hy; omega
  unfold n16
  omega
theorem nibh_lt (x : B8) : n16 (x.setWidth 16 >>> 4) < 16 := by
  rw [← nib8h, IntKind.wrap_u16]
  have := n8_lt x
  omega
theorem nibl_lt (x : B8) : n16 (x.setWidth 16 &&& 15#16) < 16 := by
  unfold n16
  rw [BitVec.toNat_and, show (15#16).toNat = 15 by decide]
  have : (x.setWidth 16).toNat &&& 15 ≤ 15 := Nat.and_le_right
  omega
theorem tab_cell {w : World} {g : Nat} {t : TypeId} (h : Blk w g t (tabA 16)) (i : B16) (hi : i.toNat < 16) : w.cell? ⟨g, (n16 i).toNat, none⟩ = some (.int .u16 (n16 (tb i))) := by
  rw [h.cell, show (n16 i).toNat = i.toNat from rfl, tabA_at _ hi]
  simp
set_option maxRecDepth 100000 in
set_option maxHeartbeats 4000000 in
theorem crcwith_c (c : B16) (q : Option Addr) (n cap : Nat) (F : Nat → B8) (hc : n ≤ cap) (hm : cap ≤ maxLen) (w : World) (hq : Byq w q n F) :
    Calls Tryz.prog 329 #[.int .u16 (n16 c), .slice q n cap] w fun r w' => r = .returned (.int .u16 (n16 (crcN c F n))) ∧ Below w.heap.size w w' := by
  go_enter Tryz.func329, Tryz.ntmps329
  go_wp2_with fail
  refine (steps_c _).mono ?_; rintro e w1 ⟨rfl, H⟩
  rw [show tabA 16 = #[.int .u16 (n16 (tb (BitVec.ofNat 16 0))), .int .u16 (n16 (tb (BitVec.ofNat 16 1))), .int .u16 (n16 (tb (BitVec.ofNat 16 2))), .int .u16 (n16 (tb (BitVec.ofNat 16 3))), .int .u16 (n16 (tb (BitVec.ofNat 16 4))), .int .u16 (n16 (tb (BitVec.ofNat 16 5))), .int .u16 (n16 (tb (BitVec.ofNat 16 6))), .int .u16 (n16 (tb (BitVec.ofNat 16 7))), .int .u16 (n16 (tb (BitVec.ofNat 16 8))), .int .u16 (n16 (tb (BitVec.ofNat 16 9))), .int .u16 (n16 (tb (BitVec.ofNat 16 10))), .int .u16 (n16 (tb (BitVec.ofNat 16 11))), .int .u16 (n16 (tb (BitVec.ofNat 16 12))), .int .u16 (n16 (tb (BitVec.ofNat 16 13))), .int .u16 (n16 (tb (BitVec.ofNat 16 14))), .int .u16 (n16 (tb (BitVec.ofNat 16 15)))] from rfl]
  go_upto_region 3 with (fail)
  obtain ⟨W1, hW⟩ : ∃ W1, W1 = w1.alloc (.cells #[.int .u16 (n16 (tb (BitVec.ofNat 16 0))), .int .u16 (n16 (tb (BitVec.ofNat 16 1))), .int .u16 (n16 (tb (BitVec.ofNat 16 2))), .int .u16 (n16 (tb (BitVec.ofNat 16 3))), .int .u16 (n16 (tb (BitVec.ofNat 16 4))), .int .u16 (n16 (tb (BitVec.ofNat 16 5))), .int .u16 (n16 (tb (BitVec.ofNat 16 6))), .int .u16 (n16 (tb (BitVec.ofNat 16 7))), .int .u16 (n16 (tb (BitVec.ofNat 16 8))), .int .u16 (n16 (tb (BitVec.ofNat 16 9))), .int .u16 (n16 (tb (BitVec.ofNat 16 10))), .int .u16 (n16 (tb (BitVec.ofNat 16 11))), .int .u16 (n16 (tb (BitVec.ofNat 16 12))), .int .u16 (n16 (tb (BitVec.ofNat 16 13))), .int .u16 (n16 (tb (BitVec.ofNat 16 14))), .int .u16 (n16 (tb (BitVec.ofNat 16 15)))] 392) := ⟨_, rfl⟩
  rw [← hW]
  have C : Blk W1 w1.heap.size 392 (tabA 16) := Blk.fresh hW
  replace hq := hq.on H
  have hb1 : Below w1.heap.size w1 W1 := by rw [hW]; exact (Below.refl _ _).alloc (Nat.le_refl _) _
  replace hq := hq.on hb1
  replace H := after H hb1
  clear hW hb1
  generalize w1.heap.size = nc at *
  generalize Value.agg #[.int .u16 (n16 (tb (BitVec.ofNat 16 0))), .int .u16 (n16 (tb (BitVec.ofNat 16 1))), .int .u16 (n16 (tb (BitVec.ofNat 16 2))), .int .u16 (n16 (tb (BitVec.ofNat 16 3))), .int .u16 (n16 (tb (BitVec.ofNat 16 4))), .int .u16 (n16 (tb (BitVec.ofNat 16 5))), .int .u16 (n16 (tb (BitVec.ofNat 16 6))), .int .u16 (n16 (tb (BitVec.ofNat 16 7))), .int .u16 (n16 (tb (BitVec.ofNat 16 8))), .int .u16 (n16 (tb (BitVec.ofNat 16 9))), .int .u16 (n16 (tb (BitVec.ofNat 16 10))), .int .u16 (n16 (tb (BitVec.ofNat 16 11))), .int .u16 (n16 (tb (BitVec.ofNat 16 12))), .int .u16 (n16 (tb (BitVec.ofNat 16 13))), .int .u16 (n16 (tb (BitVec.ofNat 16 14))), .int .u16 (n16 (tb (BitVec.ofNat 16 15)))] = tab
  go_loopw [0, 11] (fun c' i wq => ∃ k : Nat, k ≤ n ∧ c' = .int .u16 (n16 (crcN c F k)) ∧ i = .int .i64 k ∧ wq = W1) (fun _ i _ => n - (intOf i).toNat)
  case atStart => exact ⟨0, by omega, rfl, rfl, rfl⟩
  case round =>
    obtain ⟨k, hk, rfl, rfl, rfl⟩ := hrel
    by_cases hlt : k < n
    · obtain ⟨g, o, rfl, B⟩ := hq (by omega)
      have hb := B k hlt
      generalize hx : F k = x at hb
      generalize hcc : crcN c F k = cc
      go_upto_region 5 with (fail)
      obtain ⟨xh, hxh⟩ : ∃ xh, xh = (x.setWidth 16 : B16) >>> 4 := ⟨_, rfl⟩
      obtain ⟨ix, hix⟩ : ∃ ix, ix = (cc >>> 12) ^^^ xh := ⟨_, rfl⟩
      obtain ⟨i0, i1, i2⟩ : 0 ≤ n16 ix ∧ n16 ix < 16 ∧ ix.toNat < 16 := by rw [hix, hxh]; exact nib_lt cc _ (nibh_lt x)
      have c1 := tab_cell C ix i2
      have hs1 : bits .xor .u16 (n16 cc / 4096) (IntKind.u16.wrap (n8 x / 16)) = n16 ix := by rw [hix, hxh, ← xor16, ← nib8h]; exact congrArg (fun v => bits .xor .u16 v _) (shr16 cc 12 4096 rfl)
      have hs2 : bits .xor .u16 (IntKind.u16.wrap (n16 cc * 16)) (n16 (tb ix)) = n16 (nib cc xh) := by
        unfold nib
        rw [← hix, ← xor16, show IntKind.u16.wrap (n16 cc * 16) = n16 (cc <<< 4) from shl16 cc 4 16 rfl]
      have HX : Hid (F k = x) := hx
      have HC : Hid (crcN c F k = cc) := hcc
      have HH : Hid (xh = (x.setWidth 16 : B16) >>> 4) := hxh
      clear hix hx hcc i2 hxh
      go_upto_region 6 with (fail)
      obtain ⟨c2, hc2⟩ : ∃ c2, c2 = nib cc xh := ⟨_, rfl⟩
      rw [← hc2]
      clear hs1 hs2 c1 i0 i1
      obtain ⟨xl, hxl⟩ : ∃ xl, xl = (x.setWidth 16 : B16) &&& 15#16 := ⟨_, rfl⟩
      obtain ⟨iy, hiy⟩ : ∃ iy, iy = (c2 >>> 12) ^^^ xl := ⟨_, rfl⟩
      obtain ⟨i0, i1, i2⟩ : 0 ≤ n16 iy ∧ n16 iy < 16 ∧ iy.toNat < 16 := by rw [hiy, hxl]; exact nib_lt c2 _ (nibl_lt x)
      have c1 := tab_cell C iy i2
      have hs1 : bits .xor .u16 (n16 c2 / 4096) (IntKind.u16.wrap (bits .and .u8 (n8 x) 15)) = n16 iy := by rw [hiy, hxl, ← xor16, ← nib8l]; exact congrArg (fun v => bits .xor .u16 v _) (shr16 c2 12 4096 rfl)
      have hs2 : bits .xor .u16 (IntKind.u16.wrap (n16 c2 * 16)) (n16 (tb iy)) = n16 (nib c2 xl) := by
        unfold nib
        rw [← hiy, ← xor16, show IntKind.u16.wrap (n16 c2 * 16) = n16 (c2 <<< 4) from shl16 c2 4 16 rfl]
      have hfin : nib c2 xl = crcN c F (k + 1) := by
        show _ = crcUp (crcN c F k) (F k)
        rw [hc2, hxl, HH.out, nib_nib, HX.out, HC.out]
      rw [hfin] at hs2
      clear hc2 hxl hiy i2 hfin
      go_wp2_with fail
      have hkw := next64 hc hm hlt
      go_roundw
      case rel => exact ⟨k + 1, hlt, rfl, next_val hkw, trivial⟩
      case measure => exact next_less hlt hkw
    · obtain rfl : k = n := by omega
      go_wp2_with fail
      go_returns
      exact ⟨rfl, by (repeat' (first | (with_reducible exact Below.refl _ _) | (with_reducible assumption) | (with_reducible refine Below.alloc ?_ ?_ _) | (with_reducible refine Below.drew ?_) | (with_reducible refine Below.setCell ?_ ?_ _) | (with_reducible refine after ?_ (below_regrown _ _ _)) | (refine after ?_ (by with_reducible assumption)) | go_size))⟩
end Go.Proofs.YtmbccnioijokfaaGreatDoor

namespace Go.Proofs.YtmbccnioijokfaaGreatDoor
open Go
set_option maxRecDepth 100000
theorem topFrozen_and2 {a b : Bool} (ha : a = true) (hb : b = true) : (a && b) = true := by rw [ha, hb]; rfl
theorem topFrozen_k_wf : (Rows.topFrozenRow.wf (OpenSpec.ofChange (OpenSpec.ofChange Rows.topFrozenSpec).bare)) = true := by kernel_rfl
theorem topFrozen_k_laidOut : (laidOutB Tryz.pinned.checked.prog) = true := by kernel_rfl
theorem topFrozen_k_mapsRowed : (mapsRowed Tryz.pinned.checked.prog) = true := by kernel_rfl
theorem topFrozen_k_params : (Tryz.f5.params.all (Tryz.pinned.checked.prog.readableRec ·)) = true := by kernel_rfl
theorem topFrozen_k_namedTie : (namedTie Tryz.pinned.checked.prog Rows.topFrozenRow.named (OpenSpec.ofChange Rows.topFrozenSpec).bare.vars) = true := by kernel_rfl
theorem topFrozen_k_stops : ((Rows.topFrozenRow.stops == [])) = true := by kernel_rfl
theorem topFrozen_k_pstops : ((Tryz.pinned.checked.prog.stops == [])) = true := by kernel_rfl
theorem topFrozen_k_knobs : ((Rows.topFrozenRow.knobs == [])) = true := by kernel_rfl
theorem topFrozen_k_pknobs : ((Tryz.pinned.checked.prog.stopKnobs == [])) = true := by kernel_rfl
theorem topFrozen_k_inPlace : ((Rows.topFrozenRow.inPlace == Tryz.pinned.checked.prog.inPlace 5)) = true := by kernel_rfl
theorem topFrozen_k_unfollowed : ((Rows.topFrozenRow.unfollowed == Tryz.pinned.checked.prog.unfollowed 5)) = true := by kernel_rfl
theorem topFrozen_k_recurses : ((Rows.topFrozenRow.recurses == Tryz.pinned.checked.prog.recurses 5)) = true := by kernel_rfl
theorem topFrozen_k_named : ((Rows.topFrozenRow.named == Tryz.pinned.checked.prog.varsNamed 5)) = true := by kernel_rfl
theorem topFrozen_k_maps : ((Rows.topFrozenRow.maps == (Tryz.f5.params.toList ++ (OpenSpec.ofChange Rows.topFrozenSpec).bare.plain.varTypes Tryz.pinned.checked.prog).any (Tryz.pinned.checked.prog.mapsRec ·))) = true := by kernel_rfl
theorem topFrozen_k_ifaces : ((Rows.topFrozenRow.ifaces == (Tryz.f5.params.toList ++ (OpenSpec.ofChange Rows.topFrozenSpec).bare.plain.varTypes Tryz.pinned.checked.prog).any (Tryz.pinned.checked.prog.ifacesRec ·))) = true := by kernel_rfl
theorem topFrozen_k_mapsOut : ((Rows.topFrozenRow.mapsOut == Tryz.pinned.checked.prog.mapsAmong Tryz.f5.resultTypes.toList)) = true := by kernel_rfl
theorem topFrozen_k_loops : ((Rows.topFrozenRow.loops == (Tryz.f5.params.toList ++ (OpenSpec.ofChange Rows.topFrozenSpec).bare.plain.varTypes Tryz.pinned.checked.prog).any (Tryz.pinned.checked.prog.loopsFrom ·))) = true := by kernel_rfl
theorem topFrozen_k_wide : ((Rows.topFrozenRow.wideKeys == (Tryz.f5.params.toList ++ (OpenSpec.ofChange Rows.topFrozenSpec).bare.plain.varTypes Tryz.pinned.checked.prog ++ Tryz.f5.resultTypes.toList).any (Tryz.pinned.checked.prog.wideKeysFrom ·))) = true := by kernel_rfl
theorem topFrozen_k_vars : ((OpenSpec.ofChange Rows.topFrozenSpec).bare.vars.all (Tryz.pinned.checked.prog.varReadable ·)) = true := by kernel_rfl
theorem topFrozen_k_results : (Tryz.f5.resultTypes.all (fun t => Tryz.pinned.checked.prog.readableRec t && decide (t < Tryz.pinned.checked.prog.types.size))) = true := by kernel_rfl
theorem topFrozen_k_ifacesOut : ((Rows.topFrozenRow.ifacesOut == Tryz.f5.resultTypes.toList.any (Tryz.pinned.checked.prog.ifacesRec ·))) = true := by kernel_rfl
theorem topFrozen_k_loopsOut : ((Rows.topFrozenRow.loopsOut == Tryz.f5.resultTypes.toList.any (Tryz.pinned.checked.prog.loopsFrom ·))) = true := by kernel_rfl
theorem topFrozen_k_plainKeys : ((Rows.topFrozenRow.plainKeys == Tryz.pinned.checked.prog.plainKeys)) = true := by kernel_rfl
theorem topFrozen_k_short : (Rows.topFrozenRow.shortTexts.isNone) = true := by kernel_rfl
theorem topFrozen_k_heard : (Tryz.pinned.checked.prog.stopsHeard) = true := by kernel_rfl
theorem topFrozen_k_mayEnter : (Tryz.pinned.checked.prog.mayEnter) = true := by kernel_rfl
theorem topFrozen_k_lifts : ((Rows.topFrozenRow.lifted == Tryz.pinned.checked.prog.liftsFinal)) = true := by kernel_rfl
theorem topFrozen_k_make : ((Tryz.pinned.checked.prog.make == some Rows.topFrozenRow.make)) = true := by kernel_rfl
theorem topFrozen_k_kinds : ((Rows.topFrozenRow.kinds == (if Rows.topFrozenRow.domain.isEmpty then [] else Tryz.f5.params.toList.map fun t => match Tryz.pinned.checked.prog.underlying t with | some (.int k) => some k | _ => none))) = true := by kernel_rfl
theorem topFrozen_k_pinned : ((Rows.topFrozenRow.pinned == Rows.topFrozenRow.pinnedBy)) = true := by kernel_rfl
theorem topFrozen_k_veiled : ((Rows.topFrozenRow.veiled == (Tryz.f5.params.toList ++ (OpenSpec.ofChange Rows.topFrozenSpec).bare.plain.varTypes Tryz.pinned.checked.prog ++ Tryz.f5.resultTypes.toList).any (Tryz.pinned.checked.prog.veiledRec ·))) = true := by kernel_rfl
theorem topFrozen_k_veiledFits : (Rows.topFrozenRow.veiledFits Tryz.pinned.checked.prog Tryz.f5.params.toList (Tryz.f5.params.toList ++ (OpenSpec.ofChange Rows.topFrozenSpec).bare.plain.varTypes Tryz.pinned.checked.prog ++ Tryz.f5.resultTypes.toList)) = true := by kernel_rfl
theorem topFrozen_closed : joinedFacts Tryz.pinned.checked.prog 5 Tryz.f5 (OpenSpec.ofChange Rows.topFrozenSpec).bare Rows.topFrozenRow = true :=
  topFrozen_and2 (topFrozen_and2 (topFrozen_and2 (topFrozen_and2 (topFrozen_and2 (topFrozen_and2 (topFrozen_and2 (topFrozen_and2 (topFrozen_and2 (topFrozen_and2 (topFrozen_and2 (topFrozen_and2 (topFrozen_and2 (topFrozen_and2 (topFrozen_and2 (topFrozen_and2 (topFrozen_and2 (topFrozen_and2 (topFrozen_and2 (topFrozen_and2 (topFrozen_and2 (topFrozen_and2 (topFrozen_and2 (topFrozen_and2 (topFrozen_and2 (topFrozen_and2 (topFrozen_and2 (topFrozen_and2 (topFrozen_and2 (topFrozen_and2 (topFrozen_and2 (topFrozen_k_wf) topFrozen_k_laidOut) topFrozen_k_mapsRowed) topFrozen_k_params) topFrozen_k_namedTie) topFrozen_k_stops) topFrozen_k_pstops) topFrozen_k_knobs) topFrozen_k_pknobs) topFrozen_k_inPlace) topFrozen_k_unfollowed) topFrozen_k_recurses) topFrozen_k_named) topFrozen_k_maps) topFrozen_k_ifaces) topFrozen_k_mapsOut) topFrozen_k_loops) topFrozen_k_wide) topFrozen_k_vars) topFrozen_k_results) topFrozen_k_ifacesOut) topFrozen_k_loopsOut) topFrozen_k_plainKeys) topFrozen_k_short) topFrozen_k_heard) topFrozen_k_mayEnter) topFrozen_k_lifts) topFrozen_k_make) topFrozen_k_kinds) topFrozen_k_pinned) topFrozen_k_veiled) topFrozen_k_veiledFits
theorem topFrozen_named : Tryz.pinned.checked.prog.funcNamed Rows.topFrozenRow.func = some 5 := by kernel_rfl
end Go.Proofs.YtmbccnioijokfaaGreatDoor

namespace Go.Proofs.YtmbccnioijokfaaGreatDoor
open Go.RowKit Go.Maps
abbrev SL := Option Addr × Nat × Nat
def slV (s : SL) : Value := .slice s.1 s.2.1 s.2.2
def RS : Value → Option (DataW SL × List MemPlace)
  | .slice q n c => some (.held (q, n, c), [])
  | _ => none
theorem RS_mk (s : SL) : RS (slV s) = some (.held s, []) := rfl
theorem RS_inv {v : Value} {y : DataW SL × List MemPlace} (h : RS v = some y) : ∃ s : SL, v = slV s ∧ y = (.held s, []) := by
  cases v <;> simp [RS] at h
  rename_i q n c
  exact ⟨(q, n, c), rfl, h.symm⟩
def DMl (l : List (Int × SL)) : List (Lit × DataW SL) := l.map fun p => (Lit.int .i64 p.1, DataW.held p.2)
def DM (l : List (Int × SL)) : DataW SL := .map (DMl l)
theorem same_i (a b : Int) : (Lit.int .i64 a).sameKey (.int .i64 b) = decide (a = b) := by simp [Lit.sameKey]
theorem before_i (a b : Int) : (Lit.int .i64 a).before (.int .i64 b) = decide (a < b) := by simp [Lit.before]
theorem DMl_strike (k : Int) (l : List (Int × SL)) : (DMl l).filter (fun p => !p.1.sameKey (.int .i64 k)) = DMl (l.filter fun p => !decide (p.1 = k)) := by
  unfold DMl
  rw [List.filter_map]
  congr 1
  apply List.filter_congr
  intro p _
  simp [same_i]
theorem DMl_insert (k : Int) (s : SL) : ∀ {l : List (Int × SL)}, (∀ p ∈ l, p.1 ≠ k) → DataW.insert (.int .i64 k, .held s) (DMl l) = DMl (putL l (k, s))
  | [], _ => rfl
  | x :: r, h => by
    have hx := h x List.mem_cons_self
    show DataW.insert _ ((Lit.int .i64 x.1, DataW.held x.2) :: DMl r) = _
    unfold DataW.insert putL
    rw [before_i]
    dsimp only
    by_cases a : k < x.1
    · rw [if_pos (by simpa using a), if_pos a]; rfl
    · rw [if_neg (by simpa using a), if_neg a, if_neg hx, DMl_insert k s (fun p hp => h p (List.mem_cons_of_mem _ hp))]
      rfl
theorem putL_strike (k : Int) (s : SL) : ∀ {l : List (Int × SL)}, Rise l → putL (l.filter fun p => !decide (p.1 = k)) (k, s) = putL l (k, s)
  | [], _ => rfl
  | x :: r, h => by
    obtain ⟨h1, h2⟩ := rise_cons.1 h
    by_cases a : x.1 = k
    · have e : (x :: r).filter (fun p => !decide (p.1 = k)) = r := by
        rw [List.filter_cons_of_neg (by simp [a]), List.filter_eq_self]
        intro p hp
        have := h1 p hp
        simp; omega
      rw [e]
      show putL r (k, s) = if k < x.1 then _ else if x.1 = k then (k, s) :: r else _
      rw [if_neg (by omega), if_pos a]
      cases r with
      | nil => rfl
      | cons y r =>
        have := h1 y List.mem_cons_self
        show (if k < y.1 then _ else _) = _
        rw [if_pos (by omega)]
    · rw [List.filter_cons_of_pos (by simp [a])]
      show (if k < x.1 then _ else if x.1 = k then _ else _) = if k < x.1 then _ else if x.1 = k then _ else _
      by_cases b : k < x.1
      · rw [if_pos b, if_pos b]
        congr 2
        rw [List.filter_eq_self]
        intro p hp
        have := h1 p hp
        simp; omega
      · rw [if_neg b, if_neg a, if_neg b, if_neg a, putL_strike k s h2]
theorem put_DM {l : List (Int × SL)} (h : Rise l) (k : Int) (s : SL) : (DM l).put (.int .i64 k) (.held s) = DM (putL l (k, s)) := by
  show DataW.map (DataW.insert (.int .i64 k, .held s) ((DMl l).filter fun p => !p.1.sameKey (.int .i64 k))) = .map (DMl (putL l (k, s)))
  rw [DMl_strike, DMl_insert k s (fun p hp => by simpa using (List.mem_filter.1 hp).2), putL_strike k s h]
theorem find_DM (k : Int) : ∀ l : List (Int × SL), ((DMl l).find? fun p => p.1.sameKey (.int .i64 k)) = (l.find? fun p => p.1 == k).map fun p => (Lit.int .i64 p.1, DataW.held p.2)
  | [] => rfl
  | x :: r => by
    show (((Lit.int .i64 x.1, DataW.held x.2) :: DMl r).find? _) = _
    by_cases a : x.1 = k
    · rw [List.find?_cons_of_pos (by simp [same_i, a]), List.find?_cons_of_pos (by simp [a])]; rfl
    · rw [List.find?_cons_of_neg (by simp [same_i, a]), List.find?_cons_of_neg (by simp [a]), find_DM k r]
theorem atKey_DM (l : List (Int × SL)) (k : Int) (z : DataW SL) : (DM l).atKey (.int .i64 k) z = match getL l k with | some s => .held s | none => z := by
  unfold DM getL
  simp only [DataW.atKey, find_DM]
  cases l.find? fun p => p.1 == k <;> rfl
theorem has_DM (k : Int) : ∀ l : List (Int × SL), Maps.has (DM l) (.int .i64 k) = (getL l k).isSome
  | [] => rfl
  | x :: r => by
    have ih := has_DM k r
    have e : Maps.has (DM (x :: r)) (.int .i64 k) = ((Lit.int .i64 x.1).sameKey (.int .i64 k) || Maps.has (DM r) (.int .i64 k)) := rfl
    rw [e, ih, getL_cons, same_i]
    by_cases a : x.1 = k <;> simp [a]
theorem map_lt {P : Program} {w : World} {k : TypeId} {b n : Nat} {D : DataW SL} (h : w.ownsMap P k RS b n D) : ∀ cs t u, w.heap[b]? ≠ some (.cells cs t u) := by
  obtain ⟨es, clock, hb, _⟩ := h
  intro cs t u e
  rw [hb] at e
  cases e
theorem map_kept {P : Program} {w w' : World} {k : TypeId} {b n : Nat} {D : DataW SL} (h : w.ownsMap P k RS b n D) (hk : w'.heap[b]? = w.heap[b]?) : w'.ownsMap P k RS b n D := by
  obtain ⟨es, clock, hb, r⟩ := h
  exact ⟨es, clock, hk.trans hb, r⟩
def bsOf (F : Nat → B8) (n : Nat) : Bs := (List.range n).map F
theorem bsOf_len (F : Nat → B8) (n : Nat) : (bsOf F n).length = n := by simp [bsOf]
theorem bsOf_take (F : Nat → B8) {k n : Nat} (h : k ≤ n) : (bsOf F n).take k = bsOf F k := by simp [bsOf, ← List.map_take, List.take_range, Nat.min_eq_left h]
theorem bsOf_at {F : Nat → B8} {n i : Nat} (h : i < n) : (bsOf F n)[i]? = some (F i) := by simp [bsOf, h]
theorem bsOf_eq {F G : Nat → B8} {n m : Nat} : bsOf F n = bsOf G m ↔ n = m ∧ ∀ i, i < n → F i = G i := by
  constructor
  · intro h
    have hl := congrArg List.length h
    rw [bsOf_len, bsOf_len] at hl
    subst hl
    refine ⟨rfl, fun i hi => ?_⟩
    have : (bsOf F n)[i]? = (bsOf G n)[i]? := by rw [h]
    rw [bsOf_at hi, bsOf_at hi] at this
    exact Option.some.inj this
  · rintro ⟨rfl, h⟩
    unfold bsOf
    exact List.map_congr_left fun i hi => h i (by simpa using hi)
def rdB (w : World) (s : SL) : Bs := match s.1 with
  | some a => bsOf (fun i => byteAt w ⟨a.block, a.off + i, none⟩) s.2.1
  | none => []
structure GoodS (w : World) (base : Nat) (s : SL) : Prop where
  cap : s.2.1 ≤ s.2.2
  most : s.2.2 ≤ maxLen
  lies : 0 < s.2.1 → ∃ g o F, s.1 = some ⟨g, o, none⟩ ∧ Byt w g o s.2.1 F ∧ (g < base ∨ ∃ cur, Blk w g 5 cur)
theorem byteAt_n8 {w : World} {p : Addr} {x : B8} (h : w.cell? p = some (.int .u8 (n8 x))) : byteAt w p = x := by
  rw [byteAt_eq h]
  unfold n8
  simp
theorem rdB_of {w : World} {g o n c : Nat} {F : Nat → B8} (h : Byt w g o n F) : rdB w (some ⟨g, o, none⟩, n, c) = bsOf F n := by
  unfold rdB
  dsimp only
  rw [bsOf_eq]
  exact ⟨rfl, fun i hi => byteAt_n8 (h i hi)⟩
theorem rdB_zero (w : World) (q : Option Addr) (c : Nat) : rdB w (q, 0, c) = [] := by
  unfold rdB
  cases q <;> rfl
theorem rdB_q {w : World} {q : Option Addr} {n c : Nat} {F : Nat → B8} (h : Byq w q n F) : rdB w (q, n, c) = bsOf F n := by
  rcases Nat.eq_zero_or_pos n with h0 | h0
  · subst h0; rw [rdB_zero]; rfl
  · obtain ⟨g, o, rfl, hB⟩ := h h0
    exact rdB_of hB
theorem GoodS.byq {w : World} {base : Nat} {s : SL} (h : GoodS w base s) : Byq w s.1 s.2.1 (fun i => (rdB w s).getD i 0) := fun h0 => by
  obtain ⟨g, o, F, hq, hB, -⟩ := h.lies h0
  refine ⟨g, o, hq, fun i hi => ?_⟩
  have e : rdB w s = bsOf F s.2.1 := by
    obtain ⟨q, n, c⟩ := s
    dsimp only at hq hB ⊢
    rw [hq]; exact rdB_of hB
  dsimp only
  rw [e, List.getD_eq_getElem?_getD, bsOf_at hi]
  exact hB i hi
theorem GoodS.len {w : World} {base : Nat} {s : SL} (h : GoodS w base s) : (rdB w s).length = s.2.1 := by
  rcases Nat.eq_zero_or_pos s.2.1 with h0 | h0
  · obtain ⟨q, n, c⟩ := s
    dsimp only at h0
    subst h0
    rw [rdB_zero]; rfl
  · obtain ⟨g, o, F, hq, hB, -⟩ := h.lies h0
    obtain ⟨q, n, c⟩ := s
    dsimp only at hq hB ⊢
    rw [hq, rdB_of hB, bsOf_len]
def ByteBlk (w : World) (base b : Nat) : Prop := b < base ∨ ∃ cur, Blk w b 5 cur
theorem GoodS.kept {w w' : World} {base : Nat} {s : SL} {K : Nat → Prop} (h : GoodS w base s) (hk : Kept K w w') (hK : ∀ b, ByteBlk w base b → K b) : GoodS w' base s ∧ rdB w' s = rdB w s := by
  have key : 0 < s.2.1 → ∃ g o F, s.1 = some ⟨g, o, none⟩ ∧ Byt w g o s.2.1 F ∧ Byt w' g o s.2.1 F ∧ (g < base ∨ ∃ cur, Blk w' g 5 cur) := fun h0 => by
    obtain ⟨g, o, F, hq, hB, hg⟩ := h.lies h0
    have hKg := hK g hg
    have hl : g < w.heap.size := hB.lt h0
    have e := hk.block g hl hKg
    refine ⟨g, o, F, hq, hB, fun i hi => ?_, hg.imp id fun ⟨cur, hc⟩ => ⟨cur, e.trans hc⟩⟩
    have := hB i hi
    unfold World.cell? at *
    dsimp only at *
    rw [e]
    exact this
  refine ⟨⟨h.cap, h.most, fun h0 => ?_⟩, ?_⟩
  · obtain ⟨g, o, F, hq, -, hB, hg⟩ := key h0
    exact ⟨g, o, F, hq, hB, hg⟩
  · rcases Nat.eq_zero_or_pos s.2.1 with h0 | h0
    · obtain ⟨q, n, c⟩ := s
      dsimp only at h0
      subst h0
      rw [rdB_zero, rdB_zero]
    · obtain ⟨g, o, F, hq, hB, hB', -⟩ := key h0
      obtain ⟨q, n, c⟩ := s
      dsimp only at hq hB hB'
      rw [hq, rdB_of hB, rdB_of hB']
theorem GoodS.on {w w' : World} {base : Nat} {s : SL} (h : GoodS w base s) (hb : Below w.heap.size w w') : GoodS w' base s ∧ rdB w' s = rdB w s := h.kept (K := fun _ => True) (Kept.of_below hb |>.mono fun _ _ => trivial) (fun _ _ => trivial)
theorem GoodS.own {w : World} {base b0 n : Nat} {F : Nat → B8} {v : Value} (h : w.ownsRow b0 5 1 v n (bl F n)) : ∃ s : SL, v = slV s ∧ s.2.1 = n ∧ GoodS w base s ∧ rdB w s = bsOf F n := by
  obtain ⟨q, cap, rfl, hc, hm, hq⟩ := own_byq h
  refine ⟨(q, n, cap), rfl, rfl, ⟨hc, hm, fun h0 => ?_⟩, rdB_q hq⟩
  obtain ⟨g, cap', cur, hv, hbg, C, -, -, -, hB⟩ := own_form h h0
  obtain ⟨rfl, -, -⟩ := Value.slice.inj hv
  exact ⟨g, 0, F, rfl, hB, .inr ⟨cur, C⟩⟩
def cont (w : World) (l : List (Int × SL)) : List (Int × Bs) := l.map fun p => (p.1, rdB w p.2)
def GoodL (w : World) (base : Nat) (l : List (Int × SL)) : Prop := ∀ p ∈ l, GoodS w base p.2
theorem cont_now (w : World) (s l : List (Int × SL)) : cont w (nowL s l) = nowL (cont w s) (cont w l) := map_now (rdB w) l s
theorem cont_get (w : World) (l : List (Int × SL)) (k : Int) : getL (cont w l) k = (getL l k).map (rdB w) := getL_map (rdB w) k l
theorem cont_len (w : World) (l : List (Int × SL)) : (cont w l).length = l.length := by simp [cont]
theorem cont_rise {w : World} {l : List (Int × SL)} (h : Rise (cont w l)) : Rise l := by
  unfold Rise cont at *
  rw [List.pairwise_map] at h
  exact h
theorem GoodL.put {w : World} {base : Nat} {l : List (Int × SL)} {k : Int} {s : SL} (h : GoodL w base l) (hs : GoodS w base s) : GoodL w base (putL l (k, s)) := fun p hp => by
  rcases mem_putL hp with rfl | hp
  · exact hs
  · exact h p hp
theorem GoodL.now {w : World} {base : Nat} {s l : List (Int × SL)} (h : GoodL w base s) (hl : GoodL w base l) : GoodL w base (nowL s l) := fun p hp => by
  rcases mem_now hp with hp | hp
  · exact h p hp
  · exact hl p hp
theorem GoodL.kept {w w' : World} {base : Nat} {l : List (Int × SL)} {K : Nat → Prop} (h : GoodL w base l) (hk : Kept K w w') (hK : ∀ b, ByteBlk w base b → K b) : GoodL w' base l ∧ cont w' l = cont w l :=
  ⟨fun p hp => ((h p hp).kept hk hK).1, List.map_congr_left fun p hp => by rw [((h p hp).kept hk hK).2]⟩
theorem GoodL.on {w w' : World} {base : Nat} {l : List (Int × SL)} (h : GoodL w base l) (hb : Below w.heap.size w w') : GoodL w' base l ∧ cont w' l = cont w l := h.kept (K := fun _ => True) (Kept.of_below hb |>.mono fun _ _ => trivial) (fun _ _ => trivial)
theorem GoodL.get {w : World} {base : Nat} {l : List (Int × SL)} (h : GoodL w base l) {k : Int} {s : SL} (hk : getL l k = some s) : GoodS w base s := by
  unfold getL at hk
  cases hf : l.find? fun p => p.1 == k with
  | none => rw [hf] at hk; cases hk
  | some p =>
    rw [hf] at hk
    obtain rfl : p.2 = s := by simpa using hk
    exact h p (List.mem_of_find?_eq_some hf)
end Go.Proofs.YtmbccnioijokfaaGreatDoor

namespace Go.Proofs.YtmbccnioijokfaaGreatDoor
open Go.RowKit Go.Maps
def mkE : List (Value × Value) → Nat → List MapEntry
  | [], _ => []
  | p :: l, k => { key := p.1, val := p.2, born := k } :: mkE l (k + 1)
theorem mkE_snoc : ∀ (l : List (Value × Value)) (k : Nat) (p : Value × Value), mkE (l ++ [p]) k = mkE l k ++ [{ key := p.1, val := p.2, born := k + l.length }]
  | [], _, _ => rfl
  | q :: l, k, p => by
    show _ :: mkE (l ++ [p]) (k + 1) = _
    rw [mkE_snoc l (k + 1) p]
    show _ = _ :: (mkE l (k + 1) ++ _)
    congr 3
    simp
    omega
def StrM (r : Nat) (l : List (Value × Value)) (w : World) : Prop := w.heap[r]? = some (.map (mkE l 0).toArray l.length)
theorem StrM.lt {r : Nat} {l : List (Value × Value)} {w : World} (h : StrM r l w) : r < w.heap.size := by
  unfold StrM at h
  exact (Array.getElem?_eq_some_iff.1 h).1
theorem StrM.on {r : Nat} {l : List (Value × Value)} {w w' : World} (h : StrM r l w) (hb : Below w.heap.size w w') : StrM r l w' := by
  have := h.lt
  unfold StrM at *
  rw [hb.block r this]
  exact h
section
variable {P : Program}
theorem run_ins {mty kt et : TypeId} {d : TypeDesc} {r : Nat} {l : List (Value × Value)} {k val : Value} {w : World} (hm : P.underlying mty = some (.map kt et)) (hk : P.underlying kt = some d) (hi : MapKept.IsKey d k) (h : StrM r l w) (hf : Instr.findNow d k (mkE l 0) 0 = some none) :
    ∃ w', (Instr.mapUpdate mty (.map (some r)) k val).run P w = .ok () w' ∧ StrM r (l ++ [(k, val)]) w' ∧ Kept (fun b => b ≠ r) w w' := by
  have hc : (Instr.checkKey false 10000 kt k).run P w = .ok () w := MapKept.run_checkKey hk hi false 9999
  have hb : w.heap[r]? = some (.map (mkE l 0).toArray l.length) := h
  have hr := h.lt
  refine ⟨{ w with heap := w.heap.setIfInBounds r (.map (mkE (l ++ [(k, val)]) 0).toArray (l ++ [(k, val)]).length) }, ?_, ?_, ?_⟩
  · have hpush : (mkE l 0).toArray.push { key := k, val := val, born := l.length } = (mkE (l ++ [(k, val)]) 0).toArray := by
      rw [mkE_snoc]
      simp
    have hll : (l ++ [(k, val)]).length = l.length + 1 := by simp
    rw [← hpush, hll]
    simp [Instr.mapUpdate, run_underlying hm, MapKept.run_getObj_map hb, hc, MapKept.run_findKey hk hf, MapKept.run_setObj_map _ hb, Result.andThen]
  · unfold StrM
    exact (MapKept.heap_set hb).1
  · exact ⟨rfl, rfl, rfl, by simp, fun b hb' hne => (MapKept.heap_set hb).2 b hne⟩
theorem wpList_insert {w : World} {ops : Array Oper} {rest : List Oper} {o : Oper} {a : Act} {Q : Exit → Act → World → Prop} (hg : o.guard = none) (m x v : Operand) (t : TypeId) (hop : o.op = Op.insert t m x v) (kt et : TypeId) (d : TypeDesc)
    (ht : P.underlying t = some (.map kt et)) (hk : P.underlying kt = some d) (r : Nat) (l : List (Value × Value)) (hm : a.eval m = .map (some r)) (h : StrM r l w) (k val : Value) (hx : a.eval x = k) (hv : a.eval v = val) (hi : MapKept.IsKey d k) (hf : Instr.findNow d k (mkE l 0) 0 = some none)
    (hK : ∀ w', StrM r (l ++ [(k, val)]) w' → Kept (fun b => b ≠ r) w w' → wpList P ops Q rest (a.put o.dst undef) w') :
    wpList P ops Q (o :: rest) a w := by
  refine wpList_plain hg fun K' hK' => ?_
  obtain ⟨w', hrun, r1, r2⟩ := run_ins (val := val) ht hk hi h hf
  unfold Oper.wp
  simp [execOp, hop, hm, hx, hv, hrun, Result.andThen]
  exact hK' _ _ (hK w' r1 r2)
theorem run_look {mty kt et : TypeId} {d : TypeDesc} {r : Nat} {l : List (Value × Value)} {k v : Value} {i : Nat} {w : World} (hm : P.underlying mty = some (.map kt et)) (hk : P.underlying kt = some d) (hi : MapKept.IsKey d k) (h : StrM r l w) (hf : Instr.findNow d k (mkE l 0) 0 = some (some (i, v))) :
    (Instr.lookup mty (.map (some r)) k false).run P w = .ok v w := by
  have hb : w.heap[r]? = some (.map (mkE l 0).toArray l.length) := h
  have hc : ∀ e, (Instr.checkKey e 10000 kt k).run P w = .ok () w := fun e => MapKept.run_checkKey hk hi e 9999
  simp [Instr.lookup, run_underlying hm, MapKept.run_getObj_map hb, hc, MapKept.run_findKey hk hf, Result.andThen]
theorem run_look0 {mty kt et : TypeId} {d : TypeDesc} {r : Nat} {l : List (Value × Value)} {k z : Value} {w : World} (hm : P.underlying mty = some (.map kt et)) (hk : P.underlying kt = some d) (hi : MapKept.IsKey d k) (h : StrM r l w) (hf : Instr.findNow d k (mkE l 0) 0 = some none) (hz : (zeroValue et).run P w = .ok z w) :
    (Instr.lookup mty (.map (some r)) k false).run P w = .ok z w := by
  have hb : w.heap[r]? = some (.map (mkE l 0).toArray l.length) := h
  have hc : ∀ e, (Instr.checkKey e 10000 kt k).run P w = .ok () w := fun e => MapKept.run_checkKey hk hi e 9999
  simp [Instr.lookup, run_underlying hm, MapKept.run_getObj_map hb, hc, MapKept.run_findKey hk hf, hz, Result.andThen]
theorem strM_new (w : World) : StrM w.heap.size [] (w.alloc (.map #[] 0)) := by
  show (w.heap.push (Obj.map #[] 0))[w.heap.size]? = _
  simp [mkE]
end
end Go.Proofs.YtmbccnioijokfaaGreatDoor

namespace Go.Proofs.YtmbccnioijokfaaGreatDoor
open Go.RowKit
theorem first16 : (65535 : Int) = n16 0xFFFF#16 := by decide
theorem start_c (w : World) : Calls Tryz.prog 328 #[] w fun r w' => r = .returned (.int .u16 (n16 0xFFFF#16)) ∧ w = w' := by
  go_enter Tryz.func328, Tryz.ntmps328
  go_wp2_with fail
  go_returns
  exact ⟨ret_i first16, rfl⟩
def crcO (F : Nat → B8) (n : Nat) : B16 := crcN 0xFFFF#16 F n
theorem crcof_c (q : Option Addr) (n cap : Nat) (F : Nat → B8) (hc : n ≤ cap) (hm : cap ≤ maxLen) (w : World) (hq : Byq w q n F) :
    Calls Tryz.prog 293 #[.slice q n cap] w fun r w' => r = .returned (.int .u16 (n16 (crcO F n))) ∧ Below w.heap.size w w' := by
  go_enter Tryz.func293, Tryz.ntmps293
  go_wp2_with fail
  refine (start_c _).mono ?_; rintro e w1 ⟨rfl, rfl⟩
  go_wp2_with fail
  refine (crcwith_c _ q n cap F hc hm _ hq).mono ?_; rintro e w1 ⟨rfl, hb⟩
  go_wp2_with fail
  go_returns
  exact ⟨rfl, by (repeat' (first | (with_reducible exact Below.refl _ _) | (with_reducible assumption) | (with_reducible refine Below.alloc ?_ ?_ _) | (with_reducible refine Below.drew ?_) | (with_reducible refine Below.setCell ?_ ?_ _) | (with_reducible refine after ?_ (below_regrown _ _ _)) | (refine after ?_ (by with_reducible assumption)) | go_size))⟩
end Go.Proofs.YtmbccnioijokfaaGreatDoor

namespace Go.Proofs.YtmbccnioijokfaaGreatDoor
open Go.RowKit
theorem good_c (q : Option Addr) (n c : Nat) (F : Nat → B8) (hc : n ≤ c) (hm : c ≤ maxLen) (w : World) (hq : Byq w q n F) (b : Bool) (hb : (decide (2 ≤ n) && (crcO F n == 0#16)) = b) :
    Calls Tryz.prog 290 #[.slice q n c] w fun r w' => r = .returned (.bool b) ∧ Below w.heap.size w w' := by
  by_cases h2 : 2 ≤ n
  · have h2' : (2 : Int) ≤ n := by omega
    have e : (n16 (crcO F n) == 0) = b := by
      rw [← hb, Bool.eq_iff_iff]
      simp only [beq_iff_eq, Bool.and_eq_true, decide_eq_true_eq]
      rw [show (0 : Int) = n16 0#16 by decide, n16_eq]
      exact ⟨fun h => ⟨h2, h⟩, fun h => h.2⟩
    go_enter Tryz.func290, Tryz.ntmps290
    go_wp2_with fail
    refine (crcof_c q n c F hc hm _ hq).mono ?_; rintro e w1 ⟨rfl, hb⟩
    generalize n16 (crcO F n) = z at *
    go_wp2_with fail
    go_returns
    exact ⟨rfl, hb⟩
  · have h2' : ¬ (2 : Int) ≤ n := by omega
    obtain rfl : b = false := by rw [← hb]; simp; omega
    go_enter Tryz.func290, Tryz.ntmps290
    go_wp2_with fail
    go_returns
    exact ⟨rfl, Below.refl _ _⟩
def okF (F : Nat → B8) (n : Nat) : Prop := 2 ≤ n ∧ crcO F n = 0#16
theorem good_t (q : Option Addr) (n c : Nat) (F : Nat → B8) (hc : n ≤ c) (hm : c ≤ maxLen) (w : World) (hq : Byq w q n F) (h : okF F n) :
    Calls Tryz.prog 290 #[.slice q n c] w fun r w' => r = .returned (.bool true) ∧ Below w.heap.size w w' :=
  good_c q n c F hc hm w hq true (by simp [h.1, h.2])
theorem good_f (q : Option Addr) (n c : Nat) (F : Nat → B8) (hc : n ≤ c) (hm : c ≤ maxLen) (w : World) (hq : Byq w q n F) (h : ¬ okF F n) :
    Calls Tryz.prog 290 #[.slice q n c] w fun r w' => r = .returned (.bool false) ∧ Below w.heap.size w w' :=
  good_c q n c F hc hm w hq false (by
    unfold okF at h
    rw [Bool.eq_false_iff]
    simpa using h)
theorem take_ok (q : Option Addr) (n c : Nat) (F : Nat → B8) (hc : n ≤ c) (hm : c ≤ maxLen) (h47 : n ≤ 1000000) (w : World) (hq : Byq w q n F) (h : okF F n) :
    Calls Tryz.prog 215 #[.slice q n c] w fun r w' => ∃ v, r = .returned (.tuple #[v, .int .i64 0]) ∧ w'.ownsRow w.heap.size 5 1 v (n - 2) (bl F (n - 2)) ∧ Below w.heap.size w w' := by
  have h2 : 2 ≤ n := h.1
  have h2' : ¬ (n : Int) < 2 := by omega
  have h3 : ((n : Int) - 2) = ((n - 2 : Nat) : Int) := by omega
  have h4 : n - 2 ≤ c := by omega
  have h5 : (n : Int) ≤ 1000000 := by omega
  have hG := fun w hq => good_t q n c F hc hm w hq h
  have hC := fun w hq => clone_c q (n - 2) c F h4 (by omega) w hq
  clear h
  go_enter Tryz.func215, Tryz.ntmps215
  go_wp2_with fail
  refine (hG _ hq).mono ?_; rintro e w1 ⟨rfl, H⟩
  replace hq := (hq.on H).le (Nat.sub_le n 2)
  go_wp2_with fail
  refine (hC _ hq).mono ?_
  rintro e w2 ⟨v, rfl, hown, hb⟩
  replace hown := own_low hown H.size
  replace H := after H hb
  go_wp2_with fail
  go_returns
  exact ⟨v, rfl, hown, H⟩
theorem take_no (q : Option Addr) (n c : Nat) (F : Nat → B8) (hc : n ≤ c) (hm : c ≤ maxLen) (w : World) (hq : Byq w q n F) (h : ¬ okF F n) (e : Int) (he : e = if n < 2 then 3 else 4) :
    Calls Tryz.prog 215 #[.slice q n c] w fun r w' => r = .returned (.tuple #[.slice none 0 0, .int .i64 e]) ∧ Below w.heap.size w w' := by
  subst he
  by_cases h2 : n < 2
  · have h2' : (n : Int) < 2 := by omega
    rw [if_pos h2]
    go_enter Tryz.func215, Tryz.ntmps215
    go_wp2_with fail
    go_returns
    exact ⟨rfl, Below.refl _ _⟩
  · have h2' : ¬ (n : Int) < 2 := by omega
    rw [if_neg h2]
    have hG := fun w hq => good_f q n c F hc hm w hq h
    clear h
    go_enter Tryz.func215, Tryz.ntmps215
    go_wp2_with fail
    refine (hG _ hq).mono ?_; rintro e w1 ⟨rfl, H⟩
    go_wp2_with fail
    go_returns
    exact ⟨rfl, H⟩
end Go.Proofs.YtmbccnioijokfaaGreatDoor

namespace Go.Proofs.YtmbccnioijokfaaGreatDoor
open Go.RowKit
attribute [local go_sem] Oper.semAt_some
def h1V (s x z : Int) : Int := IntKind.u64.wrap (IntKind.u64.wrap (IntKind.u64.wrap (IntKind.u64.wrap s * 11400714819323198485) + IntKind.u64.wrap (IntKind.u64.wrap x * 14029467366897019727)) + IntKind.u64.wrap (IntKind.u64.wrap z * 1609587929392839161))
def h2V (s x z : Int) : Int := IntKind.u64.wrap (bits .xor .u64 (h1V s x z) (h1V s x z / 536870912) * 13787848793156543929)
def hashV (s x z : Int) : Int := bits .xor .u64 (h2V s x z) (h2V s x z / 4294967296)
set_option maxRecDepth 100000 in
set_option maxHeartbeats 1000000 in
theorem ghash_c (s x z : Int) (w : World) : Calls Tryz.prog 292 #[.int .i64 s, .int .i64 x, .int .i64 z] w fun r w' => r = .returned (.int .u64 (hashV s x z)) ∧ w = w' := by
  go_enter Tryz.func292, Tryz.ntmps292
  go_wp2_with fail
  go_returns
  exact ⟨ret_i (by unfold hashV h2V h1V; rfl), rfl⟩
theorem wrapU_bd (n : Int) : 0 ≤ IntKind.u64.wrap n ∧ IntKind.u64.wrap n ≤ 18446744073709551615 := by
  rw [IntKind.wrap_u64]; omega
theorem hashV_bd (s x z : Int) : 0 ≤ hashV s x z ∧ hashV s x z ≤ 18446744073709551615 := wrapU_bd _
def cornV (s a b near : Int) : Int := hashV s a b % 9 * near
theorem cornV_bd (s a b near : Int) (h : 0 ≤ near ∧ near ≤ 64) : 0 ≤ cornV s a b near ∧ cornV s a b near ≤ 8 * near := by
  unfold cornV
  have h1 : 0 ≤ hashV s a b % 9 ∧ hashV s a b % 9 ≤ 8 := by omega
  generalize hashV s a b % 9 = m at *
  exact ⟨Int.mul_nonneg h1.1 h.1, Int.mul_le_mul_of_nonneg_right h1.2 h.1⟩
set_option maxRecDepth 100000 in
set_option maxHeartbeats 1000000 in
theorem gcorn_c (s a b near : Int) (g : Nat) (w : World) (hn : 0 ≤ near ∧ near ≤ 64) (hB : Blk w g 3 #[.int .i64 s]) :
    Calls Tryz.prog 291 #[.int .i64 a, .int .i64 b, .int .i64 near, .pointer (some ⟨g, 0, none⟩)] w fun r w' => r = .returned (.int .i64 (cornV s a b near)) ∧ w = w' := by
  obtain ⟨k0, -⟩ := hB.c1
  have hh := hashV_bd s a b
  have HH := Lib.hid (ghash_c s a b w)
  have HB := Lib.hid (cornV_bd s a b near hn)
  unfold cornV at *
  generalize hashV s a b = h at *
  have h9 : 0 ≤ h % 9 ∧ h % 9 ≤ 8 := by omega
  have hb := HB.out
  have hb1 : -9223372036854775808 ≤ h % 9 * near ∧ h % 9 * near ≤ 9223372036854775807 := by omega
  have h10 : 0 ≤ h % 9 ∧ h % 9 ≤ 9223372036854775807 := by omega
  go_enter Tryz.func291, Tryz.ntmps291
  go_wp2_with (go_at_call 292; refine HH.out.mono ?_; rintro e_ w1 ⟨rfl, rfl⟩)
  go_returns
  exact ⟨rfl, rfl⟩
def groundN (s x z : Int) : Int := cornV s (x / 8) (z / 8) ((8 - x % 8) * (8 - z % 8)) + cornV s (x / 8 + 1) (z / 8) (x % 8 * (8 - z % 8)) + cornV s (x / 8) (z / 8 + 1) ((8 - x % 8) * (z % 8)) + cornV s (x / 8 + 1) (z / 8 + 1) (x % 8 * (z % 8))
def groundV (s x z : Int) : Int := 6 + groundN s x z / 64
theorem mul_bd8 {a b : Int} (ha : 0 ≤ a ∧ a ≤ 8) (hb : 0 ≤ b ∧ b ≤ 8) : 0 ≤ a * b ∧ a * b ≤ 64 := by
  obtain ⟨n, rfl⟩ := Int.eq_ofNat_of_zero_le ha.1
  have : n ≤ 8 := by omega
  rcases (by omega : n = 0 ∨ n = 1 ∨ n = 2 ∨ n = 3 ∨ n = 4 ∨ n = 5 ∨ n = 6 ∨ n = 7 ∨ n = 8) with rfl | rfl | rfl | rfl | rfl | rfl | rfl | rfl | rfl <;> omega
theorem groundN_bd (s x z : Int) : 0 ≤ groundN s x z ∧ groundN s x z ≤ 512 := by
  unfold groundN
  have hu : 0 ≤ x % 8 ∧ x % 8 < 8 := by omega
  have hv : 0 ≤ z % 8 ∧ z % 8 < 8 := by omega
  generalize x % 8 = u at *
  generalize z % 8 = v at *
  have e : (8 - u) * (8 - v) + u * (8 - v) + (8 - u) * v + u * v = 64 := by
    rw [Int.sub_mul, Int.mul_sub, Int.mul_sub, Int.sub_mul]; omega
  have p1 := mul_bd8 (a := 8 - u) (b := 8 - v) (by omega) (by omega)
  have p2 := mul_bd8 (a := u) (b := 8 - v) (by omega) (by omega)
  have p3 := mul_bd8 (a := 8 - u) (b := v) (by omega) (by omega)
  have p4 := mul_bd8 (a := u) (b := v) (by omega) (by omega)
  have q1 := cornV_bd s (x / 8) (z / 8) _ p1
  have q2 := cornV_bd s (x / 8 + 1) (z / 8) _ p2
  have q3 := cornV_bd s (x / 8) (z / 8 + 1) _ p3
  have q4 := cornV_bd s (x / 8 + 1) (z / 8 + 1) _ p4
  omega
theorem groundV_bd (s x z : Int) : 6 ≤ groundV s x z ∧ groundV s x z ≤ 14 := by
  have := groundN_bd s x z
  unfold groundV
  omega
set_option maxRecDepth 100000 in
set_option maxHeartbeats 4000000 in
theorem gground_c (s x z : Int) (hx : -1000000000000 ≤ x ∧ x ≤ 1000000000000) (hz : -1000000000000 ≤ z ∧ z ≤ 1000000000000) (w : World) : Calls Tryz.prog 219 #[.int .i64 s, .int .i64 x, .int .i64 z] w fun r w' => r = .returned (.int .i64 (groundV s x z)) ∧ Below w.heap.size w w' := by
  obtain ⟨W, hW⟩ : ∃ W, W = w.alloc (.cells #[.int .i64 s] 3) := ⟨_, rfl⟩
  have H := Lib.hid (show Below w.heap.size w W from by rw [hW]; go_grown)
  have X : Blk W w.heap.size 3 #[.int .i64 s] := by rw [hW]; exact Blk.new' rfl
  have hN := groundN_bd s x z
  have HG := Lib.hid fun a b near hn => gcorn_c s a b near w.heap.size W hn X
  have HC := Lib.hid fun a b near (hn : 0 ≤ near ∧ near ≤ 64) => cornV_bd s a b near hn
  have HD := Lib.hid fun a (h : In64 a) (w : World) => cdiv8_c a h w
  have HM := Lib.hid fun a (h : In64 a) (w : World) => cmod8_c a h w
  have hu : 0 ≤ x % 8 ∧ x % 8 < 8 := by omega
  have hv : 0 ≤ z % 8 ∧ z % 8 < 8 := by omega
  have hi : -1000000000000 ≤ x / 8 ∧ x / 8 ≤ 1000000000000 := by omega
  have hk : -1000000000000 ≤ z / 8 ∧ z / 8 ≤ 1000000000000 := by omega
  have hx6 : In64 x := by unfold In64; omega
  have hz6 : In64 z := by unfold In64; omega
  unfold groundV groundN at *
  obtain ⟨G, hG⟩ : ∃ G, 6 + (cornV s (x / 8) (z / 8) ((8 - x % 8) * (8 - z % 8)) + cornV s (x / 8 + 1) (z / 8) (x % 8 * (8 - z % 8)) + cornV s (x / 8) (z / 8 + 1) ((8 - x % 8) * (z % 8)) + cornV s (x / 8 + 1) (z / 8 + 1) (x % 8 * (z % 8))) / 64 = G := ⟨_, rfl⟩
  rw [hG]
  have HGG := Lib.hid hG
  clear X hG
  go_enter Tryz.func219, Tryz.ntmps219
  go_upto_region 1 with (fail)
  rw [← hW]
  clear hW
  go_wp2_with fail
  refine (HD.out x hx6 _).mono ?_; rintro e_ w1 ⟨rfl, rfl⟩
  go_wp2_with fail
  refine (HD.out z hz6 _).mono ?_; rintro e_ w1 ⟨rfl, rfl⟩
  go_wp2_with fail
  refine (HM.out x hx6 _).mono ?_; rintro e_ w1 ⟨rfl, rfl⟩
  go_wp2_with fail
  refine (HM.out z hz6 _).mono ?_; rintro e_ w1 ⟨rfl, rfl⟩
  clear hx6 hz6 hx hz
  generalize x % 8 = u at *
  generalize z % 8 = v at *
  generalize x / 8 = i at *
  generalize z / 8 = k at *
  have p1 := mul_bd8 (a := 8 - u) (b := 8 - v) (by omega) (by omega)
  have p2 := mul_bd8 (a := u) (b := 8 - v) (by omega) (by omega)
  have p3 := mul_bd8 (a := 8 - u) (b := v) (by omega) (by omega)
  have p4 := mul_bd8 (a := u) (b := v) (by omega) (by omega)
  have q1 := HC.out i k _ p1
  have q2 := HC.out (i + 1) k _ p2
  have q3 := HC.out i (k + 1) _ p3
  have q4 := HC.out (i + 1) (k + 1) _ p4
  have C1 := Lib.hid (HG.out i k _ p1)
  have C2 := Lib.hid (HG.out (i + 1) k _ p2)
  have C3 := Lib.hid (HG.out i (k + 1) _ p3)
  have C4 := Lib.hid (HG.out (i + 1) (k + 1) _ p4)
  clear HG HC HD HM
  generalize cornV s i k ((8 - u) * (8 - v)) = c1 at *
  generalize cornV s (i + 1) k (u * (8 - v)) = c2 at *
  generalize cornV s i (k + 1) ((8 - u) * v) = c3 at *
  generalize cornV s (i + 1) (k + 1) (u * v) = c4 at *
  have b1 : -9223372036854775808 ≤ (8 - u) * (8 - v) ∧ (8 - u) * (8 - v) ≤ 9223372036854775807 := by omega
  have b2 : -9223372036854775808 ≤ u * (8 - v) ∧ u * (8 - v) ≤ 9223372036854775807 := by omega
  have b3 : -9223372036854775808 ≤ (8 - u) * v ∧ (8 - u) * v ≤ 9223372036854775807 := by omega
  have b4 : -9223372036854775808 ≤ u * v ∧ u * v ≤ 9223372036854775807 := by omega
  clear p1 p2 p3 p4
  go_wp2_with fail
  refine C1.out.mono ?_; rintro e_ w1 ⟨rfl, rfl⟩
  clear b1
  go_wp2_with fail
  refine C2.out.mono ?_; rintro e_ w1 ⟨rfl, rfl⟩
  clear b2
  go_wp2_with fail
  refine C3.out.mono ?_; rintro e_ w1 ⟨rfl, rfl⟩
  clear b3
  go_wp2_with fail
  refine C4.out.mono ?_; rintro e_ w1 ⟨rfl, rfl⟩
  clear b4
  go_wp2_with fail
  go_returns
  exact ⟨ret_i HGG.out, H.out⟩
def ofB (y g : Int) : Int := if y < 0 ∨ 32 ≤ y then 0 else if y = 0 ∨ y < g - 3 then 1 else if y < g - 1 ∨ (y = g - 1 ∧ 9 < g) then 2 else if y = g - 1 then 3 else if y < 9 then 8 else 0
set_option maxRecDepth 100000 in
set_option maxHeartbeats 2000000 in
theorem gof_c (y g : Int) (hy : 0 ≤ y ∧ y < 32) (hg : 6 ≤ g ∧ g ≤ 14) (w : World) : Calls Tryz.prog 220 #[.int .i64 y, .int .i64 g] w fun r w' => r = .returned (.int .i64 (ofB y g)) ∧ w = w' := by
  have y0 : decide (y < 0) = false := by simp; omega
  have y1 : decide (32 ≤ y) = false := by simp; omega
  unfold ofB
  rw [if_neg (by omega)]
  by_cases h1 : y = 0
  · rw [if_pos (.inl h1)]
    subst h1
    go_enter Tryz.func220, Tryz.ntmps220
    go_wp2_with fail
    go_returns
    exact ⟨rfl, rfl⟩
  · have e1 : (y == 0) = false := by simpa using h1
    by_cases h2 : y < g - 3
    · rw [if_pos (.inr h2)]
      clear h1
      go_enter Tryz.func220, Tryz.ntmps220
      go_wp2_with fail
      go_returns
      exact ⟨rfl, rfl⟩
    · rw [if_neg (by omega)]
      have e2 : decide (y < g - 3) = false := by simpa using h2
      by_cases h3 : y < g - 1
      · rw [if_pos (.inl h3)]
        clear h1 h2
        go_enter Tryz.func220, Tryz.ntmps220
        go_wp2_with fail
        go_returns
        exact ⟨rfl, rfl⟩
      · have e3 : decide (y < g - 1) = false := by simpa using h3
        by_cases h4 : y = g - 1
        · have e4 : (y == g - 1) = true := by simpa using h4
          by_cases h5 : 9 < g
          · rw [if_pos (.inr ⟨h4, h5⟩)]
            clear h1 h2 h3 h4
            go_enter Tryz.func220, Tryz.ntmps220
            go_wp2_with fail
            go_returns
            exact ⟨rfl, rfl⟩
          · rw [if_neg (by omega), if_pos h4]
            have e5 : decide (9 < g) = false := by simpa using h5
            clear h1 h2 h3 h4 h5
            go_enter Tryz.func220, Tryz.ntmps220
            go_wp2_with fail
            go_returns
            exact ⟨rfl, rfl⟩
        · have e4 : (y == g - 1) = false := by simpa using h4
          rw [if_neg (by omega), if_neg h4]
          by_cases h6 : y < 9
          · rw [if_pos h6]
            clear h1 h2 h3 h4
            go_enter Tryz.func220, Tryz.ntmps220
            go_wp2_with fail
            go_returns
            exact ⟨rfl, rfl⟩
          · rw [if_neg h6]
            have e6 : decide (y < 9) = false := by simpa using h6
            clear h1 h2 h3 h4 h6
            go_enter Tryz.func220, Tryz.ntmps220
            go_wp2_with fail
            go_returns
            exact ⟨rfl, rfl⟩
end Go.Proofs.YtmbccnioijokfaaGreatDoor

namespace Go.Proofs.YtmbccnioijokfaaGreatDoor
open Go.RowKit Go.Maps
attribute [local go_sem] Oper.semAt_some
abbrev encW (p : Int × SL) : List Value := [.int .i64 p.1, slV p.2]
theorem lenW (p : Int × SL) : (encW p).length = 2 := rfl
structure DiskAt (w : World) (base d bm : Nat) (v : Value) (S : DS) (sv lv : List (Int × SL)) : Prop where
  blk : Blk w d 200 #[.int .i64 S.room, .int .i64 S.fails, .int .i64 S.waits, .map (some bm), v]
  map : w.ownsMap Tryz.prog 3 RS bm sv.length (DM sv)
  row : Owns w base 293 2 encW v lv
  based : base ≤ d
  basem : base ≤ bm
  gs : GoodL w base sv
  gl : GoodL w base lv
  safe : S.safe = cont w sv
  l : S.l = cont w lv
theorem own_blk {w : World} {base n size : Nat} {e : TypeId} {v : Value} {xs : List Value} (h : w.ownsRow base e size v n xs) {g : Nat} (hg : v.ownBlock = some g) : base ≤ g ∧ ∃ cur, Blk w g e cur := by
  rcases h.2 with ⟨rfl, _⟩ | ⟨g', cap, cur, rfl, hb, hgg, _⟩
  · cases hg
  · simp [Value.ownBlock] at hg
    subst hg
    exact ⟨hb, cur, hgg⟩
theorem blk_one {w : World} {g : Nat} {t t' : TypeId} {cs cs' : Array Value} (h : Blk w g t cs) (h' : Blk w g t' cs') : t = t' := by
  unfold Blk at h h'
  rw [h] at h'
  simp only [Option.some.injEq, Obj.cells.injEq] at h'
  exact h'.2.1
def Mine (d bm : Nat) (v : Value) (b : Nat) : Prop := b = d ∨ b = bm ∨ v.ownBlock = some b
theorem DiskAt.mine {w : World} {base d bm : Nat} {v : Value} {S : DS} {sv lv : List (Int × SL)} (h : DiskAt w base d bm v S sv lv) {b : Nat} (hb : Mine d bm v b) : base ≤ b ∧ b < w.heap.size ∧ ∀ t cs, Blk w b t cs → t = 200 ∨ t = 293 := by
  rcases hb with rfl | rfl | hb
  · exact ⟨h.based, h.blk.lt, fun t cs hB => .inl (blk_one hB h.blk)⟩
  · exact ⟨h.basem, h.map.lt, fun t cs hB => absurd hB (map_lt h.map _ _ _)⟩
  · obtain ⟨h1, cur, h2⟩ := own_blk h.row hb
    exact ⟨h1, h2.lt, fun t cs hB => .inr (blk_one hB h2)⟩
theorem DiskAt.kept {w w' : World} {base d bm : Nat} {v : Value} {S : DS} {sv lv : List (Int × SL)} {K : Nat → Prop} (h : DiskAt w base d bm v S sv lv) (hk : Kept K w w') (h1 : ∀ b, Mine d bm v b → K b) (h2 : ∀ b, ByteBlk w base b → K b) : DiskAt w' base d bm v S sv lv := by
  obtain ⟨g1, g2⟩ := h.gs.kept hk h2
  obtain ⟨g3, g4⟩ := h.gl.kept hk h2
  refine ⟨hk.blk (h1 _ (.inl rfl)) h.blk, map_kept h.map (hk.block _ h.map.lt (h1 _ (.inr (.inl rfl)))), ⟨h.row.1, ?_⟩, h.based, h.basem, g1, g3, by rw [g2]; exact h.safe, by rw [g4]; exact h.l⟩
  rcases h.row.2 with h0 | ⟨g, cap, cur, hv, hbg, hg, r⟩
  · exact .inl h0
  · exact .inr ⟨g, cap, cur, hv, hbg, (hk.block g (Array.getElem?_eq_some_iff.1 hg).1 (h1 g (.inr (.inr (by rw [hv]; rfl))))).trans hg, r⟩
theorem DiskAt.on {w w' : World} {base d bm : Nat} {v : Value} {S : DS} {sv lv : List (Int × SL)} (h : DiskAt w base d bm v S sv lv) (hb : Below w.heap.size w w') : DiskAt w' base d bm v S sv lv := h.kept (K := fun _ => True) (Kept.of_below hb |>.mono fun _ _ => trivial) (fun _ _ => trivial) (fun _ _ => trivial)
def DiskIs (w : World) (base : Nat) (M : Nat → Prop) (d : Nat) (S : DS) : Prop := ∃ bm v sv lv, DiskAt w base d bm v S sv lv ∧ ∀ b, M b ↔ Mine d bm v b
def Turn (w : World) (base : Nat) (M : Nat → Prop) (d : Nat) (S : DS) (w' : World) : Prop := ∃ M', DiskIs w' base M' d S ∧ (∀ b, M' b → M b ∨ w.heap.size ≤ b) ∧ Kept (fun b => ¬ M b) w w'
theorem DiskIs.mine {w : World} {base : Nat} {M : Nat → Prop} {d : Nat} {S : DS} (h : DiskIs w base M d S) {b : Nat} (hb : M b) : base ≤ b ∧ b < w.heap.size ∧ ∀ t cs, Blk w b t cs → t = 200 ∨ t = 293 := by
  obtain ⟨bm, v, sv, lv, h, hM⟩ := h
  exact h.mine ((hM b).1 hb)
theorem DiskIs.kept {w w' : World} {base : Nat} {M : Nat → Prop} {d : Nat} {S : DS} {K : Nat → Prop} (h : DiskIs w base M d S) (hk : Kept K w w') (h1 : ∀ b, M b → K b) (h2 : ∀ b, ByteBlk w base b → K b) : DiskIs w' base M d S := by
  obtain ⟨bm, v, sv, lv, h, hM⟩ := h
  exact ⟨bm, v, sv, lv, h.kept hk (fun b hb => h1 b ((hM b).2 hb)) h2, hM⟩
theorem DiskIs.on {w w' : World} {base : Nat} {M : Nat → Prop} {d : Nat} {S : DS} (h : DiskIs w base M d S) (hb : Below w.heap.size w w') : DiskIs w' base M d S := h.kept (K := fun _ => True) (Kept.of_below hb |>.mono fun _ _ => trivial) (fun _ _ => trivial) (fun _ _ => trivial)
theorem Turn.blk {w w' : World} {base : Nat} {M : Nat → Prop} {d g : Nat} {S S' : DS} {t : TypeId} {cs : Array Value} (h : Turn w base M d S' w') (h0 : DiskIs w base M d S) (hB : Blk w g t cs) (ht : t ≠ 200 ∧ t ≠ 293) : Blk w' g t cs := by
  obtain ⟨M', -, -, hk⟩ := h
  exact hk.blk (fun hM => by
    rcases (h0.mine hM).2.2 _ _ hB with e | e
    · exact ht.1 e
    · exact ht.2 e) hB
theorem Turn.below {w w' : World} {base : Nat} {M : Nat → Prop} {d : Nat} {S S' : DS} (h : Turn w base M d S' w') (h0 : DiskIs w base M d S) (hb : base ≤ w.heap.size) : Below base w w' := by
  obtain ⟨M', -, -, hk⟩ := h
  exact hk.below hb fun b hb hM => by have := (h0.mine hM).1; omega
theorem Turn.good {w w' : World} {base : Nat} {M : Nat → Prop} {d : Nat} {S S' : DS} {s : SL} (h : Turn w base M d S' w') (h0 : DiskIs w base M d S) (hs : GoodS w base s) : GoodS w' base s ∧ rdB w' s = rdB w s := by
  obtain ⟨M', -, -, hk⟩ := h
  refine hs.kept hk fun b hb hM => ?_
  rcases hb with hb | ⟨cur, hb⟩
  · have := (h0.mine hM).1; omega
  · rcases (h0.mine hM).2.2 _ _ hb with e | e <;> revert e <;> decide
theorem Turn.on {w w' w'' : World} {base : Nat} {M : Nat → Prop} {d : Nat} {S : DS} (h : Turn w base M d S w') (hb : Below w'.heap.size w' w'') : Turn w base M d S w'' := by
  obtain ⟨M', h1, h2, h3⟩ := h
  exact ⟨M', h1.on hb, h2, h3.on hb⟩
theorem Turn.trans {w w' w'' : World} {base : Nat} {M M' : Nat → Prop} {d : Nat} {S' : DS} (h2 : ∀ b, M' b → M b ∨ w.heap.size ≤ b) (h3 : Kept (fun b => ¬ M b) w w') (k : Turn w' base M' d S' w'') : Turn w base M d S' w'' := by
  obtain ⟨M'', k1, k2, k3⟩ := k
  refine ⟨M'', k1, fun b hb => ?_, ?_⟩
  · rcases k2 b hb with h | h
    · exact h2 b h
    · exact .inr (Nat.le_trans h3.size h)
  · refine ⟨k3.os.trans h3.os, k3.tape.trans h3.tape, k3.output.trans h3.output, Nat.le_trans h3.size k3.size, fun b hb hM => (k3.block b (Nat.lt_of_lt_of_le hb h3.size) fun h => ?_).trans (h3.block b hb hM)⟩
    rcases h2 b h with h | h
    · exact hM h
    · omega
theorem lawI : Keyed Tryz.prog 3 := int_keyed Tryz.underlying3
theorem zeroB (w : World) : (zeroValue 51).run Tryz.prog w = .ok (.slice none 0 0) w := by kernel_rfl
theorem wf64 {x : Int} (h : In64 x) : (Lit.int .i64 x).wf = true := by
  simp [Lit.wf, IntKind.min, IntKind.max, IntKind.signed, IntKind.bits]
  unfold In64 at h
  omega
theorem key64 {x : Int} (h : In64 x) : keyOf Tryz.prog 3 (.int .i64 x) = some (.int .i64 x) := keyOf_int_mk Tryz.underlying3 (wf64 h)
set_option maxRecDepth 100000 in
set_option maxHeartbeats 2000000 in
theorem mclone_c (b n : Nat) (D : DataW SL) (w : World) (hown : w.ownsMap Tryz.prog 3 RS b n D) :
    Calls Tryz.prog 289 #[.map (some b)] w fun e w' => e = .returned (.map (some w.heap.size)) ∧ w'.ownsMap Tryz.prog 3 RS w.heap.size n D ∧ Below w.heap.size w w' := by
  obtain ⟨es, clock, hb, F, hs, hD⟩ := hown
  have hq := fun w => run_eql_map_nil_sl (P := Tryz.prog) w 197 _ _ (some b) Tryz.underlying197
  have hta := fun w (v : Value) => run_typeAssert_map_sl (P := Tryz.prog) w 197 20 _ _ v Tryz.underlying197
  go_enter Tryz.func289, Tryz.ntmps289
  go_wp2_with fail
  rw [run_callFunc_extern Tryz.func327 (by kernel_rfl) (by kernel_rfl) (by kernel_rfl) (e := Extern.MapsClone.clone) (by kernel_rfl), run_maps_clone_sl w 197 hb]
  simp only [Result.andThen]
  rw [Oper.upon_value]
  go_wp2_with fail
  go_returns
  have hB : Below w.heap.size w (w.alloc (.map es clock)) := (Below.refl _ w).alloc (Nat.le_refl _) _
  exact ⟨rfl, ⟨es, clock, (MapKept.heap_alloc w _).1, F, hs, hD⟩, hB⟩
end Go.Proofs.YtmbccnioijokfaaGreatDoor

namespace Go.Proofs.YtmbccnioijokfaaGreatDoor
open Go.RowKit Go.Maps
attribute [local go_sem] Oper.semAt_some
theorem row_form {w : World} {base : Nat} {e : TypeId} {v : Value} {xs : List (Int × SL)} (h : Owns w base e 2 encW v xs) : ∃ q cap, v = .slice q xs.length cap ∧ xs.length ≤ cap ∧ cap ≤ maxLen ∧
    ∀ i p, xs[i]? = some p → ∃ g, q = some ⟨g, 0, none⟩ ∧ w.cell? ⟨g, i * 2, none⟩ = some (.int .i64 p.1) ∧ w.cell? ⟨g, i * 2 + 1, none⟩ = some (slV p.2) := by
  obtain ⟨q, cap, hv, h1, h2, hR, -, hg⟩ := h.form lenW
  refine ⟨q, cap, hv, h1, h2, fun i p hi => ?_⟩
  have hn : 0 < xs.length := by have := (List.getElem?_eq_some_iff.1 hi).1; omega
  obtain ⟨g, rfl⟩ := hg hn
  have a0 := hR.at hi (j := 0) rfl
  have a1 := hR.at hi (j := 1) rfl
  rw [Nat.zero_add] at a0 a1
  exact ⟨g, rfl, a0, a1⟩
theorem take_at {α : Type} {xs : List α} {k : Nat} {p : α} (h : xs[k]? = some p) : xs.take (k + 1) = xs.take k ++ [p] := by rw [List.take_add_one, h]; rfl
theorem lt_at {α : Type} {xs : List α} {k : Nat} (h : k < xs.length) : ∃ p, xs[k]? = some p := ⟨_, List.getElem?_eq_getElem h⟩
set_option maxRecDepth 100000 in
set_option maxHeartbeats 4000000 in
theorem now_c (base d bm : Nat) (v : Value) (S : DS) (sv lv : List (Int × SL)) (w : World) (h : DiskAt w base d bm v S sv lv) (hr : Rise sv) (hk : ∀ p ∈ lv, In64 p.1) (hN : sv.length + lv.length ≤ 1000000) :
    Calls Tryz.prog 213 #[.pointer (some ⟨d, 0, none⟩)] w fun r w' => r = .returned (.map (some w.heap.size)) ∧ w'.ownsMap Tryz.prog 3 RS w.heap.size (sv.length + lv.length) (DM (nowL sv lv)) ∧ Below w.heap.size w w' := by
  obtain ⟨q, cap, rfl, hc1, hc2, hrd⟩ := row_form h.row
  have d3 : w.cell? ⟨d, 3, none⟩ = some (.map (some bm)) := h.blk.cell 3
  have d4 : w.cell? ⟨d, 4, none⟩ = some (.slice q lv.length cap) := h.blk.cell 4
  have hdl := h.blk.lt
  have HM := Lib.hid h.map
  have HR := Lib.hid hrd
  have HK := Lib.hid hk
  have HC := Lib.hid (And.intro hc1 hc2)
  clear h hrd hk hc1 hc2
  go_enter Tryz.func213, Tryz.ntmps213
  go_wp2_with (go_at_call 289; refine (mclone_c bm _ _ _ HM.out).mono ?_; rintro e_ w1 ⟨rfl, hm1, hB1⟩; have d4' : w1.cell? ⟨d, 4, none⟩ = some (.slice q lv.length cap) := (hB1.cell hdl).trans d4)
  generalize hn0 : w.heap.size = m at hm1 hB1 hdl ⊢
  go_loopw [16] (fun i wr => ∃ k : Nat, k ≤ lv.length ∧ i = .int .i64 k ∧ wr.ownsMap Tryz.prog 3 RS m (sv.length + k) (DM (nowL sv (lv.take k))) ∧ Below m w wr) (fun i _ => lv.length - (intOf i).toNat)
  case atStart => exact ⟨0, Nat.zero_le _, rfl, by rw [List.take_zero]; exact hm1, hB1⟩
  case round =>
    obtain ⟨k, hk, rfl, hown, hnx⟩ := hrel
    by_cases hlt : k < lv.length
    · obtain ⟨p, hp⟩ := lt_at hlt
      obtain ⟨g, rfl, r0, r1⟩ := HR.out k p hp
      have hgl := cell_lt r0
      replace hgl : g < m := by rw [← hn0]; exact hgl
      replace r0 := (hnx.cell (p := ⟨g, k * 2, none⟩) hgl).trans r0
      replace r1 := (hnx.cell (p := ⟨g, k * 2 + 1, none⟩) hgl).trans r1
      have hkey := key64 (HK.out p (List.mem_of_getElem? hp))
      obtain ⟨pk, pq, pn, pc⟩ := p
      simp only [slV] at r0 r1 hkey
      have HP := Lib.hid hp
      clear hp
      have hk1 : (k : Int) < (lv.length : Int) := by omega
      have hk0 : (0 : Int) ≤ (k : Int) := by omega
      go_wp2_with (at_mapUpdate; refine wpList_mapUpdate_own _ rfl _ _ _ 197 rfl 3 51 lawI Tryz.underlying197 _ m (sv.length + k) _ rfl (hown.alloc _) (by unfold maxLen; omega) _ _ _ rfl rfl hkey _ [] (RS_mk (pq, pn, pc)) ?_; intro w2 hown2 hgrow2)
      rw [put_DM (rise_now hr), ← nowL_snoc, ← take_at HP.out, show sv.length + k + 1 = sv.length + (k + 1) by omega] at hown2
      have hms : m ≤ wr.heap.size := by rw [← hn0]; exact hnx.size
      exact ⟨⟨k + 1, hlt, by go_num, hown2, (hnx.alloc hms _).grown hgrow2 (Nat.le_trans hms (by simp)) (fun j hj => by cases hj; exact Nat.le_refl _)⟩, next_less' hlt⟩
    · obtain rfl : k = lv.length := by omega
      rw [List.take_length] at hown
      have hk1 : ¬ ((lv.length : Int) < (lv.length : Int)) := by omega
      go_wp2_with fail
      go_returns
      subst hn0
      exact ⟨rfl, hown, hnx⟩
def lens (l : List (Int × SL)) : Nat := (l.map fun p => p.2.2.1).sum
theorem lens_is {w : World} {base : Nat} : ∀ {l : List (Int × SL)}, GoodL w base l → lens l = lenB (cont w l)
  | [], _ => rfl
  | x :: r, h => by
    have h1 := (h x List.mem_cons_self).len
    have h2 := lens_is (l := r) fun p hp => h p (List.mem_cons_of_mem _ hp)
    simp only [lens, lenB, cont, List.map_cons, List.sum_cons] at h2 ⊢
    rw [h1, h2]
end Go.Proofs.YtmbccnioijokfaaGreatDoor

namespace Go.Proofs.YtmbccnioijokfaaGreatDoor
open Go.RowKit
attribute [local go_sem] Oper.semAt_some
theorem nextx {i n : Nat} (h : i < n) (hn : n ≤ maxLen) : (0 : Int) ≤ i ∧ (i : Int) < n ∧ -9223372036854775808 ≤ (i : Int) + 1 ∧ (i : Int) + 1 ≤ 9223372036854775807 := by simp only [maxLen] at hn; omega
abbrev encR (r : Rn) : List Value := [.int .i64 r.1, .int .i64 r.2]
theorem lenRn (r : Rn) : (encR r).length = 2 := rfl
theorem lenR_take {l : List Rn} (h : ∀ r ∈ l, 0 ≤ r.1) (k : Nat) : 0 ≤ lenR (l.take k) ∧ lenR (l.take k) ≤ lenR l := by
  have e : lenR (l.take k) + lenR (l.drop k) = lenR l := by
    unfold lenR
    rw [← List.sum_append, ← List.map_append, List.take_append_drop]
  have p : ∀ m : List Rn, (∀ r ∈ m, 0 ≤ r.1) → 0 ≤ lenR m := fun m hm => by rw [lenR_cells hm]; omega
  have := p (l.take k) fun r hr => h r (List.mem_of_mem_take hr)
  have := p (l.drop k) fun r hr => h r (List.mem_of_mem_drop hr)
  omega
theorem lenR_succ {l : List Rn} {k : Nat} {p : Rn} (hp : l[k]? = some p) : lenR (l.take (k + 1)) = lenR (l.take k) + p.1 := by
  rw [take_at hp]
  unfold lenR
  rw [List.map_append, List.sum_append]
  simp
theorem atR_no {r : Rn} {l : List Rn} {i : Int} (h : ¬ (0 ≤ i ∧ i < r.1)) : atR (r :: l) i = atR l (i - r.1) := by rw [atR, if_neg h]
theorem atR_yes {r : Rn} {l : List Rn} {i : Int} (h : 0 ≤ i ∧ i < r.1) : atR (r :: l) i = r.2 := by rw [atR, if_pos h]
set_option maxRecDepth 100000 in
set_option maxHeartbeats 4000000 in
theorem rat_c (w : World) (q : Option Addr) (c : Nat) (R : List Rn) (i : Int) (hR : Rd w q 2 encR R) (hn : ∀ r ∈ R, 0 ≤ r.1) (hm : lenR R ≤ 1000000) (hc : R.length ≤ maxLen) (hi : -1000000 ≤ i ∧ i ≤ 1000000) :
    Calls Tryz.prog 160 #[.slice q R.length c, .int .i64 i] w fun r w' => r = .returned (.int .i64 (atR R i)) ∧ Below w.heap.size w w' := by
  have HR := Lib.hid hR
  have HT := Lib.hid (lenR_take hn)
  have HC := Lib.hid hc
  have HP := Lib.hid hn
  clear hR hn hc
  go_enter Tryz.func160, Tryz.ntmps160
  go_upto_region 2 with (fail)
  go_loopw [1, 9] (fun x i' wr => ∃ k : Nat, k ≤ R.length ∧ i' = .int .i64 k ∧ x = .int .i64 (i - lenR (R.take k)) ∧ Hid (atR (R.drop k) (i - lenR (R.take k)) = atR R i) ∧ Below w.heap.size w wr) (fun _ i _ => R.length - (intOf i).toNat)
  case atStart => exact ⟨0, Nat.zero_le _, rfl, by simp [lenR], by show atR R (i - 0) = _; rw [Int.sub_zero], Below.refl _ _⟩
  case round =>
    obtain ⟨k, hk, rfl, rfl, hv, hnx⟩ := hrel
    by_cases hlt : k < R.length
    · obtain ⟨p, hp⟩ := lt_at hlt
      obtain ⟨g, o, rfl, h1⟩ := HR.out.on hnx (by omega)
      have r0 : wr.cell? ⟨g, o + k * 2, none⟩ = some (.int .i64 p.1) := h1 k p hp 0 _ rfl
      have r1 : wr.cell? ⟨g, o + k * 2 + 1, none⟩ = some (.int .i64 p.2) := h1 k p hp 1 _ rfl
      have hst := lenR_succ hp
      have hp0 := HP.out p (List.mem_of_getElem? hp)
      have hb := HT.out (k + 1)
      have hb0 := HT.out k
      rw [hst] at hb
      obtain ⟨n2, n3, n5, n6⟩ := nextx hlt HC.out
      have hd : R.drop k = p :: R.drop (k + 1) := List.drop_eq_getElem?_toList_append .. |>.trans (by rw [hp]; rfl)
      have hv2 := hv.out
      rw [hd] at hv2
      have HV := Lib.hid hv2
      have HST := Lib.hid hst
      have HNX := Lib.hid hnx
      clear hp hst hnx h1 hd hv hv2
      generalize lenR (R.take k) = s at *
      obtain ⟨j, hj⟩ : ∃ j, j = i - s := ⟨_, rfl⟩
      rw [← hj] at HV
      have e1 : -2000000 ≤ j ∧ j ≤ 2000000 := by omega
      have e2 : 0 ≤ p.1 ∧ p.1 ≤ 1000000 := by omega
      have HJ := Lib.hid (show i - (s + p.1) = j - p.1 by omega)
      rw [← hj]
      clear hj hb hb0 hi hm hp0
      have hrel : ¬ (0 ≤ j ∧ j < p.1) → ∀ wr' : World, Below w.heap.size w wr' → ∃ k_1 : Nat, k_1 ≤ R.length ∧ Value.int .i64 ((k : Int) + 1) = .int .i64 k_1 ∧ Value.int .i64 (j - p.1) = .int .i64 (i - lenR (R.take k_1)) ∧ Hid (atR (R.drop k_1) (i - lenR (R.take k_1)) = atR R i) ∧ Below w.heap.size w wr' := fun h wr' hb => ⟨k + 1, hlt, by go_num, by rw [HST.out, HJ.out], by rw [HST.out, HJ.out, ← HV.out, atR_no h]; exact Lib.hid rfl, hb⟩
      have HREL := Lib.hid hrel
      clear hrel
      by_cases h0 : 0 ≤ j
      · by_cases h2 : j < p.1
        · go_wp2_with fail
          go_returns
          refine ⟨ret_i ?_, HNX.out.alloc HNX.out.size _⟩
          rw [← HV.out, atR_yes ⟨h0, h2⟩]
        · go_wp2_with fail
          exact ⟨HREL.out (fun h => h2 h.2) _ (HNX.out.alloc HNX.out.size _), by simp [intOf]; omega⟩
      · have h0' : j < 0 := by omega
        go_wp2_with fail
        exact ⟨HREL.out (fun h => h0 h.1) _ (HNX.out.alloc HNX.out.size _), by simp [intOf]; omega⟩
    · obtain rfl : k = R.length := by omega
      have hk1 : ¬ ((R.length : Int) < (R.length : Int)) := by omega
      have hb0 := HT.out R.length
      have HV := Lib.hid hv.out
      clear hv
      go_wp2_with fail
      go_returns
      refine ⟨ret_i ?_, hnx⟩
      rw [← HV.out, List.drop_length]
      rfl
end Go.Proofs.YtmbccnioijokfaaGreatDoor

