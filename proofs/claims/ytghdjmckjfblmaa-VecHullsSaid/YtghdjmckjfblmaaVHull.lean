/- The box round others. -/
import Derived.Test.YtghdjmckjfblmaaOff
import Derived.Test.YtghdjmckjfblmaaVLives
import Derived.Test.YtghdjmckjfblmaaVHullP
namespace Go.Proofs.Ytghdjmckjfblmaa
open Go.RowKit

set_option maxHeartbeats 1000000 in
theorem hull1_c (i m a b c d e f : Int) (w : World) (u : Nat) (hu : Blk w u 25 #[.int .i64 a, .int .i64 b, .int .i64 c, .int .i64 d, .int .i64 e, .int .i64 f]) :
    Calls Try.prog 50 #[.int .i64 i, .int .i64 m, .pointer (some ⟨u, 0, none⟩)] w fun r w' => r = .returned (.int .i64 (mnI m (axI a b c i))) ∧ Below w.heap.size w w' := by
  have hmn := @run_mn Try.prog
  obtain ⟨⟨k0, k1, k2, k3, k4, k5⟩, -, -, -, -, -, -⟩ := hu.c6
  go_enter Try.func50, Try.ntmps50
  go_wp2_with fail
  refine (axis_c _ _ _ _ _).mono ?_; rintro e w1 ⟨rfl, hb⟩
  go_wp2_with fail
  go_returns
  exact ⟨ret_i rfl, by (repeat' (first | (with_reducible exact Below.refl _ _) | (with_reducible assumption) | (with_reducible refine Below.alloc ?_ ?_ _) | (with_reducible refine Below.drew ?_) | (with_reducible refine Below.setCell ?_ ?_ _) | (with_reducible refine after ?_ (below_regrown _ _ _)) | (refine after ?_ (by with_reducible assumption)) | go_size))⟩
set_option maxHeartbeats 1000000 in
theorem hull2_c (i m a b c d e f : Int) (w : World) (u : Nat) (hu : Blk w u 25 #[.int .i64 a, .int .i64 b, .int .i64 c, .int .i64 d, .int .i64 e, .int .i64 f]) :
    Calls Try.prog 51 #[.int .i64 i, .int .i64 m, .pointer (some ⟨u, 0, none⟩)] w fun r w' => r = .returned (.int .i64 (mxI m (axI d e f i))) ∧ Below w.heap.size w w' := by
  have hmx := @run_mx Try.prog
  obtain ⟨⟨k0, k1, k2, k3, k4, k5⟩, -, -, -, -, -, -⟩ := hu.c6
  go_enter Try.func51, Try.ntmps51
  go_wp2_with fail
  refine (axis_c _ _ _ _ _).mono ?_; rintro e w1 ⟨rfl, hb⟩
  go_wp2_with fail
  go_returns
  exact ⟨ret_i rfl, by (repeat' (first | (with_reducible exact Below.refl _ _) | (with_reducible assumption) | (with_reducible refine Below.alloc ?_ ?_ _) | (with_reducible refine Below.drew ?_) | (with_reducible refine Below.setCell ?_ ?_ _) | (with_reducible refine after ?_ (below_regrown _ _ _)) | (refine after ?_ (by with_reducible assumption)) | go_size))⟩
set_option maxHeartbeats 4000000 in
theorem hull_c (g o n cap : Nat) (F : Nat → Nat → Int) (hn : 0 < n) (hc : n ≤ cap) (hm : cap ≤ maxLen) (w : World) (hB : Bxs w g o n F) :
    Calls Try.prog 24 #[.slice (some ⟨g, o, none⟩) n cap] w fun r w' => r = .returned (.agg #[.int .i64 (loK (F · 0) (n - 1)), .int .i64 (loK (F · 1) (n - 1)), .int .i64 (loK (F · 2) (n - 1)), .int .i64 (hiK (F · 3) (n - 1)), .int .i64 (hiK (F · 4) (n - 1)), .int .i64 (hiK (F · 5) (n - 1))]) ∧ Below w.heap.size w w' := by
  obtain ⟨W0, hW⟩ : ∃ W0, W0 = w.alloc (.cells (bxV 0 0 0 0 0 0) 25) := ⟨_, rfl⟩
  have R : Blk W0 w.heap.size 25 #[.int .i64 0, .int .i64 0, .int .i64 0, .int .i64 0, .int .i64 0, .int .i64 0] := by rw [hW]; exact Blk.new' rfl
  have H : Below w.heap.size w W0 := by rw [hW]; go_grown
  have B := hB.on H
  have hg := hB.lt hn
  have e1 := enters_of Try.func50 (by kernel_rfl) rfl
  have e2 := enters_of Try.func51 (by kernel_rfl) rfl
  go_enter Try.func24, Try.ntmps24
  go_upto_region 3 with (fail)
  rw [← hW]
  clear hW
  have hat := B.at hn
  simp only [Nat.zero_mul, Nat.add_zero] at hat
  obtain ⟨k0, k1, k2, k3, k4, k5⟩ := hat
  go_upto_region 4 with (fail)
  obtain ⟨W1, hW⟩ : ∃ W1, W1 = W0.alloc (.cells #[.int .i64 (F 0 0), .int .i64 (F 0 1), .int .i64 (F 0 2), .int .i64 (F 0 3), .int .i64 (F 0 4), .int .i64 (F 0 5)] 25) := ⟨_, rfl⟩
  rw [← hW]
  have C := Blk.fresh hW
  have hW1 : Below W0.heap.size W0 W1 := by rw [hW]; exact (Below.refl _ _).alloc (Nat.le_refl _) _
  replace B := B.on hW1
  have hlt := R.lt
  replace R := R.on hW1
  replace H := after H hW1
  clear hW k0 k1 k2 k3 k4 k5 hW1
  generalize hv : w.heap.size = nr at hlt hg R ⊢
  generalize W0.heap.size = nc at *
  obtain ⟨o', ho1, ho2, B'⟩ : ∃ o', (cap = 1 → o' = o) ∧ (cap ≠ 1 → o' = o + 6) ∧ Bxs W1 g o' (n - 1) (fun i => F (i + 1)) := by
    by_cases h1 : cap = 1
    · exact ⟨o, fun _ => rfl, fun h => absurd h1 h, fun i hi => by omega⟩
    · exact ⟨o + 6, fun h => absurd h h1, fun _ => rfl, B.tail⟩
  clear B
  by_cases h1 : cap = 1
  · obtain rfl := ho1 h1
    subst h1
    obtain rfl : n = 1 := by omega
    go_upto_region 5 with (fail)
    refine wp_loop_rounds 1 ?_
    rw [rounds_succ]
    obtain ⟨⟨c0, c1, c2, c3, c4, c5⟩, -, -, -, -, -, -⟩ := C.c6
    obtain ⟨⟨r0, r1, r2, r3, r4, r5⟩, f0, f1, f2, f3, f4, f5⟩ := R.c6
    go_wp2_with fail
    have R2 := R.st6 (.int .i64 (F 0 0)) (.int .i64 (F 0 1)) (.int .i64 (F 0 2)) (.int .i64 (F 0 3)) (.int .i64 (F 0 4)) (.int .i64 (F 0 5))
    obtain ⟨⟨d0, d1, d2, d3, d4, d5⟩, -, -, -, -, -, -⟩ := R2.c6
    exact bodyPost_ret (v := .agg #[.int .i64 (F 0 0), .int .i64 (F 0 1), .int .i64 (F 0 2), .int .i64 (F 0 3), .int .i64 (F 0 4), .int .i64 (F 0 5)]) (by simp [results, Try.results24, go_sem, d0, d1, d2, d3, d4, d5]) rfl ⟨rfl, by (repeat' (first | (with_reducible exact Below.refl _ _) | (with_reducible assumption) | (with_reducible refine Below.alloc ?_ ?_ _) | (with_reducible refine Below.drew ?_) | (with_reducible refine Below.setCell ?_ ?_ _) | (with_reducible refine after ?_ (below_regrown _ _ _)) | (refine after ?_ (by with_reducible assumption)) | go_size))⟩
  · have ho := ho2 h1
    go_upto_region 5 with (fail)
    rw [← ho]
    clear ho ho1 ho2
    have hn1 : n - 1 + 1 = n := by omega
    go_loopw [16] (fun i wr => ∃ k : Nat, k ≤ n - 1 ∧ i = .int .i64 k ∧ Blk wr nr 25 #[.int .i64 0, .int .i64 0, .int .i64 0, .int .i64 0, .int .i64 0, .int .i64 0] ∧ Blk wr nc 25 #[.int .i64 (loK (F · 0) k), .int .i64 (loK (F · 1) k), .int .i64 (loK (F · 2) k), .int .i64 (hiK (F · 3) k), .int .i64 (hiK (F · 4) k), .int .i64 (hiK (F · 5) k)] ∧ Bxs wr g o' (n - 1) (fun i => F (i + 1)) ∧ Below w.heap.size w wr) (fun i _ => n - 1 - (intOf i).toNat)
    case atStart => exact ⟨0, by omega, rfl, R, C, B', H⟩
    case round =>
      clear R C B' H
      obtain ⟨k, hk, rfl, R, C, B, H⟩ := hrel
      by_cases hlt : k < n - 1
      · obtain ⟨b0, b1, b2, b3, b4, b5⟩ := B.at hlt
        have hwr : nc < wr.heap.size := C.lt
        go_upto_region 7 with (fail)
        obtain ⟨W2, hW⟩ : ∃ W2, W2 = wr.alloc (.cells #[.int .i64 (F (k + 1) 0), .int .i64 (F (k + 1) 1), .int .i64 (F (k + 1) 2), .int .i64 (F (k + 1) 3), .int .i64 (F (k + 1) 4), .int .i64 (F (k + 1) 5)] 25) := ⟨_, rfl⟩
        rw [← hW]
        have hb2 : Below wr.heap.size wr W2 := by rw [hW]; exact (Below.refl _ _).alloc (Nat.le_refl _) _
        have E := Blk.fresh hW
        replace R := R.on hb2
        replace C := C.on hb2
        replace B := B.on hb2
        replace H := after H hb2
        clear hW hb2 b0 b1 b2 b3 b4 b5
        generalize wr.heap.size = ne at *
        obtain ⟨⟨c0, c1, c2, c3, c4, c5⟩, -, -, -, -, -, -⟩ := C.c6
        go_wp2_with fail
        refine (each_c 50 _ (fun i m => mnI m (axI (F (k + 1) 0) (F (k + 1) 1) (F (k + 1) 2) i)) _ _ _ _ e1 ?_).mono ?_
        · intro i m W hW
          exact hull1_c i m _ _ _ _ _ _ W _ (E.on hW)
        rintro e w3 ⟨rfl, hb⟩
        simp only [axI_0, axI_1, axI_2]
        replace R := R.on hb
        replace C := C.on hb
        replace B := B.on hb
        replace E := E.on hb
        replace H := after H hb
        clear hb c0 c1 c2 c3 c4 c5
        obtain ⟨⟨c0, c1, c2, c3, c4, c5⟩, f0, f1, f2, f3, f4, f5⟩ := C.c6
        go_upto_region 8 with (fail)
        obtain ⟨W3, hW⟩ : ∃ W3, W3 = (((w3.setCell ⟨nc, 0, none⟩ (.int .i64 (mnI (loK (F · 0) k) (F (k + 1) 0)))).setCell ⟨nc, 1, none⟩ (.int .i64 (mnI (loK (F · 1) k) (F (k + 1) 1)))).setCell ⟨nc, 2, none⟩ (.int .i64 (mnI (loK (F · 2) k) (F (k + 1) 2)))) := ⟨_, rfl⟩
        rw [← hW]
        clear c0 c1 c2 c3 c4 c5 f0 f1 f2 f3 f4 f5
        replace C : Blk W3 nc 25 #[.int .i64 (loK (F · 0) (k + 1)), .int .i64 (loK (F · 1) (k + 1)), .int .i64 (loK (F · 2) (k + 1)), .int .i64 (hiK (F · 3) k), .int .i64 (hiK (F · 4) k), .int .i64 (hiK (F · 5) k)] := by rw [hW]; exact ((C.set_ 0 _).set_ 1 _).set_ 2 _
        replace R := ((R.far (p := ⟨nc, 0, none⟩) (by simp; omega) (.int .i64 (mnI (loK (F · 0) k) (F (k + 1) 0)))).far (p := ⟨nc, 1, none⟩) (by simp; omega) (.int .i64 (mnI (loK (F · 1) k) (F (k + 1) 1)))).far (p := ⟨nc, 2, none⟩) (by simp; omega) (.int .i64 (mnI (loK (F · 2) k) (F (k + 1) 2)))
        replace E := ((E.far (p := ⟨nc, 0, none⟩) (by simp; omega) (.int .i64 (mnI (loK (F · 0) k) (F (k + 1) 0)))).far (p := ⟨nc, 1, none⟩) (by simp; omega) (.int .i64 (mnI (loK (F · 1) k) (F (k + 1) 1)))).far (p := ⟨nc, 2, none⟩) (by simp; omega) (.int .i64 (mnI (loK (F · 2) k) (F (k + 1) 2)))
        replace B := ((B.far (p := ⟨nc, 0, none⟩) (by simp; omega) (.int .i64 (mnI (loK (F · 0) k) (F (k + 1) 0)))).far (p := ⟨nc, 1, none⟩) (by simp; omega) (.int .i64 (mnI (loK (F · 1) k) (F (k + 1) 1)))).far (p := ⟨nc, 2, none⟩) (by simp; omega) (.int .i64 (mnI (loK (F · 2) k) (F (k + 1) 2)))
        replace H := ((H.setCell (p := ⟨nc, 0, none⟩) (by simp; omega) (.int .i64 (mnI (loK (F · 0) k) (F (k + 1) 0)))).setCell (p := ⟨nc, 1, none⟩) (by simp; omega) (.int .i64 (mnI (loK (F · 1) k) (F (k + 1) 1)))).setCell (p := ⟨nc, 2, none⟩) (by simp; omega) (.int .i64 (mnI (loK (F · 2) k) (F (k + 1) 2)))
        rw [← hW] at R E B H
        clear hW
        obtain ⟨⟨c0, c1, c2, c3, c4, c5⟩, -, -, -, -, -, -⟩ := C.c6
        go_wp2_with fail
        refine (each_c 51 _ (fun i m => mxI m (axI (F (k + 1) 3) (F (k + 1) 4) (F (k + 1) 5) i)) _ _ _ _ e2 ?_).mono ?_
        · intro i m W hW
          exact hull2_c i m _ _ _ _ _ _ W _ (E.on hW)
        rintro e w4 ⟨rfl, hb⟩
        simp only [axI_0, axI_1, axI_2]
        replace R := R.on hb
        replace C := C.on hb
        replace B := B.on hb
        replace E := E.on hb
        replace H := after H hb
        clear hb c0 c1 c2 c3 c4 c5
        obtain ⟨⟨c0, c1, c2, c3, c4, c5⟩, f0, f1, f2, f3, f4, f5⟩ := C.c6
        go_wp2_with fail
        obtain ⟨W4, hW⟩ : ∃ W4, W4 = (((w4.setCell ⟨nc, 3, none⟩ (.int .i64 (mxI (hiK (F · 3) k) (F (k + 1) 3)))).setCell ⟨nc, 4, none⟩ (.int .i64 (mxI (hiK (F · 4) k) (F (k + 1) 4)))).setCell ⟨nc, 5, none⟩ (.int .i64 (mxI (hiK (F · 5) k) (F (k + 1) 5)))) := ⟨_, rfl⟩
        rw [← hW]
        clear c0 c1 c2 c3 c4 c5 f0 f1 f2 f3 f4 f5
        replace C : Blk W4 nc 25 #[.int .i64 (loK (F · 0) (k + 1)), .int .i64 (loK (F · 1) (k + 1)), .int .i64 (loK (F · 2) (k + 1)), .int .i64 (hiK (F · 3) (k + 1)), .int .i64 (hiK (F · 4) (k + 1)), .int .i64 (hiK (F · 5) (k + 1))] := by rw [hW]; exact ((C.set_ 3 _).set_ 4 _).set_ 5 _
        replace R := ((R.far (p := ⟨nc, 3, none⟩) (by simp; omega) (.int .i64 (mxI (hiK (F · 3) k) (F (k + 1) 3)))).far (p := ⟨nc, 4, none⟩) (by simp; omega) (.int .i64 (mxI (hiK (F · 4) k) (F (k + 1) 4)))).far (p := ⟨nc, 5, none⟩) (by simp; omega) (.int .i64 (mxI (hiK (F · 5) k) (F (k + 1) 5)))
        replace E := ((E.far (p := ⟨nc, 3, none⟩) (by simp; omega) (.int .i64 (mxI (hiK (F · 3) k) (F (k + 1) 3)))).far (p := ⟨nc, 4, none⟩) (by simp; omega) (.int .i64 (mxI (hiK (F · 4) k) (F (k + 1) 4)))).far (p := ⟨nc, 5, none⟩) (by simp; omega) (.int .i64 (mxI (hiK (F · 5) k) (F (k + 1) 5)))
        replace B := ((B.far (p := ⟨nc, 3, none⟩) (by simp; omega) (.int .i64 (mxI (hiK (F · 3) k) (F (k + 1) 3)))).far (p := ⟨nc, 4, none⟩) (by simp; omega) (.int .i64 (mxI (hiK (F · 4) k) (F (k + 1) 4)))).far (p := ⟨nc, 5, none⟩) (by simp; omega) (.int .i64 (mxI (hiK (F · 5) k) (F (k + 1) 5)))
        replace H := ((H.setCell (p := ⟨nc, 3, none⟩) (by simp; omega) (.int .i64 (mxI (hiK (F · 3) k) (F (k + 1) 3)))).setCell (p := ⟨nc, 4, none⟩) (by simp; omega) (.int .i64 (mxI (hiK (F · 4) k) (F (k + 1) 4)))).setCell (p := ⟨nc, 5, none⟩) (by simp; omega) (.int .i64 (mxI (hiK (F · 5) k) (F (k + 1) 5)))
        rw [← hW] at R E B H
        clear hW
        have hkw := next64 (Nat.le_trans (Nat.sub_le n 1) hc) hm hlt
        go_roundw
        case rel => exact ⟨k + 1, hlt, next_val hkw, R, C, B, H⟩
        case measure => exact next_less hlt hkw
      · obtain rfl : k = n - 1 := by omega
        obtain ⟨⟨c0, c1, c2, c3, c4, c5⟩, -, -, -, -, -, -⟩ := C.c6
        obtain ⟨⟨r0, r1, r2, r3, r4, r5⟩, f0, f1, f2, f3, f4, f5⟩ := R.c6
        go_wp2_with fail
        have R2 := R.st6 (.int .i64 (loK (F · 0) (n - 1))) (.int .i64 (loK (F · 1) (n - 1))) (.int .i64 (loK (F · 2) (n - 1))) (.int .i64 (hiK (F · 3) (n - 1))) (.int .i64 (hiK (F · 4) (n - 1))) (.int .i64 (hiK (F · 5) (n - 1)))
        obtain ⟨⟨d0, d1, d2, d3, d4, d5⟩, -, -, -, -, -, -⟩ := R2.c6
        exact bodyPost_ret (v := .agg #[.int .i64 (loK (F · 0) (n - 1)), .int .i64 (loK (F · 1) (n - 1)), .int .i64 (loK (F · 2) (n - 1)), .int .i64 (hiK (F · 3) (n - 1)), .int .i64 (hiK (F · 4) (n - 1)), .int .i64 (hiK (F · 5) (n - 1))]) (by simp [results, Try.results24, go_sem, d0, d1, d2, d3, d4, d5]) rfl ⟨rfl, by (repeat' (first | (with_reducible exact Below.refl _ _) | (with_reducible assumption) | (with_reducible refine Below.alloc ?_ ?_ _) | (with_reducible refine Below.drew ?_) | (with_reducible refine Below.setCell ?_ ?_ _) | (with_reducible refine after ?_ (below_regrown _ _ _)) | (refine after ?_ (by with_reducible assumption)) | go_size))⟩
end Go.Proofs.Ytghdjmckjfblmaa
