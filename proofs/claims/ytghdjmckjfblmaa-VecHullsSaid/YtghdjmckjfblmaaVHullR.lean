/- The document's box round others. -/
import Derived.Test.YtghdjmckjfblmaaOff
import Derived.Test.YtghdjmckjfblmaaVLives
import Derived.Test.YtghdjmckjfblmaaLast
import Derived.Test.YtghdjmckjfblmaaBase2
import Derived.Test.YtghdjmckjfblmaaVHullP
namespace Go.Proofs.Ytghdjmckjfblmaa
open Go.RowKit

set_option maxHeartbeats 4000000 in
theorem rhull_c (g o n cap : Nat) (F : Nat → Nat → Int) (hc : n ≤ cap) (hm : cap ≤ maxLen) (w : World) (hB : Bxs w g o n F) :
    Calls Try.prog 25 #[.slice (some ⟨g, o, none⟩) n cap] w fun r w' => r = .returned (.agg #[.int .i64 (loZ (F · 0) n), .int .i64 (loZ (F · 1) n), .int .i64 (loZ (F · 2) n), .int .i64 (hiZ (F · 3) n), .int .i64 (hiZ (F · 4) n), .int .i64 (hiZ (F · 5) n)]) ∧ Below w.heap.size w w' := by
  have hmn := @run_mn Try.prog
  have hmx := @run_mx Try.prog
  go_enter Try.func25, Try.ntmps25
  go_upto_region 3 with (fail)
  obtain ⟨W1, hW⟩ : ∃ W1, W1 = (w.alloc (.cells (bxV 0 0 0 0 0 0) 25)).alloc (.cells (bxV 0 0 0 0 0 0) 25) := ⟨_, rfl⟩
  have R : Blk W1 w.heap.size 25 #[.int .i64 0, .int .i64 0, .int .i64 0, .int .i64 0, .int .i64 0, .int .i64 0] := by rw [hW]; exact (Blk.new' rfl).alloc _
  have C : Blk W1 (w.heap.size + 1) 25 #[.int .i64 (loZ (F · 0) 0), .int .i64 (loZ (F · 1) 0), .int .i64 (loZ (F · 2) 0), .int .i64 (hiZ (F · 3) 0), .int .i64 (hiZ (F · 4) 0), .int .i64 (hiZ (F · 5) 0)] := by rw [hW]; exact Blk.new' (by simp)
  have H : Below w.heap.size w W1 := by rw [hW]; go_grown
  have B := hB.on H
  have hg : 0 < n → g < w.heap.size := fun hn => hB.lt hn
  rw [← hW]
  clear hW hB
  generalize hv : w.heap.size = nr at hg R C ⊢
  go_loopw [4] (fun i wr => ∃ k : Nat, k ≤ n ∧ i = .int .i64 k ∧ Blk wr nr 25 #[.int .i64 0, .int .i64 0, .int .i64 0, .int .i64 0, .int .i64 0, .int .i64 0] ∧ Blk wr (nr + 1) 25 #[.int .i64 (loZ (F · 0) k), .int .i64 (loZ (F · 1) k), .int .i64 (loZ (F · 2) k), .int .i64 (hiZ (F · 3) k), .int .i64 (hiZ (F · 4) k), .int .i64 (hiZ (F · 5) k)] ∧ Bxs wr g o n F ∧ Below w.heap.size w wr) (fun i _ => n - (intOf i).toNat)
  case atStart => exact ⟨0, by omega, rfl, R, C, B, H⟩
  case round =>
    clear R C B H
    obtain ⟨k, hk, rfl, R, C, B, H⟩ := hrel
    by_cases hlt : k < n
    · have hgn := hg (by omega)
      by_cases hk0 : k = 0
      · subst hk0
        obtain ⟨b0, b1, b2, b3, b4, b5⟩ := B.at hlt
        simp only [Nat.zero_mul, Nat.add_zero] at b0 b1 b2 b3 b4 b5
        obtain ⟨⟨c0, c1, c2, c3, c4, c5⟩, f0, f1, f2, f3, f4, f5⟩ := C.c6
        go_upto_region 7 with (fail)
        obtain ⟨W2, hW⟩ : ∃ W2, W2 = ((((((wr.setCell ⟨nr + 1, 0, none⟩ (.int .i64 (F 0 0))).setCell ⟨nr + 1, 1, none⟩ (.int .i64 (F 0 1))).setCell ⟨nr + 1, 2, none⟩ (.int .i64 (F 0 2))).setCell ⟨nr + 1, 3, none⟩ (.int .i64 (F 0 3))).setCell ⟨nr + 1, 4, none⟩ (.int .i64 (F 0 4))).setCell ⟨nr + 1, 5, none⟩ (.int .i64 (F 0 5))) := ⟨_, rfl⟩
        rw [← hW]
        replace C : Blk W2 (nr + 1) 25 #[.int .i64 (loK (F · 0) 0), .int .i64 (loK (F · 1) 0), .int .i64 (loK (F · 2) 0), .int .i64 (hiK (F · 3) 0), .int .i64 (hiK (F · 4) 0), .int .i64 (hiK (F · 5) 0)] := by rw [hW]; exact C.st6 _ _ _ _ _ _
        replace R := R.off6 (by omega) hW
        replace B := B.off6 (by omega) hW
        replace H := off_below6 H (by omega) hW
        clear hW b0 b1 b2 b3 b4 b5 c0 c1 c2 c3 c4 c5 f0 f1 f2 f3 f4 f5
        have e0 : ∀ d os, (Go.Sort.grow (redrawn W2 d) os).cell? ⟨g, o, none⟩ = some (.int .i64 (F 0 0)) := fun d os => by have := (B.re d os).at hlt; simp only [Nat.zero_mul, Nat.add_zero] at this; exact this.1
        have e1 : ∀ d os, (Go.Sort.grow (redrawn W2 d) os).cell? ⟨g, o + 1, none⟩ = some (.int .i64 (F 0 1)) := fun d os => by have := (B.re d os).at hlt; simp only [Nat.zero_mul, Nat.add_zero] at this; exact this.2.1
        have e2 : ∀ d os, (Go.Sort.grow (redrawn W2 d) os).cell? ⟨g, o + 2, none⟩ = some (.int .i64 (F 0 2)) := fun d os => by have := (B.re d os).at hlt; simp only [Nat.zero_mul, Nat.add_zero] at this; exact this.2.2.1
        obtain ⟨k0, k1, k2, k3, k4, k5⟩ := C.re6
        refine wp_region_last_below 32 (by kernel_rfl) rfl (by kernel_rfl) ?_
        simp only [List.take_succ_cons, List.take_zero, List.drop_succ_cons, List.drop_zero]
        repeat (go_big_quiet_step (fail))
        refine wpQuiet_nil ?_
        intro w' hw'
        obtain ⟨rg, rfl⟩ := hw'
        obtain ⟨W3, hW3⟩ : ∃ W3, W3 = Go.Sort.grow (redrawn W2 rg.d) rg.os := ⟨_, rfl⟩
        rw [← hW3]
        replace C := C.reW hW3
        replace R := R.reW hW3
        replace B : Bxs W3 g o n F := by rw [hW3]; exact B.re _ _
        replace H := re_below H hW3
        clear hW3 k0 k1 k2 k3 k4 k5 e0 e1 e2
        obtain ⟨⟨c0, c1, c2, c3, c4, c5⟩, f0, f1, f2, f3, f4, f5⟩ := C.c6
        go_upto_region 8 with (fail)
        have z0 : mnI (loK (F · 0) 0) (F 0 0) = loZ (F · 0) 1 := loZ_succ (F · 0) 0
        have z1 : mnI (loK (F · 1) 0) (F 0 1) = loZ (F · 1) 1 := loZ_succ (F · 1) 0
        have z2 : mnI (loK (F · 2) 0) (F 0 2) = loZ (F · 2) 1 := loZ_succ (F · 2) 0
        rw [z0, z1, z2]
        clear z0 z1 z2
        obtain ⟨W4, hW⟩ : ∃ W4, W4 = (((W3.setCell ⟨nr + 1, 0, none⟩ (.int .i64 (loZ (F · 0) 1))).setCell ⟨nr + 1, 1, none⟩ (.int .i64 (loZ (F · 1) 1))).setCell ⟨nr + 1, 2, none⟩ (.int .i64 (loZ (F · 2) 1))) := ⟨_, rfl⟩
        rw [← hW]
        replace C : Blk W4 (nr + 1) 25 #[.int .i64 (loZ (F · 0) 1), .int .i64 (loZ (F · 1) 1), .int .i64 (loZ (F · 2) 1), .int .i64 (hiK (F · 3) 0), .int .i64 (hiK (F · 4) 0), .int .i64 (hiK (F · 5) 0)] := by rw [hW]; exact ((C.set_ 0 _).set_ 1 _).set_ 2 _
        replace R := R.off3 (by omega) hW
        replace B := B.off3 (by omega) hW
        replace H := off_below3 H (by omega) hW
        clear hW c0 c1 c2 c3 c4 c5 f0 f1 f2 f3 f4 f5
        have e3 : ∀ d os, (Go.Sort.grow (redrawn W4 d) os).cell? ⟨g, o + 3, none⟩ = some (.int .i64 (F 0 3)) := fun d os => by have := (B.re d os).at hlt; simp only [Nat.zero_mul, Nat.add_zero] at this; exact this.2.2.2.1
        have e4 : ∀ d os, (Go.Sort.grow (redrawn W4 d) os).cell? ⟨g, o + 4, none⟩ = some (.int .i64 (F 0 4)) := fun d os => by have := (B.re d os).at hlt; simp only [Nat.zero_mul, Nat.add_zero] at this; exact this.2.2.2.2.1
        have e5 : ∀ d os, (Go.Sort.grow (redrawn W4 d) os).cell? ⟨g, o + 5, none⟩ = some (.int .i64 (F 0 5)) := fun d os => by have := (B.re d os).at hlt; simp only [Nat.zero_mul, Nat.add_zero] at this; exact this.2.2.2.2.2
        obtain ⟨k0, k1, k2, k3, k4, k5⟩ := C.re6
        refine wp_region_last_below 32 (by kernel_rfl) rfl (by kernel_rfl) ?_
        simp only [List.take_succ_cons, List.take_zero, List.drop_succ_cons, List.drop_zero]
        repeat (go_big_quiet_step (fail))
        refine wpQuiet_nil ?_
        intro w' hw'
        obtain ⟨rg, rfl⟩ := hw'
        obtain ⟨W3, hW3⟩ : ∃ W3, W3 = Go.Sort.grow (redrawn W4 rg.d) rg.os := ⟨_, rfl⟩
        rw [← hW3]
        replace C := C.reW hW3
        replace R := R.reW hW3
        replace B : Bxs W3 g o n F := by rw [hW3]; exact B.re _ _
        replace H := re_below H hW3
        clear hW3 k0 k1 k2 k3 k4 k5 e3 e4 e5
        obtain ⟨⟨c0, c1, c2, c3, c4, c5⟩, f0, f1, f2, f3, f4, f5⟩ := C.c6
        go_wp2_with fail
        have z3 : mxI (hiK (F · 3) 0) (F 0 3) = hiZ (F · 3) 1 := hiZ_succ (F · 3) 0
        have z4 : mxI (hiK (F · 4) 0) (F 0 4) = hiZ (F · 4) 1 := hiZ_succ (F · 4) 0
        have z5 : mxI (hiK (F · 5) 0) (F 0 5) = hiZ (F · 5) 1 := hiZ_succ (F · 5) 0
        rw [z3, z4, z5]
        clear z3 z4 z5
        obtain ⟨W5, hW⟩ : ∃ W5, W5 = (((W3.setCell ⟨nr + 1, 3, none⟩ (.int .i64 (hiZ (F · 3) 1))).setCell ⟨nr + 1, 4, none⟩ (.int .i64 (hiZ (F · 4) 1))).setCell ⟨nr + 1, 5, none⟩ (.int .i64 (hiZ (F · 5) 1))) := ⟨_, rfl⟩
        rw [← hW]
        replace C : Blk W5 (nr + 1) 25 #[.int .i64 (loZ (F · 0) 1), .int .i64 (loZ (F · 1) 1), .int .i64 (loZ (F · 2) 1), .int .i64 (hiZ (F · 3) 1), .int .i64 (hiZ (F · 4) 1), .int .i64 (hiZ (F · 5) 1)] := by rw [hW]; exact ((C.set_ 3 _).set_ 4 _).set_ 5 _
        replace R := R.off3 (by omega) hW
        replace B := B.off3 (by omega) hW
        replace H := off_below3 H (by omega) hW
        clear hW c0 c1 c2 c3 c4 c5 f0 f1 f2 f3 f4 f5
        go_roundw
        case rel => exact ⟨1, by omega, by go_num, R, C, B, H⟩
        case measure => simp [intOf]; omega
      · have hk1 : (k : Int) ≠ 0 := by omega
        have hi0 : (0 : Int) ≤ k := by omega
        have hi1 : (k : Int) < n := by omega
        rw [loZ_pos hk0, loZ_pos hk0, loZ_pos hk0, hiZ_pos hk0, hiZ_pos hk0, hiZ_pos hk0] at C
        go_upto_region 7 with (fail)
        have e0 : ∀ d os, (Go.Sort.grow (redrawn wr d) os).cell? ⟨g, o + k * 6, none⟩ = some (.int .i64 (F k 0)) := fun d os => by have := (B.re d os).at hlt; exact this.1
        have e1 : ∀ d os, (Go.Sort.grow (redrawn wr d) os).cell? ⟨g, o + k * 6 + 1, none⟩ = some (.int .i64 (F k 1)) := fun d os => by have := (B.re d os).at hlt; exact this.2.1
        have e2 : ∀ d os, (Go.Sort.grow (redrawn wr d) os).cell? ⟨g, o + k * 6 + 2, none⟩ = some (.int .i64 (F k 2)) := fun d os => by have := (B.re d os).at hlt; exact this.2.2.1
        obtain ⟨k0, k1, k2, k3, k4, k5⟩ := C.re6
        refine wp_region_last_below 32 (by kernel_rfl) rfl (by kernel_rfl) ?_
        simp only [List.take_succ_cons, List.take_zero, List.drop_succ_cons, List.drop_zero]
        repeat (go_big_quiet_step (fail))
        refine wpQuiet_nil ?_
        intro w' hw'
        obtain ⟨rg, rfl⟩ := hw'
        obtain ⟨W3, hW3⟩ : ∃ W3, W3 = Go.Sort.grow (redrawn wr rg.d) rg.os := ⟨_, rfl⟩
        rw [← hW3]
        replace C := C.reW hW3
        replace R := R.reW hW3
        replace B : Bxs W3 g o n F := by rw [hW3]; exact B.re _ _
        replace H := re_below H hW3
        clear hW3 k0 k1 k2 k3 k4 k5 e0 e1 e2
        obtain ⟨⟨c0, c1, c2, c3, c4, c5⟩, f0, f1, f2, f3, f4, f5⟩ := C.c6
        go_upto_region 8 with (fail)
        have z0 : mnI (loK (F · 0) (k - 1)) (F k 0) = loZ (F · 0) (k + 1) := loZ_succ (F · 0) k
        have z1 : mnI (loK (F · 1) (k - 1)) (F k 1) = loZ (F · 1) (k + 1) := loZ_succ (F · 1) k
        have z2 : mnI (loK (F · 2) (k - 1)) (F k 2) = loZ (F · 2) (k + 1) := loZ_succ (F · 2) k
        rw [z0, z1, z2]
        clear z0 z1 z2
        obtain ⟨W4, hW⟩ : ∃ W4, W4 = (((W3.setCell ⟨nr + 1, 0, none⟩ (.int .i64 (loZ (F · 0) (k + 1)))).setCell ⟨nr + 1, 1, none⟩ (.int .i64 (loZ (F · 1) (k + 1)))).setCell ⟨nr + 1, 2, none⟩ (.int .i64 (loZ (F · 2) (k + 1)))) := ⟨_, rfl⟩
        rw [← hW]
        replace C : Blk W4 (nr + 1) 25 #[.int .i64 (loZ (F · 0) (k + 1)), .int .i64 (loZ (F · 1) (k + 1)), .int .i64 (loZ (F · 2) (k + 1)), .int .i64 (hiK (F · 3) (k - 1)), .int .i64 (hiK (F · 4) (k - 1)), .int .i64 (hiK (F · 5) (k - 1))] := by rw [hW]; exact ((C.set_ 0 _).set_ 1 _).set_ 2 _
        replace R := R.off3 (by omega) hW
        replace B := B.off3 (by omega) hW
        replace H := off_below3 H (by omega) hW
        clear hW c0 c1 c2 c3 c4 c5 f0 f1 f2 f3 f4 f5
        have e3 : ∀ d os, (Go.Sort.grow (redrawn W4 d) os).cell? ⟨g, o + k * 6 + 3, none⟩ = some (.int .i64 (F k 3)) := fun d os => by have := (B.re d os).at hlt; exact this.2.2.2.1
        have e4 : ∀ d os, (Go.Sort.grow (redrawn W4 d) os).cell? ⟨g, o + k * 6 + 4, none⟩ = some (.int .i64 (F k 4)) := fun d os => by have := (B.re d os).at hlt; exact this.2.2.2.2.1
        have e5 : ∀ d os, (Go.Sort.grow (redrawn W4 d) os).cell? ⟨g, o + k * 6 + 5, none⟩ = some (.int .i64 (F k 5)) := fun d os => by have := (B.re d os).at hlt; exact this.2.2.2.2.2
        obtain ⟨k0, k1, k2, k3, k4, k5⟩ := C.re6
        refine wp_region_last_below 32 (by kernel_rfl) rfl (by kernel_rfl) ?_
        simp only [List.take_succ_cons, List.take_zero, List.drop_succ_cons, List.drop_zero]
        repeat (go_big_quiet_step (fail))
        refine wpQuiet_nil ?_
        intro w' hw'
        obtain ⟨rg, rfl⟩ := hw'
        obtain ⟨W3, hW3⟩ : ∃ W3, W3 = Go.Sort.grow (redrawn W4 rg.d) rg.os := ⟨_, rfl⟩
        rw [← hW3]
        replace C := C.reW hW3
        replace R := R.reW hW3
        replace B : Bxs W3 g o n F := by rw [hW3]; exact B.re _ _
        replace H := re_below H hW3
        clear hW3 k0 k1 k2 k3 k4 k5 e3 e4 e5
        obtain ⟨⟨c0, c1, c2, c3, c4, c5⟩, f0, f1, f2, f3, f4, f5⟩ := C.c6
        go_wp2_with fail
        have z3 : mxI (hiK (F · 3) (k - 1)) (F k 3) = hiZ (F · 3) (k + 1) := hiZ_succ (F · 3) k
        have z4 : mxI (hiK (F · 4) (k - 1)) (F k 4) = hiZ (F · 4) (k + 1) := hiZ_succ (F · 4) k
        have z5 : mxI (hiK (F · 5) (k - 1)) (F k 5) = hiZ (F · 5) (k + 1) := hiZ_succ (F · 5) k
        rw [z3, z4, z5]
        clear z3 z4 z5
        obtain ⟨W5, hW⟩ : ∃ W5, W5 = (((W3.setCell ⟨nr + 1, 3, none⟩ (.int .i64 (hiZ (F · 3) (k + 1)))).setCell ⟨nr + 1, 4, none⟩ (.int .i64 (hiZ (F · 4) (k + 1)))).setCell ⟨nr + 1, 5, none⟩ (.int .i64 (hiZ (F · 5) (k + 1)))) := ⟨_, rfl⟩
        rw [← hW]
        replace C : Blk W5 (nr + 1) 25 #[.int .i64 (loZ (F · 0) (k + 1)), .int .i64 (loZ (F · 1) (k + 1)), .int .i64 (loZ (F · 2) (k + 1)), .int .i64 (hiZ (F · 3) (k + 1)), .int .i64 (hiZ (F · 4) (k + 1)), .int .i64 (hiZ (F · 5) (k + 1))] := by rw [hW]; exact ((C.set_ 3 _).set_ 4 _).set_ 5 _
        replace R := R.off3 (by omega) hW
        replace B := B.off3 (by omega) hW
        replace H := off_below3 H (by omega) hW
        clear hW c0 c1 c2 c3 c4 c5 f0 f1 f2 f3 f4 f5
        have hkw := next64 hc hm hlt
        go_roundw
        case rel => exact ⟨k + 1, hlt, next_val hkw, R, C, B, H⟩
        case measure => exact next_less hlt hkw
    · obtain rfl : k = n := by omega
      obtain ⟨⟨c0, c1, c2, c3, c4, c5⟩, -, -, -, -, -, -⟩ := C.c6
      obtain ⟨⟨r0, r1, r2, r3, r4, r5⟩, f0, f1, f2, f3, f4, f5⟩ := R.c6
      go_wp2_with fail
      have R2 := R.st6 (.int .i64 (loZ (F · 0) k)) (.int .i64 (loZ (F · 1) k)) (.int .i64 (loZ (F · 2) k)) (.int .i64 (hiZ (F · 3) k)) (.int .i64 (hiZ (F · 4) k)) (.int .i64 (hiZ (F · 5) k))
      obtain ⟨⟨d0, d1, d2, d3, d4, d5⟩, -, -, -, -, -, -⟩ := R2.c6
      exact bodyPost_ret (v := .agg #[.int .i64 (loZ (F · 0) k), .int .i64 (loZ (F · 1) k), .int .i64 (loZ (F · 2) k), .int .i64 (hiZ (F · 3) k), .int .i64 (hiZ (F · 4) k), .int .i64 (hiZ (F · 5) k)]) (by simp [results, Try.results25, go_sem, d0, d1, d2, d3, d4, d5]) rfl ⟨rfl, by (repeat' (first | (with_reducible exact Below.refl _ _) | (with_reducible assumption) | (with_reducible refine Below.alloc ?_ ?_ _) | (with_reducible refine Below.drew ?_) | (with_reducible refine Below.setCell ?_ ?_ _) | (with_reducible refine after ?_ (below_regrown _ _ _)) | (refine after ?_ (by with_reducible assumption)) | go_size))⟩
end Go.Proofs.Ytghdjmckjfblmaa
