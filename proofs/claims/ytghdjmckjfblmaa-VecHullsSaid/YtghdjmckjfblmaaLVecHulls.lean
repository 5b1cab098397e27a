/- VecHulls holds: for any boxes. -/
import Derived.Test.YtghdjmckjfblmaaVHull
import Derived.Test.YtghdjmckjfblmaaVHullR
import Derived.Test.YtghdjmckjfblmaaRef2
import Derived.Test.YtghdjmckjfblmaaBase2
namespace Go.Proofs.Ytghdjmckjfblmaa
open Go.ChangeShapes Go.WideShapes Go.ChangeAt Go.RowKit

theorem box_ne (a b c d e f a' b' c' d' e' f' : Int) (w : World) : (binOp .neq 25 (.agg #[.int .i64 a, .int .i64 b, .int .i64 c, .int .i64 d, .int .i64 e, .int .i64 f]) (.agg #[.int .i64 a', .int .i64 b', .int .i64 c', .int .i64 d', .int .i64 e', .int .i64 f'])).run Try.prog w = .ok (.bool (!boxB a b c d e f a' b' c' d' e' f')) w := by
  rw [run_neq_struct]
  unfold boxB veqB
  simp [go_sem]
  by_cases h1 : a = a' <;> by_cases h2 : b = b' <;> by_cases h3 : c = c' <;> by_cases h4 : d = d' <;> by_cases h5 : e = e' <;> by_cases h6 : f = f' <;> simp [h1, h2, h3, h4, h5, h6]
theorem rhull_k (g o n cap : Nat) (F : Nat → Nat → Int) (hn : 0 < n) (hc : n ≤ cap) (hm : cap ≤ maxLen) (w : World) (hB : Bxs w g o n F) :
    Calls Try.prog 25 #[.slice (some ⟨g, o, none⟩) n cap] w fun r w' => r = .returned (.agg #[.int .i64 (loK (F · 0) (n - 1)), .int .i64 (loK (F · 1) (n - 1)), .int .i64 (loK (F · 2) (n - 1)), .int .i64 (hiK (F · 3) (n - 1)), .int .i64 (hiK (F · 4) (n - 1)), .int .i64 (hiK (F · 5) (n - 1))]) ∧ Below w.heap.size w w' := by
  have h := rhull_c g o n cap F hc hm w hB
  rw [loZ_pos (by omega), loZ_pos (by omega), loZ_pos (by omega), hiZ_pos (by omega), hiZ_pos (by omega), hiZ_pos (by omega)] at h
  exact h
theorem in_box (x y z u v s : Int) (a : Int) (h1 : x ≤ u) (h2 : y ≤ v) (h3 : z ≤ s) : decide (axI u v s a < axI x y z a) = false := by
  unfold axI; simp; split
  · omega
  · split <;> omega
set_option maxHeartbeats 1000000 in
theorem hull0_c (q : Option Addr) (cap : Nat) (w : World) :
    Calls Try.prog 24 #[.slice q 0 cap] w fun r w' => r = .returned (.agg #[.int .i64 0, .int .i64 0, .int .i64 0, .int .i64 0, .int .i64 0, .int .i64 0]) ∧ Below w.heap.size w w' := by
  have R : Blk (w.alloc (.cells (bxV 0 0 0 0 0 0) 25)) w.heap.size 25 (bxV 0 0 0 0 0 0) := Blk.new' rfl
  obtain ⟨⟨r0, r1, r2, r3, r4, r5⟩, f0, f1, f2, f3, f4, f5⟩ := R.c6
  go_enter Try.func24, Try.ntmps24
  go_wp2_with fail
  have R2 := R.st6 (.int .i64 (0)) (.int .i64 (0)) (.int .i64 (0)) (.int .i64 (0)) (.int .i64 (0)) (.int .i64 (0))
  obtain ⟨⟨d0, d1, d2, d3, d4, d5⟩, -, -, -, -, -, -⟩ := R2.c6
  exact bodyPost_ret (v := .agg #[.int .i64 (0), .int .i64 (0), .int .i64 (0), .int .i64 (0), .int .i64 (0), .int .i64 (0)]) (by simp [results, Try.results24, go_sem, d0, d1, d2, d3, d4, d5]) rfl ⟨rfl, by (repeat' (first | (with_reducible exact Below.refl _ _) | (with_reducible assumption) | (with_reducible refine Below.alloc ?_ ?_ _) | (with_reducible refine Below.drew ?_) | (with_reducible refine Below.setCell ?_ ?_ _) | (with_reducible refine after ?_ (below_regrown _ _ _)) | (refine after ?_ (by with_reducible assumption)) | go_size))⟩
set_option maxHeartbeats 1000000 in
theorem rhull0_c (q : Option Addr) (cap : Nat) (w : World) :
    Calls Try.prog 25 #[.slice q 0 cap] w fun r w' => r = .returned (.agg #[.int .i64 0, .int .i64 0, .int .i64 0, .int .i64 0, .int .i64 0, .int .i64 0]) ∧ Below w.heap.size w w' := by
  have R : Blk ((w.alloc (.cells (bxV 0 0 0 0 0 0) 25)).alloc (.cells (bxV 0 0 0 0 0 0) 25)) w.heap.size 25 (bxV 0 0 0 0 0 0) := (Blk.new' rfl).alloc _
  have C : Blk ((w.alloc (.cells (bxV 0 0 0 0 0 0) 25)).alloc (.cells (bxV 0 0 0 0 0 0) 25)) (w.heap.size + 1) 25 (bxV 0 0 0 0 0 0) := Blk.new' (by simp)
  obtain ⟨⟨r0, r1, r2, r3, r4, r5⟩, f0, f1, f2, f3, f4, f5⟩ := R.c6
  obtain ⟨⟨c0, c1, c2, c3, c4, c5⟩, -, -, -, -, -, -⟩ := C.c6
  go_enter Try.func25, Try.ntmps25
  go_upto_region 3 with (fail)
  refine wp_loop_rounds 1 ?_
  rw [rounds_succ]
  go_wp2_with fail
  have R2 := R.st6 (.int .i64 (0)) (.int .i64 (0)) (.int .i64 (0)) (.int .i64 (0)) (.int .i64 (0)) (.int .i64 (0))
  obtain ⟨⟨d0, d1, d2, d3, d4, d5⟩, -, -, -, -, -, -⟩ := R2.c6
  exact bodyPost_ret (v := .agg #[.int .i64 (0), .int .i64 (0), .int .i64 (0), .int .i64 (0), .int .i64 (0), .int .i64 (0)]) (by simp [results, Try.results25, go_sem, d0, d1, d2, d3, d4, d5]) rfl ⟨rfl, by (repeat' (first | (with_reducible exact Below.refl _ _) | (with_reducible assumption) | (with_reducible refine Below.alloc ?_ ?_ _) | (with_reducible refine Below.drew ?_) | (with_reducible refine Below.setCell ?_ ?_ _) | (with_reducible refine after ?_ (below_regrown _ _ _)) | (refine after ?_ (by with_reducible assumption)) | go_size))⟩
set_option maxHeartbeats 4000000 in
theorem vecHulls_w0 (q : Option Addr) (cap : Nat) (w : World) :
    Calls Try.prog 6 #[.slice q 0 cap] w fun e w' => e = .returned (.bool true) ∧ Below w.heap.size w w' := by
  have ve := box_ne
  have vg := box_guard
  have vs := boxB_self
  go_enter Try.func6, Try.ntmps6
  go_wp2_with fail
  refine (hull0_c _ _ _).mono ?_; rintro e w1 ⟨rfl, H⟩
  go_upto_region 4 with (fail)
  obtain ⟨W1, hW⟩ : ∃ W1, W1 = w1.alloc (.cells #[.int .i64 0, .int .i64 0, .int .i64 0, .int .i64 0, .int .i64 0, .int .i64 0] 25) := ⟨_, rfl⟩
  rw [← hW]
  have C := Blk.fresh hW
  replace H := step_below (Below.refl _ _) H hW
  clear hW
  obtain ⟨k0, k1, k2, k3, k4, k5⟩ := C.re6
  refine wp_region_quiet_below (by kernel_rfl) (by kernel_rfl) ?_
  repeat (go_big_quiet_step (exact Calls.regrown_of (rhull0_c _ _ _)))
  refine wpQuiet_nil ?_
  intro w' hw'
  obtain ⟨rg, rfl⟩ := hw'
  go_upto_region 7 with (fail)
  refine wp_loop_rounds 1 ?_
  rw [rounds_succ]
  go_wp2_with fail
  refine (vlives_c _).mono ?_; rintro e w1 ⟨rfl, hb2⟩
  go_wp2_with fail
  go_returns
  exact ⟨rfl, by (repeat' (first | (with_reducible exact Below.refl _ _) | (with_reducible assumption) | (with_reducible refine Below.alloc ?_ ?_ _) | (with_reducible refine Below.drew ?_) | (with_reducible refine Below.setCell ?_ ?_ _) | (with_reducible refine after ?_ (below_regrown _ _ _)) | (refine after ?_ (by with_reducible assumption)) | go_size))⟩
set_option maxHeartbeats 8000000 in
theorem vecHulls_w1 (g o n cap : Nat) (F : Nat → Nat → Int) (hn : 0 < n) (hc : n ≤ cap) (hm : cap ≤ maxLen) (h6 : n ≤ 6) (w : World) (hB : Bxs w g o n F) :
    Calls Try.prog 6 #[.slice (some ⟨g, o, none⟩) n cap] w fun e w' => e = .returned (.bool true) ∧ Below w.heap.size w w' := by
  have ve := box_ne
  have vg := box_guard
  have vs := boxB_self
  go_enter Try.func6, Try.ntmps6
  go_wp2_with fail
  refine (hull_c g o n cap F hn hc hm w hB).mono ?_; rintro e w1 ⟨rfl, H⟩
  replace B := hB.on H
  go_upto_region 4 with (fail)
  obtain ⟨W1, hW⟩ : ∃ W1, W1 = w1.alloc (.cells #[.int .i64 (loK (F · 0) (n - 1)), .int .i64 (loK (F · 1) (n - 1)), .int .i64 (loK (F · 2) (n - 1)), .int .i64 (hiK (F · 3) (n - 1)), .int .i64 (hiK (F · 4) (n - 1)), .int .i64 (hiK (F · 5) (n - 1))] 25) := ⟨_, rfl⟩
  rw [← hW]
  have C := Blk.fresh hW
  have hb1 : Below w1.heap.size w1 W1 := by rw [hW]; exact (Below.refl _ _).alloc (Nat.le_refl _) _
  replace B := B.on hb1
  replace H := after H hb1
  clear hW hb1
  generalize w1.heap.size = nc at *
  obtain ⟨k0, k1, k2, k3, k4, k5⟩ := C.re6
  refine wp_region_quiet_below (by kernel_rfl) (by kernel_rfl) ?_
  repeat (go_big_quiet_step (exact Calls.regrown_of (rhull_k g o n cap F hn hc hm _ (B.re _ _))))
  refine wpQuiet_nil ?_
  intro w' hw'
  obtain ⟨rg, rfl⟩ := hw'
  obtain ⟨W2, hW⟩ : ∃ W2, W2 = Go.Sort.grow (redrawn W1 rg.d) rg.os := ⟨_, rfl⟩
  rw [← hW]
  replace C := C.reW hW
  replace B : Bxs W2 g o n F := by rw [hW]; exact B.re _ _
  replace H := re_below H hW
  clear hW k0 k1 k2 k3 k4 k5
  go_upto_region 7 with (fail)
  go_loopw [4] (fun i wr => ∃ k : Nat, k ≤ n ∧ i = .int .i64 k ∧ Blk wr nc 25 #[.int .i64 (loK (F · 0) (n - 1)), .int .i64 (loK (F · 1) (n - 1)), .int .i64 (loK (F · 2) (n - 1)), .int .i64 (hiK (F · 3) (n - 1)), .int .i64 (hiK (F · 4) (n - 1)), .int .i64 (hiK (F · 5) (n - 1))] ∧ Bxs wr g o n F ∧ Below w.heap.size w wr) (fun i _ => n - (intOf i).toNat)
  case atStart => exact ⟨0, by omega, rfl, C, B, H⟩
  case round =>
    clear C B H
    obtain ⟨k, hk, rfl, C, B, H⟩ := hrel
    by_cases hlt : k < n
    · go_upto_region 10 with (fail)
      go_loopw [5] (fun i wr => ∃ m : Nat, m ≤ 3 ∧ i = .int .i64 m ∧ Blk wr nc 25 #[.int .i64 (loK (F · 0) (n - 1)), .int .i64 (loK (F · 1) (n - 1)), .int .i64 (loK (F · 2) (n - 1)), .int .i64 (hiK (F · 3) (n - 1)), .int .i64 (hiK (F · 4) (n - 1)), .int .i64 (hiK (F · 5) (n - 1))] ∧ Bxs wr g o n F ∧ Below w.heap.size w wr) (fun i _ => 3 - (intOf i).toNat)
      case atStart => exact ⟨0, by omega, rfl, C, B, H⟩
      case round =>
        clear C B H
        rename World => wq
        obtain ⟨m, hm3, rfl, C, B, H⟩ := hrel
        by_cases hlm : m < 3
        · obtain ⟨k0, k1, k2, k3, k4, k5⟩ := C.re6
          have e0 : ∀ d os, (Go.Sort.grow (redrawn wq d) os).cell? ⟨g, o + k * 6, none⟩ = some (.int .i64 (F k 0)) := fun d os => by have := (B.re d os).at hlt; exact this.1
          have e1 : ∀ d os, (Go.Sort.grow (redrawn wq d) os).cell? ⟨g, o + k * 6 + 1, none⟩ = some (.int .i64 (F k 1)) := fun d os => by have := (B.re d os).at hlt; exact this.2.1
          have e2 : ∀ d os, (Go.Sort.grow (redrawn wq d) os).cell? ⟨g, o + k * 6 + 2, none⟩ = some (.int .i64 (F k 2)) := fun d os => by have := (B.re d os).at hlt; exact this.2.2.1
          have e3 : ∀ d os, (Go.Sort.grow (redrawn wq d) os).cell? ⟨g, o + k * 6 + 3, none⟩ = some (.int .i64 (F k 3)) := fun d os => by have := (B.re d os).at hlt; exact this.2.2.2.1
          have e4 : ∀ d os, (Go.Sort.grow (redrawn wq d) os).cell? ⟨g, o + k * 6 + 4, none⟩ = some (.int .i64 (F k 4)) := fun d os => by have := (B.re d os).at hlt; exact this.2.2.2.2.1
          have e5 : ∀ d os, (Go.Sort.grow (redrawn wq d) os).cell? ⟨g, o + k * 6 + 5, none⟩ = some (.int .i64 (F k 5)) := fun d os => by have := (B.re d os).at hlt; exact this.2.2.2.2.2
          have hi0 : (0 : Int) ≤ k := by omega
          have hi1 : (k : Int) < n := by omega
          have t1 : decide (axI (F k 0) (F k 1) (F k 2) m < axI (loK (F · 0) (n - 1)) (loK (F · 1) (n - 1)) (loK (F · 2) (n - 1)) m) = false := in_box _ _ _ _ _ _ _ (loK_le (F · 0) (n - 1) k (by omega)) (loK_le (F · 1) (n - 1) k (by omega)) (loK_le (F · 2) (n - 1) k (by omega))
          have t2 : decide (axI (hiK (F · 3) (n - 1)) (hiK (F · 4) (n - 1)) (hiK (F · 5) (n - 1)) m < axI (F k 3) (F k 4) (F k 5) m) = false := in_box _ _ _ _ _ _ _ (le_hiK (F · 3) (n - 1) k (by omega)) (le_hiK (F · 4) (n - 1) k (by omega)) (le_hiK (F · 5) (n - 1) k (by omega))
          go_upto_region 12 with (fail)
          refine wp_region_quiet_below (by kernel_rfl) (by kernel_rfl) ?_
          repeat (go_big_quiet_step (first | (go_at_call 17; exact Calls.regrown_of (axis_c _ _ _ _ _)) | (go_at_call 12; exact Calls.regrown_of (raxis_c _ _ _ _ _))))
          refine wpQuiet_nil ?_
          intro w' hw'
          obtain ⟨rg, rfl⟩ := hw'
          obtain ⟨W3, hW⟩ : ∃ W3, W3 = Go.Sort.grow (redrawn wq rg.d) rg.os := ⟨_, rfl⟩
          rw [← hW]
          replace C := C.reW hW
          replace B : Bxs W3 g o n F := by rw [hW]; exact B.re _ _
          replace H := re_below H hW
          clear hW k0 k1 k2 k3 k4 k5 e0 e1 e2 e3 e4 e5
          go_wp2_with fail
          have hkw := next64 (Nat.le_refl 3) (by decide) hlm
          go_roundw
          case rel => exact ⟨m + 1, hlm, rfl, C, B, H⟩
          case measure => exact next_less' hlm
        · obtain rfl : m = 3 := by omega
          go_wp2_with fail
          have hkw := next64 hc hm hlt
          go_roundw
          case rel => exact ⟨k + 1, hlt, rfl, C, B, H⟩
          case measure => exact next_less' hlt
    · obtain rfl : k = n := by omega
      go_wp2_with fail
      refine (vlives_c _).mono ?_; rintro e w1 ⟨rfl, hb2⟩
      go_wp2_with fail
      go_returns
      exact ⟨rfl, by (repeat' (first | (with_reducible exact Below.refl _ _) | (with_reducible assumption) | (with_reducible refine Below.alloc ?_ ?_ _) | (with_reducible refine Below.drew ?_) | (with_reducible refine Below.setCell ?_ ?_ _) | (with_reducible refine after ?_ (below_regrown _ _ _)) | (refine after ?_ (by with_reducible assumption)) | go_size))⟩
set_option maxHeartbeats 8000000 in
theorem vecHulls_w2 (g o l cap : Nat) (F : Nat → Nat → Int) (h6 : 6 < l) (hl : l ≤ cap) (hm : cap ≤ maxLen) (w : World) (hL : Bxs w g o l F) :
    Calls Try.prog 6 #[.slice (some ⟨g, o, none⟩) l cap] w fun e w' => e = .returned (.bool true) ∧ Below w.heap.size w w' := by
  have hc : 6 ≤ cap := by omega
  have hB : Bxs w g o 6 F := fun i hi => hL i (by omega)
  have ve := box_ne
  have vg := box_guard
  have vs := boxB_self
  go_enter Try.func6, Try.ntmps6
  go_wp2_with fail
  refine (hull_c g o 6 cap F (by decide) hc hm w hB).mono ?_; rintro e w1 ⟨rfl, H⟩
  replace B := hB.on H
  go_upto_region 4 with (fail)
  obtain ⟨W1, hW⟩ : ∃ W1, W1 = w1.alloc (.cells #[.int .i64 (loK (F · 0) (6 - 1)), .int .i64 (loK (F · 1) (6 - 1)), .int .i64 (loK (F · 2) (6 - 1)), .int .i64 (hiK (F · 3) (6 - 1)), .int .i64 (hiK (F · 4) (6 - 1)), .int .i64 (hiK (F · 5) (6 - 1))] 25) := ⟨_, rfl⟩
  rw [← hW]
  have C := Blk.fresh hW
  have hb1 : Below w1.heap.size w1 W1 := by rw [hW]; exact (Below.refl _ _).alloc (Nat.le_refl _) _
  replace B := B.on hb1
  replace H := after H hb1
  clear hW hb1
  generalize w1.heap.size = nc at *
  obtain ⟨k0, k1, k2, k3, k4, k5⟩ := C.re6
  refine wp_region_quiet_below (by kernel_rfl) (by kernel_rfl) ?_
  repeat (go_big_quiet_step (exact Calls.regrown_of (rhull_k g o 6 cap F (by decide) hc hm _ (B.re _ _))))
  refine wpQuiet_nil ?_
  intro w' hw'
  obtain ⟨rg, rfl⟩ := hw'
  obtain ⟨W2, hW⟩ : ∃ W2, W2 = Go.Sort.grow (redrawn W1 rg.d) rg.os := ⟨_, rfl⟩
  rw [← hW]
  replace C := C.reW hW
  replace B : Bxs W2 g o 6 F := by rw [hW]; exact B.re _ _
  replace H := re_below H hW
  clear hW k0 k1 k2 k3 k4 k5
  go_upto_region 7 with (fail)
  go_loopw [4] (fun i wr => ∃ k : Nat, k ≤ 6 ∧ i = .int .i64 k ∧ Blk wr nc 25 #[.int .i64 (loK (F · 0) (6 - 1)), .int .i64 (loK (F · 1) (6 - 1)), .int .i64 (loK (F · 2) (6 - 1)), .int .i64 (hiK (F · 3) (6 - 1)), .int .i64 (hiK (F · 4) (6 - 1)), .int .i64 (hiK (F · 5) (6 - 1))] ∧ Bxs wr g o 6 F ∧ Below w.heap.size w wr) (fun i _ => 6 - (intOf i).toNat)
  case atStart => exact ⟨0, by omega, rfl, C, B, H⟩
  case round =>
    clear C B H
    obtain ⟨k, hk, rfl, C, B, H⟩ := hrel
    by_cases hlt : k < 6
    · go_upto_region 10 with (fail)
      go_loopw [5] (fun i wr => ∃ m : Nat, m ≤ 3 ∧ i = .int .i64 m ∧ Blk wr nc 25 #[.int .i64 (loK (F · 0) (6 - 1)), .int .i64 (loK (F · 1) (6 - 1)), .int .i64 (loK (F · 2) (6 - 1)), .int .i64 (hiK (F · 3) (6 - 1)), .int .i64 (hiK (F · 4) (6 - 1)), .int .i64 (hiK (F · 5) (6 - 1))] ∧ Bxs wr g o 6 F ∧ Below w.heap.size w wr) (fun i _ => 3 - (intOf i).toNat)
      case atStart => exact ⟨0, by omega, rfl, C, B, H⟩
      case round =>
        clear C B H
        rename World => wq
        obtain ⟨m, hm3, rfl, C, B, H⟩ := hrel
        by_cases hlm : m < 3
        · obtain ⟨k0, k1, k2, k3, k4, k5⟩ := C.re6
          have e0 : ∀ d os, (Go.Sort.grow (redrawn wq d) os).cell? ⟨g, o + k * 6, none⟩ = some (.int .i64 (F k 0)) := fun d os => by have := (B.re d os).at hlt; exact this.1
          have e1 : ∀ d os, (Go.Sort.grow (redrawn wq d) os).cell? ⟨g, o + k * 6 + 1, none⟩ = some (.int .i64 (F k 1)) := fun d os => by have := (B.re d os).at hlt; exact this.2.1
          have e2 : ∀ d os, (Go.Sort.grow (redrawn wq d) os).cell? ⟨g, o + k * 6 + 2, none⟩ = some (.int .i64 (F k 2)) := fun d os => by have := (B.re d os).at hlt; exact this.2.2.1
          have e3 : ∀ d os, (Go.Sort.grow (redrawn wq d) os).cell? ⟨g, o + k * 6 + 3, none⟩ = some (.int .i64 (F k 3)) := fun d os => by have := (B.re d os).at hlt; exact this.2.2.2.1
          have e4 : ∀ d os, (Go.Sort.grow (redrawn wq d) os).cell? ⟨g, o + k * 6 + 4, none⟩ = some (.int .i64 (F k 4)) := fun d os => by have := (B.re d os).at hlt; exact this.2.2.2.2.1
          have e5 : ∀ d os, (Go.Sort.grow (redrawn wq d) os).cell? ⟨g, o + k * 6 + 5, none⟩ = some (.int .i64 (F k 5)) := fun d os => by have := (B.re d os).at hlt; exact this.2.2.2.2.2
          have hi0 : (0 : Int) ≤ k := by omega
          have hi1 : (k : Int) < 6 := by omega
          have t1 : decide (axI (F k 0) (F k 1) (F k 2) m < axI (loK (F · 0) (6 - 1)) (loK (F · 1) (6 - 1)) (loK (F · 2) (6 - 1)) m) = false := in_box _ _ _ _ _ _ _ (loK_le (F · 0) (6 - 1) k (by omega)) (loK_le (F · 1) (6 - 1) k (by omega)) (loK_le (F · 2) (6 - 1) k (by omega))
          have t2 : decide (axI (hiK (F · 3) (6 - 1)) (hiK (F · 4) (6 - 1)) (hiK (F · 5) (6 - 1)) m < axI (F k 3) (F k 4) (F k 5) m) = false := in_box _ _ _ _ _ _ _ (le_hiK (F · 3) (6 - 1) k (by omega)) (le_hiK (F · 4) (6 - 1) k (by omega)) (le_hiK (F · 5) (6 - 1) k (by omega))
          go_upto_region 12 with (fail)
          refine wp_region_quiet_below (by kernel_rfl) (by kernel_rfl) ?_
          repeat (go_big_quiet_step (first | (go_at_call 17; exact Calls.regrown_of (axis_c _ _ _ _ _)) | (go_at_call 12; exact Calls.regrown_of (raxis_c _ _ _ _ _))))
          refine wpQuiet_nil ?_
          intro w' hw'
          obtain ⟨rg, rfl⟩ := hw'
          obtain ⟨W3, hW⟩ : ∃ W3, W3 = Go.Sort.grow (redrawn wq rg.d) rg.os := ⟨_, rfl⟩
          rw [← hW]
          replace C := C.reW hW
          replace B : Bxs W3 g o 6 F := by rw [hW]; exact B.re _ _
          replace H := re_below H hW
          clear hW k0 k1 k2 k3 k4 k5 e0 e1 e2 e3 e4 e5
          go_wp2_with fail
          have hkw := next64 (Nat.le_refl 3) (by decide) hlm
          go_roundw
          case rel => exact ⟨m + 1, hlm, rfl, C, B, H⟩
          case measure => exact next_less' hlm
        · obtain rfl : m = 3 := by omega
          go_wp2_with fail
          have hkw := next64 hc hm hlt
          go_roundw
          case rel => exact ⟨k + 1, hlt, rfl, C, B, H⟩
          case measure => exact next_less' hlt
    · obtain rfl : k = 6 := by omega
      go_wp2_with fail
      refine (vlives_c _).mono ?_; rintro e w1 ⟨rfl, hb2⟩
      go_wp2_with fail
      go_returns
      exact ⟨rfl, by (repeat' (first | (with_reducible exact Below.refl _ _) | (with_reducible assumption) | (with_reducible refine Below.alloc ?_ ?_ _) | (with_reducible refine Below.drew ?_) | (with_reducible refine Below.setCell ?_ ?_ _) | (with_reducible refine after ?_ (below_regrown _ _ _)) | (refine after ?_ (by with_reducible assumption)) | go_size))⟩
theorem vecHulls_w (v : Value) (w : World) (h : (∃ q cap, v = .slice q 0 cap) ∨ ∃ g o n cap F, v = .slice (some ⟨g, o, none⟩) n cap ∧ 0 < n ∧ n ≤ cap ∧ cap ≤ maxLen ∧ Bxs w g o n F ∧ ∀ i j, i < n → j < 6 → In64 (F i j)) :
    Calls Try.prog 6 #[v] w fun e w' => e = .returned (.bool true) ∧ Below w.heap.size w w' := by
  rcases h with ⟨q, cap, rfl⟩ | ⟨g, o, n, cap, F, rfl, hn, hc, hm, hB, _⟩
  · exact vecHulls_w0 q cap w
  · by_cases h6 : n ≤ 6
    · exact vecHulls_w1 g o n cap F hn hc hm h6 w hB
    · exact vecHulls_w2 g o n cap F (by omega) hc hm w hB
set_option maxRecDepth 100000 in
theorem vecHulls_lifted (os : Os) (started : os.Started) (H : Type) (enc : TypeId × Value → H) :
    ReturnsInHanded {} Try.checked os 6 .any (Rows.vecHullsSpec.pre6 enc Try.prog Try.f6 Rows.vecHullsRow.domain false) (Rows.vecHullsSpec.post enc Try.prog Try.f6 false true false false) := by
  refine returnsInHanded_of_change (C := Try.checked) own started (by kernel_rfl) Try.func6
    (ChangeSpec.witness6 (enc := enc) (C := Try.checked) false ⟨#[], #[.slice none 0 0], []⟩ 8 (by kernel_rfl) (by kernel_rfl) (by kernel_rfl) (by kernel_rfl)) ?_
  intro W base args ds gs before hval0 hW hcnd hsz
  have hval : ∀ (j : Nat) t v, Try.f6.params[j]? = some t → args[j]? = some v → Value.okWide Try.prog W .any base t v := hval0
  have hW' := hW
  obtain ⟨p, q, hA0, hV, rfl, hfz, hnd⟩ := hW
  have hA : DataW.TrodAll enc Try.prog W 0 (fun _ => true) true Try.f6.params.toList args.toList ds p := hA0
  rw [Try.params6] at hA hval
  obtain ⟨v0, vs0, d0, ds0, p_0, q_0, hargs, rfl, rfl, h0, r_0⟩ := trodAll_cons hA
  obtain ⟨rfl, rfl, rfl⟩ := trodAll_nil r_0
  obtain rfl : args = #[v0] := by cases args; simp_all
  obtain ⟨rfl, rfl⟩ := trodVars_none hV
  have b0 := open_boxes Try.underlying40 Try.underlying25 Try.underlying23 (by kernel_rfl) (by kernel_rfl) (by kernel_rfl) Try.underlying3 (hval 0 40 v0 rfl rfl) h0
  refine (vecHulls_w v0 W b0).mono fun e W' ⟨he, hb⟩ => ?_
  subst he
  exact ⟨_, rfl, law_post laidOut (by kernel_rfl) rfl (by kernel_rfl) Try.underlying4 hW' rfl rfl rfl hb⟩

/-- The statement. -/
theorem vecHulls_proved : Rows.VecHullsSaid :=
  OpenClaim.holds_of_wide 6 Try.f6 rfl rfl rfl rfl rfl rfl rfl ⟨rfl, rfl, rfl, rfl, rfl⟩ rfl rfl rfl rfl rfl (by kernel_rfl) Try.func6 (by kernel_rfl)
    (of_decide_eq_true (by kernel_rfl)) (by unfold Func.isWrapper; first | (rw [if_pos (by decide +kernel)]; kernel_rfl) | (rw [if_neg (by decide +kernel)]; exact ⟨rfl, rfl⟩))
    (fun os started H enc _ => vecHulls_lifted os started H enc)
end Go.Proofs.Ytghdjmckjfblmaa
