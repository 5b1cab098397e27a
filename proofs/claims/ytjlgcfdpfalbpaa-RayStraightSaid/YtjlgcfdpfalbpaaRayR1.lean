/- The document's small functions for rays. -/
import Derived.Test.YtjlgcfdpfalbpaaRayV
namespace Go.Proofs.Ytjlgcfdpfalbpaa
open Go.RowKit Go.Shelf
attribute [local go_sem] Oper.semAt_some

def fromI (n : Int) : Int := mnI (mxI n (-70368744177664)) 70368744177664
theorem from_46 (x : Int) : -70368744177664 ≤ fromI x ∧ fromI x ≤ 70368744177664 := by unfold fromI mnI mxI; omega
set_option maxHeartbeats 2000000 in
theorem rway_c (x y z : Int) (w : World) : Calls Try.prog 34 #[.agg #[.int .i64 x, .int .i64 y, .int .i64 z]] w fun r w' => r = .returned (.agg #[.int .i64 (qI x), .int .i64 (qI y), .int .i64 (qI z)]) ∧ Below w.heap.size w w' := by
  have hmn := @run_mn Try.prog
  have hmx := @run_mx Try.prog
  obtain ⟨W, hW⟩ : ∃ W, W = (w.alloc (.cells #[.int .i64 x, .int .i64 y, .int .i64 z] 26)).alloc (.cells #[.int .i64 0, .int .i64 0, .int .i64 0] 26) := ⟨_, rfl⟩
  have H : Below w.heap.size w W := by rw [hW]; go_grown
  obtain ⟨N, hN⟩ : ∃ N, N = w.heap.size := ⟨_, rfl⟩
  have A : Blk W N 26 #[.int .i64 x, .int .i64 y, .int .i64 z] := Blk.eqw hW.symm (by rw [hN]; exact (Blk.new' rfl).alloc _)
  have R : Blk W (N + 1) 26 #[.int .i64 0, .int .i64 0, .int .i64 0] := Blk.eqw hW.symm (by rw [hN]; exact Blk.new' (by simp))
  obtain ⟨a0, a1, a2, -, -, -⟩ := A.c3
  obtain ⟨r0, r1, r2, s0, s1, s2⟩ := R.c3
  go_enter Try.func34, Try.ntmps34
  go_upto_region 1 with (fail)
  rw [← hW, ← hN]
  have HN := Lib.hid hN
  clear hW hN
  go_wp2_with fail
  have R2 := R.st3 (.int .i64 (qI x)) (.int .i64 (qI y)) (.int .i64 (qI z))
  obtain ⟨d0, d1, d2, -, -, -⟩ := R2.c3
  refine bodyPost_ret (v := .agg #[.int .i64 (qI x), .int .i64 (qI y), .int .i64 (qI z)]) (by show _ = _; unfold qI at d0 d1 d2 ⊢; simp [results, Try.results34, go_sem, d0, d1, d2]) rfl ⟨rfl, ?_⟩
  rw [HN.out]
  exact ((H.setCell (p := ⟨w.heap.size + 1, 0, none⟩) (by dsimp only; omega) _).setCell (p := ⟨w.heap.size + 1, 1, none⟩) (by dsimp only; omega) _).setCell (p := ⟨w.heap.size + 1, 2, none⟩) (by dsimp only; omega) _
set_option maxHeartbeats 2000000 in
theorem rfrom_c (x y z : Int) (w : World) : Calls Try.prog 20 #[.agg #[.int .i64 x, .int .i64 y, .int .i64 z]] w fun r w' => r = .returned (.agg #[.int .i64 (fromI x), .int .i64 (fromI y), .int .i64 (fromI z)]) ∧ Below w.heap.size w w' := by
  have hmn := @run_mn Try.prog
  have hmx := @run_mx Try.prog
  obtain ⟨W, hW⟩ : ∃ W, W = (w.alloc (.cells #[.int .i64 x, .int .i64 y, .int .i64 z] 26)).alloc (.cells #[.int .i64 0, .int .i64 0, .int .i64 0] 26) := ⟨_, rfl⟩
  have H : Below w.heap.size w W := by rw [hW]; go_grown
  obtain ⟨N, hN⟩ : ∃ N, N = w.heap.size := ⟨_, rfl⟩
  have A : Blk W N 26 #[.int .i64 x, .int .i64 y, .int .i64 z] := Blk.eqw hW.symm (by rw [hN]; exact (Blk.new' rfl).alloc _)
  have R : Blk W (N + 1) 26 #[.int .i64 0, .int .i64 0, .int .i64 0] := Blk.eqw hW.symm (by rw [hN]; exact Blk.new' (by simp))
  obtain ⟨a0, a1, a2, -, -, -⟩ := A.c3
  obtain ⟨r0, r1, r2, s0, s1, s2⟩ := R.c3
  go_enter Try.func20, Try.ntmps20
  go_upto_region 1 with (fail)
  rw [← hW, ← hN]
  have HN := Lib.hid hN
  clear hW hN
  go_wp2_with fail
  have R2 := R.st3 (.int .i64 (fromI x)) (.int .i64 (fromI y)) (.int .i64 (fromI z))
  obtain ⟨d0, d1, d2, -, -, -⟩ := R2.c3
  refine bodyPost_ret (v := .agg #[.int .i64 (fromI x), .int .i64 (fromI y), .int .i64 (fromI z)]) (by show _ = _; unfold fromI at d0 d1 d2 ⊢; simp [results, Try.results20, go_sem, d0, d1, d2]) rfl ⟨rfl, ?_⟩
  rw [HN.out]
  exact ((H.setCell (p := ⟨w.heap.size + 1, 0, none⟩) (by dsimp only; omega) _).setCell (p := ⟨w.heap.size + 1, 1, none⟩) (by dsimp only; omega) _).setCell (p := ⟨w.heap.size + 1, 2, none⟩) (by dsimp only; omega) _
set_option maxHeartbeats 2000000 in
theorem rccut_c (x y z : Int) (w : World) : Calls Try.prog 18 #[.agg #[.int .i64 x, .int .i64 y, .int .i64 z]] w fun r w' => r = .returned (.agg #[.int .i64 (ccI x), .int .i64 (ccI y), .int .i64 (ccI z)]) ∧ Below w.heap.size w w' := by
  have hmn := @run_mn Try.prog
  have hmx := @run_mx Try.prog
  obtain ⟨W, hW⟩ : ∃ W, W = (w.alloc (.cells #[.int .i64 x, .int .i64 y, .int .i64 z] 29)).alloc (.cells #[.int .i64 0, .int .i64 0, .int .i64 0] 29) := ⟨_, rfl⟩
  have H : Below w.heap.size w W := by rw [hW]; go_grown
  obtain ⟨N, hN⟩ : ∃ N, N = w.heap.size := ⟨_, rfl⟩
  have A : Blk W N 29 #[.int .i64 x, .int .i64 y, .int .i64 z] := Blk.eqw hW.symm (by rw [hN]; exact (Blk.new' rfl).alloc _)
  have R : Blk W (N + 1) 29 #[.int .i64 0, .int .i64 0, .int .i64 0] := Blk.eqw hW.symm (by rw [hN]; exact Blk.new' (by simp))
  obtain ⟨a0, a1, a2, -, -, -⟩ := A.c3
  obtain ⟨r0, r1, r2, s0, s1, s2⟩ := R.c3
  go_enter Try.func18, Try.ntmps18
  go_upto_region 1 with (fail)
  rw [← hW, ← hN]
  have HN := Lib.hid hN
  clear hW hN
  go_wp2_with fail
  have R2 := R.st3 (.int .i64 (ccI x)) (.int .i64 (ccI y)) (.int .i64 (ccI z))
  obtain ⟨d0, d1, d2, -, -, -⟩ := R2.c3
  refine bodyPost_ret (v := .agg #[.int .i64 (ccI x), .int .i64 (ccI y), .int .i64 (ccI z)]) (by show _ = _; unfold ccI at d0 d1 d2 ⊢; simp [results, Try.results18, go_sem, d0, d1, d2]) rfl ⟨rfl, ?_⟩
  rw [HN.out]
  exact ((H.setCell (p := ⟨w.heap.size + 1, 0, none⟩) (by dsimp only; omega) _).setCell (p := ⟨w.heap.size + 1, 1, none⟩) (by dsimp only; omega) _).setCell (p := ⟨w.heap.size + 1, 2, none⟩) (by dsimp only; omega) _
set_option maxHeartbeats 2000000 in
theorem rof_c (x y z : Int) (w : World) : Calls Try.prog 24 #[.agg #[.int .i64 x, .int .i64 y, .int .i64 z]] w fun r w' => r = .returned (.agg #[.int .i64 (lowI x), .int .i64 (lowI y), .int .i64 (lowI z)]) ∧ Below w.heap.size w w' := by
  have U : Blk ((w.alloc (.cells #[.int .i64 x, .int .i64 y, .int .i64 z] 26)).alloc (.cells #[.int .i64 0, .int .i64 0, .int .i64 0] 29)) w.heap.size 26 #[.int .i64 x, .int .i64 y, .int .i64 z] := (Blk.new' rfl).alloc _
  have R0 : Blk ((w.alloc (.cells #[.int .i64 x, .int .i64 y, .int .i64 z] 26)).alloc (.cells #[.int .i64 0, .int .i64 0, .int .i64 0] 29)) (w.heap.size + 1) 29 #[.int .i64 0, .int .i64 0, .int .i64 0] := Blk.new' (by simp)
  obtain ⟨k0, k1, k2⟩ := U.re3
  go_enter Try.func24, Try.ntmps24
  go_wp2_with fail
  refine wp_region_last_below 10 (by kernel_rfl) rfl (by kernel_rfl) ?_
  simp only [List.take_succ_cons, List.take_zero, List.drop_succ_cons, List.drop_zero]
  repeat (go_big_quiet_step (exact Calls.regrown_of (calls_bel (rfloor_c _ _))))
  refine wpQuiet_nil ?_
  intro w' hw'
  obtain ⟨rg, rfl⟩ := hw'
  have R := R0.re rg.d rg.os
  obtain ⟨r0, r1, r2, s0, s1, s2⟩ := R.c3
  go_wp2_with fail
  have R2 := R.st3 (.int .i64 (lowI x)) (.int .i64 (lowI y)) (.int .i64 (lowI z))
  obtain ⟨d0, d1, d2, -, -, -⟩ := R2.c3
  exact bodyPost_ret (v := .agg #[.int .i64 (lowI x), .int .i64 (lowI y), .int .i64 (lowI z)]) (by simp [results, Try.results24, go_sem, d0, d1, d2]) rfl ⟨rfl, by (repeat' (first | (with_reducible exact Below.refl _ _) | (with_reducible assumption) | (with_reducible refine Below.alloc ?_ ?_ _) | (with_reducible refine Below.drew ?_) | (with_reducible refine Below.setCell ?_ ?_ _) | (with_reducible refine after ?_ (below_regrown _ _ _)) | (refine after ?_ (by with_reducible assumption)) | go_size))⟩
theorem ahead_c (a b : X4) (h1 : 0 ≤ a.2.2.1 ∧ a.2.2.1 ≤ 100000000) (h2 : 0 ≤ a.2.2.2 ∧ a.2.2.2 ≤ 1048576) (h3 : 0 ≤ b.2.2.1 ∧ b.2.2.1 ≤ 100000000) (h4 : 0 ≤ b.2.2.2 ∧ b.2.2.2 ≤ 1048576) (w : World) :
    Calls Try.prog 36 #[.agg #[.int .i64 a.1, .int .i64 a.2.1, .int .i64 a.2.2.1, .int .i64 a.2.2.2], .agg #[.int .i64 b.1, .int .i64 b.2.1, .int .i64 b.2.2.1, .int .i64 b.2.2.2]] w fun r w' => r = .returned (.bool (ahB a b)) ∧ Below w.heap.size w w' := by
  have p1 : 0 ≤ a.2.2.1 * b.2.2.2 := Int.mul_nonneg h1.1 h4.1
  have p2 : a.2.2.1 * b.2.2.2 ≤ 100000000 * 1048576 := Int.mul_le_mul h1.2 h4.2 h4.1 (by omega)
  have p3 : 0 ≤ b.2.2.1 * a.2.2.2 := Int.mul_nonneg h3.1 h2.1
  have p4 : b.2.2.1 * a.2.2.2 ≤ 100000000 * 1048576 := Int.mul_le_mul h3.2 h2.2 h2.1 (by omega)
  have q1 : -9223372036854775808 ≤ a.2.2.1 * b.2.2.2 := by omega
  have q2 : a.2.2.1 * b.2.2.2 ≤ 9223372036854775807 := by omega
  have q3 : -9223372036854775808 ≤ b.2.2.1 * a.2.2.2 := by omega
  have q4 : b.2.2.1 * a.2.2.2 ≤ 9223372036854775807 := by omega
  clear p1 p2 p3 p4 h1 h2 h3 h4
  obtain ⟨a0, a1, a2, a3⟩ := a
  obtain ⟨b0, b1, b2, b3⟩ := b
  dsimp only at *
  by_cases he : a2 * b3 = b2 * a3
  · have hv : ahB (a0, a1, a2, a3) (b0, b1, b2, b3) = decide (a0 < b0) := by unfold ahB; exact if_pos he
    have hd : (a2 * b3 == b2 * a3) = true := by simpa using he
    have hd2 : (a2 * b3 != b2 * a3) = false := by simp [he]
    rw [hv]
    clear hv he
    go_enter Try.func36, Try.ntmps36
    go_wp2_with fail
    go_returns
    exact ⟨rfl, by (repeat' (first | (with_reducible exact Below.refl _ _) | (with_reducible assumption) | (with_reducible refine Below.alloc ?_ ?_ _) | (with_reducible refine Below.drew ?_) | (with_reducible refine Below.setCell ?_ ?_ _) | (with_reducible refine after ?_ (below_regrown _ _ _)) | (refine after ?_ (by with_reducible assumption)) | go_size))⟩
  · have hv : ahB (a0, a1, a2, a3) (b0, b1, b2, b3) = decide (a2 * b3 < b2 * a3) := by unfold ahB; exact if_neg he
    have hd : (a2 * b3 == b2 * a3) = false := by simpa using he
    have hd2 : (a2 * b3 != b2 * a3) = true := by simp [he]
    rw [hv]
    clear hv he
    go_enter Try.func36, Try.ntmps36
    go_wp2_with fail
    go_returns
    exact ⟨rfl, by (repeat' (first | (with_reducible exact Below.refl _ _) | (with_reducible assumption) | (with_reducible refine Below.alloc ?_ ?_ _) | (with_reducible refine Below.drew ?_) | (with_reducible refine Below.setCell ?_ ?_ _) | (with_reducible refine after ?_ (below_regrown _ _ _)) | (refine after ?_ (by with_reducible assumption)) | go_size))⟩
/-- Too far? -/
def farB (R : Int) (c h : I3) : Bool := decide (mxI (mxI (c.1 - h.1) (h.1 - c.1)) (mxI (mxI (c.2.1 - h.2.1) (h.2.1 - c.2.1)) (mxI (c.2.2 - h.2.2) (h.2.2 - c.2.2))) > R)
theorem far_c (c h : I3) (R : Int) (hc : Sm3 c) (hh : Sm3 h) (w : World) :
    Calls Try.prog 38 #[.agg #[.int .i64 c.1, .int .i64 c.2.1, .int .i64 c.2.2], .agg #[.int .i64 h.1, .int .i64 h.2.1, .int .i64 h.2.2], .int .i64 R] w fun r w' => r = .returned (.bool (farB R c h)) ∧ Below w.heap.size w w' := by
  have hmx := @run_mx Try.prog
  unfold farB
  obtain ⟨c0, c1, c2⟩ := c
  obtain ⟨h0, h1, h2⟩ := h
  unfold Sm3 at hc hh
  dsimp only at *
  have e1 : -9223372036854775808 ≤ c0 - h0 := by omega
  have e2 : c0 - h0 ≤ 9223372036854775807 := by omega
  have e3 : -9223372036854775808 ≤ h0 - c0 := by omega
  have e4 : h0 - c0 ≤ 9223372036854775807 := by omega
  have e5 : -9223372036854775808 ≤ c1 - h1 := by omega
  have e6 : c1 - h1 ≤ 9223372036854775807 := by omega
  have e7 : -9223372036854775808 ≤ h1 - c1 := by omega
  have e8 : h1 - c1 ≤ 9223372036854775807 := by omega
  have e9 : -9223372036854775808 ≤ c2 - h2 := by omega
  have e10 : c2 - h2 ≤ 9223372036854775807 := by omega
  have e11 : -9223372036854775808 ≤ h2 - c2 := by omega
  have e12 : h2 - c2 ≤ 9223372036854775807 := by omega
  clear hc hh
  go_enter Try.func38, Try.ntmps38
  go_wp2_with fail
  go_returns
  exact ⟨ret_b rfl, by (repeat' (first | (with_reducible exact Below.refl _ _) | (with_reducible assumption) | (with_reducible refine Below.alloc ?_ ?_ _) | (with_reducible refine Below.drew ?_) | (with_reducible refine Below.setCell ?_ ?_ _) | (with_reducible refine after ?_ (below_regrown _ _ _)) | (refine after ?_ (by with_reducible assumption)) | go_size))⟩
theorem far_in {p : Rp} {R : Int} {k : K3} (hp : RpOk p) (hR : 0 ≤ R) : farB R p.c (cellK p k) = !inR R k := by
  rw [← within_in hp hR]
  unfold farB withinB nearB mxI
  rw [← Bool.decide_and, ← Bool.decide_and, ← Bool.decide_and, ← Bool.decide_and, ← Bool.decide_and, ← decide_not]
  apply decide_eq_decide.2
  omega
end Go.Proofs.Ytjlgcfdpfalbpaa
