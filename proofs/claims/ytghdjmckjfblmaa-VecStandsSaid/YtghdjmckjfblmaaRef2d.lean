/- The walks of the reference of the layer 2: the box that stands on a place. -/
import Derived.Test.YtghdjmckjfblmaaRef2
import Derived.Test.YtghdjmckjfblmaaVec5
namespace Go.Proofs.Ytghdjmckjfblmaa
open Go.RowKit

set_option maxHeartbeats 2000000 in
theorem rstand_m (x y z wd h m k : Int) (hm : mxI wd 0 = m) (hk : mxI h 0 = k) (_m0 : 0 ≤ m) (_m1 : m ≤ 9223372036854775807) (w : World) : Calls Try.prog 32 #[.agg #[.int .i64 x, .int .i64 y, .int .i64 z], .int .i64 wd, .int .i64 h] w fun r w' => r = .returned (.agg #[.int .i64 (subI x (m / 2)), .int .i64 (cutI y), .int .i64 (subI z (m / 2)), .int .i64 (addI x (m / 2)), .int .i64 (addI y k), .int .i64 (addI z (m / 2))]) ∧ Below w.heap.size w w' := by
  have hmx := @run_mx Try.prog
  have U : Blk ((w.alloc (.cells #[.int .i64 x, .int .i64 y, .int .i64 z] 23)).alloc (.cells (bxV 0 0 0 0 0 0) 25)) w.heap.size 23 #[.int .i64 x, .int .i64 y, .int .i64 z] := (Blk.new' rfl).alloc _
  have R0 : Blk ((w.alloc (.cells #[.int .i64 x, .int .i64 y, .int .i64 z] 23)).alloc (.cells (bxV 0 0 0 0 0 0) 25)) (w.heap.size + 1) 25 (bxV 0 0 0 0 0 0) := Blk.new' (by simp)
  obtain ⟨k0, k1, k2⟩ := U.re3
  go_enter Try.func32, Try.ntmps32
  go_wp2_with fail
  refine wp_region_last_below 27 (by kernel_rfl) rfl (by kernel_rfl) ?_
  simp only [List.take_succ_cons, List.take_zero, List.drop_succ_cons, List.drop_zero]
  repeat (go_big_quiet_step (first | exact Calls.regrown_of (calls_bel (rsub_c _ _ _)) | exact Calls.regrown_of (calls_bel (radd_c _ _ _)) | exact Calls.regrown_of (calls_bel (rcut_c _ _))))
  refine wpQuiet_nil ?_
  intro w' hw'
  obtain ⟨p, rfl⟩ := hw'
  have R := R0.re p.d p.os
  obtain ⟨⟨r0, r1, r2, r3, r4, r5⟩, s0, s1, s2, s3, s4, s5⟩ := R.c6
  go_wp2_with fail
  have R2 := R.st6 (.int .i64 (subI x (m / 2))) (.int .i64 (cutI y)) (.int .i64 (subI z (m / 2))) (.int .i64 (addI x (m / 2))) (.int .i64 (addI y k)) (.int .i64 (addI z (m / 2)))
  obtain ⟨⟨d0, d1, d2, d3, d4, d5⟩, -, -, -, -, -, -⟩ := R2.c6
  exact bodyPost_ret (v := .agg #[.int .i64 (subI x (m / 2)), .int .i64 (cutI y), .int .i64 (subI z (m / 2)), .int .i64 (addI x (m / 2)), .int .i64 (addI y k), .int .i64 (addI z (m / 2))]) (by simp [results, Try.results32, go_sem, d0, d1, d2, d3, d4, d5]) rfl ⟨rfl, by (repeat' (first | (with_reducible exact Below.refl _ _) | (with_reducible assumption) | (with_reducible refine Below.alloc ?_ ?_ _) | (with_reducible refine Below.drew ?_) | (with_reducible refine Below.setCell ?_ ?_ _) | (with_reducible refine after ?_ (below_regrown _ _ _)) | (refine after ?_ (by with_reducible assumption)) | go_size))⟩
theorem rstand_c (x y z wd h : Int) (hw : wd ≤ 9223372036854775807) (w : World) : Calls Try.prog 32 #[.agg #[.int .i64 x, .int .i64 y, .int .i64 z], .int .i64 wd, .int .i64 h] w fun r w' => r = .returned (.agg #[.int .i64 (subI x (max wd 0 / 2)), .int .i64 (cutI y), .int .i64 (subI z (max wd 0 / 2)), .int .i64 (addI x (max wd 0 / 2)), .int .i64 (addI y (max h 0)), .int .i64 (addI z (max wd 0 / 2))]) ∧ Below w.heap.size w w' :=
  rstand_m x y z wd h _ _ rfl rfl (by unfold mxI; omega) (by unfold mxI; omega) w
end Go.Proofs.Ytghdjmckjfblmaa
