/- The walks of the layer 2 (vec): the box that stands on a place. -/
import Derived.Test.YtghdjmckjfblmaaVec4
namespace Go.Proofs.Ytghdjmckjfblmaa
open Go.RowKit

set_option maxHeartbeats 2000000 in
theorem stand_aa (x y z wd h : Int) (_w1 : wd ≤ 9223372036854775807) (g1 : wd < 0) (g2 : h < 0) (w : World) : Calls Try.prog 31 #[.agg #[.int .i64 x, .int .i64 y, .int .i64 z], .int .i64 wd, .int .i64 h] w fun r w' => r = .returned (.agg #[.int .i64 (subI x (0)), .int .i64 (subI y 0), .int .i64 (subI z (0)), .int .i64 (addI x (0)), .int .i64 (addI y 0), .int .i64 (addI z (0))]) ∧ Below w.heap.size w w' := by
  have U : Blk (((w.alloc (.cells #[.int .i64 x, .int .i64 y, .int .i64 z] 23)).alloc (.cells (bxV 0 0 0 0 0 0) 25)).alloc (.cells #[.int .i64 (0), .int .i64 0, .int .i64 (0)] 23)) w.heap.size 23 #[.int .i64 x, .int .i64 y, .int .i64 z] := ((Blk.new' rfl).alloc _).alloc _
  have R0 : Blk (((w.alloc (.cells #[.int .i64 x, .int .i64 y, .int .i64 z] 23)).alloc (.cells (bxV 0 0 0 0 0 0) 25)).alloc (.cells #[.int .i64 (0), .int .i64 0, .int .i64 (0)] 23)) (w.heap.size + 1) 25 (bxV 0 0 0 0 0 0) := (Blk.new' (by simp)).alloc _
  have V : Blk (((w.alloc (.cells #[.int .i64 x, .int .i64 y, .int .i64 z] 23)).alloc (.cells (bxV 0 0 0 0 0 0) 25)).alloc (.cells #[.int .i64 (0), .int .i64 0, .int .i64 (0)] 23)) (w.heap.size + 1 + 1) 23 #[.int .i64 0, .int .i64 0, .int .i64 0] := Blk.new' (by simp)
  obtain ⟨k0, k1, k2⟩ := U.re3
  obtain ⟨l0, l1, l2⟩ := V.re3
  go_enter Try.func31, Try.ntmps31
  go_wp2_with fail
  refine wp_region_last_below 11 (by kernel_rfl) rfl (by kernel_rfl) ?_
  simp only [List.take_succ_cons, List.take_zero, List.drop_succ_cons, List.drop_zero]
  repeat (go_big_quiet_step (first | exact Calls.regrown_of (sub_c _ _ _ _ _ _ _) | exact Calls.regrown_of (add_c _ _ _ _ _ _ _)))
  refine wpQuiet_nil ?_
  intro w' hw'
  obtain ⟨rg, rfl⟩ := hw'
  have R := R0.re rg.d rg.os
  obtain ⟨⟨r0, r1, r2, r3, r4, r5⟩, s0, s1, s2, s3, s4, s5⟩ := R.c6
  go_wp2_with fail
  have R2 := R.st6 (.int .i64 (subI x (0))) (.int .i64 (subI y 0)) (.int .i64 (subI z (0))) (.int .i64 (addI x (0))) (.int .i64 (addI y 0)) (.int .i64 (addI z (0)))
  obtain ⟨⟨d0, d1, d2, d3, d4, d5⟩, -, -, -, -, -, -⟩ := R2.c6
  exact bodyPost_ret (v := .agg #[.int .i64 (subI x (0)), .int .i64 (subI y 0), .int .i64 (subI z (0)), .int .i64 (addI x (0)), .int .i64 (addI y 0), .int .i64 (addI z (0))]) (by simp [results, Try.results31, go_sem, d0, d1, d2, d3, d4, d5]) rfl ⟨rfl, by (repeat' (first | (with_reducible exact Below.refl _ _) | (with_reducible assumption) | (with_reducible refine Below.alloc ?_ ?_ _) | (with_reducible refine Below.drew ?_) | (with_reducible refine Below.setCell ?_ ?_ _) | (with_reducible refine after ?_ (below_regrown _ _ _)) | (refine after ?_ (by with_reducible assumption)) | go_size))⟩
set_option maxHeartbeats 2000000 in
theorem stand_ab (x y z wd h : Int) (_w1 : wd ≤ 9223372036854775807) (g1 : wd < 0) (g2 : 0 ≤ h) (w : World) : Calls Try.prog 31 #[.agg #[.int .i64 x, .int .i64 y, .int .i64 z], .int .i64 wd, .int .i64 h] w fun r w' => r = .returned (.agg #[.int .i64 (subI x (0)), .int .i64 (subI y 0), .int .i64 (subI z (0)), .int .i64 (addI x (0)), .int .i64 (addI y h), .int .i64 (addI z (0))]) ∧ Below w.heap.size w w' := by
  have U : Blk (((w.alloc (.cells #[.int .i64 x, .int .i64 y, .int .i64 z] 23)).alloc (.cells (bxV 0 0 0 0 0 0) 25)).alloc (.cells #[.int .i64 (0), .int .i64 0, .int .i64 (0)] 23)) w.heap.size 23 #[.int .i64 x, .int .i64 y, .int .i64 z] := ((Blk.new' rfl).alloc _).alloc _
  have R0 : Blk (((w.alloc (.cells #[.int .i64 x, .int .i64 y, .int .i64 z] 23)).alloc (.cells (bxV 0 0 0 0 0 0) 25)).alloc (.cells #[.int .i64 (0), .int .i64 0, .int .i64 (0)] 23)) (w.heap.size + 1) 25 (bxV 0 0 0 0 0 0) := (Blk.new' (by simp)).alloc _
  have V : Blk (((w.alloc (.cells #[.int .i64 x, .int .i64 y, .int .i64 z] 23)).alloc (.cells (bxV 0 0 0 0 0 0) 25)).alloc (.cells #[.int .i64 (0), .int .i64 0, .int .i64 (0)] 23)) (w.heap.size + 1 + 1) 23 #[.int .i64 0, .int .i64 0, .int .i64 0] := Blk.new' (by simp)
  obtain ⟨k0, k1, k2⟩ := U.re3
  obtain ⟨l0, l1, l2⟩ := V.re3
  go_enter Try.func31, Try.ntmps31
  go_wp2_with fail
  refine wp_region_last_below 11 (by kernel_rfl) rfl (by kernel_rfl) ?_
  simp only [List.take_succ_cons, List.take_zero, List.drop_succ_cons, List.drop_zero]
  repeat (go_big_quiet_step (first | exact Calls.regrown_of (sub_c _ _ _ _ _ _ _) | exact Calls.regrown_of (add_c _ _ _ _ _ _ _)))
  refine wpQuiet_nil ?_
  intro w' hw'
  obtain ⟨rg, rfl⟩ := hw'
  have R := R0.re rg.d rg.os
  obtain ⟨⟨r0, r1, r2, r3, r4, r5⟩, s0, s1, s2, s3, s4, s5⟩ := R.c6
  go_wp2_with fail
  have R2 := R.st6 (.int .i64 (subI x (0))) (.int .i64 (subI y 0)) (.int .i64 (subI z (0))) (.int .i64 (addI x (0))) (.int .i64 (addI y h)) (.int .i64 (addI z (0)))
  obtain ⟨⟨d0, d1, d2, d3, d4, d5⟩, -, -, -, -, -, -⟩ := R2.c6
  exact bodyPost_ret (v := .agg #[.int .i64 (subI x (0)), .int .i64 (subI y 0), .int .i64 (subI z (0)), .int .i64 (addI x (0)), .int .i64 (addI y h), .int .i64 (addI z (0))]) (by simp [results, Try.results31, go_sem, d0, d1, d2, d3, d4, d5]) rfl ⟨rfl, by (repeat' (first | (with_reducible exact Below.refl _ _) | (with_reducible assumption) | (with_reducible refine Below.alloc ?_ ?_ _) | (with_reducible refine Below.drew ?_) | (with_reducible refine Below.setCell ?_ ?_ _) | (with_reducible refine after ?_ (below_regrown _ _ _)) | (refine after ?_ (by with_reducible assumption)) | go_size))⟩
set_option maxHeartbeats 2000000 in
theorem stand_ba (x y z wd h : Int) (_w1 : wd ≤ 9223372036854775807) (g1 : 0 ≤ wd) (g2 : h < 0) (w : World) : Calls Try.prog 31 #[.agg #[.int .i64 x, .int .i64 y, .int .i64 z], .int .i64 wd, .int .i64 h] w fun r w' => r = .returned (.agg #[.int .i64 (subI x (wd / 2)), .int .i64 (subI y 0), .int .i64 (subI z (wd / 2)), .int .i64 (addI x (wd / 2)), .int .i64 (addI y 0), .int .i64 (addI z (wd / 2))]) ∧ Below w.heap.size w w' := by
  have U : Blk (((w.alloc (.cells #[.int .i64 x, .int .i64 y, .int .i64 z] 23)).alloc (.cells (bxV 0 0 0 0 0 0) 25)).alloc (.cells #[.int .i64 (wd / 2), .int .i64 0, .int .i64 (wd / 2)] 23)) w.heap.size 23 #[.int .i64 x, .int .i64 y, .int .i64 z] := ((Blk.new' rfl).alloc _).alloc _
  have R0 : Blk (((w.alloc (.cells #[.int .i64 x, .int .i64 y, .int .i64 z] 23)).alloc (.cells (bxV 0 0 0 0 0 0) 25)).alloc (.cells #[.int .i64 (wd / 2), .int .i64 0, .int .i64 (wd / 2)] 23)) (w.heap.size + 1) 25 (bxV 0 0 0 0 0 0) := (Blk.new' (by simp)).alloc _
  have V : Blk (((w.alloc (.cells #[.int .i64 x, .int .i64 y, .int .i64 z] 23)).alloc (.cells (bxV 0 0 0 0 0 0) 25)).alloc (.cells #[.int .i64 (wd / 2), .int .i64 0, .int .i64 (wd / 2)] 23)) (w.heap.size + 1 + 1) 23 #[.int .i64 (wd / 2), .int .i64 0, .int .i64 (wd / 2)] := Blk.new' (by simp)
  obtain ⟨k0, k1, k2⟩ := U.re3
  obtain ⟨l0, l1, l2⟩ := V.re3
  go_enter Try.func31, Try.ntmps31
  go_wp2_with fail
  refine wp_region_last_below 11 (by kernel_rfl) rfl (by kernel_rfl) ?_
  simp only [List.take_succ_cons, List.take_zero, List.drop_succ_cons, List.drop_zero]
  repeat (go_big_quiet_step (first | exact Calls.regrown_of (sub_c _ _ _ _ _ _ _) | exact Calls.regrown_of (add_c _ _ _ _ _ _ _)))
  refine wpQuiet_nil ?_
  intro w' hw'
  obtain ⟨rg, rfl⟩ := hw'
  have R := R0.re rg.d rg.os
  obtain ⟨⟨r0, r1, r2, r3, r4, r5⟩, s0, s1, s2, s3, s4, s5⟩ := R.c6
  go_wp2_with fail
  have R2 := R.st6 (.int .i64 (subI x (wd / 2))) (.int .i64 (subI y 0)) (.int .i64 (subI z (wd / 2))) (.int .i64 (addI x (wd / 2))) (.int .i64 (addI y 0)) (.int .i64 (addI z (wd / 2)))
  obtain ⟨⟨d0, d1, d2, d3, d4, d5⟩, -, -, -, -, -, -⟩ := R2.c6
  exact bodyPost_ret (v := .agg #[.int .i64 (subI x (wd / 2)), .int .i64 (subI y 0), .int .i64 (subI z (wd / 2)), .int .i64 (addI x (wd / 2)), .int .i64 (addI y 0), .int .i64 (addI z (wd / 2))]) (by simp [results, Try.results31, go_sem, d0, d1, d2, d3, d4, d5]) rfl ⟨rfl, by (repeat' (first | (with_reducible exact Below.refl _ _) | (with_reducible assumption) | (with_reducible refine Below.alloc ?_ ?_ _) | (with_reducible refine Below.drew ?_) | (with_reducible refine Below.setCell ?_ ?_ _) | (with_reducible refine after ?_ (below_regrown _ _ _)) | (refine after ?_ (by with_reducible assumption)) | go_size))⟩
set_option maxHeartbeats 2000000 in
theorem stand_bb (x y z wd h : Int) (_w1 : wd ≤ 9223372036854775807) (g1 : 0 ≤ wd) (g2 : 0 ≤ h) (w : World) : Calls Try.prog 31 #[.agg #[.int .i64 x, .int .i64 y, .int .i64 z], .int .i64 wd, .int .i64 h] w fun r w' => r = .returned (.agg #[.int .i64 (subI x (wd / 2)), .int .i64 (subI y 0), .int .i64 (subI z (wd / 2)), .int .i64 (addI x (wd / 2)), .int .i64 (addI y h), .int .i64 (addI z (wd / 2))]) ∧ Below w.heap.size w w' := by
  have U : Blk (((w.alloc (.cells #[.int .i64 x, .int .i64 y, .int .i64 z] 23)).alloc (.cells (bxV 0 0 0 0 0 0) 25)).alloc (.cells #[.int .i64 (wd / 2), .int .i64 0, .int .i64 (wd / 2)] 23)) w.heap.size 23 #[.int .i64 x, .int .i64 y, .int .i64 z] := ((Blk.new' rfl).alloc _).alloc _
  have R0 : Blk (((w.alloc (.cells #[.int .i64 x, .int .i64 y, .int .i64 z] 23)).alloc (.cells (bxV 0 0 0 0 0 0) 25)).alloc (.cells #[.int .i64 (wd / 2), .int .i64 0, .int .i64 (wd / 2)] 23)) (w.heap.size + 1) 25 (bxV 0 0 0 0 0 0) := (Blk.new' (by simp)).alloc _
  have V : Blk (((w.alloc (.cells #[.int .i64 x, .int .i64 y, .int .i64 z] 23)).alloc (.cells (bxV 0 0 0 0 0 0) 25)).alloc (.cells #[.int .i64 (wd / 2), .int .i64 0, .int .i64 (wd / 2)] 23)) (w.heap.size + 1 + 1) 23 #[.int .i64 (wd / 2), .int .i64 0, .int .i64 (wd / 2)] := Blk.new' (by simp)
  obtain ⟨k0, k1, k2⟩ := U.re3
  obtain ⟨l0, l1, l2⟩ := V.re3
  go_enter Try.func31, Try.ntmps31
  go_wp2_with fail
  refine wp_region_last_below 11 (by kernel_rfl) rfl (by kernel_rfl) ?_
  simp only [List.take_succ_cons, List.take_zero, List.drop_succ_cons, List.drop_zero]
  repeat (go_big_quiet_step (first | exact Calls.regrown_of (sub_c _ _ _ _ _ _ _) | exact Calls.regrown_of (add_c _ _ _ _ _ _ _)))
  refine wpQuiet_nil ?_
  intro w' hw'
  obtain ⟨rg, rfl⟩ := hw'
  have R := R0.re rg.d rg.os
  obtain ⟨⟨r0, r1, r2, r3, r4, r5⟩, s0, s1, s2, s3, s4, s5⟩ := R.c6
  go_wp2_with fail
  have R2 := R.st6 (.int .i64 (subI x (wd / 2))) (.int .i64 (subI y 0)) (.int .i64 (subI z (wd / 2))) (.int .i64 (addI x (wd / 2))) (.int .i64 (addI y h)) (.int .i64 (addI z (wd / 2)))
  obtain ⟨⟨d0, d1, d2, d3, d4, d5⟩, -, -, -, -, -, -⟩ := R2.c6
  exact bodyPost_ret (v := .agg #[.int .i64 (subI x (wd / 2)), .int .i64 (subI y 0), .int .i64 (subI z (wd / 2)), .int .i64 (addI x (wd / 2)), .int .i64 (addI y h), .int .i64 (addI z (wd / 2))]) (by simp [results, Try.results31, go_sem, d0, d1, d2, d3, d4, d5]) rfl ⟨rfl, by (repeat' (first | (with_reducible exact Below.refl _ _) | (with_reducible assumption) | (with_reducible refine Below.alloc ?_ ?_ _) | (with_reducible refine Below.drew ?_) | (with_reducible refine Below.setCell ?_ ?_ _) | (with_reducible refine after ?_ (below_regrown _ _ _)) | (refine after ?_ (by with_reducible assumption)) | go_size))⟩
theorem stand_c (x y z wd h : Int) (hw : wd ≤ 9223372036854775807) (w : World) : Calls Try.prog 31 #[.agg #[.int .i64 x, .int .i64 y, .int .i64 z], .int .i64 wd, .int .i64 h] w fun r w' => r = .returned (.agg #[.int .i64 (subI x (max wd 0 / 2)), .int .i64 (cutI y), .int .i64 (subI z (max wd 0 / 2)), .int .i64 (addI x (max wd 0 / 2)), .int .i64 (addI y (max h 0)), .int .i64 (addI z (max wd 0 / 2))]) ∧ Below w.heap.size w w' := by
  have e : cutI y = subI y 0 := by unfold subI; rw [show cutI 0 = 0 by decide, Int.sub_zero, cutI_cut]
  rw [e]
  rcases Int.lt_or_le wd 0 with g1 | g1 <;> rcases Int.lt_or_le h 0 with g2 | g2
  · rw [show max wd 0 = 0 by omega, show max h 0 = 0 by omega]; exact stand_aa x y z wd h hw g1 g2 w
  · rw [show max wd 0 = 0 by omega, show max h 0 = h by omega]; exact stand_ab x y z wd h hw g1 g2 w
  · rw [show max wd 0 = wd by omega, show max h 0 = 0 by omega]; exact stand_ba x y z wd h hw g1 g2 w
  · rw [show max wd 0 = wd by omega, show max h 0 = h by omega]; exact stand_bb x y z wd h hw g1 g2 w
end Go.Proofs.Ytghdjmckjfblmaa
