/- A box moved. -/
import Derived.Test.YtckjpiioipkfcaaLay2
import Derived.Test.YtckjpiioipkfcaaRef2
namespace Go.Proofs.Ytckjpiioipkfcaa
open Go.RowKit Go.Shelf
attribute [local go_sem] Oper.semAt_some

set_option maxHeartbeats 2000000 in
theorem smove_c (a b c d e f x y z : Int) (w : World) : Calls Try.prog 57 #[.agg #[.int .i64 a, .int .i64 b, .int .i64 c, .int .i64 d, .int .i64 e, .int .i64 f], .agg #[.int .i64 x, .int .i64 y, .int .i64 z]] w fun r w' => r = .returned (.agg #[.int .i64 (addI a x), .int .i64 (addI b y), .int .i64 (addI c z), .int .i64 (addI d x), .int .i64 (addI e y), .int .i64 (addI f z)]) ∧ Below w.heap.size w w' := by
  have U : Blk (((w.alloc (.cells (bV6 a b c d e f) 28)).alloc (.cells #[.int .i64 x, .int .i64 y, .int .i64 z] 26)).alloc (.cells (bV6 0 0 0 0 0 0) 28)) w.heap.size 28 (bV6 a b c d e f) := ((Blk.new' rfl).alloc _).alloc _
  have V : Blk (((w.alloc (.cells (bV6 a b c d e f) 28)).alloc (.cells #[.int .i64 x, .int .i64 y, .int .i64 z] 26)).alloc (.cells (bV6 0 0 0 0 0 0) 28)) (w.heap.size + 1) 26 #[.int .i64 x, .int .i64 y, .int .i64 z] := (Blk.new' (by simp)).alloc _
  have R0 : Blk (((w.alloc (.cells (bV6 a b c d e f) 28)).alloc (.cells #[.int .i64 x, .int .i64 y, .int .i64 z] 26)).alloc (.cells (bV6 0 0 0 0 0 0) 28)) (w.heap.size + 1 + 1) 28 (bV6 0 0 0 0 0 0) := Blk.new' (by simp)
  obtain ⟨k0, k1, k2, k3, k4, k5⟩ := U.re6
  obtain ⟨l0, l1, l2⟩ := V.re3
  go_enter Try.func57, Try.ntmps57
  go_wp2_with fail
  refine wp_region_last_below 9 (by kernel_rfl) rfl (by kernel_rfl) ?_
  simp only [List.take_succ_cons, List.take_zero, List.drop_succ_cons, List.drop_zero]
  repeat (go_big_quiet_step (exact Calls.regrown_of (add_c _ _ _ _ _ _ _)))
  refine wpQuiet_nil ?_
  intro w' hw'
  obtain ⟨rg, rfl⟩ := hw'
  have R := R0.re rg.d rg.os
  obtain ⟨⟨r0, r1, r2, r3, r4, r5⟩, s0, s1, s2, s3, s4, s5⟩ := R.c6
  go_wp2_with fail
  have R2 := R.st6 (.int .i64 (addI a x)) (.int .i64 (addI b y)) (.int .i64 (addI c z)) (.int .i64 (addI d x)) (.int .i64 (addI e y)) (.int .i64 (addI f z))
  obtain ⟨⟨d0, d1, d2, d3, d4, d5⟩, -, -, -, -, -, -⟩ := R2.c6
  exact bodyPost_ret (v := .agg #[.int .i64 (addI a x), .int .i64 (addI b y), .int .i64 (addI c z), .int .i64 (addI d x), .int .i64 (addI e y), .int .i64 (addI f z)]) (by simp [results, Try.results57, go_sem, d0, d1, d2, d3, d4, d5]) rfl ⟨rfl, by (repeat' (first | (with_reducible exact Below.refl _ _) | (with_reducible assumption) | (with_reducible refine Below.alloc ?_ ?_ _) | (with_reducible refine Below.drew ?_) | (with_reducible refine Below.setCell ?_ ?_ _) | (with_reducible refine after ?_ (below_regrown _ _ _)) | (refine after ?_ (by with_reducible assumption)) | go_size))⟩
set_option maxHeartbeats 2000000 in
theorem srmove_c (a b c d e f x y z : Int) (w : World) : Calls Try.prog 15 #[.agg #[.int .i64 a, .int .i64 b, .int .i64 c, .int .i64 d, .int .i64 e, .int .i64 f], .agg #[.int .i64 x, .int .i64 y, .int .i64 z]] w fun r w' => r = .returned (.agg #[.int .i64 (addI a x), .int .i64 (addI b y), .int .i64 (addI c z), .int .i64 (addI d x), .int .i64 (addI e y), .int .i64 (addI f z)]) ∧ Below w.heap.size w w' := by
  have U : Blk (((w.alloc (.cells (bV6 a b c d e f) 28)).alloc (.cells #[.int .i64 x, .int .i64 y, .int .i64 z] 26)).alloc (.cells (bV6 0 0 0 0 0 0) 28)) w.heap.size 28 (bV6 a b c d e f) := ((Blk.new' rfl).alloc _).alloc _
  have V : Blk (((w.alloc (.cells (bV6 a b c d e f) 28)).alloc (.cells #[.int .i64 x, .int .i64 y, .int .i64 z] 26)).alloc (.cells (bV6 0 0 0 0 0 0) 28)) (w.heap.size + 1) 26 #[.int .i64 x, .int .i64 y, .int .i64 z] := (Blk.new' (by simp)).alloc _
  have R0 : Blk (((w.alloc (.cells (bV6 a b c d e f) 28)).alloc (.cells #[.int .i64 x, .int .i64 y, .int .i64 z] 26)).alloc (.cells (bV6 0 0 0 0 0 0) 28)) (w.heap.size + 1 + 1) 28 (bV6 0 0 0 0 0 0) := Blk.new' (by simp)
  obtain ⟨k0, k1, k2, k3, k4, k5⟩ := U.re6
  obtain ⟨l0, l1, l2⟩ := V.re3
  go_enter Try.func15, Try.ntmps15
  go_wp2_with fail
  refine wp_region_last_below 9 (by kernel_rfl) rfl (by kernel_rfl) ?_
  simp only [List.take_succ_cons, List.take_zero, List.drop_succ_cons, List.drop_zero]
  repeat (go_big_quiet_step (exact Calls.regrown_of (raddv_c _ _ _ _ _ _ _)))
  refine wpQuiet_nil ?_
  intro w' hw'
  obtain ⟨rg, rfl⟩ := hw'
  have R := R0.re rg.d rg.os
  obtain ⟨⟨r0, r1, r2, r3, r4, r5⟩, s0, s1, s2, s3, s4, s5⟩ := R.c6
  go_wp2_with fail
  have R2 := R.st6 (.int .i64 (addI a x)) (.int .i64 (addI b y)) (.int .i64 (addI c z)) (.int .i64 (addI d x)) (.int .i64 (addI e y)) (.int .i64 (addI f z))
  obtain ⟨⟨d0, d1, d2, d3, d4, d5⟩, -, -, -, -, -, -⟩ := R2.c6
  exact bodyPost_ret (v := .agg #[.int .i64 (addI a x), .int .i64 (addI b y), .int .i64 (addI c z), .int .i64 (addI d x), .int .i64 (addI e y), .int .i64 (addI f z)]) (by simp [results, Try.results15, go_sem, d0, d1, d2, d3, d4, d5]) rfl ⟨rfl, by (repeat' (first | (with_reducible exact Below.refl _ _) | (with_reducible assumption) | (with_reducible refine Below.alloc ?_ ?_ _) | (with_reducible refine Below.drew ?_) | (with_reducible refine Below.setCell ?_ ?_ _) | (with_reducible refine after ?_ (below_regrown _ _ _)) | (refine after ?_ (by with_reducible assumption)) | go_size))⟩
end Go.Proofs.Ytckjpiioipkfcaa
