/- The walks of the reference of the layer 2. -/
import Derived.Test.YtghdjmckjfblmaaVec4
namespace Go.Proofs.Ytghdjmckjfblmaa
open Go.RowKit

set_option maxHeartbeats 1000000 in
theorem raxis_c (x y z a : Int) (w : World) : Calls Try.prog 12 #[.agg #[.int .i64 x, .int .i64 y, .int .i64 z], .int .i64 a] w fun e w' => e = .returned (.int .i64 (axI x y z a)) ∧ Below w.heap.size w w' := by
  rcases (show a = 0 ∨ a = 1 ∨ a = 2 ∨ (a < 0 ∨ 2 < a) by omega) with rfl | rfl | rfl | h
  · go_enter Try.func12, Try.ntmps12
    go_wp2_with fail
    go_returns
    exact ⟨ret_i rfl, by (repeat' (first | (with_reducible exact Below.refl _ _) | (with_reducible assumption) | (with_reducible refine Below.alloc ?_ ?_ _) | (with_reducible refine Below.drew ?_) | (with_reducible refine Below.setCell ?_ ?_ _) | (with_reducible refine after ?_ (below_regrown _ _ _)) | (refine after ?_ (by with_reducible assumption)) | go_size))⟩
  · go_enter Try.func12, Try.ntmps12
    go_wp2_with fail
    go_returns
    exact ⟨ret_i rfl, by (repeat' (first | (with_reducible exact Below.refl _ _) | (with_reducible assumption) | (with_reducible refine Below.alloc ?_ ?_ _) | (with_reducible refine Below.drew ?_) | (with_reducible refine Below.setCell ?_ ?_ _) | (with_reducible refine after ?_ (below_regrown _ _ _)) | (refine after ?_ (by with_reducible assumption)) | go_size))⟩
  · go_enter Try.func12, Try.ntmps12
    go_wp2_with fail
    go_returns
    exact ⟨ret_i rfl, by (repeat' (first | (with_reducible exact Below.refl _ _) | (with_reducible assumption) | (with_reducible refine Below.alloc ?_ ?_ _) | (with_reducible refine Below.drew ?_) | (with_reducible refine Below.setCell ?_ ?_ _) | (with_reducible refine after ?_ (below_regrown _ _ _)) | (refine after ?_ (by with_reducible assumption)) | go_size))⟩
  · have h0 : (a == 0) = false := by simp; omega
    have h1 : (a == 1) = false := by simp; omega
    have h2 : (a == 2) = false := by simp; omega
    have H := Lib.hid h
    clear h
    go_enter Try.func12, Try.ntmps12
    go_wp2_with fail
    go_returns
    exact ⟨ret_i (axI_no H.out).symm, by (repeat' (first | (with_reducible exact Below.refl _ _) | (with_reducible assumption) | (with_reducible refine Below.alloc ?_ ?_ _) | (with_reducible refine Below.drew ?_) | (with_reducible refine Below.setCell ?_ ?_ _) | (with_reducible refine after ?_ (below_regrown _ _ _)) | (refine after ?_ (by with_reducible assumption)) | go_size))⟩
theorem raxis_e (x y z a v : Int) (h : axI x y z a = v) (w : World) : Calls Try.prog 12 #[.agg #[.int .i64 x, .int .i64 y, .int .i64 z], .int .i64 a] w fun e w' => e = .returned (.int .i64 v) ∧ Below w.heap.size w w' := by
  rw [← h]; exact raxis_c x y z a w
set_option maxHeartbeats 1000000 in
theorem rwith_c (x y z a n : Int) (w : World) : Calls Try.prog 18 #[.agg #[.int .i64 x, .int .i64 y, .int .i64 z], .int .i64 a, .int .i64 n] w fun e w' => e = .returned (.agg #[.int .i64 (wiI x a 0 n), .int .i64 (wiI y a 1 n), .int .i64 (wiI z a 2 n)]) ∧ Below w.heap.size w w' := by
  rcases (show a = 0 ∨ a = 1 ∨ a = 2 ∨ (a < 0 ∨ 2 < a) by omega) with rfl | rfl | rfl | h
  · go_enter Try.func18, Try.ntmps18
    go_wp2_with fail
    refine (rcut_c _ _).mono ?_; rintro e w1 ⟨rfl, rfl⟩
    go_wp2_with fail
    go_returns
    exact ⟨rfl, by (repeat' (first | (with_reducible exact Below.refl _ _) | (with_reducible assumption) | (with_reducible refine Below.alloc ?_ ?_ _) | (with_reducible refine Below.drew ?_) | (with_reducible refine Below.setCell ?_ ?_ _) | (with_reducible refine after ?_ (below_regrown _ _ _)) | (refine after ?_ (by with_reducible assumption)) | go_size))⟩
  · go_enter Try.func18, Try.ntmps18
    go_wp2_with fail
    refine (rcut_c _ _).mono ?_; rintro e w1 ⟨rfl, rfl⟩
    go_wp2_with fail
    go_returns
    exact ⟨rfl, by (repeat' (first | (with_reducible exact Below.refl _ _) | (with_reducible assumption) | (with_reducible refine Below.alloc ?_ ?_ _) | (with_reducible refine Below.drew ?_) | (with_reducible refine Below.setCell ?_ ?_ _) | (with_reducible refine after ?_ (below_regrown _ _ _)) | (refine after ?_ (by with_reducible assumption)) | go_size))⟩
  · go_enter Try.func18, Try.ntmps18
    go_wp2_with fail
    refine (rcut_c _ _).mono ?_; rintro e w1 ⟨rfl, rfl⟩
    go_wp2_with fail
    go_returns
    exact ⟨rfl, by (repeat' (first | (with_reducible exact Below.refl _ _) | (with_reducible assumption) | (with_reducible refine Below.alloc ?_ ?_ _) | (with_reducible refine Below.drew ?_) | (with_reducible refine Below.setCell ?_ ?_ _) | (with_reducible refine after ?_ (below_regrown _ _ _)) | (refine after ?_ (by with_reducible assumption)) | go_size))⟩
  · have h0 : (a == 0) = false := by simp; omega
    have h1 : (a == 1) = false := by simp; omega
    have h2 : (a == 2) = false := by simp; omega
    have e0 : wiI x a 0 n = x := by unfold wiI; rw [if_neg (by omega)]
    have e1 : wiI y a 1 n = y := by unfold wiI; rw [if_neg (by omega)]
    have e2 : wiI z a 2 n = z := by unfold wiI; rw [if_neg (by omega)]
    rw [e0, e1, e2]
    clear h e0 e1 e2
    go_enter Try.func18, Try.ntmps18
    go_wp2_with fail
    refine (rcut_c _ _).mono ?_; rintro e w1 ⟨rfl, rfl⟩
    go_wp2_with fail
    go_returns
    exact ⟨rfl, by (repeat' (first | (with_reducible exact Below.refl _ _) | (with_reducible assumption) | (with_reducible refine Below.alloc ?_ ?_ _) | (with_reducible refine Below.drew ?_) | (with_reducible refine Below.setCell ?_ ?_ _) | (with_reducible refine after ?_ (below_regrown _ _ _)) | (refine after ?_ (by with_reducible assumption)) | go_size))⟩
set_option maxHeartbeats 1000000 in
theorem rcutv_c (x y z : Int) (w : World) : Calls Try.prog 36 #[.agg #[.int .i64 x, .int .i64 y, .int .i64 z]] w fun e w' => e = .returned (.agg #[.int .i64 (cutI x), .int .i64 (cutI y), .int .i64 (cutI z)]) ∧ Below w.heap.size w w' := by
  have U : Blk ((w.alloc (.cells #[.int .i64 x, .int .i64 y, .int .i64 z] 23)).alloc (.cells #[.int .i64 0, .int .i64 0, .int .i64 0] 23)) w.heap.size 23 #[.int .i64 x, .int .i64 y, .int .i64 z] := (Blk.new' rfl).alloc _
  have R0 : Blk ((w.alloc (.cells #[.int .i64 x, .int .i64 y, .int .i64 z] 23)).alloc (.cells #[.int .i64 0, .int .i64 0, .int .i64 0] 23)) (w.heap.size + 1) 23 #[.int .i64 0, .int .i64 0, .int .i64 0] := Blk.new' (by simp)
  obtain ⟨k0, k1, k2⟩ := U.re3
  go_enter Try.func36, Try.ntmps36
  go_wp2_with fail
  refine wp_region_last_below 10 (by kernel_rfl) rfl (by kernel_rfl) ?_
  simp only [List.take_succ_cons, List.take_zero, List.drop_succ_cons, List.drop_zero]
  repeat (go_big_quiet_step (exact Calls.regrown_of (calls_bel (rcut_c _ _))))
  refine wpQuiet_nil ?_
  intro w' hw'
  obtain ⟨rg, rfl⟩ := hw'
  have R := R0.re rg.d rg.os
  obtain ⟨r0, r1, r2, s0, s1, s2⟩ := R.c3
  go_wp2_with fail
  have R2 := R.st3 (.int .i64 (cutI x)) (.int .i64 (cutI y)) (.int .i64 (cutI z))
  obtain ⟨d0, d1, d2, -, -, -⟩ := R2.c3
  exact bodyPost_ret (v := .agg #[.int .i64 (cutI x), .int .i64 (cutI y), .int .i64 (cutI z)]) (by simp [results, Try.results36, go_sem, d0, d1, d2]) rfl ⟨rfl, by (repeat' (first | (with_reducible exact Below.refl _ _) | (with_reducible assumption) | (with_reducible refine Below.alloc ?_ ?_ _) | (with_reducible refine Below.drew ?_) | (with_reducible refine Below.setCell ?_ ?_ _) | (with_reducible refine after ?_ (below_regrown _ _ _)) | (refine after ?_ (by with_reducible assumption)) | go_size))⟩
set_option maxHeartbeats 1000000 in
theorem raddv_c (x y z x' y' z' : Int) (w : World) : Calls Try.prog 37 #[.agg #[.int .i64 x, .int .i64 y, .int .i64 z], .agg #[.int .i64 x', .int .i64 y', .int .i64 z']] w fun e w' => e = .returned (.agg #[.int .i64 (addI x x'), .int .i64 (addI y y'), .int .i64 (addI z z')]) ∧ Below w.heap.size w w' := by
  have U : Blk (((w.alloc (.cells #[.int .i64 x, .int .i64 y, .int .i64 z] 23)).alloc (.cells #[.int .i64 x', .int .i64 y', .int .i64 z'] 23)).alloc (.cells #[.int .i64 0, .int .i64 0, .int .i64 0] 23)) w.heap.size 23 #[.int .i64 x, .int .i64 y, .int .i64 z] := ((Blk.new' rfl).alloc _).alloc _
  have V : Blk (((w.alloc (.cells #[.int .i64 x, .int .i64 y, .int .i64 z] 23)).alloc (.cells #[.int .i64 x', .int .i64 y', .int .i64 z'] 23)).alloc (.cells #[.int .i64 0, .int .i64 0, .int .i64 0] 23)) (w.heap.size + 1) 23 #[.int .i64 x', .int .i64 y', .int .i64 z'] := (Blk.new' (by simp)).alloc _
  have R0 : Blk (((w.alloc (.cells #[.int .i64 x, .int .i64 y, .int .i64 z] 23)).alloc (.cells #[.int .i64 x', .int .i64 y', .int .i64 z'] 23)).alloc (.cells #[.int .i64 0, .int .i64 0, .int .i64 0] 23)) (w.heap.size + 1 + 1) 23 #[.int .i64 0, .int .i64 0, .int .i64 0] := Blk.new' (by simp)
  obtain ⟨l0, l1, l2⟩ := V.re3
  obtain ⟨k0, k1, k2⟩ := U.re3
  go_enter Try.func37, Try.ntmps37
  go_wp2_with fail
  refine wp_region_last_below 16 (by kernel_rfl) rfl (by kernel_rfl) ?_
  simp only [List.take_succ_cons, List.take_zero, List.drop_succ_cons, List.drop_zero]
  repeat (go_big_quiet_step (exact Calls.regrown_of (calls_bel (radd_c _ _ _))))
  refine wpQuiet_nil ?_
  intro w' hw'
  obtain ⟨rg, rfl⟩ := hw'
  have R := R0.re rg.d rg.os
  obtain ⟨r0, r1, r2, s0, s1, s2⟩ := R.c3
  go_wp2_with fail
  have R2 := R.st3 (.int .i64 (addI x x')) (.int .i64 (addI y y')) (.int .i64 (addI z z'))
  obtain ⟨d0, d1, d2, -, -, -⟩ := R2.c3
  exact bodyPost_ret (v := .agg #[.int .i64 (addI x x'), .int .i64 (addI y y'), .int .i64 (addI z z')]) (by simp [results, Try.results37, go_sem, d0, d1, d2]) rfl ⟨rfl, by (repeat' (first | (with_reducible exact Below.refl _ _) | (with_reducible assumption) | (with_reducible refine Below.alloc ?_ ?_ _) | (with_reducible refine Below.drew ?_) | (with_reducible refine Below.setCell ?_ ?_ _) | (with_reducible refine after ?_ (below_regrown _ _ _)) | (refine after ?_ (by with_reducible assumption)) | go_size))⟩
set_option maxHeartbeats 1000000 in
theorem rsubv_c (x y z x' y' z' : Int) (w : World) : Calls Try.prog 38 #[.agg #[.int .i64 x, .int .i64 y, .int .i64 z], .agg #[.int .i64 x', .int .i64 y', .int .i64 z']] w fun e w' => e = .returned (.agg #[.int .i64 (subI x x'), .int .i64 (subI y y'), .int .i64 (subI z z')]) ∧ Below w.heap.size w w' := by
  have U : Blk (((w.alloc (.cells #[.int .i64 x, .int .i64 y, .int .i64 z] 23)).alloc (.cells #[.int .i64 x', .int .i64 y', .int .i64 z'] 23)).alloc (.cells #[.int .i64 0, .int .i64 0, .int .i64 0] 23)) w.heap.size 23 #[.int .i64 x, .int .i64 y, .int .i64 z] := ((Blk.new' rfl).alloc _).alloc _
  have V : Blk (((w.alloc (.cells #[.int .i64 x, .int .i64 y, .int .i64 z] 23)).alloc (.cells #[.int .i64 x', .int .i64 y', .int .i64 z'] 23)).alloc (.cells #[.int .i64 0, .int .i64 0, .int .i64 0] 23)) (w.heap.size + 1) 23 #[.int .i64 x', .int .i64 y', .int .i64 z'] := (Blk.new' (by simp)).alloc _
  have R0 : Blk (((w.alloc (.cells #[.int .i64 x, .int .i64 y, .int .i64 z] 23)).alloc (.cells #[.int .i64 x', .int .i64 y', .int .i64 z'] 23)).alloc (.cells #[.int .i64 0, .int .i64 0, .int .i64 0] 23)) (w.heap.size + 1 + 1) 23 #[.int .i64 0, .int .i64 0, .int .i64 0] := Blk.new' (by simp)
  obtain ⟨l0, l1, l2⟩ := V.re3
  obtain ⟨k0, k1, k2⟩ := U.re3
  go_enter Try.func38, Try.ntmps38
  go_wp2_with fail
  refine wp_region_last_below 16 (by kernel_rfl) rfl (by kernel_rfl) ?_
  simp only [List.take_succ_cons, List.take_zero, List.drop_succ_cons, List.drop_zero]
  repeat (go_big_quiet_step (exact Calls.regrown_of (calls_bel (rsub_c _ _ _))))
  refine wpQuiet_nil ?_
  intro w' hw'
  obtain ⟨rg, rfl⟩ := hw'
  have R := R0.re rg.d rg.os
  obtain ⟨r0, r1, r2, s0, s1, s2⟩ := R.c3
  go_wp2_with fail
  have R2 := R.st3 (.int .i64 (subI x x')) (.int .i64 (subI y y')) (.int .i64 (subI z z'))
  obtain ⟨d0, d1, d2, -, -, -⟩ := R2.c3
  exact bodyPost_ret (v := .agg #[.int .i64 (subI x x'), .int .i64 (subI y y'), .int .i64 (subI z z')]) (by simp [results, Try.results38, go_sem, d0, d1, d2]) rfl ⟨rfl, by (repeat' (first | (with_reducible exact Below.refl _ _) | (with_reducible assumption) | (with_reducible refine Below.alloc ?_ ?_ _) | (with_reducible refine Below.drew ?_) | (with_reducible refine Below.setCell ?_ ?_ _) | (with_reducible refine after ?_ (below_regrown _ _ _)) | (refine after ?_ (by with_reducible assumption)) | go_size))⟩
set_option maxHeartbeats 1000000 in
theorem rscalev_c (x y z m : Int) (w : World) : Calls Try.prog 39 #[.agg #[.int .i64 x, .int .i64 y, .int .i64 z], .int .i64 m] w fun e w' => e = .returned (.agg #[.int .i64 (mulI x m), .int .i64 (mulI y m), .int .i64 (mulI z m)]) ∧ Below w.heap.size w w' := by
  have U : Blk ((w.alloc (.cells #[.int .i64 x, .int .i64 y, .int .i64 z] 23)).alloc (.cells #[.int .i64 0, .int .i64 0, .int .i64 0] 23)) w.heap.size 23 #[.int .i64 x, .int .i64 y, .int .i64 z] := (Blk.new' rfl).alloc _
  have R0 : Blk ((w.alloc (.cells #[.int .i64 x, .int .i64 y, .int .i64 z] 23)).alloc (.cells #[.int .i64 0, .int .i64 0, .int .i64 0] 23)) (w.heap.size + 1) 23 #[.int .i64 0, .int .i64 0, .int .i64 0] := Blk.new' (by simp)
  obtain ⟨k0, k1, k2⟩ := U.re3
  go_enter Try.func39, Try.ntmps39
  go_wp2_with fail
  refine wp_region_last_below 13 (by kernel_rfl) rfl (by kernel_rfl) ?_
  simp only [List.take_succ_cons, List.take_zero, List.drop_succ_cons, List.drop_zero]
  repeat (go_big_quiet_step (exact Calls.regrown_of (calls_bel (rmul_c _ _ _))))
  refine wpQuiet_nil ?_
  intro w' hw'
  obtain ⟨rg, rfl⟩ := hw'
  have R := R0.re rg.d rg.os
  obtain ⟨r0, r1, r2, s0, s1, s2⟩ := R.c3
  go_wp2_with fail
  have R2 := R.st3 (.int .i64 (mulI x m)) (.int .i64 (mulI y m)) (.int .i64 (mulI z m))
  obtain ⟨d0, d1, d2, -, -, -⟩ := R2.c3
  exact bodyPost_ret (v := .agg #[.int .i64 (mulI x m), .int .i64 (mulI y m), .int .i64 (mulI z m)]) (by simp [results, Try.results39, go_sem, d0, d1, d2]) rfl ⟨rfl, by (repeat' (first | (with_reducible exact Below.refl _ _) | (with_reducible assumption) | (with_reducible refine Below.alloc ?_ ?_ _) | (with_reducible refine Below.drew ?_) | (with_reducible refine Below.setCell ?_ ?_ _) | (with_reducible refine after ?_ (below_regrown _ _ _)) | (refine after ?_ (by with_reducible assumption)) | go_size))⟩
set_option maxHeartbeats 2000000 in
theorem rmove_c (a b c d e f x y z : Int) (w : World) : Calls Try.prog 30 #[.agg #[.int .i64 a, .int .i64 b, .int .i64 c, .int .i64 d, .int .i64 e, .int .i64 f], .agg #[.int .i64 x, .int .i64 y, .int .i64 z]] w fun r w' => r = .returned (.agg #[.int .i64 (addI a x), .int .i64 (addI b y), .int .i64 (addI c z), .int .i64 (addI d x), .int .i64 (addI e y), .int .i64 (addI f z)]) ∧ Below w.heap.size w w' := by
  have U : Blk (((w.alloc (.cells (bxV a b c d e f) 25)).alloc (.cells #[.int .i64 x, .int .i64 y, .int .i64 z] 23)).alloc (.cells (bxV 0 0 0 0 0 0) 25)) w.heap.size 25 (bxV a b c d e f) := ((Blk.new' rfl).alloc _).alloc _
  have V : Blk (((w.alloc (.cells (bxV a b c d e f) 25)).alloc (.cells #[.int .i64 x, .int .i64 y, .int .i64 z] 23)).alloc (.cells (bxV 0 0 0 0 0 0) 25)) (w.heap.size + 1) 23 #[.int .i64 x, .int .i64 y, .int .i64 z] := (Blk.new' (by simp)).alloc _
  have R0 : Blk (((w.alloc (.cells (bxV a b c d e f) 25)).alloc (.cells #[.int .i64 x, .int .i64 y, .int .i64 z] 23)).alloc (.cells (bxV 0 0 0 0 0 0) 25)) (w.heap.size + 1 + 1) 25 (bxV 0 0 0 0 0 0) := Blk.new' (by simp)
  obtain ⟨k0, k1, k2, k3, k4, k5⟩ := U.re6
  obtain ⟨l0, l1, l2⟩ := V.re3
  go_enter Try.func30, Try.ntmps30
  go_wp2_with fail
  refine wp_region_last_below 9 (by kernel_rfl) rfl (by kernel_rfl) ?_
  simp only [List.take_succ_cons, List.take_zero, List.drop_succ_cons, List.drop_zero]
  repeat (go_big_quiet_step (exact Calls.regrown_of (raddv_c _ _ _ _ _ _ _)))
  refine wpQuiet_nil ?_
  intro w' hw'
  obtain ⟨rg, rfl⟩ := hw'
  have R := R0.re rg.d rg.os
  obtain ⟨⟨r0, r1, r2, r3, r4, r5⟩, s0, s1, s2, s3, s4, s5⟩ := R.c6
  go_wp2_with fail
  have R2 := R.st6 (.int .i64 (addI a x)) (.int .i64 (addI b y)) (.int .i64 (addI c z)) (.int .i64 (addI d x)) (.int .i64 (addI e y)) (.int .i64 (addI f z))
  obtain ⟨⟨d0, d1, d2, d3, d4, d5⟩, -, -, -, -, -, -⟩ := R2.c6
  exact bodyPost_ret (v := .agg #[.int .i64 (addI a x), .int .i64 (addI b y), .int .i64 (addI c z), .int .i64 (addI d x), .int .i64 (addI e y), .int .i64 (addI f z)]) (by simp [results, Try.results30, go_sem, d0, d1, d2, d3, d4, d5]) rfl ⟨rfl, by (repeat' (first | (with_reducible exact Below.refl _ _) | (with_reducible assumption) | (with_reducible refine Below.alloc ?_ ?_ _) | (with_reducible refine Below.drew ?_) | (with_reducible refine Below.setCell ?_ ?_ _) | (with_reducible refine after ?_ (below_regrown _ _ _)) | (refine after ?_ (by with_reducible assumption)) | go_size))⟩
end Go.Proofs.Ytghdjmckjfblmaa
