/- The walks of the layer 2 (vec): what is made of each number of a way. -/
import Derived.Test.YtmkmaoodeebmfaaVec
namespace Go.Proofs.Ytmkmaoodeebmfaa
open Go.RowKit

set_option maxRecDepth 100000 in
set_option maxHeartbeats 400000 in
theorem with1_c (i n a m : Int) (w : World) (b c : Nat) (h : w.cell? ⟨b, 0, none⟩ = some (.int .i64 a)) (h2 : w.cell? ⟨c, 0, none⟩ = some (.int .i64 m)) : Calls Try.prog 64 #[.int .i64 i, .int .i64 n, .pointer (some ⟨b, 0, none⟩), .pointer (some ⟨c, 0, none⟩)] w fun e w' => e = .returned (.int .i64 (wiI n a i m)) ∧ Below w.heap.size w w' := by
  by_cases g : i = a
  · have t : (i == a) = true := by simpa using g
    have G := Lib.hid g
    clear g
    go_enter Try.func64, Try.ntmps64
    go_wp2_with fail
    refine (fcut_c _ _).mono ?_; rintro e w1 ⟨rfl, rfl⟩
    go_wp2_with fail
    go_returns
    exact ⟨ret_i (by unfold wiI; rw [if_pos G.out]), by (repeat' (first | (with_reducible exact Below.refl _ _) | (with_reducible assumption) | (with_reducible refine Below.alloc ?_ ?_ _) | (with_reducible refine Below.drew ?_) | (with_reducible refine Below.setCell ?_ ?_ _) | (with_reducible refine after ?_ (below_regrown _ _ _)) | (refine after ?_ (by with_reducible assumption)) | go_size))⟩
  · have t : (i == a) = false := by simpa using g
    have G := Lib.hid g
    clear g
    go_enter Try.func64, Try.ntmps64
    go_wp2_with fail
    go_returns
    exact ⟨ret_i (by unfold wiI; rw [if_neg G.out]), by (repeat' (first | (with_reducible exact Below.refl _ _) | (with_reducible assumption) | (with_reducible refine Below.alloc ?_ ?_ _) | (with_reducible refine Below.drew ?_) | (with_reducible refine Below.setCell ?_ ?_ _) | (with_reducible refine after ?_ (below_regrown _ _ _)) | (refine after ?_ (by with_reducible assumption)) | go_size))⟩
set_option maxRecDepth 100000 in
set_option maxHeartbeats 1000000 in
theorem with_c (x y z a m : Int) (w : World) : Calls Try.prog 49 #[.agg #[.int .i64 x, .int .i64 y, .int .i64 z], .int .i64 a, .int .i64 m] w fun e w' => e = .returned (.agg #[.int .i64 (wiI x a 0 m), .int .i64 (wiI y a 1 m), .int .i64 (wiI z a 2 m)]) ∧ Below w.heap.size w w' := by
  have e := enters_of Try.func64 (by kernel_rfl) rfl
  go_enter Try.func49, Try.ntmps49
  go_wp2_with fail
  have R0 : Blk ((((w.alloc (.cells #[.int .i64 x, .int .i64 y, .int .i64 z] 26)).alloc (.cells #[.int .i64 a] 3)).alloc (.cells #[.int .i64 m] 3)).alloc (.cells #[.int .i64 0, .int .i64 0, .int .i64 0] 26)) (w.heap.size + 1 + 1 + 1) 26 #[.int .i64 0, .int .i64 0, .int .i64 0] := Blk.new' (by simp)
  have A0 : Blk ((((w.alloc (.cells #[.int .i64 x, .int .i64 y, .int .i64 z] 26)).alloc (.cells #[.int .i64 a] 3)).alloc (.cells #[.int .i64 m] 3)).alloc (.cells #[.int .i64 0, .int .i64 0, .int .i64 0] 26)) (w.heap.size + 1) 3 #[.int .i64 a] := ((Blk.new' (by simp)).alloc _).alloc _
  have M0 : Blk ((((w.alloc (.cells #[.int .i64 x, .int .i64 y, .int .i64 z] 26)).alloc (.cells #[.int .i64 a] 3)).alloc (.cells #[.int .i64 m] 3)).alloc (.cells #[.int .i64 0, .int .i64 0, .int .i64 0] 26)) (w.heap.size + 1 + 1) 3 #[.int .i64 m] := (Blk.new' (by simp)).alloc _
  refine (each_c 64 _ (fun i n => wiI n a i m) _ _ _ _ e ?_).mono ?_
  · intro i n W hW
    exact with1_c i n a m W _ _ (A0.on hW).c1.1 (M0.on hW).c1.1
  rintro e w1 ⟨rfl, hb⟩
  have R := R0.on hb
  clear R0 A0 M0
  obtain ⟨r0, r1, r2, r3, r4, r5⟩ := R.c3
  go_wp2_with fail
  have R2 := R.st3 (.int .i64 (wiI x a 0 m)) (.int .i64 (wiI y a 1 m)) (.int .i64 (wiI z a 2 m))
  obtain ⟨d0, d1, d2, -, -, -⟩ := R2.c3
  exact bodyPost_ret (v := .agg #[.int .i64 (wiI x a 0 m), .int .i64 (wiI y a 1 m), .int .i64 (wiI z a 2 m)]) (by simp [results, Try.results49, go_sem, d0, d1, d2]) rfl ⟨rfl, by (repeat' (first | (with_reducible exact Below.refl _ _) | (with_reducible assumption) | (with_reducible refine Below.alloc ?_ ?_ _) | (with_reducible refine Below.drew ?_) | (with_reducible refine Below.setCell ?_ ?_ _) | (with_reducible refine after ?_ (below_regrown _ _ _)) | (refine after ?_ (by with_reducible assumption)) | go_size))⟩
set_option maxRecDepth 100000 in
set_option maxHeartbeats 400000 in
theorem add1_c (i n x y z : Int) (w : World) (b : Nat) (h : Blk w b 26 #[.int .i64 x, .int .i64 y, .int .i64 z]) : Calls Try.prog 90 #[.int .i64 i, .int .i64 n, .pointer (some ⟨b, 0, none⟩)] w fun e w' => e = .returned (.int .i64 (addI n (axI x y z i))) ∧ Below w.heap.size w w' := by
  obtain ⟨r0, r1, r2, -, -, -⟩ := h.c3
  go_enter Try.func90, Try.ntmps90
  go_wp2_with fail
  refine (axis_c _ _ _ _ _).mono ?_; rintro e w1 ⟨rfl, hb⟩
  go_wp2_with fail
  refine (fadd_c _ _ _).mono ?_; rintro e w1 ⟨rfl, rfl⟩
  go_wp2_with fail
  go_returns
  exact ⟨ret_i rfl, by (repeat' (first | (with_reducible exact Below.refl _ _) | (with_reducible assumption) | (with_reducible refine Below.alloc ?_ ?_ _) | (with_reducible refine Below.drew ?_) | (with_reducible refine Below.setCell ?_ ?_ _) | (with_reducible refine after ?_ (below_regrown _ _ _)) | (refine after ?_ (by with_reducible assumption)) | go_size))⟩
set_option maxRecDepth 100000 in
set_option maxHeartbeats 1000000 in
theorem add_c (x y z x' y' z' : Int) (w : World) : Calls Try.prog 74 #[.agg #[.int .i64 x, .int .i64 y, .int .i64 z], .agg #[.int .i64 x', .int .i64 y', .int .i64 z']] w fun e w' => e = .returned (.agg #[.int .i64 (addI x x'), .int .i64 (addI y y'), .int .i64 (addI z z')]) ∧ Below w.heap.size w w' := by
  have e := enters_of Try.func90 (by kernel_rfl) rfl
  go_enter Try.func74, Try.ntmps74
  go_wp2_with fail
  have R0 : Blk (((w.alloc (.cells #[.int .i64 x, .int .i64 y, .int .i64 z] 26)).alloc (.cells #[.int .i64 x', .int .i64 y', .int .i64 z'] 26)).alloc (.cells #[.int .i64 0, .int .i64 0, .int .i64 0] 26)) (w.heap.size + 1 + 1) 26 #[.int .i64 0, .int .i64 0, .int .i64 0] := Blk.new' (by simp)
  have A0 : Blk (((w.alloc (.cells #[.int .i64 x, .int .i64 y, .int .i64 z] 26)).alloc (.cells #[.int .i64 x', .int .i64 y', .int .i64 z'] 26)).alloc (.cells #[.int .i64 0, .int .i64 0, .int .i64 0] 26)) (w.heap.size + 1) 26 #[.int .i64 x', .int .i64 y', .int .i64 z'] := (Blk.new' (by simp)).alloc _
  refine (each_c 90 _ (fun i n => addI n (axI x' y' z' i)) _ _ _ _ e ?_).mono ?_
  · intro i n W hW
    exact add1_c i n x' y' z' W _ (A0.on hW)
  rintro e w1 ⟨rfl, hb⟩
  have R := R0.on hb
  clear R0 A0
  obtain ⟨r0, r1, r2, r3, r4, r5⟩ := R.c3
  simp only [axI_0, axI_1, axI_2]
  go_wp2_with fail
  have R2 := R.st3 (.int .i64 (addI x x')) (.int .i64 (addI y y')) (.int .i64 (addI z z'))
  obtain ⟨d0, d1, d2, -, -, -⟩ := R2.c3
  exact bodyPost_ret (v := .agg #[.int .i64 (addI x x'), .int .i64 (addI y y'), .int .i64 (addI z z')]) (by simp [results, Try.results74, go_sem, d0, d1, d2]) rfl ⟨rfl, by (repeat' (first | (with_reducible exact Below.refl _ _) | (with_reducible assumption) | (with_reducible refine Below.alloc ?_ ?_ _) | (with_reducible refine Below.drew ?_) | (with_reducible refine Below.setCell ?_ ?_ _) | (with_reducible refine after ?_ (below_regrown _ _ _)) | (refine after ?_ (by with_reducible assumption)) | go_size))⟩
end Go.Proofs.Ytmkmaoodeebmfaa
