/- The walks of the layer 2 (vec): what is made of each number of a way. -/
import Derived.Test.YtjlgcfdpfalbpaaVec
namespace Go.Proofs.Ytjlgcfdpfalbpaa
open Go.RowKit

set_option maxHeartbeats 400000 in
theorem cut1_c (i n : Int) (w : World) : Calls Try.prog 59 #[.int .i64 i, .int .i64 n] w fun e w' => e = .returned (.int .i64 (cutI n)) ∧ Below w.heap.size w w' := by
  go_enter Try.func59, Try.ntmps59
  go_wp2_with fail
  refine (fcut_c _ _).mono ?_; rintro e w1 ⟨rfl, rfl⟩
  go_wp2_with fail
  go_returns
  exact ⟨ret_i rfl, by (repeat' (first | (with_reducible exact Below.refl _ _) | (with_reducible assumption) | (with_reducible refine Below.alloc ?_ ?_ _) | (with_reducible refine Below.drew ?_) | (with_reducible refine Below.setCell ?_ ?_ _) | (with_reducible refine after ?_ (below_regrown _ _ _)) | (refine after ?_ (by with_reducible assumption)) | go_size))⟩
set_option maxHeartbeats 1000000 in
theorem cutv_c (x y z : Int) (w : World) : Calls Try.prog 39 #[.agg #[.int .i64 x, .int .i64 y, .int .i64 z]] w fun e w' => e = .returned (.agg #[.int .i64 (cutI x), .int .i64 (cutI y), .int .i64 (cutI z)]) ∧ Below w.heap.size w w' := by
  have e := enters_of Try.func59 (by kernel_rfl) rfl
  go_enter Try.func39, Try.ntmps39
  go_wp2_with fail
  have R0 : Blk ((w.alloc (.cells #[.int .i64 x, .int .i64 y, .int .i64 z] 26)).alloc (.cells #[.int .i64 0, .int .i64 0, .int .i64 0] 26)) (w.heap.size + 1) 26 #[.int .i64 0, .int .i64 0, .int .i64 0] := Blk.new' (by simp)
  refine (each_c 59 #[] (fun _ n => cutI n) _ _ _ _ e ?_).mono ?_
  · intro i n W _
    exact cut1_c i n W
  rintro e w1 ⟨rfl, hb⟩
  have R := R0.on hb
  clear R0
  obtain ⟨r0, r1, r2, r3, r4, r5⟩ := R.c3
  go_wp2_with fail
  have R2 := R.st3 (.int .i64 (cutI x)) (.int .i64 (cutI y)) (.int .i64 (cutI z))
  obtain ⟨d0, d1, d2, -, -, -⟩ := R2.c3
  exact bodyPost_ret (v := .agg #[.int .i64 (cutI x), .int .i64 (cutI y), .int .i64 (cutI z)]) (by simp [results, Try.results39, go_sem, d0, d1, d2]) rfl ⟨rfl, by (repeat' (first | (with_reducible exact Below.refl _ _) | (with_reducible assumption) | (with_reducible refine Below.alloc ?_ ?_ _) | (with_reducible refine Below.drew ?_) | (with_reducible refine Below.setCell ?_ ?_ _) | (with_reducible refine after ?_ (below_regrown _ _ _)) | (refine after ?_ (by with_reducible assumption)) | go_size))⟩
set_option maxHeartbeats 400000 in
theorem sub1_c (i n x y z : Int) (w : World) (b : Nat) (h : Blk w b 26 #[.int .i64 x, .int .i64 y, .int .i64 z]) : Calls Try.prog 68 #[.int .i64 i, .int .i64 n, .pointer (some ⟨b, 0, none⟩)] w fun e w' => e = .returned (.int .i64 (subI n (axI x y z i))) ∧ Below w.heap.size w w' := by
  obtain ⟨r0, r1, r2, -, -, -⟩ := h.c3
  go_enter Try.func68, Try.ntmps68
  go_wp2_with fail
  refine (axis_c _ _ _ _ _).mono ?_; rintro e w1 ⟨rfl, hb⟩
  go_wp2_with fail
  refine (fsub_c _ _ _).mono ?_; rintro e w1 ⟨rfl, rfl⟩
  go_wp2_with fail
  go_returns
  exact ⟨ret_i rfl, by (repeat' (first | (with_reducible exact Below.refl _ _) | (with_reducible assumption) | (with_reducible refine Below.alloc ?_ ?_ _) | (with_reducible refine Below.drew ?_) | (with_reducible refine Below.setCell ?_ ?_ _) | (with_reducible refine after ?_ (below_regrown _ _ _)) | (refine after ?_ (by with_reducible assumption)) | go_size))⟩
set_option maxHeartbeats 1000000 in
theorem sub_c (x y z x' y' z' : Int) (w : World) : Calls Try.prog 50 #[.agg #[.int .i64 x, .int .i64 y, .int .i64 z], .agg #[.int .i64 x', .int .i64 y', .int .i64 z']] w fun e w' => e = .returned (.agg #[.int .i64 (subI x x'), .int .i64 (subI y y'), .int .i64 (subI z z')]) ∧ Below w.heap.size w w' := by
  have e := enters_of Try.func68 (by kernel_rfl) rfl
  go_enter Try.func50, Try.ntmps50
  go_wp2_with fail
  have R0 : Blk (((w.alloc (.cells #[.int .i64 x, .int .i64 y, .int .i64 z] 26)).alloc (.cells #[.int .i64 x', .int .i64 y', .int .i64 z'] 26)).alloc (.cells #[.int .i64 0, .int .i64 0, .int .i64 0] 26)) (w.heap.size + 1 + 1) 26 #[.int .i64 0, .int .i64 0, .int .i64 0] := Blk.new' (by simp)
  have A0 : Blk (((w.alloc (.cells #[.int .i64 x, .int .i64 y, .int .i64 z] 26)).alloc (.cells #[.int .i64 x', .int .i64 y', .int .i64 z'] 26)).alloc (.cells #[.int .i64 0, .int .i64 0, .int .i64 0] 26)) (w.heap.size + 1) 26 #[.int .i64 x', .int .i64 y', .int .i64 z'] := (Blk.new' (by simp)).alloc _
  refine (each_c 68 _ (fun i n => subI n (axI x' y' z' i)) _ _ _ _ e ?_).mono ?_
  · intro i n W hW
    exact sub1_c i n x' y' z' W _ (A0.on hW)
  rintro e w1 ⟨rfl, hb⟩
  have R := R0.on hb
  clear R0 A0
  obtain ⟨r0, r1, r2, r3, r4, r5⟩ := R.c3
  simp only [axI_0, axI_1, axI_2]
  go_wp2_with fail
  have R2 := R.st3 (.int .i64 (subI x x')) (.int .i64 (subI y y')) (.int .i64 (subI z z'))
  obtain ⟨d0, d1, d2, -, -, -⟩ := R2.c3
  exact bodyPost_ret (v := .agg #[.int .i64 (subI x x'), .int .i64 (subI y y'), .int .i64 (subI z z')]) (by simp [results, Try.results50, go_sem, d0, d1, d2]) rfl ⟨rfl, by (repeat' (first | (with_reducible exact Below.refl _ _) | (with_reducible assumption) | (with_reducible refine Below.alloc ?_ ?_ _) | (with_reducible refine Below.drew ?_) | (with_reducible refine Below.setCell ?_ ?_ _) | (with_reducible refine after ?_ (below_regrown _ _ _)) | (refine after ?_ (by with_reducible assumption)) | go_size))⟩
end Go.Proofs.Ytjlgcfdpfalbpaa
