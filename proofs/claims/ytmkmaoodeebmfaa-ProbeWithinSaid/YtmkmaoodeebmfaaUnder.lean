/- What is under a box: the document's. -/
import Derived.Test.YtmkmaoodeebmfaaSpan
import Derived.Test.YtmkmaoodeebmfaaOff
import Derived.Deep.Cut
namespace Go.Proofs.Ytmkmaoodeebmfaa
open Go.RowKit

set_option maxRecDepth 100000 in
set_option maxHeartbeats 1000000 in
theorem runder_c (a b c d e f : Int) (h1 : -140737488355328 ≤ b) (h2 : b ≤ 140737488355328) (w : World) : Calls Try.prog 24 #[.agg #[.int .i64 a, .int .i64 b, .int .i64 c, .int .i64 d, .int .i64 e, .int .i64 f]] w fun r w' => r = .returned (.agg #[.int .i64 a, .int .i64 (cutI (b - 1)), .int .i64 c, .int .i64 d, .int .i64 b, .int .i64 f]) ∧ Below w.heap.size w w' := by
  obtain ⟨W, hW⟩ : ∃ W, W = ((w.alloc (.cells #[.int .i64 a, .int .i64 b, .int .i64 c, .int .i64 d, .int .i64 e, .int .i64 f] 28)).alloc (.cells #[.int .i64 0, .int .i64 0, .int .i64 0, .int .i64 0, .int .i64 0, .int .i64 0] 28)).alloc (.cells #[.int .i64 a, .int .i64 b, .int .i64 c, .int .i64 d, .int .i64 e, .int .i64 f] 28) := ⟨_, rfl⟩
  have H : Below w.heap.size w W := by rw [hW]; go_grown
  have A : Blk W w.heap.size 28 #[.int .i64 a, .int .i64 b, .int .i64 c, .int .i64 d, .int .i64 e, .int .i64 f] := by rw [hW]; exact ((Blk.new' rfl).alloc _).alloc _
  have R : Blk W (w.heap.size + 1) 28 #[.int .i64 0, .int .i64 0, .int .i64 0, .int .i64 0, .int .i64 0, .int .i64 0] := by rw [hW]; exact (Blk.new' (by simp)).alloc _
  have O : Blk W (w.heap.size + 1 + 1) 28 #[.int .i64 a, .int .i64 b, .int .i64 c, .int .i64 d, .int .i64 e, .int .i64 f] := by rw [hW]; exact Blk.new' (by simp)
  obtain ⟨⟨a0, a1, a2, a3, a4, a5⟩, -, -, -, -, -, -⟩ := A.c6
  obtain ⟨⟨o0, o1, o2, o3, o4, o5⟩, p0, p1, p2, p3, p4, p5⟩ := O.c6
  obtain ⟨⟨r0, r1, r2, r3, r4, r5⟩, f0, f1, f2, f3, f4, f5⟩ := R.c6
  go_enter Try.func24, Try.ntmps24
  go_upto_region 2 with (fail)
  rw [← hW]
  clear hW
  go_wp2_with fail
  refine (rcut_c _ _).mono ?_; rintro e w1 ⟨rfl, rfl⟩
  go_upto_region 4 with (fail)
  clear a0 a1 a2 a3 a4 a5 o0 o1 o2 o3 o4 o5 p0 p1 p2 p3 p4 p5 r0 r1 r2 r3 r4 r5 f0 f1 f2 f3 f4 f5 A
  obtain ⟨W2, hW⟩ : ∃ W2, W2 = (W.setCell ⟨w.heap.size + 1 + 1, 1, none⟩ (.int .i64 (cutI (b - 1)))).setCell ⟨w.heap.size + 1 + 1, 4, none⟩ (.int .i64 b) := ⟨_, rfl⟩
  rw [← hW]
  replace O : Blk W2 (w.heap.size + 1 + 1) 28 #[.int .i64 a, .int .i64 (cutI (b - 1)), .int .i64 c, .int .i64 d, .int .i64 b, .int .i64 f] := by rw [hW]; exact (O.set_ 1 _).set_ 4 _
  replace R : Blk W2 (w.heap.size + 1) 28 #[.int .i64 0, .int .i64 0, .int .i64 0, .int .i64 0, .int .i64 0, .int .i64 0] := by rw [hW]; exact (R.far (by simp) _).far (by simp) _
  replace H : Below w.heap.size w W2 := by rw [hW]; exact (H.setCell (by simp; omega) _).setCell (by simp; omega) _
  clear hW
  obtain ⟨⟨o0, o1, o2, o3, o4, o5⟩, -, -, -, -, -, -⟩ := O.c6
  obtain ⟨⟨r0, r1, r2, r3, r4, r5⟩, f0, f1, f2, f3, f4, f5⟩ := R.c6
  go_wp2_with fail
  have R2 := R.st6 (.int .i64 (a)) (.int .i64 (cutI (b - 1))) (.int .i64 (c)) (.int .i64 (d)) (.int .i64 (b)) (.int .i64 (f))
  obtain ⟨⟨d0, d1, d2, d3, d4, d5⟩, -, -, -, -, -, -⟩ := R2.c6
  exact bodyPost_ret (v := .agg #[.int .i64 (a), .int .i64 (cutI (b - 1)), .int .i64 (c), .int .i64 (d), .int .i64 (b), .int .i64 (f)]) (by simp [results, Try.results24, go_sem, d0, d1, d2, d3, d4, d5]) rfl ⟨rfl, by (repeat' (first | (with_reducible exact Below.refl _ _) | (with_reducible assumption) | (with_reducible refine Below.alloc ?_ ?_ _) | (with_reducible refine Below.drew ?_) | (with_reducible refine Below.setCell ?_ ?_ _) | (with_reducible refine after ?_ (below_regrown _ _ _)) | (refine after ?_ (by with_reducible assumption)) | go_size))⟩
end Go.Proofs.Ytmkmaoodeebmfaa
