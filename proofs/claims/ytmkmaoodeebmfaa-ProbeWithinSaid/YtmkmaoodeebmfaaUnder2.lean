/- What is under a box: the program's. -/
import Derived.Test.YtmkmaoodeebmfaaUnder
import Derived.Test.YtmkmaoodeebmfaaVec2
import Derived.Test.YtmkmaoodeebmfaaLast
namespace Go.Proofs.Ytmkmaoodeebmfaa
open Go.RowKit

theorem sub_one {b : Int} (h1 : -140737488355328 ≤ b) (h2 : b ≤ 140737488355328) : subI b 1 = cutI (b - 1) := by
  unfold subI; rw [cutI_id h1 h2]; rfl
theorem cut_cut (b : Int) : cutI (cutI b) = cutI b := cutI_id (cutI_lo b) (cutI_hi b)
set_option maxRecDepth 100000 in
set_option maxHeartbeats 2000000 in
theorem under_raw (a b c d e f : Int) (h1 : -140737488355328 ≤ b) (h2 : b ≤ 140737488355328) (w : World) : Calls Try.prog 23 #[.agg #[.int .i64 a, .int .i64 b, .int .i64 c, .int .i64 d, .int .i64 e, .int .i64 f]] w fun r w' => r = .returned (.agg #[.int .i64 (wiI a 1 0 (cutI (b - 1))), .int .i64 (wiI b 1 1 (cutI (b - 1))), .int .i64 (wiI c 1 2 (cutI (b - 1))), .int .i64 (wiI d 1 0 b), .int .i64 (wiI e 1 1 b), .int .i64 (wiI f 1 2 b)]) ∧ Below w.heap.size w w' := by
  have U : Blk ((w.alloc (.cells #[.int .i64 a, .int .i64 b, .int .i64 c, .int .i64 d, .int .i64 e, .int .i64 f] 28)).alloc (.cells #[.int .i64 0, .int .i64 0, .int .i64 0, .int .i64 0, .int .i64 0, .int .i64 0] 28)) w.heap.size 28 #[.int .i64 a, .int .i64 b, .int .i64 c, .int .i64 d, .int .i64 e, .int .i64 f] := (Blk.new' rfl).alloc _
  have R0 : Blk ((w.alloc (.cells #[.int .i64 a, .int .i64 b, .int .i64 c, .int .i64 d, .int .i64 e, .int .i64 f] 28)).alloc (.cells #[.int .i64 0, .int .i64 0, .int .i64 0, .int .i64 0, .int .i64 0, .int .i64 0] 28)) (w.heap.size + 1) 28 #[.int .i64 0, .int .i64 0, .int .i64 0, .int .i64 0, .int .i64 0, .int .i64 0] := Blk.new' (by simp)
  obtain ⟨k0, k1, k2, k3, k4, k5⟩ := U.re6
  obtain ⟨⟨u0, u1, u2, u3, u4, u5⟩, -, -, -, -, -, -⟩ := U.c6
  have hs : ∀ w, Calls Try.prog 50 #[.int .i64 b, .int .i64 1] w fun e w' => e = .returned (.int .i64 (cutI (b - 1))) ∧ w = w' := fun w => by have := fsub_c b 1 w; rwa [sub_one h1 h2] at this
  go_enter Try.func23, Try.ntmps23
  go_upto_region 2 with (fail)
  refine wp_region_last_below 10 (by kernel_rfl) rfl (by kernel_rfl) ?_
  simp only [List.take_succ_cons, List.take_zero, List.drop_succ_cons, List.drop_zero]
  repeat (go_big_quiet_step (first | (go_at_call 50; exact Calls.regrown_of (calls_bel (hs _))) | exact Calls.regrown_of (with_c _ _ _ _ _ _)))
  refine wpQuiet_nil ?_
  intro w' hw'
  obtain ⟨rg, rfl⟩ := hw'
  have R := R0.re rg.d rg.os
  obtain ⟨⟨r0, r1, r2, r3, r4, r5⟩, f0, f1, f2, f3, f4, f5⟩ := R.c6
  go_wp2_with fail
  have R2 := R.st6 (.int .i64 (wiI a 1 0 (cutI (b - 1)))) (.int .i64 (wiI b 1 1 (cutI (b - 1)))) (.int .i64 (wiI c 1 2 (cutI (b - 1)))) (.int .i64 (wiI d 1 0 b)) (.int .i64 (wiI e 1 1 b)) (.int .i64 (wiI f 1 2 b))
  obtain ⟨⟨d0, d1, d2, d3, d4, d5⟩, -, -, -, -, -, -⟩ := R2.c6
  exact bodyPost_ret (v := .agg #[.int .i64 (wiI a 1 0 (cutI (b - 1))), .int .i64 (wiI b 1 1 (cutI (b - 1))), .int .i64 (wiI c 1 2 (cutI (b - 1))), .int .i64 (wiI d 1 0 b), .int .i64 (wiI e 1 1 b), .int .i64 (wiI f 1 2 b)]) (by simp [results, Try.results23, go_sem, d0, d1, d2, d3, d4, d5]) rfl ⟨rfl, by (repeat' (first | (with_reducible exact Below.refl _ _) | (with_reducible assumption) | (with_reducible refine Below.alloc ?_ ?_ _) | (with_reducible refine Below.drew ?_) | (with_reducible refine Below.setCell ?_ ?_ _) | (with_reducible refine after ?_ (below_regrown _ _ _)) | (refine after ?_ (by with_reducible assumption)) | go_size))⟩
theorem under_c (a b c d e f : Int) (h1 : -140737488355328 ≤ b) (h2 : b ≤ 140737488355328) (w : World) : Calls Try.prog 23 #[.agg #[.int .i64 a, .int .i64 b, .int .i64 c, .int .i64 d, .int .i64 e, .int .i64 f]] w fun r w' => r = .returned (.agg #[.int .i64 a, .int .i64 (cutI (b - 1)), .int .i64 c, .int .i64 d, .int .i64 b, .int .i64 f]) ∧ Below w.heap.size w w' := by
  have h := under_raw a b c d e f h1 h2 w
  rw [show wiI a 1 0 (cutI (b - 1)) = a from rfl, show wiI b 1 1 (cutI (b - 1)) = cutI (b - 1) from cut_cut _, show wiI c 1 2 (cutI (b - 1)) = c from rfl, show wiI d 1 0 b = d from rfl, show wiI e 1 1 b = b from cutI_id h1 h2, show wiI f 1 2 b = f from rfl] at h
  exact h
end Go.Proofs.Ytmkmaoodeebmfaa
