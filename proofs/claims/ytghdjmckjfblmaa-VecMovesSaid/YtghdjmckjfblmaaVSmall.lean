/- A way of at most 2^45 (the laws' own helper). -/
import Derived.Test.YtghdjmckjfblmaaVLives
import Derived.Test.YtghdjmckjfblmaaBase2
import Derived.Test.YtghdjmckjfblmaaFloat
import Derived.Test.YtghdjmckjfblmaaRef2
namespace Go.Proofs.Ytghdjmckjfblmaa
open Go.RowKit

def smI (n : Int) : Int := arI n 70368744177665 - 35184372088832
theorem smI_bd (n : Int) : -35184372088832 ≤ smI n ∧ smI n ≤ 35184372088832 := by
  have h1 := arI_lo n (m := 70368744177665) (by decide)
  have h2 := arI_hi n (m := 70368744177665) (by decide)
  unfold smI; omega
theorem around_b (n m : Int) (hn : In64 n) (hm : 0 < m) (w : World) : Calls Try.prog 46 #[.int .i64 n, .int .i64 m] w fun e w' => e = .returned (.int .i64 (arI n m)) ∧ Below w.heap.size w w' :=
  calls_bel (around_c n m hn.1 hn.2 hm w)
set_option maxHeartbeats 2000000 in
theorem small_c (x y z : Int) (hx : In64 x) (hy : In64 y) (hz : In64 z) (w : World) : Calls Try.prog 20 #[.agg #[.int .i64 x, .int .i64 y, .int .i64 z]] w fun e w' => e = .returned (.agg #[.int .i64 (smI x), .int .i64 (smI y), .int .i64 (smI z)]) ∧ Below w.heap.size w w' := by
  have a1 := arI_lo x (m := 70368744177665) (by decide)
  have a2 := arI_hi x (m := 70368744177665) (by decide)
  have b1 := arI_lo y (m := 70368744177665) (by decide)
  have b2 := arI_hi y (m := 70368744177665) (by decide)
  have c1 := arI_lo z (m := 70368744177665) (by decide)
  have c2 := arI_hi z (m := 70368744177665) (by decide)
  have U : Blk ((w.alloc (.cells #[.int .i64 x, .int .i64 y, .int .i64 z] 23)).alloc (.cells #[.int .i64 0, .int .i64 0, .int .i64 0] 23)) w.heap.size 23 #[.int .i64 x, .int .i64 y, .int .i64 z] := (Blk.new' rfl).alloc _
  have R0 : Blk ((w.alloc (.cells #[.int .i64 x, .int .i64 y, .int .i64 z] 23)).alloc (.cells #[.int .i64 0, .int .i64 0, .int .i64 0] 23)) (w.heap.size + 1) 23 #[.int .i64 0, .int .i64 0, .int .i64 0] := Blk.new' (by simp)
  obtain ⟨k0, k1, k2⟩ := U.re3
  go_enter Try.func20, Try.ntmps20
  go_wp2_with fail
  refine wp_region_last_below 13 (by kernel_rfl) rfl (by kernel_rfl) ?_
  simp only [List.take_succ_cons, List.take_zero, List.drop_succ_cons, List.drop_zero]
  repeat (go_big_quiet_step (exact Calls.regrown_of (around_b _ _ (by assumption) (by decide) _)))
  refine wpQuiet_nil ?_
  intro w' hw'
  obtain ⟨rg, rfl⟩ := hw'
  have R := R0.re rg.d rg.os
  obtain ⟨r0, r1, r2, s0, s1, s2⟩ := R.c3
  go_wp2_with fail
  have R2 := R.st3 (.int .i64 (arI x 70368744177665 - 35184372088832)) (.int .i64 (arI y 70368744177665 - 35184372088832)) (.int .i64 (arI z 70368744177665 - 35184372088832))
  obtain ⟨d0, d1, d2, -, -, -⟩ := R2.c3
  exact bodyPost_ret (v := .agg #[.int .i64 (arI x 70368744177665 - 35184372088832), .int .i64 (arI y 70368744177665 - 35184372088832), .int .i64 (arI z 70368744177665 - 35184372088832)]) (by simp [results, Try.results20, go_sem, d0, d1, d2]) rfl ⟨rfl, by (repeat' (first | (with_reducible exact Below.refl _ _) | (with_reducible assumption) | (with_reducible refine Below.alloc ?_ ?_ _) | (with_reducible refine Below.drew ?_) | (with_reducible refine Below.setCell ?_ ?_ _) | (with_reducible refine after ?_ (below_regrown _ _ _)) | (refine after ?_ (by with_reducible assumption)) | go_size))⟩
end Go.Proofs.Ytghdjmckjfblmaa
