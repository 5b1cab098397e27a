/- The neighbours of a cell: the program's. -/
import Derived.Test.YtjlgcfdpfalbpaaVec2
import Derived.Test.YtjlgcfdpfalbpaaLast
import Derived.Test.YtjlgcfdpfalbpaaSched2
namespace Go.Proofs.Ytjlgcfdpfalbpaa
open Go.RowKit Go.Shelf
attribute [local go_sem] Oper.semAt_some

/-- A cell's number within the bounds. -/
def ccI (n : Int) : Int := mnI (mxI n (-2147483648)) 2147483648
theorem ccI_id {n : Int} (h1 : -2147483648 ≤ n) (h2 : n ≤ 2147483648) : ccI n = n := by unfold ccI mnI mxI; omega
theorem ccI_bd (n : Int) : -2147483648 ≤ ccI n ∧ ccI n ≤ 2147483648 := by unfold ccI mnI mxI; omega
theorem ccut1_c (n : Int) (w : World) : Calls Try.prog 55 #[.int .i64 n] w fun r w' => r = .returned (.int .i64 (ccI n)) ∧ w = w' := by
  have hmn := @run_mn Try.prog
  have hmx := @run_mx Try.prog
  go_enter Try.func55, Try.ntmps55
  go_wp2_with fail
  go_returns
  exact ⟨rfl, rfl⟩
set_option maxHeartbeats 2000000 in
theorem ccut_c (x y z : Int) (w : World) : Calls Try.prog 54 #[.agg #[.int .i64 x, .int .i64 y, .int .i64 z]] w fun r w' => r = .returned (.agg #[.int .i64 (ccI x), .int .i64 (ccI y), .int .i64 (ccI z)]) ∧ Below w.heap.size w w' := by
  have U : Blk ((w.alloc (.cells #[.int .i64 x, .int .i64 y, .int .i64 z] 29)).alloc (.cells #[.int .i64 0, .int .i64 0, .int .i64 0] 29)) w.heap.size 29 #[.int .i64 x, .int .i64 y, .int .i64 z] := (Blk.new' rfl).alloc _
  have R0 : Blk ((w.alloc (.cells #[.int .i64 x, .int .i64 y, .int .i64 z] 29)).alloc (.cells #[.int .i64 0, .int .i64 0, .int .i64 0] 29)) (w.heap.size + 1) 29 #[.int .i64 0, .int .i64 0, .int .i64 0] := Blk.new' (by simp)
  obtain ⟨k0, k1, k2⟩ := U.re3
  go_enter Try.func54, Try.ntmps54
  go_wp2_with fail
  refine wp_region_last_below 10 (by kernel_rfl) rfl (by kernel_rfl) ?_
  simp only [List.take_succ_cons, List.take_zero, List.drop_succ_cons, List.drop_zero]
  repeat (go_big_quiet_step (exact Calls.regrown_of (calls_bel (ccut1_c _ _))))
  refine wpQuiet_nil ?_
  intro w' hw'
  obtain ⟨rg, rfl⟩ := hw'
  have R := R0.re rg.d rg.os
  obtain ⟨r0, r1, r2, s0, s1, s2⟩ := R.c3
  go_wp2_with fail
  have R2 := R.st3 (.int .i64 (ccI x)) (.int .i64 (ccI y)) (.int .i64 (ccI z))
  obtain ⟨d0, d1, d2, -, -, -⟩ := R2.c3
  exact bodyPost_ret (v := .agg #[.int .i64 (ccI x), .int .i64 (ccI y), .int .i64 (ccI z)]) (by simp [results, Try.results54, go_sem, d0, d1, d2]) rfl ⟨rfl, by (repeat' (first | (with_reducible exact Below.refl _ _) | (with_reducible assumption) | (with_reducible refine Below.alloc ?_ ?_ _) | (with_reducible refine Below.drew ?_) | (with_reducible refine Below.setCell ?_ ?_ _) | (with_reducible refine after ?_ (below_regrown _ _ _)) | (refine after ?_ (by with_reducible assumption)) | go_size))⟩
set_option maxHeartbeats 4000000 in
theorem nearto_c (b : Nat) (x y z a b' c : Int) (ha : -1 ≤ a ∧ a ≤ 1) (hb : -1 ≤ b' ∧ b' ≤ 1) (hc : -1 ≤ c ∧ c ≤ 1) (w : World) (B : Blk w b 29 #[.int .i64 x, .int .i64 y, .int .i64 z]) :
    Calls Try.prog 53 #[.int .i64 a, .int .i64 b', .int .i64 c, .pointer (some ⟨b, 0, none⟩)] w fun r w' => r = .returned (.agg #[.int .i64 (ccI (ccI x + a)), .int .i64 (ccI (ccI y + b')), .int .i64 (ccI (ccI z + c))]) ∧ Below w.heap.size w w' := by
  have U : Blk (w.alloc (.cells #[.int .i64 0, .int .i64 0, .int .i64 0] 29)) b 29 #[.int .i64 x, .int .i64 y, .int .i64 z] := B.alloc _
  have R0 : Blk (w.alloc (.cells #[.int .i64 0, .int .i64 0, .int .i64 0] 29)) w.heap.size 29 #[.int .i64 0, .int .i64 0, .int .i64 0] := Blk.new' rfl
  obtain ⟨k0, k1, k2⟩ := U.re3
  have bx := ccI_bd x
  have bb := ccI_bd y
  have bz := ccI_bd z
  have e1 : IntKind.i64.wrap (ccI x + a) = ccI x + a := IntWalk.i64_in _ (by omega)
  have e2 : IntKind.i64.wrap (ccI y + b') = ccI y + b' := IntWalk.i64_in _ (by omega)
  have e3 : IntKind.i64.wrap (ccI z + c) = ccI z + c := IntWalk.i64_in _ (by omega)
  clear bx bb bz ha hb hc
  go_enter Try.func53, Try.ntmps53
  go_wp2_with fail
  refine wp_region_last_below 17 (by kernel_rfl) rfl (by kernel_rfl) ?_
  simp only [List.take_succ_cons, List.take_zero, List.drop_succ_cons, List.drop_zero]
  repeat (go_big_quiet_step (first | exact Calls.regrown_of (calls_bel (ccut1_c _ _)) | exact Calls.regrown_of (ccut_c _ _ _ _)))
  refine wpQuiet_nil ?_
  intro w' hw'
  obtain ⟨rg, rfl⟩ := hw'
  have R := R0.re rg.d rg.os
  obtain ⟨r0, r1, r2, s0, s1, s2⟩ := R.c3
  clear e1 e2 e3 k0 k1 k2
  go_wp2_with fail
  have R2 := R.st3 (.int .i64 (ccI (ccI x + a))) (.int .i64 (ccI (ccI y + b'))) (.int .i64 (ccI (ccI z + c)))
  obtain ⟨d0, d1, d2, -, -, -⟩ := R2.c3
  exact bodyPost_ret (v := .agg #[.int .i64 (ccI (ccI x + a)), .int .i64 (ccI (ccI y + b')), .int .i64 (ccI (ccI z + c))]) (by simp [results, Try.results53, go_sem, d0, d1, d2]) rfl ⟨rfl, by (repeat' (first | (with_reducible exact Below.refl _ _) | (with_reducible assumption) | (with_reducible refine Below.alloc ?_ ?_ _) | (with_reducible refine Below.drew ?_) | (with_reducible refine Below.setCell ?_ ?_ _) | (with_reducible refine after ?_ (below_regrown _ _ _)) | (refine after ?_ (by with_reducible assumption)) | go_size))⟩
end Go.Proofs.Ytjlgcfdpfalbpaa
