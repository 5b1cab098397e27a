/- Of a ray: a way cut, which side comes sooner. -/
import Derived.Test.YtjlgcfdpfalbpaaVec2
import Derived.Test.YtjlgcfdpfalbpaaLast
import Derived.Test.YtjlgcfdpfalbpaaFix3
namespace Go.Proofs.Ytjlgcfdpfalbpaa
open Go.RowKit Go.Shelf
attribute [local go_sem] Oper.semAt_some

/-- A way's number, not too great. -/
def qI (n : Int) : Int := mnI (mxI n (-1048576)) 1048576
theorem qI_bd (n : Int) : -1048576 ≤ qI n ∧ qI n ≤ 1048576 := by unfold qI mnI mxI; omega
theorem rayc1_c (n : Int) (w : World) : Calls Try.prog 61 #[.int .i64 n] w fun r w' => r = .returned (.int .i64 (qI n)) ∧ w = w' := by
  have hmn := @run_mn Try.prog
  have hmx := @run_mx Try.prog
  go_enter Try.func61, Try.ntmps61
  go_wp2_with fail
  go_returns
  exact ⟨rfl, rfl⟩
set_option maxHeartbeats 2000000 in
theorem raycut_c (x y z : Int) (w : World) : Calls Try.prog 40 #[.agg #[.int .i64 x, .int .i64 y, .int .i64 z]] w fun r w' => r = .returned (.agg #[.int .i64 (qI x), .int .i64 (qI y), .int .i64 (qI z)]) ∧ Below w.heap.size w w' := by
  have U : Blk ((w.alloc (.cells #[.int .i64 x, .int .i64 y, .int .i64 z] 26)).alloc (.cells #[.int .i64 0, .int .i64 0, .int .i64 0] 26)) w.heap.size 26 #[.int .i64 x, .int .i64 y, .int .i64 z] := (Blk.new' rfl).alloc _
  have R0 : Blk ((w.alloc (.cells #[.int .i64 x, .int .i64 y, .int .i64 z] 26)).alloc (.cells #[.int .i64 0, .int .i64 0, .int .i64 0] 26)) (w.heap.size + 1) 26 #[.int .i64 0, .int .i64 0, .int .i64 0] := Blk.new' (by simp)
  obtain ⟨k0, k1, k2⟩ := U.re3
  go_enter Try.func40, Try.ntmps40
  go_wp2_with fail
  refine wp_region_last_below 13 (by kernel_rfl) rfl (by kernel_rfl) ?_
  simp only [List.take_succ_cons, List.take_zero, List.drop_succ_cons, List.drop_zero]
  repeat (go_big_quiet_step (exact Calls.regrown_of (calls_bel (rayc1_c _ _))))
  refine wpQuiet_nil ?_
  intro w' hw'
  obtain ⟨rg, rfl⟩ := hw'
  have R := R0.re rg.d rg.os
  obtain ⟨r0, r1, r2, s0, s1, s2⟩ := R.c3
  go_wp2_with fail
  have R2 := R.st3 (.int .i64 (qI x)) (.int .i64 (qI y)) (.int .i64 (qI z))
  obtain ⟨d0, d1, d2, -, -, -⟩ := R2.c3
  exact bodyPost_ret (v := .agg #[.int .i64 (qI x), .int .i64 (qI y), .int .i64 (qI z)]) (by simp [results, Try.results40, go_sem, d0, d1, d2]) rfl ⟨rfl, by (repeat' (first | (with_reducible exact Below.refl _ _) | (with_reducible assumption) | (with_reducible refine Below.alloc ?_ ?_ _) | (with_reducible refine Below.drew ?_) | (with_reducible refine Below.setCell ?_ ?_ _) | (with_reducible refine after ?_ (below_regrown _ _ _)) | (refine after ?_ (by with_reducible assumption)) | go_size))⟩
/-- Is one side come to ahead of another one? -/
def soonB (al sa bl sb : Int) : Bool := if sa = 0 ∨ sb = 0 then decide (0 < sa) else decide (al * sb < bl * sa)
set_option maxHeartbeats 2000000 in
theorem sooner_c (al sa bl sb : Int) (h1 : 0 ≤ al) (h2 : al ≤ 100000000) (h3 : 0 ≤ sa) (h4 : sa ≤ 1048576) (h5 : 0 ≤ bl) (h6 : bl ≤ 100000000) (h7 : 0 ≤ sb) (h8 : sb ≤ 1048576) (w : World) :
    Calls Try.prog 45 #[.agg #[.int .i64 al, .int .i64 sa], .agg #[.int .i64 bl, .int .i64 sb]] w fun r w' => r = .returned (.bool (soonB al sa bl sb)) ∧ Below w.heap.size w w' := by
  have p1 : 0 ≤ al * sb := Int.mul_nonneg h1 h7
  have p2 : al * sb ≤ 100000000 * 1048576 := Int.mul_le_mul h2 h8 h7 (by omega)
  have p3 : 0 ≤ bl * sa := Int.mul_nonneg h5 h3
  have p4 : bl * sa ≤ 100000000 * 1048576 := Int.mul_le_mul h6 h4 h3 (by omega)
  have q1 : -9223372036854775808 ≤ al * sb := by omega
  have q2 : al * sb ≤ 9223372036854775807 := by omega
  have q3 : -9223372036854775808 ≤ bl * sa := by omega
  have q4 : bl * sa ≤ 9223372036854775807 := by omega
  clear p1 p2 p3 p4 h1 h2 h5 h6 h8 h4
  by_cases ha : sa = 0
  · subst ha
    have hv : soonB al 0 bl sb = false := by unfold soonB; rw [if_pos (.inl rfl)]; rfl
    rw [hv]
    go_enter Try.func45, Try.ntmps45
    go_wp2_with fail
    go_returns
    exact ⟨rfl, by (repeat' (first | (with_reducible exact Below.refl _ _) | (with_reducible assumption) | (with_reducible refine Below.alloc ?_ ?_ _) | (with_reducible refine Below.drew ?_) | (with_reducible refine Below.setCell ?_ ?_ _) | (with_reducible refine after ?_ (below_regrown _ _ _)) | (refine after ?_ (by with_reducible assumption)) | go_size))⟩
  · have ha2 : (sa == 0) = false := by simpa using ha
    have ha3 : 0 < sa := by omega
    by_cases hb : sb = 0
    · subst hb
      have hv : soonB al sa bl 0 = true := by unfold soonB; rw [if_pos (.inr rfl)]; simpa using ha3
      rw [hv]
      go_enter Try.func45, Try.ntmps45
      go_wp2_with fail
      go_returns
      exact ⟨rfl, by (repeat' (first | (with_reducible exact Below.refl _ _) | (with_reducible assumption) | (with_reducible refine Below.alloc ?_ ?_ _) | (with_reducible refine Below.drew ?_) | (with_reducible refine Below.setCell ?_ ?_ _) | (with_reducible refine after ?_ (below_regrown _ _ _)) | (refine after ?_ (by with_reducible assumption)) | go_size))⟩
    · have hb2 : (sb == 0) = false := by simpa using hb
      have hv : soonB al sa bl sb = decide (al * sb < bl * sa) := by unfold soonB; rw [if_neg (by simp [ha, hb])]
      rw [hv]
      go_enter Try.func45, Try.ntmps45
      go_wp2_with fail
      go_returns
      exact ⟨rfl, by (repeat' (first | (with_reducible exact Below.refl _ _) | (with_reducible assumption) | (with_reducible refine Below.alloc ?_ ?_ _) | (with_reducible refine Below.drew ?_) | (with_reducible refine Below.setCell ?_ ?_ _) | (with_reducible refine after ?_ (below_regrown _ _ _)) | (refine after ?_ (by with_reducible assumption)) | go_size))⟩
end Go.Proofs.Ytjlgcfdpfalbpaa
