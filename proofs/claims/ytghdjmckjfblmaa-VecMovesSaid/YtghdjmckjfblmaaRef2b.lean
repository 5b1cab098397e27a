/- The walks of the reference of the layer 2: a box that may be. -/
import Derived.Test.YtghdjmckjfblmaaRef2
import Derived.Deep.Cut
namespace Go.Proofs.Ytghdjmckjfblmaa
open Go.RowKit

set_option maxHeartbeats 2000000 in
theorem rgood_c (a b c d e f : Int) (w : World) : Calls Try.prog 11 #[.agg #[.int .i64 a, .int .i64 b, .int .i64 c, .int .i64 d, .int .i64 e, .int .i64 f]] w fun r w' => r = .returned (.agg #[.int .i64 (mnI (cutI a) (cutI d)), .int .i64 (mnI (cutI b) (cutI e)), .int .i64 (mnI (cutI c) (cutI f)), .int .i64 (mxI (cutI a) (cutI d)), .int .i64 (mxI (cutI b) (cutI e)), .int .i64 (mxI (cutI c) (cutI f))]) ∧ Below w.heap.size w w' := by
  have hmn := @run_mn Try.prog
  have hmx := @run_mx Try.prog
  have U0 : Blk ((w.alloc (.cells (bxV a b c d e f) 25)).alloc (.cells (bxV 0 0 0 0 0 0) 25)) w.heap.size 25 (bxV a b c d e f) := (Blk.new' rfl).alloc _
  have R0 : Blk ((w.alloc (.cells (bxV a b c d e f) 25)).alloc (.cells (bxV 0 0 0 0 0 0) 25)) (w.heap.size + 1) 25 (bxV 0 0 0 0 0 0) := Blk.new' (by simp)
  have H0 : Below w.heap.size w ((w.alloc (.cells (bxV a b c d e f) 25)).alloc (.cells (bxV 0 0 0 0 0 0) 25)) := by go_grown
  go_enter Try.func11, Try.ntmps11
  go_wp2_with fail
  refine (rcutv_c _ _ _ _).mono ?_; rintro r w1 ⟨rfl, hb⟩
  have U1 := U0.on hb
  have R1 := R0.on hb
  have H1 := after H0 hb
  have z1 := U1.lt
  have z2 := R1.lt
  clear hb
  obtain ⟨⟨k0, k1, k2, k3, k4, k5⟩, -, -, -, -, -, -⟩ := U1.c6
  go_wp2_with fail
  refine (rcutv_c _ _ _ _).mono ?_; rintro r w2 ⟨rfl, hb⟩
  clear k0 k1 k2 k3 k4 k5
  have A2 := (Blk.new w1 23 #[.int .i64 (cutI a), .int .i64 (cutI b), .int .i64 (cutI c)]).on hb
  have R2 := (R1.alloc (.cells #[.int .i64 (cutI a), .int .i64 (cutI b), .int .i64 (cutI c)] 23)).on hb
  have H2 := after (H1.alloc H1.size (.cells #[.int .i64 (cutI a), .int .i64 (cutI b), .int .i64 (cutI c)] 23)) hb
  have z3 := A2.lt
  have z4 := R2.lt
  clear hb
  go_upto_region 3 with (fail)
  obtain ⟨W3, hW3⟩ : ∃ W3, W3 = w2.alloc (.cells #[.int .i64 (cutI d), .int .i64 (cutI e), .int .i64 (cutI f)] 23) := ⟨_, rfl⟩
  have A := A2.alloc (.cells #[.int .i64 (cutI d), .int .i64 (cutI e), .int .i64 (cutI f)] 23)
  have R := R2.alloc (.cells #[.int .i64 (cutI d), .int .i64 (cutI e), .int .i64 (cutI f)] 23)
  have C := Blk.new w2 23 #[.int .i64 (cutI d), .int .i64 (cutI e), .int .i64 (cutI f)]
  have H3 := H2.alloc H2.size (.cells #[.int .i64 (cutI d), .int .i64 (cutI e), .int .i64 (cutI f)] 23)
  rw [← hW3] at A R C H3
  rw [← hW3]
  clear hW3 A2 R2 U1 R1 H1 U0 R0 H0 H2 z1 z2 z3 z4
  obtain ⟨a0, a1, a2, -, -, -⟩ := A.c3
  obtain ⟨c0, c1, c2, -, -, -⟩ := C.c3
  obtain ⟨⟨r0, r1, r2, r3, r4, r5⟩, s0, s1, s2, s3, s4, s5⟩ := R.c6
  go_wp2_with fail
  have R2 := R.st6 (.int .i64 (mnI (cutI a) (cutI d))) (.int .i64 (mnI (cutI b) (cutI e))) (.int .i64 (mnI (cutI c) (cutI f))) (.int .i64 (mxI (cutI a) (cutI d))) (.int .i64 (mxI (cutI b) (cutI e))) (.int .i64 (mxI (cutI c) (cutI f)))
  obtain ⟨⟨d0, d1, d2, d3, d4, d5⟩, -, -, -, -, -, -⟩ := R2.c6
  exact bodyPost_ret (v := .agg #[.int .i64 (mnI (cutI a) (cutI d)), .int .i64 (mnI (cutI b) (cutI e)), .int .i64 (mnI (cutI c) (cutI f)), .int .i64 (mxI (cutI a) (cutI d)), .int .i64 (mxI (cutI b) (cutI e)), .int .i64 (mxI (cutI c) (cutI f))]) (by simp [results, Try.results11, go_sem, d0, d1, d2, d3, d4, d5]) rfl ⟨rfl, by (repeat' (first | (with_reducible exact Below.refl _ _) | (with_reducible assumption) | (with_reducible refine Below.alloc ?_ ?_ _) | (with_reducible refine Below.drew ?_) | (with_reducible refine Below.setCell ?_ ?_ _) | (with_reducible refine after ?_ (below_regrown _ _ _)) | (refine after ?_ (by with_reducible assumption)) | go_size))⟩
end Go.Proofs.Ytghdjmckjfblmaa
