/- A place near a small world; the way from one place to another one. -/
import Derived.Test.YtjlgcfdpfalbpaaRayR2
import Derived.Test.YtjlgcfdpfalbpaaSelfs
namespace Go.Proofs.Ytjlgcfdpfalbpaa
open Go.RowKit Go.Shelf
attribute [local go_sem] Oper.semAt_some

def nrI (n : Int) : Int := arI n 655361 - 131072
theorem nrI_bd (n : Int) : -131072 ≤ nrI n ∧ nrI n ≤ 524288 := by
  have h1 := arI_lo n (m := 655361) (by decide)
  have h2 := arI_hi n (m := 655361) (by decide)
  unfold nrI; omega
theorem around_b (n m : Int) (hn : In64 n) (hm : 0 < m) (w : World) : Calls Try.prog 25 #[.int .i64 n, .int .i64 m] w fun e w' => e = .returned (.int .i64 (arI n m)) ∧ Below w.heap.size w w' :=
  calls_bel (around_c n m hn.1 hn.2 hm w)
set_option maxHeartbeats 2000000 in
theorem rnr_c (x y z : Int) (hx : In64 x) (hy : In64 y) (hz : In64 z) (w : World) : Calls Try.prog 10 #[.agg #[.int .i64 x, .int .i64 y, .int .i64 z]] w fun e w' => e = .returned (.agg #[.int .i64 (nrI x), .int .i64 (nrI y), .int .i64 (nrI z)]) ∧ Below w.heap.size w w' := by
  have a1 := arI_lo x (m := 655361) (by decide)
  have a2 := arI_hi x (m := 655361) (by decide)
  have b1 := arI_lo y (m := 655361) (by decide)
  have b2 := arI_hi y (m := 655361) (by decide)
  have c1 := arI_lo z (m := 655361) (by decide)
  have c2 := arI_hi z (m := 655361) (by decide)
  have U : Blk ((w.alloc (.cells #[.int .i64 x, .int .i64 y, .int .i64 z] 26)).alloc (.cells #[.int .i64 0, .int .i64 0, .int .i64 0] 26)) w.heap.size 26 #[.int .i64 x, .int .i64 y, .int .i64 z] := (Blk.new' rfl).alloc _
  have R0 : Blk ((w.alloc (.cells #[.int .i64 x, .int .i64 y, .int .i64 z] 26)).alloc (.cells #[.int .i64 0, .int .i64 0, .int .i64 0] 26)) (w.heap.size + 1) 26 #[.int .i64 0, .int .i64 0, .int .i64 0] := Blk.new' (by simp)
  obtain ⟨k0, k1, k2⟩ := U.re3
  unfold nrI
  go_enter Try.func10, Try.ntmps10
  go_wp2_with fail
  refine wp_region_last_below 13 (by kernel_rfl) rfl (by kernel_rfl) ?_
  simp only [List.take_succ_cons, List.take_zero, List.drop_succ_cons, List.drop_zero]
  repeat (go_big_quiet_step (exact Calls.regrown_of (around_b _ _ (by assumption) (by decide) _)))
  refine wpQuiet_nil ?_
  intro w' hw'
  obtain ⟨rg, rfl⟩ := hw'
  have R := R0.re rg.d rg.os
  obtain ⟨r0, r1, r2, s0, s1, s2⟩ := R.c3
  go_wp2_with fail
  have R2 := R.st3 (.int .i64 (arI x 655361 - 131072)) (.int .i64 (arI y 655361 - 131072)) (.int .i64 (arI z 655361 - 131072))
  obtain ⟨d0, d1, d2, -, -, -⟩ := R2.c3
  exact bodyPost_ret (v := .agg #[.int .i64 (arI x 655361 - 131072), .int .i64 (arI y 655361 - 131072), .int .i64 (arI z 655361 - 131072)]) (by simp [results, Try.results10, go_sem, d0, d1, d2]) rfl ⟨rfl, by (repeat' (first | (with_reducible exact Below.refl _ _) | (with_reducible assumption) | (with_reducible refine Below.alloc ?_ ?_ _) | (with_reducible refine Below.drew ?_) | (with_reducible refine Below.setCell ?_ ?_ _) | (with_reducible refine after ?_ (below_regrown _ _ _)) | (refine after ?_ (by with_reducible assumption)) | go_size))⟩
theorem vecs_ne_self (a b c : Int) (w : World) : (binOp .neq 26 (.agg #[.int .i64 a, .int .i64 b, .int .i64 c]) (.agg #[.int .i64 a, .int .i64 b, .int .i64 c])).run Try.prog w = .ok (.bool false) w := by
  rw [run_neq_struct]
  simp [go_sem]
theorem vecs_eq_self (a b c : Int) (w : World) : (binOp .eql 26 (.agg #[.int .i64 a, .int .i64 b, .int .i64 c]) (.agg #[.int .i64 a, .int .i64 b, .int .i64 c])).run Try.prog w = .ok (.bool true) w := by
  rw [run_eql_struct]
  simp [go_sem]
set_option maxHeartbeats 4000000 in
theorem toward_c (x y z x' y' z' a b c : Int) (ha : subI x' x = a) (hb : subI y' y = b) (hc : subI z' z = c) (qa : qI a = a) (qb : qI b = b) (qc : qI c = c) (w : World) :
    Calls Try.prog 27 #[.agg #[.int .i64 x, .int .i64 y, .int .i64 z], .agg #[.int .i64 x', .int .i64 y', .int .i64 z']] w fun r w' => r = .returned (.agg #[.int .i64 a, .int .i64 b, .int .i64 c]) ∧ Below w.heap.size w w' := by
  obtain ⟨W, hW⟩ : ∃ W, W = ((w.alloc (.cells #[.int .i64 x, .int .i64 y, .int .i64 z] 26)).alloc (.cells #[.int .i64 x', .int .i64 y', .int .i64 z'] 26)).alloc (.cells #[.int .i64 0, .int .i64 0, .int .i64 0] 26) := ⟨_, rfl⟩
  have H : Below w.heap.size w W := by rw [hW]; go_grown
  obtain ⟨N, hN⟩ : ∃ N, N = w.heap.size := ⟨_, rfl⟩
  have A : Blk W N 26 #[.int .i64 x, .int .i64 y, .int .i64 z] := Blk.eqw hW.symm (by rw [hN]; exact ((Blk.new' rfl).alloc _).alloc _)
  have B : Blk W (N + 1) 26 #[.int .i64 x', .int .i64 y', .int .i64 z'] := Blk.eqw hW.symm (by rw [hN]; exact (Blk.new' (by simp)).alloc _)
  have R : Blk W (N + 1 + 1) 26 #[.int .i64 0, .int .i64 0, .int .i64 0] := Blk.eqw hW.symm (by rw [hN]; exact Blk.new' (by simp))
  have HSU := Lib.hid (show ∀ w, Calls Try.prog 50 #[.agg #[.int .i64 x', .int .i64 y', .int .i64 z'], .agg #[.int .i64 x, .int .i64 y, .int .i64 z]] w fun r w' => r = .returned (.agg #[.int .i64 a, .int .i64 b, .int .i64 c]) ∧ Below w.heap.size w w' from fun w => by rw [← ha, ← hb, ← hc]; exact sub_c x' y' z' x y z w)
  have HCU := Lib.hid (show ∀ w, Calls Try.prog 40 #[.agg #[.int .i64 a, .int .i64 b, .int .i64 c]] w fun r w' => r = .returned (.agg #[.int .i64 a, .int .i64 b, .int .i64 c]) ∧ Below w.heap.size w w' from fun w => by have h := raycut_c a b c w; rw [qa, qb, qc] at h; exact h)
  clear ha hb hc qa qb qc
  have vn := vecs_ne_self a b c
  obtain ⟨a0, a1, a2, -, -, -⟩ := A.c3
  obtain ⟨b0, b1, b2, -, -, -⟩ := B.c3
  go_enter Try.func27, Try.ntmps27
  go_upto_region 1 with (fail)
  rw [← hW, ← hN]
  have HN := Lib.hid hN
  clear hW hN
  go_upto_region 2 with (go_at_call 50; refine (HSU.out _).mono ?_; rintro e_ w1 ⟨rfl, k1⟩)
  generalize hV : World.alloc w1 _ = w2
  have D : Blk w2 w1.heap.size 26 #[.int .i64 a, .int .i64 b, .int .i64 c] := Blk.eqw hV (Blk.new' rfl)
  have k2 : Below W.heap.size W w2 := by rw [← hV]; exact k1.alloc k1.size _
  replace R := R.on k2
  replace H := after H k2
  clear a0 a1 a2 b0 b1 b2 hV k1 k2 A B HSU
  generalize w1.heap.size = gd at D ⊢
  go_loopw [9] (fun _ wr => Blk wr gd 26 #[.int .i64 a, .int .i64 b, .int .i64 c] ∧ Blk wr (N + 1 + 1) 26 #[.int .i64 0, .int .i64 0, .int .i64 0] ∧ Hid (Below w.heap.size w wr)) (fun _ _ => 0)
  case atStart => exact ⟨D, R, H⟩
  case round =>
    clear D R H
    obtain ⟨D, R, H⟩ := hrel
    obtain ⟨d0, d1, d2⟩ := D.re3
    go_upto_region 2 with (fail)
    refine wp_sched [0, 0, 0, 0] (fun _ _ _ => True) (by kernel_rfl) (by kernel_rfl) (fun _ _ _ _ h _ => h) ?_
    repeat (first | (refine wpQs_s ?_) | (refine wpQs_q (fun K hK => ?_); go_simp; first | (refine hK _ ?_; clear hK K) | (apply Exists.intro; refine ⟨fun _ => ?_, hK _ ?_⟩; (exact HCU.out _); clear hK K)) | (refine wpQs_f (fun K hK => ?_); go_simp; refine hK _ ?_; clear hK K))
    refine wpQs_nil ?_
    repeat (first | (refine wpLs_skip ?_) | (refine wpLs_one ?lsA (fun v_ => ?_); case lsA => (intro w_ hw_ hp_; (fail))))
    refine wpLs_nilB ?_
    simp only [tails]
    intro w3 k3 _
    clear d0 d1 d2
    replace D := D.on k3
    replace R := R.on k3
    replace H := Lib.hid (after H.out k3)
    clear k3
    obtain ⟨d0, d1, d2, -, -, -⟩ := D.c3
    obtain ⟨r0, r1, r2, s0, s1, s2⟩ := R.c3
    go_wp2_with fail
    have R2 := R.st3 (.int .i64 a) (.int .i64 b) (.int .i64 c)
    obtain ⟨e0, e1, e2, -, -, -⟩ := R2.c3
    refine bodyPost_ret (v := .agg #[.int .i64 a, .int .i64 b, .int .i64 c]) (by simp [results, Try.results27, go_sem, e0, e1, e2]) rfl ⟨rfl, ?_⟩
    exact bel3_ H.out (by rw [HN.out]; omega) _ _ _
end Go.Proofs.Ytjlgcfdpfalbpaa
