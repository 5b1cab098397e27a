/- The cell by whose side a ray came. -/
import Derived.Test.YtjlgcfdpfalbpaaRayC
namespace Go.Proofs.Ytjlgcfdpfalbpaa
open Go.RowKit Go.Shelf
attribute [local go_sem] Oper.semAt_some

/-- The neighbour by a face, cut. -/
def nearC (x y z f : Int) : I3 := if f = 0 then (ccI (ccI x + -1), ccI (ccI y), ccI (ccI z)) else if f = 1 then (ccI (ccI x + 1), ccI (ccI y), ccI (ccI z)) else if f = 2 then (ccI (ccI x), ccI (ccI y + -1), ccI (ccI z)) else if f = 3 then (ccI (ccI x), ccI (ccI y + 1), ccI (ccI z)) else if f = 4 then (ccI (ccI x), ccI (ccI y), ccI (ccI z + -1)) else (ccI (ccI x), ccI (ccI y), ccI (ccI z + 1))
def besV (x y z f : Int) : Value := if 0 ≤ f ∧ f < 6 then .tuple #[.agg #[.int .i64 (nearC x y z f).1, .int .i64 (nearC x y z f).2.1, .int .i64 (nearC x y z f).2.2], .bool true] else .tuple #[.agg #[.int .i64 0, .int .i64 0, .int .i64 0], .bool false]
set_option maxRecDepth 100000 in
set_option maxHeartbeats 4000000 in
theorem beside_c (x y z b f t : Int) (w : World) : Calls Try.prog 14 #[.agg #[.int .i64 x, .int .i64 y, .int .i64 z, .int .i64 b, .int .i64 f, .int .i64 t]] w fun r w' => r = .returned (besV x y z f) ∧ Below w.heap.size w w' := by
  obtain ⟨W, hW⟩ : ∃ W, W = (w.alloc (.cells #[.int .i64 x, .int .i64 y, .int .i64 z, .int .i64 b, .int .i64 f, .int .i64 t] 31)).alloc (.cells #[.int .i64 0, .int .i64 0, .int .i64 0] 29) := ⟨_, rfl⟩
  have H : Below w.heap.size w W := by rw [hW]; go_grown
  obtain ⟨N, hN⟩ : ∃ N, N = w.heap.size := ⟨_, rfl⟩
  have A : Blk W N 31 #[.int .i64 x, .int .i64 y, .int .i64 z, .int .i64 b, .int .i64 f, .int .i64 t] := Blk.eqw hW.symm (by rw [hN]; exact (Blk.new' rfl).alloc _)
  have R : Blk W (N + 1) 29 #[.int .i64 0, .int .i64 0, .int .i64 0] := Blk.eqw hW.symm (by rw [hN]; exact Blk.new' (by simp))
  have hn := Lib.hid fun w => cnear_c x y z w
  obtain ⟨⟨a0, a1, a2, a3, a4, a5⟩, -, -, -, -, -, -⟩ := A.c6
  have hw : f < 0 ∨ 6 ≤ f ∨ f = 0 ∨ f = 1 ∨ f = 2 ∨ f = 3 ∨ f = 4 ∨ f = 5 := by omega
  rcases hw with h | h | h
  · have hv : besV x y z f = .tuple #[.agg #[.int .i64 0, .int .i64 0, .int .i64 0], .bool false] := if_neg (by omega)
    have HV := Lib.hid hv
    clear hv
    obtain ⟨r0, r1, r2, s0, s1, s2⟩ := R.c3
    go_enter Try.func14, Try.ntmps14
    go_upto_region 1 with (fail)
    rw [← hW, ← hN]
    have HN := Lib.hid hN
    clear hW hN
    go_wp2_with fail
    have R2 := R.st3 (.int .i64 0) (.int .i64 0) (.int .i64 0)
    obtain ⟨d0, d1, d2, -, -, -⟩ := R2.c3
    refine bodyPost_ret (v := .tuple #[.agg #[.int .i64 0, .int .i64 0, .int .i64 0], .bool false]) (by simp [results, Try.results14, go_sem, d0, d1, d2]) rfl ⟨by rw [HV.out], ?_⟩
    rw [HN.out]
    exact ((H.setCell (p := ⟨w.heap.size + 1, 0, none⟩) (by dsimp only; omega) _).setCell (p := ⟨w.heap.size + 1, 1, none⟩) (by dsimp only; omega) _).setCell (p := ⟨w.heap.size + 1, 2, none⟩) (by dsimp only; omega) _
  · have hv : besV x y z f = .tuple #[.agg #[.int .i64 0, .int .i64 0, .int .i64 0], .bool false] := if_neg (by omega)
    have HV := Lib.hid hv
    have h0 : ¬ f < 0 := by omega
    have hd : decide (f < 0) = false := by simpa using h0
    clear hv
    obtain ⟨r0, r1, r2, s0, s1, s2⟩ := R.c3
    go_enter Try.func14, Try.ntmps14
    go_upto_region 1 with (fail)
    rw [← hW, ← hN]
    have HN := Lib.hid hN
    clear hW hN
    go_wp2_with fail
    have R2 := R.st3 (.int .i64 0) (.int .i64 0) (.int .i64 0)
    obtain ⟨d0, d1, d2, -, -, -⟩ := R2.c3
    refine bodyPost_ret (v := .tuple #[.agg #[.int .i64 0, .int .i64 0, .int .i64 0], .bool false]) (by simp [results, Try.results14, go_sem, d0, d1, d2]) rfl ⟨by rw [HV.out], ?_⟩
    rw [HN.out]
    exact ((H.setCell (p := ⟨w.heap.size + 1, 0, none⟩) (by dsimp only; omega) _).setCell (p := ⟨w.heap.size + 1, 1, none⟩) (by dsimp only; omega) _).setCell (p := ⟨w.heap.size + 1, 2, none⟩) (by dsimp only; omega) _
  · rcases h with rfl | rfl | rfl | rfl | rfl | rfl
    · have hv : besV x y z 0 = .tuple #[.agg #[.int .i64 (ccI (ccI x + -1)), .int .i64 (ccI (ccI y)), .int .i64 (ccI (ccI z))], .bool true] := rfl
      have HV := Lib.hid hv
      clear hv
      have ix := fun w => (arr6_at (.int .i64 (ccI (ccI x + -1))) (.int .i64 (ccI (ccI y))) (.int .i64 (ccI (ccI z))) (.int .i64 (ccI (ccI x + 1))) (.int .i64 (ccI (ccI y))) (.int .i64 (ccI (ccI z))) (.int .i64 (ccI (ccI x))) (.int .i64 (ccI (ccI y + -1))) (.int .i64 (ccI (ccI z))) (.int .i64 (ccI (ccI x))) (.int .i64 (ccI (ccI y + 1))) (.int .i64 (ccI (ccI z))) (.int .i64 (ccI (ccI x))) (.int .i64 (ccI (ccI y))) (.int .i64 (ccI (ccI z + -1))) (.int .i64 (ccI (ccI x))) (.int .i64 (ccI (ccI y))) (.int .i64 (ccI (ccI z + 1))) w).1
      obtain ⟨p0, p1, p2, p3, p4, p5⟩ := A.re6
      go_enter Try.func14, Try.ntmps14
      go_upto_region 1 with (fail)
      rw [← hW, ← hN]
      have HN := Lib.hid hN
      clear hW hN
      go_upto_region 3 with (fail)
      refine wp_sched [0, 0, 0, 0, 0, 0, 3, 3] (fun _ _ _ => True) (by kernel_rfl) (by kernel_rfl) (fun _ _ _ _ h _ => h) ?_
      repeat (first | (refine wpQs_s ?_) | (refine wpQs_q (fun K hK => ?_); go_simp; first | (refine hK _ ?_; clear hK K) | (apply Exists.intro; refine ⟨fun _ => ?_, hK _ ?_⟩; (exact hn.out _); clear hK K)) | (refine wpQs_f (fun K hK => ?_); go_simp; refine hK _ ?_; clear hK K))
      refine wpQs_nil ?_
      repeat (first | (refine wpLs_skip ?_) | (refine wpLs_one ?lsA (fun v_ => ?_); case lsA => (intro w_ hw_ hp_; (fail))))
      refine wpLs_nilB ?_
      simp only [tails]
      intro W2 h2 _
      clear p0 p1 p2 p3 p4 p5
      replace R := R.on h2
      replace H := after H h2
      obtain ⟨r0, r1, r2, s0, s1, s2⟩ := R.c3
      go_wp2_with fail
      have R2 := R.st3 (.int .i64 (ccI (ccI x + -1))) (.int .i64 (ccI (ccI y))) (.int .i64 (ccI (ccI z)))
      obtain ⟨d0, d1, d2, -, -, -⟩ := R2.c3
      refine bodyPost_ret (v := .tuple #[.agg #[.int .i64 (ccI (ccI x + -1)), .int .i64 (ccI (ccI y)), .int .i64 (ccI (ccI z))], .bool true]) (by simp [results, Try.results14, go_sem, d0, d1, d2]) rfl ⟨by rw [HV.out], ?_⟩
      rw [HN.out]
      exact ((H.setCell (p := ⟨w.heap.size + 1, 0, none⟩) (by dsimp only; omega) _).setCell (p := ⟨w.heap.size + 1, 1, none⟩) (by dsimp only; omega) _).setCell (p := ⟨w.heap.size + 1, 2, none⟩) (by dsimp only; omega) _
    · have hv : besV x y z 1 = .tuple #[.agg #[.int .i64 (ccI (ccI x + 1)), .int .i64 (ccI (ccI y)), .int .i64 (ccI (ccI z))], .bool true] := rfl
      have HV := Lib.hid hv
      clear hv
      have ix := fun w => (arr6_at (.int .i64 (ccI (ccI x + -1))) (.int .i64 (ccI (ccI y))) (.int .i64 (ccI (ccI z))) (.int .i64 (ccI (ccI x + 1))) (.int .i64 (ccI (ccI y))) (.int .i64 (ccI (ccI z))) (.int .i64 (ccI (ccI x))) (.int .i64 (ccI (ccI y + -1))) (.int .i64 (ccI (ccI z))) (.int .i64 (ccI (ccI x))) (.int .i64 (ccI (ccI y + 1))) (.int .i64 (ccI (ccI z))) (.int .i64 (ccI (ccI x))) (.int .i64 (ccI (ccI y))) (.int .i64 (ccI (ccI z + -1))) (.int .i64 (ccI (ccI x))) (.int .i64 (ccI (ccI y))) (.int .i64 (ccI (ccI z + 1))) w).2.1
      obtain ⟨p0, p1, p2, p3, p4, p5⟩ := A.re6
      go_enter Try.func14, Try.ntmps14
      go_upto_region 1 with (fail)
      rw [← hW, ← hN]
      have HN := Lib.hid hN
      clear hW hN
      go_upto_region 3 with (fail)
      refine wp_sched [0, 0, 0, 0, 0, 0, 3, 3] (fun _ _ _ => True) (by kernel_rfl) (by kernel_rfl) (fun _ _ _ _ h _ => h) ?_
      repeat (first | (refine wpQs_s ?_) | (refine wpQs_q (fun K hK => ?_); go_simp; first | (refine hK _ ?_; clear hK K) | (apply Exists.intro; refine ⟨fun _ => ?_, hK _ ?_⟩; (exact hn.out _); clear hK K)) | (refine wpQs_f (fun K hK => ?_); go_simp; refine hK _ ?_; clear hK K))
      refine wpQs_nil ?_
      repeat (first | (refine wpLs_skip ?_) | (refine wpLs_one ?lsA (fun v_ => ?_); case lsA => (intro w_ hw_ hp_; (fail))))
      refine wpLs_nilB ?_
      simp only [tails]
      intro W2 h2 _
      clear p0 p1 p2 p3 p4 p5
      replace R := R.on h2
      replace H := after H h2
      obtain ⟨r0, r1, r2, s0, s1, s2⟩ := R.c3
      go_wp2_with fail
      have R2 := R.st3 (.int .i64 (ccI (ccI x + 1))) (.int .i64 (ccI (ccI y))) (.int .i64 (ccI (ccI z)))
      obtain ⟨d0, d1, d2, -, -, -⟩ := R2.c3
      refine bodyPost_ret (v := .tuple #[.agg #[.int .i64 (ccI (ccI x + 1)), .int .i64 (ccI (ccI y)), .int .i64 (ccI (ccI z))], .bool true]) (by simp [results, Try.results14, go_sem, d0, d1, d2]) rfl ⟨by rw [HV.out], ?_⟩
      rw [HN.out]
      exact ((H.setCell (p := ⟨w.heap.size + 1, 0, none⟩) (by dsimp only; omega) _).setCell (p := ⟨w.heap.size + 1, 1, none⟩) (by dsimp only; omega) _).setCell (p := ⟨w.heap.size + 1, 2, none⟩) (by dsimp only; omega) _
    · have hv : besV x y z 2 = .tuple #[.agg #[.int .i64 (ccI (ccI x)), .int .i64 (ccI (ccI y + -1)), .int .i64 (ccI (ccI z))], .bool true] := rfl
      have HV := Lib.hid hv
      clear hv
      have ix := fun w => (arr6_at (.int .i64 (ccI (ccI x + -1))) (.int .i64 (ccI (ccI y))) (.int .i64 (ccI (ccI z))) (.int .i64 (ccI (ccI x + 1))) (.int .i64 (ccI (ccI y))) (.int .i64 (ccI (ccI z))) (.int .i64 (ccI (ccI x))) (.int .i64 (ccI (ccI y + -1))) (.int .i64 (ccI (ccI z))) (.int .i64 (ccI (ccI x))) (.int .i64 (ccI (ccI y + 1))) (.int .i64 (ccI (ccI z))) (.int .i64 (ccI (ccI x))) (.int .i64 (ccI (ccI y))) (.int .i64 (ccI (ccI z + -1))) (.int .i64 (ccI (ccI x))) (.int .i64 (ccI (ccI y))) (.int .i64 (ccI (ccI z + 1))) w).2.2.1
      obtain ⟨p0, p1, p2, p3, p4, p5⟩ := A.re6
      go_enter Try.func14, Try.ntmps14
      go_upto_region 1 with (fail)
      rw [← hW, ← hN]
      have HN := Lib.hid hN
      clear hW hN
      go_upto_region 3 with (fail)
      refine wp_sched [0, 0, 0, 0, 0, 0, 3, 3] (fun _ _ _ => True) (by kernel_rfl) (by kernel_rfl) (fun _ _ _ _ h _ => h) ?_
      repeat (first | (refine wpQs_s ?_) | (refine wpQs_q (fun K hK => ?_); go_simp; first | (refine hK _ ?_; clear hK K) | (apply Exists.intro; refine ⟨fun _ => ?_, hK _ ?_⟩; (exact hn.out _); clear hK K)) | (refine wpQs_f (fun K hK => ?_); go_simp; refine hK _ ?_; clear hK K))
      refine wpQs_nil ?_
      repeat (first | (refine wpLs_skip ?_) | (refine wpLs_one ?lsA (fun v_ => ?_); case lsA => (intro w_ hw_ hp_; (fail))))
      refine wpLs_nilB ?_
      simp only [tails]
      intro W2 h2 _
      clear p0 p1 p2 p3 p4 p5
      replace R := R.on h2
      replace H := after H h2
      obtain ⟨r0, r1, r2, s0, s1, s2⟩ := R.c3
      go_wp2_with fail
      have R2 := R.st3 (.int .i64 (ccI (ccI x))) (.int .i64 (ccI (ccI y + -1))) (.int .i64 (ccI (ccI z)))
      obtain ⟨d0, d1, d2, -, -, -⟩ := R2.c3
      refine bodyPost_ret (v := .tuple #[.agg #[.int .i64 (ccI (ccI x)), .int .i64 (ccI (ccI y + -1)), .int .i64 (ccI (ccI z))], .bool true]) (by simp [results, Try.results14, go_sem, d0, d1, d2]) rfl ⟨by rw [HV.out], ?_⟩
      rw [HN.out]
      exact ((H.setCell (p := ⟨w.heap.size + 1, 0, none⟩) (by dsimp only; omega) _).setCell (p := ⟨w.heap.size + 1, 1, none⟩) (by dsimp only; omega) _).setCell (p := ⟨w.heap.size + 1, 2, none⟩) (by dsimp only; omega) _
    · have hv : besV x y z 3 = .tuple #[.agg #[.int .i64 (ccI (ccI x)), .int .i64 (ccI (ccI y + 1)), .int .i64 (ccI (ccI z))], .bool true] := rfl
      have HV := Lib.hid hv
      clear hv
      have ix := fun w => (arr6_at (.int .i64 (ccI (ccI x + -1))) (.int .i64 (ccI (ccI y))) (.int .i64 (ccI (ccI z))) (.int .i64 (ccI (ccI x + 1))) (.int .i64 (ccI (ccI y))) (.int .i64 (ccI (ccI z))) (.int .i64 (ccI (ccI x))) (.int .i64 (ccI (ccI y + -1))) (.int .i64 (ccI (ccI z))) (.int .i64 (ccI (ccI x))) (.int .i64 (ccI (ccI y + 1))) (.int .i64 (ccI (ccI z))) (.int .i64 (ccI (ccI x))) (.int .i64 (ccI (ccI y))) (.int .i64 (ccI (ccI z + -1))) (.int .i64 (ccI (ccI x))) (.int .i64 (ccI (ccI y))) (.int .i64 (ccI (ccI z + 1))) w).2.2.2.1
      obtain ⟨p0, p1, p2, p3, p4, p5⟩ := A.re6
      go_enter Try.func14, Try.ntmps14
      go_upto_region 1 with (fail)
      rw [← hW, ← hN]
      have HN := Lib.hid hN
      clear hW hN
      go_upto_region 3 with (fail)
      refine wp_sched [0, 0, 0, 0, 0, 0, 3, 3] (fun _ _ _ => True) (by kernel_rfl) (by kernel_rfl) (fun _ _ _ _ h _ => h) ?_
      repeat (first | (refine wpQs_s ?_) | (refine wpQs_q (fun K hK => ?_); go_simp; first | (refine hK _ ?_; clear hK K) | (apply Exists.intro; refine ⟨fun _ => ?_, hK _ ?_⟩; (exact hn.out _); clear hK K)) | (refine wpQs_f (fun K hK => ?_); go_simp; refine hK _ ?_; clear hK K))
      refine wpQs_nil ?_
      repeat (first | (refine wpLs_skip ?_) | (refine wpLs_one ?lsA (fun v_ => ?_); case lsA => (intro w_ hw_ hp_; (fail))))
      refine wpLs_nilB ?_
      simp only [tails]
      intro W2 h2 _
      clear p0 p1 p2 p3 p4 p5
      replace R := R.on h2
      replace H := after H h2
      obtain ⟨r0, r1, r2, s0, s1, s2⟩ := R.c3
      go_wp2_with fail
      have R2 := R.st3 (.int .i64 (ccI (ccI x))) (.int .i64 (ccI (ccI y + 1))) (.int .i64 (ccI (ccI z)))
      obtain ⟨d0, d1, d2, -, -, -⟩ := R2.c3
      refine bodyPost_ret (v := .tuple #[.agg #[.int .i64 (ccI (ccI x)), .int .i64 (ccI (ccI y + 1)), .int .i64 (ccI (ccI z))], .bool true]) (by simp [results, Try.results14, go_sem, d0, d1, d2]) rfl ⟨by rw [HV.out], ?_⟩
      rw [HN.out]
      exact ((H.setCell (p := ⟨w.heap.size + 1, 0, none⟩) (by dsimp only; omega) _).setCell (p := ⟨w.heap.size + 1, 1, none⟩) (by dsimp only; omega) _).setCell (p := ⟨w.heap.size + 1, 2, none⟩) (by dsimp only; omega) _
    · have hv : besV x y z 4 = .tuple #[.agg #[.int .i64 (ccI (ccI x)), .int .i64 (ccI (ccI y)), .int .i64 (ccI (ccI z + -1))], .bool true] := rfl
      have HV := Lib.hid hv
      clear hv
      have ix := fun w => (arr6_at (.int .i64 (ccI (ccI x + -1))) (.int .i64 (ccI (ccI y))) (.int .i64 (ccI (ccI z))) (.int .i64 (ccI (ccI x + 1))) (.int .i64 (ccI (ccI y))) (.int .i64 (ccI (ccI z))) (.int .i64 (ccI (ccI x))) (.int .i64 (ccI (ccI y + -1))) (.int .i64 (ccI (ccI z))) (.int .i64 (ccI (ccI x))) (.int .i64 (ccI (ccI y + 1))) (.int .i64 (ccI (ccI z))) (.int .i64 (ccI (ccI x))) (.int .i64 (ccI (ccI y))) (.int .i64 (ccI (ccI z + -1))) (.int .i64 (ccI (ccI x))) (.int .i64 (ccI (ccI y))) (.int .i64 (ccI (ccI z + 1))) w).2.2.2.2.1
      obtain ⟨p0, p1, p2, p3, p4, p5⟩ := A.re6
      go_enter Try.func14, Try.ntmps14
      go_upto_region 1 with (fail)
      rw [← hW, ← hN]
      have HN := Lib.hid hN
      clear hW hN
      go_upto_region 3 with (fail)
      refine wp_sched [0, 0, 0, 0, 0, 0, 3, 3] (fun _ _ _ => True) (by kernel_rfl) (by kernel_rfl) (fun _ _ _ _ h _ => h) ?_
      repeat (first | (refine wpQs_s ?_) | (refine wpQs_q (fun K hK => ?_); go_simp; first | (refine hK _ ?_; clear hK K) | (apply Exists.intro; refine ⟨fun _ => ?_, hK _ ?_⟩; (exact hn.out _); clear hK K)) | (refine wpQs_f (fun K hK => ?_); go_simp; refine hK _ ?_; clear hK K))
      refine wpQs_nil ?_
      repeat (first | (refine wpLs_skip ?_) | (refine wpLs_one ?lsA (fun v_ => ?_); case lsA => (intro w_ hw_ hp_; (fail))))
      refine wpLs_nilB ?_
      simp only [tails]
      intro W2 h2 _
      clear p0 p1 p2 p3 p4 p5
      replace R := R.on h2
      replace H := after H h2
      obtain ⟨r0, r1, r2, s0, s1, s2⟩ := R.c3
      go_wp2_with fail
      have R2 := R.st3 (.int .i64 (ccI (ccI x))) (.int .i64 (ccI (ccI y))) (.int .i64 (ccI (ccI z + -1)))
      obtain ⟨d0, d1, d2, -, -, -⟩ := R2.c3
      refine bodyPost_ret (v := .tuple #[.agg #[.int .i64 (ccI (ccI x)), .int .i64 (ccI (ccI y)), .int .i64 (ccI (ccI z + -1))], .bool true]) (by simp [results, Try.results14, go_sem, d0, d1, d2]) rfl ⟨by rw [HV.out], ?_⟩
      rw [HN.out]
      exact ((H.setCell (p := ⟨w.heap.size + 1, 0, none⟩) (by dsimp only; omega) _).setCell (p := ⟨w.heap.size + 1, 1, none⟩) (by dsimp only; omega) _).setCell (p := ⟨w.heap.size + 1, 2, none⟩) (by dsimp only; omega) _
    · have hv : besV x y z 5 = .tuple #[.agg #[.int .i64 (ccI (ccI x)), .int .i64 (ccI (ccI y)), .int .i64 (ccI (ccI z + 1))], .bool true] := rfl
      have HV := Lib.hid hv
      clear hv
      have ix := fun w => (arr6_at (.int .i64 (ccI (ccI x + -1))) (.int .i64 (ccI (ccI y))) (.int .i64 (ccI (ccI z))) (.int .i64 (ccI (ccI x + 1))) (.int .i64 (ccI (ccI y))) (.int .i64 (ccI (ccI z))) (.int .i64 (ccI (ccI x))) (.int .i64 (ccI (ccI y + -1))) (.int .i64 (ccI (ccI z))) (.int .i64 (ccI (ccI x))) (.int .i64 (ccI (ccI y + 1))) (.int .i64 (ccI (ccI z))) (.int .i64 (ccI (ccI x))) (.int .i64 (ccI (ccI y))) (.int .i64 (ccI (ccI z + -1))) (.int .i64 (ccI (ccI x))) (.int .i64 (ccI (ccI y))) (.int .i64 (ccI (ccI z + 1))) w).2.2.2.2.2
      obtain ⟨p0, p1, p2, p3, p4, p5⟩ := A.re6
      go_enter Try.func14, Try.ntmps14
      go_upto_region 1 with (fail)
      rw [← hW, ← hN]
      have HN := Lib.hid hN
      clear hW hN
      go_upto_region 3 with (fail)
      refine wp_sched [0, 0, 0, 0, 0, 0, 3, 3] (fun _ _ _ => True) (by kernel_rfl) (by kernel_rfl) (fun _ _ _ _ h _ => h) ?_
      repeat (first | (refine wpQs_s ?_) | (refine wpQs_q (fun K hK => ?_); go_simp; first | (refine hK _ ?_; clear hK K) | (apply Exists.intro; refine ⟨fun _ => ?_, hK _ ?_⟩; (exact hn.out _); clear hK K)) | (refine wpQs_f (fun K hK => ?_); go_simp; refine hK _ ?_; clear hK K))
      refine wpQs_nil ?_
      repeat (first | (refine wpLs_skip ?_) | (refine wpLs_one ?lsA (fun v_ => ?_); case lsA => (intro w_ hw_ hp_; (fail))))
      refine wpLs_nilB ?_
      simp only [tails]
      intro W2 h2 _
      clear p0 p1 p2 p3 p4 p5
      replace R := R.on h2
      replace H := after H h2
      obtain ⟨r0, r1, r2, s0, s1, s2⟩ := R.c3
      go_wp2_with fail
      have R2 := R.st3 (.int .i64 (ccI (ccI x))) (.int .i64 (ccI (ccI y))) (.int .i64 (ccI (ccI z + 1)))
      obtain ⟨d0, d1, d2, -, -, -⟩ := R2.c3
      refine bodyPost_ret (v := .tuple #[.agg #[.int .i64 (ccI (ccI x)), .int .i64 (ccI (ccI y)), .int .i64 (ccI (ccI z + 1))], .bool true]) (by simp [results, Try.results14, go_sem, d0, d1, d2]) rfl ⟨by rw [HV.out], ?_⟩
      rw [HN.out]
      exact ((H.setCell (p := ⟨w.heap.size + 1, 0, none⟩) (by dsimp only; omega) _).setCell (p := ⟨w.heap.size + 1, 1, none⟩) (by dsimp only; omega) _).setCell (p := ⟨w.heap.size + 1, 2, none⟩) (by dsimp only; omega) _
end Go.Proofs.Ytjlgcfdpfalbpaa
