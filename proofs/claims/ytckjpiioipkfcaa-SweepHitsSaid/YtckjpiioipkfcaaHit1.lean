/- The hits: a speed stopped, any. -/
import Derived.Test.YtckjpiioipkfcaaMv1
namespace Go.Proofs.Ytckjpiioipkfcaa
open Go.RowKit Go.Shelf
attribute [local go_sem] Oper.semAt_some

def zb (b : Bool) (n : Int) : Int := if b then 0 else n
theorem arrb_at (a b c : Bool) (w : World) : (Instr.index 46 (.agg #[.bool a, .bool b, .bool c]) (.int .i64 0)).run Try.prog w = .ok (.bool a) w ∧ (Instr.index 46 (.agg #[.bool a, .bool b, .bool c]) (.int .i64 1)).run Try.prog w = .ok (.bool b) w ∧ (Instr.index 46 (.agg #[.bool a, .bool b, .bool c]) (.int .i64 2)).run Try.prog w = .ok (.bool c) w := by
  refine ⟨?_, ?_, ?_⟩ <;> simp [Instr.index, asIntOf, go_sem]
theorem with_v (x y z a m p q r : Int) (h1 : wiI x a 0 m = p) (h2 : wiI y a 1 m = q) (h3 : wiI z a 2 m = r) (w : World) : Calls Try.prog 38 #[.agg #[.int .i64 x, .int .i64 y, .int .i64 z], .int .i64 a, .int .i64 m] w fun e w' => e = .returned (.agg #[.int .i64 p, .int .i64 q, .int .i64 r]) ∧ Below w.heap.size w w' := by
  subst h1 h2 h3; exact with_c x y z a m w
set_option maxHeartbeats 4000000 in
theorem stop_c (h0 h1 h2 : Bool) (x y z : Int) (w : World) : Calls Try.prog 21 #[.agg #[.bool h0, .bool h1, .bool h2], .agg #[.int .i64 x, .int .i64 y, .int .i64 z]] w fun r w' => r = .returned (.agg #[.int .i64 (zb h0 x), .int .i64 (zb h1 y), .int .i64 (zb h2 z)]) ∧ Below w.heap.size w w' := by
  obtain ⟨W, hW⟩ : ∃ W, W = ((w.alloc (.cells #[.bool h0, .bool h1, .bool h2] 46)).alloc (.cells #[.int .i64 x, .int .i64 y, .int .i64 z] 26)).alloc (.cells #[.int .i64 0, .int .i64 0, .int .i64 0] 26) := ⟨_, rfl⟩
  have H : Below w.heap.size w W := by rw [hW]; go_grown
  obtain ⟨N, hN⟩ : ∃ N, N = w.heap.size := ⟨_, rfl⟩
  have A : Blk W N 46 _ := Blk.eqw hW.symm (by rw [hN]; exact ((Blk.new' rfl).alloc _).alloc _)
  have S : Blk W (N + 1) 26 _ := Blk.eqw hW.symm (by rw [hN]; exact (Blk.new' (by simp)).alloc _)
  have R : Blk W (N + 1 + 1) 26 _ := Blk.eqw hW.symm (by rw [hN]; exact Blk.new' (by simp))
  have ix0 := fun w => (arrb_at h0 h1 h2 w).1
  have ix1 := fun w => (arrb_at h0 h1 h2 w).2.1
  have ix2 := fun w => (arrb_at h0 h1 h2 w).2.2
  go_enter Try.func21, Try.ntmps21
  go_upto_region 1 with (fail)
  rw [← hW, ← hN]
  have HN := Lib.hid hN
  clear hW hN
  obtain ⟨a0, a1, a2, -, -, -⟩ := A.c3
  go_upto_region 2 with (fail)
  go_loopw [5, 6, 8] (fun _ _ kv wr => ((kv = .int .i64 0 ∧ Blk wr (N + 1) 26 #[.int .i64 x, .int .i64 y, .int .i64 z]) ∨ (kv = .int .i64 1 ∧ Blk wr (N + 1) 26 #[.int .i64 (zb h0 x), .int .i64 y, .int .i64 z]) ∨ (kv = .int .i64 2 ∧ Blk wr (N + 1) 26 #[.int .i64 (zb h0 x), .int .i64 (zb h1 y), .int .i64 z]) ∨ (kv = .int .i64 3 ∧ Blk wr (N + 1) 26 #[.int .i64 (zb h0 x), .int .i64 (zb h1 y), .int .i64 (zb h2 z)])) ∧ Blk wr (N + 1 + 1) 26 #[.int .i64 0, .int .i64 0, .int .i64 0] ∧ Hid (Below w.heap.size w wr)) (fun _ _ v _ => 3 - (intOf v).toNat)
  case atStart => exact ⟨.inl ⟨rfl, S⟩, R, H⟩
  case round =>
    clear A S R H a0 a1 a2
    obtain ⟨hd, R, H⟩ := hrel
    have hNw : w.heap.size ≤ N + 1 := by rw [← HN.out]; exact Nat.le_succ _
    rcases hd with ⟨rfl, S⟩ | ⟨rfl, S⟩ | ⟨rfl, S⟩ | ⟨rfl, S⟩
    · cases h0
      · go_wp2_with fail
        go_roundw
        case rel => exact ⟨.inr (.inl ⟨rfl, S⟩), R, H⟩
        case measure => simp [intOf]
      · obtain ⟨s0, s1, s2, t0, t1, t2⟩ := S.c3
        go_wp2_with (go_at_call 38; refine (with_v _ _ _ _ _ _ _ _ rfl rfl rfl _).mono ?_; rintro e_ w5 ⟨rfl, h5⟩; replace S := S.on h5; obtain ⟨s0, s1, s2, t0, t1, t2⟩ := S.c3)
        go_roundw
        case rel => exact ⟨.inr (.inl ⟨rfl, S.st3 _ _ _⟩), (((R.on h5).far (p := ⟨N + 1, 0, none⟩) (by dsimp only; omega) _).far (p := ⟨N + 1, 1, none⟩) (by dsimp only; omega) _).far (p := ⟨N + 1, 2, none⟩) (by dsimp only; omega) _, (((after H.out h5).setCell (p := ⟨N + 1, 0, none⟩) hNw _).setCell (p := ⟨N + 1, 1, none⟩) hNw _).setCell (p := ⟨N + 1, 2, none⟩) hNw _⟩
        case measure => simp [intOf]
    · cases h1
      · go_wp2_with fail
        go_roundw
        case rel => exact ⟨.inr (.inr (.inl ⟨rfl, S⟩)), R, H⟩
        case measure => simp [intOf]
      · obtain ⟨s0, s1, s2, t0, t1, t2⟩ := S.c3
        go_wp2_with (go_at_call 38; refine (with_v _ _ _ _ _ _ _ _ rfl rfl rfl _).mono ?_; rintro e_ w5 ⟨rfl, h5⟩; replace S := S.on h5; obtain ⟨s0, s1, s2, t0, t1, t2⟩ := S.c3)
        go_roundw
        case rel => exact ⟨.inr (.inr (.inl ⟨rfl, S.st3 _ _ _⟩)), (((R.on h5).far (p := ⟨N + 1, 0, none⟩) (by dsimp only; omega) _).far (p := ⟨N + 1, 1, none⟩) (by dsimp only; omega) _).far (p := ⟨N + 1, 2, none⟩) (by dsimp only; omega) _, (((after H.out h5).setCell (p := ⟨N + 1, 0, none⟩) hNw _).setCell (p := ⟨N + 1, 1, none⟩) hNw _).setCell (p := ⟨N + 1, 2, none⟩) hNw _⟩
        case measure => simp [intOf]
    · cases h2
      · go_wp2_with fail
        go_roundw
        case rel => exact ⟨.inr (.inr (.inr ⟨rfl, S⟩)), R, H⟩
        case measure => simp [intOf]
      · obtain ⟨s0, s1, s2, t0, t1, t2⟩ := S.c3
        go_wp2_with (go_at_call 38; refine (with_v _ _ _ _ _ _ _ _ rfl rfl rfl _).mono ?_; rintro e_ w5 ⟨rfl, h5⟩; replace S := S.on h5; obtain ⟨s0, s1, s2, t0, t1, t2⟩ := S.c3)
        go_roundw
        case rel => exact ⟨.inr (.inr (.inr ⟨rfl, S.st3 _ _ _⟩)), (((R.on h5).far (p := ⟨N + 1, 0, none⟩) (by dsimp only; omega) _).far (p := ⟨N + 1, 1, none⟩) (by dsimp only; omega) _).far (p := ⟨N + 1, 2, none⟩) (by dsimp only; omega) _, (((after H.out h5).setCell (p := ⟨N + 1, 0, none⟩) hNw _).setCell (p := ⟨N + 1, 1, none⟩) hNw _).setCell (p := ⟨N + 1, 2, none⟩) hNw _⟩
        case measure => simp [intOf]
    · obtain ⟨s0, s1, s2, -, -, -⟩ := S.c3
      obtain ⟨r0, r1, r2, f0, f1, f2⟩ := R.c3
      replace H := H.out
      have hw2 : w.heap.size ≤ N + 1 + 1 := by omega
      go_wp2_with fail
      have R2 := R.st3 (.int .i64 (zb h0 x)) (.int .i64 (zb h1 y)) (.int .i64 (zb h2 z))
      obtain ⟨d0, d1, d2, -, -, -⟩ := R2.c3
      exact bodyPost_ret (v := .agg #[.int .i64 (zb h0 x), .int .i64 (zb h1 y), .int .i64 (zb h2 z)]) (by simp [results, Try.results21, go_sem, d0, d1, d2]) rfl ⟨rfl, by (repeat' (first | (with_reducible exact Below.refl _ _) | (with_reducible assumption) | (with_reducible refine Below.alloc ?_ ?_ _) | (with_reducible refine Below.drew ?_) | (with_reducible refine Below.setCell ?_ ?_ _) | (with_reducible refine after ?_ (below_regrown _ _ _)) | (refine after ?_ (by with_reducible assumption)) | go_size))⟩
end Go.Proofs.Ytckjpiioipkfcaa
