/- Texts that build one behind the other, laid together: Near Span4 Fix3 Span2 Span5 Cells Each Find Probe1 Shut. -/
import Derived.Test.YtckjpiioipkfcaaLSweepFreeZ1
import Derived.Test.YtckjpiioipkfcaaLSweepFreeZ2
import Derived.Deep.Cut
import Derived.Shelf.Abstract
import Derived.Shelf.RegionOpen
import Derived.OwnWalkIn
import Derived.TacticsInMore
import Derived.LoopNIn
import Derived.LoopIn
import Derived.Test.YtckjpiioipkfcaaChecked
import Derived.Test.YtckjpiioipkfcaaRows
import Derived.ProofKit
import Derived.OpenShut
/- A box near a small world, made of any. -/
namespace Go.Proofs.Ytckjpiioipkfcaa
open Go.RowKit

/-- The corners, of units of u. -/
def nearLo (u n : Int) : Int := (arI n 655361 - 131072) / u * u
def nearHi (u n m : Int) : Int := nearLo u n + arI m 196609 / u * u
def unitI (halves : Bool) : Int := if halves then 32768 else 1
theorem near_bd (halves : Bool) (n m : Int) : -131072 ≤ nearLo (unitI halves) n ∧ nearLo (unitI halves) n ≤ nearHi (unitI halves) n m ∧ nearHi (unitI halves) n m ≤ nearLo (unitI halves) n + 196608 ∧ nearLo (unitI halves) n ≤ 524288 := by
  have a1 := arI_lo n (m := 655361) (by decide)
  have a2 := arI_hi n (m := 655361) (by decide)
  have b1 := arI_lo m (m := 196609) (by decide)
  have b2 := arI_hi m (m := 196609) (by decide)
  unfold nearHi nearLo unitI
  cases halves <;> simp <;> omega
def nk (k j : Nat) (v : Int) : Int := if j < k then v else 0
theorem nk_wi {k j : Nat} {v n : Int} (hn : k = j → n = v) (h1 : -140737488355328 ≤ v) (h2 : v ≤ 140737488355328) : wiI (nk k j v) k j n = nk (k + 1) j v := by
  unfold wiI nk
  by_cases h : k = j
  · subst h; rw [if_pos rfl, if_pos (by omega), hn rfl]; exact cutI_id h1 h2
  · rw [if_neg (by omega)]
    by_cases h3 : j < k
    · rw [if_pos h3, if_pos (by omega)]
    · rw [if_neg h3, if_neg (by omega)]
theorem nk_wi0 {k : Nat} {v n : Int} (hn : k = 0 → n = v) (h1 : -131072 ≤ v) (h2 : v ≤ 720896) : wiI (nk k 0 v) k 0 n = nk (k + 1) 0 v := nk_wi (j := 0) hn (by omega) (by omega)
theorem nk_wi1 {k : Nat} {v n : Int} (hn : k = 1 → n = v) (h1 : -131072 ≤ v) (h2 : v ≤ 720896) : wiI (nk k 1 v) k 1 n = nk (k + 1) 1 v := nk_wi (j := 1) hn (by omega) (by omega)
theorem nk_wi2 {k : Nat} {v n : Int} (hn : k = 2 → n = v) (h1 : -131072 ≤ v) (h2 : v ≤ 720896) : wiI (nk k 2 v) k 2 n = nk (k + 1) 2 v := nk_wi (j := 2) hn (by omega) (by omega)
theorem ne_1' (N : Nat) : N ≠ N + 1 := by omega
theorem ne_2' (N : Nat) : N ≠ N + 1 + 1 := by omega
theorem le_2' (N : Nat) : N ≤ N + 1 + 1 := by omega
theorem st6_below {N : Nat} {w wr : World} (H : Below N w wr) {a b c d e f : Value} : Below N w ((((((wr.setCell ⟨N + 1, 0, none⟩ a).setCell ⟨N + 1, 1, none⟩ b).setCell ⟨N + 1, 2, none⟩ c).setCell ⟨N + 1, 3, none⟩ d).setCell ⟨N + 1, 4, none⟩ e).setCell ⟨N + 1, 5, none⟩ f) :=
  have h : N ≤ N + 1 := Nat.le_succ N
  (((((H.setCell (p := ⟨N + 1, 0, none⟩) h _).setCell (p := ⟨N + 1, 1, none⟩) h _).setCell (p := ⟨N + 1, 2, none⟩) h _).setCell (p := ⟨N + 1, 3, none⟩) h _).setCell (p := ⟨N + 1, 4, none⟩) h _).setCell (p := ⟨N + 1, 5, none⟩) h _
theorem ax_in64 {a b c : Int} (ha : In64 a) (hb : In64 b) (hc : In64 c) (k : Int) : -9223372036854775808 ≤ axI a b c k ∧ axI a b c k ≤ 9223372036854775807 := by
  unfold axI In64 at *
  split
  · omega
  · split
    · omega
    · split <;> omega
set_option maxRecDepth 100000 in
set_option maxHeartbeats 8000000 in
theorem near_c (a b c d e f : Int) (halves : Bool) (ha : In64 a) (hb : In64 b) (hc : In64 c) (hd : In64 d) (he : In64 e) (hf : In64 f) (w : World) :
    Calls Try.prog 11 #[.agg #[.int .i64 a, .int .i64 b, .int .i64 c, .int .i64 d, .int .i64 e, .int .i64 f], .bool halves] w fun r w' =>
      r = .returned (.agg #[.int .i64 (nearLo (unitI halves) a), .int .i64 (nearLo (unitI halves) b), .int .i64 (nearLo (unitI halves) c), .int .i64 (nearHi (unitI halves) a d), .int .i64 (nearHi (unitI halves) b e), .int .i64 (nearHi (unitI halves) c f)]) ∧ Below w.heap.size w w' := by
  obtain ⟨W, hW⟩ : ∃ W, W = ((w.alloc (.cells #[.int .i64 a, .int .i64 b, .int .i64 c, .int .i64 d, .int .i64 e, .int .i64 f] 28)).alloc (.cells #[.int .i64 0, .int .i64 0, .int .i64 0, .int .i64 0, .int .i64 0, .int .i64 0] 28)).alloc (.cells #[.int .i64 0, .int .i64 0, .int .i64 0, .int .i64 0, .int .i64 0, .int .i64 0] 28) := ⟨_, rfl⟩
  have H : Below w.heap.size w W := by rw [hW]; go_grown
  have A : Blk W w.heap.size 28 #[.int .i64 a, .int .i64 b, .int .i64 c, .int .i64 d, .int .i64 e, .int .i64 f] := by rw [hW]; exact ((Blk.new' rfl).alloc _).alloc _
  have R : Blk W (w.heap.size + 1) 28 #[.int .i64 0, .int .i64 0, .int .i64 0, .int .i64 0, .int .i64 0, .int .i64 0] := by rw [hW]; exact (Blk.new' (by simp)).alloc _
  have O : Blk W (w.heap.size + 1 + 1) 28 #[.int .i64 0, .int .i64 0, .int .i64 0, .int .i64 0, .int .i64 0, .int .i64 0] := by rw [hW]; exact Blk.new' (by simp)
  obtain ⟨N, hN⟩ : ∃ N, N = w.heap.size := ⟨_, rfl⟩
  rw [← hN] at A R O
  obtain ⟨U, hU⟩ : ∃ U, U = unitI halves := ⟨_, rfl⟩
  rw [← hU]
  have bd := fun n m => near_bd halves n m
  rw [← hU] at bd
  have BD := Lib.hid bd
  clear bd
  cases halves
  · have HU := Lib.hid hU
    clear hU
    go_enter Try.func11, Try.ntmps11
    go_upto_region 5 with (fail)
    rw [← hW, ← hN]
    go_upto_region 6 with (fail)
    have HN := Lib.hid hN
    clear hN hW
    go_loopw [7] (fun i wr => ∃ k : Nat, k ≤ 3 ∧ i = .int .i64 k ∧ Blk wr N 28 #[.int .i64 a, .int .i64 b, .int .i64 c, .int .i64 d, .int .i64 e, .int .i64 f] ∧ Blk wr (N + 1) 28 #[.int .i64 0, .int .i64 0, .int .i64 0, .int .i64 0, .int .i64 0, .int .i64 0] ∧ 
      Blk wr (N + 1 + 1) 28 #[.int .i64 (nk k 0 (nearLo U a)), .int .i64 (nk k 1 (nearLo U b)), .int .i64 (nk k 2 (nearLo U c)), .int .i64 (nk k 0 (nearHi U a d)), .int .i64 (nk k 1 (nearHi U b e)), .int .i64 (nk k 2 (nearHi U c f))] ∧ Below w.heap.size w wr) (fun i _ => 3 - (intOf i).toNat)
    case atStart => exact ⟨0, by omega, rfl, A, R, O, H⟩
    case round =>
      clear A R O H
      obtain ⟨k, hk, rfl, A, R, O, H⟩ := hrel
      by_cases hk3 : k = 3
      · subst hk3
        obtain ⟨⟨o0, o1, o2, o3, o4, o5⟩, -, -, -, -, -, -⟩ := O.c6
        obtain ⟨⟨r0, r1, r2, r3, r4, r5⟩, f0, f1, f2, f3, f4, f5⟩ := R.c6
        go_wp2_with fail
        have R2 := R.st6 (.int .i64 (nk 3 0 (nearLo U a))) (.int .i64 (nk 3 1 (nearLo U b))) (.int .i64 (nk 3 2 (nearLo U c))) (.int .i64 (nk 3 0 (nearHi U a d))) (.int .i64 (nk 3 1 (nearHi U b e))) (.int .i64 (nk 3 2 (nearHi U c f)))
        obtain ⟨⟨d0, d1, d2, d3, d4, d5⟩, -, -, -, -, -, -⟩ := R2.c6
        refine bodyPost_ret (v := .agg #[.int .i64 (nk 3 0 (nearLo U a)), .int .i64 (nk 3 1 (nearLo U b)), .int .i64 (nk 3 2 (nearLo U c)), .int .i64 (nk 3 0 (nearHi U a d)), .int .i64 (nk 3 1 (nearHi U b e)), .int .i64 (nk 3 2 (nearHi U c f))]) (by simp [results, Try.results11, go_sem, d0, d1, d2, d3, d4, d5]) rfl ⟨rfl, ?_⟩
        rw [← HN.out] at H ⊢
        exact st6_below H
      · have hlt : k < 3 := by omega
        obtain ⟨i1, i2⟩ := ax_in64 ha hb hc k
        obtain ⟨j1, j2⟩ := ax_in64 hd he hf k
        have e1 := arI_lo (axI a b c k) (m := 655361) (by decide)
        have e2 := arI_hi (axI a b c k) (m := 655361) (by decide)
        have e3 := arI_lo (axI d e f k) (m := 196609) (by decide)
        have e4 := arI_hi (axI d e f k) (m := 196609) (by decide)
        obtain ⟨a0, a1, a2, a3, a4, a5⟩ := A.c6.1
        go_upto_region 9 with (first | (go_at_call 22; refine (raxis_c _ _ _ _ _).mono ?_; rintro e_ w1 ⟨rfl, hb1⟩) | (go_at_call 12; refine (around_c _ _ i1 i2 (by decide) _).mono ?_; rintro e_ w1 ⟨rfl, rfl⟩))
        replace A := A.on hb1
        replace R := R.on hb1
        replace O := O.on hb1
        replace H := after H hb1
        clear hb1 a0 a1 a2 a3 a4 a5
        obtain ⟨a0, a1, a2, a3, a4, a5⟩ := A.c6.1
        go_upto_region 10 with (first | (go_at_call 22; refine (raxis_c _ _ _ _ _).mono ?_; rintro e_ w2 ⟨rfl, hb1⟩) | (go_at_call 12; refine (around_c _ _ j1 j2 (by decide) _).mono ?_; rintro e_ w2 ⟨rfl, rfl⟩))
        replace A := A.on hb1
        replace R := R.on hb1
        replace O := O.on hb1
        replace H := after H hb1
        clear hb1 a0 a1 a2 a3 a4 a5
        obtain ⟨o0, o1, o2, o3, o4, o5⟩ := O.re6
        have hdv : ∀ w, Calls Try.prog 32 #[.int .i64 (arI (axI a b c k) 655361 - 131072), .int .i64 (1)] w fun r w' => r = .returned (.int .i64 ((arI (axI a b c k) 655361 - 131072) / 1)) ∧ Below w.heap.size w w' := fun w => calls_bel (rdiv_c _ _ (by omega) (by omega) (by decide) w)
        refine wp_sched [0, 0, 0, 0, 0, 0, 0, 0, 0, 3, 3] (fun _ _ _ => True) (by kernel_rfl) (by kernel_rfl) (fun _ _ _ _ h _ => h) ?_
        repeat (first | (refine wpQs_s ?_) | (refine wpQs_q (fun K hK => ?_); go_simp; first | (refine hK _ ?_; clear hK K) | (apply Exists.intro; refine ⟨fun _ => ?_, hK _ ?_⟩; (first | (go_at_call 32; exact hdv _) | exact rwith_c _ _ _ _ _ _); clear hK K)) | (refine wpQs_f (fun K hK => ?_); go_simp; refine hK _ ?_; clear hK K))
        refine wpQs_nil ?_
        repeat (first | (refine wpLs_skip ?_) | (refine wpLs_one ?lsA (fun v_ => ?_); case lsA => (intro w_ hw_ hp_; (fail))))
        refine wpLs_nilB ?_
        simp only [tails]
        intro w3 h3 _
        replace A := A.on h3
        replace R := R.on h3
        replace O := O.on h3
        replace H := after H h3
        clear h3 o0 o1 o2 o3 o4 o5
        obtain ⟨⟨o0, o1, o2, o3, o4, o5⟩, p0, p1, p2, p3, p4, p5⟩ := O.c6
        go_upto_region 11 with (fail)
        generalize h4 : World.setCell (World.setCell (World.setCell w3 _ _) _ _) _ _ = w4
        replace A := Blk.eqw h4 (((A.far (ne_2' N) _).far (ne_2' N) _).far (ne_2' N) _)
        replace R := Blk.eqw h4 (((R.far (ne_1' (N + 1)) _).far (ne_1' (N + 1)) _).far (ne_1' (N + 1)) _)
        replace O := Blk.eqw h4 (((O.set_ 0 _).set_ 1 _).set_ 2 _)
        simp only [List.setIfInBounds_toArray, List.set_cons_zero, List.set_cons_succ] at O
        rw [nk_wi0 (v := nearLo U a) ?g0 (BD.out a d).1 (by have := (BD.out a d).2.2.2; omega), nk_wi1 (v := nearLo U b) ?g1 (BD.out b e).1 (by have := (BD.out b e).2.2.2; omega), nk_wi2 (v := nearLo U c) ?g2 (BD.out c f).1 (by have := (BD.out c f).2.2.2; omega)] at O
        case g0 => intro h; subst h; rw [HU.out]; unfold nearLo unitI; simp [axI]
        case g1 => intro h; subst h; rw [HU.out]; unfold nearLo unitI; simp [axI]
        case g2 => intro h; subst h; rw [HU.out]; unfold nearLo unitI; simp [axI]
        replace H : Below w.heap.size w w4 := by rw [← h4, ← HN.out]; rw [← HN.out] at H; exact ((H.setCell (p := ⟨N + 1 + 1, 0, none⟩) (le_2' N) _).setCell (p := ⟨N + 1 + 1, 1, none⟩) (le_2' N) _).setCell (p := ⟨N + 1 + 1, 2, none⟩) (le_2' N) _
        clear h4 o0 o1 o2 o3 o4 o5 p0 p1 p2 p3 p4 p5
        obtain ⟨o0, o1, o2, o3, o4, o5⟩ := O.re6
        refine wp_sched [0, 0, 0, 0, 0, 0, 0, 0, 0, 0, 0, 0, 0, 0, 0, 3, 3] (fun _ _ _ => True) (by kernel_rfl) (by kernel_rfl) (fun _ _ _ _ h _ => h) ?_
        repeat (first | (refine wpQs_s ?_) | (refine wpQs_q (fun K hK => ?_); go_simp; first | (refine hK _ ?_; clear hK K) | (apply Exists.intro; refine ⟨fun _ => ?_, hK _ ?_⟩; (first | (go_at_call 32; exact hdv _) | exact rwith_c _ _ _ _ _ _); clear hK K)) | (refine wpQs_f (fun K hK => ?_); go_simp; refine hK _ ?_; clear hK K))
        refine wpQs_nil ?_
        repeat (first | (refine wpLs_skip ?_) | (refine wpLs_one ?lsA (fun v_ => ?_); case lsA => (intro w_ hw_ hp_; (fail))))
        refine wpLs_nilB ?_
        simp only [tails]
        intro w5 h5 _
        replace A := A.on h5
        replace R := R.on h5
        replace O := O.on h5
        replace H := after H h5
        clear h5 o0 o1 o2 o3 o4 o5
        obtain ⟨⟨o0, o1, o2, o3, o4, o5⟩, p0, p1, p2, p3, p4, p5⟩ := O.c6
        have hkw := next64 (Nat.le_refl 3) (by decide) hlt
        go_wp2_with fail
        rw [nk_wi0 (v := nearHi U a d) ?g0 (by have := BD.out a d; omega) (by have := BD.out a d; omega), nk_wi1 (v := nearHi U b e) ?g1 (by have := BD.out b e; omega) (by have := BD.out b e; omega), nk_wi2 (v := nearHi U c f) ?g2 (by have := BD.out c f; omega) (by have := BD.out c f; omega)]
        case g0 => intro h; subst h; rw [HU.out]; unfold nearHi nearLo unitI; simp [axI]
        case g1 => intro h; subst h; rw [HU.out]; unfold nearHi nearLo unitI; simp [axI]
        case g2 => intro h; subst h; rw [HU.out]; unfold nearHi nearLo unitI; simp [axI]
        go_roundw
        case rel =>
          rw [← HN.out] at H ⊢
          exact ⟨k + 1, hlt, rfl, ((A.far (ne_2' N) _).far (ne_2' N) _).far (ne_2' N) _, ((R.far (ne_1' (N + 1)) _).far (ne_1' (N + 1)) _).far (ne_1' (N + 1)) _, ((O.set_ 3 _).set_ 4 _).set_ 5 _, ((H.setCell (p := ⟨N + 1 + 1, 3, none⟩) (le_2' N) _).setCell (p := ⟨N + 1 + 1, 4, none⟩) (le_2' N) _).setCell (p := ⟨N + 1 + 1, 5, none⟩) (le_2' N) _⟩
        case measure => exact next_less' hlt
  · have HU := Lib.hid hU
    clear hU
    go_enter Try.func11, Try.ntmps11
    go_upto_region 5 with (fail)
    rw [← hW, ← hN]
    go_upto_region 6 with (fail)
    have HN := Lib.hid hN
    clear hN hW
    go_loopw [7] (fun i wr => ∃ k : Nat, k ≤ 3 ∧ i = .int .i64 k ∧ Blk wr N 28 #[.int .i64 a, .int .i64 b, .int .i64 c, .int .i64 d, .int .i64 e, .int .i64 f] ∧ Blk wr (N + 1) 28 #[.int .i64 0, .int .i64 0, .int .i64 0, .int .i64 0, .int .i64 0, .int .i64 0] ∧ 
      Blk wr (N + 1 + 1) 28 #[.int .i64 (nk k 0 (nearLo U a)), .int .i64 (nk k 1 (nearLo U b)), .int .i64 (nk k 2 (nearLo U c)), .int .i64 (nk k 0 (nearHi U a d)), .int .i64 (nk k 1 (nearHi U b e)), .int .i64 (nk k 2 (nearHi U c f))] ∧ Below w.heap.size w wr) (fun i _ => 3 - (intOf i).toNat)
    case atStart => exact ⟨0, by omega, rfl, A, R, O, H⟩
    case round =>
      clear A R O H
      obtain ⟨k, hk, rfl, A, R, O, H⟩ := hrel
      by_cases hk3 : k = 3
      · subst hk3
        obtain ⟨⟨o0, o1, o2, o3, o4, o5⟩, -, -, -, -, -, -⟩ := O.c6
        obtain ⟨⟨r0, r1, r2, r3, r4, r5⟩, f0, f1, f2, f3, f4, f5⟩ := R.c6
        go_wp2_with fail
        have R2 := R.st6 (.int .i64 (nk 3 0 (nearLo U a))) (.int .i64 (nk 3 1 (nearLo U b))) (.int .i64 (nk 3 2 (nearLo U c))) (.int .i64 (nk 3 0 (nearHi U a d))) (.int .i64 (nk 3 1 (nearHi U b e))) (.int .i64 (nk 3 2 (nearHi U c f)))
        obtain ⟨⟨d0, d1, d2, d3, d4, d5⟩, -, -, -, -, -, -⟩ := R2.c6
        refine bodyPost_ret (v := .agg #[.int .i64 (nk 3 0 (nearLo U a)), .int .i64 (nk 3 1 (nearLo U b)), .int .i64 (nk 3 2 (nearLo U c)), .int .i64 (nk 3 0 (nearHi U a d)), .int .i64 (nk 3 1 (nearHi U b e)), .int .i64 (nk 3 2 (nearHi U c f))]) (by simp [results, Try.results11, go_sem, d0, d1, d2, d3, d4, d5]) rfl ⟨rfl, ?_⟩
        rw [← HN.out] at H ⊢
        exact st6_below H
      · have hlt : k < 3 := by omega
        obtain ⟨i1, i2⟩ := ax_in64 ha hb hc k
        obtain ⟨j1, j2⟩ := ax_in64 hd he hf k
        have e1 := arI_lo (axI a b c k) (m := 655361) (by decide)
        have e2 := arI_hi (axI a b c k) (m := 655361) (by decide)
        have e3 := arI_lo (axI d e f k) (m := 196609) (by decide)
        have e4 := arI_hi (axI d e f k) (m := 196609) (by decide)
        obtain ⟨a0, a1, a2, a3, a4, a5⟩ := A.c6.1
        go_upto_region 9 with (first | (go_at_call 22; refine (raxis_c _ _ _ _ _).mono ?_; rintro e_ w1 ⟨rfl, hb1⟩) | (go_at_call 12; refine (around_c _ _ i1 i2 (by decide) _).mono ?_; rintro e_ w1 ⟨rfl, rfl⟩))
        replace A := A.on hb1
        replace R := R.on hb1
        replace O := O.on hb1
        replace H := after H hb1
        clear hb1 a0 a1 a2 a3 a4 a5
        obtain ⟨a0, a1, a2, a3, a4, a5⟩ := A.c6.1
        go_upto_region 10 with (first | (go_at_call 22; refine (raxis_c _ _ _ _ _).mono ?_; rintro e_ w2 ⟨rfl, hb1⟩) | (go_at_call 12; refine (around_c _ _ j1 j2 (by decide) _).mono ?_; rintro e_ w2 ⟨rfl, rfl⟩))
        replace A := A.on hb1
        replace R := R.on hb1
        replace O := O.on hb1
        replace H := after H hb1
        clear hb1 a0 a1 a2 a3 a4 a5
        obtain ⟨o0, o1, o2, o3, o4, o5⟩ := O.re6
        have hdv : ∀ w, Calls Try.prog 32 #[.int .i64 (arI (axI a b c k) 655361 - 131072), .int .i64 (32768)] w fun r w' => r = .returned (.int .i64 ((arI (axI a b c k) 655361 - 131072) / 32768)) ∧ Below w.heap.size w w' := fun w => calls_bel (rdiv_c _ _ (by omega) (by omega) (by decide) w)
        refine wp_sched [0, 0, 0, 0, 0, 0, 0, 0, 0, 3, 3] (fun _ _ _ => True) (by kernel_rfl) (by kernel_rfl) (fun _ _ _ _ h _ => h) ?_
        repeat (first | (refine wpQs_s ?_) | (refine wpQs_q (fun K hK => ?_); go_simp; first | (refine hK _ ?_; clear hK K) | (apply Exists.intro; refine ⟨fun _ => ?_, hK _ ?_⟩; (first | (go_at_call 32; exact hdv _) | exact rwith_c _ _ _ _ _ _); clear hK K)) | (refine wpQs_f (fun K hK => ?_); go_simp; refine hK _ ?_; clear hK K))
        refine wpQs_nil ?_
        repeat (first | (refine wpLs_skip ?_) | (refine wpLs_one ?lsA (fun v_ => ?_); case lsA => (intro w_ hw_ hp_; (fail))))
        refine wpLs_nilB ?_
        simp only [tails]
        intro w3 h3 _
        replace A := A.on h3
        replace R := R.on h3
        replace O := O.on h3
        replace H := after H h3
        clear h3 o0 o1 o2 o3 o4 o5
        obtain ⟨⟨o0, o1, o2, o3, o4, o5⟩, p0, p1, p2, p3, p4, p5⟩ := O.c6
        go_upto_region 11 with (fail)
        generalize h4 : World.setCell (World.setCell (World.setCell w3 _ _) _ _) _ _ = w4
        replace A := Blk.eqw h4 (((A.far (ne_2' N) _).far (ne_2' N) _).far (ne_2' N) _)
        replace R := Blk.eqw h4 (((R.far (ne_1' (N + 1)) _).far (ne_1' (N + 1)) _).far (ne_1' (N + 1)) _)
        replace O := Blk.eqw h4 (((O.set_ 0 _).set_ 1 _).set_ 2 _)
        simp only [List.setIfInBounds_toArray, List.set_cons_zero, List.set_cons_succ] at O
        rw [nk_wi0 (v := nearLo U a) ?g0 (BD.out a d).1 (by have := (BD.out a d).2.2.2; omega), nk_wi1 (v := nearLo U b) ?g1 (BD.out b e).1 (by have := (BD.out b e).2.2.2; omega), nk_wi2 (v := nearLo U c) ?g2 (BD.out c f).1 (by have := (BD.out c f).2.2.2; omega)] at O
        case g0 => intro h; subst h; rw [HU.out]; unfold nearLo unitI; simp [axI]
        case g1 => intro h; subst h; rw [HU.out]; unfold nearLo unitI; simp [axI]
        case g2 => intro h; subst h; rw [HU.out]; unfold nearLo unitI; simp [axI]
        replace H : Below w.heap.size w w4 := by rw [← h4, ← HN.out]; rw [← HN.out] at H; exact ((H.setCell (p := ⟨N + 1 + 1, 0, none⟩) (le_2' N) _).setCell (p := ⟨N + 1 + 1, 1, none⟩) (le_2' N) _).setCell (p := ⟨N + 1 + 1, 2, none⟩) (le_2' N) _
        clear h4 o0 o1 o2 o3 o4 o5 p0 p1 p2 p3 p4 p5
        obtain ⟨o0, o1, o2, o3, o4, o5⟩ := O.re6
        refine wp_sched [0, 0, 0, 0, 0, 0, 0, 0, 0, 0, 0, 0, 0, 0, 0, 3, 3] (fun _ _ _ => True) (by kernel_rfl) (by kernel_rfl) (fun _ _ _ _ h _ => h) ?_
        repeat (first | (refine wpQs_s ?_) | (refine wpQs_q (fun K hK => ?_); go_simp; first | (refine hK _ ?_; clear hK K) | (apply Exists.intro; refine ⟨fun _ => ?_, hK _ ?_⟩; (first | (go_at_call 32; exact hdv _) | exact rwith_c _ _ _ _ _ _); clear hK K)) | (refine wpQs_f (fun K hK => ?_); go_simp; refine hK _ ?_; clear hK K))
        refine wpQs_nil ?_
        repeat (first | (refine wpLs_skip ?_) | (refine wpLs_one ?lsA (fun v_ => ?_); case lsA => (intro w_ hw_ hp_; (fail))))
        refine wpLs_nilB ?_
        simp only [tails]
        intro w5 h5 _
        replace A := A.on h5
        replace R := R.on h5
        replace O := O.on h5
        replace H := after H h5
        clear h5 o0 o1 o2 o3 o4 o5
        obtain ⟨⟨o0, o1, o2, o3, o4, o5⟩, p0, p1, p2, p3, p4, p5⟩ := O.c6
        have hkw := next64 (Nat.le_refl 3) (by decide) hlt
        go_wp2_with fail
        rw [nk_wi0 (v := nearHi U a d) ?g0 (by have := BD.out a d; omega) (by have := BD.out a d; omega), nk_wi1 (v := nearHi U b e) ?g1 (by have := BD.out b e; omega) (by have := BD.out b e; omega), nk_wi2 (v := nearHi U c f) ?g2 (by have := BD.out c f; omega) (by have := BD.out c f; omega)]
        case g0 => intro h; subst h; rw [HU.out]; unfold nearHi nearLo unitI; simp [axI]
        case g1 => intro h; subst h; rw [HU.out]; unfold nearHi nearLo unitI; simp [axI]
        case g2 => intro h; subst h; rw [HU.out]; unfold nearHi nearLo unitI; simp [axI]
        go_roundw
        case rel =>
          rw [← HN.out] at H ⊢
          exact ⟨k + 1, hlt, rfl, ((A.far (ne_2' N) _).far (ne_2' N) _).far (ne_2' N) _, ((R.far (ne_1' (N + 1)) _).far (ne_1' (N + 1)) _).far (ne_1' (N + 1)) _, ((O.set_ 3 _).set_ 4 _).set_ 5 _, ((H.setCell (p := ⟨N + 1 + 1, 3, none⟩) (le_2' N) _).setCell (p := ⟨N + 1 + 1, 4, none⟩) (le_2' N) _).setCell (p := ⟨N + 1 + 1, 5, none⟩) (le_2' N) _⟩
        case measure => exact next_less' hlt
end Go.Proofs.Ytckjpiioipkfcaa

/- The document's cells of a box. -/
namespace Go.Proofs.Ytckjpiioipkfcaa
open Go.RowKit

/-- Does a box overlap any cell? -/
def isI (a b c d e f : Int) : Bool := !(thinI a d || (thinI b e || thinI c f))
def zI (is : Bool) (n : Int) : Int := if is then n else 0
abbrev spanV (a b c d e f : Int) : Value := .tuple #[.agg #[.int .i64 (zI (isI a b c d e f) (lowI a)), .int .i64 (zI (isI a b c d e f) (lowI b)), .int .i64 (zI (isI a b c d e f) (lowI c))],
  .agg #[.int .i64 (zI (isI a b c d e f) (topI a d)), .int .i64 (zI (isI a b c d e f) (topI b e)), .int .i64 (zI (isI a b c d e f) (topI c f))], .bool (isI a b c d e f)]
/-- Three numbers. -/
abbrev arr3 (f : Nat → Int) : Array Value := #[.int .i64 (f 0), .int .i64 (f 1), .int .i64 (f 2)]
theorem arr3_get {f : Nat → Int} {k : Nat} (h : k < 3) : (arr3 f)[k]? = some (.int .i64 (f k)) := by
  match k, h with
  | 0, _ => rfl
  | 1, _ => rfl
  | 2, _ => rfl
theorem arr3_set {f : Nat → Int} {k : Nat} {v : Int} (h : k < 3) : (arr3 f).setIfInBounds k (.int .i64 v) = arr3 fun j => if j = k then v else f j := by
  match k, h with
  | 0, _ => rfl
  | 1, _ => rfl
  | 2, _ => rfl
theorem arr3_ext {f g : Nat → Int} (h : ∀ j, j < 3 → f j = g j) : arr3 f = arr3 g := by unfold arr3; rw [h 0 (by omega), h 1 (by omega), h 2 (by omega)]
/-- The numbers of the axes that have come. -/
def upto (k : Nat) (F : Nat → Int) (j : Nat) : Int := if j < k then F j else 0
theorem upto_set {k : Nat} {F : Nat → Int} {v : Int} (hv : v = F k) : (fun j => if j = k then v else upto k F j) = upto (k + 1) F := by
  funext j
  unfold upto
  by_cases h : j = k
  · subst h; rw [if_pos rfl, if_pos (by omega), hv]
  · rw [if_neg h]
    by_cases h2 : j < k
    · rw [if_pos h2, if_pos (by omega)]
    · rw [if_neg h2, if_neg (by omega)]
theorem upto_set2 {k : Nat} {F : Nat → Int} {u v : Int} (hv : v = F k) : (fun j => if j = k then v else (if j = k then u else upto k F j)) = upto (k + 1) F := by
  rw [← upto_set hv]
  funext j
  by_cases h : j = k <;> simp [h]
theorem thin_no {a b c d e f : Int} {k : Nat} (hk : k < 3) (h : thinI (axI a b c k) (axI d e f k) = true) : isI a b c d e f = false := by
  match k, hk with
  | 0, _ => have : thinI a d = true := h; simp [isI, this]
  | 1, _ => have : thinI b e = true := h; simp [isI, this]
  | 2, _ => have : thinI c f = true := h; simp [isI, this]
theorem thin_yes {a b c d e f : Int} (h : ∀ j : Nat, j < 3 → thinI (axI a b c j) (axI d e f j) = false) : isI a b c d e f = true := by
  have h0 : thinI a d = false := h 0 (by omega)
  have h1 : thinI b e = false := h 1 (by omega)
  have h2 : thinI c f = false := h 2 (by omega)
  simp [isI, h0, h1, h2]
theorem thin_next {a b c d e f : Int} {k : Nat} (h : ∀ j : Nat, j < k → thinI (axI a b c j) (axI d e f j) = false) (hk : thinI (axI a b c k) (axI d e f k) = false) : ∀ j : Nat, j < k + 1 → thinI (axI a b c j) (axI d e f j) = false := fun j hj => by
  by_cases e' : j = k
  · subst e'; exact hk
  · exact h j (by omega)
theorem ax_bd {a b c : Int} (ha : -140737488355328 ≤ a ∧ a ≤ 140737488355328) (hb : -140737488355328 ≤ b ∧ b ≤ 140737488355328) (hc : -140737488355328 ≤ c ∧ c ≤ 140737488355328) (k : Int) : -140737488355328 ≤ axI a b c k ∧ axI a b c k ≤ 140737488355328 := by
  unfold axI
  split
  · exact ha
  · split
    · exact hb
    · split
      · exact hc
      · omega
theorem ne_lt {g h : Nat} (e : g < h) : g ≠ h := by omega
theorem ne_gt {g h : Nat} (e : h < g) : g ≠ h := by omega
theorem lowI_bd (n : Int) : -2147483648 ≤ lowI n ∧ lowI n ≤ 2147483648 := by
  have h1 := cutI_lo n
  have h2 := cutI_hi n
  unfold lowI
  omega
set_option maxRecDepth 100000 in
set_option maxHeartbeats 8000000 in
theorem rspan_c (a b c d e f : Int) (w : World) : Calls Try.prog 64 #[.agg #[.int .i64 a, .int .i64 b, .int .i64 c, .int .i64 d, .int .i64 e, .int .i64 f]] w fun r w' => r = .returned (spanV a b c d e f) ∧ Below w.heap.size w w' := by
  obtain ⟨W, hW⟩ : ∃ W, W = ((((w.alloc (.cells #[.int .i64 a, .int .i64 b, .int .i64 c, .int .i64 d, .int .i64 e, .int .i64 f] 28)).alloc (.cells #[.int .i64 0, .int .i64 0, .int .i64 0] 59)).alloc (.cells #[.int .i64 0, .int .i64 0, .int .i64 0] 59)).alloc (.cells #[.int .i64 0, .int .i64 0, .int .i64 0] 67)).alloc (.cells #[.int .i64 0, .int .i64 0, .int .i64 0] 67) := ⟨_, rfl⟩
  have H : Below w.heap.size w W := by rw [hW]; go_grown
  have A : Blk W w.heap.size 28 #[.int .i64 a, .int .i64 b, .int .i64 c, .int .i64 d, .int .i64 e, .int .i64 f] := by rw [hW]; exact ((((Blk.new' rfl).alloc _).alloc _).alloc _).alloc _
  have L : Blk W (w.heap.size + 1) 59 #[.int .i64 0, .int .i64 0, .int .i64 0] := by rw [hW]; exact (((Blk.new' (by simp)).alloc _).alloc _).alloc _
  have T : Blk W (w.heap.size + 1 + 1) 59 #[.int .i64 0, .int .i64 0, .int .i64 0] := by rw [hW]; exact ((Blk.new' (by simp)).alloc _).alloc _
  have U : Blk W (w.heap.size + 1 + 1 + 1) 67 (arr3 (upto 0 fun j => lowI (axI a b c j))) := by rw [hW]; exact (Blk.new' (by simp)).alloc _
  have V : Blk W (w.heap.size + 1 + 1 + 1 + 1) 67 (arr3 (upto 0 fun j => topI (axI a b c j) (axI d e f j))) := by rw [hW]; exact Blk.new' (by simp)
  obtain ⟨N, hN⟩ : ∃ N, N = w.heap.size := ⟨_, rfl⟩
  rw [← hN] at A L T U V
  go_enter Try.func64, Try.ntmps64
  go_upto_region 3 with (fail)
  rw [← hW, ← hN]
  have HN := Lib.hid hN
  clear hN hW
  go_upto_region 4 with (fail)
  go_loopw [7] (fun i wr => ∃ k : Nat, k ≤ 3 ∧ i = .int .i64 k ∧ Blk wr N 28 #[.int .i64 a, .int .i64 b, .int .i64 c, .int .i64 d, .int .i64 e, .int .i64 f] ∧ Blk wr (N + 1) 59 #[.int .i64 0, .int .i64 0, .int .i64 0] ∧ Blk wr (N + 1 + 1) 59 #[.int .i64 0, .int .i64 0, .int .i64 0] ∧ 
    Blk wr (N + 1 + 1 + 1) 67 (arr3 (upto k fun j => lowI (axI a b c j))) ∧ Blk wr (N + 1 + 1 + 1 + 1) 67 (arr3 (upto k fun j => topI (axI a b c j) (axI d e f j))) ∧ Hid (∀ j : Nat, j < k → thinI (axI a b c j) (axI d e f j) = false) ∧ Below w.heap.size w wr) (fun i _ => 3 - (intOf i).toNat)
  case atStart => exact ⟨0, by omega, rfl, A, L, T, U, V, fun j hj => by omega, H⟩
  case round =>
    clear A L T U V H
    obtain ⟨k, hk, rfl, A, L, T, U, V, X, H⟩ := hrel
    by_cases hk3 : k = 3
    · subst hk3
      have HT := thin_yes X.out
      have L1 := fun f d os => (U.sp (D := [N + 1, N + 1 + 1]) (by simp; omega) f d os).c3
      have T1 := fun f d os => (V.sp (D := [N + 1, N + 1 + 1]) (by simp; omega) f d os).c3
      go_upto_region 14 with (fail)
      refine wp_two [0, 0, 0, 0, 0, 0, 0, 0, 0, 0, 0, 0, 0, 0, 2, 2, 0] 14 (N + 1) 59 (#[.int .i64 (lowI a), .int .i64 (lowI b), .int .i64 (lowI c)]) 15 (N + 1 + 1) 59 (#[.int .i64 (topI a d), .int .i64 (topI b e), .int .i64 (topI c f)]) (by omega) (by kernel_rfl) (by kernel_rfl) ?_
      repeat (first | (refine wpQs_s ?_) | (refine wpQs_q (fun K hK => ?_); go_simp; first | (refine hK _ ?_; clear hK K) | (apply Exists.intro; refine ⟨fun _ => ?_, hK _ ?_⟩; (fail); clear hK K)) | (refine wpQs_f (fun K hK => ?_); go_simp; refine hK _ ?_; clear hK K))
      refine wpQs_nil ?_
      repeat (refine wpLs_skip ?_)
      refine wpLs_one ?s1 (fun _ => ?_)
      case s1 =>
        intro w_ hw_ hp_
        have L2 := hp_.blk (by simp [Ds2]) L
        obtain ⟨b0, b1, b2, f0, f1, f2⟩ := L2.c3
        go_simp
        exact two_fst (by decide) kept3 (L2.st3 _ _ _)
      refine wpLs_one ?s2 (fun _ => ?_)
      case s2 =>
        intro w_ hw_ hp_
        have T2 := hp_.blk (by simp [Ds2]) T
        obtain ⟨b0, b1, b2, f0, f1, f2⟩ := T2.c3
        go_simp
        exact two_snd (by decide) kept3 (T2.st3 _ _ _)
      refine wpLs_skip ?_
      refine wpLs_nilD ?_
      simp only [tails]
      rintro w1 h1 ⟨⟨-, r1⟩, r2⟩
      obtain ⟨d0, d1, d2, -, -, -⟩ := (r1.1 rfl).c3
      obtain ⟨e0, e1, e2, -, -, -⟩ := (r2.2 rfl).c3
      clear r1 r2
      go_wp2_with fail
      refine bodyPost_ret (v := spanV a b c d e f) (by simp [results, Try.results64, go_sem, d0, d1, d2, e0, e1, e2, HT, zI]) rfl ⟨rfl, ?_⟩
      rw [← HN.out] at H ⊢
      exact H.trans (h1.below (by have := H.size; rwa [← HN.out] at this) (fun b hb => by simp; omega))
    · have hlt : k < 3 := by omega
      obtain ⟨a0, a1, a2, a3, a4, a5⟩ := A.c6.1
      go_upto_region 7 with (go_at_call 22; refine (raxis_c _ _ _ _ _).mono ?_; rintro e_ w1 ⟨rfl, hb1⟩)
      replace A := A.on hb1
      replace L := L.on hb1
      replace T := T.on hb1
      replace U := U.on hb1
      replace V := V.on hb1
      replace H := after H hb1
      clear hb1 a0 a1 a2 a3 a4 a5
      obtain ⟨a0, a1, a2, a3, a4, a5⟩ := A.c6.1
      go_upto_region 8 with (go_at_call 22; refine (raxis_c _ _ _ _ _).mono ?_; rintro e_ w2 ⟨rfl, hb1⟩)
      replace A := A.on hb1
      replace L := L.on hb1
      replace T := T.on hb1
      replace U := U.on hb1
      replace V := V.on hb1
      replace H := after H hb1
      clear hb1 a0 a1 a2 a3 a4 a5
      obtain ⟨n, hn⟩ : ∃ n, n = axI a b c k := ⟨_, rfl⟩
      obtain ⟨m, hm⟩ : ∃ m, m = axI d e f k := ⟨_, rfl⟩
      rw [← hn, ← hm]
      have HNn := Lib.hid hn
      have HMm := Lib.hid hm
      clear hn hm
      have ln := lowI_bd n
      have lm := lowI_bd m
      have u0 := U.cell k
      have v0 := V.cell k
      rw [arr3_get hlt] at u0 v0
      have uf := U.frz k
      have vf := V.frz k
      have hi0 : (0 : Int) ≤ k := by omega
      have hi1 : (k : Int) < 3 := by omega
      go_upto_region 10 with (go_at_call 69; refine (rfloor_c _ _).mono ?_; rintro e_ w3 ⟨rfl, rfl⟩)
      generalize h4 : World.setCell (World.setCell w2 _ _) _ _ = w4
      replace A := Blk.eqw h4 ((A.far (p := ⟨N + 1 + 1 + 1, k, none⟩) (by dsimp only; omega) _).far (p := ⟨N + 1 + 1 + 1 + 1, k, none⟩) (by dsimp only; omega) _)
      replace L := Blk.eqw h4 ((L.far (p := ⟨N + 1 + 1 + 1, k, none⟩) (by dsimp only; omega) _).far (p := ⟨N + 1 + 1 + 1 + 1, k, none⟩) (by dsimp only; omega) _)
      replace T := Blk.eqw h4 ((T.far (p := ⟨N + 1 + 1 + 1, k, none⟩) (by dsimp only; omega) _).far (p := ⟨N + 1 + 1 + 1 + 1, k, none⟩) (by dsimp only; omega) _)
      replace U := Blk.eqw h4 ((U.set_ k _).far (p := ⟨N + 1 + 1 + 1 + 1, k, none⟩) (by dsimp only; omega) _)
      replace V := Blk.eqw h4 ((V.far (p := ⟨N + 1 + 1 + 1, k, none⟩) (by dsimp only; omega) _).set_ k _)
      rw [arr3_set hlt] at U V
      replace H : Below w.heap.size w w4 := by
        rw [← h4, ← HN.out]; rw [← HN.out] at H
        exact (H.setCell (p := ⟨N + 1 + 1 + 1, k, none⟩) (by dsimp only; omega) _).setCell (p := ⟨N + 1 + 1 + 1 + 1, k, none⟩) (by dsimp only; omega) _
      clear h4 u0 v0 uf vf
      have u0 := fun d os => (U.re d os).cell k
      have v0 := fun d os => (V.re d os).cell k
      simp only [arr3_get hlt, if_true] at u0 v0
      have hkw := next64 (Nat.le_refl 3) (by decide) hlt
      rcases top_ways n m with ⟨t1, t2⟩ | ⟨t1, t3, t2⟩ | ⟨t1, t3, t2⟩
      · have T2 := Lib.hid t2
        have tw : (IntKind.i64.wrap (lowI m * 65536) = m) = False := by rw [IntWalk.i64_in _ (by omega)]; simpa using t1
        have tb : (IntKind.i64.wrap (lowI m * 65536) == m) = false := by rw [IntWalk.i64_in _ (by omega)]; exact t1
        have TB := Lib.hid tb
        clear t1 tb
        clear t2
        refine wp_sched [0, 0, 0, 0, 0, 0, 0, 0, 0, 0, 0, 0, 0, 0, 0] (fun _ _ _ => True) (by kernel_rfl) (by kernel_rfl) (fun _ _ _ _ h _ => h) ?_
        repeat (first | (refine wpQs_s ?_) | (refine wpQs_q (fun K hK => ?_); go_simp; first | (refine hK _ ?_; clear hK K) | (apply Exists.intro; refine ⟨fun _ => ?_, hK _ ?_⟩; (fail); clear hK K)) | (refine wpQs_f (fun K hK => ?_); go_simp; refine hK _ ?_; clear hK K))
        refine wpQs_nil ?_
        repeat (first | (refine wpLs_skip ?_) | (refine wpLs_one ?lsA (fun v_ => ?_); case lsA => (intro w_ hw_ hp_; (fail))))
        refine wpLs_nilB ?_
        simp only [tails]
        intro w5 h5 _
        replace A := A.on h5
        replace L := L.on h5
        replace T := T.on h5
        replace U := U.on h5
        replace V := V.on h5
        replace H := after H h5
        clear h5 u0 v0
        have u0 := U.cell k
        have v0 := V.cell k
        simp only [arr3_get hlt, if_true] at u0 v0
        have uf := U.frz k
        have vf := V.frz k
        have tb := TB.out
        clear tw TB
        go_upto_region 12 with (fail)
        clear tb
        try
          generalize h4 : World.setCell w5 _ _ = w6
          replace A := Blk.eqw h4 (A.far (p := ⟨N + 1 + 1 + 1 + 1, k, none⟩) (by dsimp only; omega) _)
          replace L := Blk.eqw h4 (L.far (p := ⟨N + 1 + 1 + 1 + 1, k, none⟩) (by dsimp only; omega) _)
          replace T := Blk.eqw h4 (T.far (p := ⟨N + 1 + 1 + 1 + 1, k, none⟩) (by dsimp only; omega) _)
          replace U := Blk.eqw h4 (U.far (p := ⟨N + 1 + 1 + 1 + 1, k, none⟩) (by dsimp only; omega) _)
          replace V := Blk.eqw h4 (V.set_ k _)
          rw [arr3_set hlt] at V
          replace H : Below w.heap.size w w6 := by
            rw [← h4, ← HN.out]; rw [← HN.out] at H
            exact H.setCell (p := ⟨N + 1 + 1 + 1 + 1, k, none⟩) (by dsimp only; omega) _
          clear h4 v0 uf vf u0
          obtain ⟨w5, h6⟩ : ∃ w5, w5 = w6 := ⟨_, rfl⟩
          rw [← h6] at A L T U V H ⊢
          clear h6
          have u0 := U.cell k
          simp only [arr3_get hlt, if_true] at u0
        have EU := upto_set (k := k) (F := fun j => lowI (axI a b c j)) (v := lowI n) (by rw [HNn.out])
        rw [EU] at U
        first
          | (have EV := upto_set (k := k) (F := fun j => topI (axI a b c j) (axI d e f j)) (v := lowI m) (by rw [← HNn.out, ← HMm.out, T2.out]); rw [EV] at V)
          | (have EV := upto_set2 (k := k) (F := fun j => topI (axI a b c j) (axI d e f j)) (u := lowI m) (v := lowI m - 1) (by rw [← HNn.out, ← HMm.out, T2.out]); rw [EV] at V)
        obtain ⟨l0, l1, l2, lf0, lf1, lf2⟩ := L.c3
        obtain ⟨t0, t1, t2, tf0, tf1, tf2⟩ := T.c3
        have XN := fun (h : thinI n m = false) => thin_next X.out (by rw [← HNn.out, ← HMm.out]; exact h)
        have XY := fun (h : thinI n m = true) => thin_no (a := a) (b := b) (c := c) (d := d) (e := e) (f := f) hlt (by rw [← HNn.out, ← HMm.out]; exact h)
        rcases thin_ways n m with ⟨y1, y2⟩ | ⟨y1, y3, y2⟩ | ⟨y1, y3, y2⟩
        · replace XN := Lib.hid (XN y2)
          clear XY y2 EU EV
          go_wp2_with fail
          go_roundw
          case rel => exact ⟨k + 1, hlt, rfl, A, L, T, U, V, XN.out, H⟩
          case measure => exact next_less' hlt
        · replace XN := Lib.hid (XN y2)
          clear XY y2 EU EV
          go_wp2_with fail
          go_roundw
          case rel => exact ⟨k + 1, hlt, rfl, A, L, T, U, V, XN.out, H⟩
          case measure => exact next_less' hlt
        · replace XY := Lib.hid (XY y2)
          clear XN y2 EU EV
          go_wp2_with fail
          have RL := (L.st3 (.int .i64 0) (.int .i64 0) (.int .i64 0)).far (p := ⟨N + 1 + 1, 0, none⟩) (by dsimp only; omega) (.int .i64 0)
          have RL2 := (RL.far (p := ⟨N + 1 + 1, 1, none⟩) (by dsimp only; omega) (.int .i64 0)).far (p := ⟨N + 1 + 1, 2, none⟩) (by dsimp only; omega) (.int .i64 0)
          have RT := (((T.far (p := ⟨N + 1, 0, none⟩) (by dsimp only; omega) (.int .i64 0)).far (p := ⟨N + 1, 1, none⟩) (by dsimp only; omega) (.int .i64 0)).far (p := ⟨N + 1, 2, none⟩) (by dsimp only; omega) (.int .i64 0)).st3 (.int .i64 0) (.int .i64 0) (.int .i64 0)
          obtain ⟨d0, d1, d2, -, -, -⟩ := RL2.c3
          obtain ⟨e0, e1, e2, -, -, -⟩ := RT.c3
          refine bodyPost_ret (v := spanV a b c d e f) (by simp [results, Try.results64, go_sem, d0, d1, d2, e0, e1, e2, XY.out, zI]) rfl ⟨rfl, ?_⟩
          rw [← HN.out] at H ⊢
          exact (((((H.setCell (p := ⟨N + 1, 0, none⟩) (by dsimp only; omega) _).setCell (p := ⟨N + 1, 1, none⟩) (by dsimp only; omega) _).setCell (p := ⟨N + 1, 2, none⟩) (by dsimp only; omega) _).setCell (p := ⟨N + 1 + 1, 0, none⟩) (by dsimp only; omega) _).setCell (p := ⟨N + 1 + 1, 1, none⟩) (by dsimp only; omega) _).setCell (p := ⟨N + 1 + 1, 2, none⟩) (by dsimp only; omega) _
      · have T2 := Lib.hid t2
        have tw : (IntKind.i64.wrap (lowI m * 65536) = m) = True := by rw [IntWalk.i64_in _ (by omega)]; simpa using t1
        have tb : (IntKind.i64.wrap (lowI m * 65536) == m) = true := by rw [IntWalk.i64_in _ (by omega)]; exact t1
        have TB := Lib.hid tb
        clear t1 tb
        clear t2
        refine wp_sched [0, 0, 0, 0, 0, 0, 0, 0, 0, 0, 0, 0, 0, 0, 0] (fun _ _ _ => True) (by kernel_rfl) (by kernel_rfl) (fun _ _ _ _ h _ => h) ?_
        repeat (first | (refine wpQs_s ?_) | (refine wpQs_q (fun K hK => ?_); go_simp; first | (refine hK _ ?_; clear hK K) | (apply Exists.intro; refine ⟨fun _ => ?_, hK _ ?_⟩; (fail); clear hK K)) | (refine wpQs_f (fun K hK => ?_); go_simp; refine hK _ ?_; clear hK K))
        refine wpQs_nil ?_
        repeat (first | (refine wpLs_skip ?_) | (refine wpLs_one ?lsA (fun v_ => ?_); case lsA => (intro w_ hw_ hp_; (fail))))
        refine wpLs_nilB ?_
        simp only [tails]
        intro w5 h5 _
        replace A := A.on h5
        replace L := L.on h5
        replace T := T.on h5
        replace U := U.on h5
        replace V := V.on h5
        replace H := after H h5
        clear h5 u0 v0
        have u0 := U.cell k
        have v0 := V.cell k
        simp only [arr3_get hlt, if_true] at u0 v0
        have uf := U.frz k
        have vf := V.frz k
        have tb := TB.out
        clear tw TB
        go_upto_region 12 with (fail)
        clear tb
        try
          generalize h4 : World.setCell w5 _ _ = w6
          replace A := Blk.eqw h4 (A.far (p := ⟨N + 1 + 1 + 1 + 1, k, none⟩) (by dsimp only; omega) _)
          replace L := Blk.eqw h4 (L.far (p := ⟨N + 1 + 1 + 1 + 1, k, none⟩) (by dsimp only; omega) _)
          replace T := Blk.eqw h4 (T.far (p := ⟨N + 1 + 1 + 1 + 1, k, none⟩) (by dsimp only; omega) _)
          replace U := Blk.eqw h4 (U.far (p := ⟨N + 1 + 1 + 1 + 1, k, none⟩) (by dsimp only; omega) _)
          replace V := Blk.eqw h4 (V.set_ k _)
          rw [arr3_set hlt] at V
          replace H : Below w.heap.size w w6 := by
            rw [← h4, ← HN.out]; rw [← HN.out] at H
            exact H.setCell (p := ⟨N + 1 + 1 + 1 + 1, k, none⟩) (by dsimp only; omega) _
          clear h4 v0 uf vf u0
          obtain ⟨w5, h6⟩ : ∃ w5, w5 = w6 := ⟨_, rfl⟩
          rw [← h6] at A L T U V H ⊢
          clear h6
          have u0 := U.cell k
          simp only [arr3_get hlt, if_true] at u0
        have EU := upto_set (k := k) (F := fun j => lowI (axI a b c j)) (v := lowI n) (by rw [HNn.out])
        rw [EU] at U
        first
          | (have EV := upto_set (k := k) (F := fun j => topI (axI a b c j) (axI d e f j)) (v := lowI m) (by rw [← HNn.out, ← HMm.out, T2.out]); rw [EV] at V)
          | (have EV := upto_set2 (k := k) (F := fun j => topI (axI a b c j) (axI d e f j)) (u := lowI m) (v := lowI m - 1) (by rw [← HNn.out, ← HMm.out, T2.out]); rw [EV] at V)
        obtain ⟨l0, l1, l2, lf0, lf1, lf2⟩ := L.c3
        obtain ⟨t0, t1, t2, tf0, tf1, tf2⟩ := T.c3
        have XN := fun (h : thinI n m = false) => thin_next X.out (by rw [← HNn.out, ← HMm.out]; exact h)
        have XY := fun (h : thinI n m = true) => thin_no (a := a) (b := b) (c := c) (d := d) (e := e) (f := f) hlt (by rw [← HNn.out, ← HMm.out]; exact h)
        rcases thin_ways n m with ⟨y1, y2⟩ | ⟨y1, y3, y2⟩ | ⟨y1, y3, y2⟩
        · replace XN := Lib.hid (XN y2)
          clear XY y2 EU EV
          go_wp2_with fail
          go_roundw
          case rel => exact ⟨k + 1, hlt, rfl, A, L, T, U, V, XN.out, H⟩
          case measure => exact next_less' hlt
        · replace XN := Lib.hid (XN y2)
          clear XY y2 EU EV
          go_wp2_with fail
          go_roundw
          case rel => exact ⟨k + 1, hlt, rfl, A, L, T, U, V, XN.out, H⟩
          case measure => exact next_less' hlt
        · replace XY := Lib.hid (XY y2)
          clear XN y2 EU EV
          go_wp2_with fail
          have RL := (L.st3 (.int .i64 0) (.int .i64 0) (.int .i64 0)).far (p := ⟨N + 1 + 1, 0, none⟩) (by dsimp only; omega) (.int .i64 0)
          have RL2 := (RL.far (p := ⟨N + 1 + 1, 1, none⟩) (by dsimp only; omega) (.int .i64 0)).far (p := ⟨N + 1 + 1, 2, none⟩) (by dsimp only; omega) (.int .i64 0)
          have RT := (((T.far (p := ⟨N + 1, 0, none⟩) (by dsimp only; omega) (.int .i64 0)).far (p := ⟨N + 1, 1, none⟩) (by dsimp only; omega) (.int .i64 0)).far (p := ⟨N + 1, 2, none⟩) (by dsimp only; omega) (.int .i64 0)).st3 (.int .i64 0) (.int .i64 0) (.int .i64 0)
          obtain ⟨d0, d1, d2, -, -, -⟩ := RL2.c3
          obtain ⟨e0, e1, e2, -, -, -⟩ := RT.c3
          refine bodyPost_ret (v := spanV a b c d e f) (by simp [results, Try.results64, go_sem, d0, d1, d2, e0, e1, e2, XY.out, zI]) rfl ⟨rfl, ?_⟩
          rw [← HN.out] at H ⊢
          exact (((((H.setCell (p := ⟨N + 1, 0, none⟩) (by dsimp only; omega) _).setCell (p := ⟨N + 1, 1, none⟩) (by dsimp only; omega) _).setCell (p := ⟨N + 1, 2, none⟩) (by dsimp only; omega) _).setCell (p := ⟨N + 1 + 1, 0, none⟩) (by dsimp only; omega) _).setCell (p := ⟨N + 1 + 1, 1, none⟩) (by dsimp only; omega) _).setCell (p := ⟨N + 1 + 1, 2, none⟩) (by dsimp only; omega) _
      · have T2 := Lib.hid t2
        have tw : (IntKind.i64.wrap (lowI m * 65536) = m) = True := by rw [IntWalk.i64_in _ (by omega)]; simpa using t1
        have tb : (IntKind.i64.wrap (lowI m * 65536) == m) = true := by rw [IntWalk.i64_in _ (by omega)]; exact t1
        have TB := Lib.hid tb
        clear t1 tb
        clear t2
        refine wp_sched [0, 0, 0, 0, 0, 0, 0, 0, 0, 0, 0, 0, 0, 0, 0] (fun _ _ _ => True) (by kernel_rfl) (by kernel_rfl) (fun _ _ _ _ h _ => h) ?_
        repeat (first | (refine wpQs_s ?_) | (refine wpQs_q (fun K hK => ?_); go_simp; first | (refine hK _ ?_; clear hK K) | (apply Exists.intro; refine ⟨fun _ => ?_, hK _ ?_⟩; (fail); clear hK K)) | (refine wpQs_f (fun K hK => ?_); go_simp; refine hK _ ?_; clear hK K))
        refine wpQs_nil ?_
        repeat (first | (refine wpLs_skip ?_) | (refine wpLs_one ?lsA (fun v_ => ?_); case lsA => (intro w_ hw_ hp_; (fail))))
        refine wpLs_nilB ?_
        simp only [tails]
        intro w5 h5 _
        replace A := A.on h5
        replace L := L.on h5
        replace T := T.on h5
        replace U := U.on h5
        replace V := V.on h5
        replace H := after H h5
        clear h5 u0 v0
        have u0 := U.cell k
        have v0 := V.cell k
        simp only [arr3_get hlt, if_true] at u0 v0
        have uf := U.frz k
        have vf := V.frz k
        have tb := TB.out
        clear tw TB
        go_upto_region 12 with (fail)
        clear tb
        try
          generalize h4 : World.setCell w5 _ _ = w6
          replace A := Blk.eqw h4 (A.far (p := ⟨N + 1 + 1 + 1 + 1, k, none⟩) (by dsimp only; omega) _)
          replace L := Blk.eqw h4 (L.far (p := ⟨N + 1 + 1 + 1 + 1, k, none⟩) (by dsimp only; omega) _)
          replace T := Blk.eqw h4 (T.far (p := ⟨N + 1 + 1 + 1 + 1, k, none⟩) (by dsimp only; omega) _)
          replace U := Blk.eqw h4 (U.far (p := ⟨N + 1 + 1 + 1 + 1, k, none⟩) (by dsimp only; omega) _)
          replace V := Blk.eqw h4 (V.set_ k _)
          rw [arr3_set hlt] at V
          replace H : Below w.heap.size w w6 := by
            rw [← h4, ← HN.out]; rw [← HN.out] at H
            exact H.setCell (p := ⟨N + 1 + 1 + 1 + 1, k, none⟩) (by dsimp only; omega) _
          clear h4 v0 uf vf u0
          obtain ⟨w5, h6⟩ : ∃ w5, w5 = w6 := ⟨_, rfl⟩
          rw [← h6] at A L T U V H ⊢
          clear h6
          have u0 := U.cell k
          simp only [arr3_get hlt, if_true] at u0
        have EU := upto_set (k := k) (F := fun j => lowI (axI a b c j)) (v := lowI n) (by rw [HNn.out])
        rw [EU] at U
        first
          | (have EV := upto_set (k := k) (F := fun j => topI (axI a b c j) (axI d e f j)) (v := lowI m) (by rw [← HNn.out, ← HMm.out, T2.out]); rw [EV] at V)
          | (have EV := upto_set2 (k := k) (F := fun j => topI (axI a b c j) (axI d e f j)) (u := lowI m) (v := lowI m - 1) (by rw [← HNn.out, ← HMm.out, T2.out]); rw [EV] at V)
        obtain ⟨l0, l1, l2, lf0, lf1, lf2⟩ := L.c3
        obtain ⟨t0, t1, t2, tf0, tf1, tf2⟩ := T.c3
        have XN := fun (h : thinI n m = false) => thin_next X.out (by rw [← HNn.out, ← HMm.out]; exact h)
        have XY := fun (h : thinI n m = true) => thin_no (a := a) (b := b) (c := c) (d := d) (e := e) (f := f) hlt (by rw [← HNn.out, ← HMm.out]; exact h)
        rcases thin_ways n m with ⟨y1, y2⟩ | ⟨y1, y3, y2⟩ | ⟨y1, y3, y2⟩
        · replace XN := Lib.hid (XN y2)
          clear XY y2 EU EV
          go_wp2_with fail
          go_roundw
          case rel => exact ⟨k + 1, hlt, rfl, A, L, T, U, V, XN.out, H⟩
          case measure => exact next_less' hlt
        · replace XN := Lib.hid (XN y2)
          clear XY y2 EU EV
          go_wp2_with fail
          go_roundw
          case rel => exact ⟨k + 1, hlt, rfl, A, L, T, U, V, XN.out, H⟩
          case measure => exact next_less' hlt
        · replace XY := Lib.hid (XY y2)
          clear XN y2 EU EV
          go_wp2_with fail
          have RL := (L.st3 (.int .i64 0) (.int .i64 0) (.int .i64 0)).far (p := ⟨N + 1 + 1, 0, none⟩) (by dsimp only; omega) (.int .i64 0)
          have RL2 := (RL.far (p := ⟨N + 1 + 1, 1, none⟩) (by dsimp only; omega) (.int .i64 0)).far (p := ⟨N + 1 + 1, 2, none⟩) (by dsimp only; omega) (.int .i64 0)
          have RT := (((T.far (p := ⟨N + 1, 0, none⟩) (by dsimp only; omega) (.int .i64 0)).far (p := ⟨N + 1, 1, none⟩) (by dsimp only; omega) (.int .i64 0)).far (p := ⟨N + 1, 2, none⟩) (by dsimp only; omega) (.int .i64 0)).st3 (.int .i64 0) (.int .i64 0) (.int .i64 0)
          obtain ⟨d0, d1, d2, -, -, -⟩ := RL2.c3
          obtain ⟨e0, e1, e2, -, -, -⟩ := RT.c3
          refine bodyPost_ret (v := spanV a b c d e f) (by simp [results, Try.results64, go_sem, d0, d1, d2, e0, e1, e2, XY.out, zI]) rfl ⟨rfl, ?_⟩
          rw [← HN.out] at H ⊢
          exact (((((H.setCell (p := ⟨N + 1, 0, none⟩) (by dsimp only; omega) _).setCell (p := ⟨N + 1, 1, none⟩) (by dsimp only; omega) _).setCell (p := ⟨N + 1, 2, none⟩) (by dsimp only; omega) _).setCell (p := ⟨N + 1 + 1, 0, none⟩) (by dsimp only; omega) _).setCell (p := ⟨N + 1 + 1, 1, none⟩) (by dsimp only; omega) _).setCell (p := ⟨N + 1 + 1, 2, none⟩) (by dsimp only; omega) _
end Go.Proofs.Ytckjpiioipkfcaa

/- The walks of the layer 1 (fixed) and of its reference: sums that are checked, whole numbers, quotients, ways toward. -/
namespace Go.Proofs.Ytckjpiioipkfcaa
open Go.RowKit

set_option maxHeartbeats 400000 in
theorem floor_c (n : Int) (w : World) : Calls Try.prog 49 #[.int .i64 n] w fun e w' => e = .returned (.int .i64 (cutI n / 65536)) ∧ w = w' := by
  have h1 := cutI_lo n
  have h2 := cutI_hi n
  go_enter Try.func49, Try.ntmps49
  go_wp2_with (go_at_call 56; refine (fcut_c _ _).mono ?_; rintro e w1 ⟨rfl, rfl⟩)
  go_returns
  exact ⟨ret_i rfl, rfl⟩
set_option maxHeartbeats 400000 in
theorem frac_c (n : Int) (w : World) : Calls Try.prog 73 #[.int .i64 n] w fun e w' => e = .returned (.int .i64 (cutI n % 65536)) ∧ w = w' := by
  have h1 := cutI_lo n
  have h2 := cutI_hi n
  go_enter Try.func73, Try.ntmps73
  go_wp2_with (go_at_call 56; refine (fcut_c _ _).mono ?_; rintro e w1 ⟨rfl, rfl⟩)
  go_returns
  exact ⟨ret_i (bits_and_mask _), rfl⟩
def ofI (c : Int) : Int := min (max c (-2147483648)) 2147483648 * 65536
set_option maxHeartbeats 400000 in
theorem of_c (n : Int) (w : World) : Calls Try.prog 50 #[.int .i64 n] w fun e w' => e = .returned (.int .i64 (ofI n)) ∧ w = w' := by
  go_enter Try.func50, Try.ntmps50
  go_wp2
  all_goals (go_returns; exact ⟨ret_i (by unfold ofI; omega), rfl⟩)
theorem quo_rel (X y q : Int) (hy : 0 < y) (_h1 : 0 ≤ q) (h2 : q ≤ 1152921504606846977) (h3 : min q 1152921504606846976 = min (X / y) 1152921504606846976) :
    (2 * (X % y) < y → (2 * X) % y = X % y * 2 ∧ min (min (q * 2) 1152921504606846976) 1152921504606846976 = min ((2 * X) / y) 1152921504606846976) ∧
    (y ≤ 2 * (X % y) → (2 * X) % y = X % y * 2 - y ∧ min (min (q * 2) 1152921504606846976 + 1) 1152921504606846976 = min ((2 * X) / y) 1152921504606846976) := by
  obtain ⟨d1, d2⟩ := dbl X y hy
  refine ⟨fun h => ?_, fun h => ?_⟩
  · rw [if_neg (by omega)] at d1 d2
    omega
  · rw [if_pos (by omega)] at d1 d2
    omega
theorem quo_end (q Q r y : Int) (h0 : 0 ≤ r) (_h1 : r < y) (h2 : min q 1152921504606846976 = min Q 1152921504606846976) (hq : 0 ≤ q) :
    (cutI q = rndI Q (r != 0) false) ∧ (0 < r → cutI (-(q + 1)) = rndI Q (r != 0) true) ∧ (r ≤ 0 → cutI (-q) = rndI Q (r != 0) true) := by
  unfold cutI rndI upI
  refine ⟨by simp; omega, fun h => ?_, fun h => ?_⟩
  · have : (r != 0) = true := by simp; omega
    simp [this]; omega
  · have : (r != 0) = false := by simp; omega
    simp [this]; omega
theorem of_e (n v : Int) (h : ofI n = v) (w : World) : Calls Try.prog 50 #[.int .i64 n] w fun e w' => e = .returned (.int .i64 v) ∧ w = w' := by
  rw [← h]; exact of_c n w
theorem floor_e (n v : Int) (h : cutI n / 65536 = v) (w : World) : Calls Try.prog 49 #[.int .i64 n] w fun e w' => e = .returned (.int .i64 v) ∧ w = w' := by
  rw [← h]; exact floor_c n w
theorem frac_e (n v : Int) (h : cutI n % 65536 = v) (w : World) : Calls Try.prog 73 #[.int .i64 n] w fun e w' => e = .returned (.int .i64 v) ∧ w = w' := by
  rw [← h]; exact frac_c n w
end Go.Proofs.Ytckjpiioipkfcaa

/- The cell of a place. -/
namespace Go.Proofs.Ytckjpiioipkfcaa
open Go.RowKit

set_option maxHeartbeats 1000000 in
theorem cof_c (x y z : Int) (w : World) : Calls Try.prog 72 #[.agg #[.int .i64 x, .int .i64 y, .int .i64 z]] w fun e w' => e = .returned (.agg #[.int .i64 (lowI x), .int .i64 (lowI y), .int .i64 (lowI z)]) ∧ Below w.heap.size w w' := by
  have U : Blk ((w.alloc (.cells #[.int .i64 x, .int .i64 y, .int .i64 z] 26)).alloc (.cells #[.int .i64 0, .int .i64 0, .int .i64 0] 59)) w.heap.size 26 #[.int .i64 x, .int .i64 y, .int .i64 z] := (Blk.new' rfl).alloc _
  have R0 : Blk ((w.alloc (.cells #[.int .i64 x, .int .i64 y, .int .i64 z] 26)).alloc (.cells #[.int .i64 0, .int .i64 0, .int .i64 0] 59)) (w.heap.size + 1) 59 #[.int .i64 0, .int .i64 0, .int .i64 0] := Blk.new' (by simp)
  obtain ⟨k0, k1, k2⟩ := U.re3
  have hf : ∀ (n : Int) (w : World), Calls Try.prog 49 #[.int .i64 n] w fun e w' => e = .returned (.int .i64 (lowI n)) ∧ w = w' := floor_c
  go_enter Try.func72, Try.ntmps72
  go_wp2_with fail
  refine wp_region_last_below 10 (by kernel_rfl) rfl (by kernel_rfl) ?_
  simp only [List.take_succ_cons, List.take_zero, List.drop_succ_cons, List.drop_zero]
  repeat (go_big_quiet_step (exact Calls.regrown_of (calls_bel (hf _ _))))
  refine wpQuiet_nil ?_
  intro w' hw'
  obtain ⟨rg, rfl⟩ := hw'
  have R := R0.re rg.d rg.os
  obtain ⟨r0, r1, r2, s0, s1, s2⟩ := R.c3
  go_wp2_with fail
  have R2 := R.st3 (.int .i64 (lowI x)) (.int .i64 (lowI y)) (.int .i64 (lowI z))
  obtain ⟨d0, d1, d2, -, -, -⟩ := R2.c3
  exact bodyPost_ret (v := .agg #[.int .i64 (lowI x), .int .i64 (lowI y), .int .i64 (lowI z)]) (by simp [results, Try.results72, go_sem, d0, d1, d2]) rfl ⟨rfl, by (repeat' (first | (with_reducible exact Below.refl _ _) | (with_reducible assumption) | (with_reducible refine Below.alloc ?_ ?_ _) | (with_reducible refine Below.drew ?_) | (with_reducible refine Below.setCell ?_ ?_ _) | (with_reducible refine after ?_ (below_regrown _ _ _)) | (refine after ?_ (by with_reducible assumption)) | go_size))⟩
end Go.Proofs.Ytckjpiioipkfcaa

/- The program's cells of a box. -/
namespace Go.Proofs.Ytckjpiioipkfcaa
open Go.RowKit

/-- A box within the bounds. -/
structure BoxOk (a b c d e f : Int) : Prop where
  a1 : -140737488355328 ≤ a
  b1 : -140737488355328 ≤ b
  c1 : -140737488355328 ≤ c
  d2 : d ≤ 140737488355328
  e2 : e ≤ 140737488355328
  f2 : f ≤ 140737488355328
  ad : a ≤ d
  be : b ≤ e
  cf : c ≤ f
def pkI (n m lo hi : Int) : Int := if n = m then lo else hi
theorem thin_p (n m lo hi : Int) (w : World) : Calls Try.prog 74 #[.int .i64 n, .int .i64 m, .int .i64 lo, .int .i64 hi] w fun r w' => r = .returned (.int .i64 (pkI n m lo hi)) ∧ Below w.heap.size w w' := calls_bel (thin_c n m lo hi w)
theorem topI_prog2 {n m : Int} (h1 : -140737488355328 ≤ n) (h2 : m ≤ 140737488355328) (h : n ≤ m) : pkI n m (lowI n) (lowI (addI m (-1))) = topI n m := by
  rw [← topI_prog h1 h2 h]; unfold pkI lowI addI; rw [cutI_cut]
def pthinB (n m : Int) : Bool := (n == m) && (cutI n % 65536 == 0)
theorem pthin_ways (n m : Int) : ((n == m) = false ∧ pthinB n m = false) ∨ ((n == m) = true ∧ (cutI n % 65536 == 0) = false ∧ pthinB n m = false) ∨ ((n == m) = true ∧ (cutI n % 65536 == 0) = true ∧ pthinB n m = true) := by
  unfold pthinB
  cases (n == m) <;> cases (cutI n % 65536 == 0) <;> simp
theorem pthin_is {n m : Int} (h1 : -140737488355328 ≤ n) (h2 : n ≤ 140737488355328) : pthinB n m = thinI n m := thinI_prog h1 h2
set_option maxRecDepth 100000 in
set_option maxHeartbeats 8000000 in
theorem span_c (a b c d e f : Int) (hB : BoxOk a b c d e f) (w : World) : Calls Try.prog 71 #[.agg #[.int .i64 a, .int .i64 b, .int .i64 c, .int .i64 d, .int .i64 e, .int .i64 f]] w fun r w' => r = .returned (spanV a b c d e f) ∧ Below w.heap.size w w' := by
  obtain ⟨W, hW⟩ : ∃ W, W = ((w.alloc (.cells #[.int .i64 a, .int .i64 b, .int .i64 c, .int .i64 d, .int .i64 e, .int .i64 f] 28)).alloc (.cells #[.int .i64 0, .int .i64 0, .int .i64 0] 59)).alloc (.cells #[.int .i64 0, .int .i64 0, .int .i64 0] 59) := ⟨_, rfl⟩
  have H : Below w.heap.size w W := by rw [hW]; go_grown
  have A : Blk W w.heap.size 28 #[.int .i64 a, .int .i64 b, .int .i64 c, .int .i64 d, .int .i64 e, .int .i64 f] := by rw [hW]; exact ((Blk.new' rfl).alloc _).alloc _
  have L : Blk W (w.heap.size + 1) 59 #[.int .i64 0, .int .i64 0, .int .i64 0] := by rw [hW]; exact (Blk.new' (by simp)).alloc _
  have T : Blk W (w.heap.size + 1 + 1) 59 #[.int .i64 0, .int .i64 0, .int .i64 0] := by rw [hW]; exact Blk.new' (by simp)
  have hs : W.heap.size = w.heap.size + 3 := by rw [hW]; simp
  obtain ⟨N, hN⟩ : ∃ N, N = w.heap.size := ⟨_, rfl⟩
  rw [← hN] at A L T hs
  have HS := Lib.hid hs
  clear hs
  have HB := Lib.hid hB
  clear hB
  go_enter Try.func71, Try.ntmps71
  go_upto_region 1 with (fail)
  rw [← hW, ← hN]
  have HN := Lib.hid hN
  clear hN hW
  obtain ⟨a0, a1, a2, a3, a4, a5⟩ := A.c6.1
  go_wp2_with fail
  refine (cof_c _ _ _ _).mono ?_; rintro e w1 ⟨rfl, h1⟩
  go_upto_region 2 with (fail)
  generalize hV : World.alloc w1 _ = W1
  have X := Blk.fresh hV.symm
  replace A := A.step h1 hV.symm
  replace L := L.step h1 hV.symm
  replace T := T.step h1 hV.symm
  replace H := step_below H h1 hV.symm
  have hg : N + 3 ≤ w1.heap.size := by rw [← HS.out]; exact h1.size
  clear hV h1 a0 a1 a2 a3 a4 a5
  generalize w1.heap.size = g at X hg ⊢
  obtain ⟨a0, a1, a2, a3, a4, a5⟩ := A.c6.1
  go_wp2_with fail
  refine (add_c _ _ _ _ _ _ _).mono ?_; rintro e w1 ⟨rfl, h1⟩
  go_wp2_with fail
  refine (cof_c _ _ _ _).mono ?_; rintro e w1 ⟨rfl, h2⟩
  replace h1 := after h1 h2
  clear h2
  go_upto_region 3 with (fail)
  generalize hV : World.alloc w1 _ = W2
  have Y := Blk.fresh hV.symm
  replace A := A.step h1 hV.symm
  replace L := L.step h1 hV.symm
  replace T := T.step h1 hV.symm
  have hgX := X.lt
  replace X := X.step h1 hV.symm
  replace H := step_below H h1 hV.symm
  have hg2 : g < w1.heap.size := Nat.lt_of_lt_of_le hgX h1.size
  clear hV h1 hgX a0 a1 a2 a3 a4 a5
  generalize w1.heap.size = g2 at Y hg2 ⊢
  go_upto_region 4 with (fail)
  go_loopw [19] (fun i wr => ∃ k : Nat, k ≤ 3 ∧ i = .int .i64 k ∧ Blk wr N 28 #[.int .i64 a, .int .i64 b, .int .i64 c, .int .i64 d, .int .i64 e, .int .i64 f] ∧ Blk wr (N + 1) 59 #[.int .i64 0, .int .i64 0, .int .i64 0] ∧ Blk wr (N + 1 + 1) 59 #[.int .i64 0, .int .i64 0, .int .i64 0] ∧ 
    Blk wr g 59 #[.int .i64 (lowI a), .int .i64 (lowI b), .int .i64 (lowI c)] ∧ Blk wr g2 59 #[.int .i64 (lowI (addI d (-1))), .int .i64 (lowI (addI e (-1))), .int .i64 (lowI (addI f (-1)))] ∧ Hid (∀ j : Nat, j < k → thinI (axI a b c j) (axI d e f j) = false) ∧ Below w.heap.size w wr) (fun i _ => 3 - (intOf i).toNat)
  case atStart => exact ⟨0, by omega, rfl, A, L, T, X, Y, fun j hj => by omega, H⟩
  case round =>
    clear A L T X Y H
    obtain ⟨k, hk, rfl, A, L, T, X, Y, Z, H⟩ := hrel
    by_cases hk3 : k = 3
    · subst hk3
      have HT := Lib.hid (thin_yes Z.out)
      obtain ⟨k0, k1, k2, k3, k4, k5⟩ := A.re6
      obtain ⟨x0, x1, x2⟩ := X.re3
      obtain ⟨y0, y1, y2⟩ := Y.re3
      go_upto_region 11 with (fail)
      refine wp_sched [0, 0, 0, 0, 0, 0, 0, 0, 0, 0, 0, 0, 0, 0, 0, 0, 0, 0, 0, 0, 0, 0, 0, 0, 0, 0, 0, 0, 0, 0, 0, 0, 0, 0, 0, 0, 1, 3, 1, 3, 1, 3] (fun _ _ _ => True) (by kernel_rfl) (by kernel_rfl) (fun _ _ _ _ h _ => h) ?_
      repeat (first | (refine wpQs_s ?_) | (refine wpQs_q (fun K hK => ?_); go_simp; first | (refine hK _ ?_; clear hK K) | (apply Exists.intro; refine ⟨fun _ => ?_, hK _ ?_⟩; (exact thin_p _ _ _ _ _); clear hK K)) | (refine wpQs_f (fun K hK => ?_); go_simp; refine hK _ ?_; clear hK K))
      refine wpQs_nil ?_
      repeat (first | (refine wpLs_skip ?_) | (refine wpLs_one ?lsA (fun v_ => ?_); case lsA => (intro w_ hw_ hp_; (fail))))
      refine wpLs_nilB ?_
      simp only [tails]
      intro w2 h2 _
      replace A := A.on h2
      replace L := L.on h2
      replace T := T.on h2
      replace X := X.on h2
      replace Y := Y.on h2
      replace H := after H h2
      clear h2 k0 k1 k2 k3 k4 k5 x0 x1 x2 y0 y1 y2
      obtain ⟨y0, y1, y2, f0, f1, f2⟩ := Y.c3
      go_upto_region 12 with (fail)
      generalize h4 : World.setCell (World.setCell (World.setCell w2 _ _) _ _) _ _ = w4
      replace L := Blk.eqw h4 (((L.far (p := ⟨g2, 0, none⟩) (by dsimp only; omega) _).far (p := ⟨g2, 1, none⟩) (by dsimp only; omega) _).far (p := ⟨g2, 2, none⟩) (by dsimp only; omega) _)
      replace T := Blk.eqw h4 (((T.far (p := ⟨g2, 0, none⟩) (by dsimp only; omega) _).far (p := ⟨g2, 1, none⟩) (by dsimp only; omega) _).far (p := ⟨g2, 2, none⟩) (by dsimp only; omega) _)
      replace X := Blk.eqw h4 (((X.far (p := ⟨g2, 0, none⟩) (by dsimp only; omega) _).far (p := ⟨g2, 1, none⟩) (by dsimp only; omega) _).far (p := ⟨g2, 2, none⟩) (by dsimp only; omega) _)
      replace Y := Blk.eqw h4 (Y.st3 _ _ _)
      replace H : Below w.heap.size w w4 := by
        rw [← h4, ← HN.out]; rw [← HN.out] at H
        exact ((H.setCell (p := ⟨g2, 0, none⟩) (by dsimp only; omega) _).setCell (p := ⟨g2, 1, none⟩) (by dsimp only; omega) _).setCell (p := ⟨g2, 2, none⟩) (by dsimp only; omega) _
      clear h4 y0 y1 y2 f0 f1 f2 A
      rw [topI_prog2 HB.out.a1 HB.out.d2 HB.out.ad, topI_prog2 HB.out.b1 HB.out.e2 HB.out.be, topI_prog2 HB.out.c1 HB.out.f2 HB.out.cf] at Y
      have x0 := fun f d os => (X.sp (D := [N + 1, N + 1 + 1]) (by simp; omega) f d os).c3
      have y0 := fun f d os => (Y.sp (D := [N + 1, N + 1 + 1]) (by simp; omega) f d os).c3
      refine wp_two [0, 0, 2, 2, 0] 2 (N + 1) 59 (#[.int .i64 (lowI a), .int .i64 (lowI b), .int .i64 (lowI c)]) 3 (N + 1 + 1) 59 (#[.int .i64 (topI a d), .int .i64 (topI b e), .int .i64 (topI c f)]) (by omega) (by kernel_rfl) (by kernel_rfl) ?_
      repeat (first | (refine wpQs_s ?_) | (refine wpQs_q (fun K hK => ?_); go_simp; first | (refine hK _ ?_; clear hK K) | (apply Exists.intro; refine ⟨fun _ => ?_, hK _ ?_⟩; (fail); clear hK K)) | (refine wpQs_f (fun K hK => ?_); go_simp; refine hK _ ?_; clear hK K))
      refine wpQs_nil ?_
      repeat (refine wpLs_skip ?_)
      refine wpLs_one ?s1 (fun _ => ?_)
      case s1 =>
        intro w_ hw_ hp_
        have L2 := hp_.blk (by simp [Ds2]) L
        obtain ⟨b0, b1, b2, f0, f1, f2⟩ := L2.c3
        go_simp
        exact two_fst (by decide) kept3 (L2.st3 _ _ _)
      refine wpLs_one ?s2 (fun _ => ?_)
      case s2 =>
        intro w_ hw_ hp_
        have T2 := hp_.blk (by simp [Ds2]) T
        obtain ⟨b0, b1, b2, f0, f1, f2⟩ := T2.c3
        go_simp
        exact two_snd (by decide) kept3 (T2.st3 _ _ _)
      refine wpLs_skip ?_
      refine wpLs_nilD ?_
      simp only [tails]
      rintro w1 h1 ⟨⟨-, r1⟩, r2⟩
      obtain ⟨d0, d1, d2, -, -, -⟩ := (r1.1 rfl).c3
      obtain ⟨e0, e1, e2, -, -, -⟩ := (r2.2 rfl).c3
      clear r1 r2
      go_wp2_with fail
      refine bodyPost_ret (v := spanV a b c d e f) (by simp [results, Try.results71, go_sem, d0, d1, d2, e0, e1, e2, HT.out, zI]) rfl ⟨rfl, ?_⟩
      rw [← HN.out] at H ⊢
      exact H.trans (h1.below (by have := H.size; rwa [← HN.out] at this) (fun b hb => by simp; omega))
    · have hlt : k < 3 := by omega
      obtain ⟨k0, k1, k2, k3, k4, k5⟩ := A.re6
      go_upto_region 6 with (fail)
      refine wp_sched [0, 0, 0, 0, 0, 0, 0, 0, 0, 0] (fun _ _ _ => True) (by kernel_rfl) (by kernel_rfl) (fun _ _ _ _ h _ => h) ?_
      repeat (first | (refine wpQs_s ?_) | (refine wpQs_q (fun K hK => ?_); go_simp; first | (refine hK _ ?_; clear hK K) | (apply Exists.intro; refine ⟨fun _ => ?_, hK _ ?_⟩; (exact axis_c _ _ _ _ _); clear hK K)) | (refine wpQs_f (fun K hK => ?_); go_simp; refine hK _ ?_; clear hK K))
      refine wpQs_nil ?_
      repeat (first | (refine wpLs_skip ?_) | (refine wpLs_one ?lsA (fun v_ => ?_); case lsA => (intro w_ hw_ hp_; (fail))))
      refine wpLs_nilB ?_
      simp only [tails]
      intro w2 h2 _
      replace A := A.on h2
      replace L := L.on h2
      replace T := T.on h2
      replace X := X.on h2
      replace Y := Y.on h2
      replace H := after H h2
      clear h2 k0 k1 k2 k3 k4 k5
      have b1 := ax_bd ⟨HB.out.a1, by have := HB.out.ad; have := HB.out.d2; omega⟩ ⟨HB.out.b1, by have := HB.out.be; have := HB.out.e2; omega⟩ ⟨HB.out.c1, by have := HB.out.cf; have := HB.out.f2; omega⟩ k
      have Z1 := fun (h : pthinB (axI a b c k) (axI d e f k) = false) => thin_next Z.out (by rw [← pthin_is b1.1 b1.2]; exact h)
      have Z2 := fun (h : pthinB (axI a b c k) (axI d e f k) = true) => thin_no (a := a) (b := b) (c := c) (d := d) (e := e) (f := f) hlt (by rw [← pthin_is b1.1 b1.2]; exact h)
      go_upto_region 7 with (fail)
      obtain ⟨n, hn⟩ : ∃ n, n = axI a b c k := ⟨_, rfl⟩
      obtain ⟨m, hm⟩ : ∃ m, m = axI d e f k := ⟨_, rfl⟩
      rw [← hn, ← hm] at Z1 Z2 ⊢
      have HNn := Lib.hid hn
      have HMm := Lib.hid hm
      clear hn hm b1
      have hkw := next64 (Nat.le_refl 3) (by decide) hlt
      obtain ⟨l0, l1, l2, lf0, lf1, lf2⟩ := L.c3
      obtain ⟨t0, t1, t2, tf0, tf1, tf2⟩ := T.c3
      rcases pthin_ways n m with ⟨y1, y2⟩ | ⟨y1, y3, y2⟩ | ⟨y1, y3, y2⟩
      · replace Z1 := Lib.hid (Z1 y2)
        clear Z2 y2
        go_wp2_with fail
        go_roundw
        case rel => exact ⟨k + 1, hlt, rfl, A, L, T, X, Y, Z1.out, H⟩
        case measure => exact next_less' hlt
      · replace Z1 := Lib.hid (Z1 y2)
        clear Z2 y2
        go_wp2_with fail
        refine (frac_c _ _).mono ?_; rintro e w1 ⟨rfl, rfl⟩
        go_wp2_with fail
        go_roundw
        case rel => exact ⟨k + 1, hlt, rfl, A, L, T, X, Y, Z1.out, H⟩
        case measure => exact next_less' hlt
      · replace Z2 := Lib.hid (Z2 y2)
        clear Z1 y2
        go_wp2_with fail
        refine (frac_c _ _).mono ?_; rintro e w1 ⟨rfl, rfl⟩
        go_wp2_with fail
        have RL := (L.st3 (.int .i64 0) (.int .i64 0) (.int .i64 0)).far (p := ⟨N + 1 + 1, 0, none⟩) (by dsimp only; omega) (.int .i64 0)
        have RL2 := (RL.far (p := ⟨N + 1 + 1, 1, none⟩) (by dsimp only; omega) (.int .i64 0)).far (p := ⟨N + 1 + 1, 2, none⟩) (by dsimp only; omega) (.int .i64 0)
        have RT := (((T.far (p := ⟨N + 1, 0, none⟩) (by dsimp only; omega) (.int .i64 0)).far (p := ⟨N + 1, 1, none⟩) (by dsimp only; omega) (.int .i64 0)).far (p := ⟨N + 1, 2, none⟩) (by dsimp only; omega) (.int .i64 0)).st3 (.int .i64 0) (.int .i64 0) (.int .i64 0)
        obtain ⟨d0, d1, d2, -, -, -⟩ := RL2.c3
        obtain ⟨e0, e1, e2, -, -, -⟩ := RT.c3
        refine bodyPost_ret (v := spanV a b c d e f) (by simp [results, Try.results71, go_sem, d0, d1, d2, e0, e1, e2, Z2.out, zI]) rfl ⟨rfl, ?_⟩
        rw [← HN.out] at H ⊢
        exact (((((H.setCell (p := ⟨N + 1, 0, none⟩) (by dsimp only; omega) _).setCell (p := ⟨N + 1, 1, none⟩) (by dsimp only; omega) _).setCell (p := ⟨N + 1, 2, none⟩) (by dsimp only; omega) _).setCell (p := ⟨N + 1 + 1, 0, none⟩) (by dsimp only; omega) _).setCell (p := ⟨N + 1 + 1, 1, none⟩) (by dsimp only; omega) _).setCell (p := ⟨N + 1 + 1, 2, none⟩) (by dsimp only; omega) _
end Go.Proofs.Ytckjpiioipkfcaa

/- The cells of a box, in their row: plain lists. No program in sight. -/
namespace Go.Proofs.Ytckjpiioipkfcaa
open Go.RowKit

/-- Whole numbers from the one to the other. -/
def rowL (lo hi : Int) : List Int := (List.range (hi + 1 - lo).toNat).map fun i : Nat => lo + (i : Int)
theorem rowL_nil {lo hi : Int} (h : hi < lo) : rowL lo hi = [] := by
  unfold rowL
  rw [show (hi + 1 - lo).toNat = 0 by omega]; rfl
theorem rowL_cons {lo hi : Int} (h : lo ≤ hi) : rowL lo hi = lo :: rowL (lo + 1) hi := by
  unfold rowL
  rw [show (hi + 1 - lo).toNat = (hi + 1 - (lo + 1)).toNat + 1 by omega, List.range_succ_eq_map]
  simp only [List.map_cons, List.map_map, Int.ofNat_zero, Int.add_zero]
  congr 1
  apply List.map_congr_left
  intro i _
  simp only [Function.comp_apply, Nat.succ_eq_add_one, Int.natCast_add]
  omega
theorem mem_rowL {lo hi n : Int} : n ∈ rowL lo hi ↔ lo ≤ n ∧ n ≤ hi := by
  unfold rowL
  simp only [List.mem_map, List.mem_range]
  constructor
  · rintro ⟨i, h, rfl⟩; omega
  · rintro ⟨h1, h2⟩; exact ⟨(n - lo).toNat, by omega, by omega⟩
theorem rowL_length (lo hi : Int) : (rowL lo hi).length = (hi + 1 - lo).toNat := by simp [rowL]

abbrev Cl := Int × Int × Int
/-- What is still to come, from a cell on: of its row, of its layer, of all. -/
def rest1 (x0 x1 y1 z0 z1 y : Int) : List Cl := (rowL y y1).flatMap fun y => (rowL z0 z1).flatMap fun z => (rowL x0 x1).map fun x => (x, y, z)
def rest2 (x0 x1 y1 z0 z1 y z : Int) : List Cl := ((rowL z z1).flatMap fun z => (rowL x0 x1).map fun x => (x, y, z)) ++ rest1 x0 x1 y1 z0 z1 (y + 1)
def rest3 (x0 x1 y1 z0 z1 y z x : Int) : List Cl := ((rowL x x1).map fun x => (x, y, z)) ++ rest2 x0 x1 y1 z0 z1 y (z + 1)
section
variable {x0 x1 y1 z0 z1 y z x : Int}
theorem rest1_nil (h : y1 < y) : rest1 x0 x1 y1 z0 z1 y = [] := by unfold rest1; rw [rowL_nil h]; rfl
theorem rest1_cons (h : y ≤ y1) : rest1 x0 x1 y1 z0 z1 y = rest2 x0 x1 y1 z0 z1 y z0 := by
  unfold rest2; rw [rest1, rowL_cons h]; rfl
theorem rest2_nil (h : z1 < z) : rest2 x0 x1 y1 z0 z1 y z = rest1 x0 x1 y1 z0 z1 (y + 1) := by unfold rest2; rw [rowL_nil h]; rfl
theorem rest2_cons (h : z ≤ z1) : rest2 x0 x1 y1 z0 z1 y z = rest3 x0 x1 y1 z0 z1 y z x0 := by
  unfold rest3; rw [rest2, rowL_cons h]; simp [rest2, List.append_assoc]
theorem rest3_nil (h : x1 < x) : rest3 x0 x1 y1 z0 z1 y z x = rest2 x0 x1 y1 z0 z1 y (z + 1) := by unfold rest3; rw [rowL_nil h]; rfl
theorem rest3_cons (h : x ≤ x1) : rest3 x0 x1 y1 z0 z1 y z x = (x, y, z) :: rest3 x0 x1 y1 z0 z1 y z (x + 1) := by
  unfold rest3; rw [rowL_cons h]; rfl
end
theorem drop_cons {α : Type} {xs t : List α} {a : α} {i : Nat} (h : xs.drop i = a :: t) : xs[i]? = some a ∧ xs.drop (i + 1) = t ∧ i < xs.length := by
  refine ⟨?_, ?_, ?_⟩
  · have := List.getElem?_drop (xs := xs) (i := i) (j := 0)
    rw [h] at this
    simpa using this.symm
  · rw [← List.tail_drop, h]; rfl
  · rcases Nat.lt_or_ge i xs.length with h' | h'
    · exact h'
    · rw [List.drop_eq_nil_of_le h'] at h; cases h
theorem drop_nil {α : Type} {xs : List α} {i : Nat} (h : xs.drop i = []) (hi : i ≤ xs.length) : i = xs.length := by
  have := List.drop_eq_nil_iff.1 h; omega
/-- All cells of a block of cells. -/
def boxL (x0 x1 y0 y1 z0 z1 : Int) : List Cl := rest1 x0 x1 y1 z0 z1 y0
theorem mem_boxL {x0 x1 y0 y1 z0 z1 : Int} {c : Cl} : c ∈ boxL x0 x1 y0 y1 z0 z1 ↔ (x0 ≤ c.1 ∧ c.1 ≤ x1) ∧ (y0 ≤ c.2.1 ∧ c.2.1 ≤ y1) ∧ z0 ≤ c.2.2 ∧ c.2.2 ≤ z1 := by
  unfold boxL rest1
  simp only [List.mem_flatMap, List.mem_map, mem_rowL]
  constructor
  · rintro ⟨y, hy, z, hz, x, hx, rfl⟩; exact ⟨hx, hy, hz⟩
  · rintro ⟨hx, hy, hz⟩; exact ⟨_, hy, _, hz, _, hx, rfl⟩
theorem flat_len {α β : Type} (l : List α) (f : α → List β) (k : Nat) (h : ∀ a, (f a).length = k) : (l.flatMap f).length = l.length * k := by
  induction l with
  | nil => simp
  | cons a l ih => simp [List.flatMap_cons, h, ih, Nat.succ_mul, Nat.add_comm]
theorem boxL_length (x0 x1 y0 y1 z0 z1 : Int) : (boxL x0 x1 y0 y1 z0 z1).length = (y1 + 1 - y0).toNat * ((z1 + 1 - z0).toNat * (x1 + 1 - x0).toNat) := by
  unfold boxL rest1
  rw [flat_len _ _ ((z1 + 1 - z0).toNat * (x1 + 1 - x0).toNat), rowL_length]
  intro y
  rw [flat_len _ _ (x1 + 1 - x0).toNat, rowL_length]
  intro z
  simp [rowL_length]
end Go.Proofs.Ytckjpiioipkfcaa

/- The cells of a box, one by one: what the iterator owes. -/
namespace Go.Proofs.Ytckjpiioipkfcaa
open Go.RowKit Go.Shelf
attribute [local go_sem] Oper.semAt_some

/-- The cells that a box overlaps. -/
def cellsI (a b c d e f : Int) : List Cl := if isI a b c d e f then boxL (lowI a) (topI a d) (lowI b) (topI b e) (lowI c) (topI c f) else []
abbrev encC (c : Cl) : Array Value := #[.agg #[.int .i64 c.1, .int .i64 c.2.1, .int .i64 c.2.2]]
theorem topI_bd {n m : Int} : -2147483649 ≤ topI n m ∧ topI n m ≤ 2147483648 := by
  have := lowI_bd m
  unfold topI
  split <;> omega
set_option maxRecDepth 100000 in
set_option maxHeartbeats 8000000 in
theorem each_it (B : Nat) (a b c d e f : Int) (hB : BoxOk a b c d e f) (w : World) (hw : Blk w B 28 #[.int .i64 a, .int .i64 b, .int .i64 c, .int .i64 d, .int .i64 e, .int .i64 f]) :
    Iter Try.prog 70 #[.pointer (some ⟨B, 0, none⟩)] encC (cellsI a b c d e f) (· = B) w := by
  intro m l J Jx W hW hJ hJx hY h0
  have A := hW.blk rfl hw
  refine callsIn_of_wp Try.func70 rfl trivial ?_ rfl
  simp only [Try.ntmps70, List.size_toArray, List.length_cons, List.length_nil, Nat.reduceAdd, Nat.reduceSub, Array.replicate_succ, Array.replicate_zero, List.push_toArray, List.append_toArray, List.nil_append, List.cons_append]
  refine wpIn_wide.2 ?_
  obtain ⟨a0, a1, a2, a3, a4, a5⟩ := A.c6.1
  have HB := Lib.hid hB
  clear hB hw hW
  go_upto_region 1 with (go_at_call 71; refine (span_c a b c d e f HB.out _).mono ?_; rintro e_ w1 ⟨rfl, h1⟩)
  have hsz := h1.size
  generalize hV : World.alloc (World.alloc w1 _) _ = W2
  have X : Blk W2 w1.heap.size _ _ := Blk.eqw hV ((Blk.new' rfl).alloc _)
  have Y : Blk W2 (w1.heap.size + 1) _ _ := Blk.eqw hV (Blk.new' (by simp))
  have hz : W2.heap.size = w1.heap.size + 2 := by rw [← hV]; simp
  have hk : Below W.heap.size W W2 := by rw [← hV]; exact (h1.alloc hsz _).alloc (by simp; omega) _
  have hJ2 : ∀ Z, J Z 0 W2 := fun Z => hJ Z 0 W W2 (h0 Z) (Kept.of_below hk)
  clear hV hk h0 A a0 a1 a2 a3 a4 a5 h1
  generalize w1.heap.size = g at X Y hsz hz ⊢
  cases his : isI a b c d e f
  · have hx : cellsI a b c d e f = [] := by unfold cellsI; rw [his]; rfl
    have HX := Lib.hid hx
    obtain ⟨x0, x1, x2, -, -, -⟩ := X.c3
    clear hx X Y
    go_upto_region 2 with (fail)
    refine (wpIn_wide (n := m + 1)).1 ?_
    gi_loopw [6] (fun _ wr => J W2.heap.size 0 wr) (fun _ _ => 0)
    case atStart => exact hJ2 _
    case round =>
      gi_wp2
      go_end0
      exact ⟨⟨_, rfl⟩, W2.heap.size, by omega, .inl (by rw [HX.out]; exact hrel)⟩
  · rw [his] at X Y
    have hx : cellsI a b c d e f = rest1 (lowI a) (topI a d) (topI b e) (lowI c) (topI c f) (lowI b) := by unfold cellsI; rw [his, if_pos rfl]; rfl
    have HX := Lib.hid hx
    have HIS := Lib.hid his
    have HZ := Lib.hid hz
    clear hx his hz
    simp only [zI, if_true] at X Y
    obtain ⟨x0, x1, x2, -, -, -⟩ := X.c3
    obtain ⟨y0, y1, y2, -, -, -⟩ := Y.c3
    go_upto_region 2 with (fail)
    refine (wpIn_wide (n := m + 1)).1 ?_
    have lb := lowI_bd b
    have lc := lowI_bd c
    have la := lowI_bd a
    have tb := topI_bd (n := b) (m := e)
    have tc := topI_bd (n := c) (m := f)
    have ta := topI_bd (n := a) (m := d)
    have q1 := topI_low HB.out.b1 HB.out.e2 HB.out.be
    have q2 := topI_low HB.out.c1 HB.out.f2 HB.out.cf
    have q3 := topI_low HB.out.a1 HB.out.d2 HB.out.ad
    gi_loopw [6] (fun v wr => ∃ (y : Int) (i : Nat), v = .int .i64 y ∧ lowI b ≤ y ∧ y ≤ topI b e + 1 ∧ Hid ((cellsI a b c d e f).drop i = rest1 (lowI a) (topI a d) (topI b e) (lowI c) (topI c f) y) ∧ Hid (i ≤ (cellsI a b c d e f).length) ∧
      Blk wr g 59 #[.int .i64 (lowI a), .int .i64 (lowI b), .int .i64 (lowI c)] ∧ Blk wr (g + 1) 59 #[.int .i64 (topI a d), .int .i64 (topI b e), .int .i64 (topI c f)] ∧ Hid (g + 2 ≤ wr.heap.size) ∧ J (g + 2) i wr) (fun v _ => (topI b e + 1 - intOf v).toNat)
    case atStart => exact ⟨_, 0, rfl, Int.le_refl _, by omega, by rw [List.drop_zero]; exact HX.out, Nat.zero_le _, X, Y, Nat.le_of_eq HZ.out.symm, hJ2 _⟩
    case round =>
      clear X Y hJ2 x0 x1 x2 y0 y1 y2
      obtain ⟨y, i, rfl, hy1, hy2, hd, hil, X, Y, hsz2, hj⟩ := hrel
      obtain ⟨x0, x1, x2, -, -, -⟩ := X.c3
      obtain ⟨y0, y1, y2, -, -, -⟩ := Y.c3
      by_cases hy : y ≤ topI b e
      · have hd1 := Lib.hid (hd.out.trans (rest1_cons hy))
        gi_wp2
        obtain ⟨wo, rfl⟩ : ∃ wo : World, wo = wr := ⟨_, rfl⟩
        gi_loopw [7] (fun v wr => ∃ (z : Int) (i : Nat), v = .int .i64 z ∧ lowI c ≤ z ∧ z ≤ topI c f + 1 ∧ Hid ((cellsI a b c d e f).drop i = rest2 (lowI a) (topI a d) (topI b e) (lowI c) (topI c f) y z) ∧ Hid (i ≤ (cellsI a b c d e f).length) ∧
          Blk wr g 59 #[.int .i64 (lowI a), .int .i64 (lowI b), .int .i64 (lowI c)] ∧ Blk wr (g + 1) 59 #[.int .i64 (topI a d), .int .i64 (topI b e), .int .i64 (topI c f)] ∧ Hid (g + 2 ≤ wr.heap.size) ∧ J (g + 2) i wr) (fun v _ => (topI c f + 1 - intOf v).toNat)
        case atStart => exact ⟨_, i, rfl, Int.le_refl _, by omega, hd1.out, hil.out, X, Y, hsz2.out, hj⟩
        case round =>
          clear X Y x0 x1 x2 y0 y1 y2 hd hil hsz2 hj hd1
          obtain ⟨z, i, rfl, hz1, hz2, hd, hil, X, Y, hsz2, hj⟩ := hrel
          obtain ⟨x0, x1, x2, -, -, -⟩ := X.c3
          obtain ⟨y0, y1, y2, -, -, -⟩ := Y.c3
          by_cases hzt : z ≤ topI c f
          · have hd1 := Lib.hid (hd.out.trans (rest2_cons hzt))
            gi_wp2
            obtain ⟨wo2, rfl⟩ : ∃ wo : World, wo = wr := ⟨_, rfl⟩
            gi_loopw [8] (fun v wr => ∃ (x : Int) (i : Nat), v = .int .i64 x ∧ lowI a ≤ x ∧ x ≤ topI a d + 1 ∧ Hid ((cellsI a b c d e f).drop i = rest3 (lowI a) (topI a d) (topI b e) (lowI c) (topI c f) y z x) ∧ Hid (i ≤ (cellsI a b c d e f).length) ∧
              Blk wr g 59 #[.int .i64 (lowI a), .int .i64 (lowI b), .int .i64 (lowI c)] ∧ Blk wr (g + 1) 59 #[.int .i64 (topI a d), .int .i64 (topI b e), .int .i64 (topI c f)] ∧ Hid (g + 2 ≤ wr.heap.size) ∧ J (g + 2) i wr) (fun v _ => (topI a d + 1 - intOf v).toNat)
            case atStart => exact ⟨_, i, rfl, Int.le_refl _, by omega, hd1.out, hil.out, X, Y, hsz2.out, hj⟩
            case round =>
              clear X Y x0 x1 x2 y0 y1 y2 hd hil hsz2 hj hd1
              obtain ⟨x, i, rfl, hx1, hx2, hd, hil, X, Y, hsz2, hj⟩ := hrel
              obtain ⟨x0, x1, x2, -, -, -⟩ := X.c3
              obtain ⟨y0, y1, y2, -, -, -⟩ := Y.c3
              by_cases hxt : x ≤ topI a d
              · obtain ⟨c1, c2, c3⟩ := drop_cons (hd.out.trans (rest3_cons hxt))
                obtain ⟨fn, tmps, assign, body, hy', hR⟩ := hY (g + 2) i (x, y, z) wr (by omega) hsz2.out c1 hj
                have C2 := Lib.hid c2
                have C3 := Lib.hid c3
                clear c1 c2 c3
                gi_wp2
                refine hR.mono ?_
                rintro e_ W3 (⟨rfl, hj3, hk3⟩ | ⟨rfl, hjx3⟩)
                · replace X := hk3.blk (.inl ⟨hsz, by omega⟩) X
                  replace Y := hk3.blk (.inl ⟨by omega, by omega⟩) Y
                  have hsz3 := Lib.hid (Nat.le_trans hsz2.out hk3.size)
                  gi_wp2
                  go_roundw
                  case rel => exact ⟨x + 1, i + 1, rfl, by omega, by omega, C2.out, C3.out, X, Y, hsz3.out, hj3⟩
                  case measure => simp [intOf]; omega
                · gi_wp2
                  refine bodyPost_ret (results_none rfl _ _ _) rfl ?_
                  exact ⟨⟨_, rfl⟩, g + 2, by omega, .inr ⟨i, C3.out, hjx3⟩⟩
              · have hd1 := Lib.hid (hd.out.trans (rest3_nil (by omega)))
                gi_wp2
                go_roundw
                case rel => exact ⟨z + 1, i, rfl, by omega, by omega, hd1.out, hil.out, X, Y, hsz2.out, hj⟩
                case measure => simp [intOf]; omega
          · have hd1 := Lib.hid (hd.out.trans (rest2_nil (by omega)))
            gi_wp2
            go_roundw
            case rel => exact ⟨y + 1, i, rfl, by omega, by omega, hd1.out, hil.out, X, Y, hsz2.out, hj⟩
            case measure => simp [intOf]; omega
      · gi_wp2
        go_end0
        exact ⟨⟨_, rfl⟩, g + 2, by omega, .inl (by rw [← drop_nil (hd.out.trans (rest1_nil (by omega))) hil.out]; exact hj)⟩
end Go.Proofs.Ytckjpiioipkfcaa

/- The first cell of a box that is so. -/
namespace Go.Proofs.Ytckjpiioipkfcaa
open Go.RowKit Go.Shelf
attribute [local go_sem] Oper.semAt_some

theorem peach_c (a b c d e f : Int) (w : World) : Calls Try.prog 66 #[.agg #[.int .i64 a, .int .i64 b, .int .i64 c, .int .i64 d, .int .i64 e, .int .i64 f]] w fun r w' =>
    r = .returned (.func (.func 70) #[] #[.pointer (some ⟨w.heap.size, 0, none⟩)]) ∧ w' = w.alloc (.cells #[.int .i64 a, .int .i64 b, .int .i64 c, .int .i64 d, .int .i64 e, .int .i64 f] 28) := by
  have hmf : ∀ (fn : Fn) (first cap : Array Value) (w : World), (Instr.makeFunc fn first cap).run Try.prog w = .ok (.func fn first cap) w := fun _ _ _ _ => rfl
  go_enter Try.func66, Try.ntmps66
  go_wp2_with fail
  go_returns
  exact ⟨rfl, rfl⟩
theorem find_no {α : Type} {l : List α} {q : α → Bool} (h : ∀ j x, j < l.length → l[j]? = some x → q x = false) : l.find? q = none := by
  rw [List.find?_eq_none]
  intro x hx
  obtain ⟨j, hj, e⟩ := List.mem_iff_getElem.1 hx
  rw [h j x hj (by rw [List.getElem?_eq_getElem hj, e])]; decide
theorem find_at {α : Type} {q : α → Bool} {x : α} : ∀ {l : List α} {i : Nat}, l[i]? = some x → q x = true → (∀ j y, j < i → l[j]? = some y → q y = false) → l.find? q = some x := by
  intro l
  induction l with
  | nil => intro i h; cases h
  | cons a l ih =>
    intro i h hq hn
    cases i with
    | zero =>
      obtain rfl : a = x := by simpa using h
      rw [List.find?_cons_of_pos hq]
    | succ i =>
      have ha := hn 0 a (by omega) rfl
      rw [List.find?_cons_of_neg (by rw [ha]; decide)]
      exact ih (by simpa using h) hq (fun j y hj hy => hn (j + 1) y (by omega) (by simpa using hy))
/-- The first cell of which it is so; none. -/
def findV (o : Option Cl) : Value := match o with
  | some c => .tuple #[.agg #[.int .i64 c.1, .int .i64 c.2.1, .int .i64 c.2.2], .bool true]
  | none => .tuple #[.agg #[.int .i64 0, .int .i64 0, .int .i64 0], .bool false]
/-- A view's word: it tells val, and makes only new memory. -/
def Tells (P : Program) (V : FuncId) (lb : Array Value) (val : Cl → Int) (w : World) : Prop :=
  ∀ c W, Below w.heap.size w W → Calls P V (#[.agg #[.int .i64 c.1, .int .i64 c.2.1, .int .i64 c.2.2]] ++ lb) W fun r W' => r = .returned (.int .i64 (val c)) ∧ Below W.heap.size W W'
def Says (P : Program) (G : FuncId) (lb : Array Value) (p : Int → Bool) (w : World) : Prop :=
  ∀ n W, Below w.heap.size w W → Calls P G (#[.int .i64 n] ++ lb) W fun r W' => r = .returned (.bool (p n)) ∧ Below W.heap.size W W'
set_option maxRecDepth 100000 in
set_option maxHeartbeats 8000000 in
theorem find_c (V G : FuncId) (lv lg : Array Value) (val : Cl → Int) (p : Int → Bool) (a b c d e f : Int) (hB : BoxOk a b c d e f) (w : World)
    (eV : ∀ args w, (callFunc V args).run Try.prog w = .ok (.enter V args) w) (eG : ∀ args w, (callFunc G args).run Try.prog w = .ok (.enter G args) w) (hV : Tells Try.prog V lv val w) (hG : Says Try.prog G lg p w) :
    Calls Try.prog 62 #[.func (.func V) #[] lv, .agg #[.int .i64 a, .int .i64 b, .int .i64 c, .int .i64 d, .int .i64 e, .int .i64 f], .func (.func G) #[] lg] w fun r w' =>
      r = .returned (findV ((cellsI a b c d e f).find? fun x => p (val x))) ∧ Below w.heap.size w w' := by
  have HV := Lib.hid hV
  have HG := Lib.hid hG
  clear hV hG
  obtain ⟨W, hW⟩ : ∃ W, W = ((((w.alloc (.cells #[.func (.func V) #[] lv] 31)).alloc (.cells #[.int .i64 a, .int .i64 b, .int .i64 c, .int .i64 d, .int .i64 e, .int .i64 f] 28)).alloc (.cells #[.func (.func G) #[] lg] 72)).alloc (.cells #[.int .i64 0, .int .i64 0, .int .i64 0] 59)).alloc (.cells #[.bool false] 4) := ⟨_, rfl⟩
  have H : Below w.heap.size w W := by rw [hW]; go_grown
  have b0 : Blk W w.heap.size 31 #[.func (.func V) #[] lv] := by rw [hW]; exact ((((Blk.new' rfl).alloc _).alloc _).alloc _).alloc _
  have b1 : Blk W (w.heap.size + 1) 28 #[.int .i64 a, .int .i64 b, .int .i64 c, .int .i64 d, .int .i64 e, .int .i64 f] := by rw [hW]; exact (((Blk.new' (by simp)).alloc _).alloc _).alloc _
  have b2 : Blk W (w.heap.size + 1 + 1) 72 #[.func (.func G) #[] lg] := by rw [hW]; exact ((Blk.new' (by simp)).alloc _).alloc _
  have b3 : Blk W (w.heap.size + 1 + 1 + 1) 59 #[.int .i64 0, .int .i64 0, .int .i64 0] := by rw [hW]; exact (Blk.new' (by simp)).alloc _
  have b4 : Blk W (w.heap.size + 1 + 1 + 1 + 1) 4 #[.bool false] := by rw [hW]; exact Blk.new' (by simp)
  have hs : W.heap.size = w.heap.size + 5 := by rw [hW]; simp
  obtain ⟨N, hN⟩ : ∃ N, N = w.heap.size := ⟨_, rfl⟩
  rw [← hN] at b0 b1 b2 b3 b4 hs
  refine (callsIn_wide (n := 5)).1 (callsIn_of_wp_marks Try.func62 rfl trivial ?_ rfl)
  refine wpIn_wide.2 ?_
  simp only [Try.ntmps62, List.size_toArray, List.length_cons, List.length_nil, Nat.reduceAdd, Nat.reduceSub, Array.replicate_succ, Array.replicate_zero, List.push_toArray, List.append_toArray, List.nil_append, List.cons_append]
  go_upto_region 1 with (fail)
  rw [← hW, ← hN]
  have HN := Lib.hid hN
  have HS0 := Lib.hid hs
  clear hW hN hs
  obtain ⟨a0, a1, a2, a3, a4, a5⟩ := b1.c6.1
  go_wp2_with (go_at_call 66; refine (peach_c _ _ _ _ _ _ _).mono ?_; rintro e_ w1 ⟨rfl, rfl⟩)
  generalize hV : World.alloc W _ = W1
  have bE : Blk W1 W.heap.size 28 #[.int .i64 a, .int .i64 b, .int .i64 c, .int .i64 d, .int .i64 e, .int .i64 f] := Blk.eqw hV (Blk.new' rfl)
  replace b0 := Blk.eqw hV (b0.alloc _)
  replace b1 := Blk.eqw hV (b1.alloc _)
  replace b2 := Blk.eqw hV (b2.alloc _)
  replace b3 := Blk.eqw hV (b3.alloc _)
  replace b4 := Blk.eqw hV (b4.alloc _)
  replace H : Below w.heap.size w W1 := by rw [← hV]; exact H.alloc H.size _
  have hs1 : W1.heap.size = N + 6 := by rw [← hV]; simp [HS0.out]
  rw [HS0.out] at bE ⊢
  clear hV a0 a1 a2 a3 a4 a5
  have HS := Lib.hid hs1
  clear hs1 HS0
  refine wp_range (m := 3) (gf := 70) (lb := #[.pointer (some ⟨N + 5, 0, none⟩)]) rfl (enters_of Try.func70 (by kernel_rfl) rfl) (each_it (N + 5) a b c d e f hB W1 bE) (fun b hb => by rw [hb]; exact bE.lt) (fun _ => rfl)
    (fun Z i A => Hid (∀ j x, j < i → (cellsI a b c d e f)[j]? = some x → p (val x) = false) ∧ Blk A N 31 #[.func (.func V) #[] lv] ∧ Blk A (N + 1 + 1) 72 #[.func (.func G) #[] lg] ∧ Blk A (N + 1 + 1 + 1) 59 #[.int .i64 0, .int .i64 0, .int .i64 0] ∧ Blk A (N + 1 + 1 + 1 + 1) 4 #[.bool false] ∧ Below w.heap.size w A)
    (fun Z k i A => k = .ret ∧ Hid (∀ j x, j < i → (cellsI a b c d e f)[j]? = some x → p (val x) = false) ∧ ∃ x, Hid ((cellsI a b c d e f)[i]? = some x ∧ p (val x) = true) ∧ Blk A (N + 1 + 1 + 1) 59 #[.int .i64 x.1, .int .i64 x.2.1, .int .i64 x.2.2] ∧ Blk A (N + 1 + 1 + 1 + 1) 4 #[.bool true] ∧ Below w.heap.size w A)
    ?_ ?_ (fun Z => ⟨fun j x h => by omega, b0, b2, b3, b4, H⟩) ?round ?done ?stop
  · rintro Z i A B ⟨h1, h2, h3, h4, h5, h6⟩ hk
    have lt : ∀ n, n < 6 → ¬ Priv W1.heap.size Z (N + n) := fun n hn h => by have := h.1; rw [HS.out] at this; omega
    exact ⟨h1, hk.blk (lt 0 (by omega)) h2, hk.blk (lt 2 (by omega)) h3, hk.blk (lt 3 (by omega)) h4, hk.blk (lt 4 (by omega)) h5, h6.trans (hk.below h6.size (fun b hb h => by have := h.1; rw [HS.out] at this; rw [← HN.out] at hb; omega))⟩
  · rintro Z k i A B ⟨h1, h2, x, h3, h4, h5, h6⟩ hk
    have lt : ∀ n, n < 6 → ¬ Priv W1.heap.size Z (N + n) := fun n hn h => by have := h.1; rw [HS.out] at this; omega
    exact ⟨h1, h2, x, h3, hk.blk (lt 3 (by omega)) h4, hk.blk (lt 4 (by omega)) h5, h6.trans (hk.below h6.size (fun b hb h => by have := h.1; rw [HS.out] at this; rw [← HN.out] at hb; omega))⟩
  case round =>
    rintro Z l i x A rfl hZ1 hZ2 hx ⟨h1, h2, h3, h4, h5, h6⟩
    clear b0 b1 b2 b3 b4 H bE
    gi_wp2
    refine ⟨(Kept.refl _ _).alloc _, fun A2 hA2 hz2 => ?_⟩
    have hs2 : A2.heap.size = A.heap.size + 1 := by rw [hz2]; simp
    have hs1 := HS.out
    have keep : ∀ n t cs, n < 6 → Blk A (N + n) t cs → Blk A2 (N + n) t cs := fun n t cs hn h => hA2.blk (show N + n ≠ W1.heap.size + 1 by omega) (h.alloc _)
    replace h2 : Blk A2 N 31 #[.func (.func V) #[] lv] := keep 0 _ _ (by omega) h2
    replace h3 : Blk A2 (N + 1 + 1) 72 #[.func (.func G) #[] lg] := keep 2 _ _ (by omega) h3
    replace h4 : Blk A2 (N + 1 + 1 + 1) 59 #[.int .i64 0, .int .i64 0, .int .i64 0] := keep 3 _ _ (by omega) h4
    replace h5 : Blk A2 (N + 1 + 1 + 1 + 1) 4 #[.bool false] := keep 4 _ _ (by omega) h5
    have X : Blk A2 A.heap.size 59 #[.int .i64 x.1, .int .i64 x.2.1, .int .i64 x.2.2] := hA2.blk (show A.heap.size ≠ W1.heap.size + 1 by omega) (Blk.new' rfl)
    have hw2 : w.heap.size ≤ W1.heap.size := by rw [hs1, ← HN.out]; omega
    replace h6 : Below w.heap.size w A2 := (h6.alloc h6.size _).trans (hA2.below (by simp; omega) (fun b hb => by omega))
    have HX := Lib.hid hx
    have H1 := Lib.hid h1
    have HZ := Lib.hid (And.intro hZ1 hZ2)
    have HS2 := Lib.hid hs2
    clear hA2 hz2 keep hx h1 hZ1 hZ2 hs2 hs1 hw2
    have k0 := fun d os => (h2.re d os).cell 0
    have k2 := fun d os => (h3.re d os).cell 0
    obtain ⟨x0, x1, x2⟩ := X.re3
    generalize A.heap.size = gx at X HS2 HZ x0 x1 x2 ⊢
    cases hp : p (val x)
    · have HG1 : ∀ d os, Calls Try.prog G (#[.int .i64 (val x)] ++ lg) (Go.Sort.grow (redrawn A2 d) os) fun r W' => r = .returned (.bool false) ∧ Below (Go.Sort.grow (redrawn A2 d) os).heap.size (Go.Sort.grow (redrawn A2 d) os) W' := fun d os => by
        have := HG.out (val x) (Go.Sort.grow (redrawn A2 d) os) (h6.trans ((below_regrown A2 d os).mono h6.size)); rwa [hp] at this
      have HV1 : ∀ d os, Calls Try.prog V (#[.agg #[.int .i64 x.1, .int .i64 x.2.1, .int .i64 x.2.2]] ++ lv) (Go.Sort.grow (redrawn A2 d) os) fun r W' => r = .returned (.int .i64 (val x)) ∧ Below (Go.Sort.grow (redrawn A2 d) os).heap.size (Go.Sort.grow (redrawn A2 d) os) W' := fun d os =>
        HV.out x (Go.Sort.grow (redrawn A2 d) os) (h6.trans ((below_regrown A2 d os).mono h6.size))
      have HP := Lib.hid hp
      replace HG1 := Lib.hid HG1
      replace HV1 := Lib.hid HV1
      clear hp
      gi_wp2
      refine in_sched [0, 0, 0, 0, 0] (fun _ _ _ => True) (by kernel_rfl) (by kernel_rfl) (fun _ _ _ _ h _ => h) (by kernel_rfl) (fun ⟨_, _, h⟩ => h) ?_
      repeat (first | (refine wpQs_s ?_) | (refine wpQs_q (fun K hK => ?_); go_simp; first | (refine hK _ ?_; clear hK K) | (apply Exists.intro; refine ⟨fun _ => ?_, hK _ ?_⟩; (first | exact HV1.out _ _ | exact HG1.out _ _); clear hK K)) | (refine wpQs_f (fun K hK => ?_); go_simp; refine hK _ ?_; clear hK K))
      refine wpQs_nil ?_
      repeat (first | (refine wpLs_skip ?_) | (refine wpLs_one ?lsA (fun v_ => ?_); case lsA => (intro w_ hw_ hp_; (fail))))
      refine wpLs_nilB ?_
      simp only [tails]
      intro w3 h7 _
      simp only [wpList, Exit.then]
      go_at_K
      gi_wp2
      exact ⟨Kept.of_below h7, fun j y hj hy => (by
        rcases Nat.lt_or_eq_of_le (Nat.le_of_lt_succ hj) with e | e
        · exact H1.out j y e hy
        · subst e; rw [HX.out] at hy; obtain rfl := Option.some.inj hy; exact HP.out), h2.on h7, h3.on h7, h4.on h7, h5.on h7, after h6 h7⟩
    · have HG1 : ∀ d os, Calls Try.prog G (#[.int .i64 (val x)] ++ lg) (Go.Sort.grow (redrawn A2 d) os) fun r W' => r = .returned (.bool true) ∧ Below (Go.Sort.grow (redrawn A2 d) os).heap.size (Go.Sort.grow (redrawn A2 d) os) W' := fun d os => by
        have := HG.out (val x) (Go.Sort.grow (redrawn A2 d) os) (h6.trans ((below_regrown A2 d os).mono h6.size)); rwa [hp] at this
      have HV1 : ∀ d os, Calls Try.prog V (#[.agg #[.int .i64 x.1, .int .i64 x.2.1, .int .i64 x.2.2]] ++ lv) (Go.Sort.grow (redrawn A2 d) os) fun r W' => r = .returned (.int .i64 (val x)) ∧ Below (Go.Sort.grow (redrawn A2 d) os).heap.size (Go.Sort.grow (redrawn A2 d) os) W' := fun d os =>
        HV.out x (Go.Sort.grow (redrawn A2 d) os) (h6.trans ((below_regrown A2 d os).mono h6.size))
      have HP := Lib.hid hp
      replace HG1 := Lib.hid HG1
      replace HV1 := Lib.hid HV1
      clear hp
      gi_wp2
      refine in_sched [0, 0, 0, 0, 0] (fun _ _ _ => True) (by kernel_rfl) (by kernel_rfl) (fun _ _ _ _ h _ => h) (by kernel_rfl) (fun ⟨_, _, h⟩ => h) ?_
      repeat (first | (refine wpQs_s ?_) | (refine wpQs_q (fun K hK => ?_); go_simp; first | (refine hK _ ?_; clear hK K) | (apply Exists.intro; refine ⟨fun _ => ?_, hK _ ?_⟩; (first | exact HV1.out _ _ | exact HG1.out _ _); clear hK K)) | (refine wpQs_f (fun K hK => ?_); go_simp; refine hK _ ?_; clear hK K))
      refine wpQs_nil ?_
      repeat (first | (refine wpLs_skip ?_) | (refine wpLs_one ?lsA (fun v_ => ?_); case lsA => (intro w_ hw_ hp_; (fail))))
      refine wpLs_nilB ?_
      simp only [tails]
      intro w3 h7 _
      replace X := X.on h7
      replace h4 := h4.on h7
      replace h5 := h5.on h7
      clear x0 x1 x2
      obtain ⟨x0, x1, x2, -, -, -⟩ := X.c3
      obtain ⟨r0, r1, r2, f0, f1, f2⟩ := h4.c3
      obtain ⟨s0, g0⟩ := h5.c1
      simp only [wpList, Exit.then]
      go_at_K
      gi_wp2
      have hs1 := HS.out
      have n3 : ¬ Keeps W1.heap.size Z (· = N + 5) (N + 1 + 1 + 1) := fun h => by rcases h with h | h; exact absurd h.1 (by omega); exact absurd (show N + 1 + 1 + 1 = N + 5 from h) (by omega)
      have n4 : ¬ Keeps W1.heap.size Z (· = N + 5) (N + 1 + 1 + 1 + 1) := fun h => by rcases h with h | h; exact absurd h.1 (by omega); exact absurd (show N + 1 + 1 + 1 + 1 = N + 5 from h) (by omega)
      refine ⟨((((Kept.of_below h7).setCell (p := ⟨N + 1 + 1 + 1, 0, none⟩) n3 _).setCell (p := ⟨N + 1 + 1 + 1, 1, none⟩) n3 _).setCell (p := ⟨N + 1 + 1 + 1, 2, none⟩) n3 _).setCell (p := ⟨N + 1 + 1 + 1 + 1, 0, none⟩) n4 _, rfl, H1.out, x, ⟨HX.out, HP.out⟩,
        (h4.st3 _ _ _).far (by dsimp only; omega) _, (((h5.far (p := ⟨N + 1 + 1 + 1, 0, none⟩) (by dsimp only; omega) _).far (p := ⟨N + 1 + 1 + 1, 1, none⟩) (by dsimp only; omega) _).far (p := ⟨N + 1 + 1 + 1, 2, none⟩) (by dsimp only; omega) _).set_ 0 _, ?_⟩
      replace h6 := after h6 h7
      rw [← HN.out] at h6 ⊢
      exact (((h6.setCell (p := ⟨N + 1 + 1 + 1, 0, none⟩) (by dsimp only; omega) _).setCell (p := ⟨N + 1 + 1 + 1, 1, none⟩) (by dsimp only; omega) _).setCell (p := ⟨N + 1 + 1 + 1, 2, none⟩) (by dsimp only; omega) _).setCell (p := ⟨N + 1 + 1 + 1 + 1, 0, none⟩) (by dsimp only; omega) _
  case done =>
    rintro Z A ⟨h1, -, -, h4, h5, h6⟩ hK
    clear b0 b1 b2 b3 b4 H bE
    obtain ⟨r0, r1, r2, f0, f1, f2⟩ := h4.c3
    obtain ⟨s0, g0⟩ := h5.c1
    have HK := Lib.hid hK
    clear hK
    go_wp2_with fail
    have hs1 := HS.out
    have hf : (cellsI a b c d e f).find? (fun x => p (val x)) = none := find_no h1.out
    have e4 := ((h4.st3 (.int .i64 0) (.int .i64 0) (.int .i64 0)).far (p := ⟨N + 1 + 1 + 1 + 1, 0, none⟩) (by dsimp only; omega) (.bool false)).putObj (D := W1.heap.size) (by omega) (.deferred none)
    have e5 := (((h5.far (p := ⟨N + 1 + 1 + 1, 0, none⟩) (by dsimp only; omega) (.int .i64 0)).far (p := ⟨N + 1 + 1 + 1, 1, none⟩) (by dsimp only; omega) (.int .i64 0)).far (p := ⟨N + 1 + 1 + 1, 2, none⟩) (by dsimp only; omega) (.int .i64 0)).set_ 0 (.bool false)
    obtain ⟨d0, d1, d2, -, -, -⟩ := e4.c3
    obtain ⟨d3, -⟩ := (e5.putObj (D := W1.heap.size) (by omega) (.deferred none)).c1
    have hK' := def_far (p := ⟨N + 1 + 1 + 1 + 1, 0, none⟩) (u := .bool false) (def_far (p := ⟨N + 1 + 1 + 1, 2, none⟩) (u := .int .i64 0) (def_far (p := ⟨N + 1 + 1 + 1, 1, none⟩) (u := .int .i64 0) (def_far (p := ⟨N + 1 + 1 + 1, 0, none⟩) (u := .int .i64 0) HK.out (by dsimp only; omega)) (by dsimp only; omega)) (by dsimp only; omega)) (by dsimp only; omega)
    refine leave_mark hK' (v := findV none) (by simp [results, Try.f62, go_sem, findV, d0, d1, d2, d3]) ⟨by rw [hf], ?_⟩
    rw [← HN.out] at h6 ⊢
    exact putObj_below ((((h6.setCell (p := ⟨N + 1 + 1 + 1, 0, none⟩) (by dsimp only; omega) _).setCell (p := ⟨N + 1 + 1 + 1, 1, none⟩) (by dsimp only; omega) _).setCell (p := ⟨N + 1 + 1 + 1, 2, none⟩) (by dsimp only; omega) _).setCell (p := ⟨N + 1 + 1 + 1 + 1, 0, none⟩) (by dsimp only; omega) _) (by omega) _
  case stop =>
    rintro Z k i A hi ⟨rfl, h1, x, hx, h4, h5, h6⟩ hK
    clear b0 b1 b2 b3 b4 H bE
    obtain ⟨r0, r1, r2, -, -, -⟩ := h4.c3
    obtain ⟨s0, g0⟩ := h5.c1
    have HK := Lib.hid hK
    clear hK
    go_wp2_with fail
    have hs1 := HS.out
    have hf : (cellsI a b c d e f).find? (fun x => p (val x)) = some x := find_at hx.out.1 hx.out.2 h1.out
    obtain ⟨d0, d1, d2, -, -, -⟩ := (h4.putObj (D := W1.heap.size) (by omega) (.deferred none)).c3
    obtain ⟨d3, -⟩ := (h5.putObj (D := W1.heap.size) (by omega) (.deferred none)).c1
    refine leave_mark HK.out (v := findV (some x)) (by simp [results, Try.f62, go_sem, findV, d0, d1, d2, d3]) ⟨by rw [hf], ?_⟩
    rw [← HN.out] at h6 ⊢
    exact putObj_below h6 (by omega) _
end Go.Proofs.Ytckjpiioipkfcaa

/- Blocks: which are solid, wet, climbed; rows of ints. -/
namespace Go.Proofs.Ytckjpiioipkfcaa
open Go.RowKit

def solB (n : Int) : Bool := n == -1 || n == 1 || n == 2 || n == 3 || n == 5
def wetB (n : Int) : Bool := decide (8 ≤ n) && decide (n ≤ 15)
def cliB (n : Int) : Bool := n == 4
theorem sol_ways (n : Int) : ((n == -1) = true ∧ solB n = true) ∨ ((n == -1) = false ∧ (n == 1) = true ∧ solB n = true) ∨ ((n == -1) = false ∧ (n == 1) = false ∧ (n == 2) = true ∧ solB n = true) ∨
    ((n == -1) = false ∧ (n == 1) = false ∧ (n == 2) = false ∧ (n == 3) = true ∧ solB n = true) ∨ ((n == -1) = false ∧ (n == 1) = false ∧ (n == 2) = false ∧ (n == 3) = false ∧ (n == 5) = true ∧ solB n = true) ∨
    ((n == -1) = false ∧ (n == 1) = false ∧ (n == 2) = false ∧ (n == 3) = false ∧ (n == 5) = false ∧ solB n = false) := by
  unfold solB
  cases (n == -1) <;> cases (n == 1) <;> cases (n == 2) <;> cases (n == 3) <;> cases (n == 5) <;> simp
theorem wet_ways (n : Int) : (decide (8 ≤ n) = false ∧ wetB n = false) ∨ (decide (8 ≤ n) = true ∧ decide (n ≤ 15) = true ∧ decide (n < 16) = true ∧ wetB n = true) ∨ (decide (8 ≤ n) = true ∧ decide (n ≤ 15) = false ∧ decide (n < 16) = false ∧ wetB n = false) := by
  unfold wetB
  by_cases h1 : 8 ≤ n <;> by_cases h2 : n ≤ 15 <;> simp [h1, h2] <;> omega
theorem solid_c (n : Int) (w : World) : Calls Try.prog 52 #[.int .i64 n] w fun r w' => r = .returned (.bool (solB n)) ∧ w = w' := by
  rcases sol_ways n with ⟨h1, h⟩ | ⟨h1, h2, h⟩ | ⟨h1, h2, h3, h⟩ | ⟨h1, h2, h3, h4, h⟩ | ⟨h1, h2, h3, h4, h5, h⟩ | ⟨h1, h2, h3, h4, h5, h⟩
  all_goals
    rw [h]
    clear h
    go_enter Try.func52, Try.ntmps52
    go_wp2_with fail
    go_returns
    exact ⟨rfl, rfl⟩
theorem rsolid_c (n : Int) (w : World) : Calls Try.prog 43 #[.int .i64 n] w fun r w' => r = .returned (.bool (solB n)) ∧ w = w' := by
  rcases sol_ways n with ⟨h1, h⟩ | ⟨h1, h2, h⟩ | ⟨h1, h2, h3, h⟩ | ⟨h1, h2, h3, h4, h⟩ | ⟨h1, h2, h3, h4, h5, h⟩ | ⟨h1, h2, h3, h4, h5, h⟩
  all_goals
    rw [h]
    clear h
    go_enter Try.func43, Try.ntmps43
    go_wp2_with fail
    go_returns
    exact ⟨rfl, rfl⟩

end Go.Proofs.Ytckjpiioipkfcaa

/- From a walk that says 'true, and only new memory' to the row: the last step, whatever the arguments' make; and the opening of ways and boxes. -/
namespace Go.Proofs.Ytckjpiioipkfcaa
open Go.ChangeShapes Go.WideShapes Go.ChangeAt Go.RowKit

theorem own : ownKnob Try.prog.godebug = none := by kernel_rfl
theorem laidOut : laidOutB Try.prog = true := by kernel_rfl

section
variable {H : Type} {enc : TypeId × Value → H} {P : Program}
theorem trodAll_below {W W' : World} (hl : laidOutB P = true) (hb : Below W.heap.size W W') :
    ∀ {ts : List TypeId} {vs : List Value} {ds : List (DataW H)} {ps : List MemPlace}, (∀ t ∈ ts, P.readableRec t = true ∧ t < P.types.size) →
      DataW.TrodAll enc P W 0 (fun _ => true) true ts vs ds ps → (∀ x ∈ ps, x.block < W.heap.size) →
      DataW.TrodAll enc P W' 0 (fun b => decide (b < W.heap.size)) true ts vs ds ps := by
  intro ts
  induction ts with
  | nil =>
    intro vs ds ps _ h _
    obtain ⟨rfl, rfl, rfl⟩ := trodAll_nil h
    exact trodAll_mk0
  | cons t ts ih =>
    intro vs ds ps hts h hp
    obtain ⟨v0, vs0, d0, ds0, p0, q0, rfl, rfl, rfl, h0, r0⟩ := trodAll_cons h
    obtain ⟨hr, hrow⟩ := hts t (List.mem_cons_self ..)
    exact trodAll_cons_mk (Below.trod hl hr hrow h0 hb fun x hx => hp x (by simp [hx])) (ih (fun t ht => hts t (List.mem_cons_of_mem _ ht)) r0 fun x hx => hp x (by simp [hx]))

theorem law_post {f : Func} {s : ChangeSpec} {tb : TypeId} {W W' : World} {args : Array Value} {ds gs : List (DataW H)} {before : List MemPlace}
    (hl : laidOutB P = true) (hts : (f.params.toList.all fun t => P.readableRec t && decide (t < P.types.size)) = true) (hvars : s.vars = []) (hrt : f.resultTypes = #[tb]) (htb : P.underlying tb = some .bool)
    (hW : DataW.Whole enc P f.params.toList s.vars false W args.toList ds gs before)
    (hres : (s.fn H (ds ++ gs)).results = [.lit (.bool true)]) (hargs : (s.fn H (ds ++ gs)).args = ds) (hv : (s.fn H (ds ++ gs)).vars = [])
    (hb : Below W.heap.size W W') : s.post enc P f false true false false W args (.bool true) W' := by
  have hlt : ∀ x ∈ before, x.block < W.heap.size := fun x hx => hW.lt x hx
  have hW0 := hW
  obtain ⟨p, q, hA, hV, hpq, hz, hn⟩ := hW
  rw [hvars] at hV
  obtain ⟨rfl, rfl⟩ := trodVars_none hV
  rw [List.append_nil] at hpq
  subst hpq
  refine ⟨ds, [], before, [], before, [], hW0, ?_, ?_, ?_, World.keptBut_mono (fun p hp => ⟨hp, Or.inr (Or.inl hp)⟩) (hb.frame (· ∈ before)), fun h => by cases h⟩
  · rw [hres, hrt]
    exact trodAll_mk1 (shut_bool htb true)
  · rw [hargs]
    refine trodAll_below hl hb (fun t ht => ?_) hA hlt
    have := List.all_eq_true.1 hts t ht
    simpa using this
  · rw [hvars, hv]
    exact rfl

/-! ### ways and boxes, opened -/
def vecFields (P : Program) (f0 f1 f2 : Field) (ti : TypeId) : Bool :=
  (f0.offset == 0 && f1.offset == 1 && f2.offset == 2) && ((f0.type == ti && f1.type == ti && f2.type == ti) && P.cellsOf ti == 1)
def boxFields (P : Program) (f0 f1 : Field) (tv : TypeId) : Bool :=
  (f0.offset == 0 && f1.offset == 3) && ((f0.type == tv && f1.type == tv) && P.cellsOf tv == 3)

theorem trod_vec {w : World} {base fuel : Nat} {spare : Nat → Bool} {held : Bool} {t ti : TypeId} {f0 f1 f2 : Field} {cs : List Value} {x : DataW H × List MemPlace} (hs : P.underlying t = some (.struct #[f0, f1, f2]))
    (hf : vecFields P f0 f1 f2 ti = true) (hi : P.underlying ti = some (.int .i64)) (hl : cs.length = 3) (h : DataW.trod enc P w base spare held fuel t cs = some x) :
    ∃ a b c, cs = [.int .i64 a, .int .i64 b, .int .i64 c] ∧ In64 a ∧ In64 b ∧ In64 c := by
  simp only [vecFields, Bool.and_eq_true, beq_iff_eq] at hf
  obtain ⟨⟨⟨o0, o1⟩, o2⟩, ⟨⟨t0, t1⟩, t2⟩, hc⟩ := hf
  obtain ⟨xs, n, _, _, _, hxl, hg⟩ := DataW.trod_struct hs h
  match cs, hl with
  | [v0, v1, v2], _ =>
    match xs, hxl with
    | [y0, y1, y2], _ =>
      have g0 := hg 0 f0 rfl
      have g1 := hg 1 f1 rfl
      have g2 := hg 2 f2 rfl
      rw [o0, t0, hc] at g0
      rw [o1, t1, hc] at g1
      rw [o2, t2, hc] at g2
      obtain ⟨a, ha, _, wa⟩ := DataW.trod_int (x := y0) hi g0
      obtain ⟨b, hb, _, wb⟩ := DataW.trod_int (x := y1) hi g1
      obtain ⟨c, hc', _, wc⟩ := DataW.trod_int (x := y2) hi g2
      simp at ha hb hc'
      subst ha hb hc'
      exact ⟨a, b, c, rfl, in64_of_wf wa, in64_of_wf wb, in64_of_wf wc⟩

theorem open_vec {w : World} {r : Reach} {b0 base : Nat} {spare : Nat → Bool} {held : Bool} {t ti : TypeId} {f0 f1 f2 : Field} {v : Value} {d : DataW H} {p : List MemPlace} (hs : P.underlying t = some (.struct #[f0, f1, f2]))
    (hf : vecFields P f0 f1 f2 ti = true) (hC : P.cellsOf t = 3) (hi : P.underlying ti = some (.int .i64)) (hv : Value.okWide P w r b0 t v) (h : DataW.Trod enc P w base spare held t v d p) :
    ∃ a b c, v = .agg #[.int .i64 a, .int .i64 b, .int .i64 c] ∧ In64 a ∧ In64 b ∧ In64 c := by
  obtain ⟨cs, rfl, hsz⟩ := okWide_struct hs hv
  obtain ⟨fuel, h⟩ := h
  obtain ⟨l⟩ := cs
  have hl : l.length = 3 := hsz.trans hC
  obtain ⟨a, b, c, hcs, wa, wb, wc⟩ := trod_vec hs hf hi hl (by simpa [Value.cells] using h)
  subst hcs
  exact ⟨a, b, c, rfl, wa, wb, wc⟩

theorem trod_box {w : World} {base fuel : Nat} {spare : Nat → Bool} {held : Bool} {t tv ti : TypeId} {g0 g1 f0 f1 f2 : Field} {cs : List Value} {x : DataW H × List MemPlace} (hb : P.underlying t = some (.struct #[g0, g1]))
    (hs : P.underlying tv = some (.struct #[f0, f1, f2])) (hg : boxFields P g0 g1 tv = true) (hf : vecFields P f0 f1 f2 ti = true) (hi : P.underlying ti = some (.int .i64)) (hl : cs.length = 6) (h : DataW.trod enc P w base spare held fuel t cs = some x) :
    ∃ a b c d e f, cs = [.int .i64 a, .int .i64 b, .int .i64 c, .int .i64 d, .int .i64 e, .int .i64 f] ∧ In64 a ∧ In64 b ∧ In64 c ∧ In64 d ∧ In64 e ∧ In64 f := by
  simp only [boxFields, Bool.and_eq_true, beq_iff_eq] at hg
  obtain ⟨⟨o0, o1⟩, ⟨t0, t1⟩, hc⟩ := hg
  obtain ⟨xs, n, _, _, _, hxl, hgg⟩ := DataW.trod_struct hb h
  match cs, hl with
  | [v0, v1, v2, v3, v4, v5], _ =>
    match xs, hxl with
    | [y0, y1], _ =>
      have k0 := hgg 0 g0 rfl
      have k1 := hgg 1 g1 rfl
      rw [o0, t0, hc] at k0
      rw [o1, t1, hc] at k1
      obtain ⟨a, b, c, e0, wa, wb, wc⟩ := trod_vec (x := y0) hs hf hi rfl k0
      obtain ⟨d, e, f, e1, wd, we, wf⟩ := trod_vec (x := y1) hs hf hi rfl k1
      simp at e0 e1
      obtain ⟨rfl, rfl, rfl⟩ := e0
      obtain ⟨rfl, rfl, rfl⟩ := e1
      exact ⟨a, b, c, d, e, f, rfl, wa, wb, wc, wd, we, wf⟩

theorem open_box {w : World} {r : Reach} {b0 base : Nat} {spare : Nat → Bool} {held : Bool} {t tv ti : TypeId} {g0 g1 f0 f1 f2 : Field} {v : Value} {d : DataW H} {p : List MemPlace} (hb : P.underlying t = some (.struct #[g0, g1]))
    (hs : P.underlying tv = some (.struct #[f0, f1, f2])) (hg : boxFields P g0 g1 tv = true) (hf : vecFields P f0 f1 f2 ti = true) (hC : P.cellsOf t = 6) (hi : P.underlying ti = some (.int .i64)) (hv : Value.okWide P w r b0 t v) (h : DataW.Trod enc P w base spare held t v d p) :
    ∃ a b c d e f, v = .agg #[.int .i64 a, .int .i64 b, .int .i64 c, .int .i64 d, .int .i64 e, .int .i64 f] ∧ In64 a ∧ In64 b ∧ In64 c ∧ In64 d ∧ In64 e ∧ In64 f := by
  obtain ⟨cs, rfl, hsz⟩ := okWide_struct hb hv
  obtain ⟨fuel, h⟩ := h
  obtain ⟨l⟩ := cs
  have hl : l.length = 6 := hsz.trans hC
  obtain ⟨a, b, c, d, e, f, hcs, wa⟩ := trod_box hb hs hg hf hi hl (by simpa [Value.cells] using h)
  subst hcs
  exact ⟨a, b, c, d, e, f, rfl, wa⟩
end
end Go.Proofs.Ytckjpiioipkfcaa
