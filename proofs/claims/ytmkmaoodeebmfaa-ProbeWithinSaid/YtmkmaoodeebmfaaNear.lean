/- A box near a small world, made of any. -/
import Derived.Test.YtmkmaoodeebmfaaFix
import Derived.Test.YtmkmaoodeebmfaaRef2
import Derived.Test.YtmkmaoodeebmfaaBase2
import Derived.Test.YtmkmaoodeebmfaaNext
import Derived.Test.YtmkmaoodeebmfaaSched2
import Derived.Deep.Cut
namespace Go.Proofs.Ytmkmaoodeebmfaa
open Go.RowKit

/-- The corners, of units of u. -/
def nearLo (u n : Int) : Int := (arI n 655361 - 131072) / u * u
def nearHi (u n m : Int) : Int := nearLo u n + arI m 196609 / u * u
def unitI (halves : Bool) : Int := if halves then 32768 else 1
theorem near_bd (halves : Bool) (n m : Int) : -131072 ≤ nearLo (unitI halves) n ∧ nearLo (unitI halves) n ≤ nearHi (unitI halves) n m ∧ nearHi (unitI halves) n m ≤ nearLo (unitI halves) n + 196608 ∧ nearLo (unitI halves) n ≤ 524288 := by
  have a1 := arI_lo n (m := 655361) (by decide)
  have a2 := arI_hi n (m := 655361) (by decide)
  have b1 := arI_lo m (m := 196609) (by decide)
  have b2 := arI_hi m (m := 196609) (by decide)
  unfold nearHi nearLo unitI
  cases halves <;> simp <;> omega
def nk (k j : Nat) (v : Int) : Int := if j < k then v else 0
theorem nk_wi {k j : Nat} {v n : Int} (hn : k = j → n = v) (h1 : -140737488355328 ≤ v) (h2 : v ≤ 140737488355328) : wiI (nk k j v) k j n = nk (k + 1) j v := by
  unfold wiI nk
  by_cases h : k = j
  · subst h; rw [if_pos rfl, if_pos (by omega), hn rfl]; exact cutI_id h1 h2
  · rw [if_neg (by omega)]
    by_cases h3 : j < k
    · rw [if_pos h3, if_pos (by omega)]
    · rw [if_neg h3, if_neg (by omega)]
theorem nk_wi0 {k : Nat} {v n : Int} (hn : k = 0 → n = v) (h1 : -131072 ≤ v) (h2 : v ≤ 720896) : wiI (nk k 0 v) k 0 n = nk (k + 1) 0 v := nk_wi (j := 0) hn (by omega) (by omega)
theorem nk_wi1 {k : Nat} {v n : Int} (hn : k = 1 → n = v) (h1 : -131072 ≤ v) (h2 : v ≤ 720896) : wiI (nk k 1 v) k 1 n = nk (k + 1) 1 v := nk_wi (j := 1) hn (by omega) (by omega)
theorem nk_wi2 {k : Nat} {v n : Int} (hn : k = 2 → n = v) (h1 : -131072 ≤ v) (h2 : v ≤ 720896) : wiI (nk k 2 v) k 2 n = nk (k + 1) 2 v := nk_wi (j := 2) hn (by omega) (by omega)
theorem ne_1' (N : Nat) : N ≠ N + 1 := by omega
theorem ne_2' (N : Nat) : N ≠ N + 1 + 1 := by omega
theorem le_2' (N : Nat) : N ≤ N + 1 + 1 := by omega
theorem st6_below {N : Nat} {w wr : World} (H : Below N w wr) {a b c d e f : Value} : Below N w ((((((wr.setCell ⟨N + 1, 0, none⟩ a).setCell ⟨N + 1, 1, none⟩ b).setCell ⟨N + 1, 2, none⟩ c).setCell ⟨N + 1, 3, none⟩ d).setCell ⟨N + 1, 4, none⟩ e).setCell ⟨N + 1, 5, none⟩ f) :=
  have h : N ≤ N + 1 := Nat.le_succ N
  (((((H.setCell (p := ⟨N + 1, 0, none⟩) h _).setCell (p := ⟨N + 1, 1, none⟩) h _).setCell (p := ⟨N + 1, 2, none⟩) h _).setCell (p := ⟨N + 1, 3, none⟩) h _).setCell (p := ⟨N + 1, 4, none⟩) h _).setCell (p := ⟨N + 1, 5, none⟩) h _
theorem ax_in64 {a b c : Int} (ha : In64 a) (hb : In64 b) (hc : In64 c) (k : Int) : -9223372036854775808 ≤ axI a b c k ∧ axI a b c k ≤ 9223372036854775807 := by
  unfold axI In64 at *
  split
  · omega
  · split
    · omega
    · split <;> omega
set_option maxRecDepth 100000 in
set_option maxHeartbeats 8000000 in
theorem near_c (a b c d e f : Int) (halves : Bool) (ha : In64 a) (hb : In64 b) (hc : In64 c) (hd : In64 d) (he : In64 e) (hf : In64 f) (w : World) :
    Calls Try.prog 11 #[.agg #[.int .i64 a, .int .i64 b, .int .i64 c, .int .i64 d, .int .i64 e, .int .i64 f], .bool halves] w fun r w' =>
      r = .returned (.agg #[.int .i64 (nearLo (unitI halves) a), .int .i64 (nearLo (unitI halves) b), .int .i64 (nearLo (unitI halves) c), .int .i64 (nearHi (unitI halves) a d), .int .i64 (nearHi (unitI halves) b e), .int .i64 (nearHi (unitI halves) c f)]) ∧ Below w.heap.size w w' := by
  obtain ⟨W, hW⟩ : ∃ W, W = ((w.alloc (.cells #[.int .i64 a, .int .i64 b, .int .i64 c, .int .i64 d, .int .i64 e, .int .i64 f] 28)).alloc (.cells #[.int .i64 0, .int .i64 0, .int .i64 0, .int .i64 0, .int .i64 0, .int .i64 0] 28)).alloc (.cells #[.int .i64 0, .int .i64 0, .int .i64 0, .int .i64 0, .int .i64 0, .int .i64 0] 28) := ⟨_, rfl⟩
  have H : Below w.heap.size w W := by rw [hW]; go_grown
  have A : Blk W w.heap.size 28 #[.int .i64 a, .int .i64 b, .int .i64 c, .int .i64 d, .int .i64 e, .int .i64 f] := by rw [hW]; exact ((Blk.new' rfl).alloc _).alloc _
  have R : Blk W (w.heap.size + 1) 28 #[.int .i64 0, .int .i64 0, .int .i64 0, .int .i64 0, .int .i64 0, .int .i64 0] := by rw [hW]; exact (Blk.new' (by simp)).alloc _
  have O : Blk W (w.heap.size + 1 + 1) 28 #[.int .i64 0, .int .i64 0, .int .i64 0, .int .i64 0, .int .i64 0, .int .i64 0] := by rw [hW]; exact Blk.new' (by simp)
  obtain ⟨N, hN⟩ : ∃ N, N = w.heap.size := ⟨_, rfl⟩
  rw [← hN] at A R O
  obtain ⟨U, hU⟩ : ∃ U, U = unitI halves := ⟨_, rfl⟩
  rw [← hU]
  have bd := fun n m => near_bd halves n m
  rw [← hU] at bd
  have BD := Lib.hid bd
  clear bd
  cases halves
  · have HU := Lib.hid hU
    clear hU
    go_enter Try.func11, Try.ntmps11
    go_upto_region 5 with (fail)
    rw [← hW, ← hN]
    go_upto_region 6 with (fail)
    have HN := Lib.hid hN
    clear hN hW
    go_loopw [7] (fun i wr => ∃ k : Nat, k ≤ 3 ∧ i = .int .i64 k ∧ Blk wr N 28 #[.int .i64 a, .int .i64 b, .int .i64 c, .int .i64 d, .int .i64 e, .int .i64 f] ∧ Blk wr (N + 1) 28 #[.int .i64 0, .int .i64 0, .int .i64 0, .int .i64 0, .int .i64 0, .int .i64 0] ∧ 
      Blk wr (N + 1 + 1) 28 #[.int .i64 (nk k 0 (nearLo U a)), .int .i64 (nk k 1 (nearLo U b)), .int .i64 (nk k 2 (nearLo U c)), .int .i64 (nk k 0 (nearHi U a d)), .int .i64 (nk k 1 (nearHi U b e)), .int .i64 (nk k 2 (nearHi U c f))] ∧ Below w.heap.size w wr) (fun i _ => 3 - (intOf i).toNat)
    case atStart => exact ⟨0, by omega, rfl, A, R, O, H⟩
    case round =>
      clear A R O H
      obtain ⟨k, hk, rfl, A, R, O, H⟩ := hrel
      by_cases hk3 : k = 3
      · subst hk3
        obtain ⟨⟨o0, o1, o2, o3, o4, o5⟩, -, -, -, -, -, -⟩ := O.c6
        obtain ⟨⟨r0, r1, r2, r3, r4, r5⟩, f0, f1, f2, f3, f4, f5⟩ := R.c6
        go_wp2_with fail
        have R2 := R.st6 (.int .i64 (nk 3 0 (nearLo U a))) (.int .i64 (nk 3 1 (nearLo U b))) (.int .i64 (nk 3 2 (nearLo U c))) (.int .i64 (nk 3 0 (nearHi U a d))) (.int .i64 (nk 3 1 (nearHi U b e))) (.int .i64 (nk 3 2 (nearHi U c f)))
        obtain ⟨⟨d0, d1, d2, d3, d4, d5⟩, -, -, -, -, -, -⟩ := R2.c6
        refine bodyPost_ret (v := .agg #[.int .i64 (nk 3 0 (nearLo U a)), .int .i64 (nk 3 1 (nearLo U b)), .int .i64 (nk 3 2 (nearLo U c)), .int .i64 (nk 3 0 (nearHi U a d)), .int .i64 (nk 3 1 (nearHi U b e)), .int .i64 (nk 3 2 (nearHi U c f))]) (by simp [results, Try.results11, go_sem, d0, d1, d2, d3, d4, d5]) rfl ⟨rfl, ?_⟩
        rw [← HN.out] at H ⊢
        exact st6_below H
      · have hlt : k < 3 := by omega
        obtain ⟨i1, i2⟩ := ax_in64 ha hb hc k
        obtain ⟨j1, j2⟩ := ax_in64 hd he hf k
        have e1 := arI_lo (axI a b c k) (m := 655361) (by decide)
        have e2 := arI_hi (axI a b c k) (m := 655361) (by decide)
        have e3 := arI_lo (axI d e f k) (m := 196609) (by decide)
        have e4 := arI_hi (axI d e f k) (m := 196609) (by decide)
        obtain ⟨a0, a1, a2, a3, a4, a5⟩ := A.c6.1
        go_upto_region 9 with (first | (go_at_call 25; refine (raxis_c _ _ _ _ _).mono ?_; rintro e_ w1 ⟨rfl, hb1⟩) | (go_at_call 29; refine (around_c _ _ i1 i2 (by decide) _).mono ?_; rintro e_ w1 ⟨rfl, rfl⟩))
        replace A := A.on hb1
        replace R := R.on hb1
        replace O := O.on hb1
        replace H := after H hb1
        clear hb1 a0 a1 a2 a3 a4 a5
        obtain ⟨a0, a1, a2, a3, a4, a5⟩ := A.c6.1
        go_upto_region 10 with (first | (go_at_call 25; refine (raxis_c _ _ _ _ _).mono ?_; rintro e_ w2 ⟨rfl, hb1⟩) | (go_at_call 29; refine (around_c _ _ j1 j2 (by decide) _).mono ?_; rintro e_ w2 ⟨rfl, rfl⟩))
        replace A := A.on hb1
        replace R := R.on hb1
        replace O := O.on hb1
        replace H := after H hb1
        clear hb1 a0 a1 a2 a3 a4 a5
        obtain ⟨o0, o1, o2, o3, o4, o5⟩ := O.re6
        have hdv : ∀ w, Calls Try.prog 41 #[.int .i64 (arI (axI a b c k) 655361 - 131072), .int .i64 (1)] w fun r w' => r = .returned (.int .i64 ((arI (axI a b c k) 655361 - 131072) / 1)) ∧ Below w.heap.size w w' := fun w => calls_bel (rdiv_c _ _ (by omega) (by omega) (by decide) w)
        refine wp_sched [0, 0, 0, 0, 0, 0, 0, 0, 0, 3, 3] (fun _ _ _ => True) (by kernel_rfl) (by kernel_rfl) (fun _ _ _ _ h _ => h) ?_
        repeat (first | (refine wpQs_s ?_) | (refine wpQs_q (fun K hK => ?_); go_simp; first | (refine hK _ ?_; clear hK K) | (apply Exists.intro; refine ⟨fun _ => ?_, hK _ ?_⟩; (first | (go_at_call 41; exact hdv _) | exact rwith_c _ _ _ _ _ _); clear hK K)) | (refine wpQs_f (fun K hK => ?_); go_simp; refine hK _ ?_; clear hK K))
        refine wpQs_nil ?_
        repeat (first | (refine wpLs_skip ?_) | (refine wpLs_one ?lsA (fun v_ => ?_); case lsA => (intro w_ hw_ hp_; (fail))))
        refine wpLs_nilB ?_
        simp only [tails]
        intro w3 h3 _
        replace A := A.on h3
        replace R := R.on h3
        replace O := O.on h3
        replace H := after H h3
        clear h3 o0 o1 o2 o3 o4 o5
        obtain ⟨⟨o0, o1, o2, o3, o4, o5⟩, p0, p1, p2, p3, p4, p5⟩ := O.c6
        go_upto_region 11 with (fail)
        generalize h4 : World.setCell (World.setCell (World.setCell w3 _ _) _ _) _ _ = w4
        replace A := Blk.eqw h4 (((A.far (ne_2' N) _).far (ne_2' N) _).far (ne_2' N) _)
        replace R := Blk.eqw h4 (((R.far (ne_1' (N + 1)) _).far (ne_1' (N + 1)) _).far (ne_1' (N + 1)) _)
        replace O := Blk.eqw h4 (((O.set_ 0 _).set_ 1 _).set_ 2 _)
        simp only [List.setIfInBounds_toArray, List.set_cons_zero, List.set_cons_succ] at O
        rw [nk_wi0 (v := nearLo U a) ?g0 (BD.out a d).1 (by have := (BD.out a d).2.2.2; omega), nk_wi1 (v := nearLo U b) ?g1 (BD.out b e).1 (by have := (BD.out b e).2.2.2; omega), nk_wi2 (v := nearLo U c) ?g2 (BD.out c f).1 (by have := (BD.out c f).2.2.2; omega)] at O
        case g0 => intro h; subst h; rw [HU.out]; unfold nearLo unitI; simp [axI]
        case g1 => intro h; subst h; rw [HU.out]; unfold nearLo unitI; simp [axI]
        case g2 => intro h; subst h; rw [HU.out]; unfold nearLo unitI; simp [axI]
        replace H : Below w.heap.size w w4 := by rw [← h4, ← HN.out]; rw [← HN.out] at H; exact ((H.setCell (p := ⟨N + 1 + 1, 0, none⟩) (le_2' N) _).setCell (p := ⟨N + 1 + 1, 1, none⟩) (le_2' N) _).setCell (p := ⟨N + 1 + 1, 2, none⟩) (le_2' N) _
        clear h4 o0 o1 o2 o3 o4 o5 p0 p1 p2 p3 p4 p5
        obtain ⟨o0, o1, o2, o3, o4, o5⟩ := O.re6
        refine wp_sched [0, 0, 0, 0, 0, 0, 0, 0, 0, 0, 0, 0, 0, 0, 0, 3, 3] (fun _ _ _ => True) (by kernel_rfl) (by kernel_rfl) (fun _ _ _ _ h _ => h) ?_
        repeat (first | (refine wpQs_s ?_) | (refine wpQs_q (fun K hK => ?_); go_simp; first | (refine hK _ ?_; clear hK K) | (apply Exists.intro; refine ⟨fun _ => ?_, hK _ ?_⟩; (first | (go_at_call 41; exact hdv _) | exact rwith_c _ _ _ _ _ _); clear hK K)) | (refine wpQs_f (fun K hK => ?_); go_simp; refine hK _ ?_; clear hK K))
        refine wpQs_nil ?_
        repeat (first | (refine wpLs_skip ?_) | (refine wpLs_one ?lsA (fun v_ => ?_); case lsA => (intro w_ hw_ hp_; (fail))))
        refine wpLs_nilB ?_
        simp only [tails]
        intro w5 h5 _
        replace A := A.on h5
        replace R := R.on h5
        replace O := O.on h5
        replace H := after H h5
        clear h5 o0 o1 o2 o3 o4 o5
        obtain ⟨⟨o0, o1, o2, o3, o4, o5⟩, p0, p1, p2, p3, p4, p5⟩ := O.c6
        have hkw := next64 (Nat.le_refl 3) (by decide) hlt
        go_wp2_with fail
        rw [nk_wi0 (v := nearHi U a d) ?g0 (by have := BD.out a d; omega) (by have := BD.out a d; omega), nk_wi1 (v := nearHi U b e) ?g1 (by have := BD.out b e; omega) (by have := BD.out b e; omega), nk_wi2 (v := nearHi U c f) ?g2 (by have := BD.out c f; omega) (by have := BD.out c f; omega)]
        case g0 => intro h; subst h; rw [HU.out]; unfold nearHi nearLo unitI; simp [axI]
        case g1 => intro h; subst h; rw [HU.out]; unfold nearHi nearLo unitI; simp [axI]
        case g2 => intro h; subst h; rw [HU.out]; unfold nearHi nearLo unitI; simp [axI]
        go_roundw
        case rel =>
          rw [← HN.out] at H ⊢
          exact ⟨k + 1, hlt, rfl, ((A.far (ne_2' N) _).far (ne_2' N) _).far (ne_2' N) _, ((R.far (ne_1' (N + 1)) _).far (ne_1' (N + 1)) _).far (ne_1' (N + 1)) _, ((O.set_ 3 _).set_ 4 _).set_ 5 _, ((H.setCell (p := ⟨N + 1 + 1, 3, none⟩) (le_2' N) _).setCell (p := ⟨N + 1 + 1, 4, none⟩) (le_2' N) _).setCell (p := ⟨N + 1 + 1, 5, none⟩) (le_2' N) _⟩
        case measure => exact next_less' hlt
  · have HU := Lib.hid hU
    clear hU
    go_enter Try.func11, Try.ntmps11
    go_upto_region 5 with (fail)
    rw [← hW, ← hN]
    go_upto_region 6 with (fail)
    have HN := Lib.hid hN
    clear hN hW
    go_loopw [7] (fun i wr => ∃ k : Nat, k ≤ 3 ∧ i = .int .i64 k ∧ Blk wr N 28 #[.int .i64 a, .int .i64 b, .int .i64 c, .int .i64 d, .int .i64 e, .int .i64 f] ∧ Blk wr (N + 1) 28 #[.int .i64 0, .int .i64 0, .int .i64 0, .int .i64 0, .int .i64 0, .int .i64 0] ∧ 
      Blk wr (N + 1 + 1) 28 #[.int .i64 (nk k 0 (nearLo U a)), .int .i64 (nk k 1 (nearLo U b)), .int .i64 (nk k 2 (nearLo U c)), .int .i64 (nk k 0 (nearHi U a d)), .int .i64 (nk k 1 (nearHi U b e)), .int .i64 (nk k 2 (nearHi U c f))] ∧ Below w.heap.size w wr) (fun i _ => 3 - (intOf i).toNat)
    case atStart => exact ⟨0, by omega, rfl, A, R, O, H⟩
    case round =>
      clear A R O H
      obtain ⟨k, hk, rfl, A, R, O, H⟩ := hrel
      by_cases hk3 : k = 3
      · subst hk3
        obtain ⟨⟨o0, o1, o2, o3, o4, o5⟩, -, -, -, -, -, -⟩ := O.c6
        obtain ⟨⟨r0, r1, r2, r3, r4, r5⟩, f0, f1, f2, f3, f4, f5⟩ := R.c6
        go_wp2_with fail
        have R2 := R.st6 (.int .i64 (nk 3 0 (nearLo U a))) (.int .i64 (nk 3 1 (nearLo U b))) (.int .i64 (nk 3 2 (nearLo U c))) (.int .i64 (nk 3 0 (nearHi U a d))) (.int .i64 (nk 3 1 (nearHi U b e))) (.int .i64 (nk 3 2 (nearHi U c f)))
        obtain ⟨⟨d0, d1, d2, d3, d4, d5⟩, -, -, -, -, -, -⟩ := R2.c6
        refine bodyPost_ret (v := .agg #[.int .i64 (nk 3 0 (nearLo U a)), .int .i64 (nk 3 1 (nearLo U b)), .int .i64 (nk 3 2 (nearLo U c)), .int .i64 (nk 3 0 (nearHi U a d)), .int .i64 (nk 3 1 (nearHi U b e)), .int .i64 (nk 3 2 (nearHi U c f))]) (by simp [results, Try.results11, go_sem, d0, d1, d2, d3, d4, d5]) rfl ⟨rfl, ?_⟩
        rw [← HN.out] at H ⊢
        exact st6_below H
      · have hlt : k < 3 := by omega
        obtain ⟨i1, i2⟩ := ax_in64 ha hb hc k
        obtain ⟨j1, j2⟩ := ax_in64 hd he hf k
        have e1 := arI_lo (axI a b c k) (m := 655361) (by decide)
        have e2 := arI_hi (axI a b c k) (m := 655361) (by decide)
        have e3 := arI_lo (axI d e f k) (m := 196609) (by decide)
        have e4 := arI_hi (axI d e f k) (m := 196609) (by decide)
        obtain ⟨a0, a1, a2, a3, a4, a5⟩ := A.c6.1
        go_upto_region 9 with (first | (go_at_call 25; refine (raxis_c _ _ _ _ _).mono ?_; rintro e_ w1 ⟨rfl, hb1⟩) | (go_at_call 29; refine (around_c _ _ i1 i2 (by decide) _).mono ?_; rintro e_ w1 ⟨rfl, rfl⟩))
        replace A := A.on hb1
        replace R := R.on hb1
        replace O := O.on hb1
        replace H := after H hb1
        clear hb1 a0 a1 a2 a3 a4 a5
        obtain ⟨a0, a1, a2, a3, a4, a5⟩ := A.c6.1
        go_upto_region 10 with (first | (go_at_call 25; refine (raxis_c _ _ _ _ _).mono ?_; rintro e_ w2 ⟨rfl, hb1⟩) | (go_at_call 29; refine (around_c _ _ j1 j2 (by decide) _).mono ?_; rintro e_ w2 ⟨rfl, rfl⟩))
        replace A := A.on hb1
        replace R := R.on hb1
        replace O := O.on hb1
        replace H := after H hb1
        clear hb1 a0 a1 a2 a3 a4 a5
        obtain ⟨o0, o1, o2, o3, o4, o5⟩ := O.re6
        have hdv : ∀ w, Calls Try.prog 41 #[.int .i64 (arI (axI a b c k) 655361 - 131072), .int .i64 (32768)] w fun r w' => r = .returned (.int .i64 ((arI (axI a b c k) 655361 - 131072) / 32768)) ∧ Below w.heap.size w w' := fun w => calls_bel (rdiv_c _ _ (by omega) (by omega) (by decide) w)
        refine wp_sched [0, 0, 0, 0, 0, 0, 0, 0, 0, 3, 3] (fun _ _ _ => True) (by kernel_rfl) (by kernel_rfl) (fun _ _ _ _ h _ => h) ?_
        repeat (first | (refine wpQs_s ?_) | (refine wpQs_q (fun K hK => ?_); go_simp; first | (refine hK _ ?_; clear hK K) | (apply Exists.intro; refine ⟨fun _ => ?_, hK _ ?_⟩; (first | (go_at_call 41; exact hdv _) | exact rwith_c _ _ _ _ _ _); clear hK K)) | (refine wpQs_f (fun K hK => ?_); go_simp; refine hK _ ?_; clear hK K))
        refine wpQs_nil ?_
        repeat (first | (refine wpLs_skip ?_) | (refine wpLs_one ?lsA (fun v_ => ?_); case lsA => (intro w_ hw_ hp_; (fail))))
        refine wpLs_nilB ?_
        simp only [tails]
        intro w3 h3 _
        replace A := A.on h3
        replace R := R.on h3
        replace O := O.on h3
        replace H := after H h3
        clear h3 o0 o1 o2 o3 o4 o5
        obtain ⟨⟨o0, o1, o2, o3, o4, o5⟩, p0, p1, p2, p3, p4, p5⟩ := O.c6
        go_upto_region 11 with (fail)
        generalize h4 : World.setCell (World.setCell (World.setCell w3 _ _) _ _) _ _ = w4
        replace A := Blk.eqw h4 (((A.far (ne_2' N) _).far (ne_2' N) _).far (ne_2' N) _)
        replace R := Blk.eqw h4 (((R.far (ne_1' (N + 1)) _).far (ne_1' (N + 1)) _).far (ne_1' (N + 1)) _)
        replace O := Blk.eqw h4 (((O.set_ 0 _).set_ 1 _).set_ 2 _)
        simp only [List.setIfInBounds_toArray, List.set_cons_zero, List.set_cons_succ] at O
        rw [nk_wi0 (v := nearLo U a) ?g0 (BD.out a d).1 (by have := (BD.out a d).2.2.2; omega), nk_wi1 (v := nearLo U b) ?g1 (BD.out b e).1 (by have := (BD.out b e).2.2.2; omega), nk_wi2 (v := nearLo U c) ?g2 (BD.out c f).1 (by have := (BD.out c f).2.2.2; omega)] at O
        case g0 => intro h; subst h; rw [HU.out]; unfold nearLo unitI; simp [axI]
        case g1 => intro h; subst h; rw [HU.out]; unfold nearLo unitI; simp [axI]
        case g2 => intro h; subst h; rw [HU.out]; unfold nearLo unitI; simp [axI]
        replace H : Below w.heap.size w w4 := by rw [← h4, ← HN.out]; rw [← HN.out] at H; exact ((H.setCell (p := ⟨N + 1 + 1, 0, none⟩) (le_2' N) _).setCell (p := ⟨N + 1 + 1, 1, none⟩) (le_2' N) _).setCell (p := ⟨N + 1 + 1, 2, none⟩) (le_2' N) _
        clear h4 o0 o1 o2 o3 o4 o5 p0 p1 p2 p3 p4 p5
        obtain ⟨o0, o1, o2, o3, o4, o5⟩ := O.re6
        refine wp_sched [0, 0, 0, 0, 0, 0, 0, 0, 0, 0, 0, 0, 0, 0, 0, 3, 3] (fun _ _ _ => True) (by kernel_rfl) (by kernel_rfl) (fun _ _ _ _ h _ => h) ?_
        repeat (first | (refine wpQs_s ?_) | (refine wpQs_q (fun K hK => ?_); go_simp; first | (refine hK _ ?_; clear hK K) | (apply Exists.intro; refine ⟨fun _ => ?_, hK _ ?_⟩; (first | (go_at_call 41; exact hdv _) | exact rwith_c _ _ _ _ _ _); clear hK K)) | (refine wpQs_f (fun K hK => ?_); go_simp; refine hK _ ?_; clear hK K))
        refine wpQs_nil ?_
        repeat (first | (refine wpLs_skip ?_) | (refine wpLs_one ?lsA (fun v_ => ?_); case lsA => (intro w_ hw_ hp_; (fail))))
        refine wpLs_nilB ?_
        simp only [tails]
        intro w5 h5 _
        replace A := A.on h5
        replace R := R.on h5
        replace O := O.on h5
        replace H := after H h5
        clear h5 o0 o1 o2 o3 o4 o5
        obtain ⟨⟨o0, o1, o2, o3, o4, o5⟩, p0, p1, p2, p3, p4, p5⟩ := O.c6
        have hkw := next64 (Nat.le_refl 3) (by decide) hlt
        go_wp2_with fail
        rw [nk_wi0 (v := nearHi U a d) ?g0 (by have := BD.out a d; omega) (by have := BD.out a d; omega), nk_wi1 (v := nearHi U b e) ?g1 (by have := BD.out b e; omega) (by have := BD.out b e; omega), nk_wi2 (v := nearHi U c f) ?g2 (by have := BD.out c f; omega) (by have := BD.out c f; omega)]
        case g0 => intro h; subst h; rw [HU.out]; unfold nearHi nearLo unitI; simp [axI]
        case g1 => intro h; subst h; rw [HU.out]; unfold nearHi nearLo unitI; simp [axI]
        case g2 => intro h; subst h; rw [HU.out]; unfold nearHi nearLo unitI; simp [axI]
        go_roundw
        case rel =>
          rw [← HN.out] at H ⊢
          exact ⟨k + 1, hlt, rfl, ((A.far (ne_2' N) _).far (ne_2' N) _).far (ne_2' N) _, ((R.far (ne_1' (N + 1)) _).far (ne_1' (N + 1)) _).far (ne_1' (N + 1)) _, ((O.set_ 3 _).set_ 4 _).set_ 5 _, ((H.setCell (p := ⟨N + 1 + 1, 3, none⟩) (le_2' N) _).setCell (p := ⟨N + 1 + 1, 4, none⟩) (le_2' N) _).setCell (p := ⟨N + 1 + 1, 5, none⟩) (le_2' N) _⟩
        case measure => exact next_less' hlt
end Go.Proofs.Ytmkmaoodeebmfaa
