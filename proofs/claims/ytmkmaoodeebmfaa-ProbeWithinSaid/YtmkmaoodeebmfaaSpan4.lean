/- The document's cells of a box. -/
import Derived.Test.YtmkmaoodeebmfaaSpan3
import Derived.Test.YtmkmaoodeebmfaaNear
namespace Go.Proofs.Ytmkmaoodeebmfaa
open Go.RowKit

/-- Does a box overlap any cell? -/
def isI (a b c d e f : Int) : Bool := !(thinI a d || (thinI b e || thinI c f))
def zI (is : Bool) (n : Int) : Int := if is then n else 0
abbrev spanV (a b c d e f : Int) : Value := .tuple #[.agg #[.int .i64 (zI (isI a b c d e f) (lowI a)), .int .i64 (zI (isI a b c d e f) (lowI b)), .int .i64 (zI (isI a b c d e f) (lowI c))],
  .agg #[.int .i64 (zI (isI a b c d e f) (topI a d)), .int .i64 (zI (isI a b c d e f) (topI b e)), .int .i64 (zI (isI a b c d e f) (topI c f))], .bool (isI a b c d e f)]
/-- Three numbers. -/
abbrev arr3 (f : Nat → Int) : Array Value := #[.int .i64 (f 0), .int .i64 (f 1), .int .i64 (f 2)]
theorem arr3_get {f : Nat → Int} {k : Nat} (h : k < 3) : (arr3 f)[k]? = some (.int .i64 (f k)) := by
  match k, h with
  | 0, _ => rfl
  | 1, _ => rfl
  | 2, _ => rfl
theorem arr3_set {f : Nat → Int} {k : Nat} {v : Int} (h : k < 3) : (arr3 f).setIfInBounds k (.int .i64 v) = arr3 fun j => if j = k then v else f j := by
  match k, h with
  | 0, _ => rfl
  | 1, _ => rfl
  | 2, _ => rfl
theorem arr3_ext {f g : Nat → Int} (h : ∀ j, j < 3 → f j = g j) : arr3 f = arr3 g := by unfold arr3; rw [h 0 (by omega), h 1 (by omega), h 2 (by omega)]
/-- The numbers of the axes that have come. -/
def upto (k : Nat) (F : Nat → Int) (j : Nat) : Int := if j < k then F j else 0
theorem upto_set {k : Nat} {F : Nat → Int} {v : Int} (hv : v = F k) : (fun j => if j = k then v else upto k F j) = upto (k + 1) F := by
  funext j
  unfold upto
  by_cases h : j = k
  · subst h; rw [if_pos rfl, if_pos (by omega), hv]
  · rw [if_neg h]
    by_cases h2 : j < k
    · rw [if_pos h2, if_pos (by omega)]
    · rw [if_neg h2, if_neg (by omega)]
theorem upto_set2 {k : Nat} {F : Nat → Int} {u v : Int} (hv : v = F k) : (fun j => if j = k then v else (if j = k then u else upto k F j)) = upto (k + 1) F := by
  rw [← upto_set hv]
  funext j
  by_cases h : j = k <;> simp [h]
theorem thin_no {a b c d e f : Int} {k : Nat} (hk : k < 3) (h : thinI (axI a b c k) (axI d e f k) = true) : isI a b c d e f = false := by
  match k, hk with
  | 0, _ => have : thinI a d = true := h; simp [isI, this]
  | 1, _ => have : thinI b e = true := h; simp [isI, this]
  | 2, _ => have : thinI c f = true := h; simp [isI, this]
theorem thin_yes {a b c d e f : Int} (h : ∀ j : Nat, j < 3 → thinI (axI a b c j) (axI d e f j) = false) : isI a b c d e f = true := by
  have h0 : thinI a d = false := h 0 (by omega)
  have h1 : thinI b e = false := h 1 (by omega)
  have h2 : thinI c f = false := h 2 (by omega)
  simp [isI, h0, h1, h2]
theorem thin_next {a b c d e f : Int} {k : Nat} (h : ∀ j : Nat, j < k → thinI (axI a b c j) (axI d e f j) = false) (hk : thinI (axI a b c k) (axI d e f k) = false) : ∀ j : Nat, j < k + 1 → thinI (axI a b c j) (axI d e f j) = false := fun j hj => by
  by_cases e' : j = k
  · subst e'; exact hk
  · exact h j (by omega)
theorem ax_bd {a b c : Int} (ha : -140737488355328 ≤ a ∧ a ≤ 140737488355328) (hb : -140737488355328 ≤ b ∧ b ≤ 140737488355328) (hc : -140737488355328 ≤ c ∧ c ≤ 140737488355328) (k : Int) : -140737488355328 ≤ axI a b c k ∧ axI a b c k ≤ 140737488355328 := by
  unfold axI
  split
  · exact ha
  · split
    · exact hb
    · split
      · exact hc
      · omega
theorem ne_lt {g h : Nat} (e : g < h) : g ≠ h := by omega
theorem ne_gt {g h : Nat} (e : h < g) : g ≠ h := by omega
theorem lowI_bd (n : Int) : -2147483648 ≤ lowI n ∧ lowI n ≤ 2147483648 := by
  have h1 := cutI_lo n
  have h2 := cutI_hi n
  unfold lowI
  omega
set_option maxRecDepth 100000 in
set_option maxHeartbeats 8000000 in
theorem rspan_c (a b c d e f : Int) (w : World) : Calls Try.prog 48 #[.agg #[.int .i64 a, .int .i64 b, .int .i64 c, .int .i64 d, .int .i64 e, .int .i64 f]] w fun r w' => r = .returned (spanV a b c d e f) ∧ Below w.heap.size w w' := by
  obtain ⟨W, hW⟩ : ∃ W, W = ((((w.alloc (.cells #[.int .i64 a, .int .i64 b, .int .i64 c, .int .i64 d, .int .i64 e, .int .i64 f] 28)).alloc (.cells #[.int .i64 0, .int .i64 0, .int .i64 0] 40)).alloc (.cells #[.int .i64 0, .int .i64 0, .int .i64 0] 40)).alloc (.cells #[.int .i64 0, .int .i64 0, .int .i64 0] 79)).alloc (.cells #[.int .i64 0, .int .i64 0, .int .i64 0] 79) := ⟨_, rfl⟩
  have H : Below w.heap.size w W := by rw [hW]; go_grown
  have A : Blk W w.heap.size 28 #[.int .i64 a, .int .i64 b, .int .i64 c, .int .i64 d, .int .i64 e, .int .i64 f] := by rw [hW]; exact ((((Blk.new' rfl).alloc _).alloc _).alloc _).alloc _
  have L : Blk W (w.heap.size + 1) 40 #[.int .i64 0, .int .i64 0, .int .i64 0] := by rw [hW]; exact (((Blk.new' (by simp)).alloc _).alloc _).alloc _
  have T : Blk W (w.heap.size + 1 + 1) 40 #[.int .i64 0, .int .i64 0, .int .i64 0] := by rw [hW]; exact ((Blk.new' (by simp)).alloc _).alloc _
  have U : Blk W (w.heap.size + 1 + 1 + 1) 79 (arr3 (upto 0 fun j => lowI (axI a b c j))) := by rw [hW]; exact (Blk.new' (by simp)).alloc _
  have V : Blk W (w.heap.size + 1 + 1 + 1 + 1) 79 (arr3 (upto 0 fun j => topI (axI a b c j) (axI d e f j))) := by rw [hW]; exact Blk.new' (by simp)
  obtain ⟨N, hN⟩ : ∃ N, N = w.heap.size := ⟨_, rfl⟩
  rw [← hN] at A L T U V
  go_enter Try.func48, Try.ntmps48
  go_upto_region 3 with (fail)
  rw [← hW, ← hN]
  have HN := Lib.hid hN
  clear hN hW
  go_upto_region 4 with (fail)
  go_loopw [7] (fun i wr => ∃ k : Nat, k ≤ 3 ∧ i = .int .i64 k ∧ Blk wr N 28 #[.int .i64 a, .int .i64 b, .int .i64 c, .int .i64 d, .int .i64 e, .int .i64 f] ∧ Blk wr (N + 1) 40 #[.int .i64 0, .int .i64 0, .int .i64 0] ∧ Blk wr (N + 1 + 1) 40 #[.int .i64 0, .int .i64 0, .int .i64 0] ∧ 
    Blk wr (N + 1 + 1 + 1) 79 (arr3 (upto k fun j => lowI (axI a b c j))) ∧ Blk wr (N + 1 + 1 + 1 + 1) 79 (arr3 (upto k fun j => topI (axI a b c j) (axI d e f j))) ∧ Hid (∀ j : Nat, j < k → thinI (axI a b c j) (axI d e f j) = false) ∧ Below w.heap.size w wr) (fun i _ => 3 - (intOf i).toNat)
  case atStart => exact ⟨0, by omega, rfl, A, L, T, U, V, fun j hj => by omega, H⟩
  case round =>
    clear A L T U V H
    obtain ⟨k, hk, rfl, A, L, T, U, V, X, H⟩ := hrel
    by_cases hk3 : k = 3
    · subst hk3
      have HT := thin_yes X.out
      have L1 := fun f d os => (U.sp (D := [N + 1, N + 1 + 1]) (by simp; omega) f d os).c3
      have T1 := fun f d os => (V.sp (D := [N + 1, N + 1 + 1]) (by simp; omega) f d os).c3
      go_upto_region 14 with (fail)
      refine wp_two [0, 0, 0, 0, 0, 0, 0, 0, 0, 0, 0, 0, 0, 0, 2, 2, 0] 14 (N + 1) 40 (#[.int .i64 (lowI a), .int .i64 (lowI b), .int .i64 (lowI c)]) 15 (N + 1 + 1) 40 (#[.int .i64 (topI a d), .int .i64 (topI b e), .int .i64 (topI c f)]) (by omega) (by kernel_rfl) (by kernel_rfl) ?_
      repeat (first | (refine wpQs_s ?_) | (refine wpQs_q (fun K hK => ?_); go_simp; first | (refine hK _ ?_; clear hK K) | (apply Exists.intro; refine ⟨fun _ => ?_, hK _ ?_⟩; (fail); clear hK K)) | (refine wpQs_f (fun K hK => ?_); go_simp; refine hK _ ?_; clear hK K))
      refine wpQs_nil ?_
      repeat (refine wpLs_skip ?_)
      refine wpLs_one ?s1 (fun _ => ?_)
      case s1 =>
        intro w_ hw_ hp_
        have L2 := hp_.blk (by simp [Ds2]) L
        obtain ⟨b0, b1, b2, f0, f1, f2⟩ := L2.c3
        go_simp
        exact two_fst (by decide) kept3 (L2.st3 _ _ _)
      refine wpLs_one ?s2 (fun _ => ?_)
      case s2 =>
        intro w_ hw_ hp_
        have T2 := hp_.blk (by simp [Ds2]) T
        obtain ⟨b0, b1, b2, f0, f1, f2⟩ := T2.c3
        go_simp
        exact two_snd (by decide) kept3 (T2.st3 _ _ _)
      refine wpLs_skip ?_
      refine wpLs_nilD ?_
      simp only [tails]
      rintro w1 h1 ⟨⟨-, r1⟩, r2⟩
      obtain ⟨d0, d1, d2, -, -, -⟩ := (r1.1 rfl).c3
      obtain ⟨e0, e1, e2, -, -, -⟩ := (r2.2 rfl).c3
      clear r1 r2
      go_wp2_with fail
      refine bodyPost_ret (v := spanV a b c d e f) (by simp [results, Try.results48, go_sem, d0, d1, d2, e0, e1, e2, HT, zI]) rfl ⟨rfl, ?_⟩
      rw [← HN.out] at H ⊢
      exact H.trans (h1.below (by have := H.size; rwa [← HN.out] at this) (fun b hb => by simp; omega))
    · have hlt : k < 3 := by omega
      obtain ⟨a0, a1, a2, a3, a4, a5⟩ := A.c6.1
      go_upto_region 7 with (go_at_call 25; refine (raxis_c _ _ _ _ _).mono ?_; rintro e_ w1 ⟨rfl, hb1⟩)
      replace A := A.on hb1
      replace L := L.on hb1
      replace T := T.on hb1
      replace U := U.on hb1
      replace V := V.on hb1
      replace H := after H hb1
      clear hb1 a0 a1 a2 a3 a4 a5
      obtain ⟨a0, a1, a2, a3, a4, a5⟩ := A.c6.1
      go_upto_region 8 with (go_at_call 25; refine (raxis_c _ _ _ _ _).mono ?_; rintro e_ w2 ⟨rfl, hb1⟩)
      replace A := A.on hb1
      replace L := L.on hb1
      replace T := T.on hb1
      replace U := U.on hb1
      replace V := V.on hb1
      replace H := after H hb1
      clear hb1 a0 a1 a2 a3 a4 a5
      obtain ⟨n, hn⟩ : ∃ n, n = axI a b c k := ⟨_, rfl⟩
      obtain ⟨m, hm⟩ : ∃ m, m = axI d e f k := ⟨_, rfl⟩
      rw [← hn, ← hm]
      have HNn := Lib.hid hn
      have HMm := Lib.hid hm
      clear hn hm
      have ln := lowI_bd n
      have lm := lowI_bd m
      have u0 := U.cell k
      have v0 := V.cell k
      rw [arr3_get hlt] at u0 v0
      have uf := U.frz k
      have vf := V.frz k
      have hi0 : (0 : Int) ≤ k := by omega
      have hi1 : (k : Int) < 3 := by omega
      go_upto_region 10 with (go_at_call 62; refine (rfloor_c _ _).mono ?_; rintro e_ w3 ⟨rfl, rfl⟩)
      generalize h4 : World.setCell (World.setCell w2 _ _) _ _ = w4
      replace A := Blk.eqw h4 ((A.far (p := ⟨N + 1 + 1 + 1, k, none⟩) (by dsimp only; omega) _).far (p := ⟨N + 1 + 1 + 1 + 1, k, none⟩) (by dsimp only; omega) _)
      replace L := Blk.eqw h4 ((L.far (p := ⟨N + 1 + 1 + 1, k, none⟩) (by dsimp only; omega) _).far (p := ⟨N + 1 + 1 + 1 + 1, k, none⟩) (by dsimp only; omega) _)
      replace T := Blk.eqw h4 ((T.far (p := ⟨N + 1 + 1 + 1, k, none⟩) (by dsimp only; omega) _).far (p := ⟨N + 1 + 1 + 1 + 1, k, none⟩) (by dsimp only; omega) _)
      replace U := Blk.eqw h4 ((U.set_ k _).far (p := ⟨N + 1 + 1 + 1 + 1, k, none⟩) (by dsimp only; omega) _)
      replace V := Blk.eqw h4 ((V.far (p := ⟨N + 1 + 1 + 1, k, none⟩) (by dsimp only; omega) _).set_ k _)
      rw [arr3_set hlt] at U V
      replace H : Below w.heap.size w w4 := by
        rw [← h4, ← HN.out]; rw [← HN.out] at H
        exact (H.setCell (p := ⟨N + 1 + 1 + 1, k, none⟩) (by dsimp only; omega) _).setCell (p := ⟨N + 1 + 1 + 1 + 1, k, none⟩) (by dsimp only; omega) _
      clear h4 u0 v0 uf vf
      have u0 := fun d os => (U.re d os).cell k
      have v0 := fun d os => (V.re d os).cell k
      simp only [arr3_get hlt, if_true] at u0 v0
      have hkw := next64 (Nat.le_refl 3) (by decide) hlt
      rcases top_ways n m with ⟨t1, t2⟩ | ⟨t1, t3, t2⟩ | ⟨t1, t3, t2⟩
      · have T2 := Lib.hid t2
        have tw : (IntKind.i64.wrap (lowI m * 65536) = m) = False := by rw [IntWalk.i64_in _ (by omega)]; simpa using t1
        have tb : (IntKind.i64.wrap (lowI m * 65536) == m) = false := by rw [IntWalk.i64_in _ (by omega)]; exact t1
        have TB := Lib.hid tb
        clear t1 tb
        clear t2
        refine wp_sched [0, 0, 0, 0, 0, 0, 0, 0, 0, 0, 0, 0, 0, 0, 0] (fun _ _ _ => True) (by kernel_rfl) (by kernel_rfl) (fun _ _ _ _ h _ => h) ?_
        repeat (first | (refine wpQs_s ?_) | (refine wpQs_q (fun K hK => ?_); go_simp; first | (refine hK _ ?_; clear hK K) | (apply Exists.intro; refine ⟨fun _ => ?_, hK _ ?_⟩; (fail); clear hK K)) | (refine wpQs_f (fun K hK => ?_); go_simp; refine hK _ ?_; clear hK K))
        refine wpQs_nil ?_
        repeat (first | (refine wpLs_skip ?_) | (refine wpLs_one ?lsA (fun v_ => ?_); case lsA => (intro w_ hw_ hp_; (fail))))
        refine wpLs_nilB ?_
        simp only [tails]
        intro w5 h5 _
        replace A := A.on h5
        replace L := L.on h5
        replace T := T.on h5
        replace U := U.on h5
        replace V := V.on h5
        replace H := after H h5
        clear h5 u0 v0
        have u0 := U.cell k
        have v0 := V.cell k
        simp only [arr3_get hlt, if_true] at u0 v0
        have uf := U.frz k
        have vf := V.frz k
        have tb := TB.out
        clear tw TB
        go_upto_region 12 with (fail)
        clear tb
        try
          generalize h4 : World.setCell w5 _ _ = w6
          replace A := Blk.eqw h4 (A.far (p := ⟨N + 1 + 1 + 1 + 1, k, none⟩) (by dsimp only; omega) _)
          replace L := Blk.eqw h4 (L.far (p := ⟨N + 1 + 1 + 1 + 1, k, none⟩) (by dsimp only; omega) _)
          replace T := Blk.eqw h4 (T.far (p := ⟨N + 1 + 1 + 1 + 1, k, none⟩) (by dsimp only; omega) _)
          replace U := Blk.eqw h4 (U.far (p := ⟨N + 1 + 1 + 1 + 1, k, none⟩) (by dsimp only; omega) _)
          replace V := Blk.eqw h4 (V.set_ k _)
          rw [arr3_set hlt] at V
          replace H : Below w.heap.size w w6 := by
            rw [← h4, ← HN.out]; rw [← HN.out] at H
            exact H.setCell (p := ⟨N + 1 + 1 + 1 + 1, k, none⟩) (by dsimp only; omega) _
          clear h4 v0 uf vf u0
          obtain ⟨w5, h6⟩ : ∃ w5, w5 = w6 := ⟨_, rfl⟩
          rw [← h6] at A L T U V H ⊢
          clear h6
          have u0 := U.cell k
          simp only [arr3_get hlt, if_true] at u0
        have EU := upto_set (k := k) (F := fun j => lowI (axI a b c j)) (v := lowI n) (by rw [HNn.out])
        rw [EU] at U
        first
          | (have EV := upto_set (k := k) (F := fun j => topI (axI a b c j) (axI d e f j)) (v := lowI m) (by rw [← HNn.out, ← HMm.out, T2.out]); rw [EV] at V)
          | (have EV := upto_set2 (k := k) (F := fun j => topI (axI a b c j) (axI d e f j)) (u := lowI m) (v := lowI m - 1) (by rw [← HNn.out, ← HMm.out, T2.out]); rw [EV] at V)
        obtain ⟨l0, l1, l2, lf0, lf1, lf2⟩ := L.c3
        obtain ⟨t0, t1, t2, tf0, tf1, tf2⟩ := T.c3
        have XN := fun (h : thinI n m = false) => thin_next X.out (by rw [← HNn.out, ← HMm.out]; exact h)
        have XY := fun (h : thinI n m = true) => thin_no (a := a) (b := b) (c := c) (d := d) (e := e) (f := f) hlt (by rw [← HNn.out, ← HMm.out]; exact h)
        rcases thin_ways n m with ⟨y1, y2⟩ | ⟨y1, y3, y2⟩ | ⟨y1, y3, y2⟩
        · replace XN := Lib.hid (XN y2)
          clear XY y2 EU EV
          go_wp2_with fail
          go_roundw
          case rel => exact ⟨k + 1, hlt, rfl, A, L, T, U, V, XN.out, H⟩
          case measure => exact next_less' hlt
        · replace XN := Lib.hid (XN y2)
          clear XY y2 EU EV
          go_wp2_with fail
          go_roundw
          case rel => exact ⟨k + 1, hlt, rfl, A, L, T, U, V, XN.out, H⟩
          case measure => exact next_less' hlt
        · replace XY := Lib.hid (XY y2)
          clear XN y2 EU EV
          go_wp2_with fail
          have RL := (L.st3 (.int .i64 0) (.int .i64 0) (.int .i64 0)).far (p := ⟨N + 1 + 1, 0, none⟩) (by dsimp only; omega) (.int .i64 0)
          have RL2 := (RL.far (p := ⟨N + 1 + 1, 1, none⟩) (by dsimp only; omega) (.int .i64 0)).far (p := ⟨N + 1 + 1, 2, none⟩) (by dsimp only; omega) (.int .i64 0)
          have RT := (((T.far (p := ⟨N + 1, 0, none⟩) (by dsimp only; omega) (.int .i64 0)).far (p := ⟨N + 1, 1, none⟩) (by dsimp only; omega) (.int .i64 0)).far (p := ⟨N + 1, 2, none⟩) (by dsimp only; omega) (.int .i64 0)).st3 (.int .i64 0) (.int .i64 0) (.int .i64 0)
          obtain ⟨d0, d1, d2, -, -, -⟩ := RL2.c3
          obtain ⟨e0, e1, e2, -, -, -⟩ := RT.c3
          refine bodyPost_ret (v := spanV a b c d e f) (by simp [results, Try.results48, go_sem, d0, d1, d2, e0, e1, e2, XY.out, zI]) rfl ⟨rfl, ?_⟩
          rw [← HN.out] at H ⊢
          exact (((((H.setCell (p := ⟨N + 1, 0, none⟩) (by dsimp only; omega) _).setCell (p := ⟨N + 1, 1, none⟩) (by dsimp only; omega) _).setCell (p := ⟨N + 1, 2, none⟩) (by dsimp only; omega) _).setCell (p := ⟨N + 1 + 1, 0, none⟩) (by dsimp only; omega) _).setCell (p := ⟨N + 1 + 1, 1, none⟩) (by dsimp only; omega) _).setCell (p := ⟨N + 1 + 1, 2, none⟩) (by dsimp only; omega) _
      · have T2 := Lib.hid t2
        have tw : (IntKind.i64.wrap (lowI m * 65536) = m) = True := by rw [IntWalk.i64_in _ (by omega)]; simpa using t1
        have tb : (IntKind.i64.wrap (lowI m * 65536) == m) = true := by rw [IntWalk.i64_in _ (by omega)]; exact t1
        have TB := Lib.hid tb
        clear t1 tb
        clear t2
        refine wp_sched [0, 0, 0, 0, 0, 0, 0, 0, 0, 0, 0, 0, 0, 0, 0] (fun _ _ _ => True) (by kernel_rfl) (by kernel_rfl) (fun _ _ _ _ h _ => h) ?_
        repeat (first | (refine wpQs_s ?_) | (refine wpQs_q (fun K hK => ?_); go_simp; first | (refine hK _ ?_; clear hK K) | (apply Exists.intro; refine ⟨fun _ => ?_, hK _ ?_⟩; (fail); clear hK K)) | (refine wpQs_f (fun K hK => ?_); go_simp; refine hK _ ?_; clear hK K))
        refine wpQs_nil ?_
        repeat (first | (refine wpLs_skip ?_) | (refine wpLs_one ?lsA (fun v_ => ?_); case lsA => (intro w_ hw_ hp_; (fail))))
        refine wpLs_nilB ?_
        simp only [tails]
        intro w5 h5 _
        replace A := A.on h5
        replace L := L.on h5
        replace T := T.on h5
        replace U := U.on h5
        replace V := V.on h5
        replace H := after H h5
        clear h5 u0 v0
        have u0 := U.cell k
        have v0 := V.cell k
        simp only [arr3_get hlt, if_true] at u0 v0
        have uf := U.frz k
        have vf := V.frz k
        have tb := TB.out
        clear tw TB
        go_upto_region 12 with (fail)
        clear tb
        try
          generalize h4 : World.setCell w5 _ _ = w6
          replace A := Blk.eqw h4 (A.far (p := ⟨N + 1 + 1 + 1 + 1, k, none⟩) (by dsimp only; omega) _)
          replace L := Blk.eqw h4 (L.far (p := ⟨N + 1 + 1 + 1 + 1, k, none⟩) (by dsimp only; omega) _)
          replace T := Blk.eqw h4 (T.far (p := ⟨N + 1 + 1 + 1 + 1, k, none⟩) (by dsimp only; omega) _)
          replace U := Blk.eqw h4 (U.far (p := ⟨N + 1 + 1 + 1 + 1, k, none⟩) (by dsimp only; omega) _)
          replace V := Blk.eqw h4 (V.set_ k _)
          rw [arr3_set hlt] at V
          replace H : Below w.heap.size w w6 := by
            rw [← h4, ← HN.out]; rw [← HN.out] at H
            exact H.setCell (p := ⟨N + 1 + 1 + 1 + 1, k, none⟩) (by dsimp only; omega) _
          clear h4 v0 uf vf u0
          obtain ⟨w5, h6⟩ : ∃ w5, w5 = w6 := ⟨_, rfl⟩
          rw [← h6] at A L T U V H ⊢
          clear h6
          have u0 := U.cell k
          simp only [arr3_get hlt, if_true] at u0
        have EU := upto_set (k := k) (F := fun j => lowI (axI a b c j)) (v := lowI n) (by rw [HNn.out])
        rw [EU] at U
        first
          | (have EV := upto_set (k := k) (F := fun j => topI (axI a b c j) (axI d e f j)) (v := lowI m) (by rw [← HNn.out, ← HMm.out, T2.out]); rw [EV] at V)
          | (have EV := upto_set2 (k := k) (F := fun j => topI (axI a b c j) (axI d e f j)) (u := lowI m) (v := lowI m - 1) (by rw [← HNn.out, ← HMm.out, T2.out]); rw [EV] at V)
        obtain ⟨l0, l1, l2, lf0, lf1, lf2⟩ := L.c3
        obtain ⟨t0, t1, t2, tf0, tf1, tf2⟩ := T.c3
        have XN := fun (h : thinI n m = false) => thin_next X.out (by rw [← HNn.out, ← HMm.out]; exact h)
        have XY := fun (h : thinI n m = true) => thin_no (a := a) (b := b) (c := c) (d := d) (e := e) (f := f) hlt (by rw [← HNn.out, ← HMm.out]; exact h)
        rcases thin_ways n m with ⟨y1, y2⟩ | ⟨y1, y3, y2⟩ | ⟨y1, y3, y2⟩
        · replace XN := Lib.hid (XN y2)
          clear XY y2 EU EV
          go_wp2_with fail
          go_roundw
          case rel => exact ⟨k + 1, hlt, rfl, A, L, T, U, V, XN.out, H⟩
          case measure => exact next_less' hlt
        · replace XN := Lib.hid (XN y2)
          clear XY y2 EU EV
          go_wp2_with fail
          go_roundw
          case rel => exact ⟨k + 1, hlt, rfl, A, L, T, U, V, XN.out, H⟩
          case measure => exact next_less' hlt
        · replace XY := Lib.hid (XY y2)
          clear XN y2 EU EV
          go_wp2_with fail
          have RL := (L.st3 (.int .i64 0) (.int .i64 0) (.int .i64 0)).far (p := ⟨N + 1 + 1, 0, none⟩) (by dsimp only; omega) (.int .i64 0)
          have RL2 := (RL.far (p := ⟨N + 1 + 1, 1, none⟩) (by dsimp only; omega) (.int .i64 0)).far (p := ⟨N + 1 + 1, 2, none⟩) (by dsimp only; omega) (.int .i64 0)
          have RT := (((T.far (p := ⟨N + 1, 0, none⟩) (by dsimp only; omega) (.int .i64 0)).far (p := ⟨N + 1, 1, none⟩) (by dsimp only; omega) (.int .i64 0)).far (p := ⟨N + 1, 2, none⟩) (by dsimp only; omega) (.int .i64 0)).st3 (.int .i64 0) (.int .i64 0) (.int .i64 0)
          obtain ⟨d0, d1, d2, -, -, -⟩ := RL2.c3
          obtain ⟨e0, e1, e2, -, -, -⟩ := RT.c3
          refine bodyPost_ret (v := spanV a b c d e f) (by simp [results, Try.results48, go_sem, d0, d1, d2, e0, e1, e2, XY.out, zI]) rfl ⟨rfl, ?_⟩
          rw [← HN.out] at H ⊢
          exact (((((H.setCell (p := ⟨N + 1, 0, none⟩) (by dsimp only; omega) _).setCell (p := ⟨N + 1, 1, none⟩) (by dsimp only; omega) _).setCell (p := ⟨N + 1, 2, none⟩) (by dsimp only; omega) _).setCell (p := ⟨N + 1 + 1, 0, none⟩) (by dsimp only; omega) _).setCell (p := ⟨N + 1 + 1, 1, none⟩) (by dsimp only; omega) _).setCell (p := ⟨N + 1 + 1, 2, none⟩) (by dsimp only; omega) _
      · have T2 := Lib.hid t2
        have tw : (IntKind.i64.wrap (lowI m * 65536) = m) = True := by rw [IntWalk.i64_in _ (by omega)]; simpa using t1
        have tb : (IntKind.i64.wrap (lowI m * 65536) == m) = true := by rw [IntWalk.i64_in _ (by omega)]; exact t1
        have TB := Lib.hid tb
        clear t1 tb
        clear t2
        refine wp_sched [0, 0, 0, 0, 0, 0, 0, 0, 0, 0, 0, 0, 0, 0, 0] (fun _ _ _ => True) (by kernel_rfl) (by kernel_rfl) (fun _ _ _ _ h _ => h) ?_
        repeat (first | (refine wpQs_s ?_) | (refine wpQs_q (fun K hK => ?_); go_simp; first | (refine hK _ ?_; clear hK K) | (apply Exists.intro; refine ⟨fun _ => ?_, hK _ ?_⟩; (fail); clear hK K)) | (refine wpQs_f (fun K hK => ?_); go_simp; refine hK _ ?_; clear hK K))
        refine wpQs_nil ?_
        repeat (first | (refine wpLs_skip ?_) | (refine wpLs_one ?lsA (fun v_ => ?_); case lsA => (intro w_ hw_ hp_; (fail))))
        refine wpLs_nilB ?_
        simp only [tails]
        intro w5 h5 _
        replace A := A.on h5
        replace L := L.on h5
        replace T := T.on h5
        replace U := U.on h5
        replace V := V.on h5
        replace H := after H h5
        clear h5 u0 v0
        have u0 := U.cell k
        have v0 := V.cell k
        simp only [arr3_get hlt, if_true] at u0 v0
        have uf := U.frz k
        have vf := V.frz k
        have tb := TB.out
        clear tw TB
        go_upto_region 12 with (fail)
        clear tb
        try
          generalize h4 : World.setCell w5 _ _ = w6
          replace A := Blk.eqw h4 (A.far (p := ⟨N + 1 + 1 + 1 + 1, k, none⟩) (by dsimp only; omega) _)
          replace L := Blk.eqw h4 (L.far (p := ⟨N + 1 + 1 + 1 + 1, k, none⟩) (by dsimp only; omega) _)
          replace T := Blk.eqw h4 (T.far (p := ⟨N + 1 + 1 + 1 + 1, k, none⟩) (by dsimp only; omega) _)
          replace U := Blk.eqw h4 (U.far (p := ⟨N + 1 + 1 + 1 + 1, k, none⟩) (by dsimp only; omega) _)
          replace V := Blk.eqw h4 (V.set_ k _)
          rw [arr3_set hlt] at V
          replace H : Below w.heap.size w w6 := by
            rw [← h4, ← HN.out]; rw [← HN.out] at H
            exact H.setCell (p := ⟨N + 1 + 1 + 1 + 1, k, none⟩) (by dsimp only; omega) _
          clear h4 v0 uf vf u0
          obtain ⟨w5, h6⟩ : ∃ w5, w5 = w6 := ⟨_, rfl⟩
          rw [← h6] at A L T U V H ⊢
          clear h6
          have u0 := U.cell k
          simp only [arr3_get hlt, if_true] at u0
        have EU := upto_set (k := k) (F := fun j => lowI (axI a b c j)) (v := lowI n) (by rw [HNn.out])
        rw [EU] at U
        first
          | (have EV := upto_set (k := k) (F := fun j => topI (axI a b c j) (axI d e f j)) (v := lowI m) (by rw [← HNn.out, ← HMm.out, T2.out]); rw [EV] at V)
          | (have EV := upto_set2 (k := k) (F := fun j => topI (axI a b c j) (axI d e f j)) (u := lowI m) (v := lowI m - 1) (by rw [← HNn.out, ← HMm.out, T2.out]); rw [EV] at V)
        obtain ⟨l0, l1, l2, lf0, lf1, lf2⟩ := L.c3
        obtain ⟨t0, t1, t2, tf0, tf1, tf2⟩ := T.c3
        have XN := fun (h : thinI n m = false) => thin_next X.out (by rw [← HNn.out, ← HMm.out]; exact h)
        have XY := fun (h : thinI n m = true) => thin_no (a := a) (b := b) (c := c) (d := d) (e := e) (f := f) hlt (by rw [← HNn.out, ← HMm.out]; exact h)
        rcases thin_ways n m with ⟨y1, y2⟩ | ⟨y1, y3, y2⟩ | ⟨y1, y3, y2⟩
        · replace XN := Lib.hid (XN y2)
          clear XY y2 EU EV
          go_wp2_with fail
          go_roundw
          case rel => exact ⟨k + 1, hlt, rfl, A, L, T, U, V, XN.out, H⟩
          case measure => exact next_less' hlt
        · replace XN := Lib.hid (XN y2)
          clear XY y2 EU EV
          go_wp2_with fail
          go_roundw
          case rel => exact ⟨k + 1, hlt, rfl, A, L, T, U, V, XN.out, H⟩
          case measure => exact next_less' hlt
        · replace XY := Lib.hid (XY y2)
          clear XN y2 EU EV
          go_wp2_with fail
          have RL := (L.st3 (.int .i64 0) (.int .i64 0) (.int .i64 0)).far (p := ⟨N + 1 + 1, 0, none⟩) (by dsimp only; omega) (.int .i64 0)
          have RL2 := (RL.far (p := ⟨N + 1 + 1, 1, none⟩) (by dsimp only; omega) (.int .i64 0)).far (p := ⟨N + 1 + 1, 2, none⟩) (by dsimp only; omega) (.int .i64 0)
          have RT := (((T.far (p := ⟨N + 1, 0, none⟩) (by dsimp only; omega) (.int .i64 0)).far (p := ⟨N + 1, 1, none⟩) (by dsimp only; omega) (.int .i64 0)).far (p := ⟨N + 1, 2, none⟩) (by dsimp only; omega) (.int .i64 0)).st3 (.int .i64 0) (.int .i64 0) (.int .i64 0)
          obtain ⟨d0, d1, d2, -, -, -⟩ := RL2.c3
          obtain ⟨e0, e1, e2, -, -, -⟩ := RT.c3
          refine bodyPost_ret (v := spanV a b c d e f) (by simp [results, Try.results48, go_sem, d0, d1, d2, e0, e1, e2, XY.out, zI]) rfl ⟨rfl, ?_⟩
          rw [← HN.out] at H ⊢
          exact (((((H.setCell (p := ⟨N + 1, 0, none⟩) (by dsimp only; omega) _).setCell (p := ⟨N + 1, 1, none⟩) (by dsimp only; omega) _).setCell (p := ⟨N + 1, 2, none⟩) (by dsimp only; omega) _).setCell (p := ⟨N + 1 + 1, 0, none⟩) (by dsimp only; omega) _).setCell (p := ⟨N + 1 + 1, 1, none⟩) (by dsimp only; omega) _).setCell (p := ⟨N + 1 + 1, 2, none⟩) (by dsimp only; omega) _
end Go.Proofs.Ytmkmaoodeebmfaa
