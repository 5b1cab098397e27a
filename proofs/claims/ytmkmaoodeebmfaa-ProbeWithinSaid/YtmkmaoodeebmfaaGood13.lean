/- A small world, made of any. -/
import Derived.Test.YtmkmaoodeebmfaaProbe2
import Derived.Test.YtmkmaoodeebmfaaFix
import Derived.Test.YtmkmaoodeebmfaaRow
import Derived.Test.YtmkmaoodeebmfaaSched2
namespace Go.Proofs.Ytmkmaoodeebmfaa
open Go.RowKit

def goodI (n : Int) : Int := if 5 < arI n 14 then arI n 14 + 2 else arI n 14
theorem goodI_lo (n : Int) : 0 ≤ goodI n := by have := arI_lo n (m := 14) (by decide); unfold goodI; split <;> omega
theorem goodI_hi (n : Int) : goodI n ≤ 15 := by have := arI_hi n (m := 14) (by decide); unfold goodI; split <;> omega
theorem rgood4_c (n : Int) (h1 : -9223372036854775808 ≤ n) (h2 : n ≤ 9223372036854775807) (w : World) : Calls Try.prog 39 #[.int .i64 n] w fun r w' => r = .returned (.int .i64 (goodI n)) ∧ w = w' := by
  have a1 := arI_lo n (m := 14) (by decide)
  have a2 := arI_hi n (m := 14) (by decide)
  by_cases h : 5 < arI n 14
  all_goals
    go_enter Try.func39, Try.ntmps39
    go_wp2_with fail
    refine (around_c n 14 h1 h2 (by decide) _).mono ?_; rintro e w1 ⟨rfl, rfl⟩
    go_wp2_with fail
    go_returns
    exact ⟨ret_i (by unfold goodI; first | rw [if_pos h] | rw [if_neg (by omega)]), rfl⟩
theorem infI : (Try.prog.info? 3).map (fun i => (i.zero, i.size, i.bytes)) = some (some (.int .i64 0), 1, 8) := by kernel_rfl
/-- The blocks of a small world, made of any. -/
def goodL (n : Nat) (F : Nat → Int) : List Int := (List.range (min n 216)).map fun i => goodI (F i)
theorem goodL_take {n k : Nat} {F : Nat → Int} (hk : k < n) (h2 : k < 216) : (goodL n F).take (k + 1) = (goodL n F).take k ++ [goodI (F k)] := by
  rw [List.take_succ_eq_append_getElem (by simp [goodL]; omega)]
  simp [goodL]
theorem goodL_len {n k : Nat} {F : Nat → Int} (hk : k ≤ min n 216) : ((goodL n F).take k).length = k := by simp [goodL]; omega
theorem goodL_all {n k : Nat} (hk : k ≤ min n 216) (h : ¬ (k < n ∧ k < 216)) : k = min n 216 := by omega
theorem goodL_full {n : Nat} {F : Nat → Int} : (goodL n F).take (min n 216) = goodL n F := List.take_of_length_le (by simp [goodL])
theorem lt_3 (N : Nat) : N < N + 3 ∧ N + 1 < N + 3 ∧ N + 1 + 1 < N + 3 := by omega
theorem le_3 (N : Nat) : N ≤ N + 1 ∧ N ≤ N + 1 + 1 := by omega
theorem ne_1 (N : Nat) : N ≠ N + 1 := by omega
theorem ne_2 (N : Nat) : N ≠ N + 1 + 1 := by omega
set_option maxRecDepth 100000 in
set_option maxHeartbeats 4000000 in
theorem rgood13_at (q : Option Addr) (n c : Nat) (F : Nat → Int) (els : Int) (hm : c ≤ maxLen) (w : World) (hq : Iq w q n F) (hF : ∀ i, i < n → In64 (F i)) (he : In64 els) :
    Calls Try.prog 9 #[.agg #[.slice q n c, .int .i64 els]] w fun r w' => ∃ q' c', r = .returned (.agg #[.slice q' (min n 216) c', .int .i64 (arI els 3 - 1)]) ∧ Rd w' q' 1 encI (goodL n F) ∧ min n 216 ≤ c' ∧ c' ≤ maxLen ∧ Below w.heap.size w w' ∧ ∀ a, q' = some a → w.heap.size ≤ a.block := by
  obtain ⟨W, hW⟩ : ∃ W, W = ((w.alloc (.cells #[.slice q n c, .int .i64 els] 24)).alloc (.cells #[.slice none 0 0, .int .i64 0] 24)).alloc (.cells #[.slice none 0 0, .int .i64 0] 24) := ⟨_, rfl⟩
  have H : Below w.heap.size w W := by rw [hW]; go_grown
  have A : Blk W w.heap.size 24 #[.slice q n c, .int .i64 els] := by rw [hW]; exact ((Blk.new' rfl).alloc _).alloc _
  have B : Blk W (w.heap.size + 1) 24 #[.slice none 0 0, .int .i64 0] := by rw [hW]; exact (Blk.new' (by simp)).alloc _
  have O : Blk W (w.heap.size + 1 + 1) 24 #[.slice none 0 0, .int .i64 0] := by rw [hW]; exact Blk.new' (by simp)
  have hs : W.heap.size = w.heap.size + 3 := by rw [hW]; simp
  obtain ⟨N, hN⟩ : ∃ N, N = w.heap.size := ⟨_, rfl⟩
  rw [← hN] at A B O hs
  go_enter Try.func9, Try.ntmps9
  go_upto_region 2 with (fail)
  rw [← hW, ← hN]
  go_upto_region 3 with (fail)
  clear hW
  have HN := Lib.hid hN
  have HM := Lib.hid hm
  clear hN hm
  have hq' := hq.on H
  go_loopw [4] (fun i wr => ∃ (k : Nat) (v : Value), k ≤ min n 216 ∧ i = .int .i64 k ∧ Blk wr N 24 #[.slice q n c, .int .i64 els] ∧ Blk wr (N + 1) 24 #[.slice none 0 0, .int .i64 0] ∧ Blk wr (N + 1 + 1) 24 #[v, .int .i64 0] ∧ Owns wr (N + 3) 3 1 encI v ((goodL n F).take k) ∧ N + 3 ≤ wr.heap.size ∧ Below w.heap.size w wr) (fun i _ => 216 - (intOf i).toNat)
  case atStart => exact ⟨0, _, by omega, rfl, A, B, O, by rw [List.take_zero]; exact Owns.nil, by omega, H⟩
  case round =>
    clear A B O H hs hq'
    obtain ⟨k, v, hk, rfl, A, B, O, V, hs, H⟩ := hrel
    have hqw := hq.on H
    by_cases hlt : k < n
    · by_cases h2 : k < 216
      · obtain ⟨g, o, rfl, hI⟩ := hqw (by omega)
        have hc := hI k hlt
        have hFk := hF k hlt
        have a0 := A.cell 0
        have o0 := O.cell 0
        have hi0 : (0 : Int) ≤ k := by omega
        have hi1 : (k : Int) < n := by omega
        go_upto_region 5 with (fail)
        have a0 := fun d os => (A.re d os).cell 0
        have o0 := fun d os => (O.re d os).cell 0
        have hc' := fun d os => cell_regrown hc d os
        refine wp_sched [0, 0, 0, 0, 0, 0, 0, 0, 2, 3, 3, 3] (fun _ v w => ∃ b, v = .slice (some ⟨b, 0, none⟩) 1 1 ∧ Blk w b 3 #[.int .i64 (goodI (F k))] ∧ N + 3 ≤ b) (by kernel_rfl) (by kernel_rfl) (fun _ _ _ _ ⟨b, h1, h2, h3⟩ h => ⟨b, h1, h2.on h, h3⟩) ?_
        repeat (first | (refine wpQs_s ?_) | (refine wpQs_q (fun K hK => ?_); go_simp; first | (refine hK _ ?_; clear hK K) | (apply Exists.intro; refine ⟨fun _ => ?_, hK _ ?_⟩; (exact (rgood4_c _ hFk.1 hFk.2 _).mono fun _ _ ⟨he, hw⟩ => ⟨he, by rw [← hw]; exact Below.refl _ _⟩); clear hK K)) | (refine wpQs_f (fun K hK => ?_); go_simp; refine hK _ ?_; clear hK K))
        refine wpQs_nil ?_
        repeat (first | (refine wpLs_skip ?_) | (refine wpLs_one ?lsA (fun v_ => ?_); case lsA => (intro w_ hw_ hp_; (go_simp; exact ⟨Kept.of_below ((Below.refl _ _).alloc (Nat.le_refl _) _), Blk.new' rfl, Nat.le_trans hs (msd_kept hw_).size⟩))))
        refine wpLs_nilB ?_
        simp only [tails]
        rintro W1 h1 ⟨-, b, rfl, hB, hb⟩
        have b0 := hB.cell 0
        replace A := A.on h1
        replace O := O.on h1
        replace B := B.on h1
        replace V := V.on h1
        have hs1 : N + 3 ≤ W1.heap.size := Nat.le_trans hs h1.size
        obtain ⟨v', w', hrun, V2, -, hb2, g2, c2, rfl⟩ := run_push (P := Try.prog) (ts := 22) (ty := 22) (x := goodI (F k)) (b := b) Try.underlying22 infI rfl (by decide) (by decide) rfl (by simp [Value.oneCell']) V
          (fun j u hu => by rw [hB.cell j]; simpa using hu) (by simp; omega) hs1
        rw [goodL_len hk] at hrun V2
        rw [← goodL_take hlt h2] at V2
        replace A := A.below hb2 (by omega)
        replace O := O.below hb2 (by omega)
        replace B := B.below hb2 (by omega)
        have f0 := O.frz 0
        have o0 := O.cell 0
        have hs2 : N + 3 ≤ w'.heap.size := Nat.le_trans hs1 hb2.size
        clear hB b0 V
        go_wp2_with (at_builtin; refine Lib.wpList_append_run _ rfl _ _ _ _ rfl _ _ rfl rfl _ _ hrun ?_)
        have hkw := next64 (Nat.le_refl 216) (by decide) h2
        go_roundw
        case rel => exact ⟨k + 1, _, Nat.lt_min.2 ⟨hlt, h2⟩, rfl, A.far (ne_2 N) _, B.far (ne_1 (N + 1)) _, O.set_ 0 _, V2.far (Nat.lt_succ_self _) _, by simp [World.setCell]; exact hs2, ((after H h1).trans (hb2.mono (by rw [← HN.out]; exact Nat.le_add_right _ _))).setCell (by rw [← HN.out]; exact Nat.le_add_right _ 2) _⟩
        case measure => exact next_less' h2
      · have hk2 := goodL_all hk (by omega)
        have VL := goodL_len (F := F) hk
        rw [hk2] at VL
        rw [hk2, goodL_full] at V
        rw [goodL_full] at VL
        obtain ⟨q', c', rfl, k1, k2, k3, k4, -⟩ := V.form lenI
        rw [VL] at O k1
        have K2 := Lib.hid k2
        clear k2
        have a0 := A.cell 0
        have a1 := A.cell 1
        have o0 := O.cell 0
        have o1 := O.cell 1
        have of1 := O.frz 1
        have b0 := B.cell 0
        have b1 := B.cell 1
        have bf0 := B.frz 0
        have bf1 := B.frz 1
        have r1 := arI_lo els (m := 3) (by decide)
        have r2 := arI_hi els (m := 3) (by decide)
        clear hqw hq
        go_upto_region 6 with (fail)
        go_wp2_with fail
        refine (around_c els 3 he.1 he.2 (by decide) _).mono ?_; rintro e w1 ⟨rfl, rfl⟩
        go_wp2_with fail
        have R := ((B.far (p := ⟨N + 1 + 1, 1, none⟩) (ne_1 (N + 1)) (.int .i64 (arI els 3 - 1))).set_ 0 (.slice q' (min n 216) c')).set_ 1 (.int .i64 (arI els 3 - 1))
        have d0 := R.cell 0
        have d1 := R.cell 1
        refine bodyPost_ret (v := .agg #[.slice q' (min n 216) c', .int .i64 (arI els 3 - 1)]) (by simp [results, Try.results9, go_sem] at d0 d1 ⊢; simp [d0, d1]) rfl ⟨q', c', rfl, ?_, k1, K2.out, ?_, fun a ha => Nat.le_trans (by rw [← HN.out]; omega) (k4 a ha).1⟩
        · exact ((k3.far (fun a ha => (k4 a ha).1) (p := ⟨N + 1 + 1, 1, none⟩) (lt_3 N).2.2 _).far (fun a ha => (k4 a ha).1) (p := ⟨N + 1, 0, none⟩) (lt_3 N).2.1 _).far (fun a ha => (k4 a ha).1) (p := ⟨N + 1, 1, none⟩) (lt_3 N).2.1 _
        · rw [← HN.out]; rw [← HN.out] at H; exact ((H.setCell (p := ⟨N + 1 + 1, 1, none⟩) (le_3 N).2 _).setCell (p := ⟨N + 1, 0, none⟩) (le_3 N).1 _).setCell (p := ⟨N + 1, 1, none⟩) (le_3 N).1 _
    · have h2 : ¬ (k < n ∧ k < 216) := fun h => hlt h.1
      have hk2 := goodL_all hk (by omega)
      have VL := goodL_len (F := F) hk
      rw [hk2] at VL
      rw [hk2, goodL_full] at V
      rw [goodL_full] at VL
      obtain ⟨q', c', rfl, k1, k2, k3, k4, -⟩ := V.form lenI
      rw [VL] at O k1
      have K2 := Lib.hid k2
      clear k2
      have a0 := A.cell 0
      have a1 := A.cell 1
      have o0 := O.cell 0
      have o1 := O.cell 1
      have of1 := O.frz 1
      have b0 := B.cell 0
      have b1 := B.cell 1
      have bf0 := B.frz 0
      have bf1 := B.frz 1
      have r1 := arI_lo els (m := 3) (by decide)
      have r2 := arI_hi els (m := 3) (by decide)
      clear hqw hq
      go_upto_region 6 with (fail)
      go_wp2_with fail
      refine (around_c els 3 he.1 he.2 (by decide) _).mono ?_; rintro e w1 ⟨rfl, rfl⟩
      go_wp2_with fail
      have R := ((B.far (p := ⟨N + 1 + 1, 1, none⟩) (ne_1 (N + 1)) (.int .i64 (arI els 3 - 1))).set_ 0 (.slice q' (min n 216) c')).set_ 1 (.int .i64 (arI els 3 - 1))
      have d0 := R.cell 0
      have d1 := R.cell 1
      refine bodyPost_ret (v := .agg #[.slice q' (min n 216) c', .int .i64 (arI els 3 - 1)]) (by simp [results, Try.results9, go_sem] at d0 d1 ⊢; simp [d0, d1]) rfl ⟨q', c', rfl, ?_, k1, K2.out, ?_, fun a ha => Nat.le_trans (by rw [← HN.out]; omega) (k4 a ha).1⟩
      · exact ((k3.far (fun a ha => (k4 a ha).1) (p := ⟨N + 1 + 1, 1, none⟩) (lt_3 N).2.2 _).far (fun a ha => (k4 a ha).1) (p := ⟨N + 1, 0, none⟩) (lt_3 N).2.1 _).far (fun a ha => (k4 a ha).1) (p := ⟨N + 1, 1, none⟩) (lt_3 N).2.1 _
      · rw [← HN.out]; rw [← HN.out] at H; exact ((H.setCell (p := ⟨N + 1 + 1, 1, none⟩) (le_3 N).2 _).setCell (p := ⟨N + 1, 0, none⟩) (le_3 N).1 _).setCell (p := ⟨N + 1, 1, none⟩) (le_3 N).1 _
theorem rgood13_c (q : Option Addr) (n c : Nat) (F : Nat → Int) (els : Int) (hm : c ≤ maxLen) (w : World) (hq : Iq w q n F) (hF : ∀ i, i < n → In64 (F i)) (he : In64 els) :
    Calls Try.prog 9 #[.agg #[.slice q n c, .int .i64 els]] w fun r w' => ∃ q' c', r = .returned (.agg #[.slice q' (min n 216) c', .int .i64 (arI els 3 - 1)]) ∧ Rd w' q' 1 encI (goodL n F) ∧ min n 216 ≤ c' ∧ c' ≤ maxLen ∧ Below w.heap.size w w' :=
  (rgood13_at q n c F els hm w hq hF he).mono fun _ _ ⟨q', c', h1, h2, h3, h4, h5, _⟩ => ⟨q', c', h1, h2, h3, h4, h5⟩
end Go.Proofs.Ytmkmaoodeebmfaa
