/- Has a disk what it must have? -/
import Derived.Test.YtlmjggbpophnfaaDoes
import Derived.Test.YtlmjggbpophnfaaDisk7
namespace Go.Proofs.Ytlmjggbpophnfaa
open Go.RowKit Go.Maps
attribute [local go_sem] Oper.semAt_some

theorem rd_at {w : World} {q : Option Addr} {xs : List Int} (h : Rd w q 1 encI xs) {i : Nat} {x : Int} (hx : xs[i]? = some x) : ∃ g o, q = some ⟨g, o, none⟩ ∧ w.cell? ⟨g, o + i, none⟩ = some (.int .i64 x) := by
  obtain ⟨g, o, hq, h1⟩ := h (by have := (List.getElem?_eq_some_iff.1 hx).1; omega)
  have h2 := h1 i x hx 0 (.int .i64 x) rfl
  rw [Nat.mul_one, Nat.add_zero] at h2
  exact ⟨g, o, hq, h2⟩
set_option maxRecDepth 100000 in
set_option maxHeartbeats 8000000 in
theorem like_c (base d : Nat) (M : Nat → Prop) (S : DS) (N : Nat) (w : World) (h : DiskIs w base M d S) (hok : DOk S N 20) (hN : N ≤ 1000) (v : Value) (hv : RefIs w base v S) :
    Calls Try.prog 23 #[.pointer (some ⟨d, 0, none⟩), v] w fun r w' => r = .returned (.bool true) ∧ Below w.heap.size w w' := by
  obtain ⟨a, b, sl, ll, rfl, hra⟩ := hv
  have hokB := hok.mono (Nat.le_refl _) (show 20 ≤ 1000000 by decide)
  obtain ⟨W0, hW⟩ : ∃ W0, W0 = w.alloc (.cells (dv S a b) 42) := ⟨_, rfl⟩
  have hb0 : Below w.heap.size w W0 := by rw [hW]; exact bel_alloc _ _
  have A0 : Blk W0 w.heap.size 42 (dv S a b) := by rw [hW]; exact Blk.new' rfl
  have HNOW := Lib.hid (rnow_c base a b S sl ll N W0 (hra.on hb0) hokB (by omega))
  have HKEY := Lib.hid (fun W (hW : Below w.heap.size w W) => keys_c base d M S N W (h.on hW) hokB (by omega))
  have HRA := Lib.hid hra
  have HD := Lib.hid h
  have HB0 := Lib.hid hb0
  clear h hra
  obtain ⟨aq, an, ac⟩ := a
  obtain ⟨bq, bn, bc⟩ := b
  simp only [dv, slV] at A0 hW HNOW ⊢
  obtain ⟨⟨a0, a1, a2, a3, a4⟩, -⟩ := A0.c5
  go_enter Try.func23, Try.ntmps23
  go_upto_region 1 with (fail)
  rw [← hW]
  clear hW
  go_upto_region 3 with first
    | (go_at_call 33; refine HNOW.out.mono ?_; rintro e_ w1 ⟨⟨q1, n1, c1⟩, rfl, hr1, h1⟩)
    | (go_at_call 34; refine (HKEY.out _ (after HB0.out h1)).mono ?_; rintro e_ w2 ⟨v2, rfl, ho2, h2⟩; obtain ⟨q2, c2, rfl, k1, k2, hk2, -⟩ := ho2.form lenI)
  have h02 := after (after HB0.out h1) h2
  have hfc := HRA.out.facts hok
  have hln : n1 = (nowL sl ll).length := hr1.len
  subst hln
  have hlk : (S.now.map (·.1)).length = (nowL sl ll).length := by rw [← hfc.2.2.2.1, List.length_map, cont_len]
  generalize hks : S.now.map (·.1) = ks at *
  rw [hlk] at k1
  have hL1 := Lib.hid (fun W (hW : Below w2.heap.size w2 W) => len_c base d M S N W (HD.out.on (after h02 hW)) hokB (by omega))
  have hL2 := Lib.hid (fun W (hW : Below w2.heap.size w2 W) => rlen_c (q1, (nowL sl ll).length, c1) (nowL sl ll) W ((hr1.on h2).on hW) (by have := hfc.2.1; have := len_now ll sl; omega) (Nat.le_trans hfc.2.2.2.2.2 (by omega)))
  have hlens : lens (nowL sl ll) = lenB S.now := by rw [lens_is hfc.2.2.1, hfc.2.2.2.1]
  rw [hlens] at hL2
  have hL3 := Lib.hid (fun W (hW : Below w2.heap.size w2 W) => room_c base d M S W (HD.out.on (after h02 hW)))
  have hL4 := Lib.hid (fun W (hW : Below w2.heap.size w2 W) => left_c base d M S N W (HD.out.on (after h02 hW)) hokB (by omega))
  have hra2 := HRA.out.on h02
  have hlb : bn = ll.length := hra2.rb.len
  have hL5 := Lib.hid (fun W (hW : Below w2.heap.size w2 W) => rlen_c (bq, bn, bc) ll W (hra2.rb.on hW) (by have := hfc.2.1; omega) (by rw [lens_is hra2.gb, ← hra2.l]; refine Nat.le_trans (lenB_le (M := 20) fun p hp => hok.size p (List.mem_append.2 (.inr hp))) ?_; have := hok.many; omega))
  have hlens2 : lens ll = lenB S.l := by rw [lens_is HRA.out.gb, ← HRA.out.l]
  rw [hlens2] at hL5
  simp only [slV] at hL2 hL5
  have L1 := Lib.hid (fun W (hW : Below w2.heap.size w2 W) => hL1.out W hW)
  have L2 := Lib.hid (fun W (hW : Below w2.heap.size w2 W) => calls_bel (hL2.out W hW))
  have L5 := Lib.hid (fun W (hW : Below w2.heap.size w2 W) => calls_bel (hL5.out W hW))
  clear hL1 hL2 hL5
  have hgets : ∀ (k : Nat) (p : Int × SL), (nowL sl ll)[k]? = some p → S.get p.1 = some (rdB w p.2) ∧ ks[k]? = some p.1 ∧ In64 p.1 ∧ GoodS w base p.2 := fun k p hp => by
    obtain ⟨f1, f2, f3, f4, f5, f6⟩ := hfc
    have hm := List.mem_of_getElem? hp
    refine ⟨?_, ?_, ?_, f3 p hm⟩
    · unfold DS.get
      rw [← f4, cont_get, getL_at f5 hp]; rfl
    · rw [← hks, ← f4]
      unfold cont
      rw [List.map_map, List.getElem?_map, hp]; rfl
    · refine hok.now.2.1 (p.1, rdB w p.2) ?_
      rw [← f4]
      exact List.mem_map.2 ⟨p, hm, rfl⟩
  have HGT := Lib.hid hgets
  have HR1 := Lib.hid (And.intro (hr1.on h2) hk2)
  have H02 := Lib.hid h02
  have HOK := Lib.hid hokB
  have A2 := A0.on (after h1 h2)
  have a0' : ∀ d os, (Go.Sort.grow (redrawn w2 d) os).cell? ⟨w.heap.size, 0, none⟩ = some (.int .i64 S.room) := fun d os => (A2.re d os).cell 0
  have a4' : ∀ d os, (Go.Sort.grow (redrawn w2 d) os).cell? ⟨w.heap.size, 4, none⟩ = some (.slice bq bn bc) := fun d os => (A2.re d os).cell 4
  obtain ⟨m, hm⟩ : ∃ m, m = (nowL sl ll).length := ⟨_, rfl⟩
  have HMM := Lib.hid (And.intro hm (And.intro hr1.cap k1))
  have hcm := hr1.most
  have hm6 : m ≤ 1000000 := by rw [hm]; have := hfc.2.1; have := len_now ll sl; omega
  have hmc : m ≤ c1 := by rw [hm]; exact hr1.cap
  have hmk : m ≤ c2 := by rw [hm]; exact k1
  have hnl : S.now.length = (nowL sl ll).length := by rw [← hlk, ← hks, List.length_map]
  rw [hnl]
  rw [← hm] at L2 ⊢
  clear hgets hra2 hlb hlens hlens2 hfc hr1 hk2 h02 hokB hok A0 hks hlk hnl h1 h2 a0 a1 a2 a3 a4 HNOW HKEY k1 hm HRA hcm
  refine wp_region_quiet_below (by kernel_rfl) (by kernel_rfl) ?_
  repeat (go_big_quiet_step (first | (with_reducible exact Calls.regrown_of (L1.out _ (below_regrown _ _ _))) | (with_reducible exact Calls.regrown_of (L2.out _ (below_regrown _ _ _))) | (with_reducible exact Calls.regrown_of (hL3.out _ (below_regrown _ _ _))) | (with_reducible exact Calls.regrown_of (hL4.out _ (below_regrown _ _ _))) | (with_reducible exact Calls.regrown_of (L5.out _ (below_regrown _ _ _)))))
  refine wpQuiet_nil ?_
  intro w' hw'
  obtain ⟨rg, rfl⟩ := hw'
  obtain ⟨W3, hW3⟩ : ∃ W3, W3 = Go.Sort.grow (redrawn w2 rg.d) rg.os := ⟨_, rfl⟩
  have H3 : Below w2.heap.size w2 W3 := by rw [hW3]; exact below_regrown _ _ _
  rw [← hW3]
  have HH3 := Lib.hid H3
  clear hW3 H3 a0' a4' A2
  go_upto_region 6 with (fail)
  go_loopw [7] (fun i wr => ∃ k : Nat, k ≤ m ∧ i = .int .i64 k ∧ Hid (Below W3.heap.size W3 wr)) (fun i _ => m - (intOf i).toNat)
  case atStart => exact ⟨0, Nat.zero_le _, rfl, Lib.hid (Below.refl _ _)⟩
  case round =>
    obtain ⟨k, hk, rfl, HB⟩ := hrel
    by_cases hlt : k < m
    · obtain ⟨p, hp⟩ := lt_at (xs := nowL sl ll) (k := k) (by rw [← HMM.out.1]; exact hlt)
      obtain ⟨e1, e2, e3, e4⟩ := HGT.out k p hp
      have hBr := after HH3.out HB.out
      obtain ⟨g, cur, hq, -, hr⟩ := (HR1.out.1.on hBr).lies (by rw [← HMM.out.1]; omega)
      obtain ⟨r0, r1⟩ := hr k p hp
      have hkr := (HR1.out.2.on hBr)
      have hg := get_c base d M S N wr (HD.out.on (after H02.out hBr)) HOK.out (by omega) p.1 e3
      rw [e1] at hg
      obtain ⟨g', o', hq', hk0⟩ := rd_at hkr e2
      have e5 := e4.on (after H02.out hBr)
      obtain ⟨pk, pq, pn, pc⟩ := p
      dsimp only at hq r0 r1 hg e3 e4 e5 hk0
      subst hq hq'
      simp only [slV] at r0 r1 hg
      have HG := Lib.hid hg
      have HE := Lib.hid e5
      have hk1 : (k : Int) < (m : Int) := by omega
      have hk2 : (0 : Int) ≤ (k : Int) := by omega
      have hkc1 : k < c1 := by omega
      have hkc2 : k < c2 := by omega
      have RR := Lib.hid (And.intro r0 (And.intro r1 hk0))
      clear hg e1 e2 e3 e4 e5 hr hkr hBr hp
      go_upto_region 9 with (go_at_call 15; refine HG.out.mono ?_; rintro e_ w4 ⟨⟨q4, n4, c4⟩, rfl, g4, r4, h4⟩)
      obtain ⟨r0, r1, hk0⟩ := RR.out
      have s0 := cell_regrown ((h4.cell (p := ⟨g, k * 2, none⟩) (cell_lt r0)).trans r0)
      have s1 := cell_regrown ((h4.cell (p := ⟨g, k * 2 + 1, none⟩) (cell_lt r1)).trans r1)
      have s2 := cell_regrown ((h4.cell (p := ⟨g', o' + k, none⟩) (cell_lt hk0)).trans hk0)
      have hS := fun W (hW : Below w4.heap.size w4 W) => calls_bel (same_s (g4.on hW).1 (HE.out.1.on (after h4 hW)).1 (by rw [(g4.on hW).2, r4, (HE.out.1.on (after h4 hW)).2, HE.out.2]; rfl))
      simp only [slV] at hS
      have HS := Lib.hid hS
      have H4 := Lib.hid (after HB.out h4)
      clear hS g4 r4 h4 r0 r1 hk0 RR HE HG
      refine wp_region_quiet_below (by kernel_rfl) (by kernel_rfl) ?_
      repeat (go_big_quiet_step (with_reducible exact Calls.regrown_of (HS.out _ (below_regrown _ _ _))))
      refine wpQuiet_nil ?_
      intro w' hw'
      obtain ⟨rg, rfl⟩ := hw'
      clear s0 s1 s2
      go_wp2_with fail
      exact ⟨⟨k + 1, hlt, by go_num, Lib.hid (after H4.out (below_regrown _ _ _))⟩, next_less' hlt⟩
    · obtain rfl : k = m := by omega
      have hk1 : ¬ ((k : Int) < (k : Int)) := by omega
      go_wp2_with fail
      go_returns
      exact ⟨rfl, after (after H02.out HH3.out) HB.out⟩
end Go.Proofs.Ytlmjggbpophnfaa
