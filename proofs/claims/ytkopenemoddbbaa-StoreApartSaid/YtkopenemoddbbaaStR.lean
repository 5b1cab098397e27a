/- The record of bytes: the walks. -/
import Derived.Test.YtkopenemoddbbaaStW
namespace Go.Proofs.Ytkopenemoddbbaa
open Go.RowKit
attribute [local go_sem] Oper.semAt_some

def ReadR (base : Nat) (x : Int × Bs × Int) (r : Ending) (w w' : World) : Prop := ∃ s : SL, r = .returned (.tuple #[.int .i64 x.1, slV s, .int .i64 x.2.2]) ∧ GoodS w' base s ∧ rdB w' s = x.2.1 ∧ Below w.heap.size w w'
theorem read_none {base : Nat} {x : Int × Bs × Int} {e : Int} {w w' : World} (hx : x = (0, [], e)) (hw : Below w.heap.size w w') : ReadR base x (.returned (.tuple #[.int .i64 0, .slice none 0 0, .int .i64 e])) w w' := by
  subst hx
  exact ⟨(none, 0, 0), rfl, good_nil, rfl, hw⟩
theorem num_at {w : World} {g o n k j : Nat} {F : Nat → B8} (hB : Byt w g o n F) (h : k + j ≤ n) : Byq w (some ⟨g, o + k, none⟩) j (fun i => F (k + i)) := Byq.of fun i hi => by
  have := hB (k + i) (by omega)
  rwa [← Nat.add_assoc] at this
theorem num_sh (F : Nat → B8) (k n : Nat) : numF (fun i => F (k + i)) 0 n = numF F k n := num_cong fun i _ => by simp
theorem bs_take (b : Bs) {k : Nat} (h : k ≤ b.length) : bsOf (fb b) k = b.take k := by rw [← bsOf_take (fb b) h, bsOf_self']
theorem read_at {w w1 w2 : World} {base g m c1 : Nat} {b : Bs} {q : Option Addr} {cur : Array Value} (hC : Blk w1 g 5 cur) (hB : Byt w1 g 0 (m + 7) (fb b)) (k1 : m + 7 ≤ c1) (k2 : c1 ≤ maxLen) (hm : b.length = m + 9) (hq : 0 < m → q = some ⟨g, 7, none⟩) (hr : readL b = (numF (fb b) 0 4, (b.take (b.length - 2)).drop 7, 0)) (G1 : Below w.heap.size w w1) (G2 : Below w1.heap.size w1 w2) :
    ReadR base (readL b) (.returned (.tuple #[.int .i64 (numF (fb b) 0 4), .slice q m (c1 - 7), .int .i64 0])) w w2 := by
  rw [hr]
  have hg : GoodS w1 base (some ⟨g, 0, none⟩, m + 7, c1) := ⟨k1, k2, fun _ => ⟨g, 0, _, rfl, hB, .inr ⟨cur, hC⟩⟩⟩
  obtain ⟨h1, h2⟩ := hg.drop (k := 7) (Nat.le_add_left 7 m) q fun h => by rw [Nat.zero_add]; exact hq (by omega)
  rw [Nat.add_sub_cancel] at h1 h2
  obtain ⟨h3, h4⟩ := h1.on G2
  refine ⟨(q, m, c1 - 7), rfl, h3, ?_, after G1 G2⟩
  rw [h4, h2, rdB_of hB, bs_take b (by omega), hm]
  rfl
set_option maxRecDepth 100000 in
set_option maxHeartbeats 4000000 in
theorem sread_c (base : Nat) (s : SL) (w : World) (hs : GoodS w base s) (hz : s.2.1 ≤ 1000000) :
    Calls Try.prog 14 #[slV s] w fun r w' => ReadR base (readL (rdB w s)) r w w' := by
  have hl := hs.len
  have hq := hs.byq
  have hcap := hs.cap
  have hmost := hs.most
  generalize hb : rdB w s = b at hl hq ⊢
  replace hq : Byq w s.1 s.2.1 (fb b) := hq
  clear hs hb
  obtain ⟨q, n, c⟩ := s
  dsimp only at hl hq hcap hmost hz
  subst hl
  simp only [slV]
  by_cases h2 : okF (fb b) b.length
  · have h20 := h2.1
    have HT := Lib.hid (take_ok q b.length c (fb b) hcap hmost hz w hq h2)
    by_cases h9 : b.length < 9
    · have HR := Lib.hid (read_low h2 h9)
      have e7 : ((b.length - 2 : Nat) : Int) < 7 := by omega
      clear hq h2
      go_enter Try.func14, Try.ntmps14
      go_wp2_with (go_at_call 30; refine HT.out.mono ?_; rintro e_ w1 ⟨x1, rfl, o1, g1⟩; obtain ⟨q1, c1, rfl, -, -, -⟩ := own_byq o1; have G1 := Lib.hid g1; clear g1 o1)
      go_returns
      exact read_none HR.out G1.out
    · have hlen : (b.length - 2) = (b.length - 9) + 7 := by omega
      rw [hlen] at HT
      have H2 := Lib.hid (And.intro h2 h9)
      have HB9 := Lib.hid (show b.length = (b.length - 9) + 9 by omega)
      clear hq h2 h20 h9 hlen
      go_enter Try.func14, Try.ntmps14
      go_upto_region 6 with (go_at_call 30; refine HT.out.mono ?_; rintro e_ w1 ⟨x1, rfl, o1, g1⟩; obtain ⟨g, c1, cur, rfl, hbg, hC, k1, k2, k3, hB⟩ := own_form o1 (Nat.succ_pos _); clear o1 k3)
      generalize hm : b.length - 9 = m at *
      have hm9 : b.length = m + 9 := by have := HB9.out; omega
      have e7 : ¬ ((m : Int) + 7 < 7) := by omega
      have hN4 : ∀ d os, Calls Try.prog 31 #[.slice (some ⟨g, 0, none⟩) 4 c1] (Go.Sort.grow (redrawn w1 d) os) fun r w' => r = .returned (.int .i64 (numF (fb b) 0 4)) ∧ (Go.Sort.grow (redrawn w1 d) os) = w' := fun d os => stake_c _ 4 c1 (fb b) (by decide) (by omega) _ (Byq.of ((hB.re d os).le (by omega)))
      have hN3 : ∀ d os, Calls Try.prog 31 #[.slice (some ⟨g, 4, none⟩) 3 (c1 - 4)] (Go.Sort.grow (redrawn w1 d) os) fun r w' => r = .returned (.int .i64 (numF (fb b) 4 3)) ∧ (Go.Sort.grow (redrawn w1 d) os) = w' := fun d os => by
        rw [← num_sh]
        have := num_at (k := 4) (j := 3) (hB.re d os) (by omega)
        rw [Nat.zero_add] at this
        exact stake_c _ 3 (c1 - 4) _ (by decide) (by omega) _ this
      have HN4 := Lib.hid fun d os => calls_bel (hN4 d os)
      have HN3 := Lib.hid fun d os => calls_bel (hN3 d os)
      clear hN4 hN3
      have kc4 : 4 ≤ c1 := by omega
      have kc7 : 7 ≤ c1 := by omega
      refine wp_region_quiet_below (by kernel_rfl) (by kernel_rfl) ?_
      repeat (go_big_quiet_step (first | (with_reducible exact Calls.regrown_of (HN4.out _ _)) | (with_reducible exact Calls.regrown_of (HN3.out _ _))))
      refine wpQuiet_nil ?_
      intro w' hw'
      obtain ⟨rg, rfl⟩ := hw'
      generalize hq7 : (if c1 = 7 then (some ⟨g, 0, none⟩ : Option Addr) else some ⟨g, 7, none⟩) = q7
      have HQ7 := Lib.hid (show 0 < m → q7 = some ⟨g, 7, none⟩ from fun _ => by rw [← hq7, if_neg (by omega)])
      clear hq7
      have n40 := num_lo (fb b) 0 4
      have n41 := num4 (fb b) 0
      have n30 := num_lo (fb b) 4 3
      have n31 := num3 (fb b) 4
      clear HN4 HN3
      obtain ⟨V, hV⟩ : ∃ V, V = numF (fb b) 0 4 := ⟨_, rfl⟩
      obtain ⟨U, hU⟩ : ∃ U, U = numF (fb b) 4 3 := ⟨_, rfl⟩
      rw [← hV] at n40 n41 ⊢
      rw [← hU] at n30 n31 ⊢
      have G12 := Lib.hid (And.intro g1 (below_regrown w1 _ _ : Below w1.heap.size w1 (Go.Sort.grow (redrawn w1 rg.d) rg.os)))
      have HX := Lib.hid (And.intro hC hB)
      have HK := Lib.hid (And.intro k1 k2)
      have HV := Lib.hid hV
      have HU := Lib.hid hU
      have HM := Lib.hid hm9
      have HB8 := Lib.hid (show b.length - 9 = m from by omega)
      clear hC hB k1 k2 hV hU hm9 g1 hm HB9
      by_cases a1 : V < 1
      · have HR := Lib.hid (read_form H2.out.1 H2.out.2 (.inl (HV.out ▸ a1)))
        go_wp2_with fail
        go_returns
        exact read_none HR.out (after G12.out.1 G12.out.2)
      · by_cases a2 : 1073741824 < V
        · have HR := Lib.hid (read_form H2.out.1 H2.out.2 (.inr (.inl (HV.out ▸ a2))))
          go_wp2_with fail
          go_returns
          exact read_none HR.out (after G12.out.1 G12.out.2)
        · by_cases a3 : 65536 < U
          · have HR := Lib.hid (read_form H2.out.1 H2.out.2 (.inr (.inr (.inl (HU.out ▸ a3)))))
            go_wp2_with fail
            go_returns
            exact read_none HR.out (after G12.out.1 G12.out.2)
          · by_cases a4 : U = (m : Int)
            · have HR := Lib.hid (read_good H2.out.1 H2.out.2 (by rw [← HV.out, ← HU.out]; have := HM.out; omega))
              subst a4
              go_wp2_with fail
              go_returns
              rw [HV.out]
              exact read_at HX.out.1 HX.out.2 HK.out.1 HK.out.2 HM.out HQ7.out HR.out G12.out.1 G12.out.2
            · have HR := Lib.hid (read_form H2.out.1 H2.out.2 (.inr (.inr (.inr (by rw [← HU.out]; have := HM.out; omega)))))
              go_wp2_with fail
              go_returns
              exact read_none HR.out (after G12.out.1 G12.out.2)
  · have HR := Lib.hid (show readL b = (0, [], if b.length < 2 then 3 else 4) by
      split
      · rename_i h; exact read_short h
      · rename_i h; exact read_sum h h2)
    have HT := Lib.hid (take_no q b.length c (fb b) hcap hmost w hq h2 _ rfl)
    obtain ⟨E, hEe⟩ : ∃ E, E = (if b.length < 2 then (3 : Int) else 4) := ⟨_, rfl⟩
    rw [← hEe] at HR HT
    have hE : E ≠ 0 := by rw [hEe]; split <;> decide
    clear hEe
    clear hq h2
    go_enter Try.func14, Try.ntmps14
    go_wp2_with (go_at_call 30; refine HT.out.mono ?_; rintro e_ w1 ⟨rfl, g1⟩; have G1 := Lib.hid g1; clear g1)
    go_returns
    exact read_none HR.out G1.out
theorem rread_at {w w1 : World} {base g o m c : Nat} {b : Bs} {q : Option Addr} (hg : GoodS w base (some ⟨g, o, none⟩, b.length, c)) (hb : rdB w (some ⟨g, o, none⟩, b.length, c) = b) (hm : b.length = m + 9) (hq : 0 < m → q = some ⟨g, o + 7, none⟩) (hr : readL b = (numF (fb b) 0 4, (b.take (b.length - 2)).drop 7, 0)) (G1 : Below w.heap.size w w1) :
    ReadR base (readL b) (.returned (.tuple #[.int .i64 (numF (fb b) 0 4), .slice q m (c - 7), .int .i64 0])) w w1 := by
  rw [hr]
  obtain ⟨h1, h2⟩ := hg.cut (k := m + 7) (show m + 7 ≤ b.length by omega)
  obtain ⟨h3, h4⟩ := h1.drop (k := 7) (Nat.le_add_left 7 m) q fun h => hq (by omega)
  rw [Nat.add_sub_cancel] at h3 h4
  obtain ⟨h5, h6⟩ := h3.on G1
  refine ⟨(q, m, c - 7), rfl, h5, ?_, G1⟩
  rw [h6, h4, h2, hb, hm]
  rfl
set_option maxRecDepth 100000 in
set_option maxHeartbeats 4000000 in
theorem rread_c (base : Nat) (s : SL) (w : World) (hs : GoodS w base s) (hz : s.2.1 ≤ 1000000) :
    Calls Try.prog 15 #[slV s] w fun r w' => ReadR base (readL (rdB w s)) r w w' := by
  have hl := hs.len
  have hq := hs.byq
  have hcap := hs.cap
  have hmost := hs.most
  have HS := Lib.hid hs
  obtain ⟨b, hb⟩ : ∃ b, rdB w s = b := ⟨_, rfl⟩
  rw [hb] at hl hq ⊢
  have HB := Lib.hid hb
  replace hq : Byq w s.1 s.2.1 (fb b) := hq
  clear hs hb
  obtain ⟨q, n, c⟩ := s
  dsimp only at hl hq hcap hmost hz
  subst hl
  simp only [slV]
  by_cases h2 : okF (fb b) b.length
  · have h20 := h2.1
    have HT := Lib.hid (rtake_ok q b.length c (fb b) hcap hmost hz w hq h2)
    by_cases h9 : b.length < 9
    · have HR := Lib.hid (read_low h2 h9)
      have e7 : ((b.length - 2 : Nat) : Int) < 7 := by omega
      clear hq h2
      go_enter Try.func15, Try.ntmps15
      go_wp2_with (go_at_call 32; refine HT.out.mono ?_; rintro e_ w1 ⟨rfl, g1⟩; have G1 := Lib.hid g1; clear g1)
      go_returns
      exact read_none HR.out G1.out
    · have hlen : (b.length - 2) = (b.length - 9) + 7 := by omega
      rw [hlen] at HT
      have H2 := Lib.hid (And.intro h2 h9)
      have HB9 := Lib.hid (show b.length = (b.length - 9) + 9 by omega)
      obtain ⟨g, o, rfl, hB⟩ := hq (by omega)
      have HBT := Lib.hid hB
      clear hq h2 h20 h9 hlen hB
      go_enter Try.func15, Try.ntmps15
      go_upto_region 6 with (go_at_call 32; refine HT.out.mono ?_; rintro e_ w1 ⟨rfl, g1⟩)
      generalize hm : b.length - 9 = m at *
      have hm9 : b.length = m + 9 := by have := HB9.out; omega
      have e7 : ¬ ((m : Int) + 7 < 7) := by omega
      have hB : Byt w1 g o b.length (fb b) := HBT.out.on g1
      have hN4 : Calls Try.prog 33 #[.slice (some ⟨g, o, none⟩) 4 c] w1 fun r w' => r = .returned (.int .i64 (numF (fb b) 0 4)) ∧ w1 = w' := rnum_c _ 4 c (fb b) (by decide) (by omega) _ (Byq.of (hB.le (by omega)))
      have hN3 : Calls Try.prog 33 #[.slice (some ⟨g, o + 4, none⟩) 3 (c - 4)] w1 fun r w' => r = .returned (.int .i64 (numF (fb b) 4 3)) ∧ w1 = w' := by
        rw [← num_sh]
        exact rnum_c _ 3 (c - 4) _ (by decide) (by omega) _ (num_at (k := 4) (j := 3) hB (by omega))
      have HN4 := Lib.hid hN4
      have HN3 := Lib.hid hN3
      have kc4 : 4 ≤ c := by omega
      have kc7 : 7 ≤ c := by omega
      have n40 := num_lo (fb b) 0 4
      have n41 := num4 (fb b) 0
      have n30 := num_lo (fb b) 4 3
      have n31 := num3 (fb b) 4
      have HQ7 := Lib.hid (show 7 < c from by omega)
      clear hN4 hN3
      obtain ⟨V, hV⟩ : ∃ V, V = numF (fb b) 0 4 := ⟨_, rfl⟩
      obtain ⟨U, hU⟩ : ∃ U, U = numF (fb b) 4 3 := ⟨_, rfl⟩
      rw [← hV] at n40 n41 HN4
      rw [← hU] at n30 n31 HN3
      have G1 := Lib.hid g1
      have HV := Lib.hid hV
      have HU := Lib.hid hU
      have HM := Lib.hid hm9
      have HC := Lib.hid (And.intro hcap hmost)
      clear hV hU hm9 g1 hm HB9 hB HBT hcap hmost HT
      have e72 : (m : Int) + 7 - 7 = m := by omega
      go_upto_region 7 with (go_at_call 33; refine HN4.out.mono ?_; rintro e_ w' ⟨rfl, rfl⟩)
      clear HN4
      go_upto_region 8 with (go_at_call 33; refine HN3.out.mono ?_; rintro e_ w' ⟨rfl, rfl⟩)
      clear HN3
      by_cases a1 : V < 1
      · have HR := Lib.hid (read_form H2.out.1 H2.out.2 (.inl (HV.out ▸ a1)))
        go_wp2_with fail
        go_returns
        exact read_none HR.out G1.out
      · by_cases a2 : 1073741824 < V
        · have HR := Lib.hid (read_form H2.out.1 H2.out.2 (.inr (.inl (HV.out ▸ a2))))
          go_wp2_with fail
          go_returns
          exact read_none HR.out G1.out
        · by_cases a3 : 65536 < U
          · have HR := Lib.hid (read_form H2.out.1 H2.out.2 (.inr (.inr (.inl (HU.out ▸ a3)))))
            go_wp2_with fail
            go_returns
            exact read_none HR.out G1.out
          · by_cases a4 : U = (m : Int)
            · have HR := Lib.hid (read_good H2.out.1 H2.out.2 (by rw [← HV.out, ← HU.out]; have := HM.out; omega))
              subst a4
              go_upto_region 10 with (fail)
              refine wp_region_quiet_below (by kernel_rfl) (by kernel_rfl) ?_
              repeat (go_big_quiet_step (fail))
              refine wpQuiet_nil ?_
              intro w' hw'
              obtain ⟨rg, rfl⟩ := hw'
              generalize hq7 : (if c = 7 then (some ⟨g, o, none⟩ : Option Addr) else some ⟨g, o + 7, none⟩) = q7
              have HQ := Lib.hid (show 0 < m → q7 = some ⟨g, o + 7, none⟩ from fun _ => by rw [← hq7, if_neg (by have := HQ7.out; omega)])
              clear hq7
              go_wp2_with fail
              go_returns
              rw [HV.out]
              exact rread_at HS.out HB.out HM.out HQ.out HR.out (after G1.out (below_regrown w1 _ _))
            · have HR := Lib.hid (read_form H2.out.1 H2.out.2 (.inr (.inr (.inr (by rw [← HU.out]; have := HM.out; omega)))))
              have a4' : (U != wrap64 (m : Int)) = true := by rw [IntWalk.wrap64_in _ (by have := HM.out; omega)]; simpa using a4
              go_wp2_with fail
              go_returns
              exact read_none HR.out G1.out
  · have HR := Lib.hid (show readL b = (0, [], if b.length < 2 then 3 else 4) by
      split
      · rename_i h; exact read_short h
      · rename_i h; exact read_sum h h2)
    have HT := Lib.hid (rtake_no q b.length c (fb b) hcap hmost hz w hq h2 _ rfl)
    obtain ⟨E, hEe⟩ : ∃ E, E = (if b.length < 2 then (3 : Int) else 4) := ⟨_, rfl⟩
    rw [← hEe] at HR HT
    have hE : E ≠ 0 := by rw [hEe]; split <;> decide
    clear hEe
    clear hq h2
    go_enter Try.func15, Try.ntmps15
    go_wp2_with (go_at_call 32; refine HT.out.mono ?_; rintro e_ w1 ⟨rfl, g1⟩; have G1 := Lib.hid g1; clear g1)
    go_returns
    exact read_none HR.out G1.out
end Go.Proofs.Ytkopenemoddbbaa
