/- The document's disk: rows of blobs that are read; how many bytes; one that is put. -/
import Derived.Test.YtlmjggbpophnfaaDisk4
namespace Go.Proofs.Ytlmjggbpophnfaa
open Go.RowKit Go.Maps
attribute [local go_sem] Oper.semAt_some

/-- A row of blobs that is read. -/
structure RowR (w : World) (a : SL) (l : List (Int × SL)) : Prop where
  len : a.2.1 = l.length
  cap : a.2.1 ≤ a.2.2
  most : a.2.2 ≤ maxLen
  lies : 0 < l.length → ∃ g cur, a.1 = some ⟨g, 0, none⟩ ∧ Blk w g 75 cur ∧ ∀ i p, l[i]? = some p → w.cell? ⟨g, i * 2, none⟩ = some (.int .i64 p.1) ∧ w.cell? ⟨g, i * 2 + 1, none⟩ = some (slV p.2)
theorem RowR.of {w : World} {base : Nat} {v : Value} {l : List (Int × SL)} (h : Owns w base 75 2 encW v l) : ∃ a : SL, v = slV a ∧ RowR w a l := by
  obtain ⟨q, cap, hv, h1, h2, h3⟩ := row_form h
  refine ⟨(q, l.length, cap), hv, rfl, h1, h2, fun hn => ?_⟩
  obtain ⟨p, hp⟩ := lt_at hn
  obtain ⟨g, hq, -, -⟩ := h3 0 p hp
  obtain ⟨-, cur, hc⟩ := own_blk h (g := g) (by rw [hv, hq]; rfl)
  refine ⟨g, cur, hq, hc, fun i p hi => ?_⟩
  obtain ⟨g', hq', a0, a1⟩ := h3 i p hi
  rw [hq] at hq'
  cases hq'
  exact ⟨a0, a1⟩
theorem RowR.nil {w : World} : RowR w (none, 0, 0) [] := ⟨rfl, Nat.le_refl _, by decide, fun h => absurd h (by decide)⟩
theorem RowR.kept {w w' : World} {a : SL} {l : List (Int × SL)} (h : RowR w a l) (hk : ∀ g cur, Blk w g 75 cur → Blk w' g 75 cur) : RowR w' a l :=
  ⟨h.len, h.cap, h.most, fun hn => by
    obtain ⟨g, cur, hq, hc, hr⟩ := h.lies hn
    refine ⟨g, cur, hq, hk _ _ hc, fun i p hi => ?_⟩
    obtain ⟨r0, r1⟩ := hr i p hi
    rw [hc.cell] at r0 r1
    exact ⟨((hk _ _ hc).cell _).trans r0, ((hk _ _ hc).cell _).trans r1⟩⟩
theorem RowR.on {w w' : World} {a : SL} {l : List (Int × SL)} (h : RowR w a l) (hb : Below w.heap.size w w') : RowR w' a l := h.kept fun _ _ hc => hc.on hb
theorem infR : (Try.prog.info? 75).map (fun i => (i.zero, i.size, i.bytes)) = some (some (.agg #[.int .i64 0, .slice none 0 0]), 2, 32) := by kernel_rfl
theorem push_ok {w : World} {base : Nat} {v : Value} {l : List (Int × SL)} (h : Owns w base 75 2 encW v l) (k : Int) (s : SL) (hl : l.length ≤ 1000000) (hb : base ≤ w.heap.size) :
    ∃ v' w', (Builtin.append_ #[40, 40] 40 #[v, .slice (some ⟨w.heap.size, 0, none⟩) 1 1]).run Try.prog (w.alloc (.cells #[.int .i64 k, slV s] 75)) = .ok v' w' ∧ Owns w' base 75 2 encW v' (l ++ [(k, s)]) ∧ Below base w w' ∧ ∃ g cap, v' = .slice (some ⟨g, 0, none⟩) (l.length + 1) cap := by
  have hba : Below w.heap.size w (w.alloc (.cells #[.int .i64 k, slV s] 75)) := (Below.refl _ _).alloc (Nat.le_refl _) _
  have hB : Blk (w.alloc (.cells #[.int .i64 k, slV s] 75)) w.heap.size 75 #[.int .i64 k, slV s] := Blk.new' rfl
  obtain ⟨v', w', h1, h2, h3, h4, h5⟩ := run_push (P := Try.prog) (ts := 40) (ty := 40) (x := (k, s)) (b := w.heap.size) Try.underlying40 infR rfl (by decide) (by decide) rfl (by simp [Value.oneCell', slV]) (h.on hba)
    (fun j u hu => by rw [hB.cell j]; simpa using hu) (by omega) (Nat.le_trans hb hba.size)
  exact ⟨v', w', h1, h2, (hba.mono hb).trans h4, h5⟩
set_option maxRecDepth 100000 in
set_option maxHeartbeats 4000000 in
theorem rlen_c (a : SL) (l : List (Int × SL)) (w : World) (h : RowR w a l) (hl : l.length ≤ 1000000) (hz : lens l ≤ 1000000000000) :
    Calls Try.prog 35 #[slV a] w fun r w' => r = .returned (.int .i64 (lens l)) ∧ w = w' := by
  obtain ⟨q, n, c⟩ := a
  obtain rfl : n = l.length := h.len
  have hcap : l.length ≤ c := h.cap
  have HH := Lib.hid h
  clear h
  simp only [slV]
  go_enter Try.func35, Try.ntmps35
  go_upto_region 3 with (fail)
  go_loopw [3, 4] (fun x i wr => ∃ k : Nat, k ≤ l.length ∧ i = .int .i64 k ∧ x = .int .i64 (lens (l.take k) : Int) ∧ wr = w) (fun _ i _ => l.length - (intOf i).toNat)
  case atStart => exact ⟨0, Nat.zero_le _, rfl, rfl, rfl⟩
  case round =>
    obtain ⟨k, hk, rfl, rfl, rfl⟩ := hrel
    by_cases hlt : k < l.length
    · obtain ⟨p, hp⟩ := lt_at hlt
      obtain ⟨g, cur, hq, -, hr⟩ := HH.out.lies (by omega)
      dsimp only at hq
      subst hq
      obtain ⟨r0, r1⟩ := hr k p hp
      have hst : lens (l.take (k + 1)) = lens (l.take k) + p.2.2.1 := by rw [take_at hp]; simp [lens]
      have hlen : lens (l.take (k + 1)) ≤ lens l := by
        have : lens l = lens (l.take (k + 1)) + lens (l.drop (k + 1)) := by
          conv => lhs; rw [← List.take_append_drop (k + 1) l]
          unfold lens
          rw [List.map_append, List.sum_append]
        omega
      obtain ⟨pk, pq, pn, pc⟩ := p
      simp only [slV] at r0 r1 hst
      have hk1 : (k : Int) < (l.length : Int) := by omega
      have hk0 : (0 : Int) ≤ (k : Int) := by omega
      have hi1 : -9223372036854775808 ≤ (lens (l.take k) : Int) + (pn : Int) := by omega
      have hi2 : (lens (l.take k) : Int) + (pn : Int) ≤ 9223372036854775807 := by omega
      have HST := Lib.hid hst
      have hi3 : (k : Int) + 1 ≤ 9223372036854775807 := by omega
      have hi4 : -9223372036854775808 ≤ (k : Int) + 1 := by omega
      clear hp hst hlen hr
      go_wp2_with fail
      exact ⟨⟨k + 1, hlt, by go_num, by rw [HST.out]; rfl, trivial⟩, next_less' hlt⟩
    · obtain rfl : k = l.length := by omega
      rw [List.take_length]
      have hk1 : ¬ ((l.length : Int) < (l.length : Int)) := by omega
      go_wp2_with fail
      go_returns
      exact ⟨rfl, rfl⟩
theorem own_base1 {w : World} {b b' : Nat} {e : TypeId} {size : Nat} {α : Type} {enc : α → List Value} {v : Value} {xs : List α} (h : Owns w b e size enc v xs) (hb : b' < b) : Owns w b' e size enc v xs := by
  refine ⟨h.1, ?_⟩
  rcases h.2 with h0 | ⟨g, cap, cur, hv, hbg, r⟩
  · exact .inl h0
  · exact .inr ⟨g, cap, cur, hv, Nat.le_trans (Nat.le_of_lt hb) hbg, r⟩
set_option maxRecDepth 100000 in
set_option maxHeartbeats 8000000 in
theorem rlay_c (a : SL) (l : List (Int × SL)) (k : Int) (s : SL) (w : World) (h : RowR w a l) (hr : Rise l) (hl : l.length ≤ 100000) :
    Calls Try.prog 39 #[slV a, .agg #[.int .i64 k, slV s]] w fun r w' => ∃ v, r = .returned v ∧ Owns w' w.heap.size 75 2 encW v (putL l (k, s)) ∧ Below w.heap.size w w' := by
  have HLI := Lib.hid (lay_is (k, s) hr)
  obtain ⟨q, n, c⟩ := a
  obtain rfl : n = l.length := h.len
  have hcap : l.length ≤ c := h.cap
  obtain ⟨sq, sn, sc⟩ := s
  obtain ⟨W0, hW⟩ : ∃ W0, W0 = w.alloc (.cells #[.int .i64 k, .slice sq sn sc] 75) := ⟨_, rfl⟩
  have hb0 : Below w.heap.size w W0 := by rw [hW]; exact (Below.refl _ _).alloc (Nat.le_refl _) _
  have X0 : Blk W0 w.heap.size 75 #[.int .i64 k, .slice sq sn sc] := by rw [hW]; exact Blk.new' rfl
  have HH := Lib.hid (h.on hb0)
  simp only [slV]
  clear h
  go_enter Try.func39, Try.ntmps39
  go_upto_region 4 with (fail)
  rw [← hW]
  have HB0 := Lib.hid hb0
  have hgx : w.heap.size < W0.heap.size := X0.lt
  generalize hgq : w.heap.size = gx at X0 hgx ⊢
  have HGQ := Lib.hid hgq
  clear hW hb0 hgq
  go_loopw [5, 6, 7] (fun o d i wr => ∃ (j : Nat) (v : Value), j ≤ l.length ∧ i = .int .i64 j ∧ o = v ∧ Hid (Owns wr W0.heap.size 75 2 encW v (layA (k, (sq, sn, sc)) (l.take j)).1) ∧ d = .bool (layA (k, (sq, sn, sc)) (l.take j)).2 ∧ Hid (Below W0.heap.size W0 wr)) (fun _ _ i _ => l.length - (intOf i).toNat)
  case atStart => exact ⟨0, .slice none 0 0, Nat.zero_le _, rfl, rfl, Lib.hid Owns.nil, rfl, Lib.hid (Below.refl _ _)⟩
  case round =>
    obtain ⟨j, v, hj, rfl, rfl, HO, rfl, HB⟩ := hrel
    by_cases hlt : j < l.length
    · obtain ⟨p, hp⟩ := lt_at hlt
      obtain ⟨g, cur, hq, hC, hrow⟩ := HH.out.lies (by omega)
      dsimp only at hq
      subst hq
      obtain ⟨r0, r1⟩ := hrow j p hp
      have hst : layA (k, (sq, sn, sc)) (l.take (j + 1)) = layStep (k, (sq, sn, sc)) (layA (k, (sq, sn, sc)) (l.take j)) p := by rw [take_at hp, layA_snoc]
      have hol := layA_len (k, (sq, sn, sc)) (l.take j)
      rw [List.length_take] at hol
      generalize layA (k, (sq, sn, sc)) (l.take j) = st at HO hst hol ⊢
      obtain ⟨o, dn⟩ := st
      obtain ⟨pk, pq, pn, pc⟩ := p
      simp only [slV] at r0 r1
      unfold layStep at hst
      dsimp only at hst HO hol ⊢
      have hgl := hC.lt
      have hk1 : (j : Int) < (l.length : Int) := by omega
      have hk0 : (0 : Int) ≤ (j : Int) := by omega
      have hi3 : (j : Int) + 1 ≤ 9223372036854775807 := by omega
      have hi4 : -9223372036854775808 ≤ (j : Int) + 1 := by omega
      have HBwr := HB.out
      replace HO := HO.out
      clear hp hrow hC HB
      cases dn with
      | true =>
        rw [if_neg (show ¬ (true = false ∧ k ≤ pk) from fun h => by cases h.1)] at hst
        by_cases hne : pk = k
        · rw [if_neg (show ¬ (pk ≠ k) from fun h => h hne)] at hst
          go_upto_region 6 with (fail)
          have c0 := fun d os => cell_regrown ((HBwr.cell (p := ⟨g, j * 2, none⟩) hgl).trans r0) d os
          have x0 : ∀ d os, (Go.Sort.grow (redrawn wr d) os).cell? ⟨gx, 0, none⟩ = some (.int .i64 k) := fun d os => ((X0.on HBwr).re d os).cell 0
          refine wp_region_quiet_below (by kernel_rfl) (by kernel_rfl) ?_
          repeat (go_big_quiet_step (fail))
          refine wpQuiet_nil ?_
          intro w' hw'
          obtain ⟨rg, rfl⟩ := hw'
          generalize hW9 : Go.Sort.grow (redrawn wr rg.d) rg.os = wq
          have h9wq : Below wr.heap.size wr wq := by rw [← hW9]; exact below_regrown _ _ _
          have HBwq := after HBwr h9wq
          clear hW9 c0 x0
          go_upto_region 9 with (fail)
          have c0 := fun d os => cell_regrown ((HBwq.cell (p := ⟨g, j * 2, none⟩) hgl).trans r0) d os
          have x0 : ∀ d os, (Go.Sort.grow (redrawn wq d) os).cell? ⟨gx, 0, none⟩ = some (.int .i64 k) := fun d os => ((X0.on HBwq).re d os).cell 0
          refine wp_region_quiet_below (by kernel_rfl) (by kernel_rfl) ?_
          repeat (go_big_quiet_step (fail))
          refine wpQuiet_nil ?_
          intro w' hw'
          obtain ⟨rg, rfl⟩ := hw'
          generalize hW9 : Go.Sort.grow (redrawn wq rg.d) rg.os = wp
          have h9wp : Below wq.heap.size wq wp := by rw [← hW9]; exact below_regrown _ _ _
          have HBwp := after HBwq h9wp
          clear hW9 c0 x0
          go_wp2_with fail
          exact ⟨⟨j + 1, _, hlt, by go_num, rfl, Lib.hid (by rw [hst]; exact (HO.on h9wq).on h9wp), by rw [hst]; simp, Lib.hid HBwp⟩, next_less' hlt⟩
        · rw [if_pos (show pk ≠ k from hne)] at hst
          go_upto_region 6 with (fail)
          have c0 := fun d os => cell_regrown ((HBwr.cell (p := ⟨g, j * 2, none⟩) hgl).trans r0) d os
          have x0 : ∀ d os, (Go.Sort.grow (redrawn wr d) os).cell? ⟨gx, 0, none⟩ = some (.int .i64 k) := fun d os => ((X0.on HBwr).re d os).cell 0
          refine wp_region_quiet_below (by kernel_rfl) (by kernel_rfl) ?_
          repeat (go_big_quiet_step (fail))
          refine wpQuiet_nil ?_
          intro w' hw'
          obtain ⟨rg, rfl⟩ := hw'
          generalize hW9 : Go.Sort.grow (redrawn wr rg.d) rg.os = wq
          have h9wq : Below wr.heap.size wr wq := by rw [← hW9]; exact below_regrown _ _ _
          have HBwq := after HBwr h9wq
          clear hW9 c0 x0
          go_upto_region 9 with (fail)
          have c0 := fun d os => cell_regrown ((HBwq.cell (p := ⟨g, j * 2, none⟩) hgl).trans r0) d os
          have x0 : ∀ d os, (Go.Sort.grow (redrawn wq d) os).cell? ⟨gx, 0, none⟩ = some (.int .i64 k) := fun d os => ((X0.on HBwq).re d os).cell 0
          refine wp_region_quiet_below (by kernel_rfl) (by kernel_rfl) ?_
          repeat (go_big_quiet_step (fail))
          refine wpQuiet_nil ?_
          intro w' hw'
          obtain ⟨rg, rfl⟩ := hw'
          generalize hW9 : Go.Sort.grow (redrawn wq rg.d) rg.os = wp
          have h9wp : Below wq.heap.size wq wp := by rw [← hW9]; exact below_regrown _ _ _
          have HBwp := after HBwq h9wp
          clear hW9 c0 x0
          obtain ⟨vw2, w2, hrunw2, O2, Bw2, gw2, cw2, rfl⟩ := push_ok ((HO.on h9wq).on h9wp) pk (pq, pn, pc) (by omega) HBwp.size
          simp only [slV] at hrunw2
          have z0 := (HBwp.cell (p := ⟨g, j * 2, none⟩) hgl).trans r0
          have z1 := (HBwp.cell (p := ⟨g, j * 2 + 1, none⟩) hgl).trans r1
          have HBw2 := HBwp.trans Bw2
          have hnb : (pk != k) = true := by simpa using hne
          rw [hnb]
          clear hnb hne
          go_wp2_with (at_builtin; refine Lib.wpList_append_run _ rfl _ _ _ _ rfl _ _ rfl rfl _ _ hrunw2 ?_)
          exact ⟨⟨j + 1, _, hlt, by go_num, rfl, Lib.hid (by rw [hst]; exact O2), by rw [hst]; simp, Lib.hid HBw2⟩, next_less' hlt⟩
      | false =>
        by_cases hkp : k ≤ pk
        · rw [if_pos (show false = false ∧ k ≤ pk from ⟨rfl, hkp⟩)] at hst
          by_cases hne : pk = k
          · rw [if_neg (show ¬ (pk ≠ k) from fun h => h hne)] at hst
            go_upto_region 6 with (fail)
            have c0 := fun d os => cell_regrown ((HBwr.cell (p := ⟨g, j * 2, none⟩) hgl).trans r0) d os
            have x0 : ∀ d os, (Go.Sort.grow (redrawn wr d) os).cell? ⟨gx, 0, none⟩ = some (.int .i64 k) := fun d os => ((X0.on HBwr).re d os).cell 0
            refine wp_region_quiet_below (by kernel_rfl) (by kernel_rfl) ?_
            repeat (go_big_quiet_step (fail))
            refine wpQuiet_nil ?_
            intro w' hw'
            obtain ⟨rg, rfl⟩ := hw'
            generalize hW9 : Go.Sort.grow (redrawn wr rg.d) rg.os = wq
            have h9wq : Below wr.heap.size wr wq := by rw [← hW9]; exact below_regrown _ _ _
            have HBwq := after HBwr h9wq
            clear hW9 c0 x0
            obtain ⟨vw1, w1, hrunw1, O1, Bw1, gw1, cw1, rfl⟩ := push_ok (HO.on h9wq) k (sq, sn, sc) (by omega) HBwq.size
            simp only [slV] at hrunw1
            have y0 : wq.cell? ⟨gx, 0, none⟩ = some (.int .i64 k) := (X0.on HBwq).cell 0
            have y1 : wq.cell? ⟨gx, 1, none⟩ = some (.slice sq sn sc) := (X0.on HBwq).cell 1
            go_upto_region 9 with (at_builtin; refine Lib.wpList_append_run _ rfl _ _ _ _ rfl _ _ rfl rfl _ _ hrunw1 ?_)
            have HBw1 := HBwq.trans Bw1
            clear y0 y1
            go_upto_region 9 with (fail)
            have c0 := fun d os => cell_regrown ((HBw1.cell (p := ⟨g, j * 2, none⟩) hgl).trans r0) d os
            have x0 : ∀ d os, (Go.Sort.grow (redrawn w1 d) os).cell? ⟨gx, 0, none⟩ = some (.int .i64 k) := fun d os => ((X0.on HBw1).re d os).cell 0
            refine wp_region_quiet_below (by kernel_rfl) (by kernel_rfl) ?_
            repeat (go_big_quiet_step (fail))
            refine wpQuiet_nil ?_
            intro w' hw'
            obtain ⟨rg, rfl⟩ := hw'
            generalize hW9 : Go.Sort.grow (redrawn w1 rg.d) rg.os = wp
            have h9wp : Below w1.heap.size w1 wp := by rw [← hW9]; exact below_regrown _ _ _
            have HBwp := after HBw1 h9wp
            clear hW9 c0 x0
            go_wp2_with fail
            exact ⟨⟨j + 1, _, hlt, by go_num, rfl, Lib.hid (by rw [hst]; exact O1.on h9wp), by rw [hst]; simp [hkp], Lib.hid HBwp⟩, next_less' hlt⟩
          · rw [if_pos (show pk ≠ k from hne)] at hst
            go_upto_region 6 with (fail)
            have c0 := fun d os => cell_regrown ((HBwr.cell (p := ⟨g, j * 2, none⟩) hgl).trans r0) d os
            have x0 : ∀ d os, (Go.Sort.grow (redrawn wr d) os).cell? ⟨gx, 0, none⟩ = some (.int .i64 k) := fun d os => ((X0.on HBwr).re d os).cell 0
            refine wp_region_quiet_below (by kernel_rfl) (by kernel_rfl) ?_
            repeat (go_big_quiet_step (fail))
            refine wpQuiet_nil ?_
            intro w' hw'
            obtain ⟨rg, rfl⟩ := hw'
            generalize hW9 : Go.Sort.grow (redrawn wr rg.d) rg.os = wq
            have h9wq : Below wr.heap.size wr wq := by rw [← hW9]; exact below_regrown _ _ _
            have HBwq := after HBwr h9wq
            clear hW9 c0 x0
            obtain ⟨vw1, w1, hrunw1, O1, Bw1, gw1, cw1, rfl⟩ := push_ok (HO.on h9wq) k (sq, sn, sc) (by omega) HBwq.size
            simp only [slV] at hrunw1
            have y0 : wq.cell? ⟨gx, 0, none⟩ = some (.int .i64 k) := (X0.on HBwq).cell 0
            have y1 : wq.cell? ⟨gx, 1, none⟩ = some (.slice sq sn sc) := (X0.on HBwq).cell 1
            go_upto_region 9 with (at_builtin; refine Lib.wpList_append_run _ rfl _ _ _ _ rfl _ _ rfl rfl _ _ hrunw1 ?_)
            have HBw1 := HBwq.trans Bw1
            clear y0 y1
            go_upto_region 9 with (fail)
            have c0 := fun d os => cell_regrown ((HBw1.cell (p := ⟨g, j * 2, none⟩) hgl).trans r0) d os
            have x0 : ∀ d os, (Go.Sort.grow (redrawn w1 d) os).cell? ⟨gx, 0, none⟩ = some (.int .i64 k) := fun d os => ((X0.on HBw1).re d os).cell 0
            refine wp_region_quiet_below (by kernel_rfl) (by kernel_rfl) ?_
            repeat (go_big_quiet_step (fail))
            refine wpQuiet_nil ?_
            intro w' hw'
            obtain ⟨rg, rfl⟩ := hw'
            generalize hW9 : Go.Sort.grow (redrawn w1 rg.d) rg.os = wp
            have h9wp : Below w1.heap.size w1 wp := by rw [← hW9]; exact below_regrown _ _ _
            have HBwp := after HBw1 h9wp
            clear hW9 c0 x0
            obtain ⟨vw2, w2, hrunw2, O2, Bw2, gw2, cw2, rfl⟩ := push_ok (O1.on h9wp) pk (pq, pn, pc) (by rw [List.length_append, List.length_singleton]; omega) HBwp.size
            simp only [slV] at hrunw2; simp only [List.length_append, List.length_singleton] at O2 hrunw2
            have z0 := (HBwp.cell (p := ⟨g, j * 2, none⟩) hgl).trans r0
            have z1 := (HBwp.cell (p := ⟨g, j * 2 + 1, none⟩) hgl).trans r1
            have HBw2 := HBwp.trans Bw2
            have hnb : (pk != k) = true := by simpa using hne
            rw [hnb]
            clear hnb hne
            go_wp2_with (at_builtin; refine Lib.wpList_append_run _ rfl _ _ _ _ rfl _ _ rfl rfl _ _ hrunw2 ?_)
            exact ⟨⟨j + 1, _, hlt, by go_num, rfl, Lib.hid (by rw [hst]; exact O2), by rw [hst]; simp [hkp], Lib.hid HBw2⟩, next_less' hlt⟩
        · rw [if_neg (show ¬ (false = false ∧ k ≤ pk) from fun h => hkp h.2), if_pos (show pk ≠ k by omega)] at hst
          have hne : ¬ pk = k := by omega
          go_upto_region 6 with (fail)
          have c0 := fun d os => cell_regrown ((HBwr.cell (p := ⟨g, j * 2, none⟩) hgl).trans r0) d os
          have x0 : ∀ d os, (Go.Sort.grow (redrawn wr d) os).cell? ⟨gx, 0, none⟩ = some (.int .i64 k) := fun d os => ((X0.on HBwr).re d os).cell 0
          refine wp_region_quiet_below (by kernel_rfl) (by kernel_rfl) ?_
          repeat (go_big_quiet_step (fail))
          refine wpQuiet_nil ?_
          intro w' hw'
          obtain ⟨rg, rfl⟩ := hw'
          generalize hW9 : Go.Sort.grow (redrawn wr rg.d) rg.os = wq
          have h9wq : Below wr.heap.size wr wq := by rw [← hW9]; exact below_regrown _ _ _
          have HBwq := after HBwr h9wq
          clear hW9 c0 x0
          go_upto_region 9 with (fail)
          have c0 := fun d os => cell_regrown ((HBwq.cell (p := ⟨g, j * 2, none⟩) hgl).trans r0) d os
          have x0 : ∀ d os, (Go.Sort.grow (redrawn wq d) os).cell? ⟨gx, 0, none⟩ = some (.int .i64 k) := fun d os => ((X0.on HBwq).re d os).cell 0
          refine wp_region_quiet_below (by kernel_rfl) (by kernel_rfl) ?_
          repeat (go_big_quiet_step (fail))
          refine wpQuiet_nil ?_
          intro w' hw'
          obtain ⟨rg, rfl⟩ := hw'
          generalize hW9 : Go.Sort.grow (redrawn wq rg.d) rg.os = wp
          have h9wp : Below wq.heap.size wq wp := by rw [← hW9]; exact below_regrown _ _ _
          have HBwp := after HBwq h9wp
          clear hW9 c0 x0
          obtain ⟨vw2, w2, hrunw2, O2, Bw2, gw2, cw2, rfl⟩ := push_ok ((HO.on h9wq).on h9wp) pk (pq, pn, pc) (by omega) HBwp.size
          simp only [slV] at hrunw2
          have z0 := (HBwp.cell (p := ⟨g, j * 2, none⟩) hgl).trans r0
          have z1 := (HBwp.cell (p := ⟨g, j * 2 + 1, none⟩) hgl).trans r1
          have HBw2 := HBwp.trans Bw2
          have hnb : (pk != k) = true := by simpa using hne
          rw [hnb]
          clear hnb hne
          go_wp2_with (at_builtin; refine Lib.wpList_append_run _ rfl _ _ _ _ rfl _ _ rfl rfl _ _ hrunw2 ?_)
          exact ⟨⟨j + 1, _, hlt, by go_num, rfl, Lib.hid (by rw [hst]; exact O2), by rw [hst]; simp [hkp], Lib.hid HBw2⟩, next_less' hlt⟩
    · obtain rfl : j = l.length := by omega
      rw [List.take_length] at HO ⊢
      have hli := HLI.out
      unfold layF at hli
      have hk1 : ¬ ((l.length : Int) < (l.length : Int)) := by omega
      have HBwr := HB.out
      replace HO := HO.out
      have hol := layA_len (k, (sq, sn, sc)) l
      generalize layA (k, (sq, sn, sc)) l = st at HO hli hol ⊢
      obtain ⟨o, dn⟩ := st
      dsimp only at hli HO hol ⊢
      have HLE := Lib.hid hli
      clear hli HB
      cases dn with
      | true =>
        go_wp2_with fail
        go_returns
        rw [← HGQ.out] at hgx
        exact ⟨_, rfl, by rw [← HLE.out]; exact own_base1 HO hgx, HB0.out.trans (HBwr.mono (Nat.le_of_lt hgx))⟩
      | false =>
        obtain ⟨v1, w1, hrun1, O1, B1, g1, c1, rfl⟩ := push_ok HO k (sq, sn, sc) (by omega) HBwr.size
        simp only [slV] at hrun1
        have y0 : wr.cell? ⟨gx, 0, none⟩ = some (.int .i64 k) := (X0.on HBwr).cell 0
        have y1 : wr.cell? ⟨gx, 1, none⟩ = some (.slice sq sn sc) := (X0.on HBwr).cell 1
        go_wp2_with (at_builtin; refine Lib.wpList_append_run _ rfl _ _ _ _ rfl _ _ rfl rfl _ _ hrun1 ?_)
        go_returns
        rw [← HGQ.out] at hgx
        exact ⟨_, rfl, by rw [← HLE.out]; exact own_base1 O1 hgx, HB0.out.trans ((HBwr.trans B1).mono (Nat.le_of_lt hgx))⟩
end Go.Proofs.Ytlmjggbpophnfaa
