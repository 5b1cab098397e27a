/- Texts that build one behind the other, laid together: DRef1 DRef2 RowApp DRef3 DRef4 Sched4 Exch DoM. -/
import Derived.Test.YtkopenemoddbbaaMa3
import Derived.Test.YtkopenemoddbbaaMa4
import Derived.Test.YtkopenemoddbbaaMa1
/- The document's disk: rows of blobs that are read; how many bytes; one that is put. -/
namespace Go.Proofs.Ytkopenemoddbbaa
open Go.RowKit Go.Maps
attribute [local go_sem] Oper.semAt_some

/-- A row of blobs that is read. -/
structure RowR (w : World) (a : SL) (l : List (Int × SL)) : Prop where
  len : a.2.1 = l.length
  cap : a.2.1 ≤ a.2.2
  most : a.2.2 ≤ maxLen
  lies : 0 < l.length → ∃ g cur, a.1 = some ⟨g, 0, none⟩ ∧ Blk w g 113 cur ∧ ∀ i p, l[i]? = some p → w.cell? ⟨g, i * 2, none⟩ = some (.int .i64 p.1) ∧ w.cell? ⟨g, i * 2 + 1, none⟩ = some (slV p.2)
theorem RowR.of {w : World} {base : Nat} {v : Value} {l : List (Int × SL)} (h : Owns w base 113 2 encW v l) : ∃ a : SL, v = slV a ∧ RowR w a l := by
  obtain ⟨q, cap, hv, h1, h2, h3⟩ := row_form h
  refine ⟨(q, l.length, cap), hv, rfl, h1, h2, fun hn => ?_⟩
  obtain ⟨p, hp⟩ := lt_at hn
  obtain ⟨g, hq, -, -⟩ := h3 0 p hp
  obtain ⟨-, cur, hc⟩ := own_blk h (g := g) (by rw [hv, hq]; rfl)
  refine ⟨g, cur, hq, hc, fun i p hi => ?_⟩
  obtain ⟨g', hq', a0, a1⟩ := h3 i p hi
  rw [hq] at hq'
  cases hq'
  exact ⟨a0, a1⟩
theorem RowR.nil {w : World} : RowR w (none, 0, 0) [] := ⟨rfl, Nat.le_refl _, by decide, fun h => absurd h (by decide)⟩
theorem RowR.kept {w w' : World} {a : SL} {l : List (Int × SL)} (h : RowR w a l) (hk : ∀ g cur, Blk w g 113 cur → Blk w' g 113 cur) : RowR w' a l :=
  ⟨h.len, h.cap, h.most, fun hn => by
    obtain ⟨g, cur, hq, hc, hr⟩ := h.lies hn
    refine ⟨g, cur, hq, hk _ _ hc, fun i p hi => ?_⟩
    obtain ⟨r0, r1⟩ := hr i p hi
    rw [hc.cell] at r0 r1
    exact ⟨((hk _ _ hc).cell _).trans r0, ((hk _ _ hc).cell _).trans r1⟩⟩
theorem RowR.on {w w' : World} {a : SL} {l : List (Int × SL)} (h : RowR w a l) (hb : Below w.heap.size w w') : RowR w' a l := h.kept fun _ _ hc => hc.on hb
theorem infR : (Try.prog.info? 113).map (fun i => (i.zero, i.size, i.bytes)) = some (some (.agg #[.int .i64 0, .slice none 0 0]), 2, 32) := by kernel_rfl
theorem push_ok {w : World} {base : Nat} {v : Value} {l : List (Int × SL)} (h : Owns w base 113 2 encW v l) (k : Int) (s : SL) (hl : l.length ≤ 1000000) (hb : base ≤ w.heap.size) :
    ∃ v' w', (Builtin.append_ #[44, 44] 44 #[v, .slice (some ⟨w.heap.size, 0, none⟩) 1 1]).run Try.prog (w.alloc (.cells #[.int .i64 k, slV s] 113)) = .ok v' w' ∧ Owns w' base 113 2 encW v' (l ++ [(k, s)]) ∧ Below base w w' ∧ ∃ g cap, v' = .slice (some ⟨g, 0, none⟩) (l.length + 1) cap := by
  have hba : Below w.heap.size w (w.alloc (.cells #[.int .i64 k, slV s] 113)) := (Below.refl _ _).alloc (Nat.le_refl _) _
  have hB : Blk (w.alloc (.cells #[.int .i64 k, slV s] 113)) w.heap.size 113 #[.int .i64 k, slV s] := Blk.new' rfl
  obtain ⟨v', w', h1, h2, h3, h4, h5⟩ := run_push (P := Try.prog) (ts := 44) (ty := 44) (x := (k, s)) (b := w.heap.size) Try.underlying44 infR rfl (by decide) (by decide) rfl (by simp [Value.oneCell', slV]) (h.on hba)
    (fun j u hu => by rw [hB.cell j]; simpa using hu) (by omega) (Nat.le_trans hb hba.size)
  exact ⟨v', w', h1, h2, (hba.mono hb).trans h4, h5⟩
set_option maxRecDepth 100000 in
set_option maxHeartbeats 4000000 in
theorem rlen_c (a : SL) (l : List (Int × SL)) (w : World) (h : RowR w a l) (hl : l.length ≤ 1000000) (hz : lens l ≤ 1000000000000) :
    Calls Try.prog 51 #[slV a] w fun r w' => r = .returned (.int .i64 (lens l)) ∧ w = w' := by
  obtain ⟨q, n, c⟩ := a
  obtain rfl : n = l.length := h.len
  have hcap : l.length ≤ c := h.cap
  have HH := Lib.hid h
  clear h
  simp only [slV]
  go_enter Try.func51, Try.ntmps51
  go_upto_region 3 with (fail)
  go_loopw [3, 4] (fun x i wr => ∃ k : Nat, k ≤ l.length ∧ i = .int .i64 k ∧ x = .int .i64 (lens (l.take k) : Int) ∧ wr = w) (fun _ i _ => l.length - (intOf i).toNat)
  case atStart => exact ⟨0, Nat.zero_le _, rfl, rfl, rfl⟩
  case round =>
    obtain ⟨k, hk, rfl, rfl, rfl⟩ := hrel
    by_cases hlt : k < l.length
    · obtain ⟨p, hp⟩ := lt_at hlt
      obtain ⟨g, cur, hq, -, hr⟩ := HH.out.lies (by omega)
      dsimp only at hq
      subst hq
      obtain ⟨r0, r1⟩ := hr k p hp
      have hst : lens (l.take (k + 1)) = lens (l.take k) + p.2.2.1 := by rw [take_at hp]; simp [lens]
      have hlen : lens (l.take (k + 1)) ≤ lens l := by
        have : lens l = lens (l.take (k + 1)) + lens (l.drop (k + 1)) := by
          conv => lhs; rw [← List.take_append_drop (k + 1) l]
          unfold lens
          rw [List.map_append, List.sum_append]
        omega
      obtain ⟨pk, pq, pn, pc⟩ := p
      simp only [slV] at r0 r1 hst
      have hk1 : (k : Int) < (l.length : Int) := by omega
      have hk0 : (0 : Int) ≤ (k : Int) := by omega
      have hi1 : -9223372036854775808 ≤ (lens (l.take k) : Int) + (pn : Int) := by omega
      have hi2 : (lens (l.take k) : Int) + (pn : Int) ≤ 9223372036854775807 := by omega
      have HST := Lib.hid hst
      have hi3 : (k : Int) + 1 ≤ 9223372036854775807 := by omega
      have hi4 : -9223372036854775808 ≤ (k : Int) + 1 := by omega
      clear hp hst hlen hr
      go_wp2_with fail
      exact ⟨⟨k + 1, hlt, by go_num, by rw [HST.out]; rfl, trivial⟩, next_less' hlt⟩
    · obtain rfl : k = l.length := by omega
      rw [List.take_length]
      have hk1 : ¬ ((l.length : Int) < (l.length : Int)) := by omega
      go_wp2_with fail
      go_returns
      exact ⟨rfl, rfl⟩
theorem own_base1 {w : World} {b b' : Nat} {e : TypeId} {size : Nat} {α : Type} {enc : α → List Value} {v : Value} {xs : List α} (h : Owns w b e size enc v xs) (hb : b' < b) : Owns w b' e size enc v xs := by
  refine ⟨h.1, ?_⟩
  rcases h.2 with h0 | ⟨g, cap, cur, hv, hbg, r⟩
  · exact .inl h0
  · exact .inr ⟨g, cap, cur, hv, Nat.le_trans (Nat.le_of_lt hb) hbg, r⟩
set_option maxRecDepth 100000 in
set_option maxHeartbeats 8000000 in
theorem rlay_c (a : SL) (l : List (Int × SL)) (k : Int) (s : SL) (w : World) (h : RowR w a l) (hr : Rise l) (hl : l.length ≤ 100000) :
    Calls Try.prog 65 #[slV a, .agg #[.int .i64 k, slV s]] w fun r w' => ∃ v, r = .returned v ∧ Owns w' w.heap.size 113 2 encW v (putL l (k, s)) ∧ Below w.heap.size w w' := by
  have HLI := Lib.hid (lay_is (k, s) hr)
  obtain ⟨q, n, c⟩ := a
  obtain rfl : n = l.length := h.len
  have hcap : l.length ≤ c := h.cap
  obtain ⟨sq, sn, sc⟩ := s
  obtain ⟨W0, hW⟩ : ∃ W0, W0 = w.alloc (.cells #[.int .i64 k, .slice sq sn sc] 113) := ⟨_, rfl⟩
  have hb0 : Below w.heap.size w W0 := by rw [hW]; exact (Below.refl _ _).alloc (Nat.le_refl _) _
  have X0 : Blk W0 w.heap.size 113 #[.int .i64 k, .slice sq sn sc] := by rw [hW]; exact Blk.new' rfl
  have HH := Lib.hid (h.on hb0)
  simp only [slV]
  clear h
  go_enter Try.func65, Try.ntmps65
  go_upto_region 4 with (fail)
  rw [← hW]
  have HB0 := Lib.hid hb0
  have hgx : w.heap.size < W0.heap.size := X0.lt
  generalize hgq : w.heap.size = gx at X0 hgx ⊢
  have HGQ := Lib.hid hgq
  clear hW hb0 hgq
  go_loopw [5, 6, 7] (fun o d i wr => ∃ (j : Nat) (v : Value), j ≤ l.length ∧ i = .int .i64 j ∧ o = v ∧ Hid (Owns wr W0.heap.size 113 2 encW v (layA (k, (sq, sn, sc)) (l.take j)).1) ∧ d = .bool (layA (k, (sq, sn, sc)) (l.take j)).2 ∧ Hid (Below W0.heap.size W0 wr)) (fun _ _ i _ => l.length - (intOf i).toNat)
  case atStart => exact ⟨0, .slice none 0 0, Nat.zero_le _, rfl, rfl, Lib.hid Owns.nil, rfl, Lib.hid (Below.refl _ _)⟩
  case round =>
    obtain ⟨j, v, hj, rfl, rfl, HO, rfl, HB⟩ := hrel
    by_cases hlt : j < l.length
    · obtain ⟨p, hp⟩ := lt_at hlt
      obtain ⟨g, cur, hq, hC, hrow⟩ := HH.out.lies (by omega)
      dsimp only at hq
      subst hq
      obtain ⟨r0, r1⟩ := hrow j p hp
      have hst : layA (k, (sq, sn, sc)) (l.take (j + 1)) = layStep (k, (sq, sn, sc)) (layA (k, (sq, sn, sc)) (l.take j)) p := by rw [take_at hp, layA_snoc]
      have hol := layA_len (k, (sq, sn, sc)) (l.take j)
      rw [List.length_take] at hol
      generalize layA (k, (sq, sn, sc)) (l.take j) = st at HO hst hol ⊢
      obtain ⟨o, dn⟩ := st
      obtain ⟨pk, pq, pn, pc⟩ := p
      simp only [slV] at r0 r1
      unfold layStep at hst
      dsimp only at hst HO hol ⊢
      have hgl := hC.lt
      have hk1 : (j : Int) < (l.length : Int) := by omega
      have hk0 : (0 : Int) ≤ (j : Int) := by omega
      have hi3 : (j : Int) + 1 ≤ 9223372036854775807 := by omega
      have hi4 : -9223372036854775808 ≤ (j : Int) + 1 := by omega
      have HBwr := HB.out
      replace HO := HO.out
      clear hp hrow hC HB
      cases dn with
      | true =>
        rw [if_neg (show ¬ (true = false ∧ k ≤ pk) from fun h => by cases h.1)] at hst
        by_cases hne : pk = k
        · rw [if_neg (show ¬ (pk ≠ k) from fun h => h hne)] at hst
          go_upto_region 6 with (fail)
          have c0 := fun d os => cell_regrown ((HBwr.cell (p := ⟨g, j * 2, none⟩) hgl).trans r0) d os
          have x0 : ∀ d os, (Go.Sort.grow (redrawn wr d) os).cell? ⟨gx, 0, none⟩ = some (.int .i64 k) := fun d os => ((X0.on HBwr).re d os).cell 0
          refine wp_region_quiet_below (by kernel_rfl) (by kernel_rfl) ?_
          repeat (go_big_quiet_step (fail))
          refine wpQuiet_nil ?_
          intro w' hw'
          obtain ⟨rg, rfl⟩ := hw'
          generalize hW9 : Go.Sort.grow (redrawn wr rg.d) rg.os = wq
          have h9wq : Below wr.heap.size wr wq := by rw [← hW9]; exact below_regrown _ _ _
          have HBwq := after HBwr h9wq
          clear hW9 c0 x0
          go_upto_region 9 with (fail)
          have c0 := fun d os => cell_regrown ((HBwq.cell (p := ⟨g, j * 2, none⟩) hgl).trans r0) d os
          have x0 : ∀ d os, (Go.Sort.grow (redrawn wq d) os).cell? ⟨gx, 0, none⟩ = some (.int .i64 k) := fun d os => ((X0.on HBwq).re d os).cell 0
          refine wp_region_quiet_below (by kernel_rfl) (by kernel_rfl) ?_
          repeat (go_big_quiet_step (fail))
          refine wpQuiet_nil ?_
          intro w' hw'
          obtain ⟨rg, rfl⟩ := hw'
          generalize hW9 : Go.Sort.grow (redrawn wq rg.d) rg.os = wp
          have h9wp : Below wq.heap.size wq wp := by rw [← hW9]; exact below_regrown _ _ _
          have HBwp := after HBwq h9wp
          clear hW9 c0 x0
          go_wp2_with fail
          exact ⟨⟨j + 1, _, hlt, by go_num, rfl, Lib.hid (by rw [hst]; exact (HO.on h9wq).on h9wp), by rw [hst]; simp, Lib.hid HBwp⟩, next_less' hlt⟩
        · rw [if_pos (show pk ≠ k from hne)] at hst
          go_upto_region 6 with (fail)
          have c0 := fun d os => cell_regrown ((HBwr.cell (p := ⟨g, j * 2, none⟩) hgl).trans r0) d os
          have x0 : ∀ d os, (Go.Sort.grow (redrawn wr d) os).cell? ⟨gx, 0, none⟩ = some (.int .i64 k) := fun d os => ((X0.on HBwr).re d os).cell 0
          refine wp_region_quiet_below (by kernel_rfl) (by kernel_rfl) ?_
          repeat (go_big_quiet_step (fail))
          refine wpQuiet_nil ?_
          intro w' hw'
          obtain ⟨rg, rfl⟩ := hw'
          generalize hW9 : Go.Sort.grow (redrawn wr rg.d) rg.os = wq
          have h9wq : Below wr.heap.size wr wq := by rw [← hW9]; exact below_regrown _ _ _
          have HBwq := after HBwr h9wq
          clear hW9 c0 x0
          go_upto_region 9 with (fail)
          have c0 := fun d os => cell_regrown ((HBwq.cell (p := ⟨g, j * 2, none⟩) hgl).trans r0) d os
          have x0 : ∀ d os, (Go.Sort.grow (redrawn wq d) os).cell? ⟨gx, 0, none⟩ = some (.int .i64 k) := fun d os => ((X0.on HBwq).re d os).cell 0
          refine wp_region_quiet_below (by kernel_rfl) (by kernel_rfl) ?_
          repeat (go_big_quiet_step (fail))
          refine wpQuiet_nil ?_
          intro w' hw'
          obtain ⟨rg, rfl⟩ := hw'
          generalize hW9 : Go.Sort.grow (redrawn wq rg.d) rg.os = wp
          have h9wp : Below wq.heap.size wq wp := by rw [← hW9]; exact below_regrown _ _ _
          have HBwp := after HBwq h9wp
          clear hW9 c0 x0
          obtain ⟨vw2, w2, hrunw2, O2, Bw2, gw2, cw2, rfl⟩ := push_ok ((HO.on h9wq).on h9wp) pk (pq, pn, pc) (by omega) HBwp.size
          simp only [slV] at hrunw2
          have z0 := (HBwp.cell (p := ⟨g, j * 2, none⟩) hgl).trans r0
          have z1 := (HBwp.cell (p := ⟨g, j * 2 + 1, none⟩) hgl).trans r1
          have HBw2 := HBwp.trans Bw2
          have hnb : (pk != k) = true := by simpa using hne
          rw [hnb]
          clear hnb hne
          go_wp2_with (at_builtin; refine Lib.wpList_append_run _ rfl _ _ _ _ rfl _ _ rfl rfl _ _ hrunw2 ?_)
          exact ⟨⟨j + 1, _, hlt, by go_num, rfl, Lib.hid (by rw [hst]; exact O2), by rw [hst]; simp, Lib.hid HBw2⟩, next_less' hlt⟩
      | false =>
        by_cases hkp : k ≤ pk
        · rw [if_pos (show false = false ∧ k ≤ pk from ⟨rfl, hkp⟩)] at hst
          by_cases hne : pk = k
          · rw [if_neg (show ¬ (pk ≠ k) from fun h => h hne)] at hst
            go_upto_region 6 with (fail)
            have c0 := fun d os => cell_regrown ((HBwr.cell (p := ⟨g, j * 2, none⟩) hgl).trans r0) d os
            have x0 : ∀ d os, (Go.Sort.grow (redrawn wr d) os).cell? ⟨gx, 0, none⟩ = some (.int .i64 k) := fun d os => ((X0.on HBwr).re d os).cell 0
            refine wp_region_quiet_below (by kernel_rfl) (by kernel_rfl) ?_
            repeat (go_big_quiet_step (fail))
            refine wpQuiet_nil ?_
            intro w' hw'
            obtain ⟨rg, rfl⟩ := hw'
            generalize hW9 : Go.Sort.grow (redrawn wr rg.d) rg.os = wq
            have h9wq : Below wr.heap.size wr wq := by rw [← hW9]; exact below_regrown _ _ _
            have HBwq := after HBwr h9wq
            clear hW9 c0 x0
            obtain ⟨vw1, w1, hrunw1, O1, Bw1, gw1, cw1, rfl⟩ := push_ok (HO.on h9wq) k (sq, sn, sc) (by omega) HBwq.size
            simp only [slV] at hrunw1
            have y0 : wq.cell? ⟨gx, 0, none⟩ = some (.int .i64 k) := (X0.on HBwq).cell 0
            have y1 : wq.cell? ⟨gx, 1, none⟩ = some (.slice sq sn sc) := (X0.on HBwq).cell 1
            go_upto_region 9 with (at_builtin; refine Lib.wpList_append_run _ rfl _ _ _ _ rfl _ _ rfl rfl _ _ hrunw1 ?_)
            have HBw1 := HBwq.trans Bw1
            clear y0 y1
            go_upto_region 9 with (fail)
            have c0 := fun d os => cell_regrown ((HBw1.cell (p := ⟨g, j * 2, none⟩) hgl).trans r0) d os
            have x0 : ∀ d os, (Go.Sort.grow (redrawn w1 d) os).cell? ⟨gx, 0, none⟩ = some (.int .i64 k) := fun d os => ((X0.on HBw1).re d os).cell 0
            refine wp_region_quiet_below (by kernel_rfl) (by kernel_rfl) ?_
            repeat (go_big_quiet_step (fail))
            refine wpQuiet_nil ?_
            intro w' hw'
            obtain ⟨rg, rfl⟩ := hw'
            generalize hW9 : Go.Sort.grow (redrawn w1 rg.d) rg.os = wp
            have h9wp : Below w1.heap.size w1 wp := by rw [← hW9]; exact below_regrown _ _ _
            have HBwp := after HBw1 h9wp
            clear hW9 c0 x0
            go_wp2_with fail
            exact ⟨⟨j + 1, _, hlt, by go_num, rfl, Lib.hid (by rw [hst]; exact O1.on h9wp), by rw [hst]; simp [hkp], Lib.hid HBwp⟩, next_less' hlt⟩
          · rw [if_pos (show pk ≠ k from hne)] at hst
            go_upto_region 6 with (fail)
            have c0 := fun d os => cell_regrown ((HBwr.cell (p := ⟨g, j * 2, none⟩) hgl).trans r0) d os
            have x0 : ∀ d os, (Go.Sort.grow (redrawn wr d) os).cell? ⟨gx, 0, none⟩ = some (.int .i64 k) := fun d os => ((X0.on HBwr).re d os).cell 0
            refine wp_region_quiet_below (by kernel_rfl) (by kernel_rfl) ?_
            repeat (go_big_quiet_step (fail))
            refine wpQuiet_nil ?_
            intro w' hw'
            obtain ⟨rg, rfl⟩ := hw'
            generalize hW9 : Go.Sort.grow (redrawn wr rg.d) rg.os = wq
            have h9wq : Below wr.heap.size wr wq := by rw [← hW9]; exact below_regrown _ _ _
            have HBwq := after HBwr h9wq
            clear hW9 c0 x0
            obtain ⟨vw1, w1, hrunw1, O1, Bw1, gw1, cw1, rfl⟩ := push_ok (HO.on h9wq) k (sq, sn, sc) (by omega) HBwq.size
            simp only [slV] at hrunw1
            have y0 : wq.cell? ⟨gx, 0, none⟩ = some (.int .i64 k) := (X0.on HBwq).cell 0
            have y1 : wq.cell? ⟨gx, 1, none⟩ = some (.slice sq sn sc) := (X0.on HBwq).cell 1
            go_upto_region 9 with (at_builtin; refine Lib.wpList_append_run _ rfl _ _ _ _ rfl _ _ rfl rfl _ _ hrunw1 ?_)
            have HBw1 := HBwq.trans Bw1
            clear y0 y1
            go_upto_region 9 with (fail)
            have c0 := fun d os => cell_regrown ((HBw1.cell (p := ⟨g, j * 2, none⟩) hgl).trans r0) d os
            have x0 : ∀ d os, (Go.Sort.grow (redrawn w1 d) os).cell? ⟨gx, 0, none⟩ = some (.int .i64 k) := fun d os => ((X0.on HBw1).re d os).cell 0
            refine wp_region_quiet_below (by kernel_rfl) (by kernel_rfl) ?_
            repeat (go_big_quiet_step (fail))
            refine wpQuiet_nil ?_
            intro w' hw'
            obtain ⟨rg, rfl⟩ := hw'
            generalize hW9 : Go.Sort.grow (redrawn w1 rg.d) rg.os = wp
            have h9wp : Below w1.heap.size w1 wp := by rw [← hW9]; exact below_regrown _ _ _
            have HBwp := after HBw1 h9wp
            clear hW9 c0 x0
            obtain ⟨vw2, w2, hrunw2, O2, Bw2, gw2, cw2, rfl⟩ := push_ok (O1.on h9wp) pk (pq, pn, pc) (by rw [List.length_append, List.length_singleton]; omega) HBwp.size
            simp only [slV] at hrunw2; simp only [List.length_append, List.length_singleton] at O2 hrunw2
            have z0 := (HBwp.cell (p := ⟨g, j * 2, none⟩) hgl).trans r0
            have z1 := (HBwp.cell (p := ⟨g, j * 2 + 1, none⟩) hgl).trans r1
            have HBw2 := HBwp.trans Bw2
            have hnb : (pk != k) = true := by simpa using hne
            rw [hnb]
            clear hnb hne
            go_wp2_with (at_builtin; refine Lib.wpList_append_run _ rfl _ _ _ _ rfl _ _ rfl rfl _ _ hrunw2 ?_)
            exact ⟨⟨j + 1, _, hlt, by go_num, rfl, Lib.hid (by rw [hst]; exact O2), by rw [hst]; simp [hkp], Lib.hid HBw2⟩, next_less' hlt⟩
        · rw [if_neg (show ¬ (false = false ∧ k ≤ pk) from fun h => hkp h.2), if_pos (show pk ≠ k by omega)] at hst
          have hne : ¬ pk = k := by omega
          go_upto_region 6 with (fail)
          have c0 := fun d os => cell_regrown ((HBwr.cell (p := ⟨g, j * 2, none⟩) hgl).trans r0) d os
          have x0 : ∀ d os, (Go.Sort.grow (redrawn wr d) os).cell? ⟨gx, 0, none⟩ = some (.int .i64 k) := fun d os => ((X0.on HBwr).re d os).cell 0
          refine wp_region_quiet_below (by kernel_rfl) (by kernel_rfl) ?_
          repeat (go_big_quiet_step (fail))
          refine wpQuiet_nil ?_
          intro w' hw'
          obtain ⟨rg, rfl⟩ := hw'
          generalize hW9 : Go.Sort.grow (redrawn wr rg.d) rg.os = wq
          have h9wq : Below wr.heap.size wr wq := by rw [← hW9]; exact below_regrown _ _ _
          have HBwq := after HBwr h9wq
          clear hW9 c0 x0
          go_upto_region 9 with (fail)
          have c0 := fun d os => cell_regrown ((HBwq.cell (p := ⟨g, j * 2, none⟩) hgl).trans r0) d os
          have x0 : ∀ d os, (Go.Sort.grow (redrawn wq d) os).cell? ⟨gx, 0, none⟩ = some (.int .i64 k) := fun d os => ((X0.on HBwq).re d os).cell 0
          refine wp_region_quiet_below (by kernel_rfl) (by kernel_rfl) ?_
          repeat (go_big_quiet_step (fail))
          refine wpQuiet_nil ?_
          intro w' hw'
          obtain ⟨rg, rfl⟩ := hw'
          generalize hW9 : Go.Sort.grow (redrawn wq rg.d) rg.os = wp
          have h9wp : Below wq.heap.size wq wp := by rw [← hW9]; exact below_regrown _ _ _
          have HBwp := after HBwq h9wp
          clear hW9 c0 x0
          obtain ⟨vw2, w2, hrunw2, O2, Bw2, gw2, cw2, rfl⟩ := push_ok ((HO.on h9wq).on h9wp) pk (pq, pn, pc) (by omega) HBwp.size
          simp only [slV] at hrunw2
          have z0 := (HBwp.cell (p := ⟨g, j * 2, none⟩) hgl).trans r0
          have z1 := (HBwp.cell (p := ⟨g, j * 2 + 1, none⟩) hgl).trans r1
          have HBw2 := HBwp.trans Bw2
          have hnb : (pk != k) = true := by simpa using hne
          rw [hnb]
          clear hnb hne
          go_wp2_with (at_builtin; refine Lib.wpList_append_run _ rfl _ _ _ _ rfl _ _ rfl rfl _ _ hrunw2 ?_)
          exact ⟨⟨j + 1, _, hlt, by go_num, rfl, Lib.hid (by rw [hst]; exact O2), by rw [hst]; simp [hkp], Lib.hid HBw2⟩, next_less' hlt⟩
    · obtain rfl : j = l.length := by omega
      rw [List.take_length] at HO ⊢
      have hli := HLI.out
      unfold layF at hli
      have hk1 : ¬ ((l.length : Int) < (l.length : Int)) := by omega
      have HBwr := HB.out
      replace HO := HO.out
      have hol := layA_len (k, (sq, sn, sc)) l
      generalize layA (k, (sq, sn, sc)) l = st at HO hli hol ⊢
      obtain ⟨o, dn⟩ := st
      dsimp only at hli HO hol ⊢
      have HLE := Lib.hid hli
      clear hli HB
      cases dn with
      | true =>
        go_wp2_with fail
        go_returns
        rw [← HGQ.out] at hgx
        exact ⟨_, rfl, by rw [← HLE.out]; exact own_base1 HO hgx, HB0.out.trans (HBwr.mono (Nat.le_of_lt hgx))⟩
      | false =>
        obtain ⟨v1, w1, hrun1, O1, B1, g1, c1, rfl⟩ := push_ok HO k (sq, sn, sc) (by omega) HBwr.size
        simp only [slV] at hrun1
        have y0 : wr.cell? ⟨gx, 0, none⟩ = some (.int .i64 k) := (X0.on HBwr).cell 0
        have y1 : wr.cell? ⟨gx, 1, none⟩ = some (.slice sq sn sc) := (X0.on HBwr).cell 1
        go_wp2_with (at_builtin; refine Lib.wpList_append_run _ rfl _ _ _ _ rfl _ _ rfl rfl _ _ hrun1 ?_)
        go_returns
        rw [← HGQ.out] at hgx
        exact ⟨_, rfl, by rw [← HLE.out]; exact own_base1 O1 hgx, HB0.out.trans ((HBwr.trans B1).mono (Nat.le_of_lt hgx))⟩
end Go.Proofs.Ytkopenemoddbbaa

/- The document's disk: all blobs, whether it fails, what is asked. -/
namespace Go.Proofs.Ytkopenemoddbbaa
open Go.RowKit Go.Maps
attribute [local go_sem] Oper.semAt_some

abbrev dv (S : DS) (a b : SL) : Array Value := #[.int .i64 S.room, .int .i64 S.fails, .int .i64 S.waits, slV a, slV b]
structure RefAt (w : World) (base : Nat) (a b : SL) (S : DS) (sl ll : List (Int × SL)) : Prop where
  ra : RowR w a sl
  rb : RowR w b ll
  ga : GoodL w base sl
  gb : GoodL w base ll
  safe : S.safe = cont w sl
  l : S.l = cont w ll
theorem RefAt.on {w w' : World} {base : Nat} {a b : SL} {S : DS} {sl ll : List (Int × SL)} (h : RefAt w base a b S sl ll) (hb : Below w.heap.size w w') : RefAt w' base a b S sl ll :=
  ⟨h.ra.on hb, h.rb.on hb, (h.ga.on hb).1, (h.gb.on hb).1, by rw [(h.ga.on hb).2]; exact h.safe, by rw [(h.gb.on hb).2]; exact h.l⟩
theorem RefAt.turn {w w' : World} {base : Nat} {a b : SL} {S T T' : DS} {sl ll : List (Int × SL)} {M : Nat → Prop} {d : Nat} (h : RefAt w base a b S sl ll) (ht : Turn w base M d T' w') (h0 : DiskIs w base M d T) : RefAt w' base a b S sl ll := by
  have hk : ∀ g cur, Blk w g 113 cur → Blk w' g 113 cur := fun g cur hB => ht.blk h0 hB (by decide)
  obtain ⟨g1, g2⟩ := ht.goods h0 h.ga
  obtain ⟨g3, g4⟩ := ht.goods h0 h.gb
  exact ⟨h.ra.kept hk, h.rb.kept hk, g1, g3, by rw [g2]; exact h.safe, by rw [g4]; exact h.l⟩
theorem RefAt.facts {w : World} {base : Nat} {a b : SL} {S : DS} {sl ll : List (Int × SL)} {N M : Nat} (h : RefAt w base a b S sl ll) (hok : DOk S N M) : Rise sl ∧ sl.length + ll.length ≤ N ∧ GoodL w base (nowL sl ll) ∧ cont w (nowL sl ll) = S.now ∧ Rise (nowL sl ll) ∧ lens (nowL sl ll) ≤ N * M := by
  have hr : Rise sl := cont_rise (w := w) (by rw [← h.safe]; exact hok.rise)
  have hc : cont w (nowL sl ll) = S.now := by rw [cont_now, ← h.safe, ← h.l]; rfl
  have hg := h.ga.now h.gb
  refine ⟨hr, ?_, hg, hc, rise_now hr, ?_⟩
  · have := hok.many
    rw [h.safe, h.l, cont_len, cont_len] at this
    exact this
  · rw [lens_is hg, hc]; exact lenB_now hok
/-- One that is asked keeps its rows. -/
theorem RefAt.same {w : World} {base : Nat} {a b : SL} {S S' : DS} {sl ll : List (Int × SL)} (h : RefAt w base a b S sl ll) (hs : S'.safe = S.safe) (hl : S'.l = S.l) : RefAt w base a b S' sl ll := ⟨h.ra, h.rb, h.ga, h.gb, by rw [hs]; exact h.safe, by rw [hl]; exact h.l⟩
set_option maxRecDepth 100000 in
set_option maxHeartbeats 4000000 in
theorem rasked_c (S : DS) (a b : SL) (hw : S.waits = 0 ∨ S.waits = 1) (hf : 0 ≤ S.fails ∧ S.fails ≤ 9223372036854775807) (w : World) :
    Calls Try.prog 63 #[.agg (dv S a b)] w fun r w' => r = .returned (.tuple #[.agg (dv S.asked.1 a b), .bool S.asked.2]) ∧ Below w.heap.size w w' := by
  obtain ⟨q, n, c⟩ := a
  obtain ⟨q', n', c'⟩ := b
  simp only [dv, slV]
  rcases hw with hw | hw
  · by_cases hp : 0 < S.fails
    · have ha : S.asked = ({ S with fails := S.fails - 1 }, true) := by unfold DS.asked; rw [if_neg (by omega), if_pos hp]
      rw [ha]
      dsimp only
      rw [hw]
      go_enter Try.func63, Try.ntmps63
      go_wp2_with fail
      refine bodyPost_ret (v := .tuple #[.agg #[.int .i64 S.room, .int .i64 (S.fails - 1), .int .i64 0, .slice q n c, .slice q' n' c'], .bool true]) (by simp [results, Try.f63, go_sem]) rfl ⟨rfl, ?_⟩
      go_grown
    · have ha : S.asked = (S, false) := by unfold DS.asked; rw [if_neg (by omega), if_neg hp]
      rw [ha]
      dsimp only
      rw [hw]
      go_enter Try.func63, Try.ntmps63
      go_wp2_with fail
      refine bodyPost_ret (v := .tuple #[.agg #[.int .i64 S.room, .int .i64 S.fails, .int .i64 0, .slice q n c, .slice q' n' c'], .bool false]) (by simp [results, Try.f63, go_sem]) rfl ⟨rfl, ?_⟩
      go_grown
  · have ha : S.asked = ({ S with waits := 0 }, false) := by unfold DS.asked; rw [if_pos (by omega)]
    rw [ha]
    dsimp only
    rw [hw]
    go_enter Try.func63, Try.ntmps63
    go_wp2_with fail
    refine bodyPost_ret (v := .tuple #[.agg #[.int .i64 S.room, .int .i64 S.fails, .int .i64 0, .slice q n c, .slice q' n' c'], .bool false]) (by simp [results, Try.f63, go_sem]) rfl ⟨rfl, ?_⟩
    go_grown
set_option maxRecDepth 100000 in
set_option maxHeartbeats 4000000 in
theorem rfail_c (S : DS) (a b : SL) (n : Int) (hn : In64 n) (w : World) :
    Calls Try.prog 45 #[.agg (dv S a b), .int .i64 n] w fun r w' => r = .returned (.agg (dv (S.fail n) a b)) ∧ Below w.heap.size w w' := by
  have hmn := @run_mn Try.prog
  have hmx := @run_mx Try.prog
  obtain ⟨q, m, c⟩ := a
  obtain ⟨q', m', c'⟩ := b
  simp only [dv, slV]
  unfold In64 at hn
  by_cases h0 : n < 0
  · have e : S.fail n = { S with fails := min (-n) 1048576, waits := 1 } := by unfold DS.fail; rw [if_pos h0]
    have h1 : mnI (-(n + 1)) 1048575 + 1 = min (-n) 1048576 := by unfold mnI; omega
    have h2 : -1 ≤ mnI (-(n + 1)) 1048575 ∧ mnI (-(n + 1)) 1048575 ≤ 1048575 := by unfold mnI; omega
    rw [e, ← h1]
    dsimp only
    generalize hmq : mnI (-(n + 1)) 1048575 = mq at h1 h2
    clear h1 e
    go_enter Try.func45, Try.ntmps45
    go_wp2_with fail
    refine bodyPost_ret (v := .agg #[.int .i64 S.room, .int .i64 (mq + 1), .int .i64 1, .slice q m c, .slice q' m' c']) (by simp [results, Try.f45, go_sem]) rfl ⟨rfl, ?_⟩
    go_grown
  · have e : S.fail n = { S with fails := n, waits := 0 } := by unfold DS.fail; rw [if_neg h0]
    have h1 : mxI n 0 = n := by unfold mxI; omega
    rw [e]
    dsimp only
    go_enter Try.func45, Try.ntmps45
    go_wp2_with fail
    refine bodyPost_ret (v := .agg #[.int .i64 S.room, .int .i64 n, .int .i64 0, .slice q m c, .slice q' m' c']) (by simp [results, Try.f45, go_sem]) rfl ⟨rfl, ?_⟩
    go_grown
theorem rnew_c (R : Int) (w : World) :
    Calls Try.prog 21 #[.int .i64 R] w fun r w' => r = .returned (.agg (dv (newS R) (none, 0, 0) (none, 0, 0))) ∧ Below w.heap.size w w' := by
  have hmn := @run_mn Try.prog
  have hmx := @run_mx Try.prog
  simp only [dv, slV, newS]
  go_enter Try.func21, Try.ntmps21
  go_wp2_with fail
  refine bodyPost_ret (v := .agg #[.int .i64 (mnI (mxI R 0) 1048576), .int .i64 0, .int .i64 0, .slice none 0 0, .slice none 0 0]) (by simp [results, Try.f21, go_sem]) rfl ⟨rfl, ?_⟩
  go_grown
set_option maxRecDepth 100000 in
set_option maxHeartbeats 4000000 in
theorem rnow_c (base : Nat) (a b : SL) (S : DS) (sl ll : List (Int × SL)) (N : Nat) (w : World) (h : RefAt w base a b S sl ll) (hok : DOk S N 1000000) (hN : N ≤ 100000) :
    Calls Try.prog 64 #[.agg (dv S a b)] w fun r w' => ∃ a' : SL, r = .returned (slV a') ∧ RowR w' a' (nowL sl ll) ∧ Below w.heap.size w w' := by
  obtain ⟨hr, hcnt, -, -, -, -⟩ := h.facts hok
  have ha := h.ra
  have hb := h.rb
  clear h
  obtain ⟨aq, an, ac⟩ := a
  obtain ⟨q, n, c⟩ := b
  obtain rfl : n = ll.length := hb.len
  have hcap : ll.length ≤ c := hb.cap
  obtain ⟨W0, hW⟩ : ∃ W0, W0 = w.alloc (.cells #[.int .i64 S.room, .int .i64 S.fails, .int .i64 S.waits, .slice aq an ac, .slice q ll.length c] 46) := ⟨_, rfl⟩
  have hb0 : Below w.heap.size w W0 := by rw [hW]; exact (Below.refl _ _).alloc (Nat.le_refl _) _
  have X0 : Blk W0 w.heap.size 46 #[.int .i64 S.room, .int .i64 S.fails, .int .i64 S.waits, .slice aq an ac, .slice q ll.length c] := by rw [hW]; exact Blk.new' rfl
  replace ha := ha.on hb0
  have HH := Lib.hid (hb.on hb0)
  simp only [dv, slV]
  clear hb
  go_enter Try.func64, Try.ntmps64
  go_upto_region 3 with (fail)
  rw [← hW]
  have HB0 := Lib.hid hb0
  generalize hgq : w.heap.size = gx at X0 ⊢
  clear hW hb0 hgq
  go_loopw [3, 4] (fun x i wr => ∃ (k : Nat) (a' : SL), k ≤ ll.length ∧ i = .int .i64 k ∧ x = slV a' ∧ RowR wr a' (nowL sl (ll.take k)) ∧ Below W0.heap.size W0 wr) (fun _ i _ => ll.length - (intOf i).toNat)
  case atStart => exact ⟨0, (aq, an, ac), Nat.zero_le _, rfl, rfl, by rw [List.take_zero]; exact ha, Below.refl _ _⟩
  case round =>
    obtain ⟨k, ⟨vq, vn, vc⟩, hk, rfl, rfl, hR, hB⟩ := hrel
    simp only [slV]
    have x4 : wr.cell? ⟨gx, 4, none⟩ = some (.slice q ll.length c) := (X0.on hB).cell 4
    by_cases hlt : k < ll.length
    · obtain ⟨p, hp⟩ := lt_at hlt
      obtain ⟨g, cur, hq, hC, hrow⟩ := HH.out.lies (by omega)
      dsimp only at hq
      subst hq
      obtain ⟨r0, r1⟩ := hrow k p hp
      have r0' := (hB.cell (p := ⟨g, k * 2, none⟩) hC.lt).trans r0
      have r1' := (hB.cell (p := ⟨g, k * 2 + 1, none⟩) hC.lt).trans r1
      have hst : nowL sl (ll.take (k + 1)) = putL (nowL sl (ll.take k)) p := by rw [take_at hp, nowL_snoc]
      obtain ⟨pk, pq, pn, pc⟩ := p
      have HLY := Lib.hid (rlay_c (vq, vn, vc) _ pk (pq, pn, pc) wr hR (rise_now hr) (by have := len_now (ll.take k) sl; rw [List.length_take] at this; omega))
      simp only [slV] at r0' r1' HLY
      have HST := Lib.hid hst
      have HBB := Lib.hid hB
      have hk1 : (k : Int) < (ll.length : Int) := by omega
      have hk0 : (0 : Int) ≤ (k : Int) := by omega
      have hi3 : (k : Int) + 1 ≤ 9223372036854775807 := by omega
      have hi4 : -9223372036854775808 ≤ (k : Int) + 1 := by omega
      clear hp hrow r0 r1 hst hB hR
      go_wp2_with (go_at_call 65; refine HLY.out.mono ?_; rintro e_ w1 ⟨v, rfl, ho, h1⟩)
      obtain ⟨a', rfl, hR'⟩ := RowR.of ho
      exact ⟨⟨k + 1, a', hlt, by go_num, rfl, by rw [HST.out]; exact hR', after HBB.out h1⟩, next_less' hlt⟩
    · obtain rfl : k = ll.length := by omega
      rw [List.take_length] at hR
      have hk1 : ¬ ((ll.length : Int) < (ll.length : Int)) := by omega
      have HRR := Lib.hid hR
      have HBB := Lib.hid hB
      clear hR hB
      go_wp2_with fail
      go_returns
      exact ⟨vq, vn, vc, rfl, HRR.out, after HB0.out HBB.out⟩
end Go.Proofs.Ytkopenemoddbbaa

/- Rows behind rows: what append makes of them; parts of rows. No program in sight. -/
namespace Go.Proofs.Ytkopenemoddbbaa
open Go.RowKit

section
variable {P : Program} {w w' : World} {base n m c : Nat} {e : TypeId} {size : Nat} {α : Type} {enc : α → List Value} {v : Value} {xs ys : List α} {q : Option Addr}
theorem flat_inv (hl : ∀ x, (enc x).length = size) : ∀ (xs : List α) (j : Nat) (u : Value), (xs.flatMap enc)[j]? = some u → ∃ i r x, xs[i]? = some x ∧ (enc x)[r]? = some u ∧ j = i * size + r := by
  intro xs
  induction xs with
  | nil => intro j u h; cases h
  | cons y ys ih =>
    intro j u h
    rw [List.flatMap_cons] at h
    by_cases hj : j < size
    · rw [List.getElem?_append_left (by rw [hl]; exact hj)] at h
      exact ⟨0, j, y, rfl, h, by omega⟩
    · rw [List.getElem?_append_right (by rw [hl]; omega), hl] at h
      obtain ⟨i, r, x, h1, h2, h3⟩ := ih _ _ h
      exact ⟨i + 1, r, x, by simpa using h1, h2, by rw [Nat.succ_mul]; omega⟩
theorem flat_lenR (hl : ∀ x, (enc x).length = size) : ∀ xs : List α, (xs.flatMap enc).length = xs.length * size := by
  intro xs
  induction xs with
  | nil => simp
  | cons y ys ih => rw [List.flatMap_cons, List.length_append, hl, ih, List.length_cons, Nat.succ_mul]; omega
theorem Rd.take {g o : Nat} (h : Rd w (some ⟨g, o, none⟩) size enc xs) (k : Nat) : Rd w (some ⟨g, o, none⟩) size enc (xs.take k) := fun hn => by
  rw [List.length_take] at hn
  refine ⟨g, o, rfl, fun i x hx j u hu => ?_⟩
  rw [List.getElem?_take] at hx
  split at hx
  · exact h.at hx hu
  · cases hx
theorem Rd.drop {g o : Nat} (h : Rd w (some ⟨g, o, none⟩) size enc xs) (k : Nat) : Rd w (some ⟨g, o + k * size, none⟩) size enc (xs.drop k) := fun hn => by
  refine ⟨g, _, rfl, fun i x hx j u hu => ?_⟩
  rw [List.getElem?_drop] at hx
  have := h.at hx hu
  rw [Nat.add_mul, ← Nat.add_assoc] at this
  exact this
theorem Rd.none {q : Option Addr} : Rd w q size enc ([] : List α) := fun hn => absurd hn (by simp)
/-- Any elements (none, too) behind those that are owned. -/
theorem run_rows {ts ty : TypeId} {z : Value} {bytes : Nat} (ht : P.underlying ts = some (.slice e)) (hi : (P.info? e).map (fun i => (i.zero, i.size, i.bytes)) = some (some z, size, bytes)) (hz : z.cells.size = size) (hs : 0 < size) (hby : 0 < bytes)
    (hl : ∀ x, (enc x).length = size) (h1 : ∀ x ∈ ys, ∀ u ∈ enc x, u.oneCell' = true) (hown : Owns w base e size enc v xs) (hy : ys.length = m) (hmc : m ≤ c) (hG : Rd w q size enc ys) (h47 : (xs.length + m) * bytes ≤ 140737488355328) (hbase : base ≤ w.heap.size) :
    ∃ v' w', (Builtin.append_ #[ts, ts] ty #[v, .slice q m c]).run P w = .ok v' w' ∧ Owns w' base e size enc v' (xs ++ ys) ∧ Below base w w' := by
  subst hy
  obtain ⟨i, hi, hz0, hs0, hb0⟩ := info_parts hi
  have h63 : xs.length + ys.length ≤ maxLen := by
    have : (xs.length + ys.length) * 1 ≤ (xs.length + ys.length) * bytes := Nat.mul_le_mul_left _ hby
    simp only [maxLen]; omega
  by_cases hm : 0 < ys.length
  · obtain ⟨g, o, rfl, hB⟩ := hG hm
    obtain ⟨v', w', h2, h3, h4, _⟩ := run_append_own (P := P) w base ts ty e i z size bytes ht hi hz0 hs0 hb0 hz hs v xs.length (xs.flatMap enc) hown ⟨g, o, none⟩ ys.length c (ys.flatMap enc) (flat_lenR hl ys) (fun j u hj => by
        obtain ⟨k, r, x, e1, e2, rfl⟩ := flat_inv hl ys j u hj
        have := hB k x e1 r u e2
        unfold Addr.add
        by_cases hk : k * size + r = 0
        · rw [if_pos hk]; rw [show o + k * size + r = o by omega] at this; exact this
        · rw [if_neg hk]; rw [show o + k * size + r = o + (k * size + r) by omega] at this; exact this) (fun u hu => by
        rw [List.mem_flatMap] at hu
        obtain ⟨x, hx, hu⟩ := hu
        exact h1 x hx u hu) h63 h47 hbase
    refine ⟨v', w', h2, ?_, (Below.refl _ _).grown h4 hbase fun k hk => (hown.block k hk).1⟩
    unfold Owns
    rw [List.length_append, List.flatMap_append]
    exact h3
  · obtain rfl : ys = [] := by cases ys with | nil => rfl | cons y ys => simp at hm
    have hsrc : Src P i.size ts (.slice q 0 c) 0 [] w := by
      cases q with
      | none => exact Src.ofNil w ht c
      | some a => exact Src.ofSlice w ht a 0 c [] (by simp) (by simp) (by simp)
    obtain ⟨q', cap', rfl, hc', _⟩ := hown.form hl
    refine ⟨_, w, run_append_nothing w ts ts ty e i ht hi q' _ cap' hc' _ hsrc, ?_, Below.refl _ _⟩
    rw [List.append_nil]
    exact hown
end
end Go.Proofs.Ytkopenemoddbbaa

/- The document's disk: what is asked for; what is put; what is made safe. -/
namespace Go.Proofs.Ytkopenemoddbbaa
open Go.RowKit Go.Maps
attribute [local go_sem] Oper.semAt_some

theorem getL_first {α : Type} {l : List (Int × α)} {k : Int} {i : Nat} {p : Int × α} (h : ∀ x ∈ l.take i, x.1 ≠ k) (hi : l[i]? = some p) (hp : p.1 = k) : getL l k = some p.2 := by
  induction l generalizing i with
  | nil => cases hi
  | cons x r ih =>
    rw [getL_cons]
    cases i with
    | zero => obtain rfl : x = p := by simpa using hi
              rw [if_pos hp]
    | succ i =>
      rw [if_neg (h x (by simp))]
      exact ih (i := i) (fun y hy => h y (by rw [List.take_succ_cons]; exact List.mem_cons_of_mem _ hy)) (by simpa using hi)
/-- What a call that asks hands back. -/
def GetR (base : Nat) (o : Option Bs) (r : Ending) (w w' : World) : Prop := ∃ s : SL, r = .returned (.tuple #[slV s, .bool o.isSome]) ∧ GoodS w' base s ∧ rdB w' s = o.getD [] ∧ Below w.heap.size w w'
set_option maxRecDepth 100000 in
set_option maxHeartbeats 4000000 in
theorem rget_c (base : Nat) (a b : SL) (S : DS) (sl ll : List (Int × SL)) (N : Nat) (w : World) (h : RefAt w base a b S sl ll) (hok : DOk S N 1000000) (hN : N ≤ 100000) (k : Int) :
    Calls Try.prog 66 #[.agg (dv S a b), .int .i64 k] w fun r w' => GetR base (S.get k) r w w' := by
  obtain ⟨hr, hcnt, hg, hc, hrn, -⟩ := h.facts hok
  have hln : (nowL sl ll).length ≤ 100000 := Nat.le_trans (len_now ll sl) (by omega)
  obtain ⟨W0, hW⟩ : ∃ W0, W0 = w.alloc (.cells (dv S a b) 46) := ⟨_, rfl⟩
  have hb0 : Below w.heap.size w W0 := by rw [hW]; exact (Below.refl _ _).alloc (Nat.le_refl _) _
  have HNW := Lib.hid (rnow_c base a b S sl ll N W0 (h.on hb0) hok hN)
  have HG := Lib.hid (And.intro hg hc)
  obtain ⟨aq, an, ac⟩ := a
  obtain ⟨q, n, c⟩ := b
  simp only [dv, slV] at hW HNW ⊢
  clear h hg hc
  go_enter Try.func66, Try.ntmps66
  go_upto_region 1 with (fail)
  rw [← hW]
  have X0 : Blk W0 w.heap.size 46 #[.int .i64 S.room, .int .i64 S.fails, .int .i64 S.waits, .slice aq an ac, .slice q n c] := by rw [hW]; exact Blk.new' rfl
  have x0 := X0.cell 0
  have x1 := X0.cell 1
  have x2 := X0.cell 2
  have x3 := X0.cell 3
  have x4 := X0.cell 4
  have HB0 := Lib.hid hb0
  clear hW hb0
  generalize nowL sl ll = nl at HNW HG hrn hln
  go_upto_region 3 with (go_at_call 64; refine HNW.out.mono ?_; rintro e_ w1 ⟨⟨vq, vn, vc⟩, rfl, hR, h1⟩; dsimp only)
  obtain rfl : vn = nl.length := hR.len
  have hcap : nl.length ≤ vc := hR.cap
  have HR := Lib.hid hR
  have HB1 := Lib.hid (after HB0.out h1)
  clear x0 x1 x2 x3 x4 X0 hR h1
  go_loopw [7] (fun i wr => ∃ j : Nat, j ≤ nl.length ∧ i = .int .i64 j ∧ Hid (∀ x ∈ nl.take j, x.1 ≠ k) ∧ wr = w1) (fun i _ => nl.length - (intOf i).toNat)
  case atStart => exact ⟨0, Nat.zero_le _, rfl, Lib.hid (by simp), rfl⟩
  case round =>
    obtain ⟨j, hj, rfl, HNO, rfl⟩ := hrel
    have fin : ∀ s : SL, GoodS w base s → rdB w s = (S.get k).getD [] → GoodS wr base s ∧ rdB wr s = (S.get k).getD [] := fun s h1 h2 => by
      obtain ⟨g1, g2⟩ := h1.on HB1.out
      exact ⟨g1, by rw [g2, h2]⟩
    have HF := Lib.hid fin
    clear fin
    by_cases hlt : j < nl.length
    · obtain ⟨p, hp⟩ := lt_at hlt
      obtain ⟨g, cur, hq, hC, hrow⟩ := HR.out.lies (by omega)
      dsimp only at hq
      subst hq
      obtain ⟨r0, r1⟩ := hrow j p hp
      have hk1 : (j : Int) < (nl.length : Int) := by omega
      have hk0 : (0 : Int) ≤ (j : Int) := by omega
      have hi3 : (j : Int) + 1 ≤ 9223372036854775807 := by omega
      have hi4 : -9223372036854775808 ≤ (j : Int) + 1 := by omega
      by_cases hpk : p.1 = k
      · have hfs := getL_first HNO.out hp hpk
        obtain ⟨hg1, hg2⟩ := HG.out
        have hget : S.get k = some (rdB w p.2) := by unfold DS.get; rw [← hg2, cont_get, hfs]; rfl
        obtain ⟨f1, f2⟩ := HF.out p.2 (hg1 p (List.mem_of_getElem? hp)) (by rw [hget]; rfl)
        obtain ⟨pk, pq, pn, pc⟩ := p
        simp only [slV] at r0 r1 hpk
        have HFF := Lib.hid (And.intro hget (And.intro f1 f2))
        subst hpk
        clear hp hrow hfs hg1 hg2 hget f1 f2
        go_wp2_with fail
        go_returns
        exact ⟨(pq, pn, pc), by rw [HFF.out.1]; rfl, HFF.out.2.1, HFF.out.2.2, HB1.out⟩
      · have hno : Hid (∀ x ∈ nl.take (j + 1), x.1 ≠ k) := Lib.hid fun x hx => by
          rw [take_at hp, List.mem_append] at hx
          rcases hx with hx | hx
          · exact HNO.out x hx
          · obtain rfl : x = p := by simpa using hx
            exact hpk
        have hpb : (p.1 == k) = false := by simpa using hpk
        obtain ⟨pk, pq, pn, pc⟩ := p
        simp only [slV] at r0 r1 hpk hpb
        clear hp hrow
        go_wp2_with fail
        exact ⟨⟨j + 1, hlt, by go_num, hno, trivial⟩, next_less' hlt⟩
    · obtain rfl : j = nl.length := by omega
      have hget : S.get k = none := by
        unfold DS.get
        rw [← HG.out.2, cont_get, getL_none (fun p hp => HNO.out p (by rw [List.take_length]; exact hp))]
        rfl
      have HGT := Lib.hid hget
      have hk1 : ¬ ((nl.length : Int) < (nl.length : Int)) := by omega
      clear hget
      go_wp2_with fail
      go_returns
      exact ⟨(none, 0, 0), by rw [HGT.out]; rfl, ⟨Nat.le_refl _, by decide, fun h => absurd h (by decide)⟩, by rw [HGT.out, rdB_zero]; rfl, HB1.out⟩
end Go.Proofs.Ytkopenemoddbbaa

/- The document's disk: what is put. -/
namespace Go.Proofs.Ytkopenemoddbbaa
open Go.RowKit Go.Maps
attribute [local go_sem] Oper.semAt_some

def RefIs (w : World) (base : Nat) (v : Value) (S : DS) : Prop := ∃ a b sl ll, v = .agg (dv S a b) ∧ RefAt w base a b S sl ll
/-- What a call that turns the document's disk hands back. -/
def PutR (base : Nat) (S : DS) (e : Int) (r : Ending) (w w' : World) : Prop := ∃ v, r = .returned (.tuple #[v, .int .i64 e]) ∧ RefIs w' base v S ∧ Below w.heap.size w w'
def RowV (l : List (Int × SL)) (v : Value) (w : World) : Prop := ∃ a' : SL, v = slV a' ∧ RowR w a' l
theorem RowV.on {l : List (Int × SL)} {v : Value} {w w' : World} (h : RowV l v w) (hb : Below w.heap.size w w') : RowV l v w' := by
  obtain ⟨a', e, h1⟩ := h
  exact ⟨a', e, h1.on hb⟩
theorem RowR.rd {w : World} {a : SL} {l : List (Int × SL)} (h : RowR w a l) : Rd w a.1 2 encW l := fun hn => by
  obtain ⟨g, cur, hq, -, hr⟩ := h.lies hn
  refine ⟨g, 0, hq, fun i x hx j u hu => ?_⟩
  obtain ⟨r0, r1⟩ := hr i x hx
  rw [Nat.zero_add]
  match j, hu with
  | 0, hu => simp at hu; subst hu; exact r0
  | 1, hu => simp at hu; subst hu; exact r1
theorem Blk.st5 {w : World} {g : Nat} {t : TypeId} {x y z p q : Value} (h : Blk w g t #[x, y, z, p, q]) (a b c d e : Value) : Blk (((((w.setCell ⟨g, 0, none⟩ a).setCell ⟨g, 1, none⟩ b).setCell ⟨g, 2, none⟩ c).setCell ⟨g, 3, none⟩ d).setCell ⟨g, 4, none⟩ e) g t #[a, b, c, d, e] := ((((h.set_ 0 a).set_ 1 b).set_ 2 c).set_ 3 d).set_ 4 e
theorem Blk.c5 {w : World} {g : Nat} {t : TypeId} {x y z p q : Value} (h : Blk w g t #[x, y, z, p, q]) : (w.cell? ⟨g, 0, none⟩ = some x ∧ w.cell? ⟨g, 1, none⟩ = some y ∧ w.cell? ⟨g, 2, none⟩ = some z ∧ w.cell? ⟨g, 3, none⟩ = some p ∧ w.cell? ⟨g, 4, none⟩ = some q) ∧ w.frozen? ⟨g, 0, none⟩ = false ∧ w.frozen? ⟨g, 1, none⟩ = false ∧ w.frozen? ⟨g, 2, none⟩ = false ∧ w.frozen? ⟨g, 3, none⟩ = false ∧ w.frozen? ⟨g, 4, none⟩ = false :=
  ⟨⟨h.cell 0, h.cell 1, h.cell 2, h.cell 3, h.cell 4⟩, h.frz 0, h.frz 1, h.frz 2, h.frz 3, h.frz 4⟩
theorem kept5 {w : World} {g : Nat} (a b c d e : Value) : Kept (fun x => x ≠ g) w (((((w.setCell ⟨g, 0, none⟩ a).setCell ⟨g, 1, none⟩ b).setCell ⟨g, 2, none⟩ c).setCell ⟨g, 3, none⟩ d).setCell ⟨g, 4, none⟩ e) :=
  (((((Kept.refl _ _).setCell (by simp) _).setCell (by simp) _).setCell (by simp) _).setCell (by simp) _).setCell (by simp) _
/-- A store into a block of another kind. -/
theorem RefAt.off {w w' : World} {base g : Nat} {a b : SL} {S : DS} {sl ll : List (Int × SL)} {t : TypeId} {cs : Array Value} (h : RefAt w base a b S sl ll) (hk : Kept (fun x => x ≠ g) w w') (hB : Blk w g t cs) (ht : t ≠ 113 ∧ t ≠ 5) (hg : base ≤ g) : RefAt w' base a b S sl ll := by
  have hby : ∀ x, ByteBlk w base x → x ≠ g := fun x hx e => by
    subst e
    rcases hx with hx | ⟨cur, hx⟩
    · omega
    · exact ht.2 (blk_one hB hx)
  have hW : ∀ x cur, Blk w x 113 cur → Blk w' x 113 cur := fun x cur hx => hk.blk (fun e => by subst e; exact ht.1 (blk_one hB hx)) hx
  obtain ⟨g1, g2⟩ := h.ga.kept hk hby
  obtain ⟨g3, g4⟩ := h.gb.kept hk hby
  exact ⟨h.ra.kept hW, h.rb.kept hW, g1, g3, by rw [g2]; exact h.safe, by rw [g4]; exact h.l⟩
set_option maxRecDepth 100000 in
set_option maxHeartbeats 8000000 in
theorem rput_c (base : Nat) (a b : SL) (S : DS) (sl ll : List (Int × SL)) (N : Nat) (w : World) (h : RefAt w base a b S sl ll) (hok : DOk S N 1000000) (hN : N ≤ 100000) (k : Int) (s : SL) (hs : GoodS w base s) (hz : s.2.1 ≤ 1000000) (hbase : base ≤ w.heap.size) :
    Calls Try.prog 62 #[.agg (dv S a b), .int .i64 k, slV s] w fun r w' => PutR base (S.put k (rdB w s)).1 (S.put k (rdB w s)).2 r w w' := by
  have HAS := Lib.hid fun w => rasked_c S a b hok.waits hok.fails w
  obtain ⟨e1, e2, e3⟩ := asked_same S
  have hok1 := hok.asked
  have hR1 : RefAt w base a b S.asked.1 sl ll := h.same e1 e2
  have hnow : S.asked.1.now = S.now := by unfold DS.now; rw [e1, e2]
  have HS := Lib.hid (And.intro hs hz)
  generalize hbb : rdB w s = bb
  have HBB := Lib.hid hbb
  obtain ⟨W0, hW⟩ : ∃ W0, W0 = (w.alloc (.cells (dv S a b) 46)).alloc (.cells #[.int .i64 0, .int .i64 0, .int .i64 0, .slice none 0 0, .slice none 0 0] 46) := ⟨_, rfl⟩
  have hb0 : Below w.heap.size w W0 := by rw [hW]; go_grown
  have X0 : Blk W0 w.heap.size 46 (dv S a b) := by rw [hW]; exact (Blk.new' rfl).alloc _
  have Y0 : Blk W0 (w.heap.size + 1) 46 #[.int .i64 0, .int .i64 0, .int .i64 0, .slice none 0 0, .slice none 0 0] := by rw [hW]; exact Blk.new' (by simp)
  have HB0 := Lib.hid hb0
  have HR := Lib.hid hR1
  obtain ⟨aq, an, ac⟩ := a
  obtain ⟨q, n, c⟩ := b
  obtain rfl : n = ll.length := h.rb.len
  clear hbb hs hz h hb0 hR1
  obtain ⟨sq, sn, sc⟩ := s
  simp only [dv, slV] at hW X0 HAS ⊢
  obtain ⟨gx, hgq⟩ : ∃ gx, gx = w.heap.size := ⟨_, rfl⟩
  rw [← hgq] at X0 Y0
  have HGQ := Lib.hid hgq
  generalize hS1 : S.asked.1 = S1 at *
  obtain ⟨fl, hfl⟩ : ∃ fl, S.asked.2 = fl := ⟨_, rfl⟩
  rw [hfl] at HAS
  go_enter Try.func62, Try.ntmps62
  go_upto_region 1 with (fail)
  rw [← hW, ← hgq]
  clear hW hgq
  obtain ⟨⟨x0, x1, x2, x3, x4⟩, -⟩ := X0.c5
  go_upto_region 2 with (go_at_call 63; refine (HAS.out _).mono ?_; rintro e_ w1 ⟨rfl, h1⟩; clear x0 x1 x2 x3 x4; replace X0 := X0.on h1; obtain ⟨⟨x0, x1, x2, x3, x4⟩, f0, f1, f2, f3, f4⟩ := X0.c5)
  generalize hV : World.setCell (World.setCell (World.setCell (World.setCell (World.setCell w1 _ _) _ _) _ _) _ _) _ _ = w2
  have X2 : Blk w2 gx 46 #[.int .i64 S.room, .int .i64 S1.fails, .int .i64 S1.waits, .slice aq an ac, .slice q ll.length c] := Blk.eqw hV (X0.st5 _ _ _ _ _)
  have Y2 : Blk w2 (gx + 1) 46 #[.int .i64 0, .int .i64 0, .int .i64 0, .slice none 0 0, .slice none 0 0] := Blk.eqw hV ((kept5 _ _ _ _ _).blk (by omega) (Y0.on h1))
  have H2 : Below w.heap.size w w2 := by
    rw [← hV, HGQ.out]
    exact (after HB0.out h1).trans ((kept5 _ _ _ _ _).below (n := w.heap.size) (by have := HB0.out.size; have := h1.size; omega) (fun b hb e => by omega))
  clear hV x0 x1 x2 x3 x4 f0 f1 f2 f3 f4 X0 Y0 h1
  have HH2 := Lib.hid H2
  have HRW := Lib.hid (HR.out.on H2)
  clear H2
  cases fl with
  | true =>
    have hput : S.put k bb = (S1, 9) := by unfold DS.put; rw [hfl, hS1]; rfl
    have HPU := Lib.hid hput
    clear hput
    obtain ⟨⟨x0, x1, x2, x3, x4⟩, -⟩ := X2.c5
    obtain ⟨⟨y0, y1, y2, y3, y4⟩, f0, f1, f2, f3, f4⟩ := Y2.c5
    go_wp2_with fail
    obtain ⟨⟨d0, d1, d2, d3, d4⟩, -⟩ := (Y2.st5 (.int .i64 S.room) (.int .i64 S1.fails) (.int .i64 S1.waits) (.slice aq an ac) (.slice q ll.length c)).c5
    have hfin : Below w.heap.size w (((((w2.setCell ⟨gx + 1, 0, none⟩ (.int .i64 S.room)).setCell ⟨gx + 1, 1, none⟩ (.int .i64 S1.fails)).setCell ⟨gx + 1, 2, none⟩ (.int .i64 S1.waits)).setCell ⟨gx + 1, 3, none⟩ (.slice aq an ac)).setCell ⟨gx + 1, 4, none⟩ (.slice q ll.length c)) := by
      rw [HGQ.out]
      exact HH2.out.trans ((kept5 _ _ _ _ _).below (n := w.heap.size) HH2.out.size (fun b hb e => by omega))
    refine bodyPost_ret (v := .tuple #[.agg #[.int .i64 S.room, .int .i64 S1.fails, .int .i64 S1.waits, .slice aq an ac, .slice q ll.length c], .int .i64 9]) (by simp [results, Try.f62, go_sem, d0, d1, d2, d3, d4]) rfl ?_
    rw [HPU.out]
    exact ⟨_, rfl, ⟨(aq, an, ac), (q, ll.length, c), sl, ll, by rw [← e3]; rfl, HR.out.on hfin⟩, hfin⟩
  | false =>
    obtain ⟨hr, hcnt, hg, hc, hrn, hlens⟩ := HRW.out.facts hok1
    have HNW := Lib.hid fun W hW => rnow_c base (aq, an, ac) (q, ll.length, c) S1 sl ll N W (HRW.out.on hW) hok1 hN
    rw [hnow] at hc
    obtain ⟨g1, g2⟩ := HS.out.1.on HH2.out
    rw [HBB.out] at g2
    have hlp : lens (putL (nowL sl ll) (k, (sq, sn, sc))) = lenB (putL S.now (k, bb)) := by rw [lens_is (hg.put g1), cont_put, hc, g2]
    have hll := len_now ll sl
    have hlp2 : lens (putL (nowL sl ll) (k, (sq, sn, sc))) ≤ 1000000000000 := by
      rw [hlp]
      have h1 := lenB_put (k, bb) (l := S.now) (by rw [← hc]; exact rise_map (rdB w2) hrn)
      rw [← hc, ← lens_is hg] at h1
      have h2 : bb.length = sn := by rw [← g2, g1.len]
      have h3 := HS.out.2
      have h4 : N * 1000000 ≤ 100000 * 1000000 := Nat.mul_le_mul_right _ hN
      dsimp only at h1 h3
      rw [← hc]
      omega
    have hrp : Rise (putL (nowL sl ll) (k, (sq, sn, sc))) := rise_putL hrn
    have hlq := len_putL (k, (sq, sn, sc)) (nowL sl ll)
    have HLY := Lib.hid fun W a' (h : RowR W a' (nowL sl ll)) => rlay_c a' _ k (sq, sn, sc) W h hrn (by omega)
    have HLN := Lib.hid fun W a' (h : RowR W a' (putL (nowL sl ll) (k, (sq, sn, sc)))) => rlen_c a' _ W h (by omega) hlp2
    have hfe : S.fits k bb = decide ((lens (putL (nowL sl ll) (k, (sq, sn, sc))) : Int) ≤ S.room) := by unfold DS.fits; rw [hlp]
    generalize putL (nowL sl ll) (k, (sq, sn, sc)) = pl at HLY HLN hfe hlp hlp2 hrp hlq
    have HF := Lib.hid (And.intro hg (And.intro hc (And.intro g1 g2)))
    have hcl : ll.length ≤ 100000 := by omega
    clear hg hc g1 g2 hlp hlp2 hrp hlq hll hlens hr hcnt hrn
    obtain ⟨⟨x0, x1, x2, x3, x4⟩, -⟩ := X2.c5
    go_upto_region 5 with (fail)
    generalize hV : World.alloc w2 _ = w3
    have U3 : Blk w3 w2.heap.size 113 #[.int .i64 k, .slice sq sn sc] := Blk.eqw hV (Blk.new' rfl)
    have h3 : Below w2.heap.size w2 w3 := by rw [← hV]; exact (Below.refl _ _).alloc (Nat.le_refl _) _
    have hgu : gx + 1 < w2.heap.size := Y2.lt
    generalize w2.heap.size = gu at U3 hgu ⊢
    replace X2 := X2.on h3
    replace Y2 := Y2.on h3
    have HH3 := Lib.hid h3
    clear hV x0 x1 x2 x3 x4 h3
    have u0 := fun d os => (U3.re d os).cell 0
    have u1 := fun d os => (U3.re d os).cell 1
    have x0 := fun d os => (X2.re d os).cell 0
    have x1 := fun d os => (X2.re d os).cell 1
    have x2 := fun d os => (X2.re d os).cell 2
    have x3 := fun d os => (X2.re d os).cell 3
    have x4 := fun d os => (X2.re d os).cell 4
    have HN2 : Hid (∀ W, Below w3.heap.size w3 W → Calls Try.prog 64 #[.agg #[.int .i64 S.room, .int .i64 S1.fails, .int .i64 S1.waits, .slice aq an ac, .slice q ll.length c]] W fun r w' => ∃ u, r = .returned u ∧ (Kept (fun _ => True) W w' ∧ RowV (nowL sl ll) u w')) := Lib.hid fun W hW => by
      have := HNW.out W (after HH3.out hW)
      rw [show dv S1 (aq, an, ac) (q, ll.length, c) = #[.int .i64 S.room, .int .i64 S1.fails, .int .i64 S1.waits, .slice aq an ac, .slice q ll.length c] by rw [← e3]; rfl] at this
      refine this.mono ?_
      rintro r w' ⟨a', rfl, hr, hb⟩
      exact ⟨_, rfl, (Kept.of_below hb).mono fun _ _ => trivial, a', rfl, hr⟩
    have HL2 : Hid (∀ W u, RowV (nowL sl ll) u W → Calls Try.prog 65 #[u, .agg #[.int .i64 k, .slice sq sn sc]] W fun r w' => ∃ u', r = .returned u' ∧ (Kept (fun _ => True) W w' ∧ RowV pl u' w')) := Lib.hid fun W u hu => by
      obtain ⟨a', rfl, hr⟩ := hu
      refine (HLY.out W a' hr).mono ?_
      rintro r w' ⟨v, rfl, ho, hb⟩
      obtain ⟨a2, rfl, hr2⟩ := RowR.of ho
      exact ⟨_, rfl, (Kept.of_below hb).mono fun _ _ => trivial, a2, rfl, hr2⟩
    have HL3 : Hid (∀ W u, RowV pl u W → Calls Try.prog 51 #[u] W fun r w' => r = .returned (.int .i64 (lens pl)) ∧ Kept (fun _ => True) W w') := Lib.hid fun W u hu => by
      obtain ⟨a', rfl, hr⟩ := hu
      refine (HLN.out W a' hr).mono ?_
      rintro r w' ⟨rfl, rfl⟩
      exact ⟨rfl, Kept.refl _ _⟩
    generalize hnl : nowL sl ll = nl at HN2 HL2 HF
    clear hnl HNW HLY HLN
    generalize (lens pl : Int) = nn at HL3 hfe
    obtain ⟨B0, hB0⟩ : ∃ B0, decide (S.room < nn) = B0 := ⟨_, rfl⟩
    have hfb : S.fits k bb = !B0 := by rw [hfe, ← hB0]; by_cases h : nn ≤ S.room <;> simp [h] <;> omega
    have HFB := Lib.hid hfb
    clear hfe hfb
    refine wp_sched [0, 2, 0, 2, 2, 0, 0, 2] (fun i v w => match i with | 1 => RowV nl v w | 3 => RowV pl v w | 4 => v = .int .i64 nn | 7 => v = .bool B0 | _ => True) (by kernel_rfl) (by kernel_rfl) (fun i v w w' h hb => by match i, h with | 1, h => exact RowV.on h hb | 3, h => exact RowV.on h hb | 4, h => exact h | 7, h => exact h | 0, _ => trivial | 2, _ => trivial | 5, _ => trivial | 6, _ => trivial | n + 8, _ => trivial) ?_
    repeat (first | (refine wpQs_s ?_) | (refine wpQs_q (fun K hK => ?_); go_simp; first | (refine hK _ ?_; clear hK K) | (apply Exists.intro; refine ⟨fun _ => ?_, hK _ ?_⟩; (fail); clear hK K)) | (refine wpQs_f (fun K hK => ?_); go_simp; refine hK _ ?_; clear hK K))
    refine wpQs_nil ?_
    refine wpLs_skip ?_
    refine wpLs_one ?lsA (fun v_ => ?_)
    case lsA => (intro w_ hw_ hp_; (first | (dsimp only at hF_; have h8 : _ = Value.int .i64 nn := hF_.2 (by kernel_rfl); have E := h8; subst E; go_simp <;> first | exact Kept.refl _ _ | exact ⟨Kept.refl _ _, rfl⟩) | (dsimp only at hF_; have h8 : RowV pl _ _ := hF_.2 (by kernel_rfl); go_simp; refine (HL3.out _ _ h8).mono ?_; exact fun _ _ h => h) | (dsimp only at hF_; have h8 : RowV nl _ _ := hF_.2 (by kernel_rfl); go_simp; refine (HL2.out _ _ h8).mono ?_; rintro e_ w9 ⟨u, rfl, hk, hu⟩; exact ⟨u, rfl, hk, hu⟩) | (go_simp; refine (HN2.out _ ((msd_kept hw_).none)).mono ?_; rintro e_ w9 ⟨u, rfl, hk, hu⟩; exact ⟨u, rfl, hk, hu⟩)))
    refine wpLs_skip ?_
    refine wpLs_oneF ?lsA (fun v_ => ?_)
    case lsA => (intro w_ hw_ hp_ hF_; (first | (dsimp only at hF_; have h8 : _ = Value.int .i64 nn := hF_.2 (by kernel_rfl); have E := h8; subst E; go_simp <;> first | exact Kept.refl _ _ | exact ⟨Kept.refl _ _, rfl⟩) | (dsimp only at hF_; have h8 : RowV pl _ _ := hF_.2 (by kernel_rfl); go_simp; refine (HL3.out _ _ h8).mono ?_; exact fun _ _ h => h) | (dsimp only at hF_; have h8 : RowV nl _ _ := hF_.2 (by kernel_rfl); go_simp; refine (HL2.out _ _ h8).mono ?_; rintro e_ w9 ⟨u, rfl, hk, hu⟩; exact ⟨u, rfl, hk, hu⟩) | (go_simp; refine (HN2.out _ ((msd_kept hw_).none)).mono ?_; rintro e_ w9 ⟨u, rfl, hk, hu⟩; exact ⟨u, rfl, hk, hu⟩)))
    refine wpLs_oneF ?lsA (fun v_ => ?_)
    case lsA => (intro w_ hw_ hp_ hF_; (first | (dsimp only at hF_; have h8 : _ = Value.int .i64 nn := hF_.2 (by kernel_rfl); have E := h8; subst E; go_simp <;> first | exact Kept.refl _ _ | exact ⟨Kept.refl _ _, rfl⟩) | (dsimp only at hF_; have h8 : RowV pl _ _ := hF_.2 (by kernel_rfl); go_simp; refine (HL3.out _ _ h8).mono ?_; exact fun _ _ h => h) | (dsimp only at hF_; have h8 : RowV nl _ _ := hF_.2 (by kernel_rfl); go_simp; refine (HL2.out _ _ h8).mono ?_; rintro e_ w9 ⟨u, rfl, hk, hu⟩; exact ⟨u, rfl, hk, hu⟩) | (go_simp; refine (HN2.out _ ((msd_kept hw_).none)).mono ?_; rintro e_ w9 ⟨u, rfl, hk, hu⟩; exact ⟨u, rfl, hk, hu⟩)))
    refine wpLs_skip ?_
    refine wpLs_skip ?_
    refine wpLs_oneF ?lsA (fun v_ => ?_)
    case lsA => (intro w_ hw_ hp_ hF_; (first | (dsimp only at hF_; have h8 : _ = Value.int .i64 nn := hF_.2 (by kernel_rfl); have E := h8; subst E; go_simp <;> first | exact Kept.refl _ _ | exact ⟨Kept.refl _ _, rfl⟩) | (dsimp only at hF_; have h8 : RowV pl _ _ := hF_.2 (by kernel_rfl); go_simp; refine (HL3.out _ _ h8).mono ?_; exact fun _ _ h => h) | (dsimp only at hF_; have h8 : RowV nl _ _ := hF_.2 (by kernel_rfl); go_simp; refine (HL2.out _ _ h8).mono ?_; rintro e_ w9 ⟨u, rfl, hk, hu⟩; exact ⟨u, rfl, hk, hu⟩) | (go_simp; refine (HN2.out _ ((msd_kept hw_).none)).mono ?_; rintro e_ w9 ⟨u, rfl, hk, hu⟩; exact ⟨u, rfl, hk, hu⟩)))
    refine wpLs_nilB ?_
    simp only [tails]
    rintro w4 h4 ⟨⟨⟨⟨-, -⟩, -⟩, rfl⟩, rfl⟩
    clear u0 u1 x0 x1 x2 x3 x4 hB0
    replace X2 := X2.on h4
    replace Y2 := Y2.on h4
    replace U3 := U3.on h4
    have H4 := Lib.hid (after (after HH2.out HH3.out) h4)
    have HR4 := Lib.hid ((HRW.out.on HH3.out).on h4)
    obtain ⟨g3, g4⟩ := HF.out.2.2.1.on (after HH3.out h4)
    have HG4 : Hid (GoodS w4 base (sq, sn, sc) ∧ rdB w4 (sq, sn, sc) = bb) := Lib.hid ⟨g3, by rw [g4]; exact HF.out.2.2.2⟩
    clear g3 g4 h4 HN2 HL2 HL3 HF HRW
    cases B0 with
    | true =>
      have hput : S.put k bb = (S1, 8) := by unfold DS.put; rw [hfl, hS1, HFB.out]; rfl
      have HPU := Lib.hid hput
      clear hput
      obtain ⟨⟨x0, x1, x2, x3, x4⟩, -⟩ := X2.c5
      obtain ⟨⟨y0, y1, y2, y3, y4⟩, f0, f1, f2, f3, f4⟩ := Y2.c5
      go_wp2_with fail
      obtain ⟨⟨d0, d1, d2, d3, d4⟩, -⟩ := (Y2.st5 (.int .i64 S.room) (.int .i64 S1.fails) (.int .i64 S1.waits) (.slice aq an ac) (.slice q ll.length c)).c5
      have hfin : Below w.heap.size w (((((w4.setCell ⟨gx + 1, 0, none⟩ (.int .i64 S.room)).setCell ⟨gx + 1, 1, none⟩ (.int .i64 S1.fails)).setCell ⟨gx + 1, 2, none⟩ (.int .i64 S1.waits)).setCell ⟨gx + 1, 3, none⟩ (.slice aq an ac)).setCell ⟨gx + 1, 4, none⟩ (.slice q ll.length c)) := by
        rw [HGQ.out]
        exact H4.out.trans ((kept5 _ _ _ _ _).below (n := w.heap.size) H4.out.size (fun b hb e => by omega))
      refine bodyPost_ret (v := .tuple #[.agg #[.int .i64 S.room, .int .i64 S1.fails, .int .i64 S1.waits, .slice aq an ac, .slice q ll.length c], .int .i64 8]) (by simp [results, Try.f62, go_sem, d0, d1, d2, d3, d4]) rfl ?_
      rw [HPU.out]
      exact ⟨_, rfl, ⟨(aq, an, ac), (q, ll.length, c), sl, ll, by rw [← e3]; rfl, HR.out.on hfin⟩, hfin⟩
    | false =>
      have hput : S.put k bb = ({ S1 with l := S.l ++ [(k, bb)] }, 0) := by unfold DS.put; rw [hfl, hS1, HFB.out]; rfl
      have HPU := Lib.hid hput
      clear hput
      obtain ⟨⟨x0, x1, x2, x3, x4⟩, -⟩ := X2.c5
      have hbc := HR4.out.rb.cap
      dsimp only at hbc
      obtain ⟨v5, w5, hrun5, O5, B5⟩ := run_rows (P := Try.prog) (w := w4) (base := w4.heap.size) (ts := 44) (ty := 44) Try.underlying44 infR rfl (by decide) (by decide) lenW (fun x _ u hu => by simp [encW] at hu; rcases hu with rfl | rfl <;> rfl) (Owns.nil) rfl hbc HR4.out.rb.rd (by simp; omega) (Nat.le_refl _)
      rw [List.nil_append] at O5
      have X5 := X2.on B5
      have U5 := U3.on B5
      go_upto_region 9 with (at_builtin; refine Lib.wpList_append_run _ rfl _ _ _ _ rfl _ _ rfl rfl _ _ hrun5 ?_)
      obtain ⟨v6, w6, hrun6, O6, B6, g6, c6, rfl⟩ := push_ok O5 k (sq, sn, sc) (by omega) B5.size
      simp only [slV] at hrun6
      have B46 := B5.trans B6
      have u0 : w5.cell? ⟨gu, 0, none⟩ = some (.int .i64 k) := U5.cell 0
      have u1 : w5.cell? ⟨gu, 1, none⟩ = some (.slice sq sn sc) := U5.cell 1
      have X6 := X2.on B46
      have Y6 := Y2.on B46
      clear x0 x1 x2 x3 x4 hrun5
      obtain ⟨⟨x0, x1, x2, x3, x4⟩, e0_, e1_, e2_, e3_, e4_⟩ := X6.c5
      go_upto_region 10 with (at_builtin; refine Lib.wpList_append_run _ rfl _ _ _ _ rfl _ _ rfl rfl _ _ hrun6 ?_)
      clear x0 x1 x2 x3 x4 e0_ e1_ e2_ e3_ e4_ u0 u1 hrun6
      have X7 := X6.set_ 4 (.slice (some ⟨g6, 0, none⟩) (ll.length + 1) c6)
      have Y7 := Y6.far (p := ⟨gx, 4, none⟩) (show gx + 1 ≠ gx by omega) (.slice (some ⟨g6, 0, none⟩) (ll.length + 1) c6)
      have O7 : Owns (w6.setCell ⟨gx, 4, none⟩ (.slice (some ⟨g6, 0, none⟩) (ll.length + 1) c6)) w4.heap.size 113 2 encW (.slice (some ⟨g6, 0, none⟩) (ll.length + 1) c6) (ll ++ [(k, (sq, sn, sc))]) := O6.far (p := ⟨gx, 4, none⟩) (show gx < w4.heap.size from X2.lt) _
      have H7 : Below w.heap.size w (w6.setCell ⟨gx, 4, none⟩ (.slice (some ⟨g6, 0, none⟩) (ll.length + 1) c6)) := (after H4.out B46).setCell (p := ⟨gx, 4, none⟩) (by rw [HGQ.out]; exact Nat.le_refl _) _
      have hR7 := HR.out.on H7
      obtain ⟨gs7, rd7⟩ := HS.out.1.on H7
      have RA7 : RefAt (w6.setCell ⟨gx, 4, none⟩ (.slice (some ⟨g6, 0, none⟩) (ll.length + 1) c6)) base (aq, an, ac) (some ⟨g6, 0, none⟩, ll.length + 1, c6) { S1 with l := S.l ++ [(k, bb)] } sl (ll ++ [(k, (sq, sn, sc))]) := by
        obtain ⟨a', ea, hra⟩ := RowR.of O7
        obtain ⟨a1, a2, a3⟩ := a'
        simp only [slV, Value.slice.injEq] at ea
        obtain ⟨rfl, rfl, rfl⟩ := ea
        refine ⟨hR7.ra, hra, hR7.ga, fun p hp => ?_, hR7.safe, ?_⟩
        · rcases List.mem_append.1 hp with hp | hp
          · exact hR7.gb p hp
          · obtain rfl : p = (k, (sq, sn, sc)) := by simpa using hp
            exact gs7
        · rw [cont_snoc, ← hR7.l, rd7, HBB.out, e2]
      generalize World.setCell w6 _ _ = w7 at X7 Y7 O7 H7 hR7 gs7 rd7 RA7 ⊢
      have HRA := Lib.hid (And.intro RA7 H7)
      clear O7 H7 hR7 gs7 rd7 RA7 X6 Y6 O6 B46 X5 U5 O5 B5 B6 U3 X2 Y2
      obtain ⟨⟨x0, x1, x2, x3, x4⟩, -⟩ := X7.c5
      obtain ⟨⟨y0, y1, y2, y3, y4⟩, f0, f1, f2, f3, f4⟩ := Y7.c5
      go_wp2_with fail
      obtain ⟨⟨d0, d1, d2, d3, d4⟩, -⟩ := (Y7.st5 (.int .i64 S.room) (.int .i64 S1.fails) (.int .i64 S1.waits) (.slice aq an ac) (.slice (some ⟨g6, 0, none⟩) (ll.length + 1) c6)).c5
      have hk7 := kept5 (w := w7) (g := gx + 1) (.int .i64 S.room) (.int .i64 S1.fails) (.int .i64 S1.waits) (.slice aq an ac) (.slice (some ⟨g6, 0, none⟩) (ll.length + 1) c6)
      have hfin : Below w.heap.size w (((((w7.setCell ⟨gx + 1, 0, none⟩ (.int .i64 S.room)).setCell ⟨gx + 1, 1, none⟩ (.int .i64 S1.fails)).setCell ⟨gx + 1, 2, none⟩ (.int .i64 S1.waits)).setCell ⟨gx + 1, 3, none⟩ (.slice aq an ac)).setCell ⟨gx + 1, 4, none⟩ (.slice (some ⟨g6, 0, none⟩) (ll.length + 1) c6)) := by
        exact HRA.out.2.trans (hk7.below (n := w.heap.size) HRA.out.2.size (fun b hb e => by have := HGQ.out; omega))
      refine bodyPost_ret (v := .tuple #[.agg #[.int .i64 S.room, .int .i64 S1.fails, .int .i64 S1.waits, .slice aq an ac, .slice (some ⟨g6, 0, none⟩) (ll.length + 1) c6], .int .i64 0]) (by simp [results, Try.f62, go_sem, d0, d1, d2, d3, d4]) rfl ?_
      rw [HPU.out]
      exact ⟨_, rfl, ⟨(aq, an, ac), (some ⟨g6, 0, none⟩, ll.length + 1, c6), sl, ll ++ [(k, (sq, sn, sc))], by simp only [dv, slV]; rw [← e3], HRA.out.1.off hk7 Y7 (by decide) (by rw [HGQ.out]; omega)⟩, hfin⟩
end Go.Proofs.Ytkopenemoddbbaa

/- A region that draws its order: one invariant over what is laid; guarded operations. No program in sight. -/
namespace Go.Proofs.Ytkopenemoddbbaa
open Go.RowKit

section
variable {P : Program} {ops : Array Oper} {C : World → Prop} {ks : List Nat}
/-- Some value and world of which R holds. -/
def sumUponI (P : Program) (R : Rel) (w : World) : Result Next → Prop
  | .ok (.value u) w' => R u w'
  | .ok .skip w' => R undef w'
  | .ok (.enter f args) w' => w' = w ∧ Calls P f args w (fun e w'' => ∃ u, e = .returned u ∧ R u w'')
  | _ => False
def sumAtI (P : Program) (o : Oper) (a : Act) (R : Rel) (w : World) : Prop := sumUponI P R w ((execOp a.eval o).run P w)
theorem wp_of_sumAtI {o : Oper} {a : Act} {w : World} {R : Rel} {K : Act → World → Prop} {Q' : Exit → Act → World → Prop} (h : sumAtI P o a R w) (hk : ∀ v w', R v w' → K (a.put o.dst v) w') : o.wp P a w K Q' := by
  unfold sumAtI at h
  unfold Oper.wp
  generalize (execOp a.eval o).run P w = r at *
  cases r with
  | ok nx w' =>
    cases nx <;> simp only [sumUponI] at h <;> simp only [Oper.upon]
    case value u => exact hk _ _ h
    case skip => exact hk _ _ h
    case enter f args =>
      obtain ⟨e1, hc⟩ := h
      rw [e1]
      exact hc.mono fun e w'' ⟨u, he, hR⟩ => by subst he; exact hk _ _ hR
  | halt x w' => simp only [sumUponI] at h
theorem sumAtI.alike {o : Oper} {R : Rel} {w : World} {a b : Act} (hs : ∀ cs b, o.op ≠ .select cs b) (h : Alike ops o a b) (hy : sumAtI P o a R w) : sumAtI P o b R w := by
  unfold sumAtI at *
  rwa [← exec_alike hs h]
theorem sumAtI.mono {o : Oper} {a : Act} {R R' : Rel} {w : World} (hr : ∀ v w, R v w → R' v w) (h : sumAtI P o a R w) : sumAtI P o a R' w := by
  unfold sumAtI at *
  generalize (execOp a.eval o).run P w = r at *
  cases r with
  | ok nx w' =>
    cases nx <;> simp only [sumUponI] at h ⊢
    case value u => exact hr _ _ h
    case skip => exact hr _ _ h
    case enter f args => exact ⟨h.1, h.2.mono fun e w'' ⟨u, he, hR⟩ => ⟨u, he, hr _ _ hR⟩⟩
  | halt x w' => simp only [sumUponI] at h
/-- The same behind a guard. -/
def sumGI (P : Program) (ops : Array Oper) (o : Oper) (a : Act) (R : Rel) (w : World) : Prop :=
  (Region.wanted o (yielded ops a.tmps) = true ∧ sumAtI P o a R w) ∨ (Region.wanted o (yielded ops a.tmps) = false ∧ R undef w)
theorem sumGI.mono {o : Oper} {a : Act} {R R' : Rel} {w : World} (hr : ∀ v w, R v w → R' v w) (h : sumGI P ops o a R w) : sumGI P ops o a R' w :=
  h.imp (fun h => ⟨h.1, h.2.mono hr⟩) fun h => ⟨h.1, hr _ _ h.2⟩
theorem sumGI.alike {o : Oper} {R : Rel} {w : World} {a b : Act} (hs : ∀ cs b, o.op ≠ .select cs b) (h : Alike ops o a b) (hz : a.tmps.size = b.tmps.size) (hy : sumGI P ops o a R w) : sumGI P ops o b R w := by
  unfold sumGI at *
  rw [← wanted_alike h hz]
  exact hy.imp (fun h1 => ⟨h1.1, h1.2.alike hs h⟩) id
def upd (vs : Nat → Value) (i : Nat) (v : Value) : Nat → Value := fun j => if j = i then v else vs j
theorem upd_same (vs : Nat → Value) (i : Nat) (v : Value) : upd vs i v i = v := by unfold upd; rw [if_pos rfl]
theorem upd_ne {vs : Nat → Value} {i j : Nat} {v : Value} (h : j ≠ i) : upd vs i v j = vs j := by unfold upd; rw [if_neg h]
/-- Of what is laid, its values and the world. -/
abbrev InvT := (Nat → Prop) → (Nat → Value) → World → Prop
def andOf (S : Nat → Prop) (i : Nat) : Nat → Prop := fun j => j = i ∨ S j
def wpLsI (P : Program) (ops : Array Oper) (C : World → Prop) (I : InvT) (an : Nat → Nat → Bool) (ks0 : List Nat) (T : Act → World → Prop) : List Nat → List Oper → Nat → Act → (Nat → Value) → Prop
  | _, [], n, a, vs => ∀ V w', C w' → (∀ j, j < n → kd ks0 j = 2 → V j = vs j) → I (fun j => j < n ∧ kd ks0 j = 2) V w' → T a w'
  | [], _ :: _, _, _, _ => False
  | 0 :: ks, _ :: l, i, a, vs => wpLsI P ops C I an ks0 T ks l (i + 1) a vs
  | 1 :: ks, _ :: l, i, a, vs => wpLsI P ops C I an ks0 T ks l (i + 1) a vs
  | 2 :: ks, o :: l, i, a, vs => (∀ S V w', C w' → (∀ j, j < i → kd ks0 j = 2 → V j = vs j) → (∀ j, j < i → kd ks0 j = 2 → an i j = true → S j) → ¬ S i → I S V w' → sumGI P ops o a (fun v w => C w ∧ I (andOf S i) (upd V i v) w) w') ∧ ∀ v, wpLsI P ops C I an ks0 T ks l (i + 1) (a.put o.dst v) (upd vs i v)
  | (_ + 3) :: ks, _ :: l, i, a, vs => wpLsI P ops C I an ks0 T ks l (i + 1) a vs
section
variable {l : List Oper}
theorem ls_factsI {I : InvT} {an : Nat → Nat → Bool} {T : Act → World → Prop} : ∀ (r : List Oper) (kr : List Nat) (k : Nat) (a : Act) (vs : Nat → Value), l.drop k = r → ks.drop k = kr → k ≤ l.length → wpLsI P l.toArray C I an ks T kr r k a vs →
    ∀ V : Nat → Value, (∀ j, j < k → kd ks j = 2 → V j = vs j) → (∀ i o, k ≤ i → l.toArray[i]? = some o → kd ks i = 2 → ∀ S w', C w' → (∀ j, j < i → kd ks j = 2 → an i j = true → S j) → ¬ S i → I S V w' → sumGI P l.toArray o (stL l.toArray V (nums ks pL k i) a) (fun v w => C w ∧ I (andOf S i) (upd V i v) w) w') ∧
      ∀ w', C w' → I (fun j => j < l.length ∧ kd ks j = 2) V w' → T (stL l.toArray V (nums ks pL k l.length) a) w' := by
  intro r
  induction r with
  | nil =>
    intro kr k a vs hr _ hkl h V hvs
    have hk : k = l.length := by have : l.length ≤ k := by simpa using hr
                                 omega
    refine ⟨fun i o hi ho => ?_, fun w' h1 h2 => ?_⟩
    · have := (Array.getElem?_eq_some_iff.1 ho).1; simp at this; omega
    · rw [nums_none (Nat.le_of_eq hk.symm)]; unfold wpLsI at h; subst hk; exact h V w' h1 hvs h2
  | cons o r ih =>
    intro kr k a vs hr hkr hkl h V hvs
    obtain ⟨ho, hr', hlt⟩ := op_at hr
    have hdst : dstOf l.toArray k = o.dst := by unfold dstOf; rw [ho]; rfl
    cases kr with
    | nil => exact h.elim
    | cons c kr =>
      obtain ⟨hc, hkr'⟩ := kd_at hkr
      have skip : c ≠ 2 → wpLsI P l.toArray C I an ks T kr r (k + 1) a vs → (∀ i o, k ≤ i → l.toArray[i]? = some o → kd ks i = 2 → ∀ S w', C w' → (∀ j, j < i → kd ks j = 2 → an i j = true → S j) → ¬ S i → I S V w' → sumGI P l.toArray o (stL l.toArray V (nums ks pL k i) a) (fun v w => C w ∧ I (andOf S i) (upd V i v) w) w') ∧
          ∀ w', C w' → I (fun j => j < l.length ∧ kd ks j = 2) V w' → T (stL l.toArray V (nums ks pL k l.length) a) w' := fun hc2 h => by
        obtain ⟨h3, h4⟩ := ih kr (k + 1) a vs hr' hkr' hlt h V (fun j hj hj2 => hvs j (by rcases Nat.lt_or_eq_of_le (Nat.le_of_lt_succ hj) with e | e; exact e; subst e; omega) hj2)
        have hst : ∀ n, k < n → nums ks pL k n = nums ks pL (k + 1) n := fun n hn => by rw [nums_step hn, hc, if_neg (by simpa using hc2)]
        refine ⟨fun i o' hi ho' hk2 => ?_, fun w' h1 h2 => by rw [hst _ hlt]; exact h4 w' h1 h2⟩
        rcases Nat.lt_or_eq_of_le hi with h5 | h5
        · rw [hst i h5]; exact h3 i o' (by omega) ho' hk2
        · subst h5; omega
      match c, h, hc, skip with
      | 0, h, hc, skip => unfold wpLsI at h; exact skip (by omega) h
      | 1, h, hc, skip => unfold wpLsI at h; exact skip (by omega) h
      | 2, h, hc, _ =>
        unfold wpLsI at h
        obtain ⟨h3, h4⟩ := ih kr (k + 1) _ _ hr' hkr' hlt (h.2 (V k)) V (fun j hj hj2 => by rcases Nat.lt_or_eq_of_le (Nat.le_of_lt_succ hj) with e | e; exact (hvs j e hj2).trans (upd_ne (by omega)).symm; subst e; exact (upd_same _ _ _).symm)
        have hst : ∀ n, k < n → stL l.toArray V (nums ks pL k n) a = stL l.toArray V (nums ks pL (k + 1) n) (a.put o.dst (V k)) := fun n hn => by
          rw [nums_step hn, hc, if_pos (by simp), stL_cons, hdst]
        refine ⟨fun i o' hi ho' hk2 => ?_, fun w' h1 h2 => by rw [hst _ hlt]; exact h4 w' h1 h2⟩
        rcases Nat.lt_or_eq_of_le hi with h5 | h5
        · rw [hst i h5]; exact h3 i o' (by omega) ho' hk2
        · subst h5
          rw [nums_none (Nat.le_refl _)]
          rw [ho] at ho'
          obtain rfl := Option.some.inj ho'
          exact fun S w' h6 h8 h9 h10 => h.1 S V w' h6 hvs h8 h9 h10
      | c + 3, h, hc, skip => unfold wpLsI at h; exact skip (by omega) h
end
variable {anc : Nat → Nat → Prop}
variable {Q : Exit → Act → World → Prop} {V : Nat → Value} {a0 : Act}
/-- The l's that are laid. -/
def lsUp (ks : List Nat) (n : Nat) (listed : Array Bool) : Nat → Prop := fun j => j < n ∧ kd ks j = 2 ∧ up listed j = true
theorem lsUp_skip {listed : Array Bool} {n i : Nat} (hi : i < listed.size) (hk : kd ks i ≠ 2) : lsUp ks n (listed.setIfInBounds i true) = lsUp ks n listed := by
  funext j
  unfold lsUp
  rw [up_set hi]
  by_cases h : j = i
  · subst h; simp [hk]
  · rw [if_neg h]
theorem lsUp_add {listed : Array Bool} {n i : Nat} (hi : i < listed.size) (hn : i < n) (hk : kd ks i = 2) : lsUp ks n (listed.setIfInBounds i true) = andOf (lsUp ks n listed) i := by
  funext j
  unfold lsUp andOf
  rw [up_set hi]
  by_cases h : j = i
  · subst h; simp [hk, hn]
  · rw [if_neg h]; simp [h]
theorem lsUp_all {listed : Array Bool} {n : Nat} (h : ∀ i, i < n → kd ks i = 2 → up listed i = true) : lsUp ks n listed = fun j => j < n ∧ kd ks j = 2 := by
  funext j
  unfold lsUp
  exact propext ⟨fun h => ⟨h.1, h.2.1⟩, fun h1 => ⟨h1.1, h1.2, h j h1.1 h1.2⟩⟩
theorem Sch.phase1I (H : Sch ops ks anc) {Vq : Nat → Value} {I : InvT} {an : Nat → Nat → Bool} (han : ∀ i j, an i j = true → i < ops.size → j < ops.size → anc i j)
    (hC : ∀ w w', C w → Below w.heap.size w w' → C w') (hR : ∀ S V w w', C w → I S V w → Below w.heap.size w w' → I S V w')
    (hG : ∀ (i : Nat) (o : Oper), ops[i]? = some o → kd ks i < 2 → Owe P ops C (kd ks i) o (Vq i) (stL ops Vq (nums ks pQ 0 i) a0))
    (hL : ∀ V : Nat → Value, (∀ (i : Nat) (o : Oper), ops[i]? = some o → kd ks i = 2 → ∀ S w', C w' → (∀ j, j < i → kd ks j = 2 → an i j = true → S j) → ¬ S i → I S V w' → sumGI P ops o (stL ops V (nums ks pL 0 i) (stL ops Vq (nums ks pQ 0 ops.size) a0)) (fun v w => C w ∧ I (andOf S i) (upd V i v) w) w') ∧
      ∀ w', C w' → I (fun j => j < ops.size ∧ kd ks j = 2) V w' → wpList P ops (Exit.then (fun a w => Q .normal a w) (fun _ _ _ => False)) ((nums ks pT 0 ops.size).filterMap fun i => ops[i]?) (stL ops V (nums ks pL 0 ops.size) (stL ops Vq (nums ks pQ 0 ops.size) a0)) w') :
    ∀ (f : Nat) (listed : Array Bool) (V : Nat → Value) (w : World), listed.size = ops.size → Upw ops listed → cnt ops.size listed = f → (∀ i, kd ks i < 2 → V i = Vq i) → (∀ i, 3 ≤ kd ks i → up listed i = false) → C w →
      I (lsUp ks ops.size listed) V w → Go.wpAny P .any ops Q f listed (stL ops V ((nonT ks ops.size).filter (up listed)) a0) w := by
  intro f
  induction f with
  | zero =>
    intro listed V w hs hU hc hV hT hw hRs
    refine H.phase2 (V := V) (a0 := a0) (fun i o ho hk => ?_) 0 listed _ w hs hU hc (fun i hi _ => cnt_zero hc hi) (fun t _ => rfl) (stL_size _ _ _) ?_
    · have := hG i o ho (by omega)
      rw [show stL ops V (nums ks pQ 0 i) a0 = stL ops Vq (nums ks pQ 0 i) a0 from stL_same H.apart fun j => ⟨Iff.rfl, fun h => hV j (by have := (mem_nums.1 h).2; simpa [pQ] using this)⟩, hV i (by omega)]
      unfold Owe at this
      rwa [if_neg (by omega)] at this
    · exact finish listed V w hs hV hT hw hRs (fun i hi _ => cnt_zero hc hi)
  | succ f ih =>
    intro listed V w hs hU hc hV hT hw hRs
    by_cases hall : ∀ i, i < ops.size → kd ks i = 0 ∨ kd ks i = 2 → up listed i = true
    · refine H.phase2 (V := V) (a0 := a0) (fun i o ho hk => ?_) (f + 1) listed _ w hs hU hc hall (fun t _ => rfl) (stL_size _ _ _) ?_
      · have := hG i o ho (by omega)
        rw [show stL ops V (nums ks pQ 0 i) a0 = stL ops Vq (nums ks pQ 0 i) a0 from stL_same H.apart fun j => ⟨Iff.rfl, fun h => hV j (by have := (mem_nums.1 h).2; simpa [pQ] using this)⟩, hV i (by omega)]
        unfold Owe at this
        rwa [if_neg (by omega)] at this
      · exact finish listed V w hs hV hT hw hRs hall
    · refine ⟨fun hr => absurd hr (H.ready_ne hs (by omega)), fun i hi => ?_⟩
      obtain ⟨hu, o, ho, he⟩ := mem_ready.1 hi
      have hlt := (Array.getElem?_eq_some_iff.1 ho).1
      rw [getD_any (by omega)] at hu
      have hdst : dstOf ops i = o.dst := by unfold dstOf; rw [ho]; rfl
      have hup : ∀ j, anc i j → up listed j = true := fun j => H.anc_up hU i o j ho he
      have hk3 : kd ks i < 3 := by
        rcases Nat.lt_or_ge (kd ks i) 3 with h | h
        · exact h
        · exfalso
          apply hall
          intro j hj hk
          rcases H.tail i o ho h j hj with h1 | h1 | h1
          · omega
          · omega
          · exact hup j h1
      have hU' := hU.set (by omega) ho he
      have hs' : (listed.setIfInBounds i true).size = ops.size := by simp [hs]
      have hc' : cnt ops.size (listed.setIfInBounds i true) = f := by have := cnt_set hs hlt hu; omega
      have hT' : ∀ j, 3 ≤ kd ks j → up (listed.setIfInBounds i true) j = false := fun j hj => by
        rw [up_set (by omega), if_neg (fun e => by subst e; omega)]; exact hT j hj
      have hst : ∀ (V' : Nat → Value) (v : Value), (∀ j, j ≠ i → V' j = V j) → V' i = v → (stL ops V ((nonT ks ops.size).filter (up listed)) a0).put o.dst v = stL ops V' ((nonT ks ops.size).filter (up (listed.setIfInBounds i true))) a0 := fun V' v h1 h2 => by
        have e : (stL ops V ((nonT ks ops.size).filter (up listed)) a0).put o.dst v = stL ops V' ((nonT ks ops.size).filter (up listed) ++ [i]) a0 := by
          rw [stL_app, stL_cons, hdst, h2, show stL ops V' ((nonT ks ops.size).filter (up listed)) a0 = stL ops V ((nonT ks ops.size).filter (up listed)) a0 from stL_same H.apart fun j => ⟨Iff.rfl, fun h => h1 j (fun e => by subst e; exact absurd ((List.mem_filter.1 h).2.symm.trans hu) (by decide))⟩]
          rfl
        rw [e]
        refine stL_same H.apart fun j => ⟨?_, fun _ => rfl⟩
        rw [List.mem_append, List.mem_filter, List.mem_filter, List.mem_singleton, up_set (by omega), mem_nonT]
        constructor
        · rintro (⟨h3, h4⟩ | rfl)
          · exact ⟨h3, by split <;> first | rfl | exact h4⟩
          · exact ⟨⟨hlt, hk3⟩, by rw [if_pos rfl]⟩
        · rintro ⟨h3, h4⟩
          by_cases hji : j = i
          · exact .inr hji
          · rw [if_neg hji] at h4; exact .inl ⟨h3, h4⟩
      have hlooks : ∀ t ∈ o.looksAt ops, ∀ j, dstOf ops j = some t → (up listed j = true ∧ j < i ∧ (kd ks j < 2 ∨ (kd ks i = 2 ∧ kd ks j = 2))) ∨ 3 ≤ kd ks j := fun t ht j hj => by
        rcases H.looks i o ho t ht j hj with ⟨h1, h2⟩ | h1
        · exact .inl ⟨hup j h1, (H.lower i j h1).1, by omega⟩
        · exact .inr h1.2.2
      unfold wpOp
      rw [ho]
      dsimp only
      by_cases hk : kd ks i < 2
      · have hal : Alike ops o (stL ops Vq (nums ks pQ 0 i) a0) (stL ops V ((nonT ks ops.size).filter (up listed)) a0) := fun t ht => by
          refine stL_agree H.apart fun j hj => ?_
          rcases hlooks t ht j hj with ⟨h1, h2, h3⟩ | h3
          · exact ⟨⟨fun _ => List.mem_filter.2 ⟨mem_nonT.2 ⟨by omega, by omega⟩, h1⟩, fun _ => mem_nums.2 ⟨⟨Nat.zero_le _, h2⟩, by simp [pQ]; omega⟩⟩, fun _ => (hV j (by omega)).symm⟩
          · exact ⟨⟨fun h => (by have := (mem_nums.1 h).2; simp [pQ] at this; omega), fun h => (by have := (mem_nonT.1 (List.mem_filter.1 h).1).2; omega)⟩, fun h => (by have := (mem_nums.1 h).2; simp [pQ] at this; omega)⟩
        have hy0 := hG i o ho hk
        have hy : Gives P ops C o (V i) (stL ops V ((nonT ks ops.size).filter (up listed)) a0) := by
          rw [hV i hk]
          unfold Owe at hy0
          by_cases hz : kd ks i = 0
          · rw [if_pos hz] at hy0
            exact Gives.alike (H.sel i o · · ho) hal (by rw [stL_size, stL_size]) hy0
          · rw [if_neg hz] at hy0
            exact Gives.alike (H.sel i o · · ho) hal (by rw [stL_size, stL_size]) hy0.gives
        have hls : lsUp ks ops.size (listed.setIfInBounds i true) = lsUp ks ops.size listed := lsUp_skip (by omega) (by omega)
        rcases hy with ⟨hwn, hv⟩ | ⟨hwn, hv⟩
        · rw [if_pos hwn]
          refine .inl (wp_of_relAt (hv w hw) fun w' hb => ?_)
          rw [hst V (V i) (fun _ _ => rfl) rfl]
          exact ih _ V w' hs' hU' hc' hV hT' (hC _ _ hw hb) (by rw [hls]; exact hR _ _ _ _ hw hRs hb)
        · rw [if_neg (by rw [hwn]; decide), ← hv, hst V (V i) (fun _ _ => rfl) rfl]
          exact ih _ V w hs' hU' hc' hV hT' hw (by rw [hls]; exact hRs)
      · have hk2 : kd ks i = 2 := by omega
        have hal : Alike ops o (stL ops V (nums ks pL 0 i) (stL ops Vq (nums ks pQ 0 ops.size) a0)) (stL ops V ((nonT ks ops.size).filter (up listed)) a0) := fun t ht => by
          rw [show stL ops Vq (nums ks pQ 0 ops.size) a0 = stL ops V (nums ks pQ 0 ops.size) a0 from stL_same H.apart fun j => ⟨Iff.rfl, fun h => (hV j (by have := (mem_nums.1 h).2; simpa [pQ] using this)).symm⟩, ← stL_app]
          refine stL_agree H.apart fun j hj => ⟨?_, fun _ => rfl⟩
          rcases hlooks t ht j hj with ⟨h1, h2, h3⟩ | h3
          · refine ⟨fun _ => List.mem_filter.2 ⟨mem_nonT.2 ⟨by omega, by omega⟩, h1⟩, fun _ => ?_⟩
            rcases h3 with h3 | ⟨-, h3⟩
            · exact List.mem_append_left _ (mem_nums.2 ⟨⟨Nat.zero_le _, by omega⟩, by simp [pQ]; omega⟩)
            · exact List.mem_append_right _ (mem_nums.2 ⟨⟨Nat.zero_le _, h2⟩, by simp [pL, h3]⟩)
          · refine ⟨fun h => ?_, fun h => (by have := (mem_nonT.1 (List.mem_filter.1 h).1).2; omega)⟩
            rcases List.mem_append.1 h with h | h
            · have := (mem_nums.1 h).2; simp [pQ] at this; omega
            · have := (mem_nums.1 h).2; simp [pL] at this; omega
        have hls := lsUp_add (ks := ks) (n := ops.size) (listed := listed) (by omega) hlt hk2
        have hy := sumGI.alike (H.sel i o · · ho) hal (by rw [stL_size, stL_size, stL_size]) ((hL V).1 i o ho hk2 (lsUp ks ops.size listed) w hw (fun j hj1 hj2 hj3 => ⟨by omega, hj2, hup j (han i j hj3 hlt (by omega))⟩) (fun h => by have := h.2.2; rw [show up listed i = listed.getD i false from rfl, hu] at this; cases this) hRs)
        rcases hy with ⟨hwn, hy⟩ | ⟨hwn, hy⟩
        · rw [if_pos hwn]
          refine .inl (wp_of_sumAtI hy fun v w' hv => ?_)
          rw [hst (upd V i v) v (fun j hj => upd_ne hj) (upd_same _ _ _)]
          exact ih _ _ w' hs' hU' hc' (fun j hj => by rw [upd_ne (fun e => by subst e; omega)]; exact hV j hj) hT' hv.1 (by rw [hls]; exact hv.2)
        · rw [if_neg (by rw [hwn]; decide), hst (upd V i undef) undef (fun j hj => upd_ne hj) (upd_same _ _ _)]
          exact ih _ _ w hs' hU' hc' (fun j hj => by rw [upd_ne (fun e => by subst e; omega)]; exact hV j hj) hT' hw (by rw [hls]; exact hy.2)
where
  finish (listed : Array Bool) (V : Nat → Value) (w : World) (hs : listed.size = ops.size) (hV : ∀ i, kd ks i < 2 → V i = Vq i) (hT : ∀ i, 3 ≤ kd ks i → up listed i = false) (hw : C w) (hRs : I (lsUp ks ops.size listed) V w)
      (hall : ∀ i, i < ops.size → kd ks i = 0 ∨ kd ks i = 2 → up listed i = true) : wpList P ops (Exit.then (fun a w => Q .normal a w) (fun _ _ _ => False)) (((nums ks pT 0 ops.size).filter fun i => !up listed i).filterMap fun i => ops[i]?)
        (stL ops V ((nums ks pF 0 ops.size).filter fun i => !up listed i) (stL ops V ((nonT ks ops.size).filter (up listed)) a0)) w := by
    have h := (hL V).2 w hw (by rw [← lsUp_all (listed := listed) fun i hi hk => hall i hi (.inr hk)]; exact hRs)
    rw [show stL ops Vq (nums ks pQ 0 ops.size) a0 = stL ops V (nums ks pQ 0 ops.size) a0 from stL_same H.apart fun j => ⟨Iff.rfl, fun h => (hV j (by have := (mem_nums.1 h).2; simpa [pQ] using this)).symm⟩, ← stL_app] at h
    rw [← stL_app, List.filter_eq_self.2 (fun i hi => by
      have := (mem_nums.1 hi).2
      rw [hT i (by simpa [pT] using this)]; rfl)]
    rw [show stL ops V ((nonT ks ops.size).filter (up listed) ++ (nums ks pF 0 ops.size).filter fun i => !up listed i) a0 = stL ops V (nums ks pQ 0 ops.size ++ nums ks pL 0 ops.size) a0 from stL_same H.apart fun j => ⟨?_, fun _ => rfl⟩]
    · exact h
    · rw [List.mem_append, List.mem_filter, List.mem_filter, mem_nonT, mem_nums]
      simp only [pF, beq_iff_eq, Bool.not_eq_true']
      constructor
      · rintro (h1 | h1)
        · exact h1.1
        · exact ⟨h1.1.1.2, by omega⟩
      · intro h1
        cases hu : up listed j with
        | true => exact .inl ⟨h1, rfl⟩
        | false =>
          refine .inr ⟨⟨⟨Nat.zero_le _, h1.1⟩, ?_⟩, rfl⟩
          have h2 : ¬ (kd ks j = 0 ∨ kd ks j = 2) := fun h => by rw [hall j h1.1 h] at hu; cases hu
          omega

/-- But for the blocks D all lies as it lay. -/
def KeptD (D : List Nat) (w0 w : World) : Prop := Kept (fun b => b ∉ D) w0 w
section
variable {D : List Nat} {w0 w w' : World}
theorem KeptD.on (h : KeptD D w0 w) (k : Below w.heap.size w w') : KeptD D w0 w' := Kept.on h k
theorem KeptD.none (h : KeptD [] w0 w) : Below w0.heap.size w0 w := Kept.none h
theorem KeptD.blk {g : Nat} {t : TypeId} {cs : Array Value} (h : KeptD D w0 w) (hg : g ∉ D) (hb : Blk w0 g t cs) : Blk w g t cs := Kept.blk h hg hb
end
theorem wpLsI_nil {w0 : World} {D : List Nat} {I : InvT} {an : Nat → Nat → Bool} {ks0 : List Nat} {T : Act → World → Prop} {n : Nat} {a : Act} {vs : Nat → Value} (h : ∀ V w', KeptD D w0 w' → (∀ j, j < n → kd ks0 j = 2 → V j = vs j) → I (fun j => j < n ∧ kd ks0 j = 2) V w' → T a w') : wpLsI P ops (Msd w0 D) I an ks0 T [] [] n a vs := by
  unfold wpLsI; exact fun V w' hw => h V w' (msd_kept hw)
/-- An l without a guard. -/
theorem wpLsI_one {w0 : World} {D : List Nat} {I : InvT} {an : Nat → Nat → Bool} {ks0 : List Nat} {T : Act → World → Prop} {i : Nat} {a : Act} {vs : Nat → Value} {o : Oper} {l : List Oper} (hg : o.guard = none)
    (h1 : ∀ S V w', KeptD D w0 w' → (∀ j, j < i → kd ks0 j = 2 → V j = vs j) → (∀ j, j < i → kd ks0 j = 2 → an i j = true → S j) → ¬ S i → I S V w' → sumAtI P o a (fun v w => KeptD D w0 w ∧ I (andOf S i) (upd V i v) w) w') (h2 : ∀ v, wpLsI P ops (Msd w0 D) I an ks0 T ks l (i + 1) (a.put o.dst v) (upd vs i v)) :
    wpLsI P ops (Msd w0 D) I an ks0 T (2 :: ks) (o :: l) i a vs := by
  unfold wpLsI
  exact ⟨fun S V w' hw hV ha hn hI => .inl ⟨by simp [Region.wanted, hg], (h1 S V w' (msd_kept hw) hV ha hn hI).mono fun v w h => ⟨msd_of h.1, h.2⟩⟩, h2⟩
/-- An l behind a guard. -/
theorem wpLsI_grd {w0 : World} {D : List Nat} {I : InvT} {an : Nat → Nat → Bool} {ks0 : List Nat} {T : Act → World → Prop} {i : Nat} {a : Act} {vs : Nat → Value} {o : Oper} {l : List Oper}
    (h1 : ∀ S V w', KeptD D w0 w' → (∀ j, j < i → kd ks0 j = 2 → V j = vs j) → (∀ j, j < i → kd ks0 j = 2 → an i j = true → S j) → ¬ S i → I S V w' → sumGI P ops o a (fun v w => KeptD D w0 w ∧ I (andOf S i) (upd V i v) w) w') (h2 : ∀ v, wpLsI P ops (Msd w0 D) I an ks0 T ks l (i + 1) (a.put o.dst v) (upd vs i v)) :
    wpLsI P ops (Msd w0 D) I an ks0 T (2 :: ks) (o :: l) i a vs := by
  unfold wpLsI
  exact ⟨fun S V w' hw hV ha hn hI => (h1 S V w' (msd_kept hw) hV ha hn hI).mono fun v w h => ⟨msd_of h.1, h.2⟩, h2⟩
theorem wpLsI_skip {I : InvT} {an : Nat → Nat → Bool} {ks0 : List Nat} {T : Act → World → Prop} {i : Nat} {a : Act} {vs : Nat → Value} {o : Oper} {l : List Oper} {k : Nat} (h : wpLsI P ops C I an ks0 T ks l (i + 1) a vs) (hk : notTwo k := by exact trivial) : wpLsI P ops C I an ks0 T (k :: ks) (o :: l) i a vs := by
  match k, hk with
  | 0, _ => unfold wpLsI; exact h
  | 1, _ => unfold wpLsI; exact h
  | k + 3, _ => unfold wpLsI; exact h
theorem any_inv {Q : Exit → Act → World → Prop} {a : Act} {w : World} {l : List Oper} (ks : List Nat) (D : List Nat) (I : InvT) (hB : schedB0 l.toArray ks = true)
    (hR : ∀ S V w1 w2, Kept (fun b => b ∉ D) w w1 → I S V w1 → Below w1.heap.size w1 w2 → I S V w2) (h0 : ∀ V, I (fun _ => False) V w)
    (h : wpQs P l.toArray (Msd w D) (fun a' => wpLsI P l.toArray (Msd w D) I (ancB (Region.before l.toArray)) ks (fun a'' w'' => wpList P l.toArray (Exit.then (fun a w => Q .normal a w) (fun _ _ _ => False)) (tails ks l) a'' w'') ks l 0 a' (fun _ => undef)) ks l a) :
    Go.wpAny P .any l.toArray Q l.toArray.size (Array.replicate l.toArray.size false) a { w with drawn := w.drawn + 1 } := by
  have H := sch_of0 hB
  have hlen : ks.length = l.length := by simpa using H.len
  obtain ⟨Vq, h1, h2⟩ := qs_facts (l := l) (ks := ks) l ks 0 a rfl rfl h
  have e : l.length = l.toArray.size := by simp
  have h3 := fun V => ls_factsI (l := l) (ks := ks) l ks 0 _ _ rfl rfl (Nat.zero_le _) h2 V (fun j hj => by omega)
  rw [tails_eq (l := l) (ks := ks) l ks 0 rfl rfl hlen, e] at h3
  have hd0 : ∀ K : Nat → Prop, Kept K w { w with drawn := w.drawn + 1 } := fun K => ⟨rfl, rfl, rfl, Nat.le_refl _, fun _ _ _ => rfl⟩
  have := H.phase1I (C := Msd w D) (Q := Q) (a0 := a) (I := I) (an := ancB (Region.before l.toArray)) (fun i j h h1 h2 => ⟨h1, h2, h⟩) (Vq := Vq) (fun w1 w2 h4 h5 => msd_of ((msd_kept h4).trans (Kept.of_below h5))) (fun S V w1 w2 hw => hR S V w1 w2 (msd_kept hw)) (fun i o ho hk => h1 i o (Nat.zero_le _) ho hk)
    (fun V => ⟨fun i o ho hk => (h3 V).1 i o (Nat.zero_le _) ho hk, (h3 V).2⟩)
    l.toArray.size (Array.replicate l.toArray.size false) Vq { w with drawn := w.drawn + 1 } (by simp) (fun j o hj => by simp [up, Array.getElem?_replicate] at hj; split at hj <;> cases hj)
    (by simp only [cnt]; rw [List.countP_eq_length.2 (fun i _ => by simp [up, Array.getElem?_replicate]; split <;> rfl)]; simp) (fun _ _ => rfl) (fun i _ => by simp [up, Array.getElem?_replicate]; split <;> rfl) (msd_of (hd0 _))
    (by
      have e2 : lsUp ks l.toArray.size (Array.replicate l.toArray.size false) = fun _ => False := by
        funext j
        exact propext ⟨fun h => (by have := h.2.2; simp [up, Array.getElem?_replicate] at this; split at this <;> cases this), fun h => h.elim⟩
      rw [e2]
      exact hR _ _ w _ (Kept.refl _ _) (h0 Vq) ⟨rfl, rfl, rfl, Nat.le_refl _, fun _ _ => rfl⟩)
  have hf : (nonT ks l.toArray.size).filter (up (Array.replicate l.toArray.size false)) = [] := List.filter_eq_nil_iff.2 fun i _ => by simp [up, Array.getElem?_replicate]; split <;> simp
  rw [hf] at this
  exact this
/-- THE LAW: one invariant; the blocks D may be written. -/
theorem wp_inv {id : Nat} {Q : Exit → Act → World → Prop} {a : Act} {w : World} {l : List Oper} (ks : List Nat) (D : List Nat) (I : InvT) (hm : P.follows .mixedOrders = true) (hB : schedB0 l.toArray ks = true)
    (hR : ∀ S V w1 w2, Kept (fun b => b ∉ D) w w1 → I S V w1 → Below w1.heap.size w1 w2 → I S V w2) (h0 : ∀ V, I (fun _ => False) V w)
    (h : wpQs P l.toArray (Msd w D) (fun a' => wpLsI P l.toArray (Msd w D) I (ancB (Region.before l.toArray)) ks (fun a'' w'' => wpList P l.toArray (Exit.then (fun a w => Q .normal a w) (fun _ _ _ => False)) (tails ks l) a'' w'') ks l 0 a' (fun _ => undef)) ks l a) : (Code.region id l.toArray true).wp P Q a w :=
  wp_region_any hm (any_inv ks D I hB hR h0 h)
theorem in_inv {l' n id : Nat} {Q : Exit → Act → World → Prop} {a : Act} {w : World} {l : List Oper} (ks : List Nat) (D : List Nat) (I : InvT) (hm : P.follows .mixedOrders = true) (hB : schedB0 l.toArray ks = true)
    (hR : ∀ S V w1 w2, Kept (fun b => b ∉ D) w w1 → I S V w1 → Below w1.heap.size w1 w2 → I S V w2) (h0 : ∀ V, I (fun _ => False) V w) (hd : noDefer l.toArray = true) (hQ : ¬ LetsOut Q)
    (h : wpQs P l.toArray (Msd w D) (fun a' => wpLsI P l.toArray (Msd w D) I (ancB (Region.before l.toArray)) ks (fun a'' w'' => wpList P l.toArray (Exit.then (fun a w => Q .normal a w) (fun _ _ _ => False)) (tails ks l) a'' w'') ks l 0 a' (fun _ => undef)) ks l a) : (Code.region id l.toArray true).wpIn (Fence.wide.inRound l') n P Q a w :=
  wpIn_region_any hm (any_in hd hQ _ _ _ _ (any_inv ks D I hB hR h0 h))
attribute [go_sem] sumAtI sumUponI
end
end Go.Proofs.Ytkopenemoddbbaa

/- Two variables that are set out of what they were, in a region that draws: the law's invariant. No program in sight. -/
namespace Go.Proofs.Ytkopenemoddbbaa
open Go.RowKit

/-- Store s into block b: o ahead of it, n behind it; p is what must be laid ahead of it. -/
structure StCfg where
  s : Nat
  p : Nat
  b : Nat
  t : TypeId
  o : Array Value
  n : Array Value
def StI (x : StCfg) : InvT := fun S _ w => (S x.s → S x.p) ∧ (¬ S x.s → Blk w x.b x.t x.o) ∧ (S x.s → Blk w x.b x.t x.n)
def ExI (x y : StCfg) (val : Nat → Value) : InvT := fun S V w => (∀ i, S i → i ≠ x.s → i ≠ y.s → V i = val i) ∧ StI x S V w ∧ StI y S V w
section
variable {x y : StCfg} {val : Nat → Value} {S : Nat → Prop} {V : Nat → Value} {w w' : World}
theorem StI.below (h : StI x S V w) (k : Below w.heap.size w w') : StI x S V w' := ⟨h.1, fun e => (h.2.1 e).on k, fun e => (h.2.2 e).on k⟩
theorem ExI.below (h : ExI x y val S V w) (k : Below w.heap.size w w') : ExI x y val S V w' := ⟨h.1, h.2.1.below k, h.2.2.below k⟩
theorem exI_zero (h1 : Blk w x.b x.t x.o) (h2 : Blk w y.b y.t y.o) : ExI x y val (fun _ => False) V w := ⟨fun _ h _ _ => h.elim, ⟨fun h => h.elim, fun _ => h1, fun h => h.elim⟩, ⟨fun h => h.elim, fun _ => h2, fun h => h.elim⟩⟩
theorem StI.lay {i : Nat} {v : Value} (h : StI x S V w) (hi : i ≠ x.s) (k : Below w.heap.size w w') : StI x (andOf S i) (upd V i v) w' :=
  ⟨fun e => .inr (h.1 (e.resolve_left fun e => hi e.symm)), fun e => (h.2.1 fun e' => e (.inr e')).on k, fun e => (h.2.2 (e.resolve_left fun e => hi e.symm)).on k⟩
theorem ExI.lay {i : Nat} {v : Value} (h : ExI x y val S V w) (hx : i ≠ x.s) (hy : i ≠ y.s) (hv : v = val i) (k : Below w.heap.size w w') : ExI x y val (andOf S i) (upd V i v) w' :=
  ⟨fun j hj h1 h2 => by
    by_cases e : j = i
    · rw [e, upd_same, hv]
    · rw [upd_ne e]; exact h.1 j (hj.resolve_left e) h1 h2, h.2.1.lay hx k, h.2.2.lay hy k⟩
theorem StI.far {i : Nat} {v : Value} {b : Nat} (h : StI x S V w) (hi : i ≠ x.s) (hb : x.b ≠ b) (k : Kept (fun c => c ≠ b) w w') : StI x (andOf S i) (upd V i v) w' :=
  ⟨fun e => .inr (h.1 (e.resolve_left fun e => hi e.symm)), fun e => k.blk hb (h.2.1 fun e' => e (.inr e')), fun e => k.blk hb (h.2.2 (e.resolve_left fun e => hi e.symm))⟩
theorem StI.set {v : Value} (hp : S x.p) (hb : Blk w' x.b x.t x.n) : StI x (andOf S x.s) (upd V x.s v) w' := ⟨fun _ => .inr hp, fun e => absurd (.inl rfl) e, fun _ => hb⟩
theorem ExI.fst {v : Value} (h : ExI x y val S V w) (hne : x.s ≠ y.s) (hp : S x.p) (hb : y.b ≠ x.b) (k : Kept (fun c => c ≠ x.b) w w') (hn : Blk w' x.b x.t x.n) : ExI x y val (andOf S x.s) (upd V x.s v) w' :=
  ⟨fun j hj h1 h2 => by rw [upd_ne h1]; exact h.1 j (hj.resolve_left h1) h1 h2, StI.set hp hn, h.2.2.far hne hb k⟩
theorem ExI.snd {v : Value} (h : ExI x y val S V w) (hne : x.s ≠ y.s) (hp : S y.p) (hb : x.b ≠ y.b) (k : Kept (fun c => c ≠ y.b) w w') (hn : Blk w' y.b y.t y.n) : ExI x y val (andOf S y.s) (upd V y.s v) w' :=
  ⟨fun j hj h1 h2 => by rw [upd_ne h2]; exact h.1 j (hj.resolve_left h2) h1 h2, h.2.1.far (Ne.symm hne) hb k, StI.set hp hn⟩
theorem ExI.old1 {i : Nat} (h : ExI x y val S V w) (hn : ¬ S i) (hi : x.p = i) : Blk w x.b x.t x.o := h.2.1.2.1 fun e => hn (hi ▸ h.2.1.1 e)
theorem ExI.old2 {i : Nat} (h : ExI x y val S V w) (hn : ¬ S i) (hi : y.p = i) : Blk w y.b y.t y.o := h.2.2.2.1 fun e => hn (hi ▸ h.2.2.1 e)
theorem ExI.be1 (h : ExI x y val S V w) (hn : ¬ S x.s) : Blk w x.b x.t x.o := h.2.1.2.1 hn
theorem ExI.be2 (h : ExI x y val S V w) (hn : ¬ S y.s) : Blk w y.b y.t y.o := h.2.2.2.1 hn
end
theorem keptD_set {D : List Nat} {w0 w w' : World} {b : Nat} (h : KeptD D w0 w) (hb : b ∈ D) (k : Kept (fun c => c ≠ b) w w') : KeptD D w0 w' := Kept.trans h (k.mono fun _ hc e => hc (e ▸ hb))
end Go.Proofs.Ytkopenemoddbbaa

/- A region that holds a disk's call and a store of a whole document's disk, in any order: its invariant. -/
namespace Go.Proofs.Ytkopenemoddbbaa
open Go.RowKit Go.Maps

/-- Call c turns the disk from S0 to S1; store s writes block R. -/
structure DoC where
  base : Nat
  d : Nat
  c : Nat
  s : Nat
  R : Nat
  S0 : DS
  S1 : DS
  o : Array Value
  n : Array Value
structure DoOk (x : DoC) (w0 : World) (M : Nat → Prop) (L : List Nat) : Prop where
  ne : x.c ≠ x.s
  list : ∀ b, M b ↔ b ∈ L
  disk : DiskIs w0 x.base M x.d x.S0
  blk : Blk w0 x.R 46 x.o
  based : x.base ≤ x.R
def DoI (x : DoC) (w0 : World) (M : Nat → Prop) (val : Nat → Value) : InvT := fun S V w => (∀ i, S i → i ≠ x.s → V i = val i) ∧ (¬ S x.c → DiskIs w x.base M x.d x.S0) ∧
  (S x.c → ∃ M', DiskIs w x.base M' x.d x.S1 ∧ ∀ b, M' b → M b ∨ w0.heap.size ≤ b) ∧ (¬ S x.s → Blk w x.R 46 x.o) ∧ (S x.s → Blk w x.R 46 x.n)
theorem disk_list {w : World} {base d : Nat} {M : Nat → Prop} {S : DS} (h : DiskIs w base M d S) : ∃ L : List Nat, ∀ b, M b ↔ b ∈ L := by
  obtain ⟨bm, v, sv, lv, -, hM⟩ := h
  refine ⟨d :: bm :: v.ownBlock.toList, fun b => ?_⟩
  rw [hM]
  unfold Mine
  simp
theorem not_by {w : World} {b base : Nat} {t : TypeId} {cs : Array Value} (hB : Blk w b t cs) (ht : t ≠ 5) (hb : base ≤ b) : ¬ ByteBlk w base b := by
  rintro (h | ⟨cur, h⟩)
  · omega
  · exact ht (blk_one hB h)
section
variable {x : DoC} {w0 w w' : World} {M : Nat → Prop} {L : List Nat} {val : Nat → Value} {S : Nat → Prop} {V : Nat → Value}
theorem DoOk.out (h : DoOk x w0 M L) : x.R ∉ L := fun hR => by
  rcases (h.disk.mine ((h.list _).2 hR)).2.2 _ _ h.blk with e | e <;> revert e <;> decide
/-- Bytes are not among those that are turned. -/
theorem DoOk.bytes (h : DoOk x w0 M L) {b : Nat} (hb : ByteBlk w0 x.base b) : b ∉ x.R :: L := fun hm => by
  rcases List.mem_cons.1 hm with rfl | hm
  · exact not_by h.blk (by decide) h.based hb
  · have hm := (h.list b).2 hm
    rcases hb with hb | ⟨cur, hb⟩
    · have := (h.disk.mine hm).1; omega
    · rcases (h.disk.mine hm).2.2 _ _ hb with e | e <;> revert e <;> decide
theorem DoOk.rows (h : DoOk x w0 M L) {b : Nat} {cur : Array Value} (hb : Blk w0 b 113 cur) : b ∉ x.R :: L := fun hm => by
  rcases List.mem_cons.1 hm with rfl | hm
  · have := blk_one hb h.blk
    revert this; decide
  · rcases (h.disk.mine ((h.list b).2 hm)).2.2 _ _ hb with e | e <;> revert e <;> decide
theorem DoOk.low (h : DoOk x w0 M L) {b : Nat} (hm : b ∈ x.R :: L) : x.base ≤ b := by
  rcases List.mem_cons.1 hm with rfl | hm
  · exact h.based
  · exact (h.disk.mine ((h.list b).2 hm)).1
theorem DoI.below (h : DoI x w0 M val S V w) (k : Below w.heap.size w w') : DoI x w0 M val S V w' :=
  ⟨h.1, fun e => (h.2.1 e).on k, fun e => by
    obtain ⟨M', h1, h2⟩ := h.2.2.1 e
    exact ⟨M', h1.on k, h2⟩, fun e => (h.2.2.2.1 e).on k, fun e => (h.2.2.2.2 e).on k⟩
theorem doI_zero (h : DoOk x w0 M L) : DoI x w0 M val (fun _ => False) V w0 := ⟨fun _ h => h.elim, fun _ => h.disk, fun h => h.elim, fun _ => h.blk, fun h => h.elim⟩
theorem DoI.lay {i : Nat} {v : Value} (h : DoI x w0 M val S V w) (hc : i ≠ x.c) (hs : i ≠ x.s) (hv : v = val i) (k : Below w.heap.size w w') : DoI x w0 M val (andOf S i) (upd V i v) w' := by
  have h := h.below k
  refine ⟨fun j hj h1 => ?_, fun e => h.2.1 fun e' => e (.inr e'), fun e => h.2.2.1 (e.resolve_left fun e => hc e.symm), fun e => h.2.2.2.1 fun e' => e (.inr e'), fun e => h.2.2.2.2 (e.resolve_left fun e => hs e.symm)⟩
  by_cases e : j = i
  · rw [e, upd_same, hv]
  · rw [upd_ne e]; exact h.1 j (hj.resolve_left e) h1
theorem DoI.call {v : Value} (H : DoOk x w0 M L) (hw : KeptD (x.R :: L) w0 w) (h : DoI x w0 M val S V w) (hn : ¬ S x.c) (hv : v = val x.c) (t : Turn w x.base M x.d x.S1 w') :
    KeptD (x.R :: L) w0 w' ∧ DoI x w0 M val (andOf S x.c) (upd V x.c v) w' := by
  have h0 := h.2.1 hn
  have hws : w0.heap.size ≤ w.heap.size := Kept.size hw
  obtain ⟨M', t1, t2, t3⟩ := id t
  refine ⟨Kept.trans hw (t3.mono fun b hb hm => hb (List.mem_cons_of_mem _ ((H.list b).1 hm))), fun j hj h1 => ?_, fun e => absurd (.inl rfl) e, fun _ => ⟨M', t1, fun b hb => (t2 b hb).imp id (Nat.le_trans hws)⟩, fun e => ?_, fun e => ?_⟩
  · by_cases e : j = x.c
    · rw [e, upd_same, hv]
    · rw [upd_ne e]; exact h.1 j (hj.resolve_left e) h1
  · exact t.blk h0 (h.2.2.2.1 fun e' => e (.inr e')) (by decide)
  · exact t.blk h0 (h.2.2.2.2 (e.resolve_left fun e => H.ne e.symm)) (by decide)
theorem DoI.store {v : Value} (H : DoOk x w0 M L) (hw : KeptD (x.R :: L) w0 w) (h : DoI x w0 M val S V w) (hn : ¬ S x.s) (k : Kept (fun c => c ≠ x.R) w w') (hb : Blk w' x.R 46 x.n) :
    KeptD (x.R :: L) w0 w' ∧ DoI x w0 M val (andOf S x.s) (upd V x.s v) w' := by
  have hB := h.2.2.2.1 hn
  have hby : ∀ b, ByteBlk w x.base b → b ≠ x.R := fun b hb e => by subst e; exact not_by hB (by decide) H.based hb
  refine ⟨keptD_set hw List.mem_cons_self k, fun j hj h1 => ?_, fun e => ?_, fun e => ?_, fun e => absurd (.inl rfl) e, fun _ => hb⟩
  · rw [upd_ne h1]; exact h.1 j (hj.resolve_left h1) h1
  · exact (h.2.1 fun e' => e (.inr e')).kept k (fun b hm e => H.out (e ▸ (H.list b).1 hm)) hby
  · obtain ⟨M', h1, h2⟩ := h.2.2.1 (e.resolve_left H.ne)
    refine ⟨M', h1.kept k (fun b hm e => ?_) hby, h2⟩
    subst e
    rcases h2 _ hm with h3 | h3
    · exact H.out ((H.list _).1 h3)
    · have := H.blk.lt; omega
theorem DoI.old (h : DoI x w0 M val S V w) (hn : ¬ S x.s) : Blk w x.R 46 x.o := h.2.2.2.1 hn
/-- What stays behind the region. -/
theorem DoOk.good (H : DoOk x w0 M L) (hw : KeptD (x.R :: L) w0 w) {s : SL} (hs : GoodS w0 x.base s) : GoodS w x.base s ∧ rdB w s = rdB w0 s := hs.kept hw fun _ hb => H.bytes hb
theorem DoOk.ref (H : DoOk x w0 M L) (hw : KeptD (x.R :: L) w0 w) {v : Value} {S' : DS} (h : RefIs w0 x.base v S') : RefIs w x.base v S' := by
  obtain ⟨a, b, sl, ll, e, h⟩ := h
  have hk : ∀ g cur, Blk w0 g 113 cur → Blk w g 113 cur := fun g cur hB => Kept.blk hw (H.rows hB) hB
  obtain ⟨g1, g2⟩ := h.ga.kept hw fun _ hb => H.bytes hb
  obtain ⟨g3, g4⟩ := h.gb.kept hw fun _ hb => H.bytes hb
  exact ⟨a, b, sl, ll, e, h.ra.kept hk, h.rb.kept hk, g1, g3, by rw [g2]; exact h.safe, by rw [g4]; exact h.l⟩
theorem DoOk.belo (H : DoOk x w0 M L) (hw : KeptD (x.R :: L) w0 w) (hb : x.base ≤ w0.heap.size) : Below x.base w0 w := Kept.below hw hb fun b hlt hm => by have := H.low hm; omega
end
theorem RefIs.on {w w' : World} {base : Nat} {v : Value} {S : DS} (h : RefIs w base v S) (hb : Below w.heap.size w w') : RefIs w' base v S := by
  obtain ⟨a, b, sl, ll, e, h⟩ := h
  exact ⟨a, b, sl, ll, e, h.on hb⟩
theorem spc5 {w : World} {g : Nat} {t : TypeId} {x y z p q : Value} {D : List Nat} (h : Blk w g t #[x, y, z, p, q]) (hg : g ∉ D) :
    (∀ f d os, (Go.Sort.grow (redrawn (spoil w D f) d) os).cell? ⟨g, 0, none⟩ = some x) ∧ (∀ f d os, (Go.Sort.grow (redrawn (spoil w D f) d) os).cell? ⟨g, 1, none⟩ = some y) ∧ (∀ f d os, (Go.Sort.grow (redrawn (spoil w D f) d) os).cell? ⟨g, 2, none⟩ = some z) ∧
    (∀ f d os, (Go.Sort.grow (redrawn (spoil w D f) d) os).cell? ⟨g, 3, none⟩ = some p) ∧ (∀ f d os, (Go.Sort.grow (redrawn (spoil w D f) d) os).cell? ⟨g, 4, none⟩ = some q) :=
  ⟨fun f d os => (h.sp hg f d os).c5.1.1, fun f d os => (h.sp hg f d os).c5.1.2.1, fun f d os => (h.sp hg f d os).c5.1.2.2.1, fun f d os => (h.sp hg f d os).c5.1.2.2.2.1, fun f d os => (h.sp hg f d os).c5.1.2.2.2.2⟩
end Go.Proofs.Ytkopenemoddbbaa
