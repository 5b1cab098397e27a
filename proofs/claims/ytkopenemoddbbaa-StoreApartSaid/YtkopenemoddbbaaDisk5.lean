/- A blob is asked for; all is made safe; it is told to fail; how many are under way, how many there are, how many there may be. -/
import Derived.Test.YtkopenemoddbbaaDisk4
namespace Go.Proofs.Ytkopenemoddbbaa
open Go.RowKit Go.Maps
attribute [local go_sem] Oper.semAt_some

theorem lookok_c {w : World} {m n : Nat} {l : List (Int × SL)} {k : Int} (h : w.ownsMap Try.prog 3 RS m n (DM l)) (hk : In64 k) :
    (Instr.lookup 87 (.map (some m)) (.int .i64 k) true).run Try.prog w = .ok (.tuple #[slV (atL l k), .bool (getL l k).isSome]) w := by
  obtain ⟨v, ps, hrun, hv⟩ := h.look_ok lawI Try.underlying87 (zeroB w) (RS_mk (none, 0, 0)) (key64 hk)
  obtain ⟨s, rfl, e⟩ := RS_inv hv
  rw [hrun, has_DM]
  have e1 : (DM l).atKey (.int .i64 k) (.held (none, 0, 0)) = .held s := congrArg Prod.fst e
  rw [atKey_DM] at e1
  unfold atL
  cases hg : getL l k with
  | none => rw [hg] at e1; simp only [DataW.held.injEq] at e1; rw [← e1]; rfl
  | some s' => rw [hg] at e1; simp only [DataW.held.injEq] at e1; rw [e1]; rfl
theorem lens_take (l : List (Int × SL)) (k : Nat) : lens (l.take k) ≤ lens l := by
  have : lens l = lens (l.take k) + lens (l.drop k) := by
    conv => lhs; rw [← List.take_append_drop k l]
    unfold lens
    rw [List.map_append, List.sum_append]
  omega
def DS.get (S : DS) (k : Int) : Option Bs := getL S.now k
set_option maxRecDepth 100000 in
set_option maxHeartbeats 4000000 in
theorem get_c (base d : Nat) (M : Nat → Prop) (S : DS) (N : Nat) (w : World) (h : DiskIs w base M d S) (hok : DOk S N 1000000) (hN : N ≤ 100000) (k : Int) (hk : In64 k) :
    Calls Try.prog 40 #[.pointer (some ⟨d, 0, none⟩), .int .i64 k] w fun r w' => ∃ s : SL, r = .returned (.tuple #[slV s, .bool (S.get k).isSome]) ∧ GoodS w' base s ∧ rdB w' s = (S.get k).getD [] ∧ Below w.heap.size w w' := by
  obtain ⟨bm, v, sv, lv, hD, hM⟩ := h
  obtain ⟨hr, hkl, hcnt, hg, hc, hrn, hlens⟩ := hD.facts hok
  have HNW := Lib.hid (now_c base d bm v S sv lv w hD hr hkl (by omega))
  have HG := Lib.hid (atL_good hg k)
  have hsz := hok.now.2.2.2
  have hga : rdB w (atL (nowL sv lv) k) = (S.get k).getD [] := by
    unfold atL DS.get
    rw [← hc, cont_get]
    cases getL (nowL sv lv) k with
    | none => exact rdB_zero _ _ _
    | some s => rfl
  have his : (getL (nowL sv lv) k).isSome = (S.get k).isSome := by
    unfold DS.get
    rw [← hc, cont_get]
    cases getL (nowL sv lv) k <;> rfl
  have hle : (atL (nowL sv lv) k).2.1 ≤ 140737488355328 := Nat.le_trans (at_le _ _) (Nat.le_trans hlens (Nat.le_trans (Nat.mul_le_mul_right 1000000 hN) (by decide)))
  have HA := Lib.hid (And.intro hga (And.intro his hle))
  clear hD hM hr hkl hcnt hg hc hrn hlens hsz hga his hle
  go_enter Try.func40, Try.ntmps40
  go_upto_region 1 with (fail)
  go_wp2_with (go_at_call 59; refine HNW.out.mono ?_; rintro e_ w2 ⟨rfl, hm, hB2⟩; have hlk := lookok_c hm hk; simp only [slV] at hlk)
  have hg2 := HG.out.1.on hB2
  have HCL := Lib.hid (clone_good hg2.1 HA.out.2.2)
  refine HCL.out.mono ?_
  rintro e_ w3 ⟨⟨q', n', c'⟩, rfl, -, hgs, hrd, hb⟩
  simp only [slV]
  go_wp2_with fail
  go_returns
  exact ⟨(q', n', c'), by rw [HA.out.2.1]; rfl, hgs, by rw [hrd, hg2.2, HA.out.1], after hB2 hb⟩
set_option maxRecDepth 100000 in
set_option maxHeartbeats 4000000 in
theorem sync_c (base d : Nat) (M : Nat → Prop) (S : DS) (N : Nat) (w : World) (h : DiskIs w base M d S) (hok : DOk S N 1000000) (hN : N ≤ 100000) (hbase : base ≤ w.heap.size) :
    Calls Try.prog 39 #[.pointer (some ⟨d, 0, none⟩)] w fun r w' => r = .returned (.int .i64 S.sync.2) ∧ Turn w base M d S.sync.1 w' := by
  obtain ⟨bm, v, sv, lv, hD, hM⟩ := h
  have HF := Lib.hid (failed_c base d bm v S sv lv w hD hok.waits hok.fails)
  have HM := Lib.hid hM
  have hok1 := hok.asked
  obtain ⟨e1, e2, e3⟩ := asked_same S
  have hnow : S.asked.1.now = S.now := by unfold DS.now; rw [e1, e2]
  have HB := Lib.hid hbase
  clear hM hD hbase
  cases ha : S.asked.2
  · have hput : S.sync = ({ S.asked.1 with safe := S.now, l := [] }, 0) := by unfold DS.sync; rw [ha]; rfl
    rw [hput]
    rw [ha] at HF
    go_enter Try.func39, Try.ntmps39
    go_upto_region 3 with (go_at_call 58; refine HF.out.mono ?_; rintro e_ w1 ⟨rfl, hD1, hk1⟩)
    obtain ⟨hr, hkl, hcnt, hg, hc, hrn, hlens⟩ := hD1.facts hok1
    have HNW := Lib.hid (now_c base d bm v S.asked.1 sv lv w1 hD1 hr hkl (by omega))
    rw [hnow] at hc
    have HG := Lib.hid (And.intro hg hc)
    have HK1 := Lib.hid hk1
    have hdl := hD1.blk.lt
    clear hg hc hlens hr hkl hcnt hrn hk1
    go_wp2_with (go_at_call 59; refine HNW.out.mono ?_; rintro e_ w2 ⟨rfl, hm, hB2⟩; have D2 := hD1.on hB2; have c3 : w2.cell? ⟨d, 3, none⟩ = some (.map (some bm)) := D2.blk.cell 3; have c4 : w2.cell? ⟨d, 4, none⟩ = some v := D2.blk.cell 4; have f3 := D2.blk.frz 3; have f4 := D2.blk.frz 4)
    go_returns
    have k2 : Kept (fun b => b ≠ d) w2 ((w2.setCell ⟨d, 3, none⟩ (.map (some w1.heap.size))).setCell ⟨d, 4, none⟩ (.slice none 0 0)) := ((Kept.refl _ _).setCell (by simp) _).setCell (by simp) _
    obtain ⟨g1, g2⟩ := HG.out.1.on hB2
    have hbyte : ∀ b, ByteBlk w2 base b → b ≠ d := fun b hb e => D2.byte hb (.inl e)
    obtain ⟨g3, g4⟩ := g1.kept k2 hbyte
    have hw1 : base ≤ w1.heap.size := Nat.le_trans HB.out HK1.out.size
    refine ⟨rfl, Mine d w1.heap.size (.slice none 0 0), ⟨w1.heap.size, .slice none 0 0, nowL sv lv, [], ⟨(D2.blk.set_ 3 _).set_ 4 _, map_kept (map_tight hm) (k2.block _ hm.lt (by omega)), Owns.nil, D2.based, hw1, g3, fun p hp => (by cases hp), by rw [g4, g2, HG.out.2], rfl⟩, fun b => Iff.rfl⟩, fun b hb => ?_, ?_⟩
    · rcases hb with hb | hb | hb
      · exact .inl ((HM.out b).2 (.inl hb))
      · subst hb; exact .inr HK1.out.size
      · cases hb
    · refine (HK1.out.mono fun b hb e => hb ((HM.out b).2 (.inl e))).trans ?_
      refine ((Kept.of_below hB2).mono fun _ _ => trivial).trans ?_
      exact k2.mono fun b hb e => hb ((HM.out b).2 (.inl e))
  · have hput : S.sync = (S.asked.1, 9) := by unfold DS.sync; rw [ha]; rfl
    rw [hput]
    rw [ha] at HF
    go_enter Try.func39, Try.ntmps39
    go_wp2_with (go_at_call 58; refine HF.out.mono ?_; rintro e_ w1 ⟨rfl, hD1, hk1⟩)
    go_returns
    exact ⟨rfl, Mine d bm v, ⟨bm, v, sv, lv, hD1, fun b => Iff.rfl⟩, fun b hb => .inl ((HM.out b).2 hb), hk1.mono fun b hb e => hb ((HM.out b).2 (.inl e))⟩
set_option maxRecDepth 100000 in
set_option maxHeartbeats 2000000 in
theorem fail_c (base d : Nat) (M : Nat → Prop) (S : DS) (w : World) (h : DiskIs w base M d S) (n : Int) (hn : In64 n) :
    Calls Try.prog 34 #[.pointer (some ⟨d, 0, none⟩), .int .i64 n] w fun r w' => r = .returned (.tuple #[]) ∧ Turn w base M d (S.fail n) w' := by
  have hmx := @run_mx Try.prog
  obtain ⟨bm, v, sv, lv, hD, hM⟩ := h
  have d1 : w.cell? ⟨d, 1, none⟩ = some (.int .i64 S.fails) := hD.blk.cell 1
  have d2 : w.cell? ⟨d, 2, none⟩ = some (.int .i64 S.waits) := hD.blk.cell 2
  have f1 := hD.blk.frz 1
  have f2 := hD.blk.frz 2
  unfold In64 at hn
  have fin : ∀ w', Kept (fun b => b ≠ d) w w' → Blk w' d 90 #[.int .i64 S.room, .int .i64 (S.fail n).fails, .int .i64 (S.fail n).waits, .map (some bm), v] → Turn w base M d (S.fail n) w' := fun w' k hb => by
    have e1 : (S.fail n).safe = S.safe ∧ (S.fail n).l = S.l ∧ (S.fail n).room = S.room := by unfold DS.fail; split <;> exact ⟨rfl, rfl, rfl⟩
    exact ⟨M, ⟨bm, v, sv, lv, hD.restore k (by rw [e1.2.2]; exact hb) e1.1 e1.2.1, hM⟩, fun b hb => .inl hb, k.mono fun b hb e => hb ((hM b).2 (.inl e))⟩
  have HF := Lib.hid fin
  have HB := Lib.hid hD.blk
  clear fin hD hM
  by_cases h0 : n < 0
  · have e : (S.fail n).fails = min (-n) 1048576 ∧ (S.fail n).waits = 1 := by unfold DS.fail; rw [if_pos h0]; exact ⟨rfl, rfl⟩
    rw [e.1, e.2] at HF
    have hmn : -mxI n (-1048576) = min (-n) 1048576 := by unfold mxI; omega
    have hm1 : mxI n (-1048576) ≤ 0 ∧ -1048576 ≤ mxI n (-1048576) := by unfold mxI; omega
    have HE := Lib.hid hmn
    generalize hmq : mxI n (-1048576) = mq at hm1 HE
    clear hmn e
    go_enter Try.func34, Try.ntmps34
    go_wp2_with fail
    go_end0
    refine ⟨rfl, HF.out _ ((((Kept.refl _ _).setCell (by simp) _).setCell (by simp) _ |>.setCell (by simp) _).setCell (by simp) _) ?_⟩
    rw [← HE.out]
    exact (((HB.out.set_ 1 _).set_ 2 _).set_ 1 _).set_ 2 _
  · have e : (S.fail n).fails = n ∧ (S.fail n).waits = 0 := by unfold DS.fail; rw [if_neg h0]; exact ⟨rfl, rfl⟩
    rw [e.1, e.2] at HF
    clear e
    go_enter Try.func34, Try.ntmps34
    go_wp2_with fail
    go_end0
    exact ⟨rfl, HF.out _ (((Kept.refl _ _).setCell (by simp) _).setCell (by simp) _) ((HB.out.set_ 1 _).set_ 2 _)⟩
set_option maxRecDepth 100000 in
set_option maxHeartbeats 4000000 in
theorem left_c (base d : Nat) (M : Nat → Prop) (S : DS) (N : Nat) (w : World) (h : DiskIs w base M d S) (hok : DOk S N 1000000) (hN : N ≤ 100000) :
    Calls Try.prog 23 #[.pointer (some ⟨d, 0, none⟩)] w fun r w' => r = .returned (.int .i64 (lenB S.l)) ∧ Below w.heap.size w w' := by
  obtain ⟨bm, v, sv, lv, hD, hM⟩ := h
  have hl : lens lv = lenB S.l := by rw [lens_is hD.gl, ← hD.l]
  have hcnt : lv.length ≤ 100000 := by have := hok.many; rw [hD.l, cont_len] at this; omega
  have hle : lenB S.l ≤ 100000000000 := by
    refine Nat.le_trans (lenB_le (M := 1000000) fun p hp => hok.size p (List.mem_append.2 (.inr hp))) ?_
    rw [hD.l, cont_len]; omega
  obtain ⟨q, cap, rfl, hc1, hc2, hrd⟩ := row_form hD.row
  have d4 : w.cell? ⟨d, 4, none⟩ = some (.slice q lv.length cap) := hD.blk.cell 4
  have HR := Lib.hid hrd
  have HL := Lib.hid hl
  have HC := Lib.hid (And.intro hc1 hc2)
  rw [← hl] at hle
  clear hD hM hrd hc1 hc2 hl
  go_enter Try.func23, Try.ntmps23
  go_upto_region 3 with (fail)
  go_loopw [3, 11] (fun x i wr => ∃ k : Nat, k ≤ lv.length ∧ i = .int .i64 k ∧ x = .int .i64 (lens (lv.take k) : Int) ∧ Below w.heap.size w wr) (fun _ i _ => lv.length - (intOf i).toNat)
  case atStart => exact ⟨0, Nat.zero_le _, rfl, rfl, Below.refl _ _⟩
  case round =>
    obtain ⟨k, hk, rfl, rfl, hnx⟩ := hrel
    by_cases hlt : k < lv.length
    · obtain ⟨p, hp⟩ := lt_at hlt
      obtain ⟨g, rfl, r0, r1⟩ := HR.out k p hp
      have hgl := cell_lt r0
      replace hgl : g < w.heap.size := hgl
      replace r0 := (hnx.cell (p := ⟨g, k * 2, none⟩) hgl).trans r0
      replace r1 := (hnx.cell (p := ⟨g, k * 2 + 1, none⟩) hgl).trans r1
      have hst : lens (lv.take (k + 1)) = lens (lv.take k) + p.2.2.1 := by rw [take_at hp]; simp [lens]
      have hlen : lens (lv.take (k + 1)) ≤ lens lv := lens_take _ _
      obtain ⟨pk, pq, pn, pc⟩ := p
      simp only [slV] at r0 r1 hst
      have hk1 : (k : Int) < (lv.length : Int) := by omega
      have hk0 : (0 : Int) ≤ (k : Int) := by omega
      have hi1 : -9223372036854775808 ≤ (lens (lv.take k) : Int) + (pn : Int) := by omega
      have hi2 : (lens (lv.take k) : Int) + (pn : Int) ≤ 9223372036854775807 := by omega
      have HST := Lib.hid hst
      have HNX := Lib.hid hnx
      clear hp hst hlen hle hnx
      go_wp2_with fail
      exact ⟨⟨k + 1, hlt, by go_num, by rw [HST.out]; rfl, HNX.out.alloc HNX.out.size _⟩, next_less' hlt⟩
    · obtain rfl : k = lv.length := by omega
      rw [List.take_length]
      have hk1 : ¬ ((lv.length : Int) < (lv.length : Int)) := by omega
      go_wp2_with fail
      go_returns
      rw [HL.out]
      exact ⟨rfl, hnx⟩
end Go.Proofs.Ytkopenemoddbbaa
