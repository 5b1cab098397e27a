/- Texts that build one behind the other, laid together: Disk5 Disk6 Crc1 Crc2 Crc3 Plain Fix Crc4 Crc6 Crc7 DiskM StP. -/
import Derived.Test.YtkopenemoddbbaaMa3
import Derived.Test.YtkopenemoddbbaaMa2
import Derived.Test.YtkopenemoddbbaaMa1
import Derived.Test.YtkopenemoddbbaaChecked
import Derived.Deep.Cut
import Derived.Test.YtkopenemoddbbaaRows
import Derived.Lib.Mul64
import Derived.Lib.SlBytesConst
import Derived.Laws.BytesArg
/- A blob is asked for; all is made safe; it is told to fail; how many are under way, how many there are, how many there may be. -/
namespace Go.Proofs.Ytkopenemoddbbaa
open Go.RowKit Go.Maps
attribute [local go_sem] Oper.semAt_some

theorem lookok_c {w : World} {m n : Nat} {l : List (Int × SL)} {k : Int} (h : w.ownsMap Try.prog 3 RS m n (DM l)) (hk : In64 k) :
    (Instr.lookup 87 (.map (some m)) (.int .i64 k) true).run Try.prog w = .ok (.tuple #[slV (atL l k), .bool (getL l k).isSome]) w := by
  obtain ⟨v, ps, hrun, hv⟩ := h.look_ok lawI Try.underlying87 (zeroB w) (RS_mk (none, 0, 0)) (key64 hk)
  obtain ⟨s, rfl, e⟩ := RS_inv hv
  rw [hrun, has_DM]
  have e1 : (DM l).atKey (.int .i64 k) (.held (none, 0, 0)) = .held s := congrArg Prod.fst e
  rw [atKey_DM] at e1
  unfold atL
  cases hg : getL l k with
  | none => rw [hg] at e1; simp only [DataW.held.injEq] at e1; rw [← e1]; rfl
  | some s' => rw [hg] at e1; simp only [DataW.held.injEq] at e1; rw [e1]; rfl
theorem lens_take (l : List (Int × SL)) (k : Nat) : lens (l.take k) ≤ lens l := by
  have : lens l = lens (l.take k) + lens (l.drop k) := by
    conv => lhs; rw [← List.take_append_drop k l]
    unfold lens
    rw [List.map_append, List.sum_append]
  omega
def DS.get (S : DS) (k : Int) : Option Bs := getL S.now k
set_option maxRecDepth 100000 in
set_option maxHeartbeats 4000000 in
theorem get_c (base d : Nat) (M : Nat → Prop) (S : DS) (N : Nat) (w : World) (h : DiskIs w base M d S) (hok : DOk S N 1000000) (hN : N ≤ 100000) (k : Int) (hk : In64 k) :
    Calls Try.prog 40 #[.pointer (some ⟨d, 0, none⟩), .int .i64 k] w fun r w' => ∃ s : SL, r = .returned (.tuple #[slV s, .bool (S.get k).isSome]) ∧ GoodS w' base s ∧ rdB w' s = (S.get k).getD [] ∧ Below w.heap.size w w' := by
  obtain ⟨bm, v, sv, lv, hD, hM⟩ := h
  obtain ⟨hr, hkl, hcnt, hg, hc, hrn, hlens⟩ := hD.facts hok
  have HNW := Lib.hid (now_c base d bm v S sv lv w hD hr hkl (by omega))
  have HG := Lib.hid (atL_good hg k)
  have hsz := hok.now.2.2.2
  have hga : rdB w (atL (nowL sv lv) k) = (S.get k).getD [] := by
    unfold atL DS.get
    rw [← hc, cont_get]
    cases getL (nowL sv lv) k with
    | none => exact rdB_zero _ _ _
    | some s => rfl
  have his : (getL (nowL sv lv) k).isSome = (S.get k).isSome := by
    unfold DS.get
    rw [← hc, cont_get]
    cases getL (nowL sv lv) k <;> rfl
  have hle : (atL (nowL sv lv) k).2.1 ≤ 140737488355328 := Nat.le_trans (at_le _ _) (Nat.le_trans hlens (Nat.le_trans (Nat.mul_le_mul_right 1000000 hN) (by decide)))
  have HA := Lib.hid (And.intro hga (And.intro his hle))
  clear hD hM hr hkl hcnt hg hc hrn hlens hsz hga his hle
  go_enter Try.func40, Try.ntmps40
  go_upto_region 1 with (fail)
  go_wp2_with (go_at_call 59; refine HNW.out.mono ?_; rintro e_ w2 ⟨rfl, hm, hB2⟩; have hlk := lookok_c hm hk; simp only [slV] at hlk)
  have hg2 := HG.out.1.on hB2
  have HCL := Lib.hid (clone_good hg2.1 HA.out.2.2)
  refine HCL.out.mono ?_
  rintro e_ w3 ⟨⟨q', n', c'⟩, rfl, -, hgs, hrd, hb⟩
  simp only [slV]
  go_wp2_with fail
  go_returns
  exact ⟨(q', n', c'), by rw [HA.out.2.1]; rfl, hgs, by rw [hrd, hg2.2, HA.out.1], after hB2 hb⟩
set_option maxRecDepth 100000 in
set_option maxHeartbeats 4000000 in
theorem sync_c (base d : Nat) (M : Nat → Prop) (S : DS) (N : Nat) (w : World) (h : DiskIs w base M d S) (hok : DOk S N 1000000) (hN : N ≤ 100000) (hbase : base ≤ w.heap.size) :
    Calls Try.prog 39 #[.pointer (some ⟨d, 0, none⟩)] w fun r w' => r = .returned (.int .i64 S.sync.2) ∧ Turn w base M d S.sync.1 w' := by
  obtain ⟨bm, v, sv, lv, hD, hM⟩ := h
  have HF := Lib.hid (failed_c base d bm v S sv lv w hD hok.waits hok.fails)
  have HM := Lib.hid hM
  have hok1 := hok.asked
  obtain ⟨e1, e2, e3⟩ := asked_same S
  have hnow : S.asked.1.now = S.now := by unfold DS.now; rw [e1, e2]
  have HB := Lib.hid hbase
  clear hM hD hbase
  cases ha : S.asked.2
  · have hput : S.sync = ({ S.asked.1 with safe := S.now, l := [] }, 0) := by unfold DS.sync; rw [ha]; rfl
    rw [hput]
    rw [ha] at HF
    go_enter Try.func39, Try.ntmps39
    go_upto_region 3 with (go_at_call 58; refine HF.out.mono ?_; rintro e_ w1 ⟨rfl, hD1, hk1⟩)
    obtain ⟨hr, hkl, hcnt, hg, hc, hrn, hlens⟩ := hD1.facts hok1
    have HNW := Lib.hid (now_c base d bm v S.asked.1 sv lv w1 hD1 hr hkl (by omega))
    rw [hnow] at hc
    have HG := Lib.hid (And.intro hg hc)
    have HK1 := Lib.hid hk1
    have hdl := hD1.blk.lt
    clear hg hc hlens hr hkl hcnt hrn hk1
    go_wp2_with (go_at_call 59; refine HNW.out.mono ?_; rintro e_ w2 ⟨rfl, hm, hB2⟩; have D2 := hD1.on hB2; have c3 : w2.cell? ⟨d, 3, none⟩ = some (.map (some bm)) := D2.blk.cell 3; have c4 : w2.cell? ⟨d, 4, none⟩ = some v := D2.blk.cell 4; have f3 := D2.blk.frz 3; have f4 := D2.blk.frz 4)
    go_returns
    have k2 : Kept (fun b => b ≠ d) w2 ((w2.setCell ⟨d, 3, none⟩ (.map (some w1.heap.size))).setCell ⟨d, 4, none⟩ (.slice none 0 0)) := ((Kept.refl _ _).setCell (by simp) _).setCell (by simp) _
    obtain ⟨g1, g2⟩ := HG.out.1.on hB2
    have hbyte : ∀ b, ByteBlk w2 base b → b ≠ d := fun b hb e => D2.byte hb (.inl e)
    obtain ⟨g3, g4⟩ := g1.kept k2 hbyte
    have hw1 : base ≤ w1.heap.size := Nat.le_trans HB.out HK1.out.size
    refine ⟨rfl, Mine d w1.heap.size (.slice none 0 0), ⟨w1.heap.size, .slice none 0 0, nowL sv lv, [], ⟨(D2.blk.set_ 3 _).set_ 4 _, map_kept (map_tight hm) (k2.block _ hm.lt (by omega)), Owns.nil, D2.based, hw1, g3, fun p hp => (by cases hp), by rw [g4, g2, HG.out.2], rfl⟩, fun b => Iff.rfl⟩, fun b hb => ?_, ?_⟩
    · rcases hb with hb | hb | hb
      · exact .inl ((HM.out b).2 (.inl hb))
      · subst hb; exact .inr HK1.out.size
      · cases hb
    · refine (HK1.out.mono fun b hb e => hb ((HM.out b).2 (.inl e))).trans ?_
      refine ((Kept.of_below hB2).mono fun _ _ => trivial).trans ?_
      exact k2.mono fun b hb e => hb ((HM.out b).2 (.inl e))
  · have hput : S.sync = (S.asked.1, 9) := by unfold DS.sync; rw [ha]; rfl
    rw [hput]
    rw [ha] at HF
    go_enter Try.func39, Try.ntmps39
    go_wp2_with (go_at_call 58; refine HF.out.mono ?_; rintro e_ w1 ⟨rfl, hD1, hk1⟩)
    go_returns
    exact ⟨rfl, Mine d bm v, ⟨bm, v, sv, lv, hD1, fun b => Iff.rfl⟩, fun b hb => .inl ((HM.out b).2 hb), hk1.mono fun b hb e => hb ((HM.out b).2 (.inl e))⟩
set_option maxRecDepth 100000 in
set_option maxHeartbeats 2000000 in
theorem fail_c (base d : Nat) (M : Nat → Prop) (S : DS) (w : World) (h : DiskIs w base M d S) (n : Int) (hn : In64 n) :
    Calls Try.prog 34 #[.pointer (some ⟨d, 0, none⟩), .int .i64 n] w fun r w' => r = .returned (.tuple #[]) ∧ Turn w base M d (S.fail n) w' := by
  have hmx := @run_mx Try.prog
  obtain ⟨bm, v, sv, lv, hD, hM⟩ := h
  have d1 : w.cell? ⟨d, 1, none⟩ = some (.int .i64 S.fails) := hD.blk.cell 1
  have d2 : w.cell? ⟨d, 2, none⟩ = some (.int .i64 S.waits) := hD.blk.cell 2
  have f1 := hD.blk.frz 1
  have f2 := hD.blk.frz 2
  unfold In64 at hn
  have fin : ∀ w', Kept (fun b => b ≠ d) w w' → Blk w' d 90 #[.int .i64 S.room, .int .i64 (S.fail n).fails, .int .i64 (S.fail n).waits, .map (some bm), v] → Turn w base M d (S.fail n) w' := fun w' k hb => by
    have e1 : (S.fail n).safe = S.safe ∧ (S.fail n).l = S.l ∧ (S.fail n).room = S.room := by unfold DS.fail; split <;> exact ⟨rfl, rfl, rfl⟩
    exact ⟨M, ⟨bm, v, sv, lv, hD.restore k (by rw [e1.2.2]; exact hb) e1.1 e1.2.1, hM⟩, fun b hb => .inl hb, k.mono fun b hb e => hb ((hM b).2 (.inl e))⟩
  have HF := Lib.hid fin
  have HB := Lib.hid hD.blk
  clear fin hD hM
  by_cases h0 : n < 0
  · have e : (S.fail n).fails = min (-n) 1048576 ∧ (S.fail n).waits = 1 := by unfold DS.fail; rw [if_pos h0]; exact ⟨rfl, rfl⟩
    rw [e.1, e.2] at HF
    have hmn : -mxI n (-1048576) = min (-n) 1048576 := by unfold mxI; omega
    have hm1 : mxI n (-1048576) ≤ 0 ∧ -1048576 ≤ mxI n (-1048576) := by unfold mxI; omega
    have HE := Lib.hid hmn
    generalize hmq : mxI n (-1048576) = mq at hm1 HE
    clear hmn e
    go_enter Try.func34, Try.ntmps34
    go_wp2_with fail
    go_end0
    refine ⟨rfl, HF.out _ ((((Kept.refl _ _).setCell (by simp) _).setCell (by simp) _ |>.setCell (by simp) _).setCell (by simp) _) ?_⟩
    rw [← HE.out]
    exact (((HB.out.set_ 1 _).set_ 2 _).set_ 1 _).set_ 2 _
  · have e : (S.fail n).fails = n ∧ (S.fail n).waits = 0 := by unfold DS.fail; rw [if_neg h0]; exact ⟨rfl, rfl⟩
    rw [e.1, e.2] at HF
    clear e
    go_enter Try.func34, Try.ntmps34
    go_wp2_with fail
    go_end0
    exact ⟨rfl, HF.out _ (((Kept.refl _ _).setCell (by simp) _).setCell (by simp) _) ((HB.out.set_ 1 _).set_ 2 _)⟩
set_option maxRecDepth 100000 in
set_option maxHeartbeats 4000000 in
theorem left_c (base d : Nat) (M : Nat → Prop) (S : DS) (N : Nat) (w : World) (h : DiskIs w base M d S) (hok : DOk S N 1000000) (hN : N ≤ 100000) :
    Calls Try.prog 23 #[.pointer (some ⟨d, 0, none⟩)] w fun r w' => r = .returned (.int .i64 (lenB S.l)) ∧ Below w.heap.size w w' := by
  obtain ⟨bm, v, sv, lv, hD, hM⟩ := h
  have hl : lens lv = lenB S.l := by rw [lens_is hD.gl, ← hD.l]
  have hcnt : lv.length ≤ 100000 := by have := hok.many; rw [hD.l, cont_len] at this; omega
  have hle : lenB S.l ≤ 100000000000 := by
    refine Nat.le_trans (lenB_le (M := 1000000) fun p hp => hok.size p (List.mem_append.2 (.inr hp))) ?_
    rw [hD.l, cont_len]; omega
  obtain ⟨q, cap, rfl, hc1, hc2, hrd⟩ := row_form hD.row
  have d4 : w.cell? ⟨d, 4, none⟩ = some (.slice q lv.length cap) := hD.blk.cell 4
  have HR := Lib.hid hrd
  have HL := Lib.hid hl
  have HC := Lib.hid (And.intro hc1 hc2)
  rw [← hl] at hle
  clear hD hM hrd hc1 hc2 hl
  go_enter Try.func23, Try.ntmps23
  go_upto_region 3 with (fail)
  go_loopw [3, 11] (fun x i wr => ∃ k : Nat, k ≤ lv.length ∧ i = .int .i64 k ∧ x = .int .i64 (lens (lv.take k) : Int) ∧ Below w.heap.size w wr) (fun _ i _ => lv.length - (intOf i).toNat)
  case atStart => exact ⟨0, Nat.zero_le _, rfl, rfl, Below.refl _ _⟩
  case round =>
    obtain ⟨k, hk, rfl, rfl, hnx⟩ := hrel
    by_cases hlt : k < lv.length
    · obtain ⟨p, hp⟩ := lt_at hlt
      obtain ⟨g, rfl, r0, r1⟩ := HR.out k p hp
      have hgl := cell_lt r0
      replace hgl : g < w.heap.size := hgl
      replace r0 := (hnx.cell (p := ⟨g, k * 2, none⟩) hgl).trans r0
      replace r1 := (hnx.cell (p := ⟨g, k * 2 + 1, none⟩) hgl).trans r1
      have hst : lens (lv.take (k + 1)) = lens (lv.take k) + p.2.2.1 := by rw [take_at hp]; simp [lens]
      have hlen : lens (lv.take (k + 1)) ≤ lens lv := lens_take _ _
      obtain ⟨pk, pq, pn, pc⟩ := p
      simp only [slV] at r0 r1 hst
      have hk1 : (k : Int) < (lv.length : Int) := by omega
      have hk0 : (0 : Int) ≤ (k : Int) := by omega
      have hi1 : -9223372036854775808 ≤ (lens (lv.take k) : Int) + (pn : Int) := by omega
      have hi2 : (lens (lv.take k) : Int) + (pn : Int) ≤ 9223372036854775807 := by omega
      have HST := Lib.hid hst
      have HNX := Lib.hid hnx
      clear hp hst hlen hle hnx
      go_wp2_with fail
      exact ⟨⟨k + 1, hlt, by go_num, by rw [HST.out]; rfl, HNX.out.alloc HNX.out.size _⟩, next_less' hlt⟩
    · obtain rfl : k = lv.length := by omega
      rw [List.take_length]
      have hk1 : ¬ ((lv.length : Int) < (lv.length : Int)) := by omega
      go_wp2_with fail
      go_returns
      rw [HL.out]
      exact ⟨rfl, hnx⟩
end Go.Proofs.Ytkopenemoddbbaa

/- What is under way is lost, but the first bytes. -/
namespace Go.Proofs.Ytkopenemoddbbaa
open Go.RowKit Go.Maps
attribute [local go_sem] Oper.semAt_some

def crashR : List (Int × SL) → List (Int × SL) → Nat → List (Int × SL)
  | s, [], _ => s
  | s, w :: r, k => if w.2.2.1 ≤ k then crashR (putL s w) r (k - w.2.2.1) else putL s (w.1, (w.2.1, k, w.2.2.2))
theorem crashR_good {w : World} {base : Nat} : ∀ {l s : List (Int × SL)} {k : Nat}, GoodL w base s → GoodL w base l → GoodL w base (crashR s l k) ∧ cont w (crashR s l k) = crashL (cont w s) (cont w l) k
  | [], s, k, hs, _ => ⟨hs, rfl⟩
  | p :: r, s, k, hs, hl => by
    obtain ⟨pk, pq, pn, pc⟩ := p
    have hp := hl _ List.mem_cons_self
    have hlen := hp.len
    dsimp only at hp hlen
    have hr : GoodL w base r := fun p hp => hl p (List.mem_cons_of_mem _ hp)
    unfold crashR
    have e : cont w ((pk, pq, pn, pc) :: r) = (pk, rdB w (pq, pn, pc)) :: cont w r := rfl
    rw [e]
    unfold crashL
    dsimp only
    rw [hlen]
    split
    · rename_i h
      obtain ⟨h1, h2⟩ := crashR_good (l := r) (s := putL s (pk, pq, pn, pc)) (k := k - pn) (hs.put hp) hr
      exact ⟨h1, by rw [h2, cont_put]⟩
    · rename_i h
      obtain ⟨h1, h2⟩ := hp.cut (k := k) (by dsimp only; omega)
      exact ⟨hs.put h1, by rw [cont_put, h2]⟩
theorem keep_is (S : DS) (n : Int) : mnI (mxI n 0) (lenB S.l : Int) = (keepB S n : Int) := by
  unfold mnI mxI keepB
  omega
set_option maxRecDepth 100000 in
set_option maxHeartbeats 8000000 in
theorem crash_c (base d : Nat) (M : Nat → Prop) (S : DS) (N : Nat) (w : World) (h : DiskIs w base M d S) (hok : DOk S N 1000000) (hN : N ≤ 100000) (n : Int) :
    Calls Try.prog 44 #[.pointer (some ⟨d, 0, none⟩), .int .i64 n] w fun r w' => r = .returned (.int .i64 (S.crash n).2) ∧ Turn w base M d (S.crash n).1 w' := by
  have hmn := @run_mn Try.prog
  have hmx := @run_mx Try.prog
  have HLF := Lib.hid fun W hW => left_c base d M S N W (h.on hW) hok hN
  obtain ⟨bm, v, sv, lv, hD, hM⟩ := h
  have hki := keep_is S n
  have hkl : keepB S n ≤ lenB S.l := Nat.min_le_right _ _
  have hle : lenB S.l ≤ 100000000000 := by
    refine Nat.le_trans (lenB_le (M := 1000000) fun p hp => hok.size p (List.mem_append.2 (.inr hp))) ?_
    have := hok.many
    rw [hD.l, cont_len] at this ⊢; omega
  have he2 : (S.crash n).2 = (lenB S.l : Int) - (keepB S n : Int) := by unfold DS.crash; dsimp only; omega
  obtain ⟨hr, hkeys, hcnt, -, -, -, -⟩ := hD.facts hok
  obtain ⟨g1, g2⟩ := crashR_good (k := keepB S n) hD.gs hD.gl
  have HX : Hid (GoodL w base (crashR sv lv (keepB S n)) ∧ (S.crash n).1.safe = cont w (crashR sv lv (keepB S n))) := Lib.hid ⟨g1, by rw [g2, ← hD.safe, ← hD.l]; rfl⟩
  have hsz : ∀ p ∈ lv, p.2.2.1 ≤ 1000000 := fun p hp => by
    rw [← (hD.gl p hp).len]
    exact hok.size (p.1, rdB w p.2) (List.mem_append.2 (.inr (by rw [hD.l]; exact List.mem_map.2 ⟨p, hp, rfl⟩)))
  have hcap : ∀ p ∈ lv, p.2.2.1 ≤ p.2.2.2 ∧ p.2.2.2 ≤ maxLen := fun p hp => ⟨(hD.gl p hp).cap, (hD.gl p hp).most⟩
  rw [he2]
  obtain ⟨q, cap, rfl, hc1, hc2, hrd⟩ := row_form hD.row
  have d3 : w.cell? ⟨d, 3, none⟩ = some (.map (some bm)) := hD.blk.cell 3
  have d4 : w.cell? ⟨d, 4, none⟩ = some (.slice q lv.length cap) := hD.blk.cell 4
  have HD := Lib.hid hD
  have HM := Lib.hid hM
  have HR := Lib.hid hrd
  have HK := Lib.hid (And.intro hkeys (And.intro hsz hcap))
  have hmap := hD.map
  have hbd := hD.apart.2.2
  have hcz : lv.length ≤ 1000000 := by omega
  clear hD hM hrd hc1 hc2 hkeys hsz hcap g1 g2 he2
  generalize keepB S n = kp at *
  generalize lenB S.l = tot at *
  go_enter Try.func44, Try.ntmps44
  go_upto_region 2 with (go_at_call 23; refine (HLF.out _ (Below.refl _ _)).mono ?_; rintro e_ w1 ⟨rfl, h1⟩)
  go_upto_region 3 with (go_at_call 23; refine (HLF.out _ h1).mono ?_; rintro e_ w2 ⟨rfl, h2⟩)
  have h12 := after h1 h2
  have d3' : w2.cell? ⟨d, 3, none⟩ = some (.map (some bm)) := (h12.cell (p := ⟨d, 3, none⟩) HD.out.blk.lt).trans d3
  have d4' : w2.cell? ⟨d, 4, none⟩ = some (.slice q lv.length cap) := (h12.cell (p := ⟨d, 4, none⟩) HD.out.blk.lt).trans d4
  have hm2 := map_on hmap h12
  have HR2 : Hid (∀ i p, lv[i]? = some p → ∃ g, q = some ⟨g, 0, none⟩ ∧ w2.cell? ⟨g, i * 2, none⟩ = some (.int .i64 p.1) ∧ w2.cell? ⟨g, i * 2 + 1, none⟩ = some (slV p.2)) := Lib.hid fun i p hp => by
    obtain ⟨g, e, r0, r1⟩ := HR.out i p hp
    exact ⟨g, e, (h12.cell (p := ⟨g, i * 2, none⟩) (cell_lt r0)).trans r0, (h12.cell (p := ⟨g, i * 2 + 1, none⟩) (cell_lt r1)).trans r1⟩
  have HQN : Hid (∀ g, q = some ⟨g, 0, none⟩ → g ≠ bm) := Lib.hid fun g e => by
    have := HD.out.apart.2.1
    rw [e] at this
    intro h; exact this (by rw [h]; rfl)
  have H12 := Lib.hid h12
  have hbl := hm2.lt
  have FIN : Hid (∀ W l, Kept (fun b => b ≠ bm) w2 W → W.ownsMap Try.prog 3 RS bm l.length (DM l) → crashR sv lv kp = l → Turn w base M d (S.crash n).1 (((W.setCell ⟨d, 4, none⟩ (.slice none 0 0)).setCell ⟨d, 1, none⟩ (.int .i64 0)).setCell ⟨d, 2, none⟩ (.int .i64 0))) := Lib.hid fun W l hk hm hl => by
    subst hl
    have k1 : Kept (fun b => b ≠ d ∧ b ≠ bm) w W := ((Kept.of_below h12).mono fun _ _ => trivial).trans (hk.mono fun _ h => h.2)
    have k2 := ((k1.setCell (p := ⟨d, 4, none⟩) (by simp) (.slice none 0 0)).setCell (p := ⟨d, 1, none⟩) (by simp) (.int .i64 0)).setCell (p := ⟨d, 2, none⟩) (by simp) (.int .i64 0)
    have k3 : Kept (fun b => b ≠ d) W (((W.setCell ⟨d, 4, none⟩ (.slice none 0 0)).setCell ⟨d, 1, none⟩ (.int .i64 0)).setCell ⟨d, 2, none⟩ (.int .i64 0)) := (((Kept.refl _ _).setCell (by simp) _).setCell (by simp) _).setCell (by simp) _
    have hb : Blk W d 90 _ := hk.blk (Ne.symm hbd) (HD.out.blk.on h12)
    have hbyte : ∀ b, ByteBlk w base b → b ≠ d ∧ b ≠ bm := fun b hB => ⟨fun e => HD.out.byte hB (.inl e), fun e => HD.out.byte hB (.inr (.inl e))⟩
    obtain ⟨g3, g4⟩ := HX.out.1.kept k2 hbyte
    refine ⟨Mine d bm (.slice none 0 0), ⟨bm, _, _, [], ⟨((hb.set_ 4 _).set_ 1 _).set_ 2 _, map_kept hm (k3.block _ hm.lt hbd), Owns.nil, HD.out.based, HD.out.basem, g3, fun p hp => (by cases hp), by rw [g4]; exact HX.out.2, rfl⟩, fun b => Iff.rfl⟩, fun b hb => ?_, k2.mono fun b hb => ⟨fun e => hb ((HM.out b).2 (.inl e)), fun e => hb ((HM.out b).2 (.inr (.inl e)))⟩⟩
    rcases hb with hb | hb | hb
    · exact .inl ((HM.out b).2 (.inl hb))
    · exact .inl ((HM.out b).2 (.inr (.inl hb)))
    · cases hb
  have HB2 := Lib.hid (HD.out.blk.on h12)
  clear d3 d4 hmap h1 h2 h12 HR HLF hki
  go_upto_region 4 with (fail)
  go_loopw [1, 23] (fun x i wr => ∃ (k : Nat) (s : List (Int × SL)) (kk : Nat), k ≤ lv.length ∧ i = .int .i64 k ∧ x = .int .i64 kk ∧ kk ≤ kp ∧ Hid (Rise s) ∧ wr.ownsMap Try.prog 3 RS bm s.length (DM s) ∧ Hid (crashR sv lv kp = crashR s (lv.drop k) kk) ∧ s.length ≤ sv.length + k ∧ Hid (Kept (fun b => b ≠ bm) w2 wr)) (fun _ i _ => lv.length - (intOf i).toNat)
  case atStart => exact ⟨0, sv, kp, Nat.zero_le _, rfl, rfl, Nat.le_refl _, Lib.hid hr, hm2, Lib.hid rfl, Nat.le_refl _, Lib.hid (Kept.refl _ _)⟩
  case round =>
    obtain ⟨k, s, kk, hk, rfl, rfl, hkk, HRS, hms, HCR, hsl, HKP⟩ := hrel
    have c3 : wr.cell? ⟨d, 3, none⟩ = some (.map (some bm)) := by rw [World.cell?_of_block (a := ⟨d, 3, none⟩) (HKP.out.block d (cell_lt d3') (Ne.symm hbd))]; exact d3'
    have c4 : wr.cell? ⟨d, 4, none⟩ = some (.slice q lv.length cap) := by rw [World.cell?_of_block (a := ⟨d, 4, none⟩) (HKP.out.block d (cell_lt d4') (Ne.symm hbd))]; exact d4'
    by_cases hlt : k < lv.length
    · obtain ⟨p, hp⟩ := lt_at hlt
      obtain ⟨g, rfl, r0, r1⟩ := HR2.out k p hp
      have hgb := HQN.out g rfl
      have r0' : wr.cell? ⟨g, k * 2, none⟩ = some (.int .i64 p.1) := by rw [World.cell?_of_block (a := ⟨g, k * 2, none⟩) (HKP.out.block g (cell_lt r0) hgb)]; exact r0
      have r1' : wr.cell? ⟨g, k * 2 + 1, none⟩ = some (slV p.2) := by rw [World.cell?_of_block (a := ⟨g, k * 2 + 1, none⟩) (HKP.out.block g (cell_lt r1) hgb)]; exact r1
      have hdr : lv.drop k = p :: lv.drop (k + 1) := by
        rw [List.drop_eq_getElem_cons hlt]
        rw [List.getElem?_eq_getElem hlt] at hp
        rw [Option.some.inj hp]
      have hkey := key64 (HK.out.1 p (List.mem_of_getElem? hp))
      have hps := HK.out.2.1 p (List.mem_of_getElem? hp)
      have hpc := HK.out.2.2 p (List.mem_of_getElem? hp)
      obtain ⟨pk, pq, pn, pc⟩ := p
      simp only [slV] at r0' r1' hkey hps hpc
      rw [hdr] at HCR
      clear r0 r1 hp hdr hgb
      have hk1 : (k : Int) < (lv.length : Int) := by omega
      have hk0 : (0 : Int) ≤ (k : Int) := by omega
      have hpc1 := hpc.1
      clear hpc
      by_cases hfit : pn ≤ kk
      · have hmi : mnI (pn : Int) (kk : Int) = pn := by unfold mnI; omega
        have hcr : Hid (crashR sv lv kp = crashR (putL s (pk, pq, pn, pc)) (lv.drop (k + 1)) (kk - pn)) := Lib.hid (by rw [HCR.out]; show (if pn ≤ kk then _ else _) = _; rw [if_pos hfit])
        go_upto_region 7 with (fail)
        generalize hV : World.alloc wr _ = wa
        have X : Blk wa wr.heap.size 92 #[.int .i64 pk, .slice pq pn pc] := Blk.eqw hV (Blk.new' rfl)
        have ha : Below wr.heap.size wr wa := by rw [← hV]; exact (Below.refl _ _).alloc (Nat.le_refl _) _
        have hgx : wr.heap.size ≠ bm := by have := hms.lt; omega
        generalize wr.heap.size = gx at X hgx ⊢
        have q3 := fun d' os => cell_regrown (show wa.cell? ⟨d, 3, none⟩ = some (.map (some bm)) from (cell_below ha (p := ⟨d, 3, none⟩) (cell_lt c3)).trans c3) d' os
        have x0 := fun d' os => (X.re d' os).cell 0
        have x1 := fun d' os => (X.re d' os).cell 1
        have HMA := Lib.hid (map_on hms ha)
        clear hV c3 c4 r0' r1'
        refine wp_reg 10 (by kernel_rfl) (Nat.le_of_ble_eq_true (by kernel_rfl)) (by kernel_rfl) ?_
        simp only [List.take_succ_cons, List.take_zero, List.drop_succ_cons, List.drop_zero]
        repeat (refine wpRel_step (fun K hK => ?_); go_simp; first | (refine hK _ ?_; clear hK K) | (apply Exists.intro; refine ⟨fun _ => ?_, hK _ ?_⟩; (fail); clear hK K))
        refine wpRel_nil ?_
        intro W7 h7
        have hm7 := map_on HMA.out h7
        clear q3 x0 x1
        go_upto_region 8 with (at_mapUpdate; refine wpList_mapUpdate_own _ rfl _ _ _ 87 rfl 3 22 lawI Try.underlying87 _ bm s.length _ rfl hm7 (by unfold maxLen; omega) _ _ _ rfl rfl hkey _ [] (RS_mk (pq, pn, pc)) ?_; intro w8 hown8 hgr8)
        have k8 : Kept (fun b => b ≠ bm) W7 w8 := ⟨hgr8.os, hgr8.tape, hgr8.output, hgr8.size, fun b hb hK => hgr8.block b hb (fun e => hK (Option.some.inj e))⟩
        have X8 := k8.blk hgx (X.on h7)
        have x1 := X8.cell 1
        rw [put_DM HRS.out] at hown8
        have hown9 := map_tight hown8
        have HK8 := Lib.hid (((HKP.out.on ha).on h7).trans k8)
        clear hm7 hown8 hgr8 k8 HMA h7 ha hms HKP
        have hi1 : -9223372036854775808 ≤ (kk : Int) - (pn : Int) := by omega
        have hi2 : (kk : Int) - (pn : Int) ≤ 9223372036854775807 := by omega
        have hnn : ¬ (pn < pn) := by omega
        have hsub : (kk : Int) - (pn : Int) = ((kk - pn : Nat) : Int) := by omega
        have HSB := Lib.hid hsub
        clear hsub
        go_wp2_with fail
        exact ⟨⟨k + 1, _, kk - pn, hlt, by go_num, by rw [HSB.out], by omega, Lib.hid (rise_putL HRS.out), hown9, hcr, by have := len_putL (pk, (pq, pn, pc)) s; omega, HK8⟩, next_less' hlt⟩
      · have hmi : mnI (pn : Int) (kk : Int) = kk := by unfold mnI; omega
        have hcr : Hid (crashR sv lv kp = putL s (pk, (pq, kk, pc))) := Lib.hid (by rw [HCR.out]; show (if pn ≤ kk then _ else _) = _; rw [if_neg hfit])
        have hkc : kk ≤ pc := by omega
        have hkp : kk ≤ pn := by omega
        go_upto_region 7 with (fail)
        generalize hV : World.alloc wr _ = wa
        have X : Blk wa wr.heap.size 92 #[.int .i64 pk, .slice pq pn pc] := Blk.eqw hV (Blk.new' rfl)
        have ha : Below wr.heap.size wr wa := by rw [← hV]; exact (Below.refl _ _).alloc (Nat.le_refl _) _
        have hgx : wr.heap.size ≠ bm := by have := hms.lt; omega
        generalize wr.heap.size = gx at X hgx ⊢
        have q3 := fun d' os => cell_regrown (show wa.cell? ⟨d, 3, none⟩ = some (.map (some bm)) from (cell_below ha (p := ⟨d, 3, none⟩) (cell_lt c3)).trans c3) d' os
        have x0 := fun d' os => (X.re d' os).cell 0
        have x1 := fun d' os => (X.re d' os).cell 1
        have HMA := Lib.hid (map_on hms ha)
        clear hV c3 c4 r0' r1'
        refine wp_reg 10 (by kernel_rfl) (Nat.le_of_ble_eq_true (by kernel_rfl)) (by kernel_rfl) ?_
        simp only [List.take_succ_cons, List.take_zero, List.drop_succ_cons, List.drop_zero]
        repeat (refine wpRel_step (fun K hK => ?_); go_simp; first | (refine hK _ ?_; clear hK K) | (apply Exists.intro; refine ⟨fun _ => ?_, hK _ ?_⟩; (fail); clear hK K))
        refine wpRel_nil ?_
        intro W7 h7
        have hm7 := map_on HMA.out h7
        clear q3 x0 x1
        go_upto_region 8 with (at_mapUpdate; refine wpList_mapUpdate_own _ rfl _ _ _ 87 rfl 3 22 lawI Try.underlying87 _ bm s.length _ rfl hm7 (by unfold maxLen; omega) _ _ _ rfl rfl hkey _ [] (RS_mk (pq, kk, pc)) ?_; intro w8 hown8 hgr8)
        have k8 : Kept (fun b => b ≠ bm) W7 w8 := ⟨hgr8.os, hgr8.tape, hgr8.output, hgr8.size, fun b hb hK => hgr8.block b hb (fun e => hK (Option.some.inj e))⟩
        have X8 := k8.blk hgx (X.on h7)
        have x1 := X8.cell 1
        rw [put_DM HRS.out] at hown8
        have hown9 := map_tight hown8
        have HK8 := Lib.hid (((HKP.out.on ha).on h7).trans k8)
        clear hm7 hown8 hgr8 k8 HMA h7 ha hms HKP
        have hi1 : -9223372036854775808 ≤ (kk : Int) - (kk : Int) := by omega
        have hi2 : (kk : Int) - (kk : Int) ≤ 9223372036854775807 := by omega
        have hnn : kk < pn := by omega
        go_upto_region 11 with (fail)
        have hb8 : Blk w8 d 90 _ := HK8.out.blk (Ne.symm hbd) HB2.out
        have y1 : w8.cell? ⟨d, 1, none⟩ = some (.int .i64 S.fails) := hb8.cell 1
        have y2 : w8.cell? ⟨d, 2, none⟩ = some (.int .i64 S.waits) := hb8.cell 2
        have y4 : w8.cell? ⟨d, 4, none⟩ = some (.slice (some ⟨g, 0, none⟩) lv.length cap) := hb8.cell 4
        have z1 := hb8.frz 1
        have z2 := hb8.frz 2
        have z4 := hb8.frz 4
        have HF := Lib.hid (FIN.out w8 _ HK8.out hown9 hcr.out)
        clear hown9 x1 X8 hb8
        go_wp2_with fail
        go_returns
        exact ⟨rfl, HF.out⟩
    · obtain rfl : k = lv.length := by omega
      have hkn : ¬ ((lv.length : Int) < (lv.length : Int)) := by omega
      have hb8 : Blk wr d 90 _ := HKP.out.blk (Ne.symm hbd) HB2.out
      have y1 : wr.cell? ⟨d, 1, none⟩ = some (.int .i64 S.fails) := hb8.cell 1
      have y2 : wr.cell? ⟨d, 2, none⟩ = some (.int .i64 S.waits) := hb8.cell 2
      have z1 := hb8.frz 1
      have z2 := hb8.frz 2
      have z4 := hb8.frz 4
      have HF := Lib.hid (FIN.out wr s HKP.out hms (by rw [HCR.out, List.drop_length]; rfl))
      clear hms hb8 c3
      go_wp2_with fail
      go_returns
      exact ⟨rfl, HF.out⟩
end Go.Proofs.Ytkopenemoddbbaa

/- The check of bytes: the walks. -/
namespace Go.Proofs.Ytkopenemoddbbaa
open Go.RowKit

theorem shl16 (c : B16) (k m : Nat) (hm : 2 ^ k = m) : IntKind.u16.wrap (n16 c * (m : Int)) = n16 (c <<< k) := by
  rw [IntKind.wrap_u16]
  unfold n16
  rw [BitVec.toNat_shiftLeft, Nat.shiftLeft_eq, hm]
  omega
theorem shr16 (c : B16) (k m : Nat) (hm : 2 ^ k = m) : n16 c / (m : Int) = n16 (c >>> k) := by
  unfold n16
  rw [BitVec.toNat_ushiftRight, Nat.shiftRight_eq_div_pow, hm]
  omega
theorem xor16 (a b : B16) : bits .xor .u16 (n16 a) (n16 b) = n16 (a ^^^ b) := by
  unfold n16
  rw [u16_xor_nat _ _ (by have := a.isLt; omega) (by have := b.isLt; omega), BitVec.toNat_xor]
theorem and16 (a b : B16) : bits .and .u16 (n16 a) (n16 b) = n16 (a &&& b) := by
  unfold n16
  rw [u16_and_nat _ _ (by have := a.isLt; omega) (by have := b.isLt; omega), BitVec.toNat_and]
theorem poly16 : (4129 : Int) = n16 0x1021#16 := by decide
theorem top16 (c : B16) : (bits .and .u16 (n16 c) 32768 != 0) = c.msb := by
  rw [show (32768 : Int) = n16 (BitVec.twoPow 16 15) by decide, and16, show (0 : Int) = n16 0#16 by decide, BitVec.and_twoPow, BitVec.msb_eq_getLsbD_last]
  cases c.getLsbD 15 <;> decide
theorem nib8h (x : B8) : IntKind.u16.wrap (n8 x / 16) = n16 (x.setWidth 16 >>> 4) := by
  rw [IntKind.wrap_u16]
  unfold n16 n8
  rw [BitVec.toNat_ushiftRight, Nat.shiftRight_eq_div_pow, BitVec.toNat_setWidth]
  have := x.isLt
  omega
theorem nib8l (x : B8) : IntKind.u16.wrap (bits .and .u8 (n8 x) 15) = n16 (x.setWidth 16 &&& 15#16) := by
  rw [IntKind.wrap_u16]
  unfold n16 n8
  rw [show (15 : Int) = ((15 : Nat) : Int) from rfl, u8_and_nat _ _ (by have := x.isLt; omega) (by omega), BitVec.toNat_and, BitVec.toNat_setWidth]
  have h1 := x.isLt
  have h2 : x.toNat &&& 15 ≤ 15 := Nat.and_le_right
  rw [show x.toNat % 2 ^ 16 = x.toNat by omega, show (15#16).toNat = 15 by decide]
  omega
theorem step_c (c : B16) (w : World) : Calls Try.prog 81 #[.int .u16 (n16 c)] w fun r w' => r = .returned (.int .u16 (n16 (st c))) ∧ w = w' := by
  have ht := top16 c
  have hl : IntKind.u16.wrap (n16 c * 2) = n16 (c <<< 1) := shl16 c 1 2 rfl
  have hx : bits .xor .u16 (n16 (c <<< 1)) 4129 = n16 (c <<< 1 ^^^ 0x1021#16) := by rw [poly16, xor16]
  cases hm : c.msb with
  | true =>
    rw [hm] at ht
    go_enter Try.func81, Try.ntmps81
    go_wp2_with fail
    go_returns
    exact ⟨ret_i (by unfold st; rw [hm]; rfl), rfl⟩
  | false =>
    rw [hm] at ht
    go_enter Try.func81, Try.ntmps81
    go_wp2_with fail
    go_returns
    exact ⟨ret_i (by unfold st; rw [hm]; simp), rfl⟩
/-- The table, so many of its numbers filled. -/
def tc (k i : Nat) : Value := if i < k then .int .u16 (n16 (tb (BitVec.ofNat 16 i))) else .int .u16 0
def tabA (k : Nat) : Array Value := #[tc k 0, tc k 1, tc k 2, tc k 3, tc k 4, tc k 5, tc k 6, tc k 7, tc k 8, tc k 9, tc k 10, tc k 11, tc k 12, tc k 13, tc k 14, tc k 15]
theorem tabA_0 : tabA 0 = #[.int .u16 0, .int .u16 0, .int .u16 0, .int .u16 0, .int .u16 0, .int .u16 0, .int .u16 0, .int .u16 0, .int .u16 0, .int .u16 0, .int .u16 0, .int .u16 0, .int .u16 0, .int .u16 0, .int .u16 0, .int .u16 0] := rfl
theorem tabA_next : ∀ k, k < 16 → (tabA k).setIfInBounds k (.int .u16 (n16 (tb (BitVec.ofNat 16 k)))) = tabA (k + 1)
  | 0, _ => rfl
  | 1, _ => rfl
  | 2, _ => rfl
  | 3, _ => rfl
  | 4, _ => rfl
  | 5, _ => rfl
  | 6, _ => rfl
  | 7, _ => rfl
  | 8, _ => rfl
  | 9, _ => rfl
  | 10, _ => rfl
  | 11, _ => rfl
  | 12, _ => rfl
  | 13, _ => rfl
  | 14, _ => rfl
  | 15, _ => rfl
  | k + 16, h => by omega
theorem tabA_at (k : Nat) : k < 16 → (tabA 16)[k]? = some (.int .u16 (n16 (tb (BitVec.ofNat 16 k)))) := by
  intro h
  match k, h with
  | 0, _ => rfl
  | 1, _ => rfl
  | 2, _ => rfl
  | 3, _ => rfl
  | 4, _ => rfl
  | 5, _ => rfl
  | 6, _ => rfl
  | 7, _ => rfl
  | 8, _ => rfl
  | 9, _ => rfl
  | 10, _ => rfl
  | 11, _ => rfl
  | 12, _ => rfl
  | 13, _ => rfl
  | 14, _ => rfl
  | 15, _ => rfl
  | k + 16, h => omega
theorem tabA_cell (k : Nat) : k < 16 → (tabA k)[k]? = some (tc k k) := by
  intro h
  match k, h with
  | 0, _ => rfl
  | 1, _ => rfl
  | 2, _ => rfl
  | 3, _ => rfl
  | 4, _ => rfl
  | 5, _ => rfl
  | 6, _ => rfl
  | 7, _ => rfl
  | 8, _ => rfl
  | 9, _ => rfl
  | 10, _ => rfl
  | 11, _ => rfl
  | 12, _ => rfl
  | 13, _ => rfl
  | 14, _ => rfl
  | 15, _ => rfl
  | k + 16, h => omega
/-- A row of 16. -/
theorem Blk.cells16 {w : World} {g : Nat} {t : TypeId} {c0 c1 c2 c3 c4 c5 c6 c7 c8 c9 c10 c11 c12 c13 c14 c15 : Value} (h : Blk w g t #[c0, c1, c2, c3, c4, c5, c6, c7, c8, c9, c10, c11, c12, c13, c14, c15]) : w.cell? ⟨g, 0, none⟩ = some c0 ∧ w.cell? ⟨g, 1, none⟩ = some c1 ∧ w.cell? ⟨g, 2, none⟩ = some c2 ∧ w.cell? ⟨g, 3, none⟩ = some c3 ∧ w.cell? ⟨g, 4, none⟩ = some c4 ∧ w.cell? ⟨g, 5, none⟩ = some c5 ∧ w.cell? ⟨g, 6, none⟩ = some c6 ∧ w.cell? ⟨g, 7, none⟩ = some c7 ∧ w.cell? ⟨g, 8, none⟩ = some c8 ∧ w.cell? ⟨g, 9, none⟩ = some c9 ∧ w.cell? ⟨g, 10, none⟩ = some c10 ∧ w.cell? ⟨g, 11, none⟩ = some c11 ∧ w.cell? ⟨g, 12, none⟩ = some c12 ∧ w.cell? ⟨g, 13, none⟩ = some c13 ∧ w.cell? ⟨g, 14, none⟩ = some c14 ∧ w.cell? ⟨g, 15, none⟩ = some c15 :=
  ⟨h.cell 0, h.cell 1, h.cell 2, h.cell 3, h.cell 4, h.cell 5, h.cell 6, h.cell 7, h.cell 8, h.cell 9, h.cell 10, h.cell 11, h.cell 12, h.cell 13, h.cell 14, h.cell 15⟩
theorem Blk.frz16 {w : World} {g : Nat} {t : TypeId} {cs : Array Value} (h : Blk w g t cs) : w.frozen? ⟨g, 0, none⟩ = false ∧ w.frozen? ⟨g, 1, none⟩ = false ∧ w.frozen? ⟨g, 2, none⟩ = false ∧ w.frozen? ⟨g, 3, none⟩ = false ∧ w.frozen? ⟨g, 4, none⟩ = false ∧ w.frozen? ⟨g, 5, none⟩ = false ∧ w.frozen? ⟨g, 6, none⟩ = false ∧ w.frozen? ⟨g, 7, none⟩ = false ∧ w.frozen? ⟨g, 8, none⟩ = false ∧ w.frozen? ⟨g, 9, none⟩ = false ∧ w.frozen? ⟨g, 10, none⟩ = false ∧ w.frozen? ⟨g, 11, none⟩ = false ∧ w.frozen? ⟨g, 12, none⟩ = false ∧ w.frozen? ⟨g, 13, none⟩ = false ∧ w.frozen? ⟨g, 14, none⟩ = false ∧ w.frozen? ⟨g, 15, none⟩ = false :=
  ⟨h.frz 0, h.frz 1, h.frz 2, h.frz 3, h.frz 4, h.frz 5, h.frz 6, h.frz 7, h.frz 8, h.frz 9, h.frz 10, h.frz 11, h.frz 12, h.frz 13, h.frz 14, h.frz 15⟩
theorem Blk.st16 {w : World} {g : Nat} {t : TypeId} {c0 c1 c2 c3 c4 c5 c6 c7 c8 c9 c10 c11 c12 c13 c14 c15 : Value} (d0 d1 d2 d3 d4 d5 d6 d7 d8 d9 d10 d11 d12 d13 d14 d15 : Value) (h : Blk w g t #[c0, c1, c2, c3, c4, c5, c6, c7, c8, c9, c10, c11, c12, c13, c14, c15]) : Blk ((((((((((((((((w.setCell ⟨g, 0, none⟩ d0).setCell ⟨g, 1, none⟩ d1).setCell ⟨g, 2, none⟩ d2).setCell ⟨g, 3, none⟩ d3).setCell ⟨g, 4, none⟩ d4).setCell ⟨g, 5, none⟩ d5).setCell ⟨g, 6, none⟩ d6).setCell ⟨g, 7, none⟩ d7).setCell ⟨g, 8, none⟩ d8).setCell ⟨g, 9, none⟩ d9).setCell ⟨g, 10, none⟩ d10).setCell ⟨g, 11, none⟩ d11).setCell ⟨g, 12, none⟩ d12).setCell ⟨g, 13, none⟩ d13).setCell ⟨g, 14, none⟩ d14).setCell ⟨g, 15, none⟩ d15) g t #[d0, d1, d2, d3, d4, d5, d6, d7, d8, d9, d10, d11, d12, d13, d14, d15] := by
  have h0 : Blk (w.setCell ⟨g, 0, none⟩ d0) g t #[d0, c1, c2, c3, c4, c5, c6, c7, c8, c9, c10, c11, c12, c13, c14, c15] := h.set_ 0 d0
  have h1 : Blk ((w.setCell ⟨g, 0, none⟩ d0).setCell ⟨g, 1, none⟩ d1) g t #[d0, d1, c2, c3, c4, c5, c6, c7, c8, c9, c10, c11, c12, c13, c14, c15] := h0.set_ 1 d1
  have h2 : Blk (((w.setCell ⟨g, 0, none⟩ d0).setCell ⟨g, 1, none⟩ d1).setCell ⟨g, 2, none⟩ d2) g t #[d0, d1, d2, c3, c4, c5, c6, c7, c8, c9, c10, c11, c12, c13, c14, c15] := h1.set_ 2 d2
  have h3 : Blk ((((w.setCell ⟨g, 0, none⟩ d0).setCell ⟨g, 1, none⟩ d1).setCell ⟨g, 2, none⟩ d2).setCell ⟨g, 3, none⟩ d3) g t #[d0, d1, d2, d3, c4, c5, c6, c7, c8, c9, c10, c11, c12, c13, c14, c15] := h2.set_ 3 d3
  have h4 : Blk (((((w.setCell ⟨g, 0, none⟩ d0).setCell ⟨g, 1, none⟩ d1).setCell ⟨g, 2, none⟩ d2).setCell ⟨g, 3, none⟩ d3).setCell ⟨g, 4, none⟩ d4) g t #[d0, d1, d2, d3, d4, c5, c6, c7, c8, c9, c10, c11, c12, c13, c14, c15] := h3.set_ 4 d4
  have h5 : Blk ((((((w.setCell ⟨g, 0, none⟩ d0).setCell ⟨g, 1, none⟩ d1).setCell ⟨g, 2, none⟩ d2).setCell ⟨g, 3, none⟩ d3).setCell ⟨g, 4, none⟩ d4).setCell ⟨g, 5, none⟩ d5) g t #[d0, d1, d2, d3, d4, d5, c6, c7, c8, c9, c10, c11, c12, c13, c14, c15] := h4.set_ 5 d5
  have h6 : Blk (((((((w.setCell ⟨g, 0, none⟩ d0).setCell ⟨g, 1, none⟩ d1).setCell ⟨g, 2, none⟩ d2).setCell ⟨g, 3, none⟩ d3).setCell ⟨g, 4, none⟩ d4).setCell ⟨g, 5, none⟩ d5).setCell ⟨g, 6, none⟩ d6) g t #[d0, d1, d2, d3, d4, d5, d6, c7, c8, c9, c10, c11, c12, c13, c14, c15] := h5.set_ 6 d6
  have h7 : Blk ((((((((w.setCell ⟨g, 0, none⟩ d0).setCell ⟨g, 1, none⟩ d1).setCell ⟨g, 2, none⟩ d2).setCell ⟨g, 3, none⟩ d3).setCell ⟨g, 4, none⟩ d4).setCell ⟨g, 5, none⟩ d5).setCell ⟨g, 6, none⟩ d6).setCell ⟨g, 7, none⟩ d7) g t #[d0, d1, d2, d3, d4, d5, d6, d7, c8, c9, c10, c11, c12, c13, c14, c15] := h6.set_ 7 d7
  have h8 : Blk (((((((((w.setCell ⟨g, 0, none⟩ d0).setCell ⟨g, 1, none⟩ d1).setCell ⟨g, 2, none⟩ d2).setCell ⟨g, 3, none⟩ d3).setCell ⟨g, 4, none⟩ d4).setCell ⟨g, 5, none⟩ d5).setCell ⟨g, 6, none⟩ d6).setCell ⟨g, 7, none⟩ d7).setCell ⟨g, 8, none⟩ d8) g t #[d0, d1, d2, d3, d4, d5, d6, d7, d8, c9, c10, c11, c12, c13, c14, c15] := h7.set_ 8 d8
  have h9 : Blk ((((((((((w.setCell ⟨g, 0, none⟩ d0).setCell ⟨g, 1, none⟩ d1).setCell ⟨g, 2, none⟩ d2).setCell ⟨g, 3, none⟩ d3).setCell ⟨g, 4, none⟩ d4).setCell ⟨g, 5, none⟩ d5).setCell ⟨g, 6, none⟩ d6).setCell ⟨g, 7, none⟩ d7).setCell ⟨g, 8, none⟩ d8).setCell ⟨g, 9, none⟩ d9) g t #[d0, d1, d2, d3, d4, d5, d6, d7, d8, d9, c10, c11, c12, c13, c14, c15] := h8.set_ 9 d9
  have h10 : Blk (((((((((((w.setCell ⟨g, 0, none⟩ d0).setCell ⟨g, 1, none⟩ d1).setCell ⟨g, 2, none⟩ d2).setCell ⟨g, 3, none⟩ d3).setCell ⟨g, 4, none⟩ d4).setCell ⟨g, 5, none⟩ d5).setCell ⟨g, 6, none⟩ d6).setCell ⟨g, 7, none⟩ d7).setCell ⟨g, 8, none⟩ d8).setCell ⟨g, 9, none⟩ d9).setCell ⟨g, 10, none⟩ d10) g t #[d0, d1, d2, d3, d4, d5, d6, d7, d8, d9, d10, c11, c12, c13, c14, c15] := h9.set_ 10 d10
  have h11 : Blk ((((((((((((w.setCell ⟨g, 0, none⟩ d0).setCell ⟨g, 1, none⟩ d1).setCell ⟨g, 2, none⟩ d2).setCell ⟨g, 3, none⟩ d3).setCell ⟨g, 4, none⟩ d4).setCell ⟨g, 5, none⟩ d5).setCell ⟨g, 6, none⟩ d6).setCell ⟨g, 7, none⟩ d7).setCell ⟨g, 8, none⟩ d8).setCell ⟨g, 9, none⟩ d9).setCell ⟨g, 10, none⟩ d10).setCell ⟨g, 11, none⟩ d11) g t #[d0, d1, d2, d3, d4, d5, d6, d7, d8, d9, d10, d11, c12, c13, c14, c15] := h10.set_ 11 d11
  have h12 : Blk (((((((((((((w.setCell ⟨g, 0, none⟩ d0).setCell ⟨g, 1, none⟩ d1).setCell ⟨g, 2, none⟩ d2).setCell ⟨g, 3, none⟩ d3).setCell ⟨g, 4, none⟩ d4).setCell ⟨g, 5, none⟩ d5).setCell ⟨g, 6, none⟩ d6).setCell ⟨g, 7, none⟩ d7).setCell ⟨g, 8, none⟩ d8).setCell ⟨g, 9, none⟩ d9).setCell ⟨g, 10, none⟩ d10).setCell ⟨g, 11, none⟩ d11).setCell ⟨g, 12, none⟩ d12) g t #[d0, d1, d2, d3, d4, d5, d6, d7, d8, d9, d10, d11, d12, c13, c14, c15] := h11.set_ 12 d12
  have h13 : Blk ((((((((((((((w.setCell ⟨g, 0, none⟩ d0).setCell ⟨g, 1, none⟩ d1).setCell ⟨g, 2, none⟩ d2).setCell ⟨g, 3, none⟩ d3).setCell ⟨g, 4, none⟩ d4).setCell ⟨g, 5, none⟩ d5).setCell ⟨g, 6, none⟩ d6).setCell ⟨g, 7, none⟩ d7).setCell ⟨g, 8, none⟩ d8).setCell ⟨g, 9, none⟩ d9).setCell ⟨g, 10, none⟩ d10).setCell ⟨g, 11, none⟩ d11).setCell ⟨g, 12, none⟩ d12).setCell ⟨g, 13, none⟩ d13) g t #[d0, d1, d2, d3, d4, d5, d6, d7, d8, d9, d10, d11, d12, d13, c14, c15] := h12.set_ 13 d13
  have h14 : Blk (((((((((((((((w.setCell ⟨g, 0, none⟩ d0).setCell ⟨g, 1, none⟩ d1).setCell ⟨g, 2, none⟩ d2).setCell ⟨g, 3, none⟩ d3).setCell ⟨g, 4, none⟩ d4).setCell ⟨g, 5, none⟩ d5).setCell ⟨g, 6, none⟩ d6).setCell ⟨g, 7, none⟩ d7).setCell ⟨g, 8, none⟩ d8).setCell ⟨g, 9, none⟩ d9).setCell ⟨g, 10, none⟩ d10).setCell ⟨g, 11, none⟩ d11).setCell ⟨g, 12, none⟩ d12).setCell ⟨g, 13, none⟩ d13).setCell ⟨g, 14, none⟩ d14) g t #[d0, d1, d2, d3, d4, d5, d6, d7, d8, d9, d10, d11, d12, d13, d14, c15] := h13.set_ 14 d14
  have h15 : Blk ((((((((((((((((w.setCell ⟨g, 0, none⟩ d0).setCell ⟨g, 1, none⟩ d1).setCell ⟨g, 2, none⟩ d2).setCell ⟨g, 3, none⟩ d3).setCell ⟨g, 4, none⟩ d4).setCell ⟨g, 5, none⟩ d5).setCell ⟨g, 6, none⟩ d6).setCell ⟨g, 7, none⟩ d7).setCell ⟨g, 8, none⟩ d8).setCell ⟨g, 9, none⟩ d9).setCell ⟨g, 10, none⟩ d10).setCell ⟨g, 11, none⟩ d11).setCell ⟨g, 12, none⟩ d12).setCell ⟨g, 13, none⟩ d13).setCell ⟨g, 14, none⟩ d14).setCell ⟨g, 15, none⟩ d15) g t #[d0, d1, d2, d3, d4, d5, d6, d7, d8, d9, d10, d11, d12, d13, d14, d15] := h14.set_ 15 d15
  exact h15
set_option maxRecDepth 100000 in
set_option maxHeartbeats 4000000 in
theorem steps_c (w : World) : Calls Try.prog 76 #[] w fun r w' => r = .returned (.agg (tabA 16)) ∧ Below w.heap.size w w' := by
  go_enter Try.func76, Try.ntmps76
  go_upto_region 4 with (fail)
  obtain ⟨W1, hW⟩ : ∃ W1, W1 = (w.alloc (.cells (tabA 0) 126)).alloc (.cells (tabA 0) 126) := ⟨_, rfl⟩
  have R : Blk W1 w.heap.size 126 (tabA 0) := by rw [hW]; exact (Blk.new' rfl).alloc _
  have C : Blk W1 (w.heap.size + 1) 126 (tabA 0) := by rw [hW]; exact Blk.new' (by simp)
  have H : Below w.heap.size w W1 := by rw [hW]; go_grown
  rw [tabA_0] at hW
  rw [← hW]
  clear hW
  generalize hv : w.heap.size = nr at R C ⊢
  go_loopw [5] (fun i wr => ∃ k : Nat, k ≤ 16 ∧ i = .int .i64 k ∧ Blk wr nr 126 (tabA 0) ∧ Blk wr (nr + 1) 126 (tabA k) ∧ Below w.heap.size w wr) (fun i _ => 16 - (intOf i).toNat)
  case atStart => exact ⟨0, by omega, rfl, R, C, H⟩
  case round =>
    clear R C H
    obtain ⟨k, hk, rfl, R, C, H⟩ := hrel
    by_cases hlt : k < 16
    · go_upto_region 8 with (fail)
      have hs4 : ((k : Int) * (4096 : Int) : Int) = n16 (stN 0 (BitVec.ofNat 16 k <<< 12)) := by
        unfold n16 stN
        rw [BitVec.toNat_shiftLeft, Nat.shiftLeft_eq, BitVec.toNat_ofNat]
        omega
      have hd : decide ((k : Int) < 16) = true := by simp; omega
      rw [hs4, hd]
      clear hs4 hd
      go_loopw [4, 11] (fun c i wq => ∃ j : Nat, j ≤ 4 ∧ c = .int .u16 (n16 (stN j (BitVec.ofNat 16 k <<< 12))) ∧ i = .int .i64 j ∧ wq = wr) (fun _ i _ => 4 - (intOf i).toNat)
      case atStart => exact ⟨0, by omega, rfl, rfl, rfl⟩
      case round =>
        obtain ⟨j, hj, rfl, rfl, rfl⟩ := hrel
        by_cases hlj : j < 4
        · go_wp2_with fail
          refine (step_c _ _).mono ?_
          rintro e w1 ⟨rfl, rfl⟩
          rw [stN_succ]
          go_wp2_with fail
          go_roundw
          case rel => exact ⟨j + 1, by omega, rfl, by go_num, trivial⟩
          case measure => simp [intOf]; omega
        · obtain rfl : j = 4 := by omega
          have f := C.frz k
          have c0 : wr.cell? ⟨nr + 1, k, none⟩ = some (tc k k) := by rw [C.cell]; exact tabA_cell k hlt
          go_wp2_with fail
          rw [show stN 4 (BitVec.ofNat 16 k <<< 12) = tb (BitVec.ofNat 16 k) from rfl]
          refine ⟨⟨k + 1, hlt, by go_num, R.far (by simp) _, ?_, H.setCell (by simp; omega) _⟩, by simp [intOf]; omega⟩
          rw [← tabA_next k hlt]
          exact C.set_ k _
    · obtain rfl : k = 16 := by omega
      replace C : Blk wr (nr + 1) 126 #[.int .u16 (n16 (tb (BitVec.ofNat 16 0))), .int .u16 (n16 (tb (BitVec.ofNat 16 1))), .int .u16 (n16 (tb (BitVec.ofNat 16 2))), .int .u16 (n16 (tb (BitVec.ofNat 16 3))), .int .u16 (n16 (tb (BitVec.ofNat 16 4))), .int .u16 (n16 (tb (BitVec.ofNat 16 5))), .int .u16 (n16 (tb (BitVec.ofNat 16 6))), .int .u16 (n16 (tb (BitVec.ofNat 16 7))), .int .u16 (n16 (tb (BitVec.ofNat 16 8))), .int .u16 (n16 (tb (BitVec.ofNat 16 9))), .int .u16 (n16 (tb (BitVec.ofNat 16 10))), .int .u16 (n16 (tb (BitVec.ofNat 16 11))), .int .u16 (n16 (tb (BitVec.ofNat 16 12))), .int .u16 (n16 (tb (BitVec.ofNat 16 13))), .int .u16 (n16 (tb (BitVec.ofNat 16 14))), .int .u16 (n16 (tb (BitVec.ofNat 16 15)))] := C
      have h16 := C.cells16
      obtain ⟨k0, k1, k2, k3, k4, k5, k6, k7, k8, k9, k10, k11, k12, k13, k14, k15⟩ := h16
      replace R : Blk wr nr 126 #[.int .u16 0, .int .u16 0, .int .u16 0, .int .u16 0, .int .u16 0, .int .u16 0, .int .u16 0, .int .u16 0, .int .u16 0, .int .u16 0, .int .u16 0, .int .u16 0, .int .u16 0, .int .u16 0, .int .u16 0, .int .u16 0] := R
      have h16 := R.cells16
      obtain ⟨r0, r1, r2, r3, r4, r5, r6, r7, r8, r9, r10, r11, r12, r13, r14, r15⟩ := h16
      have h16 := R.frz16
      obtain ⟨f0, f1, f2, f3, f4, f5, f6, f7, f8, f9, f10, f11, f12, f13, f14, f15⟩ := h16
      go_wp2_with fail
      have R2 := R.st16 (.int .u16 (n16 (tb (BitVec.ofNat 16 0)))) (.int .u16 (n16 (tb (BitVec.ofNat 16 1)))) (.int .u16 (n16 (tb (BitVec.ofNat 16 2)))) (.int .u16 (n16 (tb (BitVec.ofNat 16 3)))) (.int .u16 (n16 (tb (BitVec.ofNat 16 4)))) (.int .u16 (n16 (tb (BitVec.ofNat 16 5)))) (.int .u16 (n16 (tb (BitVec.ofNat 16 6)))) (.int .u16 (n16 (tb (BitVec.ofNat 16 7)))) (.int .u16 (n16 (tb (BitVec.ofNat 16 8)))) (.int .u16 (n16 (tb (BitVec.ofNat 16 9)))) (.int .u16 (n16 (tb (BitVec.ofNat 16 10)))) (.int .u16 (n16 (tb (BitVec.ofNat 16 11)))) (.int .u16 (n16 (tb (BitVec.ofNat 16 12)))) (.int .u16 (n16 (tb (BitVec.ofNat 16 13)))) (.int .u16 (n16 (tb (BitVec.ofNat 16 14)))) (.int .u16 (n16 (tb (BitVec.ofNat 16 15))))
      have h16 := R2.cells16
      obtain ⟨d0, d1, d2, d3, d4, d5, d6, d7, d8, d9, d10, d11, d12, d13, d14, d15⟩ := h16
      exact bodyPost_ret (v := .agg #[.int .u16 (n16 (tb (BitVec.ofNat 16 0))), .int .u16 (n16 (tb (BitVec.ofNat 16 1))), .int .u16 (n16 (tb (BitVec.ofNat 16 2))), .int .u16 (n16 (tb (BitVec.ofNat 16 3))), .int .u16 (n16 (tb (BitVec.ofNat 16 4))), .int .u16 (n16 (tb (BitVec.ofNat 16 5))), .int .u16 (n16 (tb (BitVec.ofNat 16 6))), .int .u16 (n16 (tb (BitVec.ofNat 16 7))), .int .u16 (n16 (tb (BitVec.ofNat 16 8))), .int .u16 (n16 (tb (BitVec.ofNat 16 9))), .int .u16 (n16 (tb (BitVec.ofNat 16 10))), .int .u16 (n16 (tb (BitVec.ofNat 16 11))), .int .u16 (n16 (tb (BitVec.ofNat 16 12))), .int .u16 (n16 (tb (BitVec.ofNat 16 13))), .int .u16 (n16 (tb (BitVec.ofNat 16 14))), .int .u16 (n16 (tb (BitVec.ofNat 16 15)))]) (by simp [results, Try.results76, go_sem, d0, d1, d2, d3, d4, d5, d6, d7, d8, d9, d10, d11, d12, d13, d14, d15]) rfl ⟨rfl, by (repeat' (first | (with_reducible exact Below.refl _ _) | (with_reducible assumption) | (with_reducible refine Below.alloc ?_ ?_ _) | (with_reducible refine Below.drew ?_) | (with_reducible refine Below.setCell ?_ ?_ _) | (with_reducible refine after ?_ (below_regrown _ _ _)) | (refine after ?_ (by with_reducible assumption)) | go_size))⟩
end Go.Proofs.Ytkopenemoddbbaa

/- The check of bytes: the walks over the bytes. -/
namespace Go.Proofs.Ytkopenemoddbbaa
open Go.RowKit

theorem nib_lt (c y : B16) (hy : n16 y < 16) : 0 ≤ n16 ((c >>> 12) ^^^ y) ∧ n16 ((c >>> 12) ^^^ y) < 16 ∧ ((c >>> 12) ^^^ y).toNat < 16 := by
  have h1 : ((c >>> 12) ^^^ y).toNat < 2 ^ 4 := by
    rw [BitVec.toNat_xor]
    refine Nat.xor_lt_two_pow ?_ ?_
    · rw [BitVec.toNat_ushiftRight, Nat.shiftRight_eq_div_pow]
      have := c.isLt
      omega
    · unfold n16 at hy; omega
  unfold n16
  omega
theorem nibh_lt (x : B8) : n16 (x.setWidth 16 >>> 4) < 16 := by
  rw [← nib8h, IntKind.wrap_u16]
  have := n8_lt x
  omega
theorem nibl_lt (x : B8) : n16 (x.setWidth 16 &&& 15#16) < 16 := by
  unfold n16
  rw [BitVec.toNat_and, show (15#16).toNat = 15 by decide]
  have : (x.setWidth 16).toNat &&& 15 ≤ 15 := Nat.and_le_right
  omega
theorem tab_cell {w : World} {g : Nat} {t : TypeId} (h : Blk w g t (tabA 16)) (i : B16) (hi : i.toNat < 16) : w.cell? ⟨g, (n16 i).toNat, none⟩ = some (.int .u16 (n16 (tb i))) := by
  rw [h.cell, show (n16 i).toNat = i.toNat from rfl, tabA_at _ hi]
  simp
set_option maxRecDepth 100000 in
set_option maxHeartbeats 4000000 in
theorem with_c (c : B16) (q : Option Addr) (n cap : Nat) (F : Nat → B8) (hc : n ≤ cap) (hm : cap ≤ maxLen) (w : World) (hq : Byq w q n F) :
    Calls Try.prog 70 #[.int .u16 (n16 c), .slice q n cap] w fun r w' => r = .returned (.int .u16 (n16 (crcN c F n))) ∧ Below w.heap.size w w' := by
  go_enter Try.func70, Try.ntmps70
  go_wp2_with fail
  refine (steps_c _).mono ?_; rintro e w1 ⟨rfl, H⟩
  rw [show tabA 16 = #[.int .u16 (n16 (tb (BitVec.ofNat 16 0))), .int .u16 (n16 (tb (BitVec.ofNat 16 1))), .int .u16 (n16 (tb (BitVec.ofNat 16 2))), .int .u16 (n16 (tb (BitVec.ofNat 16 3))), .int .u16 (n16 (tb (BitVec.ofNat 16 4))), .int .u16 (n16 (tb (BitVec.ofNat 16 5))), .int .u16 (n16 (tb (BitVec.ofNat 16 6))), .int .u16 (n16 (tb (BitVec.ofNat 16 7))), .int .u16 (n16 (tb (BitVec.ofNat 16 8))), .int .u16 (n16 (tb (BitVec.ofNat 16 9))), .int .u16 (n16 (tb (BitVec.ofNat 16 10))), .int .u16 (n16 (tb (BitVec.ofNat 16 11))), .int .u16 (n16 (tb (BitVec.ofNat 16 12))), .int .u16 (n16 (tb (BitVec.ofNat 16 13))), .int .u16 (n16 (tb (BitVec.ofNat 16 14))), .int .u16 (n16 (tb (BitVec.ofNat 16 15)))] from rfl]
  go_upto_region 3 with (fail)
  obtain ⟨W1, hW⟩ : ∃ W1, W1 = w1.alloc (.cells #[.int .u16 (n16 (tb (BitVec.ofNat 16 0))), .int .u16 (n16 (tb (BitVec.ofNat 16 1))), .int .u16 (n16 (tb (BitVec.ofNat 16 2))), .int .u16 (n16 (tb (BitVec.ofNat 16 3))), .int .u16 (n16 (tb (BitVec.ofNat 16 4))), .int .u16 (n16 (tb (BitVec.ofNat 16 5))), .int .u16 (n16 (tb (BitVec.ofNat 16 6))), .int .u16 (n16 (tb (BitVec.ofNat 16 7))), .int .u16 (n16 (tb (BitVec.ofNat 16 8))), .int .u16 (n16 (tb (BitVec.ofNat 16 9))), .int .u16 (n16 (tb (BitVec.ofNat 16 10))), .int .u16 (n16 (tb (BitVec.ofNat 16 11))), .int .u16 (n16 (tb (BitVec.ofNat 16 12))), .int .u16 (n16 (tb (BitVec.ofNat 16 13))), .int .u16 (n16 (tb (BitVec.ofNat 16 14))), .int .u16 (n16 (tb (BitVec.ofNat 16 15)))] 126) := ⟨_, rfl⟩
  rw [← hW]
  have C : Blk W1 w1.heap.size 126 (tabA 16) := Blk.fresh hW
  replace hq := hq.on H
  have hb1 : Below w1.heap.size w1 W1 := by rw [hW]; exact (Below.refl _ _).alloc (Nat.le_refl _) _
  replace hq := hq.on hb1
  replace H := after H hb1
  clear hW hb1
  generalize w1.heap.size = nc at *
  generalize Value.agg #[.int .u16 (n16 (tb (BitVec.ofNat 16 0))), .int .u16 (n16 (tb (BitVec.ofNat 16 1))), .int .u16 (n16 (tb (BitVec.ofNat 16 2))), .int .u16 (n16 (tb (BitVec.ofNat 16 3))), .int .u16 (n16 (tb (BitVec.ofNat 16 4))), .int .u16 (n16 (tb (BitVec.ofNat 16 5))), .int .u16 (n16 (tb (BitVec.ofNat 16 6))), .int .u16 (n16 (tb (BitVec.ofNat 16 7))), .int .u16 (n16 (tb (BitVec.ofNat 16 8))), .int .u16 (n16 (tb (BitVec.ofNat 16 9))), .int .u16 (n16 (tb (BitVec.ofNat 16 10))), .int .u16 (n16 (tb (BitVec.ofNat 16 11))), .int .u16 (n16 (tb (BitVec.ofNat 16 12))), .int .u16 (n16 (tb (BitVec.ofNat 16 13))), .int .u16 (n16 (tb (BitVec.ofNat 16 14))), .int .u16 (n16 (tb (BitVec.ofNat 16 15)))] = tab
  go_loopw [0, 11] (fun c' i wq => ∃ k : Nat, k ≤ n ∧ c' = .int .u16 (n16 (crcN c F k)) ∧ i = .int .i64 k ∧ wq = W1) (fun _ i _ => n - (intOf i).toNat)
  case atStart => exact ⟨0, by omega, rfl, rfl, rfl⟩
  case round =>
    obtain ⟨k, hk, rfl, rfl, rfl⟩ := hrel
    by_cases hlt : k < n
    · obtain ⟨g, o, rfl, B⟩ := hq (by omega)
      have hb := B k hlt
      generalize hx : F k = x at hb
      generalize hcc : crcN c F k = cc
      go_upto_region 5 with (fail)
      obtain ⟨xh, hxh⟩ : ∃ xh, xh = (x.setWidth 16 : B16) >>> 4 := ⟨_, rfl⟩
      obtain ⟨ix, hix⟩ : ∃ ix, ix = (cc >>> 12) ^^^ xh := ⟨_, rfl⟩
      obtain ⟨i0, i1, i2⟩ : 0 ≤ n16 ix ∧ n16 ix < 16 ∧ ix.toNat < 16 := by rw [hix, hxh]; exact nib_lt cc _ (nibh_lt x)
      have c1 := tab_cell C ix i2
      have hs1 : bits .xor .u16 (n16 cc / 4096) (IntKind.u16.wrap (n8 x / 16)) = n16 ix := by rw [hix, hxh, ← xor16, ← nib8h]; exact congrArg (fun v => bits .xor .u16 v _) (shr16 cc 12 4096 rfl)
      have hs2 : bits .xor .u16 (IntKind.u16.wrap (n16 cc * 16)) (n16 (tb ix)) = n16 (nib cc xh) := by
        unfold nib
        rw [← hix, ← xor16, show IntKind.u16.wrap (n16 cc * 16) = n16 (cc <<< 4) from shl16 cc 4 16 rfl]
      have HX : Hid (F k = x) := hx
      have HC : Hid (crcN c F k = cc) := hcc
      have HH : Hid (xh = (x.setWidth 16 : B16) >>> 4) := hxh
      clear hix hx hcc i2 hxh
      go_upto_region 6 with (fail)
      obtain ⟨c2, hc2⟩ : ∃ c2, c2 = nib cc xh := ⟨_, rfl⟩
      rw [← hc2]
      clear hs1 hs2 c1 i0 i1
      obtain ⟨xl, hxl⟩ : ∃ xl, xl = (x.setWidth 16 : B16) &&& 15#16 := ⟨_, rfl⟩
      obtain ⟨iy, hiy⟩ : ∃ iy, iy = (c2 >>> 12) ^^^ xl := ⟨_, rfl⟩
      obtain ⟨i0, i1, i2⟩ : 0 ≤ n16 iy ∧ n16 iy < 16 ∧ iy.toNat < 16 := by rw [hiy, hxl]; exact nib_lt c2 _ (nibl_lt x)
      have c1 := tab_cell C iy i2
      have hs1 : bits .xor .u16 (n16 c2 / 4096) (IntKind.u16.wrap (bits .and .u8 (n8 x) 15)) = n16 iy := by rw [hiy, hxl, ← xor16, ← nib8l]; exact congrArg (fun v => bits .xor .u16 v _) (shr16 c2 12 4096 rfl)
      have hs2 : bits .xor .u16 (IntKind.u16.wrap (n16 c2 * 16)) (n16 (tb iy)) = n16 (nib c2 xl) := by
        unfold nib
        rw [← hiy, ← xor16, show IntKind.u16.wrap (n16 c2 * 16) = n16 (c2 <<< 4) from shl16 c2 4 16 rfl]
      have hfin : nib c2 xl = crcN c F (k + 1) := by
        show _ = crcUp (crcN c F k) (F k)
        rw [hc2, hxl, HH.out, nib_nib, HX.out, HC.out]
      rw [hfin] at hs2
      clear hc2 hxl hiy i2 hfin
      go_wp2_with fail
      have hkw := next64 hc hm hlt
      go_roundw
      case rel => exact ⟨k + 1, hlt, rfl, next_val hkw, trivial⟩
      case measure => exact next_less hlt hkw
    · obtain rfl : k = n := by omega
      go_wp2_with fail
      go_returns
      exact ⟨rfl, by (repeat' (first | (with_reducible exact Below.refl _ _) | (with_reducible assumption) | (with_reducible refine Below.alloc ?_ ?_ _) | (with_reducible refine Below.drew ?_) | (with_reducible refine Below.setCell ?_ ?_ _) | (with_reducible refine after ?_ (below_regrown _ _ _)) | (refine after ?_ (by with_reducible assumption)) | go_size))⟩
end Go.Proofs.Ytkopenemoddbbaa

/- The check of bytes: the document's sum. -/
namespace Go.Proofs.Ytkopenemoddbbaa
open Go.RowKit

theorem xor64 (a b : B16) : bits .xor .i64 (n16 a) (n16 b) = n16 (a ^^^ b) := by
  have ha := a.isLt
  have hb := b.isLt
  have hx : (a ^^^ b).toNat < 2 ^ 16 := (a ^^^ b).isLt
  unfold n16
  show IntKind.i64.wrap ((BitVec.ofInt 64 (a.toNat : Int) ^^^ BitVec.ofInt 64 (b.toNat : Int)).toNat : Int) = _
  rw [BitVec.ofInt_natCast, BitVec.ofInt_natCast, BitVec.toNat_xor, BitVec.toNat_ofNat, BitVec.toNat_ofNat, Nat.mod_eq_of_lt (by omega), Nat.mod_eq_of_lt (by omega), ← BitVec.toNat_xor]
  rw [IntKind.wrap_i64]
  omega
theorem byte64 (x : B8) : n8 x * (256 : Int) = n16 (x.setWidth 16 <<< 8) := by
  unfold n16 n8
  rw [BitVec.toNat_shiftLeft, Nat.shiftLeft_eq, BitVec.toNat_setWidth]
  have := x.isLt
  omega
theorem st_hi {c : B16} (h : c.msb = true) : n16 c * (2 : Int) ≥ 65536 ∧ bits .xor .i64 (n16 c * (2 : Int) - (65536 : Int)) 4129 = n16 (st c) := by
  have h1 : 2 * c.toNat ≥ 2 ^ 16 := by
    rw [BitVec.msb_eq_decide] at h
    simp at h
    omega
  have h2 : n16 c * (2 : Int) - (65536 : Int) = n16 (c <<< 1) := by
    unfold n16
    rw [BitVec.toNat_shiftLeft, Nat.shiftLeft_eq]
    have := c.isLt
    omega
  refine ⟨by unfold n16; omega, ?_⟩
  rw [h2, show (4129 : Int) = n16 0x1021#16 by decide, xor64]
  unfold st
  rw [h]
  rfl
theorem st_lo {c : B16} (h : c.msb = false) : n16 c * (2 : Int) < 65536 ∧ n16 c * (2 : Int) = n16 (st c) := by
  have h1 : 2 * c.toNat < 2 ^ 16 := by
    rw [BitVec.msb_eq_decide] at h
    simp at h
    omega
  refine ⟨by unfold n16; omega, ?_⟩
  unfold st
  rw [h]
  unfold n16
  simp [BitVec.toNat_shiftLeft, Nat.shiftLeft_eq]
  omega
set_option maxRecDepth 100000 in
set_option maxHeartbeats 4000000 in
theorem rsum_c (c : B16) (q : Option Addr) (n cap : Nat) (F : Nat → B8) (hc : n ≤ cap) (hm : cap ≤ maxLen) (w : World) (hq : Byq w q n F) :
    Calls Try.prog 71 #[.int .i64 (n16 c), .slice q n cap] w fun r w' => r = .returned (.int .i64 (n16 (crcN c F n))) ∧ w = w' := by
  go_enter Try.func71, Try.ntmps71
  go_upto_region 2 with (fail)
  go_loopw [0, 5] (fun c' i wq => ∃ k : Nat, k ≤ n ∧ c' = .int .i64 (n16 (crcN c F k)) ∧ i = .int .i64 k ∧ wq = w) (fun _ i _ => n - (intOf i).toNat)
  case atStart => exact ⟨0, by omega, rfl, rfl, rfl⟩
  case round =>
    obtain ⟨k, hk, rfl, rfl, rfl⟩ := hrel
    by_cases hlt : k < n
    · obtain ⟨g, o, rfl, B⟩ := hq (by omega)
      have hb := B k hlt
      have HS : Hid (crcN c F (k + 1) = stN 8 (crcN c F k ^^^ ((F k).setWidth 16 <<< 8))) := rfl
      generalize F k = x at hb HS
      generalize crcN c F k = cc at HS ⊢
      obtain ⟨b0, b1⟩ := n8_lt x
      obtain ⟨cx, hcx⟩ : ∃ cx, cx = cc ^^^ (x.setWidth 16 <<< 8) := ⟨_, rfl⟩
      rw [← hcx] at HS
      have hx : bits .xor .i64 (n16 cc) (n8 x * 256) = n16 cx := by rw [byte64, xor64, hcx]
      clear hcx
      go_upto_region 6 with (fail)
      clear hx b0 b1 hb
      go_loopw [0, 6] (fun c' i wq => ∃ j : Nat, j ≤ 8 ∧ c' = .int .i64 (n16 (stN j cx)) ∧ i = .int .i64 j ∧ wq = wr) (fun _ i _ => 8 - (intOf i).toNat)
      case atStart => exact ⟨0, by omega, rfl, rfl, rfl⟩
      case round =>
        obtain ⟨j, hj, rfl, rfl, rfl⟩ := hrel
        by_cases hlj : j < 8
        · have HT : Hid (st (stN j cx) = stN (j + 1) cx) := stN_succ j cx
          generalize stN j cx = cj at HT ⊢
          obtain ⟨j0, j1⟩ := n16_lt cj
          cases hmsb : cj.msb with
          | true =>
            obtain ⟨t0, t1⟩ := st_hi hmsb
            rw [HT.out] at t1
            generalize hcn : stN (j + 1) cx = cn at t1
            replace hcn : Hid (cn = stN (j + 1) cx) := hcn.symm
            generalize n16 cj = z at *
            clear hmsb HT
            go_wp2_with fail
            go_roundw
            case rel => exact ⟨j + 1, by omega, by rw [← hcn.out], by go_num, trivial⟩
            case measure => simp [intOf]; omega
          | false =>
            obtain ⟨t0, t1⟩ := st_lo hmsb
            rw [HT.out] at t1
            generalize hcn : stN (j + 1) cx = cn at t1
            replace hcn : Hid (cn = stN (j + 1) cx) := hcn.symm
            generalize n16 cj = z at *
            replace t1 : Hid (z * 2 = n16 cn) := t1
            clear hmsb HT
            go_wp2_with fail
            go_roundw
            case rel => exact ⟨j + 1, by omega, by rw [t1.out, hcn.out], by go_num, trivial⟩
            case measure => simp [intOf]; omega
        · obtain rfl : j = 8 := by omega
          rw [← HS.out]
          go_wp2_with fail
          have hkw := next64 hc hm hlt
          go_roundw
          case rel => exact ⟨k + 1, hlt, rfl, next_val hkw, trivial⟩
          case measure => exact next_less hlt hkw
    · obtain rfl : k = n := by omega
      go_wp2_with fail
      go_returns
      exact ⟨rfl, rfl⟩
end Go.Proofs.Ytkopenemoddbbaa

/- Plain numbers: what the functions of the layers 1 and 2 compute; no program in sight. -/
namespace Go.Proofs.Ytkopenemoddbbaa
open Go.RowKit

/-- within the bounds -/
def cutI (n : Int) : Int := min (max n (-140737488355328)) 140737488355328
theorem cutI_lo (n : Int) : -140737488355328 ≤ cutI n := by unfold cutI; omega
theorem cutI_hi (n : Int) : cutI n ≤ 140737488355328 := by unfold cutI; omega
theorem cutI_id {n : Int} (h : -140737488355328 ≤ n) (k : n ≤ 140737488355328) : cutI n = n := by unfold cutI; omega
theorem cutI_cut (n : Int) : cutI (cutI n) = cutI n := by unfold cutI; omega
theorem cutI_mono {a b : Int} (h : a ≤ b) : cutI a ≤ cutI b := by unfold cutI; omega
def addI (a b : Int) : Int := cutI (cutI a + cutI b)
def subI (a b : Int) : Int := cutI (cutI a - cutI b)
/-- a product of fixed numbers, rounded down -/
def mulI (a b : Int) : Int := cutI (cutI a * cutI b / 65536)
/-- brecciaref01.Around -/
def arI (n m : Int) : Int := (if n < 0 then -(n + 1) else n) % m
theorem arI_lo (n : Int) {m : Int} (h : 0 < m) : 0 ≤ arI n m := by unfold arI; exact Int.emod_nonneg _ (by omega)
theorem arI_hi (n : Int) {m : Int} (h : 0 < m) : arI n m < m := by unfold arI; exact Int.emod_lt_of_pos _ h
def towI (n to by_ : Int) : Int := min (max (cutI to) (cutI n - max (cutI by_) 0)) (cutI n + max (cutI by_) 0)
/-- how great a number is -/
def absI (n : Int) : Int := if n < 0 then -n else n
def upI (n : Int) (below rest : Bool) : Int := if below && rest then n + 1 else n
def rndI (q : Int) (rest below : Bool) : Int :=
  if 140737488355328 ≤ q then (if below then -140737488355328 else 140737488355328)
  else if below then -(upI q below rest) else q
theorem upI_bd (n : Int) (b r : Bool) : n ≤ upI n b r ∧ upI n b r ≤ n + 1 := by unfold upI; split <;> omega
/-- a quotient of fixed numbers, rounded down -/
def quoI (a b : Int) : Int := rndI (absI (cutI a) * 65536 / absI (cutI b)) (absI (cutI a) * 65536 % absI (cutI b) != 0) (decide (cutI a < 0) != decide (cutI b < 0))
/-- axis i of a way -/
def axI (x y z i : Int) : Int := if i = 0 then x else if i = 1 then y else if i = 2 then z else 0
/-- axis i of a way of which axis a has got the number n -/
def wiI (x a i n : Int) : Int := if i = a then cutI n else x
theorem ediv_bd (a b : Int) (hb : 0 < b) : b * (a / b) ≤ a ∧ a < b * (a / b) + b := by
  have h1 := Int.mul_ediv_add_emod a b
  have h2 := Int.emod_nonneg a (show b ≠ 0 by omega)
  have h3 := Int.emod_lt_of_pos a hb
  omega
theorem ediv_abs (a b : Int) (hb : 0 < b) (h : 0 ≤ a) : 0 ≤ a / b ∧ a / b ≤ a := by
  refine ⟨Int.ediv_nonneg h (by omega), ?_⟩
  exact Int.ediv_le_self b h
/-- brecciaref01.Div: the quotient that Go gives, made one less where it is too great. -/
theorem rdiv_p (a b : Int) (h1 : -9223372036854775808 ≤ a) (h2 : a ≤ 9223372036854775807) (hb : 0 < b) :
    (a < wrap64 (a.tdiv b * b) → wrap64 (a.tdiv b - 1) = a / b) ∧ (wrap64 (a.tdiv b * b) ≤ a → a.tdiv b = a / b) := by
  have e := ediv_bd a b hb
  rcases Int.le_total 0 a with h | h
  · have e1 : a.tdiv b = a / b := Int.tdiv_eq_ediv_of_nonneg h
    have e2 := ediv_abs a b hb h
    rw [e1]
    have e3 : a / b * b = b * (a / b) := Int.mul_comm _ _
    have e4 : 0 ≤ b * (a / b) := Int.mul_nonneg (by omega) e2.1
    rw [e3, IntWalk.wrap64_in _ (by omega)]
    exact ⟨fun h => by omega, fun _ => rfl⟩
  · have e1 : a.tdiv b = -((-a) / b) := by
      rw [← Int.tdiv_eq_ediv_of_nonneg (show 0 ≤ -a by omega), Int.neg_tdiv, Int.neg_neg]
    have e2 := ediv_abs (-a) b hb (by omega)
    have e5 := ediv_bd (-a) b hb
    rw [e1]
    have e3 : -((-a) / b) * b = -(b * ((-a) / b)) := by rw [Int.neg_mul, Int.mul_comm]
    have e4 : 0 ≤ b * ((-a) / b) := Int.mul_nonneg (by omega) e2.1
    rw [e3, IntWalk.wrap64_in _ (by omega)]
    have key : ∀ q : Int, b * q ≤ a → a < b * q + b → q = a / b := by
      intro q hq hq2
      exact (Int.ediv_eq_iff_of_pos hb).2 ⟨by rw [Int.mul_comm]; exact hq, by rw [Int.mul_comm]; exact hq2⟩ |>.symm
    have e6 : b * (-((-a) / b)) = -(b * ((-a) / b)) := Int.mul_neg _ _
    have e7 : b * (-((-a) / b) - 1) = -(b * ((-a) / b)) - b := by rw [Int.mul_sub, e6, Int.mul_one]
    have e8 : 1 * (-a / b) ≤ b * (-a / b) := Int.mul_le_mul_of_nonneg_right (by omega) e2.1
    refine ⟨fun h => ?_, fun h => ?_⟩
    · rw [IntWalk.wrap64_in _ (by omega)]
      exact key _ (by omega) (by omega)
    · exact key _ (by omega) (by omega)
theorem sgn_of {n : Int} (h : -140737488355328 ≤ n) (k : n ≤ 140737488355328) : n = 0 ∨ (∃ x, n = x ∧ 0 < x ∧ x ≤ 140737488355328) ∨ ∃ x, n = -x ∧ 0 < x ∧ x ≤ 140737488355328 := by
  rcases Int.lt_trichotomy n 0 with h1 | h1 | h1
  · exact .inr (.inr ⟨-n, by omega, by omega, by omega⟩)
  · exact .inl h1
  · exact .inr (.inl ⟨n, rfl, h1, k⟩)
theorem mul_p {x y : Int} (hx : 0 < x) (hy : 0 < y) : (9223372036854775807 / y < x → 9223372036854775807 < x * y) ∧ (x ≤ 9223372036854775807 / y → x * y ≤ 9223372036854775807) ∧ 0 < x * y := by
  refine ⟨fun h => ?_, fun h => ?_, Int.mul_pos hx hy⟩
  · exact (Int.ediv_lt_iff_lt_mul hy).1 h
  · exact (Int.le_ediv_iff_mul_le hy).1 h
theorem mulI_p {a b p : Int} (h : cutI a * cutI b = p) : mulI a b = cutI (p / 65536) := by rw [← h]; rfl
theorem absI_bd {n : Int} (h : -140737488355328 ≤ n) (k : n ≤ 140737488355328) : 0 ≤ absI n ∧ absI n ≤ 140737488355328 := by unfold absI; omega
theorem mul_sgn (u v : Int) : u * v = if (decide (u < 0) != decide (v < 0)) then -(absI u * absI v) else absI u * absI v := by
  unfold absI
  by_cases h1 : u < 0 <;> by_cases h2 : v < 0 <;> simp [h1, h2, Int.neg_mul, Int.mul_neg]
theorem mul_rnd (u v p : Int) (hp : absI u * absI v = p) (h0 : 0 ≤ p) :
    (0 < p / 18446744073709551616 → ∀ r, rndI 140737488355328 r (decide (u < 0) != decide (v < 0)) = cutI (u * v / 65536)) ∧
    (p / 18446744073709551616 ≤ 0 → rndI (p % 18446744073709551616 / 65536) (p % 65536 != 0) (decide (u < 0) != decide (v < 0)) = cutI (u * v / 65536)) := by
  rw [mul_sgn, hp]
  unfold rndI upI cutI
  cases (decide (u < 0) != decide (v < 0)) <;> simp <;> refine ⟨?_, ?_⟩ <;> intros <;> omega
theorem bits_and_mask (n : Int) : bits .and .i64 n 65535 = n % 65536 := by
  show IntKind.i64.wrap ((BitVec.ofInt 64 n &&& BitVec.ofInt 64 65535).toNat : Int) = _
  have e : (BitVec.ofInt 64 65535).toNat = 2 ^ 16 - 1 := by decide
  rw [BitVec.toNat_and, e, Nat.and_two_pow_sub_one_eq_mod, BitVec.toNat_ofInt, IntKind.wrap_i64]
  omega
theorem absI_pos {n : Int} (h : n ≠ 0) : 0 < absI n := by unfold absI; omega
/-- One digit more. -/
theorem dbl (X y : Int) (hy : 0 < y) : (2 * X) / y = 2 * (X / y) + (if y ≤ 2 * (X % y) then 1 else 0) ∧ (2 * X) % y = 2 * (X % y) - (if y ≤ 2 * (X % y) then y else 0) := by
  have h1 := Int.mul_ediv_add_emod X y
  have h2 := Int.emod_nonneg X (show y ≠ 0 by omega)
  have h3 := Int.emod_lt_of_pos X hy
  have h4 := Int.mul_ediv_add_emod (2 * X) y
  have key : ∀ q r : Int, y * q + r = 2 * X → 0 ≤ r → r < y → (2 * X) / y = q ∧ (2 * X) % y = r := by
    intro q r e a b
    have e2 : r + y * q = 2 * X := by omega
    rw [← e2]
    refine ⟨?_, ?_⟩
    · rw [Int.add_mul_ediv_left _ _ (by omega), Int.ediv_eq_zero_of_lt a b]; omega
    · rw [Int.add_mul_emod_self_left, Int.emod_eq_of_lt a b]
  split
  · refine key _ _ ?_ (by omega) (by omega)
    have : y * (2 * (X / y) + 1) = 2 * (y * (X / y)) + y := by rw [Int.mul_add, Int.mul_one, Int.mul_left_comm]
    omega
  · refine key _ _ ?_ (by omega) (by omega)
    have : y * (2 * (X / y) + 0) = 2 * (y * (X / y)) := by rw [Int.add_zero, Int.mul_left_comm]
    omega
end Go.Proofs.Ytkopenemoddbbaa

/- The walks of the layer 1 (fixed) and of its reference. -/
namespace Go.Proofs.Ytkopenemoddbbaa
open Go.RowKit

set_option maxRecDepth 100000 in
set_option maxHeartbeats 400000 in
theorem around_c (n m : Int) (hn : -9223372036854775808 ≤ n) (hn2 : n ≤ 9223372036854775807) (hm : 0 < m) (w : World) : Calls Try.prog 13 #[.int .i64 n, .int .i64 m] w fun e w' => e = .returned (.int .i64 (arI n m)) ∧ w = w' := by
  by_cases h : n < 0
  all_goals
    go_enter Try.func13, Try.ntmps13
    go_wp2
    go_returns
    exact ⟨ret_i (by unfold arI; first | rw [if_neg (by omega)] | rw [if_pos h, ← Int.neg_tmod, Int.tmod_eq_emod_of_nonneg (a := -(n + 1)) (b := m) (by omega)]), rfl⟩

end Go.Proofs.Ytkopenemoddbbaa

/- The check of bytes: the walks of what is asked of it. -/
namespace Go.Proofs.Ytkopenemoddbbaa
open Go.RowKit

theorem first16 : (65535 : Int) = n16 0xFFFF#16 := by decide
theorem start_c (w : World) : Calls Try.prog 69 #[] w fun r w' => r = .returned (.int .u16 (n16 0xFFFF#16)) ∧ w = w' := by
  go_enter Try.func69, Try.ntmps69
  go_wp2_with fail
  go_returns
  exact ⟨ret_i first16, rfl⟩
/-- The check of bytes. -/
def crcO (F : Nat → B8) (n : Nat) : B16 := crcN 0xFFFF#16 F n
theorem of_c (q : Option Addr) (n cap : Nat) (F : Nat → B8) (hc : n ≤ cap) (hm : cap ≤ maxLen) (w : World) (hq : Byq w q n F) :
    Calls Try.prog 52 #[.slice q n cap] w fun r w' => r = .returned (.int .u16 (n16 (crcO F n))) ∧ Below w.heap.size w w' := by
  go_enter Try.func52, Try.ntmps52
  go_wp2_with fail
  refine (start_c _).mono ?_; rintro e w1 ⟨rfl, rfl⟩
  go_wp2_with fail
  refine (with_c _ q n cap F hc hm _ hq).mono ?_; rintro e w1 ⟨rfl, hb⟩
  go_wp2_with fail
  go_returns
  exact ⟨rfl, by (repeat' (first | (with_reducible exact Below.refl _ _) | (with_reducible assumption) | (with_reducible refine Below.alloc ?_ ?_ _) | (with_reducible refine Below.drew ?_) | (with_reducible refine Below.setCell ?_ ?_ _) | (with_reducible refine after ?_ (below_regrown _ _ _)) | (refine after ?_ (by with_reducible assumption)) | go_size))⟩
theorem rof_c (q : Option Addr) (n cap : Nat) (F : Nat → B8) (hc : n ≤ cap) (hm : cap ≤ maxLen) (w : World) (hq : Byq w q n F) :
    Calls Try.prog 55 #[.slice q n cap] w fun r w' => r = .returned (.int .i64 (n16 (crcO F n))) ∧ w = w' := by
  go_enter Try.func55, Try.ntmps55
  go_wp2_with fail
  rw [first16]
  refine (rsum_c _ q n cap F hc hm _ hq).mono ?_
  rintro e w1 ⟨rfl, rfl⟩
  go_wp2_with fail
  go_returns
  exact ⟨rfl, rfl⟩
theorem hi8 (c : B16) : n8 ((c >>> 8).setWidth 8) = n16 c / 256 := by
  unfold n16 n8
  rw [BitVec.toNat_setWidth, BitVec.toNat_ushiftRight, Nat.shiftRight_eq_div_pow]
  have := c.isLt
  omega
theorem lo8 (c : B16) : n8 (c.setWidth 8) = IntKind.u8.wrap (n16 c) := by
  rw [IntKind.wrap_u8']
  unfold n16 n8
  rw [BitVec.toNat_setWidth]
  omega
theorem two_bytes (c : B16) : n8 ((c >>> 8).setWidth 8) * 256 + n8 (c.setWidth 8) = n16 c := by
  rw [hi8, lo8, IntKind.wrap_u8']
  omega
set_option maxRecDepth 100000 in
set_option maxHeartbeats 1000000 in
theorem ckbytes_c (c : B16) (w : World) : Calls Try.prog 53 #[.int .u16 (n16 c)] w fun r w' => r = .returned (.agg #[.int .u8 (n8 ((c >>> 8).setWidth 8)), .int .u8 (n8 (c.setWidth 8))]) ∧ Below w.heap.size w w' := by
  have R : Blk (w.alloc (.cells #[.int .u8 0, .int .u8 0] 98)) w.heap.size 98 #[.int .u8 0, .int .u8 0] := Blk.new' rfl
  have r0 := R.cell 0
  have r1 := R.cell 1
  have f0 := R.frz 0
  have f1 := R.frz 1
  obtain ⟨j0, j1⟩ := n16_lt c
  have e1 : n16 c / (256 : Int) = n8 ((c >>> 8).setWidth 8) := (hi8 c).symm
  have e2 : IntKind.u8.wrap (n16 c) = n8 (c.setWidth 8) := (lo8 c).symm
  obtain ⟨l0, l1⟩ := n8_lt ((c >>> 8).setWidth 8)
  go_enter Try.func53, Try.ntmps53
  go_wp2_with fail
  exact bodyPost_ret (v := .agg #[.int .u8 (n8 ((c >>> 8).setWidth 8)), .int .u8 (n8 (c.setWidth 8))]) (by simp [results, Try.results53, go_sem]) rfl ⟨rfl, by (repeat' (first | (with_reducible exact Below.refl _ _) | (with_reducible assumption) | (with_reducible refine Below.alloc ?_ ?_ _) | (with_reducible refine Below.drew ?_) | (with_reducible refine Below.setCell ?_ ?_ _) | (with_reducible refine after ?_ (below_regrown _ _ _)) | (refine after ?_ (by with_reducible assumption)) | go_size))⟩
theorem few_c (q : Option Addr) (n cap m : Nat) (hc : n ≤ cap) (w : World) :
    Calls Try.prog 9 #[.slice q n cap, .int .i64 m] w fun r w' => r = .returned (.slice q (min n m) cap) ∧ w = w' := by
  by_cases h : m < n
  · have h1 : (m : Int) < n := by omega
    have h2 : m ≤ cap := by omega
    go_enter Try.func9, Try.ntmps9
    go_wp2_with fail
    go_returns
    rw [Nat.min_eq_right (by omega)]
    exact ⟨rfl, rfl⟩
  · have h1 : ¬ (m : Int) < n := by omega
    go_enter Try.func9, Try.ntmps9
    go_wp2_with fail
    go_returns
    rw [Nat.min_eq_left (by omega)]
    exact ⟨rfl, rfl⟩
def exB (i : Nat) : B8 := BitVec.ofNat 8 (49 + i)
theorem ex_crc : crcO exB 9 = 10673#16 := by decide +kernel
end Go.Proofs.Ytkopenemoddbbaa

/- Checked bytes: the walks. -/
namespace Go.Proofs.Ytkopenemoddbbaa
open Go.RowKit

/-- n bytes as a text. -/
def strF (F : Nat → B8) (n : Nat) : ByteArray := strOfNums ((List.range n).map fun i => n8 (F i))
theorem strF_cong {F G : Nat → B8} {n : Nat} (h : ∀ i, i < n → F i = G i) : strF F n = strF G n := by
  unfold strF
  congr 1
  apply List.map_congr_left
  intro i hi
  rw [h i (by simpa using hi)]
theorem conv_c (w : World) (q : Option Addr) (n c : Nat) (F : Nat → B8) (hq : Byq w q n F) :
    (convert 22 9 (.slice q n c)).run Try.prog w = .ok (.string (strF F n)) w := by
  by_cases hn : 0 < n
  · obtain ⟨g, o, rfl, B⟩ := hq hn
    exact run_convert_bytes_arg w 22 5 Try.underlying22 Try.underlying5 g o n c _ (by simp) (fun i hi => by rw [B i hi]; simp [hi]) 9 Try.underlying9
  · obtain rfl : n = 0 := by omega
    cases q with
    | none => rw [run_convert_bytes_nil w 22 5 Try.underlying22 Try.underlying5 0 c 9 Try.underlying9]; rfl
    | some a =>
      rw [run_convert_bytes_string w 22 9 5 _ 0 c Try.underlying22 Try.underlying5 Try.underlying9, run_bytesToString w _ 0 c [] (by simpa using run_loadCells_list (P := Try.prog) w a [] (fun j v hj => by cases hj))]
      rfl
theorem same_t (q1 : Option Addr) (n c1 : Nat) (F : Nat → B8) (q2 : Option Addr) (c2 : Nat) (G : Nat → B8) (h : ∀ i, i < n → F i = G i) (w : World) (b1 : Byq w q1 n F) (b2 : Byq w q2 n G) :
    Calls Try.prog 12 #[.slice q1 n c1, .slice q2 n c2] w fun r w' => r = .returned (.bool true) ∧ w = w' := by
  have h1 := conv_c w q1 n c1 F b1
  have h2 := conv_c w q2 n c2 G b2
  rw [← strF_cong h] at h2
  generalize strF F n = s at *
  go_enter Try.func12, Try.ntmps12
  go_wp2_with fail
  go_returns
  exact ⟨ret_b (by first | rfl | simp), rfl⟩
/-- The two bytes of a check; checked bytes. -/
def twoF (c : B16) (i : Nat) : B8 := if i = 0 then (c >>> 8).setWidth 8 else c.setWidth 8
def putF (F : Nat → B8) (n : Nat) : Nat → B8 := cat F n (twoF (crcO F n))
set_option maxRecDepth 100000 in
set_option maxHeartbeats 2000000 in
theorem ckput_c (q : Option Addr) (n c : Nat) (F : Nat → B8) (hc : n ≤ c) (hm : c ≤ maxLen) (h47 : n ≤ 1000000) (w : World) (hq : Byq w q n F) :
    Calls Try.prog 26 #[.slice q n c] w fun r w' => ∃ v, r = .returned v ∧ w'.ownsRow w.heap.size 5 1 v (n + 2) (bl (putF F n) (n + 2)) ∧ Below w.heap.size w w' := by
  have hF : putF F n = cat F n (twoF (crcO F n)) := rfl
  rw [hF]
  clear hF
  go_enter Try.func26, Try.ntmps26
  go_wp2_with fail
  refine (of_c q n c F hc hm _ hq).mono ?_; rintro e w1 ⟨rfl, H⟩
  replace hq := hq.on H
  generalize hd : crcO F n = d at *
  replace hd : Hid (d = crcO F n) := hd.symm
  go_wp2_with fail
  refine (ckbytes_c d _).mono ?_; rintro e w1 ⟨rfl, hb⟩
  replace hq := hq.on hb
  replace H := after H hb
  clear hb
  go_upto_region 2 with (fail)
  obtain ⟨W2, hW⟩ : ∃ W2, W2 = w1.alloc (.cells #[.int .u8 (n8 ((d >>> 8).setWidth 8)), .int .u8 (n8 (d.setWidth 8))] 98) := ⟨_, rfl⟩
  rw [← hW]
  have C := Blk.fresh hW
  have hb1 : Below w1.heap.size w1 W2 := by rw [hW]; exact (Below.refl _ _).alloc (Nat.le_refl _) _
  replace hq := hq.on hb1
  replace H := after H hb1
  clear hW hb1
  generalize w1.heap.size = nt at *
  go_wp2_with fail
  obtain ⟨W3, hW⟩ : ∃ W3, W3 = W2.alloc (.cells #[.slice q n c, .slice (some ⟨nt, 0, none⟩) 2 2] 22) := ⟨_, rfl⟩
  rw [← hW]
  have L := Blk.fresh hW
  have hb1 : Below W2.heap.size W2 W3 := by rw [hW]; exact (Below.refl _ _).alloc (Nat.le_refl _) _
  replace hq := hq.on hb1
  replace C := C.on hb1
  replace H := after H hb1
  clear hW hb1
  generalize W2.heap.size = nl at *
  have D : Byt W3 nt 0 2 (twoF d) := fun i hi => by
    rw [Nat.zero_add, C.cell]
    match i, hi with
    | 0, _ => rfl
    | 1, _ => rfl
  refine (concat2_c q n c F hc (some ⟨nt, 0, none⟩) 2 2 (twoF d) (Nat.le_refl _) (by omega) (by omega) nl _ L hq (Byq.of D)).mono ?_
  rintro e w4 ⟨v, rfl, hown, hb⟩
  replace hown := own_low hown H.size
  replace H := after H hb
  go_wp2_with fail
  go_returns
  exact ⟨_, rfl, by rw [← hd.out]; exact hown, H⟩
theorem good_c (q : Option Addr) (n c : Nat) (F : Nat → B8) (hc : n ≤ c) (hm : c ≤ maxLen) (w : World) (hq : Byq w q n F) (b : Bool) (hb : (decide (2 ≤ n) && (crcO F n == 0#16)) = b) :
    Calls Try.prog 56 #[.slice q n c] w fun r w' => r = .returned (.bool b) ∧ Below w.heap.size w w' := by
  by_cases h2 : 2 ≤ n
  · have h2' : (2 : Int) ≤ n := by omega
    have e : (n16 (crcO F n) == 0) = b := by
      rw [← hb, Bool.eq_iff_iff]
      simp only [beq_iff_eq, Bool.and_eq_true, decide_eq_true_eq]
      rw [show (0 : Int) = n16 0#16 by decide, n16_eq]
      exact ⟨fun h => ⟨h2, h⟩, fun h => h.2⟩
    go_enter Try.func56, Try.ntmps56
    go_wp2_with fail
    refine (of_c q n c F hc hm _ hq).mono ?_; rintro e w1 ⟨rfl, hb⟩
    generalize n16 (crcO F n) = z at *
    go_wp2_with fail
    go_returns
    exact ⟨rfl, hb⟩
  · have h2' : ¬ (2 : Int) ≤ n := by omega
    obtain rfl : b = false := by rw [← hb]; simp; omega
    go_enter Try.func56, Try.ntmps56
    go_wp2_with fail
    go_returns
    exact ⟨rfl, Below.refl _ _⟩
/-- Bytes are checked. -/
def okF (F : Nat → B8) (n : Nat) : Prop := 2 ≤ n ∧ crcO F n = 0#16
theorem good_t (q : Option Addr) (n c : Nat) (F : Nat → B8) (hc : n ≤ c) (hm : c ≤ maxLen) (w : World) (hq : Byq w q n F) (h : okF F n) :
    Calls Try.prog 56 #[.slice q n c] w fun r w' => r = .returned (.bool true) ∧ Below w.heap.size w w' :=
  good_c q n c F hc hm w hq true (by simp [h.1, h.2])
theorem good_f (q : Option Addr) (n c : Nat) (F : Nat → B8) (hc : n ≤ c) (hm : c ≤ maxLen) (w : World) (hq : Byq w q n F) (h : ¬ okF F n) :
    Calls Try.prog 56 #[.slice q n c] w fun r w' => r = .returned (.bool false) ∧ Below w.heap.size w w' :=
  good_c q n c F hc hm w hq false (by
    unfold okF at h
    rw [Bool.eq_false_iff]
    simpa using h)
/-- Take: what is checked, or why it is not. -/
theorem take_ok (q : Option Addr) (n c : Nat) (F : Nat → B8) (hc : n ≤ c) (hm : c ≤ maxLen) (h47 : n ≤ 1000000) (w : World) (hq : Byq w q n F) (h : okF F n) :
    Calls Try.prog 30 #[.slice q n c] w fun r w' => ∃ v, r = .returned (.tuple #[v, .int .i64 0]) ∧ w'.ownsRow w.heap.size 5 1 v (n - 2) (bl F (n - 2)) ∧ Below w.heap.size w w' := by
  have h2 : 2 ≤ n := h.1
  have h2' : ¬ (n : Int) < 2 := by omega
  have h3 : ((n : Int) - 2) = ((n - 2 : Nat) : Int) := by omega
  have h4 : n - 2 ≤ c := by omega
  have h5 : (n : Int) ≤ 1000000 := by omega
  have hG := fun w hq => good_t q n c F hc hm w hq h
  have hC := fun w hq => clone_c q (n - 2) c F h4 (by omega) w hq
  clear h
  go_enter Try.func30, Try.ntmps30
  go_wp2_with fail
  refine (hG _ hq).mono ?_; rintro e w1 ⟨rfl, H⟩
  replace hq := (hq.on H).le (Nat.sub_le n 2)
  go_wp2_with fail
  refine (hC _ hq).mono ?_
  rintro e w2 ⟨v, rfl, hown, hb⟩
  replace hown := own_low hown H.size
  replace H := after H hb
  go_wp2_with fail
  go_returns
  exact ⟨v, rfl, hown, H⟩
theorem take_no (q : Option Addr) (n c : Nat) (F : Nat → B8) (hc : n ≤ c) (hm : c ≤ maxLen) (w : World) (hq : Byq w q n F) (h : ¬ okF F n) (e : Int) (he : e = if n < 2 then 3 else 4) :
    Calls Try.prog 30 #[.slice q n c] w fun r w' => r = .returned (.tuple #[.slice none 0 0, .int .i64 e]) ∧ Below w.heap.size w w' := by
  subst he
  by_cases h2 : n < 2
  · have h2' : (n : Int) < 2 := by omega
    rw [if_pos h2]
    go_enter Try.func30, Try.ntmps30
    go_wp2_with fail
    go_returns
    exact ⟨rfl, Below.refl _ _⟩
  · have h2' : ¬ (n : Int) < 2 := by omega
    rw [if_neg h2]
    have hG := fun w hq => good_f q n c F hc hm w hq h
    clear h
    go_enter Try.func30, Try.ntmps30
    go_wp2_with fail
    refine (hG _ hq).mono ?_; rintro e w1 ⟨rfl, H⟩
    go_wp2_with fail
    go_returns
    exact ⟨rfl, H⟩
theorem put_zero (F : Nat → B8) (n : Nat) : crcO (putF F n) (n + 2) = 0#16 := by
  show crcUp (crcUp (crcN _ (putF F n) n) (putF F n n)) (putF F n (n + 1)) = _
  rw [crcN_cong _ (putF F n) F n (fun i hi => by simp [putF, cat, hi])]
  have e1 : putF F n n = ((crcO F n) >>> 8).setWidth 8 := by simp [putF, cat, twoF]
  have e2 : putF F n (n + 1) = (crcO F n).setWidth 8 := by
    simp [putF, cat, twoF]
    omega
  rw [e1, e2]
  exact up_up_own (crcO F n)
theorem put_ok (F : Nat → B8) (n : Nat) : okF (putF F n) (n + 2) := ⟨by omega, put_zero F n⟩
end Go.Proofs.Ytkopenemoddbbaa

/- The document's checked bytes: the walks. -/
namespace Go.Proofs.Ytkopenemoddbbaa
open Go.ChangeShapes Go.WideShapes Go.ChangeAt Go.RowKit

set_option maxRecDepth 100000 in
set_option maxHeartbeats 2000000 in
theorem ckrput_c (q : Option Addr) (n c : Nat) (F : Nat → B8) (hc : n ≤ c) (hm : c ≤ maxLen) (h47 : n ≤ 1000000) (w : World) (hq : Byq w q n F) :
    Calls Try.prog 29 #[.slice q n c] w fun r w' => ∃ v, r = .returned v ∧ w'.ownsRow w.heap.size 5 1 v (n + 2) (bl (putF F n) (n + 2)) ∧ Below w.heap.size w w' := by
  have hF : Hid (putF F n = cat F n (twoF (crcO F n))) := rfl
  go_enter Try.func29, Try.ntmps29
  go_wp2_with fail
  refine (rof_c q n c F hc hm _ hq).mono ?_; rintro e w1 ⟨rfl, rfl⟩
  generalize crcO F n = d at *
  obtain ⟨v1, W1, hrun1, hown1, H⟩ := run_app (P := Try.prog) (w := w) (base := w.heap.size) (ty := 22) Try.underlying22 inf8 (own_nil (F := F)) hc hq (by omega) (Nat.le_refl _)
  rw [cat_0, Nat.zero_add] at hown1
  obtain ⟨l0, l1⟩ := n8_lt ((d >>> 8).setWidth 8)
  have e1 : wrap64 ((n16 d).tdiv 256) = n8 ((d >>> 8).setWidth 8) := by
    have := n16_lt d
    rw [Int.tdiv_eq_ediv_of_nonneg (by omega), ← hi8 d]
    exact IntWalk.wrap64_in _ (by omega)
  have e2 : IntKind.u8.wrap ((n16 d).tmod 256) = n8 (d.setWidth 8) := by
    have := n16_lt d
    rw [Int.tmod_eq_emod_of_nonneg (by omega), lo8 d, IntKind.wrap_u8', IntKind.wrap_u8']
    omega
  go_upto_region 4 with (at_builtin; refine Lib.wpList_append_run _ rfl _ _ _ _ rfl _ _ rfl rfl _ _ hrun1 ?_)
  obtain ⟨W2, hW⟩ : ∃ W2, W2 = W1.alloc (.cells #[.int .u8 (n8 ((d >>> 8).setWidth 8)), .int .u8 (n8 (d.setWidth 8))] 5) := ⟨_, rfl⟩
  have C := Blk.fresh hW
  have hb1 : Below W1.heap.size W1 W2 := by rw [hW]; exact (Below.refl _ _).alloc (Nat.le_refl _) _
  have D : Byt W2 W1.heap.size 0 2 (twoF d) := fun i hi => by
    rw [Nat.zero_add, C.cell]
    match i, hi with
    | 0, _ => rfl
    | 1, _ => rfl
  replace H := after H hb1
  obtain ⟨v2, W3, hrun2, hown2, hb2⟩ := run_app (P := Try.prog) (w := W2) (base := w.heap.size) (ty := 22) (c := 2) Try.underlying22 inf8 (own_on hown1 hb1) (Nat.le_refl 2) (Byq.of D) (by omega) H.size
  rw [hW] at hrun2
  obtain ⟨qv, cv, rfl, -, -, -⟩ := own_byq hown1
  replace H := H.trans hb2
  clear hW hb1 hb2 C D hrun1
  go_wp2_with (at_builtin; refine Lib.wpList_append_run _ rfl _ _ _ _ rfl _ _ rfl rfl _ _ hrun2 ?_)
  go_returns
  exact ⟨_, rfl, by rw [hF.out]; exact hown2, H⟩
/-- What is checked: the two bytes behind it tell it. -/
theorem ok_two (F : Nat → B8) (n : Nat) (h2 : 2 ≤ n) : okF F n ↔ n8 (F (n - 2)) * 256 + n8 (F (n - 2 + 1)) = n16 (crcO F (n - 2)) := by
  obtain ⟨m, rfl⟩ : ∃ m, n = m + 2 := ⟨n - 2, by omega⟩
  rw [Nat.add_sub_cancel]
  have e1 : putF F m m = ((crcO F m) >>> 8).setWidth 8 := by simp [putF, cat, twoF]
  have e2 : putF F m (m + 1) = (crcO F m).setWidth 8 := by
    simp [putF, cat, twoF]
    omega
  have hh := two_bytes (crcO F m)
  constructor
  · intro h
    have h1 := crcN_two _ F (putF F m) (m + 2) m (by omega) (fun i h1 h2 h3 => by simp [putF, cat]; omega) (show crcO F (m + 2) = crcO (putF F m) (m + 2) by rw [h.2, put_zero])
    rw [h1.1, h1.2, e1, e2]
    exact hh
  · intro h
    refine ⟨by omega, ?_⟩
    rw [← hh] at h
    have a0 := n8_lt (F m)
    have a1 := n8_lt (F (m + 1))
    have a2 := n8_lt (((crcO F m) >>> 8).setWidth 8)
    have a3 := n8_lt ((crcO F m).setWidth 8)
    have b1 : n8 (F m) = n8 (((crcO F m) >>> 8).setWidth 8) := by omega
    have b2 : n8 (F (m + 1)) = n8 ((crcO F m).setWidth 8) := by omega
    rw [← put_zero F m]
    refine crcN_cong _ _ _ _ fun i hi => ?_
    by_cases h1 : i = m
    · subst h1; rw [e1]; exact n8_eq.1 b1
    · by_cases h3 : i = m + 1
      · subst h3; rw [e2]; exact n8_eq.1 b2
      · simp [putF, cat]; omega
set_option maxRecDepth 100000 in
set_option maxHeartbeats 2000000 in
theorem rtake_ok (q : Option Addr) (n c : Nat) (F : Nat → B8) (hc : n ≤ c) (hm : c ≤ maxLen) (h47 : n ≤ 1000000) (w : World) (hq : Byq w q n F) (h : okF F n) :
    Calls Try.prog 32 #[.slice q n c] w fun r w' => r = .returned (.tuple #[.slice q (n - 2) c, .int .i64 0]) ∧ Below w.heap.size w w' := by
  obtain ⟨k, rfl⟩ : ∃ k, n = k + 2 := ⟨n - 2, by have := h.1; omega⟩
  have h5 := (ok_two F (k + 2) h.1).1 h
  rw [Nat.add_sub_cancel] at h5 ⊢
  obtain ⟨g, o, rfl, B⟩ := hq (by omega)
  have hR : ∀ d os, Calls Try.prog 55 #[.slice (some ⟨g, o, none⟩) k c] (Go.Sort.grow (redrawn w d) os) fun r w' => r = .returned (.int .i64 (n16 (crcO F k))) ∧ (Go.Sort.grow (redrawn w d) os) = w' := fun d os => rof_c _ k c F (by omega) hm _ (Byq.of ((B.re d os).le (by omega)))
  have c0 : ∀ d os, (Go.Sort.grow (redrawn w d) os).cell? ⟨g, o + k, none⟩ = some (.int .u8 (n8 (F k))) := fun d os => (B.re d os) _ (by omega)
  have c1 : ∀ d os, (Go.Sort.grow (redrawn w d) os).cell? ⟨g, o + (k + 1), none⟩ = some (.int .u8 (n8 (F (k + 1)))) := fun d os => (B.re d os) _ (by omega)
  obtain ⟨x0, x1⟩ := n8_lt (F k)
  obtain ⟨y0, y1⟩ := n8_lt (F (k + 1))
  clear h
  replace h5 : Hid (n8 (F k) * 256 + n8 (F (k + 1)) = n16 (crcO F k)) := h5
  generalize n8 (F k) = x at *
  generalize n8 (F (k + 1)) = y at *
  generalize n16 (crcO F k) = z at *
  have i0 : (0 : Int) ≤ k := by omega
  have i1 : (k : Int) ≤ 1000000 := by omega
  go_enter Try.func32, Try.ntmps32
  have i2 : (k : Int) < (k : Int) + 2 := by omega
  have i3 : (k : Int) + 1 < (k : Int) + 2 := by omega
  go_upto_region 4 with (fail)
  refine wp_region_quiet_below (by kernel_rfl) (by kernel_rfl) ?_
  repeat (go_big_quiet_step (exact Calls.regrown_of (calls_bel (hR _ _))))
  refine wpQuiet_nil ?_
  intro w' hw'
  obtain ⟨rg, rfl⟩ := hw'
  have hne : (x * 256 + y != z) = false := by rw [h5.out]; simp
  go_wp2_with fail
  go_returns
  exact ⟨rfl, below_regrown _ _ _⟩
set_option maxRecDepth 100000 in
set_option maxHeartbeats 2000000 in
theorem rtake_sum (q : Option Addr) (n c : Nat) (F : Nat → B8) (hc : n ≤ c) (hm : c ≤ maxLen) (h47 : n ≤ 1000000) (w : World) (hq : Byq w q n F) (h : ¬ okF F n) (h2 : 2 ≤ n) :
    Calls Try.prog 32 #[.slice q n c] w fun r w' => r = .returned (.tuple #[.slice none 0 0, .int .i64 4]) ∧ Below w.heap.size w w' := by
  obtain ⟨k, rfl⟩ : ∃ k, n = k + 2 := ⟨n - 2, by omega⟩
  have h5 : ¬ (n8 (F k) * 256 + n8 (F (k + 1)) = n16 (crcO F k)) := fun h3 => h ((ok_two F (k + 2) h2).2 (by rw [Nat.add_sub_cancel]; exact h3))
  obtain ⟨g, o, rfl, B⟩ := hq (by omega)
  have hR : ∀ d os, Calls Try.prog 55 #[.slice (some ⟨g, o, none⟩) k c] (Go.Sort.grow (redrawn w d) os) fun r w' => r = .returned (.int .i64 (n16 (crcO F k))) ∧ (Go.Sort.grow (redrawn w d) os) = w' := fun d os => rof_c _ k c F (by omega) hm _ (Byq.of ((B.re d os).le (by omega)))
  have c0 : ∀ d os, (Go.Sort.grow (redrawn w d) os).cell? ⟨g, o + k, none⟩ = some (.int .u8 (n8 (F k))) := fun d os => (B.re d os) _ (by omega)
  have c1 : ∀ d os, (Go.Sort.grow (redrawn w d) os).cell? ⟨g, o + (k + 1), none⟩ = some (.int .u8 (n8 (F (k + 1)))) := fun d os => (B.re d os) _ (by omega)
  obtain ⟨x0, x1⟩ := n8_lt (F k)
  obtain ⟨y0, y1⟩ := n8_lt (F (k + 1))
  clear h
  replace h5 : Hid (¬ (n8 (F k) * 256 + n8 (F (k + 1)) = n16 (crcO F k))) := h5
  generalize n8 (F k) = x at *
  generalize n8 (F (k + 1)) = y at *
  generalize n16 (crcO F k) = z at *
  have i0 : (0 : Int) ≤ k := by omega
  have i1 : (k : Int) ≤ 1000000 := by omega
  go_enter Try.func32, Try.ntmps32
  have i2 : (k : Int) < (k : Int) + 2 := by omega
  have i3 : (k : Int) + 1 < (k : Int) + 2 := by omega
  go_upto_region 4 with (fail)
  refine wp_region_quiet_below (by kernel_rfl) (by kernel_rfl) ?_
  repeat (go_big_quiet_step (exact Calls.regrown_of (calls_bel (hR _ _))))
  refine wpQuiet_nil ?_
  intro w' hw'
  obtain ⟨rg, rfl⟩ := hw'
  have hne : (x * 256 + y != z) = true := by have := h5.out; simpa using this
  go_wp2_with fail
  go_returns
  exact ⟨rfl, below_regrown _ _ _⟩
theorem rtake_no (q : Option Addr) (n c : Nat) (F : Nat → B8) (hc : n ≤ c) (hm : c ≤ maxLen) (h47 : n ≤ 1000000) (w : World) (hq : Byq w q n F) (h : ¬ okF F n) (e : Int) (he : e = if n < 2 then 3 else 4) :
    Calls Try.prog 32 #[.slice q n c] w fun r w' => r = .returned (.tuple #[.slice none 0 0, .int .i64 e]) ∧ Below w.heap.size w w' := by
  subst he
  by_cases h2 : n < 2
  · have h2' : (n : Int) < 2 := by omega
    have h3 : ((n : Int) - 2) < 0 := by omega
    rw [if_pos h2]
    clear h h47 hc hm
    go_enter Try.func32, Try.ntmps32
    go_wp2_with fail
    go_returns
    exact ⟨rfl, Below.refl _ _⟩
  · rw [if_neg h2]
    exact rtake_sum q n c F hc hm h47 w hq h (by omega)
/-- A byte that is turned is found. -/
theorem one_ok (S : Nat → B8) (n k : Nat) (x : B8) (hk : k < n) (hS : okF S n) : okF (updB S k x) n ↔ x = S k := by
  have h2 := hS.1
  constructor
  · rintro ⟨_, h⟩
    by_cases h1 : k + 1 < n
    · have h3 := crcN_two _ (updB S k x) S n k h1 (fun i _ h1 h2 => by simp [updB, h1]) (h.trans hS.2.symm)
      simpa [updB] using h3.1
    · obtain ⟨j, rfl⟩ : ∃ j, k = j + 1 := ⟨k - 1, by omega⟩
      have h3 := crcN_two _ (updB S (j + 1) x) S n j (by omega) (fun i _ h1 h2 => by simp [updB, h2]) (h.trans hS.2.symm)
      simpa [updB] using h3.2
  · rintro rfl
    refine ⟨h2, ?_⟩
    rw [← hS.2]
    refine crcN_cong _ _ _ n fun i _ => ?_
    unfold updB
    split
    · subst_vars; rfl
    · rfl
end Go.Proofs.Ytkopenemoddbbaa

/- Bytes that are alike; what a disk's call leaves behind. -/
namespace Go.Proofs.Ytkopenemoddbbaa
open Go.RowKit Go.Maps
attribute [local go_sem] Oper.semAt_some

theorem bsOf_self' (b : Bs) : bsOf (fun i => b.getD i 0) b.length = b := by
  apply List.ext_getElem?
  intro i
  by_cases h : i < b.length
  · rw [bsOf_at h]; simp [h]
  · rw [List.getElem?_eq_none (by rw [bsOf_len]; omega), List.getElem?_eq_none (by omega)]
/-- Two slices that hold the same bytes. -/
theorem same_s {w : World} {b1 b2 : Nat} {s t : SL} (hs : GoodS w b1 s) (ht : GoodS w b2 t) (h : rdB w s = rdB w t) : Calls Try.prog 12 #[slV s, slV t] w fun r w' => r = .returned (.bool true) ∧ w = w' := by
  have h1 := hs.len
  have h2 := ht.len
  rw [h] at h1
  obtain ⟨q, n, c⟩ := s
  obtain ⟨q', n', c'⟩ := t
  dsimp only at h1 h2
  obtain rfl : n = n' := by omega
  exact same_t q n c _ q' c' _ (fun i _ => by rw [h]) w hs.byq ht.byq
/-- Bytes that are written out. -/
def litB (bs : Bs) : Array Value := (bs.map fun x => .int .u8 (n8 x)).toArray
theorem lit_good {w : World} {g base : Nat} {bs : Bs} (h : Blk w g 5 (litB bs)) (hl : bs.length ≤ 1000) : GoodS w base (some ⟨g, 0, none⟩, bs.length, bs.length) ∧ rdB w (some ⟨g, 0, none⟩, bs.length, bs.length) = bs := by
  have hB : Byt w g 0 bs.length (fun i => bs.getD i 0) := fun i hi => by
    rw [Nat.zero_add, h.cell]
    unfold litB
    simp [hi]
  exact ⟨⟨Nat.le_refl _, Nat.le_trans hl (by decide), fun _ => ⟨g, 0, _, rfl, hB, .inr ⟨_, h⟩⟩⟩, by rw [rdB_of hB, bsOf_self']⟩
theorem Turn.out {w w' : World} {base : Nat} {M : Nat → Prop} {d : Nat} {S S' : DS} (h : Turn w base M d S' w') (h0 : DiskIs w base M d S) (hb : base ≤ w.heap.size) : Below base w w' ∧ base ≤ w'.heap.size ∧ ∃ M', DiskIs w' base M' d S' := by
  have h1 := h.below h0 hb
  obtain ⟨M', h2, -, -⟩ := h
  exact ⟨h1, Nat.le_trans hb h1.size, M', h2⟩
theorem bel_alloc (w : World) (o : Obj) : Below w.heap.size w (w.alloc o) := (Below.refl _ _).alloc (Nat.le_refl _) o
theorem bel_alloc' {n : Nat} {w : World} (h : n ≤ w.heap.size) (o : Obj) : Below n w (w.alloc o) := (Below.refl _ _).alloc h o
/-- Bytes behind the first k of them. -/
theorem GoodS.drop {w : World} {base g o n c : Nat} (h : GoodS w base (some ⟨g, o, none⟩, n, c)) {k : Nat} (hk : k ≤ n) (q : Option Addr) (hq : k < n → q = some ⟨g, o + k, none⟩) : GoodS w base (q, n - k, c - k) ∧ rdB w (q, n - k, c - k) = (rdB w (some ⟨g, o, none⟩, n, c)).drop k := by
  have hcap : n ≤ c := h.cap
  have hmost : c ≤ maxLen := h.most
  by_cases h0 : k < n
  · obtain ⟨g', o', F, hq', hB, hg⟩ := h.lies (show 0 < n by omega)
    obtain ⟨rfl, rfl⟩ : g = g' ∧ o = o' := by simpa using hq'
    have hB2 : Byt w g (o + k) (n - k) (fun i => F (k + i)) := fun i hi => by
      have := hB (k + i) (show k + i < n by omega)
      rwa [← Nat.add_assoc] at this
    refine ⟨⟨show n - k ≤ c - k by omega, show c - k ≤ maxLen by omega, fun _ => ⟨g, o + k, _, hq h0, hB2, hg⟩⟩, ?_⟩
    have hB' : Byt w g o n F := hB
    rw [hq h0, rdB_of hB2, rdB_of hB']
    apply List.ext_getElem?
    intro i
    rw [List.getElem?_drop]
    by_cases hi : i < n - k
    · rw [bsOf_at hi, bsOf_at (by omega)]
    · rw [List.getElem?_eq_none (by rw [bsOf_len]; omega), List.getElem?_eq_none (by rw [bsOf_len]; omega)]
  · obtain rfl : k = n := by omega
    rw [Nat.sub_self]
    refine ⟨⟨Nat.zero_le _, show c - k ≤ maxLen by omega, fun h => absurd h (Nat.lt_irrefl 0)⟩, ?_⟩
    rw [rdB_zero, List.drop_eq_nil_of_le (by rw [h.len]; exact Nat.le_refl _)]
end Go.Proofs.Ytkopenemoddbbaa

/- Records: their bytes, and what bytes hold. No program in sight. -/
namespace Go.Proofs.Ytkopenemoddbbaa
open Go.RowKit

theorem n8_ofInt (x : Int) : n8 (BitVec.ofInt 8 x) = x % 256 := by
  unfold n8
  rw [BitVec.toNat_ofInt]
  omega
/-- A number's bytes, the highest first. -/
def digF (n : Int) (many : Nat) (i : Nat) : B8 := BitVec.ofInt 8 (n / 256 ^ (many - 1 - i))
/-- The number of bytes. -/
def numF (F : Nat → B8) (k : Nat) : Nat → Int
  | 0 => 0
  | n + 1 => numF F k n * 256 + n8 (F (k + n))
theorem num_cong {F G : Nat → B8} {k j : Nat} : ∀ {n : Nat}, (∀ i, i < n → F (k + i) = G (j + i)) → numF F k n = numF G j n
  | 0, _ => rfl
  | n + 1, h => by
    unfold numF
    rw [num_cong (fun i hi => h i (by omega)), h n (by omega)]
theorem num_lo (F : Nat → B8) (k : Nat) : ∀ n, 0 ≤ numF F k n
  | 0 => Int.le_refl _
  | n + 1 => by
    have h1 := num_lo F k n
    have h2 := n8_lt (F (k + n))
    unfold numF
    omega
theorem num3 (F : Nat → B8) (k : Nat) : numF F k 3 < 16777216 := by
  have h0 := n8_lt (F (k + 0))
  have h1 := n8_lt (F (k + 1))
  have h2 := n8_lt (F (k + 2))
  simp only [numF]
  omega
theorem num4 (F : Nat → B8) (k : Nat) : numF F k 4 < 4294967296 := by
  have h0 := n8_lt (F (k + 0))
  have h1 := n8_lt (F (k + 1))
  have h2 := n8_lt (F (k + 2))
  have h3 := n8_lt (F (k + 3))
  simp only [numF]
  omega
theorem num_dig4 {n : Int} (h0 : 0 ≤ n) (h1 : n < 4294967296) : numF (digF n 4) 0 4 = n := by
  simp only [numF, digF, n8_ofInt, Nat.zero_add, Nat.add_zero, Nat.reduceSub, Int.reducePow]
  omega
theorem num_dig3 {n : Int} (h0 : 0 ≤ n) (h1 : n < 16777216) : numF (digF n 3) 0 3 = n := by
  simp only [numF, digF, n8_ofInt, Nat.zero_add, Nat.add_zero, Nat.reduceSub, Int.reducePow]
  omega

/-! ### lists of bytes -/
abbrev fb (b : Bs) : Nat → B8 := fun i => b.getD i 0
theorem fb_bs (F : Nat → B8) {n i : Nat} (h : i < n) : fb (bsOf F n) i = F i := by
  unfold fb
  rw [List.getD_eq_getElem?_getD, bsOf_at h]; rfl
theorem crc_cong {F G : Nat → B8} {n : Nat} (h : ∀ i, i < n → F i = G i) : crcO F n = crcO G n := crcN_cong _ _ _ n h
theorem okF_cong {F G : Nat → B8} {n : Nat} (h : ∀ i, i < n → F i = G i) : okF F n ↔ okF G n := by
  unfold okF
  rw [crc_cong h]
/-- A record's first seven bytes; all of them. -/
def headF (v n : Int) : Nat → B8 := cat (digF v 4) 4 (digF n 3)
def recF (v : Int) (F : Nat → B8) (n : Nat) : Nat → B8 := putF (cat (headF v n) 7 F) (7 + n)
def recB (v : Int) (b : Bs) : Bs := bsOf (recF v (fb b) b.length) (7 + b.length + 2)
theorem recB_len (v : Int) (b : Bs) : (recB v b).length = b.length + 9 := by unfold recB; rw [bsOf_len]; omega
open Classical in
/-- The record of bytes: its version, its body, or why there is none. -/
noncomputable def readL (b : Bs) : Int × Bs × Int :=
  if b.length < 2 then (0, [], 3)
  else if ¬ okF (fb b) b.length then (0, [], 4)
  else if b.length < 9 then (0, [], 3)
  else if numF (fb b) 0 4 < 1 ∨ 1073741824 < numF (fb b) 0 4 ∨ 65536 < numF (fb b) 4 3 ∨ numF (fb b) 4 3 ≠ (b.length : Int) - 9 then (0, [], 2)
  else (numF (fb b) 0 4, (b.take (b.length - 2)).drop 7, 0)
theorem read_short {b : Bs} (h : b.length < 2) : readL b = (0, [], 3) := by unfold readL; rw [if_pos h]
theorem read_sum {b : Bs} (h : ¬ b.length < 2) (h1 : ¬ okF (fb b) b.length) : readL b = (0, [], 4) := by unfold readL; rw [if_neg h, if_pos h1]
theorem read_low {b : Bs} (h1 : okF (fb b) b.length) (h2 : b.length < 9) : readL b = (0, [], 3) := by
  unfold readL
  rw [if_neg (by have := h1.1; omega), if_neg (by simpa using h1), if_pos h2]
theorem read_form {b : Bs} (h1 : okF (fb b) b.length) (h2 : ¬ b.length < 9) (h3 : numF (fb b) 0 4 < 1 ∨ 1073741824 < numF (fb b) 0 4 ∨ 65536 < numF (fb b) 4 3 ∨ numF (fb b) 4 3 ≠ (b.length : Int) - 9) : readL b = (0, [], 2) := by
  unfold readL
  rw [if_neg (by omega), if_neg (by simpa using h1), if_neg h2, if_pos h3]
theorem read_good {b : Bs} (h1 : okF (fb b) b.length) (h2 : ¬ b.length < 9) (h3 : ¬ (numF (fb b) 0 4 < 1 ∨ 1073741824 < numF (fb b) 0 4 ∨ 65536 < numF (fb b) 4 3 ∨ numF (fb b) 4 3 ≠ (b.length : Int) - 9)) : readL b = (numF (fb b) 0 4, (b.take (b.length - 2)).drop 7, 0) := by
  unfold readL
  rw [if_neg (by omega), if_neg (by simpa using h1), if_neg h2, if_neg h3]
/-- What is known of any answer. -/
theorem read_cases (b : Bs) : (((readL b).2.2 = 3 ∨ (readL b).2.2 = 4 ∨ (readL b).2.2 = 2) ∧ (readL b).1 = 0 ∧ (readL b).2.1 = []) ∨
    ((readL b).2.2 = 0 ∧ 1 ≤ (readL b).1 ∧ (readL b).1 ≤ 1073741824 ∧ okF (fb b) b.length ∧ 9 ≤ b.length ∧ numF (fb b) 0 4 = (readL b).1 ∧ numF (fb b) 4 3 = (b.length : Int) - 9 ∧ (readL b).2.1 = (b.take (b.length - 2)).drop 7 ∧ (readL b).2.1.length = b.length - 9) := by
  by_cases h1 : b.length < 2
  · rw [read_short h1]; exact .inl ⟨.inl rfl, rfl, rfl⟩
  · by_cases h2 : okF (fb b) b.length
    · by_cases h3 : b.length < 9
      · rw [read_low h2 h3]; exact .inl ⟨.inl rfl, rfl, rfl⟩
      · by_cases h4 : numF (fb b) 0 4 < 1 ∨ 1073741824 < numF (fb b) 0 4 ∨ 65536 < numF (fb b) 4 3 ∨ numF (fb b) 4 3 ≠ (b.length : Int) - 9
        · rw [read_form h2 h3 h4]; exact .inl ⟨.inr (.inr rfl), rfl, rfl⟩
        · rw [read_good h2 h3 h4]
          exact .inr ⟨rfl, by dsimp only; omega, by dsimp only; omega, h2, by omega, rfl, by omega, rfl, by simp; omega⟩
    · rw [read_sum h1 h2]; exact .inl ⟨.inr (.inl rfl), rfl, rfl⟩
theorem rec_head (v : Int) (F : Nat → B8) (n i : Nat) (h : i < 7) : recF v F n i = headF v n i := by
  unfold recF putF
  simp only [cat]
  rw [if_pos (show i < 7 + n by omega), if_pos h]
theorem rec_body (v : Int) (F : Nat → B8) (n i : Nat) (h : i < n) : recF v F n (7 + i) = F i := by
  unfold recF putF
  simp only [cat]
  rw [if_pos (show 7 + i < 7 + n by omega), if_neg (by omega), Nat.add_sub_cancel_left]
theorem rec_num4 (v : Int) (F : Nat → B8) (n : Nat) : numF (recF v F n) 0 4 = numF (digF v 4) 0 4 := num_cong fun i hi => by
  rw [rec_head v F n (0 + i) (by omega)]
  simp only [headF, cat]
  rw [if_pos (by omega)]
theorem rec_num3 (v : Int) (F : Nat → B8) (n : Nat) : numF (recF v F n) 4 3 = numF (digF n 3) 0 3 := num_cong fun i hi => by
  rw [rec_head v F n (4 + i) (by omega)]
  simp only [headF, cat]
  rw [if_neg (by omega)]
  congr 1
  omega
/-- What is written is read as it was. -/
theorem read_rec {v : Int} {b : Bs} (h1 : 1 ≤ v) (h2 : v ≤ 1073741824) (h3 : b.length ≤ 65536) : readL (recB v b) = (v, b, 0) := by
  have hl := recB_len v b
  have hf : ∀ i, i < b.length + 9 → fb (recB v b) i = recF v (fb b) b.length i := fun i hi => by unfold recB; exact fb_bs _ (by omega)
  have hok : okF (fb (recB v b)) (recB v b).length := by
    rw [hl, okF_cong hf]
    have := put_ok (cat (headF v b.length) 7 (fb b)) (7 + b.length)
    rw [show 7 + b.length + 2 = b.length + 9 by omega] at this
    exact this
  have e4 : numF (fb (recB v b)) 0 4 = v := by
    rw [num_cong (F := fb (recB v b)) (G := recF v (fb b) b.length) (j := 0) (fun i hi => hf _ (by omega)), rec_num4, num_dig4 (by omega) (by omega)]
  have e3 : numF (fb (recB v b)) 4 3 = b.length := by
    rw [num_cong (F := fb (recB v b)) (G := recF v (fb b) b.length) (j := 4) (fun i hi => hf _ (by omega)), rec_num3, num_dig3 (by omega) (by omega)]
  rw [read_good hok (by omega) (by rw [e4, e3, hl]; omega), e4]
  refine Prod.ext rfl (Prod.ext ?_ rfl)
  dsimp only
  apply List.ext_getElem?
  intro i
  rw [List.getElem?_drop, hl]
  by_cases hi : i < b.length
  · rw [List.getElem?_take_of_lt (by omega)]
    unfold recB
    rw [bsOf_at (by omega), rec_body _ _ _ _ hi]
    simp [hi]
  · rw [List.getElem?_eq_none (by simp; omega), List.getElem?_eq_none (by omega)]
/-- A record of which one byte is another one is none. -/
theorem read_turned {v : Int} {b : Bs} {k : Nat} {x : B8} (hk : k < b.length + 9) (hx : x ≠ (recB v b).getD k 0) : (readL ((recB v b).set k x)).2.2 ≠ 0 := by
  intro h0
  rcases read_cases ((recB v b).set k x) with ⟨h, -, -⟩ | ⟨-, -, -, h, -⟩
  · omega
  · rw [List.length_set, recB_len] at h
    have hS : okF (fb (recB v b)) (b.length + 9) := by
      have := put_ok (cat (headF v b.length) 7 (fb b)) (7 + b.length)
      rw [show 7 + b.length + 2 = b.length + 9 by omega] at this
      rw [okF_cong (G := recF v (fb b) b.length) (fun i hi => by unfold recB; exact fb_bs _ (by omega))]
      exact this
    have h1 : okF (updB (fb (recB v b)) k x) (b.length + 9) := by
      rw [okF_cong (G := fb ((recB v b).set k x)) fun i hi => ?_]
      · exact h
      · unfold updB fb
        rw [List.getD_eq_getElem?_getD, List.getD_eq_getElem?_getD, List.getElem?_set]
        by_cases e : k = i
        · subst e; simp [recB_len, hk]
        · have e' : ¬ i = k := fun h => e h.symm
          simp [e, e']
    exact hx ((one_ok _ _ _ _ hk hS).1 h1)
/-- A record that is torn is none. -/
theorem read_torn {v : Int} {b : Bs} {k : Nat} (h3 : b.length ≤ 65536) (hk : k < b.length + 9) : (readL ((recB v b).take k)).2.2 ≠ 0 := by
  intro h0
  have hl : ((recB v b).take k).length = k := by rw [List.length_take, recB_len]; omega
  rcases read_cases ((recB v b).take k) with ⟨h, -, -⟩ | ⟨-, -, -, -, h9, -, e3, -⟩
  · omega
  · rw [hl] at h9 e3
    have : numF (fb ((recB v b).take k)) 4 3 = b.length := by
      rw [num_cong (F := fb ((recB v b).take k)) (G := recF v (fb b) b.length) (j := 4) (fun i hi => ?_), rec_num3, num_dig3 (by omega) (by omega)]
      unfold fb
      rw [List.getD_eq_getElem?_getD, List.getElem?_take_of_lt (by omega)]
      unfold recB
      rw [bsOf_at (by omega)]; rfl
    omega
end Go.Proofs.Ytkopenemoddbbaa
