/- What is under way is lost, but the first bytes. -/
import Derived.Test.YtkopenemoddbbaaDisk5
import Derived.Test.YtkopenemoddbbaaReg
namespace Go.Proofs.Ytkopenemoddbbaa
open Go.RowKit Go.Maps
attribute [local go_sem] Oper.semAt_some

def crashR : List (Int × SL) → List (Int × SL) → Nat → List (Int × SL)
  | s, [], _ => s
  | s, w :: r, k => if w.2.2.1 ≤ k then crashR (putL s w) r (k - w.2.2.1) else putL s (w.1, (w.2.1, k, w.2.2.2))
theorem crashR_good {w : World} {base : Nat} : ∀ {l s : List (Int × SL)} {k : Nat}, GoodL w base s → GoodL w base l → GoodL w base (crashR s l k) ∧ cont w (crashR s l k) = crashL (cont w s) (cont w l) k
  | [], s, k, hs, _ => ⟨hs, rfl⟩
  | p :: r, s, k, hs, hl => by
    obtain ⟨pk, pq, pn, pc⟩ := p
    have hp := hl _ List.mem_cons_self
    have hlen := hp.len
    dsimp only at hp hlen
    have hr : GoodL w base r := fun p hp => hl p (List.mem_cons_of_mem _ hp)
    unfold crashR
    have e : cont w ((pk, pq, pn, pc) :: r) = (pk, rdB w (pq, pn, pc)) :: cont w r := rfl
    rw [e]
    unfold crashL
    dsimp only
    rw [hlen]
    split
    · rename_i h
      obtain ⟨h1, h2⟩ := crashR_good (l := r) (s := putL s (pk, pq, pn, pc)) (k := k - pn) (hs.put hp) hr
      exact ⟨h1, by rw [h2, cont_put]⟩
    · rename_i h
      obtain ⟨h1, h2⟩ := hp.cut (k := k) (by dsimp only; omega)
      exact ⟨hs.put h1, by rw [cont_put, h2]⟩
theorem keep_is (S : DS) (n : Int) : mnI (mxI n 0) (lenB S.l : Int) = (keepB S n : Int) := by
  unfold mnI mxI keepB
  omega
set_option maxRecDepth 100000 in
set_option maxHeartbeats 8000000 in
theorem crash_c (base d : Nat) (M : Nat → Prop) (S : DS) (N : Nat) (w : World) (h : DiskIs w base M d S) (hok : DOk S N 1000000) (hN : N ≤ 100000) (n : Int) :
    Calls Try.prog 44 #[.pointer (some ⟨d, 0, none⟩), .int .i64 n] w fun r w' => r = .returned (.int .i64 (S.crash n).2) ∧ Turn w base M d (S.crash n).1 w' := by
  have hmn := @run_mn Try.prog
  have hmx := @run_mx Try.prog
  have HLF := Lib.hid fun W hW => left_c base d M S N W (h.on hW) hok hN
  obtain ⟨bm, v, sv, lv, hD, hM⟩ := h
  have hki := keep_is S n
  have hkl : keepB S n ≤ lenB S.l := Nat.min_le_right _ _
  have hle : lenB S.l ≤ 100000000000 := by
    refine Nat.le_trans (lenB_le (M := 1000000) fun p hp => hok.size p (List.mem_append.2 (.inr hp))) ?_
    have := hok.many
    rw [hD.l, cont_len] at this ⊢; omega
  have he2 : (S.crash n).2 = (lenB S.l : Int) - (keepB S n : Int) := by unfold DS.crash; dsimp only; omega
  obtain ⟨hr, hkeys, hcnt, -, -, -, -⟩ := hD.facts hok
  obtain ⟨g1, g2⟩ := crashR_good (k := keepB S n) hD.gs hD.gl
  have HX : Hid (GoodL w base (crashR sv lv (keepB S n)) ∧ (S.crash n).1.safe = cont w (crashR sv lv (keepB S n))) := Lib.hid ⟨g1, by rw [g2, ← hD.safe, ← hD.l]; rfl⟩
  have hsz : ∀ p ∈ lv, p.2.2.1 ≤ 1000000 := fun p hp => by
    rw [← (hD.gl p hp).len]
    exact hok.size (p.1, rdB w p.2) (List.mem_append.2 (.inr (by rw [hD.l]; exact List.mem_map.2 ⟨p, hp, rfl⟩)))
  have hcap : ∀ p ∈ lv, p.2.2.1 ≤ p.2.2.2 ∧ p.2.2.2 ≤ maxLen := fun p hp => ⟨(hD.gl p hp).cap, (hD.gl p hp).most⟩
  rw [he2]
  obtain ⟨q, cap, rfl, hc1, hc2, hrd⟩ := row_form hD.row
  have d3 : w.cell? ⟨d, 3, none⟩ = some (.map (some bm)) := hD.blk.cell 3
  have d4 : w.cell? ⟨d, 4, none⟩ = some (.slice q lv.length cap) := hD.blk.cell 4
  have HD := Lib.hid hD
  have HM := Lib.hid hM
  have HR := Lib.hid hrd
  have HK := Lib.hid (And.intro hkeys (And.intro hsz hcap))
  have hmap := hD.map
  have hbd := hD.apart.2.2
  have hcz : lv.length ≤ 1000000 := by omega
  clear hD hM hrd hc1 hc2 hkeys hsz hcap g1 g2 he2
  generalize keepB S n = kp at *
  generalize lenB S.l = tot at *
  go_enter Try.func44, Try.ntmps44
  go_upto_region 2 with (go_at_call 23; refine (HLF.out _ (Below.refl _ _)).mono ?_; rintro e_ w1 ⟨rfl, h1⟩)
  go_upto_region 3 with (go_at_call 23; refine (HLF.out _ h1).mono ?_; rintro e_ w2 ⟨rfl, h2⟩)
  have h12 := after h1 h2
  have d3' : w2.cell? ⟨d, 3, none⟩ = some (.map (some bm)) := (h12.cell (p := ⟨d, 3, none⟩) HD.out.blk.lt).trans d3
  have d4' : w2.cell? ⟨d, 4, none⟩ = some (.slice q lv.length cap) := (h12.cell (p := ⟨d, 4, none⟩) HD.out.blk.lt).trans d4
  have hm2 := map_on hmap h12
  have HR2 : Hid (∀ i p, lv[i]? = some p → ∃ g, q = some ⟨g, 0, none⟩ ∧ w2.cell? ⟨g, i * 2, none⟩ = some (.int .i64 p.1) ∧ w2.cell? ⟨g, i * 2 + 1, none⟩ = some (slV p.2)) := Lib.hid fun i p hp => by
    obtain ⟨g, e, r0, r1⟩ := HR.out i p hp
    exact ⟨g, e, (h12.cell (p := ⟨g, i * 2, none⟩) (cell_lt r0)).trans r0, (h12.cell (p := ⟨g, i * 2 + 1, none⟩) (cell_lt r1)).trans r1⟩
  have HQN : Hid (∀ g, q = some ⟨g, 0, none⟩ → g ≠ bm) := Lib.hid fun g e => by
    have := HD.out.apart.2.1
    rw [e] at this
    intro h; exact this (by rw [h]; rfl)
  have H12 := Lib.hid h12
  have hbl := hm2.lt
  have FIN : Hid (∀ W l, Kept (fun b => b ≠ bm) w2 W → W.ownsMap Try.prog 3 RS bm l.length (DM l) → crashR sv lv kp = l → Turn w base M d (S.crash n).1 (((W.setCell ⟨d, 4, none⟩ (.slice none 0 0)).setCell ⟨d, 1, none⟩ (.int .i64 0)).setCell ⟨d, 2, none⟩ (.int .i64 0))) := Lib.hid fun W l hk hm hl => by
    subst hl
    have k1 : Kept (fun b => b ≠ d ∧ b ≠ bm) w W := ((Kept.of_below h12).mono fun _ _ => trivial).trans (hk.mono fun _ h => h.2)
    have k2 := ((k1.setCell (p := ⟨d, 4, none⟩) (by simp) (.slice none 0 0)).setCell (p := ⟨d, 1, none⟩) (by simp) (.int .i64 0)).setCell (p := ⟨d, 2, none⟩) (by simp) (.int .i64 0)
    have k3 : Kept (fun b => b ≠ d) W (((W.setCell ⟨d, 4, none⟩ (.slice none 0 0)).setCell ⟨d, 1, none⟩ (.int .i64 0)).setCell ⟨d, 2, none⟩ (.int .i64 0)) := (((Kept.refl _ _).setCell (by simp) _).setCell (by simp) _).setCell (by simp) _
    have hb : Blk W d 90 _ := hk.blk (Ne.symm hbd) (HD.out.blk.on h12)
    have hbyte : ∀ b, ByteBlk w base b → b ≠ d ∧ b ≠ bm := fun b hB => ⟨fun e => HD.out.byte hB (.inl e), fun e => HD.out.byte hB (.inr (.inl e))⟩
    obtain ⟨g3, g4⟩ := HX.out.1.kept k2 hbyte
    refine ⟨Mine d bm (.slice none 0 0), ⟨bm, _, _, [], ⟨((hb.set_ 4 _).set_ 1 _).set_ 2 _, map_kept hm (k3.block _ hm.lt hbd), Owns.nil, HD.out.based, HD.out.basem, g3, fun p hp => (by cases hp), by rw [g4]; exact HX.out.2, rfl⟩, fun b => Iff.rfl⟩, fun b hb => ?_, k2.mono fun b hb => ⟨fun e => hb ((HM.out b).2 (.inl e)), fun e => hb ((HM.out b).2 (.inr (.inl e)))⟩⟩
    rcases hb with hb | hb | hb
    · exact .inl ((HM.out b).2 (.inl hb))
    · exact .inl ((HM.out b).2 (.inr (.inl hb)))
    · cases hb
  have HB2 := Lib.hid (HD.out.blk.on h12)
  clear d3 d4 hmap h1 h2 h12 HR HLF hki
  go_upto_region 4 with (fail)
  go_loopw [1, 23] (fun x i wr => ∃ (k : Nat) (s : List (Int × SL)) (kk : Nat), k ≤ lv.length ∧ i = .int .i64 k ∧ x = .int .i64 kk ∧ kk ≤ kp ∧ Hid (Rise s) ∧ wr.ownsMap Try.prog 3 RS bm s.length (DM s) ∧ Hid (crashR sv lv kp = crashR s (lv.drop k) kk) ∧ s.length ≤ sv.length + k ∧ Hid (Kept (fun b => b ≠ bm) w2 wr)) (fun _ i _ => lv.length - (intOf i).toNat)
  case atStart => exact ⟨0, sv, kp, Nat.zero_le _, rfl, rfl, Nat.le_refl _, Lib.hid hr, hm2, Lib.hid rfl, Nat.le_refl _, Lib.hid (Kept.refl _ _)⟩
  case round =>
    obtain ⟨k, s, kk, hk, rfl, rfl, hkk, HRS, hms, HCR, hsl, HKP⟩ := hrel
    have c3 : wr.cell? ⟨d, 3, none⟩ = some (.map (some bm)) := by rw [World.cell?_of_block (a := ⟨d, 3, none⟩) (HKP.out.block d (cell_lt d3') (Ne.symm hbd))]; exact d3'
    have c4 : wr.cell? ⟨d, 4, none⟩ = some (.slice q lv.length cap) := by rw [World.cell?_of_block (a := ⟨d, 4, none⟩) (HKP.out.block d (cell_lt d4') (Ne.symm hbd))]; exact d4'
    by_cases hlt : k < lv.length
    · obtain ⟨p, hp⟩ := lt_at hlt
      obtain ⟨g, rfl, r0, r1⟩ := HR2.out k p hp
      have hgb := HQN.out g rfl
      have r0' : wr.cell? ⟨g, k * 2, none⟩ = some (.int .i64 p.1) := by rw [World.cell?_of_block (a := ⟨g, k * 2, none⟩) (HKP.out.block g (cell_lt r0) hgb)]; exact r0
      have r1' : wr.cell? ⟨g, k * 2 + 1, none⟩ = some (slV p.2) := by rw [World.cell?_of_block (a := ⟨g, k * 2 + 1, none⟩) (HKP.out.block g (cell_lt r1) hgb)]; exact r1
      have hdr : lv.drop k = p :: lv.drop (k + 1) := by
        rw [List.drop_eq_getElem_cons hlt]
        rw [List.getElem?_eq_getElem hlt] at hp
        rw [Option.some.inj hp]
      have hkey := key64 (HK.out.1 p (List.mem_of_getElem? hp))
      have hps := HK.out.2.1 p (List.mem_of_getElem? hp)
      have hpc := HK.out.2.2 p (List.mem_of_getElem? hp)
      obtain ⟨pk, pq, pn, pc⟩ := p
      simp only [slV] at r0' r1' hkey hps hpc
      rw [hdr] at HCR
      clear r0 r1 hp hdr hgb
      have hk1 : (k : Int) < (lv.length : Int) := by omega
      have hk0 : (0 : Int) ≤ (k : Int) := by omega
      have hpc1 := hpc.1
      clear hpc
      by_cases hfit : pn ≤ kk
      · have hmi : mnI (pn : Int) (kk : Int) = pn := by unfold mnI; omega
        have hcr : Hid (crashR sv lv kp = crashR (putL s (pk, pq, pn, pc)) (lv.drop (k + 1)) (kk - pn)) := Lib.hid (by rw [HCR.out]; show (if pn ≤ kk then _ else _) = _; rw [if_pos hfit])
        go_upto_region 7 with (fail)
        generalize hV : World.alloc wr _ = wa
        have X : Blk wa wr.heap.size 92 #[.int .i64 pk, .slice pq pn pc] := Blk.eqw hV (Blk.new' rfl)
        have ha : Below wr.heap.size wr wa := by rw [← hV]; exact (Below.refl _ _).alloc (Nat.le_refl _) _
        have hgx : wr.heap.size ≠ bm := by have := hms.lt; omega
        generalize wr.heap.size = gx at X hgx ⊢
        have q3 := fun d' os => cell_regrown (show wa.cell? ⟨d, 3, none⟩ = some (.map (some bm)) from (cell_below ha (p := ⟨d, 3, none⟩) (cell_lt c3)).trans c3) d' os
        have x0 := fun d' os => (X.re d' os).cell 0
        have x1 := fun d' os => (X.re d' os).cell 1
        have HMA := Lib.hid (map_on hms ha)
        clear hV c3 c4 r0' r1'
        refine wp_reg 10 (by kernel_rfl) (Nat.le_of_ble_eq_true (by kernel_rfl)) (by kernel_rfl) ?_
        simp only [List.take_succ_cons, List.take_zero, List.drop_succ_cons, List.drop_zero]
        repeat (refine wpRel_step (fun K hK => ?_); go_simp; first | (refine hK _ ?_; clear hK K) | (apply Exists.intro; refine ⟨fun _ => ?_, hK _ ?_⟩; (fail); clear hK K))
        refine wpRel_nil ?_
        intro W7 h7
        have hm7 := map_on HMA.out h7
        clear q3 x0 x1
        go_upto_region 8 with (at_mapUpdate; refine wpList_mapUpdate_own _ rfl _ _ _ 87 rfl 3 22 lawI Try.underlying87 _ bm s.length _ rfl hm7 (by unfold maxLen; omega) _ _ _ rfl rfl hkey _ [] (RS_mk (pq, pn, pc)) ?_; intro w8 hown8 hgr8)
        have k8 : Kept (fun b => b ≠ bm) W7 w8 := ⟨hgr8.os, hgr8.tape, hgr8.output, hgr8.size, fun b hb hK => hgr8.block b hb (fun e => hK (Option.some.inj e))⟩
        have X8 := k8.blk hgx (X.on h7)
        have x1 := X8.cell 1
        rw [put_DM HRS.out] at hown8
        have hown9 := map_tight hown8
        have HK8 := Lib.hid (((HKP.out.on ha).on h7).trans k8)
        clear hm7 hown8 hgr8 k8 HMA h7 ha hms HKP
        have hi1 : -9223372036854775808 ≤ (kk : Int) - (pn : Int) := by omega
        have hi2 : (kk : Int) - (pn : Int) ≤ 9223372036854775807 := by omega
        have hnn : ¬ (pn < pn) := by omega
        have hsub : (kk : Int) - (pn : Int) = ((kk - pn : Nat) : Int) := by omega
        have HSB := Lib.hid hsub
        clear hsub
        go_wp2_with fail
        exact ⟨⟨k + 1, _, kk - pn, hlt, by go_num, by rw [HSB.out], by omega, Lib.hid (rise_putL HRS.out), hown9, hcr, by have := len_putL (pk, (pq, pn, pc)) s; omega, HK8⟩, next_less' hlt⟩
      · have hmi : mnI (pn : Int) (kk : Int) = kk := by unfold mnI; omega
        have hcr : Hid (crashR sv lv kp = putL s (pk, (pq, kk, pc))) := Lib.hid (by rw [HCR.out]; show (if pn ≤ kk then _ else _) = _; rw [if_neg hfit])
        have hkc : kk ≤ pc := by omega
        have hkp : kk ≤ pn := by omega
        go_upto_region 7 with (fail)
        generalize hV : World.alloc wr _ = wa
        have X : Blk wa wr.heap.size 92 #[.int .i64 pk, .slice pq pn pc] := Blk.eqw hV (Blk.new' rfl)
        have ha : Below wr.heap.size wr wa := by rw [← hV]; exact (Below.refl _ _).alloc (Nat.le_refl _) _
        have hgx : wr.heap.size ≠ bm := by have := hms.lt; omega
        generalize wr.heap.size = gx at X hgx ⊢
        have q3 := fun d' os => cell_regrown (show wa.cell? ⟨d, 3, none⟩ = some (.map (some bm)) from (cell_below ha (p := ⟨d, 3, none⟩) (cell_lt c3)).trans c3) d' os
        have x0 := fun d' os => (X.re d' os).cell 0
        have x1 := fun d' os => (X.re d' os).cell 1
        have HMA := Lib.hid (map_on hms ha)
        clear hV c3 c4 r0' r1'
        refine wp_reg 10 (by kernel_rfl) (Nat.le_of_ble_eq_true (by kernel_rfl)) (by kernel_rfl) ?_
        simp only [List.take_succ_cons, List.take_zero, List.drop_succ_cons, List.drop_zero]
        repeat (refine wpRel_step (fun K hK => ?_); go_simp; first | (refine hK _ ?_; clear hK K) | (apply Exists.intro; refine ⟨fun _ => ?_, hK _ ?_⟩; (fail); clear hK K))
        refine wpRel_nil ?_
        intro W7 h7
        have hm7 := map_on HMA.out h7
        clear q3 x0 x1
        go_upto_region 8 with (at_mapUpdate; refine wpList_mapUpdate_own _ rfl _ _ _ 87 rfl 3 22 lawI Try.underlying87 _ bm s.length _ rfl hm7 (by unfold maxLen; omega) _ _ _ rfl rfl hkey _ [] (RS_mk (pq, kk, pc)) ?_; intro w8 hown8 hgr8)
        have k8 : Kept (fun b => b ≠ bm) W7 w8 := ⟨hgr8.os, hgr8.tape, hgr8.output, hgr8.size, fun b hb hK => hgr8.block b hb (fun e => hK (Option.some.inj e))⟩
        have X8 := k8.blk hgx (X.on h7)
        have x1 := X8.cell 1
        rw [put_DM HRS.out] at hown8
        have hown9 := map_tight hown8
        have HK8 := Lib.hid (((HKP.out.on ha).on h7).trans k8)
        clear hm7 hown8 hgr8 k8 HMA h7 ha hms HKP
        have hi1 : -9223372036854775808 ≤ (kk : Int) - (kk : Int) := by omega
        have hi2 : (kk : Int) - (kk : Int) ≤ 9223372036854775807 := by omega
        have hnn : kk < pn := by omega
        go_upto_region 11 with (fail)
        have hb8 : Blk w8 d 90 _ := HK8.out.blk (Ne.symm hbd) HB2.out
        have y1 : w8.cell? ⟨d, 1, none⟩ = some (.int .i64 S.fails) := hb8.cell 1
        have y2 : w8.cell? ⟨d, 2, none⟩ = some (.int .i64 S.waits) := hb8.cell 2
        have y4 : w8.cell? ⟨d, 4, none⟩ = some (.slice (some ⟨g, 0, none⟩) lv.length cap) := hb8.cell 4
        have z1 := hb8.frz 1
        have z2 := hb8.frz 2
        have z4 := hb8.frz 4
        have HF := Lib.hid (FIN.out w8 _ HK8.out hown9 hcr.out)
        clear hown9 x1 X8 hb8
        go_wp2_with fail
        go_returns
        exact ⟨rfl, HF.out⟩
    · obtain rfl : k = lv.length := by omega
      have hkn : ¬ ((lv.length : Int) < (lv.length : Int)) := by omega
      have hb8 : Blk wr d 90 _ := HKP.out.blk (Ne.symm hbd) HB2.out
      have y1 : wr.cell? ⟨d, 1, none⟩ = some (.int .i64 S.fails) := hb8.cell 1
      have y2 : wr.cell? ⟨d, 2, none⟩ = some (.int .i64 S.waits) := hb8.cell 2
      have z1 := hb8.frz 1
      have z2 := hb8.frz 2
      have z4 := hb8.frz 4
      have HF := Lib.hid (FIN.out wr s HKP.out hms (by rw [HCR.out, List.drop_length]; rfl))
      clear hms hb8 c3
      go_wp2_with fail
      go_returns
      exact ⟨rfl, HF.out⟩
end Go.Proofs.Ytkopenemoddbbaa
