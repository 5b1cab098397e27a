/- The document's disk: what is under way is lost, but the first bytes. -/
import Derived.Test.YtlmjggbpophnfaaDRef5
namespace Go.Proofs.Ytlmjggbpophnfaa
open Go.RowKit Go.Maps
attribute [local go_sem] Oper.semAt_some

set_option maxRecDepth 100000 in
set_option maxHeartbeats 8000000 in
theorem rcrash_c (base : Nat) (a b : SL) (S : DS) (sl ll : List (Int × SL)) (N : Nat) (w : World) (h : RefAt w base a b S sl ll) (hok : DOk S N 1000000) (hN : N ≤ 100000) (n : Int) (hbase : base ≤ w.heap.size) :
    Calls Try.prog 30 #[.agg (dv S a b), .int .i64 n] w fun r w' => PutR base (S.crash n).1 (S.crash n).2 r w w' := by
  have hmn := @run_mn Try.prog
  have hmx := @run_mx Try.prog
  obtain ⟨hr, hcnt, -, -, -, -⟩ := h.facts hok
  have hki := keep_is S n
  have hkl : keepB S n ≤ lenB S.l := Nat.min_le_right _ _
  have hle : lenB S.l ≤ 100000000000 := by
    refine Nat.le_trans (lenB_le (M := 1000000) fun p hp => hok.size p (List.mem_append.2 (.inr hp))) ?_
    have := hok.many
    rw [h.l, cont_len] at this ⊢; omega
  have he2 : (S.crash n).2 = (lenB S.l : Int) - (keepB S n : Int) := by unfold DS.crash; dsimp only; omega
  obtain ⟨g1, g2⟩ := crashR_good (k := keepB S n) h.ga h.gb
  have HX : Hid (GoodL w base (crashR sl ll (keepB S n)) ∧ (S.crash n).1.safe = cont w (crashR sl ll (keepB S n))) := Lib.hid ⟨g1, by rw [g2, ← h.safe, ← h.l]; rfl⟩
  have hls : lens ll = lenB S.l := by rw [lens_is h.gb, ← h.l]
  have hsz : ∀ p ∈ ll, p.2.2.1 ≤ 1000000 := fun p hp => by
    rw [← (h.gb p hp).len]
    exact hok.size (p.1, rdB w p.2) (List.mem_append.2 (.inr (by rw [h.l]; exact List.mem_map.2 ⟨p, hp, rfl⟩)))
  have hcap : ∀ p ∈ ll, p.2.2.1 ≤ p.2.2.2 ∧ p.2.2.2 ≤ maxLen := fun p hp => ⟨(h.gb p hp).cap, (h.gb p hp).most⟩
  have HK := Lib.hid (And.intro hsz hcap)
  have HE := Lib.hid he2
  obtain ⟨W0, hW⟩ : ∃ W0, W0 = (w.alloc (.cells (dv S a b) 42)).alloc (.cells #[.int .i64 0, .int .i64 0, .int .i64 0, .slice none 0 0, .slice none 0 0] 42) := ⟨_, rfl⟩
  have hb0 : Below w.heap.size w W0 := by rw [hW]; go_grown
  have X0 : Blk W0 w.heap.size 42 (dv S a b) := by rw [hW]; exact (Blk.new' rfl).alloc _
  have Y0 : Blk W0 (w.heap.size + 1) 42 #[.int .i64 0, .int .i64 0, .int .i64 0, .slice none 0 0, .slice none 0 0] := by rw [hW]; exact Blk.new' (by simp)
  have HB0 := Lib.hid hb0
  have HR0 := Lib.hid (h.on hb0)
  obtain ⟨aq, an, ac⟩ := a
  obtain ⟨q, nb, c⟩ := b
  obtain rfl : nb = ll.length := h.rb.len
  have HLN := Lib.hid (rlen_c (q, ll.length, c) ll W0 HR0.out.rb (by omega) (by omega))
  clear h hb0 hsz hcap g1 g2 he2
  rw [hls] at HLN
  simp only [dv, slV] at hW X0 HLN ⊢
  generalize keepB S n = kp at *
  generalize lenB S.l = tot at *
  obtain ⟨gx, hgq⟩ : ∃ gx, gx = w.heap.size := ⟨_, rfl⟩
  rw [← hgq] at X0 Y0
  have HGQ := Lib.hid hgq
  go_enter Try.func30, Try.ntmps30
  go_upto_region 1 with (fail)
  rw [← hW, ← hgq]
  clear hW hgq hls
  obtain ⟨⟨x0, x1, x2, x3, x4⟩, -⟩ := X0.c5
  go_upto_region 5 with (go_at_call 35; refine HLN.out.mono ?_; rintro e_ w1 ⟨rfl, rfl⟩)
  have HBc := Lib.hid (And.intro HR0.out.rb HR0.out.ra)
  clear x0 x1 x2 x3 x4 hki
  go_loopw [7, 9] (fun x i wr => ∃ (k : Nat) (s : List (Int × SL)) (kk : Nat) (va : SL), k ≤ ll.length ∧ i = .int .i64 k ∧ x = .int .i64 kk ∧ kk ≤ kp ∧ Hid (Rise s) ∧ Blk wr gx 42 #[.int .i64 S.room, .int .i64 S.fails, .int .i64 S.waits, slV va, .slice q ll.length c] ∧ Hid (RowR wr va s) ∧ Hid (crashR sl ll kp = crashR s (ll.drop k) kk) ∧ s.length ≤ sl.length + k ∧ Hid (Kept (fun b => b ≠ gx) W0 wr)) (fun _ i _ => ll.length - (intOf i).toNat)
  case atStart => exact ⟨0, sl, kp, (aq, an, ac), Nat.zero_le _, rfl, rfl, Nat.le_refl _, Lib.hid hr, X0, Lib.hid HBc.out.2, Lib.hid rfl, Nat.le_refl _, Lib.hid (Kept.refl _ _)⟩
  case round =>
    obtain ⟨k, s, kk, va, hk, rfl, rfl, hkk, HRS, X, HRV, HCR, hsl, HKP⟩ := hrel
    obtain ⟨vq, vn, vc⟩ := va
    simp only [slV] at X
    have hgw : gx < wr.heap.size := X.lt
    have FIN : Hid (∀ W v l, Kept (fun b => b ≠ gx) W0 W → Blk W gx 42 #[.int .i64 S.room, .int .i64 0, .int .i64 0, slV v, .slice none 0 0] → RowR W v l → crashR sl ll kp = l → Below w.heap.size w W ∧ Blk W (gx + 1) 42 #[.int .i64 0, .int .i64 0, .int .i64 0, .slice none 0 0, .slice none 0 0] ∧ RefAt W base v (none, 0, 0) (S.crash n).1 l []) := Lib.hid fun W v l hk hX hR hl => by
      subst hl
      have hB : Below w.heap.size w W := HB0.out.trans (hk.below (by have := HB0.out.size; omega) (fun b hb e => by have := HGQ.out; omega))
      obtain ⟨g3, g4⟩ := HX.out.1.on hB
      exact ⟨hB, hk.blk (by omega) Y0, hR, RowR.nil, g3, fun p hp => (by cases hp), by rw [g4]; exact HX.out.2, rfl⟩
    by_cases hlt : k < ll.length
    · obtain ⟨p, hp⟩ := lt_at hlt
      obtain ⟨g, cur, hq, hC, hrow⟩ := HBc.out.1.lies (by omega)
      dsimp only at hq
      subst hq
      obtain ⟨r0, r1⟩ := hrow k p hp
      have hgg : g ≠ gx := fun e => by subst e; have := blk_one hC X0; revert this; decide
      have r0' : wr.cell? ⟨g, k * 2, none⟩ = some (.int .i64 p.1) := by rw [World.cell?_of_block (a := ⟨g, k * 2, none⟩) (HKP.out.block g (cell_lt r0) hgg)]; exact r0
      have r1' : wr.cell? ⟨g, k * 2 + 1, none⟩ = some (slV p.2) := by rw [World.cell?_of_block (a := ⟨g, k * 2 + 1, none⟩) (HKP.out.block g (cell_lt r1) hgg)]; exact r1
      have hdr : ll.drop k = p :: ll.drop (k + 1) := by
        rw [List.drop_eq_getElem_cons hlt]
        rw [List.getElem?_eq_getElem hlt] at hp
        rw [Option.some.inj hp]
      have hps := HK.out.1 p (List.mem_of_getElem? hp)
      have hpc := HK.out.2 p (List.mem_of_getElem? hp)
      obtain ⟨pk, pq, pn, pc⟩ := p
      simp only [slV] at r0' r1' hps hpc
      rw [hdr] at HCR
      clear r0 r1 hp hdr hgg hrow hC
      obtain ⟨⟨x0, x1, x2, x3, x4⟩, -⟩ := X.c5
      have hk1 : (k : Int) < (ll.length : Int) := by omega
      have hk0 : (0 : Int) ≤ (k : Int) := by omega
      have hi3 : (k : Int) + 1 ≤ 9223372036854775807 := by omega
      have hi4 : -9223372036854775808 ≤ (k : Int) + 1 := by omega
      have hpc1 := hpc.1
      clear hpc
      by_cases hfit : pn ≤ kk
      · have hcr : Hid (crashR sl ll kp = crashR (putL s (pk, pq, pn, pc)) (ll.drop (k + 1)) (kk - pn)) := Lib.hid (by rw [HCR.out]; show (if pn ≤ kk then _ else _) = _; rw [if_pos hfit])
        have hfi : (pn : Int) ≤ (kk : Int) := by omega
        go_upto_region 8 with (fail)
        generalize hV : World.alloc wr _ = wa
        have U : Blk wa wr.heap.size 75 #[.int .i64 pk, .slice pq pn pc] := Blk.eqw hV (Blk.new' rfl)
        have ha : Below wr.heap.size wr wa := by rw [← hV]; exact (Below.refl _ _).alloc (Nat.le_refl _) _
        have hgu : gx < wr.heap.size := hgw
        generalize wr.heap.size = gu at U hgu ⊢
        replace X := X.on ha
        have HLY := Lib.hid (rlay_c (vq, vn, vc) s pk (pq, pn, pc) wa (HRV.out.on ha) HRS.out (by omega))
        simp only [slV] at HLY
        clear hV x0 x1 x2 x3 x4 r0' r1'
        have u0 := U.cell 0
        have u1 := U.cell 1
        obtain ⟨⟨x0, x1, x2, x3, x4⟩, f0, f1, f2, f3, f4⟩ := X.c5
        have hi1 : -9223372036854775808 ≤ (kk : Int) - (pn : Int) := by omega
        have hi2 : (kk : Int) - (pn : Int) ≤ 9223372036854775807 := by omega
        have HSB := Lib.hid (show (kk : Int) - (pn : Int) = ((kk - pn : Nat) : Int) by omega)
        go_wp2_with (go_at_call 39; refine HLY.out.mono ?_; rintro e_ w2 ⟨v, rfl, ho, h2⟩; obtain ⟨⟨b1, b2, b3⟩, rfl, hRN⟩ := RowR.of ho; simp only [slV]; clear x0 x1 x2 x3 x4 f0 f1 f2 f3 f4; replace X := X.on h2; obtain ⟨⟨x0, x1, x2, x3, x4⟩, f0, f1, f2, f3, f4⟩ := X.c5)
        have X9 := X.set_ 3 (.slice b1 b2 b3)
        have K9 : Kept (fun b => b ≠ gx) w2 (w2.setCell ⟨gx, 3, none⟩ (.slice b1 b2 b3)) := (Kept.refl _ _).setCell (by simp) _
        have hRN9 := hRN.kept (w' := w2.setCell ⟨gx, 3, none⟩ (.slice b1 b2 b3)) fun g cur hB => K9.blk (fun e => by subst e; have := blk_one hB X; revert this; decide) hB
        exact ⟨⟨k + 1, _, kk - pn, (b1, b2, b3), hlt, by go_num, by rw [HSB.out], by omega, Lib.hid (rise_putL HRS.out), X9, Lib.hid hRN9, hcr, by have := len_putL (pk, (pq, pn, pc)) s; omega, Lib.hid (((HKP.out.on ha).on h2).trans K9)⟩, next_less' hlt⟩
      · have hcr : Hid (crashR sl ll kp = putL s (pk, (pq, kk, pc))) := Lib.hid (by rw [HCR.out]; show (if pn ≤ kk then _ else _) = _; rw [if_neg hfit])
        have hfi : ¬ (pn : Int) ≤ (kk : Int) := by omega
        have hkc : kk ≤ pc := by omega
        have hkp : kk ≤ pn := by omega
        go_upto_region 8 with (fail)
        generalize hV : World.alloc wr _ = wa
        have U : Blk wa wr.heap.size 75 #[.int .i64 pk, .slice pq pn pc] := Blk.eqw hV (Blk.new' rfl)
        have ha : Below wr.heap.size wr wa := by rw [← hV]; exact (Below.refl _ _).alloc (Nat.le_refl _) _
        have hgu : gx < wr.heap.size := hgw
        generalize wr.heap.size = gu at U hgu ⊢
        replace X := X.on ha
        have HLY : Hid (∀ W, Below wa.heap.size wa W → Calls Try.prog 39 #[.slice vq vn vc, .agg #[.int .i64 pk, .slice pq kk pc]] W fun r w' => ∃ u, r = .returned u ∧ (Kept (fun _ => True) W w' ∧ RowV (putL s (pk, (pq, kk, pc))) u w')) := Lib.hid fun W hW => by
          refine (rlay_c (vq, vn, vc) s pk (pq, kk, pc) W ((HRV.out.on ha).on hW) HRS.out (by omega)).mono ?_
          rintro r w' ⟨v, rfl, ho, hb⟩
          obtain ⟨a2, rfl, hr2⟩ := RowR.of ho
          exact ⟨_, rfl, (Kept.of_below hb).mono fun _ _ => trivial, a2, rfl, hr2⟩
        clear hV x0 x1 x2 x3 x4 r0' r1'
        have u1 := U.cell 1
        go_upto_region 11 with (fail)
        clear u1
        have u0 := fun d os => (U.re d os).cell 0
        have u1 := fun d os => (U.re d os).cell 1
        have x3 : ∀ d os, (Go.Sort.grow (redrawn wa d) os).cell? ⟨gx, 3, none⟩ = some (.slice vq vn vc) := fun d os => (X.re d os).cell 3
        refine wp_sched [0, 0, 0, 0, 0, 0, 0, 0, 0, 2, 1, 3] (fun _ v w => RowV (putL s (pk, (pq, kk, pc))) v w) (by kernel_rfl) (by kernel_rfl) (fun _ v w w' h hb => RowV.on h hb) ?_
        repeat (first | (refine wpQs_s ?_) | (refine wpQs_q (fun K hK => ?_); go_simp; first | (refine hK _ ?_; clear hK K) | (apply Exists.intro; refine ⟨fun _ => ?_, hK _ ?_⟩; (fail); clear hK K)) | (refine wpQs_f (fun K hK => ?_); go_simp; refine hK _ ?_; clear hK K))
        refine wpQs_nil ?_
        repeat (first | (refine wpLs_skip ?_) | (refine wpLs_one ?lsA (fun v_ => ?_); case lsA => (intro w_ hw_ hp_; (go_simp; refine (HLY.out _ ((msd_kept hw_).none)).mono ?_; rintro e_ w9 ⟨u, rfl, hk, hu⟩; exact ⟨u, rfl, hk, hu⟩))))
        refine wpLs_nilB ?_
        simp only [tails]
        rintro w2 h2 ⟨-, ⟨b1, b2, b3⟩, rfl, hRN⟩
        simp only [slV]
        replace X := X.on h2
        clear u0 u1 x3
        obtain ⟨⟨x0, x1, x2, x3, x4⟩, f0, f1, f2, f3, f4⟩ := X.c5
        go_upto_region 12 with (fail)
        have X9 := X.set_ 3 (.slice b1 b2 b3)
        have K9 : Kept (fun b => b ≠ gx) w2 (w2.setCell ⟨gx, 3, none⟩ (.slice b1 b2 b3)) := (Kept.refl _ _).setCell (by simp) _
        have hRN9 := hRN.kept (w' := w2.setCell ⟨gx, 3, none⟩ (.slice b1 b2 b3)) fun g cur hB => K9.blk (fun e => by subst e; have := blk_one hB X; revert this; decide) hB
        have hkp9 := ((HKP.out.on ha).on h2).trans K9
        generalize World.setCell w2 _ _ = w3 at X9 hRN9 hkp9 ⊢
        clear X K9 hRN h2 ha U HLY HKP x0 x1 x2 x3 x4 f0 f1 f2 f3 f4
        obtain ⟨⟨x0, x1, x2, x3, x4⟩, f0, f1, f2, f3, f4⟩ := X9.c5
        go_upto_region 15 with (fail)
        have X10 := ((X9.set_ 4 (.slice none 0 0)).set_ 1 (.int .i64 0)).set_ 2 (.int .i64 0)
        have K10 : Kept (fun b => b ≠ gx) w3 (((w3.setCell ⟨gx, 4, none⟩ (.slice none 0 0)).setCell ⟨gx, 1, none⟩ (.int .i64 0)).setCell ⟨gx, 2, none⟩ (.int .i64 0)) := (((Kept.refl _ _).setCell (by simp) _).setCell (by simp) _).setCell (by simp) _
        have hR10 := hRN9.kept (w' := ((w3.setCell ⟨gx, 4, none⟩ (.slice none 0 0)).setCell ⟨gx, 1, none⟩ (.int .i64 0)).setCell ⟨gx, 2, none⟩ (.int .i64 0)) fun g cur hB => K10.blk (fun e => by subst e; have := blk_one hB X9; revert this; decide) hB
        obtain ⟨F1, F2, F3⟩ := FIN.out _ (b1, b2, b3) _ (hkp9.trans K10) X10 hR10 hcr.out
        generalize World.setCell (World.setCell (World.setCell w3 _ _) _ _) _ _ = w4 at X10 F1 F2 F3 ⊢
        have HF := Lib.hid (And.intro F1 F3)
        clear x0 x1 x2 x3 x4 f0 f1 f2 f3 f4 K10 hR10 F1 F3 FIN
        have x0 := X10.cell 0
        have x1 := X10.cell 1
        have x2 := X10.cell 2
        have x3 := X10.cell 3
        have x4 := X10.cell 4
        obtain ⟨⟨y0, y1, y2, y3, y4⟩, f0, f1, f2, f3, f4⟩ := F2.c5
        go_wp2_with fail
        obtain ⟨⟨d0, d1, d2, d3, d4⟩, -⟩ := (F2.st5 (.int .i64 S.room) (.int .i64 0) (.int .i64 0) (.slice b1 b2 b3) (.slice none 0 0)).c5
        have hk7 := kept5 (w := w4) (g := gx + 1) (.int .i64 S.room) (.int .i64 0) (.int .i64 0) (.slice b1 b2 b3) (.slice none 0 0)
        have hfin := HF.out.1.trans (hk7.below (n := w.heap.size) HF.out.1.size (fun b hb e => by have := HGQ.out; omega))
        refine bodyPost_ret (v := .tuple #[.agg #[.int .i64 S.room, .int .i64 0, .int .i64 0, (.slice b1 b2 b3), .slice none 0 0], .int .i64 ((tot : Int) - (kp : Int))]) (by simp [results, Try.f30, go_sem, d0, d1, d2, d3, d4]) rfl ?_
        rw [HE.out]
        exact ⟨_, rfl, ⟨(b1, b2, b3), (none, 0, 0), _, [], rfl, HF.out.2.off hk7 F2 (by decide) (by have := HGQ.out; omega)⟩, hfin⟩
    · obtain rfl : k = ll.length := by omega
      have hk1 : ¬ ((ll.length : Int) < (ll.length : Int)) := by omega
      have hcr : crashR sl ll kp = s := by rw [HCR.out, List.drop_length]; rfl
      have HCE := Lib.hid hcr
      clear hcr
      generalize wr = w3 at X HRV HKP hgw ⊢
      obtain ⟨⟨x0, x1, x2, x3, x4⟩, f0, f1, f2, f3, f4⟩ := X.c5
      go_upto_region 15 with (fail)
      have X10 := ((X.set_ 4 (.slice none 0 0)).set_ 1 (.int .i64 0)).set_ 2 (.int .i64 0)
      have K10 : Kept (fun b => b ≠ gx) w3 (((w3.setCell ⟨gx, 4, none⟩ (.slice none 0 0)).setCell ⟨gx, 1, none⟩ (.int .i64 0)).setCell ⟨gx, 2, none⟩ (.int .i64 0)) := (((Kept.refl _ _).setCell (by simp) _).setCell (by simp) _).setCell (by simp) _
      have hR10 := HRV.out.kept (w' := ((w3.setCell ⟨gx, 4, none⟩ (.slice none 0 0)).setCell ⟨gx, 1, none⟩ (.int .i64 0)).setCell ⟨gx, 2, none⟩ (.int .i64 0)) fun g cur hB => K10.blk (fun e => by subst e; have := blk_one hB X; revert this; decide) hB
      obtain ⟨F1, F2, F3⟩ := FIN.out _ (vq, vn, vc) _ (HKP.out.trans K10) X10 hR10 HCE.out
      generalize World.setCell (World.setCell (World.setCell w3 _ _) _ _) _ _ = w4 at X10 F1 F2 F3 ⊢
      have HF := Lib.hid (And.intro F1 F3)
      clear x0 x1 x2 x3 x4 f0 f1 f2 f3 f4 K10 hR10 F1 F3 FIN
      have x0 := X10.cell 0
      have x1 := X10.cell 1
      have x2 := X10.cell 2
      have x3 := X10.cell 3
      have x4 := X10.cell 4
      obtain ⟨⟨y0, y1, y2, y3, y4⟩, f0, f1, f2, f3, f4⟩ := F2.c5
      go_wp2_with fail
      obtain ⟨⟨d0, d1, d2, d3, d4⟩, -⟩ := (F2.st5 (.int .i64 S.room) (.int .i64 0) (.int .i64 0) (.slice vq vn vc) (.slice none 0 0)).c5
      have hk7 := kept5 (w := w4) (g := gx + 1) (.int .i64 S.room) (.int .i64 0) (.int .i64 0) (.slice vq vn vc) (.slice none 0 0)
      have hfin := HF.out.1.trans (hk7.below (n := w.heap.size) HF.out.1.size (fun b hb e => by have := HGQ.out; omega))
      refine bodyPost_ret (v := .tuple #[.agg #[.int .i64 S.room, .int .i64 0, .int .i64 0, (.slice vq vn vc), .slice none 0 0], .int .i64 ((tot : Int) - (kp : Int))]) (by simp [results, Try.f30, go_sem, d0, d1, d2, d3, d4]) rfl ?_
      rw [HE.out]
      exact ⟨_, rfl, ⟨(vq, vn, vc), (none, 0, 0), _, [], rfl, HF.out.2.off hk7 F2 (by decide) (by have := HGQ.out; omega)⟩, hfin⟩
end Go.Proofs.Ytlmjggbpophnfaa
