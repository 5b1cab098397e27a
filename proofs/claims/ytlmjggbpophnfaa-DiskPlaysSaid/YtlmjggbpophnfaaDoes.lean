/- A deed, of both. -/
import Derived.Test.YtlmjggbpophnfaaDoes1
import Derived.Test.YtlmjggbpophnfaaDRef3
import Derived.Test.YtlmjggbpophnfaaDRef5
import Derived.Test.YtlmjggbpophnfaaDRef6
namespace Go.Proofs.Ytlmjggbpophnfaa
open Go.RowKit Go.Maps
attribute [local go_sem] Oper.semAt_some

def DoesR (base d : Nat) (M : Nat → Prop) (S : DS) (N : Nat) (r : Ending) (w w' : World) : Prop := ∃ (v' : Value) (S' : DS), r = .returned (.tuple #[v', .bool true]) ∧ Turn w base M d S' w' ∧ RefIs w' base v' S' ∧ DOk S' (N + 1) 20 ∧ S'.room = S.room
theorem does_turn {w W2 w2 : World} {base d R : Nat} {M M' : Nat → Prop} {L : List Nat} {S' : DS} (hB : Below w.heap.size w W2) (hw : KeptD (R :: L) W2 w2) (hL : ∀ b, M b ↔ b ∈ L) (hR : w.heap.size ≤ R) (hD : DiskIs w2 base M' d S') (hM : ∀ b, M' b → M b ∨ W2.heap.size ≤ b) : Turn w base M d S' w2 :=
  ⟨M', hD, fun b hb => (hM b hb).imp id (Nat.le_trans hB.size), Kept.os hw |>.trans hB.os, Kept.tape hw |>.trans hB.tape, Kept.output hw |>.trans hB.output, Nat.le_trans hB.size (Kept.size hw), fun b hb hm => (Kept.block hw b (Nat.lt_of_lt_of_le hb hB.size) (fun h => by
    rcases List.mem_cons.1 h with e | h
    · omega
    · exact hm ((hL b).2 h))).trans (hB.block b hb)⟩
abbrev zeroD : Array Value := #[.int .i64 0, .int .i64 0, .int .i64 0, .slice none 0 0, .slice none 0 0]
theorem put_room (S : DS) (k : Int) (b : Bs) : (S.put k b).1.room = S.room := by
  have h := (asked_same S).2.2
  unfold DS.put
  split
  · exact h
  · split <;> exact h
theorem sync_room (S : DS) : S.sync.1.room = S.room := by
  have h := (asked_same S).2.2
  unfold DS.sync
  split <;> exact h
theorem fail_room (S : DS) (n : Int) : (S.fail n).room = S.room := by unfold DS.fail; split <;> rfl
set_option maxRecDepth 100000 in
set_option maxHeartbeats 8000000 in
theorem does_c (base d : Nat) (M : Nat → Prop) (S : DS) (N : Nat) (w : World) (h : DiskIs w base M d S) (hok : DOk S N 20) (hN : N ≤ 1000) (v : Value) (hv : RefIs w base v S) (kind key nn : Int) (hkey : In64 key) (hnn : In64 nn) (s : SL) (hs : GoodS w base s) (hbase : base ≤ w.heap.size) :
    Calls Try.prog 21 #[.pointer (some ⟨d, 0, none⟩), v, .agg #[.int .i64 kind, .int .i64 key, .int .i64 nn, slV s]] w fun r w' => DoesR base d M S N r w w' := by
  obtain ⟨a, b, sl, ll, rfl, hra⟩ := hv
  have x1 := arI_lo key (m := 6) (by decide)
  have x2 := arI_hi key (m := 6) (by decide)
  have HA := Lib.hid (around_c key 6 hkey.1 hkey.2 (by decide))
  generalize arI key 6 = kk at HA x1 x2
  have y1 := arI_lo nn (m := 40) (by decide)
  have y2 := arI_hi nn (m := 40) (by decide)
  have HA2 := Lib.hid (around_c nn 40 hnn.1 hnn.2 (by decide))
  generalize arI nn 40 = cr at HA2 y1 y2
  have z1 := arI_lo nn (m := 5) (by decide)
  have z2 := arI_hi nn (m := 5) (by decide)
  have HA3 := Lib.hid (around_c nn 5 hnn.1 hnn.2 (by decide))
  generalize arI nn 5 = fl at HA3 z1 z2
  clear hkey hnn
  obtain ⟨W0, hW⟩ : ∃ W0, W0 = ((w.alloc (.cells (dv S a b) 42)).alloc (.cells #[.int .i64 kind, .int .i64 key, .int .i64 nn, slV s] 47)).alloc (.cells zeroD 42) := ⟨_, rfl⟩
  have hb0 : Below w.heap.size w W0 := by rw [hW]; go_grown
  have A0 : Blk W0 w.heap.size 42 (dv S a b) := by rw [hW]; exact ((Blk.new' rfl).alloc _).alloc _
  have E0 : Blk W0 (w.heap.size + 1) 47 #[.int .i64 kind, .int .i64 key, .int .i64 nn, slV s] := by rw [hW]; exact (Blk.new' (by simp)).alloc _
  have R0 : Blk W0 (w.heap.size + 1 + 1) 42 zeroD := by rw [hW]; exact Blk.new' (by simp)
  have hs0 := hs.on hb0
  have hcut := hs0.1.cut (k := min s.2.1 20) (Nat.min_le_left _ _)
  have hfew := few_c s.1 s.2.1 s.2.2 20 hs.cap W0
  have hra0 := hra.on hb0
  have hd0 := h.on hb0
  have hok' := hok.mono (Nat.le_refl _) (show 20 ≤ 1000000 by decide)
  have hG := hcut.1
  have hlen := hG.len
  have hno20 : min s.2.1 20 ≤ 20 := Nat.min_le_right _ _
  obtain ⟨sq, sn, sc⟩ := s
  dsimp only at hfew hG hlen hno20
  simp only [slV] at E0 hfew hW
  generalize min sn 20 = no at hfew hG hlen hno20
  have hb0' : base ≤ W0.heap.size := Nat.le_trans hbase hb0.size
  have HB0 := Lib.hid hb0
  have HRA := Lib.hid hra0
  have HD0 := Lib.hid hd0
  have HG := Lib.hid (And.intro hG hlen)
  have HOK := Lib.hid hok
  have HOKB := Lib.hid hok'
  have HF := Lib.hid hfew
  obtain ⟨gx, hgx⟩ : ∃ gx, gx = w.heap.size := ⟨_, rfl⟩
  rw [← hgx] at A0 E0 R0
  have HGX := Lib.hid hgx
  clear hs0 hcut hra hra0 hd0 hok hok' hG hlen hb0 h hs hfew
  obtain ⟨aq, an, ac⟩ := a
  obtain ⟨bq, bn, bc⟩ := b
  simp only [slV, dv] at A0 hW ⊢
  have e0 := E0.cell 0
  have e1 := E0.cell 1
  have e2 := E0.cell 2
  have e3 := E0.cell 3
  obtain ⟨⟨a0, a1, a2, a3, a4⟩, -⟩ := A0.c5
  go_enter Try.func21, Try.ntmps21
  go_upto_region 1 with (fail)
  rw [← hW, ← hgx]
  clear hW hgx
  go_upto_region 4 with first
    | (go_at_call 12; refine (HA.out _).mono ?_; rintro e_ w1 ⟨rfl, rfl⟩)
    | (go_at_call 11; refine HF.out.mono ?_; rintro e_ w1 ⟨rfl, rfl⟩)
  clear HA HF e0 e1 e3
  have hk : kind = 0 ∨ kind = 1 ∨ kind = 2 ∨ kind = 3 ∨ (¬ kind = 0 ∧ ¬ kind = 1 ∧ ¬ kind = 2 ∧ ¬ kind = 3) := by omega
  rcases hk with rfl | rfl | rfl | rfl | ⟨k0, k1, k2, k3⟩
  --@does0
  · clear e2 HA2 HA3 y1 y2 z1 z2
    have HPUT := Lib.hid (rput_c base (aq, an, ac) (bq, bn, bc) S sl ll N W0 HRA.out HOKB.out (by omega) kk (sq, no, sc) HG.out.1 (by dsimp only; omega) hb0')
    go_upto_region 6 with (go_at_call 28; refine HPUT.out.mono ?_; rintro e_ w1 ⟨v1, rfl, ⟨⟨aq', an', ac'⟩, ⟨bq', bn', bc'⟩, sl', ll', rfl, hR1⟩, h1⟩; simp only [dv, slV])
    have hok1 := HOK.out.put (k := kk) (b := rdB W0 (sq, no, sc)) ⟨by omega, by omega⟩ (by rw [HG.out.2]; exact hno20)
    have hroom := put_room S kk (rdB W0 (sq, no, sc))
    have hcall2 : ∀ W2, DiskIs W2 base M d S → (GoodS W2 base (sq, no, sc) ∧ rdB W2 (sq, no, sc) = rdB W0 (sq, no, sc)) → base ≤ W2.heap.size → Calls Try.prog 10 #[.pointer (some ⟨d, 0, none⟩), .int .i64 kk, .slice sq no sc] W2 fun r w' => r = .returned (.int .i64 (S.put kk (rdB W0 (sq, no, sc))).2) ∧ Turn W2 base M d (S.put kk (rdB W0 (sq, no, sc))).1 w' := fun W2 h hg hb => by
      have := put_c base d M S N W2 h HOKB.out (by omega) kk ⟨by omega, by omega⟩ (sq, no, sc) hg.1 (by dsimp only; omega) hb
      rw [hg.2] at this
      exact this
    generalize (S.put kk (rdB W0 (sq, no, sc))).2 = E at hcall2 ⊢
    generalize hS1 : (S.put kk (rdB W0 (sq, no, sc))).1 = S1 at hcall2 hok1 hroom hR1 ⊢
    have hg2 := HG.out.1.on h1
    clear HPUT hS1
    generalize hV : World.alloc w1 _ = W2
    have X2 : Blk W2 w1.heap.size 42 (dv S1 (aq', an', ac') (bq', bn', bc')) := Blk.eqw hV (Blk.new' rfl)
    have h12 : Below w1.heap.size w1 W2 := by rw [← hV]; exact (Below.refl _ _).alloc (Nat.le_refl _) _
    have h02 := after h1 h12
    obtain ⟨L, hL⟩ := disk_list HD0.out
    have HX : DoOk ⟨base, d, 4, 7, gx + 1 + 1, S, S1, zeroD, dv S1 (aq', an', ac') (bq', bn', bc')⟩ W2 M L := ⟨show (4 : Nat) ≠ 7 by decide, hL, HD0.out.on h02, R0.on h02, by have := HGX.out; dsimp only; omega⟩
    have hgn : w1.heap.size ∉ (gx + 1 + 1) :: L := fun hm => by
      rcases List.mem_cons.1 hm with e | hm
      · have := R0.lt; have := h1.size; omega
      · have := (HD0.out.mine ((hL _).2 hm)).2.1; have := h1.size; omega
    have HXX := Lib.hid HX
    have HGD := Lib.hid (fun W (hW : KeptD ((gx + 1 + 1) :: L) W2 W) => HX.good hW (hg2.1.on h12).1)
    have HRD := Lib.hid (And.intro hg2.2 (hg2.1.on h12).2)
    have HCL := Lib.hid hcall2
    have HRF := Lib.hid (show RefIs W2 base (.agg (dv S1 (aq', an', ac') (bq', bn', bc'))) S1 from ⟨_, _, sl', ll', rfl, hR1.on h12⟩)
    have HOK1 := Lib.hid hok1
    have HRM := Lib.hid hroom
    have HBW := Lib.hid (after HB0.out h02)
    have hb2 := Nat.le_trans hb0' h02.size
    obtain ⟨d0, d1, d2, d3, d4⟩ := spc5 X2 hgn
    clear hV h12 h02 hL HX hgn hg2 hcall2 hR1 hok1 hroom h1 HG HD0 HRA a0 a1 a2 a3 a4 A0 E0
    simp only [dv, slV] at d0 d1 d2 d3 d4 X2
    generalize w1.heap.size = gn at *
    refine wp_inv [0, 0, 0, 0, 2, 0, 2, 2, 3] ((gx + 1 + 1) :: L) (DoI ⟨base, d, 4, 7, gx + 1 + 1, S, S1, zeroD, dv S1 (aq', an', ac') (bq', bn', bc')⟩ W2 M (fun i => if i = 4 then .int .i64 E else .bool true)) (by kernel_rfl) (by kernel_rfl) (fun _ _ _ _ _ h k => h.below k) (fun _ => doI_zero HXX.out) ?_
    repeat (first | (refine wpQs_s ?_) | (refine wpQs_q (fun K hK => ?_); go_simp; first | (refine hK _ ?_; clear hK K) | (apply Exists.intro; refine ⟨fun _ => ?_, hK _ ?_⟩; (fail); clear hK K)))
    refine wpQs_nil ?_
    repeat (refine wpLsI_skip ?_)
    refine wpLsI_one rfl ?s4 (fun vc_ => ?_)
    case s4 =>
      intro S_ V_ w_ hw_ hV_ ha_ hn_ hI_
      have hgd := HGD.out w_ hw_
      have hc := HCL.out w_ (hI_.2.1 hn_) ⟨hgd.1, hgd.2.trans (HRD.out.2.trans HRD.out.1)⟩ (Nat.le_trans hb2 (Kept.size hw_))
      have HC := Lib.hid hc
      have HW_ := Lib.hid hw_
      have HI_ := Lib.hid hI_
      have HN_ := Lib.hid hn_
      clear hV_ ha_ hn_ hI_ hw_ hc hgd d0 d1 d2 d3 d4
      go_simp
      refine HC.out.mono ?_
      rintro e_ w5 ⟨rfl, t5⟩
      exact ⟨_, rfl, HI_.out.call HXX.out HW_.out HN_.out rfl t5⟩
    repeat (refine wpLsI_skip ?_)
    refine wpLsI_one rfl ?s6 (fun ve_ => ?_)
    case s6 =>
      intro S_ V_ w_ hw_ hV_ ha_ hn_ hI_
      have hv : vc_ = .int .i64 E := (hV_ 4 (by decide) rfl).symm.trans (hI_.1 4 (ha_ 4 (by decide) rfl (by kernel_rfl)) (show (4 : Nat) ≠ 7 by decide))
      have HF := Lib.hid (And.intro hw_ (hI_.lay (i := 6) (v := .bool true) (show (6 : Nat) ≠ 4 by decide) (show (6 : Nat) ≠ 7 by decide) rfl (Below.refl _ _)))
      clear hV_ ha_ hn_ hI_ hw_ d0 d1 d2 d3 d4
      subst hv
      go_simp
      exact HF.out
    refine wpLsI_one rfl ?s7 (fun vs_ => ?_)
    case s7 =>
      intro S_ V_ w_ hw_ hV_ ha_ hn_ hI_
      have hb := hI_.old hn_
      have HB := Lib.hid hb
      have HF := Lib.hid (fun v => hI_.store (v := v) HXX.out hw_ hn_ (kept5 (w := w_) (g := gx + 1 + 1) (.int .i64 S1.room) (.int .i64 S1.fails) (.int .i64 S1.waits) (.slice aq' an' ac') (.slice bq' bn' bc')) (Blk.st5 hb _ _ _ _ _))
      clear hV_ ha_ hn_ hI_ hw_ hb d0 d1 d2 d3 d4
      have hb := HB.out
      obtain ⟨⟨c0, c1, c2, c3, c4⟩, f0, f1, f2, f3, f4⟩ := Blk.c5 (show Blk w_ (gx + 1 + 1) 42 #[.int .i64 0, .int .i64 0, .int .i64 0, .slice none 0 0, .slice none 0 0] from hb)
      go_simp
      exact HF.out _
    repeat (refine wpLsI_skip ?_)
    refine wpLsI_nil fun V_ w2 hw_ hV_ hI_ => ?_
    have hv6 : ve_ = .bool true := (hV_ 6 (by decide) rfl).symm.trans (hI_.1 6 ⟨show (6 : Nat) < 9 by decide, rfl⟩ (show (6 : Nat) ≠ 7 by decide))
    obtain ⟨M', hD', hM'⟩ := hI_.2.2.1 ⟨show (4 : Nat) < 9 by decide, rfl⟩
    have hB' : Blk w2 (gx + 1 + 1) 42 #[.int .i64 S1.room, .int .i64 S1.fails, .int .i64 S1.waits, .slice aq' an' ac', .slice bq' bn' bc'] := hI_.2.2.2.2 ⟨show (7 : Nat) < 9 by decide, rfl⟩
    have hfin : DoesR base d M S N (.returned (.tuple #[.agg (dv S1 (aq', an', ac') (bq', bn', bc')), .bool true])) w w2 := ⟨_, S1, rfl, does_turn HBW.out hw_ HXX.out.list (by have := HGX.out; omega) hD' hM', HXX.out.ref hw_ HRF.out, HOK1.out, HRM.out⟩
    have HFIN := Lib.hid hfin
    subst hv6
    clear hV_ hI_ hw_ d0 d1 d2 d3 d4 hD' hM' hfin
    obtain ⟨⟨d0, d1, d2, d3, d4⟩, -⟩ := hB'.c5
    simp only [tails]
    go_wp2_with fail
    exact bodyPost_ret (v := .tuple #[.agg #[.int .i64 S1.room, .int .i64 S1.fails, .int .i64 S1.waits, .slice aq' an' ac', .slice bq' bn' bc'], .bool true]) (by simp [results, Try.f21, go_sem, d0, d1, d2, d3, d4]) rfl HFIN.out
  · clear e2 HA2 HA3 y1 y2 z1 z2
    have HPUT := Lib.hid (rsync_c base (aq, an, ac) (bq, bn, bc) S sl ll N W0 HRA.out HOKB.out (by omega) hb0')
    go_upto_region 9 with (go_at_call 29; refine HPUT.out.mono ?_; rintro e_ w1 ⟨v1, rfl, ⟨⟨aq', an', ac'⟩, ⟨bq', bn', bc'⟩, sl', ll', rfl, hR1⟩, h1⟩; simp only [dv, slV])
    have hok1 := HOK.out.sync.mono (Nat.le_succ N) (Nat.le_refl 20)
    have hroom := sync_room S
    have hcall2 : ∀ W2, DiskIs W2 base M d S → (GoodS W2 base (sq, no, sc) ∧ rdB W2 (sq, no, sc) = rdB W0 (sq, no, sc)) → base ≤ W2.heap.size → Calls Try.prog 19 #[.pointer (some ⟨d, 0, none⟩)] W2 fun r w' => r = .returned (.int .i64 S.sync.2) ∧ Turn W2 base M d S.sync.1 w' := fun W2 h hg hb =>
      sync_c base d M S N W2 h HOKB.out (by omega) hb
    generalize S.sync.2 = E at hcall2 ⊢
    generalize hS1 : S.sync.1 = S1 at hcall2 hok1 hroom hR1 ⊢
    have hg2 := HG.out.1.on h1
    clear HPUT hS1
    generalize hV : World.alloc w1 _ = W2
    have X2 : Blk W2 w1.heap.size 42 (dv S1 (aq', an', ac') (bq', bn', bc')) := Blk.eqw hV (Blk.new' rfl)
    have h12 : Below w1.heap.size w1 W2 := by rw [← hV]; exact (Below.refl _ _).alloc (Nat.le_refl _) _
    have h02 := after h1 h12
    obtain ⟨L, hL⟩ := disk_list HD0.out
    have HX : DoOk ⟨base, d, 2, 5, gx + 1 + 1, S, S1, zeroD, dv S1 (aq', an', ac') (bq', bn', bc')⟩ W2 M L := ⟨show (2 : Nat) ≠ 5 by decide, hL, HD0.out.on h02, R0.on h02, by have := HGX.out; dsimp only; omega⟩
    have hgn : w1.heap.size ∉ (gx + 1 + 1) :: L := fun hm => by
      rcases List.mem_cons.1 hm with e | hm
      · have := R0.lt; have := h1.size; omega
      · have := (HD0.out.mine ((hL _).2 hm)).2.1; have := h1.size; omega
    have HXX := Lib.hid HX
    have HGD := Lib.hid (fun W (hW : KeptD ((gx + 1 + 1) :: L) W2 W) => HX.good hW (hg2.1.on h12).1)
    have HRD := Lib.hid (And.intro hg2.2 (hg2.1.on h12).2)
    have HCL := Lib.hid hcall2
    have HRF := Lib.hid (show RefIs W2 base (.agg (dv S1 (aq', an', ac') (bq', bn', bc'))) S1 from ⟨_, _, sl', ll', rfl, hR1.on h12⟩)
    have HOK1 := Lib.hid hok1
    have HRM := Lib.hid hroom
    have HBW := Lib.hid (after HB0.out h02)
    have hb2 := Nat.le_trans hb0' h02.size
    obtain ⟨d0, d1, d2, d3, d4⟩ := spc5 X2 hgn
    clear hV h12 h02 hL HX hgn hg2 hcall2 hR1 hok1 hroom h1 HG HD0 HRA a0 a1 a2 a3 a4 A0 E0
    simp only [dv, slV] at d0 d1 d2 d3 d4 X2
    generalize w1.heap.size = gn at *
    refine wp_inv [0, 0, 2, 0, 2, 2, 3] ((gx + 1 + 1) :: L) (DoI ⟨base, d, 2, 5, gx + 1 + 1, S, S1, zeroD, dv S1 (aq', an', ac') (bq', bn', bc')⟩ W2 M (fun i => if i = 2 then .int .i64 E else .bool true)) (by kernel_rfl) (by kernel_rfl) (fun _ _ _ _ _ h k => h.below k) (fun _ => doI_zero HXX.out) ?_
    repeat (first | (refine wpQs_s ?_) | (refine wpQs_q (fun K hK => ?_); go_simp; first | (refine hK _ ?_; clear hK K) | (apply Exists.intro; refine ⟨fun _ => ?_, hK _ ?_⟩; (fail); clear hK K)))
    refine wpQs_nil ?_
    repeat (refine wpLsI_skip ?_)
    refine wpLsI_one rfl ?s4 (fun vc_ => ?_)
    case s4 =>
      intro S_ V_ w_ hw_ hV_ ha_ hn_ hI_
      have hgd := HGD.out w_ hw_
      have hc := HCL.out w_ (hI_.2.1 hn_) ⟨hgd.1, hgd.2.trans (HRD.out.2.trans HRD.out.1)⟩ (Nat.le_trans hb2 (Kept.size hw_))
      have HC := Lib.hid hc
      have HW_ := Lib.hid hw_
      have HI_ := Lib.hid hI_
      have HN_ := Lib.hid hn_
      clear hV_ ha_ hn_ hI_ hw_ hc hgd d0 d1 d2 d3 d4
      go_simp
      refine HC.out.mono ?_
      rintro e_ w5 ⟨rfl, t5⟩
      exact ⟨_, rfl, HI_.out.call HXX.out HW_.out HN_.out rfl t5⟩
    repeat (refine wpLsI_skip ?_)
    refine wpLsI_one rfl ?s6 (fun ve_ => ?_)
    case s6 =>
      intro S_ V_ w_ hw_ hV_ ha_ hn_ hI_
      have hv : vc_ = .int .i64 E := (hV_ 2 (by decide) rfl).symm.trans (hI_.1 2 (ha_ 2 (by decide) rfl (by kernel_rfl)) (show (2 : Nat) ≠ 5 by decide))
      have HF := Lib.hid (And.intro hw_ (hI_.lay (i := 4) (v := .bool true) (show (4 : Nat) ≠ 2 by decide) (show (4 : Nat) ≠ 5 by decide) rfl (Below.refl _ _)))
      clear hV_ ha_ hn_ hI_ hw_ d0 d1 d2 d3 d4
      subst hv
      go_simp
      exact HF.out
    refine wpLsI_one rfl ?s7 (fun vs_ => ?_)
    case s7 =>
      intro S_ V_ w_ hw_ hV_ ha_ hn_ hI_
      have hb := hI_.old hn_
      have HB := Lib.hid hb
      have HF := Lib.hid (fun v => hI_.store (v := v) HXX.out hw_ hn_ (kept5 (w := w_) (g := gx + 1 + 1) (.int .i64 S1.room) (.int .i64 S1.fails) (.int .i64 S1.waits) (.slice aq' an' ac') (.slice bq' bn' bc')) (Blk.st5 hb _ _ _ _ _))
      clear hV_ ha_ hn_ hI_ hw_ hb d0 d1 d2 d3 d4
      have hb := HB.out
      obtain ⟨⟨c0, c1, c2, c3, c4⟩, f0, f1, f2, f3, f4⟩ := Blk.c5 (show Blk w_ (gx + 1 + 1) 42 #[.int .i64 0, .int .i64 0, .int .i64 0, .slice none 0 0, .slice none 0 0] from hb)
      go_simp
      exact HF.out _
    repeat (refine wpLsI_skip ?_)
    refine wpLsI_nil fun V_ w2 hw_ hV_ hI_ => ?_
    have hv6 : ve_ = .bool true := (hV_ 4 (by decide) rfl).symm.trans (hI_.1 4 ⟨show (4 : Nat) < 7 by decide, rfl⟩ (show (4 : Nat) ≠ 5 by decide))
    obtain ⟨M', hD', hM'⟩ := hI_.2.2.1 ⟨show (2 : Nat) < 7 by decide, rfl⟩
    have hB' : Blk w2 (gx + 1 + 1) 42 #[.int .i64 S1.room, .int .i64 S1.fails, .int .i64 S1.waits, .slice aq' an' ac', .slice bq' bn' bc'] := hI_.2.2.2.2 ⟨show (5 : Nat) < 7 by decide, rfl⟩
    have hfin : DoesR base d M S N (.returned (.tuple #[.agg (dv S1 (aq', an', ac') (bq', bn', bc')), .bool true])) w w2 := ⟨_, S1, rfl, does_turn HBW.out hw_ HXX.out.list (by have := HGX.out; omega) hD' hM', HXX.out.ref hw_ HRF.out, HOK1.out, HRM.out⟩
    have HFIN := Lib.hid hfin
    subst hv6
    clear hV_ hI_ hw_ d0 d1 d2 d3 d4 hD' hM' hfin
    obtain ⟨⟨d0, d1, d2, d3, d4⟩, -⟩ := hB'.c5
    simp only [tails]
    go_wp2_with fail
    exact bodyPost_ret (v := .tuple #[.agg #[.int .i64 S1.room, .int .i64 S1.fails, .int .i64 S1.waits, .slice aq' an' ac', .slice bq' bn' bc'], .bool true]) (by simp [results, Try.f21, go_sem, d0, d1, d2, d3, d4]) rfl HFIN.out
  · clear HA3 z1 z2
    have HPUT := Lib.hid (rcrash_c base (aq, an, ac) (bq, bn, bc) S sl ll N W0 HRA.out HOKB.out (by omega) cr hb0')
    go_upto_region 13 with first
      | (go_at_call 12; refine (HA2.out _).mono ?_; rintro e_ w1 ⟨rfl, rfl⟩)
      | (go_at_call 30; refine HPUT.out.mono ?_; rintro e_ w1 ⟨v1, rfl, ⟨⟨aq', an', ac'⟩, ⟨bq', bn', bc'⟩, sl', ll', rfl, hR1⟩, h1⟩; simp only [dv, slV])
    clear HA2 e2
    have hok1 := (HOK.out.crash cr).mono (Nat.le_succ N) (Nat.le_refl 20)
    have hroom : (S.crash cr).1.room = S.room := rfl
    have hcall2 : ∀ W2, DiskIs W2 base M d S → (GoodS W2 base (sq, no, sc) ∧ rdB W2 (sq, no, sc) = rdB W0 (sq, no, sc)) → base ≤ W2.heap.size → Calls Try.prog 14 #[.pointer (some ⟨d, 0, none⟩), .int .i64 cr] W2 fun r w' => r = .returned (.int .i64 (S.crash cr).2) ∧ Turn W2 base M d (S.crash cr).1 w' := fun W2 h hg hb =>
      crash_c base d M S N W2 h HOKB.out (by omega) cr
    generalize (S.crash cr).2 = E at hcall2 ⊢
    generalize hS1 : (S.crash cr).1 = S1 at hcall2 hok1 hroom hR1 ⊢
    have hg2 := HG.out.1.on h1
    clear HPUT hS1
    generalize hV : World.alloc w1 _ = W2
    have X2 : Blk W2 w1.heap.size 42 (dv S1 (aq', an', ac') (bq', bn', bc')) := Blk.eqw hV (Blk.new' rfl)
    have h12 : Below w1.heap.size w1 W2 := by rw [← hV]; exact (Below.refl _ _).alloc (Nat.le_refl _) _
    have h02 := after h1 h12
    obtain ⟨L, hL⟩ := disk_list HD0.out
    have HX : DoOk ⟨base, d, 3, 6, gx + 1 + 1, S, S1, zeroD, dv S1 (aq', an', ac') (bq', bn', bc')⟩ W2 M L := ⟨show (3 : Nat) ≠ 6 by decide, hL, HD0.out.on h02, R0.on h02, by have := HGX.out; dsimp only; omega⟩
    have hgn : w1.heap.size ∉ (gx + 1 + 1) :: L := fun hm => by
      rcases List.mem_cons.1 hm with e | hm
      · have := R0.lt; have := h1.size; omega
      · have := (HD0.out.mine ((hL _).2 hm)).2.1; have := h1.size; omega
    have HXX := Lib.hid HX
    have HGD := Lib.hid (fun W (hW : KeptD ((gx + 1 + 1) :: L) W2 W) => HX.good hW (hg2.1.on h12).1)
    have HRD := Lib.hid (And.intro hg2.2 (hg2.1.on h12).2)
    have HCL := Lib.hid hcall2
    have HRF := Lib.hid (show RefIs W2 base (.agg (dv S1 (aq', an', ac') (bq', bn', bc'))) S1 from ⟨_, _, sl', ll', rfl, hR1.on h12⟩)
    have HOK1 := Lib.hid hok1
    have HRM := Lib.hid hroom
    have HBW := Lib.hid (after HB0.out h02)
    have hb2 := Nat.le_trans hb0' h02.size
    obtain ⟨d0, d1, d2, d3, d4⟩ := spc5 X2 hgn
    clear hV h12 h02 hL HX hgn hg2 hcall2 hR1 hok1 hroom h1 HG HD0 HRA a0 a1 a2 a3 a4 A0 E0
    simp only [dv, slV] at d0 d1 d2 d3 d4 X2
    generalize w1.heap.size = gn at *
    refine wp_inv [0, 0, 0, 2, 0, 2, 2, 3] ((gx + 1 + 1) :: L) (DoI ⟨base, d, 3, 6, gx + 1 + 1, S, S1, zeroD, dv S1 (aq', an', ac') (bq', bn', bc')⟩ W2 M (fun i => if i = 3 then .int .i64 E else .bool true)) (by kernel_rfl) (by kernel_rfl) (fun _ _ _ _ _ h k => h.below k) (fun _ => doI_zero HXX.out) ?_
    repeat (first | (refine wpQs_s ?_) | (refine wpQs_q (fun K hK => ?_); go_simp; first | (refine hK _ ?_; clear hK K) | (apply Exists.intro; refine ⟨fun _ => ?_, hK _ ?_⟩; (fail); clear hK K)))
    refine wpQs_nil ?_
    repeat (refine wpLsI_skip ?_)
    refine wpLsI_one rfl ?s4 (fun vc_ => ?_)
    case s4 =>
      intro S_ V_ w_ hw_ hV_ ha_ hn_ hI_
      have hgd := HGD.out w_ hw_
      have hc := HCL.out w_ (hI_.2.1 hn_) ⟨hgd.1, hgd.2.trans (HRD.out.2.trans HRD.out.1)⟩ (Nat.le_trans hb2 (Kept.size hw_))
      have HC := Lib.hid hc
      have HW_ := Lib.hid hw_
      have HI_ := Lib.hid hI_
      have HN_ := Lib.hid hn_
      clear hV_ ha_ hn_ hI_ hw_ hc hgd d0 d1 d2 d3 d4
      go_simp
      refine HC.out.mono ?_
      rintro e_ w5 ⟨rfl, t5⟩
      exact ⟨_, rfl, HI_.out.call HXX.out HW_.out HN_.out rfl t5⟩
    repeat (refine wpLsI_skip ?_)
    refine wpLsI_one rfl ?s6 (fun ve_ => ?_)
    case s6 =>
      intro S_ V_ w_ hw_ hV_ ha_ hn_ hI_
      have hv : vc_ = .int .i64 E := (hV_ 3 (by decide) rfl).symm.trans (hI_.1 3 (ha_ 3 (by decide) rfl (by kernel_rfl)) (show (3 : Nat) ≠ 6 by decide))
      have HF := Lib.hid (And.intro hw_ (hI_.lay (i := 5) (v := .bool true) (show (5 : Nat) ≠ 3 by decide) (show (5 : Nat) ≠ 6 by decide) rfl (Below.refl _ _)))
      clear hV_ ha_ hn_ hI_ hw_ d0 d1 d2 d3 d4
      subst hv
      go_simp
      exact HF.out
    refine wpLsI_one rfl ?s7 (fun vs_ => ?_)
    case s7 =>
      intro S_ V_ w_ hw_ hV_ ha_ hn_ hI_
      have hb := hI_.old hn_
      have HB := Lib.hid hb
      have HF := Lib.hid (fun v => hI_.store (v := v) HXX.out hw_ hn_ (kept5 (w := w_) (g := gx + 1 + 1) (.int .i64 S1.room) (.int .i64 S1.fails) (.int .i64 S1.waits) (.slice aq' an' ac') (.slice bq' bn' bc')) (Blk.st5 hb _ _ _ _ _))
      clear hV_ ha_ hn_ hI_ hw_ hb d0 d1 d2 d3 d4
      have hb := HB.out
      obtain ⟨⟨c0, c1, c2, c3, c4⟩, f0, f1, f2, f3, f4⟩ := Blk.c5 (show Blk w_ (gx + 1 + 1) 42 #[.int .i64 0, .int .i64 0, .int .i64 0, .slice none 0 0, .slice none 0 0] from hb)
      go_simp
      exact HF.out _
    repeat (refine wpLsI_skip ?_)
    refine wpLsI_nil fun V_ w2 hw_ hV_ hI_ => ?_
    have hv6 : ve_ = .bool true := (hV_ 5 (by decide) rfl).symm.trans (hI_.1 5 ⟨show (5 : Nat) < 8 by decide, rfl⟩ (show (5 : Nat) ≠ 6 by decide))
    obtain ⟨M', hD', hM'⟩ := hI_.2.2.1 ⟨show (3 : Nat) < 8 by decide, rfl⟩
    have hB' : Blk w2 (gx + 1 + 1) 42 #[.int .i64 S1.room, .int .i64 S1.fails, .int .i64 S1.waits, .slice aq' an' ac', .slice bq' bn' bc'] := hI_.2.2.2.2 ⟨show (6 : Nat) < 8 by decide, rfl⟩
    have hfin : DoesR base d M S N (.returned (.tuple #[.agg (dv S1 (aq', an', ac') (bq', bn', bc')), .bool true])) w w2 := ⟨_, S1, rfl, does_turn HBW.out hw_ HXX.out.list (by have := HGX.out; omega) hD' hM', HXX.out.ref hw_ HRF.out, HOK1.out, HRM.out⟩
    have HFIN := Lib.hid hfin
    subst hv6
    clear hV_ hI_ hw_ d0 d1 d2 d3 d4 hD' hM' hfin
    obtain ⟨⟨d0, d1, d2, d3, d4⟩, -⟩ := hB'.c5
    simp only [tails]
    go_wp2_with fail
    exact bodyPost_ret (v := .tuple #[.agg #[.int .i64 S1.room, .int .i64 S1.fails, .int .i64 S1.waits, .slice aq' an' ac', .slice bq' bn' bc'], .bool true]) (by simp [results, Try.f21, go_sem, d0, d1, d2, d3, d4]) rfl HFIN.out
  --@does1
  · clear HA2 y1 y2
    have i1 : -9223372036854775808 ≤ fl - 2 := by omega
    have i2 : fl - 2 ≤ 9223372036854775807 := by omega
    have i3 : In64 (fl - 2) := ⟨i1, i2⟩
    have HFAIL := Lib.hid (fail_c base d M S W0 HD0.out (fl - 2) i3)
    have HRF := Lib.hid (fun W => rfail_c S (aq, an, ac) (bq, bn, bc) (fl - 2) i3 W)
    have HOK1 := Lib.hid ((HOK.out.fail i2).mono (Nat.le_succ N) (Nat.le_refl 20))
    have HRM := Lib.hid (fail_room S (fl - 2))
    simp only [dv, slV] at HRF
    have hsf : (S.fail (fl - 2)).safe = S.safe ∧ (S.fail (fl - 2)).l = S.l := by unfold DS.fail; split <;> exact ⟨rfl, rfl⟩
    generalize S.fail (fl - 2) = S1 at HFAIL HRF HOK1 HRM hsf
    have HSF := Lib.hid hsf
    clear hsf
    go_upto_region 17 with first
      | (go_at_call 12; refine (HA3.out _).mono ?_; rintro e_ w1 ⟨rfl, rfl⟩)
      | (go_at_call 22; refine HFAIL.out.mono ?_; rintro e_ w1 ⟨rfl, t1⟩)
    have A1 := t1.blk HD0.out A0 (by decide)
    have R1 := t1.blk HD0.out R0 (by decide)
    obtain ⟨M1, D1, hM1, hK1⟩ := id t1
    have h1 := t1.below HD0.out hb0'
    have b1 := Nat.le_trans hb0' h1.size
    have HK1 := Lib.hid (And.intro hM1 hK1)
    have HRA1 := Lib.hid (HRA.out.turn t1 HD0.out)
    have H1 := Lib.hid h1
    have HD1 := Lib.hid D1
    have HT1 := Lib.hid t1
    clear h1 D1 t1 hM1 hK1 a0 a1 a2 a3 a4 A0 R0 e2 E0 HA3 HFAIL
    obtain ⟨⟨a0, a1, a2, a3, a4⟩, -⟩ := A1.c5
    have hbr : base ≤ gx + 1 + 1 := by have := HGX.out; omega
    go_wp2_with (go_at_call 31; refine (HRF.out _).mono ?_; rintro e_ w2 ⟨rfl, h2⟩; clear a0 a1 a2 a3 a4; replace R1 := R1.on h2; obtain ⟨⟨r0, r1, r2, r3, r4⟩, f0, f1, f2, f3, f4⟩ := R1.c5)
    obtain ⟨⟨d0, d1, d2, d3, d4⟩, -⟩ := (R1.st5 (.int .i64 S1.room) (.int .i64 S1.fails) (.int .i64 S1.waits) (.slice aq an ac) (.slice bq bn bc)).c5
    have hk5 := kept5 (w := w2) (g := gx + 1 + 1) (.int .i64 S1.room) (.int .i64 S1.fails) (.int .i64 S1.waits) (.slice aq an ac) (.slice bq bn bc)
    refine bodyPost_ret (v := .tuple #[.agg #[.int .i64 S1.room, .int .i64 S1.fails, .int .i64 S1.waits, .slice aq an ac, .slice bq bn bc], .bool true]) (by simp [results, Try.f21, go_sem, d0, d1, d2, d3, d4]) rfl ?_
    have D2 := HD1.out.on h2
    have hDk : DiskIs _ base M1 d S1 := D2.kept hk5 (fun b hm e => by subst e; rcases (D2.mine hm).2.2 _ _ R1 with e | e <;> revert e <;> decide) (fun b hb e => by subst e; exact not_by R1 (by decide) hbr hb)
    have hgx := HGX.out
    have hbw := HB0.out
    refine ⟨_, S1, rfl, ⟨M1, hDk, fun b hb => (HK1.out.1 b hb).imp id (Nat.le_trans hbw.size), ?_⟩, ⟨(aq, an, ac), (bq, bn, bc), sl, ll, rfl, ((HRA1.out.on h2).same HSF.out.1 HSF.out.2).off hk5 R1 (by decide) hbr⟩, HOK1.out, HRM.out⟩
    have k2 := (HK1.out.2.on h2)
    exact ⟨hk5.os.trans (k2.os.trans hbw.os), hk5.tape.trans (k2.tape.trans hbw.tape), hk5.output.trans (k2.output.trans hbw.output), Nat.le_trans hbw.size (Nat.le_trans k2.size hk5.size), fun b hb hm => (hk5.block b (Nat.lt_of_lt_of_le hb (Nat.le_trans hbw.size k2.size)) (fun e => by omega)).trans ((k2.block b (Nat.lt_of_lt_of_le hb hbw.size) hm).trans (hbw.block b hb))⟩
  · clear e2 HA2 HA3 y1 y2 z1 z2
    have HGET := Lib.hid (get_c base d M S N W0 HD0.out HOKB.out (by omega) kk ⟨by omega, by omega⟩)
    have HRGET := Lib.hid (fun W (hW : Below W0.heap.size W0 W) => rget_c base (aq, an, ac) (bq, bn, bc) S sl ll N W (HRA.out.on hW) HOKB.out (by omega) kk)
    unfold GetR at HRGET
    generalize (S.get kk).isSome = bb at HGET HRGET
    generalize (S.get kk).getD [] = vv at HGET HRGET
    go_upto_region 20 with first
      | (go_at_call 15; refine HGET.out.mono ?_; rintro e_ w1 ⟨⟨q1, n1, c1⟩, rfl, hg1, hr1, h1⟩; simp only [slV]; clear a0 a1 a2 a3 a4; replace A0 := A0.on h1; obtain ⟨⟨a0, a1, a2, a3, a4⟩, -⟩ := A0.c5; have HG1 := Lib.hid (And.intro hg1 hr1); have H1 := Lib.hid h1; clear hg1 hr1 h1)
      | (go_at_call 32; refine (HRGET.out _ H1.out).mono ?_; rintro e_ w2 ⟨⟨q2, n2, c2⟩, rfl, hg2, hr2, h2⟩; simp only [slV]; clear a0 a1 a2 a3 a4; replace A0 := A0.on h2; obtain ⟨⟨a0, a1, a2, a3, a4⟩, -⟩ := A0.c5; have HG2 := Lib.hid (And.intro hg2 hr2); have H2 := Lib.hid h2; clear hg2 hr2 h2)
    obtain ⟨L, hL⟩ := disk_list HD0.out
    have h02 := after H1.out H2.out
    have HX : DoOk ⟨base, d, 100, 9, gx + 1 + 1, S, S, zeroD, dv S (aq, an, ac) (bq, bn, bc)⟩ w2 M L := ⟨show (100 : Nat) ≠ 9 by decide, hL, HD0.out.on h02, R0.on h02, by have := HGX.out; dsimp only; omega⟩
    have hgn : gx ∉ (gx + 1 + 1) :: L := fun hm => by
      rcases List.mem_cons.1 hm with e | hm
      · omega
      · rcases (HX.disk.mine ((hL _).2 hm)).2.2 _ _ A0 with e | e <;> revert e <;> decide
    have hsm := fun W (hW : KeptD ((gx + 1 + 1) :: L) w2 W) => same_s (HX.good hW (HG1.out.1.on H2.out).1).1 (HX.good hW HG2.out.1).1 (by rw [(HX.good hW (HG1.out.1.on H2.out).1).2, (HX.good hW HG2.out.1).2, (HG1.out.1.on H2.out).2, HG1.out.2, HG2.out.2])
    simp only [slV] at hsm
    have HSM := Lib.hid hsm
    have HXX := Lib.hid HX
    have HRF := Lib.hid (show RefIs w2 base (.agg (dv S (aq, an, ac) (bq, bn, bc))) S from ⟨_, _, sl, ll, rfl, HRA.out.on h02⟩)
    have HBW := Lib.hid (after HB0.out h02)
    have hb2 := Nat.le_trans hb0' h02.size
    obtain ⟨d0, d1, d2, d3, d4⟩ := spc5 A0 hgn
    clear h02 hL HX hgn hsm HG HD0 HRA a0 a1 a2 a3 a4 A0 E0 R0 HGET HRGET HG1 HG2 H1 H2
    refine wp_inv [0, 0, 0, 0, 0, 0, 0, 0, 0, 2, 3] ((gx + 1 + 1) :: L) (DoI ⟨base, d, 100, 9, gx + 1 + 1, S, S, zeroD, dv S (aq, an, ac) (bq, bn, bc)⟩ w2 M (fun i => .bool true)) (by kernel_rfl) (by kernel_rfl) (fun _ _ _ _ _ h k => h.below k) (fun _ => doI_zero HXX.out) ?_
    iterate 5 (refine wpQs_q (fun K hK => ?_); go_simp; refine hK _ ?_; clear hK K)
    iterate 2 (refine wpQs_q (fun K hK => ?_); rw [if_pos (by kernel_rfl)]; go_simp; refine hK _ ?_; clear hK K)
    refine wpQs_q (fun K hK => ?_)
    rw [if_pos (by kernel_rfl)]
    go_simp
    apply Exists.intro
    refine ⟨fun p_ => ?_, hK _ ?_⟩
    · refine (HSM.out _ (msd_kept ⟨p_, rfl⟩)).mono ?_
      rintro e_ w5 ⟨rfl, rfl⟩
      exact ⟨rfl, Below.refl _ _⟩
    clear hK K
    refine wpQs_q (fun K hK => ?_)
    go_simp
    refine hK _ ?_
    clear hK K
    repeat (refine wpQs_s ?_)
    refine wpQs_nil ?_
    repeat (refine wpLsI_skip ?_)
    refine wpLsI_one rfl ?s9 (fun vs_ => ?_)
    case s9 =>
      intro S_ V_ w_ hw_ hV_ ha_ hn_ hI_
      have hb := hI_.old hn_
      have HB := Lib.hid hb
      have HFF := Lib.hid (fun v => hI_.store (v := v) HXX.out hw_ hn_ (kept5 (w := w_) (g := gx + 1 + 1) (.int .i64 S.room) (.int .i64 S.fails) (.int .i64 S.waits) (.slice aq an ac) (.slice bq bn bc)) (Blk.st5 hb _ _ _ _ _))
      clear hV_ ha_ hn_ hI_ hw_ hb d0 d1 d2 d3 d4
      have hb := HB.out
      obtain ⟨⟨c0, c1, c2, c3, c4⟩, f0, f1, f2, f3, f4⟩ := Blk.c5 (show Blk w_ (gx + 1 + 1) 42 #[.int .i64 0, .int .i64 0, .int .i64 0, .slice none 0 0, .slice none 0 0] from hb)
      go_simp
      exact HFF.out _
    repeat (refine wpLsI_skip ?_)
    refine wpLsI_nil fun V_ w5 hw_ hV_ hI_ => ?_
    have hD' := hI_.2.1 (fun h => absurd h.1 (show ¬ (100 : Nat) < 11 by decide))
    have hB' : Blk w5 (gx + 1 + 1) 42 #[.int .i64 S.room, .int .i64 S.fails, .int .i64 S.waits, .slice aq an ac, .slice bq bn bc] := hI_.2.2.2.2 ⟨show (9 : Nat) < 11 by decide, rfl⟩
    have hfin : DoesR base d M S N (.returned (.tuple #[.agg (dv S (aq, an, ac) (bq, bn, bc)), .bool true])) w w5 := ⟨_, S, rfl, does_turn HBW.out hw_ HXX.out.list (by have := HGX.out; omega) hD' (fun _ h => .inl h), HXX.out.ref hw_ HRF.out, HOK.out.mono (Nat.le_succ _) (Nat.le_refl _), rfl⟩
    have HFIN := Lib.hid hfin
    clear hV_ hI_ hw_ d0 d1 d2 d3 d4 hD' hfin
    obtain ⟨⟨d0, d1, d2, d3, d4⟩, -⟩ := hB'.c5
    simp only [tails]
    go_wp2_with fail
    exact bodyPost_ret (v := .tuple #[.agg #[.int .i64 S.room, .int .i64 S.fails, .int .i64 S.waits, .slice aq an ac, .slice bq bn bc], .bool true]) (by simp [results, Try.f21, go_sem, d0, d1, d2, d3, d4]) rfl HFIN.out
end Go.Proofs.Ytlmjggbpophnfaa
