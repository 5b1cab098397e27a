/- Texts that build one behind the other, laid together: SDoes StN Bos Dd9. -/
import Derived.Test.YtkopenemoddbbaaMa7
import Derived.Test.YtkopenemoddbbaaMa1
/- A deed, of both (printed by gen_does9.py). -/
namespace Go.Proofs.Ytkopenemoddbbaa
open Go.RowKit Go.Maps
attribute [local go_sem] Oper.semAt_some

set_option maxRecDepth 100000 in
set_option maxHeartbeats 8000000 in
theorem sdoes_c (base sb d : Nat) (M : Nat → Prop) (S : DS) (N : Nat) (w : World) (h : StoreIs w base M sb d S) (hok : DOk S N 1000000) (hN : N ≤ 1000) (v : Value) (hv : RefIs w base v S) (kind id nn : Int) (x : B8) (hid : In64 id) (hnn : In64 nn) (s : SL) (hs : GoodS w base s) (hbase : base ≤ w.heap.size) :
    Calls Try.prog 22 #[.pointer (some ⟨sb, 0, none⟩), v, .agg #[.int .i64 kind, .int .i64 id, .int .i64 nn, .int .u8 (n8 x), slV s]] w fun r w' => Does9R base d M (doV S kind id nn x (rdB w (s.1, min s.2.1 20, s.2.2))) r w w' := by
  obtain ⟨a, b, sl, ll, rfl, hra⟩ := hv
  obtain ⟨S9, hS9⟩ : ∃ S9, doV S kind id nn x (rdB w (s.1, min s.2.1 20, s.2.2)) = S9 := ⟨_, rfl⟩
  rw [hS9]
  unfold doV at hS9
  have x1 := arI_lo id (m := 4) (by decide)
  have x2 := arI_hi id (m := 4) (by decide)
  have HA := Lib.hid (around_c id 4 hid.1 hid.2 (by decide))
  have HA5 := Lib.hid (around_c id 25 hid.1 hid.2 (by decide))
  generalize arI id 4 = kk at HA x1 x2 hS9
  generalize arI id 25 = av at HA5 hS9
  have y1 := arI_lo nn (m := 60) (by decide)
  have y2 := arI_hi nn (m := 60) (by decide)
  have HA2 := Lib.hid (around_c nn 60 hnn.1 hnn.2 (by decide))
  generalize arI nn 60 = cr at HA2 y1 y2 hS9
  have z1 := arI_lo nn (m := 5) (by decide)
  have z2 := arI_hi nn (m := 5) (by decide)
  have HA3 := Lib.hid (around_c nn 5 hnn.1 hnn.2 (by decide))
  generalize arI nn 5 = fl at HA3 z1 z2 hS9
  have u1 := arI_lo nn (m := 8) (by decide)
  have u2 := arI_hi nn (m := 8) (by decide)
  have HA4 := Lib.hid (around_c nn 8 hnn.1 hnn.2 (by decide))
  generalize arI nn 8 = ky at HA4 u1 u2 hS9
  clear hid hnn
  obtain ⟨W0, hW⟩ : ∃ W0, W0 = ((w.alloc (.cells (dv S a b) 46)).alloc (.cells #[.int .i64 kind, .int .i64 id, .int .i64 nn, .int .u8 (n8 x), slV s] 51)).alloc (.cells zeroD 46) := ⟨_, rfl⟩
  have hb0 : Below w.heap.size w W0 := by rw [hW]; go_grown
  have A0 : Blk W0 w.heap.size 46 (dv S a b) := by rw [hW]; exact ((Blk.new' rfl).alloc _).alloc _
  have E0 : Blk W0 (w.heap.size + 1) 51 #[.int .i64 kind, .int .i64 id, .int .i64 nn, .int .u8 (n8 x), slV s] := by rw [hW]; exact (Blk.new' (by simp)).alloc _
  have R0 : Blk W0 (w.heap.size + 1 + 1) 46 zeroD := by rw [hW]; exact Blk.new' (by simp)
  have hs0 := hs.on hb0
  have hcut := hs0.1.cut (k := min s.2.1 20) (Nat.min_le_left _ _)
  have hcw := (hs.cut (k := min s.2.1 20) (Nat.min_le_left _ _)).1.on hb0
  have hfew := few_c s.1 s.2.1 s.2.2 20 hs.cap W0
  have hra0 := hra.on hb0
  have hst0 := h.on hb0
  have hltsb := h.blk.lt
  have hG := hcut.1
  have hno20 : min s.2.1 20 ≤ 20 := Nat.min_le_right _ _
  have hBB := hcw.2
  obtain ⟨sq, sn, sc⟩ := s
  dsimp only at hfew hG hno20 hS9 hBB
  simp only [slV] at E0 hfew hW
  generalize min sn 20 = no at hfew hG hno20 hS9 hBB
  rw [← hBB] at hS9
  have hb0' : base ≤ W0.heap.size := Nat.le_trans hbase hb0.size
  have HB0 := Lib.hid hb0
  have HRA := Lib.hid hra0
  have HD0 := Lib.hid hst0.disk
  have HST := Lib.hid hst0
  have HG := Lib.hid hG
  have HOKB := Lib.hid hok
  have HF := Lib.hid hfew
  have HS9 := Lib.hid hS9
  obtain ⟨gx, hgx⟩ : ∃ gx, gx = w.heap.size := ⟨_, rfl⟩
  rw [← hgx] at A0 E0 R0 hltsb
  have HGX := Lib.hid hgx
  clear hs0 hcut hcw hra hra0 hst0 hok hG hb0 h hs hfew hS9 hBB
  obtain ⟨aq, an, ac⟩ := a
  obtain ⟨bq, bn, bc⟩ := b
  simp only [slV, dv] at A0 hW ⊢
  have e0 := E0.cell 0
  have e1 := E0.cell 1
  have e2 := E0.cell 2
  have e3 := E0.cell 3
  have e4 := E0.cell 4
  have sb0 := HST.out.blk.cell 0
  obtain ⟨⟨a0, a1, a2, a3, a4⟩, -⟩ := A0.c5
  go_enter Try.func22, Try.ntmps22
  go_upto_region 1 with (fail)
  rw [← hW, ← hgx]
  clear hW hgx
  go_upto_region 4 with first
    | (go_at_call 13; refine (HA.out _).mono ?_; rintro e_ w1 ⟨rfl, rfl⟩)
    | (go_at_call 9; refine HF.out.mono ?_; rintro e_ w1 ⟨rfl, rfl⟩)
  clear HA HF e0 e4
  have hk : kind = 0 ∨ kind = 1 ∨ kind = 2 ∨ kind = 3 ∨ kind = 4 ∨ (¬ kind = 0 ∧ ¬ kind = 1 ∧ ¬ kind = 2 ∧ ¬ kind = 3 ∧ ¬ kind = 4) := by omega
  rcases hk with rfl | rfl | rfl | rfl | rfl | ⟨k0, k1, k2, k3, k4⟩
  · clear e1 e2 e3 HA2 HA3 HA4 HA5 y1 y2 z1 z2 u1 u2 sb0
    have HPUT := Lib.hid (rssave_c base (aq, an, ac) (bq, bn, bc) S sl ll N W0 HRA.out HOKB.out (by omega) kk (sq, no, sc) HG.out (by dsimp only; omega) hb0')
    go_upto_region 6 with (go_at_call 41; refine HPUT.out.mono ?_; rintro e_ w1 ⟨v1, rfl, ⟨⟨aq', an', ac'⟩, ⟨bq', bn', bc'⟩, sl', ll', rfl, hR1⟩, h1⟩; simp only [dv, slV])
    have hcall2 : ∀ W2, DiskIs W2 base M d S → Blk W2 sb 59 #[.pointer (some ⟨d, 0, none⟩)] → (GoodS W2 base (sq, no, sc) ∧ rdB W2 (sq, no, sc) = rdB W0 (sq, no, sc)) → base ≤ W2.heap.size → Calls Try.prog 18 #[.pointer (some ⟨sb, 0, none⟩), .int .i64 kk, .slice sq no sc] W2 fun r w' => r = .returned (.int .i64 (saveV S kk (rdB W0 (sq, no, sc))).2) ∧ Turn W2 base M d (saveV S kk (rdB W0 (sq, no, sc))).1 w' := fun W2 h hsb hg hb => by
      have := ssave_c base sb d M S N W2 ⟨hsb, h, HST.out.based⟩ HOKB.out (by omega) kk (sq, no, sc) hg.1 (by dsimp only; omega) hb
      rw [hg.2] at this
      exact this
    have hs9 : S9 = (saveV S kk (rdB W0 (sq, no, sc))).1 := by rw [← HS9.out]; rfl
    generalize (saveV S kk (rdB W0 (sq, no, sc))).2 = E at hcall2 ⊢
    generalize (saveV S kk (rdB W0 (sq, no, sc))).1 = S1 at hcall2 hs9 hR1 ⊢
    subst hs9
    have hg2 := HG.out.on h1
    clear HPUT HS9
    generalize hV : World.alloc w1 _ = W2
    have X2 : Blk W2 w1.heap.size 46 (dv S9 (aq', an', ac') (bq', bn', bc')) := Blk.eqw hV (Blk.new' rfl)
    have h12 : Below w1.heap.size w1 W2 := by rw [← hV]; exact (Below.refl _ _).alloc (Nat.le_refl _) _
    have h02 := after h1 h12
    obtain ⟨L, hL⟩ := disk_list HD0.out
    have HX : DoOk ⟨base, d, 4, 7, gx + 1 + 1, S, S9, zeroD, dv S9 (aq', an', ac') (bq', bn', bc')⟩ W2 M L := ⟨show (4 : Nat) ≠ 7 by decide, hL, HD0.out.on h02, R0.on h02, by have := HGX.out; dsimp only; omega⟩
    have hgn : w1.heap.size ∉ (gx + 1 + 1) :: L := fun hm => by
      rcases List.mem_cons.1 hm with e | hm
      · have := R0.lt; have := h1.size; omega
      · have := (HD0.out.mine ((hL _).2 hm)).2.1; have := h1.size; omega
    have hbs : sb ∉ (gx + 1 + 1) :: L := fun hm => by
      rcases List.mem_cons.1 hm with e | hm
      · omega
      · rcases (HD0.out.mine ((hL _).2 hm)).2.2 _ _ HST.out.blk with e | e <;> revert e <;> decide
    have HXX := Lib.hid HX
    have hsk := HST.out.blk.on h02
    have HBS := Lib.hid (fun W (hW : KeptD ((gx + 1 + 1) :: L) W2 W) => Kept.blk hW hbs hsk)
    have sc0 := fun f d os => (hsk.sp hbs f d os).cell 0
    have HGD := Lib.hid (fun W (hW : KeptD ((gx + 1 + 1) :: L) W2 W) => HX.good hW (hg2.1.on h12).1)
    have HRD := Lib.hid (And.intro hg2.2 (hg2.1.on h12).2)
    have HCL := Lib.hid hcall2
    have HRF := Lib.hid (show RefIs W2 base (.agg (dv S9 (aq', an', ac') (bq', bn', bc'))) S9 from ⟨_, _, sl', ll', rfl, hR1.on h12⟩)
    have HBW := Lib.hid (after HB0.out h02)
    have hb2 := Nat.le_trans hb0' h02.size
    obtain ⟨d0, d1, d2, d3, d4⟩ := spc5 X2 hgn
    clear hV h12 h02 hL HX hgn hbs hsk hg2 hcall2 hR1 h1 HG HD0 HST HRA a0 a1 a2 a3 a4 A0 E0
    simp only [dv, slV] at d0 d1 d2 d3 d4 X2
    generalize w1.heap.size = gn at *
    refine wp_inv [0, 0, 0, 0, 2, 0, 2, 2, 3] ((gx + 1 + 1) :: L) (DoI ⟨base, d, 4, 7, gx + 1 + 1, S, S9, zeroD, dv S9 (aq', an', ac') (bq', bn', bc')⟩ W2 M (fun i => if i = 4 then .int .i64 E else .bool true)) (by kernel_rfl) (by kernel_rfl) (fun _ _ _ _ _ h k => h.below k) (fun _ => doI_zero HXX.out) ?_
    repeat (first | (refine wpQs_s ?_) | (refine wpQs_q (fun K hK => ?_); go_simp; first | (refine hK _ ?_; clear hK K) | (apply Exists.intro; refine ⟨fun _ => ?_, hK _ ?_⟩; (fail); clear hK K)))
    refine wpQs_nil ?_
    repeat (refine wpLsI_skip ?_)
    refine wpLsI_one rfl ?s4 (fun vc_ => ?_)
    case s4 =>
      intro S_ V_ w_ hw_ hV_ ha_ hn_ hI_
      have hgd := HGD.out w_ hw_
      have hc := HCL.out w_ (hI_.2.1 hn_) (HBS.out w_ hw_) ⟨hgd.1, hgd.2.trans (HRD.out.2.trans HRD.out.1)⟩ (Nat.le_trans hb2 (Kept.size hw_))
      have HC := Lib.hid hc
      have HW_ := Lib.hid hw_
      have HI_ := Lib.hid hI_
      have HN_ := Lib.hid hn_
      clear hV_ ha_ hn_ hI_ hw_ hc hgd d0 d1 d2 d3 d4 sc0
      go_simp
      refine HC.out.mono ?_
      rintro e_ w5 ⟨rfl, t5⟩
      exact ⟨_, rfl, HI_.out.call HXX.out HW_.out HN_.out rfl t5⟩
    repeat (refine wpLsI_skip ?_)
    refine wpLsI_one rfl ?s6 (fun ve_ => ?_)
    case s6 =>
      intro S_ V_ w_ hw_ hV_ ha_ hn_ hI_
      have hv : vc_ = .int .i64 E := (hV_ 4 (by decide) rfl).symm.trans (hI_.1 4 (ha_ 4 (by decide) rfl (by kernel_rfl)) (show (4 : Nat) ≠ 7 by decide))
      have HF := Lib.hid (And.intro hw_ (hI_.lay (i := 6) (v := .bool true) (show (6 : Nat) ≠ 4 by decide) (show (6 : Nat) ≠ 7 by decide) rfl (Below.refl _ _)))
      clear hV_ ha_ hn_ hI_ hw_ d0 d1 d2 d3 d4 sc0
      subst hv
      go_simp
      exact HF.out
    refine wpLsI_one rfl ?s7 (fun vs_ => ?_)
    case s7 =>
      intro S_ V_ w_ hw_ hV_ ha_ hn_ hI_
      have hb := hI_.old hn_
      have HB := Lib.hid hb
      have HF := Lib.hid (fun v => hI_.store (v := v) HXX.out hw_ hn_ (kept5 (w := w_) (g := gx + 1 + 1) (.int .i64 S9.room) (.int .i64 S9.fails) (.int .i64 S9.waits) (.slice aq' an' ac') (.slice bq' bn' bc')) (Blk.st5 hb _ _ _ _ _))
      clear hV_ ha_ hn_ hI_ hw_ hb d0 d1 d2 d3 d4 sc0
      have hb := HB.out
      obtain ⟨⟨c0, c1, c2, c3, c4⟩, f0, f1, f2, f3, f4⟩ := Blk.c5 (show Blk w_ (gx + 1 + 1) 46 #[.int .i64 0, .int .i64 0, .int .i64 0, .slice none 0 0, .slice none 0 0] from hb)
      go_simp
      exact HF.out _
    repeat (refine wpLsI_skip ?_)
    refine wpLsI_nil fun V_ w2 hw_ hV_ hI_ => ?_
    have hv6 : ve_ = .bool true := (hV_ 6 (by decide) rfl).symm.trans (hI_.1 6 ⟨show (6 : Nat) < 9 by decide, rfl⟩ (show (6 : Nat) ≠ 7 by decide))
    obtain ⟨M', hD', hM'⟩ := hI_.2.2.1 ⟨show (4 : Nat) < 9 by decide, rfl⟩
    have hB' : Blk w2 (gx + 1 + 1) 46 #[.int .i64 S9.room, .int .i64 S9.fails, .int .i64 S9.waits, .slice aq' an' ac', .slice bq' bn' bc'] := hI_.2.2.2.2 ⟨show (7 : Nat) < 9 by decide, rfl⟩
    have hfin : Does9R base d M S9 (.returned (.tuple #[.agg (dv S9 (aq', an', ac') (bq', bn', bc')), .bool true])) w w2 := ⟨_, rfl, does_turn HBW.out hw_ HXX.out.list (by have := HGX.out; omega) hD' hM', HXX.out.ref hw_ HRF.out⟩
    have HFIN := Lib.hid hfin
    subst hv6
    clear hV_ hI_ hw_ d0 d1 d2 d3 d4 sc0 hD' hM' hfin
    obtain ⟨⟨d0, d1, d2, d3, d4⟩, -⟩ := hB'.c5
    simp only [tails]
    go_wp2_with fail
    exact bodyPost_ret (v := .tuple #[.agg #[.int .i64 S9.room, .int .i64 S9.fails, .int .i64 S9.waits, .slice aq' an' ac', .slice bq' bn' bc'], .bool true]) (by simp [results, Try.f22, go_sem, d0, d1, d2, d3, d4]) rfl HFIN.out
  · clear e1 e2 e3 HA2 HA3 HA4 HA5 y1 y2 z1 z2 u1 u2 sb0
    have HPUT := Lib.hid (rsync_c base (aq, an, ac) (bq, bn, bc) S sl ll N W0 HRA.out HOKB.out (by omega) hb0')
    go_upto_region 9 with (go_at_call 42; refine HPUT.out.mono ?_; rintro e_ w1 ⟨v1, rfl, ⟨⟨aq', an', ac'⟩, ⟨bq', bn', bc'⟩, sl', ll', rfl, hR1⟩, h1⟩; simp only [dv, slV])
    have hcall2 : ∀ W2, DiskIs W2 base M d S → Blk W2 sb 59 #[.pointer (some ⟨d, 0, none⟩)] → (GoodS W2 base (sq, no, sc) ∧ rdB W2 (sq, no, sc) = rdB W0 (sq, no, sc)) → base ≤ W2.heap.size → Calls Try.prog 39 #[.pointer (some ⟨d, 0, none⟩)] W2 fun r w' => r = .returned (.int .i64 S.sync.2) ∧ Turn W2 base M d S.sync.1 w' := fun W2 h hsb hg hb => by
      exact sync_c base d M S N W2 h HOKB.out (by omega) hb
    have hs9 : S9 = S.sync.1 := by rw [← HS9.out]; rfl
    generalize S.sync.2 = E at hcall2 ⊢
    generalize S.sync.1 = S1 at hcall2 hs9 hR1 ⊢
    subst hs9
    have hg2 := HG.out.on h1
    clear HPUT HS9
    generalize hV : World.alloc w1 _ = W2
    have X2 : Blk W2 w1.heap.size 46 (dv S9 (aq', an', ac') (bq', bn', bc')) := Blk.eqw hV (Blk.new' rfl)
    have h12 : Below w1.heap.size w1 W2 := by rw [← hV]; exact (Below.refl _ _).alloc (Nat.le_refl _) _
    have h02 := after h1 h12
    obtain ⟨L, hL⟩ := disk_list HD0.out
    have HX : DoOk ⟨base, d, 6, 9, gx + 1 + 1, S, S9, zeroD, dv S9 (aq', an', ac') (bq', bn', bc')⟩ W2 M L := ⟨show (6 : Nat) ≠ 9 by decide, hL, HD0.out.on h02, R0.on h02, by have := HGX.out; dsimp only; omega⟩
    have hgn : w1.heap.size ∉ (gx + 1 + 1) :: L := fun hm => by
      rcases List.mem_cons.1 hm with e | hm
      · have := R0.lt; have := h1.size; omega
      · have := (HD0.out.mine ((hL _).2 hm)).2.1; have := h1.size; omega
    have hbs : sb ∉ (gx + 1 + 1) :: L := fun hm => by
      rcases List.mem_cons.1 hm with e | hm
      · omega
      · rcases (HD0.out.mine ((hL _).2 hm)).2.2 _ _ HST.out.blk with e | e <;> revert e <;> decide
    have HXX := Lib.hid HX
    have hsk := HST.out.blk.on h02
    have HBS := Lib.hid (fun W (hW : KeptD ((gx + 1 + 1) :: L) W2 W) => Kept.blk hW hbs hsk)
    have sc0 := fun f d os => (hsk.sp hbs f d os).cell 0
    have HGD := Lib.hid (fun W (hW : KeptD ((gx + 1 + 1) :: L) W2 W) => HX.good hW (hg2.1.on h12).1)
    have HRD := Lib.hid (And.intro hg2.2 (hg2.1.on h12).2)
    have HCL := Lib.hid hcall2
    have HRF := Lib.hid (show RefIs W2 base (.agg (dv S9 (aq', an', ac') (bq', bn', bc'))) S9 from ⟨_, _, sl', ll', rfl, hR1.on h12⟩)
    have HBW := Lib.hid (after HB0.out h02)
    have hb2 := Nat.le_trans hb0' h02.size
    obtain ⟨d0, d1, d2, d3, d4⟩ := spc5 X2 hgn
    clear hV h12 h02 hL HX hgn hbs hsk hg2 hcall2 hR1 h1 HG HD0 HST HRA a0 a1 a2 a3 a4 A0 E0
    simp only [dv, slV] at d0 d1 d2 d3 d4 X2
    generalize w1.heap.size = gn at *
    refine wp_inv [0, 0, 0, 0, 0, 0, 2, 0, 2, 2, 3] ((gx + 1 + 1) :: L) (DoI ⟨base, d, 6, 9, gx + 1 + 1, S, S9, zeroD, dv S9 (aq', an', ac') (bq', bn', bc')⟩ W2 M (fun i => if i = 6 then .int .i64 E else .bool true)) (by kernel_rfl) (by kernel_rfl) (fun _ _ _ _ _ h k => h.below k) (fun _ => doI_zero HXX.out) ?_
    repeat (first | (refine wpQs_s ?_) | (refine wpQs_q (fun K hK => ?_); go_simp; first | (refine hK _ ?_; clear hK K) | (apply Exists.intro; refine ⟨fun _ => ?_, hK _ ?_⟩; (fail); clear hK K)))
    refine wpQs_nil ?_
    repeat (refine wpLsI_skip ?_)
    refine wpLsI_one rfl ?s4 (fun vc_ => ?_)
    case s4 =>
      intro S_ V_ w_ hw_ hV_ ha_ hn_ hI_
      have hgd := HGD.out w_ hw_
      have hc := HCL.out w_ (hI_.2.1 hn_) (HBS.out w_ hw_) ⟨hgd.1, hgd.2.trans (HRD.out.2.trans HRD.out.1)⟩ (Nat.le_trans hb2 (Kept.size hw_))
      have HC := Lib.hid hc
      have HW_ := Lib.hid hw_
      have HI_ := Lib.hid hI_
      have HN_ := Lib.hid hn_
      clear hV_ ha_ hn_ hI_ hw_ hc hgd d0 d1 d2 d3 d4 sc0
      go_simp
      refine HC.out.mono ?_
      rintro e_ w5 ⟨rfl, t5⟩
      exact ⟨_, rfl, HI_.out.call HXX.out HW_.out HN_.out rfl t5⟩
    repeat (refine wpLsI_skip ?_)
    refine wpLsI_one rfl ?s6 (fun ve_ => ?_)
    case s6 =>
      intro S_ V_ w_ hw_ hV_ ha_ hn_ hI_
      have hv : vc_ = .int .i64 E := (hV_ 6 (by decide) rfl).symm.trans (hI_.1 6 (ha_ 6 (by decide) rfl (by kernel_rfl)) (show (6 : Nat) ≠ 9 by decide))
      have HF := Lib.hid (And.intro hw_ (hI_.lay (i := 8) (v := .bool true) (show (8 : Nat) ≠ 6 by decide) (show (8 : Nat) ≠ 9 by decide) rfl (Below.refl _ _)))
      clear hV_ ha_ hn_ hI_ hw_ d0 d1 d2 d3 d4 sc0
      subst hv
      go_simp
      exact HF.out
    refine wpLsI_one rfl ?s7 (fun vs_ => ?_)
    case s7 =>
      intro S_ V_ w_ hw_ hV_ ha_ hn_ hI_
      have hb := hI_.old hn_
      have HB := Lib.hid hb
      have HF := Lib.hid (fun v => hI_.store (v := v) HXX.out hw_ hn_ (kept5 (w := w_) (g := gx + 1 + 1) (.int .i64 S9.room) (.int .i64 S9.fails) (.int .i64 S9.waits) (.slice aq' an' ac') (.slice bq' bn' bc')) (Blk.st5 hb _ _ _ _ _))
      clear hV_ ha_ hn_ hI_ hw_ hb d0 d1 d2 d3 d4 sc0
      have hb := HB.out
      obtain ⟨⟨c0, c1, c2, c3, c4⟩, f0, f1, f2, f3, f4⟩ := Blk.c5 (show Blk w_ (gx + 1 + 1) 46 #[.int .i64 0, .int .i64 0, .int .i64 0, .slice none 0 0, .slice none 0 0] from hb)
      go_simp
      exact HF.out _
    repeat (refine wpLsI_skip ?_)
    refine wpLsI_nil fun V_ w2 hw_ hV_ hI_ => ?_
    have hv6 : ve_ = .bool true := (hV_ 8 (by decide) rfl).symm.trans (hI_.1 8 ⟨show (8 : Nat) < 11 by decide, rfl⟩ (show (8 : Nat) ≠ 9 by decide))
    obtain ⟨M', hD', hM'⟩ := hI_.2.2.1 ⟨show (6 : Nat) < 11 by decide, rfl⟩
    have hB' : Blk w2 (gx + 1 + 1) 46 #[.int .i64 S9.room, .int .i64 S9.fails, .int .i64 S9.waits, .slice aq' an' ac', .slice bq' bn' bc'] := hI_.2.2.2.2 ⟨show (9 : Nat) < 11 by decide, rfl⟩
    have hfin : Does9R base d M S9 (.returned (.tuple #[.agg (dv S9 (aq', an', ac') (bq', bn', bc')), .bool true])) w w2 := ⟨_, rfl, does_turn HBW.out hw_ HXX.out.list (by have := HGX.out; omega) hD' hM', HXX.out.ref hw_ HRF.out⟩
    have HFIN := Lib.hid hfin
    subst hv6
    clear hV_ hI_ hw_ d0 d1 d2 d3 d4 sc0 hD' hM' hfin
    obtain ⟨⟨d0, d1, d2, d3, d4⟩, -⟩ := hB'.c5
    simp only [tails]
    go_wp2_with fail
    exact bodyPost_ret (v := .tuple #[.agg #[.int .i64 S9.room, .int .i64 S9.fails, .int .i64 S9.waits, .slice aq' an' ac', .slice bq' bn' bc'], .bool true]) (by simp [results, Try.f22, go_sem, d0, d1, d2, d3, d4]) rfl HFIN.out
  · clear e1 e3 HA3 HA4 HA5 z1 z2 u1 u2 sb0
    have HPUT := Lib.hid (rcrash_c base (aq, an, ac) (bq, bn, bc) S sl ll N W0 HRA.out HOKB.out (by omega) cr hb0')
    go_upto_region 13 with first
      | (go_at_call 13; refine (HA2.out _).mono ?_; rintro e_ w1 ⟨rfl, rfl⟩)
      | (go_at_call 43; refine HPUT.out.mono ?_; rintro e_ w1 ⟨v1, rfl, ⟨⟨aq', an', ac'⟩, ⟨bq', bn', bc'⟩, sl', ll', rfl, hR1⟩, h1⟩; simp only [dv, slV])
    clear HA2 e2
    have hcall2 : ∀ W2, DiskIs W2 base M d S → Blk W2 sb 59 #[.pointer (some ⟨d, 0, none⟩)] → (GoodS W2 base (sq, no, sc) ∧ rdB W2 (sq, no, sc) = rdB W0 (sq, no, sc)) → base ≤ W2.heap.size → Calls Try.prog 44 #[.pointer (some ⟨d, 0, none⟩), .int .i64 cr] W2 fun r w' => r = .returned (.int .i64 (S.crash cr).2) ∧ Turn W2 base M d (S.crash cr).1 w' := fun W2 h hsb hg hb => by
      exact crash_c base d M S N W2 h HOKB.out (by omega) cr
    have hs9 : S9 = (S.crash cr).1 := by rw [← HS9.out]; rfl
    generalize (S.crash cr).2 = E at hcall2 ⊢
    generalize (S.crash cr).1 = S1 at hcall2 hs9 hR1 ⊢
    subst hs9
    have hg2 := HG.out.on h1
    clear HPUT HS9
    generalize hV : World.alloc w1 _ = W2
    have X2 : Blk W2 w1.heap.size 46 (dv S9 (aq', an', ac') (bq', bn', bc')) := Blk.eqw hV (Blk.new' rfl)
    have h12 : Below w1.heap.size w1 W2 := by rw [← hV]; exact (Below.refl _ _).alloc (Nat.le_refl _) _
    have h02 := after h1 h12
    obtain ⟨L, hL⟩ := disk_list HD0.out
    have HX : DoOk ⟨base, d, 7, 10, gx + 1 + 1, S, S9, zeroD, dv S9 (aq', an', ac') (bq', bn', bc')⟩ W2 M L := ⟨show (7 : Nat) ≠ 10 by decide, hL, HD0.out.on h02, R0.on h02, by have := HGX.out; dsimp only; omega⟩
    have hgn : w1.heap.size ∉ (gx + 1 + 1) :: L := fun hm => by
      rcases List.mem_cons.1 hm with e | hm
      · have := R0.lt; have := h1.size; omega
      · have := (HD0.out.mine ((hL _).2 hm)).2.1; have := h1.size; omega
    have hbs : sb ∉ (gx + 1 + 1) :: L := fun hm => by
      rcases List.mem_cons.1 hm with e | hm
      · omega
      · rcases (HD0.out.mine ((hL _).2 hm)).2.2 _ _ HST.out.blk with e | e <;> revert e <;> decide
    have HXX := Lib.hid HX
    have hsk := HST.out.blk.on h02
    have HBS := Lib.hid (fun W (hW : KeptD ((gx + 1 + 1) :: L) W2 W) => Kept.blk hW hbs hsk)
    have sc0 := fun f d os => (hsk.sp hbs f d os).cell 0
    have HGD := Lib.hid (fun W (hW : KeptD ((gx + 1 + 1) :: L) W2 W) => HX.good hW (hg2.1.on h12).1)
    have HRD := Lib.hid (And.intro hg2.2 (hg2.1.on h12).2)
    have HCL := Lib.hid hcall2
    have HRF := Lib.hid (show RefIs W2 base (.agg (dv S9 (aq', an', ac') (bq', bn', bc'))) S9 from ⟨_, _, sl', ll', rfl, hR1.on h12⟩)
    have HBW := Lib.hid (after HB0.out h02)
    have hb2 := Nat.le_trans hb0' h02.size
    obtain ⟨d0, d1, d2, d3, d4⟩ := spc5 X2 hgn
    clear hV h12 h02 hL HX hgn hbs hsk hg2 hcall2 hR1 h1 HG HD0 HST HRA a0 a1 a2 a3 a4 A0 E0
    simp only [dv, slV] at d0 d1 d2 d3 d4 X2
    generalize w1.heap.size = gn at *
    refine wp_inv [0, 0, 0, 0, 0, 0, 0, 2, 0, 2, 2, 3] ((gx + 1 + 1) :: L) (DoI ⟨base, d, 7, 10, gx + 1 + 1, S, S9, zeroD, dv S9 (aq', an', ac') (bq', bn', bc')⟩ W2 M (fun i => if i = 7 then .int .i64 E else .bool true)) (by kernel_rfl) (by kernel_rfl) (fun _ _ _ _ _ h k => h.below k) (fun _ => doI_zero HXX.out) ?_
    repeat (first | (refine wpQs_s ?_) | (refine wpQs_q (fun K hK => ?_); go_simp; first | (refine hK _ ?_; clear hK K) | (apply Exists.intro; refine ⟨fun _ => ?_, hK _ ?_⟩; (fail); clear hK K)))
    refine wpQs_nil ?_
    repeat (refine wpLsI_skip ?_)
    refine wpLsI_one rfl ?s4 (fun vc_ => ?_)
    case s4 =>
      intro S_ V_ w_ hw_ hV_ ha_ hn_ hI_
      have hgd := HGD.out w_ hw_
      have hc := HCL.out w_ (hI_.2.1 hn_) (HBS.out w_ hw_) ⟨hgd.1, hgd.2.trans (HRD.out.2.trans HRD.out.1)⟩ (Nat.le_trans hb2 (Kept.size hw_))
      have HC := Lib.hid hc
      have HW_ := Lib.hid hw_
      have HI_ := Lib.hid hI_
      have HN_ := Lib.hid hn_
      clear hV_ ha_ hn_ hI_ hw_ hc hgd d0 d1 d2 d3 d4 sc0
      go_simp
      refine HC.out.mono ?_
      rintro e_ w5 ⟨rfl, t5⟩
      exact ⟨_, rfl, HI_.out.call HXX.out HW_.out HN_.out rfl t5⟩
    repeat (refine wpLsI_skip ?_)
    refine wpLsI_one rfl ?s6 (fun ve_ => ?_)
    case s6 =>
      intro S_ V_ w_ hw_ hV_ ha_ hn_ hI_
      have hv : vc_ = .int .i64 E := (hV_ 7 (by decide) rfl).symm.trans (hI_.1 7 (ha_ 7 (by decide) rfl (by kernel_rfl)) (show (7 : Nat) ≠ 10 by decide))
      have HF := Lib.hid (And.intro hw_ (hI_.lay (i := 9) (v := .bool true) (show (9 : Nat) ≠ 7 by decide) (show (9 : Nat) ≠ 10 by decide) rfl (Below.refl _ _)))
      clear hV_ ha_ hn_ hI_ hw_ d0 d1 d2 d3 d4 sc0
      subst hv
      go_simp
      exact HF.out
    refine wpLsI_one rfl ?s7 (fun vs_ => ?_)
    case s7 =>
      intro S_ V_ w_ hw_ hV_ ha_ hn_ hI_
      have hb := hI_.old hn_
      have HB := Lib.hid hb
      have HF := Lib.hid (fun v => hI_.store (v := v) HXX.out hw_ hn_ (kept5 (w := w_) (g := gx + 1 + 1) (.int .i64 S9.room) (.int .i64 S9.fails) (.int .i64 S9.waits) (.slice aq' an' ac') (.slice bq' bn' bc')) (Blk.st5 hb _ _ _ _ _))
      clear hV_ ha_ hn_ hI_ hw_ hb d0 d1 d2 d3 d4 sc0
      have hb := HB.out
      obtain ⟨⟨c0, c1, c2, c3, c4⟩, f0, f1, f2, f3, f4⟩ := Blk.c5 (show Blk w_ (gx + 1 + 1) 46 #[.int .i64 0, .int .i64 0, .int .i64 0, .slice none 0 0, .slice none 0 0] from hb)
      go_simp
      exact HF.out _
    repeat (refine wpLsI_skip ?_)
    refine wpLsI_nil fun V_ w2 hw_ hV_ hI_ => ?_
    have hv6 : ve_ = .bool true := (hV_ 9 (by decide) rfl).symm.trans (hI_.1 9 ⟨show (9 : Nat) < 12 by decide, rfl⟩ (show (9 : Nat) ≠ 10 by decide))
    obtain ⟨M', hD', hM'⟩ := hI_.2.2.1 ⟨show (7 : Nat) < 12 by decide, rfl⟩
    have hB' : Blk w2 (gx + 1 + 1) 46 #[.int .i64 S9.room, .int .i64 S9.fails, .int .i64 S9.waits, .slice aq' an' ac', .slice bq' bn' bc'] := hI_.2.2.2.2 ⟨show (10 : Nat) < 12 by decide, rfl⟩
    have hfin : Does9R base d M S9 (.returned (.tuple #[.agg (dv S9 (aq', an', ac') (bq', bn', bc')), .bool true])) w w2 := ⟨_, rfl, does_turn HBW.out hw_ HXX.out.list (by have := HGX.out; omega) hD' hM', HXX.out.ref hw_ HRF.out⟩
    have HFIN := Lib.hid hfin
    subst hv6
    clear hV_ hI_ hw_ d0 d1 d2 d3 d4 sc0 hD' hM' hfin
    obtain ⟨⟨d0, d1, d2, d3, d4⟩, -⟩ := hB'.c5
    simp only [tails]
    go_wp2_with fail
    exact bodyPost_ret (v := .tuple #[.agg #[.int .i64 S9.room, .int .i64 S9.fails, .int .i64 S9.waits, .slice aq' an' ac', .slice bq' bn' bc'], .bool true]) (by simp [results, Try.f22, go_sem, d0, d1, d2, d3, d4]) rfl HFIN.out
  · clear HA2 HA4 HA5 e1 e3 y1 y2 u1 u2
    have i1 : -9223372036854775808 ≤ fl - 2 := by omega
    have i2 : fl - 2 ≤ 9223372036854775807 := by omega
    have i3 : In64 (fl - 2) := ⟨i1, i2⟩
    have HFAIL := Lib.hid (fail_c base d M S W0 HD0.out (fl - 2) i3)
    have HRF := Lib.hid (fun W => rfail_c S (aq, an, ac) (bq, bn, bc) (fl - 2) i3 W)
    simp only [dv, slV] at HRF
    have hsf : (S.fail (fl - 2)).safe = S.safe ∧ (S.fail (fl - 2)).l = S.l := by unfold DS.fail; split <;> exact ⟨rfl, rfl⟩
    have hs9 : S9 = S.fail (fl - 2) := by rw [← HS9.out]; rfl
    generalize S.fail (fl - 2) = S1 at HFAIL HRF hsf hs9
    subst hs9
    have HSF := Lib.hid hsf
    clear hsf HS9
    go_upto_region 17 with first
      | (go_at_call 13; refine (HA3.out _).mono ?_; rintro e_ w1 ⟨rfl, rfl⟩)
      | (go_at_call 34; refine HFAIL.out.mono ?_; rintro e_ w1 ⟨rfl, t1⟩)
    have A1 := t1.blk HD0.out A0 (by decide)
    have R1 := t1.blk HD0.out R0 (by decide)
    have t1' := t1
    obtain ⟨M1, D1, hM1, hK1⟩ := t1'
    have h1 := t1.below HD0.out hb0'
    have b1 := Nat.le_trans hb0' h1.size
    have HK1 := Lib.hid (And.intro hM1 hK1)
    have HRA1 := Lib.hid (HRA.out.turn t1 HD0.out)
    have H1 := Lib.hid h1
    have HD1 := Lib.hid D1
    clear h1 D1 t1 hM1 hK1 a0 a1 a2 a3 a4 A0 R0 e2 E0 HA3 HFAIL sb0
    obtain ⟨⟨a0, a1, a2, a3, a4⟩, -⟩ := A1.c5
    have hbr : base ≤ gx + 1 + 1 := by have := HGX.out; omega
    go_wp2_with (go_at_call 45; refine (HRF.out _).mono ?_; rintro e_ w2 ⟨rfl, h2⟩; clear a0 a1 a2 a3 a4; replace R1 := R1.on h2; obtain ⟨⟨r0, r1, r2, r3, r4⟩, f0, f1, f2, f3, f4⟩ := R1.c5)
    obtain ⟨⟨d0, d1, d2, d3, d4⟩, -⟩ := (R1.st5 (.int .i64 S9.room) (.int .i64 S9.fails) (.int .i64 S9.waits) (.slice aq an ac) (.slice bq bn bc)).c5
    have hk5 := kept5 (w := w2) (g := gx + 1 + 1) (.int .i64 S9.room) (.int .i64 S9.fails) (.int .i64 S9.waits) (.slice aq an ac) (.slice bq bn bc)
    refine bodyPost_ret (v := .tuple #[.agg #[.int .i64 S9.room, .int .i64 S9.fails, .int .i64 S9.waits, .slice aq an ac, .slice bq bn bc], .bool true]) (by simp [results, Try.f22, go_sem, d0, d1, d2, d3, d4]) rfl ?_
    have D2 := HD1.out.on h2
    have hDk : DiskIs _ base M1 d S9 := D2.kept hk5 (fun b hm e => by subst e; rcases (D2.mine hm).2.2 _ _ R1 with e | e <;> revert e <;> decide) (fun b hb e => by subst e; exact not_by R1 (by decide) hbr hb)
    have hgx := HGX.out
    have hbw := HB0.out
    refine ⟨_, rfl, ⟨M1, hDk, fun b hb => (HK1.out.1 b hb).imp (fun h => h) (Nat.le_trans hbw.size), ?_⟩, RefIs.far (⟨(aq, an, ac), (bq, bn, bc), sl, ll, rfl, (HRA1.out.on h2).same HSF.out.1 HSF.out.2⟩ : RefIs w2 base (.agg (dv S9 (aq, an, ac) (bq, bn, bc))) S9) R1 hbr hk5⟩
    have k2 := (HK1.out.2.on h2)
    exact ⟨hk5.os.trans (k2.os.trans hbw.os), hk5.tape.trans (k2.tape.trans hbw.tape), hk5.output.trans (k2.output.trans hbw.output), Nat.le_trans hbw.size (Nat.le_trans k2.size hk5.size), fun b hb hm => (hk5.block b (Nat.lt_of_lt_of_le hb (Nat.le_trans hbw.size k2.size)) (fun e => by omega)).trans ((k2.block b (Nat.lt_of_lt_of_le hb hbw.size) hm).trans (hbw.block b hb))⟩
  · clear HA2 HA3 y1 y2 z1 z2 sb0
    have HPUT := Lib.hid (rspoil_c base (aq, an, ac) (bq, bn, bc) S sl ll N W0 HRA.out HOKB.out (by omega) ky (by unfold In64; omega) av x hb0')
    unfold SpoR at HPUT
    go_upto_region 22 with first
      | (go_at_call 13; (first | (with_reducible refine Calls.mono (HA4.out _) ?_) | (with_reducible refine Calls.mono (HA5.out _) ?_)); rintro e_ w1 ⟨rfl, rfl⟩)
      | (go_at_call 46; refine HPUT.out.mono ?_; rintro e_ w1 ⟨v1, rfl, ⟨⟨aq', an', ac'⟩, ⟨bq', bn', bc'⟩, sl', ll', rfl, hR1⟩, h1⟩; simp only [dv, slV])
    clear HA4 HA5 e1 e2 e3
    have hcall2 : ∀ W2, DiskIs W2 base M d S → Blk W2 sb 59 #[.pointer (some ⟨d, 0, none⟩)] → (GoodS W2 base (sq, no, sc) ∧ rdB W2 (sq, no, sc) = rdB W0 (sq, no, sc)) → base ≤ W2.heap.size → Calls Try.prog 20 #[.pointer (some ⟨sb, 0, none⟩), .int .i64 ky, .int .i64 av, .int .u8 (n8 x)] W2 fun r w' => r = .returned (.bool (spoilV S ky av x).2) ∧ Turn W2 base M d (spoilV S ky av x).1 w' := fun W2 h hsb hg hb => by
      exact sspoil_c base sb d M S N W2 ⟨hsb, h, HST.out.based⟩ HOKB.out (by omega) ky (by unfold In64; omega) av x hb
    have hs9 : S9 = (spoilV S ky av x).1 := by rw [← HS9.out]; rfl
    generalize (spoilV S ky av x).2 = E at hcall2 ⊢
    generalize (spoilV S ky av x).1 = S1 at hcall2 hs9 hR1 ⊢
    subst hs9
    have hg2 := HG.out.on h1
    clear HPUT HS9
    generalize hV : World.alloc w1 _ = W2
    have X2 : Blk W2 w1.heap.size 46 (dv S9 (aq', an', ac') (bq', bn', bc')) := Blk.eqw hV (Blk.new' rfl)
    have h12 : Below w1.heap.size w1 W2 := by rw [← hV]; exact (Below.refl _ _).alloc (Nat.le_refl _) _
    have h02 := after h1 h12
    obtain ⟨L, hL⟩ := disk_list HD0.out
    have HX : DoOk ⟨base, d, 6, 9, gx + 1 + 1, S, S9, zeroD, dv S9 (aq', an', ac') (bq', bn', bc')⟩ W2 M L := ⟨show (6 : Nat) ≠ 9 by decide, hL, HD0.out.on h02, R0.on h02, by have := HGX.out; dsimp only; omega⟩
    have hgn : w1.heap.size ∉ (gx + 1 + 1) :: L := fun hm => by
      rcases List.mem_cons.1 hm with e | hm
      · have := R0.lt; have := h1.size; omega
      · have := (HD0.out.mine ((hL _).2 hm)).2.1; have := h1.size; omega
    have hbs : sb ∉ (gx + 1 + 1) :: L := fun hm => by
      rcases List.mem_cons.1 hm with e | hm
      · omega
      · rcases (HD0.out.mine ((hL _).2 hm)).2.2 _ _ HST.out.blk with e | e <;> revert e <;> decide
    have hde : gx + 1 ∉ (gx + 1 + 1) :: L := fun hm => by
      rcases List.mem_cons.1 hm with e | hm
      · omega
      · rcases (HD0.out.mine ((hL _).2 hm)).2.2 _ _ E0 with e | e <;> revert e <;> decide
    have de := fun f d os => ((E0.on h02).sp hde f d os).cell 3
    have HXX := Lib.hid HX
    have hsk := HST.out.blk.on h02
    have HBS := Lib.hid (fun W (hW : KeptD ((gx + 1 + 1) :: L) W2 W) => Kept.blk hW hbs hsk)
    have sc0 := fun f d os => (hsk.sp hbs f d os).cell 0
    have HGD := Lib.hid (fun W (hW : KeptD ((gx + 1 + 1) :: L) W2 W) => HX.good hW (hg2.1.on h12).1)
    have HRD := Lib.hid (And.intro hg2.2 (hg2.1.on h12).2)
    have HCL := Lib.hid hcall2
    have HRF := Lib.hid (show RefIs W2 base (.agg (dv S9 (aq', an', ac') (bq', bn', bc'))) S9 from ⟨_, _, sl', ll', rfl, hR1.on h12⟩)
    have HBW := Lib.hid (after HB0.out h02)
    have hb2 := Nat.le_trans hb0' h02.size
    obtain ⟨d0, d1, d2, d3, d4⟩ := spc5 X2 hgn
    clear hV h12 h02 hL HX hgn hbs hsk hg2 hcall2 hR1 h1 HG HD0 HST HRA a0 a1 a2 a3 a4 A0 E0 hde
    simp only [dv, slV] at d0 d1 d2 d3 d4 X2
    generalize w1.heap.size = gn at *
    refine wp_inv [0, 0, 0, 0, 0, 0, 2, 0, 2, 2, 3] ((gx + 1 + 1) :: L) (DoI ⟨base, d, 6, 9, gx + 1 + 1, S, S9, zeroD, dv S9 (aq', an', ac') (bq', bn', bc')⟩ W2 M (evB 6 E)) (by kernel_rfl) (by kernel_rfl) (fun _ _ _ _ _ h k => h.below k) (fun _ => doI_zero HXX.out) ?_
    repeat (first | (refine wpQs_s ?_) | (refine wpQs_q (fun K hK => ?_); go_simp; first | (refine hK _ ?_; clear hK K) | (apply Exists.intro; refine ⟨fun _ => ?_, hK _ ?_⟩; (fail); clear hK K)))
    refine wpQs_nil ?_
    repeat (refine wpLsI_skip ?_)
    refine wpLsI_one rfl ?s4 (fun vc_ => ?_)
    case s4 =>
      intro S_ V_ w_ hw_ hV_ ha_ hn_ hI_
      have hgd := HGD.out w_ hw_
      have hc := HCL.out w_ (hI_.2.1 hn_) (HBS.out w_ hw_) ⟨hgd.1, hgd.2.trans (HRD.out.2.trans HRD.out.1)⟩ (Nat.le_trans hb2 (Kept.size hw_))
      have HC := Lib.hid hc
      have HW_ := Lib.hid hw_
      have HI_ := Lib.hid hI_
      have HN_ := Lib.hid hn_
      clear hV_ ha_ hn_ hI_ hw_ hc hgd d0 d1 d2 d3 d4 sc0 de
      go_simp
      refine HC.out.mono ?_
      rintro e_ w5 ⟨rfl, t5⟩
      exact ⟨_, rfl, HI_.out.call HXX.out HW_.out HN_.out rfl t5⟩
    repeat (refine wpLsI_skip ?_)
    refine wpLsI_one rfl ?s6 (fun ve_ => ?_)
    case s6 =>
      intro S_ V_ w_ hw_ hV_ ha_ hn_ hI_
      have hv : vc_ = .bool E := (hV_ 6 (by decide) rfl).symm.trans (hI_.1 6 (ha_ 6 (by decide) rfl (by kernel_rfl)) (show (6 : Nat) ≠ 9 by decide))
      have HF := Lib.hid (And.intro hw_ (hI_.lay (i := 8) (v := .bool true) (show (8 : Nat) ≠ 6 by decide) (show (8 : Nat) ≠ 9 by decide) rfl (Below.refl _ _)))
      clear hV_ ha_ hn_ hI_ hw_ d0 d1 d2 d3 d4 sc0 de
      subst hv
      go_simp
      exact HF.out
    refine wpLsI_one rfl ?s7 (fun vs_ => ?_)
    case s7 =>
      intro S_ V_ w_ hw_ hV_ ha_ hn_ hI_
      have hb := hI_.old hn_
      have HB := Lib.hid hb
      have HF := Lib.hid (fun v => hI_.store (v := v) HXX.out hw_ hn_ (kept5 (w := w_) (g := gx + 1 + 1) (.int .i64 S9.room) (.int .i64 S9.fails) (.int .i64 S9.waits) (.slice aq' an' ac') (.slice bq' bn' bc')) (Blk.st5 hb _ _ _ _ _))
      clear hV_ ha_ hn_ hI_ hw_ hb d0 d1 d2 d3 d4 sc0 de
      have hb := HB.out
      obtain ⟨⟨c0, c1, c2, c3, c4⟩, f0, f1, f2, f3, f4⟩ := Blk.c5 (show Blk w_ (gx + 1 + 1) 46 #[.int .i64 0, .int .i64 0, .int .i64 0, .slice none 0 0, .slice none 0 0] from hb)
      go_simp
      exact HF.out _
    repeat (refine wpLsI_skip ?_)
    refine wpLsI_nil fun V_ w2 hw_ hV_ hI_ => ?_
    have hv6 : ve_ = .bool true := (hV_ 8 (by decide) rfl).symm.trans (hI_.1 8 ⟨show (8 : Nat) < 11 by decide, rfl⟩ (show (8 : Nat) ≠ 9 by decide))
    obtain ⟨M', hD', hM'⟩ := hI_.2.2.1 ⟨show (6 : Nat) < 11 by decide, rfl⟩
    have hB' : Blk w2 (gx + 1 + 1) 46 #[.int .i64 S9.room, .int .i64 S9.fails, .int .i64 S9.waits, .slice aq' an' ac', .slice bq' bn' bc'] := hI_.2.2.2.2 ⟨show (9 : Nat) < 11 by decide, rfl⟩
    have hfin : Does9R base d M S9 (.returned (.tuple #[.agg (dv S9 (aq', an', ac') (bq', bn', bc')), .bool true])) w w2 := ⟨_, rfl, does_turn HBW.out hw_ HXX.out.list (by have := HGX.out; omega) hD' hM', HXX.out.ref hw_ HRF.out⟩
    have HFIN := Lib.hid hfin
    subst hv6
    clear hV_ hI_ hw_ d0 d1 d2 d3 d4 sc0 hD' hM' hfin de
    obtain ⟨⟨d0, d1, d2, d3, d4⟩, -⟩ := hB'.c5
    simp only [tails]
    go_wp2_with fail
    exact bodyPost_ret (v := .tuple #[.agg #[.int .i64 S9.room, .int .i64 S9.fails, .int .i64 S9.waits, .slice aq' an' ac', .slice bq' bn' bc'], .bool true]) (by simp [results, Try.f22, go_sem, d0, d1, d2, d3, d4]) rfl HFIN.out
  · clear e1 e2 e3 HA2 HA3 HA4 HA5 y1 y2 z1 z2 u1 u2 sb0
    have HGET := Lib.hid (sload_c base sb d M S N W0 HST.out HOKB.out (by omega) kk hb0')
    have HRGET := Lib.hid (fun W (hW : Below W0.heap.size W0 W) => rsload_c base (aq, an, ac) (bq, bn, bc) S sl ll N W (HRA.out.on hW) HOKB.out (by omega) kk)
    unfold LoadR at HGET HRGET
    have hs9 : S9 = S := by rw [← HS9.out]; rw [if_neg k0, if_neg k1, if_neg k2, if_neg k3, if_neg k4]
    subst hs9
    generalize loadV S9 kk = vv at HGET HRGET
    obtain ⟨v1, v2, v3⟩ := vv
    dsimp only at HGET HRGET
    clear HS9
    go_upto_region 25 with first
      | (go_at_call 19; refine HGET.out.mono ?_; rintro e_ w1 ⟨⟨q1, n1, c1⟩, rfl, hg1, hr1, h1⟩; simp only [slV]; clear a0 a1 a2 a3 a4; replace A0 := A0.on h1; obtain ⟨⟨a0, a1, a2, a3, a4⟩, -⟩ := A0.c5; have HG1 := Lib.hid (And.intro hg1 hr1); have H1 := Lib.hid h1; clear hg1 hr1 h1)
      | (go_at_call 47; refine (HRGET.out _ H1.out).mono ?_; rintro e_ w2 ⟨⟨q2, n2, c2⟩, rfl, hg2, hr2, h2⟩; simp only [slV]; clear a0 a1 a2 a3 a4; replace A0 := A0.on h2; obtain ⟨⟨a0, a1, a2, a3, a4⟩, -⟩ := A0.c5; have HG2 := Lib.hid (And.intro hg2 hr2); have H2 := Lib.hid h2; clear hg2 hr2 h2)
    obtain ⟨L, hL⟩ := disk_list HD0.out
    have h02 := after H1.out H2.out
    have HX : DoOk ⟨base, d, 100, 14, gx + 1 + 1, S9, S9, zeroD, dv S9 (aq, an, ac) (bq, bn, bc)⟩ w2 M L := ⟨show (100 : Nat) ≠ 14 by decide, hL, HD0.out.on h02, R0.on h02, by have := HGX.out; dsimp only; omega⟩
    have hgn : gx ∉ (gx + 1 + 1) :: L := fun hm => by
      rcases List.mem_cons.1 hm with e | hm
      · omega
      · rcases (HX.disk.mine ((hL _).2 hm)).2.2 _ _ A0 with e | e <;> revert e <;> decide
    have hsm := fun W (hW : KeptD ((gx + 1 + 1) :: L) w2 W) => same_s (HX.good hW (HG1.out.1.on H2.out).1).1 (HX.good hW HG2.out.1).1 (by rw [(HX.good hW (HG1.out.1.on H2.out).1).2, (HX.good hW HG2.out.1).2, (HG1.out.1.on H2.out).2, HG1.out.2, HG2.out.2])
    simp only [slV] at hsm
    have HSM := Lib.hid hsm
    have HXX := Lib.hid HX
    have HRF := Lib.hid (show RefIs w2 base (.agg (dv S9 (aq, an, ac) (bq, bn, bc))) S9 from ⟨_, _, sl, ll, rfl, HRA.out.on h02⟩)
    have HBW := Lib.hid (after HB0.out h02)
    have hb2 := Nat.le_trans hb0' h02.size
    obtain ⟨d0, d1, d2, d3, d4⟩ := spc5 A0 hgn
    clear h02 hL HX hgn hsm HG HD0 HRA a0 a1 a2 a3 a4 A0 E0 R0 HGET HRGET HG1 HG2 H1 H2 HST
    refine wp_inv [0, 0, 0, 0, 0, 0, 0, 0, 0, 0, 0, 0, 0, 0, 2, 3] ((gx + 1 + 1) :: L) (DoI ⟨base, d, 100, 14, gx + 1 + 1, S9, S9, zeroD, dv S9 (aq, an, ac) (bq, bn, bc)⟩ w2 M (fun i => .bool true)) (by kernel_rfl) (by kernel_rfl) (fun _ _ _ _ _ h k => h.below k) (fun _ => doI_zero HXX.out) ?_
    iterate 5 (refine wpQs_q (fun K hK => ?_); go_simp; refine hK _ ?_; clear hK K)
    iterate 3 (refine wpQs_q (fun K hK => ?_); rw [if_pos (by kernel_rfl)]; go_simp; refine hK _ ?_; clear hK K)
    iterate 2 (refine wpQs_q (fun K hK => ?_); go_simp; refine hK _ ?_; clear hK K)
    iterate 2 (refine wpQs_q (fun K hK => ?_); rw [if_pos (by kernel_rfl)]; go_simp; refine hK _ ?_; clear hK K)
    refine wpQs_q (fun K hK => ?_)
    rw [if_pos (by kernel_rfl)]
    go_simp
    apply Exists.intro
    refine ⟨fun p_ => ?_, hK _ ?_⟩
    · refine (HSM.out _ (msd_kept ⟨p_, rfl⟩)).mono ?_
      rintro e_ w5 ⟨rfl, rfl⟩
      exact ⟨rfl, Below.refl _ _⟩
    clear hK K
    refine wpQs_q (fun K hK => ?_)
    go_simp
    refine hK _ ?_
    clear hK K
    repeat (refine wpQs_s ?_)
    refine wpQs_nil ?_
    repeat (refine wpLsI_skip ?_)
    refine wpLsI_one rfl ?s9 (fun vs_ => ?_)
    case s9 =>
      intro S_ V_ w_ hw_ hV_ ha_ hn_ hI_
      have hb := hI_.old hn_
      have HB := Lib.hid hb
      have HFF := Lib.hid (fun v => hI_.store (v := v) HXX.out hw_ hn_ (kept5 (w := w_) (g := gx + 1 + 1) (.int .i64 S9.room) (.int .i64 S9.fails) (.int .i64 S9.waits) (.slice aq an ac) (.slice bq bn bc)) (Blk.st5 hb _ _ _ _ _))
      clear hV_ ha_ hn_ hI_ hw_ hb d0 d1 d2 d3 d4
      have hb := HB.out
      obtain ⟨⟨c0, c1, c2, c3, c4⟩, f0, f1, f2, f3, f4⟩ := Blk.c5 (show Blk w_ (gx + 1 + 1) 46 #[.int .i64 0, .int .i64 0, .int .i64 0, .slice none 0 0, .slice none 0 0] from hb)
      go_simp
      exact HFF.out _
    repeat (refine wpLsI_skip ?_)
    refine wpLsI_nil fun V_ w5 hw_ hV_ hI_ => ?_
    have hD' := hI_.2.1 (fun h => absurd h.1 (show ¬ (100 : Nat) < 16 by decide))
    have hB' : Blk w5 (gx + 1 + 1) 46 #[.int .i64 S9.room, .int .i64 S9.fails, .int .i64 S9.waits, .slice aq an ac, .slice bq bn bc] := hI_.2.2.2.2 ⟨show (14 : Nat) < 16 by decide, rfl⟩
    have hfin : Does9R base d M S9 (.returned (.tuple #[.agg (dv S9 (aq, an, ac) (bq, bn, bc)), .bool true])) w w5 := ⟨_, rfl, does_turn HBW.out hw_ HXX.out.list (by have := HGX.out; omega) hD' (fun _ h => .inl h), HXX.out.ref hw_ HRF.out⟩
    have HFIN := Lib.hid hfin
    clear hV_ hI_ hw_ d0 d1 d2 d3 d4 hD' hfin
    obtain ⟨⟨d0, d1, d2, d3, d4⟩, -⟩ := hB'.c5
    simp only [tails]
    go_wp2_with fail
    exact bodyPost_ret (v := .tuple #[.agg #[.int .i64 S9.room, .int .i64 S9.fails, .int .i64 S9.waits, .slice aq an ac, .slice bq bn bc], .bool true]) (by simp [results, Try.f22, go_sem, d0, d1, d2, d3, d4]) rfl HFIN.out
end Go.Proofs.Ytkopenemoddbbaa

/- What a walk through deeds holds in memory: the store, the document's disk, what was told, what was saved. -/
namespace Go.Proofs.Ytkopenemoddbbaa
open Go.RowKit Go.Maps
attribute [local go_sem] Oper.semAt_some

structure Cr (w W : World) (s d rb tb bb : Nat) (S : DS) (told : Told) (bod : Bods) (a b : SL) (sl ll : List (Int × SL)) (Rw : Nat → SL) : Prop where
  st : SAt w W s d S
  ref : RefAt W w.heap.size a b S sl ll
  rblk : Blk W rb 46 (dv S a b)
  tblk : Blk W tb 48 (c4 fun k => .int .i64 (told k))
  bblk : Blk W bb 49 (c4 fun k => slV (Rw k))
  rows : Rows4 W w.heap.size Rw bod
  lr : w.heap.size ≤ rb
  lt : w.heap.size ≤ tb
  lb : w.heap.size ≤ bb
section
variable {w W W' : World} {s d rb tb bb : Nat} {S S' : DS} {told : Told} {bod : Bods} {a b a' b' : SL} {sl ll sl' ll' : List (Int × SL)} {Rw : Nat → SL}
theorem Cr.below (h : Cr w W s d rb tb bb S told bod a b sl ll Rw) : Below w.heap.size w W := by
  obtain ⟨M, -, h2, -⟩ := h.st
  exact h2
theorem Cr.size (h : Cr w W s d rb tb bb S told bod a b sl ll Rw) : w.heap.size ≤ W.heap.size := h.below.size
theorem Cr.on (h : Cr w W s d rb tb bb S told bod a b sl ll Rw) (hb : Below W.heap.size W W') : Cr w W' s d rb tb bb S told bod a b sl ll Rw :=
  ⟨h.st.on hb, h.ref.on hb, h.rblk.on hb, h.tblk.on hb, h.bblk.on hb, h.rows.keep (fun _ _ hB => hB.on hb) (fun _ hs => hs.on hb), h.lr, h.lt, h.lb⟩
/-- A block that is no part of the disks is written. -/
theorem sat_off {R : Nat} {t : TypeId} {cs : Array Value} (h : SAt w W s d S) (hB : Blk W R t cs) (ht : t ≠ 90 ∧ t ≠ 92 ∧ t ≠ 5 ∧ t ≠ 59) (hR : w.heap.size ≤ R) (k : Kept (fun x => x ≠ R) W W') : SAt w W' s d S := by
  obtain ⟨M, h1, h2, h3⟩ := h
  refine ⟨M, ⟨k.blk (fun e => ?_) h1.blk, h1.disk.kept k (fun x hx e => ?_) (fun x hx => ?_), h1.based⟩, h2.trans (k.below (n := w.heap.size) h3 fun x hx e => by omega), Nat.le_trans h3 k.size⟩
  · subst e
    exact ht.2.2.2 (blk_one hB h1.blk)
  · subst e
    rcases (h1.disk.mine hx).2.2 _ _ hB with e | e
    · exact ht.1 e
    · exact ht.2.1 e
  · intro e
    subst e
    exact not_by hB ht.2.2.1 hR hx
theorem good_off {R : Nat} {t : TypeId} {cs : Array Value} (hB : Blk W R t cs) (ht : t ≠ 5) (hR : w.heap.size ≤ R) (k : Kept (fun x => x ≠ R) W W') {x : SL} (hs : GoodS W w.heap.size x) : GoodS W' w.heap.size x ∧ rdB W' x = rdB W x :=
  hs.kept k fun y hy e => by subst e; exact not_by hB ht hR hy
/-- A new disk of the document's. -/
theorem Cr.deed (h : Cr w W s d rb tb bb S told bod a b sl ll Rw) (hs : Stays w.heap.size W W') (hst : SAt w W' s d S') (hr : RefAt W' w.heap.size a' b' S' sl' ll') {W2 : World} (hb : Below W'.heap.size W' W2) {W3 : World} (hk : Kept (fun x => x ≠ rb) W2 W3) (hB : Blk W3 rb 46 (dv S' a' b')) :
    Cr w W3 s d rb tb bb S' told bod a' b' sl' ll' Rw := by
  have hR : Blk W2 rb 46 (dv S a b) := (hs.blk h.rblk (by decide)).on hb
  have hT : Blk W2 tb 48 (c4 fun k => .int .i64 (told k)) := (hs.blk h.tblk (by decide)).on hb
  have hBB : Blk W2 bb 49 (c4 fun k => slV (Rw k)) := (hs.blk h.bblk (by decide)).on hb
  have hrow : Rows4 W2 w.heap.size Rw bod := (h.rows.keep (fun _ _ hB => hs.blk hB (by decide)) (fun _ hx => hs.good hx)).keep (fun _ _ hB => hB.on hb) (fun _ hx => hx.on hb)
  refine ⟨sat_off (hst.on hb) hR (by decide) h.lr hk, (hr.on hb).off hk hR (by decide) h.lr, hB, hk.blk (fun e => ?_) hT, hk.blk (fun e => ?_) hBB, hrow.keep (fun g cs hg => hk.blk (fun e => ?_) hg) (fun _ hx => good_off hR (by decide) h.lr hk hx), h.lr, h.lt, h.lb⟩
  · subst e; have := blk_one hT hR; revert this; decide
  · subst e; have := blk_one hBB hR; revert this; decide
  · subst e; have := blk_one hg hR; revert this; decide
/-- What was told is told anew. -/
theorem Cr.tell (h : Cr w W s d rb tb bb S told bod a b sl ll Rw) {k : Nat} (hk4 : k < 4) (v : Int) : Cr w (W.setCell ⟨tb, k, none⟩ (.int .i64 v)) s d rb tb bb S (fun j => if j = k then v else told j) bod a b sl ll Rw := by
  have hk : Kept (fun x => x ≠ tb) W (W.setCell ⟨tb, k, none⟩ (.int .i64 v)) := (Kept.refl _ W).setCell (by simp) _
  have hset := h.tblk.set_ k (.int .i64 v)
  rw [c4_set hk4] at hset
  refine ⟨sat_off h.st h.tblk (by decide) h.lt hk, h.ref.off hk h.tblk (by decide) h.lt, hk.blk (fun e => ?_) h.rblk, ?_, hk.blk (fun e => ?_) h.bblk, h.rows.keep (fun g cs hg => hk.blk (fun e => ?_) hg) (fun _ hx => good_off h.tblk (by decide) h.lt hk hx), h.lr, h.lt, h.lb⟩
  · subst e; have := blk_one h.rblk h.tblk; revert this; decide
  · have e : (fun j => if j = k then Value.int .i64 v else .int .i64 (told j)) = (fun j => Value.int .i64 (if j = k then v else told j)) := by
      funext j; split <;> rfl
    rw [e] at hset
    exact hset
  · subst e; have := blk_one h.bblk h.tblk; revert this; decide
  · subst e; have := blk_one hg h.tblk; revert this; decide
/-- What was saved is one more. -/
theorem Cr.push (h : Cr w W s d rb tb bb S told bod a b sl ll Rw) {m : Nat} (hm : m < 4) {bod' : Bods} {R' : SL} (hr : Rows4 W' w.heap.size (fun k => if k = m then R' else Rw k) bod') (hk : Kept (fun g => (slV (Rw m)).ownBlock ≠ some g) W W') :
    Cr w (W'.setCell ⟨bb, m, none⟩ (slV R')) s d rb tb bb S told bod' a b sl ll (fun k => if k = m then R' else Rw k) ∧ Blk W' bb 49 (c4 fun k => slV (Rw k)) := by
  -- behind the append
  have mid : SAt w W' s d S ∧ RefAt W' w.heap.size a b S sl ll ∧ Blk W' rb 46 (dv S a b) ∧ Blk W' tb 48 (c4 fun k => .int .i64 (told k)) ∧ Blk W' bb 49 (c4 fun k => slV (Rw k)) := by
    obtain ⟨El, h1, -, -⟩ := h.rows.own m hm
    cases ho : (slV (Rw m)).ownBlock with
    | none =>
      have hb : Below W.heap.size W W' := (hk.mono fun g hg => by rw [ho]; simp).below (K := fun _ => True) (Nat.le_refl _) (fun _ _ => trivial)
      exact ⟨h.st.on hb, h.ref.on hb, h.rblk.on hb, h.tblk.on hb, h.bblk.on hb⟩
    | some g =>
      obtain ⟨hg, cur, hB⟩ := own_blk h1 ho
      have hk2 : Kept (fun x => x ≠ g) W W' := hk.mono fun x hx e => hx (by rw [ho] at e; exact (Option.some.inj e).symm)
      refine ⟨sat_off h.st hB (by decide) hg hk2, h.ref.off hk2 hB (by decide) hg, hk2.blk (fun e => ?_) h.rblk, hk2.blk (fun e => ?_) h.tblk, hk2.blk (fun e => ?_) h.bblk⟩
      · subst e; have := blk_one h.rblk hB; revert this; decide
      · subst e; have := blk_one h.tblk hB; revert this; decide
      · subst e; have := blk_one h.bblk hB; revert this; decide
  obtain ⟨m1, m2, m3, m4, m5⟩ := mid
  have hk5 : Kept (fun x => x ≠ bb) W' (W'.setCell ⟨bb, m, none⟩ (slV R')) := (Kept.refl _ W').setCell (by simp) _
  have hset := m5.set_ m (slV R')
  rw [c4_set hm] at hset
  refine ⟨⟨sat_off m1 m5 (by decide) h.lb hk5, m2.off hk5 m5 (by decide) h.lb, hk5.blk (fun e => ?_) m3, hk5.blk (fun e => ?_) m4, ?_, hr.keep (fun g cs hg => hk5.blk (fun e => ?_) hg) (fun _ hx => good_off m5 (by decide) h.lb hk5 hx), h.lr, h.lt, h.lb⟩, m5⟩
  · subst e; have := blk_one m3 m5; revert this; decide
  · subst e; have := blk_one m4 m5; revert this; decide
  · have e : (fun j => if j = m then slV R' else slV (Rw j)) = (fun j => slV (if j = m then R' else Rw j)) := by
      funext j; split <;> rfl
    rw [e] at hset
    exact hset
  · subst e; have := blk_one hg m5; revert this; decide
end
end Go.Proofs.Ytkopenemoddbbaa

/- Truths in a row; rows of bytes in a row: how they are opened. -/
namespace Go.Proofs.Ytkopenemoddbbaa
open Go.ChangeShapes Go.WideShapes Go.ChangeAt Go.RowKit

/-- What a slice of truths reads. -/
def Bos (w : World) (q : Option Addr) (n : Nat) (F : Nat → Bool) : Prop := 0 < n → ∃ g o, q = some ⟨g, o, none⟩ ∧ ∀ i, i < n → w.cell? ⟨g, o + i, none⟩ = some (.bool (F i))
/-- What a slice of slices of bytes reads. -/
def Sls (w : World) (q : Option Addr) (n : Nat) (F : Nat → SL) : Prop := 0 < n → ∃ g o, q = some ⟨g, o, none⟩ ∧ ∀ i, i < n → w.cell? ⟨g, o + i, none⟩ = some (slV (F i))
section
variable {w w' : World} {n : Nat} {q : Option Addr}
theorem Bos.on {F : Nat → Bool} (h : Bos w q n F) (hb : Below w.heap.size w w') : Bos w' q n F := fun hn => by
  obtain ⟨g, o, e, h1⟩ := h hn
  refine ⟨g, o, e, fun i hi => ?_⟩
  have h2 := h1 i hi
  rw [cell_below hb (cell_lt h2)]; exact h2
theorem Bos.below {F : Nat → Bool} {b : Nat} (h : Bos w q n F) (h0 : ∀ g o, q = some ⟨g, o, none⟩ → 0 < n → g < b) (hb : Below b w w') : Bos w' q n F := fun hn => by
  obtain ⟨g, o, e, h1⟩ := h hn
  refine ⟨g, o, e, fun i hi => ?_⟩
  have h2 := h1 i hi
  rw [cell_below hb (h0 g o e hn)]; exact h2
theorem Bos.lt {F : Nat → Bool} (h : Bos w q n F) {g o : Nat} (e : q = some ⟨g, o, none⟩) (hn : 0 < n) : g < w.heap.size := by
  obtain ⟨g', o', e', h1⟩ := h hn
  rw [e] at e'
  simp only [Option.some.injEq, Addr.mk.injEq] at e'
  obtain ⟨rfl, rfl, -⟩ := e'
  exact cell_lt (h1 0 hn)
theorem Sls.below {F : Nat → SL} {b : Nat} (h : Sls w q n F) (h0 : ∀ g o, q = some ⟨g, o, none⟩ → 0 < n → g < b) (hb : Below b w w') : Sls w' q n F := fun hn => by
  obtain ⟨g, o, e, h1⟩ := h hn
  refine ⟨g, o, e, fun i hi => ?_⟩
  have h2 := h1 i hi
  rw [cell_below hb (h0 g o e hn)]; exact h2
theorem Sls.lt {F : Nat → SL} (h : Sls w q n F) {g o : Nat} (e : q = some ⟨g, o, none⟩) (hn : 0 < n) : g < w.heap.size := by
  obtain ⟨g', o', e', h1⟩ := h hn
  rw [e] at e'
  simp only [Option.some.injEq, Addr.mk.injEq] at e'
  obtain ⟨rfl, rfl, -⟩ := e'
  exact cell_lt (h1 0 hn)
end
section
variable {H : Type} {enc : TypeId × Value → H} {P : Program}
theorem rd_bytes {w : World} {base fuel : Nat} {spare : Nat → Bool} {held : Bool} {ts t : TypeId} {cs : List Value} {x : DataW H × List MemPlace} (hts : P.underlying ts = some (.slice t)) (hb : P.underlying t = some (.int .u8))
    (hC : P.cellsOf t = 1) (h : DataW.trod enc P w base spare held fuel ts cs = some x) : ∃ q n cap F, cs = [.slice q n cap] ∧ n ≤ cap ∧ cap ≤ maxLen ∧ Byq w q n F := by
  rcases Go.Deep.open_slice hts h with ⟨hcs, _⟩ | ⟨a, len, cap, m, k, D, Pl, hcs, _, hl, hm, hmm, _, hel⟩
  · exact ⟨_, _, _, fun _ => 0, hcs, by omega, by omega, Byq.zero⟩
  · by_cases hn : len = 0
    · subst hn; exact ⟨_, _, _, fun _ => 0, hcs, hl, hm, Byq.zero⟩
    have hlm : len ≤ m := by rw [hmm]; split <;> omega
    obtain ⟨g, o, sp⟩ := a
    rw [hC] at hel
    have hrd : ∀ i, i < len → ∃ x, w.cell? ((Addr.mk g o sp).add i) = some (.int .u8 (n8 (BitVec.ofInt 8 x))) ∧ w.cell? ((Addr.mk g o sp).add i) = some (.int .u8 x) := by
      intro i hi'
      obtain ⟨cs', hc, ht'⟩ := hel i (by omega)
      obtain ⟨_, hcl, hat⟩ := World.cells?_some hc
      obtain ⟨x, hx, _, wx⟩ := DataW.trod_int hb ht'
      subst hx
      have h1 := hat 0 (by omega)
      rw [Go.Deep.add_add, Nat.mul_one, Nat.add_zero] at h1
      exact ⟨x, by rw [h1, ← n8_of wx]; rfl, h1⟩
    have hsp : sp = none := by
      obtain ⟨x, hx, _⟩ := hrd 0 (by omega)
      exact cell_spot hx
    subst hsp
    have had : ∀ k, (Addr.mk g o none).add k = ⟨g, o + k, none⟩ := fun k => by
      unfold Addr.add
      by_cases hk : k = 0 <;> simp [hk]
    refine ⟨_, len, cap, fun i => byteAt w ⟨g, o + i, none⟩, hcs, hl, hm, Byq.of fun i hi' => ?_⟩
    obtain ⟨x, hx, hx2⟩ := hrd i hi'
    rw [had] at hx hx2
    show _ = some (Value.int .u8 (n8 (byteAt w ⟨g, o + i, none⟩)))
    rw [hx, byteAt_eq hx2]
def boolAt (w : World) (p : Addr) : Bool := match w.cell? p with | some (.bool x) => x | _ => false
theorem boolAt_eq {w : World} {p : Addr} {x : Bool} (h : w.cell? p = some (.bool x)) : boolAt w p = x := by unfold boolAt; rw [h]
def slAt (w : World) (p : Addr) : SL := match w.cell? p with | some (.slice q n c) => (q, n, c) | _ => (none, 0, 0)
theorem slAt_eq {w : World} {p : Addr} {s : SL} (h : w.cell? p = some (slV s)) : slAt w p = s := by unfold slAt; rw [h]; rfl
theorem open_bools {w : World} {r : Reach} {b0 base : Nat} {spare : Nat → Bool} {held : Bool} {ts t : TypeId} {v : Value} {d : DataW H} {p : List MemPlace} (hts : P.underlying ts = some (.slice t)) (hb : P.underlying t = some .bool)
    (hC : P.cellsOf t = 1) (hv : Value.okWide P w r b0 ts v) (h : DataW.Trod enc P w base spare held ts v d p) :
    ∃ q n cap F, v = .slice q n cap ∧ n ≤ cap ∧ cap ≤ maxLen ∧ Bos w q n F := by
  obtain ⟨a1, len1, cap1, rfl⟩ := okWide_slice hts hv
  obtain ⟨fuel, h⟩ := h
  rcases Go.Deep.open_slice hts h with ⟨hcs, _⟩ | ⟨a, len, cap, m, k, D, Pl, hcs, _, hl, hm, hmm, _, hel⟩
  · simp [Value.cells] at hcs
    obtain ⟨rfl, rfl, rfl⟩ := hcs
    exact ⟨_, _, _, fun _ => false, rfl, by omega, by omega, fun h => by omega⟩
  · simp [Value.cells] at hcs
    obtain ⟨rfl, rfl, rfl⟩ := hcs
    by_cases hn : len1 = 0
    · subst hn; exact ⟨_, _, _, fun _ => false, rfl, hl, hm, fun h => by omega⟩
    have hlm : len1 ≤ m := by rw [hmm]; split <;> omega
    obtain ⟨g, o, sp⟩ := a
    rw [hC] at hel
    have hrd : ∀ i, i < len1 → ∃ x, w.cell? ((Addr.mk g o sp).add i) = some (.bool x) := by
      intro i hi'
      obtain ⟨cs', hc, ht'⟩ := hel i (by omega)
      obtain ⟨_, hcl, hat⟩ := World.cells?_some hc
      obtain ⟨x, hx, _⟩ := DataW.trod_bool hb ht'
      subst hx
      have h1 := hat 0 (by omega)
      rw [Go.Deep.add_add, Nat.mul_one, Nat.add_zero] at h1
      exact ⟨x, h1⟩
    have hsp : sp = none := by
      obtain ⟨x, hx⟩ := hrd 0 (by omega)
      exact cell_spot hx
    subst hsp
    have had : ∀ k, (Addr.mk g o none).add k = ⟨g, o + k, none⟩ := fun k => by
      unfold Addr.add
      by_cases hk : k = 0 <;> simp [hk]
    refine ⟨_, len1, cap1, fun i => boolAt w ⟨g, o + i, none⟩, rfl, hl, hm, fun _ => ⟨g, o, rfl, fun i hi' => ?_⟩⟩
    obtain ⟨x, hx⟩ := hrd i hi'
    rw [had] at hx
    show _ = some (Value.bool (boolAt w ⟨g, o + i, none⟩))
    rw [hx, boolAt_eq hx]
theorem open_rows {w : World} {r : Reach} {b0 base : Nat} {spare : Nat → Bool} {held : Bool} {ts tb t : TypeId} {v : Value} {d : DataW H} {p : List MemPlace} (hts : P.underlying ts = some (.slice tb)) (htb : P.underlying tb = some (.slice t)) (hb : P.underlying t = some (.int .u8))
    (hC : P.cellsOf t = 1) (hCb : P.cellsOf tb = 1) (hv : Value.okWide P w r b0 ts v) (h : DataW.Trod enc P w base spare held ts v d p) :
    ∃ q n cap F, v = .slice q n cap ∧ n ≤ cap ∧ cap ≤ maxLen ∧ Sls w q n F ∧ ∀ i, i < n → GoodS w w.heap.size (F i) := by
  obtain ⟨a1, len1, cap1, rfl⟩ := okWide_slice hts hv
  obtain ⟨fuel, h⟩ := h
  rcases Go.Deep.open_slice hts h with ⟨hcs, _⟩ | ⟨a, len, cap, m, k, D, Pl, hcs, _, hl, hm, hmm, _, hel⟩
  · simp [Value.cells] at hcs
    obtain ⟨rfl, rfl, rfl⟩ := hcs
    exact ⟨_, _, _, fun _ => (none, 0, 0), rfl, by omega, by omega, fun h => by omega, fun i hi => by omega⟩
  · simp [Value.cells] at hcs
    obtain ⟨rfl, rfl, rfl⟩ := hcs
    by_cases hn : len1 = 0
    · subst hn; exact ⟨_, _, _, fun _ => (none, 0, 0), rfl, hl, hm, fun h => by omega, fun i hi => by omega⟩
    have hlm : len1 ≤ m := by rw [hmm]; split <;> omega
    obtain ⟨g, o, sp⟩ := a
    rw [hCb] at hel
    have hrd : ∀ i, i < len1 → ∃ s : SL, w.cell? ((Addr.mk g o sp).add i) = some (slV s) ∧ GoodS w w.heap.size s := by
      intro i hi'
      obtain ⟨cs', hc, ht'⟩ := hel i (by omega)
      obtain ⟨_, hcl, hat⟩ := World.cells?_some hc
      obtain ⟨q, n, c, F, hx, h1, h2, h3⟩ := rd_bytes htb hb hC ht'
      subst hx
      have h4 := hat 0 (by omega)
      rw [Go.Deep.add_add, Nat.mul_one, Nat.add_zero] at h4
      refine ⟨(q, n, c), h4, h1, h2, fun h0 => ?_⟩
      obtain ⟨g', o', e', hB⟩ := h3 h0
      exact ⟨g', o', F, e', hB, .inl (hB.lt h0)⟩
    have hsp : sp = none := by
      obtain ⟨x, hx, -⟩ := hrd 0 (by omega)
      exact cell_spot hx
    subst hsp
    have had : ∀ k, (Addr.mk g o none).add k = ⟨g, o + k, none⟩ := fun k => by
      unfold Addr.add
      by_cases hk : k = 0 <;> simp [hk]
    refine ⟨_, len1, cap1, fun i => slAt w ⟨g, o + i, none⟩, rfl, hl, hm, fun _ => ⟨g, o, rfl, fun i hi' => ?_⟩, fun i hi' => ?_⟩
    · obtain ⟨x, hx, -⟩ := hrd i hi'
      rw [had] at hx
      show _ = some (slV (slAt w ⟨g, o + i, none⟩))
      rw [hx, slAt_eq hx]
    · obtain ⟨x, hx, hg⟩ := hrd i hi'
      rw [had] at hx
      show GoodS w w.heap.size (slAt w ⟨g, o + i, none⟩)
      rw [slAt_eq hx]
      exact hg
end
end Go.Proofs.Ytkopenemoddbbaa

/- Deeds of layer 09 in a row: how they are opened. -/
namespace Go.Proofs.Ytkopenemoddbbaa
open Go.ChangeShapes Go.WideShapes Go.ChangeAt Go.RowKit

abbrev Dee := Int × Int × Int × B8 × SL
def Dee.cell (x : Dee) : Nat → Value
  | 0 => .int .i64 x.1
  | 1 => .int .i64 x.2.1
  | 2 => .int .i64 x.2.2.1
  | 3 => .int .u8 (n8 x.2.2.2.1)
  | _ => slV x.2.2.2.2
def Dd9 (w : World) (q : Option Addr) (n : Nat) (F : Nat → Dee) : Prop := 0 < n → ∃ g o, q = some ⟨g, o, none⟩ ∧ ∀ i, i < n → ∀ j, j < 5 → w.cell? ⟨g, o + i * 5 + j, none⟩ = some ((F i).cell j)
theorem Dd9.below {w w' : World} {n : Nat} {q : Option Addr} {F : Nat → Dee} (h : Dd9 w q n F) (hb : Below w.heap.size w w') : Dd9 w' q n F := fun hn => by
  obtain ⟨g, o, e, h1⟩ := h hn
  refine ⟨g, o, e, fun i hi j hj => ?_⟩
  have c := h1 i hi j hj
  rw [cell_below hb (cell_lt c)]
  exact c
theorem Dd9.at {w : World} {n g o i : Nat} {F : Nat → Dee} (h : ∀ i, i < n → ∀ j, j < 5 → w.cell? ⟨g, o + i * 5 + j, none⟩ = some ((F i).cell j)) (hi : i < n) :
    w.cell? ⟨g, o + i * 5, none⟩ = some (.int .i64 (F i).1) ∧ w.cell? ⟨g, o + i * 5 + 1, none⟩ = some (.int .i64 (F i).2.1) ∧ w.cell? ⟨g, o + i * 5 + 2, none⟩ = some (.int .i64 (F i).2.2.1) ∧ w.cell? ⟨g, o + i * 5 + 3, none⟩ = some (.int .u8 (n8 (F i).2.2.2.1)) ∧ w.cell? ⟨g, o + i * 5 + 4, none⟩ = some (slV (F i).2.2.2.2) :=
  ⟨h i hi 0 (by decide), h i hi 1 (by decide), h i hi 2 (by decide), h i hi 3 (by decide), h i hi 4 (by decide)⟩
def deeFields (P : Program) (f0 f1 f2 f3 f4 : Field) (ti tx ts : TypeId) : Bool :=
  ((f0.offset == 0 && f1.offset == 1) && ((f2.offset == 2 && f3.offset == 3) && f4.offset == 4)) && (((f0.type == ti && f1.type == ti) && ((f2.type == ti && f3.type == tx) && f4.type == ts)) && ((P.cellsOf ti == 1 && P.cellsOf tx == 1) && P.cellsOf ts == 1))
section
variable {H : Type} {enc : TypeId × Value → H} {P : Program}
theorem trod_dee {w : World} {base fuel : Nat} {spare : Nat → Bool} {held : Bool} {t ti tx ts tb : TypeId} {f0 f1 f2 f3 f4 : Field} {cs : List Value} {x : DataW H × List MemPlace} (hs : P.underlying t = some (.struct #[f0, f1, f2, f3, f4]))
    (hf : deeFields P f0 f1 f2 f3 f4 ti tx ts = true) (hi : P.underlying ti = some (.int .i64)) (hx : P.underlying tx = some (.int .u8)) (hts : P.underlying ts = some (.slice tb)) (hb : P.underlying tb = some (.int .u8)) (hC : P.cellsOf tb = 1) (hl : cs.length = 5) (h : DataW.trod enc P w base spare held fuel t cs = some x) :
    ∃ a b c u q n cap F, cs = [.int .i64 a, .int .i64 b, .int .i64 c, .int .u8 (n8 u), .slice q n cap] ∧ In64 a ∧ In64 b ∧ In64 c ∧ n ≤ cap ∧ cap ≤ maxLen ∧ Byq w q n F := by
  simp only [deeFields, Bool.and_eq_true, beq_iff_eq] at hf
  obtain ⟨⟨⟨o0, o1⟩, ⟨o2, o3⟩, o4⟩, ⟨⟨t0, t1⟩, ⟨t2, t3⟩, t4⟩, ⟨hc, hcx⟩, hcs⟩ := hf
  obtain ⟨xs, n, _, _, _, hxl, hg⟩ := DataW.trod_struct hs h
  match cs, hl with
  | [v0, v1, v2, v3, v4], _ =>
    match xs, hxl with
    | [y0, y1, y2, y3, y4], _ =>
      have g0 := hg 0 f0 rfl
      have g1 := hg 1 f1 rfl
      have g2 := hg 2 f2 rfl
      have g3 := hg 3 f3 rfl
      have g4 := hg 4 f4 rfl
      rw [o0, t0, hc] at g0
      rw [o1, t1, hc] at g1
      rw [o2, t2, hc] at g2
      rw [o3, t3, hcx] at g3
      rw [o4, t4, hcs] at g4
      obtain ⟨a, ha, _, wa⟩ := DataW.trod_int (x := y0) hi g0
      obtain ⟨b, hb', _, wb⟩ := DataW.trod_int (x := y1) hi g1
      obtain ⟨c, hc', _, wc⟩ := DataW.trod_int (x := y2) hi g2
      obtain ⟨u, hu', _, wu⟩ := DataW.trod_int (x := y3) hx g3
      obtain ⟨q, m, cap, F, hq, h1, h2, h3⟩ := rd_bytes (x := y4) hts hb hC g4
      simp at ha hb' hc' hu' hq
      subst ha hb' hc' hu' hq
      exact ⟨a, b, c, BitVec.ofInt 8 u, q, m, cap, F, by rw [← n8_of wu], in64_of_wf wa, in64_of_wf wb, in64_of_wf wc, h1, h2, h3⟩
def deeAt (w : World) (g o : Nat) : Dee := (intAt9 w ⟨g, o, none⟩, intAt9 w ⟨g, o + 1, none⟩, intAt9 w ⟨g, o + 2, none⟩, byteAt w ⟨g, o + 3, none⟩, slAt w ⟨g, o + 4, none⟩)
where intAt9 (w : World) (p : Addr) : Int := match w.cell? p with | some (.int .i64 x) => x | _ => 0
theorem open_dees {w : World} {r : Reach} {b0 base : Nat} {spare : Nat → Bool} {held : Bool} {tt t ti tx ts tb : TypeId} {f0 f1 f2 f3 f4 : Field} {v : Value} {d : DataW H} {p : List MemPlace} (htt : P.underlying tt = some (.slice t)) (hs : P.underlying t = some (.struct #[f0, f1, f2, f3, f4]))
    (hf : deeFields P f0 f1 f2 f3 f4 ti tx ts = true) (hCt : P.cellsOf t = 5) (hi : P.underlying ti = some (.int .i64)) (hx : P.underlying tx = some (.int .u8)) (hts : P.underlying ts = some (.slice tb)) (hb : P.underlying tb = some (.int .u8)) (hC : P.cellsOf tb = 1) (hv : Value.okWide P w r b0 tt v) (h : DataW.Trod enc P w base spare held tt v d p) :
    ∃ q n cap F, v = .slice q n cap ∧ n ≤ cap ∧ cap ≤ maxLen ∧ Dd9 w q n F ∧ ∀ i, i < n → In64 (F i).1 ∧ In64 (F i).2.1 ∧ In64 (F i).2.2.1 ∧ GoodS w w.heap.size (F i).2.2.2.2 := by
  obtain ⟨a1, len1, cap1, rfl⟩ := okWide_slice htt hv
  obtain ⟨fuel, h⟩ := h
  rcases Go.Deep.open_slice htt h with ⟨hcs, _⟩ | ⟨a, len, cap, m, k, D, Pl, hcs, _, hl, hm, hmm, _, hel⟩
  · simp [Value.cells] at hcs
    obtain ⟨rfl, rfl, rfl⟩ := hcs
    exact ⟨_, _, _, fun _ => (0, 0, 0, 0, none, 0, 0), rfl, by omega, by omega, fun h => by omega, fun i hi => by omega⟩
  · simp [Value.cells] at hcs
    obtain ⟨rfl, rfl, rfl⟩ := hcs
    by_cases hn : len1 = 0
    · subst hn; exact ⟨_, _, _, fun _ => (0, 0, 0, 0, none, 0, 0), rfl, hl, hm, fun h => by omega, fun i hi => by omega⟩
    have hlm : len1 ≤ m := by rw [hmm]; split <;> omega
    obtain ⟨g, o, sp⟩ := a
    rw [hCt] at hel
    have hrd : ∀ i, i < len1 → ∃ (x y z : Int) (u : B8) (s : SL), w.cell? ((Addr.mk g o sp).add (i * 5)) = some (.int .i64 x) ∧ w.cell? ((Addr.mk g o sp).add (i * 5 + 1)) = some (.int .i64 y) ∧ w.cell? ((Addr.mk g o sp).add (i * 5 + 2)) = some (.int .i64 z) ∧ w.cell? ((Addr.mk g o sp).add (i * 5 + 3)) = some (.int .u8 (n8 u)) ∧ w.cell? ((Addr.mk g o sp).add (i * 5 + 4)) = some (slV s) ∧ In64 x ∧ In64 y ∧ In64 z ∧ GoodS w w.heap.size s := by
      intro i hi'
      obtain ⟨cs', hc, ht'⟩ := hel i (by omega)
      obtain ⟨_, hcl, hat⟩ := World.cells?_some hc
      obtain ⟨x, y, z, u, q, n, c, F, rfl, wx, wy, wz, h1, h2, h3⟩ := trod_dee hs hf hi hx hts hb hC hcl ht'
      have c0 := hat 0 (by omega)
      have c1 := hat 1 (by omega)
      have c2 := hat 2 (by omega)
      have c3 := hat 3 (by omega)
      have c4 := hat 4 (by omega)
      rw [Go.Deep.add_add] at c0 c1 c2 c3 c4
      refine ⟨x, y, z, u, (q, n, c), c0, c1, c2, c3, c4, wx, wy, wz, h1, h2, fun h0 => ?_⟩
      obtain ⟨g', o', e', hB⟩ := h3 h0
      exact ⟨g', o', F, e', hB, .inl (hB.lt h0)⟩
    have hsp : sp = none := by
      obtain ⟨x, _, _, _, _, hx, -⟩ := hrd 0 (by omega)
      exact cell_spot hx
    subst hsp
    have had : ∀ k, (Addr.mk g o none).add k = ⟨g, o + k, none⟩ := fun k => by
      unfold Addr.add
      by_cases hk : k = 0 <;> simp [hk]
    have key : ∀ i, i < len1 → (∀ j, j < 5 → w.cell? ⟨g, o + i * 5 + j, none⟩ = some ((deeAt w g (o + i * 5)).cell j)) ∧
        In64 (deeAt w g (o + i * 5)).1 ∧ In64 (deeAt w g (o + i * 5)).2.1 ∧ In64 (deeAt w g (o + i * 5)).2.2.1 ∧ GoodS w w.heap.size (deeAt w g (o + i * 5)).2.2.2.2 := fun i hi' => by
      obtain ⟨x, y, z, u, s, c0, c1, c2, c3, c4, wx, wy, wz, hg⟩ := hrd i hi'
      rw [had] at c0 c1 c2 c3 c4
      rw [← Nat.add_assoc] at c1 c2 c3 c4
      have e : deeAt w g (o + i * 5) = (x, y, z, u, s) := by
        unfold deeAt deeAt.intAt9
        rw [c0, c1, c2, byteAt_n8 c3, slAt_eq c4]
      rw [e]
      refine ⟨fun j hj => ?_, wx, wy, wz, hg⟩
      match j, hj with
      | 0, _ => exact c0
      | 1, _ => exact c1
      | 2, _ => exact c2
      | 3, _ => exact c3
      | 4, _ => exact c4
    exact ⟨_, len1, cap1, fun i => deeAt w g (o + i * 5), rfl, hl, hm, fun _ => ⟨g, o, rfl, fun i hi' => (key i hi').1⟩, fun i hi' => (key i hi').2⟩
end
end Go.Proofs.Ytkopenemoddbbaa
