/- StorePlays holds: for any room, any deeds. -/
import Derived.Test.YtkopenemoddbbaaMa9
namespace Go.Proofs.Ytkopenemoddbbaa
open Go.ChangeShapes Go.WideShapes Go.ChangeAt Go.RowKit Go.Maps
attribute [local go_sem] Oper.semAt_some

theorem row_nil {w : World} : RowR w (none, 0, 0) [] := ⟨rfl, Nat.le_refl _, Nat.zero_le _, fun h => absurd h (by decide)⟩
set_option maxRecDepth 100000 in
set_option maxHeartbeats 16000000 in
theorem storePlays_w (a : Int) (ha : In64 a) (q : Option Addr) (n cap : Nat) (F : Nat → Dee) (hn : n ≤ cap) (_ : cap ≤ maxLen) (w : World)
    (hD : Dd9 w q n F) (hF : ∀ i, i < n → In64 (F i).1 ∧ In64 (F i).2.1 ∧ In64 (F i).2.2.1 ∧ GoodS w w.heap.size (F i).2.2.2.2) :
    Calls Try.prog 8 #[.int .i64 a, .slice q n cap] w fun r w' => r = .returned (.bool true) ∧ Below w.heap.size w w' := by
  have HA := Lib.hid (around_c a 201 ha.1 ha.2 (by decide))
  have HD := Lib.hid (And.intro hD hF)
  have HM := Lib.hid hn
  clear hD hF hn ha
  go_enter Try.func8, Try.ntmps8
  go_upto_region 2 with (go_at_call 13; refine (HA.out _).mono ?_; rintro e_ w8 ⟨rfl, rfl⟩)
  generalize arI a 201 = R
  clear HA
  go_upto_region 5 with (go_at_call 17; refine (snew_e R w w (Below.refl _ _)).mono ?_; rintro e_ w1 ⟨s, d, rfl, A1, h1⟩)
  have HA1 := Lib.hid A1
  clear A1 h1
  go_upto_region 6 with (go_at_call 21; refine (rnew_c R w1).mono ?_; rintro e_ w2 ⟨rfl, h2⟩; simp only [dv, slV])
  generalize hV : World.alloc w2 _ = W2
  have X2 : Blk W2 w2.heap.size 46 (dv (newS R) (none, 0, 0) (none, 0, 0)) := Blk.eqw hV (Blk.new' rfl)
  have h12 : Below w2.heap.size w2 W2 := by rw [← hV]; exact (Below.refl _ _).alloc (Nat.le_refl _) _
  have I2 : Hid (SI9 w W2 s d w2.heap.size 0) := Lib.hid ⟨newS R, (none, 0, 0), (none, 0, 0), HA1.out.on (after h2 h12), (newS_ok R).mono (Nat.le_refl _) (by decide), fun p hp => (by cases hp), X2, ⟨_, _, [], [], rfl, row_nil, row_nil, fun p hp => (by cases hp), fun p hp => (by cases hp), rfl, rfl⟩, by
    obtain ⟨M, -, -, h3⟩ := HA1.out
    exact Nat.le_trans h3 h2.size⟩
  clear hV X2 h12 h2 HA1
  generalize w2.heap.size = gr at I2 ⊢
  go_upto_region 7 with (fail)
  go_loopw [7] (fun i wr => ∃ k : Nat, k ≤ n ∧ k ≤ 40 ∧ i = .int .i64 k ∧ Hid (SI9 w wr s d gr k)) (fun i _ => n - (intOf i).toNat)
  case atStart => exact ⟨0, Nat.zero_le _, Nat.zero_le _, rfl, I2⟩
  case round =>
    obtain ⟨k, hk, hk12, rfl, I⟩ := hrel
    clear I2
    have hdone : ¬ ((k : Int) < n) ∨ ((k : Int) < n ∧ ¬ ((k : Int) < 40)) ∨ (k < n ∧ k < 40) := by omega
    rcases hdone with h1 | ⟨h1, h2⟩ | ⟨hlt, hk13⟩
    · go_wp2_with (go_at_call 16; refine (slives_c _).mono ?_; rintro e_ w14 ⟨rfl, h14⟩; have H14 := Lib.hid h14; clear h14)
      go_returns
      obtain ⟨S, a, b, ⟨M, -, hB, -⟩, -⟩ := I.out
      exact ⟨rfl, after hB H14.out⟩
    · go_wp2_with (go_at_call 16; refine (slives_c _).mono ?_; rintro e_ w14 ⟨rfl, h14⟩; have H14 := Lib.hid h14; clear h14)
      go_returns
      obtain ⟨S, a, b, ⟨M, -, hB, -⟩, -⟩ := I.out
      exact ⟨rfl, after hB H14.out⟩
    · have h1 : (k : Int) < n := by omega
      have h2 : (k : Int) < 40 := by omega
      have hk0 : (0 : Int) ≤ (k : Int) := by omega
      have hkc : k < cap := by have := HM.out; omega
      obtain ⟨S, a, b, ⟨M, hst, hB, hb⟩, hok, hks, X, hr, hgr⟩ := I.out
      have D := hst.disk
      obtain ⟨g, o, rfl, hcell⟩ := HD.out.1.below hB (by omega)
      obtain ⟨c0, c1, c2, c3, c4⟩ := Dd9.at hcell hlt
      obtain ⟨gw, ow, ew, hcw⟩ := HD.out.1 (by omega)
      obtain ⟨f0, f1, f2, f3⟩ := HD.out.2 k hlt
      have hgs := (f3.on hB).1
      obtain ⟨L, hL⟩ := disk_list D
      have hgL : g ∉ L := fun hm => by
        have h1 := (D.mine ((hL g).2 hm)).1
        simp only [Option.some.injEq, Addr.mk.injEq] at ew
        have h2 := cell_lt (hcw k hlt 0 (by decide))
        dsimp only at h2
        omega
      have hrL := lst_blk D hL X (by decide)
      have hsL := lst_blk D hL hst.blk (by decide)
      have hcut := fun W (hW : KeptD L wr W) => (lst_good D hL hW (hgs.cut (k := min (F k).2.2.2.2.2.1 20) (Nat.min_le_left _ _)).1).2
      obtain ⟨B, hBd⟩ : ∃ B, rdB wr ((F k).2.2.2.2.1, min (F k).2.2.2.2.2.1 20, (F k).2.2.2.2.2.2) = B := ⟨_, rfl⟩
      have hBl : B.length ≤ 20 := by
        rw [← hBd, (hgs.cut (k := min (F k).2.2.2.2.2.1 20) (Nat.min_le_left _ _)).1.len]
        exact Nat.min_le_right _ _
      have hcall : ∀ W, KeptD L wr W → DiskIs W w.heap.size M d S → Calls Try.prog 22 #[.pointer (some ⟨s, 0, none⟩), .agg (dv S a b), .agg #[.int .i64 (F k).1, .int .i64 (F k).2.1, .int .i64 (F k).2.2.1, .int .u8 (n8 (F k).2.2.2.1), slV (F k).2.2.2.2]] W fun r w' => Does9R w.heap.size d M (doV S (F k).1 (F k).2.1 (F k).2.2.1 (F k).2.2.2.1 B) r W w' := fun W hW hD => by
        have h := sdoes_c w.heap.size s d M S k W ⟨Kept.blk hW hsL hst.blk, hD, hst.based⟩ (hok.mono (Nat.le_refl _) (by decide)) (by omega) _ (lst_ref D hL hW hr) (F k).1 (F k).2.1 (F k).2.2.1 (F k).2.2.2.1 f1 f2 (F k).2.2.2.2 (lst_good D hL hW hgs).1 (Nat.le_trans hb (Kept.size hW))
        rw [hcut W hW, hBd] at h
        exact h
      obtain ⟨S9, hS9⟩ : ∃ S9, doV S (F k).1 (F k).2.1 (F k).2.2.1 (F k).2.2.2.1 B = S9 := ⟨_, rfl⟩
      have hok9 := hok.does (kind := (F k).1) (id := (F k).2.1) (nn := (F k).2.2.1) (x := (F k).2.2.2.1) hBl
      have hks9 := hks.does (kind := (F k).1) (id := (F k).2.1) (nn := (F k).2.2.1) (x := (F k).2.2.2.1) (b := B)
      rw [hS9] at hok9 hks9
      simp only [hS9] at hcall
      have HO9 := Lib.hid (And.intro hok9 hks9)
      obtain ⟨d0, d1, d2, d3, d4⟩ := spc5 X hrL
      have p0 := sp_cell c0 hgL
      have p1 := sp_cell c1 hgL
      have p2 := sp_cell c2 hgL
      have p3 := sp_cell c3 hgL
      have p4 := sp_cell c4 hgL
      obtain ⟨aq, an, ac⟩ := a
      obtain ⟨bq, bn, bc⟩ := b
      clear hcut hBd hBl hS9 hok9 hks9
      generalize F k = x at hcall p0 p1 p2 p3 p4
      obtain ⟨xk, xe, xn, xu, xq, xl, xc⟩ := x
      simp only [dv, slV] at d0 d1 d2 d3 d4 p0 p1 p2 p3 p4 hcall
      have HCALL := Lib.hid hcall
      have HDD := Lib.hid D
      have HLL := Lib.hid hL
      have HXX := Lib.hid X
      have HBB := Lib.hid hB
      have HGR := Lib.hid (And.intro hrL hgr)
      have HSS := Lib.hid (And.intro hst.blk (And.intro hsL hst.based))
      clear hcall D X hr hB hrL hsL hgr hcell c0 c1 c2 c3 c4 ew hcw f0 f1 f2 f3 hgs hgL I hok hks hst
      go_upto_region 9 with (fail)
      refine wp_inv [0, 0, 0, 0, 0, 0, 2, 2, 2, 2, 2, 2, 3] L (DsI w.heap.size d S9 M S wr.heap.size) (by kernel_rfl) (by kernel_rfl) (fun _ _ _ _ _ h k => h.below k) (fun _ => dsI_zero HDD.out) ?_
      iterate 6 (refine wpQs_q (fun K hK => ?_); go_simp; refine hK _ ?_; clear hK K)
      repeat (refine wpQs_s ?_)
      refine wpQs_nil ?_
      clear p0 p1 p2 p3 p4 d0 d1 d2 d3 d4
      repeat (refine wpLsI_skip ?_)
      refine wpLsI_one rfl ?s6 (fun v6_ => ?_)
      case s6 =>
        intro S_ V_ w_ hw_ hV_ ha_ hn_ hI_
        have hd0 : DiskIs w_ w.heap.size M d S := by
          obtain ⟨_, _, _, _, _, _, _, hd, _⟩ := hI_
          exact hd hn_
        have hc := HCALL.out w_ hw_ hd0
        have HC := Lib.hid hc
        have HW_ := Lib.hid hw_
        have HI_ := Lib.hid hI_
        have HN_ := Lib.hid hn_
        clear hV_ ha_ hn_ hI_ hw_ hc hd0
        go_simp
        refine HC.out.mono ?_
        rintro e_ w5 ⟨v', rfl, t5, hr5⟩
        refine ⟨_, rfl, ?_, HI_.out.call HN_.out (Kept.size HW_.out) t5 hr5 rfl rfl⟩
        obtain ⟨_, _, _, t3⟩ := t5
        exact Kept.trans HW_.out (t3.mono fun b hb hm => hb ((HLL.out b).1 hm))
      refine wpLsI_one rfl ?s7 (fun v7_ => ?_)
      case s7 =>
        intro S_ V_ w_ hw_ hV_ ha_ hn_ hI_
        have h6 := ha_ 6 (by decide) rfl (by kernel_rfl)
        obtain ⟨a', b', S', e6⟩ := hI_.get6 h6
        have hv := (hV_ 6 (by decide) rfl).symm.trans e6
        have HF := Lib.hid (And.intro hw_ (hI_.move h6 e6.symm))
        clear hV_ ha_ hn_ hI_ hw_ h6 e6
        subst hv
        go_simp
        exact HF.out
      refine wpLsI_one rfl ?s8 (fun v8_ => ?_)
      case s8 =>
        intro S_ V_ w_ hw_ hV_ ha_ hn_ hI_
        have h7 := ha_ 7 (by decide) rfl (by kernel_rfl)
        obtain ⟨a', b', S', e7, hh⟩ := hI_.get7 h7
        have hv := (hV_ 7 (by decide) rfl).symm.trans e7
        have HF := Lib.hid (And.intro hw_ ((hh _).1 rfl))
        clear hV_ ha_ hn_ hI_ hw_ h7 e7 hh
        subst hv
        go_simp
        exact HF.out
      refine wpLsI_one rfl ?s9 (fun v9_ => ?_)
      case s9 =>
        intro S_ V_ w_ hw_ hV_ ha_ hn_ hI_
        have h7 := ha_ 7 (by decide) rfl (by kernel_rfl)
        obtain ⟨a', b', S', e7, hh⟩ := hI_.get7 h7
        have hv := (hV_ 7 (by decide) rfl).symm.trans e7
        have HF := Lib.hid (And.intro hw_ ((hh _).2 rfl))
        clear hV_ ha_ hn_ hI_ hw_ h7 e7 hh
        subst hv
        go_simp
        exact HF.out
      refine wpLsI_one rfl ?s10 (fun v10_ => ?_)
      case s10 =>
        intro S_ V_ w_ hw_ hV_ ha_ hn_ hI_
        have HF := Lib.hid (And.intro (hw_.on (bel_alloc w_ (.cells zeroD 46))) (hI_.new hn_ (Kept.size hw_) (Nat.le_trans hb (Kept.size hw_)) rfl))
        clear hV_ ha_ hn_ hI_ hw_
        go_simp
        exact HF.out
      refine wpLsI_one rfl ?s11 (fun v11_ => ?_)
      case s11 =>
        intro S_ V_ w_ hw_ hV_ ha_ hn_ hI_
        have HP := Lib.hid (And.intro hw_ (hI_.put (ha_ 8 (by decide) rfl (by kernel_rfl)) (ha_ 10 (by decide) rfl (by kernel_rfl)) hn_))
        have HV8 := Lib.hid (hV_ 8 (by decide) rfl)
        have HV10 := Lib.hid (hV_ 10 (by decide) rfl)
        clear hV_ ha_ hn_ hI_ hw_
        go_simp
        obtain ⟨hw_, ⟨aq', an', ac'⟩, ⟨bq', bn', bc'⟩, S', g', e8, e10, hg1, hg2, hB, hput⟩ := HP.out
        have hv8 := HV8.out.symm.trans e8
        have hv10 := HV10.out.symm.trans e10
        simp only [dv, slV] at hv8
        have hkd := ((((Kept.fresh (K := fun b => b ∉ L) hw_ (p := ⟨g', 0, none⟩) hg1 (.int .i64 S'.room)).fresh (p := ⟨g', 1, none⟩) hg1 (.int .i64 S'.fails)).fresh (p := ⟨g', 2, none⟩) hg1 (.int .i64 S'.waits)).fresh (p := ⟨g', 3, none⟩) hg1 (.slice aq' an' ac')).fresh (p := ⟨g', 4, none⟩) hg1 (.slice bq' bn' bc')
        have HF := Lib.hid (fun v => And.intro hkd (hput v _ (kept5 (.int .i64 S'.room) (.int .i64 S'.fails) (.int .i64 S'.waits) (.slice aq' an' ac') (.slice bq' bn' bc')) (Blk.st5 hB _ _ _ _ _)))
        obtain ⟨⟨c0, c1, c2, c3, c4⟩, f0, f1, f2, f3, f4⟩ := Blk.c5 (show Blk w_ g' 46 #[.int .i64 0, .int .i64 0, .int .i64 0, .slice none 0 0, .slice none 0 0] from hB)
        clear e8 e10 hput hB hg1 hg2 hkd hw_ HV8 HV10 HP
        subst hv8 hv10
        go_simp
        exact HF.out _
      repeat (refine wpLsI_skip ?_)
      refine wpLsI_nil fun V_ w2 hw_ hV_ hI_ => ?_
      have HP := Lib.hid (And.intro hw_ hI_)
      have HV9 := Lib.hid (hV_ 9 (by decide) rfl)
      have HV10 := Lib.hid (hV_ 10 (by decide) rfl)
      clear hV_ hI_ hw_
      simp only [tails]
      go_upto_region 10 with (fail)
      obtain ⟨hw_, ⟨aq', an', ac'⟩, ⟨bq', bn', bc'⟩, S', -, -, -, -, -, e6, -, -, e9, e10⟩ := HP.out
      obtain ⟨-, ⟨M', hD', -⟩, hr', rfl⟩ := e6 ⟨show (6 : Nat) < 13 by decide, rfl⟩
      have hv9 := HV9.out.symm.trans (e9 ⟨show (9 : Nat) < 13 by decide, rfl⟩)
      obtain ⟨g', hv10', hg1, hg2, -, hB'⟩ := e10 ⟨show (10 : Nat) < 13 by decide, rfl⟩
      have hv10 := HV10.out.symm.trans hv10'
      have hB2 : Blk w2 g' 46 #[.int .i64 S'.room, .int .i64 S'.fails, .int .i64 S'.waits, .slice aq' an' ac', .slice bq' bn' bc'] := hB' ⟨show (11 : Nat) < 13 by decide, rfl⟩
      have hX2 := Kept.blk hw_ HGR.out.1 HXX.out
      have hb2 : w.heap.size ≤ w2.heap.size := Nat.le_trans hb (Kept.size hw_)
      have hW2 : Below w.heap.size wr w2 := Kept.below hw_ hb fun b hlt hm => by have := (HDD.out.mine ((HLL.out b).2 hm)).1; omega
      have H2 := Lib.hid (HBB.out.trans hW2)
      have HD' := Lib.hid hD'
      have HR' := Lib.hid hr'
      have hS2 := Kept.blk hw_ HSS.out.2.1 HSS.out.1
      have HS2 := Lib.hid hS2
      have HX2 := Lib.hid hX2
      obtain ⟨⟨c0, c1, c2, c3, c4⟩, -⟩ := hB2.c5
      obtain ⟨⟨y0, y1, y2, y3, y4⟩, f0, f1, f2, f3, f4⟩ := Blk.c5 hX2
      clear HP HV9 HV10 hw_ e6 e9 e10 hv10' hB' hg1 hg2 hD' hr' hX2 hW2 hB2 hS2 HCALL HDD HLL HXX HBB
      subst hv9 hv10
      go_upto_region 11 with (fail)
      generalize hV : World.setCell (World.setCell (World.setCell (World.setCell (World.setCell w2 _ _) _ _) _ _) _ _) _ _ = W5
      have hk5 : Kept (fun x => x ≠ gr) w2 W5 := by rw [← hV]; exact kept5 (w := w2) (g := gr) _ _ _ _ _
      have X5 : Blk W5 gr 46 #[.int .i64 S'.room, .int .i64 S'.fails, .int .i64 S'.waits, .slice aq' an' ac', .slice bq' bn' bc'] := Blk.eqw hV (HX2.out.st5 _ _ _ _ _)
      have D5 : DiskIs W5 w.heap.size M' d S' := by
        refine HD'.out.kept hk5 (fun c hm e => ?_) (fun c hby e => ?_)
        · subst e
          rcases (HD'.out.mine hm).2.2 _ _ HX2.out with e | e <;> revert e <;> decide
        · subst e
          exact not_by HX2.out (by decide) HGR.out.2 hby
      have R5 : RefIs W5 w.heap.size (.agg (dv S' (aq', an', ac') (bq', bn', bc'))) S' := by
        obtain ⟨a1, b1, sl, ll, e, hra⟩ := HR'.out
        exact ⟨a1, b1, sl, ll, e, hra.off hk5 HX2.out (by decide) HGR.out.2⟩
      have H5 := Lib.hid (H2.out.trans (hk5.below (n := w.heap.size) hb2 (fun c hc e => by have := HGR.out.2; omega)))
      have hb5 := Lib.hid (Nat.le_trans hb2 hk5.size)
      obtain ⟨⟨z0, z1, z2, z3, z4⟩, -⟩ := X5.c5
      have S5 : Blk W5 s 59 #[.pointer (some ⟨d, 0, none⟩)] := hk5.blk (fun e => by subst e; have := blk_one HS2.out HX2.out; revert this; decide) HS2.out
      have HSI := Lib.hid (⟨S5, D5, HSS.out.2.2⟩ : StoreIs W5 w.heap.size M' s d S')
      have hlike := slike_c w.heap.size s d M' S' (k + 1) W5 HSI.out (HO9.out.1.mono (Nat.le_refl _) (by decide)) (by omega) HO9.out.2.now _ R5 hb5.out
      simp only [dv, slV] at hlike
      have HLK := Lib.hid hlike
      have HR5 := Lib.hid R5
      have HX5 := Lib.hid X5
      clear hlike D5 S5 R5 X5 hk5 hV HX2 HD' HR' H2 hb2 y0 y1 y2 y3 y4 f0 f1 f2 f3 f4 c0 c1 c2 c3 c4
      go_wp2_with (go_at_call 24; refine HLK.out.mono ?_; rintro e_ w6 ⟨rfl, h6⟩)
      exact ⟨⟨k + 1, hlt, hk13, by go_num, Lib.hid ⟨S', (aq', an', ac'), (bq', bn', bc'), ⟨M', HSI.out.on h6, H5.out.trans (h6.mono hb5.out), Nat.le_trans hb5.out h6.size⟩, HO9.out.1, HO9.out.2, HX5.out.on h6, HR5.out.on h6, HGR.out.2⟩⟩, next_less' hlt⟩
set_option maxRecDepth 100000 in
theorem storePlays_lifted (os : Os) (started : os.Started) (H : Type) (enc : TypeId × Value → H) :
    ReturnsInHanded {} Try.checked os 8 .any (Rows.storePlaysSpec.pre6 enc Try.prog Try.f8 Rows.storePlaysRow.domain false) (Rows.storePlaysSpec.post enc Try.prog Try.f8 false true false false) := by
  refine returnsInHanded_of_change (C := Try.checked) own started (by kernel_rfl) Try.func8
    (ChangeSpec.witness6 (enc := enc) (C := Try.checked) false ⟨#[], #[.int .i64 0, .slice none 0 0], []⟩ 8 (by kernel_rfl) (by kernel_rfl) (by kernel_rfl) (by kernel_rfl)) ?_
  intro W base args ds gs before hval0 hW hcnd hsz
  have hval : ∀ (j : Nat) t v, Try.f8.params[j]? = some t → args[j]? = some v → Value.okWide Try.prog W .any base t v := hval0
  have hW' := hW
  obtain ⟨p, q, hA0, hV, rfl, hfz, hnd⟩ := hW
  have hA : DataW.TrodAll enc Try.prog W 0 (fun _ => true) true Try.f8.params.toList args.toList ds p := hA0
  rw [Try.params8] at hA hval
  obtain ⟨v0, vs0, d0, ds0, p_0, q_0, hargs, rfl, rfl, h0, r_0⟩ := trodAll_cons hA
  obtain ⟨v1, vs1, d1, ds1, p_1, q_1, rfl, rfl, rfl, h1, r_1⟩ := trodAll_cons r_0
  obtain ⟨rfl, rfl, rfl⟩ := trodAll_nil r_1
  obtain rfl : args = #[v0, v1] := by cases args; simp_all
  obtain ⟨rfl, rfl⟩ := trodVars_none hV
  obtain ⟨a0, rfl, rfl, rfl, w0⟩ := open_int Try.underlying3 (hval 0 3 v0 rfl rfl) h0
  obtain ⟨A1, n1, k1, l1, rfl, b1, c1, e1, f1⟩ := open_dees Try.underlying43 Try.underlying51 (by kernel_rfl) (by kernel_rfl) Try.underlying3 Try.underlying5 Try.underlying22 Try.underlying5 (by kernel_rfl) (hval 1 43 v1 rfl rfl) h1
  refine (storePlays_w a0 (in64_of_wf w0) A1 n1 k1 l1 b1 c1 W e1 f1).mono fun e W' ⟨he, hb⟩ => ?_
  subst he
  exact ⟨_, rfl, law_post laidOut (by kernel_rfl) rfl (by kernel_rfl) Try.underlying4 hW' rfl rfl rfl hb⟩

/-- The statement. -/
theorem storePlays_proved : Rows.StorePlaysSaid :=
  OpenClaim.holds_of_wide 8 Try.f8 rfl rfl rfl rfl rfl rfl rfl ⟨rfl, rfl, rfl, rfl, rfl⟩ rfl rfl rfl rfl rfl (by kernel_rfl) Try.func8 (by kernel_rfl)
    (of_decide_eq_true (by kernel_rfl)) (by unfold Func.isWrapper; first | (rw [if_pos (by decide +kernel)]; kernel_rfl) | (rw [if_neg (by decide +kernel)]; exact ⟨rfl, rfl⟩))
    (fun os started H enc _ => storePlays_lifted os started H enc)
end Go.Proofs.Ytkopenemoddbbaa
