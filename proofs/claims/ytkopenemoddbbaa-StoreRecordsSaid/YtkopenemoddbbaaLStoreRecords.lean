/- StoreRecords holds: for any version, any bytes, any byte that is another one. -/
import Derived.Test.YtkopenemoddbbaaStX
namespace Go.Proofs.Ytkopenemoddbbaa
open Go.ChangeShapes Go.WideShapes Go.ChangeAt Go.RowKit
attribute [local go_sem] Oper.semAt_some

set_option maxRecDepth 100000 in
set_option maxHeartbeats 8000000 in
theorem storeRecords_w (v : Int) (hv : In64 v) (q : Option Addr) (n c : Nat) (F : Nat → B8) (hn : n ≤ c) (hm : c ≤ maxLen) (qb : Option Addr) (nb cb : Nat) (Fb : Nat → B8) (hnb : nb ≤ cb) (hmb : cb ≤ maxLen) (at_ : Int) (hat : In64 at_) (x : Int) (hx : InU8 x) (w : World) (hq : Byq w q n F) (hqb : Byq w qb nb Fb) :
    Calls Try.prog 3 #[.int .i64 v, .slice q n c, .slice qb nb cb, .int .i64 at_, .int .u8 x] w fun r w' => r = .returned (.bool true) ∧ Below w.heap.size w w' := by
  obtain ⟨x, rfl⟩ := u8_of hx
  have hf1 := few_c q n c 60 hn w
  have hf2 := fun W => few_c qb nb cb 60 hnb W
  have l1 : min n 60 ≤ c := Nat.le_trans (Nat.min_le_left _ _) hn
  have l2 : min nb 60 ≤ cb := Nat.le_trans (Nat.min_le_left _ _) hnb
  have m1 : min n 60 ≤ 60 := Nat.min_le_right _ _
  have m2 : min nb 60 ≤ 60 := Nat.min_le_right _ _
  have g1 := good_of l1 hm (hq.le (Nat.min_le_left n 60))
  have g2 := good_of l2 hmb (hqb.le (Nat.min_le_left nb 60))
  generalize min n 60 = m at *
  generalize min nb 60 = mb at *
  obtain ⟨a, ha, a0, a1⟩ : ∃ a, arI v 1073741824 = a ∧ 0 ≤ a ∧ a < 1073741824 := ⟨_, rfl, arI_lo v (by decide), arI_hi v (by decide)⟩
  have HA := Lib.hid fun W => around_c v 1073741824 hv.1 hv.2 (by decide) W
  rw [ha] at HA
  obtain ⟨k, hk, hkN⟩ : ∃ k : Nat, arI at_ ((m : Int) + 9) = k ∧ k < m + 9 := by
    have h1 := arI_lo at_ (m := (m : Int) + 9) (by omega)
    have h3 := arI_hi at_ (m := (m : Int) + 9) (by omega)
    exact ⟨(arI at_ ((m : Int) + 9)).toNat, by omega, by omega⟩
  have HK := Lib.hid fun W => around_c at_ ((m : Int) + 9) hat.1 hat.2 (by omega) W
  rw [hk] at HK
  have HF := Lib.hid hf1
  have HF2 := Lib.hid hf2
  have HG := Lib.hid g1
  have HG2 := Lib.hid g2
  obtain ⟨E, bs, HW1, HW2⟩ : ∃ E bs, Hid (Calls Try.prog 10 #[.int .i64 v, .slice q m c] w fun r w' => WriteE w.heap.size E bs r w w') ∧ Hid (∀ W, Below w.heap.size w W → Calls Try.prog 11 #[.int .i64 v, .slice q m c] W fun r w' => WriteE w.heap.size E bs r W w') :=
    ⟨_, _, Lib.hid ((swrite_c w.heap.size v hv (q, m, c) w g1 (by dsimp only; omega)).mono fun _ _ => WriteR.e), Lib.hid fun W hW => by
      have h := (rwrite_c w.heap.size v hv (q, m, c) W (g1.on hW).1 (by dsimp only; omega)).mono fun _ _ => WriteR.e
      rw [(g1.on hW).2] at h
      exact h⟩
  obtain ⟨B, hB⟩ : ∃ B, rdB w (q, m, c) = B := ⟨_, rfl⟩
  have HO := Lib.hid fun W (hW : Below w.heap.size w W) => rwrite_own (1 + a) (by omega) (by omega) q m c B (by rw [← hB]; exact g1.len) l1 (by omega) W (by have := (g1.on hW).1.byq; rw [(g1.on hW).2, hB] at this; exact this)
  have HRB := Lib.hid fun W (hW : Below w.heap.size w W) => (g1.on hW).2
  have HL := Lib.hid g1.len
  have HM := Lib.hid (And.intro l1 (And.intro hm (And.intro m1 m2)))
  clear hf1 hf2 hq hqb g1 g2 hn hm hnb hmb hat ha hk hx m1 m2 l1 l2
  go_enter Try.func3, Try.ntmps3
  rw [hB] at HL
  have HB := Lib.hid hB
  clear hB
  go_upto_region 4 with first
    | (go_at_call 9; refine HF.out.mono ?_; rintro e_ w' ⟨rfl, rfl⟩)
    | (go_at_call 10; refine HW1.out.mono ?_; rintro e_ w1 ⟨q1, n1, c1, rfl, hg1, hr1, hb1⟩; clear HW1)
    | (go_at_call 11; refine (HW2.out _ hb1).mono ?_; rintro e_ w2 ⟨q2, n2, c2, rfl, hg2, hr2, hb2⟩; clear HW2)
  have hS := same_s (hg1.on hb2).1 hg2 (by rw [(hg1.on hb2).2, hr1, hr2])
  simp only [slV] at hS
  have HS := Lib.hid hS
  have H2 := Lib.hid (after hb1 hb2)
  clear hS hg1 hg2 hr1 hr2 hb1 hb2 HF
  go_upto_region 7 with first
    | (go_at_call 12; refine HS.out.mono ?_; rintro e_ w' ⟨rfl, rfl⟩)
    | (go_at_call 13; refine (HA.out _).mono ?_; rintro e_ w' ⟨rfl, rfl⟩)
    | (go_at_call 11; refine (HO.out _ H2.out).mono ?_; rintro e_ w3 ⟨x3, rfl, o3, hb3⟩; obtain ⟨g, cs, cur, rfl, hbg, C, hsc, hsm, hsz, D⟩ := own_form o3 (by omega); clear o3)
  have H3 := Lib.hid (after H2.out hb3)
  have hgo : GoodS w3 w.heap.size (some ⟨g, 0, none⟩, m + 9, cs) := ⟨hsc, hsm, fun _ => ⟨g, 0, _, rfl, D, .inr ⟨cur, C⟩⟩⟩
  have hro : rdB w3 (some ⟨g, 0, none⟩, m + 9, cs) = recB (1 + a) B := by
    rw [rdB_of D, bs_take _ (by rw [recB_len, HL.out]; exact Nat.le_refl _), List.take_of_length_le (by rw [recB_len, HL.out]; exact Nat.le_refl _)]
  have HR := Lib.hid (sread_c w.heap.size (some ⟨g, 0, none⟩, m + 9, cs) w3 hgo (by have := HM.out.2.2.1; dsimp only; omega))
  rw [hro, read_rec (by omega) (by omega) (by rw [HL.out]; have := HM.out.2.2.1; omega)] at HR
  have HC := Lib.hid (And.intro C (And.intro D (And.intro hsz (And.intro hbg (And.intro hsc hsm)))))
  clear hgo hro C D hsz hbg hsc hsm hb3 HO HS
  go_upto_region 8 with (go_at_call 14; refine HR.out.mono ?_; rintro e_ w4 ⟨⟨q4, n4, c4⟩, rfl, hg4, hr4, hb4⟩; dsimp only [slV] at *)
  have hS := same_s hg4 (HG.out.on (after H3.out hb4)).1 (by rw [hr4, HRB.out _ (after H3.out hb4), HB.out])
  simp only [slV] at hS
  have HS := Lib.hid hS
  have H4 := Lib.hid (after H3.out hb4)
  have HC4 := Lib.hid (And.intro (HC.out.1.on hb4) (HC.out.2.1.on hb4))
  clear hS hg4 hr4 hb4 HR
  have k0 : (0 : Int) ≤ k := by omega
  have k1 : (k : Int) < (m : Int) + 9 := by omega
  have d0 := HC4.out.2 k hkN
  have f0 := HC4.out.1.frz k
  rw [Nat.zero_add] at d0
  go_upto_region 11 with first
    | (go_at_call 12; refine HS.out.mono ?_; rintro e_ w' ⟨rfl, rfl⟩)
    | (go_at_call 13; (first | (with_reducible refine Calls.mono (HA.out _) ?_) | (with_reducible refine Calls.mono (HK.out _) ?_)); rintro e_ w' ⟨rfl, rfl⟩)
  obtain ⟨W5, hW⟩ : ∃ W5, W5 = w4.setCell ⟨g, k, none⟩ (.int .u8 (n8 x)) := ⟨_, rfl⟩
  rw [← hW]
  have D5 : Byt W5 g 0 (m + 9) (updB (fb (recB (1 + a) B)) k x) := by rw [hW]; exact HC4.out.2.put HC4.out.1 HC.out.2.2.1 hkN
  have C5 : ∃ cur', Blk W5 g 5 cur' := ⟨_, by rw [hW]; exact HC4.out.1.set_ k _⟩
  have h5 : Below w.heap.size w W5 := by rw [hW]; exact H4.out.setCell (p := ⟨g, k, none⟩) (Nat.le_trans H2.out.size HC.out.2.2.2.1) _
  have H5 := Lib.hid h5
  have HD5 := Lib.hid (And.intro D5 C5)
  clear hW d0 f0 D5 C5 HC4 h5 H4 HS
  go_upto_region 12 with (go_at_call 9; refine (HF2.out _).mono ?_; rintro e_ w' ⟨rfl, rfl⟩)
  obtain ⟨W6, hW⟩ : ∃ W6, W6 = W5.alloc (.cells #[.slice qb mb cb, .slice (some ⟨g, 0, none⟩) (m + 9) cs] 22) := ⟨_, rfl⟩
  rw [← hW]
  have L := Blk.fresh hW
  have hb6 : Below W5.heap.size W5 W6 := by rw [hW]; exact bel_alloc _ _
  have G0 := Lib.hid (HG2.out.on (after H5.out hb6)).1
  have G1 : Hid (GoodS W6 w.heap.size (some ⟨g, 0, none⟩, m + 9, cs)) := Lib.hid (by
    obtain ⟨cur', hC⟩ := HD5.out.2
    exact ⟨HC.out.2.2.2.2.1, HC.out.2.2.2.2.2, fun _ => ⟨g, 0, _, rfl, HD5.out.1.on hb6, .inr ⟨cur', hC.on hb6⟩⟩⟩)
  have H6 := Lib.hid (after H5.out hb6)
  have l0 := L.cell 0
  have l1 := L.cell 1
  generalize W5.heap.size = gl at *
  have HL6 := Lib.hid L
  clear hW hb6 L HD5 H5 HF2
  go_upto_region 13 with (fail)
  refine wp_loop_rounds 3 ?_
  rw [rounds_succ]
  have HR0 := Lib.hid (sread_c w.heap.size (qb, mb, cb) W6 G0.out (by have := HM.out.2.2.2; dsimp only; omega))
  have HQ0 := Lib.hid fun W (hW : Below W6.heap.size W6 W) => rread_c w.heap.size (qb, mb, cb) W (G0.out.on hW).1 (by have := HM.out.2.2.2; dsimp only; omega)
  have HE0 := Lib.hid fun W (hW : Below W6.heap.size W6 W) => (G0.out.on hW).2
  go_upto_region 16 with (go_at_call 14; refine HR0.out.mono ?_; rintro e_ w7 ⟨⟨q7, n7, c7⟩, rfl, hg7, hr7, hb7⟩; dsimp only [slV])
  have l2 := (HL6.out.on hb7).cell 0
  have HQ1 := HQ0.out w7 hb7
  rw [HE0.out w7 hb7] at HQ1
  have HQ2 := Lib.hid HQ1
  clear HQ1 HR0
  go_upto_region 17 with (go_at_call 15; refine HQ2.out.mono ?_; rintro e_ w8 ⟨⟨q8, n8', c8⟩, rfl, hg8, hr8, hb8⟩; dsimp only [slV])
  have hS := same_s (hg7.on hb8).1 hg8 (by rw [(hg7.on hb8).2, hr7, hr8])
  simp only [slV] at hS
  have HS := Lib.hid hS
  have H8 := Lib.hid (after hb7 hb8)
  clear hS hg7 hr7 hg8 hr8 hb7 hb8 HQ2 HQ0 HE0 l0 l1 l2
  generalize readL (rdB W6 (qb, mb, cb)) = z at *
  go_wp2_with (go_at_call 12; refine HS.out.mono ?_; rintro e_ w' ⟨rfl, rfl⟩)
  rw [rounds_succ]
  have l0 := (HL6.out.on H8.out).cell 0
  have l1 := (HL6.out.on H8.out).cell 1
  have HR0 := Lib.hid (sread_c w.heap.size (some ⟨g, 0, none⟩, m + 9, cs) w8 (G1.out.on H8.out).1 (by have := HM.out.2.2.1; dsimp only; omega))
  have HQ0 := Lib.hid fun W (hW : Below w8.heap.size w8 W) => rread_c w.heap.size (some ⟨g, 0, none⟩, m + 9, cs) W ((G1.out.on H8.out).1.on hW).1 (by have := HM.out.2.2.1; dsimp only; omega)
  have HE0 := Lib.hid fun W (hW : Below w8.heap.size w8 W) => ((G1.out.on H8.out).1.on hW).2
  clear HS
  go_upto_region 16 with (go_at_call 14; refine HR0.out.mono ?_; rintro e_ w9 ⟨⟨q9, n9, c9⟩, rfl, hg9, hr9, hb9⟩; dsimp only [slV])
  have l2 := ((HL6.out.on H8.out).on hb9).cell 1
  have HQ1 := HQ0.out w9 hb9
  rw [HE0.out w9 hb9] at HQ1
  have HQ2 := Lib.hid HQ1
  clear HQ1 HR0
  go_upto_region 17 with (go_at_call 15; refine HQ2.out.mono ?_; rintro e_ wa ⟨⟨qa, na, ca⟩, rfl, hga, hra, hba⟩; dsimp only [slV])
  have hS := same_s (hg9.on hba).1 hga (by rw [(hg9.on hba).2, hr9, hra])
  simp only [slV] at hS
  have HS := Lib.hid hS
  have Ha := Lib.hid (after (after (after H6.out H8.out) hb9) hba)
  clear hS hg9 hr9 hga hra hb9 hba HQ2 HQ0 HE0 l0 l1 l2
  generalize readL (rdB w8 (some ⟨g, 0, none⟩, m + 9, cs)) = z2 at *
  go_wp2_with (go_at_call 12; refine HS.out.mono ?_; rintro e_ w' ⟨rfl, rfl⟩)
  rw [rounds_succ]
  go_wp2_with (go_at_call 16; refine (slives_c _).mono ?_; rintro e_ wb ⟨rfl, hbb⟩)
  go_returns
  exact ⟨rfl, after Ha.out hbb⟩
set_option maxRecDepth 100000 in
theorem storeRecords_lifted (os : Os) (started : os.Started) (H : Type) (enc : TypeId × Value → H) :
    ReturnsInHanded {} Try.checked os 3 .any (Rows.storeRecordsSpec.pre6 enc Try.prog Try.f3 Rows.storeRecordsRow.domain false) (Rows.storeRecordsSpec.post enc Try.prog Try.f3 false true false false) := by
  refine returnsInHanded_of_change (C := Try.checked) own started (by kernel_rfl) Try.func3
    (ChangeSpec.witness6 (enc := enc) (C := Try.checked) false ⟨#[], #[.int .i64 0, .slice none 0 0, .slice none 0 0, .int .i64 0, .int .u8 0], []⟩ 8 (by kernel_rfl) (by kernel_rfl) (by kernel_rfl) (by kernel_rfl)) ?_
  intro W base args ds gs before hval0 hW hcnd hsz
  have hval : ∀ (j : Nat) t v, Try.f3.params[j]? = some t → args[j]? = some v → Value.okWide Try.prog W .any base t v := hval0
  have hW' := hW
  obtain ⟨p, q, hA0, hV, rfl, hfz, hnd⟩ := hW
  have hA : DataW.TrodAll enc Try.prog W 0 (fun _ => true) true Try.f3.params.toList args.toList ds p := hA0
  rw [Try.params3] at hA hval
  obtain ⟨v0, vs0, d0, ds0, p_0, q_0, hargs, rfl, rfl, h0, r_0⟩ := trodAll_cons hA
  obtain ⟨v1, vs1, d1, ds1, p_1, q_1, rfl, rfl, rfl, h1, r_1⟩ := trodAll_cons r_0
  obtain ⟨v2, vs2, d2, ds2, p_2, q_2, rfl, rfl, rfl, h2, r_2⟩ := trodAll_cons r_1
  obtain ⟨v3, vs3, d3, ds3, p_3, q_3, rfl, rfl, rfl, h3, r_3⟩ := trodAll_cons r_2
  obtain ⟨v4, vs4, d4, ds4, p_4, q_4, rfl, rfl, rfl, h4, r_4⟩ := trodAll_cons r_3
  obtain ⟨rfl, rfl, rfl⟩ := trodAll_nil r_4
  obtain rfl : args = #[v0, v1, v2, v3, v4] := by cases args; simp_all
  obtain ⟨rfl, rfl⟩ := trodVars_none hV
  obtain ⟨a0, rfl, rfl, rfl, w0⟩ := open_int Try.underlying3 (hval 0 3 v0 rfl rfl) h0
  obtain ⟨A1, n1, k1, l1, rfl, b1, c1, e1⟩ := open_bytes Try.underlying22 Try.underlying5 (by kernel_rfl) (hval 1 22 v1 rfl rfl) h1
  obtain ⟨A2, n2, k2, l2, rfl, b2, c2, e2⟩ := open_bytes Try.underlying22 Try.underlying5 (by kernel_rfl) (hval 2 22 v2 rfl rfl) h2
  obtain ⟨a3, rfl, rfl, rfl, w3⟩ := open_int Try.underlying3 (hval 3 3 v3 rfl rfl) h3
  obtain ⟨a4, rfl, rfl, rfl, w4⟩ := open_int Try.underlying5 (hval 4 5 v4 rfl rfl) h4
  refine (storeRecords_w a0 (in64_of_wf w0) A1 n1 k1 l1 b1 c1 A2 n2 k2 l2 b2 c2 a3 (in64_of_wf w3) a4 (inU8_of_wf w4) W e1 e2).mono fun e W' ⟨he, hb⟩ => ?_
  subst he
  exact ⟨_, rfl, law_post laidOut (by kernel_rfl) rfl (by kernel_rfl) Try.underlying4 hW' rfl rfl rfl hb⟩

/-- The statement. -/
theorem storeRecords_proved : Rows.StoreRecordsSaid :=
  OpenClaim.holds_of_wide 3 Try.f3 rfl rfl rfl rfl rfl rfl rfl ⟨rfl, rfl, rfl, rfl, rfl⟩ rfl rfl rfl rfl rfl (by kernel_rfl) Try.func3 (by kernel_rfl)
    (of_decide_eq_true (by kernel_rfl)) (by unfold Func.isWrapper; first | (rw [if_pos (by decide +kernel)]; kernel_rfl) | (rw [if_neg (by decide +kernel)]; exact ⟨rfl, rfl⟩))
    (fun os started H enc _ => storeRecords_lifted os started H enc)
end Go.Proofs.Ytkopenemoddbbaa
