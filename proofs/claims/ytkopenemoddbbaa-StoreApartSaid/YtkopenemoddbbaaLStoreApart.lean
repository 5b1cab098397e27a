/- StoreApart holds: for any two bodies, any two ids, any byte that is turned. -/
import Derived.Test.YtkopenemoddbbaaStH
namespace Go.Proofs.Ytkopenemoddbbaa
open Go.ChangeShapes Go.WideShapes Go.ChangeAt Go.RowKit
attribute [local go_sem] Oper.semAt_some

set_option maxRecDepth 100000 in
set_option maxHeartbeats 8000000 in
theorem storeApart_w (qa : Option Addr) (na ca : Nat) (Fa : Nat → B8) (hna : na ≤ ca) (hma : ca ≤ maxLen) (qb : Option Addr) (nb cb : Nat) (Fb : Nat → B8) (hnb : nb ≤ cb) (hmb : cb ≤ maxLen) (i : Int) (hi : In64 i) (k : Int) (hk : In64 k) (at_ : Int) (hat : In64 at_) (x : Int) (hx : InU8 x) (w : World) (hqa : Byq w qa na Fa) (hqb : Byq w qb nb Fb) :
    Calls Try.prog 6 #[.slice qa na ca, .slice qb nb cb, .int .i64 i, .int .i64 k, .int .i64 at_, .int .u8 x] w fun r w' => r = .returned (.bool true) ∧ Below w.heap.size w w' := by
  obtain ⟨x, rfl⟩ := u8_of hx
  have HF1 := Lib.hid (few_c qa na ca 20 hna w)
  have HF2 := Lib.hid (few_c qb nb cb 20 hnb w)
  have g1 := good_of (Nat.le_trans (Nat.min_le_left na 20) hna) hma (hqa.le (Nat.min_le_left na 20))
  have g2 := good_of (Nat.le_trans (Nat.min_le_left nb 20) hnb) hmb (hqb.le (Nat.min_le_left nb 20))
  have m1 : min na 20 ≤ 20 := Nat.min_le_right _ _
  have m2 : min nb 20 ≤ 20 := Nat.min_le_right _ _
  generalize min na 20 = ma at *
  generalize min nb 20 = mb at *
  have la := g1.len
  have lb := g2.len
  obtain ⟨A, hA⟩ : ∃ A, rdB w (qa, ma, ca) = A := ⟨_, rfl⟩
  obtain ⟨B, hB⟩ : ∃ B, rdB w (qb, mb, cb) = B := ⟨_, rfl⟩
  rw [hA] at la
  rw [hB] at lb
  dsimp only at la lb
  have HI := Lib.hid fun W => around_c i 100 hi.1 hi.2 (by decide) W
  have HK := Lib.hid fun W => around_c k 100 hk.1 hk.2 (by decide) W
  have HT := Lib.hid fun W => around_c at_ 9 hat.1 hat.2 (by decide) W
  have i0 := arI_lo i (m := 100) (by decide)
  have i1 := arI_hi i (m := 100) (by decide)
  have k0 := arI_lo k (m := 100) (by decide)
  have k1 := arI_hi k (m := 100) (by decide)
  generalize arI i 100 = I at *
  generalize arI k 100 = K2 at *
  generalize arI at_ 9 = T at *
  obtain ⟨S1, S2, S3, r, e1, e2, e3, e6, e7, o1, o2, o3⟩ := apart_plain A B (by omega) (by omega) I K2 ⟨i0, i1⟩ ⟨k0, k1⟩ T x
  have HE := Lib.hid (And.intro e1 (And.intro e2 e3))
  have HL := Lib.hid (And.intro e6 e7)
  have HO := Lib.hid (And.intro (o1.mono (Nat.le_refl _) (show 29 ≤ 1000000 by decide)) (And.intro (o2.mono (Nat.le_refl _) (show 29 ≤ 1000000 by decide)) (o3.mono (Nat.le_refl _) (show 29 ≤ 1000000 by decide))))
  have H0 := Lib.hid ((newS_ok 1000).mono (Nat.le_refl _) (show 0 ≤ 1000000 by decide))
  have HA := Lib.hid (And.intro g1 hA)
  have HB := Lib.hid (And.intro g2 hB)
  clear e1 e2 e3 e6 e7 o1 o2 o3 g1 g2 hA hB hqa hqb hna hnb hma hmb hat hi hk la lb hx
  go_enter Try.func6, Try.ntmps6
  go_upto_region 8 with first
    | (go_at_call 9; (first | (with_reducible refine Calls.mono HF1.out ?_) | (with_reducible refine Calls.mono HF2.out ?_)); rintro e_ w' ⟨rfl, rfl⟩)
    | (go_at_call 13; (first | (with_reducible refine Calls.mono (HI.out _) ?_) | (with_reducible refine Calls.mono (HK.out _) ?_)); rintro e_ w' ⟨rfl, rfl⟩)
    | (go_at_call 17; refine (snew_e 1000 w w (Below.refl _ _)).mono ?_; rintro e_ w1 ⟨s, d, rfl, A1, hb1⟩)
  have GA1 := HA.out.1.on hb1
  have GB1 := HB.out.1.on hb1
  have HS1 := Lib.hid (save_e A1 H0.out (by decide) GA1.1 (by dsimp only; omega) (GA1.2.trans HA.out.2) HE.out.1)
  have HS2 := Lib.hid fun W (hW : SAt w W s d S1) (st : Stays w.heap.size w1 W) => save_e hW HO.out.1 (by decide) (st.good GB1.1).1 (by dsimp only; omega) ((st.good GB1.1).2.trans (GB1.2.trans HB.out.2)) HE.out.2.1
  have HST1 := Lib.hid (And.intro GA1 GB1)
  clear GA1 GB1 A1 hb1 HF1 HF2
  go_upto_region 10 with (go_at_call 18; first
    | (refine HS1.out.mono ?_; rintro e_ w2 ⟨rfl, A2, st2⟩; have HS22 := Lib.hid (HS2.out _ A2 st2); have ST2 := Lib.hid st2; clear A2 st2 HS2 HS1)
    | (refine HS22.out.mono ?_; rintro e_ w3 ⟨rfl, A3, st3⟩; have ST3 := Lib.hid (ST2.out.trans st3); have SA3 := Lib.hid A3; clear A3 st3 HS22 ST2))
  by_cases hik : I = K2
  · have HX := Lib.hid (load_e SA3.out HO.out.2.1 (by decide) (HL.out.1 hik))
    subst hik
    clear SA3
    go_upto_region 11 with (go_at_call 19; refine HX.out.mono ?_; rintro e_ w7 ⟨q7, n7, c7, rfl, hg7, hr7, A7, hb7⟩)
    have hG := (ST3.out.good HST1.out.2.1)
    have hS := same_s hg7 (hG.1.on hb7).1 (by rw [hr7, (hG.1.on hb7).2, hG.2, HST1.out.2.2, HB.out.2])
    simp only [slV] at hS
    have HS := Lib.hid hS
    have SA7 := Lib.hid A7
    clear hS hG hg7 hr7 hb7 A7 HX
    go_wp2_with first
      | (go_at_call 12; refine HS.out.mono ?_; rintro e_ w' ⟨rfl, rfl⟩)
      | (go_at_call 16; refine (slives_c _).mono ?_; rintro e_ wb ⟨rfl, hbb⟩; have HBB := Lib.hid hbb; clear hbb)
    go_returns
    obtain ⟨M, -, h2, -⟩ := SA7.out
    exact ⟨rfl, after h2 HBB.out⟩
  · have HX := Lib.hid (load_e SA3.out HO.out.2.1 (by decide) (HL.out.2 hik).1)
    have HP := Lib.hid fun W (hW : SAt w W s d S2) => spoil_e hW HO.out.2.1 (by decide) (k := 2 * K2) (by unfold In64; omega) HE.out.2.2
    have HX2 := Lib.hid fun W (hW : SAt w W s d S3) => load_e hW HO.out.2.2 (by decide) (HL.out.2 hik).2
    clear SA3
    go_upto_region 11 with (go_at_call 19; refine HX.out.mono ?_; rintro e_ w7 ⟨q7, n7, c7, rfl, hg7, hr7, A7, hb7⟩)
    have HP7 := Lib.hid (HP.out _ A7)
    have HG7 := Lib.hid (And.intro hg7 hr7)
    have ST7 := Lib.hid (ST3.out.trans (Stays.of hb7))
    clear A7 hb7 hg7 hr7 HX HP
    go_upto_region 14 with first
      | (go_at_call 13; refine (HT.out _).mono ?_; rintro e_ w' ⟨rfl, rfl⟩)
      | (go_at_call 20; refine HP7.out.mono ?_; rintro e_ w8 ⟨rfl, A8, st8⟩; have HX8 := Lib.hid (HX2.out _ A8); have HG8 := Lib.hid (st8.good HG7.out.1); have ST8 := Lib.hid (ST7.out.trans st8); clear A8 st8)
    clear HX2 HP7
    go_upto_region 15 with (go_at_call 19; refine HX8.out.mono ?_; rintro e_ w9 ⟨q9, n9, c9, rfl, hg9, hr9, A9, hb9⟩)
    have hG := (ST8.out.trans (Stays.of hb9)).good HST1.out.1.1
    have hG7 := HG8.out.1.on hb9
    have hS1 := same_s hG7.1 hG.1 (by rw [hG7.2, HG8.out.2, HG7.out.2, hG.2, HST1.out.1.2, HA.out.2])
    have hS2 := same_s hg9 hG.1 (by rw [hr9, hG.2, HST1.out.1.2, HA.out.2])
    simp only [slV] at hS1 hS2
    have HS1 := Lib.hid hS1
    have HS2 := Lib.hid hS2
    have SA9 := Lib.hid A9
    clear hS1 hS2 hG hG7 hg9 hr9 hb9 A9 HX8
    go_wp2_with first
      | (go_at_call 12; (first | (with_reducible refine Calls.mono HS1.out ?_) | (with_reducible refine Calls.mono HS2.out ?_)); rintro e_ w' ⟨rfl, rfl⟩)
      | (go_at_call 16; refine (slives_c _).mono ?_; rintro e_ wb ⟨rfl, hbb⟩; have HBB := Lib.hid hbb; clear hbb)
    go_returns
    obtain ⟨M, -, h2, -⟩ := SA9.out
    exact ⟨rfl, after h2 HBB.out⟩
set_option maxRecDepth 100000 in
theorem storeApart_lifted (os : Os) (started : os.Started) (H : Type) (enc : TypeId × Value → H) :
    ReturnsInHanded {} Try.checked os 6 .any (Rows.storeApartSpec.pre6 enc Try.prog Try.f6 Rows.storeApartRow.domain false) (Rows.storeApartSpec.post enc Try.prog Try.f6 false true false false) := by
  refine returnsInHanded_of_change (C := Try.checked) own started (by kernel_rfl) Try.func6
    (ChangeSpec.witness6 (enc := enc) (C := Try.checked) false ⟨#[], #[.slice none 0 0, .slice none 0 0, .int .i64 0, .int .i64 0, .int .i64 0, .int .u8 0], []⟩ 8 (by kernel_rfl) (by kernel_rfl) (by kernel_rfl) (by kernel_rfl)) ?_
  intro W base args ds gs before hval0 hW hcnd hsz
  have hval : ∀ (j : Nat) t v, Try.f6.params[j]? = some t → args[j]? = some v → Value.okWide Try.prog W .any base t v := hval0
  have hW' := hW
  obtain ⟨p, q, hA0, hV, rfl, hfz, hnd⟩ := hW
  have hA : DataW.TrodAll enc Try.prog W 0 (fun _ => true) true Try.f6.params.toList args.toList ds p := hA0
  rw [Try.params6] at hA hval
  obtain ⟨v0, vs0, d0, ds0, p_0, q_0, hargs, rfl, rfl, h0, r_0⟩ := trodAll_cons hA
  obtain ⟨v1, vs1, d1, ds1, p_1, q_1, rfl, rfl, rfl, h1, r_1⟩ := trodAll_cons r_0
  obtain ⟨v2, vs2, d2, ds2, p_2, q_2, rfl, rfl, rfl, h2, r_2⟩ := trodAll_cons r_1
  obtain ⟨v3, vs3, d3, ds3, p_3, q_3, rfl, rfl, rfl, h3, r_3⟩ := trodAll_cons r_2
  obtain ⟨v4, vs4, d4, ds4, p_4, q_4, rfl, rfl, rfl, h4, r_4⟩ := trodAll_cons r_3
  obtain ⟨v5, vs5, d5, ds5, p_5, q_5, rfl, rfl, rfl, h5, r_5⟩ := trodAll_cons r_4
  obtain ⟨rfl, rfl, rfl⟩ := trodAll_nil r_5
  obtain rfl : args = #[v0, v1, v2, v3, v4, v5] := by cases args; simp_all
  obtain ⟨rfl, rfl⟩ := trodVars_none hV
  obtain ⟨A0, n0, k0, l0, rfl, b0, c0, e0⟩ := open_bytes Try.underlying22 Try.underlying5 (by kernel_rfl) (hval 0 22 v0 rfl rfl) h0
  obtain ⟨A1, n1, k1, l1, rfl, b1, c1, e1⟩ := open_bytes Try.underlying22 Try.underlying5 (by kernel_rfl) (hval 1 22 v1 rfl rfl) h1
  obtain ⟨a2, rfl, rfl, rfl, w2⟩ := open_int Try.underlying3 (hval 2 3 v2 rfl rfl) h2
  obtain ⟨a3, rfl, rfl, rfl, w3⟩ := open_int Try.underlying3 (hval 3 3 v3 rfl rfl) h3
  obtain ⟨a4, rfl, rfl, rfl, w4⟩ := open_int Try.underlying3 (hval 4 3 v4 rfl rfl) h4
  obtain ⟨a5, rfl, rfl, rfl, w5⟩ := open_int Try.underlying5 (hval 5 5 v5 rfl rfl) h5
  refine (storeApart_w A0 n0 k0 l0 b0 c0 A1 n1 k1 l1 b1 c1 a2 (in64_of_wf w2) a3 (in64_of_wf w3) a4 (in64_of_wf w4) a5 (inU8_of_wf w5) W e0 e1).mono fun e W' ⟨he, hb⟩ => ?_
  subst he
  exact ⟨_, rfl, law_post laidOut (by kernel_rfl) rfl (by kernel_rfl) Try.underlying4 hW' rfl rfl rfl hb⟩

/-- The statement. -/
theorem storeApart_proved : Rows.StoreApartSaid :=
  OpenClaim.holds_of_wide 6 Try.f6 rfl rfl rfl rfl rfl rfl rfl ⟨rfl, rfl, rfl, rfl, rfl⟩ rfl rfl rfl rfl rfl (by kernel_rfl) Try.func6 (by kernel_rfl)
    (of_decide_eq_true (by kernel_rfl)) (by unfold Func.isWrapper; first | (rw [if_pos (by decide +kernel)]; kernel_rfl) | (rw [if_neg (by decide +kernel)]; exact ⟨rfl, rfl⟩))
    (fun os started H enc _ => storeApart_lifted os started H enc)
end Go.Proofs.Ytkopenemoddbbaa
