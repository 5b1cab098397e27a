/- CrcOne holds: for any bytes, any place, any two bytes. -/
import Derived.Test.YtpmkeocknlhhkaaCrc4
import Derived.Test.YtpmkeocknlhhkaaApp
namespace Go.Proofs.Ytpmkeocknlhhkaa
open Go.ChangeShapes Go.WideShapes Go.ChangeAt Go.RowKit

theorem inf8 : (Try.prog.info? 5).map (fun i => (i.zero, i.size, i.bytes)) = some (some (.int .u8 0), 1, 1) := by kernel_rfl
/-- The check of bytes of which two side by side are turned. -/
theorem one_eq (F : Nat → B8) (n k : Nat) (x y : B8) (hk : k + 1 < n) : (n16 (crcO F n) == n16 (crcO (upd (upd F k x) (k + 1) y) n)) = ((n8 (F k) == n8 x) && (n8 (F (k + 1)) == n8 y)) := by
  have key : crcO F n = crcO (upd (upd F k x) (k + 1) y) n ↔ F k = x ∧ F (k + 1) = y := by
    constructor
    · intro h
      have h1 := crcN_two _ F (upd (upd F k x) (k + 1) y) n k hk (fun i _ h1 h2 => by simp [upd, h1, h2]) h
      simpa [upd] using h1
    · rintro ⟨rfl, rfl⟩
      refine crcN_cong _ _ _ n fun i _ => ?_
      unfold upd
      split
      · subst_vars; rfl
      · split
        · subst_vars; rfl
        · rfl
  rw [Bool.eq_iff_iff]
  simp only [beq_iff_eq, Bool.and_eq_true, n16_eq, n8_eq]
  exact key
set_option maxHeartbeats 4000000 in
theorem crcOne_w (q : Option Addr) (n c : Nat) (F : Nat → B8) (hn : n ≤ c) (hm : c ≤ maxLen) (at_ : Int) (hat : In64 at_) (x : Int) (hx : InU8 x) (y : Int) (hy : InU8 y) (w : World) (hb : Byq w q n F) :
    Calls Try.prog 3 #[.slice q n c, .int .i64 at_, .int .u8 x, .int .u8 y] w fun r w' => r = .returned (.bool true) ∧ Below w.heap.size w w' := by
  replace hb := hb.le (Nat.min_le_left n 100)
  have l1 : min n 100 ≤ c := Nat.le_trans (Nat.min_le_left _ _) hn
  have l2 : min n 100 ≤ 100 := Nat.min_le_right _ _
  obtain ⟨x, rfl⟩ := u8_of hx
  obtain ⟨y, rfl⟩ := u8_of hy
  go_enter Try.func3, Try.ntmps3
  go_wp2_with fail
  refine (few_c q n c 100 hn _).mono ?_
  rintro e w1 ⟨rfl, rfl⟩
  generalize min n 100 = m at *
  clear hn
  by_cases h2 : m < 2
  · have h2' : (m : Int) < 2 := by omega
    go_wp2_with fail
    refine (lives7_c _).mono ?_; rintro e w1 ⟨rfl, hb'⟩
    go_wp2_with fail
    go_returns
    exact ⟨rfl, by (repeat' (first | (with_reducible exact Below.refl _ _) | (with_reducible assumption) | (with_reducible refine Below.alloc ?_ ?_ _) | (with_reducible refine Below.drew ?_) | (with_reducible refine Below.setCell ?_ ?_ _) | (with_reducible refine after ?_ (below_regrown _ _ _)) | (refine after ?_ (by with_reducible assumption)) | go_size))⟩
  · have h2' : ¬ (m : Int) < 2 := by omega
    obtain ⟨g, o, rfl, B⟩ := hb (by omega)
    obtain ⟨k, hk, hkm⟩ : ∃ k : Nat, arI at_ ((m : Int) - 1) = k ∧ k + 1 < m := by
      have h1 := arI_lo at_ (m := (m : Int) - 1) (by omega)
      have h3 := arI_hi at_ (m := (m : Int) - 1) (by omega)
      exact ⟨(arI at_ ((m : Int) - 1)).toNat, by omega, by omega⟩
    go_wp2_with fail
    refine (around_c at_ ((m : Int) - 1) hat.1 hat.2 (by omega) _).mono ?_
    rintro e w1 ⟨rfl, rfl⟩
    rw [hk]
    clear hk
    obtain ⟨v, W, hrun, hown, H⟩ := run_app (P := Try.prog) (w := w) (base := w.heap.size) (ty := 22) Try.underlying22 inf8 (own_nil (F := F)) l1 (Byq.of B) (by omega) (Nat.le_refl _)
    rw [cat_0, Nat.zero_add] at hown
    obtain ⟨g', c', cur, rfl, hbg, C, hcc, hcm, hsz, D⟩ := own_form hown (by omega)
    have hg := B.lt (by omega)
    replace B := B.on H
    have d0 := D k (by omega)
    have f0 := C.frz k
    have hk0 : (0 : Int) ≤ k := by omega
    have hk1 : (k : Int) + 1 < m := by omega
    have hcm' : (c' : Int) ≤ 9223372036854775807 := by
      have : maxLen ≤ 9223372036854775807 := by decide
      clear hm l1
      omega
    have d1 := D (k + 1) (by omega)
    have f1 := C.frz (k + 1)
    rw [Nat.zero_add] at d0 d1
    go_upto_region 9 with (at_builtin; refine Lib.wpList_append_run _ rfl _ _ _ _ rfl _ _ rfl rfl _ _ hrun ?_)
    clear hrun
    obtain ⟨W2, hW⟩ : ∃ W2, W2 = (W.setCell ⟨g', k, none⟩ (.int .u8 (n8 x))).setCell ⟨g', k + 1, none⟩ (.int .u8 (n8 y)) := ⟨_, rfl⟩
    rw [← hW]
    replace D : Byt W2 g' 0 m (upd (upd F k x) (k + 1) y) := by rw [hW]; exact (D.put C hsz (by omega)).put (C.set_ k _) (by simpa using hsz) (by omega)
    replace B : Byt W2 g o m F := by rw [hW]; exact (B.far (by simp; omega) _).far (by simp; omega) _
    replace H : Below w.heap.size w W2 := by rw [hW]; exact (H.setCell (by simp; omega) _).setCell (by simp; omega) _
    clear hW d0 d1 f0 f1 hown C
    have b0 := B k (by omega)
    have b1 := B (k + 1) (by omega)
    have hone := one_eq F m k x y hkm
    have HO1 := fun w' hb => of_c (some ⟨g, o, none⟩) m c F l1 hm w' (Byq.of (F := F) hb)
    have HO2 := fun w' hb => of_c (some ⟨g', 0, none⟩) m c' (upd (upd F k x) (k + 1) y) hcc hcm w' (Byq.of hb)
    generalize n16 (crcO (upd (upd F k x) (k + 1) y) m) = z2 at *
    generalize n16 (crcO F m) = z1 at *
    cases e1 : (n8 (F k) == n8 x) with
    | true =>
      cases e2 : (n8 (F (k + 1)) == n8 y) with
      | true =>
        rw [e1, e2] at hone
        replace hone : (z1 == z2) = true := hone
        go_upto_region 10 with (fail)
        go_wp2_with fail
        refine (HO1 _ B).mono ?_; rintro e w1 ⟨rfl, hb1⟩
        replace B := B.on hb1
        replace D := D.on hb1
        replace H := after H hb1
        clear hb1 b0 b1
        go_wp2_with fail
        refine (HO2 _ D).mono ?_; rintro e w1 ⟨rfl, hb1⟩
        replace H := after H hb1
        clear hb1
        go_wp2_with fail
        refine (lives7_c _).mono ?_; rintro e w1 ⟨rfl, hb1⟩
        go_wp2_with fail
        go_returns
        exact ⟨rfl, by (repeat' (first | (with_reducible exact Below.refl _ _) | (with_reducible assumption) | (with_reducible refine Below.alloc ?_ ?_ _) | (with_reducible refine Below.drew ?_) | (with_reducible refine Below.setCell ?_ ?_ _) | (with_reducible refine after ?_ (below_regrown _ _ _)) | (refine after ?_ (by with_reducible assumption)) | go_size))⟩
      | false =>
        rw [e1, e2] at hone
        replace hone : (z1 == z2) = false := hone
        go_upto_region 10 with (fail)
        go_wp2_with fail
        refine (HO1 _ B).mono ?_; rintro e w1 ⟨rfl, hb1⟩
        replace B := B.on hb1
        replace D := D.on hb1
        replace H := after H hb1
        clear hb1 b0 b1
        go_wp2_with fail
        refine (HO2 _ D).mono ?_; rintro e w1 ⟨rfl, hb1⟩
        replace H := after H hb1
        clear hb1
        go_wp2_with fail
        refine (lives7_c _).mono ?_; rintro e w1 ⟨rfl, hb1⟩
        go_wp2_with fail
        go_returns
        exact ⟨rfl, by (repeat' (first | (with_reducible exact Below.refl _ _) | (with_reducible assumption) | (with_reducible refine Below.alloc ?_ ?_ _) | (with_reducible refine Below.drew ?_) | (with_reducible refine Below.setCell ?_ ?_ _) | (with_reducible refine after ?_ (below_regrown _ _ _)) | (refine after ?_ (by with_reducible assumption)) | go_size))⟩
    | false =>
      rw [e1, Bool.false_and] at hone
      go_upto_region 10 with (fail)
      go_wp2_with fail
      refine (HO1 _ B).mono ?_; rintro e w1 ⟨rfl, hb1⟩
      replace B := B.on hb1
      replace D := D.on hb1
      replace H := after H hb1
      clear hb1 b0 b1
      go_wp2_with fail
      refine (HO2 _ D).mono ?_; rintro e w1 ⟨rfl, hb1⟩
      replace H := after H hb1
      clear hb1
      go_wp2_with fail
      refine (lives7_c _).mono ?_; rintro e w1 ⟨rfl, hb1⟩
      go_wp2_with fail
      go_returns
      exact ⟨rfl, by (repeat' (first | (with_reducible exact Below.refl _ _) | (with_reducible assumption) | (with_reducible refine Below.alloc ?_ ?_ _) | (with_reducible refine Below.drew ?_) | (with_reducible refine Below.setCell ?_ ?_ _) | (with_reducible refine after ?_ (below_regrown _ _ _)) | (refine after ?_ (by with_reducible assumption)) | go_size))⟩
set_option maxRecDepth 100000 in
theorem crcOne_lifted (os : Os) (started : os.Started) (H : Type) (enc : TypeId × Value → H) :
    ReturnsInHanded {} Try.checked os 3 .any (Rows.crcOneSpec.pre6 enc Try.prog Try.f3 Rows.crcOneRow.domain false) (Rows.crcOneSpec.post enc Try.prog Try.f3 false true false false) := by
  refine returnsInHanded_of_change (C := Try.checked) own started (by kernel_rfl) Try.func3
    (ChangeSpec.witness6 (enc := enc) (C := Try.checked) false ⟨#[], #[.slice none 0 0, .int .i64 0, .int .u8 0, .int .u8 0], []⟩ 8 (by kernel_rfl) (by kernel_rfl) (by kernel_rfl) (by kernel_rfl)) ?_
  intro W base args ds gs before hval0 hW hcnd hsz
  have hval : ∀ (j : Nat) t v, Try.f3.params[j]? = some t → args[j]? = some v → Value.okWide Try.prog W .any base t v := hval0
  have hW' := hW
  obtain ⟨p, q, hA0, hV, rfl, hfz, hnd⟩ := hW
  have hA : DataW.TrodAll enc Try.prog W 0 (fun _ => true) true Try.f3.params.toList args.toList ds p := hA0
  rw [Try.params3] at hA hval
  obtain ⟨v0, vs0, d0, ds0, p_0, q_0, hargs, rfl, rfl, h0, r_0⟩ := trodAll_cons hA
  obtain ⟨v1, vs1, d1, ds1, p_1, q_1, rfl, rfl, rfl, h1, r_1⟩ := trodAll_cons r_0
  obtain ⟨v2, vs2, d2, ds2, p_2, q_2, rfl, rfl, rfl, h2, r_2⟩ := trodAll_cons r_1
  obtain ⟨v3, vs3, d3, ds3, p_3, q_3, rfl, rfl, rfl, h3, r_3⟩ := trodAll_cons r_2
  obtain ⟨rfl, rfl, rfl⟩ := trodAll_nil r_3
  obtain rfl : args = #[v0, v1, v2, v3] := by cases args; simp_all
  obtain ⟨rfl, rfl⟩ := trodVars_none hV
  obtain ⟨A0, n0, k0, l0, rfl, b0, c0, e0⟩ := open_bytes Try.underlying22 Try.underlying5 (by kernel_rfl) (hval 0 22 v0 rfl rfl) h0
  obtain ⟨a1, rfl, rfl, rfl, w1⟩ := open_int Try.underlying3 (hval 1 3 v1 rfl rfl) h1
  obtain ⟨a2, rfl, rfl, rfl, w2⟩ := open_int Try.underlying5 (hval 2 5 v2 rfl rfl) h2
  obtain ⟨a3, rfl, rfl, rfl, w3⟩ := open_int Try.underlying5 (hval 3 5 v3 rfl rfl) h3
  refine (crcOne_w A0 n0 k0 l0 b0 c0 a1 (in64_of_wf w1) a2 (inU8_of_wf w2) a3 (inU8_of_wf w3) W e0).mono fun e W' ⟨he, hb⟩ => ?_
  subst he
  exact ⟨_, rfl, law_post laidOut (by kernel_rfl) rfl (by kernel_rfl) Try.underlying4 hW' rfl rfl rfl hb⟩

/-- The statement. -/
theorem crcOne_proved : Rows.CrcOneSaid :=
  OpenClaim.holds_of_wide 3 Try.f3 rfl rfl rfl rfl rfl rfl rfl ⟨rfl, rfl, rfl, rfl, rfl⟩ rfl rfl rfl rfl rfl (by kernel_rfl) Try.func3 (by kernel_rfl)
    (of_decide_eq_true (by kernel_rfl)) (by unfold Func.isWrapper; first | (rw [if_pos (by decide +kernel)]; kernel_rfl) | (rw [if_neg (by decide +kernel)]; exact ⟨rfl, rfl⟩))
    (fun os started H enc _ => crcOne_lifted os started H enc)
end Go.Proofs.Ytpmkeocknlhhkaa
