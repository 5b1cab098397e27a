/- CrcTakes holds: for any bytes, any place, any byte. -/
import Derived.Test.YtpmkeocknlhhkaaCrc7
namespace Go.Proofs.Ytpmkeocknlhhkaa
open Go.ChangeShapes Go.WideShapes Go.ChangeAt Go.RowKit

set_option maxHeartbeats 8000000 in
theorem crcTakes_w (q : Option Addr) (n c : Nat) (F : Nat → B8) (hn : n ≤ c) (hm : c ≤ maxLen) (at_ : Int) (hat : In64 at_) (x : Int) (hx : InU8 x) (w : World) (hb : Byq w q n F) :
    Calls Try.prog 5 #[.slice q n c, .int .i64 at_, .int .u8 x] w fun r w' => r = .returned (.bool true) ∧ Below w.heap.size w w' := by
  replace hb := hb.le (Nat.min_le_left n 100)
  have l1 : min n 100 ≤ c := Nat.le_trans (Nat.min_le_left _ _) hn
  have l2 : min n 100 ≤ 100 := Nat.min_le_right _ _
  obtain ⟨x, rfl⟩ := u8_of hx
  go_enter Try.func5, Try.ntmps5
  go_wp2_with fail
  refine (few_c q n c 100 hn _).mono ?_
  rintro e w1 ⟨rfl, rfl⟩
  generalize min n 100 = m at *
  clear hn
  go_wp2_with fail
  have hb0 := hb
  refine (put_c q m c F l1 hm (by omega) _ hb).mono ?_
  rintro e w1 ⟨v, rfl, hown, H⟩
  replace hb := hb.on H
  obtain ⟨g, cs, cur, rfl, hbg, C, hsc, hsm, hsz, D⟩ := own_form hown (by omega)
  clear hown
  have hm4 : (m : Int) ≤ 100 := by omega
  go_wp2_with fail
  refine (rput_c q m c F l1 hm (by omega) _ hb).mono ?_
  rintro e w2 ⟨v, rfl, hown, hbT⟩
  replace hb := hb.on hbT
  replace D := D.on hbT
  replace C := C.on hbT
  replace H := after H hbT
  clear hbT
  obtain ⟨qt, ct, rfl, -, -, T⟩ := own_byq hown
  clear hown
  go_wp2_with fail
  refine (same_t (some ⟨g, 0, none⟩) (m + 2) cs (putF F m) qt ct (putF F m) (fun _ _ => rfl) _ (Byq.of D) T).mono ?_
  rintro e w3 ⟨rfl, rfl⟩
  clear T
  have hS := put_ok F m
  generalize putF F m = S at *
  obtain ⟨k, hk, hkN⟩ : ∃ k : Nat, arI at_ ((m : Int) + 2) = k ∧ k < m + 2 := by
    have h1 := arI_lo at_ (m := (m : Int) + 2) (by omega)
    have h3 := arI_hi at_ (m := (m : Int) + 2) (by omega)
    exact ⟨(arI at_ ((m : Int) + 2)).toNat, by omega, by omega⟩
  go_wp2_with fail
  refine (around_c at_ ((m : Int) + 2) hat.1 hat.2 (by omega) _).mono ?_
  rintro e w3 ⟨rfl, rfl⟩
  rw [hk]
  clear hk
  have hk0 : (0 : Int) ≤ k := by omega
  have hkz : (k : Int) < (m : Int) + 2 := by omega
  have d0 := D k hkN
  have f0 := C.frz k
  rw [Nat.zero_add] at d0
  go_upto_region 10 with (fail)
  obtain ⟨W2, hW⟩ : ∃ W2, W2 = w2.setCell ⟨g, k, none⟩ (.int .u8 (n8 x)) := ⟨_, rfl⟩
  rw [← hW]
  replace D : Byt W2 g 0 (m + 2) (upd S k x) := by rw [hW]; exact D.put C hsz hkN
  replace H : Below w.heap.size w W2 := by rw [hW]; exact H.setCell (p := ⟨g, k, none⟩) hbg _
  have hone := one_ok S (m + 2) k x hkN hS
  have hxw : Hid ((n8 x == n8 (S k)) = (x == S k)) := by
    show (n8 x == n8 (S k)) = (x == S k)
    rw [Bool.eq_iff_iff]
    simp only [beq_iff_eq, n8_eq]
  clear hW d0 f0 hS hb C
  generalize upd S k x = S' at *
  go_upto_region 11 with (fail)
  obtain ⟨W3, hW⟩ : ∃ W3, W3 = W2.alloc (.cells #[.slice q m c, .slice (some ⟨g, 0, none⟩) (m + 2) cs] 22) := ⟨_, rfl⟩
  rw [← hW]
  have L := Blk.fresh hW
  have hbT : Below W2.heap.size W2 W3 := by rw [hW]; exact (Below.refl _ _).alloc (Nat.le_refl _) _
  replace D := D.on hbT
  replace H := after H hbT
  clear hW hbT
  generalize W2.heap.size = nl at *
  obtain ⟨e0, he0⟩ : ∃ e0 : Int, e0 = if m < 2 then 3 else 4 := ⟨_, rfl⟩
  have he1 : (e0 == 0) = false := by rw [he0]; split <;> rfl
  replace he0 : Hid (e0 = if m < 2 then 3 else 4) := he0
  go_upto_region 12 with (fail)
  by_cases hxs : x = S k
  · have hT := hone.2 hxs
    have hxe : (n8 x == n8 (S k)) = true := by rw [hxw.out]; simpa using hxs
    clear hone hxw
    by_cases hB : okF F m
    · refine wp_loop_rounds 3 ?_
      rw [rounds_succ]
      have l0 := L.cell 0
      go_wp2_with fail
      refine (take_ok q (m) c F l1 hm (by omega) _ (hb0.on H) hB).mono ?_
      rintro e w2 ⟨v, rfl, hown, hbT⟩
      replace D := D.on hbT
      replace L := L.on hbT
      replace H := after H hbT
      clear hbT
      obtain ⟨qt, ct, rfl, -, -, T⟩ := own_byq hown
      clear l0 hown
      have l0 := L.cell 0
      go_wp2_with fail
      refine (rtake_ok q (m) c F l1 hm (by omega) _ (hb0.on H) hB).mono ?_
      rintro e w2 ⟨rfl, hbT⟩
      replace T := T.on hbT
      replace D := D.on hbT
      replace L := L.on hbT
      replace H := after H hbT
      clear hbT
      clear l0
      have l0 := L.cell 0
      go_wp2_with fail
      refine (same_t qt (m - 2) ct F q c F (fun _ _ => rfl) _ T ((hb0.on H).le (Nat.sub_le _ 2))).mono ?_
      rintro e w2 ⟨rfl, rfl⟩
      clear T
      go_wp2_with fail
      refine (good_t q (m) c F l1 hm _ (hb0.on H) hB).mono ?_
      rintro e w2 ⟨rfl, hbT⟩
      replace D := D.on hbT
      replace L := L.on hbT
      replace H := after H hbT
      clear hbT
      clear l0
      go_wp2_with fail
      rw [rounds_succ]
      have l1 := L.cell 1
      go_wp2_with fail
      refine (take_ok (some ⟨g, 0, none⟩) (m + 2) cs S' hsc hsm (by omega) _ (Byq.of D) hT).mono ?_
      rintro e w2 ⟨v, rfl, hown, hbT⟩
      replace D := D.on hbT
      replace L := L.on hbT
      replace H := after H hbT
      clear hbT
      obtain ⟨qt, ct, rfl, -, -, T⟩ := own_byq hown
      clear l1 hown
      have l1 := L.cell 1
      go_wp2_with fail
      refine (rtake_ok (some ⟨g, 0, none⟩) (m + 2) cs S' hsc hsm (by omega) _ (Byq.of D) hT).mono ?_
      rintro e w2 ⟨rfl, hbT⟩
      replace T := T.on hbT
      replace D := D.on hbT
      replace L := L.on hbT
      replace H := after H hbT
      clear hbT
      clear l1
      have l1 := L.cell 1
      go_wp2_with fail
      refine (same_t qt (m + 2 - 2) ct S' (some ⟨g, 0, none⟩) cs S' (fun _ _ => rfl) _ T ((Byq.of D).le (Nat.sub_le _ 2))).mono ?_
      rintro e w2 ⟨rfl, rfl⟩
      clear T
      go_wp2_with fail
      refine (good_t (some ⟨g, 0, none⟩) (m + 2) cs S' hsc hsm _ (Byq.of D) hT).mono ?_
      rintro e w2 ⟨rfl, hbT⟩
      replace D := D.on hbT
      replace L := L.on hbT
      replace H := after H hbT
      clear hbT
      clear l1
      go_wp2_with fail
      rw [rounds_succ]
      go_wp2_with fail
      refine (good_t (some ⟨g, 0, none⟩) (m + 2) cs S' hsc hsm _ (Byq.of D) hT).mono ?_
      rintro e w2 ⟨rfl, hbT⟩
      replace H := after H hbT
      clear hbT
      go_wp2_with fail
      refine (lives7_c _).mono ?_; rintro e w1 ⟨rfl, hb4⟩
      go_wp2_with fail
      go_returns
      exact ⟨rfl, by (repeat' (first | (with_reducible exact Below.refl _ _) | (with_reducible assumption) | (with_reducible refine Below.alloc ?_ ?_ _) | (with_reducible refine Below.drew ?_) | (with_reducible refine Below.setCell ?_ ?_ _) | (with_reducible refine after ?_ (below_regrown _ _ _)) | (refine after ?_ (by with_reducible assumption)) | go_size))⟩
    · refine wp_loop_rounds 3 ?_
      rw [rounds_succ]
      have l0 := L.cell 0
      go_wp2_with fail
      refine (take_no q (m) c F l1 hm _ (hb0.on H) hB e0 he0.out).mono ?_
      rintro e w2 ⟨rfl, hbT⟩
      replace D := D.on hbT
      replace L := L.on hbT
      replace H := after H hbT
      clear hbT
      clear l0
      have l0 := L.cell 0
      go_wp2_with fail
      refine (rtake_no q (m) c F l1 hm (by omega) _ (hb0.on H) hB e0 he0.out).mono ?_
      rintro e w2 ⟨rfl, hbT⟩
      replace D := D.on hbT
      replace L := L.on hbT
      replace H := after H hbT
      clear hbT
      clear l0
      have l0 := L.cell 0
      go_wp2_with fail
      refine (same_t none 0 0 F none 0 F (fun _ _ => rfl) _ Byq.zero Byq.zero).mono ?_
      rintro e w2 ⟨rfl, rfl⟩
      go_wp2_with fail
      refine (good_f q (m) c F l1 hm _ (hb0.on H) hB).mono ?_
      rintro e w2 ⟨rfl, hbT⟩
      replace D := D.on hbT
      replace L := L.on hbT
      replace H := after H hbT
      clear hbT
      clear l0
      go_wp2_with fail
      rw [rounds_succ]
      have l1 := L.cell 1
      go_wp2_with fail
      refine (take_ok (some ⟨g, 0, none⟩) (m + 2) cs S' hsc hsm (by omega) _ (Byq.of D) hT).mono ?_
      rintro e w2 ⟨v, rfl, hown, hbT⟩
      replace D := D.on hbT
      replace L := L.on hbT
      replace H := after H hbT
      clear hbT
      obtain ⟨qt, ct, rfl, -, -, T⟩ := own_byq hown
      clear l1 hown
      have l1 := L.cell 1
      go_wp2_with fail
      refine (rtake_ok (some ⟨g, 0, none⟩) (m + 2) cs S' hsc hsm (by omega) _ (Byq.of D) hT).mono ?_
      rintro e w2 ⟨rfl, hbT⟩
      replace T := T.on hbT
      replace D := D.on hbT
      replace L := L.on hbT
      replace H := after H hbT
      clear hbT
      clear l1
      have l1 := L.cell 1
      go_wp2_with fail
      refine (same_t qt (m + 2 - 2) ct S' (some ⟨g, 0, none⟩) cs S' (fun _ _ => rfl) _ T ((Byq.of D).le (Nat.sub_le _ 2))).mono ?_
      rintro e w2 ⟨rfl, rfl⟩
      clear T
      go_wp2_with fail
      refine (good_t (some ⟨g, 0, none⟩) (m + 2) cs S' hsc hsm _ (Byq.of D) hT).mono ?_
      rintro e w2 ⟨rfl, hbT⟩
      replace D := D.on hbT
      replace L := L.on hbT
      replace H := after H hbT
      clear hbT
      clear l1
      go_wp2_with fail
      rw [rounds_succ]
      go_wp2_with fail
      refine (good_t (some ⟨g, 0, none⟩) (m + 2) cs S' hsc hsm _ (Byq.of D) hT).mono ?_
      rintro e w2 ⟨rfl, hbT⟩
      replace H := after H hbT
      clear hbT
      go_wp2_with fail
      refine (lives7_c _).mono ?_; rintro e w1 ⟨rfl, hb4⟩
      go_wp2_with fail
      go_returns
      exact ⟨rfl, by (repeat' (first | (with_reducible exact Below.refl _ _) | (with_reducible assumption) | (with_reducible refine Below.alloc ?_ ?_ _) | (with_reducible refine Below.drew ?_) | (with_reducible refine Below.setCell ?_ ?_ _) | (with_reducible refine after ?_ (below_regrown _ _ _)) | (refine after ?_ (by with_reducible assumption)) | go_size))⟩
  · have hT : ¬ okF S' (m + 2) := fun h => hxs (hone.1 h)
    have hxe : (n8 x == n8 (S k)) = false := by rw [hxw.out]; simpa using hxs
    clear hone hxw
    by_cases hB : okF F m
    · refine wp_loop_rounds 3 ?_
      rw [rounds_succ]
      have l0 := L.cell 0
      go_wp2_with fail
      refine (take_ok q (m) c F l1 hm (by omega) _ (hb0.on H) hB).mono ?_
      rintro e w2 ⟨v, rfl, hown, hbT⟩
      replace D := D.on hbT
      replace L := L.on hbT
      replace H := after H hbT
      clear hbT
      obtain ⟨qt, ct, rfl, -, -, T⟩ := own_byq hown
      clear l0 hown
      have l0 := L.cell 0
      go_wp2_with fail
      refine (rtake_ok q (m) c F l1 hm (by omega) _ (hb0.on H) hB).mono ?_
      rintro e w2 ⟨rfl, hbT⟩
      replace T := T.on hbT
      replace D := D.on hbT
      replace L := L.on hbT
      replace H := after H hbT
      clear hbT
      clear l0
      have l0 := L.cell 0
      go_wp2_with fail
      refine (same_t qt (m - 2) ct F q c F (fun _ _ => rfl) _ T ((hb0.on H).le (Nat.sub_le _ 2))).mono ?_
      rintro e w2 ⟨rfl, rfl⟩
      clear T
      go_wp2_with fail
      refine (good_t q (m) c F l1 hm _ (hb0.on H) hB).mono ?_
      rintro e w2 ⟨rfl, hbT⟩
      replace D := D.on hbT
      replace L := L.on hbT
      replace H := after H hbT
      clear hbT
      clear l0
      go_wp2_with fail
      rw [rounds_succ]
      have l1 := L.cell 1
      go_wp2_with fail
      refine (take_no (some ⟨g, 0, none⟩) (m + 2) cs S' hsc hsm _ (Byq.of D) hT 4 (by simp)).mono ?_
      rintro e w2 ⟨rfl, hbT⟩
      replace D := D.on hbT
      replace L := L.on hbT
      replace H := after H hbT
      clear hbT
      clear l1
      have l1 := L.cell 1
      go_wp2_with fail
      refine (rtake_no (some ⟨g, 0, none⟩) (m + 2) cs S' hsc hsm (by omega) _ (Byq.of D) hT 4 (by simp)).mono ?_
      rintro e w2 ⟨rfl, hbT⟩
      replace D := D.on hbT
      replace L := L.on hbT
      replace H := after H hbT
      clear hbT
      clear l1
      have l1 := L.cell 1
      go_wp2_with fail
      refine (same_t none 0 0 S' none 0 S' (fun _ _ => rfl) _ Byq.zero Byq.zero).mono ?_
      rintro e w2 ⟨rfl, rfl⟩
      go_wp2_with fail
      refine (good_f (some ⟨g, 0, none⟩) (m + 2) cs S' hsc hsm _ (Byq.of D) hT).mono ?_
      rintro e w2 ⟨rfl, hbT⟩
      replace D := D.on hbT
      replace L := L.on hbT
      replace H := after H hbT
      clear hbT
      clear l1
      go_wp2_with fail
      rw [rounds_succ]
      go_wp2_with fail
      refine (good_f (some ⟨g, 0, none⟩) (m + 2) cs S' hsc hsm _ (Byq.of D) hT).mono ?_
      rintro e w2 ⟨rfl, hbT⟩
      replace H := after H hbT
      clear hbT
      go_wp2_with fail
      refine (lives7_c _).mono ?_; rintro e w1 ⟨rfl, hb4⟩
      go_wp2_with fail
      go_returns
      exact ⟨rfl, by (repeat' (first | (with_reducible exact Below.refl _ _) | (with_reducible assumption) | (with_reducible refine Below.alloc ?_ ?_ _) | (with_reducible refine Below.drew ?_) | (with_reducible refine Below.setCell ?_ ?_ _) | (with_reducible refine after ?_ (below_regrown _ _ _)) | (refine after ?_ (by with_reducible assumption)) | go_size))⟩
    · refine wp_loop_rounds 3 ?_
      rw [rounds_succ]
      have l0 := L.cell 0
      go_wp2_with fail
      refine (take_no q (m) c F l1 hm _ (hb0.on H) hB e0 he0.out).mono ?_
      rintro e w2 ⟨rfl, hbT⟩
      replace D := D.on hbT
      replace L := L.on hbT
      replace H := after H hbT
      clear hbT
      clear l0
      have l0 := L.cell 0
      go_wp2_with fail
      refine (rtake_no q (m) c F l1 hm (by omega) _ (hb0.on H) hB e0 he0.out).mono ?_
      rintro e w2 ⟨rfl, hbT⟩
      replace D := D.on hbT
      replace L := L.on hbT
      replace H := after H hbT
      clear hbT
      clear l0
      have l0 := L.cell 0
      go_wp2_with fail
      refine (same_t none 0 0 F none 0 F (fun _ _ => rfl) _ Byq.zero Byq.zero).mono ?_
      rintro e w2 ⟨rfl, rfl⟩
      go_wp2_with fail
      refine (good_f q (m) c F l1 hm _ (hb0.on H) hB).mono ?_
      rintro e w2 ⟨rfl, hbT⟩
      replace D := D.on hbT
      replace L := L.on hbT
      replace H := after H hbT
      clear hbT
      clear l0
      go_wp2_with fail
      rw [rounds_succ]
      have l1 := L.cell 1
      go_wp2_with fail
      refine (take_no (some ⟨g, 0, none⟩) (m + 2) cs S' hsc hsm _ (Byq.of D) hT 4 (by simp)).mono ?_
      rintro e w2 ⟨rfl, hbT⟩
      replace D := D.on hbT
      replace L := L.on hbT
      replace H := after H hbT
      clear hbT
      clear l1
      have l1 := L.cell 1
      go_wp2_with fail
      refine (rtake_no (some ⟨g, 0, none⟩) (m + 2) cs S' hsc hsm (by omega) _ (Byq.of D) hT 4 (by simp)).mono ?_
      rintro e w2 ⟨rfl, hbT⟩
      replace D := D.on hbT
      replace L := L.on hbT
      replace H := after H hbT
      clear hbT
      clear l1
      have l1 := L.cell 1
      go_wp2_with fail
      refine (same_t none 0 0 S' none 0 S' (fun _ _ => rfl) _ Byq.zero Byq.zero).mono ?_
      rintro e w2 ⟨rfl, rfl⟩
      go_wp2_with fail
      refine (good_f (some ⟨g, 0, none⟩) (m + 2) cs S' hsc hsm _ (Byq.of D) hT).mono ?_
      rintro e w2 ⟨rfl, hbT⟩
      replace D := D.on hbT
      replace L := L.on hbT
      replace H := after H hbT
      clear hbT
      clear l1
      go_wp2_with fail
      rw [rounds_succ]
      go_wp2_with fail
      refine (good_f (some ⟨g, 0, none⟩) (m + 2) cs S' hsc hsm _ (Byq.of D) hT).mono ?_
      rintro e w2 ⟨rfl, hbT⟩
      replace H := after H hbT
      clear hbT
      go_wp2_with fail
      refine (lives7_c _).mono ?_; rintro e w1 ⟨rfl, hb4⟩
      go_wp2_with fail
      go_returns
      exact ⟨rfl, by (repeat' (first | (with_reducible exact Below.refl _ _) | (with_reducible assumption) | (with_reducible refine Below.alloc ?_ ?_ _) | (with_reducible refine Below.drew ?_) | (with_reducible refine Below.setCell ?_ ?_ _) | (with_reducible refine after ?_ (below_regrown _ _ _)) | (refine after ?_ (by with_reducible assumption)) | go_size))⟩
set_option maxRecDepth 100000 in
theorem crcTakes_lifted (os : Os) (started : os.Started) (H : Type) (enc : TypeId × Value → H) :
    ReturnsInHanded {} Try.checked os 5 .any (Rows.crcTakesSpec.pre6 enc Try.prog Try.f5 Rows.crcTakesRow.domain false) (Rows.crcTakesSpec.post enc Try.prog Try.f5 false true false false) := by
  refine returnsInHanded_of_change (C := Try.checked) own started (by kernel_rfl) Try.func5
    (ChangeSpec.witness6 (enc := enc) (C := Try.checked) false ⟨#[], #[.slice none 0 0, .int .i64 0, .int .u8 0], []⟩ 8 (by kernel_rfl) (by kernel_rfl) (by kernel_rfl) (by kernel_rfl)) ?_
  intro W base args ds gs before hval0 hW hcnd hsz
  have hval : ∀ (j : Nat) t v, Try.f5.params[j]? = some t → args[j]? = some v → Value.okWide Try.prog W .any base t v := hval0
  have hW' := hW
  obtain ⟨p, q, hA0, hV, rfl, hfz, hnd⟩ := hW
  have hA : DataW.TrodAll enc Try.prog W 0 (fun _ => true) true Try.f5.params.toList args.toList ds p := hA0
  rw [Try.params5] at hA hval
  obtain ⟨v0, vs0, d0, ds0, p_0, q_0, hargs, rfl, rfl, h0, r_0⟩ := trodAll_cons hA
  obtain ⟨v1, vs1, d1, ds1, p_1, q_1, rfl, rfl, rfl, h1, r_1⟩ := trodAll_cons r_0
  obtain ⟨v2, vs2, d2, ds2, p_2, q_2, rfl, rfl, rfl, h2, r_2⟩ := trodAll_cons r_1
  obtain ⟨rfl, rfl, rfl⟩ := trodAll_nil r_2
  obtain rfl : args = #[v0, v1, v2] := by cases args; simp_all
  obtain ⟨rfl, rfl⟩ := trodVars_none hV
  obtain ⟨A0, n0, k0, l0, rfl, b0, c0, e0⟩ := open_bytes Try.underlying22 Try.underlying5 (by kernel_rfl) (hval 0 22 v0 rfl rfl) h0
  obtain ⟨a1, rfl, rfl, rfl, w1⟩ := open_int Try.underlying3 (hval 1 3 v1 rfl rfl) h1
  obtain ⟨a2, rfl, rfl, rfl, w2⟩ := open_int Try.underlying5 (hval 2 5 v2 rfl rfl) h2
  refine (crcTakes_w A0 n0 k0 l0 b0 c0 a1 (in64_of_wf w1) a2 (inU8_of_wf w2) W e0).mono fun e W' ⟨he, hb⟩ => ?_
  subst he
  exact ⟨_, rfl, law_post laidOut (by kernel_rfl) rfl (by kernel_rfl) Try.underlying4 hW' rfl rfl rfl hb⟩

/-- The statement. -/
theorem crcTakes_proved : Rows.CrcTakesSaid :=
  OpenClaim.holds_of_wide 5 Try.f5 rfl rfl rfl rfl rfl rfl rfl ⟨rfl, rfl, rfl, rfl, rfl⟩ rfl rfl rfl rfl rfl (by kernel_rfl) Try.func5 (by kernel_rfl)
    (of_decide_eq_true (by kernel_rfl)) (by unfold Func.isWrapper; first | (rw [if_pos (by decide +kernel)]; kernel_rfl) | (rw [if_neg (by decide +kernel)]; exact ⟨rfl, rfl⟩))
    (fun os started H enc _ => crcTakes_lifted os started H enc)
end Go.Proofs.Ytpmkeocknlhhkaa
