/- CrcZero holds: for any bytes. -/
import Derived.Test.YtpmkeocknlhhkaaCrc6
namespace Go.Proofs.Ytpmkeocknlhhkaa
open Go.ChangeShapes Go.WideShapes Go.ChangeAt Go.RowKit

set_option maxHeartbeats 4000000 in
theorem crcZero_w (q : Option Addr) (n c : Nat) (F : Nat → B8) (hn : n ≤ c) (hm : c ≤ maxLen) (w : World) (hb : Byq w q n F) :
    Calls Try.prog 7 #[.slice q n c] w fun r w' => r = .returned (.bool true) ∧ Below w.heap.size w w' := by
  replace hb := hb.le (Nat.min_le_left n 200)
  have l1 : min n 200 ≤ c := Nat.le_trans (Nat.min_le_left _ _) hn
  have l2 : min n 200 ≤ 200 := Nat.min_le_right _ _
  go_enter Try.func7, Try.ntmps7
  go_wp2_with fail
  refine (few_c q n c 200 hn _).mono ?_
  rintro e w1 ⟨rfl, rfl⟩
  generalize min n 200 = m at *
  clear hn
  go_wp2_with fail
  refine (put_c q m c F l1 hm (by omega) _ hb).mono ?_
  rintro e w1 ⟨v, rfl, hown, H⟩
  replace hb := hb.on H
  obtain ⟨qs, cs, rfl, hsc, hsm, hs⟩ := own_byq hown
  go_wp2_with fail
  refine (take_ok qs (m + 2) cs (putF F m) hsc hsm (by omega) _ hs (put_ok F m)).mono ?_
  rintro e w2 ⟨v, rfl, hown2, hb2⟩
  rw [Nat.add_sub_cancel] at hown2
  obtain ⟨qt, ct, rfl, htc, htm, ht⟩ := own_byq hown2
  replace hb := hb.on hb2
  replace hs := hs.on hb2
  replace H := after H hb2
  clear hb2 hown hown2
  go_wp2_with fail
  refine (of_c qs (m + 2) cs (putF F m) hsc hsm _ hs).mono ?_
  rintro e w3 ⟨rfl, hb3⟩
  rw [put_zero, show n16 0#16 = 0 by decide]
  replace hb := hb.on hb3
  replace ht := ht.on hb3
  replace H := after H hb3
  clear hb3
  go_wp2_with fail
  refine (same_t qt m ct (putF F m) q c F (fun i hi => by simp [putF, cat, hi]) _ ht hb).mono ?_
  rintro e w4 ⟨rfl, rfl⟩
  go_wp2_with fail
  refine (lives7_c _).mono ?_; rintro e w1 ⟨rfl, hb4⟩
  go_wp2_with fail
  go_returns
  exact ⟨rfl, by (repeat' (first | (with_reducible exact Below.refl _ _) | (with_reducible assumption) | (with_reducible refine Below.alloc ?_ ?_ _) | (with_reducible refine Below.drew ?_) | (with_reducible refine Below.setCell ?_ ?_ _) | (with_reducible refine after ?_ (below_regrown _ _ _)) | (refine after ?_ (by with_reducible assumption)) | go_size))⟩
set_option maxRecDepth 100000 in
theorem crcZero_lifted (os : Os) (started : os.Started) (H : Type) (enc : TypeId × Value → H) :
    ReturnsInHanded {} Try.checked os 7 .any (Rows.crcZeroSpec.pre6 enc Try.prog Try.f7 Rows.crcZeroRow.domain false) (Rows.crcZeroSpec.post enc Try.prog Try.f7 false true false false) := by
  refine returnsInHanded_of_change (C := Try.checked) own started (by kernel_rfl) Try.func7
    (ChangeSpec.witness6 (enc := enc) (C := Try.checked) false ⟨#[], #[.slice none 0 0], []⟩ 8 (by kernel_rfl) (by kernel_rfl) (by kernel_rfl) (by kernel_rfl)) ?_
  intro W base args ds gs before hval0 hW hcnd hsz
  have hval : ∀ (j : Nat) t v, Try.f7.params[j]? = some t → args[j]? = some v → Value.okWide Try.prog W .any base t v := hval0
  have hW' := hW
  obtain ⟨p, q, hA0, hV, rfl, hfz, hnd⟩ := hW
  have hA : DataW.TrodAll enc Try.prog W 0 (fun _ => true) true Try.f7.params.toList args.toList ds p := hA0
  rw [Try.params7] at hA hval
  obtain ⟨v0, vs0, d0, ds0, p_0, q_0, hargs, rfl, rfl, h0, r_0⟩ := trodAll_cons hA
  obtain ⟨rfl, rfl, rfl⟩ := trodAll_nil r_0
  obtain rfl : args = #[v0] := by cases args; simp_all
  obtain ⟨rfl, rfl⟩ := trodVars_none hV
  obtain ⟨A0, n0, k0, l0, rfl, b0, c0, e0⟩ := open_bytes Try.underlying22 Try.underlying5 (by kernel_rfl) (hval 0 22 v0 rfl rfl) h0
  refine (crcZero_w A0 n0 k0 l0 b0 c0 W e0).mono fun e W' ⟨he, hb⟩ => ?_
  subst he
  exact ⟨_, rfl, law_post laidOut (by kernel_rfl) rfl (by kernel_rfl) Try.underlying4 hW' rfl rfl rfl hb⟩

/-- The statement. -/
theorem crcZero_proved : Rows.CrcZeroSaid :=
  OpenClaim.holds_of_wide 7 Try.f7 rfl rfl rfl rfl rfl rfl rfl ⟨rfl, rfl, rfl, rfl, rfl⟩ rfl rfl rfl rfl rfl (by kernel_rfl) Try.func7 (by kernel_rfl)
    (of_decide_eq_true (by kernel_rfl)) (by unfold Func.isWrapper; first | (rw [if_pos (by decide +kernel)]; kernel_rfl) | (rw [if_neg (by decide +kernel)]; exact ⟨rfl, rfl⟩))
    (fun os started H enc _ => crcZero_lifted os started H enc)
end Go.Proofs.Ytpmkeocknlhhkaa
