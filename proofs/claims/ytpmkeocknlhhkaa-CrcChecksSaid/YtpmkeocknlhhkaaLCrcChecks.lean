/- CrcChecks holds: for any two pieces. -/
import Derived.Test.YtpmkeocknlhhkaaCrc4
namespace Go.Proofs.Ytpmkeocknlhhkaa
open Go.ChangeShapes Go.WideShapes Go.ChangeAt Go.RowKit

set_option maxHeartbeats 4000000 in
theorem crcChecks_w (q1 : Option Addr) (n1 c1 : Nat) (F : Nat → B8) (h1 : n1 ≤ c1) (m1 : c1 ≤ maxLen) (q2 : Option Addr) (n2 c2 : Nat) (G : Nat → B8) (h2 : n2 ≤ c2) (m2 : c2 ≤ maxLen) (w : World) (b1 : Byq w q1 n1 F) (b2 : Byq w q2 n2 G) :
    Calls Try.prog 4 #[.slice q1 n1 c1, .slice q2 n2 c2] w fun r w' => r = .returned (.bool true) ∧ Below w.heap.size w w' := by
  replace b1 := b1.le (Nat.min_le_left n1 100)
  replace b2 := b2.le (Nat.min_le_left n2 100)
  have l1 : min n1 100 ≤ c1 := Nat.le_trans (Nat.min_le_left _ _) h1
  have l2 : min n2 100 ≤ c2 := Nat.le_trans (Nat.min_le_left _ _) h2
  go_enter Try.func4, Try.ntmps4
  go_wp2_with fail
  refine (few_c q1 n1 c1 100 h1 _).mono ?_
  rintro e w1 ⟨rfl, rfl⟩
  generalize min n1 100 = k1 at *
  go_wp2_with fail
  refine (few_c q2 n2 c2 100 h2 _).mono ?_
  rintro e w1 ⟨rfl, rfl⟩
  generalize min n2 100 = k2 at *
  clear h1 h2
  go_wp2_with fail
  refine (of_c q1 k1 c1 F l1 m1 _ b1).mono ?_; rintro e w1 ⟨rfl, H⟩
  replace b1 := b1.on H
  replace b2 := b2.on H
  have R1 := fun w hw => rof_c q1 k1 c1 F l1 m1 w hw
  generalize crcO F k1 = cF at *
  go_wp2_with fail
  refine (with_c cF q2 k2 c2 G l2 m2 _ b2).mono ?_
  rintro e w2 ⟨rfl, hb⟩
  replace b1 := b1.on hb
  replace b2 := b2.on hb
  replace H := after H hb
  clear hb
  have R2 := fun w hw => rsum_c cF q2 k2 c2 G l2 m2 w hw
  generalize crcN cF G k2 = d at *
  go_wp2_with fail
  refine (bytes_c d _).mono ?_; rintro e w1 ⟨rfl, hb⟩
  replace b1 := b1.on hb
  replace b2 := b2.on hb
  replace H := after H hb
  clear hb
  have e1 := two_bytes d
  obtain ⟨x0, x1⟩ := n8_lt ((d >>> 8).setWidth 8)
  obtain ⟨y0, y1⟩ := n8_lt (d.setWidth 8)
  obtain ⟨f0, f1⟩ := n16_lt cF
  obtain ⟨d0, d1⟩ := n16_lt d
  generalize n8 ((d >>> 8).setWidth 8) = x at *
  generalize n8 (d.setWidth 8) = y at *
  go_upto_region 6 with (fail)
  obtain ⟨W1, hW⟩ : ∃ W1, W1 = w1.alloc (.cells #[.int .u8 x, .int .u8 y] 31) := ⟨_, rfl⟩
  rw [← hW]
  have C := Blk.fresh hW
  have hb1 : Below w1.heap.size w1 W1 := by rw [hW]; exact (Below.refl _ _).alloc (Nat.le_refl _) _
  replace b1 := b1.on hb1
  replace b2 := b2.on hb1
  replace H := after H hb1
  clear hW hb1
  generalize w1.heap.size = nt at *
  have t0 := C.cell 0
  have t1 := C.cell 1
  generalize n16 cF = zF at *
  generalize n16 d = zd at *
  replace e1 : Hid (x * 256 + y = zd) := e1
  go_wp2_with fail
  refine (R1 _ b1).mono ?_; rintro e w1 ⟨rfl, rfl⟩
  go_wp2_with fail
  refine (R2 _ b2).mono ?_; rintro e w1 ⟨rfl, rfl⟩
  go_wp2_with fail
  refine (start_c _).mono ?_; rintro e w1 ⟨rfl, rfl⟩
  rw [← first16]
  replace e1 := e1.out
  go_wp2_with fail
  refine (lives7_c _).mono ?_; rintro e w1 ⟨rfl, hb⟩
  go_wp2_with fail
  go_returns
  exact ⟨rfl, by (repeat' (first | (with_reducible exact Below.refl _ _) | (with_reducible assumption) | (with_reducible refine Below.alloc ?_ ?_ _) | (with_reducible refine Below.drew ?_) | (with_reducible refine Below.setCell ?_ ?_ _) | (with_reducible refine after ?_ (below_regrown _ _ _)) | (refine after ?_ (by with_reducible assumption)) | go_size))⟩
set_option maxRecDepth 100000 in
theorem crcChecks_lifted (os : Os) (started : os.Started) (H : Type) (enc : TypeId × Value → H) :
    ReturnsInHanded {} Try.checked os 4 .any (Rows.crcChecksSpec.pre6 enc Try.prog Try.f4 Rows.crcChecksRow.domain false) (Rows.crcChecksSpec.post enc Try.prog Try.f4 false true false false) := by
  refine returnsInHanded_of_change (C := Try.checked) own started (by kernel_rfl) Try.func4
    (ChangeSpec.witness6 (enc := enc) (C := Try.checked) false ⟨#[], #[.slice none 0 0, .slice none 0 0], []⟩ 8 (by kernel_rfl) (by kernel_rfl) (by kernel_rfl) (by kernel_rfl)) ?_
  intro W base args ds gs before hval0 hW hcnd hsz
  have hval : ∀ (j : Nat) t v, Try.f4.params[j]? = some t → args[j]? = some v → Value.okWide Try.prog W .any base t v := hval0
  have hW' := hW
  obtain ⟨p, q, hA0, hV, rfl, hfz, hnd⟩ := hW
  have hA : DataW.TrodAll enc Try.prog W 0 (fun _ => true) true Try.f4.params.toList args.toList ds p := hA0
  rw [Try.params4] at hA hval
  obtain ⟨v0, vs0, d0, ds0, p_0, q_0, hargs, rfl, rfl, h0, r_0⟩ := trodAll_cons hA
  obtain ⟨v1, vs1, d1, ds1, p_1, q_1, rfl, rfl, rfl, h1, r_1⟩ := trodAll_cons r_0
  obtain ⟨rfl, rfl, rfl⟩ := trodAll_nil r_1
  obtain rfl : args = #[v0, v1] := by cases args; simp_all
  obtain ⟨rfl, rfl⟩ := trodVars_none hV
  obtain ⟨A0, n0, k0, l0, rfl, b0, c0, e0⟩ := open_bytes Try.underlying22 Try.underlying5 (by kernel_rfl) (hval 0 22 v0 rfl rfl) h0
  obtain ⟨A1, n1, k1, l1, rfl, b1, c1, e1⟩ := open_bytes Try.underlying22 Try.underlying5 (by kernel_rfl) (hval 1 22 v1 rfl rfl) h1
  refine (crcChecks_w A0 n0 k0 l0 b0 c0 A1 n1 k1 l1 b1 c1 W e0 e1).mono fun e W' ⟨he, hb⟩ => ?_
  subst he
  exact ⟨_, rfl, law_post laidOut (by kernel_rfl) rfl (by kernel_rfl) Try.underlying4 hW' rfl rfl rfl hb⟩

/-- The statement. -/
theorem crcChecks_proved : Rows.CrcChecksSaid :=
  OpenClaim.holds_of_wide 4 Try.f4 rfl rfl rfl rfl rfl rfl rfl ⟨rfl, rfl, rfl, rfl, rfl⟩ rfl rfl rfl rfl rfl (by kernel_rfl) Try.func4 (by kernel_rfl)
    (of_decide_eq_true (by kernel_rfl)) (by unfold Func.isWrapper; first | (rw [if_pos (by decide +kernel)]; kernel_rfl) | (rw [if_neg (by decide +kernel)]; exact ⟨rfl, rfl⟩))
    (fun os started H enc _ => crcChecks_lifted os started H enc)
end Go.Proofs.Ytpmkeocknlhhkaa
