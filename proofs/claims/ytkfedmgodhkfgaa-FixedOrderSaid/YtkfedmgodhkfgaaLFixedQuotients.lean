/- FixedQuotients holds, for any ints. -/
import Derived.Test.YtkfedmgodhkfgaaLives
import Derived.Test.YtkfedmgodhkfgaaFix3
import Derived.Test.YtkfedmgodhkfgaaShut
namespace Go.Proofs.Ytkfedmgodhkfgaa
open Go.ChangeShapes Go.WideShapes Go.ChangeAt Go.RowKit

theorem fdiv_y (a b : Int) (h : cutI b ≠ 0) (w : World) : Calls Try.prog 24 #[.int .i64 a, .int .i64 b] w fun e w' => e = .returned (.tuple #[.int .i64 (quoI a b), .int .i64 0]) ∧ Below w.heap.size w w' :=
  (fdiv_c a b w).mono fun _ _ ⟨_, h2, h3⟩ => ⟨h2 h, h3⟩
theorem fdiv_n (a b : Int) (h : cutI b = 0) (w : World) : Calls Try.prog 24 #[.int .i64 a, .int .i64 b] w fun e w' => e = .returned (.tuple #[.int .i64 0, .int .i64 1]) ∧ Below w.heap.size w w' :=
  (fdiv_c a b w).mono fun _ _ ⟨h1, _, h3⟩ => ⟨h1 h, h3⟩
theorem cutI_le {n : Int} (h : n ≤ -140737488355328) : cutI n = -140737488355328 := by unfold cutI; omega
/-- By what is above 0: the quotient, rounded down. -/
theorem quoI_pos (a b : Int) (h : 0 < cutI b) : quoI a b = cutI (cutI a * 65536 / cutI b) := by
  have e0 : absI (cutI b) = cutI b := by unfold absI; rw [if_neg (by omega)]
  have e1 : decide (cutI b < 0) = false := by simp; omega
  unfold quoI
  rw [e0, e1]
  have hb := cutI_hi b
  have ha := cutI_lo a
  generalize cutI a = u at *
  generalize cutI b = v at *
  by_cases hu : u < 0
  · have e2 : absI u = -u := by unfold absI; rw [if_pos hu]
    rw [e2, show decide (u < 0) = true by simp [hu]]
    have h1 := ediv_bd (-u * 65536) v h
    have h2 := Int.emod_nonneg (-u * 65536) (show v ≠ 0 by omega)
    have h3 := Int.mul_ediv_add_emod (-u * 65536) v
    have key : ∀ q : Int, v * q ≤ u * 65536 → u * 65536 < v * q + v → u * 65536 / v = q := by
      intro q hq hq2
      exact (Int.ediv_eq_iff_of_pos h).2 ⟨by rw [Int.mul_comm q v]; exact hq, by rw [Int.mul_comm q v]; exact hq2⟩
    generalize hX : -u * 65536 = X at *
    have hX0 : 0 ≤ X / v := Int.ediv_nonneg (by omega) (by omega)
    by_cases hr : X % v = 0
    · have k := key (-(X / v)) (by rw [Int.mul_neg]; omega) (by rw [Int.mul_neg]; omega)
      have e3 : (X % v != 0) = false := by simp [hr]
      rw [k, e3]
      by_cases hq : 140737488355328 ≤ X / v
      · rw [cutI_le (by omega)]; simp [rndI, hq]
      · rw [cutI_id (by omega) (by omega)]; simp [rndI, upI, hq]
    · have k := key (-(X / v) - 1) (by rw [Int.mul_sub, Int.mul_neg]; omega) (by rw [Int.mul_sub, Int.mul_neg]; omega)
      have e3 : (X % v != 0) = true := by simp [hr]
      rw [k, e3]
      by_cases hq : 140737488355328 ≤ X / v
      · rw [cutI_le (by omega)]; simp [rndI, hq]
      · rw [cutI_id (by omega) (by omega)]; simp [rndI, upI, hq]; omega
  · have e2 : absI u = u := by unfold absI; rw [if_neg hu]
    rw [e2, show decide (u < 0) = false by simp; omega]
    have := Int.ediv_nonneg (a := u * 65536) (b := v) (by omega) (by omega)
    unfold rndI upI cutI
    simp
    omega
theorem quoI_one (a : Int) : quoI a 65536 = cutI a := by
  have e : cutI 65536 = 65536 := by decide
  rw [quoI_pos a 65536 (by rw [e]; decide), e, Int.mul_ediv_cancel _ (by decide), cutI_cut]
set_option maxHeartbeats 1000000 in
theorem quotients_c (a : Int) (_ : In64 a) (b : Int) (_ : In64 b) (w : World) : Calls Try.prog 7 #[.int .i64 a, .int .i64 b] w fun e w' => e = .returned (.bool true) ∧ Below w.heap.size w w' := by
  by_cases h : b = 0
  · subst h
    go_enter Try.func7, Try.ntmps7
    go_wp2_with fail
    refine (fdiv_n _ _ (by decide) _).mono ?_; rintro e w1 ⟨rfl, hb1⟩
    go_wp2_with fail
    refine (lives_c _).mono ?_; rintro e w1 ⟨rfl, hb2⟩
    go_wp2_with fail
    go_returns
    exact ⟨rfl, after hb1 hb2⟩
  · have hc : cutI b ≠ 0 := by unfold cutI; omega
    have t0 : (b == 0) = false := by simpa using h
    have t1 : (quoI a 65536 == cutI a) = true := by rw [quoI_one]; simp
    have Hc := Lib.hid hc
    clear hc h
    go_enter Try.func7, Try.ntmps7
    go_wp2_with fail
    refine (fdiv_y _ _ Hc.out _).mono ?_; rintro e w1 ⟨rfl, hb1⟩
    go_wp2_with fail
    refine (fdiv_y _ _ (by decide) _).mono ?_; rintro e w1 ⟨rfl, hb2⟩
    go_wp2_with fail
    refine (quotient_c _ _ Hc.out _).mono ?_; rintro e w1 ⟨rfl, rfl⟩
    go_wp2_with fail
    refine (rcut_c _ _).mono ?_; rintro e w1 ⟨rfl, rfl⟩
    go_wp2_with fail
    refine (lives_c _).mono ?_; rintro e w1 ⟨rfl, hb3⟩
    go_wp2_with fail
    go_returns
    exact ⟨rfl, after (after hb1 hb2) hb3⟩

set_option maxRecDepth 100000 in
theorem fixedQuotients_lifted (os : Os) (started : os.Started) (H : Type) (enc : TypeId × Value → H) :
    ReturnsInHanded {} Try.checked os 7 .any (Rows.fixedQuotientsSpec.pre6 enc Try.prog Try.f7 Rows.fixedQuotientsRow.domain false) (Rows.fixedQuotientsSpec.post enc Try.prog Try.f7 false true false false) := by
  refine returnsInHanded_of_change (C := Try.checked) own started (by kernel_rfl) Try.func7
    (ChangeSpec.witness6 (enc := enc) (C := Try.checked) false ⟨#[], #[.int .i64 0, .int .i64 0], []⟩ 8 (by kernel_rfl) (by kernel_rfl) (by kernel_rfl) (by kernel_rfl)) ?_
  intro W base args ds gs before hval0 hW hcnd hsz
  have hval : ∀ (j : Nat) t v, Try.f7.params[j]? = some t → args[j]? = some v → Value.okWide Try.prog W .any base t v := hval0
  have hW' := hW
  obtain ⟨p, q, hA0, hV, rfl, hfz, hnd⟩ := hW
  have hA : DataW.TrodAll enc Try.prog W 0 (fun _ => true) true Try.f7.params.toList args.toList ds p := hA0
  rw [Try.params7] at hA hval
  obtain ⟨v0, vs0, d0, ds0, p_0, q_0, hargs, rfl, rfl, h0, r_0⟩ := trodAll_cons hA
  obtain ⟨v1, vs1, d1, ds1, p_1, q_1, rfl, rfl, rfl, h1, r_1⟩ := trodAll_cons r_0
  obtain ⟨rfl, rfl, rfl⟩ := trodAll_nil r_1
  obtain rfl : args = #[v0, v1] := by cases args; simp_all
  obtain ⟨rfl, rfl⟩ := trodVars_none hV
  obtain ⟨a0, rfl, rfl, rfl, w0⟩ := open_int Try.underlying3 (hval 0 3 v0 rfl rfl) h0
  obtain ⟨a1, rfl, rfl, rfl, w1⟩ := open_int Try.underlying3 (hval 1 3 v1 rfl rfl) h1
  refine (quotients_c a0 (in64_of_wf w0) a1 (in64_of_wf w1) W).mono fun e W' ⟨he, hb⟩ => ?_
  subst he
  exact ⟨_, rfl, law_post laidOut (by kernel_rfl) rfl (by kernel_rfl) Try.underlying4 hW' rfl rfl rfl hb⟩

/-- The statement. -/
theorem fixedQuotients_proved : Rows.FixedQuotientsSaid :=
  OpenClaim.holds_of_wide 7 Try.f7 rfl rfl rfl rfl rfl rfl rfl ⟨rfl, rfl, rfl, rfl, rfl⟩ rfl rfl rfl rfl rfl (by kernel_rfl) Try.func7 (by kernel_rfl)
    (of_decide_eq_true (by kernel_rfl)) (by unfold Func.isWrapper; first | (rw [if_pos (by decide +kernel)]; kernel_rfl) | (rw [if_neg (by decide +kernel)]; exact ⟨rfl, rfl⟩))
    (fun os started H enc _ => fixedQuotients_lifted os started H enc)
end Go.Proofs.Ytkfedmgodhkfgaa
