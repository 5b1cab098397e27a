/- FixedToward holds, for any ints. -/
import Derived.Test.YtkfedmgodhkfgaaLives
import Derived.Test.YtkfedmgodhkfgaaFix3
import Derived.Test.YtkfedmgodhkfgaaShut
namespace Go.Proofs.Ytkfedmgodhkfgaa
open Go.ChangeShapes Go.WideShapes Go.ChangeAt Go.RowKit

theorem tow_p (n to b : Int) : min (cutI n) (cutI to) ≤ towI n to b ∧ towI n to b ≤ max (cutI n) (cutI to) := by
  unfold towI
  have h1 := cutI_lo n
  have h2 := cutI_hi n
  omega
theorem tow_far (n to : Int) : (towI n to 9223372036854775807 = cutI to) ↔ ¬ (140737488355328 < cutI n - cutI to ∨ 140737488355328 < cutI to - cutI n) := by
  unfold towI
  have e : cutI 9223372036854775807 = 140737488355328 := by decide
  rw [e]
  omega
set_option maxHeartbeats 1000000 in
theorem toward_c (n : Int) (_ : In64 n) (to : Int) (_ : In64 to) (b : Int) (_ : In64 b) (w : World) : Calls Try.prog 5 #[.int .i64 n, .int .i64 to, .int .i64 b] w fun e w' => e = .returned (.bool true) ∧ Below w.heap.size w w' := by
  have h1 := cutI_lo n
  have h2 := cutI_hi n
  have h3 := cutI_lo to
  have h4 := cutI_hi to
  have t := tow_p n to b
  have f := tow_far n to
  by_cases g1 : 140737488355328 < cutI n - cutI to
  · have t1 : (towI n to 9223372036854775807 == cutI to) = false := by simp; rw [f]; omega
    clear f
    go_enter Try.func5, Try.ntmps5
    go_wp2_with fail
    refine (ftoward_c _ _ _ _).mono ?_; rintro e w1 ⟨rfl, rfl⟩
    go_wp2_with fail
    refine (rcut_c _ _).mono ?_; rintro e w1 ⟨rfl, rfl⟩
    go_wp2_with fail
    refine (rcut_c _ _).mono ?_; rintro e w1 ⟨rfl, rfl⟩
    go_wp2_with fail
    refine (ftoward_c _ _ _ _).mono ?_; rintro e w1 ⟨rfl, rfl⟩
    go_wp2_with fail
    refine (rtoward_c _ _ _ _).mono ?_; rintro e w1 ⟨rfl, rfl⟩
    go_wp2_with fail
    refine (lives_c _).mono ?_; rintro e w1 ⟨rfl, hb⟩
    go_wp2_with fail
    go_returns
    exact ⟨rfl, hb⟩
  by_cases g2 : 140737488355328 < cutI to - cutI n
  · have t1 : (towI n to 9223372036854775807 == cutI to) = false := by simp; rw [f]; omega
    clear f
    go_enter Try.func5, Try.ntmps5
    go_wp2_with fail
    refine (ftoward_c _ _ _ _).mono ?_; rintro e w1 ⟨rfl, rfl⟩
    go_wp2_with fail
    refine (rcut_c _ _).mono ?_; rintro e w1 ⟨rfl, rfl⟩
    go_wp2_with fail
    refine (rcut_c _ _).mono ?_; rintro e w1 ⟨rfl, rfl⟩
    go_wp2_with fail
    refine (ftoward_c _ _ _ _).mono ?_; rintro e w1 ⟨rfl, rfl⟩
    go_wp2_with fail
    refine (rtoward_c _ _ _ _).mono ?_; rintro e w1 ⟨rfl, rfl⟩
    go_wp2_with fail
    refine (lives_c _).mono ?_; rintro e w1 ⟨rfl, hb⟩
    go_wp2_with fail
    go_returns
    exact ⟨rfl, hb⟩
  · have t1 : (towI n to 9223372036854775807 == cutI to) = true := by simp; rw [f]; omega
    have t2 : decide (140737488355328 < cutI n - cutI to) = false := by simpa using g1
    have t3 : decide (140737488355328 < cutI to - cutI n) = false := by simpa using g2
    clear f g1 g2
    rcases (show (cutI n < cutI to) ∨ (cutI to < cutI n) ∨ (cutI n ≤ cutI to ∧ cutI to ≤ cutI n) by omega) with k | k | ⟨k, k2⟩
    all_goals
      go_enter Try.func5, Try.ntmps5
      go_wp2_with fail
      refine (ftoward_c _ _ _ _).mono ?_; rintro e w1 ⟨rfl, rfl⟩
      go_wp2_with fail
      refine (rcut_c _ _).mono ?_; rintro e w1 ⟨rfl, rfl⟩
      go_wp2_with fail
      refine (rcut_c _ _).mono ?_; rintro e w1 ⟨rfl, rfl⟩
      go_wp2_with fail
      refine (ftoward_c _ _ _ _).mono ?_; rintro e w1 ⟨rfl, rfl⟩
      go_wp2_with fail
      refine (rtoward_c _ _ _ _).mono ?_; rintro e w1 ⟨rfl, rfl⟩
      go_wp2_with fail
      refine (lives_c _).mono ?_; rintro e w1 ⟨rfl, hb⟩
      go_wp2_with fail
      go_returns
      exact ⟨rfl, hb⟩

set_option maxRecDepth 100000 in
theorem fixedToward_lifted (os : Os) (started : os.Started) (H : Type) (enc : TypeId × Value → H) :
    ReturnsInHanded {} Try.checked os 5 .any (Rows.fixedTowardSpec.pre6 enc Try.prog Try.f5 Rows.fixedTowardRow.domain false) (Rows.fixedTowardSpec.post enc Try.prog Try.f5 false true false false) := by
  refine returnsInHanded_of_change (C := Try.checked) own started (by kernel_rfl) Try.func5
    (ChangeSpec.witness6 (enc := enc) (C := Try.checked) false ⟨#[], #[.int .i64 0, .int .i64 0, .int .i64 0], []⟩ 8 (by kernel_rfl) (by kernel_rfl) (by kernel_rfl) (by kernel_rfl)) ?_
  intro W base args ds gs before hval0 hW hcnd hsz
  have hval : ∀ (j : Nat) t v, Try.f5.params[j]? = some t → args[j]? = some v → Value.okWide Try.prog W .any base t v := hval0
  have hW' := hW
  obtain ⟨p, q, hA0, hV, rfl, hfz, hnd⟩ := hW
  have hA : DataW.TrodAll enc Try.prog W 0 (fun _ => true) true Try.f5.params.toList args.toList ds p := hA0
  rw [Try.params5] at hA hval
  obtain ⟨v0, vs0, d0, ds0, p_0, q_0, hargs, rfl, rfl, h0, r_0⟩ := trodAll_cons hA
  obtain ⟨v1, vs1, d1, ds1, p_1, q_1, rfl, rfl, rfl, h1, r_1⟩ := trodAll_cons r_0
  obtain ⟨v2, vs2, d2, ds2, p_2, q_2, rfl, rfl, rfl, h2, r_2⟩ := trodAll_cons r_1
  obtain ⟨rfl, rfl, rfl⟩ := trodAll_nil r_2
  obtain rfl : args = #[v0, v1, v2] := by cases args; simp_all
  obtain ⟨rfl, rfl⟩ := trodVars_none hV
  obtain ⟨a0, rfl, rfl, rfl, w0⟩ := open_int Try.underlying3 (hval 0 3 v0 rfl rfl) h0
  obtain ⟨a1, rfl, rfl, rfl, w1⟩ := open_int Try.underlying3 (hval 1 3 v1 rfl rfl) h1
  obtain ⟨a2, rfl, rfl, rfl, w2⟩ := open_int Try.underlying3 (hval 2 3 v2 rfl rfl) h2
  refine (toward_c a0 (in64_of_wf w0) a1 (in64_of_wf w1) a2 (in64_of_wf w2) W).mono fun e W' ⟨he, hb⟩ => ?_
  subst he
  exact ⟨_, rfl, law_post laidOut (by kernel_rfl) rfl (by kernel_rfl) Try.underlying4 hW' rfl rfl rfl hb⟩

/-- The statement. -/
theorem fixedToward_proved : Rows.FixedTowardSaid :=
  OpenClaim.holds_of_wide 5 Try.f5 rfl rfl rfl rfl rfl rfl rfl ⟨rfl, rfl, rfl, rfl, rfl⟩ rfl rfl rfl rfl rfl (by kernel_rfl) Try.func5 (by kernel_rfl)
    (of_decide_eq_true (by kernel_rfl)) (by unfold Func.isWrapper; first | (rw [if_pos (by decide +kernel)]; kernel_rfl) | (rw [if_neg (by decide +kernel)]; exact ⟨rfl, rfl⟩))
    (fun os started H enc _ => fixedToward_lifted os started H enc)
end Go.Proofs.Ytkfedmgodhkfgaa
