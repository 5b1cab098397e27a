/- FixedProducts holds: for any two ints. -/
import Derived.Test.YtkfedmgodhkfgaaLives
import Derived.Test.YtkfedmgodhkfgaaShut
namespace Go.Proofs.Ytkfedmgodhkfgaa
open Go.ChangeShapes Go.WideShapes Go.ChangeAt Go.RowKit

theorem mulI_comm (a b : Int) : mulI a b = mulI b a := by unfold mulI; rw [Int.mul_comm]
theorem mulI_one (a : Int) : mulI a 65536 = cutI a := by
  have h : cutI 65536 = 65536 := by decide
  unfold mulI
  rw [h, Int.mul_ediv_cancel _ (by decide), cutI_cut]
theorem mulI_zero (a : Int) : mulI a 0 = 0 := by
  have h : cutI 0 = 0 := by decide
  unfold mulI
  rw [h, Int.mul_zero]
  decide

set_option maxHeartbeats 1000000 in
theorem products_c (a : Int) (_ : In64 a) (b : Int) (_ : In64 b) (w : World) : Calls Try.prog 3 #[.int .i64 a, .int .i64 b] w fun e w' => e = .returned (.bool true) ∧ Below w.heap.size w w' := by
  have t1 : (mulI b a == mulI a b) = true := by rw [mulI_comm]; simp
  have t2 : (mulI a 65536 == cutI a) = true := by rw [mulI_one]; simp
  have t3 : (mulI a 0 == 0) = true := by rw [mulI_zero]; rfl
  go_enter Try.func3, Try.ntmps3
  go_wp2_with fail
  refine (fmul_c _ _ _).mono ?_; rintro e w1 ⟨rfl, hb1⟩
  go_wp2_with fail
  refine (rmul_c _ _ _).mono ?_; rintro e w2 ⟨rfl, rfl⟩
  go_wp2_with fail
  refine (fmul_c _ _ _).mono ?_; rintro e w3 ⟨rfl, hb3⟩
  go_wp2_with fail
  refine (fmul_c _ _ _).mono ?_; rintro e w4 ⟨rfl, hb4⟩
  go_wp2_with fail
  refine (rcut_c _ _).mono ?_; rintro e w5 ⟨rfl, rfl⟩
  go_wp2_with fail
  refine (fmul_c _ _ _).mono ?_; rintro e w6 ⟨rfl, hb6⟩
  go_wp2_with fail
  refine (lives_c _).mono ?_; rintro e w7 ⟨rfl, hb7⟩
  go_wp2_with fail
  go_returns
  exact ⟨rfl, after (after (after (after hb1 hb3) hb4) hb6) hb7⟩

set_option maxRecDepth 100000 in
theorem fixedProducts_lifted (os : Os) (started : os.Started) (H : Type) (enc : TypeId × Value → H) :
    ReturnsInHanded {} Try.checked os 3 .any (Rows.fixedProductsSpec.pre6 enc Try.prog Try.f3 Rows.fixedProductsRow.domain false) (Rows.fixedProductsSpec.post enc Try.prog Try.f3 false true false false) := by
  refine returnsInHanded_of_change (C := Try.checked) own started (by kernel_rfl) Try.func3
    (ChangeSpec.witness6 (enc := enc) (C := Try.checked) false ⟨#[], #[.int .i64 0, .int .i64 0], []⟩ 8 (by kernel_rfl) (by kernel_rfl) (by kernel_rfl) (by kernel_rfl)) ?_
  intro W base args ds gs before hval0 hW hcnd hsz
  have hval : ∀ (j : Nat) t v, Try.f3.params[j]? = some t → args[j]? = some v → Value.okWide Try.prog W .any base t v := hval0
  have hW' := hW
  obtain ⟨p, q, hA0, hV, rfl, hfz, hnd⟩ := hW
  have hA : DataW.TrodAll enc Try.prog W 0 (fun _ => true) true Try.f3.params.toList args.toList ds p := hA0
  rw [Try.params3] at hA hval
  obtain ⟨v0, vs0, d0, ds0, p_0, q_0, hargs, rfl, rfl, h0, r_0⟩ := trodAll_cons hA
  obtain ⟨v1, vs1, d1, ds1, p_1, q_1, rfl, rfl, rfl, h1, r_1⟩ := trodAll_cons r_0
  obtain ⟨rfl, rfl, rfl⟩ := trodAll_nil r_1
  obtain rfl : args = #[v0, v1] := by cases args; simp_all
  obtain ⟨rfl, rfl⟩ := trodVars_none hV
  obtain ⟨a0, rfl, rfl, rfl, w0⟩ := open_int Try.underlying3 (hval 0 3 v0 rfl rfl) h0
  obtain ⟨a1, rfl, rfl, rfl, w1⟩ := open_int Try.underlying3 (hval 1 3 v1 rfl rfl) h1
  refine (products_c a0 (in64_of_wf w0) a1 (in64_of_wf w1) W).mono fun e W' ⟨he, hb⟩ => ?_
  subst he
  exact ⟨_, rfl, law_post laidOut (by kernel_rfl) rfl (by kernel_rfl) Try.underlying4 hW' rfl rfl rfl hb⟩

/-- The statement. -/
theorem fixedProducts_proved : Rows.FixedProductsSaid :=
  OpenClaim.holds_of_wide 3 Try.f3 rfl rfl rfl rfl rfl rfl rfl ⟨rfl, rfl, rfl, rfl, rfl⟩ rfl rfl rfl rfl rfl (by kernel_rfl) Try.func3 (by kernel_rfl)
    (of_decide_eq_true (by kernel_rfl)) (by unfold Func.isWrapper; first | (rw [if_pos (by decide +kernel)]; kernel_rfl) | (rw [if_neg (by decide +kernel)]; exact ⟨rfl, rfl⟩))
    (fun os started H enc _ => fixedProducts_lifted os started H enc)
end Go.Proofs.Ytkfedmgodhkfgaa
