/- FixedFloors holds, for any ints. -/
import Derived.Test.YtkfedmgodhkfgaaLives
import Derived.Test.YtkfedmgodhkfgaaFix3
import Derived.Test.YtkfedmgodhkfgaaShut
namespace Go.Proofs.Ytkfedmgodhkfgaa
open Go.ChangeShapes Go.WideShapes Go.ChangeAt Go.RowKit

set_option maxHeartbeats 1000000 in
theorem floors_c (n : Int) (_ : In64 n) (cell : Int) (_ : In64 cell) (w : World) : Calls Try.prog 4 #[.int .i64 n, .int .i64 cell] w fun e w' => e = .returned (.bool true) ∧ Below w.heap.size w w' := by
  have h1 := cutI_lo n
  have h2 := cutI_hi n
  have c : ∃ own, -2147483648 ≤ own ∧ own ≤ 2147483648 ∧ ofI cell = own * 65536 ∧ min (max cell (-2147483648)) 2147483648 = own := ⟨_, by omega, by omega, rfl, rfl⟩
  obtain ⟨own, o1, o2, o3, o4⟩ := c
  have o5 : cutI (own * 65536) / 65536 = own := by rw [cutI_id (by omega) (by omega)]; omega
  have o6 : cutI (own * 65536) % 65536 = 0 := by rw [cutI_id (by omega) (by omega)]; omega
  have O3 := Lib.hid o3
  have O5 := Lib.hid o5
  have O6 := Lib.hid o6
  clear o3 o5 o6
  rcases (show cell < -2147483648 ∧ own = -2147483648 ∨ 2147483648 < cell ∧ own = 2147483648 ∨ -2147483648 ≤ cell ∧ cell ≤ 2147483648 ∧ own = cell by omega) with ⟨g1, rfl⟩ | ⟨g1, rfl⟩ | ⟨g1, g2, rfl⟩
  all_goals
    clear o4
    go_enter Try.func4, Try.ntmps4
    go_wp2_with fail
    refine (rcut_c _ _).mono ?_; rintro e w1 ⟨rfl, rfl⟩
    go_wp2_with fail
    refine (floor_c _ _).mono ?_; rintro e w1 ⟨rfl, rfl⟩
    go_wp2_with fail
    refine (frac_c _ _).mono ?_; rintro e w1 ⟨rfl, rfl⟩
    go_wp2_with fail
    refine (of_e _ _ O3.out _).mono ?_; rintro e w1 ⟨rfl, rfl⟩
    go_wp2_with fail
    refine (of_e _ _ O3.out _).mono ?_; rintro e w1 ⟨rfl, rfl⟩
    go_wp2_with fail
    refine (floor_e _ _ O5.out _).mono ?_; rintro e w1 ⟨rfl, rfl⟩
    go_wp2_with fail
    refine (of_e _ _ O3.out _).mono ?_; rintro e w1 ⟨rfl, rfl⟩
    go_wp2_with fail
    refine (frac_e _ _ O6.out _).mono ?_; rintro e w1 ⟨rfl, rfl⟩
    go_wp2_with fail
    refine (lives_c _).mono ?_; rintro e w1 ⟨rfl, hb⟩
    go_wp2_with fail
    go_returns
    exact ⟨rfl, hb⟩

set_option maxRecDepth 100000 in
theorem fixedFloors_lifted (os : Os) (started : os.Started) (H : Type) (enc : TypeId × Value → H) :
    ReturnsInHanded {} Try.checked os 4 .any (Rows.fixedFloorsSpec.pre6 enc Try.prog Try.f4 Rows.fixedFloorsRow.domain false) (Rows.fixedFloorsSpec.post enc Try.prog Try.f4 false true false false) := by
  refine returnsInHanded_of_change (C := Try.checked) own started (by kernel_rfl) Try.func4
    (ChangeSpec.witness6 (enc := enc) (C := Try.checked) false ⟨#[], #[.int .i64 0, .int .i64 0], []⟩ 8 (by kernel_rfl) (by kernel_rfl) (by kernel_rfl) (by kernel_rfl)) ?_
  intro W base args ds gs before hval0 hW hcnd hsz
  have hval : ∀ (j : Nat) t v, Try.f4.params[j]? = some t → args[j]? = some v → Value.okWide Try.prog W .any base t v := hval0
  have hW' := hW
  obtain ⟨p, q, hA0, hV, rfl, hfz, hnd⟩ := hW
  have hA : DataW.TrodAll enc Try.prog W 0 (fun _ => true) true Try.f4.params.toList args.toList ds p := hA0
  rw [Try.params4] at hA hval
  obtain ⟨v0, vs0, d0, ds0, p_0, q_0, hargs, rfl, rfl, h0, r_0⟩ := trodAll_cons hA
  obtain ⟨v1, vs1, d1, ds1, p_1, q_1, rfl, rfl, rfl, h1, r_1⟩ := trodAll_cons r_0
  obtain ⟨rfl, rfl, rfl⟩ := trodAll_nil r_1
  obtain rfl : args = #[v0, v1] := by cases args; simp_all
  obtain ⟨rfl, rfl⟩ := trodVars_none hV
  obtain ⟨a0, rfl, rfl, rfl, w0⟩ := open_int Try.underlying3 (hval 0 3 v0 rfl rfl) h0
  obtain ⟨a1, rfl, rfl, rfl, w1⟩ := open_int Try.underlying3 (hval 1 3 v1 rfl rfl) h1
  refine (floors_c a0 (in64_of_wf w0) a1 (in64_of_wf w1) W).mono fun e W' ⟨he, hb⟩ => ?_
  subst he
  exact ⟨_, rfl, law_post laidOut (by kernel_rfl) rfl (by kernel_rfl) Try.underlying4 hW' rfl rfl rfl hb⟩

/-- The statement. -/
theorem fixedFloors_proved : Rows.FixedFloorsSaid :=
  OpenClaim.holds_of_wide 4 Try.f4 rfl rfl rfl rfl rfl rfl rfl ⟨rfl, rfl, rfl, rfl, rfl⟩ rfl rfl rfl rfl rfl (by kernel_rfl) Try.func4 (by kernel_rfl)
    (of_decide_eq_true (by kernel_rfl)) (by unfold Func.isWrapper; first | (rw [if_pos (by decide +kernel)]; kernel_rfl) | (rw [if_neg (by decide +kernel)]; exact ⟨rfl, rfl⟩))
    (fun os started H enc _ => fixedFloors_lifted os started H enc)
end Go.Proofs.Ytkfedmgodhkfgaa
