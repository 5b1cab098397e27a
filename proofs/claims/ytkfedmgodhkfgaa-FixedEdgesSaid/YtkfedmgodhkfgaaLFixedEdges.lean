/- FixedEdges holds: for any two numbers, any float. -/
import Derived.Test.YtkfedmgodhkfgaaFloatW
import Derived.Test.YtkfedmgodhkfgaaFix3
import Derived.Test.YtkfedmgodhkfgaaLives
import Derived.Test.YtkfedmgodhkfgaaShut
namespace Go.Proofs.Ytkfedmgodhkfgaa
open Go.ChangeShapes Go.WideShapes Go.ChangeAt Go.RowKit

/-- Within the bounds. -/
def inB (n : Int) : Prop := -140737488355328 ≤ n ∧ n ≤ 140737488355328
theorem inB_cut (n : Int) : inB (cutI n) := ⟨cutI_lo n, cutI_hi n⟩
theorem inB_add (a b : Int) : inB (addI a b) := by unfold addI; exact inB_cut _
theorem inB_sub (a b : Int) : inB (subI a b) := by unfold subI; exact inB_cut _
theorem inB_mul (a b : Int) : inB (mulI a b) := by unfold mulI; exact inB_cut _
theorem inB_of (a : Int) : inB (ofI a) := by unfold ofI inB; omega
theorem inB_tow (a b c : Int) : inB (towI a b c) := by
  have h1 := cutI_lo a
  have h2 := cutI_hi a
  have h3 := cutI_lo b
  have h4 := cutI_hi b
  have h5 := cutI_hi c
  unfold towI inB
  omega
theorem inB_quo (a b : Int) : inB (quoI a b) := by
  have h1 : 0 ≤ absI (cutI a) := by unfold absI; split <;> omega
  have h2 : 0 ≤ absI (cutI b) := by unfold absI; split <;> omega
  have hq : 0 ≤ absI (cutI a) * 65536 / absI (cutI b) := Int.ediv_nonneg (by omega) h2
  unfold quoI rndI inB
  generalize absI (cutI a) * 65536 / absI (cutI b) = q at *
  generalize (absI (cutI a) * 65536 % absI (cutI b) != 0) = r
  generalize (decide (cutI a < 0) != decide (cutI b < 0)) = l
  have := upI_bd q l r
  split
  · split <;> omega
  · split <;> omega
theorem inB_fr (f : Nat) : inB (frP f).1 := frP_lo f
set_option maxHeartbeats 4000000 in
theorem fixedEdges_w (a : Int) (_ha : In64 a) (b : Int) (_hb : In64 b) (f : Nat) (_hf : (Lit.float .f64 f).wf = true) (w : World) : Calls Try.prog 10 #[.int .i64 a, .int .i64 b, .float .f64 f] w fun r w' => r = .returned (.bool true) ∧ Below w.heap.size w w' := by
  have hD : ∃ q g : Int, inB q ∧ ∀ w, Calls Try.prog 24 #[.int .i64 a, .int .i64 b] w fun r w' => r = .returned (.tuple #[.int .i64 q, .int .i64 g]) ∧ Below w.heap.size w w' := by
    by_cases h0 : cutI b = 0
    · exact ⟨0, 1, by unfold inB; omega, fun w => (fdiv_c a b w).mono fun e w' h => ⟨h.1 h0, h.2.2⟩⟩
    · exact ⟨quoI a b, 0, inB_quo a b, fun w => (fdiv_c a b w).mono fun e w' h => ⟨h.2.1 h0, h.2.2⟩⟩
  obtain ⟨q, g, hq, hD⟩ := hD
  have hF := from_c f
  have h2 := inB_fr f
  generalize (frP f).1 = n at *
  generalize (frP f).2 = g2 at *
  have c0 := fun w => fcut_c a w
  have c1 := fun w => fadd_c a b w
  have c2 := fun w => fsub_c a b w
  have c3 := fun w => fmul_c a b w
  have c6 := fun w => of_c a w
  have c7 := fun w => ftoward_c a b a w
  have i0 := inB_cut a
  have i1 := inB_add a b
  have i2 := inB_sub a b
  have i3 := inB_mul a b
  have i6 := inB_of a
  have i7 := inB_tow a b a
  have i4 := hq
  have i5 := h2
  clear hq h2
  generalize cutI a = x0 at *
  generalize addI a b = x1 at *
  generalize subI a b = x2 at *
  generalize mulI a b = x3 at *
  generalize ofI a = x6 at *
  generalize towI a b a = x7 at *
  replace i0 : Hid (inB x0) := i0
  replace i1 : Hid (inB x1) := i1
  replace i2 : Hid (inB x2) := i2
  replace i3 : Hid (inB x3) := i3
  replace i4 : Hid (inB q) := i4
  replace i5 : Hid (inB n) := i5
  replace i6 : Hid (inB x6) := i6
  replace i7 : Hid (inB x7) := i7
  go_enter Try.func10, Try.ntmps10
  go_wp2_with fail
  refine (hD _).mono ?_; rintro e w1 ⟨rfl, H⟩
  go_wp2_with fail
  refine (hF _).mono ?_; rintro e w1 ⟨rfl, hb⟩
  replace H := after H hb
  clear hb
  go_wp2_with fail
  refine (c0 _).mono ?_; rintro e w1 ⟨rfl, rfl⟩
  go_wp2_with fail
  refine (c1 _).mono ?_; rintro e w1 ⟨rfl, rfl⟩
  go_wp2_with fail
  refine (c2 _).mono ?_; rintro e w1 ⟨rfl, rfl⟩
  go_wp2_with fail
  refine (c3 _).mono ?_; rintro e w1 ⟨rfl, hb⟩
  replace H := after H hb
  clear hb
  go_wp2_with fail
  refine (c6 _).mono ?_; rintro e w1 ⟨rfl, rfl⟩
  go_wp2_with fail
  refine (c7 _).mono ?_; rintro e w1 ⟨rfl, rfl⟩
  go_upto_region 5 with (fail)
  obtain ⟨W, hW⟩ : ∃ W, W = w1.alloc (.cells #[.int .i64 x0, .int .i64 x1, .int .i64 x2, .int .i64 x3, .int .i64 q, .int .i64 n, .int .i64 x6, .int .i64 x7] 3) := ⟨_, rfl⟩
  rw [← hW]
  have C := Blk.fresh hW
  replace H : Below w.heap.size w W := by rw [hW]; exact H.alloc H.size _
  clear hW c0 c1 c2 c3 c6 c7 hD hF
  generalize w1.heap.size = nl at *
  go_loopw [12] (fun i wq => ∃ k : Nat, k ≤ 8 ∧ i = .int .i64 k ∧ wq = W) (fun i _ => 8 - (intOf i).toNat)
  case atStart => exact ⟨0, by omega, rfl, rfl⟩
  case round =>
    obtain ⟨k, hk, rfl, rfl⟩ := hrel
    rcases (show k = 0 ∨ k = 1 ∨ k = 2 ∨ k = 3 ∨ k = 4 ∨ k = 5 ∨ k = 6 ∨ k = 7 ∨ k = 8 by omega) with rfl | rfl | rfl | rfl | rfl | rfl | rfl | rfl | rfl
    · have e := C.cell 0
      obtain ⟨g0, g1⟩ := i0.out
      go_wp2_with fail
      go_roundw
      case rel => exact ⟨1, by omega, by go_num, trivial⟩
      case measure => simp [intOf]
    · have e := C.cell 1
      obtain ⟨g0, g1⟩ := i1.out
      go_wp2_with fail
      go_roundw
      case rel => exact ⟨2, by omega, by go_num, trivial⟩
      case measure => simp [intOf]
    · have e := C.cell 2
      obtain ⟨g0, g1⟩ := i2.out
      go_wp2_with fail
      go_roundw
      case rel => exact ⟨3, by omega, by go_num, trivial⟩
      case measure => simp [intOf]
    · have e := C.cell 3
      obtain ⟨g0, g1⟩ := i3.out
      go_wp2_with fail
      go_roundw
      case rel => exact ⟨4, by omega, by go_num, trivial⟩
      case measure => simp [intOf]
    · have e := C.cell 4
      obtain ⟨g0, g1⟩ := i4.out
      go_wp2_with fail
      go_roundw
      case rel => exact ⟨5, by omega, by go_num, trivial⟩
      case measure => simp [intOf]
    · have e := C.cell 5
      obtain ⟨g0, g1⟩ := i5.out
      go_wp2_with fail
      go_roundw
      case rel => exact ⟨6, by omega, by go_num, trivial⟩
      case measure => simp [intOf]
    · have e := C.cell 6
      obtain ⟨g0, g1⟩ := i6.out
      go_wp2_with fail
      go_roundw
      case rel => exact ⟨7, by omega, by go_num, trivial⟩
      case measure => simp [intOf]
    · have e := C.cell 7
      obtain ⟨g0, g1⟩ := i7.out
      go_wp2_with fail
      go_roundw
      case rel => exact ⟨8, by omega, by go_num, trivial⟩
      case measure => simp [intOf]
    · go_wp2_with fail
      refine (lives_c _).mono ?_
      rintro e w2 ⟨rfl, hb⟩
      go_wp2_with fail
      go_returns
      exact ⟨rfl, after H hb⟩
set_option maxRecDepth 100000 in
theorem fixedEdges_lifted (os : Os) (started : os.Started) (H : Type) (enc : TypeId × Value → H) :
    ReturnsInHanded {} Try.checked os 10 .any (Rows.fixedEdgesSpec.pre6 enc Try.prog Try.f10 Rows.fixedEdgesRow.domain false) (Rows.fixedEdgesSpec.post enc Try.prog Try.f10 false true false false) := by
  refine returnsInHanded_of_change (C := Try.checked) own started (by kernel_rfl) Try.func10
    (ChangeSpec.witness6 (enc := enc) (C := Try.checked) false ⟨#[], #[.int .i64 0, .int .i64 0, .float .f64 0], []⟩ 8 (by kernel_rfl) (by kernel_rfl) (by kernel_rfl) (by kernel_rfl)) ?_
  intro W base args ds gs before hval0 hW hcnd hsz
  have hval : ∀ (j : Nat) t v, Try.f10.params[j]? = some t → args[j]? = some v → Value.okWide Try.prog W .any base t v := hval0
  have hW' := hW
  obtain ⟨p, q, hA0, hV, rfl, hfz, hnd⟩ := hW
  have hA : DataW.TrodAll enc Try.prog W 0 (fun _ => true) true Try.f10.params.toList args.toList ds p := hA0
  rw [Try.params10] at hA hval
  obtain ⟨v0, vs0, d0, ds0, p_0, q_0, hargs, rfl, rfl, h0, r_0⟩ := trodAll_cons hA
  obtain ⟨v1, vs1, d1, ds1, p_1, q_1, rfl, rfl, rfl, h1, r_1⟩ := trodAll_cons r_0
  obtain ⟨v2, vs2, d2, ds2, p_2, q_2, rfl, rfl, rfl, h2, r_2⟩ := trodAll_cons r_1
  obtain ⟨rfl, rfl, rfl⟩ := trodAll_nil r_2
  obtain rfl : args = #[v0, v1, v2] := by cases args; simp_all
  obtain ⟨rfl, rfl⟩ := trodVars_none hV
  obtain ⟨a0, rfl, rfl, rfl, w0⟩ := open_int Try.underlying3 (hval 0 3 v0 rfl rfl) h0
  obtain ⟨a1, rfl, rfl, rfl, w1⟩ := open_int Try.underlying3 (hval 1 3 v1 rfl rfl) h1
  obtain ⟨a2, rfl, rfl, rfl, w2⟩ := open_float Try.underlying31 (hval 2 31 v2 rfl rfl) h2
  refine (fixedEdges_w a0 (in64_of_wf w0) a1 (in64_of_wf w1) a2 w2 W).mono fun e W' ⟨he, hb⟩ => ?_
  subst he
  exact ⟨_, rfl, law_post laidOut (by kernel_rfl) rfl (by kernel_rfl) Try.underlying4 hW' rfl rfl rfl hb⟩

/-- The statement. -/
theorem fixedEdges_proved : Rows.FixedEdgesSaid :=
  OpenClaim.holds_of_wide 10 Try.f10 rfl rfl rfl rfl rfl rfl rfl ⟨rfl, rfl, rfl, rfl, rfl⟩ rfl rfl rfl rfl rfl (by kernel_rfl) Try.func10 (by kernel_rfl)
    (of_decide_eq_true (by kernel_rfl)) (by unfold Func.isWrapper; first | (rw [if_pos (by decide +kernel)]; kernel_rfl) | (rw [if_neg (by decide +kernel)]; exact ⟨rfl, rfl⟩))
    (fun os started H enc _ => fixedEdges_lifted os started H enc)
end Go.Proofs.Ytkfedmgodhkfgaa
