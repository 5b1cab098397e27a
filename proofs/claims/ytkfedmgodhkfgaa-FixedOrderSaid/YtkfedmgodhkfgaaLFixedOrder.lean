/- FixedOrder holds, for any ints. -/
import Derived.Test.YtkfedmgodhkfgaaLFixedQuotients
import Derived.Test.YtkfedmgodhkfgaaLives
import Derived.Test.YtkfedmgodhkfgaaFix3
import Derived.Test.YtkfedmgodhkfgaaShut
namespace Go.Proofs.Ytkfedmgodhkfgaa
open Go.ChangeShapes Go.WideShapes Go.ChangeAt Go.RowKit

theorem addI_mono {x y c : Int} (h : x ≤ y) : addI x c ≤ addI y c := by
  unfold addI; have := cutI_mono h; exact cutI_mono (by omega)
theorem subI_mono {x y c : Int} (h : x ≤ y) : subI x c ≤ subI y c := by
  unfold subI; have := cutI_mono h; exact cutI_mono (by omega)
theorem mulI_mono {x y c : Int} (h : x ≤ y) (hc : 0 ≤ c) : mulI x c ≤ mulI y c := by
  unfold mulI
  have h1 := cutI_mono h
  have h2 : 0 ≤ cutI c := by unfold cutI; omega
  have h3 := Int.mul_le_mul_of_nonneg_right h1 h2
  exact cutI_mono (by omega)
theorem quoI_mono {x y c : Int} (h : x ≤ y) (hc : 1 ≤ c) : quoI x c ≤ quoI y c := by
  have h2 : 0 < cutI c := by unfold cutI; omega
  rw [quoI_pos x c h2, quoI_pos y c h2]
  have h1 := cutI_mono h
  exact cutI_mono (Int.ediv_le_ediv h2 (by omega))
theorem floor_mono {x y : Int} (h : x ≤ y) : cutI x / 65536 ≤ cutI y / 65536 := by
  have h1 := cutI_mono h
  omega
set_option maxHeartbeats 2000000 in
theorem order_w (a b c x y n m : Int) (hx : min a b = x) (hy : max a b = y) (hn : max c 0 = n) (hm : max c 1 = m) (w : World) : Calls Try.prog 8 #[.int .i64 a, .int .i64 b, .int .i64 c] w fun e w' => e = .returned (.bool true) ∧ Below w.heap.size w w' := by
  have h0 : x ≤ y := by omega
  have t1 := addI_mono (c := c) h0
  have t2 := subI_mono (c := c) h0
  have t3 := mulI_mono (c := n) h0 (by omega)
  have t4 := quoI_mono (c := m) h0 (by omega)
  have t5 := floor_mono h0
  have Hm : Hid (cutI m ≠ 0) := Lib.hid (by unfold cutI; omega)
  rcases (show (a < b ∧ x = a ∧ y = b) ∨ (a = b ∧ x = b ∧ y = b) ∨ (b < a ∧ x = b ∧ y = a) by omega) with ⟨g1, rfl, rfl⟩ | ⟨rfl, rfl, rfl⟩ | ⟨g1, rfl, rfl⟩ <;> rcases (show (c < 0 ∧ n = 0 ∧ m = 1) ∨ (c = 0 ∧ n = 0 ∧ m = 1) ∨ (0 < c ∧ n = c ∧ m = c) by omega) with ⟨g2, rfl, rfl⟩ | ⟨rfl, rfl, rfl⟩ | ⟨g2, rfl, rfl⟩
  all_goals
    clear hx hy hn hm h0
    go_enter Try.func8, Try.ntmps8
    go_wp2_with fail
    refine (fdiv_y _ _ Hm.out _).mono ?_; rintro e w1 ⟨rfl, hb1⟩
    go_wp2_with fail
    refine (fdiv_y _ _ Hm.out _).mono ?_; rintro e w1 ⟨rfl, hb2⟩
    go_wp2_with fail
    refine (fadd_c _ _ _).mono ?_; rintro e w1 ⟨rfl, rfl⟩
    go_wp2_with fail
    refine (fadd_c _ _ _).mono ?_; rintro e w1 ⟨rfl, rfl⟩
    go_wp2_with fail
    refine (fsub_c _ _ _).mono ?_; rintro e w1 ⟨rfl, rfl⟩
    go_wp2_with fail
    refine (fsub_c _ _ _).mono ?_; rintro e w1 ⟨rfl, rfl⟩
    go_wp2_with fail
    refine (fmul_c _ _ _).mono ?_; rintro e w1 ⟨rfl, hb3⟩
    go_wp2_with fail
    refine (fmul_c _ _ _).mono ?_; rintro e w1 ⟨rfl, hb4⟩
    go_wp2_with fail
    refine (floor_c _ _).mono ?_; rintro e w1 ⟨rfl, rfl⟩
    go_wp2_with fail
    refine (floor_c _ _).mono ?_; rintro e w1 ⟨rfl, rfl⟩
    go_wp2_with fail
    refine (lives_c _).mono ?_; rintro e w1 ⟨rfl, hb5⟩
    go_wp2_with fail
    go_returns
    exact ⟨rfl, after (after (after (after hb1 hb2) hb3) hb4) hb5⟩
theorem order_c (a : Int) (_ : In64 a) (b : Int) (_ : In64 b) (c : Int) (_ : In64 c) (w : World) : Calls Try.prog 8 #[.int .i64 a, .int .i64 b, .int .i64 c] w fun e w' => e = .returned (.bool true) ∧ Below w.heap.size w w' :=
  order_w a b c _ _ _ _ rfl rfl rfl rfl w

set_option maxRecDepth 100000 in
theorem fixedOrder_lifted (os : Os) (started : os.Started) (H : Type) (enc : TypeId × Value → H) :
    ReturnsInHanded {} Try.checked os 8 .any (Rows.fixedOrderSpec.pre6 enc Try.prog Try.f8 Rows.fixedOrderRow.domain false) (Rows.fixedOrderSpec.post enc Try.prog Try.f8 false true false false) := by
  refine returnsInHanded_of_change (C := Try.checked) own started (by kernel_rfl) Try.func8
    (ChangeSpec.witness6 (enc := enc) (C := Try.checked) false ⟨#[], #[.int .i64 0, .int .i64 0, .int .i64 0], []⟩ 8 (by kernel_rfl) (by kernel_rfl) (by kernel_rfl) (by kernel_rfl)) ?_
  intro W base args ds gs before hval0 hW hcnd hsz
  have hval : ∀ (j : Nat) t v, Try.f8.params[j]? = some t → args[j]? = some v → Value.okWide Try.prog W .any base t v := hval0
  have hW' := hW
  obtain ⟨p, q, hA0, hV, rfl, hfz, hnd⟩ := hW
  have hA : DataW.TrodAll enc Try.prog W 0 (fun _ => true) true Try.f8.params.toList args.toList ds p := hA0
  rw [Try.params8] at hA hval
  obtain ⟨v0, vs0, d0, ds0, p_0, q_0, hargs, rfl, rfl, h0, r_0⟩ := trodAll_cons hA
  obtain ⟨v1, vs1, d1, ds1, p_1, q_1, rfl, rfl, rfl, h1, r_1⟩ := trodAll_cons r_0
  obtain ⟨v2, vs2, d2, ds2, p_2, q_2, rfl, rfl, rfl, h2, r_2⟩ := trodAll_cons r_1
  obtain ⟨rfl, rfl, rfl⟩ := trodAll_nil r_2
  obtain rfl : args = #[v0, v1, v2] := by cases args; simp_all
  obtain ⟨rfl, rfl⟩ := trodVars_none hV
  obtain ⟨a0, rfl, rfl, rfl, w0⟩ := open_int Try.underlying3 (hval 0 3 v0 rfl rfl) h0
  obtain ⟨a1, rfl, rfl, rfl, w1⟩ := open_int Try.underlying3 (hval 1 3 v1 rfl rfl) h1
  obtain ⟨a2, rfl, rfl, rfl, w2⟩ := open_int Try.underlying3 (hval 2 3 v2 rfl rfl) h2
  refine (order_c a0 (in64_of_wf w0) a1 (in64_of_wf w1) a2 (in64_of_wf w2) W).mono fun e W' ⟨he, hb⟩ => ?_
  subst he
  exact ⟨_, rfl, law_post laidOut (by kernel_rfl) rfl (by kernel_rfl) Try.underlying4 hW' rfl rfl rfl hb⟩

/-- The statement. -/
theorem fixedOrder_proved : Rows.FixedOrderSaid :=
  OpenClaim.holds_of_wide 8 Try.f8 rfl rfl rfl rfl rfl rfl rfl ⟨rfl, rfl, rfl, rfl, rfl⟩ rfl rfl rfl rfl rfl (by kernel_rfl) Try.func8 (by kernel_rfl)
    (of_decide_eq_true (by kernel_rfl)) (by unfold Func.isWrapper; first | (rw [if_pos (by decide +kernel)]; kernel_rfl) | (rw [if_neg (by decide +kernel)]; exact ⟨rfl, rfl⟩))
    (fun os started H enc _ => fixedOrder_lifted os started H enc)
end Go.Proofs.Ytkfedmgodhkfgaa
