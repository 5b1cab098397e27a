/- VecSums holds: for any two ways, any number. -/
import Derived.Test.YtghdjmckjfblmaaVLives
import Derived.Test.YtghdjmckjfblmaaRef2
import Derived.Test.YtghdjmckjfblmaaShut
namespace Go.Proofs.Ytghdjmckjfblmaa
open Go.ChangeShapes Go.WideShapes Go.ChangeAt Go.RowKit

set_option maxHeartbeats 4000000 in
theorem vecSums_c (x y z : Int) (_ : In64 x) (_ : In64 y) (_ : In64 z) (x' y' z' : Int) (_ : In64 x') (_ : In64 y') (_ : In64 z') (m : Int) (_ : In64 m) (w : World) :
    Calls Try.prog 10 #[.agg #[.int .i64 x, .int .i64 y, .int .i64 z], .agg #[.int .i64 x', .int .i64 y', .int .i64 z'], .int .i64 m] w fun e w' => e = .returned (.bool true) ∧ Below w.heap.size w w' := by
  have ve := vec_eq
  have vg := vec_guard
  have s1 := veqB_self (cutI x) (cutI y) (cutI z)
  have s2 := veqB_self (addI x x') (addI y y') (addI z z')
  have s3 := veqB_self (subI x x') (subI y y') (subI z z')
  have s4 := veqB_self (mulI x m) (mulI y m) (mulI z m)
  have U : Blk ((w.alloc (.cells #[.int .i64 x, .int .i64 y, .int .i64 z] 23)).alloc (.cells #[.int .i64 x', .int .i64 y', .int .i64 z'] 23)) w.heap.size 23 #[.int .i64 x, .int .i64 y, .int .i64 z] := (Blk.new' rfl).alloc _
  have V : Blk ((w.alloc (.cells #[.int .i64 x, .int .i64 y, .int .i64 z] 23)).alloc (.cells #[.int .i64 x', .int .i64 y', .int .i64 z'] 23)) (w.heap.size + 1) 23 #[.int .i64 x', .int .i64 y', .int .i64 z'] := Blk.new' (by simp)
  obtain ⟨k0, k1, k2⟩ := U.re3
  obtain ⟨l0, l1, l2⟩ := V.re3
  go_enter Try.func10, Try.ntmps10
  go_wp2_with fail
  refine wp_region_quiet_below (by kernel_rfl) (by kernel_rfl) ?_
  repeat (go_big_quiet_step (first | (go_at_call 35; exact Calls.regrown_of (cutv_c _ _ _ _)) | (go_at_call 36; exact Calls.regrown_of (rcutv_c _ _ _ _)) | (go_at_call 23; exact Calls.regrown_of (add_c _ _ _ _ _ _ _)) | (go_at_call 37; exact Calls.regrown_of (raddv_c _ _ _ _ _ _ _)) | (go_at_call 34; exact Calls.regrown_of (sub_c _ _ _ _ _ _ _)) | (go_at_call 38; exact Calls.regrown_of (rsubv_c _ _ _ _ _ _ _)) | (go_at_call 33; exact Calls.regrown_of (scale_c _ _ _ _ _)) | (go_at_call 39; exact Calls.regrown_of (rscalev_c _ _ _ _ _)) | exact Calls.regrown_of (vlives_c _)))
  refine wpQuiet_nil ?_
  intro w' hw'
  obtain ⟨p, rfl⟩ := hw'
  go_wp2_with fail
  go_returns
  exact ⟨rfl, by (repeat' (first | (with_reducible exact Below.refl _ _) | (with_reducible assumption) | (with_reducible refine Below.alloc ?_ ?_ _) | (with_reducible refine Below.drew ?_) | (with_reducible refine Below.setCell ?_ ?_ _) | (with_reducible refine after ?_ (below_regrown _ _ _)) | (refine after ?_ (by with_reducible assumption)) | go_size))⟩

set_option maxRecDepth 100000 in
theorem vecSums_lifted (os : Os) (started : os.Started) (H : Type) (enc : TypeId × Value → H) :
    ReturnsInHanded {} Try.checked os 10 .any (Rows.vecSumsSpec.pre6 enc Try.prog Try.f10 Rows.vecSumsRow.domain false) (Rows.vecSumsSpec.post enc Try.prog Try.f10 false true false false) := by
  refine returnsInHanded_of_change (C := Try.checked) own started (by kernel_rfl) Try.func10
    (ChangeSpec.witness6 (enc := enc) (C := Try.checked) false ⟨#[], #[.agg #[.int .i64 0, .int .i64 0, .int .i64 0], .agg #[.int .i64 0, .int .i64 0, .int .i64 0], .int .i64 0], []⟩ 8 (by kernel_rfl) (by kernel_rfl) (by kernel_rfl) (by kernel_rfl)) ?_
  intro W base args ds gs before hval0 hW hcnd hsz
  have hval : ∀ (j : Nat) t v, Try.f10.params[j]? = some t → args[j]? = some v → Value.okWide Try.prog W .any base t v := hval0
  have hW' := hW
  obtain ⟨p, q, hA0, hV, rfl, hfz, hnd⟩ := hW
  have hA : DataW.TrodAll enc Try.prog W 0 (fun _ => true) true Try.f10.params.toList args.toList ds p := hA0
  rw [Try.params10] at hA hval
  obtain ⟨v0, vs0, d0, ds0, p_0, q_0, hargs, rfl, rfl, h0, r_0⟩ := trodAll_cons hA
  obtain ⟨v1, vs1, d1, ds1, p_1, q_1, rfl, rfl, rfl, h1, r_1⟩ := trodAll_cons r_0
  obtain ⟨v2, vs2, d2, ds2, p_2, q_2, rfl, rfl, rfl, h2, r_2⟩ := trodAll_cons r_1
  obtain ⟨rfl, rfl, rfl⟩ := trodAll_nil r_2
  obtain rfl : args = #[v0, v1, v2] := by cases args; simp_all
  obtain ⟨rfl, rfl⟩ := trodVars_none hV
  obtain ⟨x0, y0, z0, rfl, wx0, wy0, wz0⟩ := open_vec Try.underlying23 (by kernel_rfl) (by kernel_rfl) Try.underlying3 (hval 0 23 v0 rfl rfl) h0
  obtain ⟨x1, y1, z1, rfl, wx1, wy1, wz1⟩ := open_vec Try.underlying23 (by kernel_rfl) (by kernel_rfl) Try.underlying3 (hval 1 23 v1 rfl rfl) h1
  obtain ⟨a2, rfl, rfl, rfl, w2⟩ := open_int Try.underlying3 (hval 2 3 v2 rfl rfl) h2
  refine (vecSums_c x0 y0 z0 wx0 wy0 wz0 x1 y1 z1 wx1 wy1 wz1 a2 (in64_of_wf w2) W).mono fun e W' ⟨he, hb⟩ => ?_
  subst he
  exact ⟨_, rfl, law_post laidOut (by kernel_rfl) rfl (by kernel_rfl) Try.underlying4 hW' rfl rfl rfl hb⟩

/-- The statement. -/
theorem vecSums_proved : Rows.VecSumsSaid :=
  OpenClaim.holds_of_wide 10 Try.f10 rfl rfl rfl rfl rfl rfl rfl ⟨rfl, rfl, rfl, rfl, rfl⟩ rfl rfl rfl rfl rfl (by kernel_rfl) Try.func10 (by kernel_rfl)
    (of_decide_eq_true (by kernel_rfl)) (by unfold Func.isWrapper; first | (rw [if_pos (by decide +kernel)]; kernel_rfl) | (rw [if_neg (by decide +kernel)]; exact ⟨rfl, rfl⟩))
    (fun os started H enc _ => vecSums_lifted os started H enc)
end Go.Proofs.Ytghdjmckjfblmaa
