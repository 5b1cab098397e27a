/- VecStands holds: for any place, width and height. -/
import Derived.Test.YtghdjmckjfblmaaVLives
import Derived.Test.YtghdjmckjfblmaaRef2d
import Derived.Test.YtghdjmckjfblmaaShut
namespace Go.Proofs.Ytghdjmckjfblmaa
open Go.ChangeShapes Go.WideShapes Go.ChangeAt Go.RowKit

theorem mayI_stand (x y z m k : Int) (hm : 0 ≤ m) (hk : 0 ≤ k) : mayI (subI x m) (cutI y) (subI z m) (addI x m) (addI y k) (addI z m) = true := by
  unfold mayI
  simp only [Bool.and_eq_true, veqB_iff, decide_eq_true_eq]
  unfold subI addI
  simp only [cutI_cut, true_and]
  unfold cutI
  omega
set_option maxHeartbeats 2000000 in
theorem vecStands_w (x y z wd h p q r s t u : Int) (h0 : wd ≤ 9223372036854775807)
    (e1 : subI x (max wd 0 / 2) = p) (e2 : cutI y = q) (e3 : subI z (max wd 0 / 2) = r) (e4 : addI x (max wd 0 / 2) = s) (e5 : addI y (max h 0) = t) (e6 : addI z (max wd 0 / 2) = u) (w : World) :
    Calls Try.prog 8 #[.agg #[.int .i64 x, .int .i64 y, .int .i64 z], .int .i64 wd, .int .i64 h] w fun e w' => e = .returned (.bool true) ∧ Below w.heap.size w w' := by
  have hmay : mayI p q r s t u = true := by rw [← e1, ← e2, ← e3, ← e4, ← e5, ← e6]; exact mayI_stand x y z _ _ (by omega) (by omega)
  have c1 := stand_c x y z wd h h0
  have c2 := rstand_c x y z wd h h0
  have c3 := rcut_c y
  rw [e1, e2, e3, e4, e5, e6] at c1 c2
  have C1 := Lib.hid c1
  have C2 := Lib.hid c2
  have C3 : ∀ w : World, Calls Try.prog 19 #[.int .i64 y] w fun e w' => e = .returned (.int .i64 q) ∧ w = w' := by rw [← e2]; exact c3
  have C3 := Lib.hid C3
  have C4 : ∀ w : World, Calls Try.prog 26 #[.agg #[.int .i64 p, .int .i64 q, .int .i64 r, .int .i64 s, .int .i64 t, .int .i64 u]] w fun e w' => e = .returned (.bool true) ∧ Below w.heap.size w w' := by rw [← hmay]; exact may_c p q r s t u
  have C4 := Lib.hid C4
  clear c1 c2 c3 e1 e2 e3 e4 e5 e6 hmay
  have be := box_eq
  have bg := box_guard
  have bs := boxB_self p q r s t u
  have U0 : Blk (w.alloc (.cells #[.int .i64 x, .int .i64 y, .int .i64 z] 23)) w.heap.size 23 #[.int .i64 x, .int .i64 y, .int .i64 z] := Blk.new' rfl
  have H0 : Below w.heap.size w (w.alloc (.cells #[.int .i64 x, .int .i64 y, .int .i64 z] 23)) := by go_grown
  go_enter Try.func8, Try.ntmps8
  go_wp2_with fail
  refine (C1.out _).mono ?_; rintro e w1 ⟨rfl, hb⟩
  go_upto_region 2 with (fail)
  obtain ⟨W, hW⟩ : ∃ W, W = w1.alloc (.cells #[.int .i64 p, .int .i64 q, .int .i64 r, .int .i64 s, .int .i64 t, .int .i64 u] 25) := ⟨_, rfl⟩
  have U := (U0.on hb).alloc (.cells #[.int .i64 p, .int .i64 q, .int .i64 r, .int .i64 s, .int .i64 t, .int .i64 u] 25)
  have B := Blk.new w1 25 #[.int .i64 p, .int .i64 q, .int .i64 r, .int .i64 s, .int .i64 t, .int .i64 u]
  have H := (after H0 hb).alloc (after H0 hb).size (.cells #[.int .i64 p, .int .i64 q, .int .i64 r, .int .i64 s, .int .i64 t, .int .i64 u] 25)
  rw [← hW] at U B H
  rw [← hW]
  clear hW hb U0 H0
  obtain ⟨k0, k1, k2⟩ := U.re3
  obtain ⟨b0, b1, b2, b3, b4, b5⟩ := B.re6
  refine wp_region_quiet_below (by kernel_rfl) (by kernel_rfl) ?_
  repeat (go_big_quiet_step (first | exact Calls.regrown_of (C2.out _) | exact Calls.regrown_of (calls_bel (C3.out _)) | exact Calls.regrown_of (C4.out _) | exact Calls.regrown_of (axis_e _ _ _ _ _ (axI_1 _ _ _) _) | exact Calls.regrown_of (vlives_c _)))
  refine wpQuiet_nil ?_
  intro w' hw'
  obtain ⟨p, rfl⟩ := hw'
  go_wp2_with fail
  go_returns
  exact ⟨rfl, by (repeat' (first | (with_reducible exact Below.refl _ _) | (with_reducible assumption) | (with_reducible refine Below.alloc ?_ ?_ _) | (with_reducible refine Below.drew ?_) | (with_reducible refine Below.setCell ?_ ?_ _) | (with_reducible refine after ?_ (below_regrown _ _ _)) | (refine after ?_ (by with_reducible assumption)) | go_size))⟩
theorem vecStands_c (x y z : Int) (_ : In64 x) (_ : In64 y) (_ : In64 z) (wd : Int) (hw : In64 wd) (h : Int) (_ : In64 h) (w : World) :
    Calls Try.prog 8 #[.agg #[.int .i64 x, .int .i64 y, .int .i64 z], .int .i64 wd, .int .i64 h] w fun e w' => e = .returned (.bool true) ∧ Below w.heap.size w w' :=
  vecStands_w x y z wd h _ _ _ _ _ _ hw.2 rfl rfl rfl rfl rfl rfl w

set_option maxRecDepth 100000 in
theorem vecStands_lifted (os : Os) (started : os.Started) (H : Type) (enc : TypeId × Value → H) :
    ReturnsInHanded {} Try.checked os 8 .any (Rows.vecStandsSpec.pre6 enc Try.prog Try.f8 Rows.vecStandsRow.domain false) (Rows.vecStandsSpec.post enc Try.prog Try.f8 false true false false) := by
  refine returnsInHanded_of_change (C := Try.checked) own started (by kernel_rfl) Try.func8
    (ChangeSpec.witness6 (enc := enc) (C := Try.checked) false ⟨#[], #[.agg #[.int .i64 0, .int .i64 0, .int .i64 0], .int .i64 0, .int .i64 0], []⟩ 8 (by kernel_rfl) (by kernel_rfl) (by kernel_rfl) (by kernel_rfl)) ?_
  intro W base args ds gs before hval0 hW hcnd hsz
  have hval : ∀ (j : Nat) t v, Try.f8.params[j]? = some t → args[j]? = some v → Value.okWide Try.prog W .any base t v := hval0
  have hW' := hW
  obtain ⟨p, q, hA0, hV, rfl, hfz, hnd⟩ := hW
  have hA : DataW.TrodAll enc Try.prog W 0 (fun _ => true) true Try.f8.params.toList args.toList ds p := hA0
  rw [Try.params8] at hA hval
  obtain ⟨v0, vs0, d0, ds0, p_0, q_0, hargs, rfl, rfl, h0, r_0⟩ := trodAll_cons hA
  obtain ⟨v1, vs1, d1, ds1, p_1, q_1, rfl, rfl, rfl, h1, r_1⟩ := trodAll_cons r_0
  obtain ⟨v2, vs2, d2, ds2, p_2, q_2, rfl, rfl, rfl, h2, r_2⟩ := trodAll_cons r_1
  obtain ⟨rfl, rfl, rfl⟩ := trodAll_nil r_2
  obtain rfl : args = #[v0, v1, v2] := by cases args; simp_all
  obtain ⟨rfl, rfl⟩ := trodVars_none hV
  obtain ⟨x0, y0, z0, rfl, wx0, wy0, wz0⟩ := open_vec Try.underlying23 (by kernel_rfl) (by kernel_rfl) Try.underlying3 (hval 0 23 v0 rfl rfl) h0
  obtain ⟨a1, rfl, rfl, rfl, w1⟩ := open_int Try.underlying3 (hval 1 3 v1 rfl rfl) h1
  obtain ⟨a2, rfl, rfl, rfl, w2⟩ := open_int Try.underlying3 (hval 2 3 v2 rfl rfl) h2
  refine (vecStands_c x0 y0 z0 wx0 wy0 wz0 a1 (in64_of_wf w1) a2 (in64_of_wf w2) W).mono fun e W' ⟨he, hb⟩ => ?_
  subst he
  exact ⟨_, rfl, law_post laidOut (by kernel_rfl) rfl (by kernel_rfl) Try.underlying4 hW' rfl rfl rfl hb⟩

/-- The statement. -/
theorem vecStands_proved : Rows.VecStandsSaid :=
  OpenClaim.holds_of_wide 8 Try.f8 rfl rfl rfl rfl rfl rfl rfl ⟨rfl, rfl, rfl, rfl, rfl⟩ rfl rfl rfl rfl rfl (by kernel_rfl) Try.func8 (by kernel_rfl)
    (of_decide_eq_true (by kernel_rfl)) (by unfold Func.isWrapper; first | (rw [if_pos (by decide +kernel)]; kernel_rfl) | (rw [if_neg (by decide +kernel)]; exact ⟨rfl, rfl⟩))
    (fun os started H enc _ => vecStands_lifted os started H enc)
end Go.Proofs.Ytghdjmckjfblmaa
