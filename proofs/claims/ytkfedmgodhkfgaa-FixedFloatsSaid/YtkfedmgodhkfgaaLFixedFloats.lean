/- FixedFloats holds: for any float. -/
import Derived.Test.YtkfedmgodhkfgaaFloatR
import Derived.Test.YtkfedmgodhkfgaaLives
import Derived.Test.YtkfedmgodhkfgaaShut
namespace Go.Proofs.Ytkfedmgodhkfgaa
open Go.ChangeShapes Go.WideShapes Go.ChangeAt Go.RowKit

theorem read_nanW (w : World) (x y : Nat) : ∃ t n, Ieee.double.read (nanW w x y) = .nan t n := by
  unfold nanW
  generalize w.tape w.drawn (.nanBits .f64 x y) = k
  have hc : Question.cut (.nanBits .f64 x y) k = (k % 2) * 2 ^ 63 + 0x7ff0000000000000 + 1 + (k / 2) % (2 ^ 52 - 1) := rfl
  rw [hc]
  have hs : Ieee.double.signWeight = 2 ^ 63 := by rfl
  have h1 : ((k % 2) * 2 ^ 63 + 0x7ff0000000000000 + 1 + (k / 2) % (2 ^ 52 - 1)) % 2 ^ 63 = 0x7ff0000000000000 + 1 + (k / 2) % (2 ^ 52 - 1) := by omega
  unfold Ieee.Format.read
  simp only [hs, h1]
  rw [show Ieee.double.binade = 2 ^ 52 by rfl, show Ieee.double.infRung = 2047 * 2 ^ 52 by rfl]
  rw [if_neg (by omega), if_neg (by omega), if_neg (by omega)]
  exact ⟨_, _, rfl⟩
theorem frP_nan {x : Nat} {t : Bool} {n : Nat} (h : Ieee.double.read x = .nan t n) : frP x = (0, 1) := by unfold frP; rw [h]
theorem write_0 (s : Bool) (e : Int) : Ieee.double.write (.number s 0 e) = Ieee.double.write (.number s 0 0) := by
  show Ieee.double.nearest s 0 e = Ieee.double.nearest s 0 0
  unfold Ieee.Format.nearest
  rw [if_pos rfl, if_pos rfl]
theorem frP_0 (s : Bool) : frP (Ieee.double.write (.number s 0 0)) = (0, 0) := by
  have hm : floatBits .mul .f64 (Ieee.double.write (.number s 0 0)) oneB = some (Ieee.double.write (.number s 0 0)) := by
    show ((Ieee.double.read (Ieee.double.write (.number s 0 0))).product (Ieee.double.read oneB)).map Ieee.double.write = _
    rw [read_zero, read_one]
    show some (Ieee.double.write (.number (s ^^ false) (0 * _) _)) = _
    rw [Nat.zero_mul, write_0, Bool.xor_false]
  have hu : unitsD (.number s 0 (-1074)) = 0 := by cases s <;> simp [unitsD, Ieee.signed]
  have hp := unitF_pos
  unfold frP
  rw [read_zero, hm]
  simp only
  rw [read_zero]
  simp only
  rw [hu, if_neg (by unfold mostI; omega), if_neg (by unfold mostI; omega), Int.zero_ediv]
/-- A float by 0. -/
theorem by_0 (f : Nat) : (∃ r, floatBits .mul .f64 f 0 = some r ∧ frP r = (0, 0)) ∨ (floatBits .mul .f64 f 0 = none) := by
  have h0 : Ieee.double.read 0 = .number false 0 (-1074) := by decide +kernel
  have hb : floatBits .mul .f64 f 0 = ((Ieee.double.read f).product (Ieee.double.read 0)).map Ieee.double.write := rfl
  rw [hb, h0]
  rcases read_place f with ⟨s, m, e, hf, he⟩ | ⟨s, hf⟩ | ⟨s, t, hf⟩
  · rw [hf]
    refine .inl ⟨_, rfl, ?_⟩
    show frP (Ieee.double.write (.number (s ^^ false) (m * 0) (e + -1074))) = _
    rw [Nat.mul_zero, write_0]
    exact frP_0 _
  · rw [hf]; exact .inr rfl
  · rw [hf]; exact .inr rfl
set_option maxHeartbeats 1000000 in
theorem fixedFloats_w (f : Nat) (_hf : (Lit.float .f64 f).wf = true) (w : World) : Calls Try.prog 9 #[.float .f64 f] w fun r w' => r = .returned (.bool true) ∧ Below w.heap.size w w' := by
  have hF := from_c f
  have hR := rfrom_c f
  generalize (frP f).1 = n at *
  generalize (frP f).2 = g at *
  rcases by_0 f with ⟨r, h0, hr⟩ | h0
  · have hmul := fun (t : TypeId) => run_mul_some (t := t) h0
    have hZ := from_c r
    rw [hr] at hZ
    go_enter Try.func9, Try.ntmps9
    go_wp2_with fail
    refine (hF _).mono ?_; rintro e w1 ⟨rfl, H⟩
    go_wp2_with fail
    refine (hR _).mono ?_; rintro e w1 ⟨rfl, hb⟩
    replace H := after H hb
    clear hb
    go_wp2_with fail
    refine (hZ _).mono ?_; rintro e w1 ⟨rfl, hb⟩
    replace H := after H hb
    clear hb
    go_wp2_with fail
    refine (lives_c _).mono ?_; rintro e w1 ⟨rfl, hb⟩
    go_wp2_with fail
    go_returns
    exact ⟨rfl, after H hb⟩
  · have hmul := fun (t : TypeId) => run_mul_none (t := t) h0
    have hZ : ∀ w W, Calls Try.prog 26 #[.float .f64 (nanW w f 0)] W fun r w' => r = .returned (.tuple #[.int .i64 0, .int .i64 1]) ∧ Below W.heap.size W w' := fun w W => by
      obtain ⟨t, k, h⟩ := read_nanW w f 0
      have := from_c (nanW w f 0) W
      rwa [frP_nan h] at this
    go_enter Try.func9, Try.ntmps9
    go_wp2_with fail
    refine (hF _).mono ?_; rintro e w1 ⟨rfl, H⟩
    go_wp2_with fail
    refine (hR _).mono ?_; rintro e w1 ⟨rfl, hb⟩
    replace H := after H hb
    clear hb
    go_wp2_with fail
    refine (hZ _ _).mono ?_; rintro e w1 ⟨rfl, hb⟩
    replace H := after H.drew hb
    clear hb
    go_wp2_with fail
    refine (lives_c _).mono ?_; rintro e w1 ⟨rfl, hb⟩
    go_wp2_with fail
    go_returns
    exact ⟨rfl, after H hb⟩
set_option maxRecDepth 100000 in
theorem fixedFloats_lifted (os : Os) (started : os.Started) (H : Type) (enc : TypeId × Value → H) :
    ReturnsInHanded {} Try.checked os 9 .any (Rows.fixedFloatsSpec.pre6 enc Try.prog Try.f9 Rows.fixedFloatsRow.domain false) (Rows.fixedFloatsSpec.post enc Try.prog Try.f9 false true false false) := by
  refine returnsInHanded_of_change (C := Try.checked) own started (by kernel_rfl) Try.func9
    (ChangeSpec.witness6 (enc := enc) (C := Try.checked) false ⟨#[], #[.float .f64 0], []⟩ 8 (by kernel_rfl) (by kernel_rfl) (by kernel_rfl) (by kernel_rfl)) ?_
  intro W base args ds gs before hval0 hW hcnd hsz
  have hval : ∀ (j : Nat) t v, Try.f9.params[j]? = some t → args[j]? = some v → Value.okWide Try.prog W .any base t v := hval0
  have hW' := hW
  obtain ⟨p, q, hA0, hV, rfl, hfz, hnd⟩ := hW
  have hA : DataW.TrodAll enc Try.prog W 0 (fun _ => true) true Try.f9.params.toList args.toList ds p := hA0
  rw [Try.params9] at hA hval
  obtain ⟨v0, vs0, d0, ds0, p_0, q_0, hargs, rfl, rfl, h0, r_0⟩ := trodAll_cons hA
  obtain ⟨rfl, rfl, rfl⟩ := trodAll_nil r_0
  obtain rfl : args = #[v0] := by cases args; simp_all
  obtain ⟨rfl, rfl⟩ := trodVars_none hV
  obtain ⟨a0, rfl, rfl, rfl, w0⟩ := open_float Try.underlying31 (hval 0 31 v0 rfl rfl) h0
  refine (fixedFloats_w a0 w0 W).mono fun e W' ⟨he, hb⟩ => ?_
  subst he
  exact ⟨_, rfl, law_post laidOut (by kernel_rfl) rfl (by kernel_rfl) Try.underlying4 hW' rfl rfl rfl hb⟩

/-- The statement. -/
theorem fixedFloats_proved : Rows.FixedFloatsSaid :=
  OpenClaim.holds_of_wide 9 Try.f9 rfl rfl rfl rfl rfl rfl rfl ⟨rfl, rfl, rfl, rfl, rfl⟩ rfl rfl rfl rfl rfl (by kernel_rfl) Try.func9 (by kernel_rfl)
    (of_decide_eq_true (by kernel_rfl)) (by unfold Func.isWrapper; first | (rw [if_pos (by decide +kernel)]; kernel_rfl) | (rw [if_neg (by decide +kernel)]; exact ⟨rfl, rfl⟩))
    (fun os started H enc _ => fixedFloats_lifted os started H enc)
end Go.Proofs.Ytkfedmgodhkfgaa
