/- Of a box within another one: no cell more. No program in sight. -/
import Derived.Test.YtmkmaoodeebmfaaMeet4
namespace Go.Proofs.Ytmkmaoodeebmfaa

theorem low_mono {n m : Int} (h : n ≤ m) : lowI n ≤ lowI m := by
  unfold lowI cutI; omega
theorem top_mono {n m n' m' : Int} (h0 : -140737488355328 ≤ n) (h1 : n ≤ n') (h2 : n' ≤ m') (h3 : m' ≤ m) (h4 : m ≤ 140737488355328) (ht : thinI n' m' = false) : topI n' m' ≤ topI n m := by
  unfold thinI at ht
  unfold topI
  simp only [Bool.and_eq_false_iff, beq_eq_false_iff_ne, ne_eq] at ht
  have e : ∀ x : Int, -140737488355328 ≤ x → x ≤ 140737488355328 → lowI x = x / 65536 := fun x a b => by unfold lowI; rw [cutI_id a b]
  rw [e n (by omega) (by omega), e m (by omega) (by omega), e n' (by omega) (by omega), e m' (by omega) (by omega)]
  rw [e n' (by omega) (by omega)] at ht
  split <;> split <;> omega
theorem thin_in {n m n' m' : Int} (h1 : n ≤ n') (h2 : n' ≤ m') (h3 : m' ≤ m) (ht : thinI n m = true) : thinI n' m' = true := by
  unfold thinI at *
  simp only [Bool.and_eq_true, beq_iff_eq] at *
  obtain ⟨rfl, h⟩ := ht
  obtain rfl : n' = n := by omega
  exact ⟨by omega, h⟩
section
variable {a b c d e f a' b' c' d' e' f' : Int}
theorem cells_in (hB : BoxOk a b c d e f) (ha : a ≤ a') (hb : b ≤ b') (hc : c ≤ c') (had : a' ≤ d') (hbe : b' ≤ e') (hcf : c' ≤ f') (hd : d' ≤ d) (he : e' ≤ e) (hf : f' ≤ f) {x : Cl} (hx : x ∈ cellsI a' b' c' d' e' f') : x ∈ cellsI a b c d e f := by
  unfold cellsI at *
  cases hi : isI a' b' c' d' e' f'
  · rw [hi] at hx; simp at hx
  · rw [hi, if_pos rfl] at hx
    unfold isI at hi
    simp only [Bool.not_eq_true', Bool.or_eq_false_iff] at hi
    obtain ⟨t1, t2, t3⟩ := hi
    have i2 : isI a b c d e f = true := by
      unfold isI
      simp only [Bool.not_eq_true', Bool.or_eq_false_iff]
      refine ⟨Bool.eq_false_iff.2 fun h => ?_, Bool.eq_false_iff.2 fun h => ?_, Bool.eq_false_iff.2 fun h => ?_⟩
      · rw [thin_in ha had hd h] at t1; cases t1
      · rw [thin_in hb hbe he h] at t2; cases t2
      · rw [thin_in hc hcf hf h] at t3; cases t3
    rw [i2, if_pos rfl]
    rw [mem_boxL] at *
    have l1 := low_mono ha
    have l2 := low_mono hb
    have l3 := low_mono hc
    have m1 := top_mono hB.a1 ha had hd hB.d2 t1
    have m2 := top_mono hB.b1 hb hbe he hB.e2 t2
    have m3 := top_mono hB.c1 hc hcf hf hB.f2 t3
    omega
theorem anyc_in (hB : BoxOk a b c d e f) (ha : a ≤ a') (hb : b ≤ b') (hc : c ≤ c') (had : a' ≤ d') (hbe : b' ≤ e') (hcf : c' ≤ f') (hd : d' ≤ d) (he : e' ≤ e) (hf : f' ≤ f) {p : Cl → Bool} (h : (cellsI a' b' c' d' e' f').any p = true) : (cellsI a b c d e f).any p = true := by
  obtain ⟨x, h1, h2⟩ := List.any_eq_true.1 h
  exact List.any_eq_true.2 ⟨x, cells_in hB ha hb hc had hbe hcf hd he hf h1, h2⟩
theorem len_in (hB : BoxOk a b c d e f) (ha : a ≤ a') (hb : b ≤ b') (hc : c ≤ c') (had : a' ≤ d') (hbe : b' ≤ e') (hcf : c' ≤ f') (hd : d' ≤ d) (he : e' ≤ e) (hf : f' ≤ f) : (cellsI a' b' c' d' e' f').length ≤ (cellsI a b c d e f).length := by
  unfold cellsI
  cases hi : isI a' b' c' d' e' f'
  · simp
  · rw [if_pos rfl]
    unfold isI at hi
    simp only [Bool.not_eq_true', Bool.or_eq_false_iff] at hi
    obtain ⟨t1, t2, t3⟩ := hi
    have i2 : isI a b c d e f = true := by
      unfold isI
      simp only [Bool.not_eq_true', Bool.or_eq_false_iff]
      refine ⟨Bool.eq_false_iff.2 fun h => ?_, Bool.eq_false_iff.2 fun h => ?_, Bool.eq_false_iff.2 fun h => ?_⟩
      · rw [thin_in ha had hd h] at t1; cases t1
      · rw [thin_in hb hbe he h] at t2; cases t2
      · rw [thin_in hc hcf hf h] at t3; cases t3
    rw [i2, if_pos rfl, boxL_length, boxL_length]
    have l1 := low_mono ha
    have l2 := low_mono hb
    have l3 := low_mono hc
    have m1 := top_mono hB.a1 ha had hd hB.d2 t1
    have m2 := top_mono hB.b1 hb hbe he hB.e2 t2
    have m3 := top_mono hB.c1 hc hcf hf hB.f2 t3
    exact Nat.mul_le_mul (by omega) (Nat.mul_le_mul (by omega) (by omega))
end
/-- What is cut off of a side. -/
def cutLo (n m k : Int) : Int := n + Int.tmod k (m - n + 1)
def cutHi (n m k j : Int) : Int := cutLo n m k + Int.tmod j (m - cutLo n m k + 1)
theorem cut_bd {n m k j : Int} (h : n ≤ m) (hk : 0 ≤ k) (hj : 0 ≤ j) : n ≤ cutLo n m k ∧ cutLo n m k ≤ cutHi n m k j ∧ cutHi n m k j ≤ m := by
  have h1 := Int.tmod_nonneg (m - n + 1) hk
  have h2 := Int.tmod_lt_of_pos k (show 0 < m - n + 1 by omega)
  have h3 : cutLo n m k ≤ m := by unfold cutLo; omega
  have h4 := Int.tmod_nonneg (m - cutLo n m k + 1) hj
  have h5 := Int.tmod_lt_of_pos j (show 0 < m - cutLo n m k + 1 by omega)
  unfold cutHi
  refine ⟨by unfold cutLo; omega, by omega, by omega⟩
end Go.Proofs.Ytmkmaoodeebmfaa
