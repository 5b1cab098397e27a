/- What fits a disk; what a crash tears. No program in sight. -/
import Derived.Test.YtlmjggbpophnfaaDisk5
namespace Go.Proofs.Ytlmjggbpophnfaa

theorem fits_le {S : DS} {N M : Nat} {key : Int} {b : Bs} (h : DOk S N M) (hb : b.length ≤ M) (hr : (((N + 1) * M : Nat) : Int) ≤ S.room) : S.fits key b = true := by
  obtain ⟨-, -, n3, n4⟩ := h.now
  unfold DS.fits
  have h1 := lenB_le (M := M) (l := putL S.now (key, b)) (fun p hp => by
    rcases mem_putL hp with rfl | hp
    · exact hb
    · exact n4 p hp)
  have h2 := len_putL (key, b) S.now
  have h3 : (putL S.now (key, b)).length * M ≤ (N + 1) * M := Nat.mul_le_mul_right _ (by omega)
  rw [decide_eq_true_iff]
  omega
theorem asked_no {S : DS} (hw : S.waits = 0) (hf : S.fails = 0) : S.asked = (S, false) := by
  unfold DS.asked
  rw [if_neg (by omega), if_neg (by omega)]
theorem dput_ok {S : DS} {key : Int} {b : Bs} (hw : S.waits = 0) (hf : S.fails = 0) (h : S.fits key b = true) : S.put key b = ({ S with l := S.l ++ [(key, b)] }, 0) := by
  unfold DS.put
  rw [asked_no hw hf, h]
  rfl
theorem dput_full {S : DS} {key : Int} {b : Bs} (hw : S.waits = 0) (hf : S.fails = 0) (h : S.fits key b = false) : S.put key b = (S, 8) := by
  unfold DS.put
  rw [asked_no hw hf, h]
  rfl
theorem dsync_ok {S : DS} (hw : S.waits = 0) (hf : S.fails = 0) : S.sync = ({ S with safe := S.now, l := [] }, 0) := by
  unfold DS.sync
  rw [asked_no hw hf]
  rfl
/-! ### what a crash tears -/
theorem crash_get {j : Int} : ∀ {r s : List (Int × Bs)} {k : Nat}, Rise s → (∀ p ∈ r, p.1 ≠ j) → getL (crashL s r k) j = getL s j
  | [], _, _, _, _ => rfl
  | x :: r, s, k, h, hr => by
    have hx := hr x List.mem_cons_self
    unfold crashL
    split
    · rw [crash_get (rise_putL h) (fun p hp => hr p (List.mem_cons_of_mem _ hp)), getL_put _ _ h, if_neg hx]
    · rw [getL_put _ _ h, if_neg hx]
def rowsT (R : Nat → Bs) (n : Nat) : List (Int × Bs) := (List.range n).map fun (j : Nat) => ((j : Int), R j)
theorem rowsT_len (R : Nat → Bs) (n : Nat) : (rowsT R n).length = n := by simp [rowsT]
theorem rowsT_succ (R : Nat → Bs) (n : Nat) : rowsT R (n + 1) = rowsT R n ++ [((n : Int), R n)] := by simp [rowsT, List.range_succ]
theorem rowsT_drop (R : Nat → Bs) {n i : Nat} (h : i < n) : (rowsT R n).drop i = ((i : Int), R i) :: (rowsT R n).drop (i + 1) := by
  rw [List.drop_eq_getElem_cons (by rw [rowsT_len]; exact h)]
  simp [rowsT]
theorem rowsT_mem {R : Nat → Bs} {n i : Nat} {p : Int × Bs} (h : p ∈ (rowsT R n).drop i) : (i : Int) ≤ p.1 := by
  obtain ⟨j, hj, rfl⟩ := List.mem_iff_getElem.1 h
  simp [rowsT]
  omega
/-- Ahead of number i: none is torn yet, or one is. -/
def TornAt (R : Nat → Bs) (n : Nat) (C : List (Int × Bs)) (i : Nat) (t : Bool) (l : Int) : Prop :=
  (t = true ∧ ∀ j : Int, (i : Int) ≤ j → getL C j = none) ∨ (t = false ∧ ∃ (k : Nat) (s : List (Int × Bs)), l = k ∧ k ≤ 1000 ∧ C = crashL s ((rowsT R n).drop i) k ∧ Rise s ∧ ∀ p ∈ s, p.1 < i)
theorem torn_get {R : Nat → Bs} {n i k : Nat} {s : List (Int × Bs)} (hi : i < n) (hs : Rise s) : getL (crashL s ((rowsT R n).drop i) k) i = some ((R i).take k) := by
  rw [rowsT_drop R hi]
  unfold crashL
  split
  · rename_i h
    dsimp only at h
    rw [crash_get (rise_putL hs) (fun p hp => by have := rowsT_mem hp; omega), getL_put _ _ hs, if_pos rfl, List.take_of_length_le h]
  · rw [getL_put _ _ hs, if_pos rfl]
theorem torn_whole {R : Nat → Bs} {n i k : Nat} {s : List (Int × Bs)} (hi : i < n) (hs : Rise s) (hk : ∀ p ∈ s, p.1 < (i : Int)) (h : (R i).length ≤ k) (h9 : k ≤ 1000) :
    TornAt R n (crashL s ((rowsT R n).drop i) k) (i + 1) false ((k : Int) - (R i).length) := by
  refine .inr ⟨rfl, k - (R i).length, putL s ((i : Int), R i), by omega, by omega, ?_, rise_putL hs, fun p hp => ?_⟩
  · rw [rowsT_drop R hi]
    conv => lhs; unfold crashL
    rw [if_pos h]
  · rcases mem_putL hp with rfl | hp
    · dsimp only; omega
    · have := hk p hp; omega
theorem torn_part {R : Nat → Bs} {n i k : Nat} {s : List (Int × Bs)} (hi : i < n) (hs : Rise s) (hk : ∀ p ∈ s, p.1 < (i : Int)) (h : k < (R i).length) (l : Int) :
    TornAt R n (crashL s ((rowsT R n).drop i) k) (i + 1) true l := by
  refine .inl ⟨rfl, fun j hj => ?_⟩
  rw [rowsT_drop R hi]
  unfold crashL
  rw [if_neg (by dsimp only; omega), getL_put _ _ hs, if_neg (by dsimp only; omega)]
  exact getL_none fun p hp => by have := hk p hp; omega
theorem crash_cap (l : List (Int × Bs)) (k : Nat) (s : List (Int × Bs)) : crashL s l (min k (lenB l)) = crashL s l k := by
  rcases Nat.le_total k (lenB l) with h | h
  · rw [Nat.min_eq_left h]
  · rw [Nat.min_eq_right h, crash_all (Nat.le_refl _), crash_all h]
theorem torn_start (R : Nat → Bs) (n : Nat) (k : Nat) (h : k ≤ 1000) : TornAt R n (crashL [] (rowsT R n) k) 0 false k := .inr ⟨rfl, k, [], rfl, h, rfl, rise_nil, fun p hp => by cases hp⟩
/-- A disk to which so many were put. -/
def tornS (R : Nat → Bs) (i : Nat) : DS := ⟨10000, 0, 0, [], rowsT R i⟩
theorem torn_ok {R : Nat → Bs} : ∀ {i : Nat}, i ≤ 6 → (∀ j, j < i → (R j).length ≤ 20) → DOk (tornS R i) i 20 ∧ (∀ b : Bs, b.length ≤ 20 → i < 6 → R i = b → (tornS R i).put i b = (tornS R (i + 1), 0))
  | i, h, hR => by
    have h1 : DOk (tornS R i) i 20 := by
      refine ⟨rise_nil, fun p hp => ?_, ?_, fun p hp => ?_, ⟨by show (0 : Int) ≤ 10000; decide, by show (10000 : Int) ≤ 1048576; decide⟩, .inl rfl, ⟨by show (0 : Int) ≤ 0; decide, by show (0 : Int) ≤ 9223372036854775807; decide⟩⟩
      · obtain ⟨j, hj, rfl⟩ := List.mem_iff_getElem.1 hp
        simp only [tornS, List.nil_append] at hj ⊢
        rw [rowsT_len] at hj
        simp only [rowsT, List.getElem_map, List.getElem_range]
        exact ⟨by omega, by omega⟩
      · simp [tornS, rowsT_len]
      · obtain ⟨j, hj, rfl⟩ := List.mem_iff_getElem.1 hp
        simp only [tornS, List.nil_append] at hj ⊢
        rw [rowsT_len] at hj
        simp only [rowsT, List.getElem_map, List.getElem_range]
        exact hR j hj
    refine ⟨h1, fun b hb hi e => ?_⟩
    subst e
    rw [dput_ok rfl rfl (fits_le h1 hb (by show _ ≤ (10000 : Int); omega))]
    unfold tornS
    rw [rowsT_succ]
end Go.Proofs.Ytlmjggbpophnfaa
