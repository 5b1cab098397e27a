/- Records: their bytes, and what bytes hold. No program in sight. -/
import Derived.Test.YtkopenemoddbbaaDiskM
namespace Go.Proofs.Ytkopenemoddbbaa
open Go.RowKit

theorem n8_ofInt (x : Int) : n8 (BitVec.ofInt 8 x) = x % 256 := by
  unfold n8
  rw [BitVec.toNat_ofInt]
  omega
/-- A number's bytes, the highest first. -/
def digF (n : Int) (many : Nat) (i : Nat) : B8 := BitVec.ofInt 8 (n / 256 ^ (many - 1 - i))
/-- The number of bytes. -/
def numF (F : Nat → B8) (k : Nat) : Nat → Int
  | 0 => 0
  | n + 1 => numF F k n * 256 + n8 (F (k + n))
theorem num_cong {F G : Nat → B8} {k j : Nat} : ∀ {n : Nat}, (∀ i, i < n → F (k + i) = G (j + i)) → numF F k n = numF G j n
  | 0, _ => rfl
  | n + 1, h => by
    unfold numF
    rw [num_cong (fun i hi => h i (by omega)), h n (by omega)]
theorem num_lo (F : Nat → B8) (k : Nat) : ∀ n, 0 ≤ numF F k n
  | 0 => Int.le_refl _
  | n + 1 => by
    have h1 := num_lo F k n
    have h2 := n8_lt (F (k + n))
    unfold numF
    omega
theorem num3 (F : Nat → B8) (k : Nat) : numF F k 3 < 16777216 := by
  have h0 := n8_lt (F (k + 0))
  have h1 := n8_lt (F (k + 1))
  have h2 := n8_lt (F (k + 2))
  simp only [numF]
  omega
theorem num4 (F : Nat → B8) (k : Nat) : numF F k 4 < 4294967296 := by
  have h0 := n8_lt (F (k + 0))
  have h1 := n8_lt (F (k + 1))
  have h2 := n8_lt (F (k + 2))
  have h3 := n8_lt (F (k + 3))
  simp only [numF]
  omega
theorem num_dig4 {n : Int} (h0 : 0 ≤ n) (h1 : n < 4294967296) : numF (digF n 4) 0 4 = n := by
  simp only [numF, digF, n8_ofInt, Nat.zero_add, Nat.add_zero, Nat.reduceSub, Int.reducePow]
  omega
theorem num_dig3 {n : Int} (h0 : 0 ≤ n) (h1 : n < 16777216) : numF (digF n 3) 0 3 = n := by
  simp only [numF, digF, n8_ofInt, Nat.zero_add, Nat.add_zero, Nat.reduceSub, Int.reducePow]
  omega

/-! ### lists of bytes -/
abbrev fb (b : Bs) : Nat → B8 := fun i => b.getD i 0
theorem fb_bs (F : Nat → B8) {n i : Nat} (h : i < n) : fb (bsOf F n) i = F i := by
  unfold fb
  rw [List.getD_eq_getElem?_getD, bsOf_at h]; rfl
theorem crc_cong {F G : Nat → B8} {n : Nat} (h : ∀ i, i < n → F i = G i) : crcO F n = crcO G n := crcN_cong _ _ _ n h
theorem okF_cong {F G : Nat → B8} {n : Nat} (h : ∀ i, i < n → F i = G i) : okF F n ↔ okF G n := by
  unfold okF
  rw [crc_cong h]
/-- A record's first seven bytes; all of them. -/
def headF (v n : Int) : Nat → B8 := cat (digF v 4) 4 (digF n 3)
def recF (v : Int) (F : Nat → B8) (n : Nat) : Nat → B8 := putF (cat (headF v n) 7 F) (7 + n)
def recB (v : Int) (b : Bs) : Bs := bsOf (recF v (fb b) b.length) (7 + b.length + 2)
theorem recB_len (v : Int) (b : Bs) : (recB v b).length = b.length + 9 := by unfold recB; rw [bsOf_len]; omega
open Classical in
/-- The record of bytes: its version, its body, or why there is none. -/
noncomputable def readL (b : Bs) : Int × Bs × Int :=
  if b.length < 2 then (0, [], 3)
  else if ¬ okF (fb b) b.length then (0, [], 4)
  else if b.length < 9 then (0, [], 3)
  else if numF (fb b) 0 4 < 1 ∨ 1073741824 < numF (fb b) 0 4 ∨ 65536 < numF (fb b) 4 3 ∨ numF (fb b) 4 3 ≠ (b.length : Int) - 9 then (0, [], 2)
  else (numF (fb b) 0 4, (b.take (b.length - 2)).drop 7, 0)
theorem read_short {b : Bs} (h : b.length < 2) : readL b = (0, [], 3) := by unfold readL; rw [if_pos h]
theorem read_sum {b : Bs} (h : ¬ b.length < 2) (h1 : ¬ okF (fb b) b.length) : readL b = (0, [], 4) := by unfold readL; rw [if_neg h, if_pos h1]
theorem read_low {b : Bs} (h1 : okF (fb b) b.length) (h2 : b.length < 9) : readL b = (0, [], 3) := by
  unfold readL
  rw [if_neg (by have := h1.1; omega), if_neg (by simpa using h1), if_pos h2]
theorem read_form {b : Bs} (h1 : okF (fb b) b.length) (h2 : ¬ b.length < 9) (h3 : numF (fb b) 0 4 < 1 ∨ 1073741824 < numF (fb b) 0 4 ∨ 65536 < numF (fb b) 4 3 ∨ numF (fb b) 4 3 ≠ (b.length : Int) - 9) : readL b = (0, [], 2) := by
  unfold readL
  rw [if_neg (by omega), if_neg (by simpa using h1), if_neg h2, if_pos h3]
theorem read_good {b : Bs} (h1 : okF (fb b) b.length) (h2 : ¬ b.length < 9) (h3 : ¬ (numF (fb b) 0 4 < 1 ∨ 1073741824 < numF (fb b) 0 4 ∨ 65536 < numF (fb b) 4 3 ∨ numF (fb b) 4 3 ≠ (b.length : Int) - 9)) : readL b = (numF (fb b) 0 4, (b.take (b.length - 2)).drop 7, 0) := by
  unfold readL
  rw [if_neg (by omega), if_neg (by simpa using h1), if_neg h2, if_neg h3]
/-- What is known of any answer. -/
theorem read_cases (b : Bs) : (((readL b).2.2 = 3 ∨ (readL b).2.2 = 4 ∨ (readL b).2.2 = 2) ∧ (readL b).1 = 0 ∧ (readL b).2.1 = []) ∨
    ((readL b).2.2 = 0 ∧ 1 ≤ (readL b).1 ∧ (readL b).1 ≤ 1073741824 ∧ okF (fb b) b.length ∧ 9 ≤ b.length ∧ numF (fb b) 0 4 = (readL b).1 ∧ numF (fb b) 4 3 = (b.length : Int) - 9 ∧ (readL b).2.1 = (b.take (b.length - 2)).drop 7 ∧ (readL b).2.1.length = b.length - 9) := by
  by_cases h1 : b.length < 2
  · rw [read_short h1]; exact .inl ⟨.inl rfl, rfl, rfl⟩
  · by_cases h2 : okF (fb b) b.length
    · by_cases h3 : b.length < 9
      · rw [read_low h2 h3]; exact .inl ⟨.inl rfl, rfl, rfl⟩
      · by_cases h4 : numF (fb b) 0 4 < 1 ∨ 1073741824 < numF (fb b) 0 4 ∨ 65536 < numF (fb b) 4 3 ∨ numF (fb b) 4 3 ≠ (b.length : Int) - 9
        · rw [read_form h2 h3 h4]; exact .inl ⟨.inr (.inr rfl), rfl, rfl⟩
        · rw [read_good h2 h3 h4]
          exact .inr ⟨rfl, by dsimp only; omega, by dsimp only; omega, h2, by omega, rfl, by omega, rfl, by simp; omega⟩
    · rw [read_sum h1 h2]; exact .inl ⟨.inr (.inl rfl), rfl, rfl⟩
theorem rec_head (v : Int) (F : Nat → B8) (n i : Nat) (h : i < 7) : recF v F n i = headF v n i := by
  unfold recF putF
  simp only [cat]
  rw [if_pos (show i < 7 + n by omega), if_pos h]
theorem rec_body (v : Int) (F : Nat → B8) (n i : Nat) (h : i < n) : recF v F n (7 + i) = F i := by
  unfold recF putF
  simp only [cat]
  rw [if_pos (show 7 + i < 7 + n by omega), if_neg (by omega), Nat.add_sub_cancel_left]
theorem rec_num4 (v : Int) (F : Nat → B8) (n : Nat) : numF (recF v F n) 0 4 = numF (digF v 4) 0 4 := num_cong fun i hi => by
  rw [rec_head v F n (0 + i) (by omega)]
  simp only [headF, cat]
  rw [if_pos (by omega)]
theorem rec_num3 (v : Int) (F : Nat → B8) (n : Nat) : numF (recF v F n) 4 3 = numF (digF n 3) 0 3 := num_cong fun i hi => by
  rw [rec_head v F n (4 + i) (by omega)]
  simp only [headF, cat]
  rw [if_neg (by omega)]
  congr 1
  omega
/-- What is written is read as it was. -/
theorem read_rec {v : Int} {b : Bs} (h1 : 1 ≤ v) (h2 : v ≤ 1073741824) (h3 : b.length ≤ 65536) : readL (recB v b) = (v, b, 0) := by
  have hl := recB_len v b
  have hf : ∀ i, i < b.length + 9 → fb (recB v b) i = recF v (fb b) b.length i := fun i hi => by unfold recB; exact fb_bs _ (by omega)
  have hok : okF (fb (recB v b)) (recB v b).length := by
    rw [hl, okF_cong hf]
    have := put_ok (cat (headF v b.length) 7 (fb b)) (7 + b.length)
    rw [show 7 + b.length + 2 = b.length + 9 by omega] at this
    exact this
  have e4 : numF (fb (recB v b)) 0 4 = v := by
    rw [num_cong (F := fb (recB v b)) (G := recF v (fb b) b.length) (j := 0) (fun i hi => hf _ (by omega)), rec_num4, num_dig4 (by omega) (by omega)]
  have e3 : numF (fb (recB v b)) 4 3 = b.length := by
    rw [num_cong (F := fb (recB v b)) (G := recF v (fb b) b.length) (j := 4) (fun i hi => hf _ (by omega)), rec_num3, num_dig3 (by omega) (by omega)]
  rw [read_good hok (by omega) (by rw [e4, e3, hl]; omega), e4]
  refine Prod.ext rfl (Prod.ext ?_ rfl)
  dsimp only
  apply List.ext_getElem?
  intro i
  rw [List.getElem?_drop, hl]
  by_cases hi : i < b.length
  · rw [List.getElem?_take_of_lt (by omega)]
    unfold recB
    rw [bsOf_at (by omega), rec_body _ _ _ _ hi]
    simp [hi]
  · rw [List.getElem?_eq_none (by simp; omega), List.getElem?_eq_none (by omega)]
/-- A record of which one byte is another one is none. -/
theorem read_turned {v : Int} {b : Bs} {k : Nat} {x : B8} (hk : k < b.length + 9) (hx : x ≠ (recB v b).getD k 0) : (readL ((recB v b).set k x)).2.2 ≠ 0 := by
  intro h0
  rcases read_cases ((recB v b).set k x) with ⟨h, -, -⟩ | ⟨-, -, -, h, -⟩
  · omega
  · rw [List.length_set, recB_len] at h
    have hS : okF (fb (recB v b)) (b.length + 9) := by
      have := put_ok (cat (headF v b.length) 7 (fb b)) (7 + b.length)
      rw [show 7 + b.length + 2 = b.length + 9 by omega] at this
      rw [okF_cong (G := recF v (fb b) b.length) (fun i hi => by unfold recB; exact fb_bs _ (by omega))]
      exact this
    have h1 : okF (updB (fb (recB v b)) k x) (b.length + 9) := by
      rw [okF_cong (G := fb ((recB v b).set k x)) fun i hi => ?_]
      · exact h
      · unfold updB fb
        rw [List.getD_eq_getElem?_getD, List.getD_eq_getElem?_getD, List.getElem?_set]
        by_cases e : k = i
        · subst e; simp [recB_len, hk]
        · have e' : ¬ i = k := fun h => e h.symm
          simp [e, e']
    exact hx ((one_ok _ _ _ _ hk hS).1 h1)
/-- A record that is torn is none. -/
theorem read_torn {v : Int} {b : Bs} {k : Nat} (h3 : b.length ≤ 65536) (hk : k < b.length + 9) : (readL ((recB v b).take k)).2.2 ≠ 0 := by
  intro h0
  have hl : ((recB v b).take k).length = k := by rw [List.length_take, recB_len]; omega
  rcases read_cases ((recB v b).take k) with ⟨h, -, -⟩ | ⟨-, -, -, -, h9, -, e3, -⟩
  · omega
  · rw [hl] at h9 e3
    have : numF (fb ((recB v b).take k)) 4 3 = b.length := by
      rw [num_cong (F := fb ((recB v b).take k)) (G := recF v (fb b) b.length) (j := 4) (fun i hi => ?_), rec_num3, num_dig3 (by omega) (by omega)]
      unfold fb
      rw [List.getD_eq_getElem?_getD, List.getElem?_take_of_lt (by omega)]
      unfold recB
      rw [bsOf_at (by omega)]; rfl
    omega
end Go.Proofs.Ytkopenemoddbbaa
