/- Floats of 64 bits: what a word's number is, in units of 2^-1074; whole numbers, and the whole number below. No program in sight. -/
import Derived.Laws.FloatArith
namespace Go.Proofs.Ytkfedmgodhkfgaa
open Go Ieee

/-- Units of 2^-1074. -/
def unitF : Int := 2 ^ 1074
theorem unitF_pos : 0 < unitF := by unfold unitF; exact Int.pow_pos (by decide)
/-- A number's units. -/
def unitsD : Datum → Int
  | .number s m e => signed s m (e + 1074).toNat
  | _ => 0
theorem signed_shift (s : Bool) (m a b : Nat) : signed s m (a + b) = signed s m a * 2 ^ b := by
  unfold signed
  have h : (m <<< (a + b) : Nat) = (m <<< a) * 2 ^ b := by rw [Nat.shiftLeft_eq, Nat.shiftLeft_eq, Nat.pow_add, Nat.mul_assoc]
  rw [h]
  cases s
  · simp
  · simp [Int.neg_mul]
theorem cmp_lt {a b : Int} (h : a < b) : compare a b = .lt := by simp [compare, compareOfLessAndEq, h]
theorem cmp_gt {a b : Int} (h : b < a) : compare a b = .gt := by
  have h1 : ¬ a < b := by omega
  have h2 : ¬ a = b := by omega
  simp [compare, compareOfLessAndEq, h1, h2]
theorem cmp_eq (a : Int) : compare a a = .eq := by simp [compare, compareOfLessAndEq]
theorem cmp_scale (a b : Int) (k : Nat) : compare (a * 2 ^ k) (b * 2 ^ k) = compare a b := by
  have hp : (0 : Int) < 2 ^ k := Int.pow_pos (by decide)
  rcases Int.lt_trichotomy a b with h | h | h
  · rw [cmp_lt h, cmp_lt (Int.mul_lt_mul_of_pos_right h hp)]
  · subst h; rw [cmp_eq, cmp_eq]
  · rw [cmp_gt h, cmp_gt (Int.mul_lt_mul_of_pos_right h hp)]
/-- Two numbers stand as their units do. -/
theorem order_units (s t : Bool) (m n : Nat) (i j : Int) (hi : -1074 ≤ i) (hj : -1074 ≤ j) : Datum.order (.number s m i) (.number t n j) = some (compare (unitsD (.number s m i)) (unitsD (.number t n j))) := by
  unfold Datum.order unitsD
  simp only
  congr 1
  obtain ⟨k, hk⟩ : ∃ k : Nat, min i j + 1074 = k := ⟨(min i j + 1074).toNat, by omega⟩
  rw [show (i + 1074).toNat = (i - min i j).toNat + k by omega, show (j + 1074).toNat = (j - min i j).toNat + k by omega, signed_shift, signed_shift, cmp_scale]
/-- What a word of 64 bits stands for is no number, or one of a place from -1074 on. -/
theorem read_place (b : Nat) : (∃ s m e, Ieee.double.read b = .number s m e ∧ -1074 ≤ e) ∨ (∃ s, Ieee.double.read b = .infinity s) ∨ (∃ s t, Ieee.double.read b = .nan s t) := by
  have hl : Ieee.double.leastPlace = -1074 := by decide
  unfold Format.read
  simp only
  split
  · exact .inl ⟨_, _, _, rfl, by rw [hl]; omega⟩
  · split
    · exact .inl ⟨_, _, _, rfl, by rw [hl]; omega⟩
    · split
      · exact .inr (.inl ⟨_, rfl⟩)
      · exact .inr (.inr ⟨_, _, rfl⟩)
theorem cut_zero (way : Toward) (s : Bool) (n : Nat) : way.cut s n 0 = n := by
  unfold Toward.cut
  simp only [Nat.zero_min, Nat.shiftLeft_zero, Nat.div_one, Nat.mod_one]
  cases way <;> simp
/-- The word of a whole number of less than 2^53. -/
theorem read_write (s : Bool) (n : Nat) (h0 : 0 < n) (h : n < 2 ^ 53) : Ieee.double.read (Ieee.double.write (.number s n 0)) = .number s (n * 2 ^ (52 - n.log2)) (n.log2 - 52 : Int) := by
  have hL : n.log2 < 53 := (Nat.log2_lt (by omega)).2 h
  have h1 : 2 ^ n.log2 ≤ n := Nat.log2_self_le (by omega)
  have h2 : n < 2 ^ (n.log2 + 1) := Nat.lt_log2_self
  generalize hlg : n.log2 = L at *
  have hK1 : 2 ^ 52 ≤ n * 2 ^ (52 - L) := by
    calc 2 ^ 52 = 2 ^ L * 2 ^ (52 - L) := by rw [← Nat.pow_add]; congr 1; omega
      _ ≤ _ := Nat.mul_le_mul_right _ h1
  have hK2 : n * 2 ^ (52 - L) < 2 ^ 53 := by
    calc n * 2 ^ (52 - L) < 2 ^ (L + 1) * 2 ^ (52 - L) := Nat.mul_lt_mul_of_pos_right h2 (Nat.two_pow_pos _)
      _ = 2 ^ 53 := by rw [← Nat.pow_add]; congr 1; omega
  have hw : Ieee.double.write (.number s n 0) = Ieee.double.word s ((L + 1022) * 2 ^ 52 + n * 2 ^ (52 - L)) := by
    show Ieee.double.nearest s n 0 = _
    unfold Format.nearest
    rw [if_neg (by omega)]
    simp only [hlg]
    have e1 : max ((0 : Int) + (L : Int) - (Ieee.double.fractionBits : Int)) Ieee.double.leastPlace = (L : Int) - 52 := by
      rw [show Ieee.double.leastPlace = -1074 by decide, show (Ieee.double.fractionBits : Int) = 52 by rfl]; omega
    rw [e1]
    rw [show ((0 : Int) - ((L : Int) - 52)).toNat = 52 - L by omega, show ((L : Int) - 52 - 0).toNat = 0 by omega, cut_zero, Nat.shiftLeft_eq]
    rw [show Ieee.double.leastPlace = -1074 by decide, show ((L : Int) - 52 - -1074).toNat = L + 1022 by omega, show Ieee.double.binade = 2 ^ 52 by rfl, show Ieee.double.infRung = 2047 * 2 ^ 52 by rfl]
    congr 1
    have : (L + 1022) * 2 ^ 52 ≤ 1074 * 2 ^ 52 := Nat.mul_le_mul_right _ (by omega)
    omega
  rw [hw]
  generalize n * 2 ^ (52 - L) = K at *
  have hr : ∀ R, R < 2 ^ 63 → Ieee.double.word s R / Ieee.double.signWeight % 2 = s.toNat ∧ Ieee.double.word s R % Ieee.double.signWeight = R := by
    intro R hR
    have hs : Ieee.double.signWeight = 2 ^ 63 := by rfl
    unfold Format.word
    rw [hs]
    cases s
    · simp only [Bool.false_eq_true, if_false, Bool.toNat_false]; omega
    · simp only [if_true, Bool.toNat_true]; omega
  obtain ⟨r1, r2⟩ := hr ((L + 1022) * 2 ^ 52 + K) (by omega)
  unfold Format.read
  simp only [r1, r2]
  rw [show Ieee.double.binade = 2 ^ 52 by rfl, show Ieee.double.infRung = 2047 * 2 ^ 52 by rfl, show Ieee.double.leastPlace = -1074 by decide]
  rw [if_neg (by omega), if_pos (by omega)]
  have d1 : ((L + 1022) * 2 ^ 52 + K) % 2 ^ 52 = K - 2 ^ 52 := by omega
  have d2 : ((L + 1022) * 2 ^ 52 + K) / 2 ^ 52 = L + 1023 := by omega
  rw [d1, d2]
  have e1 : 2 ^ 52 + (K - 2 ^ 52) = K := by omega
  rw [e1]
  rw [show (s.toNat == 1) = s by cases s <;> rfl, show (-1074 + ((L + 1023 - 1 : Nat) : Int)) = (L : Int) - 52 by omega]
theorem read_zero (s : Bool) : Ieee.double.read (Ieee.double.write (.number s 0 0)) = .number s 0 (-1074) := by cases s <;> decide +kernel
theorem signed_eq (s : Bool) (n : Nat) : signed s n 0 = if s then -(n : Int) else n := by unfold signed; simp
theorem cast_pow (n k : Nat) : ((n * 2 ^ k : Nat) : Int) = (n : Int) * 2 ^ k := by rw [Int.natCast_mul, Int.natCast_pow]; rfl
theorem signed_units (s : Bool) (A n a k : Nat) (h : A <<< a = n * 2 ^ k) : signed s A a = signed s n 0 * 2 ^ k := by
  rw [signed_eq]
  unfold signed
  rw [h, cast_pow]
  cases s
  · simp
  · simp [Int.neg_mul]
/-- A whole number's word has its units. -/
theorem units_write (s : Bool) (n : Nat) (h : n < 2 ^ 53) : unitsD (Ieee.double.read (Ieee.double.write (.number s n 0))) = signed s n 0 * unitF := by
  by_cases h0 : n = 0
  · subst h0; rw [read_zero]; simp [unitsD, signed]
  · have hL : n.log2 < 53 := (Nat.log2_lt (by omega)).2 h
    rw [read_write s n (by omega) h]
    unfold unitsD unitF
    simp only
    rw [show ((n.log2 : Int) - 52 + 1074).toNat = n.log2 + 1022 by omega]
    have e : ((n * 2 ^ (52 - n.log2)) <<< (n.log2 + 1022) : Nat) = n * 2 ^ 1074 := by
      rw [Nat.shiftLeft_eq, Nat.mul_assoc, ← Nat.pow_add, show 52 - n.log2 + (n.log2 + 1022) = 1074 by omega]
    exact signed_units s _ n _ 1074 e
/-- A whole number's word, as a whole number again. -/
theorem toInt_write (s : Bool) (n : Nat) (h : n < 2 ^ 53) : (Ieee.double.read (Ieee.double.write (.number s n 0))).toInt .zero = some (signed s n 0) := by
  by_cases h0 : n = 0
  · subst h0; rw [read_zero]; cases s <;> decide +kernel
  · have hL : n.log2 < 53 := (Nat.log2_lt (by omega)).2 h
    rw [read_write s n (by omega) h]
    unfold Datum.toInt Datum.integral
    simp only
    congr 2
    rw [show ((n.log2 : Int) - 52).toNat = 0 by omega, show (-((n.log2 : Int) - 52)).toNat = 52 - n.log2 by omega, Nat.shiftLeft_zero]
    generalize hk : 52 - n.log2 = k
    unfold Toward.cut
    have hlog : (n * 2 ^ k).log2 + 2 ≥ k := by
      have h1 : 2 ^ k ≤ n * 2 ^ k := Nat.le_mul_of_pos_left _ (by omega)
      have := (Nat.le_log2 (n := n * 2 ^ k) (k := k) (by have := Nat.two_pow_pos k; omega)).2 h1
      omega
    rw [Nat.min_eq_left hlog]
    simp [Nat.shiftLeft_eq, Nat.mul_div_cancel _ (Nat.two_pow_pos k)]
/-- The whole number below. -/
theorem floor_units (s : Bool) (m : Nat) (e : Int) (he : -1074 ≤ e) : signed s (Toward.down.cut s (m <<< e.toNat) (-e).toNat) 0 = unitsD (.number s m e) / unitF := by
  unfold unitsD
  simp only
  by_cases h : 0 ≤ e
  · rw [show (-e).toNat = 0 by omega, cut_zero, show (e + 1074).toNat = e.toNat + 1074 by omega, signed_shift]
    show _ = signed s m e.toNat * unitF / unitF
    rw [Int.mul_ediv_cancel _ (by have := unitF_pos; omega), signed_eq]
    unfold signed
    rfl
  · obtain ⟨k, hk, hk2⟩ : ∃ k : Nat, e = -(k : Int) ∧ k ≤ 1074 := ⟨(-e).toNat, by omega, by omega⟩
    subst hk
    rw [show (-(k : Int)).toNat = 0 by omega, show (- -(k : Int)).toNat = k by omega, Nat.shiftLeft_zero, show (-(k : Int) + 1074).toNat = 1074 - k by omega]
    have hcut : Toward.down.cut s m k = m / 2 ^ k + (s && m % 2 ^ k != 0).toNat := by
      unfold Toward.cut
      simp only [Nat.shiftLeft_eq, Nat.one_mul]
      by_cases hlog : k ≤ m.log2 + 2
      · rw [Nat.min_eq_left hlog]
      · rw [Nat.min_eq_right (by omega)]
        have h1 : m < 2 ^ (m.log2 + 1) := Nat.lt_log2_self
        have h2 : (2 : Nat) ^ (m.log2 + 1) ≤ 2 ^ (m.log2 + 2) := Nat.pow_le_pow_right (by decide) (by omega)
        have h3 : (2 : Nat) ^ (m.log2 + 2) ≤ 2 ^ k := Nat.pow_le_pow_right (by decide) (by omega)
        rw [Nat.div_eq_of_lt (by omega), Nat.mod_eq_of_lt (by omega), Nat.div_eq_of_lt (by omega), Nat.mod_eq_of_lt (by omega)]
    rw [hcut, signed_eq]
    have hu : unitF = 2 ^ (1074 - k) * 2 ^ k := by unfold unitF; rw [← Int.pow_add]; congr 1; omega
    have hs : signed s m (1074 - k) = signed s m 0 * 2 ^ (1074 - k) := by rw [← signed_shift, Nat.zero_add]
    rw [hs, hu, Int.mul_comm (signed s m 0), Int.mul_ediv_mul_of_pos _ _ (Int.pow_pos (by decide)), signed_eq]
    have hp : ((2 : Int) ^ k) = ((2 ^ k : Nat) : Int) := by simp
    rw [hp]
    have hpos : 0 < 2 ^ k := Nat.two_pow_pos k
    generalize (2 : Nat) ^ k = g at *
    cases s
    · simp
    · simp only [Bool.true_and, if_true]
      have hd := Nat.div_add_mod m g
      have hm := Nat.mod_lt m hpos
      by_cases h0 : m % g = 0
      · have e1 : m = g * (m / g) := by omega
        rw [h0]
        simp
        rw [Int.neg_ediv_of_dvd ⟨((m / g : Nat) : Int), by rw [← Int.natCast_mul, ← e1]⟩]
      · have : (m % g != 0) = true := by simpa using h0
        rw [this]
        simp only [Bool.toNat_true]
        symm
        rw [Int.ediv_eq_iff_of_pos (by omega)]
        have hq : ((m / g + 1 : Nat) : Int) * g = ((g * (m / g) + g : Nat) : Int) := by rw [← Int.natCast_mul, Nat.add_mul, Nat.one_mul, Nat.mul_comm]
        rw [Int.neg_mul, hq]
        omega
/-- A whole number's float. -/
def floatI (M : Int) : Nat := FloatKind.f64.nearest M
theorem signed_abs (M : Int) : signed (decide (M < 0)) M.natAbs 0 = M := by
  rw [signed_eq]
  by_cases h : M < 0
  · simp [h]; omega
  · simp [h]; omega
theorem units_floatI (M : Int) (h : M.natAbs < 2 ^ 53) : unitsD (Ieee.double.read (floatI M)) = M * unitF := by
  show unitsD (Ieee.double.read (Ieee.double.write (.number (decide (M < 0)) M.natAbs 0))) = _
  rw [units_write _ _ h, signed_abs]
theorem number_floatI (M : Int) (h : M.natAbs < 2 ^ 53) : ∃ s m e, Ieee.double.read (floatI M) = .number s m e ∧ -1074 ≤ e := by
  show ∃ s m e, Ieee.double.read (Ieee.double.write (.number (decide (M < 0)) M.natAbs 0)) = _ ∧ _
  by_cases h0 : M.natAbs = 0
  · rw [h0, read_zero]; exact ⟨_, _, _, rfl, by omega⟩
  · rw [read_write _ _ (by omega) h]; exact ⟨_, _, _, rfl, by omega⟩
/-- A whole number against a float's number. -/
theorem order_int {M : Int} (h : M.natAbs < 2 ^ 53) {x : Nat} {s : Bool} {m : Nat} {e : Int} (hx : Ieee.double.read x = .number s m e) (he : -1074 ≤ e) :
    Ieee.double.order (floatI M) x = some (compare (M * unitF) (unitsD (Ieee.double.read x))) := by
  obtain ⟨t, n, j, hr, hj⟩ := number_floatI M h
  unfold Format.order
  rw [← units_floatI M h, hr, hx, order_units _ _ _ _ _ _ hj he]
theorem order_int' {M : Int} (h : M.natAbs < 2 ^ 53) {x : Nat} {s : Bool} {m : Nat} {e : Int} (hx : Ieee.double.read x = .number s m e) (he : -1074 ≤ e) :
    Ieee.double.order x (floatI M) = some (compare (unitsD (Ieee.double.read x)) (M * unitF)) := by
  obtain ⟨t, n, j, hr, hj⟩ := number_floatI M h
  unfold Format.order
  rw [← units_floatI M h, hr, hx, order_units _ _ _ _ _ _ he hj]
theorem cmp_le_iff (a b : Int) : (some (compare a b) == some Ordering.lt || some (compare a b) == some Ordering.eq) = decide (a ≤ b) := by
  rcases Int.lt_trichotomy a b with h | h | h
  · rw [cmp_lt h]; simp; omega
  · subst h; rw [cmp_eq]; simp
  · rw [cmp_gt h]; simp; omega
theorem cmp_lt_iff (a b : Int) : (some (compare a b) == some Ordering.lt) = decide (a < b) := by
  rcases Int.lt_trichotomy a b with h | h | h
  · rw [cmp_lt h]; simp [h]
  · subst h; rw [cmp_eq]; simp
  · rw [cmp_gt h]; simp; omega
theorem cmp_gt_iff (a b : Int) : (some (compare a b) == some Ordering.gt) = decide (b < a) := by
  rcases Int.lt_trichotomy a b with h | h | h
  · rw [cmp_lt h]; simp; omega
  · subst h; rw [cmp_eq]; simp
  · rw [cmp_gt h]; simp [h]
/-- float64(M) <= x just if M is not above the whole number below x. -/
theorem le_floor {M : Int} (h : M.natAbs < 2 ^ 53) {x : Nat} {s : Bool} {m : Nat} {e : Int} (hx : Ieee.double.read x = .number s m e) (he : -1074 ≤ e) :
    (Ieee.double.order (floatI M) x == some .lt || Ieee.double.order (floatI M) x == some .eq) = decide (M ≤ unitsD (Ieee.double.read x) / unitF) := by
  rw [order_int h hx he, cmp_le_iff, decide_eq_decide]
  exact (Int.le_ediv_iff_mul_le unitF_pos).symm
/-- The whole number below, as a float, and as a whole number again. -/
theorem floor_back {x : Nat} {s : Bool} {m : Nat} {e : Int} (hx : Ieee.double.read x = .number s m e) (he : -1074 ≤ e) (h : (unitsD (Ieee.double.read x) / unitF).natAbs ≤ 140737488355328) :
    floatToIntVal .f64 (FloatKind.f64.encode ((FloatKind.f64.decode x).integral .down)) .i64 = some (unitsD (Ieee.double.read x) / unitF) := by
  have hf := floor_units s m e he
  rw [hx] at h ⊢
  rw [← hf] at h ⊢
  have hd : FloatKind.f64.decode x = .number s m e := hx
  rw [hd]
  unfold Datum.integral
  simp only
  generalize Toward.down.cut s (m <<< e.toNat) (-e).toNat = n at *
  have hn : n ≤ 140737488355328 := by rw [signed_eq] at h; cases s <;> simp at h <;> omega
  unfold floatToIntVal
  have ht : (FloatKind.f64.decode (FloatKind.f64.encode (.number s n 0))).toInt .zero = some (signed s n 0) := toInt_write s n (by omega)
  rw [ht]
  simp only
  rw [if_pos]
  rw [signed_eq]
  show -9223372036854775808 ≤ _ ∧ _ ≤ 9223372036854775807
  cases s <;> simp <;> omega
end Go.Proofs.Ytkfedmgodhkfgaa
