/- What a ray sees: how many, each once, each beside the one ahead, at times that do not fall; along an axis; toward a place. Plain. No program in sight. -/
import Derived.Test.YtjlgcfdpfalbpaaRayQ
namespace Go.Proofs.Ytjlgcfdpfalbpaa

structure RpOk (p : Rp) : Prop where
  l0 : ∀ b, b < 3 → 0 ≤ comp p.l b ∧ comp p.l b ≤ 65536
  s0 : ∀ b, b < 3 → 0 ≤ comp p.s b ∧ comp p.s b ≤ 1048576
  u0 : ∀ b, b < 3 → comp p.u b = 0 ∨ comp p.u b = 1
theorem lt3 {b : Nat} (h : b < 3) : b = 0 ∨ b = 1 ∨ b = 2 := by omega
theorem soon_t {al sa bl sb : Int} (ha : 0 ≤ sa) (h : soonB al sa bl sb = true) : 0 < sa ∧ (sb = 0 ∨ al * sb < bl * sa) := by
  unfold soonB at h
  split at h
  · simp at h; omega
  · simp at h; exact ⟨by omega, .inr h⟩
theorem soon_f {al sa bl sb : Int} (hb : 0 ≤ sb) (h : soonB al sa bl sb = false) : sa ≤ 0 ∨ (0 < sb ∧ bl * sa ≤ al * sb) := by
  unfold soonB at h
  split at h
  · simp at h; omega
  · simp at h; exact .inr ⟨by omega, by omega⟩
theorem pk_least (l s : I3) (hs : ∀ b, b < 3 → 0 ≤ comp s b) : (∀ b, b < 3 → comp s b ≠ 0 → comp s (pk l s) ≠ 0 ∧ comp l (pk l s) * comp s b ≤ comp l b * comp s (pk l s)) := by
  have s0 := hs 0 (by omega)
  have s1 := hs 1 (by omega)
  have s2 := hs 2 (by omega)
  obtain ⟨l0, l1, l2⟩ := l
  obtain ⟨v0, v1, v2⟩ := s
  simp only [comp, if_true, show (1 : Nat) ≠ 0 by decide, show (2 : Nat) ≠ 0 by decide, show (2 : Nat) ≠ 1 by decide, if_false] at s0 s1 s2
  unfold pk
  simp only
  intro b hb h0
  cases e1 : soonB l1 v1 l0 v0
  · simp only [Bool.false_eq_true, if_false]
    have f1 := soon_f s0 e1
    cases e2 : soonB l2 v2 l0 v0
    · have f2 := soon_f s0 e2
      simp only [Bool.false_eq_true, if_false]
      rcases lt3 hb with rfl | rfl | rfl <;> simp [comp] at h0 ⊢ <;> omega
    · have f2 := soon_t s2 e2
      simp only [if_true]
      rcases lt3 hb with rfl | rfl | rfl <;> simp [comp] at h0 ⊢
      · omega
      · refine ⟨by omega, frac_le (bl := l0) (bs := v0) (by omega) (by omega) (by omega) (by omega) (by omega)⟩
      · omega
  · simp only [if_true]
    have f1 := soon_t s1 e1
    cases e2 : soonB l2 v2 l1 v1
    · have f2 := soon_f s1 e2
      simp only [Bool.false_eq_true, if_false]
      rcases lt3 hb with rfl | rfl | rfl <;> simp [comp] at h0 ⊢ <;> omega
    · have f2 := soon_t s2 e2
      simp only [if_true]
      rcases lt3 hb with rfl | rfl | rfl <;> simp [comp] at h0 ⊢
      · refine ⟨by omega, frac_le (bl := l1) (bs := v1) (by omega) (by omega) (by omega) (by omega) (by omega)⟩
      · omega
      · omega
theorem inR_kc {R : Int} {k : K3} (h : inR R k = true) : ∀ b, b < 3 → (kc k b : Int) ≤ R := fun b hb => by
  unfold inR at h
  simp only [Bool.and_eq_true, decide_eq_true_eq] at h
  rcases lt3 hb with rfl | rfl | rfl
  · exact h.1.1
  · exact h.1.2
  · exact h.2
theorem inR_of {R : Int} {k : K3} (h : ∀ b, b < 3 → (kc k b : Int) ≤ R) : inR R k = true := by
  unfold inR
  simp only [Bool.and_eq_true, decide_eq_true_eq]
  exact ⟨⟨h 0 (by omega), h 1 (by omega)⟩, h 2 (by omega)⟩
section
variable {p : Rp} {R : Int}
theorem trL_len (hR : 0 ≤ R) : ∀ (f : Nat) (k : K3) (face time : Int), ((trL p R f k face time).length : Int) ≤ max 0 (3 * R + 1 - sumK k)
  | 0, _, _, _ => by simp [trL]; omega
  | f + 1, k, face, time => by
    cases h : inR R k
    · rw [trL_out h]; simp; omega
    · have hk := inR_kc h
      have := hk 0 (by omega); have := hk 1 (by omega); have := hk 2 (by omega)
      have hs : (sumK k : Int) = kc k 0 + kc k 1 + kc k 2 := by simp [sumK, kc]
      by_cases h0 : comp p.s (pk (lefts p.l k) p.s) = 0
      · rw [trL_stop h h0]; simp; omega
      · rw [trL_go h h0, List.length_cons]
        have ih := trL_len hR f (bump k (pk (lefts p.l k) p.s)) (2 * (pk (lefts p.l k) p.s : Int) + 1 - comp p.u (pk (lefts p.l k) p.s)) (quoI (comp (lefts p.l k) (pk (lefts p.l k) p.s)) (comp p.s (pk (lefts p.l k) p.s)))
        rw [sumK_bump] at ih
        omega
theorem trL_first {f : Nat} {k : K3} {face time : Int} (h : inR R k = true) : ∃ r, trL p R (f + 1) k face time = (cellK p k, face, time) :: r := by
  by_cases h0 : comp p.s (pk (lefts p.l k) p.s) = 0
  · exact ⟨_, trL_stop h h0⟩
  · exact ⟨_, trL_go h h0⟩
theorem trL_mem : ∀ (f : Nat) (k : K3) (face time : Int) (y : RH), y ∈ trL p R f k face time → ∃ k', sumK k ≤ sumK k' ∧ inR R k' = true ∧ y.1 = cellK p k'
  | 0, _, _, _, y, h => by simp [trL] at h
  | f + 1, k, face, time, y, h => by
    cases hi : inR R k
    · rw [trL_out hi] at h; cases h
    · by_cases h0 : comp p.s (pk (lefts p.l k) p.s) = 0
      · rw [trL_stop hi h0, List.mem_singleton] at h
        exact ⟨k, Nat.le_refl _, hi, by rw [h]⟩
      · rw [trL_go hi h0, List.mem_cons] at h
        rcases h with h | h
        · exact ⟨k, Nat.le_refl _, hi, by rw [h]⟩
        · obtain ⟨k', h1, h2, h3⟩ := trL_mem f _ _ _ y h
          rw [sumK_bump] at h1
          exact ⟨k', by omega, h2, h3⟩
theorem cellK_sum (hp : RpOk p) {k k' : K3} (h : cellK p k = cellK p k') : sumK k = sumK k' := by
  have u0 := hp.u0 0 (by omega)
  have u1 := hp.u0 1 (by omega)
  have u2 := hp.u0 2 (by omega)
  simp [comp] at u0 u1 u2
  unfold cellK at h
  simp only [Prod.mk.injEq] at h
  obtain ⟨h1, h2, h3⟩ := h
  have aux : ∀ (c u : Int) (a b : Nat), (u = 0 ∨ u = 1) → c + stepI u * a = c + stepI u * b → a = b := by
    intro c u a b hu h
    rcases hu with rfl | rfl <;> simp [stepI] at h <;> omega
  have := aux _ _ _ _ u0 h1
  have := aux _ _ _ _ u1 h2
  have := aux _ _ _ _ u2 h3
  unfold sumK; omega
theorem trL_once (hp : RpOk p) : ∀ (f : Nat) (k : K3) (face time : Int), (trL p R f k face time).Pairwise fun a b => a.1 ≠ b.1
  | 0, _, _, _ => List.Pairwise.nil
  | f + 1, k, face, time => by
    cases hi : inR R k
    · rw [trL_out hi]; exact List.Pairwise.nil
    · by_cases h0 : comp p.s (pk (lefts p.l k) p.s) = 0
      · rw [trL_stop hi h0]; simp
      · rw [trL_go hi h0, List.pairwise_cons]
        refine ⟨fun y hy e => ?_, trL_once hp f _ _ _⟩
        obtain ⟨k', h1, -, h3⟩ := trL_mem f _ _ _ y hy
        rw [h3] at e
        have := cellK_sum hp e
        rw [sumK_bump] at h1
        omega
/-- The neighbour by a face. -/
def nearI (c : I3) (i : Int) : I3 := if i = 0 then (c.1 - 1, c.2.1, c.2.2) else if i = 1 then (c.1 + 1, c.2.1, c.2.2) else if i = 2 then (c.1, c.2.1 - 1, c.2.2) else if i = 3 then (c.1, c.2.1 + 1, c.2.2) else if i = 4 then (c.1, c.2.1, c.2.2 - 1) else (c.1, c.2.1, c.2.2 + 1)
theorem near_fore (hp : RpOk p) {k : K3} {a : Nat} (ha : a < 3) : nearI (cellK p k) (2 * a + comp p.u a) = cellK p (bump k a) := by
  have u := hp.u0 a ha
  rcases lt3 ha with rfl | rfl | rfl <;> simp only [comp, if_true, show (1 : Nat) ≠ 0 by decide, show (2 : Nat) ≠ 0 by decide, show (2 : Nat) ≠ 1 by decide, if_false] at u ⊢ <;> rcases u with u | u <;> rw [u] <;> simp [nearI, cellK, bump, stepI, u] <;> omega
theorem near_back (hp : RpOk p) {k : K3} {a : Nat} (ha : a < 3) : nearI (cellK p (bump k a)) (2 * a + 1 - comp p.u a) = cellK p k := by
  have u := hp.u0 a ha
  rcases lt3 ha with rfl | rfl | rfl <;> simp only [comp, if_true, show (1 : Nat) ≠ 0 by decide, show (2 : Nat) ≠ 0 by decide, show (2 : Nat) ≠ 1 by decide, if_false] at u ⊢ <;> rcases u with u | u <;> rw [u] <;> simp [nearI, cellK, bump, stepI, u] <;> omega
/-- Each comes of the one ahead. -/
def Comes (y z : RH) : Prop := 0 ≤ z.2.1 ∧ z.2.1 < 6 ∧ y.1 = nearI z.1 z.2.1
theorem trL_comes (hp : RpOk p) : ∀ (f : Nat) (k : K3) (face time : Int) (i : Nat) (y z : RH), (trL p R f k face time)[i]? = some y → (trL p R f k face time)[i + 1]? = some z → Comes y z
  | 0, _, _, _, i, y, z, h, _ => by simp [trL] at h
  | f + 1, k, face, time, i, y, z, h, h2 => by
    cases hi : inR R k
    · rw [trL_out hi] at h; cases h
    · by_cases h0 : comp p.s (pk (lefts p.l k) p.s) = 0
      · rw [trL_stop hi h0] at h2; simp at h2
      · rw [trL_go hi h0] at h h2
        rw [List.getElem?_cons_succ] at h2
        cases i with
        | zero =>
          rw [List.getElem?_cons_zero] at h
          have hy := (Option.some.inj h).symm
          have hlt := pk_lt (lefts p.l k) p.s
          cases f with
          | zero => simp [trL] at h2
          | succ f =>
            cases hj : inR R (bump k (pk (lefts p.l k) p.s))
            · rw [trL_out hj] at h2; cases h2
            · obtain ⟨r, hr⟩ := trL_first (p := p) (f := f) (face := 2 * (pk (lefts p.l k) p.s : Int) + 1 - comp p.u (pk (lefts p.l k) p.s)) (time := quoI (comp (lefts p.l k) (pk (lefts p.l k) p.s)) (comp p.s (pk (lefts p.l k) p.s))) hj
              rw [hr, List.getElem?_cons_zero] at h2
              have hz := (Option.some.inj h2).symm
              rw [hy, hz]
              have u := hp.u0 _ hlt
              refine ⟨?_, ?_, (near_back hp hlt).symm⟩ <;> simp only <;> omega
        | succ i =>
          rw [List.getElem?_cons_succ] at h
          exact trL_comes hp f _ _ _ i y z h h2
theorem quoI_le {a b c d : Int} (ha : 0 ≤ a) (ha2 : a ≤ 140737488355328) (hb : 0 < b) (hb2 : b ≤ 140737488355328) (hc : 0 ≤ c) (hc2 : c ≤ 140737488355328) (hd : 0 < d) (hd2 : d ≤ 140737488355328) (h : a * d ≤ c * b) : quoI a b ≤ quoI c d := by
  have e : ∀ n : Int, 0 ≤ n → n ≤ 140737488355328 → cutI n = n := fun n h1 h2 => by unfold cutI; omega
  unfold quoI
  rw [e a ha ha2, e b (by omega) hb2, e c hc hc2, e d (by omega) hd2]
  have g : ∀ n : Int, 0 ≤ n → absI n = n := fun n h => by unfold absI; omega
  rw [g a ha, g b (by omega), g c hc, g d (by omega)]
  have n1 : decide (a < 0) = false := by simp; omega
  have n2 : decide (b < 0) = false := by simp; omega
  have n3 : decide (c < 0) = false := by simp; omega
  have n4 : decide (d < 0) = false := by simp; omega
  rw [n1, n2, n3, n4]
  have key : a * 65536 / b ≤ c * 65536 / d := by
    refine (Int.le_ediv_iff_mul_le hd).2 ?_
    refine Int.le_of_mul_le_mul_right (a := b) ?_ hb
    have h1 : a * 65536 / b * b ≤ a * 65536 := Int.ediv_mul_le _ (by omega)
    have h2 := Int.mul_le_mul_of_nonneg_right h1 (Int.le_of_lt hd)
    rw [show a * 65536 / b * d * b = a * 65536 / b * b * d by rw [Int.mul_assoc, Int.mul_comm d, ← Int.mul_assoc]]
    refine Int.le_trans h2 ?_
    rw [show a * 65536 * d = a * d * 65536 by rw [Int.mul_assoc, Int.mul_comm 65536, ← Int.mul_assoc], show c * 65536 * b = c * b * 65536 by rw [Int.mul_assoc, Int.mul_comm 65536, ← Int.mul_assoc]]
    omega
  have p1 : 0 ≤ a * 65536 / b := Int.ediv_nonneg (by omega) (by omega)
  unfold rndI
  simp
  omega
theorem trL_late : ∀ (f : Nat) (k : K3) (face time : Int), (∀ b, b < 3 → comp p.s b ≠ 0 → time ≤ quoI (comp (lefts p.l k) b) (comp p.s b)) → RpOk p → R ≤ 64 → (trL p R f k face time).Pairwise (fun a b => a.2.2 ≤ b.2.2) ∧ ∀ y ∈ trL p R f k face time, time ≤ y.2.2
  | 0, _, _, _, _, _, _ => ⟨List.Pairwise.nil, fun _ h => by simp [trL] at h⟩
  | f + 1, k, face, time, ht, hp, hR => by
    cases hi : inR R k
    · rw [trL_out hi]; exact ⟨List.Pairwise.nil, fun _ h => by cases h⟩
    · by_cases h0 : comp p.s (pk (lefts p.l k) p.s) = 0
      · rw [trL_stop hi h0]; exact ⟨by simp, fun y h => by rw [List.mem_singleton] at h; rw [h]; exact Int.le_refl _⟩
      · have hlt := pk_lt (lefts p.l k) p.s
        have hk := inR_kc hi
        have t1 := ht _ hlt h0
        have hle := pk_least (lefts p.l k) p.s (fun b hb => (hp.s0 b hb).1)
        have ih := trL_late f (bump k (pk (lefts p.l k) p.s)) (2 * (pk (lefts p.l k) p.s : Int) + 1 - comp p.u (pk (lefts p.l k) p.s)) (quoI (comp (lefts p.l k) (pk (lefts p.l k) p.s)) (comp p.s (pk (lefts p.l k) p.s))) (fun b hb hb0 => by
          have hl := hle b hb hb0
          have b1 := hp.l0 _ hlt
          have b2 := hp.l0 b hb
          have b3 := hp.s0 _ hlt
          have b4 := hp.s0 b hb
          have k1 := hk _ hlt
          have k2 := hk b hb
          rw [comp_lefts _ _ hlt] at hl ⊢
          rw [comp_lefts _ _ hb] at hl ⊢
          rw [kc_bump k hlt hb]
          have hl2 := hl.2
          generalize hpk : pk (lefts p.l k) p.s = a at *
          by_cases hab : a = b
          · subst hab
            rw [if_pos rfl]
            refine quoI_le (by omega) (by omega) (by omega) (by omega) (by omega) (by omega) (by omega) (by omega) ?_
            refine Int.mul_le_mul_of_nonneg_right ?_ b3.1
            omega
          · rw [if_neg hab]
            exact quoI_le (by omega) (by omega) (by omega) (by omega) (by omega) (by omega) (by omega) (by omega) hl2) hp hR
        rw [trL_go hi h0, List.pairwise_cons]
        refine ⟨⟨fun y hy => Int.le_trans t1 (ih.2 y hy), ih.1⟩, fun y hy => ?_⟩
        rw [List.mem_cons] at hy
        rcases hy with hy | hy
        · rw [hy]; exact Int.le_refl _
        · exact Int.le_trans t1 (ih.2 y hy)
theorem quoI_nn {a b : Int} (ha : 0 ≤ a) (ha2 : a ≤ 140737488355328) (hb : 0 < b) (hb2 : b ≤ 140737488355328) : 0 ≤ quoI a b := by
  have h := quoI_le (a := 0) (b := 1) (c := a) (d := b) (by omega) (by omega) (by omega) (by omega) ha ha2 hb hb2 (by omega)
  have e : quoI 0 1 = 0 := by decide
  omega
theorem trace_late (hp : RpOk p) (hR : R ≤ 64) : (traceP p R).Pairwise (fun a b => a.2.2 ≤ b.2.2) :=
  (trL_late 200 (0, 0, 0) (-1) 0 (fun b hb h0 => by
    have h1 := hp.l0 b hb
    have h2 := hp.s0 b hb
    rw [comp_lefts _ _ hb]
    have : (kc (0, 0, 0) b : Int) = 0 := by rcases lt3 hb with rfl | rfl | rfl <;> rfl
    rw [this]
    exact quoI_nn (by omega) (by omega) (by omega) (by omega)) hp hR).1
/-! ### along an axis -/
def kA (a i : Nat) : K3 := if a = 0 then (i, 0, 0) else if a = 1 then (0, i, 0) else (0, 0, i)
theorem kA_bump {a i : Nat} (ha : a < 3) : bump (kA a i) a = kA a (i + 1) := by rcases lt3 ha with rfl | rfl | rfl <;> rfl
theorem kc_kA {a b i : Nat} (ha : a < 3) (hb : b < 3) : kc (kA a i) b = if a = b then i else 0 := by rcases lt3 ha with rfl | rfl | rfl <;> rcases lt3 hb with rfl | rfl | rfl <;> rfl
theorem trL_axis {a : Nat} (ha : a < 3) (hs : ∀ b, b < 3 → 0 ≤ comp p.s b) (h1 : comp p.s a ≠ 0) (h2 : ∀ b, b < 3 → b ≠ a → comp p.s b = 0) (hR : 0 ≤ R) (hR2 : R ≤ 64) :
    ∀ (n i f : Nat) (face time : Int), (i : Int) + n = R + 1 → n < f → (trL p R f (kA a i) face time).map (·.1) = (List.range n).map fun j => cellK p (kA a (i + j)) := by
  intro n
  induction n with
  | zero =>
    intro i f face time h hf
    obtain ⟨f, rfl⟩ : ∃ f', f = f' + 1 := ⟨f - 1, by omega⟩
    have : inR R (kA a i) = false := by
      cases hi : inR R (kA a i)
      · rfl
      · have := inR_kc hi a ha
        rw [kc_kA ha ha, if_pos rfl] at this
        omega
    rw [trL_out this]; rfl
  | succ n ih =>
    intro i f face time h hf
    obtain ⟨f, rfl⟩ : ∃ f', f = f' + 1 := ⟨f - 1, by omega⟩
    have hi : inR R (kA a i) = true := inR_of fun b hb => by
      rw [kc_kA ha hb]; split <;> omega
    have hpk : pk (lefts p.l (kA a i)) p.s = a := pk_of _ _ ha hs h1 fun b hb hba hb0 => absurd (h2 b hb hba) hb0
    rw [trL_go hi (by rw [hpk]; exact h1), hpk, kA_bump ha, List.map_cons, ih (i + 1) f _ _ (by omega) (by omega), List.range_succ_eq_map, List.map_cons, List.map_map]
    simp only [Nat.add_zero, List.cons.injEq, true_and]
    apply List.map_congr_left
    intro j _
    simp only [Function.comp]
    rw [show i + 1 + j = i + (j + 1) by omega]
/-! ### toward a place -/
theorem trL_sees {N : K3} (hp : RpOk p) (hN : ∀ b, b < 3 → ∀ j : Nat, (comp p.s b ≠ 0 ∧ comp p.l b + 65536 * (j : Int) ≤ comp p.s b) ↔ j < kc N b) (hR : ∀ b, b < 3 → (kc N b : Int) ≤ R) :
    ∀ (n f : Nat) (k : K3) (face time : Int), (∀ b, b < 3 → kc k b ≤ kc N b) → sumK k + n = sumK N → n < f → ∃ y ∈ trL p R f k face time, y.1 = cellK p N := by
  intro n
  induction n with
  | zero =>
    intro f k face time hk hs hf
    obtain ⟨f, rfl⟩ : ∃ f', f = f' + 1 := ⟨f - 1, by omega⟩
    have h0 := hk 0 (by omega)
    have h1 := hk 1 (by omega)
    have h2 := hk 2 (by omega)
    have e : k = N := by
      obtain ⟨k0, k1, k2⟩ := k
      obtain ⟨n0, n1, n2⟩ := N
      simp [kc] at h0 h1 h2
      simp [sumK] at hs
      simp only [Prod.mk.injEq]
      omega
    obtain ⟨r, hr⟩ := trL_first (p := p) (f := f) (face := face) (time := time) (inR_of (R := R) (k := k) (by rw [e]; exact hR))
    rw [hr, e]
    exact ⟨_, List.mem_cons_self, rfl⟩
  | succ n ih =>
    intro f k face time hk hs hf
    obtain ⟨f, rfl⟩ : ∃ f', f = f' + 1 := ⟨f - 1, by omega⟩
    have hi : inR R k = true := inR_of fun b hb => by have := hk b hb; have := hR b hb; omega
    obtain ⟨b, hb, hlt⟩ : ∃ b, b < 3 ∧ kc k b < kc N b := Classical.byContradiction fun hno => by
      have h0 := hk 0 (by omega)
      have h1 := hk 1 (by omega)
      have h2 := hk 2 (by omega)
      have g : ∀ b, b < 3 → kc k b = kc N b := fun b hb => Nat.le_antisymm (hk b hb) (Nat.le_of_not_lt fun h => hno ⟨b, hb, h⟩)
      have g0 := g 0 (by omega)
      have g1 := g 1 (by omega)
      have g2 := g 2 (by omega)
      simp [kc] at g0 g1 g2
      simp [sumK] at hs
      omega
    have hb1 := (hN b hb _).2 hlt
    have hle := pk_least (lefts p.l k) p.s (fun b hb => (hp.s0 b hb).1) b hb hb1.1
    have hlt2 := pk_lt (lefts p.l k) p.s
    have s1 := (hp.s0 _ hlt2).1
    have s2 := (hp.s0 b hb).1
    have hpk : kc k (pk (lefts p.l k) p.s) < kc N (pk (lefts p.l k) p.s) := by
      refine (hN _ hlt2 _).1 ⟨hle.1, ?_⟩
      have h3 := hle.2
      rw [comp_lefts _ _ hlt2, comp_lefts _ _ hb] at h3
      have h4 := Int.mul_le_mul_of_nonneg_right hb1.2 s1
      refine Int.le_of_mul_le_mul_right (a := comp p.s b) (Int.le_trans h3 ?_) (by omega)
      rw [Int.mul_comm (comp p.s _) (comp p.s b)]
      exact h4
    rw [trL_go hi hle.1]
    obtain ⟨y, hy, e⟩ := ih f (bump k (pk (lefts p.l k) p.s)) (2 * (pk (lefts p.l k) p.s : Int) + 1 - comp p.u (pk (lefts p.l k) p.s)) (quoI (comp (lefts p.l k) (pk (lefts p.l k) p.s)) (comp p.s (pk (lefts p.l k) p.s)))
      (fun c hc => by
        rw [kc_bump k hlt2 hc]
        split
        · rename_i e; subst e; omega
        · exact hk c hc) (by rw [sumK_bump]; omega) (by omega)
    exact ⟨y, List.mem_cons_of_mem _ hy, e⟩
end
end Go.Proofs.Ytjlgcfdpfalbpaa
