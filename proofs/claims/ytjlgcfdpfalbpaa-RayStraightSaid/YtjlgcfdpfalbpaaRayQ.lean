/- The document's ray: all crossings, sorted; the same as the least one, again and again. Plain. No program in sight. -/
import Derived.Test.YtjlgcfdpfalbpaaRayP
namespace Go.Proofs.Ytjlgcfdpfalbpaa

/-- A crossing: axis, upward or not, how far, how fast. -/
abbrev X4 := Int × Int × Int × Int
def ahB (a b : X4) : Bool := if a.2.2.1 * b.2.2.2 = b.2.2.1 * a.2.2.2 then decide (a.1 < b.1) else decide (a.2.2.1 * b.2.2.2 < b.2.2.1 * a.2.2.2)
theorem ahB_true {a b : X4} : ahB a b = true ↔ a.2.2.1 * b.2.2.2 < b.2.2.1 * a.2.2.2 ∨ (a.2.2.1 * b.2.2.2 = b.2.2.1 * a.2.2.2 ∧ a.1 < b.1) := by
  unfold ahB
  generalize a.2.2.1 * b.2.2.2 = x
  generalize b.2.2.1 * a.2.2.2 = y
  split <;> simp <;> omega
theorem ahB_false {a b : X4} : ahB b a = false ↔ a.2.2.1 * b.2.2.2 < b.2.2.1 * a.2.2.2 ∨ (a.2.2.1 * b.2.2.2 = b.2.2.1 * a.2.2.2 ∧ a.1 ≤ b.1) := by
  unfold ahB
  generalize a.2.2.1 * b.2.2.2 = x
  generalize b.2.2.1 * a.2.2.2 = y
  split <;> simp <;> omega
theorem ah_not {a b : X4} (h : ahB a b = true) : ahB b a = false := by
  rw [ahB_true] at h; rw [ahB_false]; omega
theorem frac_le {al a₂ bl bs cl cs : Int} (hb : 0 < bs) (ha : 0 < a₂) (hc : 0 < cs) (h1 : al * bs ≤ bl * a₂) (h2 : bl * cs ≤ cl * bs) : al * cs ≤ cl * a₂ := by
  have e1 := Int.mul_le_mul_of_nonneg_right h1 (Int.le_of_lt hc)
  have e2 := Int.mul_le_mul_of_nonneg_right h2 (Int.le_of_lt ha)
  refine Int.le_of_mul_le_mul_right (a := bs) ?_ hb
  rw [show al * cs * bs = al * bs * cs by rw [Int.mul_assoc, Int.mul_comm cs, ← Int.mul_assoc], show cl * a₂ * bs = cl * bs * a₂ by rw [Int.mul_assoc, Int.mul_comm a₂, ← Int.mul_assoc]]
  refine Int.le_trans e1 ?_
  rw [show bl * a₂ * cs = bl * cs * a₂ by rw [Int.mul_assoc, Int.mul_comm a₂, ← Int.mul_assoc]]
  exact e2
theorem frac_lt {al a₂ bl bs cl cs : Int} (hb : 0 < bs) (ha : 0 < a₂) (hc : 0 < cs) (h : (al * bs < bl * a₂ ∧ bl * cs ≤ cl * bs) ∨ (al * bs ≤ bl * a₂ ∧ bl * cs < cl * bs)) : al * cs < cl * a₂ := by
  refine Int.lt_of_mul_lt_mul_right (a := bs) ?_ (Int.le_of_lt hb)
  rw [show al * cs * bs = al * bs * cs by rw [Int.mul_assoc, Int.mul_comm cs, ← Int.mul_assoc], show cl * a₂ * bs = cl * bs * a₂ by rw [Int.mul_assoc, Int.mul_comm a₂, ← Int.mul_assoc]]
  have e3 : bl * a₂ * cs = bl * cs * a₂ := by rw [Int.mul_assoc, Int.mul_comm a₂, ← Int.mul_assoc]
  rcases h with ⟨h1, h2⟩ | ⟨h1, h2⟩
  · have e1 := Int.mul_lt_mul_of_pos_right h1 hc
    have e2 := Int.mul_le_mul_of_nonneg_right h2 (Int.le_of_lt ha)
    omega
  · have e1 := Int.mul_le_mul_of_nonneg_right h1 (Int.le_of_lt hc)
    have e2 := Int.mul_lt_mul_of_pos_right h2 ha
    omega
theorem ah_trans {a b c : X4} (ha : 0 < a.2.2.2) (hb : 0 < b.2.2.2) (hc : 0 < c.2.2.2) (h1 : ahB b a = false) (h2 : ahB c b = false) : ahB c a = false := by
  rw [ahB_false] at *
  have le1 : a.2.2.1 * b.2.2.2 ≤ b.2.2.1 * a.2.2.2 := by omega
  have le2 : b.2.2.1 * c.2.2.2 ≤ c.2.2.1 * b.2.2.2 := by omega
  rcases h1 with h1 | ⟨h1, k1⟩
  · exact .inl (frac_lt hb ha hc (.inl ⟨h1, le2⟩))
  rcases h2 with h2 | ⟨h2, k2⟩
  · exact .inl (frac_lt hb ha hc (.inr ⟨le1, h2⟩))
  have := frac_le hb ha hc le1 le2
  rcases Int.lt_or_eq_of_le this with h | h
  · exact .inl h
  · exact .inr ⟨h, by omega⟩
/-- Where a crossing is laid. -/
def posn (x : X4) (l : List X4) : Nat → Nat
  | 0 => 0
  | k + 1 => if ahB x (l.getD k (0, 0, 0, 0)) then posn x l k else k + 1
theorem posn_le (x : X4) (l : List X4) : ∀ k, posn x l k ≤ k
  | 0 => Nat.le_refl _
  | k + 1 => by
    unfold posn
    split
    · exact Nat.le_succ_of_le (posn_le x l k)
    · exact Nat.le_refl _
theorem posn_hi (x : X4) (l : List X4) : ∀ k j, posn x l k ≤ j → j < k → ahB x (l.getD j (0, 0, 0, 0)) = true
  | 0, j, _, h => by omega
  | k + 1, j, h1, h2 => by
    unfold posn at h1
    split at h1
    · rename_i h
      rcases Nat.lt_or_eq_of_le (Nat.le_of_lt_succ h2) with e | e
      · exact posn_hi x l k j h1 e
      · rw [e]; exact h
    · omega
theorem posn_lo (x : X4) (l : List X4) : ∀ k, 0 < posn x l k → ahB x (l.getD (posn x l k - 1) (0, 0, 0, 0)) = false
  | 0, h => by simp [posn] at h
  | k + 1, h => by
    unfold posn at h ⊢
    split
    · rename_i e
      rw [if_pos e] at h
      exact posn_lo x l k h
    · rename_i e
      simpa using e
def insX (l : List X4) (x : X4) : List X4 := (l.take (posn x l l.length) ++ [x]) ++ l.drop (posn x l l.length)
def Sorted (l : List X4) : Prop := l.Pairwise fun a b => ahB b a = false
def Fast (l : List X4) : Prop := ∀ x ∈ l, 0 < x.2.2.2
theorem getD_at {l : List X4} {j : Nat} (h : j < l.length) : l.getD j (0, 0, 0, 0) = l[j] := by simp [List.getD_eq_getElem?_getD, h]
theorem mem_ins {l : List X4} {x y : X4} (h : y ∈ insX l x) : y = x ∨ y ∈ l := by
  unfold insX at h
  simp only [List.mem_append, List.mem_singleton] at h
  rcases h with (h | h) | h
  · exact .inr (List.mem_of_mem_take h)
  · exact .inl h
  · exact .inr (List.mem_of_mem_drop h)
theorem sorted_ins {l : List X4} {x : X4} (hl : Sorted l) (hf : Fast l) (hx : 0 < x.2.2.2) : Sorted (insX l x) := by
  have hp := posn_le x l l.length
  have hi := posn_hi x l l.length
  have lo := posn_lo x l l.length
  unfold insX
  generalize posn x l l.length = k at hp hi lo
  have lt : ∀ y ∈ l.take k, ahB x y = false := by
    intro y hy
    obtain ⟨i, hi', rfl⟩ := List.mem_iff_getElem.1 hy
    rw [List.length_take] at hi'
    rw [List.getElem_take]
    have l1 := lo (by omega)
    rw [getD_at (by omega)] at l1
    rcases Nat.lt_or_eq_of_le (show i ≤ k - 1 by omega) with e | e
    · exact ah_trans (hf _ (List.getElem_mem _)) (hf _ (List.getElem_mem _)) hx (List.pairwise_iff_getElem.1 hl i (k - 1) (by omega) (by omega) e) l1
    · subst e; exact l1
  have gt : ∀ y ∈ l.drop k, ahB y x = false := by
    intro y hy
    obtain ⟨i, hi', rfl⟩ := List.mem_iff_getElem.1 hy
    rw [List.length_drop] at hi'
    rw [List.getElem_drop]
    have h1 := hi (k + i) (by omega) (by omega)
    rw [getD_at (by omega)] at h1
    exact ah_not h1
  unfold Sorted
  rw [List.pairwise_append, List.pairwise_append]
  refine ⟨⟨List.Pairwise.sublist (List.take_sublist _ _) hl, by simp, fun a ha b hb => ?_⟩, List.Pairwise.sublist (List.drop_sublist _ _) hl, fun a ha b hb => ?_⟩
  · rw [List.mem_singleton] at hb; rw [hb]; exact lt a ha
  · rw [List.mem_append, List.mem_singleton] at ha
    rcases ha with ha | ha
    · obtain ⟨i, hi', rfl⟩ := List.mem_iff_getElem.1 ha
      obtain ⟨j, hj', rfl⟩ := List.mem_iff_getElem.1 hb
      rw [List.length_take] at hi'
      rw [List.length_drop] at hj'
      rw [List.getElem_take, List.getElem_drop]
      exact List.pairwise_iff_getElem.1 hl i (k + j) (by omega) (by omega) (by omega)
    · rw [ha]; exact gt b hb
abbrev axQ (a : Nat) (x : X4) : Bool := x.1 == (a : Int)
theorem filter_ins_no {l : List X4} {x : X4} {a : Nat} (h : x.1 ≠ a) : (insX l x).filter (axQ a) = l.filter (axQ a) := by
  unfold insX
  rw [List.filter_append, List.filter_append]
  have : [x].filter (axQ a) = [] := by simp [h]
  rw [this, List.append_nil, ← List.filter_append, List.take_append_drop]
theorem filter_ins_yes {l : List X4} {x : X4} {a : Nat} (h : x.1 = a) (hx : 0 < x.2.2.2) (hl : ∀ y ∈ l, y.1 = a → y.2.2.2 = x.2.2.2 ∧ y.2.2.1 < x.2.2.1) : (insX l x).filter (axQ a) = l.filter (axQ a) ++ [x] := by
  have hi := posn_hi x l l.length
  unfold insX
  generalize posn x l l.length = k at hi
  rw [List.filter_append, List.filter_append]
  have e1 : [x].filter (axQ a) = [x] := by simp [h]
  have e2 : (l.drop k).filter (axQ a) = [] := by
    rw [List.filter_eq_nil_iff]
    intro y hy hq
    obtain ⟨i, hi', rfl⟩ := List.mem_iff_getElem.1 hy
    rw [List.length_drop] at hi'
    rw [List.getElem_drop] at hq
    have h1 := hi (k + i) (by omega) (by omega)
    rw [getD_at (by omega)] at h1
    obtain ⟨q1, q2⟩ := hl _ (List.getElem_mem _) (by simpa using hq)
    rw [ahB_true, q1] at h1
    have := Int.mul_lt_mul_of_pos_right q2 hx
    omega
  have e3 : (l.take k).filter (axQ a) = l.filter (axQ a) := by
    conv => rhs; rw [← List.take_append_drop k l]
    rw [List.filter_append, e2, List.append_nil]
  rw [e1, e2, e3, List.append_nil]
/-- The crossings along an axis. -/
def crA (p : Rp) (m a : Nat) : List X4 := if comp p.s a = 0 then [] else (List.range m).map fun i : Nat => ((a : Int), comp p.u a, comp p.l a + 65536 * (i : Int), comp p.s a)
theorem crA_none {p : Rp} {m a : Nat} (h : comp p.s a = 0) : crA p m a = [] := by unfold crA; rw [if_pos h]
theorem crA_len {p : Rp} {m a : Nat} (h : comp p.s a ≠ 0) : (crA p m a).length = m := by unfold crA; rw [if_neg h]; simp
theorem crA_at {p : Rp} {m a i : Nat} (h : comp p.s a ≠ 0) (hi : i < m) : (crA p m a)[i]? = some ((a : Int), comp p.u a, comp p.l a + 65536 * (i : Int), comp p.s a) := by
  unfold crA; rw [if_neg h]; simp [hi]
/-- So far: sorted, fast, of the axes below; of the axis a the first i. -/
structure Mer (p : Rp) (m a i : Nat) (L : List X4) : Prop where
  sorted : Sorted L
  fast : Fast L
  axes : ∀ x ∈ L, ∃ b : Nat, x.1 = b ∧ b < 3
  done : ∀ b, b < a → L.filter (axQ b) = crA p m b
  now : L.filter (axQ a) = (crA p m a).take i
  rest : ∀ b, a < b → L.filter (axQ b) = []
theorem Mer.ins {p : Rp} {m a i : Nat} {L : List X4} {x : X4} (h : Mer p m a i L) (ha : a < 3) (hs : 0 ≤ comp p.s a) (hx : (crA p m a)[i]? = some x) : Mer p m a (i + 1) (insX L x) := by
  have hs0 : comp p.s a ≠ 0 := fun e => by rw [crA_none e] at hx; cases hx
  have hi : i < m := by have := (List.getElem?_eq_some_iff.1 hx).1; rwa [crA_len hs0] at this
  have hx1 := hx
  rw [crA_at hs0 hi] at hx1
  have hx2 := (Option.some.inj hx1).symm
  subst hx2
  have hp : 0 < comp p.s a := by omega
  refine ⟨sorted_ins h.sorted h.fast hp, fun y hy => ?_, fun y hy => ?_, fun b hb => ?_, ?_, fun b hb => ?_⟩
  · rcases mem_ins hy with e | e
    · rw [e]; exact hp
    · exact h.fast _ e
  · rcases mem_ins hy with e | e
    · rw [e]; exact ⟨a, rfl, ha⟩
    · exact h.axes _ e
  · rw [filter_ins_no (by show (a : Int) ≠ b; omega), h.done b hb]
  · rw [filter_ins_yes (by rfl) hp, h.now, List.take_add_one, hx]; rfl
    intro y hy hya
    have : y ∈ L.filter (axQ a) := List.mem_filter.2 ⟨hy, by simp [hya]⟩
    rw [h.now] at this
    obtain ⟨j, hj, e⟩ := List.mem_iff_getElem.1 this
    rw [List.length_take, crA_len hs0] at hj
    rw [List.getElem_take] at e
    have e2 := crA_at hs0 (show j < m by omega)
    rw [List.getElem?_eq_getElem (by rw [crA_len hs0]; omega), e] at e2
    have e3 := Option.some.inj e2
    rw [e3]
    exact ⟨rfl, by simp only; omega⟩
  · rw [filter_ins_no (by show (a : Int) ≠ b; omega), h.rest b hb]
theorem Mer.next {p : Rp} {m a : Nat} {L : List X4} (h : Mer p m a (crA p m a).length L) : Mer p m (a + 1) 0 L :=
  ⟨h.sorted, h.fast, h.axes, fun b hb => by
    rcases Nat.lt_or_eq_of_le (Nat.le_of_lt_succ hb) with e | e
    · exact h.done b e
    · rw [e, h.now, List.take_length], by rw [h.rest (a + 1) (Nat.lt_succ_self _)]; simp, fun b hb => h.rest b (by omega)⟩
theorem mer_zero (p : Rp) (m : Nat) : Mer p m 0 0 [] := ⟨List.Pairwise.nil, fun _ h => (by cases h), fun _ h => (by cases h), fun b hb => by omega, by simp, fun _ _ => rfl⟩
/-- What the document's ray comes to behind the crossings so far. -/
def refL (p : Rp) (R : Int) : K3 → List X4 → List RH
  | _, [] => []
  | k, x :: r => if inR R (bump k x.1.toNat) then (cellK p (bump k x.1.toNat), 2 * x.1 + 1 - x.2.1, quoI x.2.2.1 x.2.2.2) :: refL p R (bump k x.1.toNat) r else []
def kc (k : K3) (a : Nat) : Nat := if a = 0 then k.1 else if a = 1 then k.2.1 else k.2.2
theorem kc_bump (k : K3) {a b : Nat} (ha : a < 3) (hb : b < 3) : kc (bump k a) b = if a = b then kc k b + 1 else kc k b := by
  have h1 : a = 0 ∨ a = 1 ∨ a = 2 := by omega
  have h2 : b = 0 ∨ b = 1 ∨ b = 2 := by omega
  rcases h1 with rfl | rfl | rfl <;> rcases h2 with rfl | rfl | rfl <;> rfl
theorem comp_lefts (l : I3) (k : K3) {a : Nat} (ha : a < 3) : comp (lefts l k) a = comp l a + 65536 * (kc k a : Int) := by
  have h1 : a = 0 ∨ a = 1 ∨ a = 2 := by omega
  rcases h1 with rfl | rfl | rfl <;> rfl
/-- The least is picked. -/
theorem pk_of (l s : I3) {a : Nat} (ha : a < 3) (hs : ∀ b, b < 3 → 0 ≤ comp s b) (h0 : comp s a ≠ 0)
    (h : ∀ b, b < 3 → b ≠ a → comp s b ≠ 0 → comp l a * comp s b < comp l b * comp s a ∨ (comp l a * comp s b = comp l b * comp s a ∧ a < b)) : pk l s = a := by
  have s0 := hs 0 (by omega)
  have s1 := hs 1 (by omega)
  have s2 := hs 2 (by omega)
  have h1 : a = 0 ∨ a = 1 ∨ a = 2 := by omega
  obtain ⟨l0, l1, l2⟩ := l
  obtain ⟨v0, v1, v2⟩ := s
  simp only [comp, if_true, show (1 : Nat) ≠ 0 by decide, show (2 : Nat) ≠ 0 by decide, show (2 : Nat) ≠ 1 by decide, if_false] at s0 s1 s2
  unfold pk
  rcases h1 with rfl | rfl | rfl
  · have a1 := h 1 (by omega) (by omega)
    have a2 := h 2 (by omega) (by omega)
    simp [comp] at a1 a2 h0
    have e1 : soonB l1 v1 l0 v0 = false := by
      unfold soonB
      split
      · simp; omega
      · have := a1 (by omega); simp; omega
    have e2 : soonB l2 v2 l0 v0 = false := by
      unfold soonB
      split
      · simp; omega
      · have := a2 (by omega); simp; omega
    simp [e1, e2]
  · have a1 := h 0 (by omega) (by omega)
    have a2 := h 2 (by omega) (by omega)
    simp [comp] at a1 a2 h0
    have e1 : soonB l1 v1 l0 v0 = true := by
      unfold soonB
      split
      · simp; omega
      · have := a1 (by omega); simp; omega
    have e2 : soonB l2 v2 l1 v1 = false := by
      unfold soonB
      split
      · simp; omega
      · have := a2 (by omega); simp; omega
    simp [e1, e2]
  · have a1 := h 0 (by omega) (by omega)
    have a2 := h 1 (by omega) (by omega)
    simp [comp] at a1 a2 h0
    have e1 : soonB l2 v2 l0 v0 = true := by
      unfold soonB
      split
      · simp; omega
      · have := a1 (by omega); simp; omega
    have e2 : soonB l2 v2 l1 v1 = true := by
      unfold soonB
      split
      · simp; omega
      · have := a2 (by omega); simp; omega
    cases soonB l1 v1 l0 v0 <;> simp [e1, e2]
/-- THE LAW: the sorted crossings are those that are picked. -/
theorem tr_ref (p : Rp) (R : Int) (m : Nat) (hs : ∀ b, b < 3 → 0 ≤ comp p.s b) (hR : R ≤ 64) (hm : R < m) : ∀ (f : Nat) (k : K3) (L : List X4) (face time : Int), f + sumK k = 200 → inR R k = true → Sorted L → Fast L → (∀ x ∈ L, ∃ b : Nat, x.1 = b ∧ b < 3) →
    (∀ b, b < 3 → L.filter (axQ b) = (crA p m b).drop (kc k b)) → trL p R f k face time = (cellK p k, face, time) :: refL p R k L := by
  intro f
  induction f with
  | zero => intro k L face time hf hk; have := sumK_in hk hR; omega
  | succ f ih =>
    intro k L face time hf hk hS hF hA hL
    have hsum := sumK_in hk hR
    have hkb : ∀ b, b < 3 → (kc k b : Int) ≤ R := fun b hb => by
      unfold inR at hk
      simp only [Bool.and_eq_true, decide_eq_true_eq] at hk
      have h1 : b = 0 ∨ b = 1 ∨ b = 2 := by omega
      rcases h1 with rfl | rfl | rfl
      · exact hk.1.1
      · exact hk.1.2
      · exact hk.2
    have hlo : ∀ b, b < 3 → comp p.s b ≠ 0 → (crA p m b).drop (kc k b) = ((b : Int), comp p.u b, comp (lefts p.l k) b, comp p.s b) :: (crA p m b).drop (kc k b + 1) := fun b hb h0 => by
      have hlt : kc k b < m := by have := hkb b hb; omega
      rw [List.drop_eq_getElem_cons (by rw [crA_len h0]; exact hlt)]
      congr 1
      have := crA_at (p := p) h0 hlt
      rw [List.getElem?_eq_getElem (by rw [crA_len h0]; exact hlt)] at this
      rw [comp_lefts _ _ hb]
      exact Option.some.inj this
    cases L with
    | nil =>
      have h0 : ∀ b, b < 3 → comp p.s b = 0 := fun b hb => Decidable.byContradiction fun h => by
        have h1 := hL b hb
        rw [hlo b hb h] at h1
        cases h1
      rw [trL_stop hk (h0 _ (pk_lt _ _))]
      rfl
    | cons x r =>
      obtain ⟨a, hxa, ha⟩ := hA x List.mem_cons_self
      have h1 := hL a ha
      rw [List.filter_cons_of_pos (by simp [hxa])] at h1
      have h0 : comp p.s a ≠ 0 := fun e => by rw [crA_none e, List.drop_nil] at h1; cases h1
      rw [hlo a ha h0] at h1
      have hx := (List.cons.inj h1).1
      have hr := (List.cons.inj h1).2
      have hpk : pk (lefts p.l k) p.s = a := by
        refine pk_of _ _ ha hs h0 fun b hb hba hb0 => ?_
        have h2 := hL b hb
        rw [List.filter_cons_of_neg (by simp [hxa]; omega), hlo b hb hb0] at h2
        have hm2 : ((b : Int), comp p.u b, comp (lefts p.l k) b, comp p.s b) ∈ r.filter (axQ b) := by rw [h2]; exact List.mem_cons_self
        have h3 := (List.pairwise_cons.1 hS).1 _ (List.mem_filter.1 hm2).1
        rw [ahB_false, hx] at h3
        simp only at h3
        omega
      rw [trL_go hk (by rw [hpk]; exact h0), hpk]
      have e1 : x.1.toNat = a := by rw [hxa]; rfl
      unfold refL
      rw [e1]
      by_cases hin : inR R (bump k a) = true
      · rw [if_pos hin]
        rw [ih (bump k a) r _ _ (by rw [sumK_bump]; omega) hin (List.pairwise_cons.1 hS).2 (fun y hy => hF y (List.mem_cons_of_mem _ hy)) (fun y hy => hA y (List.mem_cons_of_mem _ hy)) (fun b hb => ?_)]
        · rw [hx]
        · rw [kc_bump k ha hb]
          by_cases hab : a = b
          · subst hab; rw [if_pos rfl]; exact hr
          · rw [if_neg hab]
            have h2 := hL b hb
            rw [List.filter_cons_of_neg (by simp [hxa]; omega)] at h2
            exact h2
      · rw [if_neg hin]
        have : inR R (bump k a) = false := by simpa using hin
        obtain ⟨f', rfl⟩ : ∃ f', f = f' + 1 := ⟨f - 1, by omega⟩
        rw [trL_out this]
end Go.Proofs.Ytjlgcfdpfalbpaa
