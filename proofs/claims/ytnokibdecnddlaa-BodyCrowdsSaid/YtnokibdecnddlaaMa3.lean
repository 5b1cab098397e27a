/- Texts that build one behind the other, laid together: Sched2 Near Span4 Fix3 Span2 Span5 Cells. -/
import Derived.Test.YtnokibdecnddlaaMa2
import Derived.Test.YtnokibdecnddlaaMa1
import Derived.Deep.Cut
/- A region that draws its order, in general: the law. No program in sight. -/
namespace Go.Proofs.Ytnokibdecnddlaa
open Go.RowKit

section
variable {P : Program} {ops : Array Oper} {C : World → Prop} {ks : List Nat}
/-- What is asked of a region and its kinds. -/
structure Sch (ops : Array Oper) (ks : List Nat) (anc : Nat → Nat → Prop) : Prop where
  sel : ∀ (j : Nat) (o : Oper) cs b, ops[j]? = some o → o.op ≠ .select cs b
  len : ks.length = ops.size
  apart : Apart ops
  edges : ∀ (i : Nat) (o : Oper), ops[i]? = some o → ∀ e ∈ o.after, Region.binds .any e = true → e.on < i
  lower : ∀ i j, anc i j → j < i ∧ ∃ o, ops[i]? = some o ∧ ∃ e ∈ o.after, Region.binds .any e = true ∧ (e.on = j ∨ anc e.on j)
  looks : ∀ (i : Nat) (o : Oper), ops[i]? = some o → ∀ t ∈ o.looksAt ops, ∀ j, dstOf ops j = some t → (anc i j ∧ (kd ks j < 2 ∨ 3 ≤ kd ks i ∨ (kd ks i = 2 ∧ kd ks j = 2))) ∨ (kd ks i < 3 ∧ kd ks i ≠ 1 ∧ 3 ≤ kd ks j)
  tail : ∀ (i : Nat) (o : Oper), ops[i]? = some o → 3 ≤ kd ks i → ∀ j, j < ops.size → kd ks j = 1 ∨ (3 ≤ kd ks j ∧ i ≤ j) ∨ anc i j
def ancB (b : Array Nat) (i j : Nat) : Bool := (b.getD i 0).testBit j
def schedB0 (ops : Array Oper) (ks : List Nat) : Bool :=
  Region.noSelect ops && ks.length == ops.size &&
  (List.range ops.size).all fun i => match ops[i]? with
    | none => false
    | some o => o.after.all (fun e => !Region.binds .any e || decide (e.on < i)) &&
      (List.range ops.size).all fun j =>
        (j == i || match o.dst with | none => true | some d => dstOf ops j != some d) &&
        (match dstOf ops j with | none => true | some d => !(o.looksAt ops).contains d || (ancB (Region.before ops) i j && (decide (kd ks j < 2) || decide (3 ≤ kd ks i) || (decide (kd ks i = 2) && decide (kd ks j = 2)))) || (decide (kd ks i < 3) && kd ks i != 1 && decide (3 ≤ kd ks j))) &&
        (!ancB (Region.before ops) i j || (decide (j < i) && o.after.any fun e => Region.binds .any e && (e.on == j || ancB (Region.before ops) e.on j))) &&
        (decide (kd ks i < 3) || kd ks j == 1 || (decide (3 ≤ kd ks j) && decide (i ≤ j)) || ancB (Region.before ops) i j)
def guardsB (ops : Array Oper) (ks : List Nat) : Bool := (List.range ops.size).all fun i => match ops[i]? with
    | none => false
    | some o => kd ks i != 2 || o.guard.isNone
def schedB (ops : Array Oper) (ks : List Nat) : Bool := schedB0 ops ks && guardsB ops ks
theorem guard_of (h : schedB ops ks = true) (i : Nat) (o : Oper) (ho : ops[i]? = some o) (hk : kd ks i = 2) : o.guard = none := by
  simp only [schedB, guardsB, Bool.and_eq_true, List.all_eq_true, List.mem_range] at h
  have := h.2 i (Array.getElem?_eq_some_iff.1 ho).1
  rw [ho] at this
  simpa [hk] using this
theorem sch_of0 (h : schedB0 ops ks = true) : Sch ops ks (fun i j => i < ops.size ∧ j < ops.size ∧ ancB (Region.before ops) i j = true) := by
  simp only [schedB0, Bool.and_eq_true, beq_iff_eq, List.all_eq_true, List.mem_range] at h
  obtain ⟨⟨h1, h2⟩, h3⟩ := h
  have key : ∀ (i : Nat) (o : Oper), ops[i]? = some o → (o.after.all (fun e => !Region.binds .any e || decide (e.on < i)) = true) ∧ ∀ j, j < ops.size →
      (((j == i || match o.dst with | none => true | some d => dstOf ops j != some d) = true ∧
        (match dstOf ops j with | none => true | some d => !(o.looksAt ops).contains d || (ancB (Region.before ops) i j && (decide (kd ks j < 2) || decide (3 ≤ kd ks i) || (decide (kd ks i = 2) && decide (kd ks j = 2)))) || (decide (kd ks i < 3) && kd ks i != 1 && decide (3 ≤ kd ks j))) = true) ∧
        (!ancB (Region.before ops) i j || (decide (j < i) && o.after.any fun e => Region.binds .any e && (e.on == j || ancB (Region.before ops) e.on j))) = true) ∧
        (decide (kd ks i < 3) || kd ks j == 1 || (decide (3 ≤ kd ks j) && decide (i ≤ j)) || ancB (Region.before ops) i j) = true := fun i o ho => by
    have := h3 i (Array.getElem?_eq_some_iff.1 ho).1
    rw [ho] at this
    simp only [Bool.and_eq_true, List.all_eq_true, List.mem_range] at this
    exact ⟨this.1, this.2⟩
  have low : ∀ (i : Nat) (o : Oper), ops[i]? = some o → ∀ e ∈ o.after, Region.binds .any e = true → e.on < i := fun i o ho e he hb => by
    have := Array.all_eq_true_iff_forall_mem.1 (key i o ho).1 e he
    simpa [hb] using this
  refine ⟨Region.noSelect_spec h1, h2, fun i j d hij hi hj => ?_, low, fun i j ⟨hi, hj, ha⟩ => ?_, fun i o ho t ht j hj => ?_, fun i o ho hk j hj => ?_⟩
  · have hjlt : j < ops.size := by
      unfold dstOf at hj
      cases h : ops[j]? with
      | none => rw [h] at hj; cases hj
      | some _ => exact (Array.getElem?_eq_some_iff.1 h).1
    cases ho : ops[i]? with
    | none => unfold dstOf at hi; rw [ho] at hi; cases hi
    | some o =>
      have hod : o.dst = some d := by unfold dstOf at hi; rw [ho] at hi; exact hi
      have := ((key i o ho).2 j hjlt).1.1.1
      rw [hod] at this
      simp only [Bool.or_eq_true, beq_iff_eq, bne_iff_ne, ne_eq] at this
      rcases this with e | e
      · exact hij e.symm
      · exact e hj
  · have ho : ops[i]? = some (ops[i]'hi) := Array.getElem?_eq_getElem hi
    have h4 := ((key i _ ho).2 j hj).1.2
    rw [ha] at h4
    simp only [Bool.not_true, Bool.false_or, Bool.and_eq_true, decide_eq_true_eq] at h4
    obtain ⟨e, he, hb⟩ := Array.any_eq_true'.1 h4.2
    simp only [Bool.and_eq_true, Bool.or_eq_true, beq_iff_eq] at hb
    have := low i _ ho e he hb.1
    exact ⟨h4.1, _, ho, e, he, hb.1, hb.2.imp id fun h => ⟨by omega, hj, h⟩⟩
  · have hjlt : j < ops.size := by
      unfold dstOf at hj
      cases h : ops[j]? with
      | none => rw [h] at hj; cases hj
      | some _ => exact (Array.getElem?_eq_some_iff.1 h).1
    have h4 := ((key i o ho).2 j hjlt).1.1.2
    rw [hj] at h4
    have h5 : (o.looksAt ops).contains t = true := by simpa using ht
    simp only [h5, Bool.not_true, Bool.false_or, Bool.and_eq_true, Bool.or_eq_true, decide_eq_true_eq, bne_iff_ne, ne_eq] at h4
    rcases h4 with h4 | h4
    · exact .inl ⟨⟨(Array.getElem?_eq_some_iff.1 ho).1, hjlt, h4.1⟩, or_assoc.1 h4.2⟩
    · exact .inr ⟨h4.1.1, h4.1.2, h4.2⟩
  · have h4 := ((key i o ho).2 j hj).2
    simp only [Bool.or_eq_true, decide_eq_true_eq, beq_iff_eq, Bool.and_eq_true] at h4
    rcases h4 with ((h4 | h4) | h4) | h4
    · omega
    · exact .inl h4
    · exact .inr (.inl h4)
    · exact .inr (.inr ⟨(Array.getElem?_eq_some_iff.1 ho).1, hj, h4⟩)

theorem sch_of (h : schedB ops ks = true) : Sch ops ks (fun i j => i < ops.size ∧ j < ops.size ∧ ancB (Region.before ops) i j = true) := sch_of0 (by simp only [schedB, Bool.and_eq_true] at h; exact h.1)

/-! ### what has come up -/
abbrev up (listed : Array Bool) (i : Nat) : Bool := listed.getD i false
def Upw (ops : Array Oper) (listed : Array Bool) : Prop := ∀ (j : Nat) (o : Oper), up listed j = true → ops[j]? = some o → ∀ e ∈ o.after, Region.binds .any e = true → up listed e.on = true
variable {anc : Nat → Nat → Prop}
theorem Sch.looks1 (H : Sch ops ks anc) {i : Nat} {o : Oper} (ho : ops[i]? = some o) (hk : kd ks i = 1 ∨ 3 ≤ kd ks i) {t : Tmp} (ht : t ∈ o.looksAt ops) {j : Nat} (hj : dstOf ops j = some t) : anc i j ∧ (kd ks j < 2 ∨ 3 ≤ kd ks i) := by
  rcases H.looks i o ho t ht j hj with h | h
  · exact ⟨h.1, by omega⟩
  · omega
theorem Sch.anc_up (H : Sch ops ks anc) {listed : Array Bool} (hU : Upw ops listed) : ∀ (i : Nat) (o : Oper) (j : Nat), ops[i]? = some o → (∀ e ∈ o.after, Region.binds .any e = true → up listed e.on = true) → anc i j → up listed j = true := by
  intro i
  induction i using Nat.strongRecOn with
  | _ i ih =>
    intro o j ho he ha
    obtain ⟨_, o', ho', e, hm, hb, h⟩ := H.lower i j ha
    rw [ho] at ho'
    obtain rfl := Option.some.inj ho'
    rcases h with h | h
    · rw [← h]; exact he e hm hb
    · obtain ⟨_, o2, ho2, _⟩ := H.lower _ _ h
      exact ih e.on (H.edges i o ho e hm hb) o2 j ho2 (hU e.on o2 (he e hm hb) ho2) h
theorem up_set {listed : Array Bool} {i j : Nat} (hi : i < listed.size) : up (listed.setIfInBounds i true) j = if j = i then true else up listed j := by
  unfold up
  by_cases h : j = i
  · subst h; simp [hi]
  · rw [if_neg h, getD_set_ne false (fun e => h e.symm)]
theorem Upw.set {listed : Array Bool} (hU : Upw ops listed) {i : Nat} (hi : i < listed.size) {o : Oper} (ho : ops[i]? = some o) (he : ∀ e ∈ o.after, Region.binds .any e = true → up listed e.on = true) : Upw ops (listed.setIfInBounds i true) := by
  intro j oj hj hoj e hm hb
  rw [up_set hi] at hj ⊢
  by_cases h : e.on = i
  · rw [if_pos h]
  · rw [if_neg h]
    by_cases hji : j = i
    · subst hji
      rw [ho] at hoj
      obtain rfl := Option.some.inj hoj
      exact he e hm hb
    · rw [if_neg hji] at hj
      exact hU j oj hj hoj e hm hb
def cnt (n : Nat) (listed : Array Bool) : Nat := (List.range n).countP fun i => !up listed i
theorem countP_flip (p q : Nat → Bool) (i : Nat) (h1 : p i = true) (h2 : q i = false) (h3 : ∀ j, j ≠ i → q j = p j) : ∀ l : List Nat, l.Nodup → i ∈ l → l.countP p = l.countP q + 1 := by
  intro l
  induction l with
  | nil => intro _ h; cases h
  | cons a l ih =>
    intro hn h
    rw [List.nodup_cons] at hn
    by_cases ha : a = i
    · subst ha
      rw [List.countP_cons_of_pos h1, List.countP_cons_of_neg (by rw [h2]; decide)]
      congr 1
      exact List.countP_congr fun j hj => by rw [h3 j (fun e => hn.1 (e ▸ hj))]
    · have hi : i ∈ l := by
        rcases List.mem_cons.1 h with e | e
        · exact absurd e.symm ha
        · exact e
      have := ih hn.2 hi
      cases hp : p a with
      | true => rw [List.countP_cons_of_pos hp, List.countP_cons_of_pos (by rw [h3 a ha]; exact hp), this]
      | false => rw [List.countP_cons_of_neg (by rw [hp]; decide), List.countP_cons_of_neg (by rw [h3 a ha, hp]; decide), this]
theorem cnt_set {n : Nat} {listed : Array Bool} (hs : listed.size = n) {i : Nat} (hi : i < n) (hu : up listed i = false) : cnt n listed = cnt n (listed.setIfInBounds i true) + 1 := by
  refine countP_flip _ _ i (by rw [hu]; rfl) ?_ (fun j hj => ?_) _ List.nodup_range (List.mem_range.2 hi)
  · rw [up_set (by omega), if_pos rfl]; rfl
  · rw [up_set (by omega), if_neg hj]
theorem cnt_zero {n : Nat} {listed : Array Bool} (h : cnt n listed = 0) {i : Nat} (hi : i < n) : up listed i = true := by
  have := List.countP_eq_zero.1 h i (List.mem_range.2 hi)
  simpa using this
theorem Sch.ready_ne (H : Sch ops ks anc) {listed : Array Bool} (hs : listed.size = ops.size) (h : cnt ops.size listed ≠ 0) : Region.ready .any ops listed ≠ [] := by
  intro hr
  apply h
  have all : ∀ i, i < ops.size → up listed i = true := by
    intro i
    induction i using Nat.strongRecOn with
    | _ i ih =>
      intro hi
      cases hu : up listed i with
      | true => rfl
      | false =>
        exfalso
        have : i ∈ Region.ready .any ops listed := mem_ready.2 ⟨by rw [getD_any (by omega)]; exact hu, _, Array.getElem?_eq_getElem hi, fun e he hb => by
          have h1 := H.edges i _ (Array.getElem?_eq_getElem hi) e he hb
          exact ih _ h1 (by omega)⟩
        rw [hr] at this; cases this
  exact List.countP_eq_zero.2 fun i hi => by rw [all i (List.mem_range.1 hi)]; decide
theorem ready_nil {listed : Array Bool} (hs : listed.size = ops.size) (h : cnt ops.size listed = 0) : Region.ready .any ops listed = [] := by
  cases hr : Region.ready .any ops listed with
  | nil => rfl
  | cons i r =>
    exfalso
    obtain ⟨hu, o, ho, _⟩ := mem_ready.1 (show i ∈ Region.ready .any ops listed by rw [hr]; simp)
    have hi := (Array.getElem?_eq_some_iff.1 ho).1
    rw [getD_any (by omega)] at hu
    have := cnt_zero h hi
    rw [show up listed i = listed.getD i false from rfl, hu] at this
    cases this
theorem nums_split {p : Nat → Bool} {k n i : Nat} (h1 : k ≤ i) (h2 : i < n) (h3 : p (kd ks i) = true) : nums ks p k n = nums ks p k i ++ i :: nums ks p (i + 1) n := by
  unfold nums
  have e : List.range' k (n - k) = List.range' k (i - k) ++ List.range' i (n - i) := by
    rw [show n - k = (i - k) + (n - i) by omega, ← List.range'_append_1]
    congr 2
    omega
  rw [e, List.filter_append, show n - i = (n - (i + 1)) + 1 by omega, List.range'_succ, List.filter_cons, if_pos h3]

/-! ### the tail -/
theorem stL_put (V : Nat → Value) {x : Option Tmp} {v : Value} (S : List Nat) : ∀ a, (∀ j ∈ S, ∀ d, x = some d → dstOf ops j ≠ some d) → (stL ops V S a).put x v = stL ops V S (a.put x v) := by
  induction S with
  | nil => intro a _; rfl
  | cons i S ih =>
    intro a h
    rw [stL_cons, stL_cons, ih _ (fun j hj => h j (List.mem_cons_of_mem _ hj)), Act.put_comm a v (V i) (fun d hd e => h i (by simp) d hd e)]
theorem stL_defer (V : Nat → Value) (g : List Deferred) (S : List Nat) : ∀ a, ({ stL ops V S a with defers := g } : Act) = stL ops V S { a with defers := g } := by
  induction S with
  | nil => intro a; rfl
  | cons i S ih =>
    intro a
    rw [stL_cons, stL_cons, ih]
    congr 1
    cases dstOf ops i <;> rfl
theorem wp_shift {o : Oper} {V : Nat → Value} {S : List Nat} {a : Act} {w : World} {X K K' : Act → World → Prop} {Q : Exit → Act → World → Prop} (he : execOp (stL ops V S a).eval o = execOp a.eval o) (hS : ∀ j ∈ S, ∀ d, o.dst = some d → dstOf ops j ≠ some d)
    (hK : ∀ g v w', K (stL ops V S (({ a with defers := g } : Act).put o.dst v)) w' → K' (({ a with defers := g } : Act).put o.dst v) w')
    (h : o.wp P (stL ops V S a) w K (Exit.then X (fun _ _ _ => False))) : o.wp P a w K' Q := by
  have hd : ∀ v w', K ((stL ops V S a).put o.dst v) w' → K' (a.put o.dst v) w' := fun v w' h => hK a.defers v w' (by rw [← stL_put V S a hS]; exact h)
  unfold Oper.wp at h ⊢
  rw [he] at h
  generalize (execOp a.eval o).run P w = r at *
  cases r with
  | ok nx w' =>
    cases nx <;> simp only [Oper.upon] at h ⊢
    case value u => exact hd _ _ h
    case skip => exact hd _ _ h
    case defer d =>
      refine hK (d :: a.defers) undef w' ?_
      rw [← stL_put V S _ hS, ← stL_defer]
      rw [stL_defers] at h
      exact h
    case enter f args =>
      refine h.mono fun e w'' he => ?_
      cases e with
      | returned v => exact hd _ _ he
      | panicked c => exact he.elim
      | outgrown => obtain ⟨_, _, hf⟩ := he; exact hf.elim
    case row r args => exact fun c cs => let ⟨v, w'', hx, hs⟩ := h c cs; ⟨v, w'', hd _ _ hx, hs⟩
  | halt x w' => cases x <;> simp only [Oper.upon] at h ⊢ <;> first | exact h.elim | exact h

variable {Q : Exit → Act → World → Prop} {V : Nat → Value} {a0 : Act}
abbrev nonT (ks : List Nat) (n : Nat) : List Nat := nums ks pQ 0 n ++ nums ks pL 0 n
abbrev pF (k : Nat) : Bool := k == 1
theorem mem_nonT {n i : Nat} : i ∈ nonT ks n ↔ i < n ∧ kd ks i < 3 := by
  unfold nonT
  rw [List.mem_append, mem_nums, mem_nums]
  simp only [pQ, pL, decide_eq_true_eq, beq_iff_eq]
  omega
theorem getD_out {a : Act} {t : Nat} (h : ¬ t < a.tmps.size) : a.tmps.getD t undef = undef := by simp [h]
theorem Sch.phase2 (H : Sch ops ks anc) (hG : ∀ (i : Nat) (o : Oper), ops[i]? = some o → kd ks i = 1 → Fixes P ops o (V i) (stL ops V (nums ks pQ 0 i) a0)) :
    ∀ (f : Nat) (listed : Array Bool) (cur : Act) (w : World), listed.size = ops.size → Upw ops listed → cnt ops.size listed = f → (∀ i, i < ops.size → kd ks i = 0 ∨ kd ks i = 2 → up listed i = true) →
      (∀ t, (∀ j, 3 ≤ kd ks j → dstOf ops j ≠ some t) → cur.tmps.getD t undef = (stL ops V ((nonT ks ops.size).filter (up listed)) a0).tmps.getD t undef) → cur.tmps.size = a0.tmps.size →
      wpList P ops (Exit.then (fun a w => Q .normal a w) (fun _ _ _ => False)) (((nums ks pT 0 ops.size).filter fun i => !up listed i).filterMap fun i => ops[i]?) (stL ops V ((nums ks pF 0 ops.size).filter fun i => !up listed i) cur) w →
      Go.wpAny P .any ops Q f listed cur w := by
  intro f
  induction f with
  | zero =>
    intro listed cur w hs hU hc hz hcur hsz hT
    refine ⟨ready_nil hs hc, ?_⟩
    have e : ∀ p : Nat → Bool, ((nums ks p 0 ops.size).filter fun i => !up listed i) = [] := fun p => List.filter_eq_nil_iff.2 fun i hi => by
      rw [cnt_zero hc (mem_nums.1 hi).1.2]; decide
    rw [e, e] at hT
    exact hT
  | succ f ih =>
    intro listed cur w hs hU hc hz hcur hsz hT
    refine ⟨fun hr => absurd hr (H.ready_ne hs (by omega)), fun i hi => ?_⟩
    obtain ⟨hu, o, ho, he⟩ := mem_ready.1 hi
    have hlt := (Array.getElem?_eq_some_iff.1 ho).1
    rw [getD_any (by omega)] at hu
    have hdst : dstOf ops i = o.dst := by unfold dstOf; rw [ho]; rfl
    have hkz : ¬ (kd ks i = 0 ∨ kd ks i = 2) := fun h => by
      have := hz i hlt h
      rw [show up listed i = listed.getD i false from rfl, hu] at this; cases this
    have hup : ∀ j, anc i j → up listed j = true := fun j => H.anc_up hU i o j ho he
    have hU' := hU.set (by omega) ho he
    have hs' : (listed.setIfInBounds i true).size = ops.size := by simp [hs]
    have hc' : cnt ops.size (listed.setIfInBounds i true) = f := by have := cnt_set hs hlt hu; omega
    have hz' : ∀ j, j < ops.size → kd ks j = 0 ∨ kd ks j = 2 → up (listed.setIfInBounds i true) j = true := fun j hj h => by
      rw [up_set (by omega)]; split
      · rfl
      · exact hz j hj h
    unfold wpOp
    rw [ho]
    dsimp only
    by_cases hk : kd ks i = 1
    · -- an address
      have hal : Alike ops o (stL ops V (nums ks pQ 0 i) a0) cur := fun t ht => by
        rw [hcur t fun j hj e => by have := (H.looks1 ho (.inl hk) ht e).2; omega]
        refine stL_agree H.apart fun j hj => ?_
        obtain ⟨ha, hk2⟩ := H.looks1 ho (.inl hk) ht hj
        have h1 := hup j ha
        have h2 := (H.lower i j ha).1
        refine ⟨⟨fun _ => List.mem_filter.2 ⟨mem_nonT.2 ⟨by omega, by omega⟩, h1⟩, fun _ => mem_nums.2 ⟨⟨Nat.zero_le _, h2⟩, by simp [pQ]; omega⟩⟩, fun _ => rfl⟩
      have hy := Fixes.alike (H.sel i o · · ho) hal (by rw [stL_size, hsz]) (hG i o ho hk)
      have hT' : wpList P ops (Exit.then (fun a w => Q .normal a w) (fun _ _ _ => False)) (((nums ks pT 0 ops.size).filter fun j => !up (listed.setIfInBounds i true) j).filterMap fun i => ops[i]?)
          (stL ops V ((nums ks pF 0 ops.size).filter fun j => !up (listed.setIfInBounds i true) j) (cur.put o.dst (V i))) w := by
        have e1 : ((nums ks pT 0 ops.size).filter fun j => !up (listed.setIfInBounds i true) j) = (nums ks pT 0 ops.size).filter fun j => !up listed j := List.filter_congr fun j hj => by
          have := (mem_nums.1 hj).2
          simp only [pT, decide_eq_true_eq] at this
          rw [up_set (by omega), if_neg (fun e => by subst e; omega)]
        have e2 : stL ops V ((nums ks pF 0 ops.size).filter fun j => !up (listed.setIfInBounds i true) j) (cur.put o.dst (V i)) = stL ops V ((nums ks pF 0 ops.size).filter fun j => !up listed j) cur := by
          rw [← hdst, ← stL_cons]
          refine stL_same H.apart fun j => ⟨?_, fun _ => rfl⟩
          simp only [List.mem_cons, List.mem_filter, Bool.not_eq_true', mem_nums, pF, beq_iff_eq]
          rw [up_set (by omega)]
          constructor
          · rintro (rfl | ⟨h1, h2⟩)
            · exact ⟨⟨⟨Nat.zero_le _, hlt⟩, hk⟩, hu⟩
            · by_cases hji : j = i
              · rw [if_pos hji] at h2; cases h2
              · rw [if_neg hji] at h2; exact ⟨h1, h2⟩
          · rintro ⟨h1, h2⟩
            by_cases hji : j = i
            · exact .inl hji
            · exact .inr ⟨h1, by rw [if_neg hji]; exact h2⟩
        rw [e1, e2]; exact hT
      have hcur' : ∀ t, (∀ j, 3 ≤ kd ks j → dstOf ops j ≠ some t) → (cur.put o.dst (V i)).tmps.getD t undef = (stL ops V ((nonT ks ops.size).filter (up (listed.setIfInBounds i true))) a0).tmps.getD t undef := fun t ht => by
        have hmem : i ∈ (nonT ks ops.size).filter (up (listed.setIfInBounds i true)) := List.mem_filter.2 ⟨mem_nonT.2 ⟨hlt, by omega⟩, by rw [up_set (by omega), if_pos rfl]⟩
        by_cases hd : o.dst = some t
        · by_cases htl : t < cur.tmps.size
          · rw [hd, put_hit _ _ htl, stL_hit H.apart V (hdst.trans hd) _ a0 (hsz ▸ htl) hmem]
          · have h1 : ¬ t < (cur.put o.dst (V i)).tmps.size := by rw [put_size]; exact htl
            have h2 : ¬ t < (stL ops V ((nonT ks ops.size).filter (up (listed.setIfInBounds i true))) a0).tmps.size := by rw [stL_size, ← hsz]; exact htl
            rw [getD_out h1, getD_out h2]
        · rw [put_miss _ _ hd, hcur t ht]
          refine stL_agree H.apart fun j hj => ⟨?_, fun _ => rfl⟩
          rw [List.mem_filter, List.mem_filter, up_set (by omega), if_neg (fun e => by subst e; rw [hdst] at hj; exact hd hj)]
      rcases hy with ⟨hw, hv⟩ | ⟨hw, hv⟩
      · rw [if_pos hw]
        exact .inl (wp_of_fix (hv w) (ih _ _ w hs' hU' hc' hz' hcur' (by rw [put_size, hsz]) hT'))
      · rw [if_neg (by rw [hw]; decide), ← hv]
        exact ih _ _ w hs' hU' hc' hz' hcur' (by rw [put_size, hsz]) hT'
    · -- the next of the tail
      have hk3 : 3 ≤ kd ks i := by omega
      have hhead : ∀ q : Nat → Bool, q i = true → (∀ j, j < i → 3 ≤ kd ks j → q j = false) → ((nums ks pT 0 ops.size).filter q) = i :: (nums ks pT (i + 1) ops.size).filter q := fun q h1 h2 => by
        rw [nums_split (Nat.zero_le i) hlt (by simp [pT]; omega), List.filter_append, List.filter_cons, if_pos h1, List.filter_eq_nil_iff.2, List.nil_append]
        intro j hj
        obtain ⟨hj1, hj2⟩ := mem_nums.1 hj
        simp only [pT, decide_eq_true_eq] at hj2
        rw [h2 j hj1.2 hj2]; decide
      have hearly : ∀ j, j < i → 3 ≤ kd ks j → up listed j = true := fun j hj hk => by
        rcases H.tail i o ho hk3 j (by omega) with h | h | h
        · omega
        · omega
        · exact hup j h
      rw [hhead (fun j => !up listed j) (by rw [show up listed i = listed.getD i false from rfl, hu]; rfl) (fun j hj hk => by rw [hearly j hj hk]; rfl), List.filterMap_cons, ho] at hT
      dsimp only at hT
      have hS : ∀ j ∈ (nums ks pF 0 ops.size).filter (fun j => !up listed j), ∀ d, o.dst = some d → dstOf ops j ≠ some d := fun j hj d hd e => by
        obtain ⟨h1, _⟩ := List.mem_filter.1 hj
        have h2 := (mem_nums.1 h1).2
        simp only [pF, beq_iff_eq] at h2
        exact H.apart i j d (fun e' => by subst e'; omega) (hdst.trans hd) e
      have hal : Alike ops o (stL ops V ((nums ks pF 0 ops.size).filter fun j => !up listed j) cur) cur := fun t ht => by
        refine stL_miss V _ _ fun j hj e => ?_
        obtain ⟨_, h1⟩ := List.mem_filter.1 hj
        rw [hup j (H.looks1 ho (.inr hk3) ht e).1] at h1
        cases h1
      have next : ∀ (g : List Deferred) (v : Value) (w' : World), wpList P ops (Exit.then (fun a w => Q .normal a w) (fun _ _ _ => False)) (((nums ks pT (i + 1) ops.size).filter fun j => !up listed j).filterMap fun i => ops[i]?)
          (stL ops V ((nums ks pF 0 ops.size).filter fun j => !up listed j) (({ cur with defers := g } : Act).put o.dst v)) w' → Go.wpAny P .any ops Q f (listed.setIfInBounds i true) (({ cur with defers := g } : Act).put o.dst v) w' := fun g v w' h => by
        refine ih _ _ w' hs' hU' hc' hz' (fun t ht => ?_) (by rw [put_size]; exact hsz) ?_
        · rw [put_miss _ _ (fun e => ht i hk3 (hdst.trans e))]
          show cur.tmps.getD t undef = _
          rw [hcur t ht]
          refine stL_agree H.apart fun j hj => ⟨?_, fun _ => rfl⟩
          rw [List.mem_filter, List.mem_filter, up_set (by omega), if_neg (fun e => by subst e; exact ht j hk3 hj)]
        · have e1 : ((nums ks pT 0 ops.size).filter fun j => !up (listed.setIfInBounds i true) j) = (nums ks pT (i + 1) ops.size).filter fun j => !up listed j := by
            rw [nums_split (Nat.zero_le i) hlt (by simp [pT]; omega), List.filter_append, List.filter_cons, if_neg (by rw [up_set (by omega), if_pos rfl]; decide), List.filter_eq_nil_iff.2, List.nil_append]
            · exact List.filter_congr fun j hj => by
                have := (mem_nums.1 hj).1
                rw [up_set (by omega), if_neg (by omega)]
            · intro j hj
              obtain ⟨hj1, hj2⟩ := mem_nums.1 hj
              simp only [pT, decide_eq_true_eq] at hj2
              rw [up_set (by omega), if_neg (by omega), hearly j hj1.2 hj2]; decide
          have e2 : ((nums ks pF 0 ops.size).filter fun j => !up (listed.setIfInBounds i true) j) = (nums ks pF 0 ops.size).filter fun j => !up listed j := List.filter_congr fun j hj => by
            have := (mem_nums.1 hj).2
            simp only [pF, beq_iff_eq] at this
            rw [up_set (by omega), if_neg (fun e => by subst e; omega)]
          rw [e1, e2]; exact h
      simp only [wpList] at hT
      rw [wanted_alike hal (by rw [stL_size])] at hT
      by_cases hw : Region.wanted o (yielded ops cur.tmps) = true
      · rw [if_pos hw] at hT ⊢
        rcases hT with hT | ⟨_, _, _, hf⟩
        · exact .inl (wp_shift (exec_alike (H.sel i o · · ho) hal) hS next hT)
        · exact hf.elim
      · rw [if_neg hw] at hT ⊢
        rw [stL_put V _ _ hS] at hT
        exact next cur.defers undef w hT
/-! ### all of it -/
theorem Sch.phase1 (H : Sch ops ks anc) (hGd : ∀ (i : Nat) (o : Oper), ops[i]? = some o → kd ks i = 2 → o.guard = none) {Vq : Nat → Value} {w0 : World} {Ds : Nat → List Nat} {Rs : Nat → Rel}
    (hC : ∀ i w w', C w → Kept (fun b => b ∉ Ds i) w w' → C w') (hR : ∀ i j v w w', i ≠ j → Rs i v w → Kept (fun b => b ∉ Ds j) w w' → Rs i v w') (hDs : ∀ i j b, i ≠ j → b ∈ Ds i → b ∉ Ds j)
    (hG : ∀ (i : Nat) (o : Oper), ops[i]? = some o → kd ks i < 2 → Owe P ops C (kd ks i) o (Vq i) (stL ops Vq (nums ks pQ 0 i) a0))
    (hL : ∀ V : Nat → Value, (∀ (i : Nat) (o : Oper), ops[i]? = some o → kd ks i = 2 → ∀ w', C w' → Kept (fun b => b ∈ Ds i) w0 w' → (∀ j, j < i → kd ks j = 2 → anc i j → Rs j (V j) w') → sumAt P (Ds i) o (stL ops V (nums ks pL 0 i) (stL ops Vq (nums ks pQ 0 ops.size) a0)) (Rs i) w') ∧
      ∀ w', C w' → (∀ i, i < ops.size → kd ks i = 2 → Rs i (V i) w') → wpList P ops (Exit.then (fun a w => Q .normal a w) (fun _ _ _ => False)) ((nums ks pT 0 ops.size).filterMap fun i => ops[i]?) (stL ops V (nums ks pL 0 ops.size) (stL ops Vq (nums ks pQ 0 ops.size) a0)) w') :
    ∀ (f : Nat) (listed : Array Bool) (V : Nat → Value) (w : World), listed.size = ops.size → Upw ops listed → cnt ops.size listed = f → (∀ i, kd ks i < 2 → V i = Vq i) → (∀ i, 3 ≤ kd ks i → up listed i = false) → C w → (∀ i, up listed i = false → Kept (fun b => b ∈ Ds i) w0 w) →
      (∀ i, i < ops.size → kd ks i = 2 → up listed i = true → Rs i (V i) w) → Go.wpAny P .any ops Q f listed (stL ops V ((nonT ks ops.size).filter (up listed)) a0) w := by
  intro f
  induction f with
  | zero =>
    intro listed V w hs hU hc hV hT hw hpre hRs
    refine H.phase2 (V := V) (a0 := a0) (fun i o ho hk => ?_) 0 listed _ w hs hU hc (fun i hi _ => cnt_zero hc hi) (fun t _ => rfl) (stL_size _ _ _) ?_
    · have := hG i o ho (by omega)
      rw [show stL ops V (nums ks pQ 0 i) a0 = stL ops Vq (nums ks pQ 0 i) a0 from stL_same H.apart fun j => ⟨Iff.rfl, fun h => hV j (by have := (mem_nums.1 h).2; simpa [pQ] using this)⟩, hV i (by omega)]
      unfold Owe at this
      rwa [if_neg (by omega)] at this
    · exact finish listed V w hs hV hT hw hRs (fun i hi _ => cnt_zero hc hi)
  | succ f ih =>
    intro listed V w hs hU hc hV hT hw hpre hRs
    by_cases hall : ∀ i, i < ops.size → kd ks i = 0 ∨ kd ks i = 2 → up listed i = true
    · refine H.phase2 (V := V) (a0 := a0) (fun i o ho hk => ?_) (f + 1) listed _ w hs hU hc hall (fun t _ => rfl) (stL_size _ _ _) ?_
      · have := hG i o ho (by omega)
        rw [show stL ops V (nums ks pQ 0 i) a0 = stL ops Vq (nums ks pQ 0 i) a0 from stL_same H.apart fun j => ⟨Iff.rfl, fun h => hV j (by have := (mem_nums.1 h).2; simpa [pQ] using this)⟩, hV i (by omega)]
        unfold Owe at this
        rwa [if_neg (by omega)] at this
      · exact finish listed V w hs hV hT hw hRs hall
    · refine ⟨fun hr => absurd hr (H.ready_ne hs (by omega)), fun i hi => ?_⟩
      obtain ⟨hu, o, ho, he⟩ := mem_ready.1 hi
      have hlt := (Array.getElem?_eq_some_iff.1 ho).1
      rw [getD_any (by omega)] at hu
      have hdst : dstOf ops i = o.dst := by unfold dstOf; rw [ho]; rfl
      have hup : ∀ j, anc i j → up listed j = true := fun j => H.anc_up hU i o j ho he
      have hk3 : kd ks i < 3 := by
        rcases Nat.lt_or_ge (kd ks i) 3 with h | h
        · exact h
        · exfalso
          apply hall
          intro j hj hk
          rcases H.tail i o ho h j hj with h1 | h1 | h1
          · omega
          · omega
          · exact hup j h1
      have hU' := hU.set (by omega) ho he
      have hs' : (listed.setIfInBounds i true).size = ops.size := by simp [hs]
      have hc' : cnt ops.size (listed.setIfInBounds i true) = f := by have := cnt_set hs hlt hu; omega
      have hT' : ∀ j, 3 ≤ kd ks j → up (listed.setIfInBounds i true) j = false := fun j hj => by
        rw [up_set (by omega), if_neg (fun e => by subst e; omega)]; exact hT j hj
      -- the state behind it
      have hst : ∀ (V' : Nat → Value) (v : Value), (∀ j, j ≠ i → V' j = V j) → V' i = v → (stL ops V ((nonT ks ops.size).filter (up listed)) a0).put o.dst v = stL ops V' ((nonT ks ops.size).filter (up (listed.setIfInBounds i true))) a0 := fun V' v h1 h2 => by
        have e : (stL ops V ((nonT ks ops.size).filter (up listed)) a0).put o.dst v = stL ops V' ((nonT ks ops.size).filter (up listed) ++ [i]) a0 := by
          rw [stL_app, stL_cons, hdst, h2, show stL ops V' ((nonT ks ops.size).filter (up listed)) a0 = stL ops V ((nonT ks ops.size).filter (up listed)) a0 from stL_same H.apart fun j => ⟨Iff.rfl, fun h => h1 j (fun e => by subst e; exact absurd ((List.mem_filter.1 h).2.symm.trans hu) (by decide))⟩]
          rfl
        rw [e]
        refine stL_same H.apart fun j => ⟨?_, fun _ => rfl⟩
        rw [List.mem_append, List.mem_filter, List.mem_filter, List.mem_singleton, up_set (by omega), mem_nonT]
        constructor
        · rintro (⟨h3, h4⟩ | rfl)
          · exact ⟨h3, by split <;> first | rfl | exact h4⟩
          · exact ⟨⟨hlt, hk3⟩, by rw [if_pos rfl]⟩
        · rintro ⟨h3, h4⟩
          by_cases hji : j = i
          · exact .inr hji
          · rw [if_neg hji] at h4; exact .inl ⟨h3, h4⟩
      have hlooks : ∀ t ∈ o.looksAt ops, ∀ j, dstOf ops j = some t → (up listed j = true ∧ j < i ∧ (kd ks j < 2 ∨ (kd ks i = 2 ∧ kd ks j = 2))) ∨ 3 ≤ kd ks j := fun t ht j hj => by
        rcases H.looks i o ho t ht j hj with ⟨h1, h2⟩ | h1
        · exact .inl ⟨hup j h1, (H.lower i j h1).1, by omega⟩
        · exact .inr h1.2.2
      have hpre' : ∀ w', (∀ j, j ≠ i → Kept (fun b => b ∈ Ds j) w w') → ∀ j, up (listed.setIfInBounds i true) j = false → Kept (fun b => b ∈ Ds j) w0 w' := fun w' h j hj => by
        have hji : j ≠ i := fun e => by subst e; rw [up_set (by omega), if_pos rfl] at hj; cases hj
        rw [up_set (by omega), if_neg hji] at hj
        exact (hpre j hj).trans (h j hji)
      unfold wpOp
      rw [ho]
      dsimp only
      by_cases hk : kd ks i < 2
      · have hal : Alike ops o (stL ops Vq (nums ks pQ 0 i) a0) (stL ops V ((nonT ks ops.size).filter (up listed)) a0) := fun t ht => by
          refine stL_agree H.apart fun j hj => ?_
          rcases hlooks t ht j hj with ⟨h1, h2, h3⟩ | h3
          · exact ⟨⟨fun _ => List.mem_filter.2 ⟨mem_nonT.2 ⟨by omega, by omega⟩, h1⟩, fun _ => mem_nums.2 ⟨⟨Nat.zero_le _, h2⟩, by simp [pQ]; omega⟩⟩, fun _ => (hV j (by omega)).symm⟩
          · exact ⟨⟨fun h => (by have := (mem_nums.1 h).2; simp [pQ] at this; omega), fun h => (by have := (mem_nonT.1 (List.mem_filter.1 h).1).2; omega)⟩, fun h => (by have := (mem_nums.1 h).2; simp [pQ] at this; omega)⟩
        have hy0 := hG i o ho hk
        have hy : Gives P ops C o (V i) (stL ops V ((nonT ks ops.size).filter (up listed)) a0) := by
          rw [hV i hk]
          unfold Owe at hy0
          by_cases hz : kd ks i = 0
          · rw [if_pos hz] at hy0
            exact Gives.alike (H.sel i o · · ho) hal (by rw [stL_size, stL_size]) hy0
          · rw [if_neg hz] at hy0
            exact Gives.alike (H.sel i o · · ho) hal (by rw [stL_size, stL_size]) hy0.gives
        rcases hy with ⟨hwn, hv⟩ | ⟨hwn, hv⟩
        · rw [if_pos hwn]
          refine .inl (wp_of_relAt (hv w hw) fun w' hb => ?_)
          have hbk : ∀ K : Nat → Prop, Kept K w w' := fun K => Kept.of_below hb
          rw [hst V (V i) (fun _ _ => rfl) rfl]
          exact ih _ V w' hs' hU' hc' hV hT' (hC 0 _ _ hw (hbk _)) (hpre' w' fun j hj => hbk _) fun j hj h1 h2 => hR j (j + 1) _ _ _ (by omega) (hRs j hj h1 (by rw [up_set (by omega), if_neg (fun e => by subst e; omega)] at h2; exact h2)) (hbk _)
        · rw [if_neg (by rw [hwn]; decide), ← hv, hst V (V i) (fun _ _ => rfl) rfl]
          exact ih _ V w hs' hU' hc' hV hT' hw (hpre' w fun j hj => Kept.refl _ _) fun j hj h1 h2 => hRs j hj h1 (by rw [up_set (by omega), if_neg (fun e => by subst e; omega)] at h2; exact h2)
      · have hk2 : kd ks i = 2 := by omega
        have hal : Alike ops o (stL ops V (nums ks pL 0 i) (stL ops Vq (nums ks pQ 0 ops.size) a0)) (stL ops V ((nonT ks ops.size).filter (up listed)) a0) := fun t ht => by
          rw [show stL ops Vq (nums ks pQ 0 ops.size) a0 = stL ops V (nums ks pQ 0 ops.size) a0 from stL_same H.apart fun j => ⟨Iff.rfl, fun h => (hV j (by have := (mem_nums.1 h).2; simpa [pQ] using this)).symm⟩, ← stL_app]
          refine stL_agree H.apart fun j hj => ⟨?_, fun _ => rfl⟩
          rcases hlooks t ht j hj with ⟨h1, h2, h3⟩ | h3
          · refine ⟨fun _ => List.mem_filter.2 ⟨mem_nonT.2 ⟨by omega, by omega⟩, h1⟩, fun _ => ?_⟩
            rcases h3 with h3 | ⟨-, h3⟩
            · exact List.mem_append_left _ (mem_nums.2 ⟨⟨Nat.zero_le _, by omega⟩, by simp [pQ]; omega⟩)
            · exact List.mem_append_right _ (mem_nums.2 ⟨⟨Nat.zero_le _, h2⟩, by simp [pL, h3]⟩)
          · refine ⟨fun h => ?_, fun h => (by have := (mem_nonT.1 (List.mem_filter.1 h).1).2; omega)⟩
            rcases List.mem_append.1 h with h | h
            · have := (mem_nums.1 h).2; simp [pQ] at this; omega
            · have := (mem_nums.1 h).2; simp [pL] at this; omega
        have hy := sumAt.alike (H.sel i o · · ho) hal ((hL V).1 i o ho hk2 w hw (hpre i hu) fun j hj1 hj2 hj3 => hRs j (by omega) hj2 (hup j hj3))
        rw [if_pos (by simp [Region.wanted, hGd i o ho hk2])]
        refine .inl (wp_of_sumAt hy fun v w' hb hv => ?_)
        rw [hst (fun j => if j = i then v else V j) v (fun j hj => by rw [if_neg hj]) (by rw [if_pos rfl])]
        refine ih _ _ w' hs' hU' hc' (fun j hj => by rw [if_neg (fun e => by subst e; omega)]; exact hV j hj) hT' (hC i _ _ hw hb) (hpre' w' fun j hj => hb.mono fun b hb' => hDs j i b hj hb') fun j hj h1 h2 => ?_
        by_cases hji : j = i
        · subst hji; rw [if_pos rfl]; exact hv
        · rw [if_neg hji]; rw [up_set (by omega), if_neg hji] at h2; exact hR j i _ _ _ hji (hRs j hj h1 h2) hb
where
  finish (listed : Array Bool) (V : Nat → Value) (w : World) (hs : listed.size = ops.size) (hV : ∀ i, kd ks i < 2 → V i = Vq i) (hT : ∀ i, 3 ≤ kd ks i → up listed i = false) (hw : C w) (hRs : ∀ i, i < ops.size → kd ks i = 2 → up listed i = true → Rs i (V i) w)
      (hall : ∀ i, i < ops.size → kd ks i = 0 ∨ kd ks i = 2 → up listed i = true) : wpList P ops (Exit.then (fun a w => Q .normal a w) (fun _ _ _ => False)) (((nums ks pT 0 ops.size).filter fun i => !up listed i).filterMap fun i => ops[i]?)
        (stL ops V ((nums ks pF 0 ops.size).filter fun i => !up listed i) (stL ops V ((nonT ks ops.size).filter (up listed)) a0)) w := by
    have h := (hL V).2 w hw fun i hi hk => hRs i hi hk (hall i hi (.inr hk))
    rw [show stL ops Vq (nums ks pQ 0 ops.size) a0 = stL ops V (nums ks pQ 0 ops.size) a0 from stL_same H.apart fun j => ⟨Iff.rfl, fun h => (hV j (by have := (mem_nums.1 h).2; simpa [pQ] using this)).symm⟩, ← stL_app] at h
    rw [← stL_app, List.filter_eq_self.2 (fun i hi => by
      have := (mem_nums.1 hi).2
      rw [hT i (by simpa [pT] using this)]; rfl)]
    rw [show stL ops V ((nonT ks ops.size).filter (up listed) ++ (nums ks pF 0 ops.size).filter fun i => !up listed i) a0 = stL ops V (nums ks pQ 0 ops.size ++ nums ks pL 0 ops.size) a0 from stL_same H.apart fun j => ⟨?_, fun _ => rfl⟩]
    · exact h
    · rw [List.mem_append, List.mem_filter, List.mem_filter, mem_nonT, mem_nums]
      simp only [pF, beq_iff_eq, Bool.not_eq_true']
      constructor
      · rintro (h1 | h1)
        · exact h1.1
        · exact ⟨h1.1.1.2, by omega⟩
      · intro h1
        cases hu : up listed j with
        | true => exact .inl ⟨h1, rfl⟩
        | false =>
          refine .inr ⟨⟨⟨Nat.zero_le _, h1.1⟩, ?_⟩, rfl⟩
          have h2 : ¬ (kd ks j = 0 ∨ kd ks j = 2) := fun h => by rw [hall j h1.1 h] at hu; cases hu
          omega

/-! ### the class of worlds -/
/-- The blocks D hold whatever. -/
def spoil (w : World) (D : List Nat) (f : Nat → Obj) : World := D.foldl (fun w b => w.putObj b (f b)) w
theorem spoil_nil (w : World) (f : Nat → Obj) : spoil w [] f = w := rfl
structure Messed where
  d : Nat
  os : Array Obj
  f : Nat → Obj
instance : Inhabited Messed := ⟨⟨0, #[], fun _ => default⟩⟩
abbrev Msd (w : World) (D : List Nat) : World → Prop := fun w' => ∃ p : Messed, w' = Go.Sort.grow (redrawn (spoil w D p.f) p.d) p.os
theorem putObj_same (w : World) (b : Nat) (o : Obj) : (w.putObj b o).os = w.os ∧ (w.putObj b o).tape = w.tape ∧ (w.putObj b o).output = w.output ∧ (w.putObj b o).heap.size = w.heap.size := ⟨rfl, rfl, rfl, by simp [World.putObj]⟩
theorem spoil_same (D : List Nat) (f : Nat → Obj) : ∀ w : World, (spoil w D f).os = w.os ∧ (spoil w D f).tape = w.tape ∧ (spoil w D f).output = w.output ∧ (spoil w D f).heap.size = w.heap.size := by
  induction D with
  | nil => intro w; exact ⟨rfl, rfl, rfl, rfl⟩
  | cons b D ih =>
    intro w
    obtain ⟨h1, h2, h3, h4⟩ := ih (w.putObj b (f b))
    obtain ⟨g1, g2, g3, g4⟩ := putObj_same w b (f b)
    exact ⟨h1.trans g1, h2.trans g2, h3.trans g3, h4.trans g4⟩
theorem spoil_miss {D : List Nat} {f : Nat → Obj} {k : Nat} : ∀ w : World, k ∉ D → (spoil w D f).heap[k]? = w.heap[k]? := by
  induction D with
  | nil => intro w _; rfl
  | cons b D ih =>
    intro w h
    have h1 := ih (w.putObj b (f b)) (fun e => h (List.mem_cons_of_mem _ e))
    exact h1.trans (World.putObj_heap_other (fun e => h (by rw [e]; simp)))
theorem spoil_hit {D : List Nat} {f : Nat → Obj} {k : Nat} : ∀ w : World, k ∈ D → k < w.heap.size → (spoil w D f).heap[k]? = some (f k) := by
  induction D with
  | nil => intro w h; cases h
  | cons b D ih =>
    intro w h hk
    by_cases hD : k ∈ D
    · exact ih (w.putObj b (f b)) hD (by rw [(putObj_same w b (f b)).2.2.2]; exact hk)
    · obtain rfl : k = b := by
        rcases List.mem_cons.1 h with e | e
        · exact e
        · exact absurd e hD
      exact (spoil_miss (w.putObj k (f k)) hD).trans (World.putObj_heap_same hk)
theorem msd_kept {w w' : World} {D : List Nat} (h : Msd w D w') : Kept (fun b => b ∉ D) w w' := by
  obtain ⟨p, rfl⟩ := h
  obtain ⟨h1, h2, h3, h4⟩ := spoil_same D p.f w
  have hb := below_regrown (spoil w D p.f) p.d p.os
  exact ⟨hb.os.trans h1, hb.tape.trans h2, hb.output.trans h3, by rw [← h4]; exact hb.size, fun b hlt hK => (hb.block b (by rw [h4]; exact hlt)).trans (spoil_miss w hK)⟩
theorem msd_of {w w' : World} {D : List Nat} (h : Kept (fun b => b ∉ D) w w') : Msd w D w' := by
  have hb : Below (spoil w D fun b => w'.heap.getD b default).heap.size (spoil w D fun b => w'.heap.getD b default) w' := by
    obtain ⟨h1, h2, h3, h4⟩ := spoil_same D (fun b => w'.heap.getD b default) w
    refine ⟨h.os.trans h1.symm, h.tape.trans h2.symm, h.output.trans h3.symm, by rw [h4]; exact h.size, fun k hk => ?_⟩
    rw [h4] at hk
    by_cases hD : k ∈ D
    · rw [spoil_hit w hD hk]
      have := Nat.lt_of_lt_of_le hk h.size
      simp [this]
    · rw [spoil_miss w hD]; exact h.block k hk hD
  obtain ⟨p, hp⟩ := regrown_of_below hb
  exact ⟨⟨p.d, p.os, fun b => w'.heap.getD b default⟩, hp⟩
theorem Kept.none {w w' : World} (h : Kept (fun b => b ∉ ([] : List Nat)) w w') : Below w.heap.size w w' := h.below (Nat.le_refl _) fun _ _ => by simp
/-- A block that is not spoilt, in every world of the class. -/
theorem Blk.sp {w : World} {g : Nat} {t : TypeId} {cs : Array Value} {D : List Nat} (h : Blk w g t cs) (hg : g ∉ D) (f : Nat → Obj) (d : Nat) (os : Array Obj) : Blk (Go.Sort.grow (redrawn (spoil w D f) d) os) g t cs :=
  (msd_kept (D := D) ⟨⟨d, os, f⟩, rfl⟩).blk hg h
theorem wpLs_nil {w0 : World} {Ds : Nat → List Nat} {Rs : Nat → Rel} {an : Nat → Nat → Bool} {T : Act → World → Prop} {i : Nat} {a : Act} {Φ : World → Prop} {Ψ : (Nat → Prop) → World → Prop} (h : ∀ w', C w' → Φ w' → T a w') : wpLs P C w0 Ds Rs an T [] [] i a Φ Ψ := by unfold wpLs; exact h
theorem wpLs_nilB {w0 : World} {Ds : Nat → List Nat} {Rs : Nat → Rel} {an : Nat → Nat → Bool} {T : Act → World → Prop} {i : Nat} {a : Act} {Φ : World → Prop} {Ψ : (Nat → Prop) → World → Prop} (h : ∀ w', Below w0.heap.size w0 w' → Φ w' → T a w') : wpLs P (Msd w0 []) w0 Ds Rs an T [] [] i a Φ Ψ := by
  unfold wpLs; exact fun w' hw => h w' (msd_kept hw).none
theorem wpLs_nilD {w0 : World} {D : List Nat} {Ds : Nat → List Nat} {Rs : Nat → Rel} {an : Nat → Nat → Bool} {T : Act → World → Prop} {i : Nat} {a : Act} {Φ : World → Prop} {Ψ : (Nat → Prop) → World → Prop} (h : ∀ w', Kept (fun b => b ∉ D) w0 w' → Φ w' → T a w') : wpLs P (Msd w0 D) w0 Ds Rs an T [] [] i a Φ Ψ := by
  unfold wpLs; exact fun w' hw => h w' (msd_kept hw)
theorem wpLs_one {w0 : World} {Ds : Nat → List Nat} {Rs : Nat → Rel} {an : Nat → Nat → Bool} {T : Act → World → Prop} {i : Nat} {a : Act} {Φ : World → Prop} {Ψ : (Nat → Prop) → World → Prop} {o : Oper} {l : List Oper} (h1 : ∀ w', C w' → Kept (fun b => b ∈ Ds i) w0 w' → sumAt P (Ds i) o a (Rs i) w') (h2 : ∀ v, wpLs P C w0 Ds Rs an T ks l (i + 1) (a.put o.dst v) (fun w => Φ w ∧ Rs i v w) (fun S w => Ψ S w ∧ (S i → Rs i v w))) :
    wpLs P C w0 Ds Rs an T (2 :: ks) (o :: l) i a Φ Ψ := by unfold wpLs; exact ⟨fun w' h h' _ => h1 w' h h', h2⟩
theorem wpLs_oneF {w0 : World} {Ds : Nat → List Nat} {Rs : Nat → Rel} {an : Nat → Nat → Bool} {T : Act → World → Prop} {i : Nat} {a : Act} {Φ : World → Prop} {Ψ : (Nat → Prop) → World → Prop} {o : Oper} {l : List Oper} (h1 : ∀ w', C w' → Kept (fun b => b ∈ Ds i) w0 w' → Ψ (fun j => an i j = true) w' → sumAt P (Ds i) o a (Rs i) w') (h2 : ∀ v, wpLs P C w0 Ds Rs an T ks l (i + 1) (a.put o.dst v) (fun w => Φ w ∧ Rs i v w) (fun S w => Ψ S w ∧ (S i → Rs i v w))) :
    wpLs P C w0 Ds Rs an T (2 :: ks) (o :: l) i a Φ Ψ := by unfold wpLs; exact ⟨h1, h2⟩
def notTwo : Nat → Prop
  | 2 => False
  | _ => True
theorem wpLs_skip {w0 : World} {Ds : Nat → List Nat} {Rs : Nat → Rel} {an : Nat → Nat → Bool} {T : Act → World → Prop} {i : Nat} {a : Act} {Φ : World → Prop} {Ψ : (Nat → Prop) → World → Prop} {o : Oper} {l : List Oper} {k : Nat} (h : wpLs P C w0 Ds Rs an T ks l (i + 1) a Φ Ψ) (hk : notTwo k := by exact trivial) : wpLs P C w0 Ds Rs an T (k :: ks) (o :: l) i a Φ Ψ := by
  match k, hk with
  | 0, _ => unfold wpLs; exact h
  | 1, _ => unfold wpLs; exact h
  | k + 3, _ => unfold wpLs; exact h
/-! ### the laws -/
theorem any_sched {Q : Exit → Act → World → Prop} {a : Act} {w : World} {l : List Oper} (ks : List Nat) (D : List Nat) (Ds : Nat → List Nat) (Rs : Nat → Rel) (hD : ∀ i b, b ∈ Ds i → b ∈ D) (hDs : ∀ i j b, i ≠ j → b ∈ Ds i → b ∉ Ds j)
    (hR : ∀ i j v w w', i ≠ j → Rs i v w → Kept (fun b => b ∉ Ds j) w w' → Rs i v w') (hB : schedB l.toArray ks = true)
    (h : wpQs P l.toArray (Msd w D) (fun a' => wpLs P (Msd w D) w Ds Rs (ancB (Region.before l.toArray)) (fun a'' w'' => wpList P l.toArray (Exit.then (fun a w => Q .normal a w) (fun _ _ _ => False)) (tails ks l) a'' w'') ks l 0 a' (fun _ => True) (fun _ _ => True)) ks l a) :
    Go.wpAny P .any l.toArray Q l.toArray.size (Array.replicate l.toArray.size false) a { w with drawn := w.drawn + 1 } := by
  have H := sch_of hB
  have hlen : ks.length = l.length := by simpa using H.len
  obtain ⟨Vq, h1, h2⟩ := qs_facts (l := l) (ks := ks) l ks 0 a rfl rfl h
  have e : l.length = l.toArray.size := by simp
  have h3 := fun V => ls_facts (l := l) (ks := ks) l ks 0 _ _ _ rfl rfl h2 V
  rw [tails_eq (l := l) (ks := ks) l ks 0 rfl rfl hlen, e] at h3
  have hd0 : ∀ K : Nat → Prop, Kept K w { w with drawn := w.drawn + 1 } := fun K => ⟨rfl, rfl, rfl, Nat.le_refl _, fun _ _ _ => rfl⟩
  have := H.phase1 (guard_of hB) (C := Msd w D) (Q := Q) (a0 := a) (w0 := w) (Ds := Ds) (Rs := Rs) (Vq := Vq) (fun i w1 w2 h4 h5 => msd_of ((msd_kept h4).trans (h5.mono fun b hb hi => hb (hD i b hi)))) hR hDs (fun i o ho hk => h1 i o (Nat.zero_le _) ho hk)
    (fun V => ⟨fun i o ho hk w' h6 h7 h8 => (h3 V).1 i o (Nat.zero_le _) ho hk w' h6 h7 trivial fun j _ h9 h10 h11 => h8 j h9 h10 ⟨(Array.getElem?_eq_some_iff.1 ho).1, by have := (Array.getElem?_eq_some_iff.1 ho).1; omega, h11⟩, fun w' hw' hr => (h3 V).2 w' hw' trivial fun i _ hi => hr i hi⟩)
    l.toArray.size (Array.replicate l.toArray.size false) Vq { w with drawn := w.drawn + 1 } (by simp) (fun j o hj => by simp [up, Array.getElem?_replicate] at hj; split at hj <;> cases hj)
    (by simp only [cnt]; rw [List.countP_eq_length.2 (fun i _ => by simp [up, Array.getElem?_replicate]; split <;> rfl)]; simp) (fun _ _ => rfl) (fun i _ => by simp [up, Array.getElem?_replicate]; split <;> rfl) (msd_of (hd0 _)) (fun _ _ => hd0 _)
    (fun i _ _ hu => by simp [up, Array.getElem?_replicate] at hu; split at hu <;> cases hu)
  have hf : (nonT ks l.toArray.size).filter (up (Array.replicate l.toArray.size false)) = [] := List.filter_eq_nil_iff.2 fun i _ => by simp [up, Array.getElem?_replicate]; split <;> simp
  rw [hf] at this
  exact this
/-- No block is written but the tail's. -/
theorem wp_sched {id : Nat} {Q : Exit → Act → World → Prop} {a : Act} {w : World} {l : List Oper} (ks : List Nat) (Rs : Nat → Rel) (hm : P.follows .mixedOrders = true) (hB : schedB l.toArray ks = true) (hR : ∀ i v w w', Rs i v w → Below w.heap.size w w' → Rs i v w')
    (h : wpQs P l.toArray (Msd w []) (fun a' => wpLs P (Msd w []) w (fun _ => []) Rs (ancB (Region.before l.toArray)) (fun a'' w'' => wpList P l.toArray (Exit.then (fun a w => Q .normal a w) (fun _ _ _ => False)) (tails ks l) a'' w'') ks l 0 a' (fun _ => True) (fun _ _ => True)) ks l a) : (Code.region id l.toArray true).wp P Q a w :=
  wp_region_any hm (any_sched ks [] (fun _ => []) Rs (fun _ _ h => h) (fun _ _ _ _ h => by cases h) (fun i _ v w w' _ h1 h2 => hR i v w w' h1 h2.none) hB h)
theorem in_sched {l' n id : Nat} {Q : Exit → Act → World → Prop} {a : Act} {w : World} {l : List Oper} (ks : List Nat) (Rs : Nat → Rel) (hm : P.follows .mixedOrders = true) (hB : schedB l.toArray ks = true) (hR : ∀ i v w w', Rs i v w → Below w.heap.size w w' → Rs i v w') (hd : noDefer l.toArray = true) (hQ : ¬ LetsOut Q)
    (h : wpQs P l.toArray (Msd w []) (fun a' => wpLs P (Msd w []) w (fun _ => []) Rs (ancB (Region.before l.toArray)) (fun a'' w'' => wpList P l.toArray (Exit.then (fun a w => Q .normal a w) (fun _ _ _ => False)) (tails ks l) a'' w'') ks l 0 a' (fun _ => True) (fun _ _ => True)) ks l a) : (Code.region id l.toArray true).wpIn (Fence.wide.inRound l') n P Q a w :=
  wpIn_region_any hm (any_in hd hQ _ _ _ _ (any_sched ks [] (fun _ => []) Rs (fun _ _ h => h) (fun _ _ _ _ h => by cases h) (fun i _ v w w' _ h1 h2 => hR i v w w' h1 h2.none) hB h))
/-- Blocks that are written at any time: each by one operation alone. -/
theorem wp_schedD {id : Nat} {Q : Exit → Act → World → Prop} {a : Act} {w : World} {l : List Oper} (ks : List Nat) (D : List Nat) (Ds : Nat → List Nat) (Rs : Nat → Rel) (hm : P.follows .mixedOrders = true) (hB : schedB l.toArray ks = true) (hD : ∀ i b, b ∈ Ds i → b ∈ D) (hDs : ∀ i j b, i ≠ j → b ∈ Ds i → b ∉ Ds j)
    (hR : ∀ i j v w w', i ≠ j → Rs i v w → Kept (fun b => b ∉ Ds j) w w' → Rs i v w')
    (h : wpQs P l.toArray (Msd w D) (fun a' => wpLs P (Msd w D) w Ds Rs (ancB (Region.before l.toArray)) (fun a'' w'' => wpList P l.toArray (Exit.then (fun a w => Q .normal a w) (fun _ _ _ => False)) (tails ks l) a'' w'') ks l 0 a' (fun _ => True) (fun _ _ => True)) ks l a) : (Code.region id l.toArray true).wp P Q a w :=
  wp_region_any hm (any_sched ks D Ds Rs hD hDs hR hB h)
/-- Two stores at any time, each into a block of its own that nothing else there reads. -/
def Ds2 (i1 b1 i2 b2 i : Nat) : List Nat := if i = i1 then [b1] else if i = i2 then [b2] else []
def Rs2 (i1 b1 : Nat) (t1 : TypeId) (c1 : Array Value) (i2 b2 : Nat) (t2 : TypeId) (c2 : Array Value) (i : Nat) : Rel := fun _ w => (i = i1 → Blk w b1 t1 c1) ∧ (i = i2 → Blk w b2 t2 c2)
theorem wp_two {id : Nat} {Q : Exit → Act → World → Prop} {a : Act} {w : World} {l : List Oper} (ks : List Nat) (i1 b1 : Nat) (t1 : TypeId) (c1 : Array Value) (i2 b2 : Nat) (t2 : TypeId) (c2 : Array Value) (hb : b1 ≠ b2) (hm : P.follows .mixedOrders = true) (hB : schedB l.toArray ks = true)
    (h : wpQs P l.toArray (Msd w [b1, b2]) (fun a' => wpLs P (Msd w [b1, b2]) w (Ds2 i1 b1 i2 b2) (Rs2 i1 b1 t1 c1 i2 b2 t2 c2) (ancB (Region.before l.toArray)) (fun a'' w'' => wpList P l.toArray (Exit.then (fun a w => Q .normal a w) (fun _ _ _ => False)) (tails ks l) a'' w'') ks l 0 a' (fun _ => True) (fun _ _ => True)) ks l a) : (Code.region id l.toArray true).wp P Q a w := by
  refine wp_schedD ks [b1, b2] (Ds2 i1 b1 i2 b2) (Rs2 i1 b1 t1 c1 i2 b2 t2 c2) hm hB (fun i b hb' => ?_) (fun i j b hij h1 h2 => ?_) (fun i j v w w' hij hr hk => ?_) h
  · unfold Ds2 at hb'
    split at hb'
    · simp at hb'; simp [hb']
    · split at hb'
      · simp at hb'; simp [hb']
      · cases hb'
  · unfold Ds2 at h1 h2
    split at h1
    · rename_i e1
      simp at h1
      subst h1
      split at h2
      · rename_i e2; exact hij (e1.trans e2.symm)
      · split at h2
        · simp at h2; exact hb h2
        · cases h2
    · split at h1
      · rename_i e1
        simp at h1
        subst h1
        split at h2
        · simp at h2; exact hb h2.symm
        · split at h2
          · rename_i e2; exact hij (e1.trans e2.symm)
          · cases h2
      · cases h1
  · refine ⟨fun e => hk.blk ?_ (hr.1 e), fun e => hk.blk ?_ (hr.2 e)⟩
    · unfold Ds2; intro hm'
      split at hm'
      · rename_i e2; exact hij (e.trans e2.symm)
      · split at hm'
        · simp at hm'; exact hb hm'
        · cases hm'
    · unfold Ds2; intro hm'
      split at hm'
      · simp at hm'; exact hb hm'.symm
      · split at hm'
        · rename_i e2; exact hij (e.trans e2.symm)
        · cases hm'
theorem two_fst {i1 b1 i2 b2 : Nat} {t1 t2 : TypeId} {c1 c2 : Array Value} {w w' : World} {u : Value} (hi : i1 ≠ i2) (h1 : Kept (fun b => b ≠ b1) w w') (h2 : Blk w' b1 t1 c1) : Kept (fun b => ¬ b ∈ Ds2 i1 b1 i2 b2 i1) w w' ∧ Rs2 i1 b1 t1 c1 i2 b2 t2 c2 i1 u w' :=
  ⟨h1.mono fun b h e => h (by simp [Ds2, e]), fun _ => h2, fun e => absurd e hi⟩
theorem two_snd {i1 b1 i2 b2 : Nat} {t1 t2 : TypeId} {c1 c2 : Array Value} {w w' : World} {u : Value} (hi : i1 ≠ i2) (h1 : Kept (fun b => b ≠ b2) w w') (h2 : Blk w' b2 t2 c2) : Kept (fun b => ¬ b ∈ Ds2 i1 b1 i2 b2 i2) w w' ∧ Rs2 i1 b1 t1 c1 i2 b2 t2 c2 i2 u w' :=
  ⟨h1.mono fun b h e => h (by simp [Ds2, Ne.symm hi, e]), fun e => absurd e.symm hi, fun _ => h2⟩
theorem kept3 {w : World} {b : Nat} {x y z : Value} : Kept (fun c => c ≠ b) w (((w.setCell ⟨b, 0, none⟩ x).setCell ⟨b, 1, none⟩ y).setCell ⟨b, 2, none⟩ z) :=
  (((Kept.refl _ w).setCell (p := ⟨b, 0, none⟩) (fun h => h rfl) _).setCell (p := ⟨b, 1, none⟩) (fun h => h rfl) _).setCell (p := ⟨b, 2, none⟩) (fun h => h rfl) _
theorem kept6 {w : World} {b : Nat} {x y z p q r : Value} : Kept (fun c => c ≠ b) w ((((((w.setCell ⟨b, 0, none⟩ x).setCell ⟨b, 1, none⟩ y).setCell ⟨b, 2, none⟩ z).setCell ⟨b, 3, none⟩ p).setCell ⟨b, 4, none⟩ q).setCell ⟨b, 5, none⟩ r) :=
  ((kept3.setCell (p := ⟨b, 3, none⟩) (fun h => h rfl) _).setCell (p := ⟨b, 4, none⟩) (fun h => h rfl) _).setCell (p := ⟨b, 5, none⟩) (fun h => h rfl) _
theorem kept1 {w : World} {b : Nat} {x : Value} : Kept (fun c => c ≠ b) w (w.setCell ⟨b, 0, none⟩ x) := (Kept.refl _ w).setCell (p := ⟨b, 0, none⟩) (fun h => h rfl) _
end
attribute [go_sem] sumAt sumUpon spoil_nil
end Go.Proofs.Ytnokibdecnddlaa

/- A box near a small world, made of any. -/
namespace Go.Proofs.Ytnokibdecnddlaa
open Go.RowKit

/-- The corners, of units of u. -/
def nearLo (u n : Int) : Int := (arI n 655361 - 131072) / u * u
def nearHi (u n m : Int) : Int := nearLo u n + arI m 196609 / u * u
def unitI (halves : Bool) : Int := if halves then 32768 else 1
theorem near_bd (halves : Bool) (n m : Int) : -131072 ≤ nearLo (unitI halves) n ∧ nearLo (unitI halves) n ≤ nearHi (unitI halves) n m ∧ nearHi (unitI halves) n m ≤ nearLo (unitI halves) n + 196608 ∧ nearLo (unitI halves) n ≤ 524288 := by
  have a1 := arI_lo n (m := 655361) (by decide)
  have a2 := arI_hi n (m := 655361) (by decide)
  have b1 := arI_lo m (m := 196609) (by decide)
  have b2 := arI_hi m (m := 196609) (by decide)
  unfold nearHi nearLo unitI
  cases halves <;> simp <;> omega
def nk (k j : Nat) (v : Int) : Int := if j < k then v else 0
theorem nk_wi {k j : Nat} {v n : Int} (hn : k = j → n = v) (h1 : -140737488355328 ≤ v) (h2 : v ≤ 140737488355328) : wiI (nk k j v) k j n = nk (k + 1) j v := by
  unfold wiI nk
  by_cases h : k = j
  · subst h; rw [if_pos rfl, if_pos (by omega), hn rfl]; exact cutI_id h1 h2
  · rw [if_neg (by omega)]
    by_cases h3 : j < k
    · rw [if_pos h3, if_pos (by omega)]
    · rw [if_neg h3, if_neg (by omega)]
theorem nk_wi0 {k : Nat} {v n : Int} (hn : k = 0 → n = v) (h1 : -131072 ≤ v) (h2 : v ≤ 720896) : wiI (nk k 0 v) k 0 n = nk (k + 1) 0 v := nk_wi (j := 0) hn (by omega) (by omega)
theorem nk_wi1 {k : Nat} {v n : Int} (hn : k = 1 → n = v) (h1 : -131072 ≤ v) (h2 : v ≤ 720896) : wiI (nk k 1 v) k 1 n = nk (k + 1) 1 v := nk_wi (j := 1) hn (by omega) (by omega)
theorem nk_wi2 {k : Nat} {v n : Int} (hn : k = 2 → n = v) (h1 : -131072 ≤ v) (h2 : v ≤ 720896) : wiI (nk k 2 v) k 2 n = nk (k + 1) 2 v := nk_wi (j := 2) hn (by omega) (by omega)
theorem ne_1' (N : Nat) : N ≠ N + 1 := by omega
theorem ne_2' (N : Nat) : N ≠ N + 1 + 1 := by omega
theorem le_2' (N : Nat) : N ≤ N + 1 + 1 := by omega
theorem st6_below {N : Nat} {w wr : World} (H : Below N w wr) {a b c d e f : Value} : Below N w ((((((wr.setCell ⟨N + 1, 0, none⟩ a).setCell ⟨N + 1, 1, none⟩ b).setCell ⟨N + 1, 2, none⟩ c).setCell ⟨N + 1, 3, none⟩ d).setCell ⟨N + 1, 4, none⟩ e).setCell ⟨N + 1, 5, none⟩ f) :=
  have h : N ≤ N + 1 := Nat.le_succ N
  (((((H.setCell (p := ⟨N + 1, 0, none⟩) h _).setCell (p := ⟨N + 1, 1, none⟩) h _).setCell (p := ⟨N + 1, 2, none⟩) h _).setCell (p := ⟨N + 1, 3, none⟩) h _).setCell (p := ⟨N + 1, 4, none⟩) h _).setCell (p := ⟨N + 1, 5, none⟩) h _
theorem ax_in64 {a b c : Int} (ha : In64 a) (hb : In64 b) (hc : In64 c) (k : Int) : -9223372036854775808 ≤ axI a b c k ∧ axI a b c k ≤ 9223372036854775807 := by
  unfold axI In64 at *
  split
  · omega
  · split
    · omega
    · split <;> omega
end Go.Proofs.Ytnokibdecnddlaa

/- The document's cells of a box. -/
namespace Go.Proofs.Ytnokibdecnddlaa
open Go.RowKit

/-- Does a box overlap any cell? -/
def isI (a b c d e f : Int) : Bool := !(thinI a d || (thinI b e || thinI c f))
def zI (is : Bool) (n : Int) : Int := if is then n else 0
abbrev spanV (a b c d e f : Int) : Value := .tuple #[.agg #[.int .i64 (zI (isI a b c d e f) (lowI a)), .int .i64 (zI (isI a b c d e f) (lowI b)), .int .i64 (zI (isI a b c d e f) (lowI c))],
  .agg #[.int .i64 (zI (isI a b c d e f) (topI a d)), .int .i64 (zI (isI a b c d e f) (topI b e)), .int .i64 (zI (isI a b c d e f) (topI c f))], .bool (isI a b c d e f)]
/-- Three numbers. -/
abbrev arr3 (f : Nat → Int) : Array Value := #[.int .i64 (f 0), .int .i64 (f 1), .int .i64 (f 2)]
theorem arr3_get {f : Nat → Int} {k : Nat} (h : k < 3) : (arr3 f)[k]? = some (.int .i64 (f k)) := by
  match k, h with
  | 0, _ => rfl
  | 1, _ => rfl
  | 2, _ => rfl
theorem arr3_set {f : Nat → Int} {k : Nat} {v : Int} (h : k < 3) : (arr3 f).setIfInBounds k (.int .i64 v) = arr3 fun j => if j = k then v else f j := by
  match k, h with
  | 0, _ => rfl
  | 1, _ => rfl
  | 2, _ => rfl
theorem arr3_ext {f g : Nat → Int} (h : ∀ j, j < 3 → f j = g j) : arr3 f = arr3 g := by unfold arr3; rw [h 0 (by omega), h 1 (by omega), h 2 (by omega)]
/-- The numbers of the axes that have come. -/
def upto (k : Nat) (F : Nat → Int) (j : Nat) : Int := if j < k then F j else 0
theorem upto_set {k : Nat} {F : Nat → Int} {v : Int} (hv : v = F k) : (fun j => if j = k then v else upto k F j) = upto (k + 1) F := by
  funext j
  unfold upto
  by_cases h : j = k
  · subst h; rw [if_pos rfl, if_pos (by omega), hv]
  · rw [if_neg h]
    by_cases h2 : j < k
    · rw [if_pos h2, if_pos (by omega)]
    · rw [if_neg h2, if_neg (by omega)]
theorem upto_set2 {k : Nat} {F : Nat → Int} {u v : Int} (hv : v = F k) : (fun j => if j = k then v else (if j = k then u else upto k F j)) = upto (k + 1) F := by
  rw [← upto_set hv]
  funext j
  by_cases h : j = k <;> simp [h]
theorem thin_no {a b c d e f : Int} {k : Nat} (hk : k < 3) (h : thinI (axI a b c k) (axI d e f k) = true) : isI a b c d e f = false := by
  match k, hk with
  | 0, _ => have : thinI a d = true := h; simp [isI, this]
  | 1, _ => have : thinI b e = true := h; simp [isI, this]
  | 2, _ => have : thinI c f = true := h; simp [isI, this]
theorem thin_yes {a b c d e f : Int} (h : ∀ j : Nat, j < 3 → thinI (axI a b c j) (axI d e f j) = false) : isI a b c d e f = true := by
  have h0 : thinI a d = false := h 0 (by omega)
  have h1 : thinI b e = false := h 1 (by omega)
  have h2 : thinI c f = false := h 2 (by omega)
  simp [isI, h0, h1, h2]
theorem thin_next {a b c d e f : Int} {k : Nat} (h : ∀ j : Nat, j < k → thinI (axI a b c j) (axI d e f j) = false) (hk : thinI (axI a b c k) (axI d e f k) = false) : ∀ j : Nat, j < k + 1 → thinI (axI a b c j) (axI d e f j) = false := fun j hj => by
  by_cases e' : j = k
  · subst e'; exact hk
  · exact h j (by omega)
theorem ax_bd {a b c : Int} (ha : -140737488355328 ≤ a ∧ a ≤ 140737488355328) (hb : -140737488355328 ≤ b ∧ b ≤ 140737488355328) (hc : -140737488355328 ≤ c ∧ c ≤ 140737488355328) (k : Int) : -140737488355328 ≤ axI a b c k ∧ axI a b c k ≤ 140737488355328 := by
  unfold axI
  split
  · exact ha
  · split
    · exact hb
    · split
      · exact hc
      · omega
theorem ne_lt {g h : Nat} (e : g < h) : g ≠ h := by omega
theorem ne_gt {g h : Nat} (e : h < g) : g ≠ h := by omega
theorem lowI_bd (n : Int) : -2147483648 ≤ lowI n ∧ lowI n ≤ 2147483648 := by
  have h1 := cutI_lo n
  have h2 := cutI_hi n
  unfold lowI
  omega
set_option maxRecDepth 100000 in
set_option maxHeartbeats 8000000 in
theorem rspan_c (a b c d e f : Int) (w : World) : Calls Try.prog 108 #[.agg #[.int .i64 a, .int .i64 b, .int .i64 c, .int .i64 d, .int .i64 e, .int .i64 f]] w fun r w' => r = .returned (spanV a b c d e f) ∧ Below w.heap.size w w' := by
  obtain ⟨W, hW⟩ : ∃ W, W = ((((w.alloc (.cells #[.int .i64 a, .int .i64 b, .int .i64 c, .int .i64 d, .int .i64 e, .int .i64 f] 48)).alloc (.cells #[.int .i64 0, .int .i64 0, .int .i64 0] 74)).alloc (.cells #[.int .i64 0, .int .i64 0, .int .i64 0] 74)).alloc (.cells #[.int .i64 0, .int .i64 0, .int .i64 0] 108)).alloc (.cells #[.int .i64 0, .int .i64 0, .int .i64 0] 108) := ⟨_, rfl⟩
  have H : Below w.heap.size w W := by rw [hW]; go_grown
  have A : Blk W w.heap.size 48 #[.int .i64 a, .int .i64 b, .int .i64 c, .int .i64 d, .int .i64 e, .int .i64 f] := by rw [hW]; exact ((((Blk.new' rfl).alloc _).alloc _).alloc _).alloc _
  have L : Blk W (w.heap.size + 1) 74 #[.int .i64 0, .int .i64 0, .int .i64 0] := by rw [hW]; exact (((Blk.new' (by simp)).alloc _).alloc _).alloc _
  have T : Blk W (w.heap.size + 1 + 1) 74 #[.int .i64 0, .int .i64 0, .int .i64 0] := by rw [hW]; exact ((Blk.new' (by simp)).alloc _).alloc _
  have U : Blk W (w.heap.size + 1 + 1 + 1) 108 (arr3 (upto 0 fun j => lowI (axI a b c j))) := by rw [hW]; exact (Blk.new' (by simp)).alloc _
  have V : Blk W (w.heap.size + 1 + 1 + 1 + 1) 108 (arr3 (upto 0 fun j => topI (axI a b c j) (axI d e f j))) := by rw [hW]; exact Blk.new' (by simp)
  obtain ⟨N, hN⟩ : ∃ N, N = w.heap.size := ⟨_, rfl⟩
  rw [← hN] at A L T U V
  go_enter Try.func108, Try.ntmps108
  go_upto_region 3 with (fail)
  rw [← hW, ← hN]
  have HN := Lib.hid hN
  clear hN hW
  go_upto_region 4 with (fail)
  go_loopw [7] (fun i wr => ∃ k : Nat, k ≤ 3 ∧ i = .int .i64 k ∧ Blk wr N 48 #[.int .i64 a, .int .i64 b, .int .i64 c, .int .i64 d, .int .i64 e, .int .i64 f] ∧ Blk wr (N + 1) 74 #[.int .i64 0, .int .i64 0, .int .i64 0] ∧ Blk wr (N + 1 + 1) 74 #[.int .i64 0, .int .i64 0, .int .i64 0] ∧ 
    Blk wr (N + 1 + 1 + 1) 108 (arr3 (upto k fun j => lowI (axI a b c j))) ∧ Blk wr (N + 1 + 1 + 1 + 1) 108 (arr3 (upto k fun j => topI (axI a b c j) (axI d e f j))) ∧ Hid (∀ j : Nat, j < k → thinI (axI a b c j) (axI d e f j) = false) ∧ Below w.heap.size w wr) (fun i _ => 3 - (intOf i).toNat)
  case atStart => exact ⟨0, by omega, rfl, A, L, T, U, V, fun j hj => by omega, H⟩
  case round =>
    clear A L T U V H
    obtain ⟨k, hk, rfl, A, L, T, U, V, X, H⟩ := hrel
    by_cases hk3 : k = 3
    · subst hk3
      have HT := thin_yes X.out
      have L1 := fun f d os => (U.sp (D := [N + 1, N + 1 + 1]) (by simp; omega) f d os).c3
      have T1 := fun f d os => (V.sp (D := [N + 1, N + 1 + 1]) (by simp; omega) f d os).c3
      go_upto_region 14 with (fail)
      refine wp_two [0, 0, 0, 0, 0, 0, 0, 0, 0, 0, 0, 0, 0, 0, 2, 2, 0] 14 (N + 1) 74 (#[.int .i64 (lowI a), .int .i64 (lowI b), .int .i64 (lowI c)]) 15 (N + 1 + 1) 74 (#[.int .i64 (topI a d), .int .i64 (topI b e), .int .i64 (topI c f)]) (by omega) (by kernel_rfl) (by kernel_rfl) ?_
      repeat (first | (refine wpQs_s ?_) | (refine wpQs_q (fun K hK => ?_); go_simp; first | (refine hK _ ?_; clear hK K) | (apply Exists.intro; refine ⟨fun _ => ?_, hK _ ?_⟩; (fail); clear hK K)) | (refine wpQs_f (fun K hK => ?_); go_simp; refine hK _ ?_; clear hK K))
      refine wpQs_nil ?_
      repeat (refine wpLs_skip ?_)
      refine wpLs_one ?s1 (fun _ => ?_)
      case s1 =>
        intro w_ hw_ hp_
        have L2 := hp_.blk (by simp [Ds2]) L
        obtain ⟨b0, b1, b2, f0, f1, f2⟩ := L2.c3
        go_simp
        exact two_fst (by decide) kept3 (L2.st3 _ _ _)
      refine wpLs_one ?s2 (fun _ => ?_)
      case s2 =>
        intro w_ hw_ hp_
        have T2 := hp_.blk (by simp [Ds2]) T
        obtain ⟨b0, b1, b2, f0, f1, f2⟩ := T2.c3
        go_simp
        exact two_snd (by decide) kept3 (T2.st3 _ _ _)
      refine wpLs_skip ?_
      refine wpLs_nilD ?_
      simp only [tails]
      rintro w1 h1 ⟨⟨-, r1⟩, r2⟩
      obtain ⟨d0, d1, d2, -, -, -⟩ := (r1.1 rfl).c3
      obtain ⟨e0, e1, e2, -, -, -⟩ := (r2.2 rfl).c3
      clear r1 r2
      go_wp2_with fail
      refine bodyPost_ret (v := spanV a b c d e f) (by simp [results, Try.results108, go_sem, d0, d1, d2, e0, e1, e2, HT, zI]) rfl ⟨rfl, ?_⟩
      rw [← HN.out] at H ⊢
      exact H.trans (h1.below (by have := H.size; rwa [← HN.out] at this) (fun b hb => by simp; omega))
    · have hlt : k < 3 := by omega
      obtain ⟨a0, a1, a2, a3, a4, a5⟩ := A.c6.1
      go_upto_region 7 with (go_at_call 21; refine (raxis_c _ _ _ _ _).mono ?_; rintro e_ w1 ⟨rfl, hb1⟩)
      replace A := A.on hb1
      replace L := L.on hb1
      replace T := T.on hb1
      replace U := U.on hb1
      replace V := V.on hb1
      replace H := after H hb1
      clear hb1 a0 a1 a2 a3 a4 a5
      obtain ⟨a0, a1, a2, a3, a4, a5⟩ := A.c6.1
      go_upto_region 8 with (go_at_call 21; refine (raxis_c _ _ _ _ _).mono ?_; rintro e_ w2 ⟨rfl, hb1⟩)
      replace A := A.on hb1
      replace L := L.on hb1
      replace T := T.on hb1
      replace U := U.on hb1
      replace V := V.on hb1
      replace H := after H hb1
      clear hb1 a0 a1 a2 a3 a4 a5
      obtain ⟨n, hn⟩ : ∃ n, n = axI a b c k := ⟨_, rfl⟩
      obtain ⟨m, hm⟩ : ∃ m, m = axI d e f k := ⟨_, rfl⟩
      rw [← hn, ← hm]
      have HNn := Lib.hid hn
      have HMm := Lib.hid hm
      clear hn hm
      have ln := lowI_bd n
      have lm := lowI_bd m
      have u0 := U.cell k
      have v0 := V.cell k
      rw [arr3_get hlt] at u0 v0
      have uf := U.frz k
      have vf := V.frz k
      have hi0 : (0 : Int) ≤ k := by omega
      have hi1 : (k : Int) < 3 := by omega
      go_upto_region 10 with (go_at_call 114; refine (rfloor_c _ _).mono ?_; rintro e_ w3 ⟨rfl, rfl⟩)
      generalize h4 : World.setCell (World.setCell w2 _ _) _ _ = w4
      replace A := Blk.eqw h4 ((A.far (p := ⟨N + 1 + 1 + 1, k, none⟩) (by dsimp only; omega) _).far (p := ⟨N + 1 + 1 + 1 + 1, k, none⟩) (by dsimp only; omega) _)
      replace L := Blk.eqw h4 ((L.far (p := ⟨N + 1 + 1 + 1, k, none⟩) (by dsimp only; omega) _).far (p := ⟨N + 1 + 1 + 1 + 1, k, none⟩) (by dsimp only; omega) _)
      replace T := Blk.eqw h4 ((T.far (p := ⟨N + 1 + 1 + 1, k, none⟩) (by dsimp only; omega) _).far (p := ⟨N + 1 + 1 + 1 + 1, k, none⟩) (by dsimp only; omega) _)
      replace U := Blk.eqw h4 ((U.set_ k _).far (p := ⟨N + 1 + 1 + 1 + 1, k, none⟩) (by dsimp only; omega) _)
      replace V := Blk.eqw h4 ((V.far (p := ⟨N + 1 + 1 + 1, k, none⟩) (by dsimp only; omega) _).set_ k _)
      rw [arr3_set hlt] at U V
      replace H : Below w.heap.size w w4 := by
        rw [← h4, ← HN.out]; rw [← HN.out] at H
        exact (H.setCell (p := ⟨N + 1 + 1 + 1, k, none⟩) (by dsimp only; omega) _).setCell (p := ⟨N + 1 + 1 + 1 + 1, k, none⟩) (by dsimp only; omega) _
      clear h4 u0 v0 uf vf
      have u0 := fun d os => (U.re d os).cell k
      have v0 := fun d os => (V.re d os).cell k
      simp only [arr3_get hlt, if_true] at u0 v0
      have hkw := next64 (Nat.le_refl 3) (by decide) hlt
      rcases top_ways n m with ⟨t1, t2⟩ | ⟨t1, t3, t2⟩ | ⟨t1, t3, t2⟩
      · have T2 := Lib.hid t2
        have tw : (IntKind.i64.wrap (lowI m * 65536) = m) = False := by rw [IntWalk.i64_in _ (by omega)]; simpa using t1
        have tb : (IntKind.i64.wrap (lowI m * 65536) == m) = false := by rw [IntWalk.i64_in _ (by omega)]; exact t1
        have TB := Lib.hid tb
        clear t1 tb
        clear t2
        refine wp_sched [0, 0, 0, 0, 0, 0, 0, 0, 0, 0, 0, 0, 0, 0, 0] (fun _ _ _ => True) (by kernel_rfl) (by kernel_rfl) (fun _ _ _ _ h _ => h) ?_
        repeat (first | (refine wpQs_s ?_) | (refine wpQs_q (fun K hK => ?_); go_simp; first | (refine hK _ ?_; clear hK K) | (apply Exists.intro; refine ⟨fun _ => ?_, hK _ ?_⟩; (fail); clear hK K)) | (refine wpQs_f (fun K hK => ?_); go_simp; refine hK _ ?_; clear hK K))
        refine wpQs_nil ?_
        repeat (first | (refine wpLs_skip ?_) | (refine wpLs_one ?lsA (fun v_ => ?_); case lsA => (intro w_ hw_ hp_; (fail))))
        refine wpLs_nilB ?_
        simp only [tails]
        intro w5 h5 _
        replace A := A.on h5
        replace L := L.on h5
        replace T := T.on h5
        replace U := U.on h5
        replace V := V.on h5
        replace H := after H h5
        clear h5 u0 v0
        have u0 := U.cell k
        have v0 := V.cell k
        simp only [arr3_get hlt, if_true] at u0 v0
        have uf := U.frz k
        have vf := V.frz k
        have tb := TB.out
        clear tw TB
        go_upto_region 12 with (fail)
        clear tb
        try
          generalize h4 : World.setCell w5 _ _ = w6
          replace A := Blk.eqw h4 (A.far (p := ⟨N + 1 + 1 + 1 + 1, k, none⟩) (by dsimp only; omega) _)
          replace L := Blk.eqw h4 (L.far (p := ⟨N + 1 + 1 + 1 + 1, k, none⟩) (by dsimp only; omega) _)
          replace T := Blk.eqw h4 (T.far (p := ⟨N + 1 + 1 + 1 + 1, k, none⟩) (by dsimp only; omega) _)
          replace U := Blk.eqw h4 (U.far (p := ⟨N + 1 + 1 + 1 + 1, k, none⟩) (by dsimp only; omega) _)
          replace V := Blk.eqw h4 (V.set_ k _)
          rw [arr3_set hlt] at V
          replace H : Below w.heap.size w w6 := by
            rw [← h4, ← HN.out]; rw [← HN.out] at H
            exact H.setCell (p := ⟨N + 1 + 1 + 1 + 1, k, none⟩) (by dsimp only; omega) _
          clear h4 v0 uf vf u0
          obtain ⟨w5, h6⟩ : ∃ w5, w5 = w6 := ⟨_, rfl⟩
          rw [← h6] at A L T U V H ⊢
          clear h6
          have u0 := U.cell k
          simp only [arr3_get hlt, if_true] at u0
        have EU := upto_set (k := k) (F := fun j => lowI (axI a b c j)) (v := lowI n) (by rw [HNn.out])
        rw [EU] at U
        first
          | (have EV := upto_set (k := k) (F := fun j => topI (axI a b c j) (axI d e f j)) (v := lowI m) (by rw [← HNn.out, ← HMm.out, T2.out]); rw [EV] at V)
          | (have EV := upto_set2 (k := k) (F := fun j => topI (axI a b c j) (axI d e f j)) (u := lowI m) (v := lowI m - 1) (by rw [← HNn.out, ← HMm.out, T2.out]); rw [EV] at V)
        obtain ⟨l0, l1, l2, lf0, lf1, lf2⟩ := L.c3
        obtain ⟨t0, t1, t2, tf0, tf1, tf2⟩ := T.c3
        have XN := fun (h : thinI n m = false) => thin_next X.out (by rw [← HNn.out, ← HMm.out]; exact h)
        have XY := fun (h : thinI n m = true) => thin_no (a := a) (b := b) (c := c) (d := d) (e := e) (f := f) hlt (by rw [← HNn.out, ← HMm.out]; exact h)
        rcases thin_ways n m with ⟨y1, y2⟩ | ⟨y1, y3, y2⟩ | ⟨y1, y3, y2⟩
        · replace XN := Lib.hid (XN y2)
          clear XY y2 EU EV
          go_wp2_with fail
          go_roundw
          case rel => exact ⟨k + 1, hlt, rfl, A, L, T, U, V, XN.out, H⟩
          case measure => exact next_less' hlt
        · replace XN := Lib.hid (XN y2)
          clear XY y2 EU EV
          go_wp2_with fail
          go_roundw
          case rel => exact ⟨k + 1, hlt, rfl, A, L, T, U, V, XN.out, H⟩
          case measure => exact next_less' hlt
        · replace XY := Lib.hid (XY y2)
          clear XN y2 EU EV
          go_wp2_with fail
          have RL := (L.st3 (.int .i64 0) (.int .i64 0) (.int .i64 0)).far (p := ⟨N + 1 + 1, 0, none⟩) (by dsimp only; omega) (.int .i64 0)
          have RL2 := (RL.far (p := ⟨N + 1 + 1, 1, none⟩) (by dsimp only; omega) (.int .i64 0)).far (p := ⟨N + 1 + 1, 2, none⟩) (by dsimp only; omega) (.int .i64 0)
          have RT := (((T.far (p := ⟨N + 1, 0, none⟩) (by dsimp only; omega) (.int .i64 0)).far (p := ⟨N + 1, 1, none⟩) (by dsimp only; omega) (.int .i64 0)).far (p := ⟨N + 1, 2, none⟩) (by dsimp only; omega) (.int .i64 0)).st3 (.int .i64 0) (.int .i64 0) (.int .i64 0)
          obtain ⟨d0, d1, d2, -, -, -⟩ := RL2.c3
          obtain ⟨e0, e1, e2, -, -, -⟩ := RT.c3
          refine bodyPost_ret (v := spanV a b c d e f) (by simp [results, Try.results108, go_sem, d0, d1, d2, e0, e1, e2, XY.out, zI]) rfl ⟨rfl, ?_⟩
          rw [← HN.out] at H ⊢
          exact (((((H.setCell (p := ⟨N + 1, 0, none⟩) (by dsimp only; omega) _).setCell (p := ⟨N + 1, 1, none⟩) (by dsimp only; omega) _).setCell (p := ⟨N + 1, 2, none⟩) (by dsimp only; omega) _).setCell (p := ⟨N + 1 + 1, 0, none⟩) (by dsimp only; omega) _).setCell (p := ⟨N + 1 + 1, 1, none⟩) (by dsimp only; omega) _).setCell (p := ⟨N + 1 + 1, 2, none⟩) (by dsimp only; omega) _
      · have T2 := Lib.hid t2
        have tw : (IntKind.i64.wrap (lowI m * 65536) = m) = True := by rw [IntWalk.i64_in _ (by omega)]; simpa using t1
        have tb : (IntKind.i64.wrap (lowI m * 65536) == m) = true := by rw [IntWalk.i64_in _ (by omega)]; exact t1
        have TB := Lib.hid tb
        clear t1 tb
        clear t2
        refine wp_sched [0, 0, 0, 0, 0, 0, 0, 0, 0, 0, 0, 0, 0, 0, 0] (fun _ _ _ => True) (by kernel_rfl) (by kernel_rfl) (fun _ _ _ _ h _ => h) ?_
        repeat (first | (refine wpQs_s ?_) | (refine wpQs_q (fun K hK => ?_); go_simp; first | (refine hK _ ?_; clear hK K) | (apply Exists.intro; refine ⟨fun _ => ?_, hK _ ?_⟩; (fail); clear hK K)) | (refine wpQs_f (fun K hK => ?_); go_simp; refine hK _ ?_; clear hK K))
        refine wpQs_nil ?_
        repeat (first | (refine wpLs_skip ?_) | (refine wpLs_one ?lsA (fun v_ => ?_); case lsA => (intro w_ hw_ hp_; (fail))))
        refine wpLs_nilB ?_
        simp only [tails]
        intro w5 h5 _
        replace A := A.on h5
        replace L := L.on h5
        replace T := T.on h5
        replace U := U.on h5
        replace V := V.on h5
        replace H := after H h5
        clear h5 u0 v0
        have u0 := U.cell k
        have v0 := V.cell k
        simp only [arr3_get hlt, if_true] at u0 v0
        have uf := U.frz k
        have vf := V.frz k
        have tb := TB.out
        clear tw TB
        go_upto_region 12 with (fail)
        clear tb
        try
          generalize h4 : World.setCell w5 _ _ = w6
          replace A := Blk.eqw h4 (A.far (p := ⟨N + 1 + 1 + 1 + 1, k, none⟩) (by dsimp only; omega) _)
          replace L := Blk.eqw h4 (L.far (p := ⟨N + 1 + 1 + 1 + 1, k, none⟩) (by dsimp only; omega) _)
          replace T := Blk.eqw h4 (T.far (p := ⟨N + 1 + 1 + 1 + 1, k, none⟩) (by dsimp only; omega) _)
          replace U := Blk.eqw h4 (U.far (p := ⟨N + 1 + 1 + 1 + 1, k, none⟩) (by dsimp only; omega) _)
          replace V := Blk.eqw h4 (V.set_ k _)
          rw [arr3_set hlt] at V
          replace H : Below w.heap.size w w6 := by
            rw [← h4, ← HN.out]; rw [← HN.out] at H
            exact H.setCell (p := ⟨N + 1 + 1 + 1 + 1, k, none⟩) (by dsimp only; omega) _
          clear h4 v0 uf vf u0
          obtain ⟨w5, h6⟩ : ∃ w5, w5 = w6 := ⟨_, rfl⟩
          rw [← h6] at A L T U V H ⊢
          clear h6
          have u0 := U.cell k
          simp only [arr3_get hlt, if_true] at u0
        have EU := upto_set (k := k) (F := fun j => lowI (axI a b c j)) (v := lowI n) (by rw [HNn.out])
        rw [EU] at U
        first
          | (have EV := upto_set (k := k) (F := fun j => topI (axI a b c j) (axI d e f j)) (v := lowI m) (by rw [← HNn.out, ← HMm.out, T2.out]); rw [EV] at V)
          | (have EV := upto_set2 (k := k) (F := fun j => topI (axI a b c j) (axI d e f j)) (u := lowI m) (v := lowI m - 1) (by rw [← HNn.out, ← HMm.out, T2.out]); rw [EV] at V)
        obtain ⟨l0, l1, l2, lf0, lf1, lf2⟩ := L.c3
        obtain ⟨t0, t1, t2, tf0, tf1, tf2⟩ := T.c3
        have XN := fun (h : thinI n m = false) => thin_next X.out (by rw [← HNn.out, ← HMm.out]; exact h)
        have XY := fun (h : thinI n m = true) => thin_no (a := a) (b := b) (c := c) (d := d) (e := e) (f := f) hlt (by rw [← HNn.out, ← HMm.out]; exact h)
        rcases thin_ways n m with ⟨y1, y2⟩ | ⟨y1, y3, y2⟩ | ⟨y1, y3, y2⟩
        · replace XN := Lib.hid (XN y2)
          clear XY y2 EU EV
          go_wp2_with fail
          go_roundw
          case rel => exact ⟨k + 1, hlt, rfl, A, L, T, U, V, XN.out, H⟩
          case measure => exact next_less' hlt
        · replace XN := Lib.hid (XN y2)
          clear XY y2 EU EV
          go_wp2_with fail
          go_roundw
          case rel => exact ⟨k + 1, hlt, rfl, A, L, T, U, V, XN.out, H⟩
          case measure => exact next_less' hlt
        · replace XY := Lib.hid (XY y2)
          clear XN y2 EU EV
          go_wp2_with fail
          have RL := (L.st3 (.int .i64 0) (.int .i64 0) (.int .i64 0)).far (p := ⟨N + 1 + 1, 0, none⟩) (by dsimp only; omega) (.int .i64 0)
          have RL2 := (RL.far (p := ⟨N + 1 + 1, 1, none⟩) (by dsimp only; omega) (.int .i64 0)).far (p := ⟨N + 1 + 1, 2, none⟩) (by dsimp only; omega) (.int .i64 0)
          have RT := (((T.far (p := ⟨N + 1, 0, none⟩) (by dsimp only; omega) (.int .i64 0)).far (p := ⟨N + 1, 1, none⟩) (by dsimp only; omega) (.int .i64 0)).far (p := ⟨N + 1, 2, none⟩) (by dsimp only; omega) (.int .i64 0)).st3 (.int .i64 0) (.int .i64 0) (.int .i64 0)
          obtain ⟨d0, d1, d2, -, -, -⟩ := RL2.c3
          obtain ⟨e0, e1, e2, -, -, -⟩ := RT.c3
          refine bodyPost_ret (v := spanV a b c d e f) (by simp [results, Try.results108, go_sem, d0, d1, d2, e0, e1, e2, XY.out, zI]) rfl ⟨rfl, ?_⟩
          rw [← HN.out] at H ⊢
          exact (((((H.setCell (p := ⟨N + 1, 0, none⟩) (by dsimp only; omega) _).setCell (p := ⟨N + 1, 1, none⟩) (by dsimp only; omega) _).setCell (p := ⟨N + 1, 2, none⟩) (by dsimp only; omega) _).setCell (p := ⟨N + 1 + 1, 0, none⟩) (by dsimp only; omega) _).setCell (p := ⟨N + 1 + 1, 1, none⟩) (by dsimp only; omega) _).setCell (p := ⟨N + 1 + 1, 2, none⟩) (by dsimp only; omega) _
      · have T2 := Lib.hid t2
        have tw : (IntKind.i64.wrap (lowI m * 65536) = m) = True := by rw [IntWalk.i64_in _ (by omega)]; simpa using t1
        have tb : (IntKind.i64.wrap (lowI m * 65536) == m) = true := by rw [IntWalk.i64_in _ (by omega)]; exact t1
        have TB := Lib.hid tb
        clear t1 tb
        clear t2
        refine wp_sched [0, 0, 0, 0, 0, 0, 0, 0, 0, 0, 0, 0, 0, 0, 0] (fun _ _ _ => True) (by kernel_rfl) (by kernel_rfl) (fun _ _ _ _ h _ => h) ?_
        repeat (first | (refine wpQs_s ?_) | (refine wpQs_q (fun K hK => ?_); go_simp; first | (refine hK _ ?_; clear hK K) | (apply Exists.intro; refine ⟨fun _ => ?_, hK _ ?_⟩; (fail); clear hK K)) | (refine wpQs_f (fun K hK => ?_); go_simp; refine hK _ ?_; clear hK K))
        refine wpQs_nil ?_
        repeat (first | (refine wpLs_skip ?_) | (refine wpLs_one ?lsA (fun v_ => ?_); case lsA => (intro w_ hw_ hp_; (fail))))
        refine wpLs_nilB ?_
        simp only [tails]
        intro w5 h5 _
        replace A := A.on h5
        replace L := L.on h5
        replace T := T.on h5
        replace U := U.on h5
        replace V := V.on h5
        replace H := after H h5
        clear h5 u0 v0
        have u0 := U.cell k
        have v0 := V.cell k
        simp only [arr3_get hlt, if_true] at u0 v0
        have uf := U.frz k
        have vf := V.frz k
        have tb := TB.out
        clear tw TB
        go_upto_region 12 with (fail)
        clear tb
        try
          generalize h4 : World.setCell w5 _ _ = w6
          replace A := Blk.eqw h4 (A.far (p := ⟨N + 1 + 1 + 1 + 1, k, none⟩) (by dsimp only; omega) _)
          replace L := Blk.eqw h4 (L.far (p := ⟨N + 1 + 1 + 1 + 1, k, none⟩) (by dsimp only; omega) _)
          replace T := Blk.eqw h4 (T.far (p := ⟨N + 1 + 1 + 1 + 1, k, none⟩) (by dsimp only; omega) _)
          replace U := Blk.eqw h4 (U.far (p := ⟨N + 1 + 1 + 1 + 1, k, none⟩) (by dsimp only; omega) _)
          replace V := Blk.eqw h4 (V.set_ k _)
          rw [arr3_set hlt] at V
          replace H : Below w.heap.size w w6 := by
            rw [← h4, ← HN.out]; rw [← HN.out] at H
            exact H.setCell (p := ⟨N + 1 + 1 + 1 + 1, k, none⟩) (by dsimp only; omega) _
          clear h4 v0 uf vf u0
          obtain ⟨w5, h6⟩ : ∃ w5, w5 = w6 := ⟨_, rfl⟩
          rw [← h6] at A L T U V H ⊢
          clear h6
          have u0 := U.cell k
          simp only [arr3_get hlt, if_true] at u0
        have EU := upto_set (k := k) (F := fun j => lowI (axI a b c j)) (v := lowI n) (by rw [HNn.out])
        rw [EU] at U
        first
          | (have EV := upto_set (k := k) (F := fun j => topI (axI a b c j) (axI d e f j)) (v := lowI m) (by rw [← HNn.out, ← HMm.out, T2.out]); rw [EV] at V)
          | (have EV := upto_set2 (k := k) (F := fun j => topI (axI a b c j) (axI d e f j)) (u := lowI m) (v := lowI m - 1) (by rw [← HNn.out, ← HMm.out, T2.out]); rw [EV] at V)
        obtain ⟨l0, l1, l2, lf0, lf1, lf2⟩ := L.c3
        obtain ⟨t0, t1, t2, tf0, tf1, tf2⟩ := T.c3
        have XN := fun (h : thinI n m = false) => thin_next X.out (by rw [← HNn.out, ← HMm.out]; exact h)
        have XY := fun (h : thinI n m = true) => thin_no (a := a) (b := b) (c := c) (d := d) (e := e) (f := f) hlt (by rw [← HNn.out, ← HMm.out]; exact h)
        rcases thin_ways n m with ⟨y1, y2⟩ | ⟨y1, y3, y2⟩ | ⟨y1, y3, y2⟩
        · replace XN := Lib.hid (XN y2)
          clear XY y2 EU EV
          go_wp2_with fail
          go_roundw
          case rel => exact ⟨k + 1, hlt, rfl, A, L, T, U, V, XN.out, H⟩
          case measure => exact next_less' hlt
        · replace XN := Lib.hid (XN y2)
          clear XY y2 EU EV
          go_wp2_with fail
          go_roundw
          case rel => exact ⟨k + 1, hlt, rfl, A, L, T, U, V, XN.out, H⟩
          case measure => exact next_less' hlt
        · replace XY := Lib.hid (XY y2)
          clear XN y2 EU EV
          go_wp2_with fail
          have RL := (L.st3 (.int .i64 0) (.int .i64 0) (.int .i64 0)).far (p := ⟨N + 1 + 1, 0, none⟩) (by dsimp only; omega) (.int .i64 0)
          have RL2 := (RL.far (p := ⟨N + 1 + 1, 1, none⟩) (by dsimp only; omega) (.int .i64 0)).far (p := ⟨N + 1 + 1, 2, none⟩) (by dsimp only; omega) (.int .i64 0)
          have RT := (((T.far (p := ⟨N + 1, 0, none⟩) (by dsimp only; omega) (.int .i64 0)).far (p := ⟨N + 1, 1, none⟩) (by dsimp only; omega) (.int .i64 0)).far (p := ⟨N + 1, 2, none⟩) (by dsimp only; omega) (.int .i64 0)).st3 (.int .i64 0) (.int .i64 0) (.int .i64 0)
          obtain ⟨d0, d1, d2, -, -, -⟩ := RL2.c3
          obtain ⟨e0, e1, e2, -, -, -⟩ := RT.c3
          refine bodyPost_ret (v := spanV a b c d e f) (by simp [results, Try.results108, go_sem, d0, d1, d2, e0, e1, e2, XY.out, zI]) rfl ⟨rfl, ?_⟩
          rw [← HN.out] at H ⊢
          exact (((((H.setCell (p := ⟨N + 1, 0, none⟩) (by dsimp only; omega) _).setCell (p := ⟨N + 1, 1, none⟩) (by dsimp only; omega) _).setCell (p := ⟨N + 1, 2, none⟩) (by dsimp only; omega) _).setCell (p := ⟨N + 1 + 1, 0, none⟩) (by dsimp only; omega) _).setCell (p := ⟨N + 1 + 1, 1, none⟩) (by dsimp only; omega) _).setCell (p := ⟨N + 1 + 1, 2, none⟩) (by dsimp only; omega) _
end Go.Proofs.Ytnokibdecnddlaa

/- The walks of the layer 1 (fixed) and of its reference: sums that are checked, whole numbers, quotients, ways toward. -/
namespace Go.Proofs.Ytnokibdecnddlaa
open Go.RowKit

set_option maxHeartbeats 400000 in
theorem floor_c (n : Int) (w : World) : Calls Try.prog 119 #[.int .i64 n] w fun e w' => e = .returned (.int .i64 (cutI n / 65536)) ∧ w = w' := by
  have h1 := cutI_lo n
  have h2 := cutI_hi n
  go_enter Try.func119, Try.ntmps119
  go_wp2_with (go_at_call 92; refine (fcut_c _ _).mono ?_; rintro e w1 ⟨rfl, rfl⟩)
  go_returns
  exact ⟨ret_i rfl, rfl⟩
set_option maxHeartbeats 400000 in
theorem frac_c (n : Int) (w : World) : Calls Try.prog 124 #[.int .i64 n] w fun e w' => e = .returned (.int .i64 (cutI n % 65536)) ∧ w = w' := by
  have h1 := cutI_lo n
  have h2 := cutI_hi n
  go_enter Try.func124, Try.ntmps124
  go_wp2_with (go_at_call 92; refine (fcut_c _ _).mono ?_; rintro e w1 ⟨rfl, rfl⟩)
  go_returns
  exact ⟨ret_i (bits_and_mask _), rfl⟩
def ofI (c : Int) : Int := min (max c (-2147483648)) 2147483648 * 65536
set_option maxHeartbeats 400000 in
theorem of_c (n : Int) (w : World) : Calls Try.prog 120 #[.int .i64 n] w fun e w' => e = .returned (.int .i64 (ofI n)) ∧ w = w' := by
  go_enter Try.func120, Try.ntmps120
  go_wp2
  all_goals (go_returns; exact ⟨ret_i (by unfold ofI; omega), rfl⟩)
theorem quo_rel (X y q : Int) (hy : 0 < y) (_h1 : 0 ≤ q) (h2 : q ≤ 1152921504606846977) (h3 : min q 1152921504606846976 = min (X / y) 1152921504606846976) :
    (2 * (X % y) < y → (2 * X) % y = X % y * 2 ∧ min (min (q * 2) 1152921504606846976) 1152921504606846976 = min ((2 * X) / y) 1152921504606846976) ∧
    (y ≤ 2 * (X % y) → (2 * X) % y = X % y * 2 - y ∧ min (min (q * 2) 1152921504606846976 + 1) 1152921504606846976 = min ((2 * X) / y) 1152921504606846976) := by
  obtain ⟨d1, d2⟩ := dbl X y hy
  refine ⟨fun h => ?_, fun h => ?_⟩
  · rw [if_neg (by omega)] at d1 d2
    omega
  · rw [if_pos (by omega)] at d1 d2
    omega
theorem quo_end (q Q r y : Int) (h0 : 0 ≤ r) (_h1 : r < y) (h2 : min q 1152921504606846976 = min Q 1152921504606846976) (hq : 0 ≤ q) :
    (cutI q = rndI Q (r != 0) false) ∧ (0 < r → cutI (-(q + 1)) = rndI Q (r != 0) true) ∧ (r ≤ 0 → cutI (-q) = rndI Q (r != 0) true) := by
  unfold cutI rndI upI
  refine ⟨by simp; omega, fun h => ?_, fun h => ?_⟩
  · have : (r != 0) = true := by simp; omega
    simp [this]; omega
  · have : (r != 0) = false := by simp; omega
    simp [this]; omega
theorem of_e (n v : Int) (h : ofI n = v) (w : World) : Calls Try.prog 120 #[.int .i64 n] w fun e w' => e = .returned (.int .i64 v) ∧ w = w' := by
  rw [← h]; exact of_c n w
theorem floor_e (n v : Int) (h : cutI n / 65536 = v) (w : World) : Calls Try.prog 119 #[.int .i64 n] w fun e w' => e = .returned (.int .i64 v) ∧ w = w' := by
  rw [← h]; exact floor_c n w
theorem frac_e (n v : Int) (h : cutI n % 65536 = v) (w : World) : Calls Try.prog 124 #[.int .i64 n] w fun e w' => e = .returned (.int .i64 v) ∧ w = w' := by
  rw [← h]; exact frac_c n w
end Go.Proofs.Ytnokibdecnddlaa

/- The cell of a place. -/
namespace Go.Proofs.Ytnokibdecnddlaa
open Go.RowKit

set_option maxHeartbeats 1000000 in
theorem cof_c (x y z : Int) (w : World) : Calls Try.prog 123 #[.agg #[.int .i64 x, .int .i64 y, .int .i64 z]] w fun e w' => e = .returned (.agg #[.int .i64 (lowI x), .int .i64 (lowI y), .int .i64 (lowI z)]) ∧ Below w.heap.size w w' := by
  have U : Blk ((w.alloc (.cells #[.int .i64 x, .int .i64 y, .int .i64 z] 26)).alloc (.cells #[.int .i64 0, .int .i64 0, .int .i64 0] 74)) w.heap.size 26 #[.int .i64 x, .int .i64 y, .int .i64 z] := (Blk.new' rfl).alloc _
  have R0 : Blk ((w.alloc (.cells #[.int .i64 x, .int .i64 y, .int .i64 z] 26)).alloc (.cells #[.int .i64 0, .int .i64 0, .int .i64 0] 74)) (w.heap.size + 1) 74 #[.int .i64 0, .int .i64 0, .int .i64 0] := Blk.new' (by simp)
  obtain ⟨k0, k1, k2⟩ := U.re3
  have hf : ∀ (n : Int) (w : World), Calls Try.prog 119 #[.int .i64 n] w fun e w' => e = .returned (.int .i64 (lowI n)) ∧ w = w' := floor_c
  go_enter Try.func123, Try.ntmps123
  go_wp2_with fail
  refine wp_region_last_below 10 (by kernel_rfl) rfl (by kernel_rfl) ?_
  simp only [List.take_succ_cons, List.take_zero, List.drop_succ_cons, List.drop_zero]
  repeat (go_big_quiet_step (exact Calls.regrown_of (calls_bel (hf _ _))))
  refine wpQuiet_nil ?_
  intro w' hw'
  obtain ⟨rg, rfl⟩ := hw'
  have R := R0.re rg.d rg.os
  obtain ⟨r0, r1, r2, s0, s1, s2⟩ := R.c3
  go_wp2_with fail
  have R2 := R.st3 (.int .i64 (lowI x)) (.int .i64 (lowI y)) (.int .i64 (lowI z))
  obtain ⟨d0, d1, d2, -, -, -⟩ := R2.c3
  exact bodyPost_ret (v := .agg #[.int .i64 (lowI x), .int .i64 (lowI y), .int .i64 (lowI z)]) (by simp [results, Try.results123, go_sem, d0, d1, d2]) rfl ⟨rfl, by (repeat' (first | (with_reducible exact Below.refl _ _) | (with_reducible assumption) | (with_reducible refine Below.alloc ?_ ?_ _) | (with_reducible refine Below.drew ?_) | (with_reducible refine Below.setCell ?_ ?_ _) | (with_reducible refine after ?_ (below_regrown _ _ _)) | (refine after ?_ (by with_reducible assumption)) | go_size))⟩
end Go.Proofs.Ytnokibdecnddlaa

/- The program's cells of a box. -/
namespace Go.Proofs.Ytnokibdecnddlaa
open Go.RowKit

/-- A box within the bounds. -/
structure BoxOk (a b c d e f : Int) : Prop where
  a1 : -140737488355328 ≤ a
  b1 : -140737488355328 ≤ b
  c1 : -140737488355328 ≤ c
  d2 : d ≤ 140737488355328
  e2 : e ≤ 140737488355328
  f2 : f ≤ 140737488355328
  ad : a ≤ d
  be : b ≤ e
  cf : c ≤ f
def pkI (n m lo hi : Int) : Int := if n = m then lo else hi
theorem thin_p (n m lo hi : Int) (w : World) : Calls Try.prog 125 #[.int .i64 n, .int .i64 m, .int .i64 lo, .int .i64 hi] w fun r w' => r = .returned (.int .i64 (pkI n m lo hi)) ∧ Below w.heap.size w w' := calls_bel (thin_c n m lo hi w)
theorem topI_prog2 {n m : Int} (h1 : -140737488355328 ≤ n) (h2 : m ≤ 140737488355328) (h : n ≤ m) : pkI n m (lowI n) (lowI (addI m (-1))) = topI n m := by
  rw [← topI_prog h1 h2 h]; unfold pkI lowI addI; rw [cutI_cut]
def pthinB (n m : Int) : Bool := (n == m) && (cutI n % 65536 == 0)
theorem pthin_ways (n m : Int) : ((n == m) = false ∧ pthinB n m = false) ∨ ((n == m) = true ∧ (cutI n % 65536 == 0) = false ∧ pthinB n m = false) ∨ ((n == m) = true ∧ (cutI n % 65536 == 0) = true ∧ pthinB n m = true) := by
  unfold pthinB
  cases (n == m) <;> cases (cutI n % 65536 == 0) <;> simp
theorem pthin_is {n m : Int} (h1 : -140737488355328 ≤ n) (h2 : n ≤ 140737488355328) : pthinB n m = thinI n m := thinI_prog h1 h2
set_option maxRecDepth 100000 in
set_option maxHeartbeats 8000000 in
theorem span_c (a b c d e f : Int) (hB : BoxOk a b c d e f) (w : World) : Calls Try.prog 122 #[.agg #[.int .i64 a, .int .i64 b, .int .i64 c, .int .i64 d, .int .i64 e, .int .i64 f]] w fun r w' => r = .returned (spanV a b c d e f) ∧ Below w.heap.size w w' := by
  obtain ⟨W, hW⟩ : ∃ W, W = ((w.alloc (.cells #[.int .i64 a, .int .i64 b, .int .i64 c, .int .i64 d, .int .i64 e, .int .i64 f] 48)).alloc (.cells #[.int .i64 0, .int .i64 0, .int .i64 0] 74)).alloc (.cells #[.int .i64 0, .int .i64 0, .int .i64 0] 74) := ⟨_, rfl⟩
  have H : Below w.heap.size w W := by rw [hW]; go_grown
  have A : Blk W w.heap.size 48 #[.int .i64 a, .int .i64 b, .int .i64 c, .int .i64 d, .int .i64 e, .int .i64 f] := by rw [hW]; exact ((Blk.new' rfl).alloc _).alloc _
  have L : Blk W (w.heap.size + 1) 74 #[.int .i64 0, .int .i64 0, .int .i64 0] := by rw [hW]; exact (Blk.new' (by simp)).alloc _
  have T : Blk W (w.heap.size + 1 + 1) 74 #[.int .i64 0, .int .i64 0, .int .i64 0] := by rw [hW]; exact Blk.new' (by simp)
  have hs : W.heap.size = w.heap.size + 3 := by rw [hW]; simp
  obtain ⟨N, hN⟩ : ∃ N, N = w.heap.size := ⟨_, rfl⟩
  rw [← hN] at A L T hs
  have HS := Lib.hid hs
  clear hs
  have HB := Lib.hid hB
  clear hB
  go_enter Try.func122, Try.ntmps122
  go_upto_region 1 with (fail)
  rw [← hW, ← hN]
  have HN := Lib.hid hN
  clear hN hW
  obtain ⟨a0, a1, a2, a3, a4, a5⟩ := A.c6.1
  go_wp2_with fail
  refine (cof_c _ _ _ _).mono ?_; rintro e w1 ⟨rfl, h1⟩
  go_upto_region 2 with (fail)
  generalize hV : World.alloc w1 _ = W1
  have X := Blk.fresh hV.symm
  replace A := A.step h1 hV.symm
  replace L := L.step h1 hV.symm
  replace T := T.step h1 hV.symm
  replace H := step_below H h1 hV.symm
  have hg : N + 3 ≤ w1.heap.size := by rw [← HS.out]; exact h1.size
  clear hV h1 a0 a1 a2 a3 a4 a5
  generalize w1.heap.size = g at X hg ⊢
  obtain ⟨a0, a1, a2, a3, a4, a5⟩ := A.c6.1
  go_wp2_with fail
  refine (add_c _ _ _ _ _ _ _).mono ?_; rintro e w1 ⟨rfl, h1⟩
  go_wp2_with fail
  refine (cof_c _ _ _ _).mono ?_; rintro e w1 ⟨rfl, h2⟩
  replace h1 := after h1 h2
  clear h2
  go_upto_region 3 with (fail)
  generalize hV : World.alloc w1 _ = W2
  have Y := Blk.fresh hV.symm
  replace A := A.step h1 hV.symm
  replace L := L.step h1 hV.symm
  replace T := T.step h1 hV.symm
  have hgX := X.lt
  replace X := X.step h1 hV.symm
  replace H := step_below H h1 hV.symm
  have hg2 : g < w1.heap.size := Nat.lt_of_lt_of_le hgX h1.size
  clear hV h1 hgX a0 a1 a2 a3 a4 a5
  generalize w1.heap.size = g2 at Y hg2 ⊢
  go_upto_region 4 with (fail)
  go_loopw [19] (fun i wr => ∃ k : Nat, k ≤ 3 ∧ i = .int .i64 k ∧ Blk wr N 48 #[.int .i64 a, .int .i64 b, .int .i64 c, .int .i64 d, .int .i64 e, .int .i64 f] ∧ Blk wr (N + 1) 74 #[.int .i64 0, .int .i64 0, .int .i64 0] ∧ Blk wr (N + 1 + 1) 74 #[.int .i64 0, .int .i64 0, .int .i64 0] ∧ 
    Blk wr g 74 #[.int .i64 (lowI a), .int .i64 (lowI b), .int .i64 (lowI c)] ∧ Blk wr g2 74 #[.int .i64 (lowI (addI d (-1))), .int .i64 (lowI (addI e (-1))), .int .i64 (lowI (addI f (-1)))] ∧ Hid (∀ j : Nat, j < k → thinI (axI a b c j) (axI d e f j) = false) ∧ Below w.heap.size w wr) (fun i _ => 3 - (intOf i).toNat)
  case atStart => exact ⟨0, by omega, rfl, A, L, T, X, Y, fun j hj => by omega, H⟩
  case round =>
    clear A L T X Y H
    obtain ⟨k, hk, rfl, A, L, T, X, Y, Z, H⟩ := hrel
    by_cases hk3 : k = 3
    · subst hk3
      have HT := Lib.hid (thin_yes Z.out)
      obtain ⟨k0, k1, k2, k3, k4, k5⟩ := A.re6
      obtain ⟨x0, x1, x2⟩ := X.re3
      obtain ⟨y0, y1, y2⟩ := Y.re3
      go_upto_region 11 with (fail)
      refine wp_sched [0, 0, 0, 0, 0, 0, 0, 0, 0, 0, 0, 0, 0, 0, 0, 0, 0, 0, 0, 0, 0, 0, 0, 0, 0, 0, 0, 0, 0, 0, 0, 0, 0, 0, 0, 0, 1, 3, 1, 3, 1, 3] (fun _ _ _ => True) (by kernel_rfl) (by kernel_rfl) (fun _ _ _ _ h _ => h) ?_
      repeat (first | (refine wpQs_s ?_) | (refine wpQs_q (fun K hK => ?_); go_simp; first | (refine hK _ ?_; clear hK K) | (apply Exists.intro; refine ⟨fun _ => ?_, hK _ ?_⟩; (exact thin_p _ _ _ _ _); clear hK K)) | (refine wpQs_f (fun K hK => ?_); go_simp; refine hK _ ?_; clear hK K))
      refine wpQs_nil ?_
      repeat (first | (refine wpLs_skip ?_) | (refine wpLs_one ?lsA (fun v_ => ?_); case lsA => (intro w_ hw_ hp_; (fail))))
      refine wpLs_nilB ?_
      simp only [tails]
      intro w2 h2 _
      replace A := A.on h2
      replace L := L.on h2
      replace T := T.on h2
      replace X := X.on h2
      replace Y := Y.on h2
      replace H := after H h2
      clear h2 k0 k1 k2 k3 k4 k5 x0 x1 x2 y0 y1 y2
      obtain ⟨y0, y1, y2, f0, f1, f2⟩ := Y.c3
      go_upto_region 12 with (fail)
      generalize h4 : World.setCell (World.setCell (World.setCell w2 _ _) _ _) _ _ = w4
      replace L := Blk.eqw h4 (((L.far (p := ⟨g2, 0, none⟩) (by dsimp only; omega) _).far (p := ⟨g2, 1, none⟩) (by dsimp only; omega) _).far (p := ⟨g2, 2, none⟩) (by dsimp only; omega) _)
      replace T := Blk.eqw h4 (((T.far (p := ⟨g2, 0, none⟩) (by dsimp only; omega) _).far (p := ⟨g2, 1, none⟩) (by dsimp only; omega) _).far (p := ⟨g2, 2, none⟩) (by dsimp only; omega) _)
      replace X := Blk.eqw h4 (((X.far (p := ⟨g2, 0, none⟩) (by dsimp only; omega) _).far (p := ⟨g2, 1, none⟩) (by dsimp only; omega) _).far (p := ⟨g2, 2, none⟩) (by dsimp only; omega) _)
      replace Y := Blk.eqw h4 (Y.st3 _ _ _)
      replace H : Below w.heap.size w w4 := by
        rw [← h4, ← HN.out]; rw [← HN.out] at H
        exact ((H.setCell (p := ⟨g2, 0, none⟩) (by dsimp only; omega) _).setCell (p := ⟨g2, 1, none⟩) (by dsimp only; omega) _).setCell (p := ⟨g2, 2, none⟩) (by dsimp only; omega) _
      clear h4 y0 y1 y2 f0 f1 f2 A
      rw [topI_prog2 HB.out.a1 HB.out.d2 HB.out.ad, topI_prog2 HB.out.b1 HB.out.e2 HB.out.be, topI_prog2 HB.out.c1 HB.out.f2 HB.out.cf] at Y
      have x0 := fun f d os => (X.sp (D := [N + 1, N + 1 + 1]) (by simp; omega) f d os).c3
      have y0 := fun f d os => (Y.sp (D := [N + 1, N + 1 + 1]) (by simp; omega) f d os).c3
      refine wp_two [0, 0, 2, 2, 0] 2 (N + 1) 74 (#[.int .i64 (lowI a), .int .i64 (lowI b), .int .i64 (lowI c)]) 3 (N + 1 + 1) 74 (#[.int .i64 (topI a d), .int .i64 (topI b e), .int .i64 (topI c f)]) (by omega) (by kernel_rfl) (by kernel_rfl) ?_
      repeat (first | (refine wpQs_s ?_) | (refine wpQs_q (fun K hK => ?_); go_simp; first | (refine hK _ ?_; clear hK K) | (apply Exists.intro; refine ⟨fun _ => ?_, hK _ ?_⟩; (fail); clear hK K)) | (refine wpQs_f (fun K hK => ?_); go_simp; refine hK _ ?_; clear hK K))
      refine wpQs_nil ?_
      repeat (refine wpLs_skip ?_)
      refine wpLs_one ?s1 (fun _ => ?_)
      case s1 =>
        intro w_ hw_ hp_
        have L2 := hp_.blk (by simp [Ds2]) L
        obtain ⟨b0, b1, b2, f0, f1, f2⟩ := L2.c3
        go_simp
        exact two_fst (by decide) kept3 (L2.st3 _ _ _)
      refine wpLs_one ?s2 (fun _ => ?_)
      case s2 =>
        intro w_ hw_ hp_
        have T2 := hp_.blk (by simp [Ds2]) T
        obtain ⟨b0, b1, b2, f0, f1, f2⟩ := T2.c3
        go_simp
        exact two_snd (by decide) kept3 (T2.st3 _ _ _)
      refine wpLs_skip ?_
      refine wpLs_nilD ?_
      simp only [tails]
      rintro w1 h1 ⟨⟨-, r1⟩, r2⟩
      obtain ⟨d0, d1, d2, -, -, -⟩ := (r1.1 rfl).c3
      obtain ⟨e0, e1, e2, -, -, -⟩ := (r2.2 rfl).c3
      clear r1 r2
      go_wp2_with fail
      refine bodyPost_ret (v := spanV a b c d e f) (by simp [results, Try.results122, go_sem, d0, d1, d2, e0, e1, e2, HT.out, zI]) rfl ⟨rfl, ?_⟩
      rw [← HN.out] at H ⊢
      exact H.trans (h1.below (by have := H.size; rwa [← HN.out] at this) (fun b hb => by simp; omega))
    · have hlt : k < 3 := by omega
      obtain ⟨k0, k1, k2, k3, k4, k5⟩ := A.re6
      go_upto_region 6 with (fail)
      refine wp_sched [0, 0, 0, 0, 0, 0, 0, 0, 0, 0] (fun _ _ _ => True) (by kernel_rfl) (by kernel_rfl) (fun _ _ _ _ h _ => h) ?_
      repeat (first | (refine wpQs_s ?_) | (refine wpQs_q (fun K hK => ?_); go_simp; first | (refine hK _ ?_; clear hK K) | (apply Exists.intro; refine ⟨fun _ => ?_, hK _ ?_⟩; (exact axis_c _ _ _ _ _); clear hK K)) | (refine wpQs_f (fun K hK => ?_); go_simp; refine hK _ ?_; clear hK K))
      refine wpQs_nil ?_
      repeat (first | (refine wpLs_skip ?_) | (refine wpLs_one ?lsA (fun v_ => ?_); case lsA => (intro w_ hw_ hp_; (fail))))
      refine wpLs_nilB ?_
      simp only [tails]
      intro w2 h2 _
      replace A := A.on h2
      replace L := L.on h2
      replace T := T.on h2
      replace X := X.on h2
      replace Y := Y.on h2
      replace H := after H h2
      clear h2 k0 k1 k2 k3 k4 k5
      have b1 := ax_bd ⟨HB.out.a1, by have := HB.out.ad; have := HB.out.d2; omega⟩ ⟨HB.out.b1, by have := HB.out.be; have := HB.out.e2; omega⟩ ⟨HB.out.c1, by have := HB.out.cf; have := HB.out.f2; omega⟩ k
      have Z1 := fun (h : pthinB (axI a b c k) (axI d e f k) = false) => thin_next Z.out (by rw [← pthin_is b1.1 b1.2]; exact h)
      have Z2 := fun (h : pthinB (axI a b c k) (axI d e f k) = true) => thin_no (a := a) (b := b) (c := c) (d := d) (e := e) (f := f) hlt (by rw [← pthin_is b1.1 b1.2]; exact h)
      go_upto_region 7 with (fail)
      obtain ⟨n, hn⟩ : ∃ n, n = axI a b c k := ⟨_, rfl⟩
      obtain ⟨m, hm⟩ : ∃ m, m = axI d e f k := ⟨_, rfl⟩
      rw [← hn, ← hm] at Z1 Z2 ⊢
      have HNn := Lib.hid hn
      have HMm := Lib.hid hm
      clear hn hm b1
      have hkw := next64 (Nat.le_refl 3) (by decide) hlt
      obtain ⟨l0, l1, l2, lf0, lf1, lf2⟩ := L.c3
      obtain ⟨t0, t1, t2, tf0, tf1, tf2⟩ := T.c3
      rcases pthin_ways n m with ⟨y1, y2⟩ | ⟨y1, y3, y2⟩ | ⟨y1, y3, y2⟩
      · replace Z1 := Lib.hid (Z1 y2)
        clear Z2 y2
        go_wp2_with fail
        go_roundw
        case rel => exact ⟨k + 1, hlt, rfl, A, L, T, X, Y, Z1.out, H⟩
        case measure => exact next_less' hlt
      · replace Z1 := Lib.hid (Z1 y2)
        clear Z2 y2
        go_wp2_with fail
        refine (frac_c _ _).mono ?_; rintro e w1 ⟨rfl, rfl⟩
        go_wp2_with fail
        go_roundw
        case rel => exact ⟨k + 1, hlt, rfl, A, L, T, X, Y, Z1.out, H⟩
        case measure => exact next_less' hlt
      · replace Z2 := Lib.hid (Z2 y2)
        clear Z1 y2
        go_wp2_with fail
        refine (frac_c _ _).mono ?_; rintro e w1 ⟨rfl, rfl⟩
        go_wp2_with fail
        have RL := (L.st3 (.int .i64 0) (.int .i64 0) (.int .i64 0)).far (p := ⟨N + 1 + 1, 0, none⟩) (by dsimp only; omega) (.int .i64 0)
        have RL2 := (RL.far (p := ⟨N + 1 + 1, 1, none⟩) (by dsimp only; omega) (.int .i64 0)).far (p := ⟨N + 1 + 1, 2, none⟩) (by dsimp only; omega) (.int .i64 0)
        have RT := (((T.far (p := ⟨N + 1, 0, none⟩) (by dsimp only; omega) (.int .i64 0)).far (p := ⟨N + 1, 1, none⟩) (by dsimp only; omega) (.int .i64 0)).far (p := ⟨N + 1, 2, none⟩) (by dsimp only; omega) (.int .i64 0)).st3 (.int .i64 0) (.int .i64 0) (.int .i64 0)
        obtain ⟨d0, d1, d2, -, -, -⟩ := RL2.c3
        obtain ⟨e0, e1, e2, -, -, -⟩ := RT.c3
        refine bodyPost_ret (v := spanV a b c d e f) (by simp [results, Try.results122, go_sem, d0, d1, d2, e0, e1, e2, Z2.out, zI]) rfl ⟨rfl, ?_⟩
        rw [← HN.out] at H ⊢
        exact (((((H.setCell (p := ⟨N + 1, 0, none⟩) (by dsimp only; omega) _).setCell (p := ⟨N + 1, 1, none⟩) (by dsimp only; omega) _).setCell (p := ⟨N + 1, 2, none⟩) (by dsimp only; omega) _).setCell (p := ⟨N + 1 + 1, 0, none⟩) (by dsimp only; omega) _).setCell (p := ⟨N + 1 + 1, 1, none⟩) (by dsimp only; omega) _).setCell (p := ⟨N + 1 + 1, 2, none⟩) (by dsimp only; omega) _
end Go.Proofs.Ytnokibdecnddlaa

/- The cells of a box, in their row: plain lists. No program in sight. -/
namespace Go.Proofs.Ytnokibdecnddlaa
open Go.RowKit

/-- Whole numbers from the one to the other. -/
def rowL (lo hi : Int) : List Int := (List.range (hi + 1 - lo).toNat).map fun i : Nat => lo + (i : Int)
theorem rowL_nil {lo hi : Int} (h : hi < lo) : rowL lo hi = [] := by
  unfold rowL
  rw [show (hi + 1 - lo).toNat = 0 by omega]; rfl
theorem rowL_cons {lo hi : Int} (h : lo ≤ hi) : rowL lo hi = lo :: rowL (lo + 1) hi := by
  unfold rowL
  rw [show (hi + 1 - lo).toNat = (hi + 1 - (lo + 1)).toNat + 1 by omega, List.range_succ_eq_map]
  simp only [List.map_cons, List.map_map, Int.ofNat_zero, Int.add_zero]
  congr 1
  apply List.map_congr_left
  intro i _
  simp only [Function.comp_apply, Nat.succ_eq_add_one, Int.natCast_add]
  omega
theorem mem_rowL {lo hi n : Int} : n ∈ rowL lo hi ↔ lo ≤ n ∧ n ≤ hi := by
  unfold rowL
  simp only [List.mem_map, List.mem_range]
  constructor
  · rintro ⟨i, h, rfl⟩; omega
  · rintro ⟨h1, h2⟩; exact ⟨(n - lo).toNat, by omega, by omega⟩
theorem rowL_length (lo hi : Int) : (rowL lo hi).length = (hi + 1 - lo).toNat := by simp [rowL]

abbrev Cl := Int × Int × Int
/-- What is still to come, from a cell on: of its row, of its layer, of all. -/
def rest1 (x0 x1 y1 z0 z1 y : Int) : List Cl := (rowL y y1).flatMap fun y => (rowL z0 z1).flatMap fun z => (rowL x0 x1).map fun x => (x, y, z)
def rest2 (x0 x1 y1 z0 z1 y z : Int) : List Cl := ((rowL z z1).flatMap fun z => (rowL x0 x1).map fun x => (x, y, z)) ++ rest1 x0 x1 y1 z0 z1 (y + 1)
def rest3 (x0 x1 y1 z0 z1 y z x : Int) : List Cl := ((rowL x x1).map fun x => (x, y, z)) ++ rest2 x0 x1 y1 z0 z1 y (z + 1)
section
variable {x0 x1 y1 z0 z1 y z x : Int}
theorem rest1_nil (h : y1 < y) : rest1 x0 x1 y1 z0 z1 y = [] := by unfold rest1; rw [rowL_nil h]; rfl
theorem rest1_cons (h : y ≤ y1) : rest1 x0 x1 y1 z0 z1 y = rest2 x0 x1 y1 z0 z1 y z0 := by
  unfold rest2; rw [rest1, rowL_cons h]; rfl
theorem rest2_nil (h : z1 < z) : rest2 x0 x1 y1 z0 z1 y z = rest1 x0 x1 y1 z0 z1 (y + 1) := by unfold rest2; rw [rowL_nil h]; rfl
theorem rest2_cons (h : z ≤ z1) : rest2 x0 x1 y1 z0 z1 y z = rest3 x0 x1 y1 z0 z1 y z x0 := by
  unfold rest3; rw [rest2, rowL_cons h]; simp [rest2, List.append_assoc]
theorem rest3_nil (h : x1 < x) : rest3 x0 x1 y1 z0 z1 y z x = rest2 x0 x1 y1 z0 z1 y (z + 1) := by unfold rest3; rw [rowL_nil h]; rfl
theorem rest3_cons (h : x ≤ x1) : rest3 x0 x1 y1 z0 z1 y z x = (x, y, z) :: rest3 x0 x1 y1 z0 z1 y z (x + 1) := by
  unfold rest3; rw [rowL_cons h]; rfl
end
theorem drop_cons {α : Type} {xs t : List α} {a : α} {i : Nat} (h : xs.drop i = a :: t) : xs[i]? = some a ∧ xs.drop (i + 1) = t ∧ i < xs.length := by
  refine ⟨?_, ?_, ?_⟩
  · have := List.getElem?_drop (xs := xs) (i := i) (j := 0)
    rw [h] at this
    simpa using this.symm
  · rw [← List.tail_drop, h]; rfl
  · rcases Nat.lt_or_ge i xs.length with h' | h'
    · exact h'
    · rw [List.drop_eq_nil_of_le h'] at h; cases h
theorem drop_nil {α : Type} {xs : List α} {i : Nat} (h : xs.drop i = []) (hi : i ≤ xs.length) : i = xs.length := by
  have := List.drop_eq_nil_iff.1 h; omega
/-- All cells of a block of cells. -/
def boxL (x0 x1 y0 y1 z0 z1 : Int) : List Cl := rest1 x0 x1 y1 z0 z1 y0
theorem mem_boxL {x0 x1 y0 y1 z0 z1 : Int} {c : Cl} : c ∈ boxL x0 x1 y0 y1 z0 z1 ↔ (x0 ≤ c.1 ∧ c.1 ≤ x1) ∧ (y0 ≤ c.2.1 ∧ c.2.1 ≤ y1) ∧ z0 ≤ c.2.2 ∧ c.2.2 ≤ z1 := by
  unfold boxL rest1
  simp only [List.mem_flatMap, List.mem_map, mem_rowL]
  constructor
  · rintro ⟨y, hy, z, hz, x, hx, rfl⟩; exact ⟨hx, hy, hz⟩
  · rintro ⟨hx, hy, hz⟩; exact ⟨_, hy, _, hz, _, hx, rfl⟩
theorem flat_len {α β : Type} (l : List α) (f : α → List β) (k : Nat) (h : ∀ a, (f a).length = k) : (l.flatMap f).length = l.length * k := by
  induction l with
  | nil => simp
  | cons a l ih => simp [List.flatMap_cons, h, ih, Nat.succ_mul, Nat.add_comm]
theorem boxL_length (x0 x1 y0 y1 z0 z1 : Int) : (boxL x0 x1 y0 y1 z0 z1).length = (y1 + 1 - y0).toNat * ((z1 + 1 - z0).toNat * (x1 + 1 - x0).toNat) := by
  unfold boxL rest1
  rw [flat_len _ _ ((z1 + 1 - z0).toNat * (x1 + 1 - x0).toNat), rowL_length]
  intro y
  rw [flat_len _ _ (x1 + 1 - x0).toNat, rowL_length]
  intro z
  simp [rowL_length]
end Go.Proofs.Ytnokibdecnddlaa
