/- Texts that build one behind the other, laid together: Sched2 SchedR Sched4 Many Exch Probe1 Probe2 Shut Fix Span Fix2 Vec Vec2 Vec3 Span4 Fix3 Span2. -/
import Derived.Test.YtmbccnioijokfaaGreatDoorMz1
import Derived.Test.YtmbccnioijokfaaGreatDoorChecked
import Derived.Deep.Cut
import Derived.Test.YtmbccnioijokfaaGreatDoorRows
import Derived.ProofKit
import Derived.OpenShut
import Derived.Lib.Mul64
namespace Go.Proofs.YtmbccnioijokfaaGreatDoor
open Go.RowKit
section
variable {P : Program} {ops : Array Oper} {C : World → Prop} {ks : List Nat}
structure Sch (ops : Array Oper) (ks : List Nat) (anc : Nat → Nat → Prop) : Prop where
  sel : ∀ (j : Nat) (o : Oper) cs b, ops[j]? = some o → o.op ≠ .select cs b
  len : ks.length = ops.size
  apart : Apart ops
  edges : ∀ (i : Nat) (o : Oper), ops[i]? = some o → ∀ e ∈ o.after, Region.binds .any e = true → e.on < i
  lower : ∀ i j, anc i j → j < i ∧ ∃ o, ops[i]? = some o ∧ ∃ e ∈ o.after, Region.binds .any e = true ∧ (e.on = j ∨ anc e.on j)
  looks : ∀ (i : Nat) (o : Oper), ops[i]? = some o → ∀ t ∈ o.looksAt ops, ∀ j, dstOf ops j = some t → (anc i j ∧ (kd ks j < 2 ∨ 3 ≤ kd ks i ∨ (kd ks i = 2 ∧ kd ks j = 2))) ∨ (kd ks i < 3 ∧ kd ks i ≠ 1 ∧ 3 ≤ kd ks j)
  tail : ∀ (i : Nat) (o : Oper), ops[i]? = some o → 3 ≤ kd ks i → ∀ j, j < ops.size → kd ks j = 1 ∨ (3 ≤ kd ks j ∧ i ≤ j) ∨ anc i j
def ancB (b : Array Nat) (i j : Nat) : Bool := (b.getD i 0).testBit j
def schedB0 (ops : Array Oper) (ks : List Nat) : Bool :=
  Region.noSelect ops && ks.length == ops.size &&
  (List.range ops.size).all fun i => match ops[i]? with
    | none => false
    | some o => o.after.all (fun e => !Region.binds .any e || decide (e.on < i)) &&
      (List.range ops.size).all fun j =>
        (j == i || match o.dst with | none => true | some d => dstOf ops j != some d) &&
        (match dstOf ops j with | none => true | some d => !(o.looksAt ops).contains d || (ancB (Region.before ops) i j && (decide (kd ks j < 2) || decide (3 ≤ kd ks i) || (decide (kd ks i = 2) && decide (kd ks j = 2)))) || (decide (kd ks i < 3) && kd ks i != 1 && decide (3 ≤ kd ks j))) &&
        (!ancB (Region.before ops) i j || (decide (j < i) && o.after.any fun e => Region.binds .any e && (e.on == j || ancB (Region.before ops) e.on j))) &&
        (decide (kd ks i < 3) || kd ks j == 1 || (decide (3 ≤ kd ks j) && decide (i ≤ j)) || ancB (Region.before ops) i j)
def guardsB (ops : Array Oper) (ks : List Nat) : Bool := (List.range ops.size).all fun i => match ops[i]? with
    | none => false
    | some o => kd ks i != 2 || o.guard.isNone
def schedB (ops : Array Oper) (ks : List Nat) : Bool := schedB0 ops ks && guardsB ops ks
theorem guard_of (h : schedB ops ks = true) (i : Nat) (o : Oper) (ho : ops[i]? = some o) (hk : kd ks i = 2) : o.guard = none := by
  simp only [schedB, guardsB, Bool.and_eq_true, List.all_eq_true, List.mem_range] at h
  have := h.2 i (Array.getElem?_eq_some_iff.1 ho).1
  rw [ho] at this
  simpa [hk] using this
theorem sch_of0 (h : schedB0 ops ks = true) : Sch ops ks (fun i j => i < ops.size ∧ j < ops.size ∧ ancB (Region.before ops) i j = true) := by
  simp only [schedB0, Bool.and_eq_true, beq_iff_eq, List.all_eq_true, List.mem_range] at h
  obtain ⟨⟨h1, h2⟩, h3⟩ := h
  have key : ∀ (i : Nat) (o : Oper), ops[i]? = some o → (o.after.all (fun e => !Region.binds .any e || decide (e.on < i)) = true) ∧ ∀ j, j < ops.size →
      (((j == i || match o.dst with | none => true | some d => dstOf ops j != some d) = true ∧
        (match dstOf ops j with | none => true | some d => !(o.looksAt ops).contains d || (ancB (Region.before ops) i j && (decide (kd ks j < 2) || decide (3 ≤ kd ks i) || (decide (kd ks i = 2) && decide (kd ks j = 2)))) || (decide (kd ks i < 3) && kd ks i != 1 && decide (3 ≤ kd ks j))) = true) ∧
        (!ancB (Region.before ops) i j || (decide (j < i) && o.after.any fun e => Region.binds .any e && (e.on == j || ancB (Region.before ops) e.on j))) = true) ∧
        (decide (kd ks i < 3) || kd ks j == 1 || (decide (3 ≤ kd ks j) && decide (i ≤ j)) || ancB (Region.before ops) i j) = true := fun i o ho => by
    have := h3 i (Array.getElem?_eq_some_iff.1 ho).1
    rw [ho] at this
    simp only [Bool.and_eq_true, List.all_eq_true, List.mem_range] at this
    exact ⟨this.1, this.2⟩
  have low : ∀ (i : Nat) (o : Oper), ops[i]? = some o → ∀ e ∈ o.after, Region.binds .any e = true → e.on < i := fun i o ho e he hb => by
    have := Array.all_eq_true_iff_forall_mem.1 (key i o ho).1 e he
    simpa [hb] using this
  refine ⟨Region.noSelect_spec h1, h2, fun i j d hij hi hj => ?_, low, fun i j ⟨hi, hj, ha⟩ => ?_, fun i o ho t ht j hj => ?_, fun i o ho hk j hj => ?_⟩
  · have hjlt : j < ops.size := by
      unfold dstOf at hj
      cases h : ops[j]? with
      | none => rw [h] at hj; cases hj
      | some _ => exact (Array.getElem?_eq_some_iff.1 h).1
    cases ho : ops[i]? with
    | none => unfold dstOf at hi; rw [ho] at hi; cases hi
    | some o =>
      have hod : o.dst = some d := by unfold dstOf at hi; rw [ho] at hi; exact hi
      have := ((key i o ho).2 j hjlt).1.1.1
      rw [hod] at this
      simp only [Bool.or_eq_true, beq_iff_eq, bne_iff_ne, ne_eq] at this
      rcases this with e | e
      · exact hij e.symm
      · exact e hj
  · have ho : ops[i]? = some (ops[i]'hi) := Array.getElem?_eq_getElem hi
    have h4 := ((key i _ ho).2 j hj).1.2
    rw [ha] at h4
    simp only [Bool.not_true, Bool.false_or, Bool.and_eq_true, decide_eq_true_eq] at h4
    obtain ⟨e, he, hb⟩ := Array.any_eq_true'.1 h4.2
    simp only [Bool.and_eq_true, Bool.or_eq_true, beq_iff_eq] at hb
    have := low i _ ho e he hb.1
    exact ⟨h4.1, _, ho, e, he, hb.1, hb.2.imp id fun h => ⟨by omega, hj, h⟩⟩
  · have hjlt : j < ops.size := by
      unfold dstOf at hj
      cases h : ops[j]? with
      | none => rw [h] at hj; cases hj
      | some _ => exact (Array.getElem?_eq_some_iff.1 h).1
    have h4 := ((key i o ho).2 j hjlt).1.1.2
    rw [hj] at h4
    have h5 : (o.looksAt ops).contains t = true := by simpa using ht
    simp only [h5, Bool.not_true, Bool.false_or, Bool.and_eq_true, Bool.or_eq_true, decide_eq_true_eq, bne_iff_ne, ne_eq] at h4
    rcases h4 with h4 | h4
    · exact .inl ⟨⟨(Array.getElem?_eq_some_iff.1 ho).1, hjlt, h4.1⟩, or_assoc.1 h4.2⟩
    · exact .inr ⟨h4.1.1, h4.1.2, h4.2⟩
  · have h4 := ((key i o ho).2 j hj).2
    simp only [Bool.or_eq_true, decide_eq_true_eq, beq_iff_eq, Bool.and_eq_true] at h4
    rcases h4 with ((h4 | h4) | h4) | h4
    · omega
    · exact .inl h4
    · exact .inr (.inl h4)
    · exact .inr (.inr ⟨(Array.getElem?_eq_some_iff.1 ho).1, hj, h4⟩)
theorem sch_of (h : schedB ops ks = true) : Sch ops ks (fun i j => i < ops.size ∧ j < ops.size ∧ ancB (Region.before ops) i j = true) := sch_of0 (by simp only [schedB, Bool.and_eq_true] at h; exact h.1)
abbrev up (listed : Array Bool) (i : Nat) : Bool := listed.getD i false
def Upw (ops : Array Oper) (listed : Array Bool) : Prop := ∀ (j : Nat) (o : Oper), up listed j = true → ops[j]? = some o → ∀ e ∈ o.after, Region.binds .any e = true → up listed e.on = true
variable {anc : Nat → Nat → Prop}
theorem Sch.looks1 (H : Sch ops ks anc) {i : Nat} {o : Oper} (ho : ops[i]? = some o) (hk : kd ks i = 1 ∨ 3 ≤ kd ks i) {t : Tmp} (ht : t ∈ o.looksAt ops) {j : Nat} (hj : dstOf ops j = some t) : anc i j ∧ (kd ks j < 2 ∨ 3 ≤ kd ks i) := by
  rcases H.looks i o ho t ht j hj with h | h
  · exact ⟨h.1, by omega⟩
  · omega
theorem Sch.anc_up (H : Sch ops ks anc) {listed : Array Bool} (hU : Upw ops listed) : ∀ (i : Nat) (o : Oper) (j : Nat), ops[i]? = some o → (∀ e ∈ o.after, Region.binds .any e = true → up listed e.on = true) → anc i j → up listed j = true := by
  intro i
  induction i using Nat.strongRecOn with
  | _ i ih =>
    intro o j ho he ha
    obtain ⟨_, o', ho', e, hm, hb, h⟩ := H.lower i j ha
    rw [ho] at ho'
    obtain rfl := Option.some.inj ho'
    rcases h with h | h
    · rw [← h]; exact he e hm hb
    · obtain ⟨_, o2, ho2, _⟩ := H.lower _ _ h
      exact ih e.on (H.edges i o ho e hm hb) o2 j ho2 (hU e.on o2 (he e hm hb) ho2) h
theorem up_set {listed : Array Bool} {i j : Nat} (hi : i < listed.size) : up (listed.setIfInBounds i true) j = if j = i then true else up listed j := by
  unfold up
  by_cases h : j = i
  · subst h; simp [hi]
  · rw [if_neg h, getD_set_ne false (fun e => h e.symm)]
theorem Upw.set {listed : Array Bool} (hU : Upw ops listed) {i : Nat} (hi : i < listed.size) {o : Oper} (ho : ops[i]? = some o) (he : ∀ e ∈ o.after, Region.binds .any e = true → up listed e.on = true) : Upw ops (listed.setIfInBounds i true) := by
  intro j oj hj hoj e hm hb
  rw [up_set hi] at hj ⊢
  by_cases h : e.on = i
  · rw [if_pos h]
  · rw [if_neg h]
    by_cases hji : j = i
    · subst hji
      rw [ho] at hoj
      obtain rfl := Option.some.inj hoj
      exact he e hm hb
    · rw [if_neg hji] at hj
      exact hU j oj hj hoj e hm hb
def cnt (n : Nat) (listed : Array Bool) : Nat := (List.range n).countP fun i => !up listed i
theorem countP_flip (p q : Nat → Bool) (i : Nat) (h1 : p i = true) (h2 : q i = false) (h3 : ∀ j, j ≠ i → q j = p j) : ∀ l : List Nat, l.Nodup → i ∈ l → l.countP p = l.countP q + 1 := by
  intro l
  induction l with
  | nil => intro _ h; cases h
  | cons a l ih =>
    intro hn h
    rw [List.nodup_cons] at hn
    by_cases ha : a = i
    · subst ha
      rw [List.countP_cons_of_pos h1, List.countP_cons_of_neg (by rw [h2]; decide)]
      congr 1
      exact List.countP_congr fun j hj => by rw [h3 j (fun e => hn.1 (e ▸ hj))]
    · have hi : i ∈ l := by
        rcases List.mem_cons.1 h with e | e
        · exact absurd e.symm ha
        · exact e
      have := ih hn.2 hi
      cases hp : p a with
      | true => rw [List.countP_cons_of_pos hp, List.countP_cons_of_pos (by rw [h3 a ha]; exact hp), this]
      | false => rw [List.countP_cons_of_neg (by rw [hp]; decide), List.countP_cons_of_neg (by rw [h3 a ha, hp]; decide), this]
theorem cnt_set {n : Nat} {listed : Array Bool} (hs : listed.size = n) {i : Nat} (hi : i < n) (hu : up listed i = false) : cnt n listed = cnt n (listed.setIfInBounds i true) + 1 := by
  refine countP_flip _ _ i (by rw [hu]; rfl) ?_ (fun j hj => ?_) _ List.nodup_range (List.mem_range.2 hi)
  · rw [up_set (by omega), if_pos rfl]; rfl
  · rw [up_set (by omega), if_neg hj]
theorem cnt_zero {n : Nat} {listed : Array Bool} (h : cnt n listed = 0) {i : Nat} (hi : i < n) : up listed i = true := by
  have := List.countP_eq_zero.1 h i (List.mem_range.2 hi)
  simpa using this
theorem Sch.ready_ne (H : Sch ops ks anc) {listed : Array Bool} (hs : listed.size = ops.size) (h : cnt ops.size listed ≠ 0) : Region.ready .any ops listed ≠ [] := by
  intro hr
  apply h
  have all : ∀ i, i < ops.size → up listed i = true := by
    intro i
    induction i using Nat.strongRecOn with
    | _ i ih =>
      intro hi
      cases hu : up listed i with
      | true => rfl
      | false =>
        exfalso
        have : i ∈ Region.ready .any ops listed := mem_ready.2 ⟨by rw [getD_any (by omega)]; exact hu, _, Array.getElem?_eq_getElem hi, fun e he hb => by
          have h1 := H.edges i _ (Array.getElem?_eq_getElem hi) e he hb
          exact ih _ h1 (by omega)⟩
        rw [hr] at this; cases this
  exact List.countP_eq_zero.2 fun i hi => by rw [all i (List.mem_range.1 hi)]; decide
theorem ready_nil {listed : Array Bool} (hs : listed.size = ops.size) (h : cnt ops.size listed = 0) : Region.ready .any ops listed = [] := by
  cases hr : Region.ready .any ops listed with
  | nil => rfl
  | cons i r =>
    exfalso
    obtain ⟨hu, o, ho, _⟩ := mem_ready.1 (show i ∈ Region.ready .any ops listed by rw [hr]; simp)
    have hi := (Array.getElem?_eq_some_iff.1 ho).1
    rw [getD_any (by omega)] at hu
    have := cnt_zero h hi
    rw [show up listed i = listed.getD i false from rfl, hu] at this
    cases this
theorem nums_split {p : Nat → Bool} {k n i : Nat} (h1 : k ≤ i) (h2 : i < n) (h3 : p (kd ks i) = true) : nums ks p k n = nums ks p k i ++ i :: nums ks p (i + 1) n := by
  unfold nums
  have e : List.range' k (n - k) = List.range' k (i - k) ++ List.range' i (n - i) := by
    rw [show n - k = (i - k) + (n - i) by omega, ← List.range'_append_1]
    congr 2
    omega
  rw [e, List.filter_append, show n - i = (n - (i + 1)) + 1 by omega, List.range'_succ, List.filter_cons, if_pos h3]
theorem stL_put (V : Nat → Value) {x : Option Tmp} {v : Value} (S : List Nat) : ∀ a, (∀ j ∈ S, ∀ d, x = some d → dstOf ops j ≠ some d) → (stL ops V S a).put x v = stL ops V S (a.put x v) := by
  induction S with
  | nil => intro a _; rfl
  | cons i S ih =>
    intro a h
    rw [stL_cons, stL_cons, ih _ (fun j hj => h j (List.mem_cons_of_mem _ hj)), Act.put_comm a v (V i) (fun d hd e => h i (by simp) d hd e)]
theorem stL_defer (V : Nat → Value) (g : List Deferred) (S : List Nat) : ∀ a, ({ stL ops V S a with defers := g } : Act) = stL ops V S { a with defers := g } := by
  induction S with
  | nil => intro a; rfl
  | cons i S ih =>
    intro a
    rw [stL_cons, stL_cons, ih]
    congr 1
    cases dstOf ops i <;> rfl
theorem wp_shift {o : Oper} {V : Nat → Value} {S : List Nat} {a : Act} {w : World} {X K K' : Act → World → Prop} {Q : Exit → Act → World → Prop} (he : execOp (stL ops V S a).eval o = execOp a.eval o) (hS : ∀ j ∈ S, ∀ d, o.dst = some d → dstOf ops j ≠ some d)
    (hK : ∀ g v w', K (stL ops V S (({ a with defers := g } : Act).put o.dst v)) w' → K' (({ a with defers := g } : Act).put o.dst v) w')
    (h : o.wp P (stL ops V S a) w K (Exit.then X (fun _ _ _ => False))) : o.wp P a w K' Q := by
  have hd : ∀ v w', K ((stL ops V S a).put o.dst v) w' → K' (a.put o.dst v) w' := fun v w' h => hK a.defers v w' (by rw [← stL_put V S a hS]; exact h)
  unfold Oper.wp at h ⊢
  rw [he] at h
  generalize (execOp a.eval o).run P w = r at *
  cases r with
  | ok nx w' =>
    cases nx <;> simp only [Oper.upon] at h ⊢
    case value u => exact hd _ _ h
    case skip => exact hd _ _ h
    case defer d =>
      refine hK (d :: a.defers) undef w' ?_
      rw [← stL_put V S _ hS, ← stL_defer]
      rw [stL_defers] at h
      exact h
    case enter f args =>
      refine h.mono fun e w'' he => ?_
      cases e with
      | returned v => exact hd _ _ he
      | panicked c => exact he.elim
      | outgrown => obtain ⟨_, _, hf⟩ := he; exact hf.elim
    case row r args => exact fun c cs => let ⟨v, w'', hx, hs⟩ := h c cs; ⟨v, w'', hd _ _ hx, hs⟩
  | halt x w' => cases x <;> simp only [Oper.upon] at h ⊢ <;> first | exact h.elim | exact h
variable {Q : Exit → Act → World → Prop} {V : Nat → Value} {a0 : Act}
abbrev nonT (ks : List Nat) (n : Nat) : List Nat := nums ks pQ 0 n ++ nums ks pL 0 n
abbrev pF (k : Nat) : Bool := k == 1
theorem mem_nonT {n i : Nat} : i ∈ nonT ks n ↔ i < n ∧ kd ks i < 3 := by
  unfold nonT
  rw [List.mem_append, mem_nums, mem_nums]
  simp only [pQ, pL, decide_eq_true_eq, beq_iff_eq]
  omega
theorem getD_out {a : Act} {t : Nat} (h : ¬ t < a.tmps.size) : a.tmps.getD t undef = undef := by simp [h]
theorem Sch.phase2 (H : Sch ops ks anc) (hG : ∀ (i : Nat) (o : Oper), ops[i]? = some o → kd ks i = 1 → Fixes P ops o (V i) (stL ops V (nums ks pQ 0 i) a0)) :
    ∀ (f : Nat) (listed : Array Bool) (cur : Act) (w : World), listed.size = ops.size → Upw ops listed → cnt ops.size listed = f → (∀ i, i < ops.size → kd ks i = 0 ∨ kd ks i = 2 → up listed i = true) →
      (∀ t, (∀ j, 3 ≤ kd ks j → dstOf ops j ≠ some t) → cur.tmps.getD t undef = (stL ops V ((nonT ks ops.size).filter (up listed)) a0).tmps.getD t undef) → cur.tmps.size = a0.tmps.size →
      wpList P ops (Exit.then (fun a w => Q .normal a w) (fun _ _ _ => False)) (((nums ks pT 0 ops.size).filter fun i => !up listed i).filterMap fun i => ops[i]?) (stL ops V ((nums ks pF 0 ops.size).filter fun i => !up listed i) cur) w →
      Go.wpAny P .any ops Q f listed cur w := by
  intro f
  induction f with
  | zero =>
    intro listed cur w hs hU hc hz hcur hsz hT
    refine ⟨ready_nil hs hc, ?_⟩
    have e : ∀ p : Nat → Bool, ((nums ks p 0 ops.size).filter fun i => !up listed i) = [] := fun p => List.filter_eq_nil_iff.2 fun i hi => by
      rw [cnt_zero hc (mem_nums.1 hi).1.2]; decide
    rw [e, e] at hT
    exact hT
  | succ f ih =>
    intro listed cur w hs hU hc hz hcur hsz hT
    refine ⟨fun hr => absurd hr (H.ready_ne hs (by omega)), fun i hi => ?_⟩
    obtain ⟨hu, o, ho, he⟩ := mem_ready.1 hi
    have hlt := (Array.getElem?_eq_some_iff.1 ho).1
    rw [getD_any (by omega)] at hu
    have hdst : dstOf ops i = o.dst := by unfold dstOf; rw [ho]; rfl
    have hkz : ¬ (kd ks i = 0 ∨ kd ks i = 2) := fun h => by
      have := hz i hlt h
      rw [show up listed i = listed.getD i false from rfl, hu] at this; cases this
    have hup : ∀ j, anc i j → up listed j = true := fun j => H.anc_up hU i o j ho he
    have hU' := hU.set (by omega) ho he
    have hs' : (listed.setIfInBounds i true).size = ops.size := by simp [hs]
    have hc' : cnt ops.size (listed.setIfInBounds i true) = f := by have := cnt_set hs hlt hu; omega
    have hz' : ∀ j, j < ops.size → kd ks j = 0 ∨ kd ks j = 2 → up (listed.setIfInBounds i true) j = true := fun j hj h => by
      rw [up_set (by omega)]; split
      · rfl
      · exact hz j hj h
    unfold wpOp
    rw [ho]
    dsimp only
    by_cases hk : kd ks i = 1
    ·
      have hal : Alike ops o (stL ops V (nums ks pQ 0 i) a0) cur := fun t ht => by
        rw [hcur t fun j hj e => by have := (H.looks1 ho (.inl hk) ht e).2; omega]
        refine stL_agree H.apart fun j hj => ?_
        obtain ⟨ha, hk2⟩ := H.looks1 ho (.inl hk) ht hj
        have h1 := hup j ha
        have h2 := (H.lower i j ha).1
        refine ⟨⟨fun _ => List.mem_filter.2 ⟨mem_nonT.2 ⟨by omega, by omega⟩, h1⟩, fun _ => mem_nums.2 ⟨⟨Nat.zero_le _, h2⟩, by simp [pQ]; omega⟩⟩, fun _ => rfl⟩
      have hy := Fixes.alike (H.sel i o · · ho) hal (by rw [stL_size, hsz]) (hG i o ho hk)
      have hT' : wpList P ops (Exit.then (fun a w => Q .normal a w) (fun _ _ _ => False)) (((nums ks pT 0 ops.size).filter fun j => !up (listed.setIfInBounds i true) j).filterMap fun i => ops[i]?)
          (stL ops V ((nums ks pF 0 ops.size).filter fun j => !up (listed.setIfInBounds i true) j) (cur.put o.dst (V i))) w := by
        have e1 : ((nums ks pT 0 ops.size).filter fun j => !up (listed.setIfInBounds i true) j) = (nums ks pT 0 ops.size).filter fun j => !up listed j := List.filter_congr fun j hj => by
          have := (mem_nums.1 hj).2
          simp only [pT, decide_eq_true_eq] at this
          rw [up_set (by omega), if_neg (fun e => by subst e; omega)]
        have e2 : stL ops V ((nums ks pF 0 ops.size).filter fun j => !up (listed.setIfInBounds i true) j) (cur.put o.dst (V i)) = stL ops V ((nums ks pF 0 ops.size).filter fun j => !up listed j) cur := by
          rw [← hdst, ← stL_cons]
          refine stL_same H.apart fun j => ⟨?_, fun _ => rfl⟩
          simp only [List.mem_cons, List.mem_filter, Bool.not_eq_true', mem_nums, pF, beq_iff_eq]
          rw [up_set (by omega)]
          constructor
          · rintro (rfl | ⟨h1, h2⟩)
            · exact ⟨⟨⟨Nat.zero_le _, hlt⟩, hk⟩, hu⟩
            · by_cases hji : j = i
              · rw [if_pos hji] at h2; cases h2
              · rw [if_neg hji] at h2; exact ⟨h1, h2⟩
          · rintro ⟨h1, h2⟩
            by_cases hji : j = i
            · exact .inl hji
            · exact .inr ⟨h1, by rw [if_neg hji]; exact h2⟩
        rw [e1, e2]; exact hT
      have hcur' : ∀ t, (∀ j, 3 ≤ kd ks j → dstOf ops j ≠ some t) → (cur.put o.dst (V i)).tmps.getD t undef = (stL ops V ((nonT ks ops.size).filter (up (listed.setIfInBounds i true))) a0).tmps.getD t undef := fun t ht => by
        have hmem : i ∈ (nonT ks ops.size).filter (up (listed.setIfInBounds i true)) := List.mem_filter.2 ⟨mem_nonT.2 ⟨hlt, by omega⟩, by rw [up_set (by omega), if_pos rfl]⟩
        by_cases hd : o.dst = some t
        · by_cases htl : t < cur.tmps.size
          · rw [hd, put_hit _ _ htl, stL_hit H.apart V (hdst.trans hd) _ a0 (hsz ▸ htl) hmem]
          · have h1 : ¬ t < (cur.put o.dst (V i)).tmps.size := by rw [put_size]; exact htl
            have h2 : ¬ t < (stL ops V ((nonT ks ops.size).filter (up (listed.setIfInBounds i true))) a0).tmps.size := by rw [stL_size, ← hsz]; exact htl
            rw [getD_out h1, getD_out h2]
        · rw [put_miss _ _ hd, hcur t ht]
          refine stL_agree H.apart fun j hj => ⟨?_, fun _ => rfl⟩
          rw [List.mem_filter, List.mem_filter, up_set (by omega), if_neg (fun e => by subst e; rw [hdst] at hj; exact hd hj)]
      rcases hy with ⟨hw, hv⟩ | ⟨hw, hv⟩
      · rw [if_pos hw]
        exact .inl (wp_of_fix (hv w) (ih _ _ w hs' hU' hc' hz' hcur' (by rw [put_size, hsz]) hT'))
      · rw [if_neg (by rw [hw]; decide), ← hv]
        exact ih _ _ w hs' hU' hc' hz' hcur' (by rw [put_size, hsz]) hT'
    ·
      have hk3 : 3 ≤ kd ks i := by omega
      have hhead : ∀ q : Nat → Bool, q i = true → (∀ j, j < i → 3 ≤ kd ks j → q j = false) → ((nums ks pT 0 ops.size).filter q) = i :: (nums ks pT (i + 1) ops.size).filter q := fun q h1 h2 => by
        rw [nums_split (Nat.zero_le i) hlt (by simp [pT]; omega), List.filter_append, List.filter_cons, if_pos h1, List.filter_eq_nil_iff.2, List.nil_append]
        intro j hj
        obtain ⟨hj1, hj2⟩ := mem_nums.1 hj
        simp only [pT, decide_eq_true_eq] at hj2
        rw [h2 j hj1.2 hj2]; decide
      have hearly : ∀ j, j < i → 3 ≤ kd ks j → up listed j = true := fun j hj hk => by
        rcases H.tail i o ho hk3 j (by omega) with h | h | h
        · omega
        · omega
        · exact hup j h
      rw [hhead (fun j => !up listed j) (by rw [show up listed i = listed.getD i false from rfl, hu]; rfl) (fun j hj hk => by rw [hearly j hj hk]; rfl), List.filterMap_cons, ho] at hT
      dsimp only at hT
      have hS : ∀ j ∈ (nums ks pF 0 ops.size).filter (fun j => !up listed j), ∀ d, o.dst = some d → dstOf ops j ≠ some d := fun j hj d hd e => by
        obtain ⟨h1, _⟩ := List.mem_filter.1 hj
        have h2 := (mem_nums.1 h1).2
        simp only [pF, beq_iff_eq] at h2
        exact H.apart i j d (fun e' => by subst e'; omega) (hdst.trans hd) e
      have hal : Alike ops o (stL ops V ((nums ks pF 0 ops.size).filter fun j => !up listed j) cur) cur := fun t ht => by
        refine stL_miss V _ _ fun j hj e => ?_
        obtain ⟨_, h1⟩ := List.mem_filter.1 hj
        rw [hup j (H.looks1 ho (.inr hk3) ht e).1] at h1
        cases h1
      have next : ∀ (g : List Deferred) (v : Value) (w' : World), wpList P ops (Exit.then (fun a w => Q .normal a w) (fun _ _ _ => False)) (((nums ks pT (i + 1) ops.size).filter fun j => !up listed j).filterMap fun i => ops[i]?)
          (stL ops V ((nums ks pF 0 ops.size).filter fun j => !up listed j) (({ cur with defers := g } : Act).put o.dst v)) w' → Go.wpAny P .any ops Q f (listed.setIfInBounds i true) (({ cur with defers := g } : Act).put o.dst v) w' := fun g v w' h => by
        refine ih _ _ w' hs' hU' hc' hz' (fun t ht => ?_) (by rw [put_size]; exact hsz) ?_
        · rw [put_miss _ _ (fun e => ht i hk3 (hdst.trans e))]
          show cur.tmps.getD t undef = _
          rw [hcur t ht]
          refine stL_agree H.apart fun j hj => ⟨?_, fun _ => rfl⟩
          rw [List.mem_filter, List.mem_filter, up_set (by omega), if_neg (fun e => by subst e; exact ht j hk3 hj)]
        · have e1 : ((nums ks pT 0 ops.size).filter fun j => !up (listed.setIfInBounds i true) j) = (nums ks pT (i + 1) ops.size).filter fun j => !up listed j := by
            rw [nums_split (Nat.zero_le i) hlt (by simp [pT]; omega), List.filter_append, List.filter_cons, if_neg (by rw [up_set (by omega), if_pos rfl]; decide), List.filter_eq_nil_iff.2, List.nil_append]
            · exact List.filter_congr fun j hj => by
                have := (mem_nums.1 hj).1
                rw [up_set (by omega), if_neg (by omega)]
            · intro j hj
              obtain ⟨hj1, hj2⟩ := mem_nums.1 hj
              simp only [pT, decide_eq_true_eq] at hj2
              rw [up_set (by omega), if_neg (by omega), hearly j hj1.2 hj2]; decide
          have e2 : ((nums ks pF 0 ops.size).filter fun j => !up (listed.setIfInBounds i true) j) = (nums ks pF 0 ops.size).filter fun j => !up listed j := List.filter_congr fun j hj => by
            have := (mem_nums.1 hj).2
            simp only [pF, beq_iff_eq] at this
            rw [up_set (by omega), if_neg (fun e => by subst e; omega)]
          rw [e1, e2]; exact h
      simp only [wpList] at hT
      rw [wanted_alike hal (by rw [stL_size])] at hT
      by_cases hw : Region.wanted o (yielded ops cur.tmps) = true
      · rw [if_pos hw] at hT ⊢
        rcases hT with hT | ⟨_, _, _, hf⟩
        · exact .inl (wp_shift (exec_alike (H.sel i o · · ho) hal) hS next hT)
        · exact hf.elim
      · rw [if_neg hw] at hT ⊢
        rw [stL_put V _ _ hS] at hT
        exact next cur.defers undef w hT
theorem Sch.phase1 (H : Sch ops ks anc) (hGd : ∀ (i : Nat) (o : Oper), ops[i]? = some o → kd ks i = 2 → o.guard = none) {Vq : Nat → Value} {w0 : World} {Ds : Nat → List Nat} {Rs : Nat → Rel}
    (hC : ∀ i w w', C w → Kept (fun b => b ∉ Ds i) w w' → C w') (hR : ∀ i j v w w', i ≠ j → Rs i v w → Kept (fun b => b ∉ Ds j) w w' → Rs i v w') (hDs : ∀ i j b, i ≠ j → b ∈ Ds i → b ∉ Ds j)
    (hG : ∀ (i : Nat) (o : Oper), ops[i]? = some o → kd ks i < 2 → Owe P ops C (kd ks i) o (Vq i) (stL ops Vq (nums ks pQ 0 i) a0))
    (hL : ∀ V : Nat → Value, (∀ (i : Nat) (o : Oper), ops[i]? = some o → kd ks i = 2 → ∀ w', C w' → Kept (fun b => b ∈ Ds i) w0 w' → (∀ j, j < i → kd ks j = 2 → anc i j → Rs j (V j) w') → sumAt P (Ds i) o (stL ops V (nums ks pL 0 i) (stL ops Vq (nums ks pQ 0 ops.size) a0)) (Rs i) w') ∧
      ∀ w', C w' → (∀ i, i < ops.size → kd ks i = 2 → Rs i (V i) w') → wpList P ops (Exit.then (fun a w => Q .normal a w) (fun _ _ _ => False)) ((nums ks pT 0 ops.size).filterMap fun i => ops[i]?) (stL ops V (nums ks pL 0 ops.size) (stL ops Vq (nums ks pQ 0 ops.size) a0)) w') :
    ∀ (f : Nat) (listed : Array Bool) (V : Nat → Value) (w : World), listed.size = ops.size → Upw ops listed → cnt ops.size listed = f → (∀ i, kd ks i < 2 → V i = Vq i) → (∀ i, 3 ≤ kd ks i → up listed i = false) → C w → (∀ i, up listed i = false → Kept (fun b => b ∈ Ds i) w0 w) →
      (∀ i, i < ops.size → kd ks i = 2 → up listed i = true → Rs i (V i) w) → Go.wpAny P .any ops Q f listed (stL ops V ((nonT ks ops.size).filter (up listed)) a0) w := by
  intro f
  induction f with
  | zero =>
    intro listed V w hs hU hc hV hT hw hpre hRs
    refine H.phase2 (V := V) (a0 := a0) (fun i o ho hk => ?_) 0 listed _ w hs hU hc (fun i hi _ => cnt_zero hc hi) (fun t _ => rfl) (stL_size _ _ _) ?_
    · have := hG i o ho (by omega)
      rw [show stL ops V (nums ks pQ 0 i) a0 = stL ops Vq (nums ks pQ 0 i) a0 from stL_same H.apart fun j => ⟨Iff.rfl, fun h => hV j (by have := (mem_nums.1 h).2; simpa [pQ] using this)⟩, hV i (by omega)]
      unfold Owe at this
      rwa [if_neg (by omega)] at this
    · exact finish listed V w hs hV hT hw hRs (fun i hi _ => cnt_zero hc hi)
  | succ f ih =>
    intro listed V w hs hU hc hV hT hw hpre hRs
    by_cases hall : ∀ i, i < ops.size → kd ks i = 0 ∨ kd ks i = 2 → up listed i = true
    · refine H.phase2 (V := V) (a0 := a0) (fun i o ho hk => ?_) (f + 1) listed _ w hs hU hc hall (fun t _ => rfl) (stL_size _ _ _) ?_
      · have := hG i o ho (by omega)
        rw [show stL ops V (nums ks pQ 0 i) a0 = stL ops Vq (nums ks pQ 0 i) a0 from stL_same H.apart fun j => ⟨Iff.rfl, fun h => hV j (by have := (mem_nums.1 h).2; simpa [pQ] using this)⟩, hV i (by omega)]
        unfold Owe at this
        rwa [if_neg (by omega)] at this
      · exact finish listed V w hs hV hT hw hRs hall
    · refine ⟨fun hr => absurd hr (H.ready_ne hs (by omega)), fun i hi => ?_⟩
      obtain ⟨hu, o, ho, he⟩ := mem_ready.1 hi
      have hlt := (Array.getElem?_eq_some_iff.1 ho).1
      rw [getD_any (by omega)] at hu
      have hdst : dstOf ops i = o.dst := by unfold dstOf; rw [ho]; rfl
      have hup : ∀ j, anc i j → up listed j = true := fun j => H.anc_up hU i o j ho he
      have hk3 : kd ks i < 3 := by
        rcases Nat.lt_or_ge (kd ks i) 3 with h | h
        · exact h
        · exfalso
          apply hall
          intro j hj hk
          rcases H.tail i o ho h j hj with h1 | h1 | h1
          · omega
          · omega
          · exact hup j h1
      have hU' := hU.set (by omega) ho he
      have hs' : (listed.setIfInBounds i true).size = ops.size := by simp [hs]
      have hc' : cnt ops.size (listed.setIfInBounds i true) = f := by have := cnt_set hs hlt hu; omega
      have hT' : ∀ j, 3 ≤ kd ks j → up (listed.setIfInBounds i true) j = false := fun j hj => by
        rw [up_set (by omega), if_neg (fun e => by subst e; omega)]; exact hT j hj
      have hst : ∀ (V' : Nat → Value) (v : Value), (∀ j, j ≠ i → V' j = V j) → V' i = v → (stL ops V ((nonT ks ops.size).filter (up listed)) a0).put o.dst v = stL ops V' ((nonT ks ops.size).filter (up (listed.setIfInBounds i true))) a0 := fun V' v h1 h2 => by
        have e : (stL ops V ((nonT ks ops.size).filter (up listed)) a0).put o.dst v = stL ops V' ((nonT ks ops.size).filter (up listed) ++ [i]) a0 := by
          rw [stL_app, stL_cons, hdst, h2, show stL ops V' ((nonT ks ops.size).filter (up listed)) a0 = stL ops V ((nonT ks ops.size).filter (up listed)) a0 from stL_same H.apart fun j => ⟨Iff.rfl, fun h => h1 j (fun e => by subst e; exact absurd ((List.mem_filter.1 h).2.symm.trans hu) (by decide))⟩]
          rfl
        rw [e]
        refine stL_same H.apart fun j => ⟨?_, fun _ => rfl⟩
        rw [List.mem_append, List.mem_filter, List.mem_filter, List.mem_singleton, up_set (by omega), mem_nonT]
        constructor
        · rintro (⟨h3, h4⟩ | rfl)
          · exact ⟨h3, by split <;> first | rfl | exact h4⟩
          · exact ⟨⟨hlt, hk3⟩, by rw [if_pos rfl]⟩
        · rintro ⟨h3, h4⟩
          by_cases hji : j = i
          · exact .inr hji
          · rw [if_neg hji] at h4; exact .inl ⟨h3, h4⟩
      have hlooks : ∀ t ∈ o.looksAt ops, ∀ j, dstOf ops j = some t → (up listed j = true ∧ j < i ∧ (kd ks j < 2 ∨ (kd ks i = 2 ∧ kd ks j = 2))) ∨ 3 ≤ kd ks j := fun t ht j hj => by
        rcases H.looks i o ho t ht j hj with ⟨h1, h2⟩ | h1
        · exact .inl ⟨hup j h1, (H.lower i j h1).1, by omega⟩
        · exact .inr h1.2.2
      have hpre' : ∀ w', (∀ j, j ≠ i → Kept (fun b => b ∈ Ds j) w w') → ∀ j, up (listed.setIfInBounds i true) j = false → Kept (fun b => b ∈ Ds j) w0 w' := fun w' h j hj => by
        have hji : j ≠ i := fun e => by subst e; rw [up_set (by omega), if_pos rfl] at hj; cases hj
        rw [up_set (by omega), if_neg hji] at hj
        exact (hpre j hj).trans (h j hji)
      unfold wpOp
      rw [ho]
      dsimp only
      by_cases hk : kd ks i < 2
      · have hal : Alike ops o (stL ops Vq (nums ks pQ 0 i) a0) (stL ops V ((nonT ks ops.size).filter (up listed)) a0) := fun t ht => by
          refine stL_agree H.apart fun j hj => ?_
          rcases hlooks t ht j hj with ⟨h1, h2, h3⟩ | h3
          · exact ⟨⟨fun _ => List.mem_filter.2 ⟨mem_nonT.2 ⟨by omega, by omega⟩, h1⟩, fun _ => mem_nums.2 ⟨⟨Nat.zero_le _, h2⟩, by simp [pQ]; omega⟩⟩, fun _ => (hV j (by omega)).symm⟩
          · exact ⟨⟨fun h => (by have := (mem_nums.1 h).2; simp [pQ] at this; omega), fun h => (by have := (mem_nonT.1 (List.mem_filter.1 h).1).2; omega)⟩, fun h => (by have := (mem_nums.1 h).2; simp [pQ] at this; omega)⟩
        have hy0 := hG i o ho hk
        have hy : Gives P ops C o (V i) (stL ops V ((nonT ks ops.size).filter (up listed)) a0) := by
          rw [hV i hk]
          unfold Owe at hy0
          by_cases hz : kd ks i = 0
          · rw [if_pos hz] at hy0
            exact Gives.alike (H.sel i o · · ho) hal (by rw [stL_size, stL_size]) hy0
          · rw [if_neg hz] at hy0
            exact Gives.alike (H.sel i o · · ho) hal (by rw [stL_size, stL_size]) hy0.gives
        rcases hy with ⟨hwn, hv⟩ | ⟨hwn, hv⟩
        · rw [if_pos hwn]
          refine .inl (wp_of_relAt (hv w hw) fun w' hb => ?_)
          have hbk : ∀ K : Nat → Prop, Kept K w w' := fun K => Kept.of_below hb
          rw [hst V (V i) (fun _ _ => rfl) rfl]
          exact ih _ V w' hs' hU' hc' hV hT' (hC 0 _ _ hw (hbk _)) (hpre' w' fun j hj => hbk _) fun j hj h1 h2 => hR j (j + 1) _ _ _ (by omega) (hRs j hj h1 (by rw [up_set (by omega), if_neg (fun e => by subst e; omega)] at h2; exact h2)) (hbk _)
        · rw [if_neg (by rw [hwn]; decide), ← hv, hst V (V i) (fun _ _ => rfl) rfl]
          exact ih _ V w hs' hU' hc' hV hT' hw (hpre' w fun j hj => Kept.refl _ _) fun j hj h1 h2 => hRs j hj h1 (by rw [up_set (by omega), if_neg (fun e => by subst e; omega)] at h2; exact h2)
      · have hk2 : kd ks i = 2 := by omega
        have hal : Alike ops o (stL ops V (nums ks pL 0 i) (stL ops Vq (nums ks pQ 0 ops.size) a0)) (stL ops V ((nonT ks ops.size).filter (up listed)) a0) := fun t ht => by
          rw [show stL ops Vq (nums ks pQ 0 ops.size) a0 = stL ops V (nums ks pQ 0 ops.size) a0 from stL_same H.apart fun j => ⟨Iff.rfl, fun h => (hV j (by have := (mem_nums.1 h).2; simpa [pQ] using this)).symm⟩, ← stL_app]
          refine stL_agree H.apart fun j hj => ⟨?_, fun _ => rfl⟩
          rcases hlooks t ht j hj with ⟨h1, h2, h3⟩ | h3
          · refine ⟨fun _ => List.mem_filter.2 ⟨mem_nonT.2 ⟨by omega, by omega⟩, h1⟩, fun _ => ?_⟩
            rcases h3 with h3 | ⟨-, h3⟩
            · exact List.mem_append_left _ (mem_nums.2 ⟨⟨Nat.zero_le _, by omega⟩, by simp [pQ]; omega⟩)
            · exact List.mem_append_right _ (mem_nums.2 ⟨⟨Nat.zero_le _, h2⟩, by simp [pL, h3]⟩)
          · refine ⟨fun h => ?_, fun h => (by have := (mem_nonT.1 (List.mem_filter.1 h).1).2; omega)⟩
            rcases List.mem_append.1 h with h | h
            · have := (mem_nums.1 h).2; simp [pQ] at this; omega
            · have := (mem_nums.1 h).2; simp [pL] at this; omega
        have hy := sumAt.alike (H.sel i o · · ho) hal ((hL V).1 i o ho hk2 w hw (hpre i hu) fun j hj1 hj2 hj3 => hRs j (by omega) hj2 (hup j hj3))
        rw [if_pos (by simp [Region.wanted, hGd i o ho hk2])]
        refine .inl (wp_of_sumAt hy fun v w' hb hv => ?_)
        rw [hst (fun j => if j = i then v else V j) v (fun j hj => by rw [if_neg hj]) (by rw [if_pos rfl])]
        refine ih _ _ w' hs' hU' hc' (fun j hj => by rw [if_neg (fun e => by subst e; omega)]; exact hV j hj) hT' (hC i _ _ hw hb) (hpre' w' fun j hj => hb.mono fun b hb' => hDs j i b hj hb') fun j hj h1 h2 => ?_
        by_cases hji : j = i
        · subst hji; rw [if_pos rfl]; exact hv
        · rw [if_neg hji]; rw [up_set (by omega), if_neg hji] at h2; exact hR j i _ _ _ hji (hRs j hj h1 h2) hb
where
  finish (listed : Array Bool) (V : Nat → Value) (w : World) (hs : listed.size = ops.size) (hV : ∀ i, kd ks i < 2 → V i = Vq i) (hT : ∀ i, 3 ≤ kd ks i → up listed i = false) (hw : C w) (hRs : ∀ i, i < ops.size → kd ks i = 2 → up listed i = true → Rs i (V i) w)
      (hall : ∀ i, i < ops.size → kd ks i = 0 ∨ kd ks i = 2 → up listed i = true) : wpList P ops (Exit.then (fun a w => Q .normal a w) (fun _ _ _ => False)) (((nums ks pT 0 ops.size).filter fun i => !up listed i).filterMap fun i => ops[i]?)
        (stL ops V ((nums ks pF 0 ops.size).filter fun i => !up listed i) (stL ops V ((nonT ks ops.size).filter (up listed)) a0)) w := by
    have h := (hL V).2 w hw fun i hi hk => hRs i hi hk (hall i hi (.inr hk))
    rw [show stL ops Vq (nums ks pQ 0 ops.size) a0 = stL ops V (nums ks pQ 0 ops.size) a0 from stL_same H.apart fun j => ⟨Iff.rfl, fun h => (hV j (by have := (mem_nums.1 h).2; simpa [pQ] using this)).symm⟩, ← stL_app] at h
    rw [← stL_app, List.filter_eq_self.2 (fun i hi => by
      have := (mem_nums.1 hi).2
      rw [hT i (by simpa [pT] using this)]; rfl)]
    rw [show stL ops V ((nonT ks ops.size).filter (up listed) ++ (nums ks pF 0 ops.size).filter fun i => !up listed i) a0 = stL ops V (nums ks pQ 0 ops.size ++ nums ks pL 0 ops.size) a0 from stL_same H.apart fun j => ⟨?_, fun _ => rfl⟩]
    · exact h
    · rw [List.mem_append, List.mem_filter, List.mem_filter, mem_nonT, mem_nums]
      simp only [pF, beq_iff_eq, Bool.not_eq_true']
      constructor
      · rintro (h1 | h1)
        · exact h1.1
        · exact ⟨h1.1.1.2, by omega⟩
      · intro h1
        cases hu : up listed j with
        | true => exact .inl ⟨h1, rfl⟩
        | false =>
          refine .inr ⟨⟨⟨Nat.zero_le _, h1.1⟩, ?_⟩, rfl⟩
          have h2 : ¬ (kd ks j = 0 ∨ kd ks j = 2) := fun h => by rw [hall j h1.1 h] at hu; cases hu
          omega
def spoil (w : World) (D : List Nat) (f : Nat → Obj) : World := D.foldl (fun w b => w.putObj b (f b)) w
theorem spoil_nil (w : World) (f : Nat → Obj) : spoil w [] f = w := rfl
structure Messed where
  d : Nat
  os : Array Obj
  f : Nat → Obj
instance : Inhabited Messed := ⟨⟨0, #[], fun _ => default⟩⟩
abbrev Msd (w : World) (D : List Nat) : World → Prop := fun w' => ∃ p : Messed, w' = Go.Sort.grow (redrawn (spoil w D p.f) p.d) p.os
theorem putObj_same (w : World) (b : Nat) (o : Obj) : (w.putObj b o).os = w.os ∧ (w.putObj b o).tape = w.tape ∧ (w.putObj b o).output = w.output ∧ (w.putObj b o).heap.size = w.heap.size := ⟨rfl, rfl, rfl, by simp [World.putObj]⟩
theorem spoil_same (D : List Nat) (f : Nat → Obj) : ∀ w : World, (spoil w D f).os = w.os ∧ (spoil w D f).tape = w.tape ∧ (spoil w D f).output = w.output ∧ (spoil w D f).heap.size = w.heap.size := by
  induction D with
  | nil => intro w; exact ⟨rfl, rfl, rfl, rfl⟩
  | cons b D ih =>
    intro w
    obtain ⟨h1, h2, h3, h4⟩ := ih (w.putObj b (f b))
    obtain ⟨g1, g2, g3, g4⟩ := putObj_same w b (f b)
    exact ⟨h1.trans g1, h2.trans g2, h3.trans g3, h4.trans g4⟩
theorem spoil_miss {D : List Nat} {f : Nat → Obj} {k : Nat} : ∀ w : World, k ∉ D → (spoil w D f).heap[k]? = w.heap[k]? := by
  induction D with
  | nil => intro w _; rfl
  | cons b D ih =>
    intro w h
    have h1 := ih (w.putObj b (f b)) (fun e => h (List.mem_cons_of_mem _ e))
    exact h1.trans (World.putObj_heap_other (fun e => h (by rw [e]; simp)))
theorem spoil_hit {D : List Nat} {f : Nat → Obj} {k : Nat} : ∀ w : World, k ∈ D → k < w.heap.size → (spoil w D f).heap[k]? = some (f k) := by
  induction D with
  | nil => intro w h; cases h
  | cons b D ih =>
    intro w h hk
    by_cases hD : k ∈ D
    · exact ih (w.putObj b (f b)) hD (by rw [(putObj_same w b (f b)).2.2.2]; exact hk)
    · obtain rfl : k = b := by
        rcases List.mem_cons.1 h with e | e
        · exact e
        · exact absurd e hD
      exact (spoil_miss (w.putObj k (f k)) hD).trans (World.putObj_heap_same hk)
theorem msd_kept {w w' : World} {D : List Nat} (h : Msd w D w') : Kept (fun b => b ∉ D) w w' := by
  obtain ⟨p, rfl⟩ := h
  obtain ⟨h1, h2, h3, h4⟩ := spoil_same D p.f w
  have hb := below_regrown (spoil w D p.f) p.d p.os
  exact ⟨hb.os.trans h1, hb.tape.trans h2, hb.output.trans h3, by rw [← h4]; exact hb.size, fun b hlt hK => (hb.block b (by rw [h4]; exact hlt)).trans (spoil_miss w hK)⟩
theorem msd_of {w w' : World} {D : List Nat} (h : Kept (fun b => b ∉ D) w w') : Msd w D w' := by
  have hb : Below (spoil w D fun b => w'.heap.getD b default).heap.size (spoil w D fun b => w'.heap.getD b default) w' := by
    obtain ⟨h1, h2, h3, h4⟩ := spoil_same D (fun b => w'.heap.getD b default) w
    refine ⟨h.os.trans h1.symm, h.tape.trans h2.symm, h.output.trans h3.symm, by rw [h4]; exact h.size, fun k hk => ?_⟩
    rw [h4] at hk
    by_cases hD : k ∈ D
    · rw [spoil_hit w hD hk]
      have := Nat.lt_of_lt_of_le hk h.size
      simp [this]
    · rw [spoil_miss w hD]; exact h.block k hk hD
  obtain ⟨p, hp⟩ := regrown_of_below hb
  exact ⟨⟨p.d, p.os, fun b => w'.heap.getD b default⟩, hp⟩
theorem Kept.none {w w' : World} (h : Kept (fun b => b ∉ ([] : List Nat)) w w') : Below w.heap.size w w' := h.below (Nat.le_refl _) fun _ _ => by simp
theorem Blk.sp {w : World} {g : Nat} {t : TypeId} {cs : Array Value} {D : List Nat} (h : Blk w g t cs) (hg : g ∉ D) (f : Nat → Obj) (d : Nat) (os : Array Obj) : Blk (Go.Sort.grow (redrawn (spoil w D f) d) os) g t cs :=
  (msd_kept (D := D) ⟨⟨d, os, f⟩, rfl⟩).blk hg h
theorem wpLs_nilB {w0 : World} {Ds : Nat → List Nat} {Rs : Nat → Rel} {an : Nat → Nat → Bool} {T : Act → World → Prop} {i : Nat} {a : Act} {Φ : World → Prop} {Ψ : (Nat → Prop) → World → Prop} (h : ∀ w', Below w0.heap.size w0 w' → Φ w' → T a w') : wpLs P (Msd w0 []) w0 Ds Rs an T [] [] i a Φ Ψ := by
  unfold wpLs; exact fun w' hw => h w' (msd_kept hw).none
theorem wpLs_nilD {w0 : World} {D : List Nat} {Ds : Nat → List Nat} {Rs : Nat → Rel} {an : Nat → Nat → Bool} {T : Act → World → Prop} {i : Nat} {a : Act} {Φ : World → Prop} {Ψ : (Nat → Prop) → World → Prop} (h : ∀ w', Kept (fun b => b ∉ D) w0 w' → Φ w' → T a w') : wpLs P (Msd w0 D) w0 Ds Rs an T [] [] i a Φ Ψ := by
  unfold wpLs; exact fun w' hw => h w' (msd_kept hw)
theorem wpLs_one {w0 : World} {Ds : Nat → List Nat} {Rs : Nat → Rel} {an : Nat → Nat → Bool} {T : Act → World → Prop} {i : Nat} {a : Act} {Φ : World → Prop} {Ψ : (Nat → Prop) → World → Prop} {o : Oper} {l : List Oper} (h1 : ∀ w', C w' → Kept (fun b => b ∈ Ds i) w0 w' → sumAt P (Ds i) o a (Rs i) w') (h2 : ∀ v, wpLs P C w0 Ds Rs an T ks l (i + 1) (a.put o.dst v) (fun w => Φ w ∧ Rs i v w) (fun S w => Ψ S w ∧ (S i → Rs i v w))) :
    wpLs P C w0 Ds Rs an T (2 :: ks) (o :: l) i a Φ Ψ := by unfold wpLs; exact ⟨fun w' h h' _ => h1 w' h h', h2⟩
theorem wpLs_oneF {w0 : World} {Ds : Nat → List Nat} {Rs : Nat → Rel} {an : Nat → Nat → Bool} {T : Act → World → Prop} {i : Nat} {a : Act} {Φ : World → Prop} {Ψ : (Nat → Prop) → World → Prop} {o : Oper} {l : List Oper} (h1 : ∀ w', C w' → Kept (fun b => b ∈ Ds i) w0 w' → Ψ (fun j => an i j = true) w' → sumAt P (Ds i) o a (Rs i) w') (h2 : ∀ v, wpLs P C w0 Ds Rs an T ks l (i + 1) (a.put o.dst v) (fun w => Φ w ∧ Rs i v w) (fun S w => Ψ S w ∧ (S i → Rs i v w))) :
    wpLs P C w0 Ds Rs an T (2 :: ks) (o :: l) i a Φ Ψ := by unfold wpLs; exact ⟨h1, h2⟩
def notTwo : Nat → Prop
  | 2 => False
  | _ => True
theorem wpLs_skip {w0 : World} {Ds : Nat → List Nat} {Rs : Nat → Rel} {an : Nat → Nat → Bool} {T : Act → World → Prop} {i : Nat} {a : Act} {Φ : World → Prop} {Ψ : (Nat → Prop) → World → Prop} {o : Oper} {l : List Oper} {k : Nat} (h : wpLs P C w0 Ds Rs an T ks l (i + 1) a Φ Ψ) (hk : notTwo k := by exact trivial) : wpLs P C w0 Ds Rs an T (k :: ks) (o :: l) i a Φ Ψ := by
  match k, hk with
  | 0, _ => unfold wpLs; exact h
  | 1, _ => unfold wpLs; exact h
  | k + 3, _ => unfold wpLs; exact h
theorem any_sched {Q : Exit → Act → World → Prop} {a : Act} {w : World} {l : List Oper} (ks : List Nat) (D : List Nat) (Ds : Nat → List Nat) (Rs : Nat → Rel) (hD : ∀ i b, b ∈ Ds i → b ∈ D) (hDs : ∀ i j b, i ≠ j → b ∈ Ds i → b ∉ Ds j)
    (hR : ∀ i j v w w', i ≠ j → Rs i v w → Kept (fun b => b ∉ Ds j) w w' → Rs i v w') (hB : schedB l.toArray ks = true)
    (h : wpQs P l.toArray (Msd w D) (fun a' => wpLs P (Msd w D) w Ds Rs (ancB (Region.before l.toArray)) (fun a'' w'' => wpList P l.toArray (Exit.then (fun a w => Q .normal a w) (fun _ _ _ => False)) (tails ks l) a'' w'') ks l 0 a' (fun _ => True) (fun _ _ => True)) ks l a) :
    Go.wpAny P .any l.toArray Q l.toArray.size (Array.replicate l.toArray.size false) a { w with drawn := w.drawn + 1 } := by
  have H := sch_of hB
  have hlen : ks.length = l.length := by simpa using H.len
  obtain ⟨Vq, h1, h2⟩ := qs_facts (l := l) (ks := ks) l ks 0 a rfl rfl h
  have e : l.length = l.toArray.size := by simp
  have h3 := fun V => ls_facts (l := l) (ks := ks) l ks 0 _ _ _ rfl rfl h2 V
  rw [tails_eq (l := l) (ks := ks) l ks 0 rfl rfl hlen, e] at h3
  have hd0 : ∀ K : Nat → Prop, Kept K w { w with drawn := w.drawn + 1 } := fun K => ⟨rfl, rfl, rfl, Nat.le_refl _, fun _ _ _ => rfl⟩
  have := H.phase1 (guard_of hB) (C := Msd w D) (Q := Q) (a0 := a) (w0 := w) (Ds := Ds) (Rs := Rs) (Vq := Vq) (fun i w1 w2 h4 h5 => msd_of ((msd_kept h4).trans (h5.mono fun b hb hi => hb (hD i b hi)))) hR hDs (fun i o ho hk => h1 i o (Nat.zero_le _) ho hk)
    (fun V => ⟨fun i o ho hk w' h6 h7 h8 => (h3 V).1 i o (Nat.zero_le _) ho hk w' h6 h7 trivial fun j _ h9 h10 h11 => h8 j h9 h10 ⟨(Array.getElem?_eq_some_iff.1 ho).1, by have := (Array.getElem?_eq_some_iff.1 ho).1; omega, h11⟩, fun w' hw' hr => (h3 V).2 w' hw' trivial fun i _ hi => hr i hi⟩)
    l.toArray.size (Array.replicate l.toArray.size false) Vq { w with drawn := w.drawn + 1 } (by simp) (fun j o hj => by simp [up, Array.getElem?_replicate] at hj; split at hj <;> cases hj)
    (by simp only [cnt]; rw [List.countP_eq_length.2 (fun i _ => by simp [up, Array.getElem?_replicate]; split <;> rfl)]; simp) (fun _ _ => rfl) (fun i _ => by simp [up, Array.getElem?_replicate]; split <;> rfl) (msd_of (hd0 _)) (fun _ _ => hd0 _)
    (fun i _ _ hu => by simp [up, Array.getElem?_replicate] at hu; split at hu <;> cases hu)
  have hf : (nonT ks l.toArray.size).filter (up (Array.replicate l.toArray.size false)) = [] := List.filter_eq_nil_iff.2 fun i _ => by simp [up, Array.getElem?_replicate]; split <;> simp
  rw [hf] at this
  exact this
theorem wp_sched {id : Nat} {Q : Exit → Act → World → Prop} {a : Act} {w : World} {l : List Oper} (ks : List Nat) (Rs : Nat → Rel) (hm : P.follows .mixedOrders = true) (hB : schedB l.toArray ks = true) (hR : ∀ i v w w', Rs i v w → Below w.heap.size w w' → Rs i v w')
    (h : wpQs P l.toArray (Msd w []) (fun a' => wpLs P (Msd w []) w (fun _ => []) Rs (ancB (Region.before l.toArray)) (fun a'' w'' => wpList P l.toArray (Exit.then (fun a w => Q .normal a w) (fun _ _ _ => False)) (tails ks l) a'' w'') ks l 0 a' (fun _ => True) (fun _ _ => True)) ks l a) : (Code.region id l.toArray true).wp P Q a w :=
  wp_region_any hm (any_sched ks [] (fun _ => []) Rs (fun _ _ h => h) (fun _ _ _ _ h => by cases h) (fun i _ v w w' _ h1 h2 => hR i v w w' h1 h2.none) hB h)
theorem in_sched {l' n id : Nat} {Q : Exit → Act → World → Prop} {a : Act} {w : World} {l : List Oper} (ks : List Nat) (Rs : Nat → Rel) (hm : P.follows .mixedOrders = true) (hB : schedB l.toArray ks = true) (hR : ∀ i v w w', Rs i v w → Below w.heap.size w w' → Rs i v w') (hd : noDefer l.toArray = true) (hQ : ¬ LetsOut Q)
    (h : wpQs P l.toArray (Msd w []) (fun a' => wpLs P (Msd w []) w (fun _ => []) Rs (ancB (Region.before l.toArray)) (fun a'' w'' => wpList P l.toArray (Exit.then (fun a w => Q .normal a w) (fun _ _ _ => False)) (tails ks l) a'' w'') ks l 0 a' (fun _ => True) (fun _ _ => True)) ks l a) : (Code.region id l.toArray true).wpIn (Fence.wide.inRound l') n P Q a w :=
  wpIn_region_any hm (any_in hd hQ _ _ _ _ (any_sched ks [] (fun _ => []) Rs (fun _ _ h => h) (fun _ _ _ _ h => by cases h) (fun i _ v w w' _ h1 h2 => hR i v w w' h1 h2.none) hB h))
theorem wp_schedD {id : Nat} {Q : Exit → Act → World → Prop} {a : Act} {w : World} {l : List Oper} (ks : List Nat) (D : List Nat) (Ds : Nat → List Nat) (Rs : Nat → Rel) (hm : P.follows .mixedOrders = true) (hB : schedB l.toArray ks = true) (hD : ∀ i b, b ∈ Ds i → b ∈ D) (hDs : ∀ i j b, i ≠ j → b ∈ Ds i → b ∉ Ds j)
    (hR : ∀ i j v w w', i ≠ j → Rs i v w → Kept (fun b => b ∉ Ds j) w w' → Rs i v w')
    (h : wpQs P l.toArray (Msd w D) (fun a' => wpLs P (Msd w D) w Ds Rs (ancB (Region.before l.toArray)) (fun a'' w'' => wpList P l.toArray (Exit.then (fun a w => Q .normal a w) (fun _ _ _ => False)) (tails ks l) a'' w'') ks l 0 a' (fun _ => True) (fun _ _ => True)) ks l a) : (Code.region id l.toArray true).wp P Q a w :=
  wp_region_any hm (any_sched ks D Ds Rs hD hDs hR hB h)
def Ds2 (i1 b1 i2 b2 i : Nat) : List Nat := if i = i1 then [b1] else if i = i2 then [b2] else []
def Rs2 (i1 b1 : Nat) (t1 : TypeId) (c1 : Array Value) (i2 b2 : Nat) (t2 : TypeId) (c2 : Array Value) (i : Nat) : Rel := fun _ w => (i = i1 → Blk w b1 t1 c1) ∧ (i = i2 → Blk w b2 t2 c2)
theorem wp_two {id : Nat} {Q : Exit → Act → World → Prop} {a : Act} {w : World} {l : List Oper} (ks : List Nat) (i1 b1 : Nat) (t1 : TypeId) (c1 : Array Value) (i2 b2 : Nat) (t2 : TypeId) (c2 : Array Value) (hb : b1 ≠ b2) (hm : P.follows .mixedOrders = true) (hB : schedB l.toArray ks = true)
    (h : wpQs P l.toArray (Msd w [b1, b2]) (fun a' => wpLs P (Msd w [b1, b2]) w (Ds2 i1 b1 i2 b2) (Rs2 i1 b1 t1 c1 i2 b2 t2 c2) (ancB (Region.before l.toArray)) (fun a'' w'' => wpList P l.toArray (Exit.then (fun a w => Q .normal a w) (fun _ _ _ => False)) (tails ks l) a'' w'') ks l 0 a' (fun _ => True) (fun _ _ => True)) ks l a) : (Code.region id l.toArray true).wp P Q a w := by
  refine wp_schedD ks [b1, b2] (Ds2 i1 b1 i2 b2) (Rs2 i1 b1 t1 c1 i2 b2 t2 c2) hm hB (fun i b hb' => ?_) (fun i j b hij h1 h2 => ?_) (fun i j v w w' hij hr hk => ?_) h
  · unfold Ds2 at hb'
    split at hb'
    · simp at hb'; simp [hb']
    · split at hb'
      · simp at hb'; simp [hb']
      · cases hb'
  · unfold Ds2 at h1 h2
    split at h1
    · rename_i e1
      simp at h1
      subst h1
      split at h2
      · rename_i e2; exact hij (e1.trans e2.symm)
      · split at h2
        · simp at h2; exact hb h2
        · cases h2
    · split at h1
      · rename_i e1
        simp at h1
        subst h1
        split at h2
        · simp at h2; exact hb h2.symm
        · split at h2
          · rename_i e2; exact hij (e1.trans e2.symm)
          · cases h2
      · cases h1
  · refine ⟨fun e => hk.blk ?_ (hr.1 e), fun e => hk.blk ?_ (hr.2 e)⟩
    · unfold Ds2; intro hm'
      split at hm'
      · rename_i e2; exact hij (e.trans e2.symm)
      · split at hm'
        · simp at hm'; exact hb hm'
        · cases hm'
    · unfold Ds2; intro hm'
      split at hm'
      · simp at hm'; exact hb hm'.symm
      · split at hm'
        · rename_i e2; exact hij (e.trans e2.symm)
        · cases hm'
theorem two_fst {i1 b1 i2 b2 : Nat} {t1 t2 : TypeId} {c1 c2 : Array Value} {w w' : World} {u : Value} (hi : i1 ≠ i2) (h1 : Kept (fun b => b ≠ b1) w w') (h2 : Blk w' b1 t1 c1) : Kept (fun b => ¬ b ∈ Ds2 i1 b1 i2 b2 i1) w w' ∧ Rs2 i1 b1 t1 c1 i2 b2 t2 c2 i1 u w' :=
  ⟨h1.mono fun b h e => h (by simp [Ds2, e]), fun _ => h2, fun e => absurd e hi⟩
theorem two_snd {i1 b1 i2 b2 : Nat} {t1 t2 : TypeId} {c1 c2 : Array Value} {w w' : World} {u : Value} (hi : i1 ≠ i2) (h1 : Kept (fun b => b ≠ b2) w w') (h2 : Blk w' b2 t2 c2) : Kept (fun b => ¬ b ∈ Ds2 i1 b1 i2 b2 i2) w w' ∧ Rs2 i1 b1 t1 c1 i2 b2 t2 c2 i2 u w' :=
  ⟨h1.mono fun b h e => h (by simp [Ds2, Ne.symm hi, e]), fun e => absurd e.symm hi, fun _ => h2⟩
theorem kept3 {w : World} {b : Nat} {x y z : Value} : Kept (fun c => c ≠ b) w (((w.setCell ⟨b, 0, none⟩ x).setCell ⟨b, 1, none⟩ y).setCell ⟨b, 2, none⟩ z) :=
  (((Kept.refl _ w).setCell (p := ⟨b, 0, none⟩) (fun h => h rfl) _).setCell (p := ⟨b, 1, none⟩) (fun h => h rfl) _).setCell (p := ⟨b, 2, none⟩) (fun h => h rfl) _
theorem kept6 {w : World} {b : Nat} {x y z p q r : Value} : Kept (fun c => c ≠ b) w ((((((w.setCell ⟨b, 0, none⟩ x).setCell ⟨b, 1, none⟩ y).setCell ⟨b, 2, none⟩ z).setCell ⟨b, 3, none⟩ p).setCell ⟨b, 4, none⟩ q).setCell ⟨b, 5, none⟩ r) :=
  ((kept3.setCell (p := ⟨b, 3, none⟩) (fun h => h rfl) _).setCell (p := ⟨b, 4, none⟩) (fun h => h rfl) _).setCell (p := ⟨b, 5, none⟩) (fun h => h rfl) _
end
attribute [go_sem] sumAt sumUpon spoil_nil
end Go.Proofs.YtmbccnioijokfaaGreatDoor

namespace Go.Proofs.YtmbccnioijokfaaGreatDoor
open Go.RowKit
section
variable {P : Program}
def DsR (i0 : Nat) (r : Option Nat) (i : Nat) : List Nat := if i = i0 then r.toList else []
theorem wp_schedR {id : Nat} {Q : Exit → Act → World → Prop} {a : Act} {w : World} {l : List Oper} (ks : List Nat) (i0 : Nat) (r : Option Nat) (Rs : Nat → Rel) (hm : P.follows .mixedOrders = true) (hB : schedB l.toArray ks = true)
    (hR : ∀ i v w w', Rs i v w → (if i = i0 then Below w.heap.size w w' else Kept (fun b => r ≠ some b) w w') → Rs i v w')
    (h : wpQs P l.toArray (Msd w r.toList) (fun a' => wpLs P (Msd w r.toList) w (DsR i0 r) Rs (ancB (Region.before l.toArray)) (fun a'' w'' => wpList P l.toArray (Exit.then (fun a w => Q .normal a w) (fun _ _ _ => False)) (tails ks l) a'' w'') ks l 0 a' (fun _ => True) (fun _ _ => True)) ks l a) : (Code.region id l.toArray true).wp P Q a w := by
  refine wp_schedD ks r.toList (DsR i0 r) Rs hm hB (fun i b hb => ?_) (fun i j b hij h1 h2 => ?_) (fun i j v w w' hij hr hk => hR i v w w' hr ?_) h
  · unfold DsR at hb
    split at hb
    · exact hb
    · cases hb
  · unfold DsR at h1 h2
    split at h1
    · rename_i e1
      split at h2
      · rename_i e2; exact hij (e1.trans e2.symm)
      · cases h2
    · cases h1
  · unfold DsR at hk
    by_cases hi : i = i0
    · rw [if_pos hi]
      rw [if_neg (fun e => hij (hi.trans e.symm))] at hk
      exact hk.none
    · rw [if_neg hi]
      by_cases hj : j = i0
      · rw [if_pos hj] at hk
        exact hk.mono fun b hb => by
          intro h
          rw [Option.mem_toList] at h
          exact hb h
      · rw [if_neg hj] at hk
        exact hk.mono fun b _ => by simp
theorem msd_row {w w' : World} {i0 : Nat} {r : Option Nat} (h : Msd w r.toList w') (hk : Kept (fun b => b ∈ DsR i0 r i0) w w') : Below w.heap.size w w' := by
  have h1 := msd_kept h
  refine ⟨h1.os, h1.tape, h1.output, h1.size, fun b hb => ?_⟩
  by_cases hr : b ∈ r.toList
  · exact hk.block b hb (by unfold DsR; rw [if_pos rfl]; exact hr)
  · exact h1.block b hb hr
end
end Go.Proofs.YtmbccnioijokfaaGreatDoor

namespace Go.Proofs.YtmbccnioijokfaaGreatDoor
open Go.RowKit
section
variable {P : Program} {ops : Array Oper} {C : World → Prop} {ks : List Nat}
def sumUponI (P : Program) (R : Rel) (w : World) : Result Next → Prop
  | .ok (.value u) w' => R u w'
  | .ok .skip w' => R undef w'
  | .ok (.enter f args) w' => w' = w ∧ Calls P f args w (fun e w'' => ∃ u, e = .returned u ∧ R u w'')
  | _ => False
def sumAtI (P : Program) (o : Oper) (a : Act) (R : Rel) (w : World) : Prop := sumUponI P R w ((execOp a.eval o).run P w)
theorem wp_of_sumAtI {o : Oper} {a : Act} {w : World} {R : Rel} {K : Act → World → Prop} {Q' : Exit → Act → World → Prop} (h : sumAtI P o a R w) (hk : ∀ v w', R v w' → K (a.put o.dst v) w') : o.wp P a w K Q' := by
  unfold sumAtI at h
  unfold Oper.wp
  generalize (execOp a.eval o).run P w = r at *
  cases r with
  | ok nx w' =>
    cases nx <;> simp only [sumUponI] at h <;> simp only [Oper.upon]
    case value u => exact hk _ _ h
    case skip => exact hk _ _ h
    case enter f args =>
      obtain ⟨e1, hc⟩ := h
      rw [e1]
      exact hc.mono fun e w'' ⟨u, he, hR⟩ => by subst he; exact hk _ _ hR
  | halt x w' => simp only [sumUponI] at h
theorem sumAtI.alike {o : Oper} {R : Rel} {w : World} {a b : Act} (hs : ∀ cs b, o.op ≠ .select cs b) (h : Alike ops o a b) (hy : sumAtI P o a R w) : sumAtI P o b R w := by
  unfold sumAtI at *
  rwa [← exec_alike hs h]
theorem sumAtI.mono {o : Oper} {a : Act} {R R' : Rel} {w : World} (hr : ∀ v w, R v w → R' v w) (h : sumAtI P o a R w) : sumAtI P o a R' w := by
  unfold sumAtI at *
  generalize (execOp a.eval o).run P w = r at *
  cases r with
  | ok nx w' =>
    cases nx <;> simp only [sumUponI] at h ⊢
    case value u => exact hr _ _ h
    case skip => exact hr _ _ h
    case enter f args => exact ⟨h.1, h.2.mono fun e w'' ⟨u, he, hR⟩ => ⟨u, he, hr _ _ hR⟩⟩
  | halt x w' => simp only [sumUponI] at h
def sumGI (P : Program) (ops : Array Oper) (o : Oper) (a : Act) (R : Rel) (w : World) : Prop :=
  (Region.wanted o (yielded ops a.tmps) = true ∧ sumAtI P o a R w) ∨ (Region.wanted o (yielded ops a.tmps) = false ∧ R undef w)
theorem sumGI.mono {o : Oper} {a : Act} {R R' : Rel} {w : World} (hr : ∀ v w, R v w → R' v w) (h : sumGI P ops o a R w) : sumGI P ops o a R' w :=
  h.imp (fun h => ⟨h.1, h.2.mono hr⟩) fun h => ⟨h.1, hr _ _ h.2⟩
theorem sumGI.alike {o : Oper} {R : Rel} {w : World} {a b : Act} (hs : ∀ cs b, o.op ≠ .select cs b) (h : Alike ops o a b) (hz : a.tmps.size = b.tmps.size) (hy : sumGI P ops o a R w) : sumGI P ops o b R w := by
  unfold sumGI at *
  rw [← wanted_alike h hz]
  exact hy.imp (fun h1 => ⟨h1.1, h1.2.alike hs h⟩) id
def upd (vs : Nat → Value) (i : Nat) (v : Value) : Nat → Value := fun j => if j = i then v else vs j
theorem upd_same (vs : Nat → Value) (i : Nat) (v : Value) : upd vs i v i = v := by unfold upd; rw [if_pos rfl]
theorem upd_ne {vs : Nat → Value} {i j : Nat} {v : Value} (h : j ≠ i) : upd vs i v j = vs j := by unfold upd; rw [if_neg h]
abbrev InvT := (Nat → Prop) → (Nat → Value) → World → Prop
def andOf (S : Nat → Prop) (i : Nat) : Nat → Prop := fun j => j = i ∨ S j
def wpLsI (P : Program) (ops : Array Oper) (C : World → Prop) (I : InvT) (an : Nat → Nat → Bool) (ks0 : List Nat) (T : Act → World → Prop) : List Nat → List Oper → Nat → Act → (Nat → Value) → Prop
  | _, [], n, a, vs => ∀ V w', C w' → (∀ j, j < n → kd ks0 j = 2 → V j = vs j) → I (fun j => j < n ∧ kd ks0 j = 2) V w' → T a w'
  | [], _ :: _, _, _, _ => False
  | 0 :: ks, _ :: l, i, a, vs => wpLsI P ops C I an ks0 T ks l (i + 1) a vs
  | 1 :: ks, _ :: l, i, a, vs => wpLsI P ops C I an ks0 T ks l (i + 1) a vs
  | 2 :: ks, o :: l, i, a, vs => (∀ S V w', C w' → (∀ j, j < i → kd ks0 j = 2 → V j = vs j) → (∀ j, j < i → kd ks0 j = 2 → an i j = true → S j) → ¬ S i → I S V w' → sumGI P ops o a (fun v w => C w ∧ I (andOf S i) (upd V i v) w) w') ∧ ∀ v, wpLsI P ops C I an ks0 T ks l (i + 1) (a.put o.dst v) (upd vs i v)
  | (_ + 3) :: ks, _ :: l, i, a, vs => wpLsI P ops C I an ks0 T ks l (i + 1) a vs
section
variable {l : List Oper}
theorem ls_factsI {I : InvT} {an : Nat → Nat → Bool} {T : Act → World → Prop} : ∀ (r : List Oper) (kr : List Nat) (k : Nat) (a : Act) (vs : Nat → Value), l.drop k = r → ks.drop k = kr → k ≤ l.length → wpLsI P l.toArray C I an ks T kr r k a vs →
    ∀ V : Nat → Value, (∀ j, j < k → kd ks j = 2 → V j = vs j) → (∀ i o, k ≤ i → l.toArray[i]? = some o → kd ks i = 2 → ∀ S w', C w' → (∀ j, j < i → kd ks j = 2 → an i j = true → S j) → ¬ S i → I S V w' → sumGI P l.toArray o (stL l.toArray V (nums ks pL k i) a) (fun v w => C w ∧ I (andOf S i) (upd V i v) w) w') ∧
      ∀ w', C w' → I (fun j => j < l.length ∧ kd ks j = 2) V w' → T (stL l.toArray V (nums ks pL k l.length) a) w' := by
  intro r
  induction r with
  | nil =>
    intro kr k a vs hr _ hkl h V hvs
    have hk : k = l.length := by have : l.length ≤ k := by simpa using hr
                                 omega
    refine ⟨fun i o hi ho => ?_, fun w' h1 h2 => ?_⟩
    · have := (Array.getElem?_eq_some_iff.1 ho).1; simp at this; omega
    · rw [nums_none (Nat.le_of_eq hk.symm)]; unfold wpLsI at h; subst hk; exact h V w' h1 hvs h2
  | cons o r ih =>
    intro kr k a vs hr hkr hkl h V hvs
    obtain ⟨ho, hr', hlt⟩ := op_at hr
    have hdst : dstOf l.toArray k = o.dst := by unfold dstOf; rw [ho]; rfl
    cases kr with
    | nil => exact h.elim
    | cons c kr =>
      obtain ⟨hc, hkr'⟩ := kd_at hkr
      have skip : c ≠ 2 → wpLsI P l.toArray C I an ks T kr r (k + 1) a vs → (∀ i o, k ≤ i → l.toArray[i]? = some o → kd ks i = 2 → ∀ S w', C w' → (∀ j, j < i → kd ks j = 2 → an i j = true → S j) → ¬ S i → I S V w' → sumGI P l.toArray o (stL l.toArray V (nums ks pL k i) a) (fun v w => C w ∧ I (andOf S i) (upd V i v) w) w') ∧
          ∀ w', C w' → I (fun j => j < l.length ∧ kd ks j = 2) V w' → T (stL l.toArray V (nums ks pL k l.length) a) w' := fun hc2 h => by
        obtain ⟨h3, h4⟩ := ih kr (k + 1) a vs hr' hkr' hlt h V (fun j hj hj2 => hvs j (by rcases Nat.lt_or_eq_of_le (Nat.le_of_lt_succ hj) with e | e; exact e; subst e; omega) hj2)
        have hst : ∀ n, k < n → nums ks pL k n = nums ks pL (k + 1) n := fun n hn => by rw [nums_step hn, hc, if_neg (by simpa using hc2)]
        refine ⟨fun i o' hi ho' hk2 => ?_, fun w' h1 h2 => by rw [hst _ hlt]; exact h4 w' h1 h2⟩
        rcases Nat.lt_or_eq_of_le hi with h5 | h5
        · rw [hst i h5]; exact h3 i o' (by omega) ho' hk2
        · subst h5; omega
      match c, h, hc, skip with
      | 0, h, hc, skip => unfold wpLsI at h; exact skip (by omega) h
      | 1, h, hc, skip => unfold wpLsI at h; exact skip (by omega) h
      | 2, h, hc, _ =>
        unfold wpLsI at h
        obtain ⟨h3, h4⟩ := ih kr (k + 1) _ _ hr' hkr' hlt (h.2 (V k)) V (fun j hj hj2 => by rcases Nat.lt_or_eq_of_le (Nat.le_of_lt_succ hj) with e | e; exact (hvs j e hj2).trans (upd_ne (by omega)).symm; subst e; exact (upd_same _ _ _).symm)
        have hst : ∀ n, k < n → stL l.toArray V (nums ks pL k n) a = stL l.toArray V (nums ks pL (k + 1) n) (a.put o.dst (V k)) := fun n hn => by
          rw [nums_step hn, hc, if_pos (by simp), stL_cons, hdst]
        refine ⟨fun i o' hi ho' hk2 => ?_, fun w' h1 h2 => by rw [hst _ hlt]; exact h4 w' h1 h2⟩
        rcases Nat.lt_or_eq_of_le hi with h5 | h5
        · rw [hst i h5]; exact h3 i o' (by omega) ho' hk2
        · subst h5
          rw [nums_none (Nat.le_refl _)]
          rw [ho] at ho'
          obtain rfl := Option.some.inj ho'
          exact fun S w' h6 h8 h9 h10 => h.1 S V w' h6 hvs h8 h9 h10
      | c + 3, h, hc, skip => unfold wpLsI at h; exact skip (by omega) h
end
variable {anc : Nat → Nat → Prop}
variable {Q : Exit → Act → World → Prop} {V : Nat → Value} {a0 : Act}
def lsUp (ks : List Nat) (n : Nat) (listed : Array Bool) : Nat → Prop := fun j => j < n ∧ kd ks j = 2 ∧ up listed j = true
theorem lsUp_skip {listed : Array Bool} {n i : Nat} (hi : i < listed.size) (hk : kd ks i ≠ 2) : lsUp ks n (listed.setIfInBounds i true) = lsUp ks n listed := by
  funext j
  unfold lsUp
  rw [up_set hi]
  by_cases h : j = i
  · subst h; simp [hk]
  · rw [if_neg h]
theorem lsUp_add {listed : Array Bool} {n i : Nat} (hi : i < listed.size) (hn : i < n) (hk : kd ks i = 2) : lsUp ks n (listed.setIfInBounds i true) = andOf (lsUp ks n listed) i := by
  funext j
  unfold lsUp andOf
  rw [up_set hi]
  by_cases h : j = i
  · subst h; simp [hk, hn]
  · rw [if_neg h]; simp [h]
theorem lsUp_all {listed : Array Bool} {n : Nat} (h : ∀ i, i < n → kd ks i = 2 → up listed i = true) : lsUp ks n listed = fun j => j < n ∧ kd ks j = 2 := by
  funext j
  unfold lsUp
  exact propext ⟨fun h => ⟨h.1, h.2.1⟩, fun h1 => ⟨h1.1, h1.2, h j h1.1 h1.2⟩⟩
theorem Sch.phase1I (H : Sch ops ks anc) {Vq : Nat → Value} {I : InvT} {an : Nat → Nat → Bool} (han : ∀ i j, an i j = true → i < ops.size → j < ops.size → anc i j)
    (hC : ∀ w w', C w → Below w.heap.size w w' → C w') (hR : ∀ S V w w', C w → I S V w → Below w.heap.size w w' → I S V w')
    (hG : ∀ (i : Nat) (o : Oper), ops[i]? = some o → kd ks i < 2 → Owe P ops C (kd ks i) o (Vq i) (stL ops Vq (nums ks pQ 0 i) a0))
    (hL : ∀ V : Nat → Value, (∀ (i : Nat) (o : Oper), ops[i]? = some o → kd ks i = 2 → ∀ S w', C w' → (∀ j, j < i → kd ks j = 2 → an i j = true → S j) → ¬ S i → I S V w' → sumGI P ops o (stL ops V (nums ks pL 0 i) (stL ops Vq (nums ks pQ 0 ops.size) a0)) (fun v w => C w ∧ I (andOf S i) (upd V i v) w) w') ∧
      ∀ w', C w' → I (fun j => j < ops.size ∧ kd ks j = 2) V w' → wpList P ops (Exit.then (fun a w => Q .normal a w) (fun _ _ _ => False)) ((nums ks pT 0 ops.size).filterMap fun i => ops[i]?) (stL ops V (nums ks pL 0 ops.size) (stL ops Vq (nums ks pQ 0 ops.size) a0)) w') :
    ∀ (f : Nat) (listed : Array Bool) (V : Nat → Value) (w : World), listed.size = ops.size → Upw ops listed → cnt ops.size listed = f → (∀ i, kd ks i < 2 → V i = Vq i) → (∀ i, 3 ≤ kd ks i → up listed i = false) → C w →
      I (lsUp ks ops.size listed) V w → Go.wpAny P .any ops Q f listed (stL ops V ((nonT ks ops.size).filter (up listed)) a0) w := by
  intro f
  induction f with
  | zero =>
    intro listed V w hs hU hc hV hT hw hRs
    refine H.phase2 (V := V) (a0 := a0) (fun i o ho hk => ?_) 0 listed _ w hs hU hc (fun i hi _ => cnt_zero hc hi) (fun t _ => rfl) (stL_size _ _ _) ?_
    · have := hG i o ho (by omega)
      rw [show stL ops V (nums ks pQ 0 i) a0 = stL ops Vq (nums ks pQ 0 i) a0 from stL_same H.apart fun j => ⟨Iff.rfl, fun h => hV j (by have := (mem_nums.1 h).2; simpa [pQ] using this)⟩, hV i (by omega)]
      unfold Owe at this
      rwa [if_neg (by omega)] at this
    · exact finish listed V w hs hV hT hw hRs (fun i hi _ => cnt_zero hc hi)
  | succ f ih =>
    intro listed V w hs hU hc hV hT hw hRs
    by_cases hall : ∀ i, i < ops.size → kd ks i = 0 ∨ kd ks i = 2 → up listed i = true
    · refine H.phase2 (V := V) (a0 := a0) (fun i o ho hk => ?_) (f + 1) listed _ w hs hU hc hall (fun t _ => rfl) (stL_size _ _ _) ?_
      · have := hG i o ho (by omega)
        rw [show stL ops V (nums ks pQ 0 i) a0 = stL ops Vq (nums ks pQ 0 i) a0 from stL_same H.apart fun j => ⟨Iff.rfl, fun h => hV j (by have := (mem_nums.1 h).2; simpa [pQ] using this)⟩, hV i (by omega)]
        unfold Owe at this
        rwa [if_neg (by omega)] at this
      · exact finish listed V w hs hV hT hw hRs hall
    · refine ⟨fun hr => absurd hr (H.ready_ne hs (by omega)), fun i hi => ?_⟩
      obtain ⟨hu, o, ho, he⟩ := mem_ready.1 hi
      have hlt := (Array.getElem?_eq_some_iff.1 ho).1
      rw [getD_any (by omega)] at hu
      have hdst : dstOf ops i = o.dst := by unfold dstOf; rw [ho]; rfl
      have hup : ∀ j, anc i j → up listed j = true := fun j => H.anc_up hU i o j ho he
      have hk3 : kd ks i < 3 := by
        rcases Nat.lt_or_ge (kd ks i) 3 with h | h
        · exact h
        · exfalso
          apply hall
          intro j hj hk
          rcases H.tail i o ho h j hj with h1 | h1 | h1
          · omega
          · omega
          · exact hup j h1
      have hU' := hU.set (by omega) ho he
      have hs' : (listed.setIfInBounds i true).size = ops.size := by simp [hs]
      have hc' : cnt ops.size (listed.setIfInBounds i true) = f := by have := cnt_set hs hlt hu; omega
      have hT' : ∀ j, 3 ≤ kd ks j → up (listed.setIfInBounds i true) j = false := fun j hj => by
        rw [up_set (by omega), if_neg (fun e => by subst e; omega)]; exact hT j hj
      have hst : ∀ (V' : Nat → Value) (v : Value), (∀ j, j ≠ i → V' j = V j) → V' i = v → (stL ops V ((nonT ks ops.size).filter (up listed)) a0).put o.dst v = stL ops V' ((nonT ks ops.size).filter (up (listed.setIfInBounds i true))) a0 := fun V' v h1 h2 => by
        have e : (stL ops V ((nonT ks ops.size).filter (up listed)) a0).put o.dst v = stL ops V' ((nonT ks ops.size).filter (up listed) ++ [i]) a0 := by
          rw [stL_app, stL_cons, hdst, h2, show stL ops V' ((nonT ks ops.size).filter (up listed)) a0 = stL ops V ((nonT ks ops.size).filter (up listed)) a0 from stL_same H.apart fun j => ⟨Iff.rfl, fun h => h1 j (fun e => by subst e; exact absurd ((List.mem_filter.1 h).2.symm.trans hu) (by decide))⟩]
          rfl
        rw [e]
        refine stL_same H.apart fun j => ⟨?_, fun _ => rfl⟩
        rw [List.mem_append, List.mem_filter, List.mem_filter, List.mem_singleton, up_set (by omega), mem_nonT]
        constructor
        · rintro (⟨h3, h4⟩ | rfl)
          · exact ⟨h3, by split <;> first | rfl | exact h4⟩
          · exact ⟨⟨hlt, hk3⟩, by rw [if_pos rfl]⟩
        · rintro ⟨h3, h4⟩
          by_cases hji : j = i
          · exact .inr hji
          · rw [if_neg hji] at h4; exact .inl ⟨h3, h4⟩
      have hlooks : ∀ t ∈ o.looksAt ops, ∀ j, dstOf ops j = some t → (up listed j = true ∧ j < i ∧ (kd ks j < 2 ∨ (kd ks i = 2 ∧ kd ks j = 2))) ∨ 3 ≤ kd ks j := fun t ht j hj => by
        rcases H.looks i o ho t ht j hj with ⟨h1, h2⟩ | h1
        · exact .inl ⟨hup j h1, (H.lower i j h1).1, by omega⟩
        · exact .inr h1.2.2
      unfold wpOp
      rw [ho]
      dsimp only
      by_cases hk : kd ks i < 2
      · have hal : Alike ops o (stL ops Vq (nums ks pQ 0 i) a0) (stL ops V ((nonT ks ops.size).filter (up listed)) a0) := fun t ht => by
          refine stL_agree H.apart fun j hj => ?_
          rcases hlooks t ht j hj with ⟨h1, h2, h3⟩ | h3
          · exact ⟨⟨fun _ => List.mem_filter.2 ⟨mem_nonT.2 ⟨by omega, by omega⟩, h1⟩, fun _ => mem_nums.2 ⟨⟨Nat.zero_le _, h2⟩, by simp [pQ]; omega⟩⟩, fun _ => (hV j (by omega)).symm⟩
          · exact ⟨⟨fun h => (by have := (mem_nums.1 h).2; simp [pQ] at this; omega), fun h => (by have := (mem_nonT.1 (List.mem_filter.1 h).1).2; omega)⟩, fun h => (by have := (mem_nums.1 h).2; simp [pQ] at this; omega)⟩
        have hy0 := hG i o ho hk
        have hy : Gives P ops C o (V i) (stL ops V ((nonT ks ops.size).filter (up listed)) a0) := by
          rw [hV i hk]
          unfold Owe at hy0
          by_cases hz : kd ks i = 0
          · rw [if_pos hz] at hy0
            exact Gives.alike (H.sel i o · · ho) hal (by rw [stL_size, stL_size]) hy0
          · rw [if_neg hz] at hy0
            exact Gives.alike (H.sel i o · · ho) hal (by rw [stL_size, stL_size]) hy0.gives
        have hls : lsUp ks ops.size (listed.setIfInBounds i true) = lsUp ks ops.size listed := lsUp_skip (by omega) (by omega)
        rcases hy with ⟨hwn, hv⟩ | ⟨hwn, hv⟩
        · rw [if_pos hwn]
          refine .inl (wp_of_relAt (hv w hw) fun w' hb => ?_)
          rw [hst V (V i) (fun _ _ => rfl) rfl]
          exact ih _ V w' hs' hU' hc' hV hT' (hC _ _ hw hb) (by rw [hls]; exact hR _ _ _ _ hw hRs hb)
        · rw [if_neg (by rw [hwn]; decide), ← hv, hst V (V i) (fun _ _ => rfl) rfl]
          exact ih _ V w hs' hU' hc' hV hT' hw (by rw [hls]; exact hRs)
      · have hk2 : kd ks i = 2 := by omega
        have hal : Alike ops o (stL ops V (nums ks pL 0 i) (stL ops Vq (nums ks pQ 0 ops.size) a0)) (stL ops V ((nonT ks ops.size).filter (up listed)) a0) := fun t ht => by
          rw [show stL ops Vq (nums ks pQ 0 ops.size) a0 = stL ops V (nums ks pQ 0 ops.size) a0 from stL_same H.apart fun j => ⟨Iff.rfl, fun h => (hV j (by have := (mem_nums.1 h).2; simpa [pQ] using this)).symm⟩, ← stL_app]
          refine stL_agree H.apart fun j hj => ⟨?_, fun _ => rfl⟩
          rcases hlooks t ht j hj with ⟨h1, h2, h3⟩ | h3
          · refine ⟨fun _ => List.mem_filter.2 ⟨mem_nonT.2 ⟨by omega, by omega⟩, h1⟩, fun _ => ?_⟩
            rcases h3 with h3 | ⟨-, h3⟩
            · exact List.mem_append_left _ (mem_nums.2 ⟨⟨Nat.zero_le _, by omega⟩, by simp [pQ]; omega⟩)
            · exact List.mem_append_right _ (mem_nums.2 ⟨⟨Nat.zero_le _, h2⟩, by simp [pL, h3]⟩)
          · refine ⟨fun h => ?_, fun h => (by have := (mem_nonT.1 (List.mem_filter.1 h).1).2; omega)⟩
            rcases List.mem_append.1 h with h | h
            · have := (mem_nums.1 h).2; simp [pQ] at this; omega
            · have := (mem_nums.1 h).2; simp [pL] at this; omega
        have hls := lsUp_add (ks := ks) (n := ops.size) (listed := listed) (by omega) hlt hk2
        have hy := sumGI.alike (H.sel i o · · ho) hal (by rw [stL_size, stL_size, stL_size]) ((hL V).1 i o ho hk2 (lsUp ks ops.size listed) w hw (fun j hj1 hj2 hj3 => ⟨by omega, hj2, hup j (han i j hj3 hlt (by omega))⟩) (fun h => by have := h.2.2; rw [show up listed i = listed.getD i false from rfl, hu] at this; cases this) hRs)
        rcases hy with ⟨hwn, hy⟩ | ⟨hwn, hy⟩
        · rw [if_pos hwn]
          refine .inl (wp_of_sumAtI hy fun v w' hv => ?_)
          rw [hst (upd V i v) v (fun j hj => upd_ne hj) (upd_same _ _ _)]
          exact ih _ _ w' hs' hU' hc' (fun j hj => by rw [upd_ne (fun e => by subst e; omega)]; exact hV j hj) hT' hv.1 (by rw [hls]; exact hv.2)
        · rw [if_neg (by rw [hwn]; decide), hst (upd V i undef) undef (fun j hj => upd_ne hj) (upd_same _ _ _)]
          exact ih _ _ w hs' hU' hc' (fun j hj => by rw [upd_ne (fun e => by subst e; omega)]; exact hV j hj) hT' hw (by rw [hls]; exact hy.2)
where
  finish (listed : Array Bool) (V : Nat → Value) (w : World) (hs : listed.size = ops.size) (hV : ∀ i, kd ks i < 2 → V i = Vq i) (hT : ∀ i, 3 ≤ kd ks i → up listed i = false) (hw : C w) (hRs : I (lsUp ks ops.size listed) V w)
      (hall : ∀ i, i < ops.size → kd ks i = 0 ∨ kd ks i = 2 → up listed i = true) : wpList P ops (Exit.then (fun a w => Q .normal a w) (fun _ _ _ => False)) (((nums ks pT 0 ops.size).filter fun i => !up listed i).filterMap fun i => ops[i]?)
        (stL ops V ((nums ks pF 0 ops.size).filter fun i => !up listed i) (stL ops V ((nonT ks ops.size).filter (up listed)) a0)) w := by
    have h := (hL V).2 w hw (by rw [← lsUp_all (listed := listed) fun i hi hk => hall i hi (.inr hk)]; exact hRs)
    rw [show stL ops Vq (nums ks pQ 0 ops.size) a0 = stL ops V (nums ks pQ 0 ops.size) a0 from stL_same H.apart fun j => ⟨Iff.rfl, fun h => (hV j (by have := (mem_nums.1 h).2; simpa [pQ] using this)).symm⟩, ← stL_app] at h
    rw [← stL_app, List.filter_eq_self.2 (fun i hi => by
      have := (mem_nums.1 hi).2
      rw [hT i (by simpa [pT] using this)]; rfl)]
    rw [show stL ops V ((nonT ks ops.size).filter (up listed) ++ (nums ks pF 0 ops.size).filter fun i => !up listed i) a0 = stL ops V (nums ks pQ 0 ops.size ++ nums ks pL 0 ops.size) a0 from stL_same H.apart fun j => ⟨?_, fun _ => rfl⟩]
    · exact h
    · rw [List.mem_append, List.mem_filter, List.mem_filter, mem_nonT, mem_nums]
      simp only [pF, beq_iff_eq, Bool.not_eq_true']
      constructor
      · rintro (h1 | h1)
        · exact h1.1
        · exact ⟨h1.1.1.2, by omega⟩
      · intro h1
        cases hu : up listed j with
        | true => exact .inl ⟨h1, rfl⟩
        | false =>
          refine .inr ⟨⟨⟨Nat.zero_le _, h1.1⟩, ?_⟩, rfl⟩
          have h2 : ¬ (kd ks j = 0 ∨ kd ks j = 2) := fun h => by rw [hall j h1.1 h] at hu; cases hu
          omega
def KeptD (D : List Nat) (w0 w : World) : Prop := Kept (fun b => b ∉ D) w0 w
section
variable {D : List Nat} {w0 w w' : World}
theorem KeptD.on (h : KeptD D w0 w) (k : Below w.heap.size w w') : KeptD D w0 w' := Kept.on h k
theorem KeptD.none (h : KeptD [] w0 w) : Below w0.heap.size w0 w := Kept.none h
theorem KeptD.blk {g : Nat} {t : TypeId} {cs : Array Value} (h : KeptD D w0 w) (hg : g ∉ D) (hb : Blk w0 g t cs) : Blk w g t cs := Kept.blk h hg hb
end
theorem wpLsI_nil {w0 : World} {D : List Nat} {I : InvT} {an : Nat → Nat → Bool} {ks0 : List Nat} {T : Act → World → Prop} {n : Nat} {a : Act} {vs : Nat → Value} (h : ∀ V w', KeptD D w0 w' → (∀ j, j < n → kd ks0 j = 2 → V j = vs j) → I (fun j => j < n ∧ kd ks0 j = 2) V w' → T a w') : wpLsI P ops (Msd w0 D) I an ks0 T [] [] n a vs := by
  unfold wpLsI; exact fun V w' hw => h V w' (msd_kept hw)
theorem wpLsI_one {w0 : World} {D : List Nat} {I : InvT} {an : Nat → Nat → Bool} {ks0 : List Nat} {T : Act → World → Prop} {i : Nat} {a : Act} {vs : Nat → Value} {o : Oper} {l : List Oper} (hg : o.guard = none)
    (h1 : ∀ S V w', KeptD D w0 w' → (∀ j, j < i → kd ks0 j = 2 → V j = vs j) → (∀ j, j < i → kd ks0 j = 2 → an i j = true → S j) → ¬ S i → I S V w' → sumAtI P o a (fun v w => KeptD D w0 w ∧ I (andOf S i) (upd V i v) w) w') (h2 : ∀ v, wpLsI P ops (Msd w0 D) I an ks0 T ks l (i + 1) (a.put o.dst v) (upd vs i v)) :
    wpLsI P ops (Msd w0 D) I an ks0 T (2 :: ks) (o :: l) i a vs := by
  unfold wpLsI
  exact ⟨fun S V w' hw hV ha hn hI => .inl ⟨by simp [Region.wanted, hg], (h1 S V w' (msd_kept hw) hV ha hn hI).mono fun v w h => ⟨msd_of h.1, h.2⟩⟩, h2⟩
theorem wpLsI_skip {I : InvT} {an : Nat → Nat → Bool} {ks0 : List Nat} {T : Act → World → Prop} {i : Nat} {a : Act} {vs : Nat → Value} {o : Oper} {l : List Oper} {k : Nat} (h : wpLsI P ops C I an ks0 T ks l (i + 1) a vs) (hk : notTwo k := by exact trivial) : wpLsI P ops C I an ks0 T (k :: ks) (o :: l) i a vs := by
  match k, hk with
  | 0, _ => unfold wpLsI; exact h
  | 1, _ => unfold wpLsI; exact h
  | k + 3, _ => unfold wpLsI; exact h
theorem any_inv {Q : Exit → Act → World → Prop} {a : Act} {w : World} {l : List Oper} (ks : List Nat) (D : List Nat) (I : InvT) (hB : schedB0 l.toArray ks = true)
    (hR : ∀ S V w1 w2, Kept (fun b => b ∉ D) w w1 → I S V w1 → Below w1.heap.size w1 w2 → I S V w2) (h0 : ∀ V, I (fun _ => False) V w)
    (h : wpQs P l.toArray (Msd w D) (fun a' => wpLsI P l.toArray (Msd w D) I (ancB (Region.before l.toArray)) ks (fun a'' w'' => wpList P l.toArray (Exit.then (fun a w => Q .normal a w) (fun _ _ _ => False)) (tails ks l) a'' w'') ks l 0 a' (fun _ => undef)) ks l a) :
    Go.wpAny P .any l.toArray Q l.toArray.size (Array.replicate l.toArray.size false) a { w with drawn := w.drawn + 1 } := by
  have H := sch_of0 hB
  have hlen : ks.length = l.length := by simpa using H.len
  obtain ⟨Vq, h1, h2⟩ := qs_facts (l := l) (ks := ks) l ks 0 a rfl rfl h
  have e : l.length = l.toArray.size := by simp
  have h3 := fun V => ls_factsI (l := l) (ks := ks) l ks 0 _ _ rfl rfl (Nat.zero_le _) h2 V (fun j hj => by omega)
  rw [tails_eq (l := l) (ks := ks) l ks 0 rfl rfl hlen, e] at h3
  have hd0 : ∀ K : Nat → Prop, Kept K w { w with drawn := w.drawn + 1 } := fun K => ⟨rfl, rfl, rfl, Nat.le_refl _, fun _ _ _ => rfl⟩
  have := H.phase1I (C := Msd w D) (Q := Q) (a0 := a) (I := I) (an := ancB (Region.before l.toArray)) (fun i j h h1 h2 => ⟨h1, h2, h⟩) (Vq := Vq) (fun w1 w2 h4 h5 => msd_of ((msd_kept h4).trans (Kept.of_below h5))) (fun S V w1 w2 hw => hR S V w1 w2 (msd_kept hw)) (fun i o ho hk => h1 i o (Nat.zero_le _) ho hk)
    (fun V => ⟨fun i o ho hk => (h3 V).1 i o (Nat.zero_le _) ho hk, (h3 V).2⟩)
    l.toArray.size (Array.replicate l.toArray.size false) Vq { w with drawn := w.drawn + 1 } (by simp) (fun j o hj => by simp [up, Array.getElem?_replicate] at hj; split at hj <;> cases hj)
    (by simp only [cnt]; rw [List.countP_eq_length.2 (fun i _ => by simp [up, Array.getElem?_replicate]; split <;> rfl)]; simp) (fun _ _ => rfl) (fun i _ => by simp [up, Array.getElem?_replicate]; split <;> rfl) (msd_of (hd0 _))
    (by
      have e2 : lsUp ks l.toArray.size (Array.replicate l.toArray.size false) = fun _ => False := by
        funext j
        exact propext ⟨fun h => (by have := h.2.2; simp [up, Array.getElem?_replicate] at this; split at this <;> cases this), fun h => h.elim⟩
      rw [e2]
      exact hR _ _ w _ (Kept.refl _ _) (h0 Vq) ⟨rfl, rfl, rfl, Nat.le_refl _, fun _ _ => rfl⟩)
  have hf : (nonT ks l.toArray.size).filter (up (Array.replicate l.toArray.size false)) = [] := List.filter_eq_nil_iff.2 fun i _ => by simp [up, Array.getElem?_replicate]; split <;> simp
  rw [hf] at this
  exact this
theorem wp_inv {id : Nat} {Q : Exit → Act → World → Prop} {a : Act} {w : World} {l : List Oper} (ks : List Nat) (D : List Nat) (I : InvT) (hm : P.follows .mixedOrders = true) (hB : schedB0 l.toArray ks = true)
    (hR : ∀ S V w1 w2, Kept (fun b => b ∉ D) w w1 → I S V w1 → Below w1.heap.size w1 w2 → I S V w2) (h0 : ∀ V, I (fun _ => False) V w)
    (h : wpQs P l.toArray (Msd w D) (fun a' => wpLsI P l.toArray (Msd w D) I (ancB (Region.before l.toArray)) ks (fun a'' w'' => wpList P l.toArray (Exit.then (fun a w => Q .normal a w) (fun _ _ _ => False)) (tails ks l) a'' w'') ks l 0 a' (fun _ => undef)) ks l a) : (Code.region id l.toArray true).wp P Q a w :=
  wp_region_any hm (any_inv ks D I hB hR h0 h)
attribute [go_sem] sumAtI sumUponI
end
end Go.Proofs.YtmbccnioijokfaaGreatDoor

namespace Go.Proofs.YtmbccnioijokfaaGreatDoor
open Go.RowKit
structure BoxCfg where
  a : Nat
  s : Nat
  t : TypeId
  z : Array Value
  c : Array Value
structure StepTs (n : Nat) (ts : List TypeId) (w w' : World) : Prop where
  size : w.heap.size ≤ w'.heap.size
  keep : ∀ b, b < w.heap.size → (b < n ∨ ∀ t ∈ ts, ∀ cs, ¬ Blk w b t cs) → w'.heap[b]? = w.heap[b]?
section
variable {n N : Nat} {ts : List TypeId} {w w' : World} {B : List BoxCfg} {U : Nat → Rel} {S : Nat → Prop} {V : Nat → Value}
theorem StepTs.of_below (h : Below w.heap.size w w') : StepTs n ts w w' := ⟨h.size, fun b hb _ => h.block b hb⟩
theorem StepTs.blk {b : Nat} {t' : TypeId} {cs : Array Value} (h : StepTs n ts w w') (hb : Blk w b t' cs) (hne : t' ∉ ts) : Blk w' b t' cs :=
  (h.keep b hb.lt (.inr fun t ht ds hd => hne (by
    unfold Blk at hb hd
    rw [hb] at hd
    injection hd with hd; injection hd with h1 h2; exact h2 ▸ ht))).trans hb
def BoxI (N : Nat) (x : BoxCfg) : InvT := fun S V w => (S x.s → S x.a) ∧ (S x.a → ∃ b, V x.a = .pointer (some ⟨b, 0, none⟩) ∧ N ≤ b ∧ (¬ S x.s → Blk w b x.t x.z) ∧ (S x.s → Blk w b x.t x.c))
def ManyI (N : Nat) (B : List BoxCfg) (U : Nat → Rel) : InvT := fun S V w =>
  (∀ i, S i → U i (V i) w) ∧ (∀ x ∈ B, BoxI N x S V w) ∧ (∀ x ∈ B, ∀ y ∈ B, x.a ≠ y.a → S x.a → S y.a → V x.a ≠ V y.a)
def OkB (B : List BoxCfg) : Prop := B.Pairwise (fun x y => x.a ≠ y.a ∧ x.s ≠ y.s ∧ x.a ≠ y.s ∧ x.s ≠ y.a) ∧ ∀ x ∈ B, x.a ≠ x.s
theorem pw_mem {α : Type} {R : α → α → Prop} : ∀ {l : List α}, l.Pairwise R → ∀ x ∈ l, ∀ y ∈ l, x = y ∨ R x y ∨ R y x := by
  intro l
  induction l with
  | nil => intro _ x hx; cases hx
  | cons a l ih =>
    intro h x hx y hy
    rw [List.pairwise_cons] at h
    rcases List.mem_cons.1 hx with e | hx' <;> rcases List.mem_cons.1 hy with e' | hy'
    · exact .inl (e.trans e'.symm)
    · exact .inr (.inl (e ▸ h.1 y hy'))
    · exact .inr (.inr (e' ▸ h.1 x hx'))
    · exact ih h.2 x hx' y hy'
theorem OkB.of (h : OkB B) {x y : BoxCfg} (hx : x ∈ B) (hy : y ∈ B) : x = y ∨ (x.a ≠ y.a ∧ x.s ≠ y.s ∧ x.a ≠ y.s ∧ x.s ≠ y.a) := by
  rcases pw_mem h.1 x hx y hy with e | e | e
  · exact .inl e
  · exact .inr e
  · exact .inr ⟨e.1.symm, e.2.1.symm, e.2.2.2.symm, e.2.2.1.symm⟩
def Bears (N : Nat) (B : List BoxCfg) (U : Nat → Rel) : Prop := ∀ i v w w', U i v w → StepTs N (B.map (·.t)) w w' → U i v w'
theorem manyI_zero : ManyI N B U (fun _ => False) V w := ⟨fun _ h => h.elim, fun _ _ => ⟨fun h => h.elim, fun h => h.elim⟩, fun _ _ _ _ _ h => h.elim⟩
theorem ManyI.below (hU : Bears N B U) (h : ManyI N B U S V w) (hb : Below w.heap.size w w') : ManyI N B U S V w' :=
  ⟨fun i hi => hU i _ _ _ (h.1 i hi) (StepTs.of_below hb), fun x hx => ⟨(h.2.1 x hx).1, fun ha => by
    obtain ⟨b, h1, h2, h3, h4⟩ := (h.2.1 x hx).2 ha
    exact ⟨b, h1, h2, fun hs => (h3 hs).on hb, fun hs => (h4 hs).on hb⟩⟩, h.2.2⟩
theorem ManyI.l {i : Nat} {v : Value} (hi : ∀ x ∈ B, x.a ≠ i ∧ x.s ≠ i) (hU : Bears N B U) (h : ManyI N B U S V w) (hb : Below w.heap.size w w') (hu : U i v w') : ManyI N B U (andOf S i) (upd V i v) w' := by
  have h := h.below hU hb
  refine ⟨fun j hj => ?_, fun x hx => ⟨fun hs => ?_, fun ha => ?_⟩, fun x hx y hy hne h1 h2 => ?_⟩
  · by_cases e : j = i
    · subst e; rw [upd_same]; exact hu
    · rw [upd_ne e]; exact h.1 j (hj.resolve_left e)
  · exact .inr ((h.2.1 x hx).1 (hs.resolve_left (hi x hx).2))
  · obtain ⟨b, h1, h2, h3, h4⟩ := (h.2.1 x hx).2 (ha.resolve_left (hi x hx).1)
    rw [upd_ne (hi x hx).1]
    exact ⟨b, h1, h2, fun hs => h3 fun k => hs (.inr k), fun hs => h4 (hs.resolve_left (hi x hx).2)⟩
  · rw [upd_ne (hi x hx).1, upd_ne (hi y hy).1]
    exact h.2.2 x hx y hy hne (h1.resolve_left (hi x hx).1) (h2.resolve_left (hi y hy).1)
theorem ManyI.new {x : BoxCfg} (hx : x ∈ B) (hB : OkB B) (hU : Bears N B U) (hT : ∀ v w, U x.a v w) (hN : N ≤ w.heap.size) (hn : ¬ S x.a) (h : ManyI N B U S V w) : ManyI N B U (andOf S x.a) (upd V x.a (.pointer (some ⟨w.heap.size, 0, none⟩))) (w.alloc (.cells x.z x.t)) := by
  have hb : Below w.heap.size w (w.alloc (.cells x.z x.t)) := (Below.refl _ _).alloc (Nat.le_refl _) _
  have hs0 : ¬ S x.s := fun hs => hn ((h.2.1 x hx).1 hs)
  have hlt : ∀ y ∈ B, S y.a → V y.a ≠ .pointer (some ⟨w.heap.size, 0, none⟩) := fun y hy ha e => by
    obtain ⟨b, h1, h2, h3, h4⟩ := (h.2.1 y hy).2 ha
    have : b < w.heap.size := by
      by_cases hs : S y.s
      · exact (h4 hs).lt
      · exact (h3 hs).lt
    rw [h1] at e
    injection e with e; injection e with e; injection e with e
    omega
  have k := h.below hU hb
  refine ⟨fun j hj => ?_, fun y hy => ?_, fun y hy z hz hne h1 h2 => ?_⟩
  · by_cases e : j = x.a
    · subst e; exact hT _ _
    · rw [upd_ne e]; exact k.1 j (hj.resolve_left e)
  · rcases hB.of hy hx with rfl | ⟨e1, e2, e3, e4⟩
    · have hne := hB.2 y hy
      refine ⟨fun _ => .inl rfl, fun _ => ⟨w.heap.size, upd_same _ _ _, hN, fun _ => Blk.new w _ _, fun hs => absurd (hs.resolve_left hne.symm) hs0⟩⟩
    · refine ⟨fun hs => .inr ((k.2.1 y hy).1 (hs.resolve_left e4)), fun ha => ?_⟩
      obtain ⟨b, h1, h2, h3, h4⟩ := (k.2.1 y hy).2 (ha.resolve_left e1)
      rw [upd_ne e1]
      exact ⟨b, h1, h2, fun hs => h3 fun k => hs (.inr k), fun hs => h4 (hs.resolve_left e4)⟩
  · by_cases e1 : y.a = x.a
    · have e2 : z.a ≠ x.a := fun e => hne (e1.trans e.symm)
      rw [e1, upd_same, upd_ne e2]
      exact fun e => hlt z hz (h2.resolve_left e2) e.symm
    · by_cases e2 : z.a = x.a
      · rw [e2, upd_same, upd_ne e1]
        exact hlt y hy (h1.resolve_left e1)
      · rw [upd_ne e1, upd_ne e2]
        exact k.2.2 y hy z hz hne (h1.resolve_left e1) (h2.resolve_left e2)
theorem ManyI.set {x : BoxCfg} {b : Nat} {v : Value} (hx : x ∈ B) (hB : OkB B) (hU : Bears N B U) (hT : ∀ v w, U x.s v w) (hn : ¬ S x.s) (h : ManyI N B U S V w) (ha : S x.a) (hv : V x.a = .pointer (some ⟨b, 0, none⟩)) (hk : Kept (fun c => c ≠ b) w w') (hb : Blk w' b x.t x.c) : ManyI N B U (andOf S x.s) (upd V x.s v) w' := by
  have hne := hB.2 x hx
  obtain ⟨b', h1, h2, h3, h4⟩ := (h.2.1 x hx).2 ha
  obtain rfl : b = b' := by rw [hv] at h1; injection h1 with e; injection e with e; injection e
  have hz := h3 hn
  have hst : StepTs N (B.map (·.t)) w w' := ⟨hk.size, fun c hc hcc => hk.block c hc fun e => by
    subst e
    rcases hcc with h5 | h5
    · omega
    · exact h5 x.t (List.mem_map.2 ⟨x, hx, rfl⟩) _ hz⟩
  refine ⟨fun j hj => ?_, fun y hy => ?_, fun y hy z hz' hne' k1 k2 => ?_⟩
  · by_cases e : j = x.s
    · subst e; exact hT _ _
    · rw [upd_ne e]; exact hU _ _ _ _ (h.1 j (hj.resolve_left e)) hst
  · rcases hB.of hy hx with rfl | ⟨e1, e2, e3, e4⟩
    · refine ⟨fun _ => .inr ha, fun _ => ⟨b, by rw [upd_ne hne]; exact hv, h2, fun hs => absurd (.inl rfl) hs, fun _ => hb⟩⟩
    · refine ⟨fun hs => .inr ((h.2.1 y hy).1 (hs.resolve_left e2)), fun hya => ?_⟩
      obtain ⟨c, k1, k2, k3, k4⟩ := (h.2.1 y hy).2 (hya.resolve_left e3)
      have hcb : c ≠ b := fun e => h.2.2 y hy x hx e1 (hya.resolve_left e3) ha (by rw [k1, hv, e])
      rw [upd_ne e3]
      exact ⟨c, k1, k2, fun hs => hk.blk hcb (k3 fun k => hs (.inr k)), fun hs => hk.blk hcb (k4 (hs.resolve_left e2))⟩
  · have f1 : y.a ≠ x.s := by rcases hB.of hy hx with rfl | ⟨_, _, e3, _⟩; exact hne; exact e3
    have f2 : z.a ≠ x.s := by rcases hB.of hz' hx with rfl | ⟨_, _, e3, _⟩; exact hne; exact e3
    rw [upd_ne f1, upd_ne f2]
    exact h.2.2 y hy z hz' hne' (k1.resolve_left f1) (k2.resolve_left f2)
theorem ManyI.of {j : Nat} {v : Value} (h : ManyI N B U S V w) (hs : S j) (hv : V j = v) : U j v w := hv ▸ h.1 j hs
theorem ManyI.slot {x : BoxCfg} (hx : x ∈ B) (h : ManyI N B U S V w) (ha : S x.a) (hn : ¬ S x.s) : ∃ b, V x.a = .pointer (some ⟨b, 0, none⟩) ∧ N ≤ b ∧ Blk w b x.t x.z := by
  obtain ⟨b, h1, h2, h3, _⟩ := (h.2.1 x hx).2 ha
  exact ⟨b, h1, h2, h3 hn⟩
theorem ManyI.done {x : BoxCfg} (hx : x ∈ B) (h : ManyI N B U S V w) (ha : S x.a) (hs : S x.s) : ∃ b, V x.a = .pointer (some ⟨b, 0, none⟩) ∧ N ≤ b ∧ Blk w b x.t x.c := by
  obtain ⟨b, h1, h2, _, h4⟩ := (h.2.1 x hx).2 ha
  exact ⟨b, h1, h2, h4 hs⟩
theorem KeptD.new_set {w0 : World} {D : List Nat} {b : Nat} (h : KeptD D w0 w) (hb : w0.heap.size ≤ b) (hk : Kept (fun c => c ≠ b) w w') : KeptD D w0 w' :=
  ⟨hk.os.trans h.os, hk.tape.trans h.tape, hk.output.trans h.output, Nat.le_trans h.size hk.size, fun c hc hD => (hk.block c (Nat.lt_of_lt_of_le hc h.size) (by omega)).trans (h.block c hc hD)⟩
end
def relsU : List (Nat × Rel) → Nat → Rel
  | [], _ => fun _ _ => True
  | (k, R) :: l, i => if i = k then R else relsU l i
section
variable {N : Nat} {B : List BoxCfg} {l : List (Nat × Rel)} {k : Nat}
theorem bears_nil : Bears N B (relsU []) := fun _ _ _ _ h _ => h
theorem bears_cons {R : Rel} (hR : ∀ v w w', R v w → StepTs N (B.map (·.t)) w w' → R v w') (h : Bears N B (relsU l)) : Bears N B (relsU ((k, R) :: l)) := fun i v w w' hv hs => by
  unfold relsU at *
  by_cases e : i = k
  · rw [if_pos e] at *; exact hR v w w' hv hs
  · rw [if_neg e] at *; exact h i v w w' hv hs
theorem bears_val {x : Value} (h : Bears N B (relsU l)) : Bears N B (relsU ((k, fun v _ => v = x) :: l)) := bears_cons (fun _ _ _ hv _ => hv) h
end
theorem wp_many {P : Program} {id : Nat} {Q : Exit → Act → World → Prop} {a : Act} {w : World} {l : List Oper} (ks : List Nat) (B : List BoxCfg) (U : Nat → Rel) (hm : P.follows .mixedOrders = true) (hB : schedB0 l.toArray ks = true) (hU : Bears w.heap.size B U)
    (h : wpQs P l.toArray (Msd w []) (fun a' => wpLsI P l.toArray (Msd w []) (ManyI w.heap.size B U) (ancB (Region.before l.toArray)) ks (fun a'' w'' => wpList P l.toArray (Exit.then (fun a w => Q .normal a w) (fun _ _ _ => False)) (tails ks l) a'' w'') ks l 0 a' (fun _ => undef)) ks l a) : (Code.region id l.toArray true).wp P Q a w :=
  wp_inv ks [] _ hm hB (fun _ _ _ _ _ h1 h2 => h1.below hU h2) (fun _ => manyI_zero) h
end Go.Proofs.YtmbccnioijokfaaGreatDoor

namespace Go.Proofs.YtmbccnioijokfaaGreatDoor
open Go.RowKit
structure StCfg where
  s : Nat
  p : Nat
  b : Nat
  t : TypeId
  o : Array Value
  n : Array Value
def StI (x : StCfg) : InvT := fun S _ w => (S x.s → S x.p) ∧ (¬ S x.s → Blk w x.b x.t x.o) ∧ (S x.s → Blk w x.b x.t x.n)
def ExI (x y : StCfg) (val : Nat → Value) : InvT := fun S V w => (∀ i, S i → i ≠ x.s → i ≠ y.s → V i = val i) ∧ StI x S V w ∧ StI y S V w
section
variable {x y : StCfg} {val : Nat → Value} {S : Nat → Prop} {V : Nat → Value} {w w' : World}
theorem StI.below (h : StI x S V w) (k : Below w.heap.size w w') : StI x S V w' := ⟨h.1, fun e => (h.2.1 e).on k, fun e => (h.2.2 e).on k⟩
theorem ExI.below (h : ExI x y val S V w) (k : Below w.heap.size w w') : ExI x y val S V w' := ⟨h.1, h.2.1.below k, h.2.2.below k⟩
theorem StI.set {v : Value} (hp : S x.p) (hb : Blk w' x.b x.t x.n) : StI x (andOf S x.s) (upd V x.s v) w' := ⟨fun _ => .inr hp, fun e => absurd (.inl rfl) e, fun _ => hb⟩
end
theorem keptD_set {D : List Nat} {w0 w w' : World} {b : Nat} (h : KeptD D w0 w) (hb : b ∈ D) (k : Kept (fun c => c ≠ b) w w') : KeptD D w0 w' := Kept.trans h (k.mono fun _ hc e => hc (e ▸ hb))
end Go.Proofs.YtmbccnioijokfaaGreatDoor

namespace Go.Proofs.YtmbccnioijokfaaGreatDoor
open Go.RowKit
def solB (n : Int) : Bool := n == -1 || n == 1 || n == 2 || n == 3 || n == 5
def wetB (n : Int) : Bool := decide (8 ≤ n) && decide (n ≤ 15)
def cliB (n : Int) : Bool := n == 4
theorem sol_ways (n : Int) : ((n == -1) = true ∧ solB n = true) ∨ ((n == -1) = false ∧ (n == 1) = true ∧ solB n = true) ∨ ((n == -1) = false ∧ (n == 1) = false ∧ (n == 2) = true ∧ solB n = true) ∨
    ((n == -1) = false ∧ (n == 1) = false ∧ (n == 2) = false ∧ (n == 3) = true ∧ solB n = true) ∨ ((n == -1) = false ∧ (n == 1) = false ∧ (n == 2) = false ∧ (n == 3) = false ∧ (n == 5) = true ∧ solB n = true) ∨
    ((n == -1) = false ∧ (n == 1) = false ∧ (n == 2) = false ∧ (n == 3) = false ∧ (n == 5) = false ∧ solB n = false) := by
  unfold solB
  cases (n == -1) <;> cases (n == 1) <;> cases (n == 2) <;> cases (n == 3) <;> cases (n == 5) <;> simp
theorem wet_ways (n : Int) : (decide (8 ≤ n) = false ∧ wetB n = false) ∨ (decide (8 ≤ n) = true ∧ decide (n ≤ 15) = true ∧ decide (n < 16) = true ∧ wetB n = true) ∨ (decide (8 ≤ n) = true ∧ decide (n ≤ 15) = false ∧ decide (n < 16) = false ∧ wetB n = false) := by
  unfold wetB
  by_cases h1 : 8 ≤ n <;> by_cases h2 : n ≤ 15 <;> simp [h1, h2] <;> omega
theorem solid_c (n : Int) (w : World) : Calls Tryz.prog 144 #[.int .i64 n] w fun r w' => r = .returned (.bool (solB n)) ∧ w = w' := by
  rcases sol_ways n with ⟨h1, h⟩ | ⟨h1, h2, h⟩ | ⟨h1, h2, h3, h⟩ | ⟨h1, h2, h3, h4, h⟩ | ⟨h1, h2, h3, h4, h5, h⟩ | ⟨h1, h2, h3, h4, h5, h⟩
  all_goals
    rw [h]
    clear h
    go_enter Tryz.func144, Tryz.ntmps144
    go_wp2_with fail
    go_returns
    exact ⟨rfl, rfl⟩
theorem climbs_c (n : Int) (w : World) : Calls Tryz.prog 313 #[.int .i64 n] w fun r w' => r = .returned (.bool (cliB n)) ∧ w = w' := by
  go_enter Tryz.func313, Tryz.ntmps313
  go_wp2_with fail
  go_returns
  exact ⟨ret_b rfl, rfl⟩
theorem wet_c (n : Int) (w : World) : Calls Tryz.prog 259 #[.int .i64 n] w fun r w' => r = .returned (.bool (wetB n)) ∧ w = w' := by
  rcases wet_ways n with ⟨h1, h⟩ | ⟨h1, h2, h3, h⟩ | ⟨h1, h2, h3, h⟩
  all_goals
    rw [h]
    clear h
    go_enter Tryz.func259, Tryz.ntmps259
    go_wp2_with fail
    go_returns
    exact ⟨rfl, rfl⟩
end Go.Proofs.YtmbccnioijokfaaGreatDoor

namespace Go.Proofs.YtmbccnioijokfaaGreatDoor
open Go.RowKit
def Iq (w : World) (q : Option Addr) (n : Nat) (F : Nat → Int) : Prop := 0 < n → ∃ g o, q = some ⟨g, o, none⟩ ∧ ∀ i, i < n → w.cell? ⟨g, o + i, none⟩ = some (.int .i64 (F i))
theorem Iq.on {w w' : World} {q : Option Addr} {n : Nat} {F : Nat → Int} (h : Iq w q n F) (hb : Below w.heap.size w w') : Iq w' q n F := fun hn => by
  obtain ⟨g, o, e, h1⟩ := h hn
  exact ⟨g, o, e, fun i hi => by rw [cell_below hb (cell_lt (h1 i hi))]; exact h1 i hi⟩
end Go.Proofs.YtmbccnioijokfaaGreatDoor

namespace Go.Proofs.YtmbccnioijokfaaGreatDoor
open Go.ChangeShapes Go.WideShapes Go.ChangeAt Go.RowKit
theorem own : ownKnob Tryz.prog.godebug = none := by kernel_rfl
theorem laidOut : laidOutB Tryz.prog = true := by kernel_rfl
section
variable {H : Type} {enc : TypeId × Value → H} {P : Program}
theorem trodAll_below {W W' : World} (hl : laidOutB P = true) (hb : Below W.heap.size W W') :
    ∀ {ts : List TypeId} {vs : List Value} {ds : List (DataW H)} {ps : List MemPlace}, (∀ t ∈ ts, P.readableRec t = true ∧ t < P.types.size) →
      DataW.TrodAll enc P W 0 (fun _ => true) true ts vs ds ps → (∀ x ∈ ps, x.block < W.heap.size) →
      DataW.TrodAll enc P W' 0 (fun b => decide (b < W.heap.size)) true ts vs ds ps := by
  intro ts
  induction ts with
  | nil =>
    intro vs ds ps _ h _
    obtain ⟨rfl, rfl, rfl⟩ := trodAll_nil h
    exact trodAll_mk0
  | cons t ts ih =>
    intro vs ds ps hts h hp
    obtain ⟨v0, vs0, d0, ds0, p0, q0, rfl, rfl, rfl, h0, r0⟩ := trodAll_cons h
    obtain ⟨hr, hrow⟩ := hts t (List.mem_cons_self ..)
    exact trodAll_cons_mk (Below.trod hl hr hrow h0 hb fun x hx => hp x (by simp [hx])) (ih (fun t ht => hts t (List.mem_cons_of_mem _ ht)) r0 fun x hx => hp x (by simp [hx]))
theorem law_post {f : Func} {s : ChangeSpec} {tb : TypeId} {W W' : World} {args : Array Value} {ds gs : List (DataW H)} {before : List MemPlace}
    (hl : laidOutB P = true) (hts : (f.params.toList.all fun t => P.readableRec t && decide (t < P.types.size)) = true) (hvars : s.vars = []) (hrt : f.resultTypes = #[tb]) (htb : P.underlying tb = some .bool)
    (hW : DataW.Whole enc P f.params.toList s.vars false W args.toList ds gs before)
    (hres : (s.fn H (ds ++ gs)).results = [.lit (.bool true)]) (hargs : (s.fn H (ds ++ gs)).args = ds) (hv : (s.fn H (ds ++ gs)).vars = [])
    (hb : Below W.heap.size W W') : s.post enc P f false true false false W args (.bool true) W' := by
  have hlt : ∀ x ∈ before, x.block < W.heap.size := fun x hx => hW.lt x hx
  have hW0 := hW
  obtain ⟨p, q, hA, hV, hpq, hz, hn⟩ := hW
  rw [hvars] at hV
  obtain ⟨rfl, rfl⟩ := trodVars_none hV
  rw [List.append_nil] at hpq
  subst hpq
  refine ⟨ds, [], before, [], before, [], hW0, ?_, ?_, ?_, World.keptBut_mono (fun p hp => ⟨hp, Or.inr (Or.inl hp)⟩) (hb.frame (· ∈ before)), fun h => by cases h⟩
  · rw [hres, hrt]
    exact trodAll_mk1 (shut_bool htb true)
  · rw [hargs]
    refine trodAll_below hl hb (fun t ht => ?_) hA hlt
    have := List.all_eq_true.1 hts t ht
    simpa using this
  · rw [hvars, hv]
    exact rfl
def vecFields (P : Program) (f0 f1 f2 : Field) (ti : TypeId) : Bool :=
  (f0.offset == 0 && f1.offset == 1 && f2.offset == 2) && ((f0.type == ti && f1.type == ti && f2.type == ti) && P.cellsOf ti == 1)
theorem trod_vec {w : World} {base fuel : Nat} {spare : Nat → Bool} {held : Bool} {t ti : TypeId} {f0 f1 f2 : Field} {cs : List Value} {x : DataW H × List MemPlace} (hs : P.underlying t = some (.struct #[f0, f1, f2]))
    (hf : vecFields P f0 f1 f2 ti = true) (hi : P.underlying ti = some (.int .i64)) (hl : cs.length = 3) (h : DataW.trod enc P w base spare held fuel t cs = some x) :
    ∃ a b c, cs = [.int .i64 a, .int .i64 b, .int .i64 c] ∧ In64 a ∧ In64 b ∧ In64 c := by
  simp only [vecFields, Bool.and_eq_true, beq_iff_eq] at hf
  obtain ⟨⟨⟨o0, o1⟩, o2⟩, ⟨⟨t0, t1⟩, t2⟩, hc⟩ := hf
  obtain ⟨xs, n, _, _, _, hxl, hg⟩ := DataW.trod_struct hs h
  match cs, hl with
  | [v0, v1, v2], _ =>
    match xs, hxl with
    | [y0, y1, y2], _ =>
      have g0 := hg 0 f0 rfl
      have g1 := hg 1 f1 rfl
      have g2 := hg 2 f2 rfl
      rw [o0, t0, hc] at g0
      rw [o1, t1, hc] at g1
      rw [o2, t2, hc] at g2
      obtain ⟨a, ha, _, wa⟩ := DataW.trod_int (x := y0) hi g0
      obtain ⟨b, hb, _, wb⟩ := DataW.trod_int (x := y1) hi g1
      obtain ⟨c, hc', _, wc⟩ := DataW.trod_int (x := y2) hi g2
      simp at ha hb hc'
      subst ha hb hc'
      exact ⟨a, b, c, rfl, in64_of_wf wa, in64_of_wf wb, in64_of_wf wc⟩
end
end Go.Proofs.YtmbccnioijokfaaGreatDoor

namespace Go.Proofs.YtmbccnioijokfaaGreatDoor
open Go.RowKit
set_option maxRecDepth 100000 in
set_option maxHeartbeats 400000 in
theorem rcut_c (n : Int) (w : World) : Calls Tryz.prog 69 #[.int .i64 n] w fun e w' => e = .returned (.int .i64 (cutI n)) ∧ w = w' := by
  go_enter Tryz.func69, Tryz.ntmps69
  go_wp2
  all_goals (go_returns; exact ⟨ret_i (by unfold cutI; omega), rfl⟩)
set_option maxRecDepth 100000 in
set_option maxHeartbeats 400000 in
theorem fcut_c (n : Int) (w : World) : Calls Tryz.prog 300 #[.int .i64 n] w fun e w' => e = .returned (.int .i64 (cutI n)) ∧ w = w' := by
  go_enter Tryz.func300, Tryz.ntmps300
  go_wp2
  all_goals (go_returns; exact ⟨ret_i (by unfold cutI; omega), rfl⟩)
set_option maxRecDepth 100000 in
set_option maxHeartbeats 400000 in
theorem fadd_c (a b : Int) (w : World) : Calls Tryz.prog 262 #[.int .i64 a, .int .i64 b] w fun e w' => e = .returned (.int .i64 (addI a b)) ∧ w = w' := by
  have h1 := cutI_lo a
  have h2 := cutI_hi a
  have h3 := cutI_lo b
  have h4 := cutI_hi b
  go_enter Tryz.func262, Tryz.ntmps262
  go_wp2_with (go_at_call 300; refine (fcut_c _ _).mono ?_; rintro e w1 ⟨rfl, rfl⟩)
  go_returns
  exact ⟨ret_i rfl, rfl⟩
set_option maxRecDepth 100000 in
set_option maxHeartbeats 400000 in
theorem fsub_c (a b : Int) (w : World) : Calls Tryz.prog 241 #[.int .i64 a, .int .i64 b] w fun e w' => e = .returned (.int .i64 (subI a b)) ∧ w = w' := by
  have h1 := cutI_lo a
  have h2 := cutI_hi a
  have h3 := cutI_lo b
  have h4 := cutI_hi b
  go_enter Tryz.func241, Tryz.ntmps241
  go_wp2_with (go_at_call 300; refine (fcut_c _ _).mono ?_; rintro e w1 ⟨rfl, rfl⟩)
  go_returns
  exact ⟨ret_i rfl, rfl⟩
set_option maxRecDepth 100000 in
set_option maxHeartbeats 400000 in
theorem around_c (n m : Int) (hn : -9223372036854775808 ≤ n) (hn2 : n ≤ 9223372036854775807) (hm : 0 < m) (w : World) : Calls Tryz.prog 8 #[.int .i64 n, .int .i64 m] w fun e w' => e = .returned (.int .i64 (arI n m)) ∧ w = w' := by
  by_cases h : n < 0
  all_goals
    go_enter Tryz.func8, Tryz.ntmps8
    go_wp2
    go_returns
    exact ⟨ret_i (by unfold arI; first | rw [if_neg (by omega)] | rw [if_pos h, ← Int.neg_tmod, Int.tmod_eq_emod_of_nonneg (a := -(n + 1)) (b := m) (by omega)]), rfl⟩
set_option maxRecDepth 100000 in
set_option maxHeartbeats 400000 in
theorem size_c (n : Int) (w : World) : Calls Tryz.prog 310 #[.int .i64 n] w fun e w' => e = .returned (.tuple #[.int .u64 (absI (cutI n)), .bool (decide (cutI n < 0))]) ∧ w = w' := by
  have h1 := cutI_lo n
  have h2 := cutI_hi n
  go_enter Tryz.func310, Tryz.ntmps310
  go_wp2_with (go_at_call 300; refine (fcut_c _ _).mono ?_; rintro e w1 ⟨rfl, rfl⟩)
  all_goals
    go_returns
    exact ⟨ret_t2 (vi (by unfold absI; omega)) (vb (by rw [eq_comm]; simp; omega)), rfl⟩
end Go.Proofs.YtmbccnioijokfaaGreatDoor

namespace Go.Proofs.YtmbccnioijokfaaGreatDoor
open Go.RowKit
def lowI (n : Int) : Int := cutI n / 65536
def topI (n m : Int) : Int := if lowI m * 65536 = m ∧ lowI n < lowI m then lowI m - 1 else lowI m
def thinI (n m : Int) : Bool := (n == m) && (lowI n * 65536 == n)
theorem topI_prog {n m : Int} (h1 : -140737488355328 ≤ n) (h2 : m ≤ 140737488355328) (h : n ≤ m) : (if n = m then lowI n else cutI (cutI m + cutI (-1)) / 65536) = topI n m := by
  unfold topI lowI
  rw [cutI_id h1 (by omega), cutI_id (by omega) h2, cutI_id (n := -1) (by decide) (by decide)]
  by_cases he : n = m
  · subst he; rw [if_pos rfl, if_neg (by omega)]
  · rw [if_neg he, cutI_id (by omega) (by omega)]
    split <;> omega
theorem thinI_prog {n m : Int} (h1 : -140737488355328 ≤ n) (h2 : n ≤ 140737488355328) : ((n == m) && (cutI n % 65536 == 0)) = thinI n m := by
  unfold thinI lowI
  rw [cutI_id h1 h2]
  congr 1
  rw [Bool.eq_iff_iff]
  simp only [beq_iff_eq]
  omega
theorem topI_low {n m : Int} (h1 : -140737488355328 ≤ n) (h2 : m ≤ 140737488355328) (h : n ≤ m) : lowI n ≤ topI n m := by
  unfold topI lowI
  rw [cutI_id h1 (by omega), cutI_id (by omega) h2]
  split <;> omega
theorem thin_c (n m lo hi : Int) (w : World) : Calls Tryz.prog 353 #[.int .i64 n, .int .i64 m, .int .i64 lo, .int .i64 hi] w fun r w' => r = .returned (.int .i64 (if n = m then lo else hi)) ∧ w = w' := by
  by_cases h : n = m
  · have h' : (n == m) = true := by simpa using h
    rw [if_pos h]
    clear h
    go_enter Tryz.func353, Tryz.ntmps353
    go_wp2_with fail
    go_returns
    exact ⟨rfl, rfl⟩
  · have h' : (n == m) = false := by simpa using h
    rw [if_neg h]
    clear h
    go_enter Tryz.func353, Tryz.ntmps353
    go_wp2_with fail
    go_returns
    exact ⟨rfl, rfl⟩
end Go.Proofs.YtmbccnioijokfaaGreatDoor

namespace Go.Proofs.YtmbccnioijokfaaGreatDoor
open Go.RowKit
theorem mul64_mask (a : Nat) (ha : a < 18446744073709551616) : bits .and .u64 (a : Int) 4294967295 = ((a % 4294967296 : Nat) : Int) := by
  have h := bits_and_u64_nat a 4294967295 ha (by omega)
  have e : a &&& 4294967295 = a % 4294967296 := Nat.and_two_pow_sub_one_eq_mod a 32
  rw [e] at h
  exact h
theorem mul64_div (a : Nat) : (a : Int) / 4294967296 = ((a / 4294967296 : Nat) : Int) := by omega
theorem mul64_mul (a b : Nat) : (a : Int) * (b : Int) = ((a * b : Nat) : Int) := (Int.natCast_mul a b).symm
theorem mul64_add (a b : Nat) : (a : Int) + (b : Int) = ((a + b : Nat) : Int) := (Int.natCast_add a b).symm
theorem mul64_wrap (a : Nat) (ha : a < 18446744073709551616) : IntKind.u64.wrap (a : Int) = (a : Int) := by rw [IntKind.wrap_u64]; omega
theorem mul64_wrapM (a : Nat) : IntKind.u64.wrap (a : Int) = ((a % 18446744073709551616 : Nat) : Int) := by rw [IntKind.wrap_u64]; omega
set_option maxRecDepth 100000 in
set_option maxHeartbeats 1000000 in
theorem mul64_c (x y : Nat) (hx : x < 18446744073709551616) (hy : y < 18446744073709551616) (w : World) :
    Calls Tryz.prog 312 #[.int .u64 x, .int .u64 y] w fun e w' => e = .returned (.tuple #[.int .u64 ((x * y / 18446744073709551616 : Nat) : Int), .int .u64 ((x * y % 18446744073709551616 : Nat) : Int)]) ∧ w = w' := by
  obtain ⟨bd, bt, bw, hhi⟩ := Lib.mul64_hi x y hx hy
  have ba := Lib.half_mul_le (a := x / 4294967296) (b := y / 4294967296) (by omega) (by omega)
  have bb := Lib.half_mul_le (a := x / 4294967296) (b := y % 4294967296) (by omega) (by omega)
  have bc := Lib.half_mul_le (a := x % 4294967296) (b := y / 4294967296) (by omega) (by omega)
  have ba' : x / 4294967296 * (y / 4294967296) < 18446744073709551616 := by omega
  have bb' : x / 4294967296 * (y % 4294967296) < 18446744073709551616 := by omega
  have bc' : x % 4294967296 * (y / 4294967296) < 18446744073709551616 := by omega
  have bh1 : x / 4294967296 * (y / 4294967296) + (x / 4294967296 * (y % 4294967296) + x % 4294967296 * (y % 4294967296) / 4294967296) / 4294967296 < 18446744073709551616 := by omega
  have bh : x / 4294967296 * (y / 4294967296) + (x / 4294967296 * (y % 4294967296) + x % 4294967296 * (y % 4294967296) / 4294967296) / 4294967296 + ((x / 4294967296 * (y % 4294967296) + x % 4294967296 * (y % 4294967296) / 4294967296) % 4294967296 + x % 4294967296 * (y / 4294967296)) / 4294967296 < 18446744073709551616 := by omega
  go_enter Tryz.func312, Tryz.ntmps312
  go_wp2
  simp only [mul64_mask x hx, mul64_mask y hy, mul64_div, mul64_mul, mul64_add, mul64_wrap _ bd, mul64_wrap _ bb', mul64_wrap _ bt, mul64_mask _ bt, mul64_wrap _ bc', mul64_wrap _ bw, mul64_wrap _ ba', mul64_wrap _ bh1, mul64_wrap _ bh, mul64_wrapM (x * y)]
  rw [hhi]
  go_ret2
  exact ⟨rfl, rfl⟩
set_option maxRecDepth 100000 in
set_option maxHeartbeats 400000 in
theorem round1_c (n : Int) (b r : Bool) (p q : Nat) (hn : 0 ≤ n) (hn2 : n ≤ 140737488355328) (w : World) (hb : w.cell? ⟨p, 0, none⟩ = some (.bool b)) (hr : w.cell? ⟨q, 0, none⟩ = some (.bool r)) :
    Calls Tryz.prog 340 #[.int .u64 n, .pointer (some ⟨p, 0, none⟩), .pointer (some ⟨q, 0, none⟩)] w fun e w' => e = .returned (.int .u64 (upI n b r)) ∧ w = w' := by
  cases b <;> cases r
  all_goals
    go_enter Tryz.func340, Tryz.ntmps340
    go_wp2
    go_returns
    exact ⟨ret_i (by simp [upI]), rfl⟩
set_option maxRecDepth 100000 in
set_option maxHeartbeats 1000000 in
theorem round_c (q : Int) (rest below : Bool) (hq : 0 ≤ q) (hq2 : q ≤ 18446744073709551615) (w : World) :
    Calls Tryz.prog 311 #[.int .u64 q, .bool rest, .bool below] w fun e w' => e = .returned (.int .i64 (rndI q rest below)) ∧ Below w.heap.size w w' := by
  have hmf : ∀ (fn : Fn) (first cap : Array Value) (w : World), (Instr.makeFunc fn first cap).run Tryz.prog w = .ok (.func fn first cap) w := fun _ _ _ _ => rfl
  by_cases h : 140737488355328 ≤ q <;> cases below
  all_goals
    go_enter Tryz.func311, Tryz.ntmps311
    go_wp2_with fail
    first
      | (go_returns; exact ⟨ret_i (by simp [rndI]; omega), by go_grown⟩)
      | (refine (round1_c _ _ _ _ _ (by omega) (by omega) _ (Blk.new' (by simp)).c1.1 ((Blk.new' rfl).alloc _).c1.1).mono ?_
         rintro e w1 ⟨rfl, rfl⟩
         have ub := upI_bd 140737488355328 true false
         have ub2 := upI_bd q true rest
         go_wp2_with fail
         go_returns
         exact ⟨ret_i (by simp [rndI, h]; first | rfl | (simp [upI]; done) | omega), by go_grown⟩)
theorem mul64_i (x y : Int) (hx : 0 ≤ x) (hy : 0 ≤ y) (hx2 : x ≤ 140737488355328) (hy2 : y ≤ 140737488355328) (w : World) :
    Calls Tryz.prog 312 #[.int .u64 x, .int .u64 y] w fun e w' => e = .returned (.tuple #[.int .u64 (x * y / 18446744073709551616), .int .u64 (x * y % 18446744073709551616)]) ∧ w = w' := by
  obtain ⟨x, rfl⟩ := Int.eq_ofNat_of_zero_le hx
  obtain ⟨y, rfl⟩ := Int.eq_ofNat_of_zero_le hy
  refine (mul64_c x y (by omega) (by omega) w).mono ?_
  rintro e w' ⟨rfl, rfl⟩
  exact ⟨ret_t2 (vi (by rw [Int.natCast_ediv, Int.natCast_mul]; rfl)) (vi (by rw [Int.natCast_emod, Int.natCast_mul]; rfl)), rfl⟩
set_option maxRecDepth 100000 in
set_option maxHeartbeats 1000000 in
theorem fmul_c (a b : Int) (w : World) : Calls Tryz.prog 264 #[.int .i64 a, .int .i64 b] w fun e w' => e = .returned (.int .i64 (mulI a b)) ∧ Below w.heap.size w w' := by
  obtain ⟨ax, ay⟩ := absI_bd (cutI_lo a) (cutI_hi a)
  obtain ⟨bx, by_⟩ := absI_bd (cutI_lo b) (cutI_hi b)
  have p0 : 0 ≤ absI (cutI a) * absI (cutI b) := Int.mul_nonneg ax bx
  have HR := Lib.hid (mul_rnd (cutI a) (cutI b) _ rfl p0)
  go_enter Tryz.func264, Tryz.ntmps264
  go_wp2_with fail
  refine (size_c a _).mono ?_; rintro e w1 ⟨rfl, rfl⟩
  go_wp2_with fail
  refine (size_c b _).mono ?_; rintro e w1 ⟨rfl, rfl⟩
  go_wp2_with fail
  refine (mul64_i _ _ ax bx ay by_ _).mono ?_; rintro e w1 ⟨rfl, rfl⟩
  generalize absI (cutI a) * absI (cutI b) = p at *
  have l0 : 0 ≤ p % 18446744073709551616 := by omega
  have l1 : p % 18446744073709551616 ≤ 18446744073709551615 := by omega
  have H0 : 0 ≤ p / 18446744073709551616 := by omega
  by_cases hi : 0 < p / 18446744073709551616
  · go_wp2_with fail
    refine (round_c _ _ _ (by omega) (by omega) _).mono ?_; rintro e w1 ⟨rfl, hb⟩
    go_wp2_with fail
    go_returns
    exact ⟨ret_i (HR.out.1 hi _), hb⟩
  · have hi' : p / 18446744073709551616 ≤ 0 := by omega
    go_wp2_with fail
    refine (round_c _ _ _ (by omega) (by omega) _).mono ?_; rintro e w1 ⟨rfl, hb⟩
    go_wp2_with fail
    go_returns
    exact ⟨ret_i (HR.out.2 hi'), hb⟩
end Go.Proofs.YtmbccnioijokfaaGreatDoor

namespace Go.Proofs.YtmbccnioijokfaaGreatDoor
open Go.RowKit
set_option maxRecDepth 100000 in
set_option maxHeartbeats 400000 in
theorem parts_c (b : Nat) (w : World) : Calls Tryz.prog 304 #[.pointer (some ⟨b, 0, none⟩)] w fun e w' => e = .returned (.agg #[.pointer (some ⟨b, 0, none⟩), .pointer (some ⟨b, 1, none⟩), .pointer (some ⟨b, 2, none⟩)]) ∧ Below w.heap.size w w' := by
  go_enter Tryz.func304, Tryz.ntmps304
  go_wp2
  go_region
  all_goals go_wp2
  all_goals go_returns
  all_goals exact ⟨rfl, by go_grown⟩
theorem idx0 (a b c : Option Addr) (w : World) : (Instr.index 350 (.agg #[.pointer a, .pointer b, .pointer c]) (.int .i64 0)).run Tryz.prog w = .ok (.pointer a) w := by kernel_rfl
theorem idx1 (a b c : Option Addr) (w : World) : (Instr.index 350 (.agg #[.pointer a, .pointer b, .pointer c]) (.int .i64 1)).run Tryz.prog w = .ok (.pointer b) w := by kernel_rfl
theorem idx2 (a b c : Option Addr) (w : World) : (Instr.index 350 (.agg #[.pointer a, .pointer b, .pointer c]) (.int .i64 2)).run Tryz.prog w = .ok (.pointer c) w := by kernel_rfl
theorem axI_0 (x y z : Int) : axI x y z 0 = x := rfl
theorem axI_1 (x y z : Int) : axI x y z 1 = y := rfl
theorem axI_2 (x y z : Int) : axI x y z 2 = z := rfl
theorem axI_no {x y z a : Int} (h : a < 0 ∨ 2 < a) : axI x y z a = 0 := by unfold axI; rw [if_neg (by omega), if_neg (by omega), if_neg (by omega)]
set_option maxRecDepth 100000 in
set_option maxHeartbeats 1000000 in
theorem axis_c (x y z a : Int) (w : World) : Calls Tryz.prog 248 #[.agg #[.int .i64 x, .int .i64 y, .int .i64 z], .int .i64 a] w fun e w' => e = .returned (.int .i64 (axI x y z a)) ∧ Below w.heap.size w w' := by
  by_cases h : a < 0
  · go_enter Tryz.func248, Tryz.ntmps248
    go_wp2_with fail
    go_returns
    exact ⟨ret_i (axI_no (.inl (by omega))).symm, by go_grown⟩
  by_cases h2 : 2 < a
  · go_enter Tryz.func248, Tryz.ntmps248
    go_wp2_with fail
    go_returns
    exact ⟨ret_i (axI_no (.inr (by omega))).symm, by go_grown⟩
  have h0 : a = 0 ∨ a = 1 ∨ a = 2 := by omega
  clear h h2
  have i0 := idx0
  have i1 := idx1
  have i2 := idx2
  rcases h0 with rfl | rfl | rfl
  all_goals
    go_enter Tryz.func248, Tryz.ntmps248
    go_wp2_with fail
    refine (parts_c _ _).mono ?_; rintro e w1 ⟨rfl, hb⟩; obtain ⟨hc, hf⟩ := bcell hb
    go_wp2_with fail
    go_returns
    exact ⟨ret_i rfl, by (repeat' (first | (with_reducible exact Below.refl _ _) | (with_reducible assumption) | (with_reducible refine Below.alloc ?_ ?_ _) | (with_reducible refine Below.drew ?_) | (with_reducible refine Below.setCell ?_ ?_ _) | (with_reducible refine after ?_ (below_regrown _ _ _)) | (refine after ?_ (by with_reducible assumption)) | go_size))⟩
theorem axis_e (x y z a v : Int) (h : axI x y z a = v) (w : World) : Calls Tryz.prog 248 #[.agg #[.int .i64 x, .int .i64 y, .int .i64 z], .int .i64 a] w fun e w' => e = .returned (.int .i64 v) ∧ Below w.heap.size w w' := by
  rw [← h]; exact axis_c x y z a w
set_option maxRecDepth 100000 in
set_option maxHeartbeats 2000000 in
theorem each_c (g : FuncId) (caps : Array Value) (f : Int → Int → Int) (x y z : Int) (w : World) (he : ∀ args w, (callFunc g args).run Tryz.prog w = .ok (.enter g args) w)
    (hC : ∀ (i n : Int) W, Below w.heap.size w W → Calls Tryz.prog g (#[.int .i64 i, .int .i64 n] ++ caps) W fun e W' => e = .returned (.int .i64 (f i n)) ∧ Below W.heap.size W W') :
    Calls Tryz.prog 260 #[.agg #[.int .i64 x, .int .i64 y, .int .i64 z], .func (.func g) #[] caps] w fun e w' => e = .returned (.agg #[.int .i64 (f 0 x), .int .i64 (f 1 y), .int .i64 (f 2 z)]) ∧ Below w.heap.size w w' := by
  have i0 := idx0
  have i1 := idx1
  have i2 := idx2
  have HC := Lib.hid hC
  clear hC
  go_enter Tryz.func260, Tryz.ntmps260
  go_wp2_with fail
  have B0 : Blk ((w.alloc (.cells #[.int .i64 x, .int .i64 y, .int .i64 z] 38)).alloc (.cells #[.int .i64 0, .int .i64 0, .int .i64 0] 38)) w.heap.size 38 #[.int .i64 x, .int .i64 y, .int .i64 z] := (Blk.new' rfl).alloc _
  have C0 : Blk ((w.alloc (.cells #[.int .i64 x, .int .i64 y, .int .i64 z] 38)).alloc (.cells #[.int .i64 0, .int .i64 0, .int .i64 0] 38)) (w.heap.size + 1) 38 #[.int .i64 0, .int .i64 0, .int .i64 0] := Blk.new' (by simp)
  have H0 : Below w.heap.size w ((w.alloc (.cells #[.int .i64 x, .int .i64 y, .int .i64 z] 38)).alloc (.cells #[.int .i64 0, .int .i64 0, .int .i64 0] 38)) := by go_grown
  refine (parts_c _ _).mono ?_; rintro e w1 ⟨rfl, hb⟩
  have B1 := B0.on hb
  have C1 := C0.on hb
  have H1 := after H0 hb
  clear hb B0 C0 H0
  obtain ⟨b0, b1, b2, b3, b4, b5⟩ := B1.c3
  go_wp2_with fail
  refine wp_loop_rounds 4 ?_
  rw [rounds_succ]
  go_wp2_with fail
  refine (HC.out 0 x _ H1).mono ?_; rintro e w2 ⟨rfl, hb⟩
  have B2 := B1.on hb
  have C2 := C1.on hb
  have H2 := after H1 hb
  clear hb b0 b1 b2 b3 b4 b5 B1 C1 H1
  obtain ⟨b0, b1, b2, b3, b4, b5⟩ := B2.c3
  have B3 := B2.set_ 0 (.int .i64 (f 0 x))
  have C3 := C2.far (p := ⟨w.heap.size, 0, none⟩) (by simp) (.int .i64 (f 0 x))
  have H3 := H2.setCell (p := ⟨w.heap.size, 0, none⟩) (Nat.le_refl _) (.int .i64 (f 0 x))
  go_wp2_with fail
  rw [rounds_succ]
  clear b0 b1 b2 b3 b4 b5
  obtain ⟨b0, b1, b2, b3, b4, b5⟩ := B3.c3
  go_wp2_with fail
  refine (HC.out 1 y _ H3).mono ?_; rintro e w4 ⟨rfl, hb⟩
  have B4 := B3.on hb
  have C4 := C3.on hb
  have H4 := after H3 hb
  clear hb b0 b1 b2 b3 b4 b5 B3 C3 H3 B2 C2 H2
  obtain ⟨b0, b1, b2, b3, b4, b5⟩ := B4.c3
  have B5 := B4.set_ 1 (.int .i64 (f 1 y))
  have C5 := C4.far (p := ⟨w.heap.size, 1, none⟩) (by simp) (.int .i64 (f 1 y))
  have H5 := H4.setCell (p := ⟨w.heap.size, 1, none⟩) (Nat.le_refl _) (.int .i64 (f 1 y))
  go_wp2_with fail
  rw [rounds_succ]
  clear b0 b1 b2 b3 b4 b5
  obtain ⟨b0, b1, b2, b3, b4, b5⟩ := B5.c3
  go_wp2_with fail
  refine (HC.out 2 z _ H5).mono ?_; rintro e w6 ⟨rfl, hb⟩
  have B6 := B5.on hb
  have C6 := C5.on hb
  have H6 := after H5 hb
  clear hb b0 b1 b2 b3 b4 b5 B5 C5 H5 B4 C4 H4
  obtain ⟨b0, b1, b2, b3, b4, b5⟩ := B6.c3
  obtain ⟨c0, c1, c2, c3, c4, c5⟩ := C6.c3
  have B7 := B6.set_ 2 (.int .i64 (f 2 z))
  have C7 := C6.far (p := ⟨w.heap.size, 2, none⟩) (by simp) (.int .i64 (f 2 z))
  have H7 := H6.setCell (p := ⟨w.heap.size, 2, none⟩) (Nat.le_refl _) (.int .i64 (f 2 z))
  go_wp2_with fail
  rw [rounds_succ]
  clear b0 b1 b2 b3 b4 b5 c0 c1 c2 c3 c4 c5
  obtain ⟨b0, b1, b2, b3, b4, b5⟩ := B7.c3
  obtain ⟨c0, c1, c2, c3, c4, c5⟩ := C7.c3
  have C8 := ((C7.set_ 0 (.int .i64 (f 0 x))).set_ 1 (.int .i64 (f 1 y))).set_ 2 (.int .i64 (f 2 z))
  go_wp2_with fail
  obtain ⟨d0, d1, d2, -, -, -⟩ := C8.c3
  exact bodyPost_ret (v := .agg #[.int .i64 (f 0 x), .int .i64 (f 1 y), .int .i64 (f 2 z)]) (by simp [results, Tryz.results260, go_sem, d0, d1, d2]) rfl ⟨rfl, by (repeat' (first | (with_reducible exact Below.refl _ _) | (with_reducible assumption) | (with_reducible refine Below.alloc ?_ ?_ _) | (with_reducible refine Below.drew ?_) | (with_reducible refine Below.setCell ?_ ?_ _) | (with_reducible refine after ?_ (below_regrown _ _ _)) | (refine after ?_ (by with_reducible assumption)) | go_size))⟩
end Go.Proofs.YtmbccnioijokfaaGreatDoor

namespace Go.Proofs.YtmbccnioijokfaaGreatDoor
open Go.RowKit
set_option maxRecDepth 100000 in
set_option maxHeartbeats 400000 in
theorem cut1_c (i n : Int) (w : World) : Calls Tryz.prog 306 #[.int .i64 i, .int .i64 n] w fun e w' => e = .returned (.int .i64 (cutI n)) ∧ Below w.heap.size w w' := by
  go_enter Tryz.func306, Tryz.ntmps306
  go_wp2_with fail
  refine (fcut_c _ _).mono ?_; rintro e w1 ⟨rfl, rfl⟩
  go_wp2_with fail
  go_returns
  exact ⟨ret_i rfl, by (repeat' (first | (with_reducible exact Below.refl _ _) | (with_reducible assumption) | (with_reducible refine Below.alloc ?_ ?_ _) | (with_reducible refine Below.drew ?_) | (with_reducible refine Below.setCell ?_ ?_ _) | (with_reducible refine after ?_ (below_regrown _ _ _)) | (refine after ?_ (by with_reducible assumption)) | go_size))⟩
set_option maxRecDepth 100000 in
set_option maxHeartbeats 1000000 in
theorem cutv_c (x y z : Int) (w : World) : Calls Tryz.prog 252 #[.agg #[.int .i64 x, .int .i64 y, .int .i64 z]] w fun e w' => e = .returned (.agg #[.int .i64 (cutI x), .int .i64 (cutI y), .int .i64 (cutI z)]) ∧ Below w.heap.size w w' := by
  have e := enters_of Tryz.func306 (by kernel_rfl) rfl
  go_enter Tryz.func252, Tryz.ntmps252
  go_wp2_with fail
  have R0 : Blk ((w.alloc (.cells #[.int .i64 x, .int .i64 y, .int .i64 z] 38)).alloc (.cells #[.int .i64 0, .int .i64 0, .int .i64 0] 38)) (w.heap.size + 1) 38 #[.int .i64 0, .int .i64 0, .int .i64 0] := Blk.new' (by simp)
  refine (each_c 306 #[] (fun _ n => cutI n) _ _ _ _ e ?_).mono ?_
  · intro i n W _
    exact cut1_c i n W
  rintro e w1 ⟨rfl, hb⟩
  have R := R0.on hb
  clear R0
  obtain ⟨r0, r1, r2, r3, r4, r5⟩ := R.c3
  go_wp2_with fail
  have R2 := R.st3 (.int .i64 (cutI x)) (.int .i64 (cutI y)) (.int .i64 (cutI z))
  obtain ⟨d0, d1, d2, -, -, -⟩ := R2.c3
  exact bodyPost_ret (v := .agg #[.int .i64 (cutI x), .int .i64 (cutI y), .int .i64 (cutI z)]) (by simp [results, Tryz.results252, go_sem, d0, d1, d2]) rfl ⟨rfl, by (repeat' (first | (with_reducible exact Below.refl _ _) | (with_reducible assumption) | (with_reducible refine Below.alloc ?_ ?_ _) | (with_reducible refine Below.drew ?_) | (with_reducible refine Below.setCell ?_ ?_ _) | (with_reducible refine after ?_ (below_regrown _ _ _)) | (refine after ?_ (by with_reducible assumption)) | go_size))⟩
set_option maxRecDepth 100000 in
set_option maxHeartbeats 400000 in
theorem with1_c (i n a m : Int) (w : World) (b c : Nat) (h : w.cell? ⟨b, 0, none⟩ = some (.int .i64 a)) (h2 : w.cell? ⟨c, 0, none⟩ = some (.int .i64 m)) : Calls Tryz.prog 303 #[.int .i64 i, .int .i64 n, .pointer (some ⟨b, 0, none⟩), .pointer (some ⟨c, 0, none⟩)] w fun e w' => e = .returned (.int .i64 (wiI n a i m)) ∧ Below w.heap.size w w' := by
  by_cases g : i = a
  · have t : (i == a) = true := by simpa using g
    have G := Lib.hid g
    clear g
    go_enter Tryz.func303, Tryz.ntmps303
    go_wp2_with fail
    refine (fcut_c _ _).mono ?_; rintro e w1 ⟨rfl, rfl⟩
    go_wp2_with fail
    go_returns
    exact ⟨ret_i (by unfold wiI; rw [if_pos G.out]), by (repeat' (first | (with_reducible exact Below.refl _ _) | (with_reducible assumption) | (with_reducible refine Below.alloc ?_ ?_ _) | (with_reducible refine Below.drew ?_) | (with_reducible refine Below.setCell ?_ ?_ _) | (with_reducible refine after ?_ (below_regrown _ _ _)) | (refine after ?_ (by with_reducible assumption)) | go_size))⟩
  · have t : (i == a) = false := by simpa using g
    have G := Lib.hid g
    clear g
    go_enter Tryz.func303, Tryz.ntmps303
    go_wp2_with fail
    go_returns
    exact ⟨ret_i (by unfold wiI; rw [if_neg G.out]), by (repeat' (first | (with_reducible exact Below.refl _ _) | (with_reducible assumption) | (with_reducible refine Below.alloc ?_ ?_ _) | (with_reducible refine Below.drew ?_) | (with_reducible refine Below.setCell ?_ ?_ _) | (with_reducible refine after ?_ (below_regrown _ _ _)) | (refine after ?_ (by with_reducible assumption)) | go_size))⟩
set_option maxRecDepth 100000 in
set_option maxHeartbeats 1000000 in
theorem with_c (x y z a m : Int) (w : World) : Calls Tryz.prog 240 #[.agg #[.int .i64 x, .int .i64 y, .int .i64 z], .int .i64 a, .int .i64 m] w fun e w' => e = .returned (.agg #[.int .i64 (wiI x a 0 m), .int .i64 (wiI y a 1 m), .int .i64 (wiI z a 2 m)]) ∧ Below w.heap.size w w' := by
  have e := enters_of Tryz.func303 (by kernel_rfl) rfl
  go_enter Tryz.func240, Tryz.ntmps240
  go_wp2_with fail
  have R0 : Blk ((((w.alloc (.cells #[.int .i64 x, .int .i64 y, .int .i64 z] 38)).alloc (.cells #[.int .i64 a] 3)).alloc (.cells #[.int .i64 m] 3)).alloc (.cells #[.int .i64 0, .int .i64 0, .int .i64 0] 38)) (w.heap.size + 1 + 1 + 1) 38 #[.int .i64 0, .int .i64 0, .int .i64 0] := Blk.new' (by simp)
  have A0 : Blk ((((w.alloc (.cells #[.int .i64 x, .int .i64 y, .int .i64 z] 38)).alloc (.cells #[.int .i64 a] 3)).alloc (.cells #[.int .i64 m] 3)).alloc (.cells #[.int .i64 0, .int .i64 0, .int .i64 0] 38)) (w.heap.size + 1) 3 #[.int .i64 a] := ((Blk.new' (by simp)).alloc _).alloc _
  have M0 : Blk ((((w.alloc (.cells #[.int .i64 x, .int .i64 y, .int .i64 z] 38)).alloc (.cells #[.int .i64 a] 3)).alloc (.cells #[.int .i64 m] 3)).alloc (.cells #[.int .i64 0, .int .i64 0, .int .i64 0] 38)) (w.heap.size + 1 + 1) 3 #[.int .i64 m] := (Blk.new' (by simp)).alloc _
  refine (each_c 303 _ (fun i n => wiI n a i m) _ _ _ _ e ?_).mono ?_
  · intro i n W hW
    exact with1_c i n a m W _ _ (A0.on hW).c1.1 (M0.on hW).c1.1
  rintro e w1 ⟨rfl, hb⟩
  have R := R0.on hb
  clear R0 A0 M0
  obtain ⟨r0, r1, r2, r3, r4, r5⟩ := R.c3
  go_wp2_with fail
  have R2 := R.st3 (.int .i64 (wiI x a 0 m)) (.int .i64 (wiI y a 1 m)) (.int .i64 (wiI z a 2 m))
  obtain ⟨d0, d1, d2, -, -, -⟩ := R2.c3
  exact bodyPost_ret (v := .agg #[.int .i64 (wiI x a 0 m), .int .i64 (wiI y a 1 m), .int .i64 (wiI z a 2 m)]) (by simp [results, Tryz.results240, go_sem, d0, d1, d2]) rfl ⟨rfl, by (repeat' (first | (with_reducible exact Below.refl _ _) | (with_reducible assumption) | (with_reducible refine Below.alloc ?_ ?_ _) | (with_reducible refine Below.drew ?_) | (with_reducible refine Below.setCell ?_ ?_ _) | (with_reducible refine after ?_ (below_regrown _ _ _)) | (refine after ?_ (by with_reducible assumption)) | go_size))⟩
set_option maxRecDepth 100000 in
set_option maxHeartbeats 400000 in
theorem add1_c (i n x y z : Int) (w : World) (b : Nat) (h : Blk w b 38 #[.int .i64 x, .int .i64 y, .int .i64 z]) : Calls Tryz.prog 261 #[.int .i64 i, .int .i64 n, .pointer (some ⟨b, 0, none⟩)] w fun e w' => e = .returned (.int .i64 (addI n (axI x y z i))) ∧ Below w.heap.size w w' := by
  obtain ⟨r0, r1, r2, -, -, -⟩ := h.c3
  go_enter Tryz.func261, Tryz.ntmps261
  go_wp2_with fail
  refine (axis_c _ _ _ _ _).mono ?_; rintro e w1 ⟨rfl, hb⟩
  go_wp2_with fail
  refine (fadd_c _ _ _).mono ?_; rintro e w1 ⟨rfl, rfl⟩
  go_wp2_with fail
  go_returns
  exact ⟨ret_i rfl, by (repeat' (first | (with_reducible exact Below.refl _ _) | (with_reducible assumption) | (with_reducible refine Below.alloc ?_ ?_ _) | (with_reducible refine Below.drew ?_) | (with_reducible refine Below.setCell ?_ ?_ _) | (with_reducible refine after ?_ (below_regrown _ _ _)) | (refine after ?_ (by with_reducible assumption)) | go_size))⟩
set_option maxRecDepth 100000 in
set_option maxHeartbeats 1000000 in
theorem add_c (x y z x' y' z' : Int) (w : World) : Calls Tryz.prog 195 #[.agg #[.int .i64 x, .int .i64 y, .int .i64 z], .agg #[.int .i64 x', .int .i64 y', .int .i64 z']] w fun e w' => e = .returned (.agg #[.int .i64 (addI x x'), .int .i64 (addI y y'), .int .i64 (addI z z')]) ∧ Below w.heap.size w w' := by
  have e := enters_of Tryz.func261 (by kernel_rfl) rfl
  go_enter Tryz.func195, Tryz.ntmps195
  go_wp2_with fail
  have R0 : Blk (((w.alloc (.cells #[.int .i64 x, .int .i64 y, .int .i64 z] 38)).alloc (.cells #[.int .i64 x', .int .i64 y', .int .i64 z'] 38)).alloc (.cells #[.int .i64 0, .int .i64 0, .int .i64 0] 38)) (w.heap.size + 1 + 1) 38 #[.int .i64 0, .int .i64 0, .int .i64 0] := Blk.new' (by simp)
  have A0 : Blk (((w.alloc (.cells #[.int .i64 x, .int .i64 y, .int .i64 z] 38)).alloc (.cells #[.int .i64 x', .int .i64 y', .int .i64 z'] 38)).alloc (.cells #[.int .i64 0, .int .i64 0, .int .i64 0] 38)) (w.heap.size + 1) 38 #[.int .i64 x', .int .i64 y', .int .i64 z'] := (Blk.new' (by simp)).alloc _
  refine (each_c 261 _ (fun i n => addI n (axI x' y' z' i)) _ _ _ _ e ?_).mono ?_
  · intro i n W hW
    exact add1_c i n x' y' z' W _ (A0.on hW)
  rintro e w1 ⟨rfl, hb⟩
  have R := R0.on hb
  clear R0 A0
  obtain ⟨r0, r1, r2, r3, r4, r5⟩ := R.c3
  simp only [axI_0, axI_1, axI_2]
  go_wp2_with fail
  have R2 := R.st3 (.int .i64 (addI x x')) (.int .i64 (addI y y')) (.int .i64 (addI z z'))
  obtain ⟨d0, d1, d2, -, -, -⟩ := R2.c3
  exact bodyPost_ret (v := .agg #[.int .i64 (addI x x'), .int .i64 (addI y y'), .int .i64 (addI z z')]) (by simp [results, Tryz.results195, go_sem, d0, d1, d2]) rfl ⟨rfl, by (repeat' (first | (with_reducible exact Below.refl _ _) | (with_reducible assumption) | (with_reducible refine Below.alloc ?_ ?_ _) | (with_reducible refine Below.drew ?_) | (with_reducible refine Below.setCell ?_ ?_ _) | (with_reducible refine after ?_ (below_regrown _ _ _)) | (refine after ?_ (by with_reducible assumption)) | go_size))⟩
set_option maxRecDepth 100000 in
set_option maxHeartbeats 400000 in
theorem sub1_c (i n x y z : Int) (w : World) (b : Nat) (h : Blk w b 38 #[.int .i64 x, .int .i64 y, .int .i64 z]) : Calls Tryz.prog 302 #[.int .i64 i, .int .i64 n, .pointer (some ⟨b, 0, none⟩)] w fun e w' => e = .returned (.int .i64 (subI n (axI x y z i))) ∧ Below w.heap.size w w' := by
  obtain ⟨r0, r1, r2, -, -, -⟩ := h.c3
  go_enter Tryz.func302, Tryz.ntmps302
  go_wp2_with fail
  refine (axis_c _ _ _ _ _).mono ?_; rintro e w1 ⟨rfl, hb⟩
  go_wp2_with fail
  refine (fsub_c _ _ _).mono ?_; rintro e w1 ⟨rfl, rfl⟩
  go_wp2_with fail
  go_returns
  exact ⟨ret_i rfl, by (repeat' (first | (with_reducible exact Below.refl _ _) | (with_reducible assumption) | (with_reducible refine Below.alloc ?_ ?_ _) | (with_reducible refine Below.drew ?_) | (with_reducible refine Below.setCell ?_ ?_ _) | (with_reducible refine after ?_ (below_regrown _ _ _)) | (refine after ?_ (by with_reducible assumption)) | go_size))⟩
set_option maxRecDepth 100000 in
set_option maxHeartbeats 1000000 in
theorem sub_c (x y z x' y' z' : Int) (w : World) : Calls Tryz.prog 239 #[.agg #[.int .i64 x, .int .i64 y, .int .i64 z], .agg #[.int .i64 x', .int .i64 y', .int .i64 z']] w fun e w' => e = .returned (.agg #[.int .i64 (subI x x'), .int .i64 (subI y y'), .int .i64 (subI z z')]) ∧ Below w.heap.size w w' := by
  have e := enters_of Tryz.func302 (by kernel_rfl) rfl
  go_enter Tryz.func239, Tryz.ntmps239
  go_wp2_with fail
  have R0 : Blk (((w.alloc (.cells #[.int .i64 x, .int .i64 y, .int .i64 z] 38)).alloc (.cells #[.int .i64 x', .int .i64 y', .int .i64 z'] 38)).alloc (.cells #[.int .i64 0, .int .i64 0, .int .i64 0] 38)) (w.heap.size + 1 + 1) 38 #[.int .i64 0, .int .i64 0, .int .i64 0] := Blk.new' (by simp)
  have A0 : Blk (((w.alloc (.cells #[.int .i64 x, .int .i64 y, .int .i64 z] 38)).alloc (.cells #[.int .i64 x', .int .i64 y', .int .i64 z'] 38)).alloc (.cells #[.int .i64 0, .int .i64 0, .int .i64 0] 38)) (w.heap.size + 1) 38 #[.int .i64 x', .int .i64 y', .int .i64 z'] := (Blk.new' (by simp)).alloc _
  refine (each_c 302 _ (fun i n => subI n (axI x' y' z' i)) _ _ _ _ e ?_).mono ?_
  · intro i n W hW
    exact sub1_c i n x' y' z' W _ (A0.on hW)
  rintro e w1 ⟨rfl, hb⟩
  have R := R0.on hb
  clear R0 A0
  obtain ⟨r0, r1, r2, r3, r4, r5⟩ := R.c3
  simp only [axI_0, axI_1, axI_2]
  go_wp2_with fail
  have R2 := R.st3 (.int .i64 (subI x x')) (.int .i64 (subI y y')) (.int .i64 (subI z z'))
  obtain ⟨d0, d1, d2, -, -, -⟩ := R2.c3
  exact bodyPost_ret (v := .agg #[.int .i64 (subI x x'), .int .i64 (subI y y'), .int .i64 (subI z z')]) (by simp [results, Tryz.results239, go_sem, d0, d1, d2]) rfl ⟨rfl, by (repeat' (first | (with_reducible exact Below.refl _ _) | (with_reducible assumption) | (with_reducible refine Below.alloc ?_ ?_ _) | (with_reducible refine Below.drew ?_) | (with_reducible refine Below.setCell ?_ ?_ _) | (with_reducible refine after ?_ (below_regrown _ _ _)) | (refine after ?_ (by with_reducible assumption)) | go_size))⟩
end Go.Proofs.YtmbccnioijokfaaGreatDoor

namespace Go.Proofs.YtmbccnioijokfaaGreatDoor
open Go.RowKit
abbrev bxV (a b c d e f : Int) : Array Value := #[.int .i64 a, .int .i64 b, .int .i64 c, .int .i64 d, .int .i64 e, .int .i64 f]
end Go.Proofs.YtmbccnioijokfaaGreatDoor

namespace Go.Proofs.YtmbccnioijokfaaGreatDoor
open Go.RowKit
def isI (a b c d e f : Int) : Bool := !(thinI a d || (thinI b e || thinI c f))
def zI (is : Bool) (n : Int) : Int := if is then n else 0
abbrev spanV (a b c d e f : Int) : Value := .tuple #[.agg #[.int .i64 (zI (isI a b c d e f) (lowI a)), .int .i64 (zI (isI a b c d e f) (lowI b)), .int .i64 (zI (isI a b c d e f) (lowI c))],
  .agg #[.int .i64 (zI (isI a b c d e f) (topI a d)), .int .i64 (zI (isI a b c d e f) (topI b e)), .int .i64 (zI (isI a b c d e f) (topI c f))], .bool (isI a b c d e f)]
abbrev arr3 (f : Nat → Int) : Array Value := #[.int .i64 (f 0), .int .i64 (f 1), .int .i64 (f 2)]
theorem arr3_ext {f g : Nat → Int} (h : ∀ j, j < 3 → f j = g j) : arr3 f = arr3 g := by unfold arr3; rw [h 0 (by omega), h 1 (by omega), h 2 (by omega)]
theorem thin_no {a b c d e f : Int} {k : Nat} (hk : k < 3) (h : thinI (axI a b c k) (axI d e f k) = true) : isI a b c d e f = false := by
  match k, hk with
  | 0, _ => have : thinI a d = true := h; simp [isI, this]
  | 1, _ => have : thinI b e = true := h; simp [isI, this]
  | 2, _ => have : thinI c f = true := h; simp [isI, this]
theorem thin_yes {a b c d e f : Int} (h : ∀ j : Nat, j < 3 → thinI (axI a b c j) (axI d e f j) = false) : isI a b c d e f = true := by
  have h0 : thinI a d = false := h 0 (by omega)
  have h1 : thinI b e = false := h 1 (by omega)
  have h2 : thinI c f = false := h 2 (by omega)
  simp [isI, h0, h1, h2]
theorem thin_next {a b c d e f : Int} {k : Nat} (h : ∀ j : Nat, j < k → thinI (axI a b c j) (axI d e f j) = false) (hk : thinI (axI a b c k) (axI d e f k) = false) : ∀ j : Nat, j < k + 1 → thinI (axI a b c j) (axI d e f j) = false := fun j hj => by
  by_cases e' : j = k
  · subst e'; exact hk
  · exact h j (by omega)
theorem ax_bd {a b c : Int} (ha : -140737488355328 ≤ a ∧ a ≤ 140737488355328) (hb : -140737488355328 ≤ b ∧ b ≤ 140737488355328) (hc : -140737488355328 ≤ c ∧ c ≤ 140737488355328) (k : Int) : -140737488355328 ≤ axI a b c k ∧ axI a b c k ≤ 140737488355328 := by
  unfold axI
  split
  · exact ha
  · split
    · exact hb
    · split
      · exact hc
      · omega
theorem lowI_bd (n : Int) : -2147483648 ≤ lowI n ∧ lowI n ≤ 2147483648 := by
  have h1 := cutI_lo n
  have h2 := cutI_hi n
  unfold lowI
  omega
end Go.Proofs.YtmbccnioijokfaaGreatDoor

namespace Go.Proofs.YtmbccnioijokfaaGreatDoor
open Go.RowKit
set_option maxRecDepth 100000 in
set_option maxHeartbeats 400000 in
theorem floor_c (n : Int) (w : World) : Calls Tryz.prog 237 #[.int .i64 n] w fun e w' => e = .returned (.int .i64 (cutI n / 65536)) ∧ w = w' := by
  have h1 := cutI_lo n
  have h2 := cutI_hi n
  go_enter Tryz.func237, Tryz.ntmps237
  go_wp2_with (go_at_call 300; refine (fcut_c _ _).mono ?_; rintro e w1 ⟨rfl, rfl⟩)
  go_returns
  exact ⟨ret_i rfl, rfl⟩
set_option maxRecDepth 100000 in
set_option maxHeartbeats 400000 in
theorem frac_c (n : Int) (w : World) : Calls Tryz.prog 308 #[.int .i64 n] w fun e w' => e = .returned (.int .i64 (cutI n % 65536)) ∧ w = w' := by
  have h1 := cutI_lo n
  have h2 := cutI_hi n
  go_enter Tryz.func308, Tryz.ntmps308
  go_wp2_with (go_at_call 300; refine (fcut_c _ _).mono ?_; rintro e w1 ⟨rfl, rfl⟩)
  go_returns
  exact ⟨ret_i (bits_and_mask _), rfl⟩
def ofI (c : Int) : Int := min (max c (-2147483648)) 2147483648 * 65536
set_option maxRecDepth 100000 in
set_option maxHeartbeats 400000 in
theorem of_c (n : Int) (w : World) : Calls Tryz.prog 244 #[.int .i64 n] w fun e w' => e = .returned (.int .i64 (ofI n)) ∧ w = w' := by
  go_enter Tryz.func244, Tryz.ntmps244
  go_wp2
  all_goals (go_returns; exact ⟨ret_i (by unfold ofI; omega), rfl⟩)
theorem of_e (n v : Int) (h : ofI n = v) (w : World) : Calls Tryz.prog 244 #[.int .i64 n] w fun e w' => e = .returned (.int .i64 v) ∧ w = w' := by
  rw [← h]; exact of_c n w
end Go.Proofs.YtmbccnioijokfaaGreatDoor

namespace Go.Proofs.YtmbccnioijokfaaGreatDoor
open Go.RowKit
set_option maxRecDepth 100000 in
set_option maxHeartbeats 1000000 in
theorem cof_c (x y z : Int) (w : World) : Calls Tryz.prog 182 #[.agg #[.int .i64 x, .int .i64 y, .int .i64 z]] w fun e w' => e = .returned (.agg #[.int .i64 (lowI x), .int .i64 (lowI y), .int .i64 (lowI z)]) ∧ Below w.heap.size w w' := by
  have U : Blk ((w.alloc (.cells #[.int .i64 x, .int .i64 y, .int .i64 z] 38)).alloc (.cells #[.int .i64 0, .int .i64 0, .int .i64 0] 43)) w.heap.size 38 #[.int .i64 x, .int .i64 y, .int .i64 z] := (Blk.new' rfl).alloc _
  have R0 : Blk ((w.alloc (.cells #[.int .i64 x, .int .i64 y, .int .i64 z] 38)).alloc (.cells #[.int .i64 0, .int .i64 0, .int .i64 0] 43)) (w.heap.size + 1) 43 #[.int .i64 0, .int .i64 0, .int .i64 0] := Blk.new' (by simp)
  obtain ⟨k0, k1, k2⟩ := U.re3
  have hf : ∀ (n : Int) (w : World), Calls Tryz.prog 237 #[.int .i64 n] w fun e w' => e = .returned (.int .i64 (lowI n)) ∧ w = w' := floor_c
  go_enter Tryz.func182, Tryz.ntmps182
  go_wp2_with fail
  refine wp_region_last_below 10 (by kernel_rfl) rfl (by kernel_rfl) ?_
  simp only [List.take_succ_cons, List.take_zero, List.drop_succ_cons, List.drop_zero]
  repeat (go_big_quiet_step (exact Calls.regrown_of (calls_bel (hf _ _))))
  refine wpQuiet_nil ?_
  intro w' hw'
  obtain ⟨rg, rfl⟩ := hw'
  have R := R0.re rg.d rg.os
  obtain ⟨r0, r1, r2, s0, s1, s2⟩ := R.c3
  go_wp2_with fail
  have R2 := R.st3 (.int .i64 (lowI x)) (.int .i64 (lowI y)) (.int .i64 (lowI z))
  obtain ⟨d0, d1, d2, -, -, -⟩ := R2.c3
  exact bodyPost_ret (v := .agg #[.int .i64 (lowI x), .int .i64 (lowI y), .int .i64 (lowI z)]) (by simp [results, Tryz.results182, go_sem, d0, d1, d2]) rfl ⟨rfl, by (repeat' (first | (with_reducible exact Below.refl _ _) | (with_reducible assumption) | (with_reducible refine Below.alloc ?_ ?_ _) | (with_reducible refine Below.drew ?_) | (with_reducible refine Below.setCell ?_ ?_ _) | (with_reducible refine after ?_ (below_regrown _ _ _)) | (refine after ?_ (by with_reducible assumption)) | go_size))⟩
end Go.Proofs.YtmbccnioijokfaaGreatDoor

