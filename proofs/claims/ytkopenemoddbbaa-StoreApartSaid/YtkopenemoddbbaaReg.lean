/- A region that draws its order: reads and calls that make only new memory; then, if so wished, one operation whose value is told by a relation alone (a new variable, a new row, a call that hands back new memory), which may come up at any time; then a forced tail. One walk of the text's order serves every order, in a function's own frame and in a round's. No program in sight. -/
import Derived.Test.YtkopenemoddbbaaFloat
import Derived.Test.YtkopenemoddbbaaRF
import Derived.OrdersIn
namespace Go.Proofs.Ytkopenemoddbbaa
open Go.RowKit

section
variable {P : Program} {ops : Array Oper} {md : Region.Mode} {C : World → Prop}

/-- From number k on each operation waits for all ahead of it. -/
def tailFrom (md : Region.Mode) (ops : Array Oper) : Nat → Nat → Array Bool → Bool
  | 0, _, listed => (Region.ready md ops listed).isEmpty
  | f + 1, k, listed => decide (Region.ready md ops listed = [k]) && tailFrom md ops f (k + 1) (listed.setIfInBounds k true)
theorem wpAny_of_tail {Q : Exit → Act → World → Prop} : ∀ (l : List Oper) (k : Nat) (listed : Array Bool) (a : Act) (w : World), (∀ j, j < l.length → l[j]? = ops[k + j]?) → tailFrom md ops l.length k listed = true → wpList P ops Q l a w →
    wpAny P md ops Q l.length listed a w := by
  intro l
  induction l with
  | nil =>
    intro k listed a w _ hB h
    simp only [List.length_nil, tailFrom, List.isEmpty_iff] at hB
    exact ⟨hB, h⟩
  | cons o l ih =>
    intro k listed a w hl hB h
    have h0 : ops[k]? = some o := by simpa using (hl 0 (by simp)).symm
    simp only [List.length_cons, tailFrom, Bool.and_eq_true, decide_eq_true_eq] at hB
    refine ⟨fun he => (by rw [hB.1] at he; cases he), fun i hi => ?_⟩
    rw [hB.1] at hi
    obtain rfl : i = k := by simpa using hi
    refine wpOp_mono (K := wpList P ops Q l) (fun a w h' => ih (i + 1) _ a w (fun j hj => by have := hl (j + 1) (by simpa using hj); simpa [Nat.add_assoc, Nat.add_comm 1 j] using this) hB.2 h') ?_
    unfold wpOp
    rw [h0]
    exact h

/-- So many operations are to come ahead of the tail (from number n on). -/
def beforeT (P : Program) (md : Region.Mode) (ops : Array Oper) (C : World → Prop) (n s : Nat) (L : Act → Prop) : Nat → Array Bool → Act → Prop
  | 0, listed, a => tailFrom md ops s n listed = true ∧ L a
  | f + 1, listed, a => n ∉ Region.ready md ops listed ∧ Region.ready md ops listed ≠ [] ∧ ∀ i ∈ Region.ready md ops listed, rOp P ops C i (beforeT P md ops C n s L f (listed.setIfInBounds i true)) a
theorem tail_ready {n s : Nat} {listed : Array Bool} (h : tailFrom md ops s n listed = true) {j : Nat} (hj : j ∈ Region.ready md ops listed) : j = n := by
  cases s with
  | zero =>
    simp only [tailFrom, List.isEmpty_iff] at h
    rw [h] at hj; cases hj
  | succ s =>
    simp only [tailFrom, Bool.and_eq_true, decide_eq_true_eq] at h
    rw [h.1] at hj
    simpa using hj

theorem beforeT_first {n s i : Nat} {oi : Oper} {v : Value} {L : Act → Prop} (hi : ops[i]? = some oi) (hwt : ∀ l', n ∈ Region.ready md ops l' → l'.getD i false = true) (hsel : ∀ (j : Nat) (o : Oper) cs b, ops[j]? = some o → o.op ≠ .select cs b) :
    ∀ (f : Nat) (listed : Array Bool) (a : Act),
      (∀ j oj, ops[j]? = some oj → j ≠ i → listed.getD j true = false → (∀ e ∈ oj.after, Region.binds md e = true → e.on ≠ i) → oi.apart ops oj = true) →
      i ∈ Region.ready md ops listed → n ∉ Region.ready md ops listed → Gives P ops C oi v a →
      beforeT P md ops C n s L f (listed.setIfInBounds i true) (a.put oi.dst v) → beforeT P md ops C n s L (f + 1) listed a := by
  intro f
  induction f with
  | zero =>
    intro listed a _ hr hn hy H
    refine ⟨hn, fun h => (by rw [h] at hr; cases hr), fun j hj => ?_⟩
    by_cases hji : j = i
    · subst hji; exact hy.rOp hi H
    · have h1 := ready_mono hj hji
      obtain rfl : j = n := tail_ready H.1 h1
      exact absurd hj hn
  | succ f ih =>
    intro listed a hfree hr hn hy H
    refine ⟨hn, fun h => (by rw [h] at hr; cases hr), fun j hj => ?_⟩
    by_cases hji : j = i
    · subst hji; exact hy.rOp hi H
    · obtain ⟨hun, oj, hoj, hwait⟩ := mem_ready.1 hj
      have hun_i := (mem_ready.1 hr).1
      have hap : oi.apart ops oj = true := hfree j oj hoj hji hun fun e he hb heq => by
        have h2 := hwait e he hb
        rw [heq] at h2
        by_cases hs : i < listed.size <;> simp [hs] at hun_i h2
        rw [hun_i] at h2
        cases h2
      have hq := rOp_put hoj hap (apart_swap hap) (fun cs b => hsel i oi cs b hi) (fun cs b => hsel j oj cs b hoj) hy (H.2.2 j (ready_mono hj hji))
      refine rOp_mono (fun a' h3 => ih (listed.setIfInBounds j true) a' ?_ (ready_mono hr (Ne.symm hji)) ?_ h3.1 ?_) hq
      · intro k ok hk hki hun' hno
        refine hfree k ok hk hki ?_ hno
        by_cases hjk : j = k
        · subst hjk; exact hun
        · rwa [getD_set_ne true hjk] at hun'
      · intro hn'
        have h5 := hwt _ hn'
        rw [getD_set_ne false hji] at h5
        have h6 := (mem_ready.1 hr).1
        by_cases hs : i < listed.size <;> simp [hs] at h5 h6
        rw [h6] at h5
        cases h5
      · rw [Array.setIfInBounds_comm _ _ hji]
        exact h3.2

/-- k operations in the text's order, none of which the tail comes ahead of; then the tail. -/
def quietFrom (md : Region.Mode) (ops : Array Oper) (n s : Nat) : Nat → Nat → Array Bool → Bool
  | 0, _, listed => tailFrom md ops s n listed
  | f + 1, k, listed => (Region.ready md ops listed).contains k && Region.free md ops listed k && !(Region.ready md ops listed).contains n &&
      (match ops[n]? with | some o => o.after.any (fun e => Region.binds md e && e.on == k) | none => true) && quietFrom md ops n s f (k + 1) (listed.setIfInBounds k true)
theorem beforeT_lex {n s : Nat} {L : Act → Prop} (hs : Region.noSelect ops = true) : ∀ (l : List Oper) (k : Nat) (listed : Array Bool) (a : Act), (∀ j, j < l.length → l[j]? = ops[k + j]?) →
    quietFrom md ops n s l.length k listed = true → wpRel P ops C L l a → beforeT P md ops C n s L l.length listed a := by
  intro l
  induction l with
  | nil =>
    intro k listed a _ hB h
    exact ⟨hB, h⟩
  | cons o l ih =>
    intro k listed a hl hB h
    have h0 : ops[k]? = some o := by simpa using (hl 0 (by simp)).symm
    simp only [List.length_cons, quietFrom, Bool.and_eq_true, Bool.not_eq_true'] at hB
    obtain ⟨⟨⟨⟨hr, hf⟩, hn⟩, hw⟩, hB'⟩ := hB
    have hst : rOp P ops C k (wpRel P ops C L l) a := by unfold rOp; rw [h0]; exact h
    obtain ⟨v, hy, hK⟩ := gives_of_rOp h0 hst
    refine beforeT_first h0 (fun l' hn' => ?_) (Region.noSelect_spec hs) l.length listed a (Region.free_spec h0 hf) (by simpa using hr) (by simpa using hn) hy
      (ih (k + 1) _ _ (fun j hj => by have := hl (j + 1) (by simpa using hj); simpa [Nat.add_assoc, Nat.add_comm 1 j] using this) hB' hK)
    obtain ⟨_, oL, hoL, hall⟩ := mem_ready.1 hn'
    rw [hoL] at hw
    obtain ⟨e, he, hbe⟩ := Array.any_eq_true'.1 hw
    simp only [Bool.and_eq_true, beq_iff_eq] at hbe
    have := hall e he hbe.1
    rwa [hbe.2] at this

/-- Carried out. -/
theorem wpAny_of_beforeT {n s : Nat} {L : Act → Prop} {Q' : Exit → Act → World → Prop} (hC : ∀ w w', C w → Below w.heap.size w w' → C w')
    (hL : ∀ listed a w, tailFrom md ops s n listed = true → C w → L a → wpAny P md ops Q' s listed a w) :
    ∀ (f : Nat) (listed : Array Bool) (a : Act) (w : World), C w → beforeT P md ops C n s L f listed a → wpAny P md ops Q' (f + s) listed a w := by
  intro f
  induction f with
  | zero =>
    intro listed a w hw h
    rw [Nat.zero_add]
    exact hL _ _ _ h.1 hw h.2
  | succ f ih =>
    intro listed a w hw h
    obtain ⟨_, h1, h2⟩ := h
    rw [Nat.succ_add]
    refine ⟨fun h => absurd h h1, fun i hi => ?_⟩
    obtain ⟨_, o, ho, _⟩ := mem_ready.1 hi
    obtain ⟨v, hy, hK⟩ := gives_of_rOp ho (h2 i hi)
    unfold wpOp
    rw [ho]
    dsimp only
    rcases hy with ⟨hwn, hv⟩ | ⟨hwn, rfl⟩
    · rw [if_pos hwn]
      exact .inl (wp_of_relAt (hv w hw) fun w' hb => ih _ _ _ (hC w w' hw hb) hK)
    · rw [if_neg (by rw [hwn]; decide)]
      exact ih _ _ _ hw hK

/-! ### one operation of whatever value -/
abbrev Rel := Value → World → Prop
/-- Some value of which R holds; of what was there nothing has turned. -/
def someUpon (P : Program) (R : Rel) (w : World) : Result Next → Prop
  | .ok (.value u) w' => Below w.heap.size w w' ∧ R u w'
  | .ok (.enter f args) w' => w' = w ∧ Calls P f args w (fun e w'' => ∃ u, e = .returned u ∧ Below w.heap.size w w'' ∧ R u w'')
  | _ => False
def someAt (P : Program) (o : Oper) (a : Act) (R : Rel) (w : World) : Prop := someUpon P R w ((execOp a.eval o).run P w)
theorem wp_of_someAt {o : Oper} {a : Act} {w : World} {R : Rel} {K : Act → World → Prop} {Q' : Exit → Act → World → Prop} (h : someAt P o a R w) (hk : ∀ v w', Below w.heap.size w w' → R v w' → K (a.put o.dst v) w') : o.wp P a w K Q' := by
  unfold someAt at h
  unfold Oper.wp
  generalize (execOp a.eval o).run P w = r at *
  cases r with
  | ok nx w' =>
    cases nx <;> simp only [someUpon] at h <;> simp only [Oper.upon]
    case value u => exact hk _ _ h.1 h.2
    case enter f args =>
      obtain ⟨e1, hc⟩ := h
      rw [e1]
      exact hc.mono fun e w'' ⟨u, he, hb, hR⟩ => by subst he; exact hk _ _ hb hR
  | halt x w' => simp only [someUpon] at h

theorem getD_any {listed : Array Bool} {i : Nat} (h : i < listed.size) : listed.getD i true = listed.getD i false := by simp [h]

/-- What is asked of the one operation, number m, by reckoning. -/
structure Loose (md : Region.Mode) (ops : Array Oper) (m : Nat) (oA : Oper) : Prop where
  at_ : ops[m]? = some oA
  guard : oA.guard = none
  apart : ∀ (i : Nat) (o : Oper), ops[i]? = some o → i < m → (∀ e ∈ oA.after, Region.binds md e = true → e.on ≠ i) → oA.apart ops o = true
  low : ∀ e ∈ oA.after, Region.binds md e = true → e.on < m
  lows : ∀ (i : Nat) (o : Oper), ops[i]? = some o → i < m → ∀ e ∈ o.after, Region.binds md e = true → e.on < i
  high : ∀ (j : Nat) (o : Oper), ops[j]? = some o → m < j → ∃ e ∈ o.after, Region.binds md e = true ∧ (e.on = m + 1 ∧ m + 1 < j ∨ e.on = m ∧ j = m + 1)
  sel : ∀ (j : Nat) (o : Oper) cs b, ops[j]? = some o → o.op ≠ .select cs b
def looseB (md : Region.Mode) (ops : Array Oper) (m : Nat) : Bool :=
  Region.noSelect ops &&
  match ops[m]? with
  | none => false
  | some oA => oA.guard.isNone && oA.after.all (fun e => !Region.binds md e || decide (e.on < m)) &&
    (List.range m).all (fun i => match ops[i]? with | none => true | some o => (oA.after.any (fun e => Region.binds md e && e.on == i) || oA.apart ops o) && o.after.all (fun e => !Region.binds md e || decide (e.on < i))) &&
    (List.range ops.size).all (fun j => decide (j ≤ m) || match ops[j]? with | none => true | some o => o.after.any (fun e => Region.binds md e && e.on == (if j == m + 1 then m else m + 1)))
theorem loose_of {m : Nat} (h : looseB md ops m = true) : ∃ oA, Loose md ops m oA := by
  unfold looseB at h
  rw [Bool.and_eq_true] at h
  obtain ⟨h0, h⟩ := h
  cases hA : ops[m]? with
  | none => rw [hA] at h; cases h
  | some oA =>
    rw [hA] at h
    simp only [Bool.and_eq_true, Option.isNone_iff_eq_none] at h
    obtain ⟨⟨⟨h1, h2⟩, h3⟩, h4⟩ := h
    have lower : ∀ (x : Array Edge) (k : Nat), (x.all fun e => !Region.binds md e || decide (e.on < k)) = true → ∀ e ∈ x, Region.binds md e = true → e.on < k := fun x k hx e he hb => by
      have := Array.all_eq_true_iff_forall_mem.1 hx e he
      simpa [hb] using this
    refine ⟨oA, hA, h1, fun i o ho hi hno => ?_, lower _ _ h2, fun i o ho hi => ?_, fun j o ho hj => ?_, Region.noSelect_spec h0⟩
    · have h5 := List.all_eq_true.1 h3 i (List.mem_range.2 hi)
      rw [ho] at h5
      simp only [Bool.and_eq_true, Bool.or_eq_true] at h5
      rcases h5.1 with h6 | h6
      · obtain ⟨e, he, hb⟩ := Array.any_eq_true'.1 h6
        simp only [Bool.and_eq_true, beq_iff_eq] at hb
        exact absurd hb.2 (hno e he hb.1)
      · exact h6
    · have h5 := List.all_eq_true.1 h3 i (List.mem_range.2 hi)
      rw [ho] at h5
      simp only [Bool.and_eq_true] at h5
      exact lower _ _ h5.2
    · have h5 := List.all_eq_true.1 h4 j (List.mem_range.2 (Array.getElem?_eq_some_iff.1 ho).1)
      rw [ho] at h5
      simp only [Bool.or_eq_true, decide_eq_true_eq] at h5
      rcases h5 with h5 | h5
      · omega
      · obtain ⟨e, he, hb⟩ := Array.any_eq_true'.1 h5
        simp only [Bool.and_eq_true, beq_iff_eq] at hb
        refine ⟨e, he, hb.1, ?_⟩
        by_cases hj2 : j = m + 1
        · exact .inr ⟨by simpa [hj2] using hb.2, hj2⟩
        · exact .inl ⟨by simpa [hj2] using hb.2, by omega⟩

variable {m s : Nat} {oA : Oper} {R : Rel} {L : Act → Prop} {Q' : Exit → Act → World → Prop}
/-- Nothing of the tail has come up. -/
def Early (m : Nat) (ops : Array Oper) (listed : Array Bool) : Prop := listed.size = ops.size ∧ ∀ j, m < j → listed.getD j false = false
theorem Early.set {listed : Array Bool} (h : Early m ops listed) {i : Nat} (hi : i ≤ m) : Early m ops (listed.setIfInBounds i true) :=
  ⟨by simp [h.1], fun j hj => by rw [getD_set_ne false (by omega)]; exact h.2 j hj⟩
theorem Loose.below (H : Loose md ops m oA) {listed : Array Bool} (hE : Early m ops listed) (hn : m + 1 ∉ Region.ready md ops listed) {i : Nat} (hi : i ∈ Region.ready md ops listed) : i ≤ m := by
  obtain ⟨_, o, ho, hall⟩ := mem_ready.1 hi
  rcases Nat.lt_or_ge m i with h | h
  · exfalso
    obtain ⟨e, he, hb, h1 | h1⟩ := H.high i o ho h
    · have h2 := hall e he hb
      rw [h1.1, hE.2 _ (by omega)] at h2; cases h2
    · exact hn (h1.2 ▸ hi)
  · exact h
theorem Loose.after_m (H : Loose md ops m oA) {listed : Array Bool} (hn : m + 1 ∈ Region.ready md ops listed) : listed.getD m false = true := by
  obtain ⟨_, o, ho, hall⟩ := mem_ready.1 hn
  obtain ⟨e, he, hb, h1 | h1⟩ := H.high (m + 1) o ho (by omega)
  · omega
  · rw [← h1.1]; exact hall e he hb

/-- While it may come up, and has not, it does what it does behind all. -/
theorem Loose.back (H : Loose md ops m oA) (hL : ∀ a, L a → ∀ w, C w → someAt P oA a R w) :
    ∀ (f : Nat) (listed : Array Bool) (a : Act), Early m ops listed → listed.getD m false = true → (∀ e ∈ oA.after, Region.binds md e = true → listed.getD e.on false = true) → beforeT P md ops C (m + 1) s L f listed a → ∀ w, C w → someAt P oA a R w := by
  intro f
  induction f with
  | zero => intro listed a _ _ _ h; exact hL _ h.2
  | succ f ih =>
    intro listed a hE hm hd h
    obtain ⟨hn, h1, h2⟩ := h
    obtain ⟨i, hi⟩ : ∃ i, i ∈ Region.ready md ops listed := by
      cases hr : Region.ready md ops listed with
      | nil => exact absurd hr h1
      | cons i _ => exact ⟨i, by simp⟩
    obtain ⟨hun, o, ho, _⟩ := mem_ready.1 hi
    have him : i < m := by
      have h3 := H.below hE hn hi
      rcases Nat.lt_or_ge i m with h4 | h4
      · exact h4
      · obtain rfl : i = m := by omega
        rw [getD_any (by rw [hE.1]; exact (Array.getElem?_eq_some_iff.1 ho).1), hm] at hun; cases hun
    have ha := H.apart i o ho him fun e he hb heq => by
      have h3 := hd e he hb
      rw [heq] at h3
      rw [getD_any (by rw [hE.1]; exact (Array.getElem?_eq_some_iff.1 ho).1), h3] at hun; cases hun
    obtain ⟨v, _, hK⟩ := gives_of_rOp ho (h2 i hi)
    have h4 := ih (listed.setIfInBounds i true) _ (hE.set (by omega)) (by rw [getD_set_ne false (by omega)]; exact hm) (fun e he hb => getD_set_true (hd e he hb)) hK
    intro w hw
    have h5 := h4 w hw
    obtain ⟨_, _, h6⟩ := Oper.apart_spec ha
    unfold someAt at h5 ⊢
    rwa [execOp_put oA (fun cs b => H.sel m oA cs b H.at_) a o.dst v h6] at h5

/-- Behind it. -/
theorem Loose.behind (H : Loose md ops m oA) {p : Value} {S : World → Prop}
    (hC : ∀ w w', C w → Below w.heap.size w w' → C w') (hS : ∀ w w', S w → Below w.heap.size w w' → S w')
    (hL : ∀ listed a w, tailFrom md ops s (m + 1) listed = true → C w → S w → L a → wpAny P md ops Q' s listed (a.put oA.dst p) w) :
    ∀ (f : Nat) (listed : Array Bool) (a : Act) (w : World), C w → S w → Early m ops listed → listed.getD m false = true → (∀ e ∈ oA.after, Region.binds md e = true → listed.getD e.on false = true) → beforeT P md ops C (m + 1) s L f listed a →
      wpAny P md ops Q' (f + s) listed (a.put oA.dst p) w := by
  intro f
  induction f with
  | zero =>
    intro listed a w hw hs _ _ _ h
    rw [Nat.zero_add]
    exact hL _ _ _ h.1 hw hs h.2
  | succ f ih =>
    intro listed a w hw hs hE hm hd h
    obtain ⟨hn, h1, h2⟩ := h
    rw [Nat.succ_add]
    refine ⟨fun h => absurd h h1, fun i hi => ?_⟩
    obtain ⟨hun, o, ho, _⟩ := mem_ready.1 hi
    have him : i < m := by
      have h3 := H.below hE hn hi
      rcases Nat.lt_or_ge i m with h4 | h4
      · exact h4
      · obtain rfl : i = m := by omega
        rw [getD_any (by rw [hE.1]; exact (Array.getElem?_eq_some_iff.1 ho).1), hm] at hun; cases hun
    have ha := H.apart i o ho him fun e he hb heq => by
      have h3 := hd e he hb
      rw [heq] at h3
      rw [getD_any (by rw [hE.1]; exact (Array.getElem?_eq_some_iff.1 ho).1), h3] at hun; cases hun
    obtain ⟨v, hy, hK⟩ := gives_of_rOp ho (h2 i hi)
    obtain ⟨_, hdd, _⟩ := Oper.apart_spec ha
    have hcomm : (a.put oA.dst p).put o.dst v = (a.put o.dst v).put oA.dst p := Act.put_comm a p v hdd
    have hm' : (listed.setIfInBounds i true).getD m false = true := by rw [getD_set_ne false (by omega)]; exact hm
    have hd' : ∀ e ∈ oA.after, Region.binds md e = true → (listed.setIfInBounds i true).getD e.on false = true := fun e he hb => getD_set_true (hd e he hb)
    have hy' : Gives P ops C o v (a.put oA.dst p) := (Gives.put_iff (fun cs b => H.sel i o cs b ho) ha).2 hy
    unfold wpOp
    rw [ho]
    dsimp only
    rcases hy' with ⟨hwn, hv⟩ | ⟨hwn, rfl⟩
    · rw [if_pos hwn]
      refine .inl (wp_of_relAt (hv w hw) fun w' hb => ?_)
      rw [hcomm]
      exact ih _ _ _ (hC w w' hw hb) (hS w w' hs hb) (hE.set (by omega)) hm' hd' hK
    · rw [if_neg (by rw [hwn]; decide), hcomm]
      exact ih _ _ _ hw hs (hE.set (by omega)) hm' hd' hK

/-- All those ahead have come up, if the tail is next. -/
theorem Loose.all_up (H : Loose md ops m oA) {listed : Array Bool} (hE : Early m ops listed) (ht : tailFrom md ops s (m + 1) (listed.setIfInBounds m true) = true) : ∀ i, i < m → listed.getD i false = true := by
  intro i
  induction i using Nat.strongRecOn with
  | _ i ih =>
    intro hi
    cases hun : listed.getD i false with
    | true => rfl
    | false =>
      exfalso
      have hlt : i < ops.size := by have := (Array.getElem?_eq_some_iff.1 H.at_).1; omega
      have hr : i ∈ Region.ready md ops (listed.setIfInBounds m true) := by
        refine mem_ready.2 ⟨?_, ops[i], Array.getElem?_eq_getElem hlt, fun e he hb => ?_⟩
        · rw [getD_set_ne true (by omega), getD_any (by rw [hE.1]; exact hlt)]; exact hun
        · have h1 := H.lows i _ (Array.getElem?_eq_getElem hlt) hi e he hb
          exact getD_set_true (ih _ h1 (by omega))
      have := tail_ready ht hr
      omega

theorem Loose.wpAny (H : Loose md ops m oA)
    (hC : ∀ w w', C w → Below w.heap.size w w' → C w') (hR : ∀ v w w', R v w → Below w.heap.size w w' → R v w')
    (hL0 : ∀ a, L a → ∀ w, C w → someAt P oA a R w)
    (hL : ∀ listed a v w, tailFrom md ops s (m + 1) listed = true → C w → R v w → L a → wpAny P md ops Q' s listed (a.put oA.dst v) w) :
    ∀ (f : Nat) (listed : Array Bool) (a : Act) (w : World), C w → Early m ops listed → listed.getD m false = false → beforeT P md ops C (m + 1) s L f (listed.setIfInBounds m true) a → wpAny P md ops Q' (f + (s + 1)) listed a w := by
  have hmsz := (Array.getElem?_eq_some_iff.1 H.at_).1
  have main : ∀ (f : Nat) (listed : Array Bool) (a : Act) (w : World), C w → Early m ops listed → m ∈ Region.ready md ops listed → beforeT P md ops C (m + 1) s L f (listed.setIfInBounds m true) a → wpOp P ops Q' m (Go.wpAny P md ops Q' (f + s) (listed.setIfInBounds m true)) a w := by
    intro f listed a w hw hE hr h
    obtain ⟨_, o, ho, hall⟩ := mem_ready.1 hr
    rw [H.at_] at ho
    obtain rfl := Option.some.inj ho
    have hin : (listed.setIfInBounds m true).getD m false = true := by simp [hE.1, hmsz]
    have hd : ∀ e ∈ oA.after, Region.binds md e = true → (listed.setIfInBounds m true).getD e.on false = true := fun e he hb => getD_set_true (hall e he hb)
    have hs := H.back hL0 f _ a (hE.set (Nat.le_refl _)) hin hd h w hw
    unfold wpOp
    rw [H.at_]
    dsimp only
    rw [if_pos (by simp [Region.wanted, H.guard])]
    exact .inl (wp_of_someAt hs fun v w' hb hv => H.behind (S := R v) hC (hR v) (fun listed a w h1 h2 h3 h4 => hL listed a v w h1 h2 h3 h4) f _ a w' (hC _ _ hw hb) hv (hE.set (Nat.le_refl _)) hin hd h)
  intro f
  induction f with
  | zero =>
    intro listed a w hw hE hm h
    have hup := H.all_up hE h.1
    have hmr : m ∈ Region.ready md ops listed := mem_ready.2 ⟨by rw [getD_any (by rw [hE.1]; exact hmsz)]; exact hm, oA, H.at_, fun e he hb => hup _ (H.low e he hb)⟩
    rw [show 0 + (s + 1) = (0 + s) + 1 by omega]
    refine ⟨fun he => (by rw [he] at hmr; cases hmr), fun i hi => ?_⟩
    by_cases him : i = m
    · subst him; exact main 0 listed a w hw hE hi h
    · have h1 := tail_ready h.1 (ready_mono hi him)
      subst h1
      have := H.after_m hi
      rw [hm] at this; cases this
  | succ f ih =>
    intro listed a w hw hE hm h
    have h0 := h
    obtain ⟨hn, h1, h2⟩ := h
    have hin : (listed.setIfInBounds m true).getD m false = true := by simp [hE.1, hmsz]
    rw [show f + 1 + (s + 1) = (f + (s + 1)) + 1 by omega]
    refine ⟨fun he => ?_, fun i hi => ?_⟩
    · exfalso
      obtain ⟨i, hi⟩ : ∃ i, i ∈ Region.ready md ops (listed.setIfInBounds m true) := by
        cases hr : Region.ready md ops (listed.setIfInBounds m true) with
        | nil => exact absurd hr h1
        | cons i _ => exact ⟨i, by simp⟩
      obtain ⟨hun, o, ho, hall⟩ := mem_ready.1 hi
      have hil := H.below (hE.set (Nat.le_refl _)) hn hi
      have him : i ≠ m := fun e => by
        subst e
        rw [getD_any (by simp [hE.1, hmsz]), hin] at hun; cases hun
      have : i ∈ Region.ready md ops listed := mem_ready.2 ⟨by rw [getD_set_ne true (Ne.symm him)] at hun; exact hun, o, ho, fun e he' hb => by
        have h3 := hall e he' hb
        have h4 := H.lows i o ho (by omega) e he' hb
        rwa [getD_set_ne false (by omega)] at h3⟩
      rw [he] at this; cases this
    · by_cases him : i = m
      · subst him
        have := main (f + 1) listed a w hw hE hi h0
        rwa [show f + 1 + s = f + (s + 1) by omega] at this
      · obtain ⟨_, o, ho, _⟩ := mem_ready.1 hi
        have hi' := ready_mono hi him
        have hil : i < m := by have := H.below (hE.set (Nat.le_refl _)) hn hi'; omega
        obtain ⟨v, hy, hK⟩ := gives_of_rOp ho (h2 i hi')
        rw [Array.setIfInBounds_comm _ _ (Ne.symm him)] at hK
        have hm' : (listed.setIfInBounds i true).getD m false = false := by rw [getD_set_ne false (by omega)]; exact hm
        unfold wpOp
        rw [ho]
        dsimp only
        rcases hy with ⟨hwn, hv⟩ | ⟨hwn, rfl⟩
        · rw [if_pos hwn]
          exact .inl (wp_of_relAt (hv w hw) fun w' hb => ih _ _ _ (hC w w' hw hb) (hE.set (by omega)) hm' hK)
        · rw [if_neg (by rw [hwn]; decide)]
          exact ih _ _ _ hw (hE.set (by omega)) hm' hK

/-! ### The laws -/
abbrev Cls (w : World) : World → Prop := fun w' => ∃ p : Regrown, w' = Go.Sort.grow (redrawn w p.d) p.os
theorem cls_below {w w' : World} (h : Cls w w') : Below w.heap.size w w' := by obtain ⟨p, rfl⟩ := h; exact below_regrown w p.d p.os
theorem cls_on {w w1 w2 : World} (h : Cls w w1) (k : Below w1.heap.size w1 w2) : Cls w w2 := regrown_of_below (after (cls_below h) k)
theorem cls_drawn (w : World) : Cls w { w with drawn := w.drawn + 1 } := ⟨⟨w.drawn + 1, #[]⟩, by rw [Go.Sort.grow_empty]; rfl⟩

def regB (md : Region.Mode) (ops : Array Oper) (k : Nat) : Bool := Region.noSelect ops && quietFrom md ops k (ops.size - k) k 0 (Array.replicate ops.size false)
/-- k operations that read or call, then a forced tail. -/
theorem any_reg {Q : Exit → Act → World → Prop} {a : Act} {w : World} {l : List Oper} (k : Nat) (hk : k ≤ l.length) (hB : regB .any l.toArray k = true)
    (h : wpRel P l.toArray (Cls w) (fun a' => ∀ w', Below w.heap.size w w' → wpList P l.toArray Q (l.drop k) a' w') (l.take k) a) :
    Go.wpAny P .any l.toArray Q l.toArray.size (Array.replicate l.toArray.size false) a { w with drawn := w.drawn + 1 } := by
  simp only [regB, Bool.and_eq_true] at hB
  have hsz : l.toArray.size = l.length := by simp
  have ht : (l.take k).length = k := by simp; omega
  have hx := beforeT_lex (C := Cls w) (md := .any) (n := k) (s := l.toArray.size - k) hB.1 (l.take k) 0 (Array.replicate l.toArray.size false) a
    (fun j hj => by simp only [Nat.zero_add, List.getElem?_toArray]; rw [List.getElem?_take_of_lt (by omega)]) (by rw [ht]; exact hB.2) h
  rw [ht] at hx
  have := wpAny_of_beforeT (Q' := Q) (fun w1 w2 h1 h2 => cls_on h1 h2) (fun listed a' w' ht' hw' hL => by
    have hd : (l.drop k).length = l.toArray.size - k := by simp
    have h5 := wpAny_of_tail (P := P) (Q := Q) (md := .any) (ops := l.toArray) (l.drop k) k listed a' w' (fun j hj => by simp [List.getElem?_drop]) (by rw [hd]; exact ht') (hL w' (cls_below hw'))
    rw [hd] at h5
    exact h5) k (Array.replicate l.toArray.size false) a { w with drawn := w.drawn + 1 } (cls_drawn w) hx
  rwa [show k + (l.toArray.size - k) = l.toArray.size by omega] at this

def someB (md : Region.Mode) (ops : Array Oper) (m : Nat) : Bool := looseB md ops m && quietFrom md ops (m + 1) (ops.size - (m + 1)) m 0 ((Array.replicate ops.size false).setIfInBounds m true)
/-- m operations that read or call, one of whatever value that its relation lets, then a forced tail. -/
theorem any_some {Q : Exit → Act → World → Prop} {a : Act} {w : World} {l : List Oper} {oA : Oper} (m : Nat) (R : Rel) (hA : l[m]? = some oA) (hB : someB .any l.toArray m = true) (hR : ∀ v w w', R v w → Below w.heap.size w w' → R v w')
    (h : wpRel P l.toArray (Cls w) (fun a' => (∀ w', Cls w w' → someAt P oA a' R w') ∧ ∀ v w', Below w.heap.size w w' → R v w' → wpList P l.toArray Q (l.drop (m + 1)) (a'.put oA.dst v) w') (l.take m) a) :
    Go.wpAny P .any l.toArray Q l.toArray.size (Array.replicate l.toArray.size false) a { w with drawn := w.drawn + 1 } := by
  simp only [someB, Bool.and_eq_true] at hB
  obtain ⟨oA', H⟩ := loose_of hB.1
  have hA' : l.toArray[m]? = some oA := by simpa using hA
  obtain rfl : oA = oA' := by have := H.at_; rw [hA'] at this; exact Option.some.inj this
  have hsz : l.toArray.size = l.length := by simp
  have hm : m < l.length := (List.getElem?_eq_some_iff.1 hA).1
  have ht : (l.take m).length = m := by simp; omega
  have hns : Region.noSelect l.toArray = true := by have := hB.1; unfold looseB at this; rw [Bool.and_eq_true] at this; exact this.1
  have hx := beforeT_lex (C := Cls w) (md := .any) (n := m + 1) (s := l.toArray.size - (m + 1)) hns (l.take m) 0 ((Array.replicate l.toArray.size false).setIfInBounds m true) a
    (fun j hj => by simp only [Nat.zero_add, List.getElem?_toArray]; rw [List.getElem?_take_of_lt (by omega)]) (by rw [ht]; exact hB.2) h
  rw [ht] at hx
  have := H.wpAny (Q' := Q) (R := R) (s := l.toArray.size - (m + 1)) (fun w1 w2 h1 h2 => cls_on h1 h2) hR (fun a h => h.1) (fun listed a' v w' ht' hw' hv hL => by
    have hd : (l.drop (m + 1)).length = l.toArray.size - (m + 1) := by simp
    have h5 := wpAny_of_tail (P := P) (Q := Q) (md := .any) (ops := l.toArray) (l.drop (m + 1)) (m + 1) listed _ w' (fun j hj => by simp [List.getElem?_drop]) (by rw [hd]; exact ht') (hL.2 v w' (cls_below hw') hv)
    rw [hd] at h5
    exact h5) m (Array.replicate l.toArray.size false) a { w with drawn := w.drawn + 1 } (cls_drawn w) ⟨by simp, fun j _ => by simp [Array.getElem?_replicate]; split <;> rfl⟩ (by simp [Array.getElem?_replicate]; split <;> rfl) hx
  rwa [show m + (l.toArray.size - (m + 1) + 1) = l.toArray.size by omega] at this

theorem wp_reg {id : Nat} {Q : Exit → Act → World → Prop} {a : Act} {w : World} {l : List Oper} (k : Nat) (hm : P.follows .mixedOrders = true) (hk : k ≤ l.length) (hB : regB .any l.toArray k = true)
    (h : wpRel P l.toArray (Cls w) (fun a' => ∀ w', Below w.heap.size w w' → wpList P l.toArray Q (l.drop k) a' w') (l.take k) a) : (Code.region id l.toArray true).wp P Q a w := wp_region_any hm (any_reg k hk hB h)
theorem wp_some {id : Nat} {Q : Exit → Act → World → Prop} {a : Act} {w : World} {l : List Oper} {oA : Oper} (m : Nat) (R : Rel) (hm : P.follows .mixedOrders = true) (hA : l[m]? = some oA) (hB : someB .any l.toArray m = true) (hR : ∀ v w w', R v w → Below w.heap.size w w' → R v w')
    (h : wpRel P l.toArray (Cls w) (fun a' => (∀ w', Cls w w' → someAt P oA a' R w') ∧ ∀ v w', Below w.heap.size w w' → R v w' → wpList P l.toArray Q (l.drop (m + 1)) (a'.put oA.dst v) w') (l.take m) a) : (Code.region id l.toArray true).wp P Q a w :=
  wp_region_any hm (any_some m R hA hB hR h)

/-! ### In a round -/
def noDefer (ops : Array Oper) : Bool := ops.all fun o => match o.op with | .defer _ => false | _ => true
theorem noDefer_spec (h : noDefer ops = true) {j : Nat} {o : Oper} (ho : ops[j]? = some o) (c : Call) : o.op ≠ .defer c := by
  intro heq
  have := Array.all_eq_true_iff_forall_mem.1 h o (Array.mem_of_getElem? ho)
  simp [heq] at this
theorem rowsIn_wide {l n : Nat} {row : String} {args : Array Value} {w : World} {X : Value → World → Prop} (h : Rows P row args w X) : RowsIn (Fence.wide.inRound l) n P row args w X :=
  fun c cs _ => let ⟨v, w', hx, hs⟩ := h c cs; ⟨v, w', hx, by rw [fenced_inRound]; exact stepsIn_wide.2 hs⟩
theorem op_in {l n : Nat} {o : Oper} {a : Act} {w : World} {K K' : Act → World → Prop} {Q : Exit → Act → World → Prop} (hd : ∀ c, o.op ≠ .defer c) (hK : ∀ a w, K a w → K' a w) (h : o.wp P a w K Q) : o.wpIn (Fence.wide.inRound l) n P a w K' Q := by
  refine ⟨fun _ _ => trivial, ?_⟩
  rw [Oper.semAt_eq _ _ _ hd]
  unfold Oper.wp at h
  generalize (execOp a.eval o).run P w = r at *
  cases r with
  | ok nx w' =>
    cases nx <;> simp only [Oper.upon] at h <;> simp only [Oper.uponIn]
    case value u => exact hK _ _ h
    case skip => exact hK _ _ h
    case defer d => exact hK _ _ h
    case enter f args =>
      refine ⟨fun h => (by cases h), CallsIn.inRound l (callsIn_wide.2 (h.mono fun e w'' he => ?_))⟩
      cases e with
      | returned v => exact hK _ _ he
      | panicked c => exact he
      | outgrown => exact he
    case row r args => exact ⟨fun h => (by cases h), rowsIn_wide fun c cs => let ⟨v, w'', hx, hs⟩ := h c cs; ⟨v, w'', hK _ _ hx, hs⟩⟩
  | halt x w' => cases x <;> simp only [Oper.upon] at h <;> first | exact h | cases h
theorem any_in {l n : Nat} {Q : Exit → Act → World → Prop} (hd : noDefer ops = true) (hQ : ¬ LetsOut Q) : ∀ (f : Nat) (listed : Array Bool) (a : Act) (w : World), Go.wpAny P md ops Q f listed a w → wpAnyIn (Fence.wide.inRound l) n P md ops Q f listed a w := by
  intro f
  induction f with
  | zero => intro listed a w h; exact h
  | succ f ih =>
    intro listed a w h
    refine ⟨h.1, fun i hi => ?_⟩
    have h1 := h.2 i hi
    unfold wpOp at h1
    unfold wpOpIn
    cases ho : ops[i]? with
    | none => rw [ho] at h1; exact ih _ _ _ h1
    | some o =>
      rw [ho] at h1
      dsimp only at h1 ⊢
      by_cases hw : Region.wanted o (yielded ops a.tmps) = true
      · rw [if_pos hw] at h1 ⊢
        rcases h1 with h1 | h1
        · exact op_in (noDefer_spec hd ho) (fun a w => ih _ a w) h1
        · exact absurd h1.2 hQ
      · rw [if_neg hw] at h1 ⊢
        exact ⟨fun _ _ => trivial, ih _ _ _ h1⟩
theorem in_reg {l' n id : Nat} {Q : Exit → Act → World → Prop} {a : Act} {w : World} {l : List Oper} (k : Nat) (hm : P.follows .mixedOrders = true) (hk : k ≤ l.length) (hB : regB .any l.toArray k = true) (hd : noDefer l.toArray = true) (hQ : ¬ LetsOut Q)
    (h : wpRel P l.toArray (Cls w) (fun a' => ∀ w', Below w.heap.size w w' → wpList P l.toArray Q (l.drop k) a' w') (l.take k) a) : (Code.region id l.toArray true).wpIn (Fence.wide.inRound l') n P Q a w :=
  wpIn_region_any hm (any_in hd hQ _ _ _ _ (any_reg k hk hB h))
theorem in_some {l' n id : Nat} {Q : Exit → Act → World → Prop} {a : Act} {w : World} {l : List Oper} {oA : Oper} (m : Nat) (R : Rel) (hm : P.follows .mixedOrders = true) (hA : l[m]? = some oA) (hB : someB .any l.toArray m = true) (hR : ∀ v w w', R v w → Below w.heap.size w w' → R v w') (hd : noDefer l.toArray = true) (hQ : ¬ LetsOut Q)
    (h : wpRel P l.toArray (Cls w) (fun a' => (∀ w', Cls w w' → someAt P oA a' R w') ∧ ∀ v w', Below w.heap.size w w' → R v w' → wpList P l.toArray Q (l.drop (m + 1)) (a'.put oA.dst v) w') (l.take m) a) : (Code.region id l.toArray true).wpIn (Fence.wide.inRound l') n P Q a w :=
  wpIn_region_any hm (any_in hd hQ _ _ _ _ (any_some m R hA hB hR h))
end
end Go.Proofs.Ytkopenemoddbbaa
