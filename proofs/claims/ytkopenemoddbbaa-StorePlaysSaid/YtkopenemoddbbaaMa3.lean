/- Texts that build one behind the other, laid together: Sched Sched2 Disk4. -/
import Derived.Test.YtkopenemoddbbaaMa2
import Derived.Test.YtkopenemoddbbaaMa1
import Derived.Maps.AppendAt
/- A region that draws its order, in general. Each operation is of a kind: 0: it reads, or calls what makes only new memory; 1: likewise, whatever the world (addresses); 2: its value is told by a relation alone (a new variable, a new row, a call that hands back new memory); 3: the tail, which comes in the text's order behind all but those of kind 1. One walk serves every order. No program in sight. -/
namespace Go.Proofs.Ytkopenemoddbbaa
open Go.RowKit

section
variable {P : Program} {ops : Array Oper} {C : World → Prop}
def dstOf (ops : Array Oper) (i : Nat) : Option Tmp := (ops[i]?).bind (·.dst)
def kd (ks : List Nat) (i : Nat) : Nat := ks.getD i 3

/-! ### states -/
theorem put_size (a : Act) (x : Option Tmp) (v : Value) : (a.put x v).tmps.size = a.tmps.size := by cases x <;> simp [Act.put]
theorem put_defers (a : Act) (x : Option Tmp) (v : Value) : (a.put x v).defers = a.defers := by cases x <;> rfl
theorem put_miss (a : Act) {x : Option Tmp} {t : Nat} (v : Value) (h : x ≠ some t) : (a.put x v).tmps.getD t undef = a.tmps.getD t undef := by
  cases x with
  | none => rfl
  | some d =>
    have hne : d ≠ t := fun e => h (by rw [e])
    simp [Act.put, Array.getElem?_setIfInBounds_ne hne]
theorem put_hit (a : Act) {t : Nat} (v : Value) (h : t < a.tmps.size) : (a.put (some t) v).tmps.getD t undef = v := by simp [Act.put, h]
theorem act_ext {a b : Act} (h1 : a.tmps.size = b.tmps.size) (h2 : ∀ t, a.tmps.getD t undef = b.tmps.getD t undef) (h3 : a.defers = b.defers) : a = b := by
  obtain ⟨ta, da⟩ := a
  obtain ⟨tb, db⟩ := b
  dsimp only at *
  subst h3
  congr 1
  apply Array.ext h1
  intro i hi hj
  have := h2 i
  simpa [hi, hj] using this
def stL (ops : Array Oper) (V : Nat → Value) (S : List Nat) (a : Act) : Act := S.foldl (fun a i => a.put (dstOf ops i) (V i)) a
theorem stL_cons (V : Nat → Value) (i : Nat) (S : List Nat) (a : Act) : stL ops V (i :: S) a = stL ops V S (a.put (dstOf ops i) (V i)) := rfl
theorem stL_app (V : Nat → Value) (S T : List Nat) (a : Act) : stL ops V (S ++ T) a = stL ops V T (stL ops V S a) := by simp [stL, List.foldl_append]
theorem stL_size (V : Nat → Value) (S : List Nat) : ∀ a, (stL ops V S a).tmps.size = a.tmps.size := by
  induction S with
  | nil => intro a; rfl
  | cons i S ih => intro a; rw [stL_cons, ih, put_size]
theorem stL_defers (V : Nat → Value) (S : List Nat) : ∀ a, (stL ops V S a).defers = a.defers := by
  induction S with
  | nil => intro a; rfl
  | cons i S ih => intro a; rw [stL_cons, ih, put_defers]
theorem stL_miss (V : Nat → Value) {t : Nat} (S : List Nat) : ∀ a, (∀ j ∈ S, dstOf ops j ≠ some t) → (stL ops V S a).tmps.getD t undef = a.tmps.getD t undef := by
  induction S with
  | nil => intro a _; rfl
  | cons i S ih => intro a h; rw [stL_cons, ih _ (fun j hj => h j (List.mem_cons_of_mem _ hj)), put_miss _ _ (h i (by simp))]
def Apart (ops : Array Oper) : Prop := ∀ i j d, i ≠ j → dstOf ops i = some d → dstOf ops j ≠ some d
theorem stL_hit (hD : Apart ops) (V : Nat → Value) {t j : Nat} (hj : dstOf ops j = some t) (S : List Nat) : ∀ a, t < a.tmps.size → j ∈ S → (stL ops V S a).tmps.getD t undef = V j := by
  induction S with
  | nil => intro a _ h; cases h
  | cons i S ih =>
    intro a ht h
    rw [stL_cons]
    by_cases hS : j ∈ S
    · exact ih _ (by rw [put_size]; exact ht) hS
    · have hij : j = i := by
        rcases List.mem_cons.1 h with e | e
        · exact e
        · exact absurd e hS
      subst hij
      rw [stL_miss V S _ (fun k hk e => hD j k t (fun e' => hS (e' ▸ hk)) hj e), hj, put_hit _ _ ht]
theorem stL_agree (hD : Apart ops) {V V' : Nat → Value} {S T : List Nat} {a : Act} {t : Nat} (h : ∀ j, dstOf ops j = some t → (j ∈ S ↔ j ∈ T) ∧ (j ∈ S → V j = V' j)) : (stL ops V S a).tmps.getD t undef = (stL ops V' T a).tmps.getD t undef := by
  by_cases ht : t < a.tmps.size
  · by_cases he : ∃ j ∈ S, dstOf ops j = some t
    · obtain ⟨j, hj, hd⟩ := he
      rw [stL_hit hD V hd S a ht hj, stL_hit hD V' hd T a ht ((h j hd).1.1 hj)]
      exact (h j hd).2 hj
    · rw [stL_miss V S a (fun j hj hd => he ⟨j, hj, hd⟩), stL_miss V' T a (fun j hj hd => he ⟨j, (h j hd).1.2 hj, hd⟩)]
  · have h1 : ¬ t < (stL ops V S a).tmps.size := by rw [stL_size]; exact ht
    have h2 : ¬ t < (stL ops V' T a).tmps.size := by rw [stL_size]; exact ht
    simp [h1, h2]
theorem stL_same (hD : Apart ops) {V V' : Nat → Value} {S T : List Nat} {a : Act} (h : ∀ j, (j ∈ S ↔ j ∈ T) ∧ (j ∈ S → V j = V' j)) : stL ops V S a = stL ops V' T a :=
  act_ext (by rw [stL_size, stL_size]) (fun _ => stL_agree hD fun j _ => h j) (by rw [stL_defers, stL_defers])

/-! ### what an operation does hangs on what it looks at -/
def Alike (ops : Array Oper) (o : Oper) (a b : Act) : Prop := ∀ t ∈ o.looksAt ops, a.tmps.getD t undef = b.tmps.getD t undef
theorem exec_alike {o : Oper} {a b : Act} (hs : ∀ cs b, o.op ≠ .select cs b) (h : Alike ops o a b) : execOp a.eval o = execOp b.eval o :=
  execOp_congr o hs fun x hx => by
    cases x with
    | tmp t => exact h t (List.mem_append_left _ (List.mem_filterMap.2 ⟨.tmp t, by simpa using hx, rfl⟩))
    | _ => rfl
theorem wanted_alike {o : Oper} {a b : Act} (h : Alike ops o a b) (hz : a.tmps.size = b.tmps.size) : Region.wanted o (yielded ops a.tmps) = Region.wanted o (yielded ops b.tmps) := by
  unfold Region.wanted
  cases hg : o.guard with
  | none => rfl
  | some gw =>
    obtain ⟨g, want⟩ := gw
    have hy : yielded ops a.tmps g = yielded ops b.tmps g := by
      unfold yielded
      cases ht : (ops[g]?).bind (·.dst) with
      | none => rfl
      | some t =>
        have := h t (by simp [Oper.looksAt, hg, ht])
        by_cases h1 : t < a.tmps.size
        · have h2 : t < b.tmps.size := hz ▸ h1
          simp [h1, h2] at this ⊢
          rw [this]
        · have h2 : ¬ t < b.tmps.size := hz ▸ h1
          simp [h1, h2]
    simp only [hy]
theorem Gives.alike {o : Oper} {v : Value} {a b : Act} (hs : ∀ cs b, o.op ≠ .select cs b) (h : Alike ops o a b) (hz : a.tmps.size = b.tmps.size) (hy : Gives P ops C o v a) : Gives P ops C o v b := by
  unfold Gives relAt at *
  rwa [← exec_alike hs h, ← wanted_alike h hz]
/-- Some value of which R holds; but for the blocks D nothing that was there has turned. -/
def sumUpon (P : Program) (D : List Nat) (R : Rel) (w : World) : Result Next → Prop
  | .ok (.value u) w' => Kept (fun b => b ∉ D) w w' ∧ R u w'
  | .ok .skip w' => Kept (fun b => b ∉ D) w w' ∧ R undef w'
  | .ok (.enter f args) w' => w' = w ∧ Calls P f args w (fun e w'' => ∃ u, e = .returned u ∧ Kept (fun b => b ∉ D) w w'' ∧ R u w'')
  | _ => False
def sumAt (P : Program) (D : List Nat) (o : Oper) (a : Act) (R : Rel) (w : World) : Prop := sumUpon P D R w ((execOp a.eval o).run P w)
theorem wp_of_sumAt {D : List Nat} {o : Oper} {a : Act} {w : World} {R : Rel} {K : Act → World → Prop} {Q' : Exit → Act → World → Prop} (h : sumAt P D o a R w) (hk : ∀ v w', Kept (fun b => b ∉ D) w w' → R v w' → K (a.put o.dst v) w') : o.wp P a w K Q' := by
  unfold sumAt at h
  unfold Oper.wp
  generalize (execOp a.eval o).run P w = r at *
  cases r with
  | ok nx w' =>
    cases nx <;> simp only [sumUpon] at h <;> simp only [Oper.upon]
    case value u => exact hk _ _ h.1 h.2
    case skip => exact hk _ _ h.1 h.2
    case enter f args =>
      obtain ⟨e1, hc⟩ := h
      rw [e1]
      exact hc.mono fun e w'' ⟨u, he, hb, hR⟩ => by subst he; exact hk _ _ hb hR
  | halt x w' => simp only [sumUpon] at h
theorem sumAt.alike {D : List Nat} {o : Oper} {R : Rel} {w : World} {a b : Act} (hs : ∀ cs b, o.op ≠ .select cs b) (h : Alike ops o a b) (hy : sumAt P D o a R w) : sumAt P D o b R w := by
  unfold sumAt at *
  rwa [← exec_alike hs h]

/-! ### the walk -/
/-- One value, whatever the world, which stays as it is. -/
def fixUpon (w : World) (v : Value) : Result Next → Prop
  | .ok (.value u) w' => w' = w ∧ u = v
  | _ => False
def fixAt (P : Program) (o : Oper) (a : Act) (w : World) (v : Value) : Prop := fixUpon w v ((execOp a.eval o).run P w)
def fixOp (P : Program) (o : Oper) (a : Act) (K : Act → Prop) : Prop := ∃ v, (∀ w, fixAt P o a w v) ∧ K (a.put o.dst v)
def Fixes (P : Program) (ops : Array Oper) (o : Oper) (v : Value) (a : Act) : Prop :=
  (Region.wanted o (yielded ops a.tmps) = true ∧ ∀ w, fixAt P o a w v) ∨ (Region.wanted o (yielded ops a.tmps) = false ∧ v = undef)
theorem relAt_of_fix {o : Oper} {a : Act} {w : World} {v : Value} (h : fixAt P o a w v) : relAt P o a w v := by
  unfold fixAt at h
  unfold relAt
  generalize (execOp a.eval o).run P w = r at *
  cases r with
  | ok nx w' => cases nx <;> simp only [fixUpon] at h <;> exact h
  | halt x w' => exact h.elim
theorem wp_of_fix {o : Oper} {a : Act} {w : World} {v : Value} {K : Act → World → Prop} {Q : Exit → Act → World → Prop} (h : fixAt P o a w v) (hk : K (a.put o.dst v) w) : o.wp P a w K Q := by
  unfold fixAt at h
  unfold Oper.wp
  generalize (execOp a.eval o).run P w = r at *
  cases r with
  | ok nx w' =>
    cases nx <;> simp only [fixUpon] at h
    obtain ⟨rfl, rfl⟩ := h
    exact hk
  | halt x w' => exact h.elim
theorem Fixes.gives {o : Oper} {v : Value} {a : Act} (h : Fixes P ops o v a) : Gives P ops C o v a := h.imp (fun h => ⟨h.1, fun w _ => relAt_of_fix (h.2 w)⟩) id
theorem Fixes.alike {o : Oper} {v : Value} {a b : Act} (hs : ∀ cs b, o.op ≠ .select cs b) (h : Alike ops o a b) (hz : a.tmps.size = b.tmps.size) (hy : Fixes P ops o v a) : Fixes P ops o v b := by
  unfold Fixes fixAt at *
  rwa [← exec_alike hs h, ← wanted_alike h hz]
/-- What an operation of a kind owes. -/
def Owe (P : Program) (ops : Array Oper) (C : World → Prop) (k : Nat) (o : Oper) (v : Value) (a : Act) : Prop := if k = 0 then Gives P ops C o v a else Fixes P ops o v a
def wpQs (P : Program) (ops : Array Oper) (C : World → Prop) (L : Act → Prop) : List Nat → List Oper → Act → Prop
  | _, [], a => L a
  | [], _ :: _, _ => False
  | 0 :: ks, o :: l, a => if Region.wanted o (yielded ops a.tmps) then relOp P o a C (wpQs P ops C L ks l) else wpQs P ops C L ks l (a.put o.dst undef)
  | 1 :: ks, o :: l, a => if Region.wanted o (yielded ops a.tmps) then fixOp P o a (wpQs P ops C L ks l) else wpQs P ops C L ks l (a.put o.dst undef)
  | (_ + 2) :: ks, _ :: l, a => wpQs P ops C L ks l a
theorem wpQs_nil {L : Act → Prop} {ks : List Nat} {a : Act} (h : L a) : wpQs P ops C L ks [] a := by unfold wpQs; exact h
theorem wpQs_q {L : Act → Prop} {ks : List Nat} {a : Act} {o : Oper} {l : List Oper}
    (h : ∀ K : Act → Prop, (∀ a, wpQs P ops C L ks l a → K a) → if Region.wanted o (yielded ops a.tmps) then relOp P o a C K else K (a.put o.dst undef)) : wpQs P ops C L (0 :: ks) (o :: l) a := h _ fun _ h => h
theorem wpQs_f {L : Act → Prop} {ks : List Nat} {a : Act} {o : Oper} {l : List Oper}
    (h : ∀ K : Act → Prop, (∀ a, wpQs P ops C L ks l a → K a) → if Region.wanted o (yielded ops a.tmps) then fixOp P o a K else K (a.put o.dst undef)) : wpQs P ops C L (1 :: ks) (o :: l) a := h _ fun _ h => h
theorem wpQs_s {L : Act → Prop} {ks : List Nat} {a : Act} {o : Oper} {l : List Oper} {k : Nat} (h : wpQs P ops C L ks l a) : wpQs P ops C L ((k + 2) :: ks) (o :: l) a := h
def wpLs (P : Program) (C : World → Prop) (w0 : World) (Ds : Nat → List Nat) (Rs : Nat → Rel) (an : Nat → Nat → Bool) (T : Act → World → Prop) : List Nat → List Oper → Nat → Act → (World → Prop) → ((Nat → Prop) → World → Prop) → Prop
  | _, [], _, a, Φ, _ => ∀ w', C w' → Φ w' → T a w'
  | [], _ :: _, _, _, _, _ => False
  | 0 :: ks, _ :: l, i, a, Φ, Ψ => wpLs P C w0 Ds Rs an T ks l (i + 1) a Φ Ψ
  | 1 :: ks, _ :: l, i, a, Φ, Ψ => wpLs P C w0 Ds Rs an T ks l (i + 1) a Φ Ψ
  | 2 :: ks, o :: l, i, a, Φ, Ψ => (∀ w', C w' → Kept (fun b => b ∈ Ds i) w0 w' → Ψ (fun j => an i j = true) w' → sumAt P (Ds i) o a (Rs i) w') ∧ ∀ v, wpLs P C w0 Ds Rs an T ks l (i + 1) (a.put o.dst v) (fun w => Φ w ∧ Rs i v w) (fun S w => Ψ S w ∧ (S i → Rs i v w))
  | (_ + 3) :: ks, _ :: l, i, a, Φ, Ψ => wpLs P C w0 Ds Rs an T ks l (i + 1) a Φ Ψ
def tails : List Nat → List Oper → List Oper
  | _, [] => []
  | [], _ :: _ => []
  | 0 :: ks, _ :: l => tails ks l
  | 1 :: ks, _ :: l => tails ks l
  | 2 :: ks, _ :: l => tails ks l
  | (_ + 3) :: ks, o :: l => o :: tails ks l

/-- The numbers from k on, below n, of kinds that p lets. -/
def nums (ks : List Nat) (p : Nat → Bool) (k n : Nat) : List Nat := (List.range' k (n - k)).filter fun i => p (kd ks i)
theorem mem_nums {ks : List Nat} {p : Nat → Bool} {k n i : Nat} : i ∈ nums ks p k n ↔ (k ≤ i ∧ i < n) ∧ p (kd ks i) = true := by
  unfold nums
  simp only [List.mem_filter, List.mem_range'_1]
  constructor
  · rintro ⟨h1, h2⟩; exact ⟨⟨h1.1, by omega⟩, h2⟩
  · rintro ⟨h1, h2⟩; exact ⟨⟨h1.1, by omega⟩, h2⟩
theorem nums_step {ks : List Nat} {p : Nat → Bool} {k n : Nat} (h : k < n) : nums ks p k n = if p (kd ks k) then k :: nums ks p (k + 1) n else nums ks p (k + 1) n := by
  unfold nums
  rw [show n - k = (n - (k + 1)) + 1 by omega, List.range'_succ, List.filter_cons]
theorem nums_none {ks : List Nat} {p : Nat → Bool} {k n : Nat} (h : n ≤ k) : nums ks p k n = [] := by unfold nums; rw [show n - k = 0 by omega]; rfl
abbrev pQ (k : Nat) : Bool := decide (k < 2)
abbrev pL (k : Nat) : Bool := k == 2
abbrev pT (k : Nat) : Bool := decide (3 ≤ k)
theorem kd_at {ks : List Nat} {i k : Nat} {r : List Nat} (h : ks.drop i = k :: r) : kd ks i = k ∧ ks.drop (i + 1) = r := by
  constructor
  · have := List.getElem?_drop (xs := ks) (i := i) (j := 0)
    rw [h] at this
    simp only [List.getElem?_cons_zero, Nat.add_zero] at this
    simp [kd, ← this]
  · rw [← List.tail_drop, h]; rfl
theorem op_at {l r : List Oper} {i : Nat} {o : Oper} (h : l.drop i = o :: r) : l.toArray[i]? = some o ∧ l.drop (i + 1) = r ∧ i < l.length := by
  refine ⟨?_, ?_, ?_⟩
  · have := List.getElem?_drop (xs := l) (i := i) (j := 0)
    rw [h] at this
    simpa using this.symm
  · rw [← List.tail_drop, h]; rfl
  · rcases Nat.lt_or_ge i l.length with h' | h'
    · exact h'
    · rw [List.drop_eq_nil_of_le h'] at h; cases h

section
variable {l : List Oper} {ks : List Nat}
theorem qs_facts {L : Act → Prop} : ∀ (r : List Oper) (kr : List Nat) (k : Nat) (a : Act), l.drop k = r → ks.drop k = kr → wpQs P l.toArray C L kr r a →
    ∃ V : Nat → Value, (∀ i o, k ≤ i → l.toArray[i]? = some o → kd ks i < 2 → Owe P l.toArray C (kd ks i) o (V i) (stL l.toArray V (nums ks pQ k i) a)) ∧ L (stL l.toArray V (nums ks pQ k l.length) a) := by
  intro r
  induction r with
  | nil =>
    intro kr k a hr _ h
    have hk : l.length ≤ k := by simpa using hr
    refine ⟨fun _ => undef, fun i o hi ho => ?_, ?_⟩
    · have := (Array.getElem?_eq_some_iff.1 ho).1; simp at this; omega
    · rw [nums_none hk]; unfold wpQs at h; exact h
  | cons o r ih =>
    intro kr k a hr hkr h
    obtain ⟨ho, hr', hlt⟩ := op_at hr
    have hdst : dstOf l.toArray k = o.dst := by unfold dstOf; rw [ho]; rfl
    cases kr with
    | nil => exact h.elim
    | cons c kr =>
      obtain ⟨hc, hkr'⟩ := kd_at hkr
      have step : ∀ (v : Value), c < 2 → Owe P l.toArray C c o v a → wpQs P l.toArray C L kr r (a.put o.dst v) →
          ∃ V : Nat → Value, (∀ i o, k ≤ i → l.toArray[i]? = some o → kd ks i < 2 → Owe P l.toArray C (kd ks i) o (V i) (stL l.toArray V (nums ks pQ k i) a)) ∧ L (stL l.toArray V (nums ks pQ k l.length) a) := by
        intro v hc2 hy h2
        obtain ⟨V, h3, h4⟩ := ih kr (k + 1) _ hr' hkr' h2
        have hV : ∀ (S : List Nat) (a : Act), (∀ i ∈ S, k < i) → stL l.toArray (fun i => if i = k then v else V i) S a = stL l.toArray V S a := by
          intro S
          induction S with
          | nil => intro a _; rfl
          | cons i S ihS =>
            intro a hS
            have hi := hS i (by simp)
            rw [stL_cons, stL_cons, ihS _ (fun j hj => hS j (List.mem_cons_of_mem _ hj)), if_neg (by omega)]
        have hst : ∀ n, k < n → stL l.toArray (fun i => if i = k then v else V i) (nums ks pQ k n) a = stL l.toArray V (nums ks pQ (k + 1) n) (a.put o.dst v) := fun n hn => by
          rw [nums_step hn, hc, if_pos (by simp; omega), stL_cons, hdst, if_pos rfl]
          exact hV _ _ fun i hi => by have := (mem_nums.1 hi).1.1; omega
        refine ⟨fun i => if i = k then v else V i, fun i o' hi ho' hk2 => ?_, by rw [hst _ hlt]; exact h4⟩
        rcases Nat.lt_or_eq_of_le hi with h5 | h5
        · rw [hst i h5]; dsimp only; rw [if_neg (show ¬ i = k by omega)]; exact h3 i o' (by omega) ho' hk2
        · subst h5
          rw [nums_none (Nat.le_refl _)]
          dsimp only
          rw [if_pos rfl, hc]
          rw [ho] at ho'
          obtain rfl := Option.some.inj ho'
          exact hy
      match c, h, hc with
      | 0, h, hc =>
        unfold wpQs at h
        by_cases hw : Region.wanted o (yielded l.toArray a.tmps) = true
        · rw [if_pos hw] at h
          obtain ⟨v, h1, h2⟩ := h
          exact step v (by omega) (show Gives P l.toArray C o v a from .inl ⟨hw, h1⟩) h2
        · rw [if_neg hw] at h
          exact step undef (by omega) (show Gives P l.toArray C o undef a from .inr ⟨by simpa using hw, rfl⟩) h
      | 1, h, hc =>
        unfold wpQs at h
        by_cases hw : Region.wanted o (yielded l.toArray a.tmps) = true
        · rw [if_pos hw] at h
          obtain ⟨v, h1, h2⟩ := h
          exact step v (by omega) (show Fixes P l.toArray o v a from .inl ⟨hw, h1⟩) h2
        · rw [if_neg hw] at h
          exact step undef (by omega) (show Fixes P l.toArray o undef a from .inr ⟨by simpa using hw, rfl⟩) h
      | c + 2, h, hc =>
        unfold wpQs at h
        obtain ⟨V, h3, h4⟩ := ih kr (k + 1) _ hr' hkr' h
        have hst : ∀ n, k < n → nums ks pQ k n = nums ks pQ (k + 1) n := fun n hn => by rw [nums_step hn, hc, if_neg (by simp [pQ])]
        refine ⟨V, fun i o' hi ho' hk2 => ?_, by rw [hst _ hlt]; exact h4⟩
        rcases Nat.lt_or_eq_of_le hi with h5 | h5
        · rw [hst i h5]; exact h3 i o' (by omega) ho' hk2
        · subst h5; omega
theorem ls_facts {w0 : World} {Ds : Nat → List Nat} {Rs : Nat → Rel} {an : Nat → Nat → Bool} {T : Act → World → Prop} : ∀ (r : List Oper) (kr : List Nat) (k : Nat) (a : Act) (Φ : World → Prop) (Ψ : (Nat → Prop) → World → Prop), l.drop k = r → ks.drop k = kr → wpLs P C w0 Ds Rs an T kr r k a Φ Ψ →
    ∀ V : Nat → Value, (∀ i o, k ≤ i → l.toArray[i]? = some o → kd ks i = 2 → ∀ w', C w' → Kept (fun b => b ∈ Ds i) w0 w' → Ψ (fun j => an i j = true) w' → (∀ j, k ≤ j → j < i → kd ks j = 2 → an i j = true → Rs j (V j) w') → sumAt P (Ds i) o (stL l.toArray V (nums ks pL k i) a) (Rs i) w') ∧
      ∀ w', C w' → Φ w' → (∀ i, k ≤ i → i < l.length → kd ks i = 2 → Rs i (V i) w') → T (stL l.toArray V (nums ks pL k l.length) a) w' := by
  intro r
  induction r with
  | nil =>
    intro kr k a Φ Ψ hr _ h V
    have hk : l.length ≤ k := by simpa using hr
    refine ⟨fun i o hi ho => ?_, fun w' h1 h2 _ => ?_⟩
    · have := (Array.getElem?_eq_some_iff.1 ho).1; simp at this; omega
    · rw [nums_none hk]; unfold wpLs at h; exact h w' h1 h2
  | cons o r ih =>
    intro kr k a Φ Ψ hr hkr h V
    obtain ⟨ho, hr', hlt⟩ := op_at hr
    have hdst : dstOf l.toArray k = o.dst := by unfold dstOf; rw [ho]; rfl
    cases kr with
    | nil => exact h.elim
    | cons c kr =>
      obtain ⟨hc, hkr'⟩ := kd_at hkr
      have skip : c ≠ 2 → wpLs P C w0 Ds Rs an T kr r (k + 1) a Φ Ψ → (∀ i o, k ≤ i → l.toArray[i]? = some o → kd ks i = 2 → ∀ w', C w' → Kept (fun b => b ∈ Ds i) w0 w' → Ψ (fun j => an i j = true) w' → (∀ j, k ≤ j → j < i → kd ks j = 2 → an i j = true → Rs j (V j) w') → sumAt P (Ds i) o (stL l.toArray V (nums ks pL k i) a) (Rs i) w') ∧
          ∀ w', C w' → Φ w' → (∀ i, k ≤ i → i < l.length → kd ks i = 2 → Rs i (V i) w') → T (stL l.toArray V (nums ks pL k l.length) a) w' := fun hc2 h => by
        obtain ⟨h3, h4⟩ := ih kr (k + 1) a Φ Ψ hr' hkr' h V
        have hst : ∀ n, k < n → nums ks pL k n = nums ks pL (k + 1) n := fun n hn => by rw [nums_step hn, hc, if_neg (by simpa using hc2)]
        refine ⟨fun i o' hi ho' hk2 => ?_, fun w' h1 h2 h5 => by rw [hst _ hlt]; exact h4 w' h1 h2 fun i hi => h5 i (by omega)⟩
        rcases Nat.lt_or_eq_of_le hi with h5 | h5
        · rw [hst i h5]; exact fun w' h6 h7 h8 h9 => h3 i o' (by omega) ho' hk2 w' h6 h7 h8 fun j hj => h9 j (by omega)
        · subst h5; omega
      match c, h, hc, skip with
      | 0, h, hc, skip => unfold wpLs at h; exact skip (by omega) h
      | 1, h, hc, skip => unfold wpLs at h; exact skip (by omega) h
      | 2, h, hc, _ =>
        unfold wpLs at h
        obtain ⟨h3, h4⟩ := ih kr (k + 1) _ _ _ hr' hkr' (h.2 (V k)) V
        have hst : ∀ n, k < n → stL l.toArray V (nums ks pL k n) a = stL l.toArray V (nums ks pL (k + 1) n) (a.put o.dst (V k)) := fun n hn => by
          rw [nums_step hn, hc, if_pos (by simp), stL_cons, hdst]
        refine ⟨fun i o' hi ho' hk2 => ?_, fun w' h1 h2 h5 => by rw [hst _ hlt]; exact h4 w' h1 ⟨h2, h5 k (Nat.le_refl _) hlt hc⟩ fun i hi => h5 i (by omega)⟩
        rcases Nat.lt_or_eq_of_le hi with h5 | h5
        · rw [hst i h5]; exact fun w' h6 h7 h8 h9 => h3 i o' (by omega) ho' hk2 w' h6 h7 ⟨h8, fun e => h9 k (Nat.le_refl _) h5 hc e⟩ fun j hj => h9 j (by omega)
        · subst h5
          rw [nums_none (Nat.le_refl _)]
          rw [ho] at ho'
          obtain rfl := Option.some.inj ho'
          exact fun w' h6 h7 h8 _ => h.1 w' h6 h7 h8
      | c + 3, h, hc, skip => unfold wpLs at h; exact skip (by omega) h
theorem tails_eq : ∀ (r : List Oper) (kr : List Nat) (k : Nat), l.drop k = r → ks.drop k = kr → kr.length = r.length → tails kr r = (nums ks pT k l.length).filterMap fun i => l.toArray[i]? := by
  intro r
  induction r with
  | nil =>
    intro kr k hr _ _
    have hk : l.length ≤ k := by simpa using hr
    rw [nums_none hk]; unfold tails; rfl
  | cons o r ih =>
    intro kr k hr hkr hlen
    obtain ⟨ho, hr', hlt⟩ := op_at hr
    cases kr with
    | nil => simp at hlen
    | cons c kr =>
      obtain ⟨hc, hkr'⟩ := kd_at hkr
      have h1 := ih kr (k + 1) hr' hkr' (by simpa using hlen)
      rw [nums_step hlt, hc]
      match c with
      | 0 => rw [if_neg (by simp)]; unfold tails; exact h1
      | 1 => rw [if_neg (by simp)]; unfold tails; exact h1
      | 2 => rw [if_neg (by simp)]; unfold tails; exact h1
      | c + 3 => rw [if_pos (by simp)]; unfold tails; simp only [List.filterMap_cons, ho, h1]
end
end
attribute [go_sem] fixOp fixAt fixUpon
end Go.Proofs.Ytkopenemoddbbaa

/- A region that draws its order, in general: the law. No program in sight. -/
namespace Go.Proofs.Ytkopenemoddbbaa
open Go.RowKit

section
variable {P : Program} {ops : Array Oper} {C : World → Prop} {ks : List Nat}
/-- What is asked of a region and its kinds. -/
structure Sch (ops : Array Oper) (ks : List Nat) (anc : Nat → Nat → Prop) : Prop where
  sel : ∀ (j : Nat) (o : Oper) cs b, ops[j]? = some o → o.op ≠ .select cs b
  len : ks.length = ops.size
  apart : Apart ops
  edges : ∀ (i : Nat) (o : Oper), ops[i]? = some o → ∀ e ∈ o.after, Region.binds .any e = true → e.on < i
  lower : ∀ i j, anc i j → j < i ∧ ∃ o, ops[i]? = some o ∧ ∃ e ∈ o.after, Region.binds .any e = true ∧ (e.on = j ∨ anc e.on j)
  looks : ∀ (i : Nat) (o : Oper), ops[i]? = some o → ∀ t ∈ o.looksAt ops, ∀ j, dstOf ops j = some t → (anc i j ∧ (kd ks j < 2 ∨ 3 ≤ kd ks i ∨ (kd ks i = 2 ∧ kd ks j = 2))) ∨ (kd ks i < 3 ∧ kd ks i ≠ 1 ∧ 3 ≤ kd ks j)
  tail : ∀ (i : Nat) (o : Oper), ops[i]? = some o → 3 ≤ kd ks i → ∀ j, j < ops.size → kd ks j = 1 ∨ (3 ≤ kd ks j ∧ i ≤ j) ∨ anc i j
def ancB (b : Array Nat) (i j : Nat) : Bool := (b.getD i 0).testBit j
def schedB0 (ops : Array Oper) (ks : List Nat) : Bool :=
  Region.noSelect ops && ks.length == ops.size &&
  (List.range ops.size).all fun i => match ops[i]? with
    | none => false
    | some o => o.after.all (fun e => !Region.binds .any e || decide (e.on < i)) &&
      (List.range ops.size).all fun j =>
        (j == i || match o.dst with | none => true | some d => dstOf ops j != some d) &&
        (match dstOf ops j with | none => true | some d => !(o.looksAt ops).contains d || (ancB (Region.before ops) i j && (decide (kd ks j < 2) || decide (3 ≤ kd ks i) || (decide (kd ks i = 2) && decide (kd ks j = 2)))) || (decide (kd ks i < 3) && kd ks i != 1 && decide (3 ≤ kd ks j))) &&
        (!ancB (Region.before ops) i j || (decide (j < i) && o.after.any fun e => Region.binds .any e && (e.on == j || ancB (Region.before ops) e.on j))) &&
        (decide (kd ks i < 3) || kd ks j == 1 || (decide (3 ≤ kd ks j) && decide (i ≤ j)) || ancB (Region.before ops) i j)
def guardsB (ops : Array Oper) (ks : List Nat) : Bool := (List.range ops.size).all fun i => match ops[i]? with
    | none => false
    | some o => kd ks i != 2 || o.guard.isNone
def schedB (ops : Array Oper) (ks : List Nat) : Bool := schedB0 ops ks && guardsB ops ks
theorem guard_of (h : schedB ops ks = true) (i : Nat) (o : Oper) (ho : ops[i]? = some o) (hk : kd ks i = 2) : o.guard = none := by
  simp only [schedB, guardsB, Bool.and_eq_true, List.all_eq_true, List.mem_range] at h
  have := h.2 i (Array.getElem?_eq_some_iff.1 ho).1
  rw [ho] at this
  simpa [hk] using this
theorem sch_of0 (h : schedB0 ops ks = true) : Sch ops ks (fun i j => i < ops.size ∧ j < ops.size ∧ ancB (Region.before ops) i j = true) := by
  simp only [schedB0, Bool.and_eq_true, beq_iff_eq, List.all_eq_true, List.mem_range] at h
  obtain ⟨⟨h1, h2⟩, h3⟩ := h
  have key : ∀ (i : Nat) (o : Oper), ops[i]? = some o → (o.after.all (fun e => !Region.binds .any e || decide (e.on < i)) = true) ∧ ∀ j, j < ops.size →
      (((j == i || match o.dst with | none => true | some d => dstOf ops j != some d) = true ∧
        (match dstOf ops j with | none => true | some d => !(o.looksAt ops).contains d || (ancB (Region.before ops) i j && (decide (kd ks j < 2) || decide (3 ≤ kd ks i) || (decide (kd ks i = 2) && decide (kd ks j = 2)))) || (decide (kd ks i < 3) && kd ks i != 1 && decide (3 ≤ kd ks j))) = true) ∧
        (!ancB (Region.before ops) i j || (decide (j < i) && o.after.any fun e => Region.binds .any e && (e.on == j || ancB (Region.before ops) e.on j))) = true) ∧
        (decide (kd ks i < 3) || kd ks j == 1 || (decide (3 ≤ kd ks j) && decide (i ≤ j)) || ancB (Region.before ops) i j) = true := fun i o ho => by
    have := h3 i (Array.getElem?_eq_some_iff.1 ho).1
    rw [ho] at this
    simp only [Bool.and_eq_true, List.all_eq_true, List.mem_range] at this
    exact ⟨this.1, this.2⟩
  have low : ∀ (i : Nat) (o : Oper), ops[i]? = some o → ∀ e ∈ o.after, Region.binds .any e = true → e.on < i := fun i o ho e he hb => by
    have := Array.all_eq_true_iff_forall_mem.1 (key i o ho).1 e he
    simpa [hb] using this
  refine ⟨Region.noSelect_spec h1, h2, fun i j d hij hi hj => ?_, low, fun i j ⟨hi, hj, ha⟩ => ?_, fun i o ho t ht j hj => ?_, fun i o ho hk j hj => ?_⟩
  · have hjlt : j < ops.size := by
      unfold dstOf at hj
      cases h : ops[j]? with
      | none => rw [h] at hj; cases hj
      | some _ => exact (Array.getElem?_eq_some_iff.1 h).1
    cases ho : ops[i]? with
    | none => unfold dstOf at hi; rw [ho] at hi; cases hi
    | some o =>
      have hod : o.dst = some d := by unfold dstOf at hi; rw [ho] at hi; exact hi
      have := ((key i o ho).2 j hjlt).1.1.1
      rw [hod] at this
      simp only [Bool.or_eq_true, beq_iff_eq, bne_iff_ne, ne_eq] at this
      rcases this with e | e
      · exact hij e.symm
      · exact e hj
  · have ho : ops[i]? = some (ops[i]'hi) := Array.getElem?_eq_getElem hi
    have h4 := ((key i _ ho).2 j hj).1.2
    rw [ha] at h4
    simp only [Bool.not_true, Bool.false_or, Bool.and_eq_true, decide_eq_true_eq] at h4
    obtain ⟨e, he, hb⟩ := Array.any_eq_true'.1 h4.2
    simp only [Bool.and_eq_true, Bool.or_eq_true, beq_iff_eq] at hb
    have := low i _ ho e he hb.1
    exact ⟨h4.1, _, ho, e, he, hb.1, hb.2.imp id fun h => ⟨by omega, hj, h⟩⟩
  · have hjlt : j < ops.size := by
      unfold dstOf at hj
      cases h : ops[j]? with
      | none => rw [h] at hj; cases hj
      | some _ => exact (Array.getElem?_eq_some_iff.1 h).1
    have h4 := ((key i o ho).2 j hjlt).1.1.2
    rw [hj] at h4
    have h5 : (o.looksAt ops).contains t = true := by simpa using ht
    simp only [h5, Bool.not_true, Bool.false_or, Bool.and_eq_true, Bool.or_eq_true, decide_eq_true_eq, bne_iff_ne, ne_eq] at h4
    rcases h4 with h4 | h4
    · exact .inl ⟨⟨(Array.getElem?_eq_some_iff.1 ho).1, hjlt, h4.1⟩, or_assoc.1 h4.2⟩
    · exact .inr ⟨h4.1.1, h4.1.2, h4.2⟩
  · have h4 := ((key i o ho).2 j hj).2
    simp only [Bool.or_eq_true, decide_eq_true_eq, beq_iff_eq, Bool.and_eq_true] at h4
    rcases h4 with ((h4 | h4) | h4) | h4
    · omega
    · exact .inl h4
    · exact .inr (.inl h4)
    · exact .inr (.inr ⟨(Array.getElem?_eq_some_iff.1 ho).1, hj, h4⟩)

theorem sch_of (h : schedB ops ks = true) : Sch ops ks (fun i j => i < ops.size ∧ j < ops.size ∧ ancB (Region.before ops) i j = true) := sch_of0 (by simp only [schedB, Bool.and_eq_true] at h; exact h.1)

/-! ### what has come up -/
abbrev up (listed : Array Bool) (i : Nat) : Bool := listed.getD i false
def Upw (ops : Array Oper) (listed : Array Bool) : Prop := ∀ (j : Nat) (o : Oper), up listed j = true → ops[j]? = some o → ∀ e ∈ o.after, Region.binds .any e = true → up listed e.on = true
variable {anc : Nat → Nat → Prop}
theorem Sch.looks1 (H : Sch ops ks anc) {i : Nat} {o : Oper} (ho : ops[i]? = some o) (hk : kd ks i = 1 ∨ 3 ≤ kd ks i) {t : Tmp} (ht : t ∈ o.looksAt ops) {j : Nat} (hj : dstOf ops j = some t) : anc i j ∧ (kd ks j < 2 ∨ 3 ≤ kd ks i) := by
  rcases H.looks i o ho t ht j hj with h | h
  · exact ⟨h.1, by omega⟩
  · omega
theorem Sch.anc_up (H : Sch ops ks anc) {listed : Array Bool} (hU : Upw ops listed) : ∀ (i : Nat) (o : Oper) (j : Nat), ops[i]? = some o → (∀ e ∈ o.after, Region.binds .any e = true → up listed e.on = true) → anc i j → up listed j = true := by
  intro i
  induction i using Nat.strongRecOn with
  | _ i ih =>
    intro o j ho he ha
    obtain ⟨_, o', ho', e, hm, hb, h⟩ := H.lower i j ha
    rw [ho] at ho'
    obtain rfl := Option.some.inj ho'
    rcases h with h | h
    · rw [← h]; exact he e hm hb
    · obtain ⟨_, o2, ho2, _⟩ := H.lower _ _ h
      exact ih e.on (H.edges i o ho e hm hb) o2 j ho2 (hU e.on o2 (he e hm hb) ho2) h
theorem up_set {listed : Array Bool} {i j : Nat} (hi : i < listed.size) : up (listed.setIfInBounds i true) j = if j = i then true else up listed j := by
  unfold up
  by_cases h : j = i
  · subst h; simp [hi]
  · rw [if_neg h, getD_set_ne false (fun e => h e.symm)]
theorem Upw.set {listed : Array Bool} (hU : Upw ops listed) {i : Nat} (hi : i < listed.size) {o : Oper} (ho : ops[i]? = some o) (he : ∀ e ∈ o.after, Region.binds .any e = true → up listed e.on = true) : Upw ops (listed.setIfInBounds i true) := by
  intro j oj hj hoj e hm hb
  rw [up_set hi] at hj ⊢
  by_cases h : e.on = i
  · rw [if_pos h]
  · rw [if_neg h]
    by_cases hji : j = i
    · subst hji
      rw [ho] at hoj
      obtain rfl := Option.some.inj hoj
      exact he e hm hb
    · rw [if_neg hji] at hj
      exact hU j oj hj hoj e hm hb
def cnt (n : Nat) (listed : Array Bool) : Nat := (List.range n).countP fun i => !up listed i
theorem countP_flip (p q : Nat → Bool) (i : Nat) (h1 : p i = true) (h2 : q i = false) (h3 : ∀ j, j ≠ i → q j = p j) : ∀ l : List Nat, l.Nodup → i ∈ l → l.countP p = l.countP q + 1 := by
  intro l
  induction l with
  | nil => intro _ h; cases h
  | cons a l ih =>
    intro hn h
    rw [List.nodup_cons] at hn
    by_cases ha : a = i
    · subst ha
      rw [List.countP_cons_of_pos h1, List.countP_cons_of_neg (by rw [h2]; decide)]
      congr 1
      exact List.countP_congr fun j hj => by rw [h3 j (fun e => hn.1 (e ▸ hj))]
    · have hi : i ∈ l := by
        rcases List.mem_cons.1 h with e | e
        · exact absurd e.symm ha
        · exact e
      have := ih hn.2 hi
      cases hp : p a with
      | true => rw [List.countP_cons_of_pos hp, List.countP_cons_of_pos (by rw [h3 a ha]; exact hp), this]
      | false => rw [List.countP_cons_of_neg (by rw [hp]; decide), List.countP_cons_of_neg (by rw [h3 a ha, hp]; decide), this]
theorem cnt_set {n : Nat} {listed : Array Bool} (hs : listed.size = n) {i : Nat} (hi : i < n) (hu : up listed i = false) : cnt n listed = cnt n (listed.setIfInBounds i true) + 1 := by
  refine countP_flip _ _ i (by rw [hu]; rfl) ?_ (fun j hj => ?_) _ List.nodup_range (List.mem_range.2 hi)
  · rw [up_set (by omega), if_pos rfl]; rfl
  · rw [up_set (by omega), if_neg hj]
theorem cnt_zero {n : Nat} {listed : Array Bool} (h : cnt n listed = 0) {i : Nat} (hi : i < n) : up listed i = true := by
  have := List.countP_eq_zero.1 h i (List.mem_range.2 hi)
  simpa using this
theorem Sch.ready_ne (H : Sch ops ks anc) {listed : Array Bool} (hs : listed.size = ops.size) (h : cnt ops.size listed ≠ 0) : Region.ready .any ops listed ≠ [] := by
  intro hr
  apply h
  have all : ∀ i, i < ops.size → up listed i = true := by
    intro i
    induction i using Nat.strongRecOn with
    | _ i ih =>
      intro hi
      cases hu : up listed i with
      | true => rfl
      | false =>
        exfalso
        have : i ∈ Region.ready .any ops listed := mem_ready.2 ⟨by rw [getD_any (by omega)]; exact hu, _, Array.getElem?_eq_getElem hi, fun e he hb => by
          have h1 := H.edges i _ (Array.getElem?_eq_getElem hi) e he hb
          exact ih _ h1 (by omega)⟩
        rw [hr] at this; cases this
  exact List.countP_eq_zero.2 fun i hi => by rw [all i (List.mem_range.1 hi)]; decide
theorem ready_nil {listed : Array Bool} (hs : listed.size = ops.size) (h : cnt ops.size listed = 0) : Region.ready .any ops listed = [] := by
  cases hr : Region.ready .any ops listed with
  | nil => rfl
  | cons i r =>
    exfalso
    obtain ⟨hu, o, ho, _⟩ := mem_ready.1 (show i ∈ Region.ready .any ops listed by rw [hr]; simp)
    have hi := (Array.getElem?_eq_some_iff.1 ho).1
    rw [getD_any (by omega)] at hu
    have := cnt_zero h hi
    rw [show up listed i = listed.getD i false from rfl, hu] at this
    cases this
theorem nums_split {p : Nat → Bool} {k n i : Nat} (h1 : k ≤ i) (h2 : i < n) (h3 : p (kd ks i) = true) : nums ks p k n = nums ks p k i ++ i :: nums ks p (i + 1) n := by
  unfold nums
  have e : List.range' k (n - k) = List.range' k (i - k) ++ List.range' i (n - i) := by
    rw [show n - k = (i - k) + (n - i) by omega, ← List.range'_append_1]
    congr 2
    omega
  rw [e, List.filter_append, show n - i = (n - (i + 1)) + 1 by omega, List.range'_succ, List.filter_cons, if_pos h3]

/-! ### the tail -/
theorem stL_put (V : Nat → Value) {x : Option Tmp} {v : Value} (S : List Nat) : ∀ a, (∀ j ∈ S, ∀ d, x = some d → dstOf ops j ≠ some d) → (stL ops V S a).put x v = stL ops V S (a.put x v) := by
  induction S with
  | nil => intro a _; rfl
  | cons i S ih =>
    intro a h
    rw [stL_cons, stL_cons, ih _ (fun j hj => h j (List.mem_cons_of_mem _ hj)), Act.put_comm a v (V i) (fun d hd e => h i (by simp) d hd e)]
theorem stL_defer (V : Nat → Value) (g : List Deferred) (S : List Nat) : ∀ a, ({ stL ops V S a with defers := g } : Act) = stL ops V S { a with defers := g } := by
  induction S with
  | nil => intro a; rfl
  | cons i S ih =>
    intro a
    rw [stL_cons, stL_cons, ih]
    congr 1
    cases dstOf ops i <;> rfl
theorem wp_shift {o : Oper} {V : Nat → Value} {S : List Nat} {a : Act} {w : World} {X K K' : Act → World → Prop} {Q : Exit → Act → World → Prop} (he : execOp (stL ops V S a).eval o = execOp a.eval o) (hS : ∀ j ∈ S, ∀ d, o.dst = some d → dstOf ops j ≠ some d)
    (hK : ∀ g v w', K (stL ops V S (({ a with defers := g } : Act).put o.dst v)) w' → K' (({ a with defers := g } : Act).put o.dst v) w')
    (h : o.wp P (stL ops V S a) w K (Exit.then X (fun _ _ _ => False))) : o.wp P a w K' Q := by
  have hd : ∀ v w', K ((stL ops V S a).put o.dst v) w' → K' (a.put o.dst v) w' := fun v w' h => hK a.defers v w' (by rw [← stL_put V S a hS]; exact h)
  unfold Oper.wp at h ⊢
  rw [he] at h
  generalize (execOp a.eval o).run P w = r at *
  cases r with
  | ok nx w' =>
    cases nx <;> simp only [Oper.upon] at h ⊢
    case value u => exact hd _ _ h
    case skip => exact hd _ _ h
    case defer d =>
      refine hK (d :: a.defers) undef w' ?_
      rw [← stL_put V S _ hS, ← stL_defer]
      rw [stL_defers] at h
      exact h
    case enter f args =>
      refine h.mono fun e w'' he => ?_
      cases e with
      | returned v => exact hd _ _ he
      | panicked c => exact he.elim
      | outgrown => obtain ⟨_, _, hf⟩ := he; exact hf.elim
    case row r args => exact fun c cs => let ⟨v, w'', hx, hs⟩ := h c cs; ⟨v, w'', hd _ _ hx, hs⟩
  | halt x w' => cases x <;> simp only [Oper.upon] at h ⊢ <;> first | exact h.elim | exact h

variable {Q : Exit → Act → World → Prop} {V : Nat → Value} {a0 : Act}
abbrev nonT (ks : List Nat) (n : Nat) : List Nat := nums ks pQ 0 n ++ nums ks pL 0 n
abbrev pF (k : Nat) : Bool := k == 1
theorem mem_nonT {n i : Nat} : i ∈ nonT ks n ↔ i < n ∧ kd ks i < 3 := by
  unfold nonT
  rw [List.mem_append, mem_nums, mem_nums]
  simp only [pQ, pL, decide_eq_true_eq, beq_iff_eq]
  omega
theorem getD_out {a : Act} {t : Nat} (h : ¬ t < a.tmps.size) : a.tmps.getD t undef = undef := by simp [h]
theorem Sch.phase2 (H : Sch ops ks anc) (hG : ∀ (i : Nat) (o : Oper), ops[i]? = some o → kd ks i = 1 → Fixes P ops o (V i) (stL ops V (nums ks pQ 0 i) a0)) :
    ∀ (f : Nat) (listed : Array Bool) (cur : Act) (w : World), listed.size = ops.size → Upw ops listed → cnt ops.size listed = f → (∀ i, i < ops.size → kd ks i = 0 ∨ kd ks i = 2 → up listed i = true) →
      (∀ t, (∀ j, 3 ≤ kd ks j → dstOf ops j ≠ some t) → cur.tmps.getD t undef = (stL ops V ((nonT ks ops.size).filter (up listed)) a0).tmps.getD t undef) → cur.tmps.size = a0.tmps.size →
      wpList P ops (Exit.then (fun a w => Q .normal a w) (fun _ _ _ => False)) (((nums ks pT 0 ops.size).filter fun i => !up listed i).filterMap fun i => ops[i]?) (stL ops V ((nums ks pF 0 ops.size).filter fun i => !up listed i) cur) w →
      Go.wpAny P .any ops Q f listed cur w := by
  intro f
  induction f with
  | zero =>
    intro listed cur w hs hU hc hz hcur hsz hT
    refine ⟨ready_nil hs hc, ?_⟩
    have e : ∀ p : Nat → Bool, ((nums ks p 0 ops.size).filter fun i => !up listed i) = [] := fun p => List.filter_eq_nil_iff.2 fun i hi => by
      rw [cnt_zero hc (mem_nums.1 hi).1.2]; decide
    rw [e, e] at hT
    exact hT
  | succ f ih =>
    intro listed cur w hs hU hc hz hcur hsz hT
    refine ⟨fun hr => absurd hr (H.ready_ne hs (by omega)), fun i hi => ?_⟩
    obtain ⟨hu, o, ho, he⟩ := mem_ready.1 hi
    have hlt := (Array.getElem?_eq_some_iff.1 ho).1
    rw [getD_any (by omega)] at hu
    have hdst : dstOf ops i = o.dst := by unfold dstOf; rw [ho]; rfl
    have hkz : ¬ (kd ks i = 0 ∨ kd ks i = 2) := fun h => by
      have := hz i hlt h
      rw [show up listed i = listed.getD i false from rfl, hu] at this; cases this
    have hup : ∀ j, anc i j → up listed j = true := fun j => H.anc_up hU i o j ho he
    have hU' := hU.set (by omega) ho he
    have hs' : (listed.setIfInBounds i true).size = ops.size := by simp [hs]
    have hc' : cnt ops.size (listed.setIfInBounds i true) = f := by have := cnt_set hs hlt hu; omega
    have hz' : ∀ j, j < ops.size → kd ks j = 0 ∨ kd ks j = 2 → up (listed.setIfInBounds i true) j = true := fun j hj h => by
      rw [up_set (by omega)]; split
      · rfl
      · exact hz j hj h
    unfold wpOp
    rw [ho]
    dsimp only
    by_cases hk : kd ks i = 1
    · -- an address
      have hal : Alike ops o (stL ops V (nums ks pQ 0 i) a0) cur := fun t ht => by
        rw [hcur t fun j hj e => by have := (H.looks1 ho (.inl hk) ht e).2; omega]
        refine stL_agree H.apart fun j hj => ?_
        obtain ⟨ha, hk2⟩ := H.looks1 ho (.inl hk) ht hj
        have h1 := hup j ha
        have h2 := (H.lower i j ha).1
        refine ⟨⟨fun _ => List.mem_filter.2 ⟨mem_nonT.2 ⟨by omega, by omega⟩, h1⟩, fun _ => mem_nums.2 ⟨⟨Nat.zero_le _, h2⟩, by simp [pQ]; omega⟩⟩, fun _ => rfl⟩
      have hy := Fixes.alike (H.sel i o · · ho) hal (by rw [stL_size, hsz]) (hG i o ho hk)
      have hT' : wpList P ops (Exit.then (fun a w => Q .normal a w) (fun _ _ _ => False)) (((nums ks pT 0 ops.size).filter fun j => !up (listed.setIfInBounds i true) j).filterMap fun i => ops[i]?)
          (stL ops V ((nums ks pF 0 ops.size).filter fun j => !up (listed.setIfInBounds i true) j) (cur.put o.dst (V i))) w := by
        have e1 : ((nums ks pT 0 ops.size).filter fun j => !up (listed.setIfInBounds i true) j) = (nums ks pT 0 ops.size).filter fun j => !up listed j := List.filter_congr fun j hj => by
          have := (mem_nums.1 hj).2
          simp only [pT, decide_eq_true_eq] at this
          rw [up_set (by omega), if_neg (fun e => by subst e; omega)]
        have e2 : stL ops V ((nums ks pF 0 ops.size).filter fun j => !up (listed.setIfInBounds i true) j) (cur.put o.dst (V i)) = stL ops V ((nums ks pF 0 ops.size).filter fun j => !up listed j) cur := by
          rw [← hdst, ← stL_cons]
          refine stL_same H.apart fun j => ⟨?_, fun _ => rfl⟩
          simp only [List.mem_cons, List.mem_filter, Bool.not_eq_true', mem_nums, pF, beq_iff_eq]
          rw [up_set (by omega)]
          constructor
          · rintro (rfl | ⟨h1, h2⟩)
            · exact ⟨⟨⟨Nat.zero_le _, hlt⟩, hk⟩, hu⟩
            · by_cases hji : j = i
              · rw [if_pos hji] at h2; cases h2
              · rw [if_neg hji] at h2; exact ⟨h1, h2⟩
          · rintro ⟨h1, h2⟩
            by_cases hji : j = i
            · exact .inl hji
            · exact .inr ⟨h1, by rw [if_neg hji]; exact h2⟩
        rw [e1, e2]; exact hT
      have hcur' : ∀ t, (∀ j, 3 ≤ kd ks j → dstOf ops j ≠ some t) → (cur.put o.dst (V i)).tmps.getD t undef = (stL ops V ((nonT ks ops.size).filter (up (listed.setIfInBounds i true))) a0).tmps.getD t undef := fun t ht => by
        have hmem : i ∈ (nonT ks ops.size).filter (up (listed.setIfInBounds i true)) := List.mem_filter.2 ⟨mem_nonT.2 ⟨hlt, by omega⟩, by rw [up_set (by omega), if_pos rfl]⟩
        by_cases hd : o.dst = some t
        · by_cases htl : t < cur.tmps.size
          · rw [hd, put_hit _ _ htl, stL_hit H.apart V (hdst.trans hd) _ a0 (hsz ▸ htl) hmem]
          · have h1 : ¬ t < (cur.put o.dst (V i)).tmps.size := by rw [put_size]; exact htl
            have h2 : ¬ t < (stL ops V ((nonT ks ops.size).filter (up (listed.setIfInBounds i true))) a0).tmps.size := by rw [stL_size, ← hsz]; exact htl
            rw [getD_out h1, getD_out h2]
        · rw [put_miss _ _ hd, hcur t ht]
          refine stL_agree H.apart fun j hj => ⟨?_, fun _ => rfl⟩
          rw [List.mem_filter, List.mem_filter, up_set (by omega), if_neg (fun e => by subst e; rw [hdst] at hj; exact hd hj)]
      rcases hy with ⟨hw, hv⟩ | ⟨hw, hv⟩
      · rw [if_pos hw]
        exact .inl (wp_of_fix (hv w) (ih _ _ w hs' hU' hc' hz' hcur' (by rw [put_size, hsz]) hT'))
      · rw [if_neg (by rw [hw]; decide), ← hv]
        exact ih _ _ w hs' hU' hc' hz' hcur' (by rw [put_size, hsz]) hT'
    · -- the next of the tail
      have hk3 : 3 ≤ kd ks i := by omega
      have hhead : ∀ q : Nat → Bool, q i = true → (∀ j, j < i → 3 ≤ kd ks j → q j = false) → ((nums ks pT 0 ops.size).filter q) = i :: (nums ks pT (i + 1) ops.size).filter q := fun q h1 h2 => by
        rw [nums_split (Nat.zero_le i) hlt (by simp [pT]; omega), List.filter_append, List.filter_cons, if_pos h1, List.filter_eq_nil_iff.2, List.nil_append]
        intro j hj
        obtain ⟨hj1, hj2⟩ := mem_nums.1 hj
        simp only [pT, decide_eq_true_eq] at hj2
        rw [h2 j hj1.2 hj2]; decide
      have hearly : ∀ j, j < i → 3 ≤ kd ks j → up listed j = true := fun j hj hk => by
        rcases H.tail i o ho hk3 j (by omega) with h | h | h
        · omega
        · omega
        · exact hup j h
      rw [hhead (fun j => !up listed j) (by rw [show up listed i = listed.getD i false from rfl, hu]; rfl) (fun j hj hk => by rw [hearly j hj hk]; rfl), List.filterMap_cons, ho] at hT
      dsimp only at hT
      have hS : ∀ j ∈ (nums ks pF 0 ops.size).filter (fun j => !up listed j), ∀ d, o.dst = some d → dstOf ops j ≠ some d := fun j hj d hd e => by
        obtain ⟨h1, _⟩ := List.mem_filter.1 hj
        have h2 := (mem_nums.1 h1).2
        simp only [pF, beq_iff_eq] at h2
        exact H.apart i j d (fun e' => by subst e'; omega) (hdst.trans hd) e
      have hal : Alike ops o (stL ops V ((nums ks pF 0 ops.size).filter fun j => !up listed j) cur) cur := fun t ht => by
        refine stL_miss V _ _ fun j hj e => ?_
        obtain ⟨_, h1⟩ := List.mem_filter.1 hj
        rw [hup j (H.looks1 ho (.inr hk3) ht e).1] at h1
        cases h1
      have next : ∀ (g : List Deferred) (v : Value) (w' : World), wpList P ops (Exit.then (fun a w => Q .normal a w) (fun _ _ _ => False)) (((nums ks pT (i + 1) ops.size).filter fun j => !up listed j).filterMap fun i => ops[i]?)
          (stL ops V ((nums ks pF 0 ops.size).filter fun j => !up listed j) (({ cur with defers := g } : Act).put o.dst v)) w' → Go.wpAny P .any ops Q f (listed.setIfInBounds i true) (({ cur with defers := g } : Act).put o.dst v) w' := fun g v w' h => by
        refine ih _ _ w' hs' hU' hc' hz' (fun t ht => ?_) (by rw [put_size]; exact hsz) ?_
        · rw [put_miss _ _ (fun e => ht i hk3 (hdst.trans e))]
          show cur.tmps.getD t undef = _
          rw [hcur t ht]
          refine stL_agree H.apart fun j hj => ⟨?_, fun _ => rfl⟩
          rw [List.mem_filter, List.mem_filter, up_set (by omega), if_neg (fun e => by subst e; exact ht j hk3 hj)]
        · have e1 : ((nums ks pT 0 ops.size).filter fun j => !up (listed.setIfInBounds i true) j) = (nums ks pT (i + 1) ops.size).filter fun j => !up listed j := by
            rw [nums_split (Nat.zero_le i) hlt (by simp [pT]; omega), List.filter_append, List.filter_cons, if_neg (by rw [up_set (by omega), if_pos rfl]; decide), List.filter_eq_nil_iff.2, List.nil_append]
            · exact List.filter_congr fun j hj => by
                have := (mem_nums.1 hj).1
                rw [up_set (by omega), if_neg (by omega)]
            · intro j hj
              obtain ⟨hj1, hj2⟩ := mem_nums.1 hj
              simp only [pT, decide_eq_true_eq] at hj2
              rw [up_set (by omega), if_neg (by omega), hearly j hj1.2 hj2]; decide
          have e2 : ((nums ks pF 0 ops.size).filter fun j => !up (listed.setIfInBounds i true) j) = (nums ks pF 0 ops.size).filter fun j => !up listed j := List.filter_congr fun j hj => by
            have := (mem_nums.1 hj).2
            simp only [pF, beq_iff_eq] at this
            rw [up_set (by omega), if_neg (fun e => by subst e; omega)]
          rw [e1, e2]; exact h
      simp only [wpList] at hT
      rw [wanted_alike hal (by rw [stL_size])] at hT
      by_cases hw : Region.wanted o (yielded ops cur.tmps) = true
      · rw [if_pos hw] at hT ⊢
        rcases hT with hT | ⟨_, _, _, hf⟩
        · exact .inl (wp_shift (exec_alike (H.sel i o · · ho) hal) hS next hT)
        · exact hf.elim
      · rw [if_neg hw] at hT ⊢
        rw [stL_put V _ _ hS] at hT
        exact next cur.defers undef w hT
/-! ### all of it -/
theorem Sch.phase1 (H : Sch ops ks anc) (hGd : ∀ (i : Nat) (o : Oper), ops[i]? = some o → kd ks i = 2 → o.guard = none) {Vq : Nat → Value} {w0 : World} {Ds : Nat → List Nat} {Rs : Nat → Rel}
    (hC : ∀ i w w', C w → Kept (fun b => b ∉ Ds i) w w' → C w') (hR : ∀ i j v w w', i ≠ j → Rs i v w → Kept (fun b => b ∉ Ds j) w w' → Rs i v w') (hDs : ∀ i j b, i ≠ j → b ∈ Ds i → b ∉ Ds j)
    (hG : ∀ (i : Nat) (o : Oper), ops[i]? = some o → kd ks i < 2 → Owe P ops C (kd ks i) o (Vq i) (stL ops Vq (nums ks pQ 0 i) a0))
    (hL : ∀ V : Nat → Value, (∀ (i : Nat) (o : Oper), ops[i]? = some o → kd ks i = 2 → ∀ w', C w' → Kept (fun b => b ∈ Ds i) w0 w' → (∀ j, j < i → kd ks j = 2 → anc i j → Rs j (V j) w') → sumAt P (Ds i) o (stL ops V (nums ks pL 0 i) (stL ops Vq (nums ks pQ 0 ops.size) a0)) (Rs i) w') ∧
      ∀ w', C w' → (∀ i, i < ops.size → kd ks i = 2 → Rs i (V i) w') → wpList P ops (Exit.then (fun a w => Q .normal a w) (fun _ _ _ => False)) ((nums ks pT 0 ops.size).filterMap fun i => ops[i]?) (stL ops V (nums ks pL 0 ops.size) (stL ops Vq (nums ks pQ 0 ops.size) a0)) w') :
    ∀ (f : Nat) (listed : Array Bool) (V : Nat → Value) (w : World), listed.size = ops.size → Upw ops listed → cnt ops.size listed = f → (∀ i, kd ks i < 2 → V i = Vq i) → (∀ i, 3 ≤ kd ks i → up listed i = false) → C w → (∀ i, up listed i = false → Kept (fun b => b ∈ Ds i) w0 w) →
      (∀ i, i < ops.size → kd ks i = 2 → up listed i = true → Rs i (V i) w) → Go.wpAny P .any ops Q f listed (stL ops V ((nonT ks ops.size).filter (up listed)) a0) w := by
  intro f
  induction f with
  | zero =>
    intro listed V w hs hU hc hV hT hw hpre hRs
    refine H.phase2 (V := V) (a0 := a0) (fun i o ho hk => ?_) 0 listed _ w hs hU hc (fun i hi _ => cnt_zero hc hi) (fun t _ => rfl) (stL_size _ _ _) ?_
    · have := hG i o ho (by omega)
      rw [show stL ops V (nums ks pQ 0 i) a0 = stL ops Vq (nums ks pQ 0 i) a0 from stL_same H.apart fun j => ⟨Iff.rfl, fun h => hV j (by have := (mem_nums.1 h).2; simpa [pQ] using this)⟩, hV i (by omega)]
      unfold Owe at this
      rwa [if_neg (by omega)] at this
    · exact finish listed V w hs hV hT hw hRs (fun i hi _ => cnt_zero hc hi)
  | succ f ih =>
    intro listed V w hs hU hc hV hT hw hpre hRs
    by_cases hall : ∀ i, i < ops.size → kd ks i = 0 ∨ kd ks i = 2 → up listed i = true
    · refine H.phase2 (V := V) (a0 := a0) (fun i o ho hk => ?_) (f + 1) listed _ w hs hU hc hall (fun t _ => rfl) (stL_size _ _ _) ?_
      · have := hG i o ho (by omega)
        rw [show stL ops V (nums ks pQ 0 i) a0 = stL ops Vq (nums ks pQ 0 i) a0 from stL_same H.apart fun j => ⟨Iff.rfl, fun h => hV j (by have := (mem_nums.1 h).2; simpa [pQ] using this)⟩, hV i (by omega)]
        unfold Owe at this
        rwa [if_neg (by omega)] at this
      · exact finish listed V w hs hV hT hw hRs hall
    · refine ⟨fun hr => absurd hr (H.ready_ne hs (by omega)), fun i hi => ?_⟩
      obtain ⟨hu, o, ho, he⟩ := mem_ready.1 hi
      have hlt := (Array.getElem?_eq_some_iff.1 ho).1
      rw [getD_any (by omega)] at hu
      have hdst : dstOf ops i = o.dst := by unfold dstOf; rw [ho]; rfl
      have hup : ∀ j, anc i j → up listed j = true := fun j => H.anc_up hU i o j ho he
      have hk3 : kd ks i < 3 := by
        rcases Nat.lt_or_ge (kd ks i) 3 with h | h
        · exact h
        · exfalso
          apply hall
          intro j hj hk
          rcases H.tail i o ho h j hj with h1 | h1 | h1
          · omega
          · omega
          · exact hup j h1
      have hU' := hU.set (by omega) ho he
      have hs' : (listed.setIfInBounds i true).size = ops.size := by simp [hs]
      have hc' : cnt ops.size (listed.setIfInBounds i true) = f := by have := cnt_set hs hlt hu; omega
      have hT' : ∀ j, 3 ≤ kd ks j → up (listed.setIfInBounds i true) j = false := fun j hj => by
        rw [up_set (by omega), if_neg (fun e => by subst e; omega)]; exact hT j hj
      -- the state behind it
      have hst : ∀ (V' : Nat → Value) (v : Value), (∀ j, j ≠ i → V' j = V j) → V' i = v → (stL ops V ((nonT ks ops.size).filter (up listed)) a0).put o.dst v = stL ops V' ((nonT ks ops.size).filter (up (listed.setIfInBounds i true))) a0 := fun V' v h1 h2 => by
        have e : (stL ops V ((nonT ks ops.size).filter (up listed)) a0).put o.dst v = stL ops V' ((nonT ks ops.size).filter (up listed) ++ [i]) a0 := by
          rw [stL_app, stL_cons, hdst, h2, show stL ops V' ((nonT ks ops.size).filter (up listed)) a0 = stL ops V ((nonT ks ops.size).filter (up listed)) a0 from stL_same H.apart fun j => ⟨Iff.rfl, fun h => h1 j (fun e => by subst e; exact absurd ((List.mem_filter.1 h).2.symm.trans hu) (by decide))⟩]
          rfl
        rw [e]
        refine stL_same H.apart fun j => ⟨?_, fun _ => rfl⟩
        rw [List.mem_append, List.mem_filter, List.mem_filter, List.mem_singleton, up_set (by omega), mem_nonT]
        constructor
        · rintro (⟨h3, h4⟩ | rfl)
          · exact ⟨h3, by split <;> first | rfl | exact h4⟩
          · exact ⟨⟨hlt, hk3⟩, by rw [if_pos rfl]⟩
        · rintro ⟨h3, h4⟩
          by_cases hji : j = i
          · exact .inr hji
          · rw [if_neg hji] at h4; exact .inl ⟨h3, h4⟩
      have hlooks : ∀ t ∈ o.looksAt ops, ∀ j, dstOf ops j = some t → (up listed j = true ∧ j < i ∧ (kd ks j < 2 ∨ (kd ks i = 2 ∧ kd ks j = 2))) ∨ 3 ≤ kd ks j := fun t ht j hj => by
        rcases H.looks i o ho t ht j hj with ⟨h1, h2⟩ | h1
        · exact .inl ⟨hup j h1, (H.lower i j h1).1, by omega⟩
        · exact .inr h1.2.2
      have hpre' : ∀ w', (∀ j, j ≠ i → Kept (fun b => b ∈ Ds j) w w') → ∀ j, up (listed.setIfInBounds i true) j = false → Kept (fun b => b ∈ Ds j) w0 w' := fun w' h j hj => by
        have hji : j ≠ i := fun e => by subst e; rw [up_set (by omega), if_pos rfl] at hj; cases hj
        rw [up_set (by omega), if_neg hji] at hj
        exact (hpre j hj).trans (h j hji)
      unfold wpOp
      rw [ho]
      dsimp only
      by_cases hk : kd ks i < 2
      · have hal : Alike ops o (stL ops Vq (nums ks pQ 0 i) a0) (stL ops V ((nonT ks ops.size).filter (up listed)) a0) := fun t ht => by
          refine stL_agree H.apart fun j hj => ?_
          rcases hlooks t ht j hj with ⟨h1, h2, h3⟩ | h3
          · exact ⟨⟨fun _ => List.mem_filter.2 ⟨mem_nonT.2 ⟨by omega, by omega⟩, h1⟩, fun _ => mem_nums.2 ⟨⟨Nat.zero_le _, h2⟩, by simp [pQ]; omega⟩⟩, fun _ => (hV j (by omega)).symm⟩
          · exact ⟨⟨fun h => (by have := (mem_nums.1 h).2; simp [pQ] at this; omega), fun h => (by have := (mem_nonT.1 (List.mem_filter.1 h).1).2; omega)⟩, fun h => (by have := (mem_nums.1 h).2; simp [pQ] at this; omega)⟩
        have hy0 := hG i o ho hk
        have hy : Gives P ops C o (V i) (stL ops V ((nonT ks ops.size).filter (up listed)) a0) := by
          rw [hV i hk]
          unfold Owe at hy0
          by_cases hz : kd ks i = 0
          · rw [if_pos hz] at hy0
            exact Gives.alike (H.sel i o · · ho) hal (by rw [stL_size, stL_size]) hy0
          · rw [if_neg hz] at hy0
            exact Gives.alike (H.sel i o · · ho) hal (by rw [stL_size, stL_size]) hy0.gives
        rcases hy with ⟨hwn, hv⟩ | ⟨hwn, hv⟩
        · rw [if_pos hwn]
          refine .inl (wp_of_relAt (hv w hw) fun w' hb => ?_)
          have hbk : ∀ K : Nat → Prop, Kept K w w' := fun K => Kept.of_below hb
          rw [hst V (V i) (fun _ _ => rfl) rfl]
          exact ih _ V w' hs' hU' hc' hV hT' (hC 0 _ _ hw (hbk _)) (hpre' w' fun j hj => hbk _) fun j hj h1 h2 => hR j (j + 1) _ _ _ (by omega) (hRs j hj h1 (by rw [up_set (by omega), if_neg (fun e => by subst e; omega)] at h2; exact h2)) (hbk _)
        · rw [if_neg (by rw [hwn]; decide), ← hv, hst V (V i) (fun _ _ => rfl) rfl]
          exact ih _ V w hs' hU' hc' hV hT' hw (hpre' w fun j hj => Kept.refl _ _) fun j hj h1 h2 => hRs j hj h1 (by rw [up_set (by omega), if_neg (fun e => by subst e; omega)] at h2; exact h2)
      · have hk2 : kd ks i = 2 := by omega
        have hal : Alike ops o (stL ops V (nums ks pL 0 i) (stL ops Vq (nums ks pQ 0 ops.size) a0)) (stL ops V ((nonT ks ops.size).filter (up listed)) a0) := fun t ht => by
          rw [show stL ops Vq (nums ks pQ 0 ops.size) a0 = stL ops V (nums ks pQ 0 ops.size) a0 from stL_same H.apart fun j => ⟨Iff.rfl, fun h => (hV j (by have := (mem_nums.1 h).2; simpa [pQ] using this)).symm⟩, ← stL_app]
          refine stL_agree H.apart fun j hj => ⟨?_, fun _ => rfl⟩
          rcases hlooks t ht j hj with ⟨h1, h2, h3⟩ | h3
          · refine ⟨fun _ => List.mem_filter.2 ⟨mem_nonT.2 ⟨by omega, by omega⟩, h1⟩, fun _ => ?_⟩
            rcases h3 with h3 | ⟨-, h3⟩
            · exact List.mem_append_left _ (mem_nums.2 ⟨⟨Nat.zero_le _, by omega⟩, by simp [pQ]; omega⟩)
            · exact List.mem_append_right _ (mem_nums.2 ⟨⟨Nat.zero_le _, h2⟩, by simp [pL, h3]⟩)
          · refine ⟨fun h => ?_, fun h => (by have := (mem_nonT.1 (List.mem_filter.1 h).1).2; omega)⟩
            rcases List.mem_append.1 h with h | h
            · have := (mem_nums.1 h).2; simp [pQ] at this; omega
            · have := (mem_nums.1 h).2; simp [pL] at this; omega
        have hy := sumAt.alike (H.sel i o · · ho) hal ((hL V).1 i o ho hk2 w hw (hpre i hu) fun j hj1 hj2 hj3 => hRs j (by omega) hj2 (hup j hj3))
        rw [if_pos (by simp [Region.wanted, hGd i o ho hk2])]
        refine .inl (wp_of_sumAt hy fun v w' hb hv => ?_)
        rw [hst (fun j => if j = i then v else V j) v (fun j hj => by rw [if_neg hj]) (by rw [if_pos rfl])]
        refine ih _ _ w' hs' hU' hc' (fun j hj => by rw [if_neg (fun e => by subst e; omega)]; exact hV j hj) hT' (hC i _ _ hw hb) (hpre' w' fun j hj => hb.mono fun b hb' => hDs j i b hj hb') fun j hj h1 h2 => ?_
        by_cases hji : j = i
        · subst hji; rw [if_pos rfl]; exact hv
        · rw [if_neg hji]; rw [up_set (by omega), if_neg hji] at h2; exact hR j i _ _ _ hji (hRs j hj h1 h2) hb
where
  finish (listed : Array Bool) (V : Nat → Value) (w : World) (hs : listed.size = ops.size) (hV : ∀ i, kd ks i < 2 → V i = Vq i) (hT : ∀ i, 3 ≤ kd ks i → up listed i = false) (hw : C w) (hRs : ∀ i, i < ops.size → kd ks i = 2 → up listed i = true → Rs i (V i) w)
      (hall : ∀ i, i < ops.size → kd ks i = 0 ∨ kd ks i = 2 → up listed i = true) : wpList P ops (Exit.then (fun a w => Q .normal a w) (fun _ _ _ => False)) (((nums ks pT 0 ops.size).filter fun i => !up listed i).filterMap fun i => ops[i]?)
        (stL ops V ((nums ks pF 0 ops.size).filter fun i => !up listed i) (stL ops V ((nonT ks ops.size).filter (up listed)) a0)) w := by
    have h := (hL V).2 w hw fun i hi hk => hRs i hi hk (hall i hi (.inr hk))
    rw [show stL ops Vq (nums ks pQ 0 ops.size) a0 = stL ops V (nums ks pQ 0 ops.size) a0 from stL_same H.apart fun j => ⟨Iff.rfl, fun h => (hV j (by have := (mem_nums.1 h).2; simpa [pQ] using this)).symm⟩, ← stL_app] at h
    rw [← stL_app, List.filter_eq_self.2 (fun i hi => by
      have := (mem_nums.1 hi).2
      rw [hT i (by simpa [pT] using this)]; rfl)]
    rw [show stL ops V ((nonT ks ops.size).filter (up listed) ++ (nums ks pF 0 ops.size).filter fun i => !up listed i) a0 = stL ops V (nums ks pQ 0 ops.size ++ nums ks pL 0 ops.size) a0 from stL_same H.apart fun j => ⟨?_, fun _ => rfl⟩]
    · exact h
    · rw [List.mem_append, List.mem_filter, List.mem_filter, mem_nonT, mem_nums]
      simp only [pF, beq_iff_eq, Bool.not_eq_true']
      constructor
      · rintro (h1 | h1)
        · exact h1.1
        · exact ⟨h1.1.1.2, by omega⟩
      · intro h1
        cases hu : up listed j with
        | true => exact .inl ⟨h1, rfl⟩
        | false =>
          refine .inr ⟨⟨⟨Nat.zero_le _, h1.1⟩, ?_⟩, rfl⟩
          have h2 : ¬ (kd ks j = 0 ∨ kd ks j = 2) := fun h => by rw [hall j h1.1 h] at hu; cases hu
          omega

/-! ### the class of worlds -/
/-- The blocks D hold whatever. -/
def spoil (w : World) (D : List Nat) (f : Nat → Obj) : World := D.foldl (fun w b => w.putObj b (f b)) w
theorem spoil_nil (w : World) (f : Nat → Obj) : spoil w [] f = w := rfl
structure Messed where
  d : Nat
  os : Array Obj
  f : Nat → Obj
instance : Inhabited Messed := ⟨⟨0, #[], fun _ => default⟩⟩
abbrev Msd (w : World) (D : List Nat) : World → Prop := fun w' => ∃ p : Messed, w' = Go.Sort.grow (redrawn (spoil w D p.f) p.d) p.os
theorem putObj_same (w : World) (b : Nat) (o : Obj) : (w.putObj b o).os = w.os ∧ (w.putObj b o).tape = w.tape ∧ (w.putObj b o).output = w.output ∧ (w.putObj b o).heap.size = w.heap.size := ⟨rfl, rfl, rfl, by simp [World.putObj]⟩
theorem spoil_same (D : List Nat) (f : Nat → Obj) : ∀ w : World, (spoil w D f).os = w.os ∧ (spoil w D f).tape = w.tape ∧ (spoil w D f).output = w.output ∧ (spoil w D f).heap.size = w.heap.size := by
  induction D with
  | nil => intro w; exact ⟨rfl, rfl, rfl, rfl⟩
  | cons b D ih =>
    intro w
    obtain ⟨h1, h2, h3, h4⟩ := ih (w.putObj b (f b))
    obtain ⟨g1, g2, g3, g4⟩ := putObj_same w b (f b)
    exact ⟨h1.trans g1, h2.trans g2, h3.trans g3, h4.trans g4⟩
theorem spoil_miss {D : List Nat} {f : Nat → Obj} {k : Nat} : ∀ w : World, k ∉ D → (spoil w D f).heap[k]? = w.heap[k]? := by
  induction D with
  | nil => intro w _; rfl
  | cons b D ih =>
    intro w h
    have h1 := ih (w.putObj b (f b)) (fun e => h (List.mem_cons_of_mem _ e))
    exact h1.trans (World.putObj_heap_other (fun e => h (by rw [e]; simp)))
theorem spoil_hit {D : List Nat} {f : Nat → Obj} {k : Nat} : ∀ w : World, k ∈ D → k < w.heap.size → (spoil w D f).heap[k]? = some (f k) := by
  induction D with
  | nil => intro w h; cases h
  | cons b D ih =>
    intro w h hk
    by_cases hD : k ∈ D
    · exact ih (w.putObj b (f b)) hD (by rw [(putObj_same w b (f b)).2.2.2]; exact hk)
    · obtain rfl : k = b := by
        rcases List.mem_cons.1 h with e | e
        · exact e
        · exact absurd e hD
      exact (spoil_miss (w.putObj k (f k)) hD).trans (World.putObj_heap_same hk)
theorem msd_kept {w w' : World} {D : List Nat} (h : Msd w D w') : Kept (fun b => b ∉ D) w w' := by
  obtain ⟨p, rfl⟩ := h
  obtain ⟨h1, h2, h3, h4⟩ := spoil_same D p.f w
  have hb := below_regrown (spoil w D p.f) p.d p.os
  exact ⟨hb.os.trans h1, hb.tape.trans h2, hb.output.trans h3, by rw [← h4]; exact hb.size, fun b hlt hK => (hb.block b (by rw [h4]; exact hlt)).trans (spoil_miss w hK)⟩
theorem msd_of {w w' : World} {D : List Nat} (h : Kept (fun b => b ∉ D) w w') : Msd w D w' := by
  have hb : Below (spoil w D fun b => w'.heap.getD b default).heap.size (spoil w D fun b => w'.heap.getD b default) w' := by
    obtain ⟨h1, h2, h3, h4⟩ := spoil_same D (fun b => w'.heap.getD b default) w
    refine ⟨h.os.trans h1.symm, h.tape.trans h2.symm, h.output.trans h3.symm, by rw [h4]; exact h.size, fun k hk => ?_⟩
    rw [h4] at hk
    by_cases hD : k ∈ D
    · rw [spoil_hit w hD hk]
      have := Nat.lt_of_lt_of_le hk h.size
      simp [this]
    · rw [spoil_miss w hD]; exact h.block k hk hD
  obtain ⟨p, hp⟩ := regrown_of_below hb
  exact ⟨⟨p.d, p.os, fun b => w'.heap.getD b default⟩, hp⟩
theorem Kept.none {w w' : World} (h : Kept (fun b => b ∉ ([] : List Nat)) w w') : Below w.heap.size w w' := h.below (Nat.le_refl _) fun _ _ => by simp
/-- A block that is not spoilt, in every world of the class. -/
theorem Blk.sp {w : World} {g : Nat} {t : TypeId} {cs : Array Value} {D : List Nat} (h : Blk w g t cs) (hg : g ∉ D) (f : Nat → Obj) (d : Nat) (os : Array Obj) : Blk (Go.Sort.grow (redrawn (spoil w D f) d) os) g t cs :=
  (msd_kept (D := D) ⟨⟨d, os, f⟩, rfl⟩).blk hg h
theorem wpLs_nil {w0 : World} {Ds : Nat → List Nat} {Rs : Nat → Rel} {an : Nat → Nat → Bool} {T : Act → World → Prop} {i : Nat} {a : Act} {Φ : World → Prop} {Ψ : (Nat → Prop) → World → Prop} (h : ∀ w', C w' → Φ w' → T a w') : wpLs P C w0 Ds Rs an T [] [] i a Φ Ψ := by unfold wpLs; exact h
theorem wpLs_nilB {w0 : World} {Ds : Nat → List Nat} {Rs : Nat → Rel} {an : Nat → Nat → Bool} {T : Act → World → Prop} {i : Nat} {a : Act} {Φ : World → Prop} {Ψ : (Nat → Prop) → World → Prop} (h : ∀ w', Below w0.heap.size w0 w' → Φ w' → T a w') : wpLs P (Msd w0 []) w0 Ds Rs an T [] [] i a Φ Ψ := by
  unfold wpLs; exact fun w' hw => h w' (msd_kept hw).none
theorem wpLs_nilD {w0 : World} {D : List Nat} {Ds : Nat → List Nat} {Rs : Nat → Rel} {an : Nat → Nat → Bool} {T : Act → World → Prop} {i : Nat} {a : Act} {Φ : World → Prop} {Ψ : (Nat → Prop) → World → Prop} (h : ∀ w', Kept (fun b => b ∉ D) w0 w' → Φ w' → T a w') : wpLs P (Msd w0 D) w0 Ds Rs an T [] [] i a Φ Ψ := by
  unfold wpLs; exact fun w' hw => h w' (msd_kept hw)
theorem wpLs_one {w0 : World} {Ds : Nat → List Nat} {Rs : Nat → Rel} {an : Nat → Nat → Bool} {T : Act → World → Prop} {i : Nat} {a : Act} {Φ : World → Prop} {Ψ : (Nat → Prop) → World → Prop} {o : Oper} {l : List Oper} (h1 : ∀ w', C w' → Kept (fun b => b ∈ Ds i) w0 w' → sumAt P (Ds i) o a (Rs i) w') (h2 : ∀ v, wpLs P C w0 Ds Rs an T ks l (i + 1) (a.put o.dst v) (fun w => Φ w ∧ Rs i v w) (fun S w => Ψ S w ∧ (S i → Rs i v w))) :
    wpLs P C w0 Ds Rs an T (2 :: ks) (o :: l) i a Φ Ψ := by unfold wpLs; exact ⟨fun w' h h' _ => h1 w' h h', h2⟩
theorem wpLs_oneF {w0 : World} {Ds : Nat → List Nat} {Rs : Nat → Rel} {an : Nat → Nat → Bool} {T : Act → World → Prop} {i : Nat} {a : Act} {Φ : World → Prop} {Ψ : (Nat → Prop) → World → Prop} {o : Oper} {l : List Oper} (h1 : ∀ w', C w' → Kept (fun b => b ∈ Ds i) w0 w' → Ψ (fun j => an i j = true) w' → sumAt P (Ds i) o a (Rs i) w') (h2 : ∀ v, wpLs P C w0 Ds Rs an T ks l (i + 1) (a.put o.dst v) (fun w => Φ w ∧ Rs i v w) (fun S w => Ψ S w ∧ (S i → Rs i v w))) :
    wpLs P C w0 Ds Rs an T (2 :: ks) (o :: l) i a Φ Ψ := by unfold wpLs; exact ⟨h1, h2⟩
def notTwo : Nat → Prop
  | 2 => False
  | _ => True
theorem wpLs_skip {w0 : World} {Ds : Nat → List Nat} {Rs : Nat → Rel} {an : Nat → Nat → Bool} {T : Act → World → Prop} {i : Nat} {a : Act} {Φ : World → Prop} {Ψ : (Nat → Prop) → World → Prop} {o : Oper} {l : List Oper} {k : Nat} (h : wpLs P C w0 Ds Rs an T ks l (i + 1) a Φ Ψ) (hk : notTwo k := by exact trivial) : wpLs P C w0 Ds Rs an T (k :: ks) (o :: l) i a Φ Ψ := by
  match k, hk with
  | 0, _ => unfold wpLs; exact h
  | 1, _ => unfold wpLs; exact h
  | k + 3, _ => unfold wpLs; exact h
/-! ### the laws -/
theorem any_sched {Q : Exit → Act → World → Prop} {a : Act} {w : World} {l : List Oper} (ks : List Nat) (D : List Nat) (Ds : Nat → List Nat) (Rs : Nat → Rel) (hD : ∀ i b, b ∈ Ds i → b ∈ D) (hDs : ∀ i j b, i ≠ j → b ∈ Ds i → b ∉ Ds j)
    (hR : ∀ i j v w w', i ≠ j → Rs i v w → Kept (fun b => b ∉ Ds j) w w' → Rs i v w') (hB : schedB l.toArray ks = true)
    (h : wpQs P l.toArray (Msd w D) (fun a' => wpLs P (Msd w D) w Ds Rs (ancB (Region.before l.toArray)) (fun a'' w'' => wpList P l.toArray (Exit.then (fun a w => Q .normal a w) (fun _ _ _ => False)) (tails ks l) a'' w'') ks l 0 a' (fun _ => True) (fun _ _ => True)) ks l a) :
    Go.wpAny P .any l.toArray Q l.toArray.size (Array.replicate l.toArray.size false) a { w with drawn := w.drawn + 1 } := by
  have H := sch_of hB
  have hlen : ks.length = l.length := by simpa using H.len
  obtain ⟨Vq, h1, h2⟩ := qs_facts (l := l) (ks := ks) l ks 0 a rfl rfl h
  have e : l.length = l.toArray.size := by simp
  have h3 := fun V => ls_facts (l := l) (ks := ks) l ks 0 _ _ _ rfl rfl h2 V
  rw [tails_eq (l := l) (ks := ks) l ks 0 rfl rfl hlen, e] at h3
  have hd0 : ∀ K : Nat → Prop, Kept K w { w with drawn := w.drawn + 1 } := fun K => ⟨rfl, rfl, rfl, Nat.le_refl _, fun _ _ _ => rfl⟩
  have := H.phase1 (guard_of hB) (C := Msd w D) (Q := Q) (a0 := a) (w0 := w) (Ds := Ds) (Rs := Rs) (Vq := Vq) (fun i w1 w2 h4 h5 => msd_of ((msd_kept h4).trans (h5.mono fun b hb hi => hb (hD i b hi)))) hR hDs (fun i o ho hk => h1 i o (Nat.zero_le _) ho hk)
    (fun V => ⟨fun i o ho hk w' h6 h7 h8 => (h3 V).1 i o (Nat.zero_le _) ho hk w' h6 h7 trivial fun j _ h9 h10 h11 => h8 j h9 h10 ⟨(Array.getElem?_eq_some_iff.1 ho).1, by have := (Array.getElem?_eq_some_iff.1 ho).1; omega, h11⟩, fun w' hw' hr => (h3 V).2 w' hw' trivial fun i _ hi => hr i hi⟩)
    l.toArray.size (Array.replicate l.toArray.size false) Vq { w with drawn := w.drawn + 1 } (by simp) (fun j o hj => by simp [up, Array.getElem?_replicate] at hj; split at hj <;> cases hj)
    (by simp only [cnt]; rw [List.countP_eq_length.2 (fun i _ => by simp [up, Array.getElem?_replicate]; split <;> rfl)]; simp) (fun _ _ => rfl) (fun i _ => by simp [up, Array.getElem?_replicate]; split <;> rfl) (msd_of (hd0 _)) (fun _ _ => hd0 _)
    (fun i _ _ hu => by simp [up, Array.getElem?_replicate] at hu; split at hu <;> cases hu)
  have hf : (nonT ks l.toArray.size).filter (up (Array.replicate l.toArray.size false)) = [] := List.filter_eq_nil_iff.2 fun i _ => by simp [up, Array.getElem?_replicate]; split <;> simp
  rw [hf] at this
  exact this
/-- No block is written but the tail's. -/
theorem wp_sched {id : Nat} {Q : Exit → Act → World → Prop} {a : Act} {w : World} {l : List Oper} (ks : List Nat) (Rs : Nat → Rel) (hm : P.follows .mixedOrders = true) (hB : schedB l.toArray ks = true) (hR : ∀ i v w w', Rs i v w → Below w.heap.size w w' → Rs i v w')
    (h : wpQs P l.toArray (Msd w []) (fun a' => wpLs P (Msd w []) w (fun _ => []) Rs (ancB (Region.before l.toArray)) (fun a'' w'' => wpList P l.toArray (Exit.then (fun a w => Q .normal a w) (fun _ _ _ => False)) (tails ks l) a'' w'') ks l 0 a' (fun _ => True) (fun _ _ => True)) ks l a) : (Code.region id l.toArray true).wp P Q a w :=
  wp_region_any hm (any_sched ks [] (fun _ => []) Rs (fun _ _ h => h) (fun _ _ _ _ h => by cases h) (fun i _ v w w' _ h1 h2 => hR i v w w' h1 h2.none) hB h)
theorem in_sched {l' n id : Nat} {Q : Exit → Act → World → Prop} {a : Act} {w : World} {l : List Oper} (ks : List Nat) (Rs : Nat → Rel) (hm : P.follows .mixedOrders = true) (hB : schedB l.toArray ks = true) (hR : ∀ i v w w', Rs i v w → Below w.heap.size w w' → Rs i v w') (hd : noDefer l.toArray = true) (hQ : ¬ LetsOut Q)
    (h : wpQs P l.toArray (Msd w []) (fun a' => wpLs P (Msd w []) w (fun _ => []) Rs (ancB (Region.before l.toArray)) (fun a'' w'' => wpList P l.toArray (Exit.then (fun a w => Q .normal a w) (fun _ _ _ => False)) (tails ks l) a'' w'') ks l 0 a' (fun _ => True) (fun _ _ => True)) ks l a) : (Code.region id l.toArray true).wpIn (Fence.wide.inRound l') n P Q a w :=
  wpIn_region_any hm (any_in hd hQ _ _ _ _ (any_sched ks [] (fun _ => []) Rs (fun _ _ h => h) (fun _ _ _ _ h => by cases h) (fun i _ v w w' _ h1 h2 => hR i v w w' h1 h2.none) hB h))
/-- Blocks that are written at any time: each by one operation alone. -/
theorem wp_schedD {id : Nat} {Q : Exit → Act → World → Prop} {a : Act} {w : World} {l : List Oper} (ks : List Nat) (D : List Nat) (Ds : Nat → List Nat) (Rs : Nat → Rel) (hm : P.follows .mixedOrders = true) (hB : schedB l.toArray ks = true) (hD : ∀ i b, b ∈ Ds i → b ∈ D) (hDs : ∀ i j b, i ≠ j → b ∈ Ds i → b ∉ Ds j)
    (hR : ∀ i j v w w', i ≠ j → Rs i v w → Kept (fun b => b ∉ Ds j) w w' → Rs i v w')
    (h : wpQs P l.toArray (Msd w D) (fun a' => wpLs P (Msd w D) w Ds Rs (ancB (Region.before l.toArray)) (fun a'' w'' => wpList P l.toArray (Exit.then (fun a w => Q .normal a w) (fun _ _ _ => False)) (tails ks l) a'' w'') ks l 0 a' (fun _ => True) (fun _ _ => True)) ks l a) : (Code.region id l.toArray true).wp P Q a w :=
  wp_region_any hm (any_sched ks D Ds Rs hD hDs hR hB h)
/-- Two stores at any time, each into a block of its own that nothing else there reads. -/
def Ds2 (i1 b1 i2 b2 i : Nat) : List Nat := if i = i1 then [b1] else if i = i2 then [b2] else []
def Rs2 (i1 b1 : Nat) (t1 : TypeId) (c1 : Array Value) (i2 b2 : Nat) (t2 : TypeId) (c2 : Array Value) (i : Nat) : Rel := fun _ w => (i = i1 → Blk w b1 t1 c1) ∧ (i = i2 → Blk w b2 t2 c2)
theorem wp_two {id : Nat} {Q : Exit → Act → World → Prop} {a : Act} {w : World} {l : List Oper} (ks : List Nat) (i1 b1 : Nat) (t1 : TypeId) (c1 : Array Value) (i2 b2 : Nat) (t2 : TypeId) (c2 : Array Value) (hb : b1 ≠ b2) (hm : P.follows .mixedOrders = true) (hB : schedB l.toArray ks = true)
    (h : wpQs P l.toArray (Msd w [b1, b2]) (fun a' => wpLs P (Msd w [b1, b2]) w (Ds2 i1 b1 i2 b2) (Rs2 i1 b1 t1 c1 i2 b2 t2 c2) (ancB (Region.before l.toArray)) (fun a'' w'' => wpList P l.toArray (Exit.then (fun a w => Q .normal a w) (fun _ _ _ => False)) (tails ks l) a'' w'') ks l 0 a' (fun _ => True) (fun _ _ => True)) ks l a) : (Code.region id l.toArray true).wp P Q a w := by
  refine wp_schedD ks [b1, b2] (Ds2 i1 b1 i2 b2) (Rs2 i1 b1 t1 c1 i2 b2 t2 c2) hm hB (fun i b hb' => ?_) (fun i j b hij h1 h2 => ?_) (fun i j v w w' hij hr hk => ?_) h
  · unfold Ds2 at hb'
    split at hb'
    · simp at hb'; simp [hb']
    · split at hb'
      · simp at hb'; simp [hb']
      · cases hb'
  · unfold Ds2 at h1 h2
    split at h1
    · rename_i e1
      simp at h1
      subst h1
      split at h2
      · rename_i e2; exact hij (e1.trans e2.symm)
      · split at h2
        · simp at h2; exact hb h2
        · cases h2
    · split at h1
      · rename_i e1
        simp at h1
        subst h1
        split at h2
        · simp at h2; exact hb h2.symm
        · split at h2
          · rename_i e2; exact hij (e1.trans e2.symm)
          · cases h2
      · cases h1
  · refine ⟨fun e => hk.blk ?_ (hr.1 e), fun e => hk.blk ?_ (hr.2 e)⟩
    · unfold Ds2; intro hm'
      split at hm'
      · rename_i e2; exact hij (e.trans e2.symm)
      · split at hm'
        · simp at hm'; exact hb hm'
        · cases hm'
    · unfold Ds2; intro hm'
      split at hm'
      · simp at hm'; exact hb hm'.symm
      · split at hm'
        · rename_i e2; exact hij (e.trans e2.symm)
        · cases hm'
theorem two_fst {i1 b1 i2 b2 : Nat} {t1 t2 : TypeId} {c1 c2 : Array Value} {w w' : World} {u : Value} (hi : i1 ≠ i2) (h1 : Kept (fun b => b ≠ b1) w w') (h2 : Blk w' b1 t1 c1) : Kept (fun b => ¬ b ∈ Ds2 i1 b1 i2 b2 i1) w w' ∧ Rs2 i1 b1 t1 c1 i2 b2 t2 c2 i1 u w' :=
  ⟨h1.mono fun b h e => h (by simp [Ds2, e]), fun _ => h2, fun e => absurd e hi⟩
theorem two_snd {i1 b1 i2 b2 : Nat} {t1 t2 : TypeId} {c1 c2 : Array Value} {w w' : World} {u : Value} (hi : i1 ≠ i2) (h1 : Kept (fun b => b ≠ b2) w w') (h2 : Blk w' b2 t2 c2) : Kept (fun b => ¬ b ∈ Ds2 i1 b1 i2 b2 i2) w w' ∧ Rs2 i1 b1 t1 c1 i2 b2 t2 c2 i2 u w' :=
  ⟨h1.mono fun b h e => h (by simp [Ds2, Ne.symm hi, e]), fun e => absurd e.symm hi, fun _ => h2⟩
theorem kept3 {w : World} {b : Nat} {x y z : Value} : Kept (fun c => c ≠ b) w (((w.setCell ⟨b, 0, none⟩ x).setCell ⟨b, 1, none⟩ y).setCell ⟨b, 2, none⟩ z) :=
  (((Kept.refl _ w).setCell (p := ⟨b, 0, none⟩) (fun h => h rfl) _).setCell (p := ⟨b, 1, none⟩) (fun h => h rfl) _).setCell (p := ⟨b, 2, none⟩) (fun h => h rfl) _
theorem kept6 {w : World} {b : Nat} {x y z p q r : Value} : Kept (fun c => c ≠ b) w ((((((w.setCell ⟨b, 0, none⟩ x).setCell ⟨b, 1, none⟩ y).setCell ⟨b, 2, none⟩ z).setCell ⟨b, 3, none⟩ p).setCell ⟨b, 4, none⟩ q).setCell ⟨b, 5, none⟩ r) :=
  ((kept3.setCell (p := ⟨b, 3, none⟩) (fun h => h rfl) _).setCell (p := ⟨b, 4, none⟩) (fun h => h rfl) _).setCell (p := ⟨b, 5, none⟩) (fun h => h rfl) _
theorem kept1 {w : World} {b : Nat} {x : Value} : Kept (fun c => c ≠ b) w (w.setCell ⟨b, 0, none⟩ x) := (Kept.refl _ w).setCell (p := ⟨b, 0, none⟩) (fun h => h rfl) _
end
attribute [go_sem] sumAt sumUpon spoil_nil
end Go.Proofs.Ytkopenemoddbbaa

/- A blob is put. -/
namespace Go.Proofs.Ytkopenemoddbbaa
open Go.RowKit Go.Maps
attribute [local go_sem] Oper.semAt_some

/-- What a map of blobs tells at a key: none, if there is none. -/
def atL (l : List (Int × SL)) (k : Int) : SL := (getL l k).getD (none, 0, 0)
theorem look_c {w : World} {m n : Nat} {l : List (Int × SL)} {k : Int} (h : w.ownsMap Try.prog 3 RS m n (DM l)) (hk : In64 k) :
    (Instr.lookup 87 (.map (some m)) (.int .i64 k) false).run Try.prog w = .ok (slV (atL l k)) w := by
  obtain ⟨v, ps, hrun, hv⟩ := h.lookup lawI Try.underlying87 (zeroB w) (RS_mk (none, 0, 0)) (key64 hk)
  obtain ⟨s, rfl, e⟩ := RS_inv hv
  rw [hrun]
  have e1 : (DM l).atKey (.int .i64 k) (.held (none, 0, 0)) = .held s := congrArg Prod.fst e
  rw [atKey_DM] at e1
  unfold atL
  cases hg : getL l k with
  | none => rw [hg] at e1; simp only [DataW.held.injEq] at e1; rw [← e1]; rfl
  | some s' => rw [hg] at e1; simp only [DataW.held.injEq] at e1; rw [e1]; rfl
theorem atL_good {w : World} {base : Nat} {l : List (Int × SL)} (h : GoodL w base l) (k : Int) : GoodS w base (atL l k) ∧ (rdB w (atL l k)).length = sizeAt (cont w l) k := by
  unfold atL sizeAt
  rw [cont_get]
  cases hg : getL l k with
  | none => exact ⟨⟨Nat.le_refl _, by decide, fun h => absurd h (by decide)⟩, by rw [Option.getD_none, rdB_zero]; rfl⟩
  | some s => exact ⟨h.get hg, rfl⟩
theorem infW : (Try.prog.info? 92).map (fun i => (i.zero, i.size, i.bytes)) = some (some (.agg #[.int .i64 0, .slice none 0 0]), 2, 32) := by kernel_rfl
theorem DiskAt.facts {w : World} {base d bm : Nat} {v : Value} {S : DS} {sv lv : List (Int × SL)} {N M : Nat} (h : DiskAt w base d bm v S sv lv) (hok : DOk S N M) : Rise sv ∧ (∀ p ∈ lv, In64 p.1) ∧ sv.length + lv.length ≤ N ∧ GoodL w base (nowL sv lv) ∧ cont w (nowL sv lv) = S.now ∧ Rise (nowL sv lv) ∧ lens (nowL sv lv) ≤ N * M := by
  have hr : Rise sv := cont_rise (w := w) (by rw [← h.safe]; exact hok.rise)
  have hc : cont w (nowL sv lv) = S.now := by rw [cont_now, ← h.safe, ← h.l]; rfl
  have hg := h.gs.now h.gl
  refine ⟨hr, fun p hp => ?_, ?_, hg, hc, rise_now hr, ?_⟩
  · exact hok.keys (p.1, rdB w p.2) (List.mem_append.2 (.inr (by rw [h.l]; exact List.mem_map.2 ⟨p, hp, rfl⟩)))
  · have := hok.many
    rw [h.safe, h.l, cont_len, cont_len] at this
    exact this
  · rw [lens_is hg, hc]; exact lenB_now hok
theorem map_on {P : Program} {w w' : World} {k : TypeId} {b n : Nat} {D : DataW SL} (h : w.ownsMap P k RS b n D) (hb : Below w.heap.size w w') : w'.ownsMap P k RS b n D := map_kept h (hb.block _ h.lt)
/-- What the test of the room asks. -/
theorem room_is {w : World} {base : Nat} {S : DS} {nv : List (Int × SL)} {k : Int} {b : Bs} (hr : Rise nv) (hg : GoodL w base nv) (hc : cont w nv = S.now) : lenB (putL S.now (k, b)) + (atL nv k).2.1 = lens nv + b.length := by
  have h1 := lenB_put (k, b) (l := S.now) (by rw [← hc]; exact rise_map (rdB w) hr)
  obtain ⟨h2, h3⟩ := atL_good hg k
  rw [hc] at h3
  rw [← h2.len, h3, lens_is hg, hc]
  exact h1
theorem at_le (l : List (Int × SL)) (k : Int) : (atL l k).2.1 ≤ lens l := by
  induction l with
  | nil => exact Nat.le_refl _
  | cons x r ih =>
    unfold atL at ih ⊢
    rw [getL_cons]
    simp only [lens, List.map_cons, List.sum_cons] at ih ⊢
    split
    · simp
    · omega
theorem bsOf_self (l : Bs) : bsOf (fun i => l.getD i 0) l.length = l := by
  apply List.ext_getElem?
  intro i
  rcases Nat.lt_or_ge i l.length with h | h
  · rw [bsOf_at h, List.getD_eq_getElem?_getD, List.getElem?_eq_getElem h]; rfl
  · rw [List.getElem?_eq_none (by rw [bsOf_len]; exact h), List.getElem?_eq_none h]
theorem GoodS.off {w w' : World} {base d : Nat} {t : TypeId} {cs : Array Value} {s : SL} (h : GoodS w base s) (hk : Kept (fun b => b ≠ d) w w') (hb : base ≤ d) (hB : Blk w d t cs) (ht : t ≠ 5) : GoodS w' base s ∧ rdB w' s = rdB w s :=
  h.kept hk fun b hbb e => by
    subst e
    rcases hbb with hbb | ⟨cur, hbb⟩
    · omega
    · exact ht (blk_one hB hbb)
/-- A slice's own copy. -/
theorem clone_good {w : World} {base : Nat} {s : SL} (hs : GoodS w base s) (h47 : s.2.1 ≤ 140737488355328) :
    Calls Try.prog 57 #[slV s] w fun r w' => ∃ s' : SL, r = .returned (slV s') ∧ s'.2.1 = s.2.1 ∧ GoodS w' base s' ∧ rdB w' s' = rdB w s ∧ Below w.heap.size w w' := by
  refine (clone_c s.1 s.2.1 s.2.2 _ hs.cap h47 w hs.byq).mono ?_
  rintro r w' ⟨v, rfl, ho, hb⟩
  obtain ⟨s', rfl, hn, hg, hr⟩ := GoodS.own (base := base) ho
  refine ⟨s', rfl, hn, hg, ?_, hb⟩
  rw [hr, ← hs.len, bsOf_self]
theorem push_at {P : Program} {w : World} {base : Nat} {e : TypeId} {size : Nat} {α : Type} {enc : α → List Value} {v : Value} {xs : List α} {ts ty : TypeId} {z : Value} {bytes b : Nat} {x : α} (ht : P.underlying ts = some (.slice e)) (hi : (P.info? e).map (fun i => (i.zero, i.size, i.bytes)) = some (some z, size, bytes)) (hz : z.cells.size = size) (hs : 0 < size) (hby : 0 < bytes)
    (hl : (enc x).length = size) (h1 : ∀ u ∈ enc x, u.oneCell' = true) (hown : Owns w base e size enc v xs) (hx : ∀ j u, (enc x)[j]? = some u → w.cell? ⟨b, j, none⟩ = some u) (h47 : (xs.length + 1) * bytes ≤ 140737488355328) (hbase : base ≤ w.heap.size) :
    ∃ v' w', (Builtin.append_ #[ts, ts] ty #[v, .slice (some ⟨b, 0, none⟩) 1 1]).run P w = .ok v' w' ∧ Owns w' base e size enc v' (xs ++ [x]) ∧ w.grownBy w' v.ownBlock ∧ (v'.ownBlock = v.ownBlock ∨ v'.ownBlock = some w.heap.size) ∧ ∃ g cap, v' = .slice (some ⟨g, 0, none⟩) (xs.length + 1) cap := by
  obtain ⟨i, hi, hz0, hs0, hb0⟩ := info_parts hi
  have h63 : xs.length + 1 ≤ maxLen := by
    have : (xs.length + 1) * 1 ≤ (xs.length + 1) * bytes := Nat.mul_le_mul_left _ hby
    simp only [maxLen]; omega
  obtain ⟨v', w', h2, h3, h4, h5, h6⟩ := run_append_own_at (P := P) w base ts ty e i z size bytes ht hi hz0 hs0 hb0 hz hs v xs.length (xs.flatMap enc) hown ⟨b, 0, none⟩ 1 1 (enc x) (by rw [hl]; omega) (fun j u hu => by
    have := hx j u hu
    unfold Addr.add
    by_cases hk : j = 0 <;> simp [hk] at this ⊢ <;> exact this) h1 h63 h47 hbase
  refine ⟨v', w', h2, ?_, h4, h6, ?_⟩
  · unfold Owns
    rw [List.length_append, List.flatMap_append, List.length_singleton, List.flatMap_singleton]
    exact h3
  · rcases h3.2 with ⟨hv, h0⟩ | ⟨g, cap, _, hv, _⟩
    · omega
    · exact ⟨g, cap, hv⟩
theorem own_kept {w w' : World} {base size : Nat} {e : TypeId} {α : Type} {enc : α → List Value} {v : Value} {xs : List α} {K : Nat → Prop} (h : Owns w base e size enc v xs) (hk : Kept K w w') (hK : ∀ g, v.ownBlock = some g → K g) : Owns w' base e size enc v xs := by
  refine ⟨h.1, ?_⟩
  rcases h.2 with h0 | ⟨g, cap, cur, hv, hbg, hg, r⟩
  · exact .inl h0
  · exact .inr ⟨g, cap, cur, hv, hbg, (hk.block g (Array.getElem?_eq_some_iff.1 hg).1 (hK g (by rw [hv]; rfl))).trans hg, r⟩
/-- What the region that puts tells of a copy, of the write, of the row of one. -/
def PutA (base : Nat) (b : Bs) (v : Value) (w : World) : Prop := ∃ s' : SL, v = slV s' ∧ GoodS w base s' ∧ rdB w s' = b
def PutB (base : Nat) (k : Int) (b : Bs) (v : Value) (w : World) : Prop := ∃ s' : SL, v = .agg #[.int .i64 k, slV s'] ∧ GoodS w base s' ∧ rdB w s' = b
def PutC (base : Nat) (k : Int) (b : Bs) (v : Value) (w : World) : Prop := ∃ (s' : SL) (g : Nat), v = .slice (some ⟨g, 0, none⟩) 1 1 ∧ Blk w g 92 #[.int .i64 k, slV s'] ∧ GoodS w base s' ∧ rdB w s' = b
theorem PutA.on {base : Nat} {b : Bs} {v : Value} {w w' : World} (h : PutA base b v w) (hb : Below w.heap.size w w') : PutA base b v w' := by
  obtain ⟨s', e, h1, h2⟩ := h
  exact ⟨s', e, (h1.on hb).1, by rw [(h1.on hb).2]; exact h2⟩
theorem PutB.on {base : Nat} {k : Int} {b : Bs} {v : Value} {w w' : World} (h : PutB base k b v w) (hb : Below w.heap.size w w') : PutB base k b v w' := by
  obtain ⟨s', e, h1, h2⟩ := h
  exact ⟨s', e, (h1.on hb).1, by rw [(h1.on hb).2]; exact h2⟩
theorem PutC.on {base : Nat} {k : Int} {b : Bs} {v : Value} {w w' : World} (h : PutC base k b v w) (hb : Below w.heap.size w w') : PutC base k b v w' := by
  obtain ⟨s', g, e, h0, h1, h2⟩ := h
  exact ⟨s', g, e, h0.on hb, (h1.on hb).1, by rw [(h1.on hb).2]; exact h2⟩
theorem PutC.mk {base : Nat} {k : Int} {b : Bs} {w : World} {s : SL} (h : GoodS w base s ∧ rdB w s = b) : PutC base k b (.slice (some ⟨w.heap.size, 0, none⟩) 1 1) (w.alloc (.cells #[.int .i64 k, slV s] 92)) := by
  have hb : Below w.heap.size w (w.alloc (.cells #[.int .i64 k, slV s] 92)) := (Below.refl _ _).alloc (Nat.le_refl _) _
  exact ⟨s, _, rfl, Blk.new' rfl, (h.1.on hb).1, by rw [(h.1.on hb).2]; exact h.2⟩
theorem DiskAt.apart {w : World} {base d bm : Nat} {v : Value} {S : DS} {sv lv : List (Int × SL)} (h : DiskAt w base d bm v S sv lv) : v.ownBlock ≠ some d ∧ v.ownBlock ≠ some bm ∧ bm ≠ d := by
  refine ⟨fun e => ?_, fun e => ?_, fun e => ?_⟩
  · obtain ⟨-, cur, hc⟩ := own_blk h.row e
    have := blk_one hc h.blk
    revert this; decide
  · obtain ⟨-, cur, hc⟩ := own_blk h.row e
    exact map_lt h.map _ _ _ hc
  · exact map_lt h.map _ _ _ (by rw [e]; exact h.blk)
theorem DiskAt.byte {w : World} {base d bm : Nat} {v : Value} {S : DS} {sv lv : List (Int × SL)} (h : DiskAt w base d bm v S sv lv) {b : Nat} (hb : ByteBlk w base b) : ¬ Mine d bm v b := fun hm => by
  obtain ⟨h1, -, h3⟩ := h.mine hm
  rcases hb with hb | ⟨cur, hb⟩
  · omega
  · have := h3 _ _ hb
    revert this; decide
/-- One more is under way. -/
theorem DiskAt.pushed {w w5 : World} {base d bm : Nat} {v v' : Value} {S : DS} {sv lv : List (Int × SL)} {k : Int} {s : SL} (h : DiskAt w base d bm v S sv lv) (hs : GoodS w base s) (hO : Owns w5 base 92 2 encW v' (lv ++ [(k, s)])) (hgr : w.grownBy w5 v.ownBlock) (hloc : v'.ownBlock = v.ownBlock ∨ v'.ownBlock = some w.heap.size) :
    DiskAt (w5.setCell ⟨d, 4, none⟩ v') base d bm v' { S with l := S.l ++ [(k, rdB w s)] } sv (lv ++ [(k, s)]) ∧ Kept (fun b => ¬ Mine d bm v b) w (w5.setCell ⟨d, 4, none⟩ v') := by
  obtain ⟨a1, a2, a3⟩ := h.apart
  have k1 : Kept (fun b => v.ownBlock ≠ some b) w w5 := ⟨hgr.os, hgr.tape, hgr.output, hgr.size, fun b hb hK => hgr.block b hb (Ne.symm hK)⟩
  have k2 : Kept (fun b => v.ownBlock ≠ some b ∧ b ≠ d) w (w5.setCell ⟨d, 4, none⟩ v') := (k1.mono fun _ h => h.1).setCell (by simp) _
  have hbyte : ∀ b, ByteBlk w base b → v.ownBlock ≠ some b ∧ b ≠ d := fun b hB => ⟨fun e => h.byte hB (.inr (.inr e)), fun e => h.byte hB (.inl e)⟩
  obtain ⟨g1, g2⟩ := h.gs.kept k2 hbyte
  obtain ⟨g3, g4⟩ := h.gl.kept k2 hbyte
  obtain ⟨g5, g6⟩ := hs.kept k2 hbyte
  refine ⟨⟨(k1.blk a1 h.blk).set_ 4 v', map_kept h.map (k2.block _ h.map.lt ⟨a2, a3⟩), own_kept hO ((Kept.refl (fun b => b ≠ d) w5).setCell (by simp) _) (fun g hg e => ?_), h.based, h.basem, g1, ?_, by rw [g2]; exact h.safe, by rw [cont_snoc, g4, g6, ← h.l]⟩, k2.mono fun b hb => ⟨fun e => hb (.inr (.inr e)), fun e => hb (.inl e)⟩⟩
  · subst e
    rcases hloc with e | e
    · exact a1 (by rw [← e]; exact hg)
    · rw [hg] at e
      have := h.blk.lt
      have := Option.some.inj e
      omega
  · intro p hp
    rcases List.mem_append.1 hp with hp | hp
    · exact g3 p hp
    · obtain rfl : p = (k, s) := by simpa using hp
      exact g5
set_option maxRecDepth 100000 in
set_option maxHeartbeats 8000000 in
theorem put_c (base d : Nat) (M : Nat → Prop) (S : DS) (N : Nat) (w : World) (h : DiskIs w base M d S) (hok : DOk S N 1000000) (hN : N ≤ 100000) (k : Int) (hk : In64 k) (s : SL) (hs : GoodS w base s) (hz : s.2.1 ≤ 1000000) (hbase : base ≤ w.heap.size) :
    Calls Try.prog 38 #[.pointer (some ⟨d, 0, none⟩), .int .i64 k, slV s] w fun r w' => r = .returned (.int .i64 (S.put k (rdB w s)).2) ∧ Turn w base M d (S.put k (rdB w s)).1 w' := by
  obtain ⟨bm, v, sv, lv, hD, hM⟩ := h
  have hlen := hs.len
  have HF := Lib.hid (failed_c base d bm v S sv lv w hD hok.waits hok.fails)
  have HM := Lib.hid hM
  have hok1 := hok.asked
  obtain ⟨e1, e2, e3⟩ := asked_same S
  have hnow : S.asked.1.now = S.now := by unfold DS.now; rw [e1, e2]
  have HS := Lib.hid (And.intro hs (And.intro hlen hz))
  have HD := Lib.hid hD
  have HB := Lib.hid hbase
  obtain ⟨q, n, c⟩ := s
  simp only [slV] at *
  generalize hb : rdB w (q, n, c) = b at *
  have HQ := Lib.hid hb
  clear hb hs hlen hz hM hD hbase
  cases ha : S.asked.2
  · by_cases hfit : S.fits k b = true
    · have hput : S.put k b = ({ S.asked.1 with l := S.l ++ [(k, b)] }, 0) := by unfold DS.put; rw [ha, hfit]; rfl
      rw [hput]
      rw [ha] at HF
      go_enter Try.func38, Try.ntmps38
      go_wp2_with (go_at_call 58; refine HF.out.mono ?_; rintro e_ w1 ⟨rfl, hD1, hk1⟩)
      obtain ⟨hr, hkl, hcnt, hg, hc, hrn, hlens⟩ := hD1.facts hok1
      have HNW := Lib.hid (now_c base d bm v S.asked.1 sv lv w1 hD1 hr hkl (by omega))
      have hroom := hok1.room
      rw [hnow] at hc
      obtain ⟨r0, r1⟩ := hroom
      have hri := room_is (k := k) (b := b) hrn hg hc
      have hale := at_le (nowL sv lv) k
      have hfi : (lenB (putL S.now (k, b)) : Int) ≤ S.asked.1.room := by rw [e3]; unfold DS.fits at hfit; simpa using hfit
      have hbn := HS.out.2
      have hl9 : lens (nowL sv lv) ≤ 100000000000 := Nat.le_trans hlens (Nat.le_trans (Nat.mul_le_mul_right 1000000 hN) (by decide))
      have HG := Lib.hid (And.intro hg hc)
      clear hg hc hfit hlens hr hkl hcnt
      go_upto_region 4 with (go_at_call 59; refine HNW.out.mono ?_; rintro e_ w2 ⟨rfl, hm, hB2⟩)
      have D2 := hD1.on hB2
      have HM2 := Lib.hid hm
      have HB2 := Lib.hid hB2
      generalize w1.heap.size = m at hm HM2 ⊢
      clear hB2
      have HBY := Lib.hid fun d' os => bytes_c m _ (nowL sv lv) (Go.Sort.grow (redrawn w2 d') os) hrn (map_on hm (below_regrown _ _ _)) (by omega)
      have hlk := fun d' os => look_c (map_on hm (below_regrown w2 d' os)) hk
      simp only [slV] at hlk
      have q0 : ∀ d' os, (Go.Sort.grow (redrawn w2 d') os).cell? ⟨d, 0, none⟩ = some (.int .i64 S.asked.1.room) := fun d' os => (D2.blk.re d' os).cell 0
      generalize lens (nowL sv lv) = nb at HBY hri hale hl9
      generalize atL (nowL sv lv) k = s0 at hlk hri hale
      obtain ⟨sq, sn, sc⟩ := s0
      dsimp only at hlk hri hale
      generalize lenB (putL S.now (k, b)) = np at hri hfi
      have hbn1 := hbn.1
      have hbn2 := hbn.2
      generalize S.asked.1.room = room at q0 r0 r1 hfi
      have w1_ : IntKind.i64.wrap ((nb : Int) - (sn : Int)) = (nb : Int) - (sn : Int) := IntWalk.i64_in _ (by omega)
      have w2_ : IntKind.i64.wrap (room - (n : Int)) = room - (n : Int) := IntWalk.i64_in _ (by omega)
      have hng : ¬ (room - (n : Int) < (nb : Int) - (sn : Int)) := by omega
      clear hm hbn hfi hri hale hl9 r0 r1 hbn1 hbn2
      refine wp_region_quiet_below (by kernel_rfl) (by kernel_rfl) ?_
      repeat (go_big_quiet_step (exact Calls.regrown_of (HBY.out _ _)))
      refine wpQuiet_nil ?_
      intro w' hw'
      obtain ⟨rg, rfl⟩ := hw'
      generalize hW3 : Go.Sort.grow (redrawn w2 rg.d) rg.os = w3
      have h3 : Below w2.heap.size w2 w3 := by rw [← hW3]; exact below_regrown _ _ _
      clear hW3 q0 hlk w1_ w2_ HBY
      have D3 := D2.on h3
      obtain ⟨g1, g2⟩ := HS.out.1.off hk1 HD.out.based HD.out.blk (by decide)
      obtain ⟨g3, g4⟩ := g1.on HB2.out
      obtain ⟨g5, g6⟩ := g3.on h3
      have HS3 : Hid (GoodS w3 base (q, n, c) ∧ rdB w3 (q, n, c) = b) := Lib.hid ⟨g5, by rw [g6, g4, g2, HQ.out]⟩
      have HCL : Hid (∀ W, Below w3.heap.size w3 W → Calls Try.prog 57 #[.slice q n c] W fun r w' => ∃ u, r = .returned u ∧ (Kept (fun _ => True) W w' ∧ PutA base b u w')) := Lib.hid fun W hW => by
        obtain ⟨k1, k2⟩ := HS3.out.1.on hW
        refine (clone_good k1 (by have := HS.out.2.2; dsimp only; omega)).mono ?_
        rintro r w' ⟨s', rfl, -, hg, hr, hb⟩
        exact ⟨_, rfl, (Kept.of_below hb).mono fun _ _ => trivial, s', rfl, hg, by rw [hr, k2, HS3.out.2]⟩
      clear g1 g2 g3 g4 g5 g6
      obtain ⟨ql, cp, rfl, -, -, -⟩ := row_form D3.row
      have q4 : ∀ d' os, (Go.Sort.grow (redrawn w3 d') os).cell? ⟨d, 4, none⟩ = some (.slice ql lv.length cp) := fun d' os => (D3.blk.re d' os).cell 4
      go_upto_region 6 with (fail)
      refine wp_sched [1, 0, 0, 0, 0, 0, 0, 2, 2, 2, 3, 1, 1, 3] (fun i v w => match i with | 7 => PutA base b v w | 8 => PutB base k b v w | 9 => PutC base k b v w | _ => True) (by kernel_rfl) (by kernel_rfl) (fun i v w w' h hb => by match i, h with | 7, h => exact PutA.on h hb | 8, h => exact PutB.on h hb | 9, h => exact PutC.on h hb | 0, _ => trivial | 1, _ => trivial | 2, _ => trivial | 3, _ => trivial | 4, _ => trivial | 5, _ => trivial | 6, _ => trivial | n + 10, _ => trivial) ?_
      repeat (first | (refine wpQs_s ?_) | (refine wpQs_q (fun K hK => ?_); go_simp; first | (refine hK _ ?_; clear hK K) | (apply Exists.intro; refine ⟨fun _ => ?_, hK _ ?_⟩; (fail); clear hK K)) | (refine wpQs_f (fun K hK => ?_); go_simp; refine hK _ ?_; clear hK K))
      refine wpQs_nil ?_
      refine wpLs_skip ?_
      refine wpLs_skip ?_
      refine wpLs_skip ?_
      refine wpLs_skip ?_
      refine wpLs_skip ?_
      refine wpLs_skip ?_
      refine wpLs_skip ?_
      refine wpLs_one ?lsA (fun v_ => ?_)
      case lsA => (intro w_ hw_ hp_; (first | (dsimp only at hF_; have h8 : PutB _ _ _ _ _ := hF_.2 (by kernel_rfl); obtain ⟨⟨sq', sn', sc'⟩, E8, G8⟩ := h8; simp only [slV] at E8; subst E8; go_simp; exact ⟨Kept.of_below ((Below.refl _ _).alloc (Nat.le_refl _) _), PutC.mk (s := (sq', sn', sc')) G8⟩) | (dsimp only at hF_; have h8 : PutA _ _ _ _ := hF_.2 (by kernel_rfl); obtain ⟨⟨sq', sn', sc'⟩, E8, G8⟩ := h8; simp only [slV] at E8; subst E8; go_simp; exact ⟨Kept.refl _ _, ⟨(sq', sn', sc'), rfl, G8⟩⟩) | (go_simp; refine (HCL.out _ ((msd_kept hw_).none)).mono ?_; rintro e_ w9 ⟨u, rfl, hk, hu⟩; exact ⟨u, rfl, hk, hu⟩)))
      refine wpLs_oneF ?lsA (fun v_ => ?_)
      case lsA => (intro w_ hw_ hp_ hF_; (first | (dsimp only at hF_; have h8 : PutB _ _ _ _ _ := hF_.2 (by kernel_rfl); obtain ⟨⟨sq', sn', sc'⟩, E8, G8⟩ := h8; simp only [slV] at E8; subst E8; go_simp; exact ⟨Kept.of_below ((Below.refl _ _).alloc (Nat.le_refl _) _), PutC.mk (s := (sq', sn', sc')) G8⟩) | (dsimp only at hF_; have h8 : PutA _ _ _ _ := hF_.2 (by kernel_rfl); obtain ⟨⟨sq', sn', sc'⟩, E8, G8⟩ := h8; simp only [slV] at E8; subst E8; go_simp; exact ⟨Kept.refl _ _, ⟨(sq', sn', sc'), rfl, G8⟩⟩) | (go_simp; refine (HCL.out _ ((msd_kept hw_).none)).mono ?_; rintro e_ w9 ⟨u, rfl, hk, hu⟩; exact ⟨u, rfl, hk, hu⟩)))
      refine wpLs_oneF ?lsA (fun v_ => ?_)
      case lsA => (intro w_ hw_ hp_ hF_; (first | (dsimp only at hF_; have h8 : PutB _ _ _ _ _ := hF_.2 (by kernel_rfl); obtain ⟨⟨sq', sn', sc'⟩, E8, G8⟩ := h8; simp only [slV] at E8; subst E8; go_simp; exact ⟨Kept.of_below ((Below.refl _ _).alloc (Nat.le_refl _) _), PutC.mk (s := (sq', sn', sc')) G8⟩) | (dsimp only at hF_; have h8 : PutA _ _ _ _ := hF_.2 (by kernel_rfl); obtain ⟨⟨sq', sn', sc'⟩, E8, G8⟩ := h8; simp only [slV] at E8; subst E8; go_simp; exact ⟨Kept.refl _ _, ⟨(sq', sn', sc'), rfl, G8⟩⟩) | (go_simp; refine (HCL.out _ ((msd_kept hw_).none)).mono ?_; rintro e_ w9 ⟨u, rfl, hk, hu⟩; exact ⟨u, rfl, hk, hu⟩)))
      refine wpLs_skip ?_
      refine wpLs_skip ?_
      refine wpLs_skip ?_
      refine wpLs_skip ?_
      refine wpLs_nilB ?_
      simp only [tails]
      rintro W4 h4 ⟨-, s', g, rfl, hG, hg', hb'⟩
      have D4 := D3.on h4
      have hbz : base ≤ W4.heap.size := Nat.le_trans HB.out (Nat.le_trans hk1.size (Nat.le_trans HB2.out.size (Nat.le_trans h3.size h4.size)))
      have hll := hok1.many
      rw [D4.l, cont_len] at hll
      obtain ⟨v', w5, hrun, O5, hgr, hloc, g9, c9, rfl⟩ := push_at (P := Try.prog) (ts := 88) (ty := 88) (x := (k, s')) (b := g) Try.underlying88 infW rfl (by decide) (by decide) rfl (by simp [Value.oneCell', slV]) D4.row
        (fun j u hu => by rw [hG.cell j]; simpa using hu) (by omega) hbz
      obtain ⟨F1, F2⟩ := D4.pushed hg' O5 hgr hloc
      have k5 : Kept (fun b => Value.ownBlock (.slice ql lv.length cp) ≠ some b) W4 w5 := ⟨hgr.os, hgr.tape, hgr.output, hgr.size, fun b hb hK => hgr.block b hb (Ne.symm hK)⟩
      have f4 := (k5.blk D4.apart.1 D4.blk).frz 4
      have c4 : w5.cell? ⟨d, 4, none⟩ = some (.slice ql lv.length cp) := (k5.blk D4.apart.1 D4.blk).cell 4
      have HF1 := Lib.hid F1
      have HF2 := Lib.hid F2
      have HH4 := Lib.hid (And.intro h3 h4)
      have HLC := Lib.hid hloc
      have HHB := Lib.hid hb'
      have HHK := Lib.hid hk1
      clear q4 hG F1 F2 h3 h4 hloc hb' hk1 hgr O5 k5 hbz hll hg' HCL HS3 D2 D3 D4 hD1 HG HNW hng hrn
      go_wp2_with (at_builtin; refine Lib.wpList_append_run _ rfl _ _ _ _ rfl _ _ rfl rfl _ _ hrun ?_)
      go_returns
      refine ⟨rfl, Mine d bm (.slice (some ⟨g9, 0, none⟩) (lv.length + 1) c9), ⟨bm, _, sv, lv ++ [(k, s')], by have := HF1.out; rw [e2, HHB.out] at this; exact this, fun b => Iff.rfl⟩, fun b hb => ?_, ?_⟩
      · rcases hb with hb | hb | hb
        · exact .inl ((HM.out b).2 (.inl hb))
        · exact .inl ((HM.out b).2 (.inr (.inl hb)))
        · rcases HLC.out with e | e
          · exact .inl ((HM.out b).2 (.inr (.inr (by rw [← e]; exact hb))))
          · rw [hb] at e
            obtain rfl := Option.some.inj e
            exact .inr (Nat.le_trans HHK.out.size (Nat.le_trans HB2.out.size (Nat.le_trans HH4.out.1.size HH4.out.2.size)))
      · refine (HHK.out.mono fun b hb e => hb ((HM.out b).2 (.inl e))).trans ?_
        refine ((Kept.of_below (after (after HB2.out HH4.out.1) HH4.out.2)).mono fun _ _ => trivial).trans ?_
        exact HF2.out.mono fun b hb hm => hb ((HM.out b).2 hm)
    · have hput : S.put k b = (S.asked.1, 8) := by unfold DS.put; rw [ha, if_neg (by decide), if_neg hfit]
      rw [hput]
      rw [ha] at HF
      go_enter Try.func38, Try.ntmps38
      go_wp2_with (go_at_call 58; refine HF.out.mono ?_; rintro e_ w1 ⟨rfl, hD1, hk1⟩)
      obtain ⟨hr, hkl, hcnt, hg, hc, hrn, hlens⟩ := hD1.facts hok1
      have HNW := Lib.hid (now_c base d bm v S.asked.1 sv lv w1 hD1 hr hkl (by omega))
      have hroom := hok1.room
      rw [hnow] at hc
      obtain ⟨r0, r1⟩ := hroom
      have hri := room_is (k := k) (b := b) hrn hg hc
      have hale := at_le (nowL sv lv) k
      have hfi : ¬ (lenB (putL S.now (k, b)) : Int) ≤ S.asked.1.room := by rw [e3]; unfold DS.fits at hfit; simpa using hfit
      have hbn := HS.out.2
      have hl9 : lens (nowL sv lv) ≤ 100000000000 := Nat.le_trans hlens (Nat.le_trans (Nat.mul_le_mul_right 1000000 hN) (by decide))
      have HG := Lib.hid (And.intro hg hc)
      clear hg hc hfit hlens hr hkl hcnt
      go_upto_region 4 with (go_at_call 59; refine HNW.out.mono ?_; rintro e_ w2 ⟨rfl, hm, hB2⟩)
      have D2 := hD1.on hB2
      have HM2 := Lib.hid hm
      have HB2 := Lib.hid hB2
      generalize w1.heap.size = m at hm HM2 ⊢
      clear hB2
      have HBY := Lib.hid fun d' os => bytes_c m _ (nowL sv lv) (Go.Sort.grow (redrawn w2 d') os) hrn (map_on hm (below_regrown _ _ _)) (by omega)
      have hlk := fun d' os => look_c (map_on hm (below_regrown w2 d' os)) hk
      simp only [slV] at hlk
      have q0 : ∀ d' os, (Go.Sort.grow (redrawn w2 d') os).cell? ⟨d, 0, none⟩ = some (.int .i64 S.asked.1.room) := fun d' os => (D2.blk.re d' os).cell 0
      generalize lens (nowL sv lv) = nb at HBY hri hale hl9
      generalize atL (nowL sv lv) k = s0 at hlk hri hale
      obtain ⟨sq, sn, sc⟩ := s0
      dsimp only at hlk hri hale
      generalize lenB (putL S.now (k, b)) = np at hri hfi
      have hbn1 := hbn.1
      have hbn2 := hbn.2
      generalize S.asked.1.room = room at q0 r0 r1 hfi
      have w1_ : IntKind.i64.wrap ((nb : Int) - (sn : Int)) = (nb : Int) - (sn : Int) := IntWalk.i64_in _ (by omega)
      have w2_ : IntKind.i64.wrap (room - (n : Int)) = room - (n : Int) := IntWalk.i64_in _ (by omega)
      have hng : room - (n : Int) < (nb : Int) - (sn : Int) := by omega
      clear hm hbn hfi hri hale hl9 r0 r1 hbn1 hbn2
      refine wp_region_quiet_below (by kernel_rfl) (by kernel_rfl) ?_
      repeat (go_big_quiet_step (exact Calls.regrown_of (HBY.out _ _)))
      refine wpQuiet_nil ?_
      intro w' hw'
      obtain ⟨rg, rfl⟩ := hw'
      generalize hW3 : Go.Sort.grow (redrawn w2 rg.d) rg.os = w3
      have h3 : Below w2.heap.size w2 w3 := by rw [← hW3]; exact below_regrown _ _ _
      clear hW3 q0 hlk w1_ w2_ HBY
      have HH := Lib.hid (And.intro h3 hk1)
      have D3 := D2.on h3
      clear h3 hk1 HNW
      go_wp2_with fail
      go_returns
      refine ⟨rfl, Mine d bm v, ⟨bm, v, sv, lv, D3, fun b => Iff.rfl⟩, fun b hb => .inl ((HM.out b).2 hb), ?_⟩
      refine (HH.out.2.mono fun b hb e => hb ((HM.out b).2 (.inl e))).trans ?_
      exact (Kept.of_below (after HB2.out HH.out.1)).mono fun _ _ => trivial
  · have hput : S.put k b = (S.asked.1, 9) := by unfold DS.put; rw [ha]; rfl
    rw [hput]
    rw [ha] at HF
    go_enter Try.func38, Try.ntmps38
    go_wp2_with (go_at_call 58; refine HF.out.mono ?_; rintro e_ w1 ⟨rfl, hD1, hk1⟩)
    go_returns
    exact ⟨rfl, Mine d bm v, ⟨bm, v, sv, lv, hD1, fun b => Iff.rfl⟩, fun b hb => .inl ((HM.out b).2 hb), hk1.mono fun b hb e => hb ((HM.out b).2 (.inl e))⟩
end Go.Proofs.Ytkopenemoddbbaa
