/- A region that draws its order, in general. Each operation is of a kind: 0: it reads, or calls what makes only new memory; 1: likewise, whatever the world (addresses); 2: its value is told by a relation alone (a new variable, a new row, a call that hands back new memory); 3: the tail, which comes in the text's order behind all but those of kind 1. One walk serves every order. No program in sight. -/
import Derived.Test.YtkopenemoddbbaaReg
namespace Go.Proofs.Ytkopenemoddbbaa
open Go.RowKit

section
variable {P : Program} {ops : Array Oper} {C : World → Prop}
def dstOf (ops : Array Oper) (i : Nat) : Option Tmp := (ops[i]?).bind (·.dst)
def kd (ks : List Nat) (i : Nat) : Nat := ks.getD i 3

/-! ### states -/
theorem put_size (a : Act) (x : Option Tmp) (v : Value) : (a.put x v).tmps.size = a.tmps.size := by cases x <;> simp [Act.put]
theorem put_defers (a : Act) (x : Option Tmp) (v : Value) : (a.put x v).defers = a.defers := by cases x <;> rfl
theorem put_miss (a : Act) {x : Option Tmp} {t : Nat} (v : Value) (h : x ≠ some t) : (a.put x v).tmps.getD t undef = a.tmps.getD t undef := by
  cases x with
  | none => rfl
  | some d =>
    have hne : d ≠ t := fun e => h (by rw [e])
    simp [Act.put, Array.getElem?_setIfInBounds_ne hne]
theorem put_hit (a : Act) {t : Nat} (v : Value) (h : t < a.tmps.size) : (a.put (some t) v).tmps.getD t undef = v := by simp [Act.put, h]
theorem act_ext {a b : Act} (h1 : a.tmps.size = b.tmps.size) (h2 : ∀ t, a.tmps.getD t undef = b.tmps.getD t undef) (h3 : a.defers = b.defers) : a = b := by
  obtain ⟨ta, da⟩ := a
  obtain ⟨tb, db⟩ := b
  dsimp only at *
  subst h3
  congr 1
  apply Array.ext h1
  intro i hi hj
  have := h2 i
  simpa [hi, hj] using this
def stL (ops : Array Oper) (V : Nat → Value) (S : List Nat) (a : Act) : Act := S.foldl (fun a i => a.put (dstOf ops i) (V i)) a
theorem stL_cons (V : Nat → Value) (i : Nat) (S : List Nat) (a : Act) : stL ops V (i :: S) a = stL ops V S (a.put (dstOf ops i) (V i)) := rfl
theorem stL_app (V : Nat → Value) (S T : List Nat) (a : Act) : stL ops V (S ++ T) a = stL ops V T (stL ops V S a) := by simp [stL, List.foldl_append]
theorem stL_size (V : Nat → Value) (S : List Nat) : ∀ a, (stL ops V S a).tmps.size = a.tmps.size := by
  induction S with
  | nil => intro a; rfl
  | cons i S ih => intro a; rw [stL_cons, ih, put_size]
theorem stL_defers (V : Nat → Value) (S : List Nat) : ∀ a, (stL ops V S a).defers = a.defers := by
  induction S with
  | nil => intro a; rfl
  | cons i S ih => intro a; rw [stL_cons, ih, put_defers]
theorem stL_miss (V : Nat → Value) {t : Nat} (S : List Nat) : ∀ a, (∀ j ∈ S, dstOf ops j ≠ some t) → (stL ops V S a).tmps.getD t undef = a.tmps.getD t undef := by
  induction S with
  | nil => intro a _; rfl
  | cons i S ih => intro a h; rw [stL_cons, ih _ (fun j hj => h j (List.mem_cons_of_mem _ hj)), put_miss _ _ (h i (by simp))]
def Apart (ops : Array Oper) : Prop := ∀ i j d, i ≠ j → dstOf ops i = some d → dstOf ops j ≠ some d
theorem stL_hit (hD : Apart ops) (V : Nat → Value) {t j : Nat} (hj : dstOf ops j = some t) (S : List Nat) : ∀ a, t < a.tmps.size → j ∈ S → (stL ops V S a).tmps.getD t undef = V j := by
  induction S with
  | nil => intro a _ h; cases h
  | cons i S ih =>
    intro a ht h
    rw [stL_cons]
    by_cases hS : j ∈ S
    · exact ih _ (by rw [put_size]; exact ht) hS
    · have hij : j = i := by
        rcases List.mem_cons.1 h with e | e
        · exact e
        · exact absurd e hS
      subst hij
      rw [stL_miss V S _ (fun k hk e => hD j k t (fun e' => hS (e' ▸ hk)) hj e), hj, put_hit _ _ ht]
theorem stL_agree (hD : Apart ops) {V V' : Nat → Value} {S T : List Nat} {a : Act} {t : Nat} (h : ∀ j, dstOf ops j = some t → (j ∈ S ↔ j ∈ T) ∧ (j ∈ S → V j = V' j)) : (stL ops V S a).tmps.getD t undef = (stL ops V' T a).tmps.getD t undef := by
  by_cases ht : t < a.tmps.size
  · by_cases he : ∃ j ∈ S, dstOf ops j = some t
    · obtain ⟨j, hj, hd⟩ := he
      rw [stL_hit hD V hd S a ht hj, stL_hit hD V' hd T a ht ((h j hd).1.1 hj)]
      exact (h j hd).2 hj
    · rw [stL_miss V S a (fun j hj hd => he ⟨j, hj, hd⟩), stL_miss V' T a (fun j hj hd => he ⟨j, (h j hd).1.2 hj, hd⟩)]
  · have h1 : ¬ t < (stL ops V S a).tmps.size := by rw [stL_size]; exact ht
    have h2 : ¬ t < (stL ops V' T a).tmps.size := by rw [stL_size]; exact ht
    simp [h1, h2]
theorem stL_same (hD : Apart ops) {V V' : Nat → Value} {S T : List Nat} {a : Act} (h : ∀ j, (j ∈ S ↔ j ∈ T) ∧ (j ∈ S → V j = V' j)) : stL ops V S a = stL ops V' T a :=
  act_ext (by rw [stL_size, stL_size]) (fun _ => stL_agree hD fun j _ => h j) (by rw [stL_defers, stL_defers])

/-! ### what an operation does hangs on what it looks at -/
def Alike (ops : Array Oper) (o : Oper) (a b : Act) : Prop := ∀ t ∈ o.looksAt ops, a.tmps.getD t undef = b.tmps.getD t undef
theorem exec_alike {o : Oper} {a b : Act} (hs : ∀ cs b, o.op ≠ .select cs b) (h : Alike ops o a b) : execOp a.eval o = execOp b.eval o :=
  execOp_congr o hs fun x hx => by
    cases x with
    | tmp t => exact h t (List.mem_append_left _ (List.mem_filterMap.2 ⟨.tmp t, by simpa using hx, rfl⟩))
    | _ => rfl
theorem wanted_alike {o : Oper} {a b : Act} (h : Alike ops o a b) (hz : a.tmps.size = b.tmps.size) : Region.wanted o (yielded ops a.tmps) = Region.wanted o (yielded ops b.tmps) := by
  unfold Region.wanted
  cases hg : o.guard with
  | none => rfl
  | some gw =>
    obtain ⟨g, want⟩ := gw
    have hy : yielded ops a.tmps g = yielded ops b.tmps g := by
      unfold yielded
      cases ht : (ops[g]?).bind (·.dst) with
      | none => rfl
      | some t =>
        have := h t (by simp [Oper.looksAt, hg, ht])
        by_cases h1 : t < a.tmps.size
        · have h2 : t < b.tmps.size := hz ▸ h1
          simp [h1, h2] at this ⊢
          rw [this]
        · have h2 : ¬ t < b.tmps.size := hz ▸ h1
          simp [h1, h2]
    simp only [hy]
theorem Gives.alike {o : Oper} {v : Value} {a b : Act} (hs : ∀ cs b, o.op ≠ .select cs b) (h : Alike ops o a b) (hz : a.tmps.size = b.tmps.size) (hy : Gives P ops C o v a) : Gives P ops C o v b := by
  unfold Gives relAt at *
  rwa [← exec_alike hs h, ← wanted_alike h hz]
/-- Some value of which R holds; but for the blocks D nothing that was there has turned. -/
def sumUpon (P : Program) (D : List Nat) (R : Rel) (w : World) : Result Next → Prop
  | .ok (.value u) w' => Kept (fun b => b ∉ D) w w' ∧ R u w'
  | .ok .skip w' => Kept (fun b => b ∉ D) w w' ∧ R undef w'
  | .ok (.enter f args) w' => w' = w ∧ Calls P f args w (fun e w'' => ∃ u, e = .returned u ∧ Kept (fun b => b ∉ D) w w'' ∧ R u w'')
  | _ => False
def sumAt (P : Program) (D : List Nat) (o : Oper) (a : Act) (R : Rel) (w : World) : Prop := sumUpon P D R w ((execOp a.eval o).run P w)
theorem wp_of_sumAt {D : List Nat} {o : Oper} {a : Act} {w : World} {R : Rel} {K : Act → World → Prop} {Q' : Exit → Act → World → Prop} (h : sumAt P D o a R w) (hk : ∀ v w', Kept (fun b => b ∉ D) w w' → R v w' → K (a.put o.dst v) w') : o.wp P a w K Q' := by
  unfold sumAt at h
  unfold Oper.wp
  generalize (execOp a.eval o).run P w = r at *
  cases r with
  | ok nx w' =>
    cases nx <;> simp only [sumUpon] at h <;> simp only [Oper.upon]
    case value u => exact hk _ _ h.1 h.2
    case skip => exact hk _ _ h.1 h.2
    case enter f args =>
      obtain ⟨e1, hc⟩ := h
      rw [e1]
      exact hc.mono fun e w'' ⟨u, he, hb, hR⟩ => by subst he; exact hk _ _ hb hR
  | halt x w' => simp only [sumUpon] at h
theorem sumAt.alike {D : List Nat} {o : Oper} {R : Rel} {w : World} {a b : Act} (hs : ∀ cs b, o.op ≠ .select cs b) (h : Alike ops o a b) (hy : sumAt P D o a R w) : sumAt P D o b R w := by
  unfold sumAt at *
  rwa [← exec_alike hs h]

/-! ### the walk -/
/-- One value, whatever the world, which stays as it is. -/
def fixUpon (w : World) (v : Value) : Result Next → Prop
  | .ok (.value u) w' => w' = w ∧ u = v
  | _ => False
def fixAt (P : Program) (o : Oper) (a : Act) (w : World) (v : Value) : Prop := fixUpon w v ((execOp a.eval o).run P w)
def fixOp (P : Program) (o : Oper) (a : Act) (K : Act → Prop) : Prop := ∃ v, (∀ w, fixAt P o a w v) ∧ K (a.put o.dst v)
def Fixes (P : Program) (ops : Array Oper) (o : Oper) (v : Value) (a : Act) : Prop :=
  (Region.wanted o (yielded ops a.tmps) = true ∧ ∀ w, fixAt P o a w v) ∨ (Region.wanted o (yielded ops a.tmps) = false ∧ v = undef)
theorem relAt_of_fix {o : Oper} {a : Act} {w : World} {v : Value} (h : fixAt P o a w v) : relAt P o a w v := by
  unfold fixAt at h
  unfold relAt
  generalize (execOp a.eval o).run P w = r at *
  cases r with
  | ok nx w' => cases nx <;> simp only [fixUpon] at h <;> exact h
  | halt x w' => exact h.elim
theorem wp_of_fix {o : Oper} {a : Act} {w : World} {v : Value} {K : Act → World → Prop} {Q : Exit → Act → World → Prop} (h : fixAt P o a w v) (hk : K (a.put o.dst v) w) : o.wp P a w K Q := by
  unfold fixAt at h
  unfold Oper.wp
  generalize (execOp a.eval o).run P w = r at *
  cases r with
  | ok nx w' =>
    cases nx <;> simp only [fixUpon] at h
    obtain ⟨rfl, rfl⟩ := h
    exact hk
  | halt x w' => exact h.elim
theorem Fixes.gives {o : Oper} {v : Value} {a : Act} (h : Fixes P ops o v a) : Gives P ops C o v a := h.imp (fun h => ⟨h.1, fun w _ => relAt_of_fix (h.2 w)⟩) id
theorem Fixes.alike {o : Oper} {v : Value} {a b : Act} (hs : ∀ cs b, o.op ≠ .select cs b) (h : Alike ops o a b) (hz : a.tmps.size = b.tmps.size) (hy : Fixes P ops o v a) : Fixes P ops o v b := by
  unfold Fixes fixAt at *
  rwa [← exec_alike hs h, ← wanted_alike h hz]
/-- What an operation of a kind owes. -/
def Owe (P : Program) (ops : Array Oper) (C : World → Prop) (k : Nat) (o : Oper) (v : Value) (a : Act) : Prop := if k = 0 then Gives P ops C o v a else Fixes P ops o v a
def wpQs (P : Program) (ops : Array Oper) (C : World → Prop) (L : Act → Prop) : List Nat → List Oper → Act → Prop
  | _, [], a => L a
  | [], _ :: _, _ => False
  | 0 :: ks, o :: l, a => if Region.wanted o (yielded ops a.tmps) then relOp P o a C (wpQs P ops C L ks l) else wpQs P ops C L ks l (a.put o.dst undef)
  | 1 :: ks, o :: l, a => if Region.wanted o (yielded ops a.tmps) then fixOp P o a (wpQs P ops C L ks l) else wpQs P ops C L ks l (a.put o.dst undef)
  | (_ + 2) :: ks, _ :: l, a => wpQs P ops C L ks l a
theorem wpQs_nil {L : Act → Prop} {ks : List Nat} {a : Act} (h : L a) : wpQs P ops C L ks [] a := by unfold wpQs; exact h
theorem wpQs_q {L : Act → Prop} {ks : List Nat} {a : Act} {o : Oper} {l : List Oper}
    (h : ∀ K : Act → Prop, (∀ a, wpQs P ops C L ks l a → K a) → if Region.wanted o (yielded ops a.tmps) then relOp P o a C K else K (a.put o.dst undef)) : wpQs P ops C L (0 :: ks) (o :: l) a := h _ fun _ h => h
theorem wpQs_f {L : Act → Prop} {ks : List Nat} {a : Act} {o : Oper} {l : List Oper}
    (h : ∀ K : Act → Prop, (∀ a, wpQs P ops C L ks l a → K a) → if Region.wanted o (yielded ops a.tmps) then fixOp P o a K else K (a.put o.dst undef)) : wpQs P ops C L (1 :: ks) (o :: l) a := h _ fun _ h => h
theorem wpQs_s {L : Act → Prop} {ks : List Nat} {a : Act} {o : Oper} {l : List Oper} {k : Nat} (h : wpQs P ops C L ks l a) : wpQs P ops C L ((k + 2) :: ks) (o :: l) a := h
def wpLs (P : Program) (C : World → Prop) (w0 : World) (Ds : Nat → List Nat) (Rs : Nat → Rel) (an : Nat → Nat → Bool) (T : Act → World → Prop) : List Nat → List Oper → Nat → Act → (World → Prop) → ((Nat → Prop) → World → Prop) → Prop
  | _, [], _, a, Φ, _ => ∀ w', C w' → Φ w' → T a w'
  | [], _ :: _, _, _, _, _ => False
  | 0 :: ks, _ :: l, i, a, Φ, Ψ => wpLs P C w0 Ds Rs an T ks l (i + 1) a Φ Ψ
  | 1 :: ks, _ :: l, i, a, Φ, Ψ => wpLs P C w0 Ds Rs an T ks l (i + 1) a Φ Ψ
  | 2 :: ks, o :: l, i, a, Φ, Ψ => (∀ w', C w' → Kept (fun b => b ∈ Ds i) w0 w' → Ψ (fun j => an i j = true) w' → sumAt P (Ds i) o a (Rs i) w') ∧ ∀ v, wpLs P C w0 Ds Rs an T ks l (i + 1) (a.put o.dst v) (fun w => Φ w ∧ Rs i v w) (fun S w => Ψ S w ∧ (S i → Rs i v w))
  | (_ + 3) :: ks, _ :: l, i, a, Φ, Ψ => wpLs P C w0 Ds Rs an T ks l (i + 1) a Φ Ψ
def tails : List Nat → List Oper → List Oper
  | _, [] => []
  | [], _ :: _ => []
  | 0 :: ks, _ :: l => tails ks l
  | 1 :: ks, _ :: l => tails ks l
  | 2 :: ks, _ :: l => tails ks l
  | (_ + 3) :: ks, o :: l => o :: tails ks l

/-- The numbers from k on, below n, of kinds that p lets. -/
def nums (ks : List Nat) (p : Nat → Bool) (k n : Nat) : List Nat := (List.range' k (n - k)).filter fun i => p (kd ks i)
theorem mem_nums {ks : List Nat} {p : Nat → Bool} {k n i : Nat} : i ∈ nums ks p k n ↔ (k ≤ i ∧ i < n) ∧ p (kd ks i) = true := by
  unfold nums
  simp only [List.mem_filter, List.mem_range'_1]
  constructor
  · rintro ⟨h1, h2⟩; exact ⟨⟨h1.1, by omega⟩, h2⟩
  · rintro ⟨h1, h2⟩; exact ⟨⟨h1.1, by omega⟩, h2⟩
theorem nums_step {ks : List Nat} {p : Nat → Bool} {k n : Nat} (h : k < n) : nums ks p k n = if p (kd ks k) then k :: nums ks p (k + 1) n else nums ks p (k + 1) n := by
  unfold nums
  rw [show n - k = (n - (k + 1)) + 1 by omega, List.range'_succ, List.filter_cons]
theorem nums_none {ks : List Nat} {p : Nat → Bool} {k n : Nat} (h : n ≤ k) : nums ks p k n = [] := by unfold nums; rw [show n - k = 0 by omega]; rfl
abbrev pQ (k : Nat) : Bool := decide (k < 2)
abbrev pL (k : Nat) : Bool := k == 2
abbrev pT (k : Nat) : Bool := decide (3 ≤ k)
theorem kd_at {ks : List Nat} {i k : Nat} {r : List Nat} (h : ks.drop i = k :: r) : kd ks i = k ∧ ks.drop (i + 1) = r := by
  constructor
  · have := List.getElem?_drop (xs := ks) (i := i) (j := 0)
    rw [h] at this
    simp only [List.getElem?_cons_zero, Nat.add_zero] at this
    simp [kd, ← this]
  · rw [← List.tail_drop, h]; rfl
theorem op_at {l r : List Oper} {i : Nat} {o : Oper} (h : l.drop i = o :: r) : l.toArray[i]? = some o ∧ l.drop (i + 1) = r ∧ i < l.length := by
  refine ⟨?_, ?_, ?_⟩
  · have := List.getElem?_drop (xs := l) (i := i) (j := 0)
    rw [h] at this
    simpa using this.symm
  · rw [← List.tail_drop, h]; rfl
  · rcases Nat.lt_or_ge i l.length with h' | h'
    · exact h'
    · rw [List.drop_eq_nil_of_le h'] at h; cases h

section
variable {l : List Oper} {ks : List Nat}
theorem qs_facts {L : Act → Prop} : ∀ (r : List Oper) (kr : List Nat) (k : Nat) (a : Act), l.drop k = r → ks.drop k = kr → wpQs P l.toArray C L kr r a →
    ∃ V : Nat → Value, (∀ i o, k ≤ i → l.toArray[i]? = some o → kd ks i < 2 → Owe P l.toArray C (kd ks i) o (V i) (stL l.toArray V (nums ks pQ k i) a)) ∧ L (stL l.toArray V (nums ks pQ k l.length) a) := by
  intro r
  induction r with
  | nil =>
    intro kr k a hr _ h
    have hk : l.length ≤ k := by simpa using hr
    refine ⟨fun _ => undef, fun i o hi ho => ?_, ?_⟩
    · have := (Array.getElem?_eq_some_iff.1 ho).1; simp at this; omega
    · rw [nums_none hk]; unfold wpQs at h; exact h
  | cons o r ih =>
    intro kr k a hr hkr h
    obtain ⟨ho, hr', hlt⟩ := op_at hr
    have hdst : dstOf l.toArray k = o.dst := by unfold dstOf; rw [ho]; rfl
    cases kr with
    | nil => exact h.elim
    | cons c kr =>
      obtain ⟨hc, hkr'⟩ := kd_at hkr
      have step : ∀ (v : Value), c < 2 → Owe P l.toArray C c o v a → wpQs P l.toArray C L kr r (a.put o.dst v) →
          ∃ V : Nat → Value, (∀ i o, k ≤ i → l.toArray[i]? = some o → kd ks i < 2 → Owe P l.toArray C (kd ks i) o (V i) (stL l.toArray V (nums ks pQ k i) a)) ∧ L (stL l.toArray V (nums ks pQ k l.length) a) := by
        intro v hc2 hy h2
        obtain ⟨V, h3, h4⟩ := ih kr (k + 1) _ hr' hkr' h2
        have hV : ∀ (S : List Nat) (a : Act), (∀ i ∈ S, k < i) → stL l.toArray (fun i => if i = k then v else V i) S a = stL l.toArray V S a := by
          intro S
          induction S with
          | nil => intro a _; rfl
          | cons i S ihS =>
            intro a hS
            have hi := hS i (by simp)
            rw [stL_cons, stL_cons, ihS _ (fun j hj => hS j (List.mem_cons_of_mem _ hj)), if_neg (by omega)]
        have hst : ∀ n, k < n → stL l.toArray (fun i => if i = k then v else V i) (nums ks pQ k n) a = stL l.toArray V (nums ks pQ (k + 1) n) (a.put o.dst v) := fun n hn => by
          rw [nums_step hn, hc, if_pos (by simp; omega), stL_cons, hdst, if_pos rfl]
          exact hV _ _ fun i hi => by have := (mem_nums.1 hi).1.1; omega
        refine ⟨fun i => if i = k then v else V i, fun i o' hi ho' hk2 => ?_, by rw [hst _ hlt]; exact h4⟩
        rcases Nat.lt_or_eq_of_le hi with h5 | h5
        · rw [hst i h5]; dsimp only; rw [if_neg (show ¬ i = k by omega)]; exact h3 i o' (by omega) ho' hk2
        · subst h5
          rw [nums_none (Nat.le_refl _)]
          dsimp only
          rw [if_pos rfl, hc]
          rw [ho] at ho'
          obtain rfl := Option.some.inj ho'
          exact hy
      match c, h, hc with
      | 0, h, hc =>
        unfold wpQs at h
        by_cases hw : Region.wanted o (yielded l.toArray a.tmps) = true
        · rw [if_pos hw] at h
          obtain ⟨v, h1, h2⟩ := h
          exact step v (by omega) (show Gives P l.toArray C o v a from .inl ⟨hw, h1⟩) h2
        · rw [if_neg hw] at h
          exact step undef (by omega) (show Gives P l.toArray C o undef a from .inr ⟨by simpa using hw, rfl⟩) h
      | 1, h, hc =>
        unfold wpQs at h
        by_cases hw : Region.wanted o (yielded l.toArray a.tmps) = true
        · rw [if_pos hw] at h
          obtain ⟨v, h1, h2⟩ := h
          exact step v (by omega) (show Fixes P l.toArray o v a from .inl ⟨hw, h1⟩) h2
        · rw [if_neg hw] at h
          exact step undef (by omega) (show Fixes P l.toArray o undef a from .inr ⟨by simpa using hw, rfl⟩) h
      | c + 2, h, hc =>
        unfold wpQs at h
        obtain ⟨V, h3, h4⟩ := ih kr (k + 1) _ hr' hkr' h
        have hst : ∀ n, k < n → nums ks pQ k n = nums ks pQ (k + 1) n := fun n hn => by rw [nums_step hn, hc, if_neg (by simp [pQ])]
        refine ⟨V, fun i o' hi ho' hk2 => ?_, by rw [hst _ hlt]; exact h4⟩
        rcases Nat.lt_or_eq_of_le hi with h5 | h5
        · rw [hst i h5]; exact h3 i o' (by omega) ho' hk2
        · subst h5; omega
theorem ls_facts {w0 : World} {Ds : Nat → List Nat} {Rs : Nat → Rel} {an : Nat → Nat → Bool} {T : Act → World → Prop} : ∀ (r : List Oper) (kr : List Nat) (k : Nat) (a : Act) (Φ : World → Prop) (Ψ : (Nat → Prop) → World → Prop), l.drop k = r → ks.drop k = kr → wpLs P C w0 Ds Rs an T kr r k a Φ Ψ →
    ∀ V : Nat → Value, (∀ i o, k ≤ i → l.toArray[i]? = some o → kd ks i = 2 → ∀ w', C w' → Kept (fun b => b ∈ Ds i) w0 w' → Ψ (fun j => an i j = true) w' → (∀ j, k ≤ j → j < i → kd ks j = 2 → an i j = true → Rs j (V j) w') → sumAt P (Ds i) o (stL l.toArray V (nums ks pL k i) a) (Rs i) w') ∧
      ∀ w', C w' → Φ w' → (∀ i, k ≤ i → i < l.length → kd ks i = 2 → Rs i (V i) w') → T (stL l.toArray V (nums ks pL k l.length) a) w' := by
  intro r
  induction r with
  | nil =>
    intro kr k a Φ Ψ hr _ h V
    have hk : l.length ≤ k := by simpa using hr
    refine ⟨fun i o hi ho => ?_, fun w' h1 h2 _ => ?_⟩
    · have := (Array.getElem?_eq_some_iff.1 ho).1; simp at this; omega
    · rw [nums_none hk]; unfold wpLs at h; exact h w' h1 h2
  | cons o r ih =>
    intro kr k a Φ Ψ hr hkr h V
    obtain ⟨ho, hr', hlt⟩ := op_at hr
    have hdst : dstOf l.toArray k = o.dst := by unfold dstOf; rw [ho]; rfl
    cases kr with
    | nil => exact h.elim
    | cons c kr =>
      obtain ⟨hc, hkr'⟩ := kd_at hkr
      have skip : c ≠ 2 → wpLs P C w0 Ds Rs an T kr r (k + 1) a Φ Ψ → (∀ i o, k ≤ i → l.toArray[i]? = some o → kd ks i = 2 → ∀ w', C w' → Kept (fun b => b ∈ Ds i) w0 w' → Ψ (fun j => an i j = true) w' → (∀ j, k ≤ j → j < i → kd ks j = 2 → an i j = true → Rs j (V j) w') → sumAt P (Ds i) o (stL l.toArray V (nums ks pL k i) a) (Rs i) w') ∧
          ∀ w', C w' → Φ w' → (∀ i, k ≤ i → i < l.length → kd ks i = 2 → Rs i (V i) w') → T (stL l.toArray V (nums ks pL k l.length) a) w' := fun hc2 h => by
        obtain ⟨h3, h4⟩ := ih kr (k + 1) a Φ Ψ hr' hkr' h V
        have hst : ∀ n, k < n → nums ks pL k n = nums ks pL (k + 1) n := fun n hn => by rw [nums_step hn, hc, if_neg (by simpa using hc2)]
        refine ⟨fun i o' hi ho' hk2 => ?_, fun w' h1 h2 h5 => by rw [hst _ hlt]; exact h4 w' h1 h2 fun i hi => h5 i (by omega)⟩
        rcases Nat.lt_or_eq_of_le hi with h5 | h5
        · rw [hst i h5]; exact fun w' h6 h7 h8 h9 => h3 i o' (by omega) ho' hk2 w' h6 h7 h8 fun j hj => h9 j (by omega)
        · subst h5; omega
      match c, h, hc, skip with
      | 0, h, hc, skip => unfold wpLs at h; exact skip (by omega) h
      | 1, h, hc, skip => unfold wpLs at h; exact skip (by omega) h
      | 2, h, hc, _ =>
        unfold wpLs at h
        obtain ⟨h3, h4⟩ := ih kr (k + 1) _ _ _ hr' hkr' (h.2 (V k)) V
        have hst : ∀ n, k < n → stL l.toArray V (nums ks pL k n) a = stL l.toArray V (nums ks pL (k + 1) n) (a.put o.dst (V k)) := fun n hn => by
          rw [nums_step hn, hc, if_pos (by simp), stL_cons, hdst]
        refine ⟨fun i o' hi ho' hk2 => ?_, fun w' h1 h2 h5 => by rw [hst _ hlt]; exact h4 w' h1 ⟨h2, h5 k (Nat.le_refl _) hlt hc⟩ fun i hi => h5 i (by omega)⟩
        rcases Nat.lt_or_eq_of_le hi with h5 | h5
        · rw [hst i h5]; exact fun w' h6 h7 h8 h9 => h3 i o' (by omega) ho' hk2 w' h6 h7 ⟨h8, fun e => h9 k (Nat.le_refl _) h5 hc e⟩ fun j hj => h9 j (by omega)
        · subst h5
          rw [nums_none (Nat.le_refl _)]
          rw [ho] at ho'
          obtain rfl := Option.some.inj ho'
          exact fun w' h6 h7 h8 _ => h.1 w' h6 h7 h8
      | c + 3, h, hc, skip => unfold wpLs at h; exact skip (by omega) h
theorem tails_eq : ∀ (r : List Oper) (kr : List Nat) (k : Nat), l.drop k = r → ks.drop k = kr → kr.length = r.length → tails kr r = (nums ks pT k l.length).filterMap fun i => l.toArray[i]? := by
  intro r
  induction r with
  | nil =>
    intro kr k hr _ _
    have hk : l.length ≤ k := by simpa using hr
    rw [nums_none hk]; unfold tails; rfl
  | cons o r ih =>
    intro kr k hr hkr hlen
    obtain ⟨ho, hr', hlt⟩ := op_at hr
    cases kr with
    | nil => simp at hlen
    | cons c kr =>
      obtain ⟨hc, hkr'⟩ := kd_at hkr
      have h1 := ih kr (k + 1) hr' hkr' (by simpa using hlen)
      rw [nums_step hlt, hc]
      match c with
      | 0 => rw [if_neg (by simp)]; unfold tails; exact h1
      | 1 => rw [if_neg (by simp)]; unfold tails; exact h1
      | 2 => rw [if_neg (by simp)]; unfold tails; exact h1
      | c + 3 => rw [if_pos (by simp)]; unfold tails; simp only [List.filterMap_cons, ho, h1]
end
end
attribute [go_sem] fixOp fixAt fixUpon
end Go.Proofs.Ytkopenemoddbbaa
