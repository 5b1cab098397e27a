/- Texts that build one behind the other, laid together: Sched Sched2 SchedR Sched4 Many Exch Shut Byt App App2 DiskW. -/
import Derived.Test.YtmbccnioijokfaaGreatDoorMw1
import Derived.Test.YtmbccnioijokfaaGreatDoorRows
import Derived.ProofKit
import Derived.OpenShut
import Derived.Deep.Slices
import Derived.Lib.AppendZeros
import Derived.Deep.Upon
import Derived.Maps.OwnSet
import Derived.Maps.RangeWalk
namespace Go.Proofs.YtmbccnioijokfaaGreatDoor
open Go.RowKit
section
variable {P : Program} {ops : Array Oper} {C : World → Prop}
def dstOf (ops : Array Oper) (i : Nat) : Option Tmp := (ops[i]?).bind (·.dst)
def kd (ks : List Nat) (i : Nat) : Nat := ks.getD i 3
theorem put_size (a : Act) (x : Option Tmp) (v : Value) : (a.put x v).tmps.size = a.tmps.size := by cases x <;> simp [Act.put]
theorem put_defers (a : Act) (x : Option Tmp) (v : Value) : (a.put x v).defers = a.defers := by cases x <;> rfl
theorem put_miss (a : Act) {x : Option Tmp} {t : Nat} (v : Value) (h : x ≠ some t) : (a.put x v).tmps.getD t undef = a.tmps.getD t undef := by
  cases x with
  | none => rfl
  | some d =>
    have hne : d ≠ t := fun e => h (by rw [e])
    simp [Act.put, Array.getElem?_setIfInBounds_ne hne]
theorem put_hit (a : Act) {t : Nat} (v : Value) (h : t < a.tmps.size) : (a.put (some t) v).tmps.getD t undef = v := by simp [Act.put, h]
theorem act_ext {a b : Act} (h1 : a.tmps.size = b.tmps.size) (h2 : ∀ t, a.tmps.getD t undef = b.tmps.getD t undef) (h3 : a.defers = b.defers) : a = b := by
  obtain ⟨ta, da⟩ := a
  obtain ⟨tb, db⟩ := b
  dsimp only at *
  subst h3
  congr 1
  apply Array.ext h1
  intro i hi hj
  have := h2 i
  simpa [hi, hj] using this
def stL (ops : Array Oper) (V : Nat → Value) (S : List Nat) (a : Act) : Act := S.foldl (fun a i => a.put (dstOf ops i) (V i)) a
theorem stL_cons (V : Nat → Value) (i : Nat) (S : List Nat) (a : Act) : stL ops V (i :: S) a = stL ops V S (a.put (dstOf ops i) (V i)) := rfl
theorem stL_app (V : Nat → Value) (S T : List Nat) (a : Act) : stL ops V (S ++ T) a = stL ops V T (stL ops V S a) := by simp [stL, List.foldl_append]
theorem stL_size (V : Nat → Value) (S : List Nat) : ∀ a, (stL ops V S a).tmps.size = a.tmps.size := by
  induction S with
  | nil => intro a; rfl
  | cons i S ih => intro a; rw [stL_cons, ih, put_size]
theorem stL_defers (V : Nat → Value) (S : List Nat) : ∀ a, (stL ops V S a).defers = a.defers := by
  induction S with
  | nil => intro a; rfl
  | cons i S ih => intro a; rw [stL_cons, ih, put_defers]
theorem stL_miss (V : Nat → Value) {t : Nat} (S : List Nat) : ∀ a, (∀ j ∈ S, dstOf ops j ≠ some t) → (stL ops V S a).tmps.getD t undef = a.tmps.getD t undef := by
  induction S with
  | nil => intro a _; rfl
  | cons i S ih => intro a h; rw [stL_cons, ih _ (fun j hj => h j (List.mem_cons_of_mem _ hj)), put_miss _ _ (h i (by simp))]
def Apart (ops : Array Oper) : Prop := ∀ i j d, i ≠ j → dstOf ops i = some d → dstOf ops j ≠ some d
theorem stL_hit (hD : Apart ops) (V : Nat → Value) {t j : Nat} (hj : dstOf ops j = some t) (S : List Nat) : ∀ a, t < a.tmps.size → j ∈ S → (stL ops V S a).tmps.getD t undef = V j := by
  induction S with
  | nil => intro a _ h; cases h
  | cons i S ih =>
    intro a ht h
    rw [stL_cons]
    by_cases hS : j ∈ S
    · exact ih _ (by rw [put_size]; exact ht) hS
    · have hij : j = i := by
        rcases List.mem_cons.1 h with e | e
        · exact e
        · exact absurd e hS
      subst hij
      rw [stL_miss V S _ (fun k hk e => hD j k t (fun e' => hS (e' ▸ hk)) hj e), hj, put_hit _ _ ht]
theorem stL_agree (hD : Apart ops) {V V' : Nat → Value} {S T : List Nat} {a : Act} {t : Nat} (h : ∀ j, dstOf ops j = some t → (j ∈ S ↔ j ∈ T) ∧ (j ∈ S → V j = V' j)) : (stL ops V S a).tmps.getD t undef = (stL ops V' T a).tmps.getD t undef := by
  by_cases ht : t < a.tmps.size
  · by_cases he : ∃ j ∈ S, dstOf ops j = some t
    · obtain ⟨j, hj, hd⟩ := he
      rw [stL_hit hD V hd S a ht hj, stL_hit hD V' hd T a ht ((h j hd).1.1 hj)]
      exact (h j hd).2 hj
    · rw [stL_miss V S a (fun j hj hd => he ⟨j, hj, hd⟩), stL_miss V' T a (fun j hj hd => he ⟨j, (h j hd).1.2 hj, hd⟩)]
  · have h1 : ¬ t < (stL ops V S a).tmps.size := by rw [stL_size]; exact ht
    have h2 : ¬ t < (stL ops V' T a).tmps.size := by rw [stL_size]; exact ht
    simp [h1, h2]
theorem stL_same (hD : Apart ops) {V V' : Nat → Value} {S T : List Nat} {a : Act} (h : ∀ j, (j ∈ S ↔ j ∈ T) ∧ (j ∈ S → V j = V' j)) : stL ops V S a = stL ops V' T a :=
  act_ext (by rw [stL_size, stL_size]) (fun _ => stL_agree hD fun j _ => h j) (by rw [stL_defers, stL_defers])
def Alike (ops : Array Oper) (o : Oper) (a b : Act) : Prop := ∀ t ∈ o.looksAt ops, a.tmps.getD t undef = b.tmps.getD t undef
theorem exec_alike {o : Oper} {a b : Act} (hs : ∀ cs b, o.op ≠ .select cs b) (h : Alike ops o a b) : execOp a.eval o = execOp b.eval o :=
  execOp_congr o hs fun x hx => by
    cases x with
    | tmp t => exact h t (List.mem_append_left _ (List.mem_filterMap.2 ⟨.tmp t, by simpa using hx, rfl⟩))
    | _ => rfl
theorem wanted_alike {o : Oper} {a b : Act} (h : Alike ops o a b) (hz : a.tmps.size = b.tmps.size) : Region.wanted o (yielded ops a.tmps) = Region.wanted o (yielded ops b.tmps) := by
  unfold Region.wanted
  cases hg : o.guard with
  | none => rfl
  | some gw =>
    obtain ⟨g, want⟩ := gw
    have hy : yielded ops a.tmps g = yielded ops b.tmps g := by
      unfold yielded
      cases ht : (ops[g]?).bind (·.dst) with
      | none => rfl
      | some t =>
        have := h t (by simp [Oper.looksAt, hg, ht])
        by_cases h1 : t < a.tmps.size
        · have h2 : t < b.tmps.size := hz ▸ h1
          simp [h1, h2] at this ⊢
          rw [this]
        · have h2 : ¬ t < b.tmps.size := hz ▸ h1
          simp [h1, h2]
    simp only [hy]
theorem Gives.alike {o : Oper} {v : Value} {a b : Act} (hs : ∀ cs b, o.op ≠ .select cs b) (h : Alike ops o a b) (hz : a.tmps.size = b.tmps.size) (hy : Gives P ops C o v a) : Gives P ops C o v b := by
  unfold Gives relAt at *
  rwa [← exec_alike hs h, ← wanted_alike h hz]
def sumUpon (P : Program) (D : List Nat) (R : Rel) (w : World) : Result Next → Prop
  | .ok (.value u) w' => Kept (fun b => b ∉ D) w w' ∧ R u w'
  | .ok .skip w' => Kept (fun b => b ∉ D) w w' ∧ R undef w'
  | .ok (.enter f args) w' => w' = w ∧ Calls P f args w (fun e w'' => ∃ u, e = .returned u ∧ Kept (fun b => b ∉ D) w w'' ∧ R u w'')
  | _ => False
def sumAt (P : Program) (D : List Nat) (o : Oper) (a : Act) (R : Rel) (w : World) : Prop := sumUpon P D R w ((execOp a.eval o).run P w)
theorem wp_of_sumAt {D : List Nat} {o : Oper} {a : Act} {w : World} {R : Rel} {K : Act → World → Prop} {Q' : Exit → Act → World → Prop} (h : sumAt P D o a R w) (hk : ∀ v w', Kept (fun b => b ∉ D) w w' → R v w' → K (a.put o.dst v) w') : o.wp P a w K Q' := by
  unfold sumAt at h
  unfold Oper.wp
  generalize (execOp a.eval o).run P w = r at *
  cases r with
  | ok nx w' =>
    cases nx <;> simp only [sumUpon] at h <;> simp only [Oper.upon]
    case value u => exact hk _ _ h.1 h.2
    case skip => exact hk _ _ h.1 h.2
    case enter f args =>
      obtain ⟨e1, hc⟩ := h
      rw [e1]
      exact hc.mono fun e w'' ⟨u, he, hb, hR⟩ => by subst he; exact hk _ _ hb hR
  | halt x w' => simp only [sumUpon] at h
theorem sumAt.alike {D : List Nat} {o : Oper} {R : Rel} {w : World} {a b : Act} (hs : ∀ cs b, o.op ≠ .select cs b) (h : Alike ops o a b) (hy : sumAt P D o a R w) : sumAt P D o b R w := by
  unfold sumAt at *
  rwa [← exec_alike hs h]
def fixUpon (w : World) (v : Value) : Result Next → Prop
  | .ok (.value u) w' => w' = w ∧ u = v
  | _ => False
def fixAt (P : Program) (o : Oper) (a : Act) (w : World) (v : Value) : Prop := fixUpon w v ((execOp a.eval o).run P w)
def fixOp (P : Program) (o : Oper) (a : Act) (K : Act → Prop) : Prop := ∃ v, (∀ w, fixAt P o a w v) ∧ K (a.put o.dst v)
def Fixes (P : Program) (ops : Array Oper) (o : Oper) (v : Value) (a : Act) : Prop :=
  (Region.wanted o (yielded ops a.tmps) = true ∧ ∀ w, fixAt P o a w v) ∨ (Region.wanted o (yielded ops a.tmps) = false ∧ v = undef)
theorem relAt_of_fix {o : Oper} {a : Act} {w : World} {v : Value} (h : fixAt P o a w v) : relAt P o a w v := by
  unfold fixAt at h
  unfold relAt
  generalize (execOp a.eval o).run P w = r at *
  cases r with
  | ok nx w' => cases nx <;> simp only [fixUpon] at h <;> exact h
  | halt x w' => exact h.elim
theorem wp_of_fix {o : Oper} {a : Act} {w : World} {v : Value} {K : Act → World → Prop} {Q : Exit → Act → World → Prop} (h : fixAt P o a w v) (hk : K (a.put o.dst v) w) : o.wp P a w K Q := by
  unfold fixAt at h
  unfold Oper.wp
  generalize (execOp a.eval o).run P w = r at *
  cases r with
  | ok nx w' =>
    cases nx <;> simp only [fixUpon] at h
    obtain ⟨rfl, rfl⟩ := h
    exact hk
  | halt x w' => exact h.elim
theorem Fixes.gives {o : Oper} {v : Value} {a : Act} (h : Fixes P ops o v a) : Gives P ops C o v a := h.imp (fun h => ⟨h.1, fun w _ => relAt_of_fix (h.2 w)⟩) id
theorem Fixes.alike {o : Oper} {v : Value} {a b : Act} (hs : ∀ cs b, o.op ≠ .select cs b) (h : Alike ops o a b) (hz : a.tmps.size = b.tmps.size) (hy : Fixes P ops o v a) : Fixes P ops o v b := by
  unfold Fixes fixAt at *
  rwa [← exec_alike hs h, ← wanted_alike h hz]
def Owe (P : Program) (ops : Array Oper) (C : World → Prop) (k : Nat) (o : Oper) (v : Value) (a : Act) : Prop := if k = 0 then Gives P ops C o v a else Fixes P ops o v a
def wpQs (P : Program) (ops : Array Oper) (C : World → Prop) (L : Act → Prop) : List Nat → List Oper → Act → Prop
  | _, [], a => L a
  | [], _ :: _, _ => False
  | 0 :: ks, o :: l, a => if Region.wanted o (yielded ops a.tmps) then relOp P o a C (wpQs P ops C L ks l) else wpQs P ops C L ks l (a.put o.dst undef)
  | 1 :: ks, o :: l, a => if Region.wanted o (yielded ops a.tmps) then fixOp P o a (wpQs P ops C L ks l) else wpQs P ops C L ks l (a.put o.dst undef)
  | (_ + 2) :: ks, _ :: l, a => wpQs P ops C L ks l a
theorem wpQs_nil {L : Act → Prop} {ks : List Nat} {a : Act} (h : L a) : wpQs P ops C L ks [] a := by unfold wpQs; exact h
theorem wpQs_q {L : Act → Prop} {ks : List Nat} {a : Act} {o : Oper} {l : List Oper}
    (h : ∀ K : Act → Prop, (∀ a, wpQs P ops C L ks l a → K a) → if Region.wanted o (yielded ops a.tmps) then relOp P o a C K else K (a.put o.dst undef)) : wpQs P ops C L (0 :: ks) (o :: l) a := h _ fun _ h => h
theorem wpQs_f {L : Act → Prop} {ks : List Nat} {a : Act} {o : Oper} {l : List Oper}
    (h : ∀ K : Act → Prop, (∀ a, wpQs P ops C L ks l a → K a) → if Region.wanted o (yielded ops a.tmps) then fixOp P o a K else K (a.put o.dst undef)) : wpQs P ops C L (1 :: ks) (o :: l) a := h _ fun _ h => h
theorem wpQs_s {L : Act → Prop} {ks : List Nat} {a : Act} {o : Oper} {l : List Oper} {k : Nat} (h : wpQs P ops C L ks l a) : wpQs P ops C L ((k + 2) :: ks) (o :: l) a := h
def wpLs (P : Program) (C : World → Prop) (w0 : World) (Ds : Nat → List Nat) (Rs : Nat → Rel) (an : Nat → Nat → Bool) (T : Act → World → Prop) : List Nat → List Oper → Nat → Act → (World → Prop) → ((Nat → Prop) → World → Prop) → Prop
  | _, [], _, a, Φ, _ => ∀ w', C w' → Φ w' → T a w'
  | [], _ :: _, _, _, _, _ => False
  | 0 :: ks, _ :: l, i, a, Φ, Ψ => wpLs P C w0 Ds Rs an T ks l (i + 1) a Φ Ψ
  | 1 :: ks, _ :: l, i, a, Φ, Ψ => wpLs P C w0 Ds Rs an T ks l (i + 1) a Φ Ψ
  | 2 :: ks, o :: l, i, a, Φ, Ψ => (∀ w', C w' → Kept (fun b => b ∈ Ds i) w0 w' → Ψ (fun j => an i j = true) w' → sumAt P (Ds i) o a (Rs i) w') ∧ ∀ v, wpLs P C w0 Ds Rs an T ks l (i + 1) (a.put o.dst v) (fun w => Φ w ∧ Rs i v w) (fun S w => Ψ S w ∧ (S i → Rs i v w))
  | (_ + 3) :: ks, _ :: l, i, a, Φ, Ψ => wpLs P C w0 Ds Rs an T ks l (i + 1) a Φ Ψ
def tails : List Nat → List Oper → List Oper
  | _, [] => []
  | [], _ :: _ => []
  | 0 :: ks, _ :: l => tails ks l
  | 1 :: ks, _ :: l => tails ks l
  | 2 :: ks, _ :: l => tails ks l
  | (_ + 3) :: ks, o :: l => o :: tails ks l
def nums (ks : List Nat) (p : Nat → Bool) (k n : Nat) : List Nat := (List.range' k (n - k)).filter fun i => p (kd ks i)
theorem mem_nums {ks : List Nat} {p : Nat → Bool} {k n i : Nat} : i ∈ nums ks p k n ↔ (k ≤ i ∧ i < n) ∧ p (kd ks i) = true := by
  unfold nums
  simp only [List.mem_filter, List.mem_range'_1]
  constructor
  · rintro ⟨h1, h2⟩; exact ⟨⟨h1.1, by omega⟩, h2⟩
  · rintro ⟨h1, h2⟩; exact ⟨⟨h1.1, by omega⟩, h2⟩
theorem nums_step {ks : List Nat} {p : Nat → Bool} {k n : Nat} (h : k < n) : nums ks p k n = if p (kd ks k) then k :: nums ks p (k + 1) n else nums ks p (k + 1) n := by
  unfold nums
  rw [show n - k = (n - (k + 1)) + 1 by omega, List.range'_succ, List.filter_cons]
theorem nums_none {ks : List Nat} {p : Nat → Bool} {k n : Nat} (h : n ≤ k) : nums ks p k n = [] := by unfold nums; rw [show n - k = 0 by omega]; rfl
abbrev pQ (k : Nat) : Bool := decide (k < 2)
abbrev pL (k : Nat) : Bool := k == 2
abbrev pT (k : Nat) : Bool := decide (3 ≤ k)
theorem kd_at {ks : List Nat} {i k : Nat} {r : List Nat} (h : ks.drop i = k :: r) : kd ks i = k ∧ ks.drop (i + 1) = r := by
  constructor
  · have := List.getElem?_drop (xs := ks) (i := i) (j := 0)
    rw [h] at this
    simp only [List.getElem?_cons_zero, Nat.add_zero] at this
    simp [kd, ← this]
  · rw [← List.tail_drop, h]; rfl
theorem op_at {l r : List Oper} {i : Nat} {o : Oper} (h : l.drop i = o :: r) : l.toArray[i]? = some o ∧ l.drop (i + 1) = r ∧ i < l.length := by
  refine ⟨?_, ?_, ?_⟩
  · have := List.getElem?_drop (xs := l) (i := i) (j := 0)
    rw [h] at this
    simpa using this.symm
  · rw [← List.tail_drop, h]; rfl
  · rcases Nat.lt_or_ge i l.length with h' | h'
    · exact h'
    · rw [List.drop_eq_nil_of_le h'] at h; cases h
section
variable {l : List Oper} {ks : List Nat}
theorem qs_facts {L : Act → Prop} : ∀ (r : List Oper) (kr : List Nat) (k : Nat) (a : Act), l.drop k = r → ks.drop k = kr → wpQs P l.toArray C L kr r a →
    ∃ V : Nat → Value, (∀ i o, k ≤ i → l.toArray[i]? = some o → kd ks i < 2 → Owe P l.toArray C (kd ks i) o (V i) (stL l.toArray V (nums ks pQ k i) a)) ∧ L (stL l.toArray V (nums ks pQ k l.length) a) := by
  intro r
  induction r with
  | nil =>
    intro kr k a hr _ h
    have hk : l.length ≤ k := by simpa using hr
    refine ⟨fun _ => undef, fun i o hi ho => ?_, ?_⟩
    · have := (Array.getElem?_eq_some_iff.1 ho).1; simp at this; omega
    · rw [nums_none hk]; unfold wpQs at h; exact h
  | cons o r ih =>
    intro kr k a hr hkr h
    obtain ⟨ho, hr', hlt⟩ := op_at hr
    have hdst : dstOf l.toArray k = o.dst := by unfold dstOf; rw [ho]; rfl
    cases kr with
    | nil => exact h.elim
    | cons c kr =>
      obtain ⟨hc, hkr'⟩ := kd_at hkr
      have step : ∀ (v : Value), c < 2 → Owe P l.toArray C c o v a → wpQs P l.toArray C L kr r (a.put o.dst v) →
          ∃ V : Nat → Value, (∀ i o, k ≤ i → l.toArray[i]? = some o → kd ks i < 2 → Owe P l.toArray C (kd ks i) o (V i) (stL l.toArray V (nums ks pQ k i) a)) ∧ L (stL l.toArray V (nums ks pQ k l.length) a) := by
        intro v hc2 hy h2
        obtain ⟨V, h3, h4⟩ := ih kr (k + 1) _ hr' hkr' h2
        have hV : ∀ (S : List Nat) (a : Act), (∀ i ∈ S, k < i) → stL l.toArray (fun i => if i = k then v else V i) S a = stL l.toArray V S a := by
          intro S
          induction S with
          | nil => intro a _; rfl
          | cons i S ihS =>
            intro a hS
            have hi := hS i (by simp)
            rw [stL_cons, stL_cons, ihS _ (fun j hj => hS j (List.mem_cons_of_mem _ hj)), if_neg (by omega)]
        have hst : ∀ n, k < n → stL l.toArray (fun i => if i = k then v else V i) (nums ks pQ k n) a = stL l.toArray V (nums ks pQ (k + 1) n) (a.put o.dst v) := fun n hn => by
          rw [nums_step hn, hc, if_pos (by simp; omega), stL_cons, hdst, if_pos rfl]
          exact hV _ _ fun i hi => by have := (mem_nums.1 hi).1.1; omega
        refine ⟨fun i => if i = k then v else V i, fun i o' hi ho' hk2 => ?_, by rw [hst _ hlt]; exact h4⟩
        rcases Nat.lt_or_eq_of_le hi with h5 | h5
        · rw [hst i h5]; dsimp only; rw [if_neg (show ¬ i = k by omega)]; exact h3 i o' (by omega) ho' hk2
        · subst h5
          rw [nums_none (Nat.le_refl _)]
          dsimp only
          rw [if_pos rfl, hc]
          rw [ho] at ho'
          obtain rfl := Option.some.inj ho'
          exact hy
      match c, h, hc with
      | 0, h, hc =>
        unfold wpQs at h
        by_cases hw : Region.wanted o (yielded l.toArray a.tmps) = true
        · rw [if_pos hw] at h
          obtain ⟨v, h1, h2⟩ := h
          exact step v (by omega) (show Gives P l.toArray C o v a from .inl ⟨hw, h1⟩) h2
        · rw [if_neg hw] at h
          exact step undef (by omega) (show Gives P l.toArray C o undef a from .inr ⟨by simpa using hw, rfl⟩) h
      | 1, h, hc =>
        unfold wpQs at h
        by_cases hw : Region.wanted o (yielded l.toArray a.tmps) = true
        · rw [if_pos hw] at h
          obtain ⟨v, h1, h2⟩ := h
          exact step v (by omega) (show Fixes P l.toArray o v a from .inl ⟨hw, h1⟩) h2
        · rw [if_neg hw] at h
          exact step undef (by omega) (show Fixes P l.toArray o undef a from .inr ⟨by simpa using hw, rfl⟩) h
      | c + 2, h, hc =>
        unfold wpQs at h
        obtain ⟨V, h3, h4⟩ := ih kr (k + 1) _ hr' hkr' h
        have hst : ∀ n, k < n → nums ks pQ k n = nums ks pQ (k + 1) n := fun n hn => by rw [nums_step hn, hc, if_neg (by simp [pQ])]
        refine ⟨V, fun i o' hi ho' hk2 => ?_, by rw [hst _ hlt]; exact h4⟩
        rcases Nat.lt_or_eq_of_le hi with h5 | h5
        · rw [hst i h5]; exact h3 i o' (by omega) ho' hk2
        · subst h5; omega
theorem ls_facts {w0 : World} {Ds : Nat → List Nat} {Rs : Nat → Rel} {an : Nat → Nat → Bool} {T : Act → World → Prop} : ∀ (r : List Oper) (kr : List Nat) (k : Nat) (a : Act) (Φ : World → Prop) (Ψ : (Nat → Prop) → World → Prop), l.drop k = r → ks.drop k = kr → wpLs P C w0 Ds Rs an T kr r k a Φ Ψ →
    ∀ V : Nat → Value, (∀ i o, k ≤ i → l.toArray[i]? = some o → kd ks i = 2 → ∀ w', C w' → Kept (fun b => b ∈ Ds i) w0 w' → Ψ (fun j => an i j = true) w' → (∀ j, k ≤ j → j < i → kd ks j = 2 → an i j = true → Rs j (V j) w') → sumAt P (Ds i) o (stL l.toArray V (nums ks pL k i) a) (Rs i) w') ∧
      ∀ w', C w' → Φ w' → (∀ i, k ≤ i → i < l.length → kd ks i = 2 → Rs i (V i) w') → T (stL l.toArray V (nums ks pL k l.length) a) w' := by
  intro r
  induction r with
  | nil =>
    intro kr k a Φ Ψ hr _ h V
    have hk : l.length ≤ k := by simpa using hr
    refine ⟨fun i o hi ho => ?_, fun w' h1 h2 _ => ?_⟩
    · have := (Array.getElem?_eq_some_iff.1 ho).1; simp at this; omega
    · rw [nums_none hk]; unfold wpLs at h; exact h w' h1 h2
  | cons o r ih =>
    intro kr k a Φ Ψ hr hkr h V
    obtain ⟨ho, hr', hlt⟩ := op_at hr
    have hdst : dstOf l.toArray k = o.dst := by unfold dstOf; rw [ho]; rfl
    cases kr with
    | nil => exact h.elim
    | cons c kr =>
      obtain ⟨hc, hkr'⟩ := kd_at hkr
      have skip : c ≠ 2 → wpLs P C w0 Ds Rs an T kr r (k + 1) a Φ Ψ → (∀ i o, k ≤ i → l.toArray[i]? = some o → kd ks i = 2 → ∀ w', C w' → Kept (fun b => b ∈ Ds i) w0 w' → Ψ (fun j => an i j = true) w' → (∀ j, k ≤ j → j < i → kd ks j = 2 → an i j = true → Rs j (V j) w') → sumAt P (Ds i) o (stL l.toArray V (nums ks pL k i) a) (Rs i) w') ∧
          ∀ w', C w' → Φ w' → (∀ i, k ≤ i → i < l.length → kd ks i = 2 → Rs i (V i) w') → T (stL l.toArray V (nums ks pL k l.length) a) w' := fun hc2 h => by
        obtain ⟨h3, h4⟩ := ih kr (k + 1) a Φ Ψ hr' hkr' h V
        have hst : ∀ n, k < n → nums ks pL k n = nums ks pL (k + 1) n := fun n hn => by rw [nums_step hn, hc, if_neg (by simpa using hc2)]
        refine ⟨fun i o' hi ho' hk2 => ?_, fun w' h1 h2 h5 => by rw [hst _ hlt]; exact h4 w' h1 h2 fun i hi => h5 i (by omega)⟩
        rcases Nat.lt_or_eq_of_le hi with h5 | h5
        · rw [hst i h5]; exact fun w' h6 h7 h8 h9 => h3 i o' (by omega) ho' hk2 w' h6 h7 h8 fun j hj => h9 j (by omega)
        · subst h5; omega
      match c, h, hc, skip with
      | 0, h, hc, skip => unfold wpLs at h; exact skip (by omega) h
      | 1, h, hc, skip => unfold wpLs at h; exact skip (by omega) h
      | 2, h, hc, _ =>
        unfold wpLs at h
        obtain ⟨h3, h4⟩ := ih kr (k + 1) _ _ _ hr' hkr' (h.2 (V k)) V
        have hst : ∀ n, k < n → stL l.toArray V (nums ks pL k n) a = stL l.toArray V (nums ks pL (k + 1) n) (a.put o.dst (V k)) := fun n hn => by
          rw [nums_step hn, hc, if_pos (by simp), stL_cons, hdst]
        refine ⟨fun i o' hi ho' hk2 => ?_, fun w' h1 h2 h5 => by rw [hst _ hlt]; exact h4 w' h1 ⟨h2, h5 k (Nat.le_refl _) hlt hc⟩ fun i hi => h5 i (by omega)⟩
        rcases Nat.lt_or_eq_of_le hi with h5 | h5
        · rw [hst i h5]; exact fun w' h6 h7 h8 h9 => h3 i o' (by omega) ho' hk2 w' h6 h7 ⟨h8, fun e => h9 k (Nat.le_refl _) h5 hc e⟩ fun j hj => h9 j (by omega)
        · subst h5
          rw [nums_none (Nat.le_refl _)]
          rw [ho] at ho'
          obtain rfl := Option.some.inj ho'
          exact fun w' h6 h7 h8 _ => h.1 w' h6 h7 h8
      | c + 3, h, hc, skip => unfold wpLs at h; exact skip (by omega) h
theorem tails_eq : ∀ (r : List Oper) (kr : List Nat) (k : Nat), l.drop k = r → ks.drop k = kr → kr.length = r.length → tails kr r = (nums ks pT k l.length).filterMap fun i => l.toArray[i]? := by
  intro r
  induction r with
  | nil =>
    intro kr k hr _ _
    have hk : l.length ≤ k := by simpa using hr
    rw [nums_none hk]; unfold tails; rfl
  | cons o r ih =>
    intro kr k hr hkr hlen
    obtain ⟨ho, hr', hlt⟩ := op_at hr
    cases kr with
    | nil => simp at hlen
    | cons c kr =>
      obtain ⟨hc, hkr'⟩ := kd_at hkr
      have h1 := ih kr (k + 1) hr' hkr' (by simpa using hlen)
      rw [nums_step hlt, hc]
      match c with
      | 0 => rw [if_neg (by simp)]; unfold tails; exact h1
      | 1 => rw [if_neg (by simp)]; unfold tails; exact h1
      | 2 => rw [if_neg (by simp)]; unfold tails; exact h1
      | c + 3 => rw [if_pos (by simp)]; unfold tails; simp only [List.filterMap_cons, ho, h1]
end
end
attribute [go_sem] fixOp fixAt fixUpon
end Go.Proofs.YtmbccnioijokfaaGreatDoor

namespace Go.Proofs.YtmbccnioijokfaaGreatDoor
open Go.RowKit
section
variable {P : Program} {ops : Array Oper} {C : World → Prop} {ks : List Nat}
structure Sch (ops : Array Oper) (ks : List Nat) (anc : Nat → Nat → Prop) : Prop where
  sel : ∀ (j : Nat) (o : Oper) cs b, ops[j]? = some o → o.op ≠ .select cs b
  len : ks.length = ops.size
  apart : Apart ops
  edges : ∀ (i : Nat) (o : Oper), ops[i]? = some o → ∀ e ∈ o.after, Region.binds .any e = true → e.on < i
  lower : ∀ i j, anc i j → j < i ∧ ∃ o, ops[i]? = some o ∧ ∃ e ∈ o.after, Region.binds .any e = true ∧ (e.on = j ∨ anc e.on j)
  looks : ∀ (i : Nat) (o : Oper), ops[i]? = some o → ∀ t ∈ o.looksAt ops, ∀ j, dstOf ops j = some t → (anc i j ∧ (kd ks j < 2 ∨ 3 ≤ kd ks i ∨ (kd ks i = 2 ∧ kd ks j = 2))) ∨ (kd ks i < 3 ∧ kd ks i ≠ 1 ∧ 3 ≤ kd ks j)
  tail : ∀ (i : Nat) (o : Oper), ops[i]? = some o → 3 ≤ kd ks i → ∀ j, j < ops.size → kd ks j = 1 ∨ (3 ≤ kd ks j ∧ i ≤ j) ∨ anc i j
def ancB (b : Array Nat) (i j : Nat) : Bool := (b.getD i 0).testBit j
def schedB0 (ops : Array Oper) (ks : List Nat) : Bool :=
  Region.noSelect ops && ks.length == ops.size &&
  (List.range ops.size).all fun i => match ops[i]? with
    | none => false
    | some o => o.after.all (fun e => !Region.binds .any e || decide (e.on < i)) &&
      (List.range ops.size).all fun j =>
        (j == i || match o.dst with | none => true | some d => dstOf ops j != some d) &&
        (match dstOf ops j with | none => true | some d => !(o.looksAt ops).contains d || (ancB (Region.before ops) i j && (decide (kd ks j < 2) || decide (3 ≤ kd ks i) || (decide (kd ks i = 2) && decide (kd ks j = 2)))) || (decide (kd ks i < 3) && kd ks i != 1 && decide (3 ≤ kd ks j))) &&
        (!ancB (Region.before ops) i j || (decide (j < i) && o.after.any fun e => Region.binds .any e && (e.on == j || ancB (Region.before ops) e.on j))) &&
        (decide (kd ks i < 3) || kd ks j == 1 || (decide (3 ≤ kd ks j) && decide (i ≤ j)) || ancB (Region.before ops) i j)
def guardsB (ops : Array Oper) (ks : List Nat) : Bool := (List.range ops.size).all fun i => match ops[i]? with
    | none => false
    | some o => kd ks i != 2 || o.guard.isNone
def schedB (ops : Array Oper) (ks : List Nat) : Bool := schedB0 ops ks && guardsB ops ks
theorem guard_of (h : schedB ops ks = true) (i : Nat) (o : Oper) (ho : ops[i]? = some o) (hk : kd ks i = 2) : o.guard = none := by
  simp only [schedB, guardsB, Bool.and_eq_true, List.all_eq_true, List.mem_range] at h
  have := h.2 i (Array.getElem?_eq_some_iff.1 ho).1
  rw [ho] at this
  simpa [hk] using this
theorem sch_of0 (h : schedB0 ops ks = true) : Sch ops ks (fun i j => i < ops.size ∧ j < ops.size ∧ ancB (Region.before ops) i j = true) := by
  simp only [schedB0, Bool.and_eq_true, beq_iff_eq, List.all_eq_true, List.mem_range] at h
  obtain ⟨⟨h1, h2⟩, h3⟩ := h
  have key : ∀ (i : Nat) (o : Oper), ops[i]? = some o → (o.after.all (fun e => !Region.binds .any e || decide (e.on < i)) = true) ∧ ∀ j, j < ops.size →
      (((j == i || match o.dst with | none => true | some d => dstOf ops j != some d) = true ∧
        (match dstOf ops j with | none => true | some d => !(o.looksAt ops).contains d || (ancB (Region.before ops) i j && (decide (kd ks j < 2) || decide (3 ≤ kd ks i) || (decide (kd ks i = 2) && decide (kd ks j = 2)))) || (decide (kd ks i < 3) && kd ks i != 1 && decide (3 ≤ kd ks j))) = true) ∧
        (!ancB (Region.before ops) i j || (decide (j < i) && o.after.any fun e => Region.binds .any e && (e.on == j || ancB (Region.before ops) e.on j))) = true) ∧
        (decide (kd ks i < 3) || kd ks j == 1 || (decide (3 ≤ kd ks j) && decide (i ≤ j)) || ancB (Region.before ops) i j) = true := fun i o ho => by
    have := h3 i (Array.getElem?_eq_some_iff.1 ho).1
    rw [ho] at this
    simp only [Bool.and_eq_true, List.all_eq_true, List.mem_range] at this
    exact ⟨this.1, this.2⟩
  have low : ∀ (i : Nat) (o : Oper), ops[i]? = some o → ∀ e ∈ o.after, Region.binds .any e = true → e.on < i := fun i o ho e he hb => by
    have := Array.all_eq_true_iff_forall_mem.1 (key i o ho).1 e he
    simpa [hb] using this
  refine ⟨Region.noSelect_spec h1, h2, fun i j d hij hi hj => ?_, low, fun i j ⟨hi, hj, ha⟩ => ?_, fun i o ho t ht j hj => ?_, fun i o ho hk j hj => ?_⟩
  · have hjlt : j < ops.size := by
      unfold dstOf at hj
      cases h : ops[j]? with
      | none => rw [h] at hj; cases hj
      | some _ => exact (Array.getElem?_eq_some_iff.1 h).1
    cases ho : ops[i]? with
    | none => unfold dstOf at hi; rw [ho] at hi; cases hi
    | some o =>
      have hod : o.dst = some d := by unfold dstOf at hi; rw [ho] at hi; exact hi
      have := ((key i o ho).2 j hjlt).1.1.1
      rw [hod] at this
      simp only [Bool.or_eq_true, beq_iff_eq, bne_iff_ne, ne_eq] at this
      rcases this with e | e
      · exact hij e.symm
      · exact e hj
  · have ho : ops[i]? = some (ops[i]'hi) := Array.getElem?_eq_getElem hi
    have h4 := ((key i _ ho).2 j hj).1.2
    rw [ha] at h4
    simp only [Bool.not_true, Bool.false_or, Bool.and_eq_true, decide_eq_true_eq] at h4
    obtain ⟨e, he, hb⟩ := Array.any_eq_true'.1 h4.2
    simp only [Bool.and_eq_true, Bool.or_eq_true, beq_iff_eq] at hb
    have := low i _ ho e he hb.1
    exact ⟨h4.1, _, ho, e, he, hb.1, hb.2.imp id fun h => ⟨by omega, hj, h⟩⟩
  · have hjlt : j < ops.size := by
      unfold dstOf at hj
      cases h : ops[j]? with
      | none => rw [h] at hj; cases hj
      | some _ => exact (Array.getElem?_eq_some_iff.1 h).1
    have h4 := ((key i o ho).2 j hjlt).1.1.2
    rw [hj] at h4
    have h5 : (o.looksAt ops).contains t = true := by simpa using ht
    simp only [h5, Bool.not_true, Bool.false_or, Bool.and_eq_true, Bool.or_eq_true, decide_eq_true_eq, bne_iff_ne, ne_eq] at h4
    rcases h4 with h4 | h4
    · exact .inl ⟨⟨(Array.getElem?_eq_some_iff.1 ho).1, hjlt, h4.1⟩, or_assoc.1 h4.2⟩
    · exact .inr ⟨h4.1.1, h4.1.2, h4.2⟩
  · have h4 := ((key i o ho).2 j hj).2
    simp only [Bool.or_eq_true, decide_eq_true_eq, beq_iff_eq, Bool.and_eq_true] at h4
    rcases h4 with ((h4 | h4) | h4) | h4
    · omega
    · exact .inl h4
    · exact .inr (.inl h4)
    · exact .inr (.inr ⟨(Array.getElem?_eq_some_iff.1 ho).1, hj, h4⟩)
theorem sch_of (h : schedB ops ks = true) : Sch ops ks (fun i j => i < ops.size ∧ j < ops.size ∧ ancB (Region.before ops) i j = true) := sch_of0 (by simp only [schedB, Bool.and_eq_true] at h; exact h.1)
abbrev up (listed : Array Bool) (i : Nat) : Bool := listed.getD i false
def Upw (ops : Array Oper) (listed : Array Bool) : Prop := ∀ (j : Nat) (o : Oper), up listed j = true → ops[j]? = some o → ∀ e ∈ o.after, Region.binds .any e = true → up listed e.on = true
variable {anc : Nat → Nat → Prop}
theorem Sch.looks1 (H : Sch ops ks anc) {i : Nat} {o : Oper} (ho : ops[i]? = some o) (hk : kd ks i = 1 ∨ 3 ≤ kd ks i) {t : Tmp} (ht : t ∈ o.looksAt ops) {j : Nat} (hj : dstOf ops j = some t) : anc i j ∧ (kd ks j < 2 ∨ 3 ≤ kd ks i) := by
  rcases H.looks i o ho t ht j hj with h | h
  · exact ⟨h.1, by omega⟩
  · omega
theorem Sch.anc_up (H : Sch ops ks anc) {listed : Array Bool} (hU : Upw ops listed) : ∀ (i : Nat) (o : Oper) (j : Nat), ops[i]? = some o → (∀ e ∈ o.after, Region.binds .any e = true → up listed e.on = true) → anc i j → up listed j = true := by
  intro i
  induction i using Nat.strongRecOn with
  | _ i ih =>
    intro o j ho he ha
    obtain ⟨_, o', ho', e, hm, hb, h⟩ := H.lower i j ha
    rw [ho] at ho'
    obtain rfl := Option.some.inj ho'
    rcases h with h | h
    · rw [← h]; exact he e hm hb
    · obtain ⟨_, o2, ho2, _⟩ := H.lower _ _ h
      exact ih e.on (H.edges i o ho e hm hb) o2 j ho2 (hU e.on o2 (he e hm hb) ho2) h
theorem up_set {listed : Array Bool} {i j : Nat} (hi : i < listed.size) : up (listed.setIfInBounds i true) j = if j = i then true else up listed j := by
  unfold up
  by_cases h : j = i
  · subst h; simp [hi]
  · rw [if_neg h, getD_set_ne false (fun e => h e.symm)]
theorem Upw.set {listed : Array Bool} (hU : Upw ops listed) {i : Nat} (hi : i < listed.size) {o : Oper} (ho : ops[i]? = some o) (he : ∀ e ∈ o.after, Region.binds .any e = true → up listed e.on = true) : Upw ops (listed.setIfInBounds i true) := by
  intro j oj hj hoj e hm hb
  rw [up_set hi] at hj ⊢
  by_cases h : e.on = i
  · rw [if_pos h]
  · rw [if_neg h]
    by_cases hji : j = i
    · subst hji
      rw [ho] at hoj
      obtain rfl := Option.some.inj hoj
      exact he e hm hb
    · rw [if_neg hji] at hj
      exact hU j oj hj hoj e hm hb
def cnt (n : Nat) (listed : Array Bool) : Nat := (List.range n).countP fun i => !up listed i
theorem countP_flip (p q : Nat → Bool) (i : Nat) (h1 : p i = true) (h2 : q i = false) (h3 : ∀ j, j ≠ i → q j = p j) : ∀ l : List Nat, l.Nodup → i ∈ l → l.countP p = l.countP q + 1 := by
  intro l
  induction l with
  | nil => intro _ h; cases h
  | cons a l ih =>
    intro hn h
    rw [List.nodup_cons] at hn
    by_cases ha : a = i
    · subst ha
      rw [List.countP_cons_of_pos h1, List.countP_cons_of_neg (by rw [h2]; decide)]
      congr 1
      exact List.countP_congr fun j hj => by rw [h3 j (fun e => hn.1 (e ▸ hj))]
    · have hi : i ∈ l := by
        rcases List.mem_cons.1 h with e | e
        · exact absurd e.symm ha
        · exact e
      have := ih hn.2 hi
      cases hp : p a with
      | true => rw [List.countP_cons_of_pos hp, List.countP_cons_of_pos (by rw [h3 a ha]; exact hp), this]
      | false => rw [List.countP_cons_of_neg (by rw [hp]; decide), List.countP_cons_of_neg (by rw [h3 a ha, hp]; decide), this]
theorem cnt_set {n : Nat} {listed : Array Bool} (hs : listed.size = n) {i : Nat} (hi : i < n) (hu : up listed i = false) : cnt n listed = cnt n (listed.setIfInBounds i true) + 1 := by
  refine countP_flip _ _ i (by rw [hu]; rfl) ?_ (fun j hj => ?_) _ List.nodup_range (List.mem_range.2 hi)
  · rw [up_set (by omega), if_pos rfl]; rfl
  · rw [up_set (by omega), if_neg hj]
theorem cnt_zero {n : Nat} {listed : Array Bool} (h : cnt n listed = 0) {i : Nat} (hi : i < n) : up listed i = true := by
  have := List.countP_eq_zero.1 h i (List.mem_range.2 hi)
  simpa using this
theorem Sch.ready_ne (H : Sch ops ks anc) {listed : Array Bool} (hs : listed.size = ops.size) (h : cnt ops.size listed ≠ 0) : Region.ready .any ops listed ≠ [] := by
  intro hr
  apply h
  have all : ∀ i, i < ops.size → up listed i = true := by
    intro i
    induction i using Nat.strongRecOn with
    | _ i ih =>
      intro hi
      cases hu : up listed i with
      | true => rfl
      | false =>
        exfalso
        have : i ∈ Region.ready .any ops listed := mem_ready.2 ⟨by rw [getD_any (by omega)]; exact hu, _, Array.getElem?_eq_getElem hi, fun e he hb => by
          have h1 := H.edges i _ (Array.getElem?_eq_getElem hi) e he hb
          exact ih _ h1 (by omega)⟩
        rw [hr] at this; cases this
  exact List.countP_eq_zero.2 fun i hi => by rw [all i (List.mem_range.1 hi)]; decide
theorem ready_nil {listed : Array Bool} (hs : listed.size = ops.size) (h : cnt ops.size listed = 0) : Region.ready .any ops listed = [] := by
  cases hr : Region.ready .any ops listed with
  | nil => rfl
  | cons i r =>
    exfalso
    obtain ⟨hu, o, ho, _⟩ := mem_ready.1 (show i ∈ Region.ready .any ops listed by rw [hr]; simp)
    have hi := (Array.getElem?_eq_some_iff.1 ho).1
    rw [getD_any (by omega)] at hu
    have := cnt_zero h hi
    rw [show up listed i = listed.getD i false from rfl, hu] at this
    cases this
theorem nums_split {p : Nat → Bool} {k n i : Nat} (h1 : k ≤ i) (h2 : i < n) (h3 : p (kd ks i) = true) : nums ks p k n = nums ks p k i ++ i :: nums ks p (i + 1) n := by
  unfold nums
  have e : List.range' k (n - k) = List.range' k (i - k) ++ List.range' i (n - i) := by
    rw [show n - k = (i - k) + (n - i) by omega, ← List.range'_append_1]
    congr 2
    omega
  rw [e, List.filter_append, show n - i = (n - (i + 1)) + 1 by omega, List.range'_succ, List.filter_cons, if_pos h3]
theorem stL_put (V : Nat → Value) {x : Option Tmp} {v : Value} (S : List Nat) : ∀ a, (∀ j ∈ S, ∀ d, x = some d → dstOf ops j ≠ some d) → (stL ops V S a).put x v = stL ops V S (a.put x v) := by
  induction S with
  | nil => intro a _; rfl
  | cons i S ih =>
    intro a h
    rw [stL_cons, stL_cons, ih _ (fun j hj => h j (List.mem_cons_of_mem _ hj)), Act.put_comm a v (V i) (fun d hd e => h i (by simp) d hd e)]
theorem stL_defer (V : Nat → Value) (g : List Deferred) (S : List Nat) : ∀ a, ({ stL ops V S a with defers := g } : Act) = stL ops V S { a with defers := g } := by
  induction S with
  | nil => intro a; rfl
  | cons i S ih =>
    intro a
    rw [stL_cons, stL_cons, ih]
    congr 1
    cases dstOf ops i <;> rfl
theorem wp_shift {o : Oper} {V : Nat → Value} {S : List Nat} {a : Act} {w : World} {X K K' : Act → World → Prop} {Q : Exit → Act → World → Prop} (he : execOp (stL ops V S a).eval o = execOp a.eval o) (hS : ∀ j ∈ S, ∀ d, o.dst = some d → dstOf ops j ≠ some d)
    (hK : ∀ g v w', K (stL ops V S (({ a with defers := g } : Act).put o.dst v)) w' → K' (({ a with defers := g } : Act).put o.dst v) w')
    (h : o.wp P (stL ops V S a) w K (Exit.then X (fun _ _ _ => False))) : o.wp P a w K' Q := by
  have hd : ∀ v w', K ((stL ops V S a).put o.dst v) w' → K' (a.put o.dst v) w' := fun v w' h => hK a.defers v w' (by rw [← stL_put V S a hS]; exact h)
  unfold Oper.wp at h ⊢
  rw [he] at h
  generalize (execOp a.eval o).run P w = r at *
  cases r with
  | ok nx w' =>
    cases nx <;> simp only [Oper.upon] at h ⊢
    case value u => exact hd _ _ h
    case skip => exact hd _ _ h
    case defer d =>
      refine hK (d :: a.defers) undef w' ?_
      rw [← stL_put V S _ hS, ← stL_defer]
      rw [stL_defers] at h
      exact h
    case enter f args =>
      refine h.mono fun e w'' he => ?_
      cases e with
      | returned v => exact hd _ _ he
      | panicked c => exact he.elim
      | outgrown => obtain ⟨_, _, hf⟩ := he; exact hf.elim
    case row r args => exact fun c cs => let ⟨v, w'', hx, hs⟩ := h c cs; ⟨v, w'', hd _ _ hx, hs⟩
  | halt x w' => cases x <;> simp only [Oper.upon] at h ⊢ <;> first | exact h.elim | exact h
variable {Q : Exit → Act → World → Prop} {V : Nat → Value} {a0 : Act}
abbrev nonT (ks : List Nat) (n : Nat) : List Nat := nums ks pQ 0 n ++ nums ks pL 0 n
abbrev pF (k : Nat) : Bool := k == 1
theorem mem_nonT {n i : Nat} : i ∈ nonT ks n ↔ i < n ∧ kd ks i < 3 := by
  unfold nonT
  rw [List.mem_append, mem_nums, mem_nums]
  simp only [pQ, pL, decide_eq_true_eq, beq_iff_eq]
  omega
theorem getD_out {a : Act} {t : Nat} (h : ¬ t < a.tmps.size) : a.tmps.getD t undef = undef := by simp [h]
theorem Sch.phase2 (H : Sch ops ks anc) (hG : ∀ (i : Nat) (o : Oper), ops[i]? = some o → kd ks i = 1 → Fixes P ops o (V i) (stL ops V (nums ks pQ 0 i) a0)) :
    ∀ (f : Nat) (listed : Array Bool) (cur : Act) (w : World), listed.size = ops.size → Upw ops listed → cnt ops.size listed = f → (∀ i, i < ops.size → kd ks i = 0 ∨ kd ks i = 2 → up listed i = true) →
      (∀ t, (∀ j, 3 ≤ kd ks j → dstOf ops j ≠ some t) → cur.tmps.getD t undef = (stL ops V ((nonT ks ops.size).filter (up listed)) a0).tmps.getD t undef) → cur.tmps.size = a0.tmps.size →
      wpList P ops (Exit.then (fun a w => Q .normal a w) (fun _ _ _ => False)) (((nums ks pT 0 ops.size).filter fun i => !up listed i).filterMap fun i => ops[i]?) (stL ops V ((nums ks pF 0 ops.size).filter fun i => !up listed i) cur) w →
      Go.wpAny P .any ops Q f listed cur w := by
  intro f
  induction f with
  | zero =>
    intro listed cur w hs hU hc hz hcur hsz hT
    refine ⟨ready_nil hs hc, ?_⟩
    have e : ∀ p : Nat → Bool, ((nums ks p 0 ops.size).filter fun i => !up listed i) = [] := fun p => List.filter_eq_nil_iff.2 fun i hi => by
      rw [cnt_zero hc (mem_nums.1 hi).1.2]; decide
    rw [e, e] at hT
    exact hT
  | succ f ih =>
    intro listed cur w hs hU hc hz hcur hsz hT
    refine ⟨fun hr => absurd hr (H.ready_ne hs (by omega)), fun i hi => ?_⟩
    obtain ⟨hu, o, ho, he⟩ := mem_ready.1 hi
    have hlt := (Array.getElem?_eq_some_iff.1 ho).1
    rw [getD_any (by omega)] at hu
    have hdst : dstOf ops i = o.dst := by unfold dstOf; rw [ho]; rfl
    have hkz : ¬ (kd ks i = 0 ∨ kd ks i = 2) := fun h => by
      have := hz i hlt h
      rw [show up listed i = listed.getD i false from rfl, hu] at this; cases this
    have hup : ∀ j, anc i j → up listed j = true := fun j => H.anc_up hU i o j ho he
    have hU' := hU.set (by omega) ho he
    have hs' : (listed.setIfInBounds i true).size = ops.size := by simp [hs]
    have hc' : cnt ops.size (listed.setIfInBounds i true) = f := by have := cnt_set hs hlt hu; omega
    have hz' : ∀ j, j < ops.size → kd ks j = 0 ∨ kd ks j = 2 → up (listed.setIfInBounds i true) j = true := fun j hj h => by
      rw [up_set (by omega)]; split
      · rfl
      · exact hz j hj h
    unfold wpOp
    rw [ho]
    dsimp only
    by_cases hk : kd ks i = 1
    ·
      have hal : Alike ops o (stL ops V (nums ks pQ 0 i) a0) cur := fun t ht => by
        rw [hcur t fun j hj e => by have := (H.looks1 ho (.inl hk) ht e).2; omega]
        refine stL_agree H.apart fun j hj => ?_
        obtain ⟨ha, hk2⟩ := H.looks1 ho (.inl hk) ht hj
        have h1 := hup j ha
        have h2 := (H.lower i j ha).1
        refine ⟨⟨fun _ => List.mem_filter.2 ⟨mem_nonT.2 ⟨by omega, by omega⟩, h1⟩, fun _ => mem_nums.2 ⟨⟨Nat.zero_le _, h2⟩, by simp [pQ]; omega⟩⟩, fun _ => rfl⟩
      have hy := Fixes.alike (H.sel i o · · ho) hal (by rw [stL_size, hsz]) (hG i o ho hk)
      have hT' : wpList P ops (Exit.then (fun a w => Q .normal a w) (fun _ _ _ => False)) (((nums ks pT 0 ops.size).filter fun j => !up (listed.setIfInBounds i true) j).filterMap fun i => ops[i]?)
          (stL ops V ((nums ks pF 0 ops.size).filter fun j => !up (listed.setIfInBounds i true) j) (cur.put o.dst (V i))) w := by
        have e1 : ((nums ks pT 0 ops.size).filter fun j => !up (listed.setIfInBounds i true) j) = (nums ks pT 0 ops.size).filter fun j => !up listed j := List.filter_congr fun j hj => by
          have := (mem_nums.1 hj).2
          simp only [pT, decide_eq_true_eq] at this
          rw [up_set (by omega), if_neg (fun e => by subst e; omega)]
        have e2 : stL ops V ((nums ks pF 0 ops.size).filter fun j => !up (listed.setIfInBounds i true) j) (cur.put o.dst (V i)) = stL ops V ((nums ks pF 0 ops.size).filter fun j => !up listed j) cur := by
          rw [← hdst, ← stL_cons]
          refine stL_same H.apart fun j => ⟨?_, fun _ => rfl⟩
          simp only [List.mem_cons, List.mem_filter, Bool.not_eq_true', mem_nums, pF, beq_iff_eq]
          rw [up_set (by omega)]
          constructor
          · rintro (rfl | ⟨h1, h2⟩)
            · exact ⟨⟨⟨Nat.zero_le _, hlt⟩, hk⟩, hu⟩
            · by_cases hji : j = i
              · rw [if_pos hji] at h2; cases h2
              · rw [if_neg hji] at h2; exact ⟨h1, h2⟩
          · rintro ⟨h1, h2⟩
            by_cases hji : j = i
            · exact .inl hji
            · exact .inr ⟨h1, by rw [if_neg hji]; exact h2⟩
        rw [e1, e2]; exact hT
      have hcur' : ∀ t, (∀ j, 3 ≤ kd ks j → dstOf ops j ≠ some t) → (cur.put o.dst (V i)).tmps.getD t undef = (stL ops V ((nonT ks ops.size).filter (up (listed.setIfInBounds i true))) a0).tmps.getD t undef := fun t ht => by
        have hmem : i ∈ (nonT ks ops.size).filter (up (listed.setIfInBounds i true)) := List.mem_filter.2 ⟨mem_nonT.2 ⟨hlt, by omega⟩, by rw [up_set (by omega), if_pos rfl]⟩
        by_cases hd : o.dst = some t
        · by_cases htl : t < cur.tmps.size
          · rw [hd, put_hit _ _ htl, stL_hit H.apart V (hdst.trans hd) _ a0 (hsz ▸ htl) hmem]
          · have h1 : ¬ t < (cur.put o.dst (V i)).tmps.size := by rw [put_size]; exact htl
            have h2 : ¬ t < (stL ops V ((nonT ks ops.size).filter (up (listed.setIfInBounds i true))) a0).tmps.size := by rw [stL_size, ← hsz]; exact htl
            rw [getD_out h1, getD_out h2]
        · rw [put_miss _ _ hd, hcur t ht]
          refine stL_agree H.apart fun j hj => ⟨?_, fun _ => rfl⟩
          rw [List.mem_filter, List.mem_filter, up_set (by omega), if_neg (fun e => by subst e; rw [hdst] at hj; exact hd hj)]
      rcases hy with ⟨hw, hv⟩ | ⟨hw, hv⟩
      · rw [if_pos hw]
        exact .inl (wp_of_fix (hv w) (ih _ _ w hs' hU' hc' hz' hcur' (by rw [put_size, hsz]) hT'))
      · rw [if_neg (by rw [hw]; decide), ← hv]
        exact ih _ _ w hs' hU' hc' hz' hcur' (by rw [put_size, hsz]) hT'
    ·
      have hk3 : 3 ≤ kd ks i := by omega
      have hhead : ∀ q : Nat → Bool, q i = true → (∀ j, j < i → 3 ≤ kd ks j → q j = false) → ((nums ks pT 0 ops.size).filter q) = i :: (nums ks pT (i + 1) ops.size).filter q := fun q h1 h2 => by
        rw [nums_split (Nat.zero_le i) hlt (by simp [pT]; omega), List.filter_append, List.filter_cons, if_pos h1, List.filter_eq_nil_iff.2, List.nil_append]
        intro j hj
        obtain ⟨hj1, hj2⟩ := mem_nums.1 hj
        simp only [pT, decide_eq_true_eq] at hj2
        rw [h2 j hj1.2 hj2]; decide
      have hearly : ∀ j, j < i → 3 ≤ kd ks j → up listed j = true := fun j hj hk => by
        rcases H.tail i o ho hk3 j (by omega) with h | h | h
        · omega
        · omega
        · exact hup j h
      rw [hhead (fun j => !up listed j) (by rw [show up listed i = listed.getD i false from rfl, hu]; rfl) (fun j hj hk => by rw [hearly j hj hk]; rfl), List.filterMap_cons, ho] at hT
      dsimp only at hT
      have hS : ∀ j ∈ (nums ks pF 0 ops.size).filter (fun j => !up listed j), ∀ d, o.dst = some d → dstOf ops j ≠ some d := fun j hj d hd e => by
        obtain ⟨h1, _⟩ := List.mem_filter.1 hj
        have h2 := (mem_nums.1 h1).2
        simp only [pF, beq_iff_eq] at h2
        exact H.apart i j d (fun e' => by subst e'; omega) (hdst.trans hd) e
      have hal : Alike ops o (stL ops V ((nums ks pF 0 ops.size).filter fun j => !up listed j) cur) cur := fun t ht => by
        refine stL_miss V _ _ fun j hj e => ?_
        obtain ⟨_, h1⟩ := List.mem_filter.1 hj
        rw [hup j (H.looks1 ho (.inr hk3) ht e).1] at h1
        cases h1
      have next : ∀ (g : List Deferred) (v : Value) (w' : World), wpList P ops (Exit.then (fun a w => Q .normal a w) (fun _ _ _ => False)) (((nums ks pT (i + 1) ops.size).filter fun j => !up listed j).filterMap fun i => ops[i]?)
          (stL ops V ((nums ks pF 0 ops.size).filter fun j => !up listed j) (({ cur with defers := g } : Act).put o.dst v)) w' → Go.wpAny P .any ops Q f (listed.setIfInBounds i true) (({ cur with defers := g } : Act).put o.dst v) w' := fun g v w' h => by
        refine ih _ _ w' hs' hU' hc' hz' (fun t ht => ?_) (by rw [put_size]; exact hsz) ?_
        · rw [put_miss _ _ (fun e => ht i hk3 (hdst.trans e))]
          show cur.tmps.getD t undef = _
          rw [hcur t ht]
          refine stL_agree H.apart fun j hj => ⟨?_, fun _ => rfl⟩
          rw [List.mem_filter, List.mem_filter, up_set (by omega), if_neg (fun e => by subst e; exact ht j hk3 hj)]
        · have e1 : ((nums ks pT 0 ops.size).filter fun j => !up (listed.setIfInBounds i true) j) = (nums ks pT (i + 1) ops.size).filter fun j => !up listed j := by
            rw [nums_split (Nat.zero_le i) hlt (by simp [pT]; omega), List.filter_append, List.filter_cons, if_neg (by rw [up_set (by omega), if_pos rfl]; decide), List.filter_eq_nil_iff.2, List.nil_append]
            · exact List.filter_congr fun j hj => by
                have := (mem_nums.1 hj).1
                rw [up_set (by omega), if_neg (by omega)]
            · intro j hj
              obtain ⟨hj1, hj2⟩ := mem_nums.1 hj
              simp only [pT, decide_eq_true_eq] at hj2
              rw [up_set (by omega), if_neg (by omega), hearly j hj1.2 hj2]; decide
          have e2 : ((nums ks pF 0 ops.size).filter fun j => !up (listed.setIfInBounds i true) j) = (nums ks pF 0 ops.size).filter fun j => !up listed j := List.filter_congr fun j hj => by
            have := (mem_nums.1 hj).2
            simp only [pF, beq_iff_eq] at this
            rw [up_set (by omega), if_neg (fun e => by subst e; omega)]
          rw [e1, e2]; exact h
      simp only [wpList] at hT
      rw [wanted_alike hal (by rw [stL_size])] at hT
      by_cases hw : Region.wanted o (yielded ops cur.tmps) = true
      · rw [if_pos hw] at hT ⊢
        rcases hT with hT | ⟨_, _, _, hf⟩
        · exact .inl (wp_shift (exec_alike (H.sel i o · · ho) hal) hS next hT)
        · exact hf.elim
      · rw [if_neg hw] at hT ⊢
        rw [stL_put V _ _ hS] at hT
        exact next cur.defers undef w hT
theorem Sch.phase1 (H : Sch ops ks anc) (hGd : ∀ (i : Nat) (o : Oper), ops[i]? = some o → kd ks i = 2 → o.guard = none) {Vq : Nat → Value} {w0 : World} {Ds : Nat → List Nat} {Rs : Nat → Rel}
    (hC : ∀ i w w', C w → Kept (fun b => b ∉ Ds i) w w' → C w') (hR : ∀ i j v w w', i ≠ j → Rs i v w → Kept (fun b => b ∉ Ds j) w w' → Rs i v w') (hDs : ∀ i j b, i ≠ j → b ∈ Ds i → b ∉ Ds j)
    (hG : ∀ (i : Nat) (o : Oper), ops[i]? = some o → kd ks i < 2 → Owe P ops C (kd ks i) o (Vq i) (stL ops Vq (nums ks pQ 0 i) a0))
    (hL : ∀ V : Nat → Value, (∀ (i : Nat) (o : Oper), ops[i]? = some o → kd ks i = 2 → ∀ w', C w' → Kept (fun b => b ∈ Ds i) w0 w' → (∀ j, j < i → kd ks j = 2 → anc i j → Rs j (V j) w') → sumAt P (Ds i) o (stL ops V (nums ks pL 0 i) (stL ops Vq (nums ks pQ 0 ops.size) a0)) (Rs i) w') ∧
      ∀ w', C w' → (∀ i, i < ops.size → kd ks i = 2 → Rs i (V i) w') → wpList P ops (Exit.then (fun a w => Q .normal a w) (fun _ _ _ => False)) ((nums ks pT 0 ops.size).filterMap fun i => ops[i]?) (stL ops V (nums ks pL 0 ops.size) (stL ops Vq (nums ks pQ 0 ops.size) a0)) w') :
    ∀ (f : Nat) (listed : Array Bool) (V : Nat → Value) (w : World), listed.size = ops.size → Upw ops listed → cnt ops.size listed = f → (∀ i, kd ks i < 2 → V i = Vq i) → (∀ i, 3 ≤ kd ks i → up listed i = false) → C w → (∀ i, up listed i = false → Kept (fun b => b ∈ Ds i) w0 w) →
      (∀ i, i < ops.size → kd ks i = 2 → up listed i = true → Rs i (V i) w) → Go.wpAny P .any ops Q f listed (stL ops V ((nonT ks ops.size).filter (up listed)) a0) w := by
  intro f
  induction f with
  | zero =>
    intro listed V w hs hU hc hV hT hw hpre hRs
    refine H.phase2 (V := V) (a0 := a0) (fun i o ho hk => ?_) 0 listed _ w hs hU hc (fun i hi _ => cnt_zero hc hi) (fun t _ => rfl) (stL_size _ _ _) ?_
    · have := hG i o ho (by omega)
      rw [show stL ops V (nums ks pQ 0 i) a0 = stL ops Vq (nums ks pQ 0 i) a0 from stL_same H.apart fun j => ⟨Iff.rfl, fun h => hV j (by have := (mem_nums.1 h).2; simpa [pQ] using this)⟩, hV i (by omega)]
      unfold Owe at this
      rwa [if_neg (by omega)] at this
    · exact finish listed V w hs hV hT hw hRs (fun i hi _ => cnt_zero hc hi)
  | succ f ih =>
    intro listed V w hs hU hc hV hT hw hpre hRs
    by_cases hall : ∀ i, i < ops.size → kd ks i = 0 ∨ kd ks i = 2 → up listed i = true
    · refine H.phase2 (V := V) (a0 := a0) (fun i o ho hk => ?_) (f + 1) listed _ w hs hU hc hall (fun t _ => rfl) (stL_size _ _ _) ?_
      · have := hG i o ho (by omega)
        rw [show stL ops V (nums ks pQ 0 i) a0 = stL ops Vq (nums ks pQ 0 i) a0 from stL_same H.apart fun j => ⟨Iff.rfl, fun h => hV j (by have := (mem_nums.1 h).2; simpa [pQ] using this)⟩, hV i (by omega)]
        unfold Owe at this
        rwa [if_neg (by omega)] at this
      · exact finish listed V w hs hV hT hw hRs hall
    · refine ⟨fun hr => absurd hr (H.ready_ne hs (by omega)), fun i hi => ?_⟩
      obtain ⟨hu, o, ho, he⟩ := mem_ready.1 hi
      have hlt := (Array.getElem?_eq_some_iff.1 ho).1
      rw [getD_any (by omega)] at hu
      have hdst : dstOf ops i = o.dst := by unfold dstOf; rw [ho]; rfl
      have hup : ∀ j, anc i j → up listed j = true := fun j => H.anc_up hU i o j ho he
      have hk3 : kd ks i < 3 := by
        rcases Nat.lt_or_ge (kd ks i) 3 with h | h
        · exact h
        · exfalso
          apply hall
          intro j hj hk
          rcases H.tail i o ho h j hj with h1 | h1 | h1
          · omega
          · omega
          · exact hup j h1
      have hU' := hU.set (by omega) ho he
      have hs' : (listed.setIfInBounds i true).size = ops.size := by simp [hs]
      have hc' : cnt ops.size (listed.setIfInBounds i true) = f := by have := cnt_set hs hlt hu; omega
      have hT' : ∀ j, 3 ≤ kd ks j → up (listed.setIfInBounds i true) j = false := fun j hj => by
        rw [up_set (by omega), if_neg (fun e => by subst e; omega)]; exact hT j hj
      have hst : ∀ (V' : Nat → Value) (v : Value), (∀ j, j ≠ i → V' j = V j) → V' i = v → (stL ops V ((nonT ks ops.size).filter (up listed)) a0).put o.dst v = stL ops V' ((nonT ks ops.size).filter (up (listed.setIfInBounds i true))) a0 := fun V' v h1 h2 => by
        have e : (stL ops V ((nonT ks ops.size).filter (up listed)) a0).put o.dst v = stL ops V' ((nonT ks ops.size).filter (up listed) ++ [i]) a0 := by
          rw [stL_app, stL_cons, hdst, h2, show stL ops V' ((nonT ks ops.size).filter (up listed)) a0 = stL ops V ((nonT ks ops.size).filter (up listed)) a0 from stL_same H.apart fun j => ⟨Iff.rfl, fun h => h1 j (fun e => by subst e; exact absurd ((List.mem_filter.1 h).2.symm.trans hu) (by decide))⟩]
          rfl
        rw [e]
        refine stL_same H.apart fun j => ⟨?_, fun _ => rfl⟩
        rw [List.mem_append, List.mem_filter, List.mem_filter, List.mem_singleton, up_set (by omega), mem_nonT]
        constructor
        · rintro (⟨h3, h4⟩ | rfl)
          · exact ⟨h3, by split <;> first | rfl | exact h4⟩
          · exact ⟨⟨hlt, hk3⟩, by rw [if_pos rfl]⟩
        · rintro ⟨h3, h4⟩
          by_cases hji : j = i
          · exact .inr hji
          · rw [if_neg hji] at h4; exact .inl ⟨h3, h4⟩
      have hlooks : ∀ t ∈ o.looksAt ops, ∀ j, dstOf ops j = some t → (up listed j = true ∧ j < i ∧ (kd ks j < 2 ∨ (kd ks i = 2 ∧ kd ks j = 2))) ∨ 3 ≤ kd ks j := fun t ht j hj => by
        rcases H.looks i o ho t ht j hj with ⟨h1, h2⟩ | h1
        · exact .inl ⟨hup j h1, (H.lower i j h1).1, by omega⟩
        · exact .inr h1.2.2
      have hpre' : ∀ w', (∀ j, j ≠ i → Kept (fun b => b ∈ Ds j) w w') → ∀ j, up (listed.setIfInBounds i true) j = false → Kept (fun b => b ∈ Ds j) w0 w' := fun w' h j hj => by
        have hji : j ≠ i := fun e => by subst e; rw [up_set (by omega), if_pos rfl] at hj; cases hj
        rw [up_set (by omega), if_neg hji] at hj
        exact (hpre j hj).trans (h j hji)
      unfold wpOp
      rw [ho]
      dsimp only
      by_cases hk : kd ks i < 2
      · have hal : Alike ops o (stL ops Vq (nums ks pQ 0 i) a0) (stL ops V ((nonT ks ops.size).filter (up listed)) a0) := fun t ht => by
          refine stL_agree H.apart fun j hj => ?_
          rcases hlooks t ht j hj with ⟨h1, h2, h3⟩ | h3
          · exact ⟨⟨fun _ => List.mem_filter.2 ⟨mem_nonT.2 ⟨by omega, by omega⟩, h1⟩, fun _ => mem_nums.2 ⟨⟨Nat.zero_le _, h2⟩, by simp [pQ]; omega⟩⟩, fun _ => (hV j (by omega)).symm⟩
          · exact ⟨⟨fun h => (by have := (mem_nums.1 h).2; simp [pQ] at this; omega), fun h => (by have := (mem_nonT.1 (List.mem_filter.1 h).1).2; omega)⟩, fun h => (by have := (mem_nums.1 h).2; simp [pQ] at this; omega)⟩
        have hy0 := hG i o ho hk
        have hy : Gives P ops C o (V i) (stL ops V ((nonT ks ops.size).filter (up listed)) a0) := by
          rw [hV i hk]
          unfold Owe at hy0
          by_cases hz : kd ks i = 0
          · rw [if_pos hz] at hy0
            exact Gives.alike (H.sel i o · · ho) hal (by rw [stL_size, stL_size]) hy0
          · rw [if_neg hz] at hy0
            exact Gives.alike (H.sel i o · · ho) hal (by rw [stL_size, stL_size]) hy0.gives
        rcases hy with ⟨hwn, hv⟩ | ⟨hwn, hv⟩
        · rw [if_pos hwn]
          refine .inl (wp_of_relAt (hv w hw) fun w' hb => ?_)
          have hbk : ∀ K : Nat → Prop, Kept K w w' := fun K => Kept.of_below hb
          rw [hst V (V i) (fun _ _ => rfl) rfl]
          exact ih _ V w' hs' hU' hc' hV hT' (hC 0 _ _ hw (hbk _)) (hpre' w' fun j hj => hbk _) fun j hj h1 h2 => hR j (j + 1) _ _ _ (by omega) (hRs j hj h1 (by rw [up_set (by omega), if_neg (fun e => by subst e; omega)] at h2; exact h2)) (hbk _)
        · rw [if_neg (by rw [hwn]; decide), ← hv, hst V (V i) (fun _ _ => rfl) rfl]
          exact ih _ V w hs' hU' hc' hV hT' hw (hpre' w fun j hj => Kept.refl _ _) fun j hj h1 h2 => hRs j hj h1 (by rw [up_set (by omega), if_neg (fun e => by subst e; omega)] at h2; exact h2)
      · have hk2 : kd ks i = 2 := by omega
        have hal : Alike ops o (stL ops V (nums ks pL 0 i) (stL ops Vq (nums ks pQ 0 ops.size) a0)) (stL ops V ((nonT ks ops.size).filter (up listed)) a0) := fun t ht => by
          rw [show stL ops Vq (nums ks pQ 0 ops.size) a0 = stL ops V (nums ks pQ 0 ops.size) a0 from stL_same H.apart fun j => ⟨Iff.rfl, fun h => (hV j (by have := (mem_nums.1 h).2; simpa [pQ] using this)).symm⟩, ← stL_app]
          refine stL_agree H.apart fun j hj => ⟨?_, fun _ => rfl⟩
          rcases hlooks t ht j hj with ⟨h1, h2, h3⟩ | h3
          · refine ⟨fun _ => List.mem_filter.2 ⟨mem_nonT.2 ⟨by omega, by omega⟩, h1⟩, fun _ => ?_⟩
            rcases h3 with h3 | ⟨-, h3⟩
            · exact List.mem_append_left _ (mem_nums.2 ⟨⟨Nat.zero_le _, by omega⟩, by simp [pQ]; omega⟩)
            · exact List.mem_append_right _ (mem_nums.2 ⟨⟨Nat.zero_le _, h2⟩, by simp [pL, h3]⟩)
          · refine ⟨fun h => ?_, fun h => (by have := (mem_nonT.1 (List.mem_filter.1 h).1).2; omega)⟩
            rcases List.mem_append.1 h with h | h
            · have := (mem_nums.1 h).2; simp [pQ] at this; omega
            · have := (mem_nums.1 h).2; simp [pL] at this; omega
        have hy := sumAt.alike (H.sel i o · · ho) hal ((hL V).1 i o ho hk2 w hw (hpre i hu) fun j hj1 hj2 hj3 => hRs j (by omega) hj2 (hup j hj3))
        rw [if_pos (by simp [Region.wanted, hGd i o ho hk2])]
        refine .inl (wp_of_sumAt hy fun v w' hb hv => ?_)
        rw [hst (fun j => if j = i then v else V j) v (fun j hj => by rw [if_neg hj]) (by rw [if_pos rfl])]
        refine ih _ _ w' hs' hU' hc' (fun j hj => by rw [if_neg (fun e => by subst e; omega)]; exact hV j hj) hT' (hC i _ _ hw hb) (hpre' w' fun j hj => hb.mono fun b hb' => hDs j i b hj hb') fun j hj h1 h2 => ?_
        by_cases hji : j = i
        · subst hji; rw [if_pos rfl]; exact hv
        · rw [if_neg hji]; rw [up_set (by omega), if_neg hji] at h2; exact hR j i _ _ _ hji (hRs j hj h1 h2) hb
where
  finish (listed : Array Bool) (V : Nat → Value) (w : World) (hs : listed.size = ops.size) (hV : ∀ i, kd ks i < 2 → V i = Vq i) (hT : ∀ i, 3 ≤ kd ks i → up listed i = false) (hw : C w) (hRs : ∀ i, i < ops.size → kd ks i = 2 → up listed i = true → Rs i (V i) w)
      (hall : ∀ i, i < ops.size → kd ks i = 0 ∨ kd ks i = 2 → up listed i = true) : wpList P ops (Exit.then (fun a w => Q .normal a w) (fun _ _ _ => False)) (((nums ks pT 0 ops.size).filter fun i => !up listed i).filterMap fun i => ops[i]?)
        (stL ops V ((nums ks pF 0 ops.size).filter fun i => !up listed i) (stL ops V ((nonT ks ops.size).filter (up listed)) a0)) w := by
    have h := (hL V).2 w hw fun i hi hk => hRs i hi hk (hall i hi (.inr hk))
    rw [show stL ops Vq (nums ks pQ 0 ops.size) a0 = stL ops V (nums ks pQ 0 ops.size) a0 from stL_same H.apart fun j => ⟨Iff.rfl, fun h => (hV j (by have := (mem_nums.1 h).2; simpa [pQ] using this)).symm⟩, ← stL_app] at h
    rw [← stL_app, List.filter_eq_self.2 (fun i hi => by
      have := (mem_nums.1 hi).2
      rw [hT i (by simpa [pT] using this)]; rfl)]
    rw [show stL ops V ((nonT ks ops.size).filter (up listed) ++ (nums ks pF 0 ops.size).filter fun i => !up listed i) a0 = stL ops V (nums ks pQ 0 ops.size ++ nums ks pL 0 ops.size) a0 from stL_same H.apart fun j => ⟨?_, fun _ => rfl⟩]
    · exact h
    · rw [List.mem_append, List.mem_filter, List.mem_filter, mem_nonT, mem_nums]
      simp only [pF, beq_iff_eq, Bool.not_eq_true']
      constructor
      · rintro (h1 | h1)
        · exact h1.1
        · exact ⟨h1.1.1.2, by omega⟩
      · intro h1
        cases hu : up listed j with
        | true => exact .inl ⟨h1, rfl⟩
        | false =>
          refine .inr ⟨⟨⟨Nat.zero_le _, h1.1⟩, ?_⟩, rfl⟩
          have h2 : ¬ (kd ks j = 0 ∨ kd ks j = 2) := fun h => by rw [hall j h1.1 h] at hu; cases hu
          omega
def spoil (w : World) (D : List Nat) (f : Nat → Obj) : World := D.foldl (fun w b => w.putObj b (f b)) w
theorem spoil_nil (w : World) (f : Nat → Obj) : spoil w [] f = w := rfl
structure Messed where
  d : Nat
  os : Array Obj
  f : Nat → Obj
instance : Inhabited Messed := ⟨⟨0, #[], fun _ => default⟩⟩
abbrev Msd (w : World) (D : List Nat) : World → Prop := fun w' => ∃ p : Messed, w' = Go.Sort.grow (redrawn (spoil w D p.f) p.d) p.os
theorem putObj_same (w : World) (b : Nat) (o : Obj) : (w.putObj b o).os = w.os ∧ (w.putObj b o).tape = w.tape ∧ (w.putObj b o).output = w.output ∧ (w.putObj b o).heap.size = w.heap.size := ⟨rfl, rfl, rfl, by simp [World.putObj]⟩
theorem spoil_same (D : List Nat) (f : Nat → Obj) : ∀ w : World, (spoil w D f).os = w.os ∧ (spoil w D f).tape = w.tape ∧ (spoil w D f).output = w.output ∧ (spoil w D f).heap.size = w.heap.size := by
  induction D with
  | nil => intro w; exact ⟨rfl, rfl, rfl, rfl⟩
  | cons b D ih =>
    intro w
    obtain ⟨h1, h2, h3, h4⟩ := ih (w.putObj b (f b))
    obtain ⟨g1, g2, g3, g4⟩ := putObj_same w b (f b)
    exact ⟨h1.trans g1, h2.trans g2, h3.trans g3, h4.trans g4⟩
theorem spoil_miss {D : List Nat} {f : Nat → Obj} {k : Nat} : ∀ w : World, k ∉ D → (spoil w D f).heap[k]? = w.heap[k]? := by
  induction D with
  | nil => intro w _; rfl
  | cons b D ih =>
    intro w h
    have h1 := ih (w.putObj b (f b)) (fun e => h (List.mem_cons_of_mem _ e))
    exact h1.trans (World.putObj_heap_other (fun e => h (by rw [e]; simp)))
theorem spoil_hit {D : List Nat} {f : Nat → Obj} {k : Nat} : ∀ w : World, k ∈ D → k < w.heap.size → (spoil w D f).heap[k]? = some (f k) := by
  induction D with
  | nil => intro w h; cases h
  | cons b D ih =>
    intro w h hk
    by_cases hD : k ∈ D
    · exact ih (w.putObj b (f b)) hD (by rw [(putObj_same w b (f b)).2.2.2]; exact hk)
    · obtain rfl : k = b := by
        rcases List.mem_cons.1 h with e | e
        · exact e
        · exact absurd e hD
      exact (spoil_miss (w.putObj k (f k)) hD).trans (World.putObj_heap_same hk)
theorem msd_kept {w w' : World} {D : List Nat} (h : Msd w D w') : Kept (fun b => b ∉ D) w w' := by
  obtain ⟨p, rfl⟩ := h
  obtain ⟨h1, h2, h3, h4⟩ := spoil_same D p.f w
  have hb := below_regrown (spoil w D p.f) p.d p.os
  exact ⟨hb.os.trans h1, hb.tape.trans h2, hb.output.trans h3, by rw [← h4]; exact hb.size, fun b hlt hK => (hb.block b (by rw [h4]; exact hlt)).trans (spoil_miss w hK)⟩
theorem msd_of {w w' : World} {D : List Nat} (h : Kept (fun b => b ∉ D) w w') : Msd w D w' := by
  have hb : Below (spoil w D fun b => w'.heap.getD b default).heap.size (spoil w D fun b => w'.heap.getD b default) w' := by
    obtain ⟨h1, h2, h3, h4⟩ := spoil_same D (fun b => w'.heap.getD b default) w
    refine ⟨h.os.trans h1.symm, h.tape.trans h2.symm, h.output.trans h3.symm, by rw [h4]; exact h.size, fun k hk => ?_⟩
    rw [h4] at hk
    by_cases hD : k ∈ D
    · rw [spoil_hit w hD hk]
      have := Nat.lt_of_lt_of_le hk h.size
      simp [this]
    · rw [spoil_miss w hD]; exact h.block k hk hD
  obtain ⟨p, hp⟩ := regrown_of_below hb
  exact ⟨⟨p.d, p.os, fun b => w'.heap.getD b default⟩, hp⟩
theorem Kept.none {w w' : World} (h : Kept (fun b => b ∉ ([] : List Nat)) w w') : Below w.heap.size w w' := h.below (Nat.le_refl _) fun _ _ => by simp
theorem Blk.sp {w : World} {g : Nat} {t : TypeId} {cs : Array Value} {D : List Nat} (h : Blk w g t cs) (hg : g ∉ D) (f : Nat → Obj) (d : Nat) (os : Array Obj) : Blk (Go.Sort.grow (redrawn (spoil w D f) d) os) g t cs :=
  (msd_kept (D := D) ⟨⟨d, os, f⟩, rfl⟩).blk hg h
theorem wpLs_nilB {w0 : World} {Ds : Nat → List Nat} {Rs : Nat → Rel} {an : Nat → Nat → Bool} {T : Act → World → Prop} {i : Nat} {a : Act} {Φ : World → Prop} {Ψ : (Nat → Prop) → World → Prop} (h : ∀ w', Below w0.heap.size w0 w' → Φ w' → T a w') : wpLs P (Msd w0 []) w0 Ds Rs an T [] [] i a Φ Ψ := by
  unfold wpLs; exact fun w' hw => h w' (msd_kept hw).none
theorem wpLs_nilD {w0 : World} {D : List Nat} {Ds : Nat → List Nat} {Rs : Nat → Rel} {an : Nat → Nat → Bool} {T : Act → World → Prop} {i : Nat} {a : Act} {Φ : World → Prop} {Ψ : (Nat → Prop) → World → Prop} (h : ∀ w', Kept (fun b => b ∉ D) w0 w' → Φ w' → T a w') : wpLs P (Msd w0 D) w0 Ds Rs an T [] [] i a Φ Ψ := by
  unfold wpLs; exact fun w' hw => h w' (msd_kept hw)
theorem wpLs_one {w0 : World} {Ds : Nat → List Nat} {Rs : Nat → Rel} {an : Nat → Nat → Bool} {T : Act → World → Prop} {i : Nat} {a : Act} {Φ : World → Prop} {Ψ : (Nat → Prop) → World → Prop} {o : Oper} {l : List Oper} (h1 : ∀ w', C w' → Kept (fun b => b ∈ Ds i) w0 w' → sumAt P (Ds i) o a (Rs i) w') (h2 : ∀ v, wpLs P C w0 Ds Rs an T ks l (i + 1) (a.put o.dst v) (fun w => Φ w ∧ Rs i v w) (fun S w => Ψ S w ∧ (S i → Rs i v w))) :
    wpLs P C w0 Ds Rs an T (2 :: ks) (o :: l) i a Φ Ψ := by unfold wpLs; exact ⟨fun w' h h' _ => h1 w' h h', h2⟩
theorem wpLs_oneF {w0 : World} {Ds : Nat → List Nat} {Rs : Nat → Rel} {an : Nat → Nat → Bool} {T : Act → World → Prop} {i : Nat} {a : Act} {Φ : World → Prop} {Ψ : (Nat → Prop) → World → Prop} {o : Oper} {l : List Oper} (h1 : ∀ w', C w' → Kept (fun b => b ∈ Ds i) w0 w' → Ψ (fun j => an i j = true) w' → sumAt P (Ds i) o a (Rs i) w') (h2 : ∀ v, wpLs P C w0 Ds Rs an T ks l (i + 1) (a.put o.dst v) (fun w => Φ w ∧ Rs i v w) (fun S w => Ψ S w ∧ (S i → Rs i v w))) :
    wpLs P C w0 Ds Rs an T (2 :: ks) (o :: l) i a Φ Ψ := by unfold wpLs; exact ⟨h1, h2⟩
def notTwo : Nat → Prop
  | 2 => False
  | _ => True
theorem wpLs_skip {w0 : World} {Ds : Nat → List Nat} {Rs : Nat → Rel} {an : Nat → Nat → Bool} {T : Act → World → Prop} {i : Nat} {a : Act} {Φ : World → Prop} {Ψ : (Nat → Prop) → World → Prop} {o : Oper} {l : List Oper} {k : Nat} (h : wpLs P C w0 Ds Rs an T ks l (i + 1) a Φ Ψ) (hk : notTwo k := by exact trivial) : wpLs P C w0 Ds Rs an T (k :: ks) (o :: l) i a Φ Ψ := by
  match k, hk with
  | 0, _ => unfold wpLs; exact h
  | 1, _ => unfold wpLs; exact h
  | k + 3, _ => unfold wpLs; exact h
theorem any_sched {Q : Exit → Act → World → Prop} {a : Act} {w : World} {l : List Oper} (ks : List Nat) (D : List Nat) (Ds : Nat → List Nat) (Rs : Nat → Rel) (hD : ∀ i b, b ∈ Ds i → b ∈ D) (hDs : ∀ i j b, i ≠ j → b ∈ Ds i → b ∉ Ds j)
    (hR : ∀ i j v w w', i ≠ j → Rs i v w → Kept (fun b => b ∉ Ds j) w w' → Rs i v w') (hB : schedB l.toArray ks = true)
    (h : wpQs P l.toArray (Msd w D) (fun a' => wpLs P (Msd w D) w Ds Rs (ancB (Region.before l.toArray)) (fun a'' w'' => wpList P l.toArray (Exit.then (fun a w => Q .normal a w) (fun _ _ _ => False)) (tails ks l) a'' w'') ks l 0 a' (fun _ => True) (fun _ _ => True)) ks l a) :
    Go.wpAny P .any l.toArray Q l.toArray.size (Array.replicate l.toArray.size false) a { w with drawn := w.drawn + 1 } := by
  have H := sch_of hB
  have hlen : ks.length = l.length := by simpa using H.len
  obtain ⟨Vq, h1, h2⟩ := qs_facts (l := l) (ks := ks) l ks 0 a rfl rfl h
  have e : l.length = l.toArray.size := by simp
  have h3 := fun V => ls_facts (l := l) (ks := ks) l ks 0 _ _ _ rfl rfl h2 V
  rw [tails_eq (l := l) (ks := ks) l ks 0 rfl rfl hlen, e] at h3
  have hd0 : ∀ K : Nat → Prop, Kept K w { w with drawn := w.drawn + 1 } := fun K => ⟨rfl, rfl, rfl, Nat.le_refl _, fun _ _ _ => rfl⟩
  have := H.phase1 (guard_of hB) (C := Msd w D) (Q := Q) (a0 := a) (w0 := w) (Ds := Ds) (Rs := Rs) (Vq := Vq) (fun i w1 w2 h4 h5 => msd_of ((msd_kept h4).trans (h5.mono fun b hb hi => hb (hD i b hi)))) hR hDs (fun i o ho hk => h1 i o (Nat.zero_le _) ho hk)
    (fun V => ⟨fun i o ho hk w' h6 h7 h8 => (h3 V).1 i o (Nat.zero_le _) ho hk w' h6 h7 trivial fun j _ h9 h10 h11 => h8 j h9 h10 ⟨(Array.getElem?_eq_some_iff.1 ho).1, by have := (Array.getElem?_eq_some_iff.1 ho).1; omega, h11⟩, fun w' hw' hr => (h3 V).2 w' hw' trivial fun i _ hi => hr i hi⟩)
    l.toArray.size (Array.replicate l.toArray.size false) Vq { w with drawn := w.drawn + 1 } (by simp) (fun j o hj => by simp [up, Array.getElem?_replicate] at hj; split at hj <;> cases hj)
    (by simp only [cnt]; rw [List.countP_eq_length.2 (fun i _ => by simp [up, Array.getElem?_replicate]; split <;> rfl)]; simp) (fun _ _ => rfl) (fun i _ => by simp [up, Array.getElem?_replicate]; split <;> rfl) (msd_of (hd0 _)) (fun _ _ => hd0 _)
    (fun i _ _ hu => by simp [up, Array.getElem?_replicate] at hu; split at hu <;> cases hu)
  have hf : (nonT ks l.toArray.size).filter (up (Array.replicate l.toArray.size false)) = [] := List.filter_eq_nil_iff.2 fun i _ => by simp [up, Array.getElem?_replicate]; split <;> simp
  rw [hf] at this
  exact this
theorem wp_sched {id : Nat} {Q : Exit → Act → World → Prop} {a : Act} {w : World} {l : List Oper} (ks : List Nat) (Rs : Nat → Rel) (hm : P.follows .mixedOrders = true) (hB : schedB l.toArray ks = true) (hR : ∀ i v w w', Rs i v w → Below w.heap.size w w' → Rs i v w')
    (h : wpQs P l.toArray (Msd w []) (fun a' => wpLs P (Msd w []) w (fun _ => []) Rs (ancB (Region.before l.toArray)) (fun a'' w'' => wpList P l.toArray (Exit.then (fun a w => Q .normal a w) (fun _ _ _ => False)) (tails ks l) a'' w'') ks l 0 a' (fun _ => True) (fun _ _ => True)) ks l a) : (Code.region id l.toArray true).wp P Q a w :=
  wp_region_any hm (any_sched ks [] (fun _ => []) Rs (fun _ _ h => h) (fun _ _ _ _ h => by cases h) (fun i _ v w w' _ h1 h2 => hR i v w w' h1 h2.none) hB h)
theorem in_sched {l' n id : Nat} {Q : Exit → Act → World → Prop} {a : Act} {w : World} {l : List Oper} (ks : List Nat) (Rs : Nat → Rel) (hm : P.follows .mixedOrders = true) (hB : schedB l.toArray ks = true) (hR : ∀ i v w w', Rs i v w → Below w.heap.size w w' → Rs i v w') (hd : noDefer l.toArray = true) (hQ : ¬ LetsOut Q)
    (h : wpQs P l.toArray (Msd w []) (fun a' => wpLs P (Msd w []) w (fun _ => []) Rs (ancB (Region.before l.toArray)) (fun a'' w'' => wpList P l.toArray (Exit.then (fun a w => Q .normal a w) (fun _ _ _ => False)) (tails ks l) a'' w'') ks l 0 a' (fun _ => True) (fun _ _ => True)) ks l a) : (Code.region id l.toArray true).wpIn (Fence.wide.inRound l') n P Q a w :=
  wpIn_region_any hm (any_in hd hQ _ _ _ _ (any_sched ks [] (fun _ => []) Rs (fun _ _ h => h) (fun _ _ _ _ h => by cases h) (fun i _ v w w' _ h1 h2 => hR i v w w' h1 h2.none) hB h))
theorem wp_schedD {id : Nat} {Q : Exit → Act → World → Prop} {a : Act} {w : World} {l : List Oper} (ks : List Nat) (D : List Nat) (Ds : Nat → List Nat) (Rs : Nat → Rel) (hm : P.follows .mixedOrders = true) (hB : schedB l.toArray ks = true) (hD : ∀ i b, b ∈ Ds i → b ∈ D) (hDs : ∀ i j b, i ≠ j → b ∈ Ds i → b ∉ Ds j)
    (hR : ∀ i j v w w', i ≠ j → Rs i v w → Kept (fun b => b ∉ Ds j) w w' → Rs i v w')
    (h : wpQs P l.toArray (Msd w D) (fun a' => wpLs P (Msd w D) w Ds Rs (ancB (Region.before l.toArray)) (fun a'' w'' => wpList P l.toArray (Exit.then (fun a w => Q .normal a w) (fun _ _ _ => False)) (tails ks l) a'' w'') ks l 0 a' (fun _ => True) (fun _ _ => True)) ks l a) : (Code.region id l.toArray true).wp P Q a w :=
  wp_region_any hm (any_sched ks D Ds Rs hD hDs hR hB h)
def Ds2 (i1 b1 i2 b2 i : Nat) : List Nat := if i = i1 then [b1] else if i = i2 then [b2] else []
def Rs2 (i1 b1 : Nat) (t1 : TypeId) (c1 : Array Value) (i2 b2 : Nat) (t2 : TypeId) (c2 : Array Value) (i : Nat) : Rel := fun _ w => (i = i1 → Blk w b1 t1 c1) ∧ (i = i2 → Blk w b2 t2 c2)
theorem wp_two {id : Nat} {Q : Exit → Act → World → Prop} {a : Act} {w : World} {l : List Oper} (ks : List Nat) (i1 b1 : Nat) (t1 : TypeId) (c1 : Array Value) (i2 b2 : Nat) (t2 : TypeId) (c2 : Array Value) (hb : b1 ≠ b2) (hm : P.follows .mixedOrders = true) (hB : schedB l.toArray ks = true)
    (h : wpQs P l.toArray (Msd w [b1, b2]) (fun a' => wpLs P (Msd w [b1, b2]) w (Ds2 i1 b1 i2 b2) (Rs2 i1 b1 t1 c1 i2 b2 t2 c2) (ancB (Region.before l.toArray)) (fun a'' w'' => wpList P l.toArray (Exit.then (fun a w => Q .normal a w) (fun _ _ _ => False)) (tails ks l) a'' w'') ks l 0 a' (fun _ => True) (fun _ _ => True)) ks l a) : (Code.region id l.toArray true).wp P Q a w := by
  refine wp_schedD ks [b1, b2] (Ds2 i1 b1 i2 b2) (Rs2 i1 b1 t1 c1 i2 b2 t2 c2) hm hB (fun i b hb' => ?_) (fun i j b hij h1 h2 => ?_) (fun i j v w w' hij hr hk => ?_) h
  · unfold Ds2 at hb'
    split at hb'
    · simp at hb'; simp [hb']
    · split at hb'
      · simp at hb'; simp [hb']
      · cases hb'
  · unfold Ds2 at h1 h2
    split at h1
    · rename_i e1
      simp at h1
      subst h1
      split at h2
      · rename_i e2; exact hij (e1.trans e2.symm)
      · split at h2
        · simp at h2; exact hb h2
        · cases h2
    · split at h1
      · rename_i e1
        simp at h1
        subst h1
        split at h2
        · simp at h2; exact hb h2.symm
        · split at h2
          · rename_i e2; exact hij (e1.trans e2.symm)
          · cases h2
      · cases h1
  · refine ⟨fun e => hk.blk ?_ (hr.1 e), fun e => hk.blk ?_ (hr.2 e)⟩
    · unfold Ds2; intro hm'
      split at hm'
      · rename_i e2; exact hij (e.trans e2.symm)
      · split at hm'
        · simp at hm'; exact hb hm'
        · cases hm'
    · unfold Ds2; intro hm'
      split at hm'
      · simp at hm'; exact hb hm'.symm
      · split at hm'
        · rename_i e2; exact hij (e.trans e2.symm)
        · cases hm'
theorem two_fst {i1 b1 i2 b2 : Nat} {t1 t2 : TypeId} {c1 c2 : Array Value} {w w' : World} {u : Value} (hi : i1 ≠ i2) (h1 : Kept (fun b => b ≠ b1) w w') (h2 : Blk w' b1 t1 c1) : Kept (fun b => ¬ b ∈ Ds2 i1 b1 i2 b2 i1) w w' ∧ Rs2 i1 b1 t1 c1 i2 b2 t2 c2 i1 u w' :=
  ⟨h1.mono fun b h e => h (by simp [Ds2, e]), fun _ => h2, fun e => absurd e hi⟩
theorem two_snd {i1 b1 i2 b2 : Nat} {t1 t2 : TypeId} {c1 c2 : Array Value} {w w' : World} {u : Value} (hi : i1 ≠ i2) (h1 : Kept (fun b => b ≠ b2) w w') (h2 : Blk w' b2 t2 c2) : Kept (fun b => ¬ b ∈ Ds2 i1 b1 i2 b2 i2) w w' ∧ Rs2 i1 b1 t1 c1 i2 b2 t2 c2 i2 u w' :=
  ⟨h1.mono fun b h e => h (by simp [Ds2, Ne.symm hi, e]), fun e => absurd e.symm hi, fun _ => h2⟩
theorem kept3 {w : World} {b : Nat} {x y z : Value} : Kept (fun c => c ≠ b) w (((w.setCell ⟨b, 0, none⟩ x).setCell ⟨b, 1, none⟩ y).setCell ⟨b, 2, none⟩ z) :=
  (((Kept.refl _ w).setCell (p := ⟨b, 0, none⟩) (fun h => h rfl) _).setCell (p := ⟨b, 1, none⟩) (fun h => h rfl) _).setCell (p := ⟨b, 2, none⟩) (fun h => h rfl) _
theorem kept6 {w : World} {b : Nat} {x y z p q r : Value} : Kept (fun c => c ≠ b) w ((((((w.setCell ⟨b, 0, none⟩ x).setCell ⟨b, 1, none⟩ y).setCell ⟨b, 2, none⟩ z).setCell ⟨b, 3, none⟩ p).setCell ⟨b, 4, none⟩ q).setCell ⟨b, 5, none⟩ r) :=
  ((kept3.setCell (p := ⟨b, 3, none⟩) (fun h => h rfl) _).setCell (p := ⟨b, 4, none⟩) (fun h => h rfl) _).setCell (p := ⟨b, 5, none⟩) (fun h => h rfl) _
end
attribute [go_sem] sumAt sumUpon spoil_nil
end Go.Proofs.YtmbccnioijokfaaGreatDoor

namespace Go.Proofs.YtmbccnioijokfaaGreatDoor
open Go.RowKit
section
variable {P : Program}
def DsR (i0 : Nat) (r : Option Nat) (i : Nat) : List Nat := if i = i0 then r.toList else []
theorem wp_schedR {id : Nat} {Q : Exit → Act → World → Prop} {a : Act} {w : World} {l : List Oper} (ks : List Nat) (i0 : Nat) (r : Option Nat) (Rs : Nat → Rel) (hm : P.follows .mixedOrders = true) (hB : schedB l.toArray ks = true)
    (hR : ∀ i v w w', Rs i v w → (if i = i0 then Below w.heap.size w w' else Kept (fun b => r ≠ some b) w w') → Rs i v w')
    (h : wpQs P l.toArray (Msd w r.toList) (fun a' => wpLs P (Msd w r.toList) w (DsR i0 r) Rs (ancB (Region.before l.toArray)) (fun a'' w'' => wpList P l.toArray (Exit.then (fun a w => Q .normal a w) (fun _ _ _ => False)) (tails ks l) a'' w'') ks l 0 a' (fun _ => True) (fun _ _ => True)) ks l a) : (Code.region id l.toArray true).wp P Q a w := by
  refine wp_schedD ks r.toList (DsR i0 r) Rs hm hB (fun i b hb => ?_) (fun i j b hij h1 h2 => ?_) (fun i j v w w' hij hr hk => hR i v w w' hr ?_) h
  · unfold DsR at hb
    split at hb
    · exact hb
    · cases hb
  · unfold DsR at h1 h2
    split at h1
    · rename_i e1
      split at h2
      · rename_i e2; exact hij (e1.trans e2.symm)
      · cases h2
    · cases h1
  · unfold DsR at hk
    by_cases hi : i = i0
    · rw [if_pos hi]
      rw [if_neg (fun e => hij (hi.trans e.symm))] at hk
      exact hk.none
    · rw [if_neg hi]
      by_cases hj : j = i0
      · rw [if_pos hj] at hk
        exact hk.mono fun b hb => by
          intro h
          rw [Option.mem_toList] at h
          exact hb h
      · rw [if_neg hj] at hk
        exact hk.mono fun b _ => by simp
theorem not_row {r : Option Nat} {b : Nat} (h : r ≠ some b) : b ∉ r.toList := by
  rw [Option.mem_toList]; exact h
theorem msd_row {w w' : World} {i0 : Nat} {r : Option Nat} (h : Msd w r.toList w') (hk : Kept (fun b => b ∈ DsR i0 r i0) w w') : Below w.heap.size w w' := by
  have h1 := msd_kept h
  refine ⟨h1.os, h1.tape, h1.output, h1.size, fun b hb => ?_⟩
  by_cases hr : b ∈ r.toList
  · exact hk.block b hb (by unfold DsR; rw [if_pos rfl]; exact hr)
  · exact h1.block b hb hr
end
end Go.Proofs.YtmbccnioijokfaaGreatDoor

namespace Go.Proofs.YtmbccnioijokfaaGreatDoor
open Go.RowKit
section
variable {P : Program} {ops : Array Oper} {C : World → Prop} {ks : List Nat}
def sumUponI (P : Program) (R : Rel) (w : World) : Result Next → Prop
  | .ok (.value u) w' => R u w'
  | .ok .skip w' => R undef w'
  | .ok (.enter f args) w' => w' = w ∧ Calls P f args w (fun e w'' => ∃ u, e = .returned u ∧ R u w'')
  | _ => False
def sumAtI (P : Program) (o : Oper) (a : Act) (R : Rel) (w : World) : Prop := sumUponI P R w ((execOp a.eval o).run P w)
theorem wp_of_sumAtI {o : Oper} {a : Act} {w : World} {R : Rel} {K : Act → World → Prop} {Q' : Exit → Act → World → Prop} (h : sumAtI P o a R w) (hk : ∀ v w', R v w' → K (a.put o.dst v) w') : o.wp P a w K Q' := by
  unfold sumAtI at h
  unfold Oper.wp
  generalize (execOp a.eval o).run P w = r at *
  cases r with
  | ok nx w' =>
    cases nx <;> simp only [sumUponI] at h <;> simp only [Oper.upon]
    case value u => exact hk _ _ h
    case skip => exact hk _ _ h
    case enter f args =>
      obtain ⟨e1, hc⟩ := h
      rw [e1]
      exact hc.mono fun e w'' ⟨u, he, hR⟩ => by subst he; exact hk _ _ hR
  | halt x w' => simp only [sumUponI] at h
theorem sumAtI.alike {o : Oper} {R : Rel} {w : World} {a b : Act} (hs : ∀ cs b, o.op ≠ .select cs b) (h : Alike ops o a b) (hy : sumAtI P o a R w) : sumAtI P o b R w := by
  unfold sumAtI at *
  rwa [← exec_alike hs h]
theorem sumAtI.mono {o : Oper} {a : Act} {R R' : Rel} {w : World} (hr : ∀ v w, R v w → R' v w) (h : sumAtI P o a R w) : sumAtI P o a R' w := by
  unfold sumAtI at *
  generalize (execOp a.eval o).run P w = r at *
  cases r with
  | ok nx w' =>
    cases nx <;> simp only [sumUponI] at h ⊢
    case value u => exact hr _ _ h
    case skip => exact hr _ _ h
    case enter f args => exact ⟨h.1, h.2.mono fun e w'' ⟨u, he, hR⟩ => ⟨u, he, hr _ _ hR⟩⟩
  | halt x w' => simp only [sumUponI] at h
def sumGI (P : Program) (ops : Array Oper) (o : Oper) (a : Act) (R : Rel) (w : World) : Prop :=
  (Region.wanted o (yielded ops a.tmps) = true ∧ sumAtI P o a R w) ∨ (Region.wanted o (yielded ops a.tmps) = false ∧ R undef w)
theorem sumGI.mono {o : Oper} {a : Act} {R R' : Rel} {w : World} (hr : ∀ v w, R v w → R' v w) (h : sumGI P ops o a R w) : sumGI P ops o a R' w :=
  h.imp (fun h => ⟨h.1, h.2.mono hr⟩) fun h => ⟨h.1, hr _ _ h.2⟩
theorem sumGI.alike {o : Oper} {R : Rel} {w : World} {a b : Act} (hs : ∀ cs b, o.op ≠ .select cs b) (h : Alike ops o a b) (hz : a.tmps.size = b.tmps.size) (hy : sumGI P ops o a R w) : sumGI P ops o b R w := by
  unfold sumGI at *
  rw [← wanted_alike h hz]
  exact hy.imp (fun h1 => ⟨h1.1, h1.2.alike hs h⟩) id
def upd (vs : Nat → Value) (i : Nat) (v : Value) : Nat → Value := fun j => if j = i then v else vs j
theorem upd_same (vs : Nat → Value) (i : Nat) (v : Value) : upd vs i v i = v := by unfold upd; rw [if_pos rfl]
theorem upd_ne {vs : Nat → Value} {i j : Nat} {v : Value} (h : j ≠ i) : upd vs i v j = vs j := by unfold upd; rw [if_neg h]
abbrev InvT := (Nat → Prop) → (Nat → Value) → World → Prop
def andOf (S : Nat → Prop) (i : Nat) : Nat → Prop := fun j => j = i ∨ S j
def wpLsI (P : Program) (ops : Array Oper) (C : World → Prop) (I : InvT) (an : Nat → Nat → Bool) (ks0 : List Nat) (T : Act → World → Prop) : List Nat → List Oper → Nat → Act → (Nat → Value) → Prop
  | _, [], n, a, vs => ∀ V w', C w' → (∀ j, j < n → kd ks0 j = 2 → V j = vs j) → I (fun j => j < n ∧ kd ks0 j = 2) V w' → T a w'
  | [], _ :: _, _, _, _ => False
  | 0 :: ks, _ :: l, i, a, vs => wpLsI P ops C I an ks0 T ks l (i + 1) a vs
  | 1 :: ks, _ :: l, i, a, vs => wpLsI P ops C I an ks0 T ks l (i + 1) a vs
  | 2 :: ks, o :: l, i, a, vs => (∀ S V w', C w' → (∀ j, j < i → kd ks0 j = 2 → V j = vs j) → (∀ j, j < i → kd ks0 j = 2 → an i j = true → S j) → ¬ S i → I S V w' → sumGI P ops o a (fun v w => C w ∧ I (andOf S i) (upd V i v) w) w') ∧ ∀ v, wpLsI P ops C I an ks0 T ks l (i + 1) (a.put o.dst v) (upd vs i v)
  | (_ + 3) :: ks, _ :: l, i, a, vs => wpLsI P ops C I an ks0 T ks l (i + 1) a vs
section
variable {l : List Oper}
theorem ls_factsI {I : InvT} {an : Nat → Nat → Bool} {T : Act → World → Prop} : ∀ (r : List Oper) (kr : List Nat) (k : Nat) (a : Act) (vs : Nat → Value), l.drop k = r → ks.drop k = kr → k ≤ l.length → wpLsI P l.toArray C I an ks T kr r k a vs →
    ∀ V : Nat → Value, (∀ j, j < k → kd ks j = 2 → V j = vs j) → (∀ i o, k ≤ i → l.toArray[i]? = some o → kd ks i = 2 → ∀ S w', C w' → (∀ j, j < i → kd ks j = 2 → an i j = true → S j) → ¬ S i → I S V w' → sumGI P l.toArray o (stL l.toArray V (nums ks pL k i) a) (fun v w => C w ∧ I (andOf S i) (upd V i v) w) w') ∧
      ∀ w', C w' → I (fun j => j < l.length ∧ kd ks j = 2) V w' → T (stL l.toArray V (nums ks pL k l.length) a) w' := by
  intro r
  induction r with
  | nil =>
    intro kr k a vs hr _ hkl h V hvs
    have hk : k = l.length := by have : l.length ≤ k := by simpa using hr
                                 omega
    refine ⟨fun i o hi ho => ?_, fun w' h1 h2 => ?_⟩
    · have := (Array.getElem?_eq_some_iff.1 ho).1; simp at this; omega
    · rw [nums_none (Nat.le_of_eq hk.symm)]; unfold wpLsI at h; subst hk; exact h V w' h1 hvs h2
  | cons o r ih =>
    intro kr k a vs hr hkr hkl h V hvs
    obtain ⟨ho, hr', hlt⟩ := op_at hr
    have hdst : dstOf l.toArray k = o.dst := by unfold dstOf; rw [ho]; rfl
    cases kr with
    | nil => exact h.elim
    | cons c kr =>
      obtain ⟨hc, hkr'⟩ := kd_at hkr
      have skip : c ≠ 2 → wpLsI P l.toArray C I an ks T kr r (k + 1) a vs → (∀ i o, k ≤ i → l.toArray[i]? = some o → kd ks i = 2 → ∀ S w', C w' → (∀ j, j < i → kd ks j = 2 → an i j = true → S j) → ¬ S i → I S V w' → sumGI P l.toArray o (stL l.toArray V (nums ks pL k i) a) (fun v w => C w ∧ I (andOf S i) (upd V i v) w) w') ∧
          ∀ w', C w' → I (fun j => j < l.length ∧ kd ks j = 2) V w' → T (stL l.toArray V (nums ks pL k l.length) a) w' := fun hc2 h => by
        obtain ⟨h3, h4⟩ := ih kr (k + 1) a vs hr' hkr' hlt h V (fun j hj hj2 => hvs j (by rcases Nat.lt_or_eq_of_le (Nat.le_of_lt_succ hj) with e | e; exact e; subst e; omega) hj2)
        have hst : ∀ n, k < n → nums ks pL k n = nums ks pL (k + 1) n := fun n hn => by rw [nums_step hn, hc, if_neg (by simpa using hc2)]
        refine ⟨fun i o' hi ho' hk2 => ?_, fun w' h1 h2 => by rw [hst _ hlt]; exact h4 w' h1 h2⟩
        rcases Nat.lt_or_eq_of_le hi with h5 | h5
        · rw [hst i h5]; exact h3 i o' (by omega) ho' hk2
        · subst h5; omega
      match c, h, hc, skip with
      | 0, h, hc, skip => unfold wpLsI at h; exact skip (by omega) h
      | 1, h, hc, skip => unfold wpLsI at h; exact skip (by omega) h
      | 2, h, hc, _ =>
        unfold wpLsI at h
        obtain ⟨h3, h4⟩ := ih kr (k + 1) _ _ hr' hkr' hlt (h.2 (V k)) V (fun j hj hj2 => by rcases Nat.lt_or_eq_of_le (Nat.le_of_lt_succ hj) with e | e; exact (hvs j e hj2).trans (upd_ne (by omega)).symm; subst e; exact (upd_same _ _ _).symm)
        have hst : ∀ n, k < n → stL l.toArray V (nums ks pL k n) a = stL l.toArray V (nums ks pL (k + 1) n) (a.put o.dst (V k)) := fun n hn => by
          rw [nums_step hn, hc, if_pos (by simp), stL_cons, hdst]
        refine ⟨fun i o' hi ho' hk2 => ?_, fun w' h1 h2 => by rw [hst _ hlt]; exact h4 w' h1 h2⟩
        rcases Nat.lt_or_eq_of_le hi with h5 | h5
        · rw [hst i h5]; exact h3 i o' (by omega) ho' hk2
        · subst h5
          rw [nums_none (Nat.le_refl _)]
          rw [ho] at ho'
          obtain rfl := Option.some.inj ho'
          exact fun S w' h6 h8 h9 h10 => h.1 S V w' h6 hvs h8 h9 h10
      | c + 3, h, hc, skip => unfold wpLsI at h; exact skip (by omega) h
end
variable {anc : Nat → Nat → Prop}
variable {Q : Exit → Act → World → Prop} {V : Nat → Value} {a0 : Act}
def lsUp (ks : List Nat) (n : Nat) (listed : Array Bool) : Nat → Prop := fun j => j < n ∧ kd ks j = 2 ∧ up listed j = true
theorem lsUp_skip {listed : Array Bool} {n i : Nat} (hi : i < listed.size) (hk : kd ks i ≠ 2) : lsUp ks n (listed.setIfInBounds i true) = lsUp ks n listed := by
  funext j
  unfold lsUp
  rw [up_set hi]
  by_cases h : j = i
  · subst h; simp [hk]
  · rw [if_neg h]
theorem lsUp_add {listed : Array Bool} {n i : Nat} (hi : i < listed.size) (hn : i < n) (hk : kd ks i = 2) : lsUp ks n (listed.setIfInBounds i true) = andOf (lsUp ks n listed) i := by
  funext j
  unfold lsUp andOf
  rw [up_set hi]
  by_cases h : j = i
  · subst h; simp [hk, hn]
  · rw [if_neg h]; simp [h]
theorem lsUp_all {listed : Array Bool} {n : Nat} (h : ∀ i, i < n → kd ks i = 2 → up listed i = true) : lsUp ks n listed = fun j => j < n ∧ kd ks j = 2 := by
  funext j
  unfold lsUp
  exact propext ⟨fun h => ⟨h.1, h.2.1⟩, fun h1 => ⟨h1.1, h1.2, h j h1.1 h1.2⟩⟩
theorem Sch.phase1I (H : Sch ops ks anc) {Vq : Nat → Value} {I : InvT} {an : Nat → Nat → Bool} (han : ∀ i j, an i j = true → i < ops.size → j < ops.size → anc i j)
    (hC : ∀ w w', C w → Below w.heap.size w w' → C w') (hR : ∀ S V w w', C w → I S V w → Below w.heap.size w w' → I S V w')
    (hG : ∀ (i : Nat) (o : Oper), ops[i]? = some o → kd ks i < 2 → Owe P ops C (kd ks i) o (Vq i) (stL ops Vq (nums ks pQ 0 i) a0))
    (hL : ∀ V : Nat → Value, (∀ (i : Nat) (o : Oper), ops[i]? = some o → kd ks i = 2 → ∀ S w', C w' → (∀ j, j < i → kd ks j = 2 → an i j = true → S j) → ¬ S i → I S V w' → sumGI P ops o (stL ops V (nums ks pL 0 i) (stL ops Vq (nums ks pQ 0 ops.size) a0)) (fun v w => C w ∧ I (andOf S i) (upd V i v) w) w') ∧
      ∀ w', C w' → I (fun j => j < ops.size ∧ kd ks j = 2) V w' → wpList P ops (Exit.then (fun a w => Q .normal a w) (fun _ _ _ => False)) ((nums ks pT 0 ops.size).filterMap fun i => ops[i]?) (stL ops V (nums ks pL 0 ops.size) (stL ops Vq (nums ks pQ 0 ops.size) a0)) w') :
    ∀ (f : Nat) (listed : Array Bool) (V : Nat → Value) (w : World), listed.size = ops.size → Upw ops listed → cnt ops.size listed = f → (∀ i, kd ks i < 2 → V i = Vq i) → (∀ i, 3 ≤ kd ks i → up listed i = false) → C w →
      I (lsUp ks ops.size listed) V w → Go.wpAny P .any ops Q f listed (stL ops V ((nonT ks ops.size).filter (up listed)) a0) w := by
  intro f
  induction f with
  | zero =>
    intro listed V w hs hU hc hV hT hw hRs
    refine H.phase2 (V := V) (a0 := a0) (fun i o ho hk => ?_) 0 listed _ w hs hU hc (fun i hi _ => cnt_zero hc hi) (fun t _ => rfl) (stL_size _ _ _) ?_
    · have := hG i o ho (by omega)
      rw [show stL ops V (nums ks pQ 0 i) a0 = stL ops Vq (nums ks pQ 0 i) a0 from stL_same H.apart fun j => ⟨Iff.rfl, fun h => hV j (by have := (mem_nums.1 h).2; simpa [pQ] using this)⟩, hV i (by omega)]
      unfold Owe at this
      rwa [if_neg (by omega)] at this
    · exact finish listed V w hs hV hT hw hRs (fun i hi _ => cnt_zero hc hi)
  | succ f ih =>
    intro listed V w hs hU hc hV hT hw hRs
    by_cases hall : ∀ i, i < ops.size → kd ks i = 0 ∨ kd ks i = 2 → up listed i = true
    · refine H.phase2 (V := V) (a0 := a0) (fun i o ho hk => ?_) (f + 1) listed _ w hs hU hc hall (fun t _ => rfl) (stL_size _ _ _) ?_
      · have := hG i o ho (by omega)
        rw [show stL ops V (nums ks pQ 0 i) a0 = stL ops Vq (nums ks pQ 0 i) a0 from stL_same H.apart fun j => ⟨Iff.rfl, fun h => hV j (by have := (mem_nums.1 h).2; simpa [pQ] using this)⟩, hV i (by omega)]
        unfold Owe at this
        rwa [if_neg (by omega)] at this
      · exact finish listed V w hs hV hT hw hRs hall
    · refine ⟨fun hr => absurd hr (H.ready_ne hs (by omega)), fun i hi => ?_⟩
      obtain ⟨hu, o, ho, he⟩ := mem_ready.1 hi
      have hlt := (Array.getElem?_eq_some_iff.1 ho).1
      rw [getD_any (by omega)] at hu
      have hdst : dstOf ops i = o.dst := by unfold dstOf; rw [ho]; rfl
      have hup : ∀ j, anc i j → up listed j = true := fun j => H.anc_up hU i o j ho he
      have hk3 : kd ks i < 3 := by
        rcases Nat.lt_or_ge (kd ks i) 3 with h | h
        · exact h
        · exfalso
          apply hall
          intro j hj hk
          rcases H.tail i o ho h j hj with h1 | h1 | h1
          · omega
          · omega
          · exact hup j h1
      have hU' := hU.set (by omega) ho he
      have hs' : (listed.setIfInBounds i true).size = ops.size := by simp [hs]
      have hc' : cnt ops.size (listed.setIfInBounds i true) = f := by have := cnt_set hs hlt hu; omega
      have hT' : ∀ j, 3 ≤ kd ks j → up (listed.setIfInBounds i true) j = false := fun j hj => by
        rw [up_set (by omega), if_neg (fun e => by subst e; omega)]; exact hT j hj
      have hst : ∀ (V' : Nat → Value) (v : Value), (∀ j, j ≠ i → V' j = V j) → V' i = v → (stL ops V ((nonT ks ops.size).filter (up listed)) a0).put o.dst v = stL ops V' ((nonT ks ops.size).filter (up (listed.setIfInBounds i true))) a0 := fun V' v h1 h2 => by
        have e : (stL ops V ((nonT ks ops.size).filter (up listed)) a0).put o.dst v = stL ops V' ((nonT ks ops.size).filter (up listed) ++ [i]) a0 := by
          rw [stL_app, stL_cons, hdst, h2, show stL ops V' ((nonT ks ops.size).filter (up listed)) a0 = stL ops V ((nonT ks ops.size).filter (up listed)) a0 from stL_same H.apart fun j => ⟨Iff.rfl, fun h => h1 j (fun e => by subst e; exact absurd ((List.mem_filter.1 h).2.symm.trans hu) (by decide))⟩]
          rfl
        rw [e]
        refine stL_same H.apart fun j => ⟨?_, fun _ => rfl⟩
        rw [List.mem_append, List.mem_filter, List.mem_filter, List.mem_singleton, up_set (by omega), mem_nonT]
        constructor
        · rintro (⟨h3, h4⟩ | rfl)
          · exact ⟨h3, by split <;> first | rfl | exact h4⟩
          · exact ⟨⟨hlt, hk3⟩, by rw [if_pos rfl]⟩
        · rintro ⟨h3, h4⟩
          by_cases hji : j = i
          · exact .inr hji
          · rw [if_neg hji] at h4; exact .inl ⟨h3, h4⟩
      have hlooks : ∀ t ∈ o.looksAt ops, ∀ j, dstOf ops j = some t → (up listed j = true ∧ j < i ∧ (kd ks j < 2 ∨ (kd ks i = 2 ∧ kd ks j = 2))) ∨ 3 ≤ kd ks j := fun t ht j hj => by
        rcases H.looks i o ho t ht j hj with ⟨h1, h2⟩ | h1
        · exact .inl ⟨hup j h1, (H.lower i j h1).1, by omega⟩
        · exact .inr h1.2.2
      unfold wpOp
      rw [ho]
      dsimp only
      by_cases hk : kd ks i < 2
      · have hal : Alike ops o (stL ops Vq (nums ks pQ 0 i) a0) (stL ops V ((nonT ks ops.size).filter (up listed)) a0) := fun t ht => by
          refine stL_agree H.apart fun j hj => ?_
          rcases hlooks t ht j hj with ⟨h1, h2, h3⟩ | h3
          · exact ⟨⟨fun _ => List.mem_filter.2 ⟨mem_nonT.2 ⟨by omega, by omega⟩, h1⟩, fun _ => mem_nums.2 ⟨⟨Nat.zero_le _, h2⟩, by simp [pQ]; omega⟩⟩, fun _ => (hV j (by omega)).symm⟩
          · exact ⟨⟨fun h => (by have := (mem_nums.1 h).2; simp [pQ] at this; omega), fun h => (by have := (mem_nonT.1 (List.mem_filter.1 h).1).2; omega)⟩, fun h => (by have := (mem_nums.1 h).2; simp [pQ] at this; omega)⟩
        have hy0 := hG i o ho hk
        have hy : Gives P ops C o (V i) (stL ops V ((nonT ks ops.size).filter (up listed)) a0) := by
          rw [hV i hk]
          unfold Owe at hy0
          by_cases hz : kd ks i = 0
          · rw [if_pos hz] at hy0
            exact Gives.alike (H.sel i o · · ho) hal (by rw [stL_size, stL_size]) hy0
          · rw [if_neg hz] at hy0
            exact Gives.alike (H.sel i o · · ho) hal (by rw [stL_size, stL_size]) hy0.gives
        have hls : lsUp ks ops.size (listed.setIfInBounds i true) = lsUp ks ops.size listed := lsUp_skip (by omega) (by omega)
        rcases hy with ⟨hwn, hv⟩ | ⟨hwn, hv⟩
        · rw [if_pos hwn]
          refine .inl (wp_of_relAt (hv w hw) fun w' hb => ?_)
          rw [hst V (V i) (fun _ _ => rfl) rfl]
          exact ih _ V w' hs' hU' hc' hV hT' (hC _ _ hw hb) (by rw [hls]; exact hR _ _ _ _ hw hRs hb)
        · rw [if_neg (by rw [hwn]; decide), ← hv, hst V (V i) (fun _ _ => rfl) rfl]
          exact ih _ V w hs' hU' hc' hV hT' hw (by rw [hls]; exact hRs)
      · have hk2 : kd ks i = 2 := by omega
        have hal : Alike ops o (stL ops V (nums ks pL 0 i) (stL ops Vq (nums ks pQ 0 ops.size) a0)) (stL ops V ((nonT ks ops.size).filter (up listed)) a0) := fun t ht => by
          rw [show stL ops Vq (nums ks pQ 0 ops.size) a0 = stL ops V (nums ks pQ 0 ops.size) a0 from stL_same H.apart fun j => ⟨Iff.rfl, fun h => (hV j (by have := (mem_nums.1 h).2; simpa [pQ] using this)).symm⟩, ← stL_app]
          refine stL_agree H.apart fun j hj => ⟨?_, fun _ => rfl⟩
          rcases hlooks t ht j hj with ⟨h1, h2, h3⟩ | h3
          · refine ⟨fun _ => List.mem_filter.2 ⟨mem_nonT.2 ⟨by omega, by omega⟩, h1⟩, fun _ => ?_⟩
            rcases h3 with h3 | ⟨-, h3⟩
            · exact List.mem_append_left _ (mem_nums.2 ⟨⟨Nat.zero_le _, by omega⟩, by simp [pQ]; omega⟩)
            · exact List.mem_append_right _ (mem_nums.2 ⟨⟨Nat.zero_le _, h2⟩, by simp [pL, h3]⟩)
          · refine ⟨fun h => ?_, fun h => (by have := (mem_nonT.1 (List.mem_filter.1 h).1).2; omega)⟩
            rcases List.mem_append.1 h with h | h
            · have := (mem_nums.1 h).2; simp [pQ] at this; omega
            · have := (mem_nums.1 h).2; simp [pL] at this; omega
        have hls := lsUp_add (ks := ks) (n := ops.size) (listed := listed) (by omega) hlt hk2
        have hy := sumGI.alike (H.sel i o · · ho) hal (by rw [stL_size, stL_size, stL_size]) ((hL V).1 i o ho hk2 (lsUp ks ops.size listed) w hw (fun j hj1 hj2 hj3 => ⟨by omega, hj2, hup j (han i j hj3 hlt (by omega))⟩) (fun h => by have := h.2.2; rw [show up listed i = listed.getD i false from rfl, hu] at this; cases this) hRs)
        rcases hy with ⟨hwn, hy⟩ | ⟨hwn, hy⟩
        · rw [if_pos hwn]
          refine .inl (wp_of_sumAtI hy fun v w' hv => ?_)
          rw [hst (upd V i v) v (fun j hj => upd_ne hj) (upd_same _ _ _)]
          exact ih _ _ w' hs' hU' hc' (fun j hj => by rw [upd_ne (fun e => by subst e; omega)]; exact hV j hj) hT' hv.1 (by rw [hls]; exact hv.2)
        · rw [if_neg (by rw [hwn]; decide), hst (upd V i undef) undef (fun j hj => upd_ne hj) (upd_same _ _ _)]
          exact ih _ _ w hs' hU' hc' (fun j hj => by rw [upd_ne (fun e => by subst e; omega)]; exact hV j hj) hT' hw (by rw [hls]; exact hy.2)
where
  finish (listed : Array Bool) (V : Nat → Value) (w : World) (hs : listed.size = ops.size) (hV : ∀ i, kd ks i < 2 → V i = Vq i) (hT : ∀ i, 3 ≤ kd ks i → up listed i = false) (hw : C w) (hRs : I (lsUp ks ops.size listed) V w)
      (hall : ∀ i, i < ops.size → kd ks i = 0 ∨ kd ks i = 2 → up listed i = true) : wpList P ops (Exit.then (fun a w => Q .normal a w) (fun _ _ _ => False)) (((nums ks pT 0 ops.size).filter fun i => !up listed i).filterMap fun i => ops[i]?)
        (stL ops V ((nums ks pF 0 ops.size).filter fun i => !up listed i) (stL ops V ((nonT ks ops.size).filter (up listed)) a0)) w := by
    have h := (hL V).2 w hw (by rw [← lsUp_all (listed := listed) fun i hi hk => hall i hi (.inr hk)]; exact hRs)
    rw [show stL ops Vq (nums ks pQ 0 ops.size) a0 = stL ops V (nums ks pQ 0 ops.size) a0 from stL_same H.apart fun j => ⟨Iff.rfl, fun h => (hV j (by have := (mem_nums.1 h).2; simpa [pQ] using this)).symm⟩, ← stL_app] at h
    rw [← stL_app, List.filter_eq_self.2 (fun i hi => by
      have := (mem_nums.1 hi).2
      rw [hT i (by simpa [pT] using this)]; rfl)]
    rw [show stL ops V ((nonT ks ops.size).filter (up listed) ++ (nums ks pF 0 ops.size).filter fun i => !up listed i) a0 = stL ops V (nums ks pQ 0 ops.size ++ nums ks pL 0 ops.size) a0 from stL_same H.apart fun j => ⟨?_, fun _ => rfl⟩]
    · exact h
    · rw [List.mem_append, List.mem_filter, List.mem_filter, mem_nonT, mem_nums]
      simp only [pF, beq_iff_eq, Bool.not_eq_true']
      constructor
      · rintro (h1 | h1)
        · exact h1.1
        · exact ⟨h1.1.1.2, by omega⟩
      · intro h1
        cases hu : up listed j with
        | true => exact .inl ⟨h1, rfl⟩
        | false =>
          refine .inr ⟨⟨⟨Nat.zero_le _, h1.1⟩, ?_⟩, rfl⟩
          have h2 : ¬ (kd ks j = 0 ∨ kd ks j = 2) := fun h => by rw [hall j h1.1 h] at hu; cases hu
          omega
def KeptD (D : List Nat) (w0 w : World) : Prop := Kept (fun b => b ∉ D) w0 w
section
variable {D : List Nat} {w0 w w' : World}
theorem KeptD.on (h : KeptD D w0 w) (k : Below w.heap.size w w') : KeptD D w0 w' := Kept.on h k
theorem KeptD.none (h : KeptD [] w0 w) : Below w0.heap.size w0 w := Kept.none h
theorem KeptD.blk {g : Nat} {t : TypeId} {cs : Array Value} (h : KeptD D w0 w) (hg : g ∉ D) (hb : Blk w0 g t cs) : Blk w g t cs := Kept.blk h hg hb
end
theorem wpLsI_nil {w0 : World} {D : List Nat} {I : InvT} {an : Nat → Nat → Bool} {ks0 : List Nat} {T : Act → World → Prop} {n : Nat} {a : Act} {vs : Nat → Value} (h : ∀ V w', KeptD D w0 w' → (∀ j, j < n → kd ks0 j = 2 → V j = vs j) → I (fun j => j < n ∧ kd ks0 j = 2) V w' → T a w') : wpLsI P ops (Msd w0 D) I an ks0 T [] [] n a vs := by
  unfold wpLsI; exact fun V w' hw => h V w' (msd_kept hw)
theorem wpLsI_one {w0 : World} {D : List Nat} {I : InvT} {an : Nat → Nat → Bool} {ks0 : List Nat} {T : Act → World → Prop} {i : Nat} {a : Act} {vs : Nat → Value} {o : Oper} {l : List Oper} (hg : o.guard = none)
    (h1 : ∀ S V w', KeptD D w0 w' → (∀ j, j < i → kd ks0 j = 2 → V j = vs j) → (∀ j, j < i → kd ks0 j = 2 → an i j = true → S j) → ¬ S i → I S V w' → sumAtI P o a (fun v w => KeptD D w0 w ∧ I (andOf S i) (upd V i v) w) w') (h2 : ∀ v, wpLsI P ops (Msd w0 D) I an ks0 T ks l (i + 1) (a.put o.dst v) (upd vs i v)) :
    wpLsI P ops (Msd w0 D) I an ks0 T (2 :: ks) (o :: l) i a vs := by
  unfold wpLsI
  exact ⟨fun S V w' hw hV ha hn hI => .inl ⟨by simp [Region.wanted, hg], (h1 S V w' (msd_kept hw) hV ha hn hI).mono fun v w h => ⟨msd_of h.1, h.2⟩⟩, h2⟩
theorem wpLsI_skip {I : InvT} {an : Nat → Nat → Bool} {ks0 : List Nat} {T : Act → World → Prop} {i : Nat} {a : Act} {vs : Nat → Value} {o : Oper} {l : List Oper} {k : Nat} (h : wpLsI P ops C I an ks0 T ks l (i + 1) a vs) (hk : notTwo k := by exact trivial) : wpLsI P ops C I an ks0 T (k :: ks) (o :: l) i a vs := by
  match k, hk with
  | 0, _ => unfold wpLsI; exact h
  | 1, _ => unfold wpLsI; exact h
  | k + 3, _ => unfold wpLsI; exact h
theorem any_inv {Q : Exit → Act → World → Prop} {a : Act} {w : World} {l : List Oper} (ks : List Nat) (D : List Nat) (I : InvT) (hB : schedB0 l.toArray ks = true)
    (hR : ∀ S V w1 w2, Kept (fun b => b ∉ D) w w1 → I S V w1 → Below w1.heap.size w1 w2 → I S V w2) (h0 : ∀ V, I (fun _ => False) V w)
    (h : wpQs P l.toArray (Msd w D) (fun a' => wpLsI P l.toArray (Msd w D) I (ancB (Region.before l.toArray)) ks (fun a'' w'' => wpList P l.toArray (Exit.then (fun a w => Q .normal a w) (fun _ _ _ => False)) (tails ks l) a'' w'') ks l 0 a' (fun _ => undef)) ks l a) :
    Go.wpAny P .any l.toArray Q l.toArray.size (Array.replicate l.toArray.size false) a { w with drawn := w.drawn + 1 } := by
  have H := sch_of0 hB
  have hlen : ks.length = l.length := by simpa using H.len
  obtain ⟨Vq, h1, h2⟩ := qs_facts (l := l) (ks := ks) l ks 0 a rfl rfl h
  have e : l.length = l.toArray.size := by simp
  have h3 := fun V => ls_factsI (l := l) (ks := ks) l ks 0 _ _ rfl rfl (Nat.zero_le _) h2 V (fun j hj => by omega)
  rw [tails_eq (l := l) (ks := ks) l ks 0 rfl rfl hlen, e] at h3
  have hd0 : ∀ K : Nat → Prop, Kept K w { w with drawn := w.drawn + 1 } := fun K => ⟨rfl, rfl, rfl, Nat.le_refl _, fun _ _ _ => rfl⟩
  have := H.phase1I (C := Msd w D) (Q := Q) (a0 := a) (I := I) (an := ancB (Region.before l.toArray)) (fun i j h h1 h2 => ⟨h1, h2, h⟩) (Vq := Vq) (fun w1 w2 h4 h5 => msd_of ((msd_kept h4).trans (Kept.of_below h5))) (fun S V w1 w2 hw => hR S V w1 w2 (msd_kept hw)) (fun i o ho hk => h1 i o (Nat.zero_le _) ho hk)
    (fun V => ⟨fun i o ho hk => (h3 V).1 i o (Nat.zero_le _) ho hk, (h3 V).2⟩)
    l.toArray.size (Array.replicate l.toArray.size false) Vq { w with drawn := w.drawn + 1 } (by simp) (fun j o hj => by simp [up, Array.getElem?_replicate] at hj; split at hj <;> cases hj)
    (by simp only [cnt]; rw [List.countP_eq_length.2 (fun i _ => by simp [up, Array.getElem?_replicate]; split <;> rfl)]; simp) (fun _ _ => rfl) (fun i _ => by simp [up, Array.getElem?_replicate]; split <;> rfl) (msd_of (hd0 _))
    (by
      have e2 : lsUp ks l.toArray.size (Array.replicate l.toArray.size false) = fun _ => False := by
        funext j
        exact propext ⟨fun h => (by have := h.2.2; simp [up, Array.getElem?_replicate] at this; split at this <;> cases this), fun h => h.elim⟩
      rw [e2]
      exact hR _ _ w _ (Kept.refl _ _) (h0 Vq) ⟨rfl, rfl, rfl, Nat.le_refl _, fun _ _ => rfl⟩)
  have hf : (nonT ks l.toArray.size).filter (up (Array.replicate l.toArray.size false)) = [] := List.filter_eq_nil_iff.2 fun i _ => by simp [up, Array.getElem?_replicate]; split <;> simp
  rw [hf] at this
  exact this
theorem wp_inv {id : Nat} {Q : Exit → Act → World → Prop} {a : Act} {w : World} {l : List Oper} (ks : List Nat) (D : List Nat) (I : InvT) (hm : P.follows .mixedOrders = true) (hB : schedB0 l.toArray ks = true)
    (hR : ∀ S V w1 w2, Kept (fun b => b ∉ D) w w1 → I S V w1 → Below w1.heap.size w1 w2 → I S V w2) (h0 : ∀ V, I (fun _ => False) V w)
    (h : wpQs P l.toArray (Msd w D) (fun a' => wpLsI P l.toArray (Msd w D) I (ancB (Region.before l.toArray)) ks (fun a'' w'' => wpList P l.toArray (Exit.then (fun a w => Q .normal a w) (fun _ _ _ => False)) (tails ks l) a'' w'') ks l 0 a' (fun _ => undef)) ks l a) : (Code.region id l.toArray true).wp P Q a w :=
  wp_region_any hm (any_inv ks D I hB hR h0 h)
attribute [go_sem] sumAtI sumUponI
end
end Go.Proofs.YtmbccnioijokfaaGreatDoor

namespace Go.Proofs.YtmbccnioijokfaaGreatDoor
open Go.RowKit
structure BoxCfg where
  a : Nat
  s : Nat
  t : TypeId
  z : Array Value
  c : Array Value
structure StepTs (n : Nat) (ts : List TypeId) (w w' : World) : Prop where
  size : w.heap.size ≤ w'.heap.size
  keep : ∀ b, b < w.heap.size → (b < n ∨ ∀ t ∈ ts, ∀ cs, ¬ Blk w b t cs) → w'.heap[b]? = w.heap[b]?
section
variable {n N : Nat} {ts : List TypeId} {w w' : World} {B : List BoxCfg} {U : Nat → Rel} {S : Nat → Prop} {V : Nat → Value}
theorem StepTs.of_below (h : Below w.heap.size w w') : StepTs n ts w w' := ⟨h.size, fun b hb _ => h.block b hb⟩
def BoxI (N : Nat) (x : BoxCfg) : InvT := fun S V w => (S x.s → S x.a) ∧ (S x.a → ∃ b, V x.a = .pointer (some ⟨b, 0, none⟩) ∧ N ≤ b ∧ (¬ S x.s → Blk w b x.t x.z) ∧ (S x.s → Blk w b x.t x.c))
def ManyI (N : Nat) (B : List BoxCfg) (U : Nat → Rel) : InvT := fun S V w =>
  (∀ i, S i → U i (V i) w) ∧ (∀ x ∈ B, BoxI N x S V w) ∧ (∀ x ∈ B, ∀ y ∈ B, x.a ≠ y.a → S x.a → S y.a → V x.a ≠ V y.a)
def OkB (B : List BoxCfg) : Prop := B.Pairwise (fun x y => x.a ≠ y.a ∧ x.s ≠ y.s ∧ x.a ≠ y.s ∧ x.s ≠ y.a) ∧ ∀ x ∈ B, x.a ≠ x.s
theorem pw_mem {α : Type} {R : α → α → Prop} : ∀ {l : List α}, l.Pairwise R → ∀ x ∈ l, ∀ y ∈ l, x = y ∨ R x y ∨ R y x := by
  intro l
  induction l with
  | nil => intro _ x hx; cases hx
  | cons a l ih =>
    intro h x hx y hy
    rw [List.pairwise_cons] at h
    rcases List.mem_cons.1 hx with e | hx' <;> rcases List.mem_cons.1 hy with e' | hy'
    · exact .inl (e.trans e'.symm)
    · exact .inr (.inl (e ▸ h.1 y hy'))
    · exact .inr (.inr (e' ▸ h.1 x hx'))
    · exact ih h.2 x hx' y hy'
theorem OkB.of (h : OkB B) {x y : BoxCfg} (hx : x ∈ B) (hy : y ∈ B) : x = y ∨ (x.a ≠ y.a ∧ x.s ≠ y.s ∧ x.a ≠ y.s ∧ x.s ≠ y.a) := by
  rcases pw_mem h.1 x hx y hy with e | e | e
  · exact .inl e
  · exact .inr e
  · exact .inr ⟨e.1.symm, e.2.1.symm, e.2.2.2.symm, e.2.2.1.symm⟩
def Bears (N : Nat) (B : List BoxCfg) (U : Nat → Rel) : Prop := ∀ i v w w', U i v w → StepTs N (B.map (·.t)) w w' → U i v w'
theorem manyI_zero : ManyI N B U (fun _ => False) V w := ⟨fun _ h => h.elim, fun _ _ => ⟨fun h => h.elim, fun h => h.elim⟩, fun _ _ _ _ _ h => h.elim⟩
theorem ManyI.below (hU : Bears N B U) (h : ManyI N B U S V w) (hb : Below w.heap.size w w') : ManyI N B U S V w' :=
  ⟨fun i hi => hU i _ _ _ (h.1 i hi) (StepTs.of_below hb), fun x hx => ⟨(h.2.1 x hx).1, fun ha => by
    obtain ⟨b, h1, h2, h3, h4⟩ := (h.2.1 x hx).2 ha
    exact ⟨b, h1, h2, fun hs => (h3 hs).on hb, fun hs => (h4 hs).on hb⟩⟩, h.2.2⟩
theorem ManyI.l {i : Nat} {v : Value} (hi : ∀ x ∈ B, x.a ≠ i ∧ x.s ≠ i) (hU : Bears N B U) (h : ManyI N B U S V w) (hb : Below w.heap.size w w') (hu : U i v w') : ManyI N B U (andOf S i) (upd V i v) w' := by
  have h := h.below hU hb
  refine ⟨fun j hj => ?_, fun x hx => ⟨fun hs => ?_, fun ha => ?_⟩, fun x hx y hy hne h1 h2 => ?_⟩
  · by_cases e : j = i
    · subst e; rw [upd_same]; exact hu
    · rw [upd_ne e]; exact h.1 j (hj.resolve_left e)
  · exact .inr ((h.2.1 x hx).1 (hs.resolve_left (hi x hx).2))
  · obtain ⟨b, h1, h2, h3, h4⟩ := (h.2.1 x hx).2 (ha.resolve_left (hi x hx).1)
    rw [upd_ne (hi x hx).1]
    exact ⟨b, h1, h2, fun hs => h3 fun k => hs (.inr k), fun hs => h4 (hs.resolve_left (hi x hx).2)⟩
  · rw [upd_ne (hi x hx).1, upd_ne (hi y hy).1]
    exact h.2.2 x hx y hy hne (h1.resolve_left (hi x hx).1) (h2.resolve_left (hi y hy).1)
theorem ManyI.new {x : BoxCfg} (hx : x ∈ B) (hB : OkB B) (hU : Bears N B U) (hT : ∀ v w, U x.a v w) (hN : N ≤ w.heap.size) (hn : ¬ S x.a) (h : ManyI N B U S V w) : ManyI N B U (andOf S x.a) (upd V x.a (.pointer (some ⟨w.heap.size, 0, none⟩))) (w.alloc (.cells x.z x.t)) := by
  have hb : Below w.heap.size w (w.alloc (.cells x.z x.t)) := (Below.refl _ _).alloc (Nat.le_refl _) _
  have hs0 : ¬ S x.s := fun hs => hn ((h.2.1 x hx).1 hs)
  have hlt : ∀ y ∈ B, S y.a → V y.a ≠ .pointer (some ⟨w.heap.size, 0, none⟩) := fun y hy ha e => by
    obtain ⟨b, h1, h2, h3, h4⟩ := (h.2.1 y hy).2 ha
    have : b < w.heap.size := by
      by_cases hs : S y.s
      · exact (h4 hs).lt
      · exact (h3 hs).lt
    rw [h1] at e
    injection e with e; injection e with e; injection e with e
    omega
  have k := h.below hU hb
  refine ⟨fun j hj => ?_, fun y hy => ?_, fun y hy z hz hne h1 h2 => ?_⟩
  · by_cases e : j = x.a
    · subst e; exact hT _ _
    · rw [upd_ne e]; exact k.1 j (hj.resolve_left e)
  · rcases hB.of hy hx with rfl | ⟨e1, e2, e3, e4⟩
    · have hne := hB.2 y hy
      refine ⟨fun _ => .inl rfl, fun _ => ⟨w.heap.size, upd_same _ _ _, hN, fun _ => Blk.new w _ _, fun hs => absurd (hs.resolve_left hne.symm) hs0⟩⟩
    · refine ⟨fun hs => .inr ((k.2.1 y hy).1 (hs.resolve_left e4)), fun ha => ?_⟩
      obtain ⟨b, h1, h2, h3, h4⟩ := (k.2.1 y hy).2 (ha.resolve_left e1)
      rw [upd_ne e1]
      exact ⟨b, h1, h2, fun hs => h3 fun k => hs (.inr k), fun hs => h4 (hs.resolve_left e4)⟩
  · by_cases e1 : y.a = x.a
    · have e2 : z.a ≠ x.a := fun e => hne (e1.trans e.symm)
      rw [e1, upd_same, upd_ne e2]
      exact fun e => hlt z hz (h2.resolve_left e2) e.symm
    · by_cases e2 : z.a = x.a
      · rw [e2, upd_same, upd_ne e1]
        exact hlt y hy (h1.resolve_left e1)
      · rw [upd_ne e1, upd_ne e2]
        exact k.2.2 y hy z hz hne (h1.resolve_left e1) (h2.resolve_left e2)
theorem ManyI.set {x : BoxCfg} {b : Nat} {v : Value} (hx : x ∈ B) (hB : OkB B) (hU : Bears N B U) (hT : ∀ v w, U x.s v w) (hn : ¬ S x.s) (h : ManyI N B U S V w) (ha : S x.a) (hv : V x.a = .pointer (some ⟨b, 0, none⟩)) (hk : Kept (fun c => c ≠ b) w w') (hb : Blk w' b x.t x.c) : ManyI N B U (andOf S x.s) (upd V x.s v) w' := by
  have hne := hB.2 x hx
  obtain ⟨b', h1, h2, h3, h4⟩ := (h.2.1 x hx).2 ha
  obtain rfl : b = b' := by rw [hv] at h1; injection h1 with e; injection e with e; injection e
  have hz := h3 hn
  have hst : StepTs N (B.map (·.t)) w w' := ⟨hk.size, fun c hc hcc => hk.block c hc fun e => by
    subst e
    rcases hcc with h5 | h5
    · omega
    · exact h5 x.t (List.mem_map.2 ⟨x, hx, rfl⟩) _ hz⟩
  refine ⟨fun j hj => ?_, fun y hy => ?_, fun y hy z hz' hne' k1 k2 => ?_⟩
  · by_cases e : j = x.s
    · subst e; exact hT _ _
    · rw [upd_ne e]; exact hU _ _ _ _ (h.1 j (hj.resolve_left e)) hst
  · rcases hB.of hy hx with rfl | ⟨e1, e2, e3, e4⟩
    · refine ⟨fun _ => .inr ha, fun _ => ⟨b, by rw [upd_ne hne]; exact hv, h2, fun hs => absurd (.inl rfl) hs, fun _ => hb⟩⟩
    · refine ⟨fun hs => .inr ((h.2.1 y hy).1 (hs.resolve_left e2)), fun hya => ?_⟩
      obtain ⟨c, k1, k2, k3, k4⟩ := (h.2.1 y hy).2 (hya.resolve_left e3)
      have hcb : c ≠ b := fun e => h.2.2 y hy x hx e1 (hya.resolve_left e3) ha (by rw [k1, hv, e])
      rw [upd_ne e3]
      exact ⟨c, k1, k2, fun hs => hk.blk hcb (k3 fun k => hs (.inr k)), fun hs => hk.blk hcb (k4 (hs.resolve_left e2))⟩
  · have f1 : y.a ≠ x.s := by rcases hB.of hy hx with rfl | ⟨_, _, e3, _⟩; exact hne; exact e3
    have f2 : z.a ≠ x.s := by rcases hB.of hz' hx with rfl | ⟨_, _, e3, _⟩; exact hne; exact e3
    rw [upd_ne f1, upd_ne f2]
    exact h.2.2 y hy z hz' hne' (k1.resolve_left f1) (k2.resolve_left f2)
theorem ManyI.of {j : Nat} {v : Value} (h : ManyI N B U S V w) (hs : S j) (hv : V j = v) : U j v w := hv ▸ h.1 j hs
theorem ManyI.slot {x : BoxCfg} (hx : x ∈ B) (h : ManyI N B U S V w) (ha : S x.a) (hn : ¬ S x.s) : ∃ b, V x.a = .pointer (some ⟨b, 0, none⟩) ∧ N ≤ b ∧ Blk w b x.t x.z := by
  obtain ⟨b, h1, h2, h3, _⟩ := (h.2.1 x hx).2 ha
  exact ⟨b, h1, h2, h3 hn⟩
theorem ManyI.done {x : BoxCfg} (hx : x ∈ B) (h : ManyI N B U S V w) (ha : S x.a) (hs : S x.s) : ∃ b, V x.a = .pointer (some ⟨b, 0, none⟩) ∧ N ≤ b ∧ Blk w b x.t x.c := by
  obtain ⟨b, h1, h2, _, h4⟩ := (h.2.1 x hx).2 ha
  exact ⟨b, h1, h2, h4 hs⟩
theorem KeptD.new_set {w0 : World} {D : List Nat} {b : Nat} (h : KeptD D w0 w) (hb : w0.heap.size ≤ b) (hk : Kept (fun c => c ≠ b) w w') : KeptD D w0 w' :=
  ⟨hk.os.trans h.os, hk.tape.trans h.tape, hk.output.trans h.output, Nat.le_trans h.size hk.size, fun c hc hD => (hk.block c (Nat.lt_of_lt_of_le hc h.size) (by omega)).trans (h.block c hc hD)⟩
end
def relsU : List (Nat × Rel) → Nat → Rel
  | [], _ => fun _ _ => True
  | (k, R) :: l, i => if i = k then R else relsU l i
section
variable {N : Nat} {B : List BoxCfg} {l : List (Nat × Rel)} {k : Nat}
theorem bears_nil : Bears N B (relsU []) := fun _ _ _ _ h _ => h
theorem bears_cons {R : Rel} (hR : ∀ v w w', R v w → StepTs N (B.map (·.t)) w w' → R v w') (h : Bears N B (relsU l)) : Bears N B (relsU ((k, R) :: l)) := fun i v w w' hv hs => by
  unfold relsU at *
  by_cases e : i = k
  · rw [if_pos e] at *; exact hR v w w' hv hs
  · rw [if_neg e] at *; exact h i v w w' hv hs
theorem bears_val {x : Value} (h : Bears N B (relsU l)) : Bears N B (relsU ((k, fun v _ => v = x) :: l)) := bears_cons (fun _ _ _ hv _ => hv) h
end
theorem wp_many {P : Program} {id : Nat} {Q : Exit → Act → World → Prop} {a : Act} {w : World} {l : List Oper} (ks : List Nat) (B : List BoxCfg) (U : Nat → Rel) (hm : P.follows .mixedOrders = true) (hB : schedB0 l.toArray ks = true) (hU : Bears w.heap.size B U)
    (h : wpQs P l.toArray (Msd w []) (fun a' => wpLsI P l.toArray (Msd w []) (ManyI w.heap.size B U) (ancB (Region.before l.toArray)) ks (fun a'' w'' => wpList P l.toArray (Exit.then (fun a w => Q .normal a w) (fun _ _ _ => False)) (tails ks l) a'' w'') ks l 0 a' (fun _ => undef)) ks l a) : (Code.region id l.toArray true).wp P Q a w :=
  wp_inv ks [] _ hm hB (fun _ _ _ _ _ h1 h2 => h1.below hU h2) (fun _ => manyI_zero) h
end Go.Proofs.YtmbccnioijokfaaGreatDoor

namespace Go.Proofs.YtmbccnioijokfaaGreatDoor
open Go.RowKit
structure StCfg where
  s : Nat
  p : Nat
  b : Nat
  t : TypeId
  o : Array Value
  n : Array Value
section
variable {x y : StCfg} {val : Nat → Value} {S : Nat → Prop} {V : Nat → Value} {w w' : World}
end
theorem keptD_set {D : List Nat} {w0 w w' : World} {b : Nat} (h : KeptD D w0 w) (hb : b ∈ D) (k : Kept (fun c => c ≠ b) w w') : KeptD D w0 w' := Kept.trans h (k.mono fun _ hc e => hc (e ▸ hb))
end Go.Proofs.YtmbccnioijokfaaGreatDoor

namespace Go.Proofs.YtmbccnioijokfaaGreatDoor
open Go.ChangeShapes Go.WideShapes Go.ChangeAt Go.RowKit
theorem own : ownKnob Tryz.prog.godebug = none := by kernel_rfl
theorem laidOut : laidOutB Tryz.prog = true := by kernel_rfl
section
variable {H : Type} {enc : TypeId × Value → H} {P : Program}
theorem trodAll_below {W W' : World} (hl : laidOutB P = true) (hb : Below W.heap.size W W') :
    ∀ {ts : List TypeId} {vs : List Value} {ds : List (DataW H)} {ps : List MemPlace}, (∀ t ∈ ts, P.readableRec t = true ∧ t < P.types.size) →
      DataW.TrodAll enc P W 0 (fun _ => true) true ts vs ds ps → (∀ x ∈ ps, x.block < W.heap.size) →
      DataW.TrodAll enc P W' 0 (fun b => decide (b < W.heap.size)) true ts vs ds ps := by
  intro ts
  induction ts with
  | nil =>
    intro vs ds ps _ h _
    obtain ⟨rfl, rfl, rfl⟩ := trodAll_nil h
    exact trodAll_mk0
  | cons t ts ih =>
    intro vs ds ps hts h hp
    obtain ⟨v0, vs0, d0, ds0, p0, q0, rfl, rfl, rfl, h0, r0⟩ := trodAll_cons h
    obtain ⟨hr, hrow⟩ := hts t (List.mem_cons_self ..)
    exact trodAll_cons_mk (Below.trod hl hr hrow h0 hb fun x hx => hp x (by simp [hx])) (ih (fun t ht => hts t (List.mem_cons_of_mem _ ht)) r0 fun x hx => hp x (by simp [hx]))
theorem law_post {f : Func} {s : ChangeSpec} {tb : TypeId} {W W' : World} {args : Array Value} {ds gs : List (DataW H)} {before : List MemPlace}
    (hl : laidOutB P = true) (hts : (f.params.toList.all fun t => P.readableRec t && decide (t < P.types.size)) = true) (hvars : s.vars = []) (hrt : f.resultTypes = #[tb]) (htb : P.underlying tb = some .bool)
    (hW : DataW.Whole enc P f.params.toList s.vars false W args.toList ds gs before)
    (hres : (s.fn H (ds ++ gs)).results = [.lit (.bool true)]) (hargs : (s.fn H (ds ++ gs)).args = ds) (hv : (s.fn H (ds ++ gs)).vars = [])
    (hb : Below W.heap.size W W') : s.post enc P f false true false false W args (.bool true) W' := by
  have hlt : ∀ x ∈ before, x.block < W.heap.size := fun x hx => hW.lt x hx
  have hW0 := hW
  obtain ⟨p, q, hA, hV, hpq, hz, hn⟩ := hW
  rw [hvars] at hV
  obtain ⟨rfl, rfl⟩ := trodVars_none hV
  rw [List.append_nil] at hpq
  subst hpq
  refine ⟨ds, [], before, [], before, [], hW0, ?_, ?_, ?_, World.keptBut_mono (fun p hp => ⟨hp, Or.inr (Or.inl hp)⟩) (hb.frame (· ∈ before)), fun h => by cases h⟩
  · rw [hres, hrt]
    exact trodAll_mk1 (shut_bool htb true)
  · rw [hargs]
    refine trodAll_below hl hb (fun t ht => ?_) hA hlt
    have := List.all_eq_true.1 hts t ht
    simpa using this
  · rw [hvars, hv]
    exact rfl
def vecFields (P : Program) (f0 f1 f2 : Field) (ti : TypeId) : Bool :=
  (f0.offset == 0 && f1.offset == 1 && f2.offset == 2) && ((f0.type == ti && f1.type == ti && f2.type == ti) && P.cellsOf ti == 1)
theorem trod_vec {w : World} {base fuel : Nat} {spare : Nat → Bool} {held : Bool} {t ti : TypeId} {f0 f1 f2 : Field} {cs : List Value} {x : DataW H × List MemPlace} (hs : P.underlying t = some (.struct #[f0, f1, f2]))
    (hf : vecFields P f0 f1 f2 ti = true) (hi : P.underlying ti = some (.int .i64)) (hl : cs.length = 3) (h : DataW.trod enc P w base spare held fuel t cs = some x) :
    ∃ a b c, cs = [.int .i64 a, .int .i64 b, .int .i64 c] ∧ In64 a ∧ In64 b ∧ In64 c := by
  simp only [vecFields, Bool.and_eq_true, beq_iff_eq] at hf
  obtain ⟨⟨⟨o0, o1⟩, o2⟩, ⟨⟨t0, t1⟩, t2⟩, hc⟩ := hf
  obtain ⟨xs, n, _, _, _, hxl, hg⟩ := DataW.trod_struct hs h
  match cs, hl with
  | [v0, v1, v2], _ =>
    match xs, hxl with
    | [y0, y1, y2], _ =>
      have g0 := hg 0 f0 rfl
      have g1 := hg 1 f1 rfl
      have g2 := hg 2 f2 rfl
      rw [o0, t0, hc] at g0
      rw [o1, t1, hc] at g1
      rw [o2, t2, hc] at g2
      obtain ⟨a, ha, _, wa⟩ := DataW.trod_int (x := y0) hi g0
      obtain ⟨b, hb, _, wb⟩ := DataW.trod_int (x := y1) hi g1
      obtain ⟨c, hc', _, wc⟩ := DataW.trod_int (x := y2) hi g2
      simp at ha hb hc'
      subst ha hb hc'
      exact ⟨a, b, c, rfl, in64_of_wf wa, in64_of_wf wb, in64_of_wf wc⟩
end
end Go.Proofs.YtmbccnioijokfaaGreatDoor

namespace Go.Proofs.YtmbccnioijokfaaGreatDoor
open Go.ChangeShapes Go.WideShapes Go.ChangeAt Go.RowKit
def n16 (c : B16) : Int := c.toNat
def n8 (x : B8) : Int := x.toNat
theorem n8_lt (c : B8) : 0 ≤ n8 c ∧ n8 c < 256 := ⟨by unfold n8; omega, by unfold n8; have := c.isLt; omega⟩
theorem n16_eq {a b : B16} : n16 a = n16 b ↔ a = b := by
  unfold n16
  constructor
  · intro h; exact BitVec.eq_of_toNat_eq (by omega)
  · rintro rfl; rfl
def Byt (w : World) (g o n : Nat) (F : Nat → B8) : Prop := ∀ i, i < n → w.cell? ⟨g, o + i, none⟩ = some (.int .u8 (n8 (F i)))
def Byq (w : World) (q : Option Addr) (n : Nat) (F : Nat → B8) : Prop := 0 < n → ∃ g o, q = some ⟨g, o, none⟩ ∧ Byt w g o n F
section
variable {w w' : World} {g o n : Nat} {F : Nat → B8} {q : Option Addr}
theorem Byt.on (h : Byt w g o n F) (hb : Below w.heap.size w w') : Byt w' g o n F := fun i hi => by
  have h1 := h i hi
  rw [cell_below hb (cell_lt h1)]; exact h1
theorem Byt.lt (h : Byt w g o n F) (hn : 0 < n) : g < w.heap.size := cell_lt (h 0 hn)
theorem Byt.le {m : Nat} (h : Byt w g o n F) (hm : m ≤ n) : Byt w g o m F := fun i hi => h i (by omega)
theorem Byt.re (h : Byt w g o n F) (d : Nat) (os : Array Obj) : Byt (Go.Sort.grow (redrawn w d) os) g o n F := h.on (below_regrown w d os)
theorem Byq.on (h : Byq w q n F) (hb : Below w.heap.size w w') : Byq w' q n F := fun hn => by
  obtain ⟨g, o, e, h1⟩ := h hn
  exact ⟨g, o, e, h1.on hb⟩
theorem Byq.le {m : Nat} (h : Byq w q n F) (hm : m ≤ n) : Byq w q m F := fun h0 => by
  obtain ⟨g, o, e, h1⟩ := h (by omega)
  exact ⟨g, o, e, h1.le hm⟩
theorem Byq.zero : Byq w q 0 F := fun h => by omega
theorem Byq.of (h : Byt w g o n F) : Byq w (some ⟨g, o, none⟩) n F := fun _ => ⟨g, o, rfl, h⟩
end
def byteAt (w : World) (p : Addr) : B8 := match w.cell? p with | some (.int .u8 x) => BitVec.ofInt 8 x | _ => 0
theorem byteAt_eq {w : World} {p : Addr} {x : Int} (h : w.cell? p = some (.int .u8 x)) : byteAt w p = BitVec.ofInt 8 x := by unfold byteAt; rw [h]
section
variable {H : Type} {enc : TypeId × Value → H} {P : Program}
end
end Go.Proofs.YtmbccnioijokfaaGreatDoor

namespace Go.Proofs.YtmbccnioijokfaaGreatDoor
open Go.RowKit Go.Deep
def bl (F : Nat → B8) (n : Nat) : List Value := (List.range n).map fun i => .int .u8 (n8 (F i))
theorem bl_len (F : Nat → B8) (n : Nat) : (bl F n).length = n := by simp [bl]
theorem bl_at {F : Nat → B8} {n i : Nat} (h : i < n) : (bl F n)[i]? = some (.int .u8 (n8 (F i))) := by simp [bl, h]
def cat (F : Nat → B8) (n : Nat) (G : Nat → B8) (i : Nat) : B8 := if i < n then F i else G (i - n)
theorem cat_0 (F G : Nat → B8) : cat F 0 G = G := funext fun i => by simp [cat]
theorem bl_cat (F : Nat → B8) (n : Nat) (G : Nat → B8) (m : Nat) : bl (cat F n G) (n + m) = bl F n ++ bl G m := by
  apply List.ext_getElem?
  intro i
  by_cases h : i < n
  · rw [bl_at (by omega), List.getElem?_append_left (by rw [bl_len]; exact h), bl_at h]; simp [cat, h]
  · rw [List.getElem?_append_right (by rw [bl_len]; omega), bl_len]
    by_cases h2 : i < n + m
    · rw [bl_at h2, bl_at (by omega)]; simp [cat, h]
    · rw [List.getElem?_eq_none (by rw [bl_len]; omega), List.getElem?_eq_none (by rw [bl_len]; omega)]
section
variable {P : Program} {w w' : World} {base n m c g cap : Nat} {e t : TypeId} {F G : Nat → B8} {v : Value} {q : Option Addr}
theorem own_nil : w.ownsRow base e 1 (.slice none 0 0) 0 (bl F 0) := ⟨rfl, .inl ⟨rfl, rfl⟩⟩
theorem own_form (h : w.ownsRow base e 1 v n (bl F n)) (hn : 0 < n) : ∃ g cap cur, v = .slice (some ⟨g, 0, none⟩) n cap ∧ base ≤ g ∧ Blk w g e cur ∧ n ≤ cap ∧ cap ≤ maxLen ∧ n ≤ cur.size ∧ Byt w g 0 n F := by
  rcases h.2 with ⟨_, h0⟩ | ⟨g, cap, cur, hv, hb, hg, hc, hm, hs, ht⟩
  · omega
  · refine ⟨g, cap, cur, hv, hb, hg, hc, hm, by omega, fun i hi => ?_⟩
    have h1 : cur[i]? = some (.int .u8 (n8 (F i))) := by
      have h2 := bl_at (F := F) hi
      rw [← ht, Nat.mul_one, List.getElem?_take_of_lt hi] at h2
      simpa using h2
    rw [Nat.zero_add, Blk.cell hg, h1]
theorem own_byq (h : w.ownsRow base e 1 v n (bl F n)) : ∃ q cap, v = .slice q n cap ∧ n ≤ cap ∧ cap ≤ maxLen ∧ Byq w q n F := by
  by_cases hn : 0 < n
  · obtain ⟨g, cap, _, hv, _, _, hc, hm, _, hb⟩ := own_form h hn
    exact ⟨_, cap, hv, hc, hm, Byq.of hb⟩
  · obtain rfl : n = 0 := by omega
    rcases h.2 with ⟨hv, _⟩ | ⟨g, cap, cur, hv, hb, hg, hc, hm, hs, ht⟩
    · exact ⟨_, _, hv, Nat.le_refl _, by omega, Byq.zero⟩
    · exact ⟨_, _, hv, hc, hm, Byq.zero⟩
theorem run_app {ts ty : TypeId} (ht : P.underlying ts = some (.slice e)) (hi : (P.info? e).map (fun i => (i.zero, i.size, i.bytes)) = some (some (.int .u8 0), 1, 1))
    (hown : w.ownsRow base e 1 v n (bl F n)) (hmc : m ≤ c) (hG : Byq w q m G) (h47 : n + m ≤ 140737488355328) (hbase : base ≤ w.heap.size) :
    ∃ v' w', (Builtin.append_ #[ts, ts] ty #[v, .slice q m c]).run P w = .ok v' w' ∧ w'.ownsRow base e 1 v' (n + m) (bl (cat F n G) (n + m)) ∧ Below base w w' := by
  obtain ⟨i, hi, hz, hs, hby⟩ := info_parts hi
  by_cases hm : 0 < m
  · obtain ⟨g, o, rfl, hB⟩ := hG hm
    obtain ⟨v', w', h1, h2, h3, _⟩ := run_append_own (P := P) w base ts ty e i (.int .u8 0) 1 1 ht hi hz hs hby rfl (by decide) v n (bl F n) hown ⟨g, o, none⟩ m c (bl G m) (by rw [bl_len]; omega) (fun j u hj => by
        have hjm : j < m := by
          rcases Nat.lt_or_ge j m with h | h
          · exact h
          · rw [List.getElem?_eq_none (by rw [bl_len]; exact h)] at hj; cases hj
        rw [bl_at hjm] at hj
        obtain rfl := Option.some.inj hj
        have := hB j hjm
        unfold Addr.add
        by_cases hk : j = 0 <;> simp [hk] at this ⊢ <;> exact this) (fun u hu => by
        simp [bl] at hu
        obtain ⟨k, _, rfl⟩ := hu
        rfl) (by simp only [maxLen]; omega) (by omega) hbase
    refine ⟨v', w', h1, by rw [bl_cat]; exact h2, (Below.refl _ _).grown h3 hbase fun k hk => ?_⟩
    rcases hown.2 with ⟨hv, _⟩ | ⟨g', cap', cur, hv, hb, _⟩
    · subst hv; simp [Value.ownBlock] at hk
    · subst hv; simp [Value.ownBlock] at hk; omega
  · obtain rfl : m = 0 := by omega
    have hsrc : Src P i.size ts (.slice q 0 c) 0 [] w := by
      cases q with
      | none => exact Src.ofNil w ht c
      | some a => exact Src.ofSlice w ht a 0 c [] (by simp) (by simp) (by simp)
    obtain ⟨q', cap', rfl, hc', _, _⟩ := own_byq hown
    refine ⟨_, w, run_append_nothing w ts ts ty e i ht hi q' n cap' hc' _ hsrc, ?_, Below.refl _ _⟩
    rw [bl_cat]
    simpa [bl] using hown
end
end Go.Proofs.YtmbccnioijokfaaGreatDoor

namespace Go.Proofs.YtmbccnioijokfaaGreatDoor
open Go.RowKit Go.Deep
section
variable {P : Program} {w w' : World} {base n m c g cap : Nat} {e t : TypeId} {F G : Nat → B8} {v : Value} {q : Option Addr}
theorem own_low {B : Nat} (h : w.ownsRow base e 1 v n (bl F n)) (hb : B ≤ base) : w.ownsRow B e 1 v n (bl F n) := by
  refine ⟨h.1, ?_⟩
  rcases h.2 with h0 | ⟨g, cap, cur, hv, hbg, r⟩
  · exact .inl h0
  · exact .inr ⟨g, cap, cur, hv, Nat.le_trans hb hbg, r⟩
end
end Go.Proofs.YtmbccnioijokfaaGreatDoor

namespace Go.Proofs.YtmbccnioijokfaaGreatDoor
open Go.RowKit Go.Maps
abbrev SL := Option Addr × Nat × Nat
def slV (s : SL) : Value := .slice s.1 s.2.1 s.2.2
def RS : Value → Option (DataW SL × List MemPlace)
  | .slice q n c => some (.held (q, n, c), [])
  | _ => none
theorem RS_mk (s : SL) : RS (slV s) = some (.held s, []) := rfl
theorem RS_inv {v : Value} {y : DataW SL × List MemPlace} (h : RS v = some y) : ∃ s : SL, v = slV s ∧ y = (.held s, []) := by
  cases v <;> simp [RS] at h
  rename_i q n c
  exact ⟨(q, n, c), rfl, h.symm⟩
def DMl (l : List (Int × SL)) : List (Lit × DataW SL) := l.map fun p => (Lit.int .i64 p.1, DataW.held p.2)
def DM (l : List (Int × SL)) : DataW SL := .map (DMl l)
theorem same_i (a b : Int) : (Lit.int .i64 a).sameKey (.int .i64 b) = decide (a = b) := by simp [Lit.sameKey]
theorem before_i (a b : Int) : (Lit.int .i64 a).before (.int .i64 b) = decide (a < b) := by simp [Lit.before]
theorem DMl_strike (k : Int) (l : List (Int × SL)) : (DMl l).filter (fun p => !p.1.sameKey (.int .i64 k)) = DMl (l.filter fun p => !decide (p.1 = k)) := by
  unfold DMl
  rw [List.filter_map]
  congr 1
  apply List.filter_congr
  intro p _
  simp [same_i]
theorem DMl_insert (k : Int) (s : SL) : ∀ {l : List (Int × SL)}, (∀ p ∈ l, p.1 ≠ k) → DataW.insert (.int .i64 k, .held s) (DMl l) = DMl (putL l (k, s))
  | [], _ => rfl
  | x :: r, h => by
    have hx := h x List.mem_cons_self
    show DataW.insert _ ((Lit.int .i64 x.1, DataW.held x.2) :: DMl r) = _
    unfold DataW.insert putL
    rw [before_i]
    dsimp only
    by_cases a : k < x.1
    · rw [if_pos (by simpa using a), if_pos a]; rfl
    · rw [if_neg (by simpa using a), if_neg a, if_neg hx, DMl_insert k s (fun p hp => h p (List.mem_cons_of_mem _ hp))]
      rfl
theorem putL_strike (k : Int) (s : SL) : ∀ {l : List (Int × SL)}, Rise l → putL (l.filter fun p => !decide (p.1 = k)) (k, s) = putL l (k, s)
  | [], _ => rfl
  | x :: r, h => by
    obtain ⟨h1, h2⟩ := rise_cons.1 h
    by_cases a : x.1 = k
    · have e : (x :: r).filter (fun p => !decide (p.1 = k)) = r := by
        rw [List.filter_cons_of_neg (by simp [a]), List.filter_eq_self]
        intro p hp
        have := h1 p hp
        simp; omega
      rw [e]
      show putL r (k, s) = if k < x.1 then _ else if x.1 = k then (k, s) :: r else _
      rw [if_neg (by omega), if_pos a]
      cases r with
      | nil => rfl
      | cons y r =>
        have := h1 y List.mem_cons_self
        show (if k < y.1 then _ else _) = _
        rw [if_pos (by omega)]
    · rw [List.filter_cons_of_pos (by simp [a])]
      show (if k < x.1 then _ else if x.1 = k then _ else _) = if k < x.1 then _ else if x.1 = k then _ else _
      by_cases b : k < x.1
      · rw [if_pos b, if_pos b]
        congr 2
        rw [List.filter_eq_self]
        intro p hp
        have := h1 p hp
        simp; omega
      · rw [if_neg b, if_neg a, if_neg b, if_neg a, putL_strike k s h2]
theorem put_DM {l : List (Int × SL)} (h : Rise l) (k : Int) (s : SL) : (DM l).put (.int .i64 k) (.held s) = DM (putL l (k, s)) := by
  show DataW.map (DataW.insert (.int .i64 k, .held s) ((DMl l).filter fun p => !p.1.sameKey (.int .i64 k))) = .map (DMl (putL l (k, s)))
  rw [DMl_strike, DMl_insert k s (fun p hp => by simpa using (List.mem_filter.1 hp).2), putL_strike k s h]
theorem find_DM (k : Int) : ∀ l : List (Int × SL), ((DMl l).find? fun p => p.1.sameKey (.int .i64 k)) = (l.find? fun p => p.1 == k).map fun p => (Lit.int .i64 p.1, DataW.held p.2)
  | [] => rfl
  | x :: r => by
    show (((Lit.int .i64 x.1, DataW.held x.2) :: DMl r).find? _) = _
    by_cases a : x.1 = k
    · rw [List.find?_cons_of_pos (by simp [same_i, a]), List.find?_cons_of_pos (by simp [a])]; rfl
    · rw [List.find?_cons_of_neg (by simp [same_i, a]), List.find?_cons_of_neg (by simp [a]), find_DM k r]
theorem atKey_DM (l : List (Int × SL)) (k : Int) (z : DataW SL) : (DM l).atKey (.int .i64 k) z = match getL l k with | some s => .held s | none => z := by
  unfold DM getL
  simp only [DataW.atKey, find_DM]
  cases l.find? fun p => p.1 == k <;> rfl
theorem has_DM (k : Int) : ∀ l : List (Int × SL), Maps.has (DM l) (.int .i64 k) = (getL l k).isSome
  | [] => rfl
  | x :: r => by
    have ih := has_DM k r
    have e : Maps.has (DM (x :: r)) (.int .i64 k) = ((Lit.int .i64 x.1).sameKey (.int .i64 k) || Maps.has (DM r) (.int .i64 k)) := rfl
    rw [e, ih, getL_cons, same_i]
    by_cases a : x.1 = k <;> simp [a]
theorem map_lt {P : Program} {w : World} {k : TypeId} {b n : Nat} {D : DataW SL} (h : w.ownsMap P k RS b n D) : ∀ cs t u, w.heap[b]? ≠ some (.cells cs t u) := by
  obtain ⟨es, clock, hb, _⟩ := h
  intro cs t u e
  rw [hb] at e
  cases e
theorem map_kept {P : Program} {w w' : World} {k : TypeId} {b n : Nat} {D : DataW SL} (h : w.ownsMap P k RS b n D) (hk : w'.heap[b]? = w.heap[b]?) : w'.ownsMap P k RS b n D := by
  obtain ⟨es, clock, hb, r⟩ := h
  exact ⟨es, clock, hk.trans hb, r⟩
def bsOf (F : Nat → B8) (n : Nat) : Bs := (List.range n).map F
theorem bsOf_len (F : Nat → B8) (n : Nat) : (bsOf F n).length = n := by simp [bsOf]
theorem bsOf_take (F : Nat → B8) {k n : Nat} (h : k ≤ n) : (bsOf F n).take k = bsOf F k := by simp [bsOf, ← List.map_take, List.take_range, Nat.min_eq_left h]
theorem bsOf_at {F : Nat → B8} {n i : Nat} (h : i < n) : (bsOf F n)[i]? = some (F i) := by simp [bsOf, h]
theorem bsOf_eq {F G : Nat → B8} {n m : Nat} : bsOf F n = bsOf G m ↔ n = m ∧ ∀ i, i < n → F i = G i := by
  constructor
  · intro h
    have hl := congrArg List.length h
    rw [bsOf_len, bsOf_len] at hl
    subst hl
    refine ⟨rfl, fun i hi => ?_⟩
    have : (bsOf F n)[i]? = (bsOf G n)[i]? := by rw [h]
    rw [bsOf_at hi, bsOf_at hi] at this
    exact Option.some.inj this
  · rintro ⟨rfl, h⟩
    unfold bsOf
    exact List.map_congr_left fun i hi => h i (by simpa using hi)
def rdB (w : World) (s : SL) : Bs := match s.1 with
  | some a => bsOf (fun i => byteAt w ⟨a.block, a.off + i, none⟩) s.2.1
  | none => []
structure GoodS (w : World) (base : Nat) (s : SL) : Prop where
  cap : s.2.1 ≤ s.2.2
  most : s.2.2 ≤ maxLen
  lies : 0 < s.2.1 → ∃ g o F, s.1 = some ⟨g, o, none⟩ ∧ Byt w g o s.2.1 F ∧ (g < base ∨ ∃ cur, Blk w g 5 cur)
theorem byteAt_n8 {w : World} {p : Addr} {x : B8} (h : w.cell? p = some (.int .u8 (n8 x))) : byteAt w p = x := by
  rw [byteAt_eq h]
  unfold n8
  simp
theorem rdB_of {w : World} {g o n c : Nat} {F : Nat → B8} (h : Byt w g o n F) : rdB w (some ⟨g, o, none⟩, n, c) = bsOf F n := by
  unfold rdB
  dsimp only
  rw [bsOf_eq]
  exact ⟨rfl, fun i hi => byteAt_n8 (h i hi)⟩
theorem rdB_zero (w : World) (q : Option Addr) (c : Nat) : rdB w (q, 0, c) = [] := by
  unfold rdB
  cases q <;> rfl
theorem rdB_q {w : World} {q : Option Addr} {n c : Nat} {F : Nat → B8} (h : Byq w q n F) : rdB w (q, n, c) = bsOf F n := by
  rcases Nat.eq_zero_or_pos n with h0 | h0
  · subst h0; rw [rdB_zero]; rfl
  · obtain ⟨g, o, rfl, hB⟩ := h h0
    exact rdB_of hB
theorem GoodS.byq {w : World} {base : Nat} {s : SL} (h : GoodS w base s) : Byq w s.1 s.2.1 (fun i => (rdB w s).getD i 0) := fun h0 => by
  obtain ⟨g, o, F, hq, hB, -⟩ := h.lies h0
  refine ⟨g, o, hq, fun i hi => ?_⟩
  have e : rdB w s = bsOf F s.2.1 := by
    obtain ⟨q, n, c⟩ := s
    dsimp only at hq hB ⊢
    rw [hq]; exact rdB_of hB
  dsimp only
  rw [e, List.getD_eq_getElem?_getD, bsOf_at hi]
  exact hB i hi
theorem GoodS.len {w : World} {base : Nat} {s : SL} (h : GoodS w base s) : (rdB w s).length = s.2.1 := by
  rcases Nat.eq_zero_or_pos s.2.1 with h0 | h0
  · obtain ⟨q, n, c⟩ := s
    dsimp only at h0
    subst h0
    rw [rdB_zero]; rfl
  · obtain ⟨g, o, F, hq, hB, -⟩ := h.lies h0
    obtain ⟨q, n, c⟩ := s
    dsimp only at hq hB ⊢
    rw [hq, rdB_of hB, bsOf_len]
def ByteBlk (w : World) (base b : Nat) : Prop := b < base ∨ ∃ cur, Blk w b 5 cur
theorem GoodS.kept {w w' : World} {base : Nat} {s : SL} {K : Nat → Prop} (h : GoodS w base s) (hk : Kept K w w') (hK : ∀ b, ByteBlk w base b → K b) : GoodS w' base s ∧ rdB w' s = rdB w s := by
  have key : 0 < s.2.1 → ∃ g o F, s.1 = some ⟨g, o, none⟩ ∧ Byt w g o s.2.1 F ∧ Byt w' g o s.2.1 F ∧ (g < base ∨ ∃ cur, Blk w' g 5 cur) := fun h0 => by
    obtain ⟨g, o, F, hq, hB, hg⟩ := h.lies h0
    have hKg := hK g hg
    have hl : g < w.heap.size := hB.lt h0
    have e := hk.block g hl hKg
    refine ⟨g, o, F, hq, hB, fun i hi => ?_, hg.imp id fun ⟨cur, hc⟩ => ⟨cur, e.trans hc⟩⟩
    have := hB i hi
    unfold World.cell? at *
    dsimp only at *
    rw [e]
    exact this
  refine ⟨⟨h.cap, h.most, fun h0 => ?_⟩, ?_⟩
  · obtain ⟨g, o, F, hq, -, hB, hg⟩ := key h0
    exact ⟨g, o, F, hq, hB, hg⟩
  · rcases Nat.eq_zero_or_pos s.2.1 with h0 | h0
    · obtain ⟨q, n, c⟩ := s
      dsimp only at h0
      subst h0
      rw [rdB_zero, rdB_zero]
    · obtain ⟨g, o, F, hq, hB, hB', -⟩ := key h0
      obtain ⟨q, n, c⟩ := s
      dsimp only at hq hB hB'
      rw [hq, rdB_of hB, rdB_of hB']
theorem GoodS.on {w w' : World} {base : Nat} {s : SL} (h : GoodS w base s) (hb : Below w.heap.size w w') : GoodS w' base s ∧ rdB w' s = rdB w s := h.kept (K := fun _ => True) (Kept.of_below hb |>.mono fun _ _ => trivial) (fun _ _ => trivial)
theorem GoodS.own {w : World} {base b0 n : Nat} {F : Nat → B8} {v : Value} (h : w.ownsRow b0 5 1 v n (bl F n)) : ∃ s : SL, v = slV s ∧ s.2.1 = n ∧ GoodS w base s ∧ rdB w s = bsOf F n := by
  obtain ⟨q, cap, rfl, hc, hm, hq⟩ := own_byq h
  refine ⟨(q, n, cap), rfl, rfl, ⟨hc, hm, fun h0 => ?_⟩, rdB_q hq⟩
  obtain ⟨g, cap', cur, hv, hbg, C, -, -, -, hB⟩ := own_form h h0
  obtain ⟨rfl, -, -⟩ := Value.slice.inj hv
  exact ⟨g, 0, F, rfl, hB, .inr ⟨cur, C⟩⟩
def cont (w : World) (l : List (Int × SL)) : List (Int × Bs) := l.map fun p => (p.1, rdB w p.2)
def GoodL (w : World) (base : Nat) (l : List (Int × SL)) : Prop := ∀ p ∈ l, GoodS w base p.2
theorem cont_now (w : World) (s l : List (Int × SL)) : cont w (nowL s l) = nowL (cont w s) (cont w l) := map_now (rdB w) l s
theorem cont_get (w : World) (l : List (Int × SL)) (k : Int) : getL (cont w l) k = (getL l k).map (rdB w) := getL_map (rdB w) k l
theorem cont_len (w : World) (l : List (Int × SL)) : (cont w l).length = l.length := by simp [cont]
theorem cont_rise {w : World} {l : List (Int × SL)} (h : Rise (cont w l)) : Rise l := by
  unfold Rise cont at *
  rw [List.pairwise_map] at h
  exact h
theorem GoodL.now {w : World} {base : Nat} {s l : List (Int × SL)} (h : GoodL w base s) (hl : GoodL w base l) : GoodL w base (nowL s l) := fun p hp => by
  rcases mem_now hp with hp | hp
  · exact h p hp
  · exact hl p hp
theorem GoodL.kept {w w' : World} {base : Nat} {l : List (Int × SL)} {K : Nat → Prop} (h : GoodL w base l) (hk : Kept K w w') (hK : ∀ b, ByteBlk w base b → K b) : GoodL w' base l ∧ cont w' l = cont w l :=
  ⟨fun p hp => ((h p hp).kept hk hK).1, List.map_congr_left fun p hp => by rw [((h p hp).kept hk hK).2]⟩
theorem GoodL.get {w : World} {base : Nat} {l : List (Int × SL)} (h : GoodL w base l) {k : Int} {s : SL} (hk : getL l k = some s) : GoodS w base s := by
  unfold getL at hk
  cases hf : l.find? fun p => p.1 == k with
  | none => rw [hf] at hk; cases hk
  | some p =>
    rw [hf] at hk
    obtain rfl : p.2 = s := by simpa using hk
    exact h p (List.mem_of_find?_eq_some hf)
end Go.Proofs.YtmbccnioijokfaaGreatDoor

