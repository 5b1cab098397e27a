/- A region that draws its order: calls that make only new memory, reads, ONE NEW VARIABLE that may be laid at any time, and a last operation behind all (x := f(..), x boxed): one walk of the text's order serves every order. No program in sight. -/
import Derived.Test.YtkopenemoddbbaaLast
namespace Go.Proofs.Ytkopenemoddbbaa
open Go.RowKit

section
variable {P : Program} {ops : Array Oper} {md : Region.Mode} {C : World → Prop}

def Near (w w' : World) : Prop := Below w.heap.size w w'
/-- One value in every world of the class; of what was there nothing has turned. -/
def relAt (P : Program) (o : Oper) (a : Act) (w : World) (v : Value) : Prop := Oper.quietUpon P (fun w' => Near w w') w v ((execOp a.eval o).run P w)
def relOp (P : Program) (o : Oper) (a : Act) (C : World → Prop) (K : Act → Prop) : Prop := ∃ v, (∀ w, C w → relAt P o a w v) ∧ K (a.put o.dst v)
def rOp (P : Program) (ops : Array Oper) (C : World → Prop) (i : Nat) (K : Act → Prop) (a : Act) : Prop :=
  match ops[i]? with
  | none => K a
  | some o => if Region.wanted o (yielded ops a.tmps) then relOp P o a C K else K (a.put o.dst undef)
def wpRel (P : Program) (ops : Array Oper) (C : World → Prop) (Q : Act → Prop) : List Oper → Act → Prop
  | [], a => Q a
  | o :: rest, a => if Region.wanted o (yielded ops a.tmps) then relOp P o a C (wpRel P ops C Q rest) else wpRel P ops C Q rest (a.put o.dst undef)
theorem wpRel_nil {Q : Act → Prop} {a : Act} (h : Q a) : wpRel P ops C Q [] a := h
theorem wpRel_step {Q : Act → Prop} {a : Act} {o : Oper} {rest : List Oper}
    (h : ∀ K : Act → Prop, (∀ a, wpRel P ops C Q rest a → K a) → if Region.wanted o (yielded ops a.tmps) then relOp P o a C K else K (a.put o.dst undef)) : wpRel P ops C Q (o :: rest) a :=
  h _ (fun _ h => h)

theorem rOp_mono {i : Nat} {a : Act} {K K' : Act → Prop} (h : ∀ a, K a → K' a) (hh : rOp P ops C i K a) : rOp P ops C i K' a := by
  unfold rOp at *
  cases ho : ops[i]? with
  | none => rw [ho] at hh; exact h _ hh
  | some o =>
    rw [ho] at hh
    dsimp only at hh ⊢
    by_cases hw : Region.wanted o (yielded ops a.tmps) = true
    · rw [if_pos hw] at hh ⊢
      obtain ⟨v, h1, h2⟩ := hh
      exact ⟨v, h1, h _ h2⟩
    · rw [if_neg hw] at hh ⊢
      exact h _ hh
def Gives (P : Program) (ops : Array Oper) (C : World → Prop) (o : Oper) (v : Value) (a : Act) : Prop :=
  (Region.wanted o (yielded ops a.tmps) = true ∧ ∀ w, C w → relAt P o a w v) ∨ (Region.wanted o (yielded ops a.tmps) = false ∧ v = undef)
theorem Gives.rOp {i : Nat} {o : Oper} {v : Value} {a : Act} (hi : ops[i]? = some o) (hy : Gives P ops C o v a) {K : Act → Prop} (h : K (a.put o.dst v)) : rOp P ops C i K a := by
  unfold Go.Proofs.Ytkopenemoddbbaa.rOp
  rw [hi]
  dsimp only
  rcases hy with ⟨hw, hv⟩ | ⟨hw, rfl⟩
  · rw [if_pos hw]; exact ⟨v, hv, h⟩
  · rw [if_neg (by rw [hw]; decide)]; exact h
theorem gives_of_rOp {i : Nat} {o : Oper} {a : Act} {K : Act → Prop} (hi : ops[i]? = some o) (h : rOp P ops C i K a) : ∃ v, Gives P ops C o v a ∧ K (a.put o.dst v) := by
  unfold rOp at h
  rw [hi] at h
  dsimp only at h
  by_cases hw : Region.wanted o (yielded ops a.tmps) = true
  · rw [if_pos hw] at h
    obtain ⟨v, h1, h2⟩ := h
    exact ⟨v, .inl ⟨hw, h1⟩, h2⟩
  · rw [if_neg hw] at h
    exact ⟨undef, .inr ⟨by simpa using hw, rfl⟩, h⟩
/-- What an operation gives does not hang on a temporary that it does not look at. -/
theorem Gives.put_iff {oi oj : Oper} {u v : Value} {a : Act} (hi : ∀ cs b, oi.op ≠ .select cs b) (hap : oj.apart ops oi = true) : Gives P ops C oi v (a.put oj.dst u) ↔ Gives P ops C oi v a := by
  obtain ⟨h1, _, _⟩ := Oper.apart_spec hap
  unfold Gives relAt
  rw [execOp_put oi hi a oj.dst u h1, wanted_put oi a oj.dst u h1]
theorem rOp_put {j : Nat} {oi oj : Oper} {v : Value} (hj : ops[j]? = some oj) (hap : oi.apart ops oj = true) (hap' : oj.apart ops oi = true)
    (hsi : ∀ cs b, oi.op ≠ .select cs b) (hsj : ∀ cs b, oj.op ≠ .select cs b) {K : Act → Prop} {a : Act}
    (hy : Gives P ops C oi v a) (h : rOp P ops C j K (a.put oi.dst v)) : rOp P ops C j (fun a' => Gives P ops C oi v a' ∧ K (a'.put oi.dst v)) a := by
  obtain ⟨u, hu, hK⟩ := gives_of_rOp hj h
  have hu' := (Gives.put_iff hsj hap).1 hu
  refine Gives.rOp hj hu' ⟨(Gives.put_iff hsi hap').2 hy, ?_⟩
  obtain ⟨_, h2, _⟩ := Oper.apart_spec hap
  rw [← Act.put_comm a v u h2]
  exact hK

/-- So many operations are to come ahead of the last one, number n. -/
def beforeR (P : Program) (md : Region.Mode) (ops : Array Oper) (C : World → Prop) (n : Nat) (L : Act → Prop) : Nat → Array Bool → Act → Prop
  | 0, listed, a => Region.ready md ops listed = [n] ∧ Region.ready md ops (listed.setIfInBounds n true) = [] ∧ L a
  | f + 1, listed, a => n ∉ Region.ready md ops listed ∧ Region.ready md ops listed ≠ [] ∧ ∀ i ∈ Region.ready md ops listed, rOp P ops C i (beforeR P md ops C n L f (listed.setIfInBounds i true)) a

theorem apart_symm {ops : Array Oper} {x y : Oper} (h : x.apart ops y = true) (hd : ∀ d, y.dst = some d → x.dst ≠ some d) : y.apart ops x = true := by
  obtain ⟨h1, _, h3⟩ := Oper.apart_spec h
  unfold Oper.apart
  have e1 : (match y.dst with | some d => !(x.looksAt ops).contains d && x.dst != some d | none => true) = true := by
    cases hy : y.dst with
    | none => rfl
    | some d => simp [h3 d hy, hd d hy]
  have e2 : (match x.dst with | some d => !(y.looksAt ops).contains d | none => true) = true := by
    cases hx : x.dst with
    | none => rfl
    | some d => simp [h1 d hx]
  exact Bool.and_eq_true_iff.2 ⟨e1, e2⟩
theorem apart_swap {ops : Array Oper} {x y : Oper} (h : x.apart ops y = true) : y.apart ops x = true :=
  apart_symm h fun d hy hx => (Oper.apart_spec h).2.1 d hx hy

theorem beforeR_first {n i : Nat} {oi : Oper} {v : Value} {L : Act → Prop} (hi : ops[i]? = some oi) (hwt : ∀ l', n ∈ Region.ready md ops l' → l'.getD i false = true) (hsel : ∀ (j : Nat) (o : Oper) cs b, ops[j]? = some o → o.op ≠ .select cs b) :
    ∀ (f : Nat) (listed : Array Bool) (a : Act),
      (∀ j oj, ops[j]? = some oj → j ≠ i → listed.getD j true = false → (∀ e ∈ oj.after, Region.binds md e = true → e.on ≠ i) → oi.apart ops oj = true) →
      i ∈ Region.ready md ops listed → n ∉ Region.ready md ops listed → Gives P ops C oi v a →
      beforeR P md ops C n L f (listed.setIfInBounds i true) (a.put oi.dst v) → beforeR P md ops C n L (f + 1) listed a := by
  intro f
  induction f with
  | zero =>
    intro listed a _ hr hn hy H
    refine ⟨hn, fun h => (by rw [h] at hr; cases hr), fun j hj => ?_⟩
    by_cases hji : j = i
    · subst hji; exact hy.rOp hi H
    · have h1 := ready_mono hj hji
      rw [H.1] at h1
      obtain rfl : j = n := by simpa using h1
      exact absurd hj hn
  | succ f ih =>
    intro listed a hfree hr hn hy H
    refine ⟨hn, fun h => (by rw [h] at hr; cases hr), fun j hj => ?_⟩
    by_cases hji : j = i
    · subst hji; exact hy.rOp hi H
    · obtain ⟨hun, oj, hoj, hwait⟩ := mem_ready.1 hj
      have hun_i := (mem_ready.1 hr).1
      have hap : oi.apart ops oj = true := hfree j oj hoj hji hun fun e he hb heq => by
        have h2 := hwait e he hb
        rw [heq] at h2
        by_cases hs : i < listed.size <;> simp [hs] at hun_i h2
        rw [hun_i] at h2
        cases h2
      have hq := rOp_put hoj hap (apart_swap hap) (fun cs b => hsel i oi cs b hi) (fun cs b => hsel j oj cs b hoj) hy (H.2.2 j (ready_mono hj hji))
      refine rOp_mono (fun a' h3 => ih (listed.setIfInBounds j true) a' ?_ (ready_mono hr (Ne.symm hji)) ?_ h3.1 ?_) hq
      · intro k ok hk hki hun' hno
        refine hfree k ok hk hki ?_ hno
        by_cases hjk : j = k
        · subst hjk; exact hun
        · rwa [getD_set_ne true hjk] at hun'
      · intro hn'
        have h5 := hwt _ hn'
        rw [getD_set_ne false hji] at h5
        have h6 := (mem_ready.1 hr).1
        by_cases hs : i < listed.size <;> simp [hs] at h5 h6
        rw [h6] at h5
        cases h5
      · rw [Array.setIfInBounds_comm _ _ hji]
        exact h3.2

theorem beforeR_lex {n : Nat} {L : Act → Prop} (hs : Region.noSelect ops = true) : ∀ (l : List Oper) (k : Nat) (listed : Array Bool) (a : Act), (∀ j, j < l.length → l[j]? = ops[k + j]?) →
    lastFrom md ops n l.length k listed = true → wpRel P ops C L l a → beforeR P md ops C n L l.length listed a := by
  intro l
  induction l with
  | nil =>
    intro k listed a _ hB h
    simp only [List.length_nil, lastFrom, Bool.and_eq_true, decide_eq_true_eq, List.isEmpty_iff] at hB
    exact ⟨hB.1, hB.2, h⟩
  | cons o l ih =>
    intro k listed a hl hB h
    have h0 : ops[k]? = some o := by simpa using (hl 0 (by simp)).symm
    simp only [List.length_cons, lastFrom, Bool.and_eq_true, Bool.not_eq_true'] at hB
    obtain ⟨⟨⟨⟨hr, hf⟩, hn⟩, hw⟩, hB'⟩ := hB
    have hst : rOp P ops C k (wpRel P ops C L l) a := by unfold rOp; rw [h0]; exact h
    obtain ⟨v, hy, hK⟩ := gives_of_rOp h0 hst
    refine beforeR_first h0 (fun l' hn' => ?_) (Region.noSelect_spec hs) l.length listed a (Region.free_spec h0 hf) (by simpa using hr) (by simpa using hn) hy
      (ih (k + 1) _ _ (fun j hj => by have := hl (j + 1) (by simpa using hj); simpa [Nat.add_assoc, Nat.add_comm 1 j] using this) hB' hK)
    obtain ⟨_, oL, hoL, hall⟩ := mem_ready.1 hn'
    rw [hoL] at hw
    obtain ⟨e, he, hbe⟩ := Array.any_eq_true'.1 hw
    simp only [Bool.and_eq_true, beq_iff_eq] at hbe
    have := hall e he hbe.1
    rwa [hbe.2] at this

/-- Carried out: from a world of the class, of which S holds, to one of which both hold. -/
theorem wp_of_relAt {o : Oper} {a : Act} {w : World} {v : Value} {K : Act → World → Prop} {Q' : Exit → Act → World → Prop} (h : relAt P o a w v) (hk : ∀ w', Below w.heap.size w w' → K (a.put o.dst v) w') : o.wp P a w K Q' := by
  unfold relAt at h
  unfold Oper.wp
  generalize (execOp a.eval o).run P w = r at *
  cases r with
  | ok nx w' =>
    cases nx <;> simp only [Oper.quietUpon] at h <;> simp only [Oper.upon]
    case value u =>
      obtain ⟨e1, e2⟩ := h
      rw [e1, e2]
      exact hk _ (Below.refl _ _)
    case skip =>
      obtain ⟨e1, e2⟩ := h
      rw [e1, ← e2]
      exact hk _ (Below.refl _ _)
    case enter f args =>
      obtain ⟨e1, hc⟩ := h
      rw [e1]
      exact hc.mono fun e w'' ⟨he, hw''⟩ => by subst he; exact hk _ hw''
  | halt x w' => simp only [Oper.quietUpon] at h

/-- Behind the new variable: what is carried out is carried out with its pointer in its temporary. -/
theorem wpAny_of_beforeR {n m : Nat} {oA : Oper} {d : Tmp} {p : Value} {L : Act → Prop} {S : World → Prop} {Q' : Exit → Act → World → Prop} (hd : oA.dst = some d)
    (hC : ∀ w w', C w → Below w.heap.size w w' → C w') (hS : ∀ w w', S w → Below w.heap.size w w' → S w')
    (hap : ∀ (i : Nat) (o : Oper), ops[i]? = some o → i ≠ m → i ≠ n → oA.apart ops o = true) (hsel : ∀ (j : Nat) (o : Oper) cs b, ops[j]? = some o → o.op ≠ .select cs b)
    (hL : ∀ a w, C w → S w → L a → wpOp P ops Q' n (fun a w => Q' .normal a w) (a.put (some d) p) w) :
    ∀ (f : Nat) (listed : Array Bool) (a : Act) (w : World), C w → S w → listed.getD m true = true → beforeR P md ops C n L f listed a → wpAny P md ops Q' (f + 1) listed (a.put (some d) p) w := by
  intro f
  induction f with
  | zero =>
    intro listed a w hw hs _ h
    obtain ⟨h1, h2, h3⟩ := h
    refine ⟨fun h => (by rw [h1] at h; cases h), fun i hi => ?_⟩
    rw [h1] at hi
    obtain rfl : i = n := by simpa using hi
    exact wpOp_mono (K := fun a w => Q' .normal a w) (fun _ _ h' => ⟨h2, h'⟩) (hL a w hw hs h3)
  | succ f ih =>
    intro listed a w hw hs hm h
    obtain ⟨hn, h1, h2⟩ := h
    refine ⟨fun h => absurd h h1, fun i hi => ?_⟩
    obtain ⟨hun, o, ho, _⟩ := mem_ready.1 hi
    have him : i ≠ m := fun e => by rw [e, hm] at hun; cases hun
    have hin : i ≠ n := fun e => hn (e ▸ hi)
    obtain ⟨v, hy, hK⟩ := gives_of_rOp ho (h2 i hi)
    have ha := hap i o ho him hin
    have hdd : o.dst ≠ some d := (Oper.apart_spec ha).2.1 d hd
    have hcomm : (a.put (some d) p).put o.dst v = (a.put o.dst v).put (some d) p := Act.put_comm a p v fun d' hd' => by
      cases hd'; exact hdd
    have hm' : (listed.setIfInBounds i true).getD m true = true := by rw [getD_set_ne true him]; exact hm
    have hy' : Gives P ops C o v (a.put (some d) p) := by rw [← hd]; exact (Gives.put_iff (fun cs b => hsel i o cs b ho) ha).2 hy
    unfold wpOp
    rw [ho]
    dsimp only
    rcases hy' with ⟨hwn, hv⟩ | ⟨hwn, rfl⟩
    · rw [if_pos hwn]
      refine .inl (wp_of_relAt (hv w hw) fun w' hb => ?_)
      rw [hcomm]
      exact ih _ _ _ (hC w w' hw hb) (hS w w' hs hb) hm' hK
    · rw [if_neg (by rw [hwn]; decide), hcomm]
      exact ih _ _ _ hw hs hm' hK

/-- Whatever comes first. -/
theorem wpAny_of_float {n m : Nat} {oA : Oper} {d : Tmp} {t : TypeId} {z : Array Value} {B : Nat} {L : Act → Prop} {Q' : Exit → Act → World → Prop} (hA : ops[m]? = some oA) (hd : oA.dst = some d) (hg : oA.guard = none) (haf : oA.after = #[])
    (hrun : ∀ (a : Act) (w : World), (execOp a.eval oA).run P w = .ok (.value (.pointer (some ⟨w.heap.size, 0, none⟩))) (w.alloc (.cells z t)))
    (hwt : ∀ l', n ∈ Region.ready md ops l' → l'.getD m false = true)
    (hC : ∀ w w', C w → Below w.heap.size w w' → C w') (hB : ∀ w, C w → B ≤ w.heap.size)
    (hap : ∀ (i : Nat) (o : Oper), ops[i]? = some o → i ≠ m → i ≠ n → oA.apart ops o = true) (hsel : ∀ (j : Nat) (o : Oper) cs b, ops[j]? = some o → o.op ≠ .select cs b)
    (hL : ∀ a b w, C w → Blk w b t z → B ≤ b → L a → wpOp P ops Q' n (fun a w => Q' .normal a w) (a.put (some d) (.pointer (some ⟨b, 0, none⟩))) w) :
    ∀ (f : Nat) (listed : Array Bool) (a : Act) (w : World), C w → listed.getD m true = false → beforeR P md ops C n L f (listed.setIfInBounds m true) a → wpAny P md ops Q' (f + 2) listed a w := by
  have hmr : ∀ listed : Array Bool, listed.getD m true = false → m ∈ Region.ready md ops listed := fun listed h =>
    mem_ready.2 ⟨h, oA, hA, fun e he => by rw [haf] at he; cases he with | mk h => cases h⟩
  have hin : ∀ listed : Array Bool, listed.getD m true = false → (listed.setIfInBounds m true).getD m true = true := fun listed h => by
    by_cases hs : m < listed.size
    · simp [hs]
    · simp [hs] at h
  have main : ∀ (f : Nat) (listed : Array Bool) (a : Act) (w : World), C w → listed.getD m true = false → beforeR P md ops C n L f (listed.setIfInBounds m true) a → wpOp P ops Q' m (wpAny P md ops Q' (f + 1) (listed.setIfInBounds m true)) a w := by
    intro f listed a w hw hm h
    unfold wpOp
    rw [hA]
    dsimp only
    rw [if_pos (by simp [Region.wanted, hg])]
    left
    unfold Oper.wp
    rw [hrun a w]
    simp only [Oper.upon]
    rw [hd]
    exact wpAny_of_beforeR (S := fun w' => Blk w' w.heap.size t z) hd hC (fun w1 w2 h1 h2 => h1.on h2) hap hsel (fun a' w' hw' hs' hl' => hL a' _ w' hw' hs' (hB w hw) hl') f _ a _
      (hC _ _ hw ((Below.refl _ _).alloc (Nat.le_refl _) _)) (Blk.new w t z) (hin listed hm) h
  intro f
  induction f with
  | zero =>
    intro listed a w hw hm h
    refine ⟨fun he => (by have := hmr listed hm; rw [he] at this; cases this), fun i hi => ?_⟩
    by_cases him : i = m
    · subst him; exact main 0 listed a w hw hm h
    · have h1 := ready_mono hi him
      rw [h.1] at h1
      obtain rfl : i = n := by simpa using h1
      have h2 := hwt _ hi
      by_cases hs : m < listed.size <;> simp [hs] at hm h2
      rw [hm] at h2; cases h2
  | succ f ih =>
    intro listed a w hw hm h
    refine ⟨fun he => (by have := hmr listed hm; rw [he] at this; cases this), fun i hi => ?_⟩
    by_cases him : i = m
    · subst him; exact main (f + 1) listed a w hw hm h
    · obtain ⟨_, o, ho, _⟩ := mem_ready.1 hi
      obtain ⟨v, hy, hK⟩ := gives_of_rOp ho (h.2.2 i (ready_mono hi him))
      have hm' : (listed.setIfInBounds i true).getD m true = false := by rw [getD_set_ne true him]; exact hm
      rw [Array.setIfInBounds_comm _ _ (Ne.symm him)] at hK
      unfold wpOp
      rw [ho]
      dsimp only
      rcases hy with ⟨hwn, hv⟩ | ⟨hwn, rfl⟩
      · rw [if_pos hwn]
        exact .inl (wp_of_relAt (hv w hw) fun w' hb => ih _ _ _ (hC w w' hw hb) hm' hK)
      · rw [if_neg (by rw [hwn]; decide)]
        exact ih _ _ _ hw hm' hK

/-- All that is asked of the region, by reckoning: k operations ahead, then the new variable (temporary d), then the last one. -/
def floatB (md : Region.Mode) (ops : Array Oper) (k : Nat) (d : Tmp) : Bool :=
  Region.noSelect ops && lastFrom md ops (k + 1) k 0 ((Array.replicate ops.size false).setIfInBounds k true) &&
  (match ops[k]? with
   | some oA => (oA.dst == some d) && oA.guard.isNone && oA.after.isEmpty && ((List.range ops.size).all fun i => i == k || i == k + 1 || match ops[i]? with | some o => oA.apart ops o | none => true)
   | none => false) &&
  (match ops[k + 1]? with | some o => o.after.any (fun e => Region.binds md e && e.on == k) | none => false)

theorem wp_region_float {id : Nat} {Q : Exit → Act → World → Prop} {a : Act} {w : World} {l : List Oper} {oA : Oper} {t : TypeId} {z : Array Value} (k : Nat) (d : Tmp) (hm : P.follows .mixedOrders = true) (hlen : l.length = k + 2) (hB : floatB .any l.toArray k d = true)
    (hA : l[k]? = some oA) (hrun : ∀ (a : Act) (w : World), (execOp a.eval oA).run P w = .ok (.value (.pointer (some ⟨w.heap.size, 0, none⟩))) (w.alloc (.cells z t)))
    (h : wpRel P l.toArray (fun w' => ∃ p : Regrown, w' = Go.Sort.grow (redrawn w p.d) p.os) (fun a' => ∀ b w', Below w.heap.size w w' → Blk w' b t z → w.heap.size ≤ b → wpList P l.toArray Q (l.drop (k + 1)) (a'.put (some d) (.pointer (some ⟨b, 0, none⟩))) w') (l.take k) a) : (Code.region id l.toArray true).wp P Q a w := by
  simp only [floatB, Bool.and_eq_true] at hB
  obtain ⟨⟨⟨b1, b2⟩, b3⟩, b4⟩ := hB
  have hA' : l.toArray[k]? = some oA := by simpa using hA
  rw [hA'] at b3
  simp only [Bool.and_eq_true, beq_iff_eq, Option.isNone_iff_eq_none, Array.isEmpty_iff] at b3
  obtain ⟨⟨⟨hd, hg⟩, haf⟩, hap⟩ := b3
  refine wp_region_any hm ?_
  have hsz : l.toArray.size = k + 2 := by simpa using hlen
  have ht : (l.take k).length = k := by simp; omega
  have hx := beforeR_lex (C := fun w' => ∃ p : Regrown, w' = Go.Sort.grow (redrawn w p.d) p.os) (md := .any) (n := k + 1) b1 (l.take k) 0 ((Array.replicate l.toArray.size false).setIfInBounds k true) a
    (fun j hj => by simp only [Nat.zero_add, List.getElem?_toArray]; rw [List.getElem?_take_of_lt (by omega)]) (by rw [ht]; exact b2) h
  rw [ht] at hx
  rw [hsz] at hx ⊢
  have cb : ∀ w' : World, (∃ p : Regrown, w' = Go.Sort.grow (redrawn w p.d) p.os) → Below w.heap.size w w' := by rintro _ ⟨p, rfl⟩; exact below_regrown w p.d p.os
  refine wpAny_of_float (m := k) (B := w.heap.size) hA' hd hg haf hrun (fun l' hn' => ?_) (fun w1 w2 h1 h2 => regrown_of_below (after (cb w1 h1) h2)) (fun w1 h1 => (cb w1 h1).size) (fun i o ho h1 h2 => ?_) (Region.noSelect_spec b1) (fun a' b w' hw' hs' hb' hL => ?_) k _ a _ ?_ ?_ hx
  · obtain ⟨_, oL, hoL, hall⟩ := mem_ready.1 hn'
    rw [hoL] at b4
    obtain ⟨e, he, hbe⟩ := Array.any_eq_true'.1 b4
    simp only [Bool.and_eq_true, beq_iff_eq] at hbe
    have := hall e he hbe.1
    rwa [hbe.2] at this
  · have hi : i < l.toArray.size := (Array.getElem?_eq_some_iff.1 ho).1
    have h3 := List.all_eq_true.1 hap i (List.mem_range.2 hi)
    rw [ho] at h3
    simp only [Bool.or_eq_true, beq_iff_eq] at h3
    rcases h3 with (h3 | h3) | h3
    · exact absurd h3 h1
    · exact absurd h3 h2
    · exact h3
  · have h4 := hL b w' (cb w' hw') hs' hb'
    have hdr : l.drop (k + 1) = [l[k + 1]'(by omega)] := by
      rw [List.drop_eq_getElem_cons (by omega), List.drop_of_length_le (by omega)]
    rw [hdr] at h4
    unfold wpOp
    simp only [List.getElem?_toArray, List.getElem?_eq_getElem (show k + 1 < l.length by omega)]
    exact h4
  · exact ⟨⟨w.drawn + 1, #[]⟩, by rw [Go.Sort.grow_empty]; rfl⟩
  · simp
end
attribute [go_sem] relOp relAt
/-! ### behind the last store of a way -/
section
variable {w w0 W W' : World} {g b : Nat} {t : TypeId} {cs : Array Value}
theorem Blk.put3 {x y z u v r : Value} (h : Blk W b t #[x, y, z]) (hW : W' = ((W.setCell ⟨b, 0, none⟩ u).setCell ⟨b, 1, none⟩ v).setCell ⟨b, 2, none⟩ r) : Blk W' b t #[u, v, r] := by rw [hW]; exact h.st3 u v r
theorem Blk.far3 {u v r : Value} (h : Blk w g t cs) (hb : Below w.heap.size w W) (hle : w.heap.size ≤ b) (hW : W' = ((W.setCell ⟨b, 0, none⟩ u).setCell ⟨b, 1, none⟩ v).setCell ⟨b, 2, none⟩ r) : Blk W' g t cs := by
  have hn : g ≠ b := by have := h.lt; omega
  rw [hW]; exact (((h.on hb).far hn u).far hn v).far hn r
theorem far_below3 {u v r : Value} (h : Below w0.heap.size w0 w) (hb : Below w.heap.size w W) (hle : w.heap.size ≤ b) (hW : W' = ((W.setCell ⟨b, 0, none⟩ u).setCell ⟨b, 1, none⟩ v).setCell ⟨b, 2, none⟩ r) : Below w0.heap.size w0 W' := by
  have hs : w0.heap.size ≤ b := Nat.le_trans h.size hle
  rw [hW]; exact ((((after h hb).setCell (p := ⟨b, 0, none⟩) hs u).setCell (p := ⟨b, 1, none⟩) hs v).setCell (p := ⟨b, 2, none⟩) hs r)
theorem Blk.put6 {x y z x' y' z' u v r k l m : Value} (h : Blk W b t #[x, y, z, x', y', z']) (hW : W' = (((((W.setCell ⟨b, 0, none⟩ u).setCell ⟨b, 1, none⟩ v).setCell ⟨b, 2, none⟩ r).setCell ⟨b, 3, none⟩ k).setCell ⟨b, 4, none⟩ l).setCell ⟨b, 5, none⟩ m) : Blk W' b t #[u, v, r, k, l, m] := by rw [hW]; exact h.st6 u v r k l m
theorem Blk.far6 {u v r k l m : Value} (h : Blk w g t cs) (hb : Below w.heap.size w W) (hle : w.heap.size ≤ b) (hW : W' = (((((W.setCell ⟨b, 0, none⟩ u).setCell ⟨b, 1, none⟩ v).setCell ⟨b, 2, none⟩ r).setCell ⟨b, 3, none⟩ k).setCell ⟨b, 4, none⟩ l).setCell ⟨b, 5, none⟩ m) : Blk W' g t cs := by
  have hn : g ≠ b := by have := h.lt; omega
  rw [hW]; exact ((((((h.on hb).far hn u).far hn v).far hn r).far hn k).far hn l).far hn m
theorem far_below6 {u v r k l m : Value} (h : Below w0.heap.size w0 w) (hb : Below w.heap.size w W) (hle : w.heap.size ≤ b) (hW : W' = (((((W.setCell ⟨b, 0, none⟩ u).setCell ⟨b, 1, none⟩ v).setCell ⟨b, 2, none⟩ r).setCell ⟨b, 3, none⟩ k).setCell ⟨b, 4, none⟩ l).setCell ⟨b, 5, none⟩ m) : Below w0.heap.size w0 W' := by
  have hs : w0.heap.size ≤ b := Nat.le_trans h.size hle
  rw [hW]; exact (((((((after h hb).setCell (p := ⟨b, 0, none⟩) hs u).setCell (p := ⟨b, 1, none⟩) hs v).setCell (p := ⟨b, 2, none⟩) hs r).setCell (p := ⟨b, 3, none⟩) hs k).setCell (p := ⟨b, 4, none⟩) hs l).setCell (p := ⟨b, 5, none⟩) hs m)
end
end Go.Proofs.Ytkopenemoddbbaa
