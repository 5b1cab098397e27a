/- Texts that build one behind the other, laid together: Float RF Reg Sched. -/
import Derived.Test.YtnokibdecnddlaaMa1
import Derived.RangeFuncNested
import Derived.RangeFuncBound
import Derived.RangeFuncCalls
import Derived.RangeFuncLeaves
import Derived.OrdersIn
/- A region that draws its order: calls that make only new memory, reads, ONE NEW VARIABLE that may be laid at any time, and a last operation behind all (x := f(..), x boxed): one walk of the text's order serves every order. No program in sight. -/
namespace Go.Proofs.Ytnokibdecnddlaa
open Go.RowKit

section
variable {P : Program} {ops : Array Oper} {md : Region.Mode} {C : World → Prop}

def Near (w w' : World) : Prop := Below w.heap.size w w'
/-- One value in every world of the class; of what was there nothing has turned. -/
def relAt (P : Program) (o : Oper) (a : Act) (w : World) (v : Value) : Prop := Oper.quietUpon P (fun w' => Near w w') w v ((execOp a.eval o).run P w)
def relOp (P : Program) (o : Oper) (a : Act) (C : World → Prop) (K : Act → Prop) : Prop := ∃ v, (∀ w, C w → relAt P o a w v) ∧ K (a.put o.dst v)
def rOp (P : Program) (ops : Array Oper) (C : World → Prop) (i : Nat) (K : Act → Prop) (a : Act) : Prop :=
  match ops[i]? with
  | none => K a
  | some o => if Region.wanted o (yielded ops a.tmps) then relOp P o a C K else K (a.put o.dst undef)
def wpRel (P : Program) (ops : Array Oper) (C : World → Prop) (Q : Act → Prop) : List Oper → Act → Prop
  | [], a => Q a
  | o :: rest, a => if Region.wanted o (yielded ops a.tmps) then relOp P o a C (wpRel P ops C Q rest) else wpRel P ops C Q rest (a.put o.dst undef)
theorem wpRel_nil {Q : Act → Prop} {a : Act} (h : Q a) : wpRel P ops C Q [] a := h
theorem wpRel_step {Q : Act → Prop} {a : Act} {o : Oper} {rest : List Oper}
    (h : ∀ K : Act → Prop, (∀ a, wpRel P ops C Q rest a → K a) → if Region.wanted o (yielded ops a.tmps) then relOp P o a C K else K (a.put o.dst undef)) : wpRel P ops C Q (o :: rest) a :=
  h _ (fun _ h => h)

theorem rOp_mono {i : Nat} {a : Act} {K K' : Act → Prop} (h : ∀ a, K a → K' a) (hh : rOp P ops C i K a) : rOp P ops C i K' a := by
  unfold rOp at *
  cases ho : ops[i]? with
  | none => rw [ho] at hh; exact h _ hh
  | some o =>
    rw [ho] at hh
    dsimp only at hh ⊢
    by_cases hw : Region.wanted o (yielded ops a.tmps) = true
    · rw [if_pos hw] at hh ⊢
      obtain ⟨v, h1, h2⟩ := hh
      exact ⟨v, h1, h _ h2⟩
    · rw [if_neg hw] at hh ⊢
      exact h _ hh
def Gives (P : Program) (ops : Array Oper) (C : World → Prop) (o : Oper) (v : Value) (a : Act) : Prop :=
  (Region.wanted o (yielded ops a.tmps) = true ∧ ∀ w, C w → relAt P o a w v) ∨ (Region.wanted o (yielded ops a.tmps) = false ∧ v = undef)
theorem Gives.rOp {i : Nat} {o : Oper} {v : Value} {a : Act} (hi : ops[i]? = some o) (hy : Gives P ops C o v a) {K : Act → Prop} (h : K (a.put o.dst v)) : rOp P ops C i K a := by
  unfold Go.Proofs.Ytnokibdecnddlaa.rOp
  rw [hi]
  dsimp only
  rcases hy with ⟨hw, hv⟩ | ⟨hw, rfl⟩
  · rw [if_pos hw]; exact ⟨v, hv, h⟩
  · rw [if_neg (by rw [hw]; decide)]; exact h
theorem gives_of_rOp {i : Nat} {o : Oper} {a : Act} {K : Act → Prop} (hi : ops[i]? = some o) (h : rOp P ops C i K a) : ∃ v, Gives P ops C o v a ∧ K (a.put o.dst v) := by
  unfold rOp at h
  rw [hi] at h
  dsimp only at h
  by_cases hw : Region.wanted o (yielded ops a.tmps) = true
  · rw [if_pos hw] at h
    obtain ⟨v, h1, h2⟩ := h
    exact ⟨v, .inl ⟨hw, h1⟩, h2⟩
  · rw [if_neg hw] at h
    exact ⟨undef, .inr ⟨by simpa using hw, rfl⟩, h⟩
/-- What an operation gives does not hang on a temporary that it does not look at. -/
theorem Gives.put_iff {oi oj : Oper} {u v : Value} {a : Act} (hi : ∀ cs b, oi.op ≠ .select cs b) (hap : oj.apart ops oi = true) : Gives P ops C oi v (a.put oj.dst u) ↔ Gives P ops C oi v a := by
  obtain ⟨h1, _, _⟩ := Oper.apart_spec hap
  unfold Gives relAt
  rw [execOp_put oi hi a oj.dst u h1, wanted_put oi a oj.dst u h1]
theorem rOp_put {j : Nat} {oi oj : Oper} {v : Value} (hj : ops[j]? = some oj) (hap : oi.apart ops oj = true) (hap' : oj.apart ops oi = true)
    (hsi : ∀ cs b, oi.op ≠ .select cs b) (hsj : ∀ cs b, oj.op ≠ .select cs b) {K : Act → Prop} {a : Act}
    (hy : Gives P ops C oi v a) (h : rOp P ops C j K (a.put oi.dst v)) : rOp P ops C j (fun a' => Gives P ops C oi v a' ∧ K (a'.put oi.dst v)) a := by
  obtain ⟨u, hu, hK⟩ := gives_of_rOp hj h
  have hu' := (Gives.put_iff hsj hap).1 hu
  refine Gives.rOp hj hu' ⟨(Gives.put_iff hsi hap').2 hy, ?_⟩
  obtain ⟨_, h2, _⟩ := Oper.apart_spec hap
  rw [← Act.put_comm a v u h2]
  exact hK

/-- So many operations are to come ahead of the last one, number n. -/
def beforeR (P : Program) (md : Region.Mode) (ops : Array Oper) (C : World → Prop) (n : Nat) (L : Act → Prop) : Nat → Array Bool → Act → Prop
  | 0, listed, a => Region.ready md ops listed = [n] ∧ Region.ready md ops (listed.setIfInBounds n true) = [] ∧ L a
  | f + 1, listed, a => n ∉ Region.ready md ops listed ∧ Region.ready md ops listed ≠ [] ∧ ∀ i ∈ Region.ready md ops listed, rOp P ops C i (beforeR P md ops C n L f (listed.setIfInBounds i true)) a

theorem apart_symm {ops : Array Oper} {x y : Oper} (h : x.apart ops y = true) (hd : ∀ d, y.dst = some d → x.dst ≠ some d) : y.apart ops x = true := by
  obtain ⟨h1, _, h3⟩ := Oper.apart_spec h
  unfold Oper.apart
  have e1 : (match y.dst with | some d => !(x.looksAt ops).contains d && x.dst != some d | none => true) = true := by
    cases hy : y.dst with
    | none => rfl
    | some d => simp [h3 d hy, hd d hy]
  have e2 : (match x.dst with | some d => !(y.looksAt ops).contains d | none => true) = true := by
    cases hx : x.dst with
    | none => rfl
    | some d => simp [h1 d hx]
  exact Bool.and_eq_true_iff.2 ⟨e1, e2⟩
theorem apart_swap {ops : Array Oper} {x y : Oper} (h : x.apart ops y = true) : y.apart ops x = true :=
  apart_symm h fun d hy hx => (Oper.apart_spec h).2.1 d hx hy

theorem beforeR_first {n i : Nat} {oi : Oper} {v : Value} {L : Act → Prop} (hi : ops[i]? = some oi) (hwt : ∀ l', n ∈ Region.ready md ops l' → l'.getD i false = true) (hsel : ∀ (j : Nat) (o : Oper) cs b, ops[j]? = some o → o.op ≠ .select cs b) :
    ∀ (f : Nat) (listed : Array Bool) (a : Act),
      (∀ j oj, ops[j]? = some oj → j ≠ i → listed.getD j true = false → (∀ e ∈ oj.after, Region.binds md e = true → e.on ≠ i) → oi.apart ops oj = true) →
      i ∈ Region.ready md ops listed → n ∉ Region.ready md ops listed → Gives P ops C oi v a →
      beforeR P md ops C n L f (listed.setIfInBounds i true) (a.put oi.dst v) → beforeR P md ops C n L (f + 1) listed a := by
  intro f
  induction f with
  | zero =>
    intro listed a _ hr hn hy H
    refine ⟨hn, fun h => (by rw [h] at hr; cases hr), fun j hj => ?_⟩
    by_cases hji : j = i
    · subst hji; exact hy.rOp hi H
    · have h1 := ready_mono hj hji
      rw [H.1] at h1
      obtain rfl : j = n := by simpa using h1
      exact absurd hj hn
  | succ f ih =>
    intro listed a hfree hr hn hy H
    refine ⟨hn, fun h => (by rw [h] at hr; cases hr), fun j hj => ?_⟩
    by_cases hji : j = i
    · subst hji; exact hy.rOp hi H
    · obtain ⟨hun, oj, hoj, hwait⟩ := mem_ready.1 hj
      have hun_i := (mem_ready.1 hr).1
      have hap : oi.apart ops oj = true := hfree j oj hoj hji hun fun e he hb heq => by
        have h2 := hwait e he hb
        rw [heq] at h2
        by_cases hs : i < listed.size <;> simp [hs] at hun_i h2
        rw [hun_i] at h2
        cases h2
      have hq := rOp_put hoj hap (apart_swap hap) (fun cs b => hsel i oi cs b hi) (fun cs b => hsel j oj cs b hoj) hy (H.2.2 j (ready_mono hj hji))
      refine rOp_mono (fun a' h3 => ih (listed.setIfInBounds j true) a' ?_ (ready_mono hr (Ne.symm hji)) ?_ h3.1 ?_) hq
      · intro k ok hk hki hun' hno
        refine hfree k ok hk hki ?_ hno
        by_cases hjk : j = k
        · subst hjk; exact hun
        · rwa [getD_set_ne true hjk] at hun'
      · intro hn'
        have h5 := hwt _ hn'
        rw [getD_set_ne false hji] at h5
        have h6 := (mem_ready.1 hr).1
        by_cases hs : i < listed.size <;> simp [hs] at h5 h6
        rw [h6] at h5
        cases h5
      · rw [Array.setIfInBounds_comm _ _ hji]
        exact h3.2

theorem beforeR_lex {n : Nat} {L : Act → Prop} (hs : Region.noSelect ops = true) : ∀ (l : List Oper) (k : Nat) (listed : Array Bool) (a : Act), (∀ j, j < l.length → l[j]? = ops[k + j]?) →
    lastFrom md ops n l.length k listed = true → wpRel P ops C L l a → beforeR P md ops C n L l.length listed a := by
  intro l
  induction l with
  | nil =>
    intro k listed a _ hB h
    simp only [List.length_nil, lastFrom, Bool.and_eq_true, decide_eq_true_eq, List.isEmpty_iff] at hB
    exact ⟨hB.1, hB.2, h⟩
  | cons o l ih =>
    intro k listed a hl hB h
    have h0 : ops[k]? = some o := by simpa using (hl 0 (by simp)).symm
    simp only [List.length_cons, lastFrom, Bool.and_eq_true, Bool.not_eq_true'] at hB
    obtain ⟨⟨⟨⟨hr, hf⟩, hn⟩, hw⟩, hB'⟩ := hB
    have hst : rOp P ops C k (wpRel P ops C L l) a := by unfold rOp; rw [h0]; exact h
    obtain ⟨v, hy, hK⟩ := gives_of_rOp h0 hst
    refine beforeR_first h0 (fun l' hn' => ?_) (Region.noSelect_spec hs) l.length listed a (Region.free_spec h0 hf) (by simpa using hr) (by simpa using hn) hy
      (ih (k + 1) _ _ (fun j hj => by have := hl (j + 1) (by simpa using hj); simpa [Nat.add_assoc, Nat.add_comm 1 j] using this) hB' hK)
    obtain ⟨_, oL, hoL, hall⟩ := mem_ready.1 hn'
    rw [hoL] at hw
    obtain ⟨e, he, hbe⟩ := Array.any_eq_true'.1 hw
    simp only [Bool.and_eq_true, beq_iff_eq] at hbe
    have := hall e he hbe.1
    rwa [hbe.2] at this

/-- Carried out: from a world of the class, of which S holds, to one of which both hold. -/
theorem wp_of_relAt {o : Oper} {a : Act} {w : World} {v : Value} {K : Act → World → Prop} {Q' : Exit → Act → World → Prop} (h : relAt P o a w v) (hk : ∀ w', Below w.heap.size w w' → K (a.put o.dst v) w') : o.wp P a w K Q' := by
  unfold relAt at h
  unfold Oper.wp
  generalize (execOp a.eval o).run P w = r at *
  cases r with
  | ok nx w' =>
    cases nx <;> simp only [Oper.quietUpon] at h <;> simp only [Oper.upon]
    case value u =>
      obtain ⟨e1, e2⟩ := h
      rw [e1, e2]
      exact hk _ (Below.refl _ _)
    case skip =>
      obtain ⟨e1, e2⟩ := h
      rw [e1, ← e2]
      exact hk _ (Below.refl _ _)
    case enter f args =>
      obtain ⟨e1, hc⟩ := h
      rw [e1]
      exact hc.mono fun e w'' ⟨he, hw''⟩ => by subst he; exact hk _ hw''
  | halt x w' => simp only [Oper.quietUpon] at h

/-- Behind the new variable: what is carried out is carried out with its pointer in its temporary. -/
theorem wpAny_of_beforeR {n m : Nat} {oA : Oper} {d : Tmp} {p : Value} {L : Act → Prop} {S : World → Prop} {Q' : Exit → Act → World → Prop} (hd : oA.dst = some d)
    (hC : ∀ w w', C w → Below w.heap.size w w' → C w') (hS : ∀ w w', S w → Below w.heap.size w w' → S w')
    (hap : ∀ (i : Nat) (o : Oper), ops[i]? = some o → i ≠ m → i ≠ n → oA.apart ops o = true) (hsel : ∀ (j : Nat) (o : Oper) cs b, ops[j]? = some o → o.op ≠ .select cs b)
    (hL : ∀ a w, C w → S w → L a → wpOp P ops Q' n (fun a w => Q' .normal a w) (a.put (some d) p) w) :
    ∀ (f : Nat) (listed : Array Bool) (a : Act) (w : World), C w → S w → listed.getD m true = true → beforeR P md ops C n L f listed a → wpAny P md ops Q' (f + 1) listed (a.put (some d) p) w := by
  intro f
  induction f with
  | zero =>
    intro listed a w hw hs _ h
    obtain ⟨h1, h2, h3⟩ := h
    refine ⟨fun h => (by rw [h1] at h; cases h), fun i hi => ?_⟩
    rw [h1] at hi
    obtain rfl : i = n := by simpa using hi
    exact wpOp_mono (K := fun a w => Q' .normal a w) (fun _ _ h' => ⟨h2, h'⟩) (hL a w hw hs h3)
  | succ f ih =>
    intro listed a w hw hs hm h
    obtain ⟨hn, h1, h2⟩ := h
    refine ⟨fun h => absurd h h1, fun i hi => ?_⟩
    obtain ⟨hun, o, ho, _⟩ := mem_ready.1 hi
    have him : i ≠ m := fun e => by rw [e, hm] at hun; cases hun
    have hin : i ≠ n := fun e => hn (e ▸ hi)
    obtain ⟨v, hy, hK⟩ := gives_of_rOp ho (h2 i hi)
    have ha := hap i o ho him hin
    have hdd : o.dst ≠ some d := (Oper.apart_spec ha).2.1 d hd
    have hcomm : (a.put (some d) p).put o.dst v = (a.put o.dst v).put (some d) p := Act.put_comm a p v fun d' hd' => by
      cases hd'; exact hdd
    have hm' : (listed.setIfInBounds i true).getD m true = true := by rw [getD_set_ne true him]; exact hm
    have hy' : Gives P ops C o v (a.put (some d) p) := by rw [← hd]; exact (Gives.put_iff (fun cs b => hsel i o cs b ho) ha).2 hy
    unfold wpOp
    rw [ho]
    dsimp only
    rcases hy' with ⟨hwn, hv⟩ | ⟨hwn, rfl⟩
    · rw [if_pos hwn]
      refine .inl (wp_of_relAt (hv w hw) fun w' hb => ?_)
      rw [hcomm]
      exact ih _ _ _ (hC w w' hw hb) (hS w w' hs hb) hm' hK
    · rw [if_neg (by rw [hwn]; decide), hcomm]
      exact ih _ _ _ hw hs hm' hK

/-- Whatever comes first. -/
theorem wpAny_of_float {n m : Nat} {oA : Oper} {d : Tmp} {t : TypeId} {z : Array Value} {B : Nat} {L : Act → Prop} {Q' : Exit → Act → World → Prop} (hA : ops[m]? = some oA) (hd : oA.dst = some d) (hg : oA.guard = none) (haf : oA.after = #[])
    (hrun : ∀ (a : Act) (w : World), (execOp a.eval oA).run P w = .ok (.value (.pointer (some ⟨w.heap.size, 0, none⟩))) (w.alloc (.cells z t)))
    (hwt : ∀ l', n ∈ Region.ready md ops l' → l'.getD m false = true)
    (hC : ∀ w w', C w → Below w.heap.size w w' → C w') (hB : ∀ w, C w → B ≤ w.heap.size)
    (hap : ∀ (i : Nat) (o : Oper), ops[i]? = some o → i ≠ m → i ≠ n → oA.apart ops o = true) (hsel : ∀ (j : Nat) (o : Oper) cs b, ops[j]? = some o → o.op ≠ .select cs b)
    (hL : ∀ a b w, C w → Blk w b t z → B ≤ b → L a → wpOp P ops Q' n (fun a w => Q' .normal a w) (a.put (some d) (.pointer (some ⟨b, 0, none⟩))) w) :
    ∀ (f : Nat) (listed : Array Bool) (a : Act) (w : World), C w → listed.getD m true = false → beforeR P md ops C n L f (listed.setIfInBounds m true) a → wpAny P md ops Q' (f + 2) listed a w := by
  have hmr : ∀ listed : Array Bool, listed.getD m true = false → m ∈ Region.ready md ops listed := fun listed h =>
    mem_ready.2 ⟨h, oA, hA, fun e he => by rw [haf] at he; cases he with | mk h => cases h⟩
  have hin : ∀ listed : Array Bool, listed.getD m true = false → (listed.setIfInBounds m true).getD m true = true := fun listed h => by
    by_cases hs : m < listed.size
    · simp [hs]
    · simp [hs] at h
  have main : ∀ (f : Nat) (listed : Array Bool) (a : Act) (w : World), C w → listed.getD m true = false → beforeR P md ops C n L f (listed.setIfInBounds m true) a → wpOp P ops Q' m (wpAny P md ops Q' (f + 1) (listed.setIfInBounds m true)) a w := by
    intro f listed a w hw hm h
    unfold wpOp
    rw [hA]
    dsimp only
    rw [if_pos (by simp [Region.wanted, hg])]
    left
    unfold Oper.wp
    rw [hrun a w]
    simp only [Oper.upon]
    rw [hd]
    exact wpAny_of_beforeR (S := fun w' => Blk w' w.heap.size t z) hd hC (fun w1 w2 h1 h2 => h1.on h2) hap hsel (fun a' w' hw' hs' hl' => hL a' _ w' hw' hs' (hB w hw) hl') f _ a _
      (hC _ _ hw ((Below.refl _ _).alloc (Nat.le_refl _) _)) (Blk.new w t z) (hin listed hm) h
  intro f
  induction f with
  | zero =>
    intro listed a w hw hm h
    refine ⟨fun he => (by have := hmr listed hm; rw [he] at this; cases this), fun i hi => ?_⟩
    by_cases him : i = m
    · subst him; exact main 0 listed a w hw hm h
    · have h1 := ready_mono hi him
      rw [h.1] at h1
      obtain rfl : i = n := by simpa using h1
      have h2 := hwt _ hi
      by_cases hs : m < listed.size <;> simp [hs] at hm h2
      rw [hm] at h2; cases h2
  | succ f ih =>
    intro listed a w hw hm h
    refine ⟨fun he => (by have := hmr listed hm; rw [he] at this; cases this), fun i hi => ?_⟩
    by_cases him : i = m
    · subst him; exact main (f + 1) listed a w hw hm h
    · obtain ⟨_, o, ho, _⟩ := mem_ready.1 hi
      obtain ⟨v, hy, hK⟩ := gives_of_rOp ho (h.2.2 i (ready_mono hi him))
      have hm' : (listed.setIfInBounds i true).getD m true = false := by rw [getD_set_ne true him]; exact hm
      rw [Array.setIfInBounds_comm _ _ (Ne.symm him)] at hK
      unfold wpOp
      rw [ho]
      dsimp only
      rcases hy with ⟨hwn, hv⟩ | ⟨hwn, rfl⟩
      · rw [if_pos hwn]
        exact .inl (wp_of_relAt (hv w hw) fun w' hb => ih _ _ _ (hC w w' hw hb) hm' hK)
      · rw [if_neg (by rw [hwn]; decide)]
        exact ih _ _ _ hw hm' hK

/-- All that is asked of the region, by reckoning: k operations ahead, then the new variable (temporary d), then the last one. -/
def floatB (md : Region.Mode) (ops : Array Oper) (k : Nat) (d : Tmp) : Bool :=
  Region.noSelect ops && lastFrom md ops (k + 1) k 0 ((Array.replicate ops.size false).setIfInBounds k true) &&
  (match ops[k]? with
   | some oA => (oA.dst == some d) && oA.guard.isNone && oA.after.isEmpty && ((List.range ops.size).all fun i => i == k || i == k + 1 || match ops[i]? with | some o => oA.apart ops o | none => true)
   | none => false) &&
  (match ops[k + 1]? with | some o => o.after.any (fun e => Region.binds md e && e.on == k) | none => false)

theorem wp_region_float {id : Nat} {Q : Exit → Act → World → Prop} {a : Act} {w : World} {l : List Oper} {oA : Oper} {t : TypeId} {z : Array Value} (k : Nat) (d : Tmp) (hm : P.follows .mixedOrders = true) (hlen : l.length = k + 2) (hB : floatB .any l.toArray k d = true)
    (hA : l[k]? = some oA) (hrun : ∀ (a : Act) (w : World), (execOp a.eval oA).run P w = .ok (.value (.pointer (some ⟨w.heap.size, 0, none⟩))) (w.alloc (.cells z t)))
    (h : wpRel P l.toArray (fun w' => ∃ p : Regrown, w' = Go.Sort.grow (redrawn w p.d) p.os) (fun a' => ∀ b w', Below w.heap.size w w' → Blk w' b t z → w.heap.size ≤ b → wpList P l.toArray Q (l.drop (k + 1)) (a'.put (some d) (.pointer (some ⟨b, 0, none⟩))) w') (l.take k) a) : (Code.region id l.toArray true).wp P Q a w := by
  simp only [floatB, Bool.and_eq_true] at hB
  obtain ⟨⟨⟨b1, b2⟩, b3⟩, b4⟩ := hB
  have hA' : l.toArray[k]? = some oA := by simpa using hA
  rw [hA'] at b3
  simp only [Bool.and_eq_true, beq_iff_eq, Option.isNone_iff_eq_none, Array.isEmpty_iff] at b3
  obtain ⟨⟨⟨hd, hg⟩, haf⟩, hap⟩ := b3
  refine wp_region_any hm ?_
  have hsz : l.toArray.size = k + 2 := by simpa using hlen
  have ht : (l.take k).length = k := by simp; omega
  have hx := beforeR_lex (C := fun w' => ∃ p : Regrown, w' = Go.Sort.grow (redrawn w p.d) p.os) (md := .any) (n := k + 1) b1 (l.take k) 0 ((Array.replicate l.toArray.size false).setIfInBounds k true) a
    (fun j hj => by simp only [Nat.zero_add, List.getElem?_toArray]; rw [List.getElem?_take_of_lt (by omega)]) (by rw [ht]; exact b2) h
  rw [ht] at hx
  rw [hsz] at hx ⊢
  have cb : ∀ w' : World, (∃ p : Regrown, w' = Go.Sort.grow (redrawn w p.d) p.os) → Below w.heap.size w w' := by rintro _ ⟨p, rfl⟩; exact below_regrown w p.d p.os
  refine wpAny_of_float (m := k) (B := w.heap.size) hA' hd hg haf hrun (fun l' hn' => ?_) (fun w1 w2 h1 h2 => regrown_of_below (after (cb w1 h1) h2)) (fun w1 h1 => (cb w1 h1).size) (fun i o ho h1 h2 => ?_) (Region.noSelect_spec b1) (fun a' b w' hw' hs' hb' hL => ?_) k _ a _ ?_ ?_ hx
  · obtain ⟨_, oL, hoL, hall⟩ := mem_ready.1 hn'
    rw [hoL] at b4
    obtain ⟨e, he, hbe⟩ := Array.any_eq_true'.1 b4
    simp only [Bool.and_eq_true, beq_iff_eq] at hbe
    have := hall e he hbe.1
    rwa [hbe.2] at this
  · have hi : i < l.toArray.size := (Array.getElem?_eq_some_iff.1 ho).1
    have h3 := List.all_eq_true.1 hap i (List.mem_range.2 hi)
    rw [ho] at h3
    simp only [Bool.or_eq_true, beq_iff_eq] at h3
    rcases h3 with (h3 | h3) | h3
    · exact absurd h3 h1
    · exact absurd h3 h2
    · exact h3
  · have h4 := hL b w' (cb w' hw') hs' hb'
    have hdr : l.drop (k + 1) = [l[k + 1]'(by omega)] := by
      rw [List.drop_eq_getElem_cons (by omega), List.drop_of_length_le (by omega)]
    rw [hdr] at h4
    unfold wpOp
    simp only [List.getElem?_toArray, List.getElem?_eq_getElem (show k + 1 < l.length by omega)]
    exact h4
  · exact ⟨⟨w.drawn + 1, #[]⟩, by rw [Go.Sort.grow_empty]; rfl⟩
  · simp
end
attribute [go_sem] relOp relAt
/-! ### behind the last store of a way -/
section
variable {w w0 W W' : World} {g b : Nat} {t : TypeId} {cs : Array Value}
theorem Blk.put3 {x y z u v r : Value} (h : Blk W b t #[x, y, z]) (hW : W' = ((W.setCell ⟨b, 0, none⟩ u).setCell ⟨b, 1, none⟩ v).setCell ⟨b, 2, none⟩ r) : Blk W' b t #[u, v, r] := by rw [hW]; exact h.st3 u v r
theorem Blk.far3 {u v r : Value} (h : Blk w g t cs) (hb : Below w.heap.size w W) (hle : w.heap.size ≤ b) (hW : W' = ((W.setCell ⟨b, 0, none⟩ u).setCell ⟨b, 1, none⟩ v).setCell ⟨b, 2, none⟩ r) : Blk W' g t cs := by
  have hn : g ≠ b := by have := h.lt; omega
  rw [hW]; exact (((h.on hb).far hn u).far hn v).far hn r
theorem far_below3 {u v r : Value} (h : Below w0.heap.size w0 w) (hb : Below w.heap.size w W) (hle : w.heap.size ≤ b) (hW : W' = ((W.setCell ⟨b, 0, none⟩ u).setCell ⟨b, 1, none⟩ v).setCell ⟨b, 2, none⟩ r) : Below w0.heap.size w0 W' := by
  have hs : w0.heap.size ≤ b := Nat.le_trans h.size hle
  rw [hW]; exact ((((after h hb).setCell (p := ⟨b, 0, none⟩) hs u).setCell (p := ⟨b, 1, none⟩) hs v).setCell (p := ⟨b, 2, none⟩) hs r)
theorem Blk.put6 {x y z x' y' z' u v r k l m : Value} (h : Blk W b t #[x, y, z, x', y', z']) (hW : W' = (((((W.setCell ⟨b, 0, none⟩ u).setCell ⟨b, 1, none⟩ v).setCell ⟨b, 2, none⟩ r).setCell ⟨b, 3, none⟩ k).setCell ⟨b, 4, none⟩ l).setCell ⟨b, 5, none⟩ m) : Blk W' b t #[u, v, r, k, l, m] := by rw [hW]; exact h.st6 u v r k l m
theorem Blk.far6 {u v r k l m : Value} (h : Blk w g t cs) (hb : Below w.heap.size w W) (hle : w.heap.size ≤ b) (hW : W' = (((((W.setCell ⟨b, 0, none⟩ u).setCell ⟨b, 1, none⟩ v).setCell ⟨b, 2, none⟩ r).setCell ⟨b, 3, none⟩ k).setCell ⟨b, 4, none⟩ l).setCell ⟨b, 5, none⟩ m) : Blk W' g t cs := by
  have hn : g ≠ b := by have := h.lt; omega
  rw [hW]; exact ((((((h.on hb).far hn u).far hn v).far hn r).far hn k).far hn l).far hn m
theorem far_below6 {u v r k l m : Value} (h : Below w0.heap.size w0 w) (hb : Below w.heap.size w W) (hle : w.heap.size ≤ b) (hW : W' = (((((W.setCell ⟨b, 0, none⟩ u).setCell ⟨b, 1, none⟩ v).setCell ⟨b, 2, none⟩ r).setCell ⟨b, 3, none⟩ k).setCell ⟨b, 4, none⟩ l).setCell ⟨b, 5, none⟩ m) : Below w0.heap.size w0 W' := by
  have hs : w0.heap.size ≤ b := Nat.le_trans h.size hle
  rw [hW]; exact (((((((after h hb).setCell (p := ⟨b, 0, none⟩) hs u).setCell (p := ⟨b, 1, none⟩) hs v).setCell (p := ⟨b, 2, none⟩) hs r).setCell (p := ⟨b, 3, none⟩) hs k).setCell (p := ⟨b, 4, none⟩) hs l).setCell (p := ⟨b, 5, none⟩) hs m)
end
end Go.Proofs.Ytnokibdecnddlaa

/- A range over a function whose rounds come of one known list: what the iterator owes, what the loop owes. The iterator may keep a few blocks of its own. No program in sight. -/
namespace Go.Proofs.Ytnokibdecnddlaa
open Go.RowKit

/-- The blocks that K names lie as they lay; no block has gone. -/
structure Kept (K : Nat → Prop) (w w' : World) : Prop where
  os : w'.os = w.os
  tape : w'.tape = w.tape
  output : w'.output = w.output
  size : w.heap.size ≤ w'.heap.size
  block : ∀ b, b < w.heap.size → K b → w'.heap[b]? = w.heap[b]?
section
variable {K K' : Nat → Prop} {A B C : World}
theorem Kept.refl (K : Nat → Prop) (A : World) : Kept K A A := ⟨rfl, rfl, rfl, Nat.le_refl _, fun _ _ _ => rfl⟩
theorem Kept.trans (h : Kept K A B) (k : Kept K B C) : Kept K A C :=
  ⟨k.os.trans h.os, k.tape.trans h.tape, k.output.trans h.output, Nat.le_trans h.size k.size, fun b hb hK => (k.block b (Nat.lt_of_lt_of_le hb h.size) hK).trans (h.block b hb hK)⟩
theorem Kept.mono (h : Kept K A B) (hK : ∀ b, K' b → K b) : Kept K' A B := ⟨h.os, h.tape, h.output, h.size, fun b hb hk => h.block b hb (hK b hk)⟩
theorem Kept.of_below (h : Below A.heap.size A B) : Kept K A B := ⟨h.os, h.tape, h.output, h.size, fun b hb _ => h.block b hb⟩
theorem Kept.on (h : Kept K A B) (k : Below B.heap.size B C) : Kept K A C := h.trans (Kept.of_below k)
theorem Kept.alloc (h : Kept K A B) (o : Obj) : Kept K A (B.alloc o) := h.on ((Below.refl _ _).alloc (Nat.le_refl _) o)
theorem Kept.setCell (h : Kept K A B) {p : Addr} (hp : ¬ K p.block) (u : Value) : Kept K A (B.setCell p u) :=
  h.trans ⟨rfl, rfl, rfl, by simp [World.setCell], fun b _ hK => Below.heap_setCell B p u b (fun e => hp (e ▸ hK))⟩
theorem Kept.fresh (h : Kept K A B) {p : Addr} (hp : A.heap.size ≤ p.block) (u : Value) : Kept K A (B.setCell p u) :=
  ⟨h.os, h.tape, h.output, by simp [World.setCell]; exact h.size, fun b hb hK => (Below.heap_setCell B p u b (by omega)).trans (h.block b hb hK)⟩
theorem Kept.putObj (h : Kept K A B) {l : Nat} (hl : ¬ K l) (o : Obj) : Kept K A (B.putObj l o) :=
  h.trans ⟨rfl, rfl, rfl, by simp [World.putObj], fun b _ hK => World.putObj_heap_other (fun e => hl (e ▸ hK))⟩
theorem Kept.drew (h : Kept K A B) : Kept K A B.drew := ⟨h.os, h.tape, h.output, h.size, h.block⟩
theorem Kept.grown (h : Kept K A B) {row : Option Nat} (hg : B.grownBy C row) (hr : ∀ k, row = some k → ¬ K k) : Kept K A C :=
  h.trans ⟨hg.os, hg.tape, hg.output, hg.size, fun b hb hK => hg.block b hb (fun e => hr b e.symm hK)⟩
theorem Kept.below {n : Nat} (h : Kept K A B) (hn : n ≤ A.heap.size) (hK : ∀ b, b < n → K b) : Below n A B := ⟨h.os, h.tape, h.output, h.size, fun b hb => h.block b (by omega) (hK b hb)⟩
theorem Kept.blk {g : Nat} {t : TypeId} {cs : Array Value} (h : Kept K A B) (hK : K g) (hb : Blk A g t cs) : Blk B g t cs := (h.block g hb.lt hK).trans hb
end

/-- The blocks from lo on, below hi. -/
def Priv (lo hi b : Nat) : Prop := lo ≤ b ∧ b < hi

/-- What an iterator owes: its rounds come of xs, in its row; behind the first round's beginning it writes to old blocks of its own alone (below Z); a round keeps these, and what the iterator has captured. -/
def Iter (P : Program) (gf : Nat) (lb : Array Value) {α : Type} (encs : α → Array Value) (xs : List α) (cap : Nat → Prop) (w0 : World) : Prop :=
  ∀ (m l : Nat) (J Jx : Nat → Nat → World → Prop) (W : World), Kept cap w0 W →
    (∀ Z i A B, J Z i A → Kept (fun b => ¬ Priv W.heap.size Z b) A B → J Z i B) → (∀ Z i A B, Jx Z i A → Kept (fun b => ¬ Priv W.heap.size Z b) A B → Jx Z i B) →
    (∀ Z i x A, W.heap.size ≤ Z → Z ≤ A.heap.size → xs[i]? = some x → J Z i A → YieldAt Fence.wide m P l (encs x) A fun e B =>
      (e = .returned (.bool true) ∧ J Z (i + 1) B ∧ Kept (fun b => Priv W.heap.size Z b ∨ cap b) A B) ∨ (e = .returned (.bool false) ∧ Jx Z i B)) →
    (∀ Z, J Z 0 W) →
    CallsIn Fence.wide (m + 1) P gf (#[.func (.yield l) #[] #[]] ++ lb) W fun e B => (∃ v, e = .returned v) ∧ ∃ Z, W.heap.size ≤ Z ∧ (J Z xs.length B ∨ ∃ i, i < xs.length ∧ Jx Z i B)

/-- How a round may be left. -/
def leftBy (K : Nat → Prop) (I : Nat → World → Prop) (Ix : Code → Nat → World → Prop) (i : Nat) (A : World) : Exit → Act → World → Prop
  | .normal, _, B => Kept K A B ∧ I (i + 1) B
  | .ret, _, B => Kept K A B ∧ Ix .ret i B
  | .exit id, _, B => Kept K A B ∧ Ix (.exit id) i B
  | .goto t, _, B => Kept K A B ∧ Ix (.goto t) i B
  | .panic _, _, _ => False
  | .outgrown, _, _ => False

/-- What the round keeps: the loop's own blocks, the iterator's, what it has captured. -/
def Keeps (lo hi : Nat) (cap : Nat → Prop) (b : Nat) : Prop := Priv lo hi b ∨ cap b

/-- THE LAW. -/
theorem wp_range {P : Program} {m : Nat} {α : Type} {g : Operand} {ps : Array Tmp} {assign body : Code} {Q : Exit → Act → World → Prop} {a : Act} {w : World} {gf : Nat} {lb : Array Value}
    (hg : a.eval g = .func (.func gf) #[] lb) (eg : ∀ args w, (callFunc gf args).run P w = .ok (.enter gf args) w)
    {encs : α → Array Value} {xs : List α} {cap : Nat → Prop} (hit : Iter P gf lb encs xs cap w) (hcap : ∀ b, cap b → b < w.heap.size) (hps : ∀ x, (encs x).size = ps.size)
    (I : Nat → Nat → World → Prop) (Ix : Nat → Code → Nat → World → Prop)
    (hI : ∀ Z i A B, I Z i A → Kept (fun b => ¬ Priv w.heap.size Z b) A B → I Z i B) (hIx : ∀ Z c i A B, Ix Z c i A → Kept (fun b => ¬ Priv w.heap.size Z b) A B → Ix Z c i B) (h0 : ∀ Z, I Z 0 w)
    (hround : ∀ Z l i x A, l = w.heap.size + 1 → w.heap.size + 2 ≤ Z → Z ≤ A.heap.size → xs[i]? = some x → I Z i A →
      assign.wpIn (Fence.wide.inRound l) m P (Exit.then (fun a1 A1 => Kept (Keeps w.heap.size Z cap) A A1 ∧
        ∀ A2, Kept (fun b => b ≠ l) A1 A2 → A2.heap.size = A1.heap.size → body.wpIn (Fence.wide.inRound l) m P (leftBy (Keeps w.heap.size Z cap) (I Z) (Ix Z) i A2) a1 A2) (fun _ _ _ => False))
        { tmps := (ps.zip (encs x)).foldl (fun t (p, v) => t.setIfInBounds p v) a.tmps, defers := [] } A)
    (hdone : ∀ Z W, I Z xs.length W → W.heap[w.heap.size]? = some (.deferred (some [])) → Q .normal { a with defers := { target := .collected w.heap.size, args := #[] } :: a.defers } W)
    (hstop : ∀ Z c i W, i < xs.length → Ix Z c i W → W.heap[w.heap.size]? = some (.deferred (some [])) → c.wp P Q { a with defers := { target := .collected w.heap.size, args := #[] } :: a.defers } W) :
    (Code.rangeFunc g ps assign body).wp P Q a w := by
  refine wpIn_wide.1 (wpIn_rangeFunc (n := m + 2) ?_)
  intro fn hfn
  obtain ⟨rec, hrec⟩ : ∃ rec : LoopState → Option Code → Loop, rec = fun st pe => { state := st, pending := pe, fn, tmps := a.tmps, params := ps, assign, body, defers := w.heap.size } := ⟨_, rfl⟩
  obtain ⟨W1, hW1⟩ : ∃ W1, (w.alloc (.deferred (some []))).alloc (.loop (rec .ready none)) = W1 := ⟨_, rfl⟩
  have hs1 : W1.heap.size = w.heap.size + 2 := by rw [← hW1]; simp
  have hL1 : W1.heap[w.heap.size + 1]? = some (.loop (rec .ready none)) := by
    rw [← hW1]; have := World.alloc_heap_new (w.alloc (.deferred (some []))) (.loop (rec .ready none)); rwa [World.size_alloc] at this
  have hK1 : W1.heap[w.heap.size]? = some (.deferred (some [])) := by
    rw [← hW1]; exact (Below.heap_alloc _ _ _ (by simp)).trans (World.alloc_heap_new w _)
  have hb1 : Below w.heap.size w W1 := by rw [← hW1]; exact ((Below.refl _ w).alloc (Nat.le_refl _) _).alloc (by simp) _
  have hpr : ∀ Z b, ¬ Priv w.heap.size Z b → ¬ Priv W1.heap.size Z b := fun Z b h h' => h ⟨by have := h'.1; omega, h'.2⟩
  refine ⟨w.heap.size + 1, [{ target := .collected w.heap.size, args := #[] }], W1, { target := .fn (.func gf) lb, args := #[.func (.yield (w.heap.size + 1)) #[] #[]] }, W1, gf,
    #[.func (.yield (w.heap.size + 1)) #[] #[]] ++ lb, W1, ?_, ?_, ?_, ?_, fun _ => by omega, ?_⟩
  · rw [← hW1, hrec]; exact run_enterLoop_outer _ _ _ _ _
  · simp only [resolve, hg]
    simp [go_sem]
  · intro f' _; trivial
  · simp [invoke, go_sem, eg]
  · refine (hit m (w.heap.size + 1)
      (fun Z i W => I Z i W ∧ W.heap[w.heap.size + 1]? = some (.loop (rec .ready none)) ∧ W.heap[w.heap.size]? = some (.deferred (some [])))
      (fun Z i W => W1.heap.size ≤ Z ∧ ∃ c, Ix Z c i W ∧ W.heap[w.heap.size + 1]? = some (.loop (rec .done (some c))) ∧ W.heap[w.heap.size]? = some (.deferred (some [])))
      W1 (Kept.of_below hb1) ?_ ?_ ?_ (fun Z => ⟨hI _ _ _ _ (h0 Z) (Kept.of_below hb1), hL1, hK1⟩)).mono ?_
    · rintro Z i A B ⟨h1, h2, h3⟩ hk
      have hl := (Array.getElem?_eq_some_iff.1 h2).1
      exact ⟨hI _ _ _ _ h1 (hk.mono (hpr Z)), (hk.block _ hl (fun h => by have := h.1; omega)).trans h2, (hk.block _ (by omega) (fun h => by have := h.1; omega)).trans h3⟩
    · rintro Z i A B ⟨h0, c, h1, h2, h3⟩ hk
      have hl := (Array.getElem?_eq_some_iff.1 h2).1
      exact ⟨h0, c, hIx _ _ _ _ _ h1 (hk.mono (hpr Z)), (hk.block _ hl (fun h => by have := h.1; omega)).trans h2, (hk.block _ (by omega) (fun h => by have := h.1; omega)).trans h3⟩
    · -- one round
      rintro Z i x A hZ1 hZ2 hx ⟨hi, hl, hk⟩
      have hy := run_yield (P := P) (args := encs x) hl (by rw [hrec]; exact hps x)
      rw [hrec] at hy
      refine ⟨fn, _, assign, body, hy, roundIn_of_wpIn hfn ?_⟩
      refine wpIn_mono (hround Z _ i x A rfl (by omega) hZ2 hx hi) ?_
      rintro e a1 A1 h
      cases e with
      | exit id => exact h.elim
      | goto t => exact h.elim
      | ret => exact h.elim
      | panic c => exact h.elim
      | outgrown => exact h.elim
      | normal =>
        obtain ⟨hA1, hbody⟩ := h
        have hl' : w.heap.size + 1 < A.heap.size := (Array.getElem?_eq_some_iff.1 hl).1
        have hl1 : A1.heap[w.heap.size + 1]? = some (.loop (rec .ready none)) := (hA1.block _ hl' (.inl ⟨by omega, by omega⟩)).trans hl
        have hk1 : A1.heap[w.heap.size]? = some (.deferred (some [])) := (hA1.block _ (by omega) (.inl ⟨by omega, by omega⟩)).trans hk
        have hlt1 : w.heap.size + 1 < A1.heap.size := (Array.getElem?_eq_some_iff.1 hl1).1
        refine ⟨_, run_beginRound hl1 (by rw [hrec]), ?_⟩
        have hl2 : (A1.putObj (w.heap.size + 1) (.loop { rec .ready none with state := .busy })).heap[w.heap.size + 1]? = some (.loop { rec .ready none with state := .busy }) := World.putObj_heap_same hlt1
        have hk2 : (A1.putObj (w.heap.size + 1) (.loop { rec .ready none with state := .busy })).heap[w.heap.size]? = some (.deferred (some [])) := (World.putObj_heap_other (by omega)).trans hk1
        have hA2 : Kept (fun b => Priv W1.heap.size Z b ∨ cap b) A (A1.putObj (w.heap.size + 1) (.loop { rec .ready none with state := .busy })) :=
          (hA1.mono (K' := fun b => Priv W1.heap.size Z b ∨ cap b) (fun b h => h.imp (fun h => ⟨by have := h.1; omega, h.2⟩) id)).putObj (fun h => by rcases h with h | h; exact absurd h.1 (by omega); exact absurd (hcap _ h) (by omega)) _
        refine wpIn_mono (hbody _ ((Kept.refl _ A1).putObj (by simp) _) (by simp [World.putObj])) ?_
        have fin : ∀ (jump : Option Code) (W3 : World), Kept (Keeps w.heap.size Z cap) (A1.putObj (w.heap.size + 1) (.loop { rec .ready none with state := .busy })) W3 →
            (Instr.endRound (w.heap.size + 1) jump).run P W3 = .ok (.bool jump.isNone) (W3.putObj (w.heap.size + 1) (.loop (rec (if jump.isNone then .ready else .done) jump))) ∧
            (W3.putObj (w.heap.size + 1) (.loop (rec (if jump.isNone then .ready else .done) jump))).heap[w.heap.size + 1]? = some (.loop (rec (if jump.isNone then .ready else .done) jump)) ∧
            (W3.putObj (w.heap.size + 1) (.loop (rec (if jump.isNone then .ready else .done) jump))).heap[w.heap.size]? = some (.deferred (some [])) ∧
            Kept (fun b => ¬ Priv w.heap.size Z b) W3 (W3.putObj (w.heap.size + 1) (.loop (rec (if jump.isNone then .ready else .done) jump))) ∧
            Kept (fun b => Priv W1.heap.size Z b ∨ cap b) A (W3.putObj (w.heap.size + 1) (.loop (rec (if jump.isNone then .ready else .done) jump))) := fun jump W3 hk3 => by
          have hsz2 : (A1.putObj (w.heap.size + 1) (.loop { rec .ready none with state := .busy })).heap.size = A1.heap.size := by simp [World.putObj]
          have hl3 := (hk3.block (w.heap.size + 1) (by omega) (.inl ⟨by omega, by omega⟩)).trans hl2
          have hd3 := (hk3.block w.heap.size (by omega) (.inl ⟨by omega, by omega⟩)).trans hk2
          have := run_endRound (P := P) jump hl3
          rw [hrec] at this ⊢
          refine ⟨this, World.putObj_heap_same (Array.getElem?_eq_some_iff.1 hl3).1, (World.putObj_heap_other (by omega)).trans hd3, (Kept.refl _ _).putObj (fun h => h ⟨by omega, by omega⟩) _, ?_⟩
          refine (hA2.trans ?_).putObj (fun h => by rcases h with h | h; exact absurd h.1 (by omega); exact absurd (hcap _ h) (by omega)) _
          rw [hrec] at hk3 ⊢
          exact hk3.mono (fun b h => h.imp (fun h => ⟨by have := h.1; omega, h.2⟩) id)
        rintro e a3 W3 hp
        cases e with
        | normal =>
          obtain ⟨hk3, hi3⟩ := hp
          obtain ⟨hr, hl4, hk4, hp4, hq4⟩ := fin none W3 hk3
          exact ⟨_, _, hr, .inl ⟨rfl, ⟨hI _ _ _ _ hi3 hp4, hl4, hk4⟩, hq4⟩⟩
        | ret =>
          obtain ⟨hk3, hi3⟩ := hp
          obtain ⟨hr, hl4, hk4, hp4, hq4⟩ := fin (some .ret) W3 hk3
          exact ⟨_, _, hr, .inr ⟨rfl, hZ1, .ret, hIx _ _ _ _ _ hi3 hp4, hl4, hk4⟩⟩
        | exit id =>
          obtain ⟨hk3, hi3⟩ := hp
          obtain ⟨hr, hl4, hk4, hp4, hq4⟩ := fin (some (.exit id)) W3 hk3
          exact ⟨_, _, hr, .inr ⟨rfl, hZ1, .exit id, hIx _ _ _ _ _ hi3 hp4, hl4, hk4⟩⟩
        | goto t =>
          obtain ⟨hk3, hi3⟩ := hp
          obtain ⟨hr, hl4, hk4, hp4, hq4⟩ := fin (some (.goto t)) W3 hk3
          exact ⟨_, _, hr, .inr ⟨rfl, hZ1, .goto t, hIx _ _ _ _ _ hi3 hp4, hl4, hk4⟩⟩
        | panic ch => exact hp.elim
        | outgrown => exact hp.elim
    · rintro e W2 ⟨⟨v, rfl⟩, Z, hZ, (⟨hi, hl, hk⟩ | ⟨i, hlt, hZ', c, hi, hl, hk⟩)⟩
      · exact ⟨none, _, by have := run_endLoop (P := P) hl (by rw [hrec]; simp); rw [hrec] at this; exact this, hdone Z _ (hI _ _ _ _ hi ((Kept.refl _ _).putObj (fun h => h ⟨by omega, by omega⟩) _)) ((World.putObj_heap_other (by omega)).trans hk)⟩
      · exact ⟨some c, _, by have := run_endLoop (P := P) hl (by rw [hrec]; simp); rw [hrec] at this; exact this, wpIn_wide.2 (hstop Z c i _ hlt (hIx _ _ _ _ _ hi ((Kept.refl _ _).putObj (fun h => h ⟨by omega, by omega⟩) _)) ((World.putObj_heap_other (by omega)).trans hk))⟩
/-! ### at the function's end -/
theorem Blk.putObj {w : World} {g D : Nat} {t : TypeId} {cs : Array Value} (h : Blk w g t cs) (hne : g ≠ D) (o : Obj) : Blk (w.putObj D o) g t cs := (World.putObj_heap_other hne).trans h
theorem putObj_below {n D : Nat} {w w' : World} (h : Below n w w') (hD : n ≤ D) (o : Obj) : Below n w (w'.putObj D o) :=
  h.trans ⟨rfl, rfl, rfl, by simp [World.putObj], fun k hk => World.putObj_heap_other (by omega)⟩
theorem def_far {w : World} {D : Nat} {p : Addr} {u : Value} {o : Obj} (h : w.heap[D]? = some o) (hp : D ≠ p.block) : (w.setCell p u).heap[D]? = some o := (Below.heap_setCell w p u D hp).trans h
theorem leave_mark {F : Fence} {n : Nat} {P : Program} {fn : Func} {R : Ending → World → Prop} {tmps : Array Value} {w : World} {D : Nat} {v : Value} (hD : w.heap[D]? = some (.deferred (some [])))
    (hv : (results fn tmps).run P (w.putObj D (.deferred none)) = .ok v (w.putObj D (.deferred none))) (hR : R (.returned v) (w.putObj D (.deferred none))) : bodyPostM F n P fn R .ret { tmps := tmps, defers := [{ target := .collected D, args := #[] }] } w := by
  refine ⟨by simp, .inl ⟨_, _, rfl, run_takeDeferred hD, ?_⟩⟩
  exact ⟨v, hv, hR⟩
end Go.Proofs.Ytnokibdecnddlaa

/- A region that draws its order: reads and calls that make only new memory; then, if so wished, one operation whose value is told by a relation alone (a new variable, a new row, a call that hands back new memory), which may come up at any time; then a forced tail. One walk of the text's order serves every order, in a function's own frame and in a round's. No program in sight. -/
namespace Go.Proofs.Ytnokibdecnddlaa
open Go.RowKit

section
variable {P : Program} {ops : Array Oper} {md : Region.Mode} {C : World → Prop}

/-- From number k on each operation waits for all ahead of it. -/
def tailFrom (md : Region.Mode) (ops : Array Oper) : Nat → Nat → Array Bool → Bool
  | 0, _, listed => (Region.ready md ops listed).isEmpty
  | f + 1, k, listed => decide (Region.ready md ops listed = [k]) && tailFrom md ops f (k + 1) (listed.setIfInBounds k true)
theorem wpAny_of_tail {Q : Exit → Act → World → Prop} : ∀ (l : List Oper) (k : Nat) (listed : Array Bool) (a : Act) (w : World), (∀ j, j < l.length → l[j]? = ops[k + j]?) → tailFrom md ops l.length k listed = true → wpList P ops Q l a w →
    wpAny P md ops Q l.length listed a w := by
  intro l
  induction l with
  | nil =>
    intro k listed a w _ hB h
    simp only [List.length_nil, tailFrom, List.isEmpty_iff] at hB
    exact ⟨hB, h⟩
  | cons o l ih =>
    intro k listed a w hl hB h
    have h0 : ops[k]? = some o := by simpa using (hl 0 (by simp)).symm
    simp only [List.length_cons, tailFrom, Bool.and_eq_true, decide_eq_true_eq] at hB
    refine ⟨fun he => (by rw [hB.1] at he; cases he), fun i hi => ?_⟩
    rw [hB.1] at hi
    obtain rfl : i = k := by simpa using hi
    refine wpOp_mono (K := wpList P ops Q l) (fun a w h' => ih (i + 1) _ a w (fun j hj => by have := hl (j + 1) (by simpa using hj); simpa [Nat.add_assoc, Nat.add_comm 1 j] using this) hB.2 h') ?_
    unfold wpOp
    rw [h0]
    exact h

/-- So many operations are to come ahead of the tail (from number n on). -/
def beforeT (P : Program) (md : Region.Mode) (ops : Array Oper) (C : World → Prop) (n s : Nat) (L : Act → Prop) : Nat → Array Bool → Act → Prop
  | 0, listed, a => tailFrom md ops s n listed = true ∧ L a
  | f + 1, listed, a => n ∉ Region.ready md ops listed ∧ Region.ready md ops listed ≠ [] ∧ ∀ i ∈ Region.ready md ops listed, rOp P ops C i (beforeT P md ops C n s L f (listed.setIfInBounds i true)) a
theorem tail_ready {n s : Nat} {listed : Array Bool} (h : tailFrom md ops s n listed = true) {j : Nat} (hj : j ∈ Region.ready md ops listed) : j = n := by
  cases s with
  | zero =>
    simp only [tailFrom, List.isEmpty_iff] at h
    rw [h] at hj; cases hj
  | succ s =>
    simp only [tailFrom, Bool.and_eq_true, decide_eq_true_eq] at h
    rw [h.1] at hj
    simpa using hj

theorem beforeT_first {n s i : Nat} {oi : Oper} {v : Value} {L : Act → Prop} (hi : ops[i]? = some oi) (hwt : ∀ l', n ∈ Region.ready md ops l' → l'.getD i false = true) (hsel : ∀ (j : Nat) (o : Oper) cs b, ops[j]? = some o → o.op ≠ .select cs b) :
    ∀ (f : Nat) (listed : Array Bool) (a : Act),
      (∀ j oj, ops[j]? = some oj → j ≠ i → listed.getD j true = false → (∀ e ∈ oj.after, Region.binds md e = true → e.on ≠ i) → oi.apart ops oj = true) →
      i ∈ Region.ready md ops listed → n ∉ Region.ready md ops listed → Gives P ops C oi v a →
      beforeT P md ops C n s L f (listed.setIfInBounds i true) (a.put oi.dst v) → beforeT P md ops C n s L (f + 1) listed a := by
  intro f
  induction f with
  | zero =>
    intro listed a _ hr hn hy H
    refine ⟨hn, fun h => (by rw [h] at hr; cases hr), fun j hj => ?_⟩
    by_cases hji : j = i
    · subst hji; exact hy.rOp hi H
    · have h1 := ready_mono hj hji
      obtain rfl : j = n := tail_ready H.1 h1
      exact absurd hj hn
  | succ f ih =>
    intro listed a hfree hr hn hy H
    refine ⟨hn, fun h => (by rw [h] at hr; cases hr), fun j hj => ?_⟩
    by_cases hji : j = i
    · subst hji; exact hy.rOp hi H
    · obtain ⟨hun, oj, hoj, hwait⟩ := mem_ready.1 hj
      have hun_i := (mem_ready.1 hr).1
      have hap : oi.apart ops oj = true := hfree j oj hoj hji hun fun e he hb heq => by
        have h2 := hwait e he hb
        rw [heq] at h2
        by_cases hs : i < listed.size <;> simp [hs] at hun_i h2
        rw [hun_i] at h2
        cases h2
      have hq := rOp_put hoj hap (apart_swap hap) (fun cs b => hsel i oi cs b hi) (fun cs b => hsel j oj cs b hoj) hy (H.2.2 j (ready_mono hj hji))
      refine rOp_mono (fun a' h3 => ih (listed.setIfInBounds j true) a' ?_ (ready_mono hr (Ne.symm hji)) ?_ h3.1 ?_) hq
      · intro k ok hk hki hun' hno
        refine hfree k ok hk hki ?_ hno
        by_cases hjk : j = k
        · subst hjk; exact hun
        · rwa [getD_set_ne true hjk] at hun'
      · intro hn'
        have h5 := hwt _ hn'
        rw [getD_set_ne false hji] at h5
        have h6 := (mem_ready.1 hr).1
        by_cases hs : i < listed.size <;> simp [hs] at h5 h6
        rw [h6] at h5
        cases h5
      · rw [Array.setIfInBounds_comm _ _ hji]
        exact h3.2

/-- k operations in the text's order, none of which the tail comes ahead of; then the tail. -/
def quietFrom (md : Region.Mode) (ops : Array Oper) (n s : Nat) : Nat → Nat → Array Bool → Bool
  | 0, _, listed => tailFrom md ops s n listed
  | f + 1, k, listed => (Region.ready md ops listed).contains k && Region.free md ops listed k && !(Region.ready md ops listed).contains n &&
      (match ops[n]? with | some o => o.after.any (fun e => Region.binds md e && e.on == k) | none => true) && quietFrom md ops n s f (k + 1) (listed.setIfInBounds k true)
theorem beforeT_lex {n s : Nat} {L : Act → Prop} (hs : Region.noSelect ops = true) : ∀ (l : List Oper) (k : Nat) (listed : Array Bool) (a : Act), (∀ j, j < l.length → l[j]? = ops[k + j]?) →
    quietFrom md ops n s l.length k listed = true → wpRel P ops C L l a → beforeT P md ops C n s L l.length listed a := by
  intro l
  induction l with
  | nil =>
    intro k listed a _ hB h
    exact ⟨hB, h⟩
  | cons o l ih =>
    intro k listed a hl hB h
    have h0 : ops[k]? = some o := by simpa using (hl 0 (by simp)).symm
    simp only [List.length_cons, quietFrom, Bool.and_eq_true, Bool.not_eq_true'] at hB
    obtain ⟨⟨⟨⟨hr, hf⟩, hn⟩, hw⟩, hB'⟩ := hB
    have hst : rOp P ops C k (wpRel P ops C L l) a := by unfold rOp; rw [h0]; exact h
    obtain ⟨v, hy, hK⟩ := gives_of_rOp h0 hst
    refine beforeT_first h0 (fun l' hn' => ?_) (Region.noSelect_spec hs) l.length listed a (Region.free_spec h0 hf) (by simpa using hr) (by simpa using hn) hy
      (ih (k + 1) _ _ (fun j hj => by have := hl (j + 1) (by simpa using hj); simpa [Nat.add_assoc, Nat.add_comm 1 j] using this) hB' hK)
    obtain ⟨_, oL, hoL, hall⟩ := mem_ready.1 hn'
    rw [hoL] at hw
    obtain ⟨e, he, hbe⟩ := Array.any_eq_true'.1 hw
    simp only [Bool.and_eq_true, beq_iff_eq] at hbe
    have := hall e he hbe.1
    rwa [hbe.2] at this

/-- Carried out. -/
theorem wpAny_of_beforeT {n s : Nat} {L : Act → Prop} {Q' : Exit → Act → World → Prop} (hC : ∀ w w', C w → Below w.heap.size w w' → C w')
    (hL : ∀ listed a w, tailFrom md ops s n listed = true → C w → L a → wpAny P md ops Q' s listed a w) :
    ∀ (f : Nat) (listed : Array Bool) (a : Act) (w : World), C w → beforeT P md ops C n s L f listed a → wpAny P md ops Q' (f + s) listed a w := by
  intro f
  induction f with
  | zero =>
    intro listed a w hw h
    rw [Nat.zero_add]
    exact hL _ _ _ h.1 hw h.2
  | succ f ih =>
    intro listed a w hw h
    obtain ⟨_, h1, h2⟩ := h
    rw [Nat.succ_add]
    refine ⟨fun h => absurd h h1, fun i hi => ?_⟩
    obtain ⟨_, o, ho, _⟩ := mem_ready.1 hi
    obtain ⟨v, hy, hK⟩ := gives_of_rOp ho (h2 i hi)
    unfold wpOp
    rw [ho]
    dsimp only
    rcases hy with ⟨hwn, hv⟩ | ⟨hwn, rfl⟩
    · rw [if_pos hwn]
      exact .inl (wp_of_relAt (hv w hw) fun w' hb => ih _ _ _ (hC w w' hw hb) hK)
    · rw [if_neg (by rw [hwn]; decide)]
      exact ih _ _ _ hw hK

/-! ### one operation of whatever value -/
abbrev Rel := Value → World → Prop
/-- Some value of which R holds; of what was there nothing has turned. -/
def someUpon (P : Program) (R : Rel) (w : World) : Result Next → Prop
  | .ok (.value u) w' => Below w.heap.size w w' ∧ R u w'
  | .ok (.enter f args) w' => w' = w ∧ Calls P f args w (fun e w'' => ∃ u, e = .returned u ∧ Below w.heap.size w w'' ∧ R u w'')
  | _ => False
def someAt (P : Program) (o : Oper) (a : Act) (R : Rel) (w : World) : Prop := someUpon P R w ((execOp a.eval o).run P w)
theorem wp_of_someAt {o : Oper} {a : Act} {w : World} {R : Rel} {K : Act → World → Prop} {Q' : Exit → Act → World → Prop} (h : someAt P o a R w) (hk : ∀ v w', Below w.heap.size w w' → R v w' → K (a.put o.dst v) w') : o.wp P a w K Q' := by
  unfold someAt at h
  unfold Oper.wp
  generalize (execOp a.eval o).run P w = r at *
  cases r with
  | ok nx w' =>
    cases nx <;> simp only [someUpon] at h <;> simp only [Oper.upon]
    case value u => exact hk _ _ h.1 h.2
    case enter f args =>
      obtain ⟨e1, hc⟩ := h
      rw [e1]
      exact hc.mono fun e w'' ⟨u, he, hb, hR⟩ => by subst he; exact hk _ _ hb hR
  | halt x w' => simp only [someUpon] at h

theorem getD_any {listed : Array Bool} {i : Nat} (h : i < listed.size) : listed.getD i true = listed.getD i false := by simp [h]

/-- What is asked of the one operation, number m, by reckoning. -/
structure Loose (md : Region.Mode) (ops : Array Oper) (m : Nat) (oA : Oper) : Prop where
  at_ : ops[m]? = some oA
  guard : oA.guard = none
  apart : ∀ (i : Nat) (o : Oper), ops[i]? = some o → i < m → (∀ e ∈ oA.after, Region.binds md e = true → e.on ≠ i) → oA.apart ops o = true
  low : ∀ e ∈ oA.after, Region.binds md e = true → e.on < m
  lows : ∀ (i : Nat) (o : Oper), ops[i]? = some o → i < m → ∀ e ∈ o.after, Region.binds md e = true → e.on < i
  high : ∀ (j : Nat) (o : Oper), ops[j]? = some o → m < j → ∃ e ∈ o.after, Region.binds md e = true ∧ (e.on = m + 1 ∧ m + 1 < j ∨ e.on = m ∧ j = m + 1)
  sel : ∀ (j : Nat) (o : Oper) cs b, ops[j]? = some o → o.op ≠ .select cs b
def looseB (md : Region.Mode) (ops : Array Oper) (m : Nat) : Bool :=
  Region.noSelect ops &&
  match ops[m]? with
  | none => false
  | some oA => oA.guard.isNone && oA.after.all (fun e => !Region.binds md e || decide (e.on < m)) &&
    (List.range m).all (fun i => match ops[i]? with | none => true | some o => (oA.after.any (fun e => Region.binds md e && e.on == i) || oA.apart ops o) && o.after.all (fun e => !Region.binds md e || decide (e.on < i))) &&
    (List.range ops.size).all (fun j => decide (j ≤ m) || match ops[j]? with | none => true | some o => o.after.any (fun e => Region.binds md e && e.on == (if j == m + 1 then m else m + 1)))
theorem loose_of {m : Nat} (h : looseB md ops m = true) : ∃ oA, Loose md ops m oA := by
  unfold looseB at h
  rw [Bool.and_eq_true] at h
  obtain ⟨h0, h⟩ := h
  cases hA : ops[m]? with
  | none => rw [hA] at h; cases h
  | some oA =>
    rw [hA] at h
    simp only [Bool.and_eq_true, Option.isNone_iff_eq_none] at h
    obtain ⟨⟨⟨h1, h2⟩, h3⟩, h4⟩ := h
    have lower : ∀ (x : Array Edge) (k : Nat), (x.all fun e => !Region.binds md e || decide (e.on < k)) = true → ∀ e ∈ x, Region.binds md e = true → e.on < k := fun x k hx e he hb => by
      have := Array.all_eq_true_iff_forall_mem.1 hx e he
      simpa [hb] using this
    refine ⟨oA, hA, h1, fun i o ho hi hno => ?_, lower _ _ h2, fun i o ho hi => ?_, fun j o ho hj => ?_, Region.noSelect_spec h0⟩
    · have h5 := List.all_eq_true.1 h3 i (List.mem_range.2 hi)
      rw [ho] at h5
      simp only [Bool.and_eq_true, Bool.or_eq_true] at h5
      rcases h5.1 with h6 | h6
      · obtain ⟨e, he, hb⟩ := Array.any_eq_true'.1 h6
        simp only [Bool.and_eq_true, beq_iff_eq] at hb
        exact absurd hb.2 (hno e he hb.1)
      · exact h6
    · have h5 := List.all_eq_true.1 h3 i (List.mem_range.2 hi)
      rw [ho] at h5
      simp only [Bool.and_eq_true] at h5
      exact lower _ _ h5.2
    · have h5 := List.all_eq_true.1 h4 j (List.mem_range.2 (Array.getElem?_eq_some_iff.1 ho).1)
      rw [ho] at h5
      simp only [Bool.or_eq_true, decide_eq_true_eq] at h5
      rcases h5 with h5 | h5
      · omega
      · obtain ⟨e, he, hb⟩ := Array.any_eq_true'.1 h5
        simp only [Bool.and_eq_true, beq_iff_eq] at hb
        refine ⟨e, he, hb.1, ?_⟩
        by_cases hj2 : j = m + 1
        · exact .inr ⟨by simpa [hj2] using hb.2, hj2⟩
        · exact .inl ⟨by simpa [hj2] using hb.2, by omega⟩

variable {m s : Nat} {oA : Oper} {R : Rel} {L : Act → Prop} {Q' : Exit → Act → World → Prop}
/-- Nothing of the tail has come up. -/
def Early (m : Nat) (ops : Array Oper) (listed : Array Bool) : Prop := listed.size = ops.size ∧ ∀ j, m < j → listed.getD j false = false
theorem Early.set {listed : Array Bool} (h : Early m ops listed) {i : Nat} (hi : i ≤ m) : Early m ops (listed.setIfInBounds i true) :=
  ⟨by simp [h.1], fun j hj => by rw [getD_set_ne false (by omega)]; exact h.2 j hj⟩
theorem Loose.below (H : Loose md ops m oA) {listed : Array Bool} (hE : Early m ops listed) (hn : m + 1 ∉ Region.ready md ops listed) {i : Nat} (hi : i ∈ Region.ready md ops listed) : i ≤ m := by
  obtain ⟨_, o, ho, hall⟩ := mem_ready.1 hi
  rcases Nat.lt_or_ge m i with h | h
  · exfalso
    obtain ⟨e, he, hb, h1 | h1⟩ := H.high i o ho h
    · have h2 := hall e he hb
      rw [h1.1, hE.2 _ (by omega)] at h2; cases h2
    · exact hn (h1.2 ▸ hi)
  · exact h
theorem Loose.after_m (H : Loose md ops m oA) {listed : Array Bool} (hn : m + 1 ∈ Region.ready md ops listed) : listed.getD m false = true := by
  obtain ⟨_, o, ho, hall⟩ := mem_ready.1 hn
  obtain ⟨e, he, hb, h1 | h1⟩ := H.high (m + 1) o ho (by omega)
  · omega
  · rw [← h1.1]; exact hall e he hb

/-- While it may come up, and has not, it does what it does behind all. -/
theorem Loose.back (H : Loose md ops m oA) (hL : ∀ a, L a → ∀ w, C w → someAt P oA a R w) :
    ∀ (f : Nat) (listed : Array Bool) (a : Act), Early m ops listed → listed.getD m false = true → (∀ e ∈ oA.after, Region.binds md e = true → listed.getD e.on false = true) → beforeT P md ops C (m + 1) s L f listed a → ∀ w, C w → someAt P oA a R w := by
  intro f
  induction f with
  | zero => intro listed a _ _ _ h; exact hL _ h.2
  | succ f ih =>
    intro listed a hE hm hd h
    obtain ⟨hn, h1, h2⟩ := h
    obtain ⟨i, hi⟩ : ∃ i, i ∈ Region.ready md ops listed := by
      cases hr : Region.ready md ops listed with
      | nil => exact absurd hr h1
      | cons i _ => exact ⟨i, by simp⟩
    obtain ⟨hun, o, ho, _⟩ := mem_ready.1 hi
    have him : i < m := by
      have h3 := H.below hE hn hi
      rcases Nat.lt_or_ge i m with h4 | h4
      · exact h4
      · obtain rfl : i = m := by omega
        rw [getD_any (by rw [hE.1]; exact (Array.getElem?_eq_some_iff.1 ho).1), hm] at hun; cases hun
    have ha := H.apart i o ho him fun e he hb heq => by
      have h3 := hd e he hb
      rw [heq] at h3
      rw [getD_any (by rw [hE.1]; exact (Array.getElem?_eq_some_iff.1 ho).1), h3] at hun; cases hun
    obtain ⟨v, _, hK⟩ := gives_of_rOp ho (h2 i hi)
    have h4 := ih (listed.setIfInBounds i true) _ (hE.set (by omega)) (by rw [getD_set_ne false (by omega)]; exact hm) (fun e he hb => getD_set_true (hd e he hb)) hK
    intro w hw
    have h5 := h4 w hw
    obtain ⟨_, _, h6⟩ := Oper.apart_spec ha
    unfold someAt at h5 ⊢
    rwa [execOp_put oA (fun cs b => H.sel m oA cs b H.at_) a o.dst v h6] at h5

/-- Behind it. -/
theorem Loose.behind (H : Loose md ops m oA) {p : Value} {S : World → Prop}
    (hC : ∀ w w', C w → Below w.heap.size w w' → C w') (hS : ∀ w w', S w → Below w.heap.size w w' → S w')
    (hL : ∀ listed a w, tailFrom md ops s (m + 1) listed = true → C w → S w → L a → wpAny P md ops Q' s listed (a.put oA.dst p) w) :
    ∀ (f : Nat) (listed : Array Bool) (a : Act) (w : World), C w → S w → Early m ops listed → listed.getD m false = true → (∀ e ∈ oA.after, Region.binds md e = true → listed.getD e.on false = true) → beforeT P md ops C (m + 1) s L f listed a →
      wpAny P md ops Q' (f + s) listed (a.put oA.dst p) w := by
  intro f
  induction f with
  | zero =>
    intro listed a w hw hs _ _ _ h
    rw [Nat.zero_add]
    exact hL _ _ _ h.1 hw hs h.2
  | succ f ih =>
    intro listed a w hw hs hE hm hd h
    obtain ⟨hn, h1, h2⟩ := h
    rw [Nat.succ_add]
    refine ⟨fun h => absurd h h1, fun i hi => ?_⟩
    obtain ⟨hun, o, ho, _⟩ := mem_ready.1 hi
    have him : i < m := by
      have h3 := H.below hE hn hi
      rcases Nat.lt_or_ge i m with h4 | h4
      · exact h4
      · obtain rfl : i = m := by omega
        rw [getD_any (by rw [hE.1]; exact (Array.getElem?_eq_some_iff.1 ho).1), hm] at hun; cases hun
    have ha := H.apart i o ho him fun e he hb heq => by
      have h3 := hd e he hb
      rw [heq] at h3
      rw [getD_any (by rw [hE.1]; exact (Array.getElem?_eq_some_iff.1 ho).1), h3] at hun; cases hun
    obtain ⟨v, hy, hK⟩ := gives_of_rOp ho (h2 i hi)
    obtain ⟨_, hdd, _⟩ := Oper.apart_spec ha
    have hcomm : (a.put oA.dst p).put o.dst v = (a.put o.dst v).put oA.dst p := Act.put_comm a p v hdd
    have hm' : (listed.setIfInBounds i true).getD m false = true := by rw [getD_set_ne false (by omega)]; exact hm
    have hd' : ∀ e ∈ oA.after, Region.binds md e = true → (listed.setIfInBounds i true).getD e.on false = true := fun e he hb => getD_set_true (hd e he hb)
    have hy' : Gives P ops C o v (a.put oA.dst p) := (Gives.put_iff (fun cs b => H.sel i o cs b ho) ha).2 hy
    unfold wpOp
    rw [ho]
    dsimp only
    rcases hy' with ⟨hwn, hv⟩ | ⟨hwn, rfl⟩
    · rw [if_pos hwn]
      refine .inl (wp_of_relAt (hv w hw) fun w' hb => ?_)
      rw [hcomm]
      exact ih _ _ _ (hC w w' hw hb) (hS w w' hs hb) (hE.set (by omega)) hm' hd' hK
    · rw [if_neg (by rw [hwn]; decide), hcomm]
      exact ih _ _ _ hw hs (hE.set (by omega)) hm' hd' hK

/-- All those ahead have come up, if the tail is next. -/
theorem Loose.all_up (H : Loose md ops m oA) {listed : Array Bool} (hE : Early m ops listed) (ht : tailFrom md ops s (m + 1) (listed.setIfInBounds m true) = true) : ∀ i, i < m → listed.getD i false = true := by
  intro i
  induction i using Nat.strongRecOn with
  | _ i ih =>
    intro hi
    cases hun : listed.getD i false with
    | true => rfl
    | false =>
      exfalso
      have hlt : i < ops.size := by have := (Array.getElem?_eq_some_iff.1 H.at_).1; omega
      have hr : i ∈ Region.ready md ops (listed.setIfInBounds m true) := by
        refine mem_ready.2 ⟨?_, ops[i], Array.getElem?_eq_getElem hlt, fun e he hb => ?_⟩
        · rw [getD_set_ne true (by omega), getD_any (by rw [hE.1]; exact hlt)]; exact hun
        · have h1 := H.lows i _ (Array.getElem?_eq_getElem hlt) hi e he hb
          exact getD_set_true (ih _ h1 (by omega))
      have := tail_ready ht hr
      omega

theorem Loose.wpAny (H : Loose md ops m oA)
    (hC : ∀ w w', C w → Below w.heap.size w w' → C w') (hR : ∀ v w w', R v w → Below w.heap.size w w' → R v w')
    (hL0 : ∀ a, L a → ∀ w, C w → someAt P oA a R w)
    (hL : ∀ listed a v w, tailFrom md ops s (m + 1) listed = true → C w → R v w → L a → wpAny P md ops Q' s listed (a.put oA.dst v) w) :
    ∀ (f : Nat) (listed : Array Bool) (a : Act) (w : World), C w → Early m ops listed → listed.getD m false = false → beforeT P md ops C (m + 1) s L f (listed.setIfInBounds m true) a → wpAny P md ops Q' (f + (s + 1)) listed a w := by
  have hmsz := (Array.getElem?_eq_some_iff.1 H.at_).1
  have main : ∀ (f : Nat) (listed : Array Bool) (a : Act) (w : World), C w → Early m ops listed → m ∈ Region.ready md ops listed → beforeT P md ops C (m + 1) s L f (listed.setIfInBounds m true) a → wpOp P ops Q' m (Go.wpAny P md ops Q' (f + s) (listed.setIfInBounds m true)) a w := by
    intro f listed a w hw hE hr h
    obtain ⟨_, o, ho, hall⟩ := mem_ready.1 hr
    rw [H.at_] at ho
    obtain rfl := Option.some.inj ho
    have hin : (listed.setIfInBounds m true).getD m false = true := by simp [hE.1, hmsz]
    have hd : ∀ e ∈ oA.after, Region.binds md e = true → (listed.setIfInBounds m true).getD e.on false = true := fun e he hb => getD_set_true (hall e he hb)
    have hs := H.back hL0 f _ a (hE.set (Nat.le_refl _)) hin hd h w hw
    unfold wpOp
    rw [H.at_]
    dsimp only
    rw [if_pos (by simp [Region.wanted, H.guard])]
    exact .inl (wp_of_someAt hs fun v w' hb hv => H.behind (S := R v) hC (hR v) (fun listed a w h1 h2 h3 h4 => hL listed a v w h1 h2 h3 h4) f _ a w' (hC _ _ hw hb) hv (hE.set (Nat.le_refl _)) hin hd h)
  intro f
  induction f with
  | zero =>
    intro listed a w hw hE hm h
    have hup := H.all_up hE h.1
    have hmr : m ∈ Region.ready md ops listed := mem_ready.2 ⟨by rw [getD_any (by rw [hE.1]; exact hmsz)]; exact hm, oA, H.at_, fun e he hb => hup _ (H.low e he hb)⟩
    rw [show 0 + (s + 1) = (0 + s) + 1 by omega]
    refine ⟨fun he => (by rw [he] at hmr; cases hmr), fun i hi => ?_⟩
    by_cases him : i = m
    · subst him; exact main 0 listed a w hw hE hi h
    · have h1 := tail_ready h.1 (ready_mono hi him)
      subst h1
      have := H.after_m hi
      rw [hm] at this; cases this
  | succ f ih =>
    intro listed a w hw hE hm h
    have h0 := h
    obtain ⟨hn, h1, h2⟩ := h
    have hin : (listed.setIfInBounds m true).getD m false = true := by simp [hE.1, hmsz]
    rw [show f + 1 + (s + 1) = (f + (s + 1)) + 1 by omega]
    refine ⟨fun he => ?_, fun i hi => ?_⟩
    · exfalso
      obtain ⟨i, hi⟩ : ∃ i, i ∈ Region.ready md ops (listed.setIfInBounds m true) := by
        cases hr : Region.ready md ops (listed.setIfInBounds m true) with
        | nil => exact absurd hr h1
        | cons i _ => exact ⟨i, by simp⟩
      obtain ⟨hun, o, ho, hall⟩ := mem_ready.1 hi
      have hil := H.below (hE.set (Nat.le_refl _)) hn hi
      have him : i ≠ m := fun e => by
        subst e
        rw [getD_any (by simp [hE.1, hmsz]), hin] at hun; cases hun
      have : i ∈ Region.ready md ops listed := mem_ready.2 ⟨by rw [getD_set_ne true (Ne.symm him)] at hun; exact hun, o, ho, fun e he' hb => by
        have h3 := hall e he' hb
        have h4 := H.lows i o ho (by omega) e he' hb
        rwa [getD_set_ne false (by omega)] at h3⟩
      rw [he] at this; cases this
    · by_cases him : i = m
      · subst him
        have := main (f + 1) listed a w hw hE hi h0
        rwa [show f + 1 + s = f + (s + 1) by omega] at this
      · obtain ⟨_, o, ho, _⟩ := mem_ready.1 hi
        have hi' := ready_mono hi him
        have hil : i < m := by have := H.below (hE.set (Nat.le_refl _)) hn hi'; omega
        obtain ⟨v, hy, hK⟩ := gives_of_rOp ho (h2 i hi')
        rw [Array.setIfInBounds_comm _ _ (Ne.symm him)] at hK
        have hm' : (listed.setIfInBounds i true).getD m false = false := by rw [getD_set_ne false (by omega)]; exact hm
        unfold wpOp
        rw [ho]
        dsimp only
        rcases hy with ⟨hwn, hv⟩ | ⟨hwn, rfl⟩
        · rw [if_pos hwn]
          exact .inl (wp_of_relAt (hv w hw) fun w' hb => ih _ _ _ (hC w w' hw hb) (hE.set (by omega)) hm' hK)
        · rw [if_neg (by rw [hwn]; decide)]
          exact ih _ _ _ hw (hE.set (by omega)) hm' hK

/-! ### The laws -/
abbrev Cls (w : World) : World → Prop := fun w' => ∃ p : Regrown, w' = Go.Sort.grow (redrawn w p.d) p.os
theorem cls_below {w w' : World} (h : Cls w w') : Below w.heap.size w w' := by obtain ⟨p, rfl⟩ := h; exact below_regrown w p.d p.os
theorem cls_on {w w1 w2 : World} (h : Cls w w1) (k : Below w1.heap.size w1 w2) : Cls w w2 := regrown_of_below (after (cls_below h) k)
theorem cls_drawn (w : World) : Cls w { w with drawn := w.drawn + 1 } := ⟨⟨w.drawn + 1, #[]⟩, by rw [Go.Sort.grow_empty]; rfl⟩

def regB (md : Region.Mode) (ops : Array Oper) (k : Nat) : Bool := Region.noSelect ops && quietFrom md ops k (ops.size - k) k 0 (Array.replicate ops.size false)
/-- k operations that read or call, then a forced tail. -/
theorem any_reg {Q : Exit → Act → World → Prop} {a : Act} {w : World} {l : List Oper} (k : Nat) (hk : k ≤ l.length) (hB : regB .any l.toArray k = true)
    (h : wpRel P l.toArray (Cls w) (fun a' => ∀ w', Below w.heap.size w w' → wpList P l.toArray Q (l.drop k) a' w') (l.take k) a) :
    Go.wpAny P .any l.toArray Q l.toArray.size (Array.replicate l.toArray.size false) a { w with drawn := w.drawn + 1 } := by
  simp only [regB, Bool.and_eq_true] at hB
  have hsz : l.toArray.size = l.length := by simp
  have ht : (l.take k).length = k := by simp; omega
  have hx := beforeT_lex (C := Cls w) (md := .any) (n := k) (s := l.toArray.size - k) hB.1 (l.take k) 0 (Array.replicate l.toArray.size false) a
    (fun j hj => by simp only [Nat.zero_add, List.getElem?_toArray]; rw [List.getElem?_take_of_lt (by omega)]) (by rw [ht]; exact hB.2) h
  rw [ht] at hx
  have := wpAny_of_beforeT (Q' := Q) (fun w1 w2 h1 h2 => cls_on h1 h2) (fun listed a' w' ht' hw' hL => by
    have hd : (l.drop k).length = l.toArray.size - k := by simp
    have h5 := wpAny_of_tail (P := P) (Q := Q) (md := .any) (ops := l.toArray) (l.drop k) k listed a' w' (fun j hj => by simp [List.getElem?_drop]) (by rw [hd]; exact ht') (hL w' (cls_below hw'))
    rw [hd] at h5
    exact h5) k (Array.replicate l.toArray.size false) a { w with drawn := w.drawn + 1 } (cls_drawn w) hx
  rwa [show k + (l.toArray.size - k) = l.toArray.size by omega] at this

def someB (md : Region.Mode) (ops : Array Oper) (m : Nat) : Bool := looseB md ops m && quietFrom md ops (m + 1) (ops.size - (m + 1)) m 0 ((Array.replicate ops.size false).setIfInBounds m true)
/-- m operations that read or call, one of whatever value that its relation lets, then a forced tail. -/
theorem any_some {Q : Exit → Act → World → Prop} {a : Act} {w : World} {l : List Oper} {oA : Oper} (m : Nat) (R : Rel) (hA : l[m]? = some oA) (hB : someB .any l.toArray m = true) (hR : ∀ v w w', R v w → Below w.heap.size w w' → R v w')
    (h : wpRel P l.toArray (Cls w) (fun a' => (∀ w', Cls w w' → someAt P oA a' R w') ∧ ∀ v w', Below w.heap.size w w' → R v w' → wpList P l.toArray Q (l.drop (m + 1)) (a'.put oA.dst v) w') (l.take m) a) :
    Go.wpAny P .any l.toArray Q l.toArray.size (Array.replicate l.toArray.size false) a { w with drawn := w.drawn + 1 } := by
  simp only [someB, Bool.and_eq_true] at hB
  obtain ⟨oA', H⟩ := loose_of hB.1
  have hA' : l.toArray[m]? = some oA := by simpa using hA
  obtain rfl : oA = oA' := by have := H.at_; rw [hA'] at this; exact Option.some.inj this
  have hsz : l.toArray.size = l.length := by simp
  have hm : m < l.length := (List.getElem?_eq_some_iff.1 hA).1
  have ht : (l.take m).length = m := by simp; omega
  have hns : Region.noSelect l.toArray = true := by have := hB.1; unfold looseB at this; rw [Bool.and_eq_true] at this; exact this.1
  have hx := beforeT_lex (C := Cls w) (md := .any) (n := m + 1) (s := l.toArray.size - (m + 1)) hns (l.take m) 0 ((Array.replicate l.toArray.size false).setIfInBounds m true) a
    (fun j hj => by simp only [Nat.zero_add, List.getElem?_toArray]; rw [List.getElem?_take_of_lt (by omega)]) (by rw [ht]; exact hB.2) h
  rw [ht] at hx
  have := H.wpAny (Q' := Q) (R := R) (s := l.toArray.size - (m + 1)) (fun w1 w2 h1 h2 => cls_on h1 h2) hR (fun a h => h.1) (fun listed a' v w' ht' hw' hv hL => by
    have hd : (l.drop (m + 1)).length = l.toArray.size - (m + 1) := by simp
    have h5 := wpAny_of_tail (P := P) (Q := Q) (md := .any) (ops := l.toArray) (l.drop (m + 1)) (m + 1) listed _ w' (fun j hj => by simp [List.getElem?_drop]) (by rw [hd]; exact ht') (hL.2 v w' (cls_below hw') hv)
    rw [hd] at h5
    exact h5) m (Array.replicate l.toArray.size false) a { w with drawn := w.drawn + 1 } (cls_drawn w) ⟨by simp, fun j _ => by simp [Array.getElem?_replicate]; split <;> rfl⟩ (by simp [Array.getElem?_replicate]; split <;> rfl) hx
  rwa [show m + (l.toArray.size - (m + 1) + 1) = l.toArray.size by omega] at this

theorem wp_reg {id : Nat} {Q : Exit → Act → World → Prop} {a : Act} {w : World} {l : List Oper} (k : Nat) (hm : P.follows .mixedOrders = true) (hk : k ≤ l.length) (hB : regB .any l.toArray k = true)
    (h : wpRel P l.toArray (Cls w) (fun a' => ∀ w', Below w.heap.size w w' → wpList P l.toArray Q (l.drop k) a' w') (l.take k) a) : (Code.region id l.toArray true).wp P Q a w := wp_region_any hm (any_reg k hk hB h)
theorem wp_some {id : Nat} {Q : Exit → Act → World → Prop} {a : Act} {w : World} {l : List Oper} {oA : Oper} (m : Nat) (R : Rel) (hm : P.follows .mixedOrders = true) (hA : l[m]? = some oA) (hB : someB .any l.toArray m = true) (hR : ∀ v w w', R v w → Below w.heap.size w w' → R v w')
    (h : wpRel P l.toArray (Cls w) (fun a' => (∀ w', Cls w w' → someAt P oA a' R w') ∧ ∀ v w', Below w.heap.size w w' → R v w' → wpList P l.toArray Q (l.drop (m + 1)) (a'.put oA.dst v) w') (l.take m) a) : (Code.region id l.toArray true).wp P Q a w :=
  wp_region_any hm (any_some m R hA hB hR h)

/-! ### In a round -/
def noDefer (ops : Array Oper) : Bool := ops.all fun o => match o.op with | .defer _ => false | _ => true
theorem noDefer_spec (h : noDefer ops = true) {j : Nat} {o : Oper} (ho : ops[j]? = some o) (c : Call) : o.op ≠ .defer c := by
  intro heq
  have := Array.all_eq_true_iff_forall_mem.1 h o (Array.mem_of_getElem? ho)
  simp [heq] at this
theorem rowsIn_wide {l n : Nat} {row : String} {args : Array Value} {w : World} {X : Value → World → Prop} (h : Rows P row args w X) : RowsIn (Fence.wide.inRound l) n P row args w X :=
  fun c cs _ => let ⟨v, w', hx, hs⟩ := h c cs; ⟨v, w', hx, by rw [fenced_inRound]; exact stepsIn_wide.2 hs⟩
theorem op_in {l n : Nat} {o : Oper} {a : Act} {w : World} {K K' : Act → World → Prop} {Q : Exit → Act → World → Prop} (hd : ∀ c, o.op ≠ .defer c) (hK : ∀ a w, K a w → K' a w) (h : o.wp P a w K Q) : o.wpIn (Fence.wide.inRound l) n P a w K' Q := by
  refine ⟨fun _ _ => trivial, ?_⟩
  rw [Oper.semAt_eq _ _ _ hd]
  unfold Oper.wp at h
  generalize (execOp a.eval o).run P w = r at *
  cases r with
  | ok nx w' =>
    cases nx <;> simp only [Oper.upon] at h <;> simp only [Oper.uponIn]
    case value u => exact hK _ _ h
    case skip => exact hK _ _ h
    case defer d => exact hK _ _ h
    case enter f args =>
      refine ⟨fun h => (by cases h), CallsIn.inRound l (callsIn_wide.2 (h.mono fun e w'' he => ?_))⟩
      cases e with
      | returned v => exact hK _ _ he
      | panicked c => exact he
      | outgrown => exact he
    case row r args => exact ⟨fun h => (by cases h), rowsIn_wide fun c cs => let ⟨v, w'', hx, hs⟩ := h c cs; ⟨v, w'', hK _ _ hx, hs⟩⟩
  | halt x w' => cases x <;> simp only [Oper.upon] at h <;> first | exact h | cases h
theorem any_in {l n : Nat} {Q : Exit → Act → World → Prop} (hd : noDefer ops = true) (hQ : ¬ LetsOut Q) : ∀ (f : Nat) (listed : Array Bool) (a : Act) (w : World), Go.wpAny P md ops Q f listed a w → wpAnyIn (Fence.wide.inRound l) n P md ops Q f listed a w := by
  intro f
  induction f with
  | zero => intro listed a w h; exact h
  | succ f ih =>
    intro listed a w h
    refine ⟨h.1, fun i hi => ?_⟩
    have h1 := h.2 i hi
    unfold wpOp at h1
    unfold wpOpIn
    cases ho : ops[i]? with
    | none => rw [ho] at h1; exact ih _ _ _ h1
    | some o =>
      rw [ho] at h1
      dsimp only at h1 ⊢
      by_cases hw : Region.wanted o (yielded ops a.tmps) = true
      · rw [if_pos hw] at h1 ⊢
        rcases h1 with h1 | h1
        · exact op_in (noDefer_spec hd ho) (fun a w => ih _ a w) h1
        · exact absurd h1.2 hQ
      · rw [if_neg hw] at h1 ⊢
        exact ⟨fun _ _ => trivial, ih _ _ _ h1⟩
theorem in_reg {l' n id : Nat} {Q : Exit → Act → World → Prop} {a : Act} {w : World} {l : List Oper} (k : Nat) (hm : P.follows .mixedOrders = true) (hk : k ≤ l.length) (hB : regB .any l.toArray k = true) (hd : noDefer l.toArray = true) (hQ : ¬ LetsOut Q)
    (h : wpRel P l.toArray (Cls w) (fun a' => ∀ w', Below w.heap.size w w' → wpList P l.toArray Q (l.drop k) a' w') (l.take k) a) : (Code.region id l.toArray true).wpIn (Fence.wide.inRound l') n P Q a w :=
  wpIn_region_any hm (any_in hd hQ _ _ _ _ (any_reg k hk hB h))
theorem in_some {l' n id : Nat} {Q : Exit → Act → World → Prop} {a : Act} {w : World} {l : List Oper} {oA : Oper} (m : Nat) (R : Rel) (hm : P.follows .mixedOrders = true) (hA : l[m]? = some oA) (hB : someB .any l.toArray m = true) (hR : ∀ v w w', R v w → Below w.heap.size w w' → R v w') (hd : noDefer l.toArray = true) (hQ : ¬ LetsOut Q)
    (h : wpRel P l.toArray (Cls w) (fun a' => (∀ w', Cls w w' → someAt P oA a' R w') ∧ ∀ v w', Below w.heap.size w w' → R v w' → wpList P l.toArray Q (l.drop (m + 1)) (a'.put oA.dst v) w') (l.take m) a) : (Code.region id l.toArray true).wpIn (Fence.wide.inRound l') n P Q a w :=
  wpIn_region_any hm (any_in hd hQ _ _ _ _ (any_some m R hA hB hR h))
end
end Go.Proofs.Ytnokibdecnddlaa

/- A region that draws its order, in general. Each operation is of a kind: 0: it reads, or calls what makes only new memory; 1: likewise, whatever the world (addresses); 2: its value is told by a relation alone (a new variable, a new row, a call that hands back new memory); 3: the tail, which comes in the text's order behind all but those of kind 1. One walk serves every order. No program in sight. -/
namespace Go.Proofs.Ytnokibdecnddlaa
open Go.RowKit

section
variable {P : Program} {ops : Array Oper} {C : World → Prop}
def dstOf (ops : Array Oper) (i : Nat) : Option Tmp := (ops[i]?).bind (·.dst)
def kd (ks : List Nat) (i : Nat) : Nat := ks.getD i 3

/-! ### states -/
theorem put_size (a : Act) (x : Option Tmp) (v : Value) : (a.put x v).tmps.size = a.tmps.size := by cases x <;> simp [Act.put]
theorem put_defers (a : Act) (x : Option Tmp) (v : Value) : (a.put x v).defers = a.defers := by cases x <;> rfl
theorem put_miss (a : Act) {x : Option Tmp} {t : Nat} (v : Value) (h : x ≠ some t) : (a.put x v).tmps.getD t undef = a.tmps.getD t undef := by
  cases x with
  | none => rfl
  | some d =>
    have hne : d ≠ t := fun e => h (by rw [e])
    simp [Act.put, Array.getElem?_setIfInBounds_ne hne]
theorem put_hit (a : Act) {t : Nat} (v : Value) (h : t < a.tmps.size) : (a.put (some t) v).tmps.getD t undef = v := by simp [Act.put, h]
theorem act_ext {a b : Act} (h1 : a.tmps.size = b.tmps.size) (h2 : ∀ t, a.tmps.getD t undef = b.tmps.getD t undef) (h3 : a.defers = b.defers) : a = b := by
  obtain ⟨ta, da⟩ := a
  obtain ⟨tb, db⟩ := b
  dsimp only at *
  subst h3
  congr 1
  apply Array.ext h1
  intro i hi hj
  have := h2 i
  simpa [hi, hj] using this
def stL (ops : Array Oper) (V : Nat → Value) (S : List Nat) (a : Act) : Act := S.foldl (fun a i => a.put (dstOf ops i) (V i)) a
theorem stL_cons (V : Nat → Value) (i : Nat) (S : List Nat) (a : Act) : stL ops V (i :: S) a = stL ops V S (a.put (dstOf ops i) (V i)) := rfl
theorem stL_app (V : Nat → Value) (S T : List Nat) (a : Act) : stL ops V (S ++ T) a = stL ops V T (stL ops V S a) := by simp [stL, List.foldl_append]
theorem stL_size (V : Nat → Value) (S : List Nat) : ∀ a, (stL ops V S a).tmps.size = a.tmps.size := by
  induction S with
  | nil => intro a; rfl
  | cons i S ih => intro a; rw [stL_cons, ih, put_size]
theorem stL_defers (V : Nat → Value) (S : List Nat) : ∀ a, (stL ops V S a).defers = a.defers := by
  induction S with
  | nil => intro a; rfl
  | cons i S ih => intro a; rw [stL_cons, ih, put_defers]
theorem stL_miss (V : Nat → Value) {t : Nat} (S : List Nat) : ∀ a, (∀ j ∈ S, dstOf ops j ≠ some t) → (stL ops V S a).tmps.getD t undef = a.tmps.getD t undef := by
  induction S with
  | nil => intro a _; rfl
  | cons i S ih => intro a h; rw [stL_cons, ih _ (fun j hj => h j (List.mem_cons_of_mem _ hj)), put_miss _ _ (h i (by simp))]
def Apart (ops : Array Oper) : Prop := ∀ i j d, i ≠ j → dstOf ops i = some d → dstOf ops j ≠ some d
theorem stL_hit (hD : Apart ops) (V : Nat → Value) {t j : Nat} (hj : dstOf ops j = some t) (S : List Nat) : ∀ a, t < a.tmps.size → j ∈ S → (stL ops V S a).tmps.getD t undef = V j := by
  induction S with
  | nil => intro a _ h; cases h
  | cons i S ih =>
    intro a ht h
    rw [stL_cons]
    by_cases hS : j ∈ S
    · exact ih _ (by rw [put_size]; exact ht) hS
    · have hij : j = i := by
        rcases List.mem_cons.1 h with e | e
        · exact e
        · exact absurd e hS
      subst hij
      rw [stL_miss V S _ (fun k hk e => hD j k t (fun e' => hS (e' ▸ hk)) hj e), hj, put_hit _ _ ht]
theorem stL_agree (hD : Apart ops) {V V' : Nat → Value} {S T : List Nat} {a : Act} {t : Nat} (h : ∀ j, dstOf ops j = some t → (j ∈ S ↔ j ∈ T) ∧ (j ∈ S → V j = V' j)) : (stL ops V S a).tmps.getD t undef = (stL ops V' T a).tmps.getD t undef := by
  by_cases ht : t < a.tmps.size
  · by_cases he : ∃ j ∈ S, dstOf ops j = some t
    · obtain ⟨j, hj, hd⟩ := he
      rw [stL_hit hD V hd S a ht hj, stL_hit hD V' hd T a ht ((h j hd).1.1 hj)]
      exact (h j hd).2 hj
    · rw [stL_miss V S a (fun j hj hd => he ⟨j, hj, hd⟩), stL_miss V' T a (fun j hj hd => he ⟨j, (h j hd).1.2 hj, hd⟩)]
  · have h1 : ¬ t < (stL ops V S a).tmps.size := by rw [stL_size]; exact ht
    have h2 : ¬ t < (stL ops V' T a).tmps.size := by rw [stL_size]; exact ht
    simp [h1, h2]
theorem stL_same (hD : Apart ops) {V V' : Nat → Value} {S T : List Nat} {a : Act} (h : ∀ j, (j ∈ S ↔ j ∈ T) ∧ (j ∈ S → V j = V' j)) : stL ops V S a = stL ops V' T a :=
  act_ext (by rw [stL_size, stL_size]) (fun _ => stL_agree hD fun j _ => h j) (by rw [stL_defers, stL_defers])

/-! ### what an operation does hangs on what it looks at -/
def Alike (ops : Array Oper) (o : Oper) (a b : Act) : Prop := ∀ t ∈ o.looksAt ops, a.tmps.getD t undef = b.tmps.getD t undef
theorem exec_alike {o : Oper} {a b : Act} (hs : ∀ cs b, o.op ≠ .select cs b) (h : Alike ops o a b) : execOp a.eval o = execOp b.eval o :=
  execOp_congr o hs fun x hx => by
    cases x with
    | tmp t => exact h t (List.mem_append_left _ (List.mem_filterMap.2 ⟨.tmp t, by simpa using hx, rfl⟩))
    | _ => rfl
theorem wanted_alike {o : Oper} {a b : Act} (h : Alike ops o a b) (hz : a.tmps.size = b.tmps.size) : Region.wanted o (yielded ops a.tmps) = Region.wanted o (yielded ops b.tmps) := by
  unfold Region.wanted
  cases hg : o.guard with
  | none => rfl
  | some gw =>
    obtain ⟨g, want⟩ := gw
    have hy : yielded ops a.tmps g = yielded ops b.tmps g := by
      unfold yielded
      cases ht : (ops[g]?).bind (·.dst) with
      | none => rfl
      | some t =>
        have := h t (by simp [Oper.looksAt, hg, ht])
        by_cases h1 : t < a.tmps.size
        · have h2 : t < b.tmps.size := hz ▸ h1
          simp [h1, h2] at this ⊢
          rw [this]
        · have h2 : ¬ t < b.tmps.size := hz ▸ h1
          simp [h1, h2]
    simp only [hy]
theorem Gives.alike {o : Oper} {v : Value} {a b : Act} (hs : ∀ cs b, o.op ≠ .select cs b) (h : Alike ops o a b) (hz : a.tmps.size = b.tmps.size) (hy : Gives P ops C o v a) : Gives P ops C o v b := by
  unfold Gives relAt at *
  rwa [← exec_alike hs h, ← wanted_alike h hz]
/-- Some value of which R holds; but for the blocks D nothing that was there has turned. -/
def sumUpon (P : Program) (D : List Nat) (R : Rel) (w : World) : Result Next → Prop
  | .ok (.value u) w' => Kept (fun b => b ∉ D) w w' ∧ R u w'
  | .ok .skip w' => Kept (fun b => b ∉ D) w w' ∧ R undef w'
  | .ok (.enter f args) w' => w' = w ∧ Calls P f args w (fun e w'' => ∃ u, e = .returned u ∧ Kept (fun b => b ∉ D) w w'' ∧ R u w'')
  | _ => False
def sumAt (P : Program) (D : List Nat) (o : Oper) (a : Act) (R : Rel) (w : World) : Prop := sumUpon P D R w ((execOp a.eval o).run P w)
theorem wp_of_sumAt {D : List Nat} {o : Oper} {a : Act} {w : World} {R : Rel} {K : Act → World → Prop} {Q' : Exit → Act → World → Prop} (h : sumAt P D o a R w) (hk : ∀ v w', Kept (fun b => b ∉ D) w w' → R v w' → K (a.put o.dst v) w') : o.wp P a w K Q' := by
  unfold sumAt at h
  unfold Oper.wp
  generalize (execOp a.eval o).run P w = r at *
  cases r with
  | ok nx w' =>
    cases nx <;> simp only [sumUpon] at h <;> simp only [Oper.upon]
    case value u => exact hk _ _ h.1 h.2
    case skip => exact hk _ _ h.1 h.2
    case enter f args =>
      obtain ⟨e1, hc⟩ := h
      rw [e1]
      exact hc.mono fun e w'' ⟨u, he, hb, hR⟩ => by subst he; exact hk _ _ hb hR
  | halt x w' => simp only [sumUpon] at h
theorem sumAt.alike {D : List Nat} {o : Oper} {R : Rel} {w : World} {a b : Act} (hs : ∀ cs b, o.op ≠ .select cs b) (h : Alike ops o a b) (hy : sumAt P D o a R w) : sumAt P D o b R w := by
  unfold sumAt at *
  rwa [← exec_alike hs h]

/-! ### the walk -/
/-- One value, whatever the world, which stays as it is. -/
def fixUpon (w : World) (v : Value) : Result Next → Prop
  | .ok (.value u) w' => w' = w ∧ u = v
  | _ => False
def fixAt (P : Program) (o : Oper) (a : Act) (w : World) (v : Value) : Prop := fixUpon w v ((execOp a.eval o).run P w)
def fixOp (P : Program) (o : Oper) (a : Act) (K : Act → Prop) : Prop := ∃ v, (∀ w, fixAt P o a w v) ∧ K (a.put o.dst v)
def Fixes (P : Program) (ops : Array Oper) (o : Oper) (v : Value) (a : Act) : Prop :=
  (Region.wanted o (yielded ops a.tmps) = true ∧ ∀ w, fixAt P o a w v) ∨ (Region.wanted o (yielded ops a.tmps) = false ∧ v = undef)
theorem relAt_of_fix {o : Oper} {a : Act} {w : World} {v : Value} (h : fixAt P o a w v) : relAt P o a w v := by
  unfold fixAt at h
  unfold relAt
  generalize (execOp a.eval o).run P w = r at *
  cases r with
  | ok nx w' => cases nx <;> simp only [fixUpon] at h <;> exact h
  | halt x w' => exact h.elim
theorem wp_of_fix {o : Oper} {a : Act} {w : World} {v : Value} {K : Act → World → Prop} {Q : Exit → Act → World → Prop} (h : fixAt P o a w v) (hk : K (a.put o.dst v) w) : o.wp P a w K Q := by
  unfold fixAt at h
  unfold Oper.wp
  generalize (execOp a.eval o).run P w = r at *
  cases r with
  | ok nx w' =>
    cases nx <;> simp only [fixUpon] at h
    obtain ⟨rfl, rfl⟩ := h
    exact hk
  | halt x w' => exact h.elim
theorem Fixes.gives {o : Oper} {v : Value} {a : Act} (h : Fixes P ops o v a) : Gives P ops C o v a := h.imp (fun h => ⟨h.1, fun w _ => relAt_of_fix (h.2 w)⟩) id
theorem Fixes.alike {o : Oper} {v : Value} {a b : Act} (hs : ∀ cs b, o.op ≠ .select cs b) (h : Alike ops o a b) (hz : a.tmps.size = b.tmps.size) (hy : Fixes P ops o v a) : Fixes P ops o v b := by
  unfold Fixes fixAt at *
  rwa [← exec_alike hs h, ← wanted_alike h hz]
/-- What an operation of a kind owes. -/
def Owe (P : Program) (ops : Array Oper) (C : World → Prop) (k : Nat) (o : Oper) (v : Value) (a : Act) : Prop := if k = 0 then Gives P ops C o v a else Fixes P ops o v a
def wpQs (P : Program) (ops : Array Oper) (C : World → Prop) (L : Act → Prop) : List Nat → List Oper → Act → Prop
  | _, [], a => L a
  | [], _ :: _, _ => False
  | 0 :: ks, o :: l, a => if Region.wanted o (yielded ops a.tmps) then relOp P o a C (wpQs P ops C L ks l) else wpQs P ops C L ks l (a.put o.dst undef)
  | 1 :: ks, o :: l, a => if Region.wanted o (yielded ops a.tmps) then fixOp P o a (wpQs P ops C L ks l) else wpQs P ops C L ks l (a.put o.dst undef)
  | (_ + 2) :: ks, _ :: l, a => wpQs P ops C L ks l a
theorem wpQs_nil {L : Act → Prop} {ks : List Nat} {a : Act} (h : L a) : wpQs P ops C L ks [] a := by unfold wpQs; exact h
theorem wpQs_q {L : Act → Prop} {ks : List Nat} {a : Act} {o : Oper} {l : List Oper}
    (h : ∀ K : Act → Prop, (∀ a, wpQs P ops C L ks l a → K a) → if Region.wanted o (yielded ops a.tmps) then relOp P o a C K else K (a.put o.dst undef)) : wpQs P ops C L (0 :: ks) (o :: l) a := h _ fun _ h => h
theorem wpQs_f {L : Act → Prop} {ks : List Nat} {a : Act} {o : Oper} {l : List Oper}
    (h : ∀ K : Act → Prop, (∀ a, wpQs P ops C L ks l a → K a) → if Region.wanted o (yielded ops a.tmps) then fixOp P o a K else K (a.put o.dst undef)) : wpQs P ops C L (1 :: ks) (o :: l) a := h _ fun _ h => h
theorem wpQs_s {L : Act → Prop} {ks : List Nat} {a : Act} {o : Oper} {l : List Oper} {k : Nat} (h : wpQs P ops C L ks l a) : wpQs P ops C L ((k + 2) :: ks) (o :: l) a := h
def wpLs (P : Program) (C : World → Prop) (w0 : World) (Ds : Nat → List Nat) (Rs : Nat → Rel) (an : Nat → Nat → Bool) (T : Act → World → Prop) : List Nat → List Oper → Nat → Act → (World → Prop) → ((Nat → Prop) → World → Prop) → Prop
  | _, [], _, a, Φ, _ => ∀ w', C w' → Φ w' → T a w'
  | [], _ :: _, _, _, _, _ => False
  | 0 :: ks, _ :: l, i, a, Φ, Ψ => wpLs P C w0 Ds Rs an T ks l (i + 1) a Φ Ψ
  | 1 :: ks, _ :: l, i, a, Φ, Ψ => wpLs P C w0 Ds Rs an T ks l (i + 1) a Φ Ψ
  | 2 :: ks, o :: l, i, a, Φ, Ψ => (∀ w', C w' → Kept (fun b => b ∈ Ds i) w0 w' → Ψ (fun j => an i j = true) w' → sumAt P (Ds i) o a (Rs i) w') ∧ ∀ v, wpLs P C w0 Ds Rs an T ks l (i + 1) (a.put o.dst v) (fun w => Φ w ∧ Rs i v w) (fun S w => Ψ S w ∧ (S i → Rs i v w))
  | (_ + 3) :: ks, _ :: l, i, a, Φ, Ψ => wpLs P C w0 Ds Rs an T ks l (i + 1) a Φ Ψ
def tails : List Nat → List Oper → List Oper
  | _, [] => []
  | [], _ :: _ => []
  | 0 :: ks, _ :: l => tails ks l
  | 1 :: ks, _ :: l => tails ks l
  | 2 :: ks, _ :: l => tails ks l
  | (_ + 3) :: ks, o :: l => o :: tails ks l

/-- The numbers from k on, below n, of kinds that p lets. -/
def nums (ks : List Nat) (p : Nat → Bool) (k n : Nat) : List Nat := (List.range' k (n - k)).filter fun i => p (kd ks i)
theorem mem_nums {ks : List Nat} {p : Nat → Bool} {k n i : Nat} : i ∈ nums ks p k n ↔ (k ≤ i ∧ i < n) ∧ p (kd ks i) = true := by
  unfold nums
  simp only [List.mem_filter, List.mem_range'_1]
  constructor
  · rintro ⟨h1, h2⟩; exact ⟨⟨h1.1, by omega⟩, h2⟩
  · rintro ⟨h1, h2⟩; exact ⟨⟨h1.1, by omega⟩, h2⟩
theorem nums_step {ks : List Nat} {p : Nat → Bool} {k n : Nat} (h : k < n) : nums ks p k n = if p (kd ks k) then k :: nums ks p (k + 1) n else nums ks p (k + 1) n := by
  unfold nums
  rw [show n - k = (n - (k + 1)) + 1 by omega, List.range'_succ, List.filter_cons]
theorem nums_none {ks : List Nat} {p : Nat → Bool} {k n : Nat} (h : n ≤ k) : nums ks p k n = [] := by unfold nums; rw [show n - k = 0 by omega]; rfl
abbrev pQ (k : Nat) : Bool := decide (k < 2)
abbrev pL (k : Nat) : Bool := k == 2
abbrev pT (k : Nat) : Bool := decide (3 ≤ k)
theorem kd_at {ks : List Nat} {i k : Nat} {r : List Nat} (h : ks.drop i = k :: r) : kd ks i = k ∧ ks.drop (i + 1) = r := by
  constructor
  · have := List.getElem?_drop (xs := ks) (i := i) (j := 0)
    rw [h] at this
    simp only [List.getElem?_cons_zero, Nat.add_zero] at this
    simp [kd, ← this]
  · rw [← List.tail_drop, h]; rfl
theorem op_at {l r : List Oper} {i : Nat} {o : Oper} (h : l.drop i = o :: r) : l.toArray[i]? = some o ∧ l.drop (i + 1) = r ∧ i < l.length := by
  refine ⟨?_, ?_, ?_⟩
  · have := List.getElem?_drop (xs := l) (i := i) (j := 0)
    rw [h] at this
    simpa using this.symm
  · rw [← List.tail_drop, h]; rfl
  · rcases Nat.lt_or_ge i l.length with h' | h'
    · exact h'
    · rw [List.drop_eq_nil_of_le h'] at h; cases h

section
variable {l : List Oper} {ks : List Nat}
theorem qs_facts {L : Act → Prop} : ∀ (r : List Oper) (kr : List Nat) (k : Nat) (a : Act), l.drop k = r → ks.drop k = kr → wpQs P l.toArray C L kr r a →
    ∃ V : Nat → Value, (∀ i o, k ≤ i → l.toArray[i]? = some o → kd ks i < 2 → Owe P l.toArray C (kd ks i) o (V i) (stL l.toArray V (nums ks pQ k i) a)) ∧ L (stL l.toArray V (nums ks pQ k l.length) a) := by
  intro r
  induction r with
  | nil =>
    intro kr k a hr _ h
    have hk : l.length ≤ k := by simpa using hr
    refine ⟨fun _ => undef, fun i o hi ho => ?_, ?_⟩
    · have := (Array.getElem?_eq_some_iff.1 ho).1; simp at this; omega
    · rw [nums_none hk]; unfold wpQs at h; exact h
  | cons o r ih =>
    intro kr k a hr hkr h
    obtain ⟨ho, hr', hlt⟩ := op_at hr
    have hdst : dstOf l.toArray k = o.dst := by unfold dstOf; rw [ho]; rfl
    cases kr with
    | nil => exact h.elim
    | cons c kr =>
      obtain ⟨hc, hkr'⟩ := kd_at hkr
      have step : ∀ (v : Value), c < 2 → Owe P l.toArray C c o v a → wpQs P l.toArray C L kr r (a.put o.dst v) →
          ∃ V : Nat → Value, (∀ i o, k ≤ i → l.toArray[i]? = some o → kd ks i < 2 → Owe P l.toArray C (kd ks i) o (V i) (stL l.toArray V (nums ks pQ k i) a)) ∧ L (stL l.toArray V (nums ks pQ k l.length) a) := by
        intro v hc2 hy h2
        obtain ⟨V, h3, h4⟩ := ih kr (k + 1) _ hr' hkr' h2
        have hV : ∀ (S : List Nat) (a : Act), (∀ i ∈ S, k < i) → stL l.toArray (fun i => if i = k then v else V i) S a = stL l.toArray V S a := by
          intro S
          induction S with
          | nil => intro a _; rfl
          | cons i S ihS =>
            intro a hS
            have hi := hS i (by simp)
            rw [stL_cons, stL_cons, ihS _ (fun j hj => hS j (List.mem_cons_of_mem _ hj)), if_neg (by omega)]
        have hst : ∀ n, k < n → stL l.toArray (fun i => if i = k then v else V i) (nums ks pQ k n) a = stL l.toArray V (nums ks pQ (k + 1) n) (a.put o.dst v) := fun n hn => by
          rw [nums_step hn, hc, if_pos (by simp; omega), stL_cons, hdst, if_pos rfl]
          exact hV _ _ fun i hi => by have := (mem_nums.1 hi).1.1; omega
        refine ⟨fun i => if i = k then v else V i, fun i o' hi ho' hk2 => ?_, by rw [hst _ hlt]; exact h4⟩
        rcases Nat.lt_or_eq_of_le hi with h5 | h5
        · rw [hst i h5]; dsimp only; rw [if_neg (show ¬ i = k by omega)]; exact h3 i o' (by omega) ho' hk2
        · subst h5
          rw [nums_none (Nat.le_refl _)]
          dsimp only
          rw [if_pos rfl, hc]
          rw [ho] at ho'
          obtain rfl := Option.some.inj ho'
          exact hy
      match c, h, hc with
      | 0, h, hc =>
        unfold wpQs at h
        by_cases hw : Region.wanted o (yielded l.toArray a.tmps) = true
        · rw [if_pos hw] at h
          obtain ⟨v, h1, h2⟩ := h
          exact step v (by omega) (show Gives P l.toArray C o v a from .inl ⟨hw, h1⟩) h2
        · rw [if_neg hw] at h
          exact step undef (by omega) (show Gives P l.toArray C o undef a from .inr ⟨by simpa using hw, rfl⟩) h
      | 1, h, hc =>
        unfold wpQs at h
        by_cases hw : Region.wanted o (yielded l.toArray a.tmps) = true
        · rw [if_pos hw] at h
          obtain ⟨v, h1, h2⟩ := h
          exact step v (by omega) (show Fixes P l.toArray o v a from .inl ⟨hw, h1⟩) h2
        · rw [if_neg hw] at h
          exact step undef (by omega) (show Fixes P l.toArray o undef a from .inr ⟨by simpa using hw, rfl⟩) h
      | c + 2, h, hc =>
        unfold wpQs at h
        obtain ⟨V, h3, h4⟩ := ih kr (k + 1) _ hr' hkr' h
        have hst : ∀ n, k < n → nums ks pQ k n = nums ks pQ (k + 1) n := fun n hn => by rw [nums_step hn, hc, if_neg (by simp [pQ])]
        refine ⟨V, fun i o' hi ho' hk2 => ?_, by rw [hst _ hlt]; exact h4⟩
        rcases Nat.lt_or_eq_of_le hi with h5 | h5
        · rw [hst i h5]; exact h3 i o' (by omega) ho' hk2
        · subst h5; omega
theorem ls_facts {w0 : World} {Ds : Nat → List Nat} {Rs : Nat → Rel} {an : Nat → Nat → Bool} {T : Act → World → Prop} : ∀ (r : List Oper) (kr : List Nat) (k : Nat) (a : Act) (Φ : World → Prop) (Ψ : (Nat → Prop) → World → Prop), l.drop k = r → ks.drop k = kr → wpLs P C w0 Ds Rs an T kr r k a Φ Ψ →
    ∀ V : Nat → Value, (∀ i o, k ≤ i → l.toArray[i]? = some o → kd ks i = 2 → ∀ w', C w' → Kept (fun b => b ∈ Ds i) w0 w' → Ψ (fun j => an i j = true) w' → (∀ j, k ≤ j → j < i → kd ks j = 2 → an i j = true → Rs j (V j) w') → sumAt P (Ds i) o (stL l.toArray V (nums ks pL k i) a) (Rs i) w') ∧
      ∀ w', C w' → Φ w' → (∀ i, k ≤ i → i < l.length → kd ks i = 2 → Rs i (V i) w') → T (stL l.toArray V (nums ks pL k l.length) a) w' := by
  intro r
  induction r with
  | nil =>
    intro kr k a Φ Ψ hr _ h V
    have hk : l.length ≤ k := by simpa using hr
    refine ⟨fun i o hi ho => ?_, fun w' h1 h2 _ => ?_⟩
    · have := (Array.getElem?_eq_some_iff.1 ho).1; simp at this; omega
    · rw [nums_none hk]; unfold wpLs at h; exact h w' h1 h2
  | cons o r ih =>
    intro kr k a Φ Ψ hr hkr h V
    obtain ⟨ho, hr', hlt⟩ := op_at hr
    have hdst : dstOf l.toArray k = o.dst := by unfold dstOf; rw [ho]; rfl
    cases kr with
    | nil => exact h.elim
    | cons c kr =>
      obtain ⟨hc, hkr'⟩ := kd_at hkr
      have skip : c ≠ 2 → wpLs P C w0 Ds Rs an T kr r (k + 1) a Φ Ψ → (∀ i o, k ≤ i → l.toArray[i]? = some o → kd ks i = 2 → ∀ w', C w' → Kept (fun b => b ∈ Ds i) w0 w' → Ψ (fun j => an i j = true) w' → (∀ j, k ≤ j → j < i → kd ks j = 2 → an i j = true → Rs j (V j) w') → sumAt P (Ds i) o (stL l.toArray V (nums ks pL k i) a) (Rs i) w') ∧
          ∀ w', C w' → Φ w' → (∀ i, k ≤ i → i < l.length → kd ks i = 2 → Rs i (V i) w') → T (stL l.toArray V (nums ks pL k l.length) a) w' := fun hc2 h => by
        obtain ⟨h3, h4⟩ := ih kr (k + 1) a Φ Ψ hr' hkr' h V
        have hst : ∀ n, k < n → nums ks pL k n = nums ks pL (k + 1) n := fun n hn => by rw [nums_step hn, hc, if_neg (by simpa using hc2)]
        refine ⟨fun i o' hi ho' hk2 => ?_, fun w' h1 h2 h5 => by rw [hst _ hlt]; exact h4 w' h1 h2 fun i hi => h5 i (by omega)⟩
        rcases Nat.lt_or_eq_of_le hi with h5 | h5
        · rw [hst i h5]; exact fun w' h6 h7 h8 h9 => h3 i o' (by omega) ho' hk2 w' h6 h7 h8 fun j hj => h9 j (by omega)
        · subst h5; omega
      match c, h, hc, skip with
      | 0, h, hc, skip => unfold wpLs at h; exact skip (by omega) h
      | 1, h, hc, skip => unfold wpLs at h; exact skip (by omega) h
      | 2, h, hc, _ =>
        unfold wpLs at h
        obtain ⟨h3, h4⟩ := ih kr (k + 1) _ _ _ hr' hkr' (h.2 (V k)) V
        have hst : ∀ n, k < n → stL l.toArray V (nums ks pL k n) a = stL l.toArray V (nums ks pL (k + 1) n) (a.put o.dst (V k)) := fun n hn => by
          rw [nums_step hn, hc, if_pos (by simp), stL_cons, hdst]
        refine ⟨fun i o' hi ho' hk2 => ?_, fun w' h1 h2 h5 => by rw [hst _ hlt]; exact h4 w' h1 ⟨h2, h5 k (Nat.le_refl _) hlt hc⟩ fun i hi => h5 i (by omega)⟩
        rcases Nat.lt_or_eq_of_le hi with h5 | h5
        · rw [hst i h5]; exact fun w' h6 h7 h8 h9 => h3 i o' (by omega) ho' hk2 w' h6 h7 ⟨h8, fun e => h9 k (Nat.le_refl _) h5 hc e⟩ fun j hj => h9 j (by omega)
        · subst h5
          rw [nums_none (Nat.le_refl _)]
          rw [ho] at ho'
          obtain rfl := Option.some.inj ho'
          exact fun w' h6 h7 h8 _ => h.1 w' h6 h7 h8
      | c + 3, h, hc, skip => unfold wpLs at h; exact skip (by omega) h
theorem tails_eq : ∀ (r : List Oper) (kr : List Nat) (k : Nat), l.drop k = r → ks.drop k = kr → kr.length = r.length → tails kr r = (nums ks pT k l.length).filterMap fun i => l.toArray[i]? := by
  intro r
  induction r with
  | nil =>
    intro kr k hr _ _
    have hk : l.length ≤ k := by simpa using hr
    rw [nums_none hk]; unfold tails; rfl
  | cons o r ih =>
    intro kr k hr hkr hlen
    obtain ⟨ho, hr', hlt⟩ := op_at hr
    cases kr with
    | nil => simp at hlen
    | cons c kr =>
      obtain ⟨hc, hkr'⟩ := kd_at hkr
      have h1 := ih kr (k + 1) hr' hkr' (by simpa using hlen)
      rw [nums_step hlt, hc]
      match c with
      | 0 => rw [if_neg (by simp)]; unfold tails; exact h1
      | 1 => rw [if_neg (by simp)]; unfold tails; exact h1
      | 2 => rw [if_neg (by simp)]; unfold tails; exact h1
      | c + 3 => rw [if_pos (by simp)]; unfold tails; simp only [List.filterMap_cons, ho, h1]
end
end
attribute [go_sem] fixOp fixAt fixUpon
end Go.Proofs.Ytnokibdecnddlaa
