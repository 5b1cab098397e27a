/- A range over a function whose rounds come of one known list: what the iterator owes, what the loop owes. The iterator may keep a few blocks of its own. No program in sight. -/
import Derived.Test.YtkopenemoddbbaaBase
import Derived.RangeFuncNested
import Derived.RangeFuncBound
import Derived.RangeFuncCalls
import Derived.RangeFuncLeaves
namespace Go.Proofs.Ytkopenemoddbbaa
open Go.RowKit

/-- The blocks that K names lie as they lay; no block has gone. -/
structure Kept (K : Nat → Prop) (w w' : World) : Prop where
  os : w'.os = w.os
  tape : w'.tape = w.tape
  output : w'.output = w.output
  size : w.heap.size ≤ w'.heap.size
  block : ∀ b, b < w.heap.size → K b → w'.heap[b]? = w.heap[b]?
section
variable {K K' : Nat → Prop} {A B C : World}
theorem Kept.refl (K : Nat → Prop) (A : World) : Kept K A A := ⟨rfl, rfl, rfl, Nat.le_refl _, fun _ _ _ => rfl⟩
theorem Kept.trans (h : Kept K A B) (k : Kept K B C) : Kept K A C :=
  ⟨k.os.trans h.os, k.tape.trans h.tape, k.output.trans h.output, Nat.le_trans h.size k.size, fun b hb hK => (k.block b (Nat.lt_of_lt_of_le hb h.size) hK).trans (h.block b hb hK)⟩
theorem Kept.mono (h : Kept K A B) (hK : ∀ b, K' b → K b) : Kept K' A B := ⟨h.os, h.tape, h.output, h.size, fun b hb hk => h.block b hb (hK b hk)⟩
theorem Kept.of_below (h : Below A.heap.size A B) : Kept K A B := ⟨h.os, h.tape, h.output, h.size, fun b hb _ => h.block b hb⟩
theorem Kept.on (h : Kept K A B) (k : Below B.heap.size B C) : Kept K A C := h.trans (Kept.of_below k)
theorem Kept.alloc (h : Kept K A B) (o : Obj) : Kept K A (B.alloc o) := h.on ((Below.refl _ _).alloc (Nat.le_refl _) o)
theorem Kept.setCell (h : Kept K A B) {p : Addr} (hp : ¬ K p.block) (u : Value) : Kept K A (B.setCell p u) :=
  h.trans ⟨rfl, rfl, rfl, by simp [World.setCell], fun b _ hK => Below.heap_setCell B p u b (fun e => hp (e ▸ hK))⟩
theorem Kept.fresh (h : Kept K A B) {p : Addr} (hp : A.heap.size ≤ p.block) (u : Value) : Kept K A (B.setCell p u) :=
  ⟨h.os, h.tape, h.output, by simp [World.setCell]; exact h.size, fun b hb hK => (Below.heap_setCell B p u b (by omega)).trans (h.block b hb hK)⟩
theorem Kept.putObj (h : Kept K A B) {l : Nat} (hl : ¬ K l) (o : Obj) : Kept K A (B.putObj l o) :=
  h.trans ⟨rfl, rfl, rfl, by simp [World.putObj], fun b _ hK => World.putObj_heap_other (fun e => hl (e ▸ hK))⟩
theorem Kept.drew (h : Kept K A B) : Kept K A B.drew := ⟨h.os, h.tape, h.output, h.size, h.block⟩
theorem Kept.grown (h : Kept K A B) {row : Option Nat} (hg : B.grownBy C row) (hr : ∀ k, row = some k → ¬ K k) : Kept K A C :=
  h.trans ⟨hg.os, hg.tape, hg.output, hg.size, fun b hb hK => hg.block b hb (fun e => hr b e.symm hK)⟩
theorem Kept.below {n : Nat} (h : Kept K A B) (hn : n ≤ A.heap.size) (hK : ∀ b, b < n → K b) : Below n A B := ⟨h.os, h.tape, h.output, h.size, fun b hb => h.block b (by omega) (hK b hb)⟩
theorem Kept.blk {g : Nat} {t : TypeId} {cs : Array Value} (h : Kept K A B) (hK : K g) (hb : Blk A g t cs) : Blk B g t cs := (h.block g hb.lt hK).trans hb
end

/-- The blocks from lo on, below hi. -/
def Priv (lo hi b : Nat) : Prop := lo ≤ b ∧ b < hi

/-- What an iterator owes: its rounds come of xs, in its row; behind the first round's beginning it writes to old blocks of its own alone (below Z); a round keeps these, and what the iterator has captured. -/
def Iter (P : Program) (gf : Nat) (lb : Array Value) {α : Type} (encs : α → Array Value) (xs : List α) (cap : Nat → Prop) (w0 : World) : Prop :=
  ∀ (m l : Nat) (J Jx : Nat → Nat → World → Prop) (W : World), Kept cap w0 W →
    (∀ Z i A B, J Z i A → Kept (fun b => ¬ Priv W.heap.size Z b) A B → J Z i B) → (∀ Z i A B, Jx Z i A → Kept (fun b => ¬ Priv W.heap.size Z b) A B → Jx Z i B) →
    (∀ Z i x A, W.heap.size ≤ Z → Z ≤ A.heap.size → xs[i]? = some x → J Z i A → YieldAt Fence.wide m P l (encs x) A fun e B =>
      (e = .returned (.bool true) ∧ J Z (i + 1) B ∧ Kept (fun b => Priv W.heap.size Z b ∨ cap b) A B) ∨ (e = .returned (.bool false) ∧ Jx Z i B)) →
    (∀ Z, J Z 0 W) →
    CallsIn Fence.wide (m + 1) P gf (#[.func (.yield l) #[] #[]] ++ lb) W fun e B => (∃ v, e = .returned v) ∧ ∃ Z, W.heap.size ≤ Z ∧ (J Z xs.length B ∨ ∃ i, i < xs.length ∧ Jx Z i B)

/-- How a round may be left. -/
def leftBy (K : Nat → Prop) (I : Nat → World → Prop) (Ix : Code → Nat → World → Prop) (i : Nat) (A : World) : Exit → Act → World → Prop
  | .normal, _, B => Kept K A B ∧ I (i + 1) B
  | .ret, _, B => Kept K A B ∧ Ix .ret i B
  | .exit id, _, B => Kept K A B ∧ Ix (.exit id) i B
  | .goto t, _, B => Kept K A B ∧ Ix (.goto t) i B
  | .panic _, _, _ => False
  | .outgrown, _, _ => False

/-- What the round keeps: the loop's own blocks, the iterator's, what it has captured. -/
def Keeps (lo hi : Nat) (cap : Nat → Prop) (b : Nat) : Prop := Priv lo hi b ∨ cap b

/-- THE LAW. -/
theorem wp_range {P : Program} {m : Nat} {α : Type} {g : Operand} {ps : Array Tmp} {assign body : Code} {Q : Exit → Act → World → Prop} {a : Act} {w : World} {gf : Nat} {lb : Array Value}
    (hg : a.eval g = .func (.func gf) #[] lb) (eg : ∀ args w, (callFunc gf args).run P w = .ok (.enter gf args) w)
    {encs : α → Array Value} {xs : List α} {cap : Nat → Prop} (hit : Iter P gf lb encs xs cap w) (hcap : ∀ b, cap b → b < w.heap.size) (hps : ∀ x, (encs x).size = ps.size)
    (I : Nat → Nat → World → Prop) (Ix : Nat → Code → Nat → World → Prop)
    (hI : ∀ Z i A B, I Z i A → Kept (fun b => ¬ Priv w.heap.size Z b) A B → I Z i B) (hIx : ∀ Z c i A B, Ix Z c i A → Kept (fun b => ¬ Priv w.heap.size Z b) A B → Ix Z c i B) (h0 : ∀ Z, I Z 0 w)
    (hround : ∀ Z l i x A, l = w.heap.size + 1 → w.heap.size + 2 ≤ Z → Z ≤ A.heap.size → xs[i]? = some x → I Z i A →
      assign.wpIn (Fence.wide.inRound l) m P (Exit.then (fun a1 A1 => Kept (Keeps w.heap.size Z cap) A A1 ∧
        ∀ A2, Kept (fun b => b ≠ l) A1 A2 → A2.heap.size = A1.heap.size → body.wpIn (Fence.wide.inRound l) m P (leftBy (Keeps w.heap.size Z cap) (I Z) (Ix Z) i A2) a1 A2) (fun _ _ _ => False))
        { tmps := (ps.zip (encs x)).foldl (fun t (p, v) => t.setIfInBounds p v) a.tmps, defers := [] } A)
    (hdone : ∀ Z W, I Z xs.length W → W.heap[w.heap.size]? = some (.deferred (some [])) → Q .normal { a with defers := { target := .collected w.heap.size, args := #[] } :: a.defers } W)
    (hstop : ∀ Z c i W, i < xs.length → Ix Z c i W → W.heap[w.heap.size]? = some (.deferred (some [])) → c.wp P Q { a with defers := { target := .collected w.heap.size, args := #[] } :: a.defers } W) :
    (Code.rangeFunc g ps assign body).wp P Q a w := by
  refine wpIn_wide.1 (wpIn_rangeFunc (n := m + 2) ?_)
  intro fn hfn
  obtain ⟨rec, hrec⟩ : ∃ rec : LoopState → Option Code → Loop, rec = fun st pe => { state := st, pending := pe, fn, tmps := a.tmps, params := ps, assign, body, defers := w.heap.size } := ⟨_, rfl⟩
  obtain ⟨W1, hW1⟩ : ∃ W1, (w.alloc (.deferred (some []))).alloc (.loop (rec .ready none)) = W1 := ⟨_, rfl⟩
  have hs1 : W1.heap.size = w.heap.size + 2 := by rw [← hW1]; simp
  have hL1 : W1.heap[w.heap.size + 1]? = some (.loop (rec .ready none)) := by
    rw [← hW1]; have := World.alloc_heap_new (w.alloc (.deferred (some []))) (.loop (rec .ready none)); rwa [World.size_alloc] at this
  have hK1 : W1.heap[w.heap.size]? = some (.deferred (some [])) := by
    rw [← hW1]; exact (Below.heap_alloc _ _ _ (by simp)).trans (World.alloc_heap_new w _)
  have hb1 : Below w.heap.size w W1 := by rw [← hW1]; exact ((Below.refl _ w).alloc (Nat.le_refl _) _).alloc (by simp) _
  have hpr : ∀ Z b, ¬ Priv w.heap.size Z b → ¬ Priv W1.heap.size Z b := fun Z b h h' => h ⟨by have := h'.1; omega, h'.2⟩
  refine ⟨w.heap.size + 1, [{ target := .collected w.heap.size, args := #[] }], W1, { target := .fn (.func gf) lb, args := #[.func (.yield (w.heap.size + 1)) #[] #[]] }, W1, gf,
    #[.func (.yield (w.heap.size + 1)) #[] #[]] ++ lb, W1, ?_, ?_, ?_, ?_, fun _ => by omega, ?_⟩
  · rw [← hW1, hrec]; exact run_enterLoop_outer _ _ _ _ _
  · simp only [resolve, hg]
    simp [go_sem]
  · intro f' _; trivial
  · simp [invoke, go_sem, eg]
  · refine (hit m (w.heap.size + 1)
      (fun Z i W => I Z i W ∧ W.heap[w.heap.size + 1]? = some (.loop (rec .ready none)) ∧ W.heap[w.heap.size]? = some (.deferred (some [])))
      (fun Z i W => W1.heap.size ≤ Z ∧ ∃ c, Ix Z c i W ∧ W.heap[w.heap.size + 1]? = some (.loop (rec .done (some c))) ∧ W.heap[w.heap.size]? = some (.deferred (some [])))
      W1 (Kept.of_below hb1) ?_ ?_ ?_ (fun Z => ⟨hI _ _ _ _ (h0 Z) (Kept.of_below hb1), hL1, hK1⟩)).mono ?_
    · rintro Z i A B ⟨h1, h2, h3⟩ hk
      have hl := (Array.getElem?_eq_some_iff.1 h2).1
      exact ⟨hI _ _ _ _ h1 (hk.mono (hpr Z)), (hk.block _ hl (fun h => by have := h.1; omega)).trans h2, (hk.block _ (by omega) (fun h => by have := h.1; omega)).trans h3⟩
    · rintro Z i A B ⟨h0, c, h1, h2, h3⟩ hk
      have hl := (Array.getElem?_eq_some_iff.1 h2).1
      exact ⟨h0, c, hIx _ _ _ _ _ h1 (hk.mono (hpr Z)), (hk.block _ hl (fun h => by have := h.1; omega)).trans h2, (hk.block _ (by omega) (fun h => by have := h.1; omega)).trans h3⟩
    · -- one round
      rintro Z i x A hZ1 hZ2 hx ⟨hi, hl, hk⟩
      have hy := run_yield (P := P) (args := encs x) hl (by rw [hrec]; exact hps x)
      rw [hrec] at hy
      refine ⟨fn, _, assign, body, hy, roundIn_of_wpIn hfn ?_⟩
      refine wpIn_mono (hround Z _ i x A rfl (by omega) hZ2 hx hi) ?_
      rintro e a1 A1 h
      cases e with
      | exit id => exact h.elim
      | goto t => exact h.elim
      | ret => exact h.elim
      | panic c => exact h.elim
      | outgrown => exact h.elim
      | normal =>
        obtain ⟨hA1, hbody⟩ := h
        have hl' : w.heap.size + 1 < A.heap.size := (Array.getElem?_eq_some_iff.1 hl).1
        have hl1 : A1.heap[w.heap.size + 1]? = some (.loop (rec .ready none)) := (hA1.block _ hl' (.inl ⟨by omega, by omega⟩)).trans hl
        have hk1 : A1.heap[w.heap.size]? = some (.deferred (some [])) := (hA1.block _ (by omega) (.inl ⟨by omega, by omega⟩)).trans hk
        have hlt1 : w.heap.size + 1 < A1.heap.size := (Array.getElem?_eq_some_iff.1 hl1).1
        refine ⟨_, run_beginRound hl1 (by rw [hrec]), ?_⟩
        have hl2 : (A1.putObj (w.heap.size + 1) (.loop { rec .ready none with state := .busy })).heap[w.heap.size + 1]? = some (.loop { rec .ready none with state := .busy }) := World.putObj_heap_same hlt1
        have hk2 : (A1.putObj (w.heap.size + 1) (.loop { rec .ready none with state := .busy })).heap[w.heap.size]? = some (.deferred (some [])) := (World.putObj_heap_other (by omega)).trans hk1
        have hA2 : Kept (fun b => Priv W1.heap.size Z b ∨ cap b) A (A1.putObj (w.heap.size + 1) (.loop { rec .ready none with state := .busy })) :=
          (hA1.mono (K' := fun b => Priv W1.heap.size Z b ∨ cap b) (fun b h => h.imp (fun h => ⟨by have := h.1; omega, h.2⟩) id)).putObj (fun h => by rcases h with h | h; exact absurd h.1 (by omega); exact absurd (hcap _ h) (by omega)) _
        refine wpIn_mono (hbody _ ((Kept.refl _ A1).putObj (by simp) _) (by simp [World.putObj])) ?_
        have fin : ∀ (jump : Option Code) (W3 : World), Kept (Keeps w.heap.size Z cap) (A1.putObj (w.heap.size + 1) (.loop { rec .ready none with state := .busy })) W3 →
            (Instr.endRound (w.heap.size + 1) jump).run P W3 = .ok (.bool jump.isNone) (W3.putObj (w.heap.size + 1) (.loop (rec (if jump.isNone then .ready else .done) jump))) ∧
            (W3.putObj (w.heap.size + 1) (.loop (rec (if jump.isNone then .ready else .done) jump))).heap[w.heap.size + 1]? = some (.loop (rec (if jump.isNone then .ready else .done) jump)) ∧
            (W3.putObj (w.heap.size + 1) (.loop (rec (if jump.isNone then .ready else .done) jump))).heap[w.heap.size]? = some (.deferred (some [])) ∧
            Kept (fun b => ¬ Priv w.heap.size Z b) W3 (W3.putObj (w.heap.size + 1) (.loop (rec (if jump.isNone then .ready else .done) jump))) ∧
            Kept (fun b => Priv W1.heap.size Z b ∨ cap b) A (W3.putObj (w.heap.size + 1) (.loop (rec (if jump.isNone then .ready else .done) jump))) := fun jump W3 hk3 => by
          have hsz2 : (A1.putObj (w.heap.size + 1) (.loop { rec .ready none with state := .busy })).heap.size = A1.heap.size := by simp [World.putObj]
          have hl3 := (hk3.block (w.heap.size + 1) (by omega) (.inl ⟨by omega, by omega⟩)).trans hl2
          have hd3 := (hk3.block w.heap.size (by omega) (.inl ⟨by omega, by omega⟩)).trans hk2
          have := run_endRound (P := P) jump hl3
          rw [hrec] at this ⊢
          refine ⟨this, World.putObj_heap_same (Array.getElem?_eq_some_iff.1 hl3).1, (World.putObj_heap_other (by omega)).trans hd3, (Kept.refl _ _).putObj (fun h => h ⟨by omega, by omega⟩) _, ?_⟩
          refine (hA2.trans ?_).putObj (fun h => by rcases h with h | h; exact absurd h.1 (by omega); exact absurd (hcap _ h) (by omega)) _
          rw [hrec] at hk3 ⊢
          exact hk3.mono (fun b h => h.imp (fun h => ⟨by have := h.1; omega, h.2⟩) id)
        rintro e a3 W3 hp
        cases e with
        | normal =>
          obtain ⟨hk3, hi3⟩ := hp
          obtain ⟨hr, hl4, hk4, hp4, hq4⟩ := fin none W3 hk3
          exact ⟨_, _, hr, .inl ⟨rfl, ⟨hI _ _ _ _ hi3 hp4, hl4, hk4⟩, hq4⟩⟩
        | ret =>
          obtain ⟨hk3, hi3⟩ := hp
          obtain ⟨hr, hl4, hk4, hp4, hq4⟩ := fin (some .ret) W3 hk3
          exact ⟨_, _, hr, .inr ⟨rfl, hZ1, .ret, hIx _ _ _ _ _ hi3 hp4, hl4, hk4⟩⟩
        | exit id =>
          obtain ⟨hk3, hi3⟩ := hp
          obtain ⟨hr, hl4, hk4, hp4, hq4⟩ := fin (some (.exit id)) W3 hk3
          exact ⟨_, _, hr, .inr ⟨rfl, hZ1, .exit id, hIx _ _ _ _ _ hi3 hp4, hl4, hk4⟩⟩
        | goto t =>
          obtain ⟨hk3, hi3⟩ := hp
          obtain ⟨hr, hl4, hk4, hp4, hq4⟩ := fin (some (.goto t)) W3 hk3
          exact ⟨_, _, hr, .inr ⟨rfl, hZ1, .goto t, hIx _ _ _ _ _ hi3 hp4, hl4, hk4⟩⟩
        | panic ch => exact hp.elim
        | outgrown => exact hp.elim
    · rintro e W2 ⟨⟨v, rfl⟩, Z, hZ, (⟨hi, hl, hk⟩ | ⟨i, hlt, hZ', c, hi, hl, hk⟩)⟩
      · exact ⟨none, _, by have := run_endLoop (P := P) hl (by rw [hrec]; simp); rw [hrec] at this; exact this, hdone Z _ (hI _ _ _ _ hi ((Kept.refl _ _).putObj (fun h => h ⟨by omega, by omega⟩) _)) ((World.putObj_heap_other (by omega)).trans hk)⟩
      · exact ⟨some c, _, by have := run_endLoop (P := P) hl (by rw [hrec]; simp); rw [hrec] at this; exact this, wpIn_wide.2 (hstop Z c i _ hlt (hIx _ _ _ _ _ hi ((Kept.refl _ _).putObj (fun h => h ⟨by omega, by omega⟩) _)) ((World.putObj_heap_other (by omega)).trans hk))⟩
/-! ### at the function's end -/
theorem Blk.putObj {w : World} {g D : Nat} {t : TypeId} {cs : Array Value} (h : Blk w g t cs) (hne : g ≠ D) (o : Obj) : Blk (w.putObj D o) g t cs := (World.putObj_heap_other hne).trans h
theorem putObj_below {n D : Nat} {w w' : World} (h : Below n w w') (hD : n ≤ D) (o : Obj) : Below n w (w'.putObj D o) :=
  h.trans ⟨rfl, rfl, rfl, by simp [World.putObj], fun k hk => World.putObj_heap_other (by omega)⟩
theorem def_far {w : World} {D : Nat} {p : Addr} {u : Value} {o : Obj} (h : w.heap[D]? = some o) (hp : D ≠ p.block) : (w.setCell p u).heap[D]? = some o := (Below.heap_setCell w p u D hp).trans h
theorem leave_mark {F : Fence} {n : Nat} {P : Program} {fn : Func} {R : Ending → World → Prop} {tmps : Array Value} {w : World} {D : Nat} {v : Value} (hD : w.heap[D]? = some (.deferred (some [])))
    (hv : (results fn tmps).run P (w.putObj D (.deferred none)) = .ok v (w.putObj D (.deferred none))) (hR : R (.returned v) (w.putObj D (.deferred none))) : bodyPostM F n P fn R .ret { tmps := tmps, defers := [{ target := .collected D, args := #[] }] } w := by
  refine ⟨by simp, .inl ⟨_, _, rfl, run_takeDeferred hD, ?_⟩⟩
  exact ⟨v, hv, hR⟩
end Go.Proofs.Ytkopenemoddbbaa
