/- Two variables that are set out of what they were, in a region that draws: the law's invariant. No program in sight. -/
import Derived.Test.YtlmjggbpophnfaaSched4
namespace Go.Proofs.Ytlmjggbpophnfaa
open Go.RowKit

/-- Store s into block b: o ahead of it, n behind it; p is what must be laid ahead of it. -/
structure StCfg where
  s : Nat
  p : Nat
  b : Nat
  t : TypeId
  o : Array Value
  n : Array Value
def StI (x : StCfg) : InvT := fun S _ w => (S x.s → S x.p) ∧ (¬ S x.s → Blk w x.b x.t x.o) ∧ (S x.s → Blk w x.b x.t x.n)
def ExI (x y : StCfg) (val : Nat → Value) : InvT := fun S V w => (∀ i, S i → i ≠ x.s → i ≠ y.s → V i = val i) ∧ StI x S V w ∧ StI y S V w
section
variable {x y : StCfg} {val : Nat → Value} {S : Nat → Prop} {V : Nat → Value} {w w' : World}
theorem StI.below (h : StI x S V w) (k : Below w.heap.size w w') : StI x S V w' := ⟨h.1, fun e => (h.2.1 e).on k, fun e => (h.2.2 e).on k⟩
theorem ExI.below (h : ExI x y val S V w) (k : Below w.heap.size w w') : ExI x y val S V w' := ⟨h.1, h.2.1.below k, h.2.2.below k⟩
theorem exI_zero (h1 : Blk w x.b x.t x.o) (h2 : Blk w y.b y.t y.o) : ExI x y val (fun _ => False) V w := ⟨fun _ h _ _ => h.elim, ⟨fun h => h.elim, fun _ => h1, fun h => h.elim⟩, ⟨fun h => h.elim, fun _ => h2, fun h => h.elim⟩⟩
theorem StI.lay {i : Nat} {v : Value} (h : StI x S V w) (hi : i ≠ x.s) (k : Below w.heap.size w w') : StI x (andOf S i) (upd V i v) w' :=
  ⟨fun e => .inr (h.1 (e.resolve_left fun e => hi e.symm)), fun e => (h.2.1 fun e' => e (.inr e')).on k, fun e => (h.2.2 (e.resolve_left fun e => hi e.symm)).on k⟩
theorem ExI.lay {i : Nat} {v : Value} (h : ExI x y val S V w) (hx : i ≠ x.s) (hy : i ≠ y.s) (hv : v = val i) (k : Below w.heap.size w w') : ExI x y val (andOf S i) (upd V i v) w' :=
  ⟨fun j hj h1 h2 => by
    by_cases e : j = i
    · rw [e, upd_same, hv]
    · rw [upd_ne e]; exact h.1 j (hj.resolve_left e) h1 h2, h.2.1.lay hx k, h.2.2.lay hy k⟩
theorem StI.far {i : Nat} {v : Value} {b : Nat} (h : StI x S V w) (hi : i ≠ x.s) (hb : x.b ≠ b) (k : Kept (fun c => c ≠ b) w w') : StI x (andOf S i) (upd V i v) w' :=
  ⟨fun e => .inr (h.1 (e.resolve_left fun e => hi e.symm)), fun e => k.blk hb (h.2.1 fun e' => e (.inr e')), fun e => k.blk hb (h.2.2 (e.resolve_left fun e => hi e.symm))⟩
theorem StI.set {v : Value} (hp : S x.p) (hb : Blk w' x.b x.t x.n) : StI x (andOf S x.s) (upd V x.s v) w' := ⟨fun _ => .inr hp, fun e => absurd (.inl rfl) e, fun _ => hb⟩
theorem ExI.fst {v : Value} (h : ExI x y val S V w) (hne : x.s ≠ y.s) (hp : S x.p) (hb : y.b ≠ x.b) (k : Kept (fun c => c ≠ x.b) w w') (hn : Blk w' x.b x.t x.n) : ExI x y val (andOf S x.s) (upd V x.s v) w' :=
  ⟨fun j hj h1 h2 => by rw [upd_ne h1]; exact h.1 j (hj.resolve_left h1) h1 h2, StI.set hp hn, h.2.2.far hne hb k⟩
theorem ExI.snd {v : Value} (h : ExI x y val S V w) (hne : x.s ≠ y.s) (hp : S y.p) (hb : x.b ≠ y.b) (k : Kept (fun c => c ≠ y.b) w w') (hn : Blk w' y.b y.t y.n) : ExI x y val (andOf S y.s) (upd V y.s v) w' :=
  ⟨fun j hj h1 h2 => by rw [upd_ne h2]; exact h.1 j (hj.resolve_left h2) h1 h2, h.2.1.far (Ne.symm hne) hb k, StI.set hp hn⟩
theorem ExI.old1 {i : Nat} (h : ExI x y val S V w) (hn : ¬ S i) (hi : x.p = i) : Blk w x.b x.t x.o := h.2.1.2.1 fun e => hn (hi ▸ h.2.1.1 e)
theorem ExI.old2 {i : Nat} (h : ExI x y val S V w) (hn : ¬ S i) (hi : y.p = i) : Blk w y.b y.t y.o := h.2.2.2.1 fun e => hn (hi ▸ h.2.2.1 e)
theorem ExI.be1 (h : ExI x y val S V w) (hn : ¬ S x.s) : Blk w x.b x.t x.o := h.2.1.2.1 hn
theorem ExI.be2 (h : ExI x y val S V w) (hn : ¬ S y.s) : Blk w y.b y.t y.o := h.2.2.2.1 hn
end
theorem keptD_set {D : List Nat} {w0 w w' : World} {b : Nat} (h : KeptD D w0 w) (hb : b ∈ D) (k : Kept (fun c => c ≠ b) w w') : KeptD D w0 w' := Kept.trans h (k.mono fun _ hc e => hc (e ▸ hb))
end Go.Proofs.Ytlmjggbpophnfaa
