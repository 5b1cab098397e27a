/- A region that holds a disk's call and a store of a whole document's disk, in any order: its invariant. -/
import Derived.Test.YtlmjggbpophnfaaDRef4
import Derived.Test.YtlmjggbpophnfaaDiskL
import Derived.Test.YtlmjggbpophnfaaExch
namespace Go.Proofs.Ytlmjggbpophnfaa
open Go.RowKit Go.Maps

/-- Call c turns the disk from S0 to S1; store s writes block R. -/
structure DoC where
  base : Nat
  d : Nat
  c : Nat
  s : Nat
  R : Nat
  S0 : DS
  S1 : DS
  o : Array Value
  n : Array Value
structure DoOk (x : DoC) (w0 : World) (M : Nat → Prop) (L : List Nat) : Prop where
  ne : x.c ≠ x.s
  list : ∀ b, M b ↔ b ∈ L
  disk : DiskIs w0 x.base M x.d x.S0
  blk : Blk w0 x.R 42 x.o
  based : x.base ≤ x.R
def DoI (x : DoC) (w0 : World) (M : Nat → Prop) (val : Nat → Value) : InvT := fun S V w => (∀ i, S i → i ≠ x.s → V i = val i) ∧ (¬ S x.c → DiskIs w x.base M x.d x.S0) ∧
  (S x.c → ∃ M', DiskIs w x.base M' x.d x.S1 ∧ ∀ b, M' b → M b ∨ w0.heap.size ≤ b) ∧ (¬ S x.s → Blk w x.R 42 x.o) ∧ (S x.s → Blk w x.R 42 x.n)
theorem disk_list {w : World} {base d : Nat} {M : Nat → Prop} {S : DS} (h : DiskIs w base M d S) : ∃ L : List Nat, ∀ b, M b ↔ b ∈ L := by
  obtain ⟨bm, v, sv, lv, -, hM⟩ := h
  refine ⟨d :: bm :: v.ownBlock.toList, fun b => ?_⟩
  rw [hM]
  unfold Mine
  simp
theorem not_by {w : World} {b base : Nat} {t : TypeId} {cs : Array Value} (hB : Blk w b t cs) (ht : t ≠ 5) (hb : base ≤ b) : ¬ ByteBlk w base b := by
  rintro (h | ⟨cur, h⟩)
  · omega
  · exact ht (blk_one hB h)
section
variable {x : DoC} {w0 w w' : World} {M : Nat → Prop} {L : List Nat} {val : Nat → Value} {S : Nat → Prop} {V : Nat → Value}
theorem DoOk.out (h : DoOk x w0 M L) : x.R ∉ L := fun hR => by
  rcases (h.disk.mine ((h.list _).2 hR)).2.2 _ _ h.blk with e | e <;> revert e <;> decide
/-- Bytes are not among those that are turned. -/
theorem DoOk.bytes (h : DoOk x w0 M L) {b : Nat} (hb : ByteBlk w0 x.base b) : b ∉ x.R :: L := fun hm => by
  rcases List.mem_cons.1 hm with rfl | hm
  · exact not_by h.blk (by decide) h.based hb
  · have hm := (h.list b).2 hm
    rcases hb with hb | ⟨cur, hb⟩
    · have := (h.disk.mine hm).1; omega
    · rcases (h.disk.mine hm).2.2 _ _ hb with e | e <;> revert e <;> decide
theorem DoOk.rows (h : DoOk x w0 M L) {b : Nat} {cur : Array Value} (hb : Blk w0 b 75 cur) : b ∉ x.R :: L := fun hm => by
  rcases List.mem_cons.1 hm with rfl | hm
  · have := blk_one hb h.blk
    revert this; decide
  · rcases (h.disk.mine ((h.list b).2 hm)).2.2 _ _ hb with e | e <;> revert e <;> decide
theorem DoOk.low (h : DoOk x w0 M L) {b : Nat} (hm : b ∈ x.R :: L) : x.base ≤ b := by
  rcases List.mem_cons.1 hm with rfl | hm
  · exact h.based
  · exact (h.disk.mine ((h.list b).2 hm)).1
theorem DoI.below (h : DoI x w0 M val S V w) (k : Below w.heap.size w w') : DoI x w0 M val S V w' :=
  ⟨h.1, fun e => (h.2.1 e).on k, fun e => by
    obtain ⟨M', h1, h2⟩ := h.2.2.1 e
    exact ⟨M', h1.on k, h2⟩, fun e => (h.2.2.2.1 e).on k, fun e => (h.2.2.2.2 e).on k⟩
theorem doI_zero (h : DoOk x w0 M L) : DoI x w0 M val (fun _ => False) V w0 := ⟨fun _ h => h.elim, fun _ => h.disk, fun h => h.elim, fun _ => h.blk, fun h => h.elim⟩
theorem DoI.lay {i : Nat} {v : Value} (h : DoI x w0 M val S V w) (hc : i ≠ x.c) (hs : i ≠ x.s) (hv : v = val i) (k : Below w.heap.size w w') : DoI x w0 M val (andOf S i) (upd V i v) w' := by
  have h := h.below k
  refine ⟨fun j hj h1 => ?_, fun e => h.2.1 fun e' => e (.inr e'), fun e => h.2.2.1 (e.resolve_left fun e => hc e.symm), fun e => h.2.2.2.1 fun e' => e (.inr e'), fun e => h.2.2.2.2 (e.resolve_left fun e => hs e.symm)⟩
  by_cases e : j = i
  · rw [e, upd_same, hv]
  · rw [upd_ne e]; exact h.1 j (hj.resolve_left e) h1
theorem DoI.call {v : Value} (H : DoOk x w0 M L) (hw : KeptD (x.R :: L) w0 w) (h : DoI x w0 M val S V w) (hn : ¬ S x.c) (hv : v = val x.c) (t : Turn w x.base M x.d x.S1 w') :
    KeptD (x.R :: L) w0 w' ∧ DoI x w0 M val (andOf S x.c) (upd V x.c v) w' := by
  have h0 := h.2.1 hn
  have hws : w0.heap.size ≤ w.heap.size := Kept.size hw
  obtain ⟨M', t1, t2, t3⟩ := id t
  refine ⟨Kept.trans hw (t3.mono fun b hb hm => hb (List.mem_cons_of_mem _ ((H.list b).1 hm))), fun j hj h1 => ?_, fun e => absurd (.inl rfl) e, fun _ => ⟨M', t1, fun b hb => (t2 b hb).imp id (Nat.le_trans hws)⟩, fun e => ?_, fun e => ?_⟩
  · by_cases e : j = x.c
    · rw [e, upd_same, hv]
    · rw [upd_ne e]; exact h.1 j (hj.resolve_left e) h1
  · exact t.blk h0 (h.2.2.2.1 fun e' => e (.inr e')) (by decide)
  · exact t.blk h0 (h.2.2.2.2 (e.resolve_left fun e => H.ne e.symm)) (by decide)
theorem DoI.store {v : Value} (H : DoOk x w0 M L) (hw : KeptD (x.R :: L) w0 w) (h : DoI x w0 M val S V w) (hn : ¬ S x.s) (k : Kept (fun c => c ≠ x.R) w w') (hb : Blk w' x.R 42 x.n) :
    KeptD (x.R :: L) w0 w' ∧ DoI x w0 M val (andOf S x.s) (upd V x.s v) w' := by
  have hB := h.2.2.2.1 hn
  have hby : ∀ b, ByteBlk w x.base b → b ≠ x.R := fun b hb e => by subst e; exact not_by hB (by decide) H.based hb
  refine ⟨keptD_set hw List.mem_cons_self k, fun j hj h1 => ?_, fun e => ?_, fun e => ?_, fun e => absurd (.inl rfl) e, fun _ => hb⟩
  · rw [upd_ne h1]; exact h.1 j (hj.resolve_left h1) h1
  · exact (h.2.1 fun e' => e (.inr e')).kept k (fun b hm e => H.out (e ▸ (H.list b).1 hm)) hby
  · obtain ⟨M', h1, h2⟩ := h.2.2.1 (e.resolve_left H.ne)
    refine ⟨M', h1.kept k (fun b hm e => ?_) hby, h2⟩
    subst e
    rcases h2 _ hm with h3 | h3
    · exact H.out ((H.list _).1 h3)
    · have := H.blk.lt; omega
theorem DoI.old (h : DoI x w0 M val S V w) (hn : ¬ S x.s) : Blk w x.R 42 x.o := h.2.2.2.1 hn
/-- What stays behind the region. -/
theorem DoOk.good (H : DoOk x w0 M L) (hw : KeptD (x.R :: L) w0 w) {s : SL} (hs : GoodS w0 x.base s) : GoodS w x.base s ∧ rdB w s = rdB w0 s := hs.kept hw fun _ hb => H.bytes hb
theorem DoOk.ref (H : DoOk x w0 M L) (hw : KeptD (x.R :: L) w0 w) {v : Value} {S' : DS} (h : RefIs w0 x.base v S') : RefIs w x.base v S' := by
  obtain ⟨a, b, sl, ll, e, h⟩ := h
  have hk : ∀ g cur, Blk w0 g 75 cur → Blk w g 75 cur := fun g cur hB => Kept.blk hw (H.rows hB) hB
  obtain ⟨g1, g2⟩ := h.ga.kept hw fun _ hb => H.bytes hb
  obtain ⟨g3, g4⟩ := h.gb.kept hw fun _ hb => H.bytes hb
  exact ⟨a, b, sl, ll, e, h.ra.kept hk, h.rb.kept hk, g1, g3, by rw [g2]; exact h.safe, by rw [g4]; exact h.l⟩
theorem DoOk.belo (H : DoOk x w0 M L) (hw : KeptD (x.R :: L) w0 w) (hb : x.base ≤ w0.heap.size) : Below x.base w0 w := Kept.below hw hb fun b hlt hm => by have := H.low hm; omega
end
theorem RefIs.on {w w' : World} {base : Nat} {v : Value} {S : DS} (h : RefIs w base v S) (hb : Below w.heap.size w w') : RefIs w' base v S := by
  obtain ⟨a, b, sl, ll, e, h⟩ := h
  exact ⟨a, b, sl, ll, e, h.on hb⟩
theorem spc5 {w : World} {g : Nat} {t : TypeId} {x y z p q : Value} {D : List Nat} (h : Blk w g t #[x, y, z, p, q]) (hg : g ∉ D) :
    (∀ f d os, (Go.Sort.grow (redrawn (spoil w D f) d) os).cell? ⟨g, 0, none⟩ = some x) ∧ (∀ f d os, (Go.Sort.grow (redrawn (spoil w D f) d) os).cell? ⟨g, 1, none⟩ = some y) ∧ (∀ f d os, (Go.Sort.grow (redrawn (spoil w D f) d) os).cell? ⟨g, 2, none⟩ = some z) ∧
    (∀ f d os, (Go.Sort.grow (redrawn (spoil w D f) d) os).cell? ⟨g, 3, none⟩ = some p) ∧ (∀ f d os, (Go.Sort.grow (redrawn (spoil w D f) d) os).cell? ⟨g, 4, none⟩ = some q) :=
  ⟨fun f d os => (h.sp hg f d os).c5.1.1, fun f d os => (h.sp hg f d os).c5.1.2.1, fun f d os => (h.sp hg f d os).c5.1.2.2.1, fun f d os => (h.sp hg f d os).c5.1.2.2.2.1, fun f d os => (h.sp hg f d os).c5.1.2.2.2.2⟩
end Go.Proofs.Ytlmjggbpophnfaa
