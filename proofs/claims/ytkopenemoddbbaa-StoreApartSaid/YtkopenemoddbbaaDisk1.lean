/- A disk in memory, whole; what a disk's call may turn; all blobs as they were put last. -/
import Derived.Test.YtkopenemoddbbaaDiskW
import Derived.Test.YtkopenemoddbbaaCrc5
import Derived.Test.YtkopenemoddbbaaBase2
import Derived.Test.YtkopenemoddbbaaChecked
import Derived.Shelf.SlMaps.Clone
import Derived.Maps.OwnOps
import Derived.Deep.Cut
namespace Go.Proofs.Ytkopenemoddbbaa
open Go.RowKit Go.Maps
attribute [local go_sem] Oper.semAt_some

abbrev encW (p : Int × SL) : List Value := [.int .i64 p.1, slV p.2]
theorem lenW (p : Int × SL) : (encW p).length = 2 := rfl
structure DiskAt (w : World) (base d bm : Nat) (v : Value) (S : DS) (sv lv : List (Int × SL)) : Prop where
  blk : Blk w d 90 #[.int .i64 S.room, .int .i64 S.fails, .int .i64 S.waits, .map (some bm), v]
  map : w.ownsMap Try.prog 3 RS bm sv.length (DM sv)
  row : Owns w base 92 2 encW v lv
  based : base ≤ d
  basem : base ≤ bm
  gs : GoodL w base sv
  gl : GoodL w base lv
  safe : S.safe = cont w sv
  l : S.l = cont w lv
theorem own_blk {w : World} {base n size : Nat} {e : TypeId} {v : Value} {xs : List Value} (h : w.ownsRow base e size v n xs) {g : Nat} (hg : v.ownBlock = some g) : base ≤ g ∧ ∃ cur, Blk w g e cur := by
  rcases h.2 with ⟨rfl, _⟩ | ⟨g', cap, cur, rfl, hb, hgg, _⟩
  · cases hg
  · simp [Value.ownBlock] at hg
    subst hg
    exact ⟨hb, cur, hgg⟩
theorem blk_one {w : World} {g : Nat} {t t' : TypeId} {cs cs' : Array Value} (h : Blk w g t cs) (h' : Blk w g t' cs') : t = t' := by
  unfold Blk at h h'
  rw [h] at h'
  simp only [Option.some.injEq, Obj.cells.injEq] at h'
  exact h'.2.1
/-- The blocks of a disk that its calls write to. -/
def Mine (d bm : Nat) (v : Value) (b : Nat) : Prop := b = d ∨ b = bm ∨ v.ownBlock = some b
/-- What such a block is. -/
theorem DiskAt.mine {w : World} {base d bm : Nat} {v : Value} {S : DS} {sv lv : List (Int × SL)} (h : DiskAt w base d bm v S sv lv) {b : Nat} (hb : Mine d bm v b) : base ≤ b ∧ b < w.heap.size ∧ ∀ t cs, Blk w b t cs → t = 90 ∨ t = 92 := by
  rcases hb with rfl | rfl | hb
  · exact ⟨h.based, h.blk.lt, fun t cs hB => .inl (blk_one hB h.blk)⟩
  · exact ⟨h.basem, h.map.lt, fun t cs hB => absurd hB (map_lt h.map _ _ _)⟩
  · obtain ⟨h1, cur, h2⟩ := own_blk h.row hb
    exact ⟨h1, h2.lt, fun t cs hB => .inr (blk_one hB h2)⟩
theorem DiskAt.kept {w w' : World} {base d bm : Nat} {v : Value} {S : DS} {sv lv : List (Int × SL)} {K : Nat → Prop} (h : DiskAt w base d bm v S sv lv) (hk : Kept K w w') (h1 : ∀ b, Mine d bm v b → K b) (h2 : ∀ b, ByteBlk w base b → K b) : DiskAt w' base d bm v S sv lv := by
  obtain ⟨g1, g2⟩ := h.gs.kept hk h2
  obtain ⟨g3, g4⟩ := h.gl.kept hk h2
  refine ⟨hk.blk (h1 _ (.inl rfl)) h.blk, map_kept h.map (hk.block _ h.map.lt (h1 _ (.inr (.inl rfl)))), ⟨h.row.1, ?_⟩, h.based, h.basem, g1, g3, by rw [g2]; exact h.safe, by rw [g4]; exact h.l⟩
  rcases h.row.2 with h0 | ⟨g, cap, cur, hv, hbg, hg, r⟩
  · exact .inl h0
  · exact .inr ⟨g, cap, cur, hv, hbg, (hk.block g (Array.getElem?_eq_some_iff.1 hg).1 (h1 g (.inr (.inr (by rw [hv]; rfl))))).trans hg, r⟩
theorem DiskAt.on {w w' : World} {base d bm : Nat} {v : Value} {S : DS} {sv lv : List (Int × SL)} (h : DiskAt w base d bm v S sv lv) (hb : Below w.heap.size w w') : DiskAt w' base d bm v S sv lv := h.kept (K := fun _ => True) (Kept.of_below hb |>.mono fun _ _ => trivial) (fun _ _ => trivial) (fun _ _ => trivial)
/-- The same, with what is inside out of sight. -/
def DiskIs (w : World) (base : Nat) (M : Nat → Prop) (d : Nat) (S : DS) : Prop := ∃ bm v sv lv, DiskAt w base d bm v S sv lv ∧ ∀ b, M b ↔ Mine d bm v b
/-- Behind a call. -/
def Turn (w : World) (base : Nat) (M : Nat → Prop) (d : Nat) (S : DS) (w' : World) : Prop := ∃ M', DiskIs w' base M' d S ∧ (∀ b, M' b → M b ∨ w.heap.size ≤ b) ∧ Kept (fun b => ¬ M b) w w'
theorem DiskIs.mine {w : World} {base : Nat} {M : Nat → Prop} {d : Nat} {S : DS} (h : DiskIs w base M d S) {b : Nat} (hb : M b) : base ≤ b ∧ b < w.heap.size ∧ ∀ t cs, Blk w b t cs → t = 90 ∨ t = 92 := by
  obtain ⟨bm, v, sv, lv, h, hM⟩ := h
  exact h.mine ((hM b).1 hb)
theorem DiskIs.kept {w w' : World} {base : Nat} {M : Nat → Prop} {d : Nat} {S : DS} {K : Nat → Prop} (h : DiskIs w base M d S) (hk : Kept K w w') (h1 : ∀ b, M b → K b) (h2 : ∀ b, ByteBlk w base b → K b) : DiskIs w' base M d S := by
  obtain ⟨bm, v, sv, lv, h, hM⟩ := h
  exact ⟨bm, v, sv, lv, h.kept hk (fun b hb => h1 b ((hM b).2 hb)) h2, hM⟩
theorem DiskIs.on {w w' : World} {base : Nat} {M : Nat → Prop} {d : Nat} {S : DS} (h : DiskIs w base M d S) (hb : Below w.heap.size w w') : DiskIs w' base M d S := h.kept (K := fun _ => True) (Kept.of_below hb |>.mono fun _ _ => trivial) (fun _ _ => trivial) (fun _ _ => trivial)
/-- A store into a block of another kind. -/
theorem DiskIs.far {w : World} {base : Nat} {M : Nat → Prop} {d : Nat} {S : DS} {p : Addr} {t : TypeId} {cs : Array Value} (h : DiskIs w base M d S) (hB : Blk w p.block t cs) (ht : t ≠ 90 ∧ t ≠ 92 ∧ t ≠ 5) (hp : base ≤ p.block) (u : Value) : DiskIs (w.setCell p u) base M d S := by
  refine h.kept (K := fun b => b ≠ p.block) ((Kept.refl _ w).setCell (by simp) u) (fun b hb e => ?_) (fun b hb e => ?_)
  · subst e
    rcases (h.mine hb).2.2 _ _ hB with e | e
    · exact ht.1 e
    · exact ht.2.1 e
  · subst e
    rcases hb with hb | ⟨cur, hb⟩
    · omega
    · exact ht.2.2 (blk_one hB hb)
/-- What stays behind a disk's call. -/
theorem Turn.blk {w w' : World} {base : Nat} {M : Nat → Prop} {d g : Nat} {S S' : DS} {t : TypeId} {cs : Array Value} (h : Turn w base M d S' w') (h0 : DiskIs w base M d S) (hB : Blk w g t cs) (ht : t ≠ 90 ∧ t ≠ 92) : Blk w' g t cs := by
  obtain ⟨M', -, -, hk⟩ := h
  exact hk.blk (fun hM => by
    rcases (h0.mine hM).2.2 _ _ hB with e | e
    · exact ht.1 e
    · exact ht.2 e) hB
theorem Turn.below {w w' : World} {base : Nat} {M : Nat → Prop} {d : Nat} {S S' : DS} (h : Turn w base M d S' w') (h0 : DiskIs w base M d S) (hb : base ≤ w.heap.size) : Below base w w' := by
  obtain ⟨M', -, -, hk⟩ := h
  exact hk.below hb fun b hb hM => by have := (h0.mine hM).1; omega
theorem Turn.own {w w' : World} {base : Nat} {M : Nat → Prop} {d b0 size : Nat} {S S' : DS} {e : TypeId} {α : Type} {enc : α → List Value} {v : Value} {xs : List α} (h : Turn w base M d S' w') (h0 : DiskIs w base M d S) (hO : Owns w b0 e size enc v xs) (ht : e ≠ 90 ∧ e ≠ 92) : Owns w' b0 e size enc v xs := by
  refine ⟨hO.1, ?_⟩
  rcases hO.2 with h1 | ⟨g, cap, cur, hv, hbg, hg, r⟩
  · exact .inl h1
  · exact .inr ⟨g, cap, cur, hv, hbg, h.blk h0 hg ht, r⟩
theorem Turn.good {w w' : World} {base : Nat} {M : Nat → Prop} {d : Nat} {S S' : DS} {s : SL} (h : Turn w base M d S' w') (h0 : DiskIs w base M d S) (hs : GoodS w base s) : GoodS w' base s ∧ rdB w' s = rdB w s := by
  obtain ⟨M', -, -, hk⟩ := h
  refine hs.kept hk fun b hb hM => ?_
  rcases hb with hb | ⟨cur, hb⟩
  · have := (h0.mine hM).1; omega
  · rcases (h0.mine hM).2.2 _ _ hb with e | e <;> revert e <;> decide
theorem Turn.goods {w w' : World} {base : Nat} {M : Nat → Prop} {d : Nat} {S S' : DS} {l : List (Int × SL)} (h : Turn w base M d S' w') (h0 : DiskIs w base M d S) (hs : GoodL w base l) : GoodL w' base l ∧ cont w' l = cont w l :=
  ⟨fun p hp => (h.good h0 (hs p hp)).1, List.map_congr_left fun p hp => by rw [(h.good h0 (hs p hp)).2]⟩
/-- Nothing but new memory. -/
theorem Turn.same {w w' : World} {base : Nat} {M : Nat → Prop} {d : Nat} {S : DS} (h0 : DiskIs w base M d S) (hb : Below w.heap.size w w') : Turn w base M d S w' := ⟨M, h0.on hb, fun _ h => .inl h, (Kept.of_below hb).mono fun _ _ => trivial⟩
theorem Turn.on {w w' w'' : World} {base : Nat} {M : Nat → Prop} {d : Nat} {S : DS} (h : Turn w base M d S w') (hb : Below w'.heap.size w' w'') : Turn w base M d S w'' := by
  obtain ⟨M', h1, h2, h3⟩ := h
  exact ⟨M', h1.on hb, h2, h3.on hb⟩
theorem Turn.trans {w w' w'' : World} {base : Nat} {M M' : Nat → Prop} {d : Nat} {S' : DS} (h2 : ∀ b, M' b → M b ∨ w.heap.size ≤ b) (h3 : Kept (fun b => ¬ M b) w w') (k : Turn w' base M' d S' w'') : Turn w base M d S' w'' := by
  obtain ⟨M'', k1, k2, k3⟩ := k
  refine ⟨M'', k1, fun b hb => ?_, ?_⟩
  · rcases k2 b hb with h | h
    · exact h2 b h
    · exact .inr (Nat.le_trans h3.size h)
  · refine ⟨k3.os.trans h3.os, k3.tape.trans h3.tape, k3.output.trans h3.output, Nat.le_trans h3.size k3.size, fun b hb hM => (k3.block b (Nat.lt_of_lt_of_le hb h3.size) fun h => ?_).trans (h3.block b hb hM)⟩
    rcases h2 b h with h | h
    · exact hM h
    · omega

theorem lawI : Keyed Try.prog 3 := int_keyed Try.underlying3
theorem zeroB (w : World) : (zeroValue 22).run Try.prog w = .ok (.slice none 0 0) w := by kernel_rfl
theorem wf64 {x : Int} (h : In64 x) : (Lit.int .i64 x).wf = true := by
  simp [Lit.wf, IntKind.min, IntKind.max, IntKind.signed, IntKind.bits]
  unfold In64 at h
  omega
theorem key64 {x : Int} (h : In64 x) : keyOf Try.prog 3 (.int .i64 x) = some (.int .i64 x) := keyOf_int_mk Try.underlying3 (wf64 h)
set_option maxRecDepth 100000 in
set_option maxHeartbeats 2000000 in
theorem mclone_c (b n : Nat) (D : DataW SL) (w : World) (hown : w.ownsMap Try.prog 3 RS b n D) :
    Calls Try.prog 72 #[.map (some b)] w fun e w' => e = .returned (.map (some w.heap.size)) ∧ w'.ownsMap Try.prog 3 RS w.heap.size n D ∧ Below w.heap.size w w' := by
  obtain ⟨es, clock, hb, F, hs, hD⟩ := hown
  have hq := fun w => run_eql_map_nil_sl (P := Try.prog) w 87 _ _ (some b) Try.underlying87
  have hta := fun w (v : Value) => run_typeAssert_map_sl (P := Try.prog) w 87 20 _ _ v Try.underlying87
  go_enter Try.func72, Try.ntmps72
  go_wp2_with fail
  rw [run_callFunc_extern Try.func77 (by kernel_rfl) (by kernel_rfl) (by kernel_rfl) (e := Extern.MapsClone.clone) (by kernel_rfl), run_maps_clone_sl w 87 hb]
  simp only [Result.andThen]
  rw [Oper.upon_value]
  go_wp2_with fail
  go_returns
  have hB : Below w.heap.size w (w.alloc (.map es clock)) := (Below.refl _ w).alloc (Nat.le_refl _) _
  exact ⟨rfl, ⟨es, clock, (MapKept.heap_alloc w _).1, F, hs, hD⟩, hB⟩
end Go.Proofs.Ytkopenemoddbbaa
