/- Texts that build one behind the other, laid together: SDs2 SDs3 Disk7 SIds SIdw SIdr Many SLike. -/
import Derived.Test.YtkopenemoddbbaaMa8
import Derived.Test.YtkopenemoddbbaaMa7
import Derived.Test.YtkopenemoddbbaaMa4
import Derived.Test.YtkopenemoddbbaaShelf
import Derived.Test.YtkopenemoddbbaaMa6
/- 'next, same := does(d, r, l[i])' in a region that draws: its invariant. -/
namespace Go.Proofs.Ytkopenemoddbbaa
open Go.RowKit Go.Maps

/-- 6 the call, 7 its pair, 8 and 9 what is taken out, 10 a new variable, 11 the store into it. -/
def DsI (base d : Nat) (S9 : DS) (M : Nat → Prop) (S0 : DS) (n0 : Nat) : InvT := fun S V w => ∃ (a b : SL) (S' : DS), (S 7 → S 6) ∧ (S 8 → S 7) ∧ (S 9 → S 7) ∧ (S 11 → S 8 ∧ S 10) ∧
  (¬ S 6 → DiskIs w base M d S0) ∧
  (S 6 → V 6 = .tuple #[.agg (dv S' a b), .bool true] ∧ (∃ M', DiskIs w base M' d S' ∧ ∀ b, M' b → M b ∨ n0 ≤ b) ∧ RefIs w base (.agg (dv S' a b)) S' ∧ S' = S9) ∧
  (S 7 → V 7 = .tuple #[.agg (dv S' a b), .bool true]) ∧ (S 8 → V 8 = .agg (dv S' a b)) ∧ (S 9 → V 9 = .bool true) ∧
  (S 10 → ∃ g, V 10 = .pointer (some ⟨g, 0, none⟩) ∧ n0 ≤ g ∧ base ≤ g ∧ (¬ S 11 → Blk w g 46 zeroD) ∧ (S 11 → Blk w g 46 (dv S' a b)))
section
variable {base d n0 : Nat} {S9 : DS} {M : Nat → Prop} {S0 : DS} {S : Nat → Prop} {V : Nat → Value} {w w' : World}
theorem dsI_zero (h : DiskIs w base M d S0) : DsI base d S9 M S0 n0 (fun _ => False) V w :=
  ⟨(none, 0, 0), (none, 0, 0), S0, fun h => h.elim, fun h => h.elim, fun h => h.elim, fun h => h.elim, fun _ => h, fun h => h.elim, fun h => h.elim, fun h => h.elim, fun h => h.elim, fun h => h.elim⟩
theorem DsI.below (h : DsI base d S9 M S0 n0 S V w) (k : Below w.heap.size w w') : DsI base d S9 M S0 n0 S V w' := by
  obtain ⟨a, b, S', o7, o8, o9, o11, d0, d6, v7, v8, v9, bx⟩ := h
  refine ⟨a, b, S', o7, o8, o9, o11, fun e => (d0 e).on k, fun e => ?_, v7, v8, v9, fun e => ?_⟩
  · obtain ⟨h1, ⟨M', h2, h3⟩, h4, h5⟩ := d6 e
    exact ⟨h1, ⟨M', h2.on k, h3⟩, h4.on k, h5⟩
  · obtain ⟨g, h1, h2, h3, h4, h5⟩ := bx e
    exact ⟨g, h1, h2, h3, fun e => (h4 e).on k, fun e => (h5 e).on k⟩
theorem aO {i j : Nat} (h : andOf S i j) (hne : j ≠ i) : S j := h.resolve_left hne
theorem aN {i j : Nat} (h : ¬ andOf S i j) : ¬ S j := fun h' => h (.inr h')
theorem DsI.call {v : Value} (h : DsI base d S9 M S0 n0 S V w) (hn : ¬ S 6) (hs : n0 ≤ w.heap.size) {v' : Value} {S1 : DS} (t : Turn w base M d S1 w') (hr : RefIs w' base v' S1) (hk : S1 = S9) (hv : v = .tuple #[v', .bool true]) : DsI base d S9 M S0 n0 (andOf S 6) (upd V 6 v) w' := by
  obtain ⟨a, b, S', o7, o8, o9, o11, d0, d6, v7, v8, v9, bx⟩ := h
  obtain ⟨a1, b1, sl, ll, rfl, hra⟩ := hr
  have n7 : ¬ S 7 := fun h => hn (o7 h)
  have n8 : ¬ S 8 := fun h => n7 (o8 h)
  have n9 : ¬ S 9 := fun h => n7 (o9 h)
  have n11 : ¬ S 11 := fun h => n8 (o11 h).1
  have h0 := d0 hn
  obtain ⟨M', t1, t2, t3⟩ := id t
  refine ⟨a1, b1, S1, fun e => absurd (aO e (by decide)) n7, fun e => absurd (aO e (by decide)) n8, fun e => absurd (aO e (by decide)) n9, fun e => absurd (aO e (by decide)) n11, fun e => absurd (.inl rfl) e,
    fun _ => ⟨by rw [upd_same, hv], ⟨M', t1, fun b hb => (t2 b hb).imp id (Nat.le_trans hs)⟩, ⟨a1, b1, sl, ll, rfl, hra⟩, hk⟩, fun e => absurd (aO e (by decide)) n7, fun e => absurd (aO e (by decide)) n8, fun e => absurd (aO e (by decide)) n9, fun e => ?_⟩
  obtain ⟨g, h1, h2, h3, h4, -⟩ := bx (aO e (by decide))
  exact ⟨g, by rw [upd_ne (by decide)]; exact h1, h2, h3, fun _ => t.blk h0 (h4 n11) (by decide), fun e => absurd (aO e (by decide)) n11⟩
theorem DsI.get6 (h : DsI base d S9 M S0 n0 S V w) (h6 : S 6) : ∃ a b S', V 6 = .tuple #[.agg (dv S' a b), .bool true] := by
  obtain ⟨a, b, S', o7, o8, o9, o11, d0, d6, v7, v8, v9, bx⟩ := h
  exact ⟨a, b, S', (d6 h6).1⟩
theorem DsI.move {v : Value} (h : DsI base d S9 M S0 n0 S V w) (h6 : S 6) (hv : v = V 6) : DsI base d S9 M S0 n0 (andOf S 7) (upd V 7 v) w := by
  obtain ⟨a, b, S', o7, o8, o9, o11, d0, d6, v7, v8, v9, bx⟩ := h
  refine ⟨a, b, S', fun _ => .inr h6, fun _ => .inl rfl, fun _ => .inl rfl, fun e => ⟨.inr (o11 (aO e (by decide))).1, .inr (o11 (aO e (by decide))).2⟩, fun e => d0 (aN e), fun _ => by rw [upd_ne (by decide)]; exact d6 h6, fun _ => by rw [upd_same, hv, (d6 h6).1],
    fun e => by rw [upd_ne (by decide)]; exact v8 (aO e (by decide)), fun e => by rw [upd_ne (by decide)]; exact v9 (aO e (by decide)), fun e => ?_⟩
  obtain ⟨g, h1, h2, h3, h4, h5⟩ := bx (aO e (by decide))
  exact ⟨g, by rw [upd_ne (by decide)]; exact h1, h2, h3, fun e => h4 (aN e), fun e => h5 (aO e (by decide))⟩
theorem DsI.get7 (h : DsI base d S9 M S0 n0 S V w) (h7 : S 7) : ∃ a b S', V 7 = .tuple #[.agg (dv S' a b), .bool true] ∧ ∀ v, (v = .agg (dv S' a b) → DsI base d S9 M S0 n0 (andOf S 8) (upd V 8 v) w) ∧ (v = .bool true → DsI base d S9 M S0 n0 (andOf S 9) (upd V 9 v) w) := by
  obtain ⟨a, b, S', o7, o8, o9, o11, d0, d6, v7, v8, v9, bx⟩ := h
  refine ⟨a, b, S', v7 h7, fun v => ⟨fun hv => ?_, fun hv => ?_⟩⟩
  · refine ⟨a, b, S', fun e => .inr (o7 (aO e (by decide))), fun _ => .inr h7, fun _ => .inr h7, fun e => ⟨.inl rfl, .inr (o11 (aO e (by decide))).2⟩, fun e => d0 (aN e), fun e => by rw [upd_ne (by decide)]; exact d6 (aO e (by decide)), fun _ => by rw [upd_ne (by decide)]; exact v7 h7,
      fun _ => by rw [upd_same, hv], fun e => by rw [upd_ne (by decide)]; exact v9 (aO e (by decide)), fun e => ?_⟩
    obtain ⟨g, h1, h2, h3, h4, h5⟩ := bx (aO e (by decide))
    exact ⟨g, by rw [upd_ne (by decide)]; exact h1, h2, h3, fun e => h4 (aN e), fun e => h5 (aO e (by decide))⟩
  · refine ⟨a, b, S', fun e => .inr (o7 (aO e (by decide))), fun _ => .inr h7, fun _ => .inr h7, fun e => ⟨.inr (o11 (aO e (by decide))).1, .inr (o11 (aO e (by decide))).2⟩, fun e => d0 (aN e), fun e => by rw [upd_ne (by decide)]; exact d6 (aO e (by decide)), fun _ => by rw [upd_ne (by decide)]; exact v7 h7,
      fun e => by rw [upd_ne (by decide)]; exact v8 (aO e (by decide)), fun _ => by rw [upd_same, hv], fun e => ?_⟩
    obtain ⟨g, h1, h2, h3, h4, h5⟩ := bx (aO e (by decide))
    exact ⟨g, by rw [upd_ne (by decide)]; exact h1, h2, h3, fun e => h4 (aN e), fun e => h5 (aO e (by decide))⟩
theorem DsI.new {v : Value} (h : DsI base d S9 M S0 n0 S V w) (hn : ¬ S 10) (hs : n0 ≤ w.heap.size) (hb : base ≤ w.heap.size) (hv : v = .pointer (some ⟨w.heap.size, 0, none⟩)) : DsI base d S9 M S0 n0 (andOf S 10) (upd V 10 v) (w.alloc (.cells zeroD 46)) := by
  obtain ⟨a, b, S', o7, o8, o9, o11, d0, d6, v7, v8, v9, bx⟩ := h.below (bel_alloc w (.cells zeroD 46))
  have n11 : ¬ S 11 := fun h => hn (o11 h).2
  exact ⟨a, b, S', fun e => .inr (o7 (aO e (by decide))), fun e => .inr (o8 (aO e (by decide))), fun e => .inr (o9 (aO e (by decide))), fun e => absurd (aO e (by decide)) n11, fun e => d0 (aN e), fun e => by rw [upd_ne (by decide)]; exact d6 (aO e (by decide)),
    fun e => by rw [upd_ne (by decide)]; exact v7 (aO e (by decide)), fun e => by rw [upd_ne (by decide)]; exact v8 (aO e (by decide)), fun e => by rw [upd_ne (by decide)]; exact v9 (aO e (by decide)), fun _ => ⟨w.heap.size, by rw [upd_same, hv], hs, hb, fun _ => Blk.new' rfl, fun e => absurd (aO e (by decide)) n11⟩⟩
/-- What the store needs, and what it leaves. -/
theorem DsI.put (h : DsI base d S9 M S0 n0 S V w) (h8 : S 8) (h10 : S 10) (hn : ¬ S 11) : ∃ a b S' g, V 8 = .agg (dv S' a b) ∧ V 10 = .pointer (some ⟨g, 0, none⟩) ∧ n0 ≤ g ∧ base ≤ g ∧ Blk w g 46 zeroD ∧
    ∀ v w', Kept (fun x => x ≠ g) w w' → Blk w' g 46 (dv S' a b) → DsI base d S9 M S0 n0 (andOf S 11) (upd V 11 v) w' := by
  obtain ⟨a, b, S', o7, o8, o9, o11, d0, d6, v7, v8, v9, bx⟩ := h
  obtain ⟨g, h1, h2, h3, h4, -⟩ := bx h10
  have hB := h4 hn
  have h6 := o7 (o8 h8)
  refine ⟨a, b, S', g, v8 h8, h1, h2, h3, hB, fun v w' hk hb => ?_⟩
  refine ⟨a, b, S', fun e => .inr (o7 (aO e (by decide))), fun e => .inr (o8 (aO e (by decide))), fun e => .inr (o9 (aO e (by decide))), fun _ => ⟨.inr h8, .inr h10⟩, fun e => absurd (.inr h6) e, fun _ => ?_,
    fun e => by rw [upd_ne (by decide)]; exact v7 (aO e (by decide)), fun e => by rw [upd_ne (by decide)]; exact v8 (aO e (by decide)), fun e => by rw [upd_ne (by decide)]; exact v9 (aO e (by decide)), fun _ => ⟨g, by rw [upd_ne (by decide)]; exact h1, h2, h3, fun e => absurd (.inl rfl) e, fun _ => hb⟩⟩
  obtain ⟨e1, ⟨M', hD, hM⟩, ⟨a1, b1, sl, ll, e2, hra⟩, e3⟩ := d6 h6
  refine ⟨by rw [upd_ne (by decide)]; exact e1, ⟨M', hD.kept hk (fun c hm e => ?_) (fun c hby e => ?_), hM⟩, ⟨a1, b1, sl, ll, e2, hra.off hk hB (by decide) h3⟩, e3⟩
  · subst e
    rcases (hD.mine hm).2.2 _ _ hB with e | e <;> revert e <;> decide
  · subst e
    exact not_by hB (by decide) h3 hby
end
end Go.Proofs.Ytkopenemoddbbaa

/- What a disk's calls leave alone. -/
namespace Go.Proofs.Ytkopenemoddbbaa
open Go.RowKit Go.Maps

section
variable {w0 w : World} {base d : Nat} {M : Nat → Prop} {L : List Nat} {S : DS}
theorem lst_by (h : DiskIs w0 base M d S) (hL : ∀ b, M b ↔ b ∈ L) {b : Nat} (hb : ByteBlk w0 base b) : b ∉ L := fun hm => by
  have hm := (hL b).2 hm
  rcases hb with hb | ⟨cur, hb⟩
  · have := (h.mine hm).1; omega
  · rcases (h.mine hm).2.2 _ _ hb with e | e <;> revert e <;> decide
theorem lst_blk (h : DiskIs w0 base M d S) (hL : ∀ b, M b ↔ b ∈ L) {b : Nat} {t : TypeId} {cs : Array Value} (hb : Blk w0 b t cs) (ht : t ≠ 90 ∧ t ≠ 92) : b ∉ L := fun hm => by
  rcases (h.mine ((hL b).2 hm)).2.2 _ _ hb with e | e
  · exact ht.1 e
  · exact ht.2 e
theorem lst_good (h : DiskIs w0 base M d S) (hL : ∀ b, M b ↔ b ∈ L) (hw : KeptD L w0 w) {s : SL} (hs : GoodS w0 base s) : GoodS w base s ∧ rdB w s = rdB w0 s := hs.kept hw fun _ hb => lst_by h hL hb
theorem lst_ref (h : DiskIs w0 base M d S) (hL : ∀ b, M b ↔ b ∈ L) (hw : KeptD L w0 w) {v : Value} {S' : DS} (hr : RefIs w0 base v S') : RefIs w base v S' := by
  obtain ⟨a, b, sl, ll, e, hr⟩ := hr
  have hk : ∀ g cur, Blk w0 g 113 cur → Blk w g 113 cur := fun g cur hB => Kept.blk hw (lst_blk h hL hB (by decide)) hB
  obtain ⟨g1, g2⟩ := hr.ga.kept hw fun _ hb => lst_by h hL hb
  obtain ⟨g3, g4⟩ := hr.gb.kept hw fun _ hb => lst_by h hL hb
  exact ⟨a, b, sl, ll, e, hr.ra.kept hk, hr.rb.kept hk, g1, g3, by rw [g2]; exact hr.safe, by rw [g4]; exact hr.l⟩
end
theorem sp_cell {w : World} {D : List Nat} {g o : Nat} {v : Value} (h : w.cell? ⟨g, o, none⟩ = some v) (hg : g ∉ D) (f : Nat → Obj) (d : Nat) (os : Array Obj) : (Go.Sort.grow (redrawn (spoil w D f) d) os).cell? ⟨g, o, none⟩ = some v := by
  have hk := msd_kept (w := w) (D := D) (w' := Go.Sort.grow (redrawn (spoil w D f) d) os) ⟨⟨d, os, f⟩, rfl⟩
  have hl := cell_lt h
  unfold World.cell? at *
  dsimp only at *
  rw [hk.block g hl hg]
  exact h
/-- Keys of the four ids. -/
def KeysOk (S : DS) : Prop := ∀ p ∈ S.safe ++ S.l, 0 ≤ p.1 ∧ p.1 < 8
theorem KeysOk.now {S : DS} (h : KeysOk S) : ∀ p ∈ S.now, 0 ≤ p.1 ∧ p.1 < 1000 := fun p hp => by
  have := h p (List.mem_append.2 (mem_now hp))
  omega
theorem KeysOk.of {S S' : DS} (h : KeysOk S) (hs : ∀ p ∈ S'.safe ++ S'.l, (∃ p' ∈ S.safe ++ S.l, p'.1 = p.1) ∨ (0 ≤ p.1 ∧ p.1 < 8)) : KeysOk S' := fun p hp => by
  rcases hs p hp with ⟨p', h1, e⟩ | h1
  · rw [← e]; exact h p' h1
  · exact h1
theorem KeysOk.same {S S' : DS} (h : KeysOk S) (hs : S'.safe = S.safe) (hl : S'.l = S.l) : KeysOk S' := by
  unfold KeysOk at *
  rw [hs, hl]
  exact h
theorem KeysOk.sync {S : DS} (h : KeysOk S) : KeysOk S.sync.1 := by
  obtain ⟨e1, e2, -⟩ := asked_same S
  unfold DS.sync
  split
  · exact h.same e1 e2
  · exact h.of fun p hp => .inl ⟨p, by
      rw [List.append_nil] at hp
      exact List.mem_append.2 (mem_now hp), rfl⟩
theorem KeysOk.put {S : DS} (h : KeysOk S) {k : Int} {b : Bs} (hk : 0 ≤ k ∧ k < 8) : KeysOk (S.put k b).1 := by
  obtain ⟨e1, e2, -⟩ := asked_same S
  unfold DS.put
  split
  · exact h.same e1 e2
  · split
    · refine h.of fun p hp => ?_
      dsimp only at hp
      rw [e1, ← List.append_assoc, List.mem_append] at hp
      rcases hp with hp | hp
      · exact .inl ⟨p, hp, rfl⟩
      · obtain rfl : p = (k, b) := by simpa using hp
        exact .inr hk
    · exact h.same e1 e2
theorem crash_mem : ∀ {l s : List (Int × Bs)} {n : Nat} {p : Int × Bs}, p ∈ crashL s l n → ∃ p' ∈ s ++ l, p'.1 = p.1
  | [], s, _, p, h => ⟨p, List.mem_append_left _ h, rfl⟩
  | w :: l, s, n, p, h => by
    unfold crashL at h
    split at h
    · obtain ⟨p', h1, e⟩ := crash_mem h
      rcases List.mem_append.1 h1 with h1 | h1
      · rcases mem_putL h1 with rfl | h1
        · exact ⟨p', List.mem_append_right _ List.mem_cons_self, e⟩
        · exact ⟨p', List.mem_append_left _ h1, e⟩
      · exact ⟨p', List.mem_append_right _ (List.mem_cons_of_mem _ h1), e⟩
    · rcases mem_putL h with rfl | h
      · exact ⟨w, List.mem_append_right _ List.mem_cons_self, rfl⟩
      · exact ⟨p, List.mem_append_left _ h, rfl⟩
theorem KeysOk.crash {S : DS} (h : KeysOk S) (n : Int) : KeysOk (S.crash n).1 := h.of fun p hp => .inl (by
  have hp' : p ∈ crashL S.safe S.l (keepB S n) := by
    unfold DS.crash at hp
    rw [List.append_nil] at hp
    exact hp
  exact crash_mem hp')
theorem KeysOk.fail {S : DS} (h : KeysOk S) (n : Int) : KeysOk (S.fail n) := h.same (fail_same S n).1 (fail_same S n).2
theorem KeysOk.does {S : DS} (h : KeysOk S) {kind id nn : Int} {x : B8} {b : Bs} : KeysOk (doV S kind id nn x b) := by
  have i0 := arI_lo id (m := 4) (by decide)
  have i1 := arI_hi id (m := 4) (by decide)
  have k0 := arI_lo nn (m := 8) (by decide)
  have k1 := arI_hi nn (m := 8) (by decide)
  unfold doV
  split
  · have hs := ofV_slot S (arI id 4)
    unfold saveV
    split
    · split
      · exact h
      · split
        · exact (h.put (by omega)).sync
        · exact h.put (by omega)
    · exact h
  · split
    · exact h.sync
    · split
      · exact h.crash _
      · split
        · exact h.fail _
        · split
          · unfold spoilV
            split
            · exact ((h.fail 0).put ⟨k0, k1⟩).sync
            · exact h
          · exact h
/-- Ahead of a round: the store and the document's disk, alike. -/
def SI9 (w wr : World) (s d gr : Nat) (k : Nat) : Prop := ∃ (S : DS) (a b : SL), SAt w wr s d S ∧ DOk S k 29 ∧ KeysOk S ∧ Blk wr gr 46 (dv S a b) ∧ RefIs wr w.heap.size (.agg (dv S a b)) S ∧ w.heap.size ≤ gr
end Go.Proofs.Ytkopenemoddbbaa

/- All keys. -/
namespace Go.Proofs.Ytkopenemoddbbaa
open Go.RowKit Go.Maps Go.Sort Go.Shelf
attribute [local go_sem] Oper.semAt_some

theorem keys_DM (l : List (Int × SL)) : intKeys (DM l) = l.map (·.1) := by
  show (DMl l).map (fun p => Go.intOf p.1) = _
  unfold DMl
  rw [List.map_map]
  rfl
theorem keys_sorted {l : List (Int × SL)} (h : Rise l) {ss : List Int} (hp : ss.Perm (intKeys (DM l))) : ss.mergeSort (fun x y => decide (x ≤ y)) = l.map (·.1) := by
  rw [mergeSort_of_perm_i hp, keys_DM]
  refine List.mergeSort_of_pairwise ?_
  rw [List.pairwise_map]
  exact h.imp fun {a b} hab => by simp; omega
theorem sortsA (m : Nat) : AnyZI.SortsIn Try.prog Try.sortedA_ren Fence.wide m :=
  ⟨fun blk off cap ss W hH hblk hsz => callsIn_wide.2 (AnyM.slices_Sort_int Try.sortA blk off cap ss W hH hblk hsz),
   fun p cap W => callsIn_wide.2 (AnyM.slices_Sort_int_none Try.sortA p cap W)⟩
theorem own_base {w : World} {b b' : Nat} {e : TypeId} {size : Nat} {α : Type} {enc : α → List Value} {v : Value} {xs : List α} (h : Owns w b e size enc v xs) (hb : b' ≤ b) : Owns w b' e size enc v xs := by
  refine ⟨h.1, ?_⟩
  rcases h.2 with h0 | ⟨g, cap, cur, hv, hbg, r⟩
  · exact .inl h0
  · exact .inr ⟨g, cap, cur, hv, Nat.le_trans hb hbg, r⟩
set_option maxRecDepth 100000 in
set_option maxHeartbeats 4000000 in
theorem sorted_c (b nn : Nat) (l : List (Int × SL)) (w w1 : World) (hw1 : w1 = w.alloc (.cells #[.map (some b)] 87)) (hown : w.ownsMap Try.prog 3 RS b nn (DM l)) (hr : Rise l) (hmax : l.length ≤ 1000000) :
    CallsIn Fence.wide 5 Try.prog 73 #[.func (.func 80) #[] #[.pointer (some ⟨w.heap.size, 0, none⟩)]] w1 fun e w' => ∃ v, e = .returned v ∧ Owns w' w1.heap.size 3 1 encI v (l.map (·.1)) ∧ Below w1.heap.size w1 w' := by
  have hbl := hown.lt
  have hseq : SeqGives Fence.wide 2 Try.prog 80 #[.pointer (some ⟨w.heap.size, 0, none⟩)] encZ (fun ss => ss.Perm (intKeys (DM l))) (Maps.size (DM l)) w1 := by
    rw [hw1]
    exact AnyZI.keys_gives (ρ := Try.keysA_ren) { Try.keysA with } Fence.wide _ trivial rfl (by omega) w.heap.size b nn (DM l) _ (by simp) (by simp) (hown.alloc _)
  have hs := size_DM l
  have cS := AnyZI.sorted_in Try.sortedA Fence.wide 5 trivial trivial trivial trivial rfl (by omega) (sortsA _) (enters_of Try.func79 (by kernel_rfl) rfl) 80 #[.pointer (some ⟨w.heap.size, 0, none⟩)] trivial (enters_of Try.func80 (by kernel_rfl) rfl) _ _ (by rw [hs]; unfold maxLen; omega) (by rw [hs]; omega) _ hseq
  refine CallsIn.mono cS ?_
  rintro e w' ⟨v, ss, rfl, hp, hrow, -, hb⟩
  refine ⟨v, rfl, ?_, hb⟩
  rw [keys_sorted hr hp] at hrow
  have hl : ss.length = (l.map (·.1)).length := by rw [hp.length_eq, keys_DM]
  rw [hl] at hrow
  have hf : (l.map (·.1)).flatMap encI = (l.map (·.1)).map encZ := by
    rw [List.flatMap_def]
    show ((l.map (·.1)).map fun n => [encZ n]).flatten = _
    induction l.map (·.1) with
    | nil => rfl
    | cons a r ih => simp [List.flatten_cons] at ih ⊢; exact ih
  show w'.ownsRow w1.heap.size 3 1 v (l.map (·.1)).length ((l.map (·.1)).flatMap encI)
  rw [hf]
  exact hrow
set_option maxRecDepth 100000 in
set_option maxHeartbeats 4000000 in
theorem keys_c (base d : Nat) (M : Nat → Prop) (S : DS) (N : Nat) (w : World) (h : DiskIs w base M d S) (hok : DOk S N 1000000) (hN : N ≤ 100000) :
    Calls Try.prog 67 #[.pointer (some ⟨d, 0, none⟩)] w fun r w' => ∃ v, r = .returned v ∧ Owns w' w.heap.size 3 1 encI v (S.now.map (·.1)) ∧ Below w.heap.size w w' := by
  obtain ⟨bm, v, sv, lv, hD, hM⟩ := h
  obtain ⟨hr, hkl, hcnt, hg, hc, hrn, hlens⟩ := hD.facts hok
  have HNW := Lib.hid (now_c base d bm v S sv lv w hD hr hkl (by omega))
  have hln : (nowL sv lv).length ≤ 1000000 := Nat.le_trans (len_now lv sv) (by omega)
  have hkeys : (nowL sv lv).map (·.1) = S.now.map (·.1) := by rw [← hc]; unfold cont; rw [List.map_map]; rfl
  have HSR := Lib.hid fun w1 w2 b nn e h => sorted_c b nn (nowL sv lv) w1 w2 e h hrn hln
  rw [hkeys] at HSR
  clear hD hM hr hkl hcnt hg hc hrn hlens hln hkeys
  refine (callsIn_wide (n := 6)).1 ?_
  have cK : ∀ mb W, CallsIn Fence.wide 5 Try.prog 74 #[.map mb] W fun e w' => e = .returned (.func (.func 80) #[] #[.pointer (some ⟨W.heap.size, 0, none⟩)]) ∧ w' = W.alloc (.cells #[.map mb] 87) := fun mb W => AnyZI.keys_in Try.keysA Fence.wide 5 trivial rfl mb W
  have hf1 : Fence.wide.fn 59 := trivial
  have hf2 : Fence.wide.fn 74 := trivial
  have hf3 : Fence.wide.fn 73 := trivial
  refine callsIn_of_wp Try.func67 rfl trivial ?_ rfl
  simp only [Try.ntmps67, List.size_toArray, List.length_cons, List.length_nil, Nat.reduceAdd, Nat.reduceSub, Array.replicate_succ, Array.replicate_zero, List.push_toArray, List.append_toArray, List.nil_append, List.cons_append]
  gi_wp2_with (first
    | (gi_at_call 59; refine (callsIn_wide.2 HNW.out).mono ?_; rintro e_ w2 ⟨rfl, hm, hB2⟩)
    | (gi_at_call 74; refine (cK _ _).mono ?_; rintro e_ w3 ⟨rfl, hw3⟩; have HW3 := Lib.hid hw3; clear hw3)
    | (gi_at_call 73; refine (HSR.out _ _ _ _ HW3.out hm).mono ?_; rintro e_ w4 ⟨u, rfl, ho, hB4⟩))
  go_returns
  have hB3 : Below w2.heap.size w2 w3 := by rw [HW3.out]; exact (Below.refl _ _).alloc (Nat.le_refl _) _
  exact ⟨u, rfl, own_base ho (Nat.le_trans hB2.size hB3.size), after (after hB2 hB3) hB4⟩
end Go.Proofs.Ytkopenemoddbbaa

/- All ids: plain, and the walks. -/
namespace Go.Proofs.Ytkopenemoddbbaa
open Go.RowKit Go.Maps
attribute [local go_sem] Oper.semAt_some

noncomputable def idStep (S : DS) (out : List Int) (k : Int) : List Int := if 0 < (ofV S (k / 2)).2.1 ∧ k / 2 ∉ out then out ++ [k / 2] else out
noncomputable def idsL (S : DS) (ks : List Int) : List Int := ks.foldl (idStep S) []
noncomputable def idsV (S : DS) : List Int := idsL S (S.now.map (·.1))
theorem ids_snoc (S : DS) (ks : List Int) (k : Int) : idsL S (ks ++ [k]) = idStep S (idsL S ks) k := by simp [idsL]
theorem ids_len (S : DS) : ∀ (ks : List Int) (out : List Int), (ks.foldl (idStep S) out).length ≤ out.length + ks.length
  | [], out => by simp
  | k :: ks, out => by
    rw [List.foldl_cons]
    have h1 := ids_len S ks (idStep S out k)
    have h2 : (idStep S out k).length ≤ out.length + 1 := by unfold idStep; split <;> simp
    simp only [List.length_cons]
    omega
/-- The last is the greatest of them. -/
theorem ids_last {S : DS} : ∀ {ks : List Int} {k : Int}, (ks ++ [k]).Pairwise (· < ·) → (k / 2 ∈ idsL S ks ↔ (idsL S ks).getLast? = some (k / 2)) ∧ ∀ x ∈ idsL S ks, x ≤ k / 2 := by
  have key : ∀ (ks out : List Int), ks.Pairwise (· < ·) → out.Pairwise (· < ·) → (∀ x ∈ out, ∀ k ∈ ks, x ≤ k / 2) → (ks.foldl (idStep S) out).Pairwise (· < ·) ∧ ∀ x ∈ ks.foldl (idStep S) out, x ∈ out ∨ ∃ k ∈ ks, x = k / 2 := by
    intro ks
    induction ks with
    | nil => exact fun out _ ho _ => ⟨ho, fun x hx => .inl hx⟩
    | cons k ks ih =>
      intro out hp ho hle
      obtain ⟨h1, h2⟩ := List.pairwise_cons.1 hp
      rw [List.foldl_cons]
      have hs : (idStep S out k).Pairwise (· < ·) ∧ ∀ x ∈ idStep S out k, x ∈ out ∨ x = k / 2 := by
        unfold idStep
        split
        · rename_i hc
          refine ⟨List.pairwise_append.2 ⟨ho, List.pairwise_singleton _ _, fun x hx y hy => ?_⟩, fun x hx => ?_⟩
          · obtain rfl : y = k / 2 := by simpa using hy
            have h4 := hle x hx k List.mem_cons_self
            have h5 : x ≠ k / 2 := fun e => hc.2 (e ▸ hx)
            omega
          · rcases List.mem_append.1 hx with hx | hx
            · exact .inl hx
            · exact .inr (by simpa using hx)
        · exact ⟨ho, fun x hx => .inl hx⟩
      obtain ⟨j1, j2⟩ := ih (idStep S out k) h2 hs.1 (fun x hx k' hk' => by
        have h3 := h1 k' hk'
        rcases hs.2 x hx with h | h
        · have := hle x h k List.mem_cons_self; omega
        · omega)
      refine ⟨j1, fun x hx => ?_⟩
      rcases j2 x hx with h | ⟨k', hk', e⟩
      · rcases hs.2 x h with h | h
        · exact .inl h
        · exact .inr ⟨k, List.mem_cons_self, h⟩
      · exact .inr ⟨k', List.mem_cons_of_mem _ hk', e⟩
  have last : ∀ (out : List Int) (y : Int), out.Pairwise (· < ·) → (∀ x ∈ out, x ≤ y) → y ∈ out → out.getLast? = some y := by
    intro out
    induction out with
    | nil => exact fun y _ _ h => by cases h
    | cons a t ih =>
      intro y hp hle hy
      obtain ⟨h1, h2⟩ := List.pairwise_cons.1 hp
      rw [List.getLast?_cons]
      rcases List.mem_cons.1 hy with rfl | hy
      · cases t with
        | nil => rfl
        | cons b t =>
          have h3 := h1 b List.mem_cons_self
          have h4 := hle b (List.mem_cons_of_mem _ List.mem_cons_self)
          omega
      · rw [ih y h2 (fun x hx => hle x (List.mem_cons_of_mem _ hx)) hy]
        rfl
  intro ks k hp
  obtain ⟨h1, -, h3⟩ := List.pairwise_append.1 hp
  obtain ⟨i1, i2⟩ := key ks [] h1 List.Pairwise.nil (fun x hx => by cases hx)
  have hle : ∀ x ∈ idsL S ks, x ≤ k / 2 := fun x hx => by
    rcases i2 x hx with h | ⟨k', hk', rfl⟩
    · cases h
    · have := h3 k' hk' k List.mem_cons_self
      omega
  exact ⟨⟨fun hm => last _ _ i1 hle hm, fun h => List.mem_of_getLast? h⟩, hle⟩
set_option maxRecDepth 100000 in
set_option maxHeartbeats 4000000 in
theorem sindex_c (q : Option Addr) (c : Nat) (xs : List Int) (x : Int) (w : World) (h : Rd w q 1 encI xs) (hc : xs.length ≤ c) (hm : xs.length ≤ 1000000) :
    Calls Try.prog 75 #[.slice q xs.length c, .int .i64 x] w fun r w' => (∃ z : Int, r = .returned (.int .i64 z) ∧ (0 ≤ z ↔ x ∈ xs)) ∧ w = w' := by
  have HR := Lib.hid h
  clear h
  go_enter Try.func75, Try.ntmps75
  go_upto_region 2 with (fail)
  go_loopw [8] (fun iv wr => ∃ j : Nat, j ≤ xs.length ∧ iv = .int .i64 j ∧ Hid (x ∉ xs.take j) ∧ wr = w) (fun iv _ => xs.length - (intOf iv).toNat)
  case atStart => exact ⟨0, Nat.zero_le _, rfl, Lib.hid (by simp), rfl⟩
  case round =>
    obtain ⟨j, hj, rfl, HN, rfl⟩ := hrel
    by_cases hlt : j < xs.length
    · have hy : xs[j]? = some xs[j] := List.getElem?_eq_getElem hlt
      obtain ⟨g, o, rfl, hcell⟩ := HR.out (by omega)
      have c0 := hcell j _ hy 0 _ rfl
      rw [Nat.mul_one, Nat.add_zero] at c0
      obtain ⟨y, hye⟩ : ∃ y, xs[j] = y := ⟨_, rfl⟩
      rw [hye] at c0 hy
      have HY := Lib.hid hy
      have h0 : (0 : Int) ≤ j := by omega
      have h1 : (j : Int) < xs.length := by omega
      have hjc : j < c := by omega
      clear hcell hy hye
      by_cases e : x = y
      · subst e
        go_wp2_with fail
        go_returns
        exact ⟨⟨_, rfl, fun _ => List.mem_of_getElem? HY.out, fun _ => h0⟩, rfl⟩
      · go_wp2_with fail
        exact ⟨⟨j + 1, hlt, by go_num, Lib.hid (fun hx => by
          rw [List.take_add_one, HY.out] at hx
          rcases List.mem_append.1 hx with hx | hx
          · exact HN.out hx
          · exact e (by simpa using hx)), trivial⟩, next_less' hlt⟩
    · obtain rfl : j = xs.length := by omega
      have h1 : ¬ ((xs.length : Int) < (xs.length : Int)) := by omega
      have HN2 := Lib.hid (show x ∉ xs by have := HN.out; rwa [List.take_length] at this)
      go_wp2_with fail
      go_returns
      exact ⟨⟨_, rfl, fun h => absurd h (by decide), fun h => absurd h HN2.out⟩, rfl⟩
theorem scont_c (q : Option Addr) (c : Nat) (xs : List Int) (x : Int) (w : World) (h : Rd w q 1 encI xs) (hc : xs.length ≤ c) (hm : xs.length ≤ 1000000) :
    Calls Try.prog 68 #[.slice q xs.length c, .int .i64 x] w fun r w' => r = .returned (.bool (decide (x ∈ xs))) ∧ w = w' := by
  have HI := Lib.hid (sindex_c q c xs x w h hc hm)
  clear h
  go_enter Try.func68, Try.ntmps68
  go_wp2_with (go_at_call 75; refine HI.out.mono ?_; rintro e_ w' ⟨⟨z, rfl, hz⟩, rfl⟩; have HZ := Lib.hid hz; clear hz)
  go_returns
  have e : decide (0 ≤ z) = decide (x ∈ xs) := decide_eq_decide.2 HZ.out
  rw [← e]
  exact ⟨rfl, rfl⟩
end Go.Proofs.Ytkopenemoddbbaa

/- All ids: the program's walk. -/
namespace Go.Proofs.Ytkopenemoddbbaa
open Go.RowKit Go.Maps
attribute [local go_sem] Oper.semAt_some

theorem owns_low {w : World} {base b' size : Nat} {e : TypeId} {α : Type} {enc : α → List Value} {v : Value} {xs : List α} (h : Owns w base e size enc v xs) (hb : b' ≤ base) : Owns w b' e size enc v xs := by
  refine ⟨h.1, ?_⟩
  rcases h.2 with h0 | ⟨g, cap, cur, hv, hbg, r⟩
  · exact .inl h0
  · exact .inr ⟨g, cap, cur, hv, Nat.le_trans hb hbg, r⟩
theorem infI9 : (Try.prog.info? 3).map (fun i => (i.zero, i.size, i.bytes)) = some (some (.int .i64 0), 1, 8) := by kernel_rfl
theorem fld_ver (a b : Int) (c : Value) (w : World) : (Instr.field 73 (.agg #[.int .i64 a, .int .i64 b, c]) 1).run Try.prog w = .ok (.int .i64 b) w := by simp [Instr.field, asAgg, go_sem, underlying]
theorem half_k {k : Int} (h0 : 0 ≤ k) (h1 : k < 1000) : wrap64 (k.tdiv 2) = k / 2 := by
  rw [Int.tdiv_eq_ediv_of_nonneg h0]
  exact IntWalk.wrap64_in _ (by omega)
set_option maxRecDepth 100000 in
set_option maxHeartbeats 8000000 in
theorem sids_c (base s d : Nat) (M : Nat → Prop) (S : DS) (N : Nat) (w : World) (h : StoreIs w base M s d S) (hok : DOk S N 1000000) (hN : N ≤ 100000) (hk : ∀ p ∈ S.now, 0 ≤ p.1 ∧ p.1 < 1000) (hbase : base ≤ w.heap.size) :
    Calls Try.prog 49 #[.pointer (some ⟨s, 0, none⟩)] w fun r w' => ∃ v, r = .returned v ∧ Owns w' w.heap.size 3 1 encI v (idsV S) ∧ Below w.heap.size w w' := by
  have HK := Lib.hid (keys_c base d M S N w h.disk hok hN)
  have HOF := Lib.hid fun (W : World) (hb : Below w.heap.size w W) (id : Int) (h0 : 0 ≤ id) (h1 : id ≤ 1099511627776) => sof_c base s d M S N W (h.on hb) hok hN id h0 h1 (Nat.le_trans hbase hb.size)
  have hb0 := h.blk.cell 0
  have hkb : ∀ k ∈ S.now.map (·.1), 0 ≤ k ∧ k < 1000 := fun k hm => by
    obtain ⟨p, hp, rfl⟩ := List.mem_map.1 hm
    exact hk p hp
  have hkl : (S.now.map (·.1)).length ≤ 100000 := by rw [List.length_map]; exact Nat.le_trans hok.now.2.2.1 hN
  have hids : idsV S = idsL S (S.now.map (·.1)) := rfl
  rw [hids]
  generalize S.now.map (·.1) = ks at *
  have HKB := Lib.hid hkb
  have hfl := fld_ver
  clear h hok hk hids hkb hbase
  go_enter Try.func49, Try.ntmps49
  go_upto_region 3 with (go_at_call 67; refine HK.out.mono ?_; rintro e_ w1 ⟨kv, rfl, hO, h1⟩; obtain ⟨q, c, rfl, hc, hcm, hrd, hql, -⟩ := hO.form lenI)
  have HRD := Lib.hid hrd
  have HQL := Lib.hid hql
  have H1 := Lib.hid h1
  clear hO hrd hql h1 HK hb0
  go_loopw [3, 14] (fun ov iv wr => ∃ j : Nat, j ≤ ks.length ∧ iv = .int .i64 j ∧ Hid (Owns wr w1.heap.size 3 1 encI ov (idsL S (ks.take j)) ∧ Below w1.heap.size w1 wr)) (fun _ iv _ => ks.length - (intOf iv).toNat)
  case atStart => exact ⟨0, Nat.zero_le _, rfl, Lib.hid ⟨Owns.nil, Below.refl _ _⟩⟩
  case round =>
    obtain ⟨j, hj, rfl, I⟩ := hrel
    obtain ⟨hO, hB⟩ := I.out
    obtain ⟨oq, oc, rfl, hoc, hocm, hord, -, -⟩ := hO.form lenI
    have holen : (idsL S (ks.take j)).length ≤ 100000 := by
      have := ids_len S (ks.take j) []
      rw [List.length_take, List.length_nil] at this
      unfold idsL
      omega
    by_cases hlt : j < ks.length
    · have hy : ks[j]? = some ks[j] := List.getElem?_eq_getElem hlt
      obtain ⟨y, hye⟩ : ∃ y, ks[j] = y := ⟨_, rfl⟩
      rw [hye] at hy
      have hkb := HKB.out y (List.mem_of_getElem? hy)
      have hrw := HRD.out.on hB
      obtain ⟨g, o, rfl, hcell⟩ := hrw (by omega)
      have c0 := hcell j _ hy 0 _ rfl
      rw [Nat.mul_one, Nat.add_zero] at c0
      have hts : ks.take (j + 1) = ks.take j ++ [y] := by rw [List.take_add_one, hy]; rfl
      have hnext : idsL S (ks.take (j + 1)) = idStep S (idsL S (ks.take j)) y := by rw [hts, ids_snoc]
      unfold idStep at hnext
      have h0 : (0 : Int) ≤ j := by omega
      have hjl : (j : Int) < ks.length := by omega
      have hjc : j < c := by omega
      have hhalf := half_k hkb.1 hkb.2
      have y0 : 0 ≤ y / 2 := by omega
      have y1 : y / 2 ≤ 1099511627776 := by omega
      have HW := Lib.hid (HOF.out wr (after H1.out hB) (y / 2) y0 y1)
      generalize y / 2 = yd at *
      obtain ⟨X, hX⟩ : ∃ X, ofV S yd = X := ⟨_, rfl⟩
      rw [hX] at HW hnext
      obtain ⟨x1, x2, x3⟩ := X
      dsimp only at hnext
      have HNX := Lib.hid hnext
      have HO := Lib.hid (And.intro hO hB)
      have HORD := Lib.hid hord
      generalize hxs : idsL S (ks.take j) = xs at *
      clear hy hye hrw hcell hts hnext hX hkb I hO hB hord hxs
      go_upto_region 6 with (fail)
      simp only [hhalf]
      clear hhalf
      by_cases a1 : 0 < x2
      · by_cases a2 : yd ∈ xs
        · have hn : idsL S (ks.take (j + 1)) = xs := by rw [HNX.out, if_neg (fun h => h.2 a2)]
          have HN := Lib.hid hn
          have hde : decide (yd ∈ xs) = true := decide_eq_true a2
          clear hn a2
          go_wp2_with first
            | (go_at_call 37; refine HW.out.mono ?_; rintro e_ w2 ⟨⟨sq, sn, sc⟩, rfl, -, -, hb2⟩; simp only [slV]; have HC := Lib.hid (scont_c oq oc xs yd w2 (HORD.out.on hb2) hoc (by omega)); have HB2 := Lib.hid hb2; clear hb2)
            | (go_at_call 68; refine HC.out.mono ?_; rintro e_ w' ⟨rfl, rfl⟩)
          exact ⟨⟨j + 1, hlt, by go_num, Lib.hid (by rw [HN.out]; exact ⟨HO.out.1.on HB2.out, after HO.out.2 HB2.out⟩)⟩, next_less' hlt⟩
        · have hn : idsL S (ks.take (j + 1)) = xs ++ [yd] := by rw [HNX.out, if_pos ⟨a1, a2⟩]
          have HN := Lib.hid hn
          have hde : decide (yd ∈ xs) = false := decide_eq_false a2
          clear hn a2
          go_upto_region 7 with first
            | (go_at_call 37; refine HW.out.mono ?_; rintro e_ w2 ⟨⟨sq, sn, sc⟩, rfl, -, -, hb2⟩; simp only [slV]; have HC := Lib.hid (scont_c oq oc xs yd w2 (HORD.out.on hb2) hoc (by omega)); have HB2 := Lib.hid hb2; clear hb2)
            | (go_at_call 68; refine HC.out.mono ?_; rintro e_ w' ⟨rfl, rfl⟩)
          obtain ⟨w3, hw3⟩ : ∃ w3, w3 = w2.alloc (.cells #[.int .i64 yd] 3) := ⟨_, rfl⟩
          have hb3 : Below w2.heap.size w2 w3 := by rw [hw3]; exact bel_alloc _ _
          have hB3 : Blk w3 w2.heap.size 3 #[.int .i64 yd] := Blk.fresh hw3
          have hO3 := HO.out.1.on (after HB2.out hb3)
          have hbel := after HO.out.2 (after HB2.out hb3)
          obtain ⟨v', w4, hrun, O4, -, hb4, g4, c4', rfl⟩ := run_push (P := Try.prog) (ts := 94) (ty := 94) (x := yd) (b := w2.heap.size) Try.underlying94 infI9 rfl (by decide) (by decide) rfl (by simp [Value.oneCell']) hO3
            (fun i u hu => by rw [hB3.cell i]; simpa using hu) (by omega) hbel.size
          have HF := Lib.hid (And.intro O4 (hbel.trans hb4))
          subst hw3
          clear hb3 hB3 hO3 hbel O4 hb4
          go_wp2_with (at_builtin; refine Lib.wpList_append_run _ rfl _ _ _ _ rfl _ _ rfl rfl _ _ hrun ?_)
          exact ⟨⟨j + 1, hlt, by go_num, Lib.hid (by rw [HN.out]; exact HF.out)⟩, next_less' hlt⟩
      · have hn : idsL S (ks.take (j + 1)) = xs := by rw [HNX.out, if_neg (fun h => a1 h.1)]
        have HN := Lib.hid hn
        clear hn
        go_wp2_with (go_at_call 37; refine HW.out.mono ?_; rintro e_ w2 ⟨⟨sq, sn, sc⟩, rfl, -, -, hb2⟩; simp only [slV]; have HC := Lib.hid (scont_c oq oc xs yd w2 (HORD.out.on hb2) hoc (by omega)); have HB2 := Lib.hid hb2; clear hb2)
        exact ⟨⟨j + 1, hlt, by go_num, Lib.hid (by rw [HN.out]; exact ⟨HO.out.1.on HB2.out, after HO.out.2 HB2.out⟩)⟩, next_less' hlt⟩
    · obtain rfl : j = ks.length := by omega
      rw [List.take_length] at hO
      have HO := Lib.hid (And.intro (owns_low hO H1.out.size) (after H1.out hB))
      have hjl : ¬ ((ks.length : Int) < ks.length) := by omega
      clear hO hB hord I
      go_wp2_with fail
      go_returns
      refine ⟨_, rfl, ?_, HO.out.2⟩
      exact HO.out.1
end Go.Proofs.Ytkopenemoddbbaa

/- All ids: the document's walk. -/
namespace Go.Proofs.Ytkopenemoddbbaa
open Go.RowKit Go.Maps
attribute [local go_sem] Oper.semAt_some

set_option maxRecDepth 100000 in
set_option maxHeartbeats 8000000 in
theorem rsids_c (base : Nat) (a b : SL) (S : DS) (sl ll : List (Int × SL)) (N : Nat) (w : World) (h : RefAt w base a b S sl ll) (hok : DOk S N 1000000) (hN : N ≤ 100000) (hk : ∀ p ∈ S.now, 0 ≤ p.1 ∧ p.1 < 1000) :
    Calls Try.prog 50 #[.agg (dv S a b)] w fun r w' => ∃ v, r = .returned v ∧ Owns w' w.heap.size 3 1 encI v (idsV S) ∧ Below w.heap.size w w' := by
  have hmx := @run_mx Try.prog
  obtain ⟨hr, hcnt, hg, hc, hrn, -⟩ := h.facts hok
  obtain ⟨W0, hW⟩ : ∃ W0, W0 = w.alloc (.cells (dv S a b) 46) := ⟨_, rfl⟩
  have hb0 : Below w.heap.size w W0 := by rw [hW]; exact bel_alloc _ _
  have X0 : Blk W0 w.heap.size 46 (dv S a b) := by rw [hW]; exact Blk.new' rfl
  have HNW := Lib.hid (rnow_c base a b S sl ll N W0 (h.on hb0) hok hN)
  have HOF := Lib.hid fun (W : World) (hb : Below w.heap.size w W) (id : Int) (h0 : 0 ≤ id) (h1 : id ≤ 1099511627776) => rsof_c base a b S sl ll N W (h.on hb) hok hN id h0 h1
  have hkeys : S.now.map (·.1) = (nowL sl ll).map (·.1) := by
    rw [← hc]
    unfold cont
    rw [List.map_map]
    rfl
  have hkb : ∀ k ∈ (nowL sl ll).map (·.1), 0 ≤ k ∧ k < 1000 := fun k hm => by
    rw [← hkeys] at hm
    obtain ⟨p, hp, rfl⟩ := List.mem_map.1 hm
    exact hk p hp
  have hkl : (nowL sl ll).length ≤ 100000 := Nat.le_trans (len_now ll sl) (by omega)
  have hids : idsV S = idsL S ((nowL sl ll).map (·.1)) := by unfold idsV; rw [hkeys]
  have hpw : ((nowL sl ll).map (·.1)).Pairwise (· < ·) := List.pairwise_map.2 hrn
  rw [hids]
  obtain ⟨aq, an, ac⟩ := a
  obtain ⟨bq, bn, bc⟩ := b
  simp only [dv, slV] at hW HNW HOF X0 ⊢
  generalize nowL sl ll = nl at *
  have HKB := Lib.hid hkb
  have HPW := Lib.hid hpw
  clear h hok hk hids hkb hr hcnt hg hc hrn hkeys hpw
  go_enter Try.func50, Try.ntmps50
  go_upto_region 1 with (fail)
  rw [← hW]
  obtain ⟨⟨y0, y1, y2, y3, y4⟩, -⟩ := X0.c5
  have HX0 := Lib.hid X0
  have HB0 := Lib.hid hb0
  clear hW X0 hb0
  go_upto_region 4 with (go_at_call 64; refine HNW.out.mono ?_; rintro e_ w1 ⟨⟨vq, vn, vc⟩, rfl, hR, h1⟩; dsimp only [slV])
  obtain rfl : vn = nl.length := hR.len
  have hcap : nl.length ≤ vc := hR.cap
  have HR := Lib.hid hR
  have HB1 := Lib.hid (after HB0.out h1)
  have X1 := HX0.out.on h1
  have HX1 := Lib.hid X1
  clear X1 h1 hR y0 y1 y2 y3 y4 HNW
  have hml : ((nl.map (·.1))).length = nl.length := List.length_map ..
  have HML := Lib.hid hml
  clear hml
  go_loopw [4, 5] (fun ov iv wr => ∃ j : Nat, j ≤ nl.length ∧ iv = .int .i64 j ∧ Hid (Owns wr w1.heap.size 3 1 encI ov (idsL S ((nl.map (·.1)).take j)) ∧ Below w1.heap.size w1 wr)) (fun _ iv _ => nl.length - (intOf iv).toNat)
  case atStart => exact ⟨0, Nat.zero_le _, rfl, Lib.hid ⟨Owns.nil, Below.refl _ _⟩⟩
  case round =>
    obtain ⟨j, hj, rfl, I⟩ := hrel
    obtain ⟨hO, hB⟩ := I.out
    obtain ⟨oq, oc, rfl, hoc, hocm, hord, -, hoz⟩ := hO.form lenI
    have holen : (idsL S ((nl.map (·.1)).take j)).length ≤ 100000 := by
      have := ids_len S ((nl.map (·.1)).take j) []
      rw [List.length_take, List.length_nil] at this
      unfold idsL
      omega
    by_cases hlt : j < nl.length
    · obtain ⟨p, hp⟩ := lt_at hlt
      obtain ⟨g, cur, hq, hC, hrow⟩ := (HR.out.on hB).lies (by omega)
      dsimp only at hq
      subst hq
      obtain ⟨r0, -⟩ := hrow j p hp
      obtain ⟨y, hye⟩ : ∃ y, p.1 = y := ⟨_, rfl⟩
      rw [hye] at r0
      have hy : (nl.map (·.1))[j]? = some y := by rw [List.getElem?_map, hp, ← hye]; rfl
      have hkb := HKB.out y (List.mem_of_getElem? hy)
      have hts : (nl.map (·.1)).take (j + 1) = (nl.map (·.1)).take j ++ [y] := by rw [List.take_add_one, hy]; rfl
      have hlast := (ids_last (S := S) (ks := (nl.map (·.1)).take j) (k := y) (by rw [← hts]; exact HPW.out.sublist (List.take_sublist _ _))).1
      have hnext : idsL S ((nl.map (·.1)).take (j + 1)) = idStep S (idsL S ((nl.map (·.1)).take j)) y := by rw [hts, ids_snoc]
      unfold idStep at hnext
      have h0 : (0 : Int) ≤ j := by omega
      have hjl : (j : Int) < nl.length := by omega
      have hjc : j < vc := by omega
      have hhalf := half_k hkb.1 hkb.2
      have y0 : 0 ≤ y / 2 := by omega
      have y1 : y / 2 ≤ 1099511627776 := by omega
      have HW := Lib.hid (HOF.out wr (after HB1.out hB) (y / 2) y0 y1)
      generalize y / 2 = yd at *
      obtain ⟨X, hX⟩ : ∃ X, ofV S yd = X := ⟨_, rfl⟩
      rw [hX] at HW hnext
      unfold OfR at HW
      obtain ⟨x1, x2, x3⟩ := X
      dsimp only at hnext HW
      have HNX := Lib.hid hnext
      have HO := Lib.hid (And.intro hO hB)
      have HORD := Lib.hid hord
      have HLA := Lib.hid hlast
      have HOZ := Lib.hid hoz
      generalize hxs : idsL S ((nl.map (·.1)).take j) = xs at *
      obtain ⟨⟨d0, d1, d2, d3, d4⟩, -⟩ := (HX1.out.on hB).c5
      clear hye hrow hts hnext hX hkb I hO hB hord hxs hlast hoz hp hC hy
      go_upto_region 7 with (fail)
      simp only [hhalf]
      clear hhalf r0
      by_cases a1 : 0 < x2
      · rcases Nat.eq_zero_or_pos xs.length with hz | hz
        · obtain rfl : xs = [] := List.eq_nil_of_length_eq_zero hz
          have hn : idsL S ((nl.map (·.1)).take (j + 1)) = [] ++ [yd] := by rw [HNX.out, if_pos ⟨a1, by simp⟩]
          have HN := Lib.hid hn
          clear hn hz
          simp only [List.length_nil]
          go_upto_region 9 with (go_at_call 61; refine HW.out.mono ?_; rintro e_ w2 ⟨sq, sn, sc, rfl, -, -, hb2⟩; have HB2 := Lib.hid hb2; clear hb2)
          obtain ⟨w3, hw3⟩ : ∃ w3, w3 = w2.alloc (.cells #[.int .i64 yd] 3) := ⟨_, rfl⟩
          have hb3 : Below w2.heap.size w2 w3 := by rw [hw3]; exact bel_alloc _ _
          have hB3 : Blk w3 w2.heap.size 3 #[.int .i64 yd] := Blk.fresh hw3
          have hO3 := HO.out.1.on (after HB2.out hb3)
          have hbel := after HO.out.2 (after HB2.out hb3)
          obtain ⟨v', w4, hrun, O4, -, hb4, g4, c4', rfl⟩ := run_push (P := Try.prog) (ts := 94) (ty := 94) (x := yd) (b := w2.heap.size) Try.underlying94 infI9 rfl (by decide) (by decide) rfl (by simp [Value.oneCell']) hO3
            (fun i u hu => by rw [hB3.cell i]; simpa using hu) (by omega) hbel.size
          have HF := Lib.hid (And.intro O4 (hbel.trans hb4))
          subst hw3
          clear hb3 hB3 hO3 hbel O4 hb4
          go_wp2_with (at_builtin; refine Lib.wpList_append_run _ rfl _ _ _ _ rfl _ _ rfl rfl _ _ hrun ?_)
          exact ⟨⟨j + 1, hlt, by go_num, Lib.hid (by rw [HN.out]; exact HF.out)⟩, next_less' hlt⟩
        · obtain ⟨p, hp⟩ : ∃ p, xs.length = p + 1 := ⟨xs.length - 1, by omega⟩
          obtain ⟨ge, rfl⟩ := HOZ.out hz
          obtain ⟨z, hzl⟩ : ∃ z, xs[p]? = some z := ⟨xs[p], List.getElem?_eq_getElem (by omega)⟩
          have hgl : xs.getLast? = some z := by rw [List.getLast?_eq_getElem?, hp]; exact hzl
          have HLC := Lib.hid fun W (hW : Below wr.heap.size wr W) => by
            have := ((HORD.out.on hW).at hzl (j := 0) (u := .int .i64 z) rfl)
            rw [Nat.mul_one, Nat.zero_add, Nat.add_zero] at this
            exact this
          rw [hgl] at HLA
          have hmx0 : mxI (p : Int) 0 = p := by unfold mxI; omega
          have hpc : p < oc := by omega
          have hpl : (p : Int) ≤ 100000 := by omega
          have HP := Lib.hid hp
          simp only [hp]
          clear hzl hgl hp hz
          by_cases e : z = yd
          · have hn : idsL S ((nl.map (·.1)).take (j + 1)) = xs := by rw [HNX.out, if_neg (fun h => h.2 (HLA.out.2 (by rw [e])))]
            have HN := Lib.hid hn
            subst e
            clear hn
            go_wp2_with (go_at_call 61; refine HW.out.mono ?_; rintro e_ w2 ⟨sq, sn, sc, rfl, -, -, hb2⟩; have HB2 := Lib.hid hb2; clear hb2; have l0 := HLC.out _ HB2.out)
            rw [← HP.out]
            exact ⟨⟨j + 1, hlt, by go_num, Lib.hid (by rw [HN.out]; exact ⟨HO.out.1.on HB2.out, after HO.out.2 HB2.out⟩)⟩, next_less' hlt⟩
          · have hn : idsL S ((nl.map (·.1)).take (j + 1)) = xs ++ [yd] := by rw [HNX.out, if_pos ⟨a1, fun h => e (Option.some.inj (HLA.out.1 h))⟩]
            have HN := Lib.hid hn
            have eb : (z != yd) = true := by simpa using e
            clear hn e
            go_upto_region 9 with (go_at_call 61; refine HW.out.mono ?_; rintro e_ w2 ⟨sq, sn, sc, rfl, -, -, hb2⟩; have HB2 := Lib.hid hb2; clear hb2; have l0 := HLC.out _ HB2.out)
            obtain ⟨w3, hw3⟩ : ∃ w3, w3 = w2.alloc (.cells #[.int .i64 yd] 3) := ⟨_, rfl⟩
            have hb3 : Below w2.heap.size w2 w3 := by rw [hw3]; exact bel_alloc _ _
            have hB3 : Blk w3 w2.heap.size 3 #[.int .i64 yd] := Blk.fresh hw3
            have hO3 := HO.out.1.on (after HB2.out hb3)
            have hbel := after HO.out.2 (after HB2.out hb3)
            obtain ⟨v', w4, hrun, O4, -, hb4, g4, c4', rfl⟩ := run_push (P := Try.prog) (ts := 94) (ty := 94) (x := yd) (b := w2.heap.size) Try.underlying94 infI9 rfl (by decide) (by decide) rfl (by simp [Value.oneCell']) hO3
              (fun i u hu => by rw [hB3.cell i]; simpa using hu) (by omega) hbel.size
            rw [HP.out] at hrun O4
            have HF := Lib.hid (And.intro O4 (hbel.trans hb4))
            subst hw3
            clear hb3 hB3 hO3 hbel O4 hb4
            go_wp2_with (at_builtin; refine Lib.wpList_append_run _ rfl _ _ _ _ rfl _ _ rfl rfl _ _ hrun ?_)
            exact ⟨⟨j + 1, hlt, by go_num, Lib.hid (by rw [HN.out]; exact HF.out)⟩, next_less' hlt⟩
      · have hn : idsL S ((nl.map (·.1)).take (j + 1)) = xs := by rw [HNX.out, if_neg (fun h => a1 h.1)]
        have HN := Lib.hid hn
        clear hn
        go_wp2_with (go_at_call 61; refine HW.out.mono ?_; rintro e_ w2 ⟨sq, sn, sc, rfl, -, -, hb2⟩; have HB2 := Lib.hid hb2; clear hb2)
        exact ⟨⟨j + 1, hlt, by go_num, Lib.hid (by rw [HN.out]; exact ⟨HO.out.1.on HB2.out, after HO.out.2 HB2.out⟩)⟩, next_less' hlt⟩
    · obtain rfl : j = nl.length := by omega
      obtain ⟨xl, hxl⟩ : ∃ xl, (idsL S ((nl.map (·.1)).take nl.length)).length = xl := ⟨_, rfl⟩
      rw [hxl] at hO ⊢
      rw [List.take_of_length_le (by rw [HML.out]; exact Nat.le_refl _)] at hO
      have HO := Lib.hid (And.intro (owns_low hO HB1.out.size) (after HB1.out hB))
      have hjl : ¬ ((nl.length : Int) < nl.length) := by omega
      clear hO hB hord I hoz hxl holen
      go_wp2_with fail
      go_returns
      refine ⟨_, rfl, ?_, HO.out.2⟩
      exact HO.out.1
end Go.Proofs.Ytkopenemoddbbaa

/- Regions that lay new variables and store into them, in any order: an invariant. No program in sight. -/
namespace Go.Proofs.Ytkopenemoddbbaa
open Go.RowKit

/-- A new variable: the numbers of its allocation and its store, its type, its cells ahead of that and behind. -/
structure BoxCfg where
  a : Nat
  s : Nat
  t : TypeId
  z : Array Value
  c : Array Value
/-- Only blocks from n on of these types are turned. -/
structure StepTs (n : Nat) (ts : List TypeId) (w w' : World) : Prop where
  size : w.heap.size ≤ w'.heap.size
  keep : ∀ b, b < w.heap.size → (b < n ∨ ∀ t ∈ ts, ∀ cs, ¬ Blk w b t cs) → w'.heap[b]? = w.heap[b]?
section
variable {n N : Nat} {ts : List TypeId} {w w' : World} {B : List BoxCfg} {U : Nat → Rel} {S : Nat → Prop} {V : Nat → Value}
theorem StepTs.of_below (h : Below w.heap.size w w') : StepTs n ts w w' := ⟨h.size, fun b hb _ => h.block b hb⟩
theorem StepTs.blk {b : Nat} {t' : TypeId} {cs : Array Value} (h : StepTs n ts w w') (hb : Blk w b t' cs) (hne : t' ∉ ts) : Blk w' b t' cs :=
  (h.keep b hb.lt (.inr fun t ht ds hd => hne (by
    unfold Blk at hb hd
    rw [hb] at hd
    injection hd with hd; injection hd with h1 h2; exact h2 ▸ ht))).trans hb
theorem StepTs.old {b : Nat} {t' : TypeId} {cs : Array Value} (h : StepTs n ts w w') (hb : Blk w b t' cs) (hn : b < n) : Blk w' b t' cs := (h.keep b hb.lt (.inl hn)).trans hb
def BoxI (N : Nat) (x : BoxCfg) : InvT := fun S V w => (S x.s → S x.a) ∧ (S x.a → ∃ b, V x.a = .pointer (some ⟨b, 0, none⟩) ∧ N ≤ b ∧ (¬ S x.s → Blk w b x.t x.z) ∧ (S x.s → Blk w b x.t x.c))
def ManyI (N : Nat) (B : List BoxCfg) (U : Nat → Rel) : InvT := fun S V w =>
  (∀ i, S i → U i (V i) w) ∧ (∀ x ∈ B, BoxI N x S V w) ∧ (∀ x ∈ B, ∀ y ∈ B, x.a ≠ y.a → S x.a → S y.a → V x.a ≠ V y.a)
def OkB (B : List BoxCfg) : Prop := B.Pairwise (fun x y => x.a ≠ y.a ∧ x.s ≠ y.s ∧ x.a ≠ y.s ∧ x.s ≠ y.a) ∧ ∀ x ∈ B, x.a ≠ x.s
theorem pw_mem {α : Type} {R : α → α → Prop} : ∀ {l : List α}, l.Pairwise R → ∀ x ∈ l, ∀ y ∈ l, x = y ∨ R x y ∨ R y x := by
  intro l
  induction l with
  | nil => intro _ x hx; cases hx
  | cons a l ih =>
    intro h x hx y hy
    rw [List.pairwise_cons] at h
    rcases List.mem_cons.1 hx with e | hx' <;> rcases List.mem_cons.1 hy with e' | hy'
    · exact .inl (e.trans e'.symm)
    · exact .inr (.inl (e ▸ h.1 y hy'))
    · exact .inr (.inr (e' ▸ h.1 x hx'))
    · exact ih h.2 x hx' y hy'
theorem OkB.of (h : OkB B) {x y : BoxCfg} (hx : x ∈ B) (hy : y ∈ B) : x = y ∨ (x.a ≠ y.a ∧ x.s ≠ y.s ∧ x.a ≠ y.s ∧ x.s ≠ y.a) := by
  rcases pw_mem h.1 x hx y hy with e | e | e
  · exact .inl e
  · exact .inr e
  · exact .inr ⟨e.1.symm, e.2.1.symm, e.2.2.2.symm, e.2.2.1.symm⟩
/-- What the relations of the other operations must bear. -/
def Bears (N : Nat) (B : List BoxCfg) (U : Nat → Rel) : Prop := ∀ i v w w', U i v w → StepTs N (B.map (·.t)) w w' → U i v w'
theorem manyI_zero : ManyI N B U (fun _ => False) V w := ⟨fun _ h => h.elim, fun _ _ => ⟨fun h => h.elim, fun h => h.elim⟩, fun _ _ _ _ _ h => h.elim⟩
theorem ManyI.below (hU : Bears N B U) (h : ManyI N B U S V w) (hb : Below w.heap.size w w') : ManyI N B U S V w' :=
  ⟨fun i hi => hU i _ _ _ (h.1 i hi) (StepTs.of_below hb), fun x hx => ⟨(h.2.1 x hx).1, fun ha => by
    obtain ⟨b, h1, h2, h3, h4⟩ := (h.2.1 x hx).2 ha
    exact ⟨b, h1, h2, fun hs => (h3 hs).on hb, fun hs => (h4 hs).on hb⟩⟩, h.2.2⟩
/-- An operation that lays no such variable. -/
theorem ManyI.l {i : Nat} {v : Value} (hi : ∀ x ∈ B, x.a ≠ i ∧ x.s ≠ i) (hU : Bears N B U) (h : ManyI N B U S V w) (hb : Below w.heap.size w w') (hu : U i v w') : ManyI N B U (andOf S i) (upd V i v) w' := by
  have h := h.below hU hb
  refine ⟨fun j hj => ?_, fun x hx => ⟨fun hs => ?_, fun ha => ?_⟩, fun x hx y hy hne h1 h2 => ?_⟩
  · by_cases e : j = i
    · subst e; rw [upd_same]; exact hu
    · rw [upd_ne e]; exact h.1 j (hj.resolve_left e)
  · exact .inr ((h.2.1 x hx).1 (hs.resolve_left (hi x hx).2))
  · obtain ⟨b, h1, h2, h3, h4⟩ := (h.2.1 x hx).2 (ha.resolve_left (hi x hx).1)
    rw [upd_ne (hi x hx).1]
    exact ⟨b, h1, h2, fun hs => h3 fun k => hs (.inr k), fun hs => h4 (hs.resolve_left (hi x hx).2)⟩
  · rw [upd_ne (hi x hx).1, upd_ne (hi y hy).1]
    exact h.2.2 x hx y hy hne (h1.resolve_left (hi x hx).1) (h2.resolve_left (hi y hy).1)
/-- A variable is laid. -/
theorem ManyI.new {x : BoxCfg} (hx : x ∈ B) (hB : OkB B) (hU : Bears N B U) (hT : ∀ v w, U x.a v w) (hN : N ≤ w.heap.size) (hn : ¬ S x.a) (h : ManyI N B U S V w) : ManyI N B U (andOf S x.a) (upd V x.a (.pointer (some ⟨w.heap.size, 0, none⟩))) (w.alloc (.cells x.z x.t)) := by
  have hb : Below w.heap.size w (w.alloc (.cells x.z x.t)) := (Below.refl _ _).alloc (Nat.le_refl _) _
  have hs0 : ¬ S x.s := fun hs => hn ((h.2.1 x hx).1 hs)
  have hlt : ∀ y ∈ B, S y.a → V y.a ≠ .pointer (some ⟨w.heap.size, 0, none⟩) := fun y hy ha e => by
    obtain ⟨b, h1, h2, h3, h4⟩ := (h.2.1 y hy).2 ha
    have : b < w.heap.size := by
      by_cases hs : S y.s
      · exact (h4 hs).lt
      · exact (h3 hs).lt
    rw [h1] at e
    injection e with e; injection e with e; injection e with e
    omega
  have k := h.below hU hb
  refine ⟨fun j hj => ?_, fun y hy => ?_, fun y hy z hz hne h1 h2 => ?_⟩
  · by_cases e : j = x.a
    · subst e; exact hT _ _
    · rw [upd_ne e]; exact k.1 j (hj.resolve_left e)
  · rcases hB.of hy hx with rfl | ⟨e1, e2, e3, e4⟩
    · have hne := hB.2 y hy
      refine ⟨fun _ => .inl rfl, fun _ => ⟨w.heap.size, upd_same _ _ _, hN, fun _ => Blk.new w _ _, fun hs => absurd (hs.resolve_left hne.symm) hs0⟩⟩
    · refine ⟨fun hs => .inr ((k.2.1 y hy).1 (hs.resolve_left e4)), fun ha => ?_⟩
      obtain ⟨b, h1, h2, h3, h4⟩ := (k.2.1 y hy).2 (ha.resolve_left e1)
      rw [upd_ne e1]
      exact ⟨b, h1, h2, fun hs => h3 fun k => hs (.inr k), fun hs => h4 (hs.resolve_left e4)⟩
  · by_cases e1 : y.a = x.a
    · have e2 : z.a ≠ x.a := fun e => hne (e1.trans e.symm)
      rw [e1, upd_same, upd_ne e2]
      exact fun e => hlt z hz (h2.resolve_left e2) e.symm
    · by_cases e2 : z.a = x.a
      · rw [e2, upd_same, upd_ne e1]
        exact hlt y hy (h1.resolve_left e1)
      · rw [upd_ne e1, upd_ne e2]
        exact k.2.2 y hy z hz hne (h1.resolve_left e1) (h2.resolve_left e2)
/-- A variable is set. -/
theorem ManyI.set {x : BoxCfg} {b : Nat} {v : Value} (hx : x ∈ B) (hB : OkB B) (hU : Bears N B U) (hT : ∀ v w, U x.s v w) (hn : ¬ S x.s) (h : ManyI N B U S V w) (ha : S x.a) (hv : V x.a = .pointer (some ⟨b, 0, none⟩)) (hk : Kept (fun c => c ≠ b) w w') (hb : Blk w' b x.t x.c) : ManyI N B U (andOf S x.s) (upd V x.s v) w' := by
  have hne := hB.2 x hx
  obtain ⟨b', h1, h2, h3, h4⟩ := (h.2.1 x hx).2 ha
  obtain rfl : b = b' := by rw [hv] at h1; injection h1 with e; injection e with e; injection e
  have hz := h3 hn
  have hst : StepTs N (B.map (·.t)) w w' := ⟨hk.size, fun c hc hcc => hk.block c hc fun e => by
    subst e
    rcases hcc with h5 | h5
    · omega
    · exact h5 x.t (List.mem_map.2 ⟨x, hx, rfl⟩) _ hz⟩
  refine ⟨fun j hj => ?_, fun y hy => ?_, fun y hy z hz' hne' k1 k2 => ?_⟩
  · by_cases e : j = x.s
    · subst e; exact hT _ _
    · rw [upd_ne e]; exact hU _ _ _ _ (h.1 j (hj.resolve_left e)) hst
  · rcases hB.of hy hx with rfl | ⟨e1, e2, e3, e4⟩
    · refine ⟨fun _ => .inr ha, fun _ => ⟨b, by rw [upd_ne hne]; exact hv, h2, fun hs => absurd (.inl rfl) hs, fun _ => hb⟩⟩
    · refine ⟨fun hs => .inr ((h.2.1 y hy).1 (hs.resolve_left e2)), fun hya => ?_⟩
      obtain ⟨c, k1, k2, k3, k4⟩ := (h.2.1 y hy).2 (hya.resolve_left e3)
      have hcb : c ≠ b := fun e => h.2.2 y hy x hx e1 (hya.resolve_left e3) ha (by rw [k1, hv, e])
      rw [upd_ne e3]
      exact ⟨c, k1, k2, fun hs => hk.blk hcb (k3 fun k => hs (.inr k)), fun hs => hk.blk hcb (k4 (hs.resolve_left e2))⟩
  · have f1 : y.a ≠ x.s := by rcases hB.of hy hx with rfl | ⟨_, _, e3, _⟩; exact hne; exact e3
    have f2 : z.a ≠ x.s := by rcases hB.of hz' hx with rfl | ⟨_, _, e3, _⟩; exact hne; exact e3
    rw [upd_ne f1, upd_ne f2]
    exact h.2.2 y hy z hz' hne' (k1.resolve_left f1) (k2.resolve_left f2)
theorem ManyI.of {j : Nat} {v : Value} (h : ManyI N B U S V w) (hs : S j) (hv : V j = v) : U j v w := hv ▸ h.1 j hs
/-- At a store: where it goes. -/
theorem ManyI.slot {x : BoxCfg} (hx : x ∈ B) (h : ManyI N B U S V w) (ha : S x.a) (hn : ¬ S x.s) : ∃ b, V x.a = .pointer (some ⟨b, 0, none⟩) ∧ N ≤ b ∧ Blk w b x.t x.z := by
  obtain ⟨b, h1, h2, h3, _⟩ := (h.2.1 x hx).2 ha
  exact ⟨b, h1, h2, h3 hn⟩
theorem ManyI.done {x : BoxCfg} (hx : x ∈ B) (h : ManyI N B U S V w) (ha : S x.a) (hs : S x.s) : ∃ b, V x.a = .pointer (some ⟨b, 0, none⟩) ∧ N ≤ b ∧ Blk w b x.t x.c := by
  obtain ⟨b, h1, h2, _, h4⟩ := (h.2.1 x hx).2 ha
  exact ⟨b, h1, h2, h4 hs⟩
/-- A store into a new block keeps what was there. -/
theorem KeptD.new_set {w0 : World} {D : List Nat} {b : Nat} (h : KeptD D w0 w) (hb : w0.heap.size ≤ b) (hk : Kept (fun c => c ≠ b) w w') : KeptD D w0 w' :=
  ⟨hk.os.trans h.os, hk.tape.trans h.tape, hk.output.trans h.output, Nat.le_trans h.size hk.size, fun c hc hD => (hk.block c (Nat.lt_of_lt_of_le hc h.size) (by omega)).trans (h.block c hc hD)⟩
end
/-- Relations by the numbers of their operations. -/
def relsU : List (Nat × Rel) → Nat → Rel
  | [], _ => fun _ _ => True
  | (k, R) :: l, i => if i = k then R else relsU l i
section
variable {N : Nat} {B : List BoxCfg} {l : List (Nat × Rel)} {k : Nat}
theorem bears_nil : Bears N B (relsU []) := fun _ _ _ _ h _ => h
theorem bears_cons {R : Rel} (hR : ∀ v w w', R v w → StepTs N (B.map (·.t)) w w' → R v w') (h : Bears N B (relsU l)) : Bears N B (relsU ((k, R) :: l)) := fun i v w w' hv hs => by
  unfold relsU at *
  by_cases e : i = k
  · rw [if_pos e] at *; exact hR v w w' hv hs
  · rw [if_neg e] at *; exact h i v w w' hv hs
theorem bears_val {x : Value} (h : Bears N B (relsU l)) : Bears N B (relsU ((k, fun v _ => v = x) :: l)) := bears_cons (fun _ _ _ hv _ => hv) h
end
/-- THE LAW for new variables. -/
theorem wp_many {P : Program} {id : Nat} {Q : Exit → Act → World → Prop} {a : Act} {w : World} {l : List Oper} (ks : List Nat) (B : List BoxCfg) (U : Nat → Rel) (hm : P.follows .mixedOrders = true) (hB : schedB0 l.toArray ks = true) (hU : Bears w.heap.size B U)
    (h : wpQs P l.toArray (Msd w []) (fun a' => wpLsI P l.toArray (Msd w []) (ManyI w.heap.size B U) (ancB (Region.before l.toArray)) ks (fun a'' w'' => wpList P l.toArray (Exit.then (fun a w => Q .normal a w) (fun _ _ _ => False)) (tails ks l) a'' w'') ks l 0 a' (fun _ => undef)) ks l a) : (Code.region id l.toArray true).wp P Q a w :=
  wp_inv ks [] _ hm hB (fun _ _ _ _ _ h1 h2 => h1.below hU h2) (fun _ => manyI_zero) h
theorem in_many {P : Program} {l' n id : Nat} {Q : Exit → Act → World → Prop} {a : Act} {w : World} {l : List Oper} (ks : List Nat) (B : List BoxCfg) (U : Nat → Rel) (hm : P.follows .mixedOrders = true) (hB : schedB0 l.toArray ks = true) (hU : Bears w.heap.size B U) (hd : noDefer l.toArray = true) (hQ : ¬ LetsOut Q)
    (h : wpQs P l.toArray (Msd w []) (fun a' => wpLsI P l.toArray (Msd w []) (ManyI w.heap.size B U) (ancB (Region.before l.toArray)) ks (fun a'' w'' => wpList P l.toArray (Exit.then (fun a w => Q .normal a w) (fun _ _ _ => False)) (tails ks l) a'' w'') ks l 0 a' (fun _ => undef)) ks l a) : (Code.region id l.toArray true).wpIn (Fence.wide.inRound l') n P Q a w :=
  in_inv ks [] _ hm hB (fun _ _ _ _ _ h1 h2 => h1.below hU h2) (fun _ => manyI_zero) hd hQ h
end Go.Proofs.Ytkopenemoddbbaa

/- Has a store what it must have? -/
namespace Go.Proofs.Ytkopenemoddbbaa
open Go.RowKit Go.Maps
attribute [local go_sem] Oper.semAt_some

theorem rd_step {w w' : World} {q : Option Addr} {n : Nat} {xs : List Int} (h : Rd w q 1 encI xs) (hs : StepTs n [] w w') : Rd w' q 1 encI xs := fun hn => by
  obtain ⟨g, o, hq, h1⟩ := h hn
  refine ⟨g, o, hq, fun i x hx j u hu => ?_⟩
  have h2 := h1 i x hx j u hu
  have hl : g < w.heap.size := cell_lt h2
  have e : w'.heap[g]? = w.heap[g]? := hs.keep g hl (.inr fun t ht => by cases ht)
  unfold World.cell? at *
  dsimp only at *
  rw [e]
  exact h2
set_option maxRecDepth 100000 in
set_option maxHeartbeats 4000000 in
theorem samec_c (q q' : Option Addr) (n c c' : Nat) (xs : List Int) (hn : n = xs.length) (hm : n ≤ 1000000) (hc : n ≤ c) (hc' : n ≤ c') (w : World) (h : Rd w q 1 encI xs) (h' : Rd w q' 1 encI xs) :
    Calls Try.prog 48 #[.slice q n c, .slice q' n c'] w fun r w' => r = .returned (.bool true) ∧ Below w.heap.size w w' := by
  have HR := Lib.hid (And.intro h h')
  clear h h'
  go_enter Try.func48, Try.ntmps48
  go_upto_region 4 with (fail)
  go_loopw [5] (fun iv wr => ∃ j : Nat, j ≤ n ∧ iv = .int .i64 j ∧ Hid (Below w.heap.size w wr)) (fun iv _ => n - (intOf iv).toNat)
  case atStart => exact ⟨0, Nat.zero_le _, rfl, Lib.hid (Below.refl _ _)⟩
  case round =>
    obtain ⟨j, hj, rfl, HB⟩ := hrel
    by_cases hlt : j < n
    · have hy : xs[j]? = some xs[j] := List.getElem?_eq_getElem (by omega)
      obtain ⟨y, hye⟩ : ∃ y, xs[j] = y := ⟨_, rfl⟩
      rw [hye] at hy
      obtain ⟨g, o, rfl, hcell⟩ := (HR.out.1.on HB.out) (by omega)
      obtain ⟨g', o', rfl, hcell'⟩ := (HR.out.2.on HB.out) (by omega)
      have c0 := hcell j _ hy 0 _ rfl
      have c1 := hcell' j _ hy 0 _ rfl
      rw [Nat.mul_one, Nat.add_zero] at c0 c1
      have d0 := fun d os => cell_regrown c0 d os
      have d1 := fun d os => cell_regrown c1 d os
      have h0 : (0 : Int) ≤ j := by omega
      have h1 : (j : Int) < n := by omega
      have hjc : j < c := by omega
      have hjc' : j < c' := by omega
      clear hcell hcell' hy hye c0 c1
      go_upto_region 6 with (fail)
      refine wp_region_quiet_below (by kernel_rfl) (by kernel_rfl) ?_
      repeat (go_big_quiet_step (fail))
      refine wpQuiet_nil ?_
      intro w' hw'
      obtain ⟨rg, rfl⟩ := hw'
      clear d0 d1
      have HB2 := Lib.hid (after HB.out (below_regrown wr rg.d rg.os))
      go_wp2_with fail
      exact ⟨⟨j + 1, hlt, by go_num, HB2⟩, next_less' hlt⟩
    · obtain rfl : j = n := by omega
      have h1 : ¬ ((j : Int) < (j : Int)) := by omega
      go_wp2_with fail
      go_returns
      exact ⟨rfl, HB.out⟩
set_option maxRecDepth 100000 in
set_option maxHeartbeats 8000000 in
theorem slike_c (base sb d : Nat) (M : Nat → Prop) (S : DS) (N : Nat) (w : World) (h : StoreIs w base M sb d S) (hok : DOk S N 1000000) (hN : N ≤ 1000) (hk : ∀ p ∈ S.now, 0 ≤ p.1 ∧ p.1 < 1000) (v : Value) (hv : RefIs w base v S) (hbase : base ≤ w.heap.size) :
    Calls Try.prog 24 #[.pointer (some ⟨sb, 0, none⟩), v] w fun r w' => r = .returned (.bool true) ∧ Below w.heap.size w w' := by
  obtain ⟨a, b, sl, ll, rfl, hra⟩ := hv
  obtain ⟨W0, hW⟩ : ∃ W0, W0 = w.alloc (.cells (dv S a b) 46) := ⟨_, rfl⟩
  have hb0 : Below w.heap.size w W0 := by rw [hW]; exact bel_alloc _ _
  have A0 : Blk W0 w.heap.size 46 (dv S a b) := by rw [hW]; exact Blk.new' rfl
  have HLD := Lib.hid fun W (hW : Below w.heap.size w W) id => sload_c base sb d M S N W (h.on hW) hok (by omega) id (Nat.le_trans hbase hW.size)
  have HRL := Lib.hid fun W (hW : Below w.heap.size w W) id => rsload_c base a b S sl ll N W (hra.on hW) hok (by omega) id
  have HID := Lib.hid fun W (hW : Below w.heap.size w W) => sids_c base sb d M S N W (h.on hW) hok (by omega) hk (Nat.le_trans hbase hW.size)
  have HRI := Lib.hid fun W (hW : Below w.heap.size w W) => rsids_c base a b S sl ll N W (hra.on hW) hok (by omega) hk
  have HLF := Lib.hid fun W (hW : Below w.heap.size w W) => left_c base d M S N W (h.on hW).disk hok (by omega)
  have hfc := hra.facts hok
  have hlens2 : lens ll = lenB S.l := by rw [lens_is hra.gb, ← hra.l]
  have HRN := Lib.hid fun W (hW : Below w.heap.size w W) => calls_bel (rlen_c b ll W (hra.on hW).rb (by have := hfc.2.1; omega) (by
    rw [hlens2]
    refine Nat.le_trans (lenB_le (M := 1000000) fun p hp => hok.size p (List.mem_append.2 (.inr hp))) ?_
    have := hok.many
    omega))
  rw [hlens2] at HRN
  have hblk := h.blk
  have HBK := Lib.hid hblk
  have hil : (idsV S).length ≤ 1000 := by
    have := ids_len S (S.now.map (·.1)) []
    have h2 := hok.now.2.2.1
    rw [List.length_map, List.length_nil] at this
    unfold idsV idsL
    omega
  clear h hra hok hfc hlens2 hk hblk
  obtain ⟨aq, an, ac⟩ := a
  obtain ⟨bq, bn, bc⟩ := b
  simp only [dv, slV] at A0 hW HRL HRI HRN ⊢
  obtain ⟨⟨a0, a1, a2, a3, a4⟩, -⟩ := A0.c5
  go_enter Try.func24, Try.ntmps24
  go_upto_region 1 with (fail)
  rw [← hW]
  have HA0 := Lib.hid A0
  have HB0 := Lib.hid hb0
  have hlow : w.heap.size < W0.heap.size := A0.lt
  clear hW A0 hb0 a0 a1 a2 a3 a4
  go_upto_region 2 with (fail)
  go_loopw [5] (fun iv wr => ∃ z : Int, -1 ≤ z ∧ z ≤ 5 ∧ iv = .int .i64 z ∧ Hid (Below W0.heap.size W0 wr)) (fun iv _ => (5 - intOf iv).toNat)
  case atStart => exact ⟨-1, by omega, by omega, rfl, Lib.hid (Below.refl _ _)⟩
  case round =>
    obtain ⟨z, hz0, hz5, rfl, I⟩ := hrel
    obtain ⟨⟨a0, a1, a2, a3, a4⟩, -⟩ := (HA0.out.on I.out).c5
    by_cases hlt : z < 5
    · have HL1 := Lib.hid (HLD.out wr (after HB0.out I.out) z)
      have HL2 := Lib.hid fun W (hW : Below wr.heap.size wr W) => HRL.out W (after (after HB0.out I.out) hW) z
      unfold LoadR at HL1 HL2
      generalize loadV S z = V at *
      obtain ⟨v1, v2, v3⟩ := V
      dsimp only at HL1 HL2
      go_upto_region 5 with (go_at_call 19; refine HL1.out.mono ?_; rintro e_ w1 ⟨⟨q1, n1, c1⟩, rfl, hg1, hr1, hb1⟩; simp only [slV])
      clear a0 a1 a2 a3 a4
      obtain ⟨⟨a0, a1, a2, a3, a4⟩, -⟩ := ((HA0.out.on I.out).on hb1).c5
      have HL3 := Lib.hid (HL2.out w1 hb1)
      have HG1 := Lib.hid (And.intro hg1 hr1)
      have HB1 := Lib.hid hb1
      clear hg1 hr1 hb1 HL1 HL2
      go_upto_region 6 with (go_at_call 47; refine HL3.out.mono ?_; rintro e_ w2 ⟨⟨q2, n2, c2⟩, rfl, hg2, hr2, hb2⟩; simp only [slV])
      have hS := same_s (HG1.out.1.on hb2).1 hg2 (by rw [(HG1.out.1.on hb2).2, HG1.out.2, hr2])
      simp only [slV] at hS
      have HS := Lib.hid hS
      have HB2 := Lib.hid (after I.out (after HB1.out hb2))
      clear hS hg2 hr2 hb2 HL3 a0 a1 a2 a3 a4
      go_wp2_with (go_at_call 12; refine HS.out.mono ?_; rintro e_ w' ⟨rfl, rfl⟩)
      exact ⟨⟨z + 1, by omega, by omega, by go_num, HB2⟩, by simp [intOf]; omega⟩
    · obtain rfl : z = 5 := by omega
      go_upto_region 8 with (fail)
      have HWR := Lib.hid (after HB0.out I.out)
      have hsbr := (HBK.out.on HWR.out)
      have HSB := Lib.hid hsbr
      have HAR := Lib.hid (HA0.out.on I.out)
      have b0 := fun d os => ((HA0.out.on I.out).re d os).cell 0
      have b1 := fun d os => ((HA0.out.on I.out).re d os).cell 1
      have b2 := fun d os => ((HA0.out.on I.out).re d os).cell 2
      have b3 := fun d os => ((HA0.out.on I.out).re d os).cell 3
      have b4 := fun d os => ((HA0.out.on I.out).re d os).cell 4
      generalize hL : (idsV S).length = L at *
      have HLL := Lib.hid hL
      generalize hlf : ((lenB S.l : Nat) : Int) = lf at *
      clear hsbr hL hlf a0 a1 a2 a3 a4
      have HU_ := Lib.hid (show Bears wr.heap.size [] (relsU [(1, fun v w => ∃ q c, v = .slice q L c ∧ L ≤ c ∧ Rd w q 1 encI (idsV S)), (3, fun v w => ∃ q c, v = .slice q L c ∧ L ≤ c ∧ Rd w q 1 encI (idsV S)), (4, fun v _ => v = .bool true), (5, fun v _ => v = .bool true), (6, fun v _ => v = .pointer (some ⟨sb, 0, none⟩)), (7, fun v _ => v = .pointer (some ⟨sb, 0, none⟩)), (8, fun v _ => v = .pointer (some ⟨sb, 0, none⟩)), (9, fun v _ => v = .pointer (some ⟨sb, 0, none⟩)), (10, fun v _ => v = .pointer (some ⟨d, 0, none⟩)), (11, fun v _ => v = .int .i64 lf), (12, fun v _ => v = .pointer (some ⟨w.heap.size, 4, none⟩)), (13, fun v _ => v = .slice bq bn bc), (14, fun v _ => v = .int .i64 lf), (15, fun v _ => v = .bool true), (16, fun v _ => v = .bool true), (17, fun v _ => v = .bool true)]) from (bears_cons (fun _ _ _ ⟨q, c, h1, h2, h3⟩ hb => ⟨q, c, h1, h2, rd_step h3 hb⟩) (bears_cons (fun _ _ _ ⟨q, c, h1, h2, h3⟩ hb => ⟨q, c, h1, h2, rd_step h3 hb⟩) (bears_val (bears_val (bears_val (bears_val (bears_val (bears_val (bears_val (bears_val (bears_val (bears_val (bears_val (bears_val (bears_val (bears_val bears_nil)))))))))))))))))
      have HO_ := Lib.hid (show OkB [] from ⟨by simp, by simp⟩)
      refine wp_many [0, 2, 0, 2, 2, 2, 2, 2, 2, 2, 2, 2, 2, 2, 2, 2, 2, 2] _ _ (by kernel_rfl) (by kernel_rfl) HU_.out ?_
      repeat (first | (refine wpQs_s ?_) | (refine wpQs_q (fun K hK => ?_); go_simp; first | (refine hK _ ?_; clear hK K) | (apply Exists.intro; refine ⟨fun _ => ?_, hK _ ?_⟩; (fail); clear hK K)) | (refine wpQs_f (fun K hK => ?_); go_simp; refine hK _ ?_; clear hK K))
      refine wpQs_nil ?_
      refine wpLsI_skip ?_
      refine wpLsI_one rfl ?s1_ (fun v1_ => ?_)
      case s1_ =>
        intro S_ V_ w_ hw_ hV_ ha_ hn_ hI_
        have HW_ := Lib.hid hw_
        have HI_ := Lib.hid hI_
        have Hn_ := Lib.hid hn_
        clear hV_ ha_ hw_ hI_ hn_
        go_simp
        refine (HID.out _ (after HWR.out HW_.out.none)).mono ?_
        rintro e_ w9 ⟨vv, rfl, hO, h9⟩
        obtain ⟨q, c, rfl, hc, -, hrd, -, -⟩ := hO.form lenI
        exact ⟨_, rfl, HW_.out.on h9, HI_.out.l (by simp) HU_.out h9 ⟨q, c, by rw [HLL.out], by rw [← HLL.out]; exact hc, hrd⟩⟩
      refine wpLsI_skip ?_
      refine wpLsI_one rfl ?s3_ (fun v3_ => ?_)
      case s3_ =>
        intro S_ V_ w_ hw_ hV_ ha_ hn_ hI_
        have HW_ := Lib.hid hw_
        have HI_ := Lib.hid hI_
        have Hn_ := Lib.hid hn_
        clear hV_ ha_ hw_ hI_ hn_
        go_simp
        refine (HRI.out _ (after HWR.out HW_.out.none)).mono ?_
        rintro e_ w9 ⟨vv, rfl, hO, h9⟩
        obtain ⟨q, c, rfl, hc, -, hrd, -, -⟩ := hO.form lenI
        exact ⟨_, rfl, HW_.out.on h9, HI_.out.l (by simp) HU_.out h9 ⟨q, c, by rw [HLL.out], by rw [← HLL.out]; exact hc, hrd⟩⟩
      refine wpLsI_one rfl ?s4_ (fun v4_ => ?_)
      case s4_ =>
        intro S_ V_ w_ hw_ hV_ ha_ hn_ hI_
        have F1_ := Lib.hid (hI_.of (ha_ 1 (by decide) rfl (by kernel_rfl)) (hV_ 1 (by decide) rfl))
        have F3_ := Lib.hid (hI_.of (ha_ 3 (by decide) rfl (by kernel_rfl)) (hV_ 3 (by decide) rfl))
        have HW_ := Lib.hid hw_
        have HI_ := Lib.hid hI_
        have Hn_ := Lib.hid hn_
        clear hV_ ha_ hw_ hI_ hn_
        go_simp
        obtain ⟨q1_, c1_, e1_, hc1_, hr1_⟩ := F1_.out
        obtain ⟨q3_, c3_, e3_, hc3_, hr3_⟩ := F3_.out
        subst e1_ e3_
        go_simp
        refine (samec_c q1_ q3_ L c1_ c3_ (idsV S) HLL.out.symm (by omega) hc1_ hc3_ _ hr1_ hr3_).mono ?_
        rintro e_ w9 ⟨rfl, h9⟩
        exact ⟨_, rfl, HW_.out.on h9, HI_.out.l (by simp) HU_.out h9 rfl⟩
      refine wpLsI_grd ?s5_ (fun v5_ => ?_)
      case s5_ =>
        intro S_ V_ w_ hw_ hV_ ha_ hn_ hI_
        have F4_ := Lib.hid (show v4_ = .bool true from (hI_.of (ha_ 4 (by decide) rfl (by kernel_rfl)) (hV_ 4 (by decide) rfl)))
        have HW_ := Lib.hid hw_
        have HI_ := Lib.hid hI_
        have Hn_ := Lib.hid hn_
        clear hV_ ha_ hw_ hI_ hn_
        have h4_ := F4_.out
        subst h4_
        clear F4_
        refine .inl ⟨by kernel_rfl, ?_⟩
        go_simp
        exact ⟨HW_.out, HI_.out.l (by simp) HU_.out (Below.refl _ _) rfl⟩
      refine wpLsI_grd ?s6_ (fun v6_ => ?_)
      case s6_ =>
        intro S_ V_ w_ hw_ hV_ ha_ hn_ hI_
        have F5_ := Lib.hid (show v5_ = .bool true from (hI_.of (ha_ 5 (by decide) rfl (by kernel_rfl)) (hV_ 5 (by decide) rfl)))
        have HW_ := Lib.hid hw_
        have HI_ := Lib.hid hI_
        have Hn_ := Lib.hid hn_
        clear hV_ ha_ hw_ hI_ hn_
        have h5_ := F5_.out
        subst h5_
        clear F5_
        refine .inl ⟨by kernel_rfl, ?_⟩
        go_simp
        exact ⟨HW_.out, HI_.out.l (by simp) HU_.out (Below.refl _ _) rfl⟩
      refine wpLsI_grd ?s7_ (fun v7_ => ?_)
      case s7_ =>
        intro S_ V_ w_ hw_ hV_ ha_ hn_ hI_
        have F5_ := Lib.hid (show v5_ = .bool true from (hI_.of (ha_ 5 (by decide) rfl (by kernel_rfl)) (hV_ 5 (by decide) rfl)))
        have F6_ := Lib.hid (show v6_ = .pointer (some ⟨sb, 0, none⟩) from (hI_.of (ha_ 6 (by decide) rfl (by kernel_rfl)) (hV_ 6 (by decide) rfl)))
        have HW_ := Lib.hid hw_
        have HI_ := Lib.hid hI_
        have Hn_ := Lib.hid hn_
        clear hV_ ha_ hw_ hI_ hn_
        have h5_ := F5_.out
        subst h5_
        clear F5_
        have h6_ := F6_.out
        subst h6_
        clear F6_
        refine .inl ⟨by kernel_rfl, ?_⟩
        go_simp
        exact ⟨HW_.out, HI_.out.l (by simp) HU_.out (Below.refl _ _) rfl⟩
      refine wpLsI_grd ?s8_ (fun v8_ => ?_)
      case s8_ =>
        intro S_ V_ w_ hw_ hV_ ha_ hn_ hI_
        have F5_ := Lib.hid (show v5_ = .bool true from (hI_.of (ha_ 5 (by decide) rfl (by kernel_rfl)) (hV_ 5 (by decide) rfl)))
        have F7_ := Lib.hid (show v7_ = .pointer (some ⟨sb, 0, none⟩) from (hI_.of (ha_ 7 (by decide) rfl (by kernel_rfl)) (hV_ 7 (by decide) rfl)))
        have HW_ := Lib.hid hw_
        have HI_ := Lib.hid hI_
        have Hn_ := Lib.hid hn_
        clear hV_ ha_ hw_ hI_ hn_
        have h5_ := F5_.out
        subst h5_
        clear F5_
        have h7_ := F7_.out
        subst h7_
        clear F7_
        refine .inl ⟨by kernel_rfl, ?_⟩
        go_simp
        exact ⟨HW_.out, HI_.out.l (by simp) HU_.out (Below.refl _ _) rfl⟩
      refine wpLsI_grd ?s9_ (fun v9_ => ?_)
      case s9_ =>
        intro S_ V_ w_ hw_ hV_ ha_ hn_ hI_
        have F5_ := Lib.hid (show v5_ = .bool true from (hI_.of (ha_ 5 (by decide) rfl (by kernel_rfl)) (hV_ 5 (by decide) rfl)))
        have F8_ := Lib.hid (show v8_ = .pointer (some ⟨sb, 0, none⟩) from (hI_.of (ha_ 8 (by decide) rfl (by kernel_rfl)) (hV_ 8 (by decide) rfl)))
        have HW_ := Lib.hid hw_
        have HI_ := Lib.hid hI_
        have Hn_ := Lib.hid hn_
        clear hV_ ha_ hw_ hI_ hn_
        have h5_ := F5_.out
        subst h5_
        clear F5_
        have h8_ := F8_.out
        subst h8_
        clear F8_
        refine .inl ⟨by kernel_rfl, ?_⟩
        go_simp
        exact ⟨HW_.out, HI_.out.l (by simp) HU_.out (Below.refl _ _) rfl⟩
      refine wpLsI_grd ?s10_ (fun v10_ => ?_)
      case s10_ =>
        intro S_ V_ w_ hw_ hV_ ha_ hn_ hI_
        have F5_ := Lib.hid (show v5_ = .bool true from (hI_.of (ha_ 5 (by decide) rfl (by kernel_rfl)) (hV_ 5 (by decide) rfl)))
        have F9_ := Lib.hid (show v9_ = .pointer (some ⟨sb, 0, none⟩) from (hI_.of (ha_ 9 (by decide) rfl (by kernel_rfl)) (hV_ 9 (by decide) rfl)))
        have HW_ := Lib.hid hw_
        have HI_ := Lib.hid hI_
        have Hn_ := Lib.hid hn_
        clear hV_ ha_ hw_ hI_ hn_
        have h5_ := F5_.out
        subst h5_
        clear F5_
        have h9_ := F9_.out
        subst h9_
        clear F9_
        refine .inl ⟨by kernel_rfl, ?_⟩
        go_simp
        have k0_ := (HSB.out.on HW_.out.none).cell 0
        go_simp
        exact ⟨HW_.out, HI_.out.l (by simp) HU_.out (Below.refl _ _) rfl⟩
      refine wpLsI_grd ?s11_ (fun v11_ => ?_)
      case s11_ =>
        intro S_ V_ w_ hw_ hV_ ha_ hn_ hI_
        have F5_ := Lib.hid (show v5_ = .bool true from (hI_.of (ha_ 5 (by decide) rfl (by kernel_rfl)) (hV_ 5 (by decide) rfl)))
        have F10_ := Lib.hid (show v10_ = .pointer (some ⟨d, 0, none⟩) from (hI_.of (ha_ 10 (by decide) rfl (by kernel_rfl)) (hV_ 10 (by decide) rfl)))
        have HW_ := Lib.hid hw_
        have HI_ := Lib.hid hI_
        have Hn_ := Lib.hid hn_
        clear hV_ ha_ hw_ hI_ hn_
        have h5_ := F5_.out
        subst h5_
        clear F5_
        have h10_ := F10_.out
        subst h10_
        clear F10_
        refine .inl ⟨by kernel_rfl, ?_⟩
        go_simp
        refine (HLF.out _ (after HWR.out HW_.out.none)).mono ?_
        rintro e_ w9 ⟨rfl, h9⟩
        exact ⟨_, rfl, HW_.out.on h9, HI_.out.l (by simp) HU_.out h9 rfl⟩
      refine wpLsI_grd ?s12_ (fun v12_ => ?_)
      case s12_ =>
        intro S_ V_ w_ hw_ hV_ ha_ hn_ hI_
        have F5_ := Lib.hid (show v5_ = .bool true from (hI_.of (ha_ 5 (by decide) rfl (by kernel_rfl)) (hV_ 5 (by decide) rfl)))
        have HW_ := Lib.hid hw_
        have HI_ := Lib.hid hI_
        have Hn_ := Lib.hid hn_
        clear hV_ ha_ hw_ hI_ hn_
        have h5_ := F5_.out
        subst h5_
        clear F5_
        refine .inl ⟨by kernel_rfl, ?_⟩
        go_simp
        exact ⟨HW_.out, HI_.out.l (by simp) HU_.out (Below.refl _ _) rfl⟩
      refine wpLsI_grd ?s13_ (fun v13_ => ?_)
      case s13_ =>
        intro S_ V_ w_ hw_ hV_ ha_ hn_ hI_
        have F5_ := Lib.hid (show v5_ = .bool true from (hI_.of (ha_ 5 (by decide) rfl (by kernel_rfl)) (hV_ 5 (by decide) rfl)))
        have F12_ := Lib.hid (show v12_ = .pointer (some ⟨w.heap.size, 4, none⟩) from (hI_.of (ha_ 12 (by decide) rfl (by kernel_rfl)) (hV_ 12 (by decide) rfl)))
        have HW_ := Lib.hid hw_
        have HI_ := Lib.hid hI_
        have Hn_ := Lib.hid hn_
        clear hV_ ha_ hw_ hI_ hn_
        have h5_ := F5_.out
        subst h5_
        clear F5_
        have h12_ := F12_.out
        subst h12_
        clear F12_
        refine .inl ⟨by kernel_rfl, ?_⟩
        go_simp
        have k4_ := (HAR.out.on HW_.out.none).cell 4
        go_simp
        exact ⟨HW_.out, HI_.out.l (by simp) HU_.out (Below.refl _ _) rfl⟩
      refine wpLsI_grd ?s14_ (fun v14_ => ?_)
      case s14_ =>
        intro S_ V_ w_ hw_ hV_ ha_ hn_ hI_
        have F5_ := Lib.hid (show v5_ = .bool true from (hI_.of (ha_ 5 (by decide) rfl (by kernel_rfl)) (hV_ 5 (by decide) rfl)))
        have F13_ := Lib.hid (show v13_ = .slice bq bn bc from (hI_.of (ha_ 13 (by decide) rfl (by kernel_rfl)) (hV_ 13 (by decide) rfl)))
        have HW_ := Lib.hid hw_
        have HI_ := Lib.hid hI_
        have Hn_ := Lib.hid hn_
        clear hV_ ha_ hw_ hI_ hn_
        have h5_ := F5_.out
        subst h5_
        clear F5_
        have h13_ := F13_.out
        subst h13_
        clear F13_
        refine .inl ⟨by kernel_rfl, ?_⟩
        go_simp
        refine (HRN.out _ (after HWR.out HW_.out.none)).mono ?_
        rintro e_ w9 ⟨rfl, h9⟩
        exact ⟨_, rfl, HW_.out.on h9, HI_.out.l (by simp) HU_.out h9 rfl⟩
      refine wpLsI_grd ?s15_ (fun v15_ => ?_)
      case s15_ =>
        intro S_ V_ w_ hw_ hV_ ha_ hn_ hI_
        have F5_ := Lib.hid (show v5_ = .bool true from (hI_.of (ha_ 5 (by decide) rfl (by kernel_rfl)) (hV_ 5 (by decide) rfl)))
        have F11_ := Lib.hid (show v11_ = .int .i64 lf from (hI_.of (ha_ 11 (by decide) rfl (by kernel_rfl)) (hV_ 11 (by decide) rfl)))
        have F14_ := Lib.hid (show v14_ = .int .i64 lf from (hI_.of (ha_ 14 (by decide) rfl (by kernel_rfl)) (hV_ 14 (by decide) rfl)))
        have HW_ := Lib.hid hw_
        have HI_ := Lib.hid hI_
        have Hn_ := Lib.hid hn_
        clear hV_ ha_ hw_ hI_ hn_
        have h5_ := F5_.out
        subst h5_
        clear F5_
        have h11_ := F11_.out
        subst h11_
        clear F11_
        have h14_ := F14_.out
        subst h14_
        clear F14_
        refine .inl ⟨by kernel_rfl, ?_⟩
        go_simp
        exact ⟨HW_.out, HI_.out.l (by simp) HU_.out (Below.refl _ _) rfl⟩
      refine wpLsI_grd ?s16_ (fun v16_ => ?_)
      case s16_ =>
        intro S_ V_ w_ hw_ hV_ ha_ hn_ hI_
        have F5_ := Lib.hid (show v5_ = .bool true from (hI_.of (ha_ 5 (by decide) rfl (by kernel_rfl)) (hV_ 5 (by decide) rfl)))
        have F15_ := Lib.hid (show v15_ = .bool true from (hI_.of (ha_ 15 (by decide) rfl (by kernel_rfl)) (hV_ 15 (by decide) rfl)))
        have HW_ := Lib.hid hw_
        have HI_ := Lib.hid hI_
        have Hn_ := Lib.hid hn_
        clear hV_ ha_ hw_ hI_ hn_
        have h5_ := F5_.out
        subst h5_
        clear F5_
        have h15_ := F15_.out
        subst h15_
        clear F15_
        refine .inl ⟨by kernel_rfl, ?_⟩
        go_simp
        exact ⟨HW_.out, HI_.out.l (by simp) HU_.out (Below.refl _ _) rfl⟩
      refine wpLsI_grd ?s17_ (fun v17_ => ?_)
      case s17_ =>
        intro S_ V_ w_ hw_ hV_ ha_ hn_ hI_
        have F16_ := Lib.hid (show v16_ = .bool true from (hI_.of (ha_ 16 (by decide) rfl (by kernel_rfl)) (hV_ 16 (by decide) rfl)))
        have HW_ := Lib.hid hw_
        have HI_ := Lib.hid hI_
        have Hn_ := Lib.hid hn_
        clear hV_ ha_ hw_ hI_ hn_
        have h16_ := F16_.out
        subst h16_
        clear F16_
        refine .inl ⟨by kernel_rfl, ?_⟩
        go_simp
        exact ⟨HW_.out, HI_.out.l (by simp) HU_.out (Below.refl _ _) rfl⟩
      refine wpLsI_nil fun V_ W9 hw_ hV_ hI_ => ?_
      have K17_ : v17_ = .bool true := hI_.of ⟨show 17 < 18 by decide, rfl⟩ (hV_ 17 (by decide) rfl)
      subst K17_
      have h_W9 := hw_.none
      clear hV_ hI_ hw_ HU_ HO_
      simp only [tails]
      go_wp2_with fail
      go_returns
      exact ⟨rfl, after HWR.out h_W9⟩
end Go.Proofs.Ytkopenemoddbbaa
