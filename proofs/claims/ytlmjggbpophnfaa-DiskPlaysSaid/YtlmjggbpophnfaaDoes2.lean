/- 'next, same := does(d, r, l[i])' in a region that draws: its invariant. -/
import Derived.Test.YtlmjggbpophnfaaDoes
namespace Go.Proofs.Ytlmjggbpophnfaa
open Go.RowKit Go.Maps

/-- 6 the call, 7 its pair, 8 and 9 what is taken out, 10 a new variable, 11 the store into it. -/
def DsI (base d N : Nat) (M : Nat → Prop) (S0 : DS) (n0 : Nat) : InvT := fun S V w => ∃ (a b : SL) (S' : DS), (S 7 → S 6) ∧ (S 8 → S 7) ∧ (S 9 → S 7) ∧ (S 11 → S 8 ∧ S 10) ∧
  (¬ S 6 → DiskIs w base M d S0) ∧
  (S 6 → V 6 = .tuple #[.agg (dv S' a b), .bool true] ∧ (∃ M', DiskIs w base M' d S' ∧ ∀ b, M' b → M b ∨ n0 ≤ b) ∧ RefIs w base (.agg (dv S' a b)) S' ∧ DOk S' (N + 1) 20 ∧ S'.room = S0.room) ∧
  (S 7 → V 7 = .tuple #[.agg (dv S' a b), .bool true]) ∧ (S 8 → V 8 = .agg (dv S' a b)) ∧ (S 9 → V 9 = .bool true) ∧
  (S 10 → ∃ g, V 10 = .pointer (some ⟨g, 0, none⟩) ∧ n0 ≤ g ∧ base ≤ g ∧ (¬ S 11 → Blk w g 42 zeroD) ∧ (S 11 → Blk w g 42 (dv S' a b)))
section
variable {base d N n0 : Nat} {M : Nat → Prop} {S0 : DS} {S : Nat → Prop} {V : Nat → Value} {w w' : World}
theorem dsI_zero (h : DiskIs w base M d S0) : DsI base d N M S0 n0 (fun _ => False) V w :=
  ⟨(none, 0, 0), (none, 0, 0), S0, fun h => h.elim, fun h => h.elim, fun h => h.elim, fun h => h.elim, fun _ => h, fun h => h.elim, fun h => h.elim, fun h => h.elim, fun h => h.elim, fun h => h.elim⟩
theorem DsI.below (h : DsI base d N M S0 n0 S V w) (k : Below w.heap.size w w') : DsI base d N M S0 n0 S V w' := by
  obtain ⟨a, b, S', o7, o8, o9, o11, d0, d6, v7, v8, v9, bx⟩ := h
  refine ⟨a, b, S', o7, o8, o9, o11, fun e => (d0 e).on k, fun e => ?_, v7, v8, v9, fun e => ?_⟩
  · obtain ⟨h1, ⟨M', h2, h3⟩, h4, h5⟩ := d6 e
    exact ⟨h1, ⟨M', h2.on k, h3⟩, h4.on k, h5⟩
  · obtain ⟨g, h1, h2, h3, h4, h5⟩ := bx e
    exact ⟨g, h1, h2, h3, fun e => (h4 e).on k, fun e => (h5 e).on k⟩
theorem aO {i j : Nat} (h : andOf S i j) (hne : j ≠ i) : S j := h.resolve_left hne
theorem aN {i j : Nat} (h : ¬ andOf S i j) : ¬ S j := fun h' => h (.inr h')
theorem DsI.call {v : Value} (h : DsI base d N M S0 n0 S V w) (hn : ¬ S 6) (hs : n0 ≤ w.heap.size) {v' : Value} {S1 : DS} (t : Turn w base M d S1 w') (hr : RefIs w' base v' S1) (hk : DOk S1 (N + 1) 20) (hm : S1.room = S0.room) (hv : v = .tuple #[v', .bool true]) : DsI base d N M S0 n0 (andOf S 6) (upd V 6 v) w' := by
  obtain ⟨a, b, S', o7, o8, o9, o11, d0, d6, v7, v8, v9, bx⟩ := h
  obtain ⟨a1, b1, sl, ll, rfl, hra⟩ := hr
  have n7 : ¬ S 7 := fun h => hn (o7 h)
  have n8 : ¬ S 8 := fun h => n7 (o8 h)
  have n9 : ¬ S 9 := fun h => n7 (o9 h)
  have n11 : ¬ S 11 := fun h => n8 (o11 h).1
  have h0 := d0 hn
  obtain ⟨M', t1, t2, t3⟩ := id t
  refine ⟨a1, b1, S1, fun e => absurd (aO e (by decide)) n7, fun e => absurd (aO e (by decide)) n8, fun e => absurd (aO e (by decide)) n9, fun e => absurd (aO e (by decide)) n11, fun e => absurd (.inl rfl) e,
    fun _ => ⟨by rw [upd_same, hv], ⟨M', t1, fun b hb => (t2 b hb).imp id (Nat.le_trans hs)⟩, ⟨a1, b1, sl, ll, rfl, hra⟩, hk, hm⟩, fun e => absurd (aO e (by decide)) n7, fun e => absurd (aO e (by decide)) n8, fun e => absurd (aO e (by decide)) n9, fun e => ?_⟩
  obtain ⟨g, h1, h2, h3, h4, -⟩ := bx (aO e (by decide))
  exact ⟨g, by rw [upd_ne (by decide)]; exact h1, h2, h3, fun _ => t.blk h0 (h4 n11) (by decide), fun e => absurd (aO e (by decide)) n11⟩
theorem DsI.get6 (h : DsI base d N M S0 n0 S V w) (h6 : S 6) : ∃ a b S', V 6 = .tuple #[.agg (dv S' a b), .bool true] := by
  obtain ⟨a, b, S', o7, o8, o9, o11, d0, d6, v7, v8, v9, bx⟩ := h
  exact ⟨a, b, S', (d6 h6).1⟩
theorem DsI.move {v : Value} (h : DsI base d N M S0 n0 S V w) (h6 : S 6) (hv : v = V 6) : DsI base d N M S0 n0 (andOf S 7) (upd V 7 v) w := by
  obtain ⟨a, b, S', o7, o8, o9, o11, d0, d6, v7, v8, v9, bx⟩ := h
  refine ⟨a, b, S', fun _ => .inr h6, fun _ => .inl rfl, fun _ => .inl rfl, fun e => ⟨.inr (o11 (aO e (by decide))).1, .inr (o11 (aO e (by decide))).2⟩, fun e => d0 (aN e), fun _ => by rw [upd_ne (by decide)]; exact d6 h6, fun _ => by rw [upd_same, hv, (d6 h6).1],
    fun e => by rw [upd_ne (by decide)]; exact v8 (aO e (by decide)), fun e => by rw [upd_ne (by decide)]; exact v9 (aO e (by decide)), fun e => ?_⟩
  obtain ⟨g, h1, h2, h3, h4, h5⟩ := bx (aO e (by decide))
  exact ⟨g, by rw [upd_ne (by decide)]; exact h1, h2, h3, fun e => h4 (aN e), fun e => h5 (aO e (by decide))⟩
theorem DsI.get7 (h : DsI base d N M S0 n0 S V w) (h7 : S 7) : ∃ a b S', V 7 = .tuple #[.agg (dv S' a b), .bool true] ∧ ∀ v, (v = .agg (dv S' a b) → DsI base d N M S0 n0 (andOf S 8) (upd V 8 v) w) ∧ (v = .bool true → DsI base d N M S0 n0 (andOf S 9) (upd V 9 v) w) := by
  obtain ⟨a, b, S', o7, o8, o9, o11, d0, d6, v7, v8, v9, bx⟩ := h
  refine ⟨a, b, S', v7 h7, fun v => ⟨fun hv => ?_, fun hv => ?_⟩⟩
  · refine ⟨a, b, S', fun e => .inr (o7 (aO e (by decide))), fun _ => .inr h7, fun _ => .inr h7, fun e => ⟨.inl rfl, .inr (o11 (aO e (by decide))).2⟩, fun e => d0 (aN e), fun e => by rw [upd_ne (by decide)]; exact d6 (aO e (by decide)), fun _ => by rw [upd_ne (by decide)]; exact v7 h7,
      fun _ => by rw [upd_same, hv], fun e => by rw [upd_ne (by decide)]; exact v9 (aO e (by decide)), fun e => ?_⟩
    obtain ⟨g, h1, h2, h3, h4, h5⟩ := bx (aO e (by decide))
    exact ⟨g, by rw [upd_ne (by decide)]; exact h1, h2, h3, fun e => h4 (aN e), fun e => h5 (aO e (by decide))⟩
  · refine ⟨a, b, S', fun e => .inr (o7 (aO e (by decide))), fun _ => .inr h7, fun _ => .inr h7, fun e => ⟨.inr (o11 (aO e (by decide))).1, .inr (o11 (aO e (by decide))).2⟩, fun e => d0 (aN e), fun e => by rw [upd_ne (by decide)]; exact d6 (aO e (by decide)), fun _ => by rw [upd_ne (by decide)]; exact v7 h7,
      fun e => by rw [upd_ne (by decide)]; exact v8 (aO e (by decide)), fun _ => by rw [upd_same, hv], fun e => ?_⟩
    obtain ⟨g, h1, h2, h3, h4, h5⟩ := bx (aO e (by decide))
    exact ⟨g, by rw [upd_ne (by decide)]; exact h1, h2, h3, fun e => h4 (aN e), fun e => h5 (aO e (by decide))⟩
theorem DsI.new {v : Value} (h : DsI base d N M S0 n0 S V w) (hn : ¬ S 10) (hs : n0 ≤ w.heap.size) (hb : base ≤ w.heap.size) (hv : v = .pointer (some ⟨w.heap.size, 0, none⟩)) : DsI base d N M S0 n0 (andOf S 10) (upd V 10 v) (w.alloc (.cells zeroD 42)) := by
  obtain ⟨a, b, S', o7, o8, o9, o11, d0, d6, v7, v8, v9, bx⟩ := h.below (bel_alloc w (.cells zeroD 42))
  have n11 : ¬ S 11 := fun h => hn (o11 h).2
  exact ⟨a, b, S', fun e => .inr (o7 (aO e (by decide))), fun e => .inr (o8 (aO e (by decide))), fun e => .inr (o9 (aO e (by decide))), fun e => absurd (aO e (by decide)) n11, fun e => d0 (aN e), fun e => by rw [upd_ne (by decide)]; exact d6 (aO e (by decide)),
    fun e => by rw [upd_ne (by decide)]; exact v7 (aO e (by decide)), fun e => by rw [upd_ne (by decide)]; exact v8 (aO e (by decide)), fun e => by rw [upd_ne (by decide)]; exact v9 (aO e (by decide)), fun _ => ⟨w.heap.size, by rw [upd_same, hv], hs, hb, fun _ => Blk.new' rfl, fun e => absurd (aO e (by decide)) n11⟩⟩
/-- What the store needs, and what it leaves. -/
theorem DsI.put (h : DsI base d N M S0 n0 S V w) (h8 : S 8) (h10 : S 10) (hn : ¬ S 11) : ∃ a b S' g, V 8 = .agg (dv S' a b) ∧ V 10 = .pointer (some ⟨g, 0, none⟩) ∧ n0 ≤ g ∧ base ≤ g ∧ Blk w g 42 zeroD ∧
    ∀ v w', Kept (fun x => x ≠ g) w w' → Blk w' g 42 (dv S' a b) → DsI base d N M S0 n0 (andOf S 11) (upd V 11 v) w' := by
  obtain ⟨a, b, S', o7, o8, o9, o11, d0, d6, v7, v8, v9, bx⟩ := h
  obtain ⟨g, h1, h2, h3, h4, -⟩ := bx h10
  have hB := h4 hn
  have h6 := o7 (o8 h8)
  refine ⟨a, b, S', g, v8 h8, h1, h2, h3, hB, fun v w' hk hb => ?_⟩
  refine ⟨a, b, S', fun e => .inr (o7 (aO e (by decide))), fun e => .inr (o8 (aO e (by decide))), fun e => .inr (o9 (aO e (by decide))), fun _ => ⟨.inr h8, .inr h10⟩, fun e => absurd (.inr h6) e, fun _ => ?_,
    fun e => by rw [upd_ne (by decide)]; exact v7 (aO e (by decide)), fun e => by rw [upd_ne (by decide)]; exact v8 (aO e (by decide)), fun e => by rw [upd_ne (by decide)]; exact v9 (aO e (by decide)), fun _ => ⟨g, by rw [upd_ne (by decide)]; exact h1, h2, h3, fun e => absurd (.inl rfl) e, fun _ => hb⟩⟩
  obtain ⟨e1, ⟨M', hD, hM⟩, ⟨a1, b1, sl, ll, e2, hra⟩, e3⟩ := d6 h6
  refine ⟨by rw [upd_ne (by decide)]; exact e1, ⟨M', hD.kept hk (fun c hm e => ?_) (fun c hby e => ?_), hM⟩, ⟨a1, b1, sl, ll, e2, hra.off hk hB (by decide) h3⟩, e3⟩
  · subst e
    rcases (hD.mine hm).2.2 _ _ hB with e | e <;> revert e <;> decide
  · subst e
    exact not_by hB (by decide) h3 hby
end
end Go.Proofs.Ytlmjggbpophnfaa
