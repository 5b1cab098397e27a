/- Bytes that are alike; what a disk's call leaves behind. -/
import Derived.Test.YtkopenemoddbbaaDisk6
import Derived.Test.YtkopenemoddbbaaCrc7
namespace Go.Proofs.Ytkopenemoddbbaa
open Go.RowKit Go.Maps
attribute [local go_sem] Oper.semAt_some

theorem bsOf_self' (b : Bs) : bsOf (fun i => b.getD i 0) b.length = b := by
  apply List.ext_getElem?
  intro i
  by_cases h : i < b.length
  · rw [bsOf_at h]; simp [h]
  · rw [List.getElem?_eq_none (by rw [bsOf_len]; omega), List.getElem?_eq_none (by omega)]
/-- Two slices that hold the same bytes. -/
theorem same_s {w : World} {b1 b2 : Nat} {s t : SL} (hs : GoodS w b1 s) (ht : GoodS w b2 t) (h : rdB w s = rdB w t) : Calls Try.prog 12 #[slV s, slV t] w fun r w' => r = .returned (.bool true) ∧ w = w' := by
  have h1 := hs.len
  have h2 := ht.len
  rw [h] at h1
  obtain ⟨q, n, c⟩ := s
  obtain ⟨q', n', c'⟩ := t
  dsimp only at h1 h2
  obtain rfl : n = n' := by omega
  exact same_t q n c _ q' c' _ (fun i _ => by rw [h]) w hs.byq ht.byq
/-- Bytes that are written out. -/
def litB (bs : Bs) : Array Value := (bs.map fun x => .int .u8 (n8 x)).toArray
theorem lit_good {w : World} {g base : Nat} {bs : Bs} (h : Blk w g 5 (litB bs)) (hl : bs.length ≤ 1000) : GoodS w base (some ⟨g, 0, none⟩, bs.length, bs.length) ∧ rdB w (some ⟨g, 0, none⟩, bs.length, bs.length) = bs := by
  have hB : Byt w g 0 bs.length (fun i => bs.getD i 0) := fun i hi => by
    rw [Nat.zero_add, h.cell]
    unfold litB
    simp [hi]
  exact ⟨⟨Nat.le_refl _, Nat.le_trans hl (by decide), fun _ => ⟨g, 0, _, rfl, hB, .inr ⟨_, h⟩⟩⟩, by rw [rdB_of hB, bsOf_self']⟩
theorem Turn.out {w w' : World} {base : Nat} {M : Nat → Prop} {d : Nat} {S S' : DS} (h : Turn w base M d S' w') (h0 : DiskIs w base M d S) (hb : base ≤ w.heap.size) : Below base w w' ∧ base ≤ w'.heap.size ∧ ∃ M', DiskIs w' base M' d S' := by
  have h1 := h.below h0 hb
  obtain ⟨M', h2, -, -⟩ := h
  exact ⟨h1, Nat.le_trans hb h1.size, M', h2⟩
theorem bel_alloc (w : World) (o : Obj) : Below w.heap.size w (w.alloc o) := (Below.refl _ _).alloc (Nat.le_refl _) o
theorem bel_alloc' {n : Nat} {w : World} (h : n ≤ w.heap.size) (o : Obj) : Below n w (w.alloc o) := (Below.refl _ _).alloc h o
/-- Bytes behind the first k of them. -/
theorem GoodS.drop {w : World} {base g o n c : Nat} (h : GoodS w base (some ⟨g, o, none⟩, n, c)) {k : Nat} (hk : k ≤ n) (q : Option Addr) (hq : k < n → q = some ⟨g, o + k, none⟩) : GoodS w base (q, n - k, c - k) ∧ rdB w (q, n - k, c - k) = (rdB w (some ⟨g, o, none⟩, n, c)).drop k := by
  have hcap : n ≤ c := h.cap
  have hmost : c ≤ maxLen := h.most
  by_cases h0 : k < n
  · obtain ⟨g', o', F, hq', hB, hg⟩ := h.lies (show 0 < n by omega)
    obtain ⟨rfl, rfl⟩ : g = g' ∧ o = o' := by simpa using hq'
    have hB2 : Byt w g (o + k) (n - k) (fun i => F (k + i)) := fun i hi => by
      have := hB (k + i) (show k + i < n by omega)
      rwa [← Nat.add_assoc] at this
    refine ⟨⟨show n - k ≤ c - k by omega, show c - k ≤ maxLen by omega, fun _ => ⟨g, o + k, _, hq h0, hB2, hg⟩⟩, ?_⟩
    have hB' : Byt w g o n F := hB
    rw [hq h0, rdB_of hB2, rdB_of hB']
    apply List.ext_getElem?
    intro i
    rw [List.getElem?_drop]
    by_cases hi : i < n - k
    · rw [bsOf_at hi, bsOf_at (by omega)]
    · rw [List.getElem?_eq_none (by rw [bsOf_len]; omega), List.getElem?_eq_none (by rw [bsOf_len]; omega)]
  · obtain rfl : k = n := by omega
    rw [Nat.sub_self]
    refine ⟨⟨Nat.zero_le _, show c - k ≤ maxLen by omega, fun h => absurd h (Nat.lt_irrefl 0)⟩, ?_⟩
    rw [rdB_zero, List.drop_eq_nil_of_le (by rw [h.len]; exact Nat.le_refl _)]
end Go.Proofs.Ytkopenemoddbbaa
