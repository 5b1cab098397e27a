/- A row of bytes, cut to its first 20. -/
import Derived.Test.YtlmjggbpophnfaaBos
import Derived.Test.YtlmjggbpophnfaaDiskL
import Derived.Test.YtlmjggbpophnfaaDiskQ
namespace Go.Proofs.Ytlmjggbpophnfaa
open Go.RowKit Go.Maps

theorem row_at {w wr : World} {q : Option Addr} {n : Nat} {F : Nat → SL} {i : Nat} (hb : Sls w q n F) (hg : ∀ i, i < n → GoodS w w.heap.size (F i)) (hB : Below w.heap.size w wr) (hi : i < n) :
    ∃ g o sq sn sc no, q = some ⟨g, o, none⟩ ∧ wr.cell? ⟨g, o + i, none⟩ = some (.slice sq sn sc) ∧ no ≤ 20 ∧ GoodS wr w.heap.size (sq, no, sc) ∧
      Calls Try.prog 11 #[.slice sq sn sc, .int .i64 20] wr fun r w' => r = .returned (.slice sq no sc) ∧ wr = w' := by
  obtain ⟨g, o, rfl, hcell⟩ := (hb.below (fun g o e h0 => hb.lt e h0) hB) (by omega)
  have h1 := ((hg i hi).on hB).1
  exact ⟨g, o, (F i).1, (F i).2.1, (F i).2.2, min (F i).2.1 20, rfl, hcell i hi, Nat.min_le_right _ _, (h1.cut (Nat.min_le_left _ _)).1, few_c (F i).1 (F i).2.1 (F i).2.2 20 h1.cap wr⟩
theorem rem4 {k : Nat} {x : Int} (h : x = (k : Int).tmod 4 ∨ x = (k : Int) % 4) : x = ((k % 4 : Nat) : Int) := by
  rcases h with h | h
  · rw [h, Int.tmod_eq_emod_of_nonneg (by omega)]; omega
  · rw [h]; omega
theorem get_x {base d : Nat} {M : Nat → Prop} {S : DS} {N : Nat} {w : World} (h : DiskIs w base M d S) (hok : DOk S N 1000000) (hN : N ≤ 100000) {k : Int} (hk : In64 k) (x : Int) (e : x = k) :
    Calls Try.prog 15 #[.pointer (some ⟨d, 0, none⟩), .int .i64 x] w fun r w' => ∃ s : SL, r = .returned (.tuple #[slV s, .bool (S.get k).isSome]) ∧ GoodS w' base s ∧ rdB w' s = (S.get k).getD [] ∧ Below w.heap.size w w' := by
  subst e
  exact get_c base d M S N w h hok hN x hk
theorem put_x {base d : Nat} {M : Nat → Prop} {S : DS} {N : Nat} {w : World} (h : DiskIs w base M d S) (hok : DOk S N 1000000) (hN : N ≤ 100000) {k : Int} (hk : In64 k) {s : SL} (hs : GoodS w base s) (hz : s.2.1 ≤ 1000000) (hbase : base ≤ w.heap.size) (x : Int) (e : x = k) :
    Calls Try.prog 10 #[.pointer (some ⟨d, 0, none⟩), .int .i64 x, .slice s.1 s.2.1 s.2.2] w fun r w' => r = .returned (.int .i64 (S.put k (rdB w s)).2) ∧ Turn w base M d (S.put k (rdB w s)).1 w' := by
  subst e
  exact put_c base d M S N w h hok hN x hk s hs hz hbase
end Go.Proofs.Ytlmjggbpophnfaa
