/- What sort and compact leave of a row of whole numbers. No program in sight. -/
import Derived.Test.YtmkmaoodeebmfaaRow
import Derived.Sort.OwnSortedInts
import Derived.Lib.SlicesCompact
namespace Go.Proofs.Ytmkmaoodeebmfaa
open Go.RowKit Go.Shelf Go.Sort

def sortL (l : List Int) : List Int := l.mergeSort fun x y => decide (x ≤ y)
/-- The numbers of a list, each once, in order. -/
def setL (l : List Int) : List Int := Lib.compact (sortL l)
theorem sortL_len (l : List Int) : (sortL l).length = l.length := List.length_mergeSort l
theorem compact_len (l : List Int) : (Lib.compact l).length ≤ l.length := by
  unfold Lib.compact Lib.compactUpTo
  rw [List.length_map]
  exact Nat.le_trans (List.length_filter_le _ _) (by simp)
theorem setL_len (l : List Int) : (setL l).length ≤ l.length := by
  have := compact_len (sortL l); rw [sortL_len] at this; exact this
theorem setL_nil : setL [] = [] := by
  have := setL_len []
  exact List.eq_nil_of_length_eq_zero (by simpa using this)
theorem mem_compact {l : List Int} {x : Int} : x ∈ Lib.compact l ↔ x ∈ l := by
  unfold Lib.compact Lib.compactUpTo
  simp only [List.mem_map, List.mem_filter, List.mem_range]
  constructor
  · rintro ⟨j, ⟨hj, -⟩, rfl⟩
    rw [getElem!_pos l.toArray j (by simpa using hj)]
    simp
  · intro h
    obtain ⟨j, hj, e⟩ := List.mem_iff_getElem.1 h
    induction j using Nat.strongRecOn with
    | ind j ih =>
      have e1 : l.toArray[j]! = x := by rw [getElem!_pos l.toArray j (by simpa using hj)]; simpa using e
      by_cases hk : Lib.keeps l.toArray j = true
      · exact ⟨j, ⟨hj, hk⟩, e1⟩
      · simp only [Lib.keeps, decide_eq_true_eq, not_or, Decidable.not_not] at hk
        have hj1 : j - 1 < l.length := by omega
        refine ih (j - 1) (by omega) hj1 ?_
        rw [e1, getElem!_pos l.toArray (j - 1) (by simpa using hj1)] at hk
        simpa using hk.2.symm
theorem mem_setL {l : List Int} {x : Int} : x ∈ setL l ↔ x ∈ l := by
  unfold setL sortL
  rw [mem_compact, List.mem_mergeSort]
theorem compact_lt {d : Array Int} (hd : ∀ j, j + 1 < d.size → d[j]! ≤ d[j + 1]!) : ∀ m, m ≤ d.size → (Lib.compactUpTo d m).Pairwise (· < ·) ∧ ∀ x ∈ Lib.compactUpTo d m, 0 < m ∧ x ≤ d[m - 1]! := by
  intro m
  induction m with
  | zero => intro _; unfold Lib.compactUpTo; simp
  | succ m ih =>
    intro hm
    obtain ⟨h1, h2⟩ := ih (by omega)
    rw [Lib.compactUpTo_succ]
    have hst : ∀ x ∈ Lib.compactUpTo d m, x ≤ d[m]! := fun x hx => by
      obtain ⟨h3, h4⟩ := h2 x hx
      have := hd (m - 1) (by omega)
      rw [show m - 1 + 1 = m by omega] at this
      omega
    by_cases hk : Lib.keeps d m = true
    · rw [if_pos hk]
      refine ⟨List.pairwise_append.2 ⟨h1, List.pairwise_singleton _ _, fun x hx y hy => ?_⟩, fun x hx => ⟨by omega, ?_⟩⟩
      · obtain rfl : y = d[m]! := by simpa using hy
        obtain ⟨h3, h4⟩ := h2 x hx
        have h5 := hst x hx
        simp only [Lib.keeps, decide_eq_true_eq] at hk
        have := hd (m - 1) (by omega)
        rw [show m - 1 + 1 = m by omega] at this
        omega
      · simp only [Nat.add_sub_cancel]
        rcases List.mem_append.1 hx with h | h
        · exact hst x h
        · obtain rfl : x = d[m]! := by simpa using h
          exact Int.le_refl _
    · rw [if_neg hk, List.append_nil]
      exact ⟨h1, fun x hx => ⟨by omega, by simpa using hst x hx⟩⟩
theorem setL_lt (l : List Int) : (setL l).Pairwise (· < ·) := by
  have hs : (sortL l).Pairwise (· ≤ ·) := (List.pairwise_mergeSort (le := fun x y : Int => decide (x ≤ y)) (fun a b c h1 h2 => by simp only [decide_eq_true_eq] at *; omega) (fun a b => by simp only [Bool.or_eq_true, decide_eq_true_eq]; omega) l).imp (fun h => by simpa using h)
  refine (compact_lt (d := (sortL l).toArray) (fun j hj => ?_) (sortL l).length (by simp)).1
  have hj' : j + 1 < (sortL l).length := by simpa using hj
  rw [getElem!_pos (sortL l).toArray j (by simp; omega), getElem!_pos (sortL l).toArray (j + 1) (by simpa using hj)]
  simpa using List.pairwise_iff_getElem.1 hs j (j + 1) (by omega) hj' (by omega)
theorem flatI (l : List Int) : l.flatMap encI = l.map (Value.int .i64) := by induction l <;> simp_all [List.flatMap_cons]
section
variable {w : World} {g base cap : Nat} {e : TypeId}
/-- Behind the sort the same slice owns the sorted numbers. -/
theorem owns_sorted {l : List Int} (h : Owns w base e 1 encI (.slice (some ⟨g, 0, none⟩) l.length cap) l) :
    Holds (Value.int .i64) w g 0 l.toArray ∧ g < w.heap.size ∧ base ≤ g ∧ ∀ n os, Owns (grow (putRow (Value.int .i64) (Sort.ahead w n) g 0 (sortL l).toArray) os) base e 1 encI (.slice (some ⟨g, 0, none⟩) l.length cap) (sortL l) ∧ w.grownBy (grow (putRow (Value.int .i64) (Sort.ahead w n) g 0 (sortL l).toArray) os) (some g) := by
  unfold Owns at *
  rw [flatI] at h
  rcases h.2 with ⟨h0, -⟩ | ⟨g', cap', cur, hv, hbase, hb, h1, h2, h3, h4⟩
  · cases h0
  · cases hv
    refine ⟨holds_of_blockI hb (by simpa using h4), (Array.getElem?_eq_some_iff.1 hb).1, hbase, fun n os => ⟨?_, grownBy_sortedI _⟩⟩
    rw [flatI, sortL_len]
    exact ownsRow_sortedI (sortL_len l) hbase hb h1 h2 h3
theorem owns_compact {l : List Int} (h : Owns w base e 1 encI (.slice (some ⟨g, 0, none⟩) l.length cap) l) :
    Holds (Value.int .i64) w g 0 l.toArray ∧ l.length ≤ 9223372036854775807 ∧ l.length ≤ cap ∧ ∀ n, Owns (putRow (Value.int .i64) (Sort.ahead w n) g 0 (Lib.compact l ++ List.replicate (l.length - (Lib.compact l).length) 0).toArray) base e 1 encI (.slice (some ⟨g, 0, none⟩) (Lib.compact l).length cap) (Lib.compact l) ∧
      w.grownBy (putRow (Value.int .i64) (Sort.ahead w n) g 0 (Lib.compact l ++ List.replicate (l.length - (Lib.compact l).length) 0).toArray) (some g) := by
  have hc := compact_len l
  unfold Owns at *
  rw [flatI] at h
  rcases h.2 with ⟨h0, -⟩ | ⟨g', cap', cur, hv, hbase, hb, h1, h2, h3, h4⟩
  · cases h0
  · cases hv
    refine ⟨holds_of_blockI hb (by simpa using h4), by simp only [maxLen] at h2; omega, h1, fun n => ⟨?_, ?_⟩⟩
    · have hl : (Lib.compact l ++ List.replicate (l.length - (Lib.compact l).length) 0).length = l.length := by simp; omega
      have := ownsRow_sortedI (n := n) (os := #[]) hl hbase hb h1 h2 h3
      rw [grow_empty] at this
      rcases this.2 with ⟨h0, -⟩ | ⟨g5, cap5, cur5, hv5, hbase5, hb5, h15, h25, h35, h45⟩
      · cases h0
      · cases hv5
        rw [flatI]
        refine ⟨by simp, .inr ⟨_, _, cur5, rfl, hbase5, hb5, by omega, h25, h35, ?_⟩⟩
        have h6 := congrArg (List.take (Lib.compact l).length) h45
        rw [List.take_take, List.map_append] at h6
        rw [Nat.mul_one]
        rw [show min (Lib.compact l).length (l.length * 1) = (Lib.compact l).length by omega] at h6
        rw [h6, List.take_append_of_le_length (by simp), List.take_of_length_le (by simp)]
    · have := grownBy_sortedI (w := w) (g := g) (n := n) (os := #[]) (Lib.compact l ++ List.replicate (l.length - (Lib.compact l).length) 0).toArray
      rwa [grow_empty] at this
end
end Go.Proofs.Ytmkmaoodeebmfaa
