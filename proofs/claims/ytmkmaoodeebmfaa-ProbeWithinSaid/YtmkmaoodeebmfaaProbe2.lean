/- A small world: what it tells of a cell. -/
import Derived.Test.YtmkmaoodeebmfaaProbe1
namespace Go.Proofs.Ytmkmaoodeebmfaa
open Go.RowKit

/-- What a slice of ints reads. -/
def Iq (w : World) (q : Option Addr) (n : Nat) (F : Nat → Int) : Prop := 0 < n → ∃ g o, q = some ⟨g, o, none⟩ ∧ ∀ i, i < n → w.cell? ⟨g, o + i, none⟩ = some (.int .i64 (F i))
theorem Iq.on {w w' : World} {q : Option Addr} {n : Nat} {F : Nat → Int} (h : Iq w q n F) (hb : Below w.heap.size w w') : Iq w' q n F := fun hn => by
  obtain ⟨g, o, e, h1⟩ := h hn
  exact ⟨g, o, e, fun i hi => by rw [cell_below hb (cell_lt (h1 i hi))]; exact h1 i hi⟩
/-- What a small world of n blocks, and of one for all else, tells of a cell. -/
def atG (n : Nat) (F : Nat → Int) (els x y z : Int) : Int :=
  if y < 0 then 1 else if 0 ≤ x ∧ x < 6 ∧ y < 6 ∧ 0 ≤ z ∧ z < 6 then (if (y * 6 + z) * 6 + x < n then F ((y * 6 + z) * 6 + x).toNat else 0) else els
set_option maxRecDepth 100000 in
set_option maxHeartbeats 2000000 in
theorem at_c (q : Option Addr) (n c : Nat) (F : Nat → Int) (els x y z : Int) (w : World) (hq : Iq w q n F) :
    Calls Try.prog 36 #[.agg #[.slice q n c, .int .i64 els], .agg #[.int .i64 x, .int .i64 y, .int .i64 z]] w fun r w' => r = .returned (.int .i64 (atG n F els x y z)) ∧ Below w.heap.size w w' := by
  obtain ⟨W, hW⟩ : ∃ W, W = (w.alloc (.cells #[.slice q n c, .int .i64 els] 24)).alloc (.cells #[.int .i64 x, .int .i64 y, .int .i64 z] 40) := ⟨_, rfl⟩
  have H : Below w.heap.size w W := by rw [hW]; go_grown
  have A : Blk W w.heap.size 24 #[.slice q n c, .int .i64 els] := by rw [hW]; exact (Blk.new' rfl).alloc _
  have B : Blk W (w.heap.size + 1) 40 #[.int .i64 x, .int .i64 y, .int .i64 z] := by rw [hW]; exact Blk.new' (by simp)
  have a0 := A.cell 0
  have a1 := A.cell 1
  obtain ⟨b0, b1, b2, -, -, -⟩ := B.c3
  replace hq := hq.on H
  go_enter Try.func36, Try.ntmps36
  go_upto_region 1 with (fail)
  rw [← hW]
  clear hW A B
  generalize hv : w.heap.size = nw at a0 a1 b0 b1 b2 ⊢
  by_cases hy : y < 0
  · go_wp2_with fail
    go_returns
    exact ⟨ret_i (by unfold atG; rw [if_pos (by omega)]), by first | exact H | (rw [← hv]; exact H)⟩
  have hy' : 0 ≤ y := by omega
  by_cases hx : 0 ≤ x
  · by_cases hx6 : x < 6
    · by_cases hy6 : y < 6
      · by_cases hz : 0 ≤ z
        · by_cases hz6 : z < 6
          · obtain ⟨k, hk⟩ : ∃ k : Nat, (y * 6 + z) * 6 + x = k := ⟨((y * 6 + z) * 6 + x).toNat, by omega⟩
            have hG : atG n F els x y z = if k < n then F k else 0 := by
              unfold atG
              rw [if_neg (by omega), if_pos ⟨hx, hx6, hy6, hz, hz6⟩, hk]
              by_cases h : k < n <;> simp [h]
            replace hG : Hid (atG n F els x y z = if k < n then F k else 0) := hG
            by_cases hkn : k < n
            · obtain ⟨g, o, rfl, hI⟩ := hq (by omega)
              have hc := hI k hkn
              have hkn' : (k : Int) < n := by omega
              have hk0 : (0 : Int) ≤ k := by omega
              go_wp2_with fail
              go_returns
              exact ⟨ret_i (by rw [hG.out, if_pos hkn]), by first | exact H | (rw [← hv]; exact H)⟩
            · have hkn' : ¬ (k : Int) < n := by omega
              go_wp2_with fail
              go_returns
              exact ⟨ret_i (by rw [hG.out, if_neg hkn]), by first | exact H | (rw [← hv]; exact H)⟩
          · go_wp2_with fail
            go_returns
            exact ⟨ret_i (by unfold atG; rw [if_neg (by omega), if_neg (by omega)]), by first | exact H | (rw [← hv]; exact H)⟩
        · go_wp2_with fail
          go_returns
          exact ⟨ret_i (by unfold atG; rw [if_neg (by omega), if_neg (by omega)]), by first | exact H | (rw [← hv]; exact H)⟩
      · go_wp2_with fail
        go_returns
        exact ⟨ret_i (by unfold atG; rw [if_neg (by omega), if_neg (by omega)]), by first | exact H | (rw [← hv]; exact H)⟩
    · go_wp2_with fail
      go_returns
      exact ⟨ret_i (by unfold atG; rw [if_neg (by omega), if_neg (by omega)]), by first | exact H | (rw [← hv]; exact H)⟩
  · go_wp2_with fail
    go_returns
    exact ⟨ret_i (by unfold atG; rw [if_neg (by omega), if_neg (by omega)]), by first | exact H | (rw [← hv]; exact H)⟩
end Go.Proofs.Ytmkmaoodeebmfaa
