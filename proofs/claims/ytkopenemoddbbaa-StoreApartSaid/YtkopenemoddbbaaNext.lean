/- A counter's next number; a cell that is read lies in the heap. -/
import Derived.Test.YtkopenemoddbbaaBase
namespace Go.Proofs.Ytkopenemoddbbaa
open Go.RowKit

theorem cell_lt {w : World} {p : Addr} {v : Value} (h : w.cell? p = some v) : p.block < w.heap.size := by
  unfold World.cell? at h
  cases hh : w.heap[p.block]? with
  | none => simp [hh] at h
  | some b => exact (Array.getElem?_eq_some_iff.1 hh).1
theorem cell_spot {w : World} {p : Addr} {v : Value} (h : w.cell? p = some v) : p.spot = none := by
  unfold World.cell? at h
  cases hs : p.spot with
  | none => rfl
  | some k => cases hh : w.heap[p.block]? <;> simp [hh, hs] at h; split at h <;> simp at h
theorem cell_below {w w' : World} {B : Nat} {p : Addr} (hb : Below B w w') (h : p.block < B) : w'.cell? p = w.cell? p := by
  unfold World.cell?
  rw [hb.block p.block h]
/-! A counter's next number. -/
theorem next64 {n cap k : Nat} (hc : n ≤ cap) (hm : cap ≤ maxLen) (hlt : k < n) : wrap64 ((k : Int) + 1) = k + 1 := by
  have h1 := Nat.le_trans hc hm
  have h2 : maxLen ≤ 9223372036854775807 := by decide
  have h3 := Nat.le_trans h1 h2
  clear hc hm h1 h2
  exact IntWalk.wrap64_in _ (by omega)
theorem next_val {k : Nat} (h : wrap64 ((k : Int) + 1) = k + 1) : Value.int .i64 (wrap64 ((k : Int) + 1)) = .int .i64 ((k + 1 : Nat) : Int) := by rw [h]; rfl
theorem next_less {n k : Nat} (hlt : k < n) (h : wrap64 ((k : Int) + 1) = k + 1) : n - (intOf (.int .i64 (wrap64 ((k : Int) + 1)))).toNat < n - (intOf (.int .i64 k)).toNat := by
  rw [h]; clear h
  show n - ((k : Int) + 1).toNat < n - (k : Int).toNat
  omega
theorem next_less' {n k : Nat} (hlt : k < n) : n - (intOf (.int .i64 ((k : Int) + 1))).toNat < n - (intOf (.int .i64 k)).toNat := by
  show n - ((k : Int) + 1).toNat < n - (k : Int).toNat
  omega
end Go.Proofs.Ytkopenemoddbbaa
