/- How far a box goes: plain. No program in sight. -/
import Derived.Test.YtckjpiioipkfcaaMeet4
import Derived.Test.YtckjpiioipkfcaaFix3
namespace Go.Proofs.Ytckjpiioipkfcaa
open Go.RowKit

theorem ofI_id {k : Int} (h1 : -2147483648 ≤ k) (h2 : k ≤ 2147483648) : ofI k = k * 65536 := by unfold ofI; omega
/-- The layers that lie ahead, the nearest first: each with the way to it. -/
def layU (top d : Int) : List (Int × Int) := (List.range ((top + d + 65535) / 65536 - (top + 65535) / 65536).toNat).map fun i : Nat => ((top + 65535) / 65536 + (i : Int), ((top + 65535) / 65536 + (i : Int)) * 65536 - top)
def layD (low d : Int) : List (Int × Int) := (List.range (low / 65536 - (low + d) / 65536).toNat).map fun i : Nat => (low / 65536 - 1 - (i : Int), (low / 65536 - (i : Int)) * 65536 - low)
def lays (low top d : Int) : List (Int × Int) := if 0 < d then layU top d else layD low d
/-- The nearest layer that stops it. -/
def axV (blk : Int → Bool) (low top d : Int) : Int × Bool := match (lays low top d).find? (fun kw => blk kw.1) with
  | some kw => (kw.2, true)
  | none => (d, false)
/-- Is the layer blocked? -/
def lyB (val : Cl → Int) (a b c d e f axis k : Int) : Bool :=
  (cellsI (wiI a axis 0 (k * 65536)) (wiI b axis 1 (k * 65536)) (wiI c axis 2 (k * 65536)) (wiI d axis 0 (k * 65536 + 65536)) (wiI e axis 1 (k * 65536 + 65536)) (wiI f axis 2 (k * 65536 + 65536))).any fun x => solB (val x)
def farI (d : Int) : Int := min (max d (-4194304)) 4194304
def axisV (val : Cl → Int) (a b c d e f axis dd : Int) : Int × Bool :=
  if axis < 0 ∨ 3 ≤ axis then (0, false) else axV (lyB val a b c d e f axis) (axI a b c axis) (axI d e f axis) (farI dd)
/-- A small box, not far from 0. -/
structure Sm (M a b c d e f : Int) : Prop where
  a1 : -M ≤ a
  b1 : -M ≤ b
  c1 : -M ≤ c
  a2 : a ≤ M
  b2 : b ≤ M
  c2 : c ≤ M
  ad : a ≤ d
  be : b ≤ e
  cf : c ≤ f
  da : d ≤ a + 200000
  eb : e ≤ b + 200000
  fc : f ≤ c + 200000
theorem Sm.box {M a b c d e f : Int} (h : Sm M a b c d e f) (hM : M ≤ 100000000000000) : BoxOk a b c d e f := by
  obtain ⟨h1, h2, h3, h4, h5, h6, h7, h8, h9, h10, h11, h12⟩ := h
  exact ⟨by omega, by omega, by omega, by omega, by omega, by omega, by omega, by omega, by omega⟩
theorem Sm.cells {M a b c d e f : Int} (h : Sm M a b c d e f) : (cellsI a b c d e f).length ≤ 1000000 := cells_len h.ad h.da h.be h.eb h.cf h.fc
theorem wi_c {x axis i n : Int} (h1 : -140737488355328 ≤ n) (h2 : n ≤ 140737488355328) : wiI x axis i n = if i = axis then n else x := by unfold wiI; rw [cutI_id h1 h2]
theorem Sm.layer {M a b c d e f axis k : Int} (h : Sm M a b c d e f) (hM : M ≤ 1000000000000) (h1 : -(M + 10000000) ≤ k * 65536) (h2 : k * 65536 ≤ M + 10000000) :
    Sm (M + 10000000) (wiI a axis 0 (k * 65536)) (wiI b axis 1 (k * 65536)) (wiI c axis 2 (k * 65536)) (wiI d axis 0 (k * 65536 + 65536)) (wiI e axis 1 (k * 65536 + 65536)) (wiI f axis 2 (k * 65536 + 65536)) := by
  obtain ⟨h3, h4, h5, h6, h7, h8, h9, h10, h11, h12, h13, h14⟩ := h
  rw [wi_c (by omega) (by omega), wi_c (by omega) (by omega), wi_c (by omega) (by omega), wi_c (by omega) (by omega), wi_c (by omega) (by omega), wi_c (by omega) (by omega)]
  constructor <;> split <;> omega
theorem axI_sm {M a b c d e f axis : Int} (h : Sm M a b c d e f) (h0 : 0 ≤ M) : -M ≤ axI a b c axis ∧ axI a b c axis ≤ axI d e f axis ∧ axI d e f axis ≤ M + 200000 := by
  obtain ⟨h3, h4, h5, h6, h7, h8, h9, h10, h11, h12, h13, h14⟩ := h
  unfold axI
  refine ⟨?_, ?_, ?_⟩ <;> (split; omega; split; omega; split; omega; omega)
theorem mem_lays {low top d k w : Int} (h : (k, w) ∈ lays low top d) :
    (0 < d ∧ w = k * 65536 - top ∧ 0 ≤ w ∧ w < d) ∨ (d < 0 ∧ w = (k + 1) * 65536 - low ∧ w ≤ 0 ∧ d < w) := by
  unfold lays at h
  split at h
  · left
    unfold layU at h
    obtain ⟨i, hi, e⟩ := List.mem_map.1 h
    rw [List.mem_range] at hi
    injection e with e1 e2
    refine ⟨by assumption, by omega, by omega, by omega⟩
  · right
    unfold layD at h
    obtain ⟨i, hi, e⟩ := List.mem_map.1 h
    rw [List.mem_range] at hi
    injection e with e1 e2
    refine ⟨by omega, by omega, by omega, by omega⟩
theorem farI_bd (d : Int) : -4194304 ≤ farI d ∧ farI d ≤ 4194304 := by unfold farI; omega
theorem axV_bd {blk : Int → Bool} {low top d : Int} : (0 ≤ d → 0 ≤ (axV blk low top d).1 ∧ (axV blk low top d).1 ≤ d) ∧ (d ≤ 0 → d ≤ (axV blk low top d).1 ∧ (axV blk low top d).1 ≤ 0) := by
  unfold axV
  split
  · rename_i kw h
    have := mem_lays (k := kw.1) (w := kw.2) (List.mem_of_find?_eq_some h)
    dsimp only
    omega
  · dsimp only; omega
theorem layU_len (top d : Int) : (layU top d).length = ((top + d + 65535) / 65536 - (top + 65535) / 65536).toNat := by simp [layU]
theorem layD_len (low d : Int) : (layD low d).length = (low / 65536 - (low + d) / 65536).toNat := by simp [layD]
theorem layU_at {top d : Int} {i : Nat} (h : i < (layU top d).length) : (layU top d)[i]? = some ((top + 65535) / 65536 + (i : Int), ((top + 65535) / 65536 + (i : Int)) * 65536 - top) := by
  rw [layU_len] at h; simp [layU, h]
theorem layD_at {low d : Int} {i : Nat} (h : i < (layD low d).length) : (layD low d)[i]? = some (low / 65536 - 1 - (i : Int), (low / 65536 - (i : Int)) * 65536 - low) := by
  rw [layD_len] at h; simp [layD, h]
end Go.Proofs.Ytckjpiioipkfcaa
