/- Texts that build one behind the other, laid together: Meet4 SwP SwP3 Free SwP5 Free2 Lay1 Lay2 Meet2 Mov Alo Mv1 Hit1 BodP Bod1 BodP2 BodQ CrwP Opn CrwR Crw1 Bod5 Bod6 Bod7 Went. -/
import Derived.Test.YtmbccnioijokfaaGreatDoorMa4
import Derived.Test.YtmbccnioijokfaaGreatDoorMa3
import Derived.Test.YtmbccnioijokfaaGreatDoorMa2
import Derived.Test.YtmbccnioijokfaaGreatDoorMa1
import Derived.Deep.Cut
import Derived.Deep.Slices
namespace Go.Proofs.YtmbccnioijokfaaGreatDoor
open Go.RowKit Go.Shelf
attribute [local go_sem] Oper.semAt_some
theorem ax_len {n m : Int} (h : n ≤ m) (h2 : m ≤ n + 1000000) : (topI n m + 1 - lowI n).toNat ≤ 18 := by
  unfold topI lowI cutI
  split <;> omega
theorem cells_len {a b c d e f : Int} (h1 : a ≤ d) (h2 : d ≤ a + 1000000) (h3 : b ≤ e) (h4 : e ≤ b + 1000000) (h5 : c ≤ f) (h6 : f ≤ c + 1000000) : (cellsI a b c d e f).length ≤ 1000000 := by
  unfold cellsI
  split
  · rw [boxL_length]
    have := Nat.mul_le_mul (ax_len h3 h4) (Nat.mul_le_mul (ax_len h5 h6) (ax_len h1 h2))
    omega
  · simp
end Go.Proofs.YtmbccnioijokfaaGreatDoor

namespace Go.Proofs.YtmbccnioijokfaaGreatDoor
open Go.RowKit
theorem ofI_id {k : Int} (h1 : -2147483648 ≤ k) (h2 : k ≤ 2147483648) : ofI k = k * 65536 := by unfold ofI; omega
def layU (top d : Int) : List (Int × Int) := (List.range ((top + d + 65535) / 65536 - (top + 65535) / 65536).toNat).map fun i : Nat => ((top + 65535) / 65536 + (i : Int), ((top + 65535) / 65536 + (i : Int)) * 65536 - top)
def layD (low d : Int) : List (Int × Int) := (List.range (low / 65536 - (low + d) / 65536).toNat).map fun i : Nat => (low / 65536 - 1 - (i : Int), (low / 65536 - (i : Int)) * 65536 - low)
def lays (low top d : Int) : List (Int × Int) := if 0 < d then layU top d else layD low d
def axV (blk : Int → Bool) (low top d : Int) : Int × Bool := match (lays low top d).find? (fun kw => blk kw.1) with
  | some kw => (kw.2, true)
  | none => (d, false)
def lyB (val : Cl → Int) (a b c d e f axis k : Int) : Bool :=
  (cellsI (wiI a axis 0 (k * 65536)) (wiI b axis 1 (k * 65536)) (wiI c axis 2 (k * 65536)) (wiI d axis 0 (k * 65536 + 65536)) (wiI e axis 1 (k * 65536 + 65536)) (wiI f axis 2 (k * 65536 + 65536))).any fun x => solB (val x)
def farI (d : Int) : Int := min (max d (-4194304)) 4194304
def axisV (val : Cl → Int) (a b c d e f axis dd : Int) : Int × Bool :=
  if axis < 0 ∨ 3 ≤ axis then (0, false) else axV (lyB val a b c d e f axis) (axI a b c axis) (axI d e f axis) (farI dd)
structure Sm (M a b c d e f : Int) : Prop where
  a1 : -M ≤ a
  b1 : -M ≤ b
  c1 : -M ≤ c
  a2 : a ≤ M
  b2 : b ≤ M
  c2 : c ≤ M
  ad : a ≤ d
  be : b ≤ e
  cf : c ≤ f
  da : d ≤ a + 1000000
  eb : e ≤ b + 1000000
  fc : f ≤ c + 1000000
theorem Sm.box {M a b c d e f : Int} (h : Sm M a b c d e f) (hM : M ≤ 100000000000000) : BoxOk a b c d e f := by
  obtain ⟨h1, h2, h3, h4, h5, h6, h7, h8, h9, h10, h11, h12⟩ := h
  exact ⟨by omega, by omega, by omega, by omega, by omega, by omega, by omega, by omega, by omega⟩
theorem Sm.cells {M a b c d e f : Int} (h : Sm M a b c d e f) : (cellsI a b c d e f).length ≤ 1000000 := cells_len h.ad h.da h.be h.eb h.cf h.fc
theorem wi_c {x axis i n : Int} (h1 : -140737488355328 ≤ n) (h2 : n ≤ 140737488355328) : wiI x axis i n = if i = axis then n else x := by unfold wiI; rw [cutI_id h1 h2]
theorem Sm.layer {M a b c d e f axis k : Int} (h : Sm M a b c d e f) (hM : M ≤ 73000000000000) (h1 : -(M + 10000000) ≤ k * 65536) (h2 : k * 65536 ≤ M + 10000000) :
    Sm (M + 10000000) (wiI a axis 0 (k * 65536)) (wiI b axis 1 (k * 65536)) (wiI c axis 2 (k * 65536)) (wiI d axis 0 (k * 65536 + 65536)) (wiI e axis 1 (k * 65536 + 65536)) (wiI f axis 2 (k * 65536 + 65536)) := by
  obtain ⟨h3, h4, h5, h6, h7, h8, h9, h10, h11, h12, h13, h14⟩ := h
  rw [wi_c (by omega) (by omega), wi_c (by omega) (by omega), wi_c (by omega) (by omega), wi_c (by omega) (by omega), wi_c (by omega) (by omega), wi_c (by omega) (by omega)]
  constructor <;> split <;> omega
theorem axI_sm {M a b c d e f axis : Int} (h : Sm M a b c d e f) (h0 : 0 ≤ M) : -M ≤ axI a b c axis ∧ axI a b c axis ≤ axI d e f axis ∧ axI d e f axis ≤ M + 1000000 := by
  obtain ⟨h3, h4, h5, h6, h7, h8, h9, h10, h11, h12, h13, h14⟩ := h
  unfold axI
  refine ⟨?_, ?_, ?_⟩ <;> (split; omega; split; omega; split; omega; omega)
theorem mem_lays {low top d k w : Int} (h : (k, w) ∈ lays low top d) :
    (0 < d ∧ w = k * 65536 - top ∧ 0 ≤ w ∧ w < d) ∨ (d < 0 ∧ w = (k + 1) * 65536 - low ∧ w ≤ 0 ∧ d < w) := by
  unfold lays at h
  split at h
  · left
    unfold layU at h
    obtain ⟨i, hi, e⟩ := List.mem_map.1 h
    rw [List.mem_range] at hi
    injection e with e1 e2
    refine ⟨by assumption, by omega, by omega, by omega⟩
  · right
    unfold layD at h
    obtain ⟨i, hi, e⟩ := List.mem_map.1 h
    rw [List.mem_range] at hi
    injection e with e1 e2
    refine ⟨by omega, by omega, by omega, by omega⟩
theorem farI_bd (d : Int) : -4194304 ≤ farI d ∧ farI d ≤ 4194304 := by unfold farI; omega
theorem axV_bd {blk : Int → Bool} {low top d : Int} : (0 ≤ d → 0 ≤ (axV blk low top d).1 ∧ (axV blk low top d).1 ≤ d) ∧ (d ≤ 0 → d ≤ (axV blk low top d).1 ∧ (axV blk low top d).1 ≤ 0) := by
  unfold axV
  split
  · rename_i kw h
    have := mem_lays (k := kw.1) (w := kw.2) (List.mem_of_find?_eq_some h)
    dsimp only
    omega
  · dsimp only; omega
theorem layU_len (top d : Int) : (layU top d).length = ((top + d + 65535) / 65536 - (top + 65535) / 65536).toNat := by simp [layU]
theorem layD_len (low d : Int) : (layD low d).length = (low / 65536 - (low + d) / 65536).toNat := by simp [layD]
theorem layU_at {top d : Int} {i : Nat} (h : i < (layU top d).length) : (layU top d)[i]? = some ((top + 65535) / 65536 + (i : Int), ((top + 65535) / 65536 + (i : Int)) * 65536 - top) := by
  rw [layU_len] at h; simp [layU, h]
theorem layD_at {low d : Int} {i : Nat} (h : i < (layD low d).length) : (layD low d)[i]? = some (low / 65536 - 1 - (i : Int), (low / 65536 - (i : Int)) * 65536 - low) := by
  rw [layD_len] at h; simp [layD, h]
end Go.Proofs.YtmbccnioijokfaaGreatDoor

namespace Go.Proofs.YtmbccnioijokfaaGreatDoor
open Go.RowKit
abbrev B6 := Int × Int × Int × Int × Int × Int
abbrev ag6 (x : B6) : Array Value := #[.int .i64 x.1, .int .i64 x.2.1, .int .i64 x.2.2.1, .int .i64 x.2.2.2.1, .int .i64 x.2.2.2.2.1, .int .i64 x.2.2.2.2.2]
def Sm6 (M : Int) (x : B6) : Prop := Sm M x.1 x.2.1 x.2.2.1 x.2.2.2.1 x.2.2.2.2.1 x.2.2.2.2.2
def ax6 (val : Cl → Int) (x : B6) (axis dd : Int) : Int × Bool := axisV val x.1 x.2.1 x.2.2.1 x.2.2.2.1 x.2.2.2.2.1 x.2.2.2.2.2 axis dd
def mv6 (x : B6) (axis n : Int) : B6 :=
  (addI x.1 (wiI 0 axis 0 n), addI x.2.1 (wiI 0 axis 1 n), addI x.2.2.1 (wiI 0 axis 2 n), addI x.2.2.2.1 (wiI 0 axis 0 n), addI x.2.2.2.2.1 (wiI 0 axis 1 n), addI x.2.2.2.2.2 (wiI 0 axis 2 n))
def al6 (val : Cl → Int) (x : B6) (axis dd : Int) : B6 × Bool := (mv6 x axis (ax6 val x axis dd).1, (ax6 val x axis dd).2)
theorem axisV_far (val : Cl → Int) (a b c d e f axis dd : Int) : -4194304 ≤ (axisV val a b c d e f axis dd).1 ∧ (axisV val a b c d e f axis dd).1 ≤ 4194304 := by
  unfold axisV
  split
  · simp
  · obtain ⟨h1, h2⟩ := farI_bd dd
    obtain ⟨h3, h4⟩ := axV_bd (blk := lyB val a b c d e f axis) (low := axI a b c axis) (top := axI d e f axis) (d := farI dd)
    omega
theorem addI_in {a b : Int} (h1 : -100000000000000 ≤ a) (h2 : a ≤ 100000000000000) (h3 : -10000000 ≤ b) (h4 : b ≤ 10000000) : addI a b = a + b := by
  unfold addI cutI; omega
theorem wi0 {axis i n : Int} (h1 : -10000000 ≤ n) (h2 : n ≤ 10000000) : wiI 0 axis i n = if i = axis then n else 0 := wi_c (by omega) (by omega)
theorem mv6_sm {M : Int} {x : B6} (h : Sm6 M x) (hM0 : 0 ≤ M) (hM : M ≤ 74000000000000) {axis n : Int} (h1 : -10000000 ≤ n) (h2 : n ≤ 10000000) : Sm6 (M + 10000000) (mv6 x axis n) := by
  obtain ⟨h3, h4, h5, h6, h7, h8, h9, h10, h11, h12, h13, h14⟩ := h
  unfold Sm6 mv6
  rw [wi0 h1 h2, wi0 h1 h2, wi0 h1 h2]
  dsimp only
  have q : ∀ i : Int, -10000000 ≤ (if i = axis then n else 0) ∧ (if i = axis then n else 0) ≤ 10000000 := fun i => by split <;> omega
  have q0 := q 0
  have q1 := q 1
  have q2 := q 2
  generalize (if (0 : Int) = axis then n else 0) = n0 at q0 ⊢
  generalize (if (1 : Int) = axis then n else 0) = n1 at q1 ⊢
  generalize (if (2 : Int) = axis then n else 0) = n2 at q2 ⊢
  rw [addI_in (by omega) (by omega) q0.1 q0.2, addI_in (by omega) (by omega) q1.1 q1.2, addI_in (by omega) (by omega) q2.1 q2.2, addI_in (by omega) (by omega) q0.1 q0.2, addI_in (by omega) (by omega) q1.1 q1.2, addI_in (by omega) (by omega) q2.1 q2.2]
  constructor <;> omega
theorem al6_sm {M : Int} {x : B6} (h : Sm6 M x) (hM0 : 0 ≤ M) (hM : M ≤ 74000000000000) (val : Cl → Int) (axis dd : Int) : Sm6 (M + 10000000) (al6 val x axis dd).1 := by
  obtain ⟨h1, h2⟩ := axisV_far val x.1 x.2.1 x.2.2.1 x.2.2.2.1 x.2.2.2.2.1 x.2.2.2.2.2 axis dd
  exact mv6_sm h hM0 hM (n := (ax6 val x axis dd).1) (by unfold ax6; omega) (by unfold ax6; omega)
def st1 (val : Cl → Int) (x : B6) (dy : Int) : B6 := (al6 val x 1 dy).1
def st2 (val : Cl → Int) (x : B6) (dx dy : Int) : B6 := (al6 val (st1 val x dy) 0 dx).1
def st3 (val : Cl → Int) (x : B6) (dx dy dz : Int) : B6 := (al6 val (st2 val x dx dy) 2 dz).1
def hy1 (val : Cl → Int) (x : B6) (dy : Int) : Bool := (al6 val x 1 dy).2
def hx2 (val : Cl → Int) (x : B6) (dx dy : Int) : Bool := (al6 val (st1 val x dy) 0 dx).2
def hz3 (val : Cl → Int) (x : B6) (dx dy dz : Int) : Bool := (al6 val (st2 val x dx dy) 2 dz).2
def moveT (val : Cl → Int) (x : B6) (dx dy dz : Int) : Value := .tuple #[.agg (ag6 (st3 val x dx dy dz)), .agg #[.bool (hx2 val x dx dy), .bool (hy1 val x dy), .bool (hz3 val x dx dy dz)]]
end Go.Proofs.YtmbccnioijokfaaGreatDoor

namespace Go.Proofs.YtmbccnioijokfaaGreatDoor
def blk6 (val : Cl → Int) (x : B6) : Bool := (cellsI x.1 x.2.1 x.2.2.1 x.2.2.2.1 x.2.2.2.2.1 x.2.2.2.2.2).any fun c => solB (val c)
end Go.Proofs.YtmbccnioijokfaaGreatDoor

namespace Go.Proofs.YtmbccnioijokfaaGreatDoor
def unB (val : Cl → Int) (x : B6) : Bool := (cellsI x.1 (cutI (x.2.1 - 1)) x.2.2.1 x.2.2.2.1 x.2.1 x.2.2.2.2.2).any fun c => solB (val c)
def wentI (x y : B6) : Int := mxI (y.1 - x.1) (x.1 - y.1) + mxI (y.2.2.1 - x.2.2.1) (x.2.2.1 - y.2.2.1)
section
variable (val : Cl → Int) (x : B6) (dx dy dz up : Int)
def hi1 : B6 × Bool := al6 val x 1 (mnI up 65536)
def rise : Int := (hi1 val x up).1.2.1 - x.2.1
def oA : B6 × Bool := al6 val (hi1 val x up).1 0 dx
def oB : B6 × Bool := al6 val (oA val x dx up).1 2 dz
def oC : B6 × Bool := al6 val (oB val x dx dz up).1 1 (-rise val x up)
abbrev ah3 (h : Bool × Bool × Bool) : Array Value := #[.bool h.1, .bool h.2.1, .bool h.2.2]
abbrev bhT (p : B6 × Bool × Bool × Bool) : Value := .tuple #[.agg (ag6 p.1), .agg (ah3 p.2)]
def stepOf (y c : B6) (u0 u1 u2 sa sb st : Bool) (up n1 n2 : Int) : B6 × Bool × Bool × Bool :=
  if ((u0 || u2) && decide (0 < up) && st && decide (n2 < n1)) = true then (c, sa, true, sb) else (y, u0, u1, u2)
def stepV : B6 × Bool × Bool × Bool :=
  stepOf (st3 val x dx dy dz) (oC val x dx dz up).1 (hx2 val x dx dy) (hy1 val x dy) (hz3 val x dx dy dz) (oA val x dx up).2 (oB val x dx dz up).2 (unB val x) up (wentI x (oC val x dx dz up).1) (wentI x (st3 val x dx dy dz))
variable {val x dx dy dz up}
theorem stepOf_no {y c : B6} {u0 u1 u2 sa sb st : Bool} {up n1 n2 : Int} (h : (u0 = false ∧ u2 = false) ∨ up ≤ 0 ∨ st = false ∨ n1 ≤ n2) : stepOf y c u0 u1 u2 sa sb st up n1 n2 = (y, u0, u1, u2) := by
  unfold stepOf
  refine if_neg fun e => ?_
  simp only [Bool.and_eq_true, Bool.or_eq_true, decide_eq_true_eq] at e
  obtain ⟨⟨⟨e1, e2⟩, e3⟩, e4⟩ := e
  rcases h with ⟨rfl, rfl⟩ | h | rfl | h
  · simp at e1
  · omega
  · cases e3
  · omega
theorem stepOf_yes {y c : B6} {u0 u1 u2 sa sb : Bool} {up n1 n2 : Int} (h : u0 = true ∨ u2 = true) (h1 : 0 < up) (h2 : n2 < n1) : stepOf y c u0 u1 u2 sa sb true up n1 n2 = (c, sa, true, sb) := by
  unfold stepOf
  refine if_pos ?_
  simp only [Bool.and_eq_true, Bool.or_eq_true, decide_eq_true_eq]
  exact ⟨⟨⟨h, h1⟩, trivial⟩, h2⟩
theorem hi1_sm {M : Int} (h : Sm6 M x) (hM0 : 0 ≤ M) (hM : M ≤ 73000000000000) : Sm6 (M + 10000000) (hi1 val x up).1 := al6_sm h hM0 (by omega) val 1 _
theorem oA_sm {M : Int} (h : Sm6 M x) (hM0 : 0 ≤ M) (hM : M ≤ 73000000000000) : Sm6 (M + 20000000) (oA val x dx up).1 := by
  have := al6_sm (hi1_sm (val := val) (up := up) h hM0 hM) (by omega) (by omega) val 0 dx
  rwa [show M + 10000000 + 10000000 = M + 20000000 by omega] at this
theorem oB_sm {M : Int} (h : Sm6 M x) (hM0 : 0 ≤ M) (hM : M ≤ 73000000000000) : Sm6 (M + 30000000) (oB val x dx dz up).1 := by
  have := al6_sm (oA_sm (val := val) (up := up) (dx := dx) h hM0 hM) (by omega) (by omega) val 2 dz
  rwa [show M + 20000000 + 10000000 = M + 30000000 by omega] at this
theorem oC_sm {M : Int} (h : Sm6 M x) (hM0 : 0 ≤ M) (hM : M ≤ 73000000000000) : Sm6 (M + 40000000) (oC val x dx dz up).1 := by
  have := al6_sm (oB_sm (val := val) (up := up) (dx := dx) (dz := dz) h hM0 hM) (by omega) (by omega) val 1 (-rise val x up)
  rwa [show M + 30000000 + 10000000 = M + 40000000 by omega] at this
theorem st3_sm {M : Int} (h : Sm6 M x) (hM0 : 0 ≤ M) (hM : M ≤ 73000000000000) : Sm6 (M + 30000000) (st3 val x dx dy dz) := by
  have s1 := al6_sm h hM0 (by omega) val 1 dy
  have s2 := al6_sm (x := st1 val x dy) s1 (by omega) (by omega) val 0 dx
  have s3 := al6_sm (x := st2 val x dx dy) s2 (by omega) (by omega) val 2 dz
  rwa [show M + 10000000 + 10000000 + 10000000 = M + 30000000 by omega] at s3
theorem Sm6.bd {M : Int} (h : Sm6 M x) : (-M ≤ x.1 ∧ x.1 ≤ M) ∧ (-M ≤ x.2.1 ∧ x.2.1 ≤ M) ∧ (-M ≤ x.2.2.1 ∧ x.2.2.1 ≤ M) := ⟨⟨h.a1, h.a2⟩, ⟨h.b1, h.b2⟩, ⟨h.c1, h.c2⟩⟩
theorem Sm6.under {M : Int} (h : Sm6 M x) (hM0 : 0 ≤ M) (hM : M ≤ 73000000000000) : BoxOk x.1 (cutI (x.2.1 - 1)) x.2.2.1 x.2.2.2.1 x.2.1 x.2.2.2.2.2 ∧ (cellsI x.1 (cutI (x.2.1 - 1)) x.2.2.1 x.2.2.2.1 x.2.1 x.2.2.2.2.2).length ≤ 1000000 := by
  obtain ⟨h1, h2, h3, h4, h5, h6, h7, h8, h9, h10, h11, h12⟩ := h
  rw [cutI_id (by omega) (by omega)]
  exact ⟨⟨by omega, by omega, by omega, by omega, by omega, by omega, by omega, by omega, by omega⟩, cells_len (by omega) (by omega) (by omega) (by omega) (by omega) (by omega)⟩
end
end Go.Proofs.YtmbccnioijokfaaGreatDoor

namespace Go.Proofs.YtmbccnioijokfaaGreatDoor
theorem Sm6.mono {M M' : Int} {x : B6} (h : Sm6 M x) (hm : M ≤ M') : Sm6 M' x := by
  obtain ⟨h1, h2, h3, h4, h5, h6, h7, h8, h9, h10, h11, h12⟩ := h
  exact ⟨by omega, by omega, by omega, by omega, by omega, by omega, h7, h8, h9, h10, h11, h12⟩
section
variable {val : Cl → Int} {x : B6} {dx dy dz up M : Int}
theorem stepV_sm (h : Sm6 M x) (hM0 : 0 ≤ M) (hM : M ≤ 73000000000000) : Sm6 (M + 40000000) (stepV val x dx dy dz up).1 := by
  unfold stepV stepOf
  split
  · exact oC_sm h hM0 hM
  · exact (st3_sm h hM0 hM).mono (by omega)
theorem Sm6.box (h : Sm6 M x) (hM0 : 0 ≤ M) (hM : M ≤ 73000000000000) : BoxOk x.1 x.2.1 x.2.2.1 x.2.2.2.1 x.2.2.2.2.1 x.2.2.2.2.2 ∧ (cellsI x.1 x.2.1 x.2.2.1 x.2.2.2.1 x.2.2.2.2.1 x.2.2.2.2.2).length ≤ 1000000 := ⟨Sm.box h (by omega), Sm.cells h⟩
end
end Go.Proofs.YtmbccnioijokfaaGreatDoor

namespace Go.Proofs.YtmbccnioijokfaaGreatDoor
open Go.RowKit Go.Shelf
attribute [local go_sem] Oper.semAt_some
theorem layers_c (a b c d e f axis dd : Int) (w : World) : Calls Tryz.prog 355 #[.agg #[.int .i64 a, .int .i64 b, .int .i64 c, .int .i64 d, .int .i64 e, .int .i64 f], .int .i64 axis, .int .i64 dd] w fun r w' =>
    r = .returned (.func (.func 362) #[] #[.pointer (some ⟨w.heap.size, 0, none⟩), .pointer (some ⟨w.heap.size + 1, 0, none⟩), .pointer (some ⟨w.heap.size + 1 + 1, 0, none⟩)]) ∧
    w' = ((w.alloc (.cells #[.int .i64 a, .int .i64 b, .int .i64 c, .int .i64 d, .int .i64 e, .int .i64 f] 210)).alloc (.cells #[.int .i64 axis] 3)).alloc (.cells #[.int .i64 dd] 3) := by
  have hmf : ∀ (fn : Fn) (first cap : Array Value) (w : World), (Instr.makeFunc fn first cap).run Tryz.prog w = .ok (.func fn first cap) w := fun _ _ _ _ => rfl
  go_enter Tryz.func355, Tryz.ntmps355
  go_wp2_with fail
  go_returns
  exact ⟨rfl, rfl⟩
abbrev encK (c : Int × Int) : Array Value := #[.int .i64 c.1, .int .i64 c.2]
theorem of_b (n v : Int) (h : ofI n = v) (w : World) : Calls Tryz.prog 244 #[.int .i64 n] w fun e w' => e = .returned (.int .i64 v) ∧ Below w.heap.size w w' := calls_bel (of_e n v h w)
theorem floor_v (n v : Int) (h : cutI n / 65536 = v) (w : World) : Calls Tryz.prog 237 #[.int .i64 n] w fun e w' => e = .returned (.int .i64 v) ∧ w = w' := by subst h; exact floor_c n w
set_option maxRecDepth 100000 in
set_option maxHeartbeats 8000000 in
theorem lay_it (B G D : Nat) (a b c d e f axis dd M : Int) (hM : M ≤ 73000000000000) (hM0 : 0 ≤ M) (hB : Sm M a b c d e f) (h1 : -4194304 ≤ dd) (h2 : dd ≤ 4194304) (w : World) (hb : Blk w B 210 #[.int .i64 a, .int .i64 b, .int .i64 c, .int .i64 d, .int .i64 e, .int .i64 f]) (hg : Blk w G 3 #[.int .i64 axis]) (hd : Blk w D 3 #[.int .i64 dd]) :
    Iter Tryz.prog 362 #[.pointer (some ⟨B, 0, none⟩), .pointer (some ⟨G, 0, none⟩), .pointer (some ⟨D, 0, none⟩)] encK (lays (axI a b c axis) (axI d e f axis) dd) (fun x => x = B ∨ x = G ∨ x = D) w := by
  intro m l J Jx W hW hJ hJx hY h0
  have A := hW.blk (.inl rfl) hb
  have A1 := hW.blk (.inr (.inl rfl)) hg
  have A2 := hW.blk (.inr (.inr rfl)) hd
  obtain ⟨l1, l2, l3⟩ := axI_sm (axis := axis) hB hM0
  clear hb hg hd hW hB
  refine callsIn_of_wp Tryz.func362 rfl trivial ?_ rfl
  simp only [Tryz.ntmps362, List.size_toArray, List.length_cons, List.length_nil, Nat.reduceAdd, Nat.reduceSub, Array.replicate_succ, Array.replicate_zero, List.push_toArray, List.append_toArray, List.nil_append, List.cons_append]
  refine wpIn_wide.2 ?_
  obtain ⟨a0, a1, a2, a3, a4, a5⟩ := A.re6
  have g0 := fun x y => (A1.re x y).cell 0
  clear A
  go_upto_region 0 with (fail)
  refine wp_sched [0, 0, 0, 0, 0, 0, 0, 0, 0, 0] (fun _ _ _ => True) (by kernel_rfl) (by kernel_rfl) (fun _ _ _ _ h _ => h) ?_
  repeat (first | (refine wpQs_s ?_) | (refine wpQs_q (fun K hK => ?_); go_simp; first | (refine hK _ ?_; clear hK K) | (apply Exists.intro; refine ⟨fun _ => ?_, hK _ ?_⟩; (exact axis_c _ _ _ _ _); clear hK K)) | (refine wpQs_f (fun K hK => ?_); go_simp; refine hK _ ?_; clear hK K))
  refine wpQs_nil ?_
  repeat (first | (refine wpLs_skip ?_) | (refine wpLs_one ?lsA (fun v_ => ?_); case lsA => (intro w_ hw_ hp_; (fail))))
  refine wpLs_nilB ?_
  simp only [tails]
  clear a0 a1 a2 a3 a4 a5 g0
  generalize hlo : axI a b c axis = low at l1 l2 hY ⊢
  generalize hto : axI d e f axis = top at l2 l3 hY ⊢
  intro W1 k1 _
  have HLO := Lib.hid hlo
  have HTO := Lib.hid hto
  clear hlo hto
  have hD := A2.on k1
  have d0 := hD.cell 0
  have hJ1 : ∀ Z, J Z 0 W1 := fun Z => hJ Z 0 W W1 (h0 Z) (Kept.of_below k1)
  have hsz := k1.size
  have hDl := A2.lt
  clear k1 h0 A1 A2
  by_cases hpos : 0 < dd
  · have hls : lays low top dd = layU top dd := by unfold lays; rw [if_pos hpos]
    rw [hls] at hY
    have HLS := Lib.hid hls
    have hlen := layU_len top dd
    have HLEN := Lib.hid hlen
    clear hls hlen
    go_upto_region 3 with (go_at_call 237; refine (floor_v _ ((top + 65535) / 65536) (by unfold cutI; omega) _).mono ?_; rintro e_ w2 ⟨rfl, rfl⟩)
    refine (wpIn_wide (n := m + 1)).1 ?_
    gi_loopw [7] (fun v wr => ∃ (kk : Int) (i : Nat), v = .int .i64 kk ∧ Hid (kk = (top + 65535) / 65536 + (i : Int)) ∧ Hid (i ≤ (layU top dd).length) ∧ Blk wr D 3 #[.int .i64 dd] ∧ Hid (W1.heap.size ≤ wr.heap.size) ∧ J W1.heap.size i wr) (fun v _ => ((top + dd + 65535) / 65536 + 1 - intOf v).toNat)
    case atStart => exact ⟨_, 0, rfl, Lib.hid (by omega), Nat.zero_le _, hD, Nat.le_refl _, hJ1 _⟩
    case round =>
      clear hD hJ1 d0
      obtain ⟨kk, i, rfl, hkk0, hi, hD, hsz2, hj⟩ := hrel
      have d0 := fun x y => (hD.re x y).cell 0
      have hkk := hkk0.out
      have hi2 := hi.out
      rw [HLEN.out] at hi2
      have b1 : -9223372036854775808 ≤ kk - 1 := by omega
      have b2 : kk + 1 ≤ 9223372036854775807 := by omega
      have b3 : -9223372036854775808 ≤ kk + 1 := by omega
      have b4 : kk - 1 ≤ 9223372036854775807 := by omega
      have b5 : -9223372036854775808 ≤ kk * 65536 - top := by omega
      have b6 : kk * 65536 - top ≤ 9223372036854775807 := by omega
      have hof : ofI (kk) = (kk) * 65536 := ofI_id (by omega) (by omega)
      have HOF := Lib.hid hof
      by_cases hlt : i < (layU top dd).length
      · have c1 : (layU top dd)[i]? = some (kk, kk * 65536 - top) := by rw [layU_at hlt, hkk]
        have C1 := Lib.hid c1
        have HI := Lib.hid hlt
        rw [HLEN.out] at hlt
        have hlt2 : kk * 65536 < top + dd := by omega
        clear hlt c1 hi2 hof hkk
        have hw : IntKind.i64.wrap (top + dd) = top + dd := IntWalk.i64_in _ (by omega)
        gi_wp2
        refine wpIn_wide.2 ?_
        refine wp_sched [0, 0, 0, 0, 0, 0] (fun _ _ _ => True) (by kernel_rfl) (by kernel_rfl) (fun _ _ _ _ h _ => h) ?_
        repeat (first | (refine wpQs_s ?_) | (refine wpQs_q (fun K hK => ?_); go_simp; first | (refine hK _ ?_; clear hK K) | (apply Exists.intro; refine ⟨fun _ => ?_, hK _ ?_⟩; (exact of_b _ _ HOF.out _); clear hK K)) | (refine wpQs_f (fun K hK => ?_); go_simp; refine hK _ ?_; clear hK K))
        refine wpQs_nil ?_
        repeat (first | (refine wpLs_skip ?_) | (refine wpLs_one ?lsA (fun v_ => ?_); case lsA => (intro w_ hw_ hp_; (fail))))
        refine wpLs_nilB ?_
        simp only [tails]
        intro W2 k2 _
        have HJ := Lib.hid (And.intro (hJ _ _ _ _ hj (Kept.of_below k2)) (Nat.le_trans hsz2.out k2.size))
        clear d0 hj
        simp only [wpList, Exit.then]
        go_at_K
        gi_wp2_with (refine ⟨trivial, ?_⟩; gi_at_call 244; refine (callsIn_wide.2 (of_b _ _ HOF.out _)).mono ?_; rintro e_ w3 ⟨rfl, k3⟩; obtain ⟨hj, hs2⟩ := HJ.out; have hs3 := Nat.le_trans hs2 k3.size; replace hD := (hD.on k2).on k3; obtain ⟨fn, tmps, assign, body, hy', hR⟩ := hY W1.heap.size i _ w3 hsz hs3 C1.out (hJ _ _ _ _ hj (Kept.of_below k3)))
        refine hR.mono ?_
        rintro e_ W3 (⟨rfl, hj3, hk3⟩ | ⟨rfl, hjx3⟩)
        · replace hD := hk3.blk (.inr (.inr (.inr rfl))) hD
          have hsz3 := Lib.hid (Nat.le_trans hs3 hk3.size)
          gi_wp2
          go_roundw
          case rel => exact ⟨kk + 1, i + 1, rfl, Lib.hid (by have := hkk0.out; omega), HI.out, hD, hsz3.out, hj3⟩
          case measure => have := hkk0.out; have := HI.out; rw [HLEN.out] at this; simp [intOf]; omega
        · gi_wp2
          refine bodyPost_ret (results_none rfl _ _ _) rfl ?_
          exact ⟨⟨_, rfl⟩, W1.heap.size, hsz, .inr ⟨i, by rw [HLO.out, HTO.out, HLS.out]; exact HI.out, hjx3⟩⟩
      · have hin : i = (layU top dd).length := Nat.le_antisymm hi.out (Nat.le_of_not_lt hlt)
        have hlt2 : ¬ kk * 65536 < top + dd := by rw [HLEN.out] at hin; omega
        have hw : IntKind.i64.wrap (top + dd) = top + dd := IntWalk.i64_in _ (by omega)
        have hw2 : True := trivial
        have HI := Lib.hid hin
        clear hlt hi2 hof hkk hin
        gi_wp2
        refine wpIn_wide.2 ?_
        refine wp_sched [0, 0, 0, 0, 0, 0] (fun _ _ _ => True) (by kernel_rfl) (by kernel_rfl) (fun _ _ _ _ h _ => h) ?_
        repeat (first | (refine wpQs_s ?_) | (refine wpQs_q (fun K hK => ?_); go_simp; first | (refine hK _ ?_; clear hK K) | (apply Exists.intro; refine ⟨fun _ => ?_, hK _ ?_⟩; (exact of_b _ _ HOF.out _); clear hK K)) | (refine wpQs_f (fun K hK => ?_); go_simp; refine hK _ ?_; clear hK K))
        refine wpQs_nil ?_
        repeat (first | (refine wpLs_skip ?_) | (refine wpLs_one ?lsA (fun v_ => ?_); case lsA => (intro w_ hw_ hp_; (fail))))
        refine wpLs_nilB ?_
        simp only [tails]
        intro W2 k2 _
        have HJ := Lib.hid (hJ _ _ _ _ hj (Kept.of_below k2))
        clear d0 hj
        simp only [wpList, Exit.then]
        go_at_K
        gi_wp2
        go_wp2_with fail
        refine bodyPost_ret (results_none rfl _ _ _) rfl ?_
        exact ⟨⟨_, rfl⟩, W1.heap.size, hsz, .inl (by rw [HLO.out, HTO.out, HLS.out, ← HI.out]; exact HJ.out)⟩
  · have hls : lays low top dd = layD low dd := by unfold lays; rw [if_neg hpos]
    rw [hls] at hY
    have HLS := Lib.hid hls
    have hlen := layD_len low dd
    have HLEN := Lib.hid hlen
    clear hls hlen
    go_upto_region 7 with (go_at_call 237; refine (floor_v _ (low / 65536) (by unfold cutI; omega) _).mono ?_; rintro e_ w2 ⟨rfl, rfl⟩)
    refine (wpIn_wide (n := m + 1)).1 ?_
    gi_loopw [8] (fun v wr => ∃ (kk : Int) (i : Nat), v = .int .i64 kk ∧ Hid (kk = low / 65536 - 1 - (i : Int)) ∧ Hid (i ≤ (layD low dd).length) ∧ Blk wr D 3 #[.int .i64 dd] ∧ Hid (W1.heap.size ≤ wr.heap.size) ∧ J W1.heap.size i wr) (fun v _ => (intOf v - (low + dd) / 65536 + 1).toNat)
    case atStart => exact ⟨_, 0, rfl, Lib.hid (by omega), Nat.zero_le _, hD, Nat.le_refl _, hJ1 _⟩
    case round =>
      clear hD hJ1 d0
      obtain ⟨kk, i, rfl, hkk0, hi, hD, hsz2, hj⟩ := hrel
      have d0 := fun x y => (hD.re x y).cell 0
      have hkk := hkk0.out
      have hi2 := hi.out
      rw [HLEN.out] at hi2
      have b1 : -9223372036854775808 ≤ kk - 1 := by omega
      have b2 : kk + 1 ≤ 9223372036854775807 := by omega
      have b3 : -9223372036854775808 ≤ kk + 1 := by omega
      have b4 : kk - 1 ≤ 9223372036854775807 := by omega
      have b5 : -9223372036854775808 ≤ (kk + 1) * 65536 - low := by omega
      have b6 : (kk + 1) * 65536 - low ≤ 9223372036854775807 := by omega
      have hof : ofI (kk + 1) = (kk + 1) * 65536 := ofI_id (by omega) (by omega)
      have HOF := Lib.hid hof
      by_cases hlt : i < (layD low dd).length
      · have c1 : (layD low dd)[i]? = some (kk, (kk + 1) * 65536 - low) := by rw [layD_at hlt, hkk]; congr 2; omega
        have C1 := Lib.hid c1
        have HI := Lib.hid hlt
        rw [HLEN.out] at hlt
        have hlt2 : (kk + 1) * 65536 > low + dd := by omega
        clear hlt c1 hi2 hof hkk
        have hw : IntKind.i64.wrap (low + dd) = low + dd := IntWalk.i64_in _ (by omega)
        have hw2 : IntKind.i64.wrap (kk + 1) = kk + 1 := IntWalk.i64_in _ (by omega)
        gi_wp2
        refine wpIn_wide.2 ?_
        refine wp_sched [0, 0, 0, 0, 0, 0, 0] (fun _ _ _ => True) (by kernel_rfl) (by kernel_rfl) (fun _ _ _ _ h _ => h) ?_
        repeat (first | (refine wpQs_s ?_) | (refine wpQs_q (fun K hK => ?_); go_simp; first | (refine hK _ ?_; clear hK K) | (apply Exists.intro; refine ⟨fun _ => ?_, hK _ ?_⟩; (exact of_b _ _ HOF.out _); clear hK K)) | (refine wpQs_f (fun K hK => ?_); go_simp; refine hK _ ?_; clear hK K))
        refine wpQs_nil ?_
        repeat (first | (refine wpLs_skip ?_) | (refine wpLs_one ?lsA (fun v_ => ?_); case lsA => (intro w_ hw_ hp_; (fail))))
        refine wpLs_nilB ?_
        simp only [tails]
        intro W2 k2 _
        have HJ := Lib.hid (And.intro (hJ _ _ _ _ hj (Kept.of_below k2)) (Nat.le_trans hsz2.out k2.size))
        clear d0 hj
        simp only [wpList, Exit.then]
        go_at_K
        gi_wp2_with (refine ⟨trivial, ?_⟩; gi_at_call 244; refine (callsIn_wide.2 (of_b _ _ HOF.out _)).mono ?_; rintro e_ w3 ⟨rfl, k3⟩; obtain ⟨hj, hs2⟩ := HJ.out; have hs3 := Nat.le_trans hs2 k3.size; replace hD := (hD.on k2).on k3; obtain ⟨fn, tmps, assign, body, hy', hR⟩ := hY W1.heap.size i _ w3 hsz hs3 C1.out (hJ _ _ _ _ hj (Kept.of_below k3)))
        refine hR.mono ?_
        rintro e_ W3 (⟨rfl, hj3, hk3⟩ | ⟨rfl, hjx3⟩)
        · replace hD := hk3.blk (.inr (.inr (.inr rfl))) hD
          have hsz3 := Lib.hid (Nat.le_trans hs3 hk3.size)
          gi_wp2
          go_roundw
          case rel => exact ⟨kk - 1, i + 1, rfl, Lib.hid (by have := hkk0.out; omega), HI.out, hD, hsz3.out, hj3⟩
          case measure => have := hkk0.out; have := HI.out; rw [HLEN.out] at this; simp [intOf]; omega
        · gi_wp2
          refine bodyPost_ret (results_none rfl _ _ _) rfl ?_
          exact ⟨⟨_, rfl⟩, W1.heap.size, hsz, .inr ⟨i, by rw [HLO.out, HTO.out, HLS.out]; exact HI.out, hjx3⟩⟩
      · have hin : i = (layD low dd).length := Nat.le_antisymm hi.out (Nat.le_of_not_lt hlt)
        have hlt2 : ¬ (kk + 1) * 65536 > low + dd := by rw [HLEN.out] at hin; omega
        have hw : IntKind.i64.wrap (low + dd) = low + dd := IntWalk.i64_in _ (by omega)
        have hw2 : IntKind.i64.wrap (kk + 1) = kk + 1 := IntWalk.i64_in _ (by omega)
        have HI := Lib.hid hin
        clear hlt hi2 hof hkk hin
        gi_wp2
        refine wpIn_wide.2 ?_
        refine wp_sched [0, 0, 0, 0, 0, 0, 0] (fun _ _ _ => True) (by kernel_rfl) (by kernel_rfl) (fun _ _ _ _ h _ => h) ?_
        repeat (first | (refine wpQs_s ?_) | (refine wpQs_q (fun K hK => ?_); go_simp; first | (refine hK _ ?_; clear hK K) | (apply Exists.intro; refine ⟨fun _ => ?_, hK _ ?_⟩; (exact of_b _ _ HOF.out _); clear hK K)) | (refine wpQs_f (fun K hK => ?_); go_simp; refine hK _ ?_; clear hK K))
        refine wpQs_nil ?_
        repeat (first | (refine wpLs_skip ?_) | (refine wpLs_one ?lsA (fun v_ => ?_); case lsA => (intro w_ hw_ hp_; (fail))))
        refine wpLs_nilB ?_
        simp only [tails]
        intro W2 k2 _
        have HJ := Lib.hid (hJ _ _ _ _ hj (Kept.of_below k2))
        clear d0 hj
        simp only [wpList, Exit.then]
        go_at_K
        gi_wp2
        go_end0
        exact ⟨⟨_, rfl⟩, W1.heap.size, hsz, .inl (by rw [HLO.out, HTO.out, HLS.out, ← HI.out]; exact HJ.out)⟩
end Go.Proofs.YtmbccnioijokfaaGreatDoor

namespace Go.Proofs.YtmbccnioijokfaaGreatDoor
open Go.RowKit Go.Shelf
attribute [local go_sem] Oper.semAt_some
abbrev bV6 (a b c d e f : Int) : Array Value := #[.int .i64 a, .int .i64 b, .int .i64 c, .int .i64 d, .int .i64 e, .int .i64 f]
set_option maxRecDepth 100000 in
set_option maxHeartbeats 4000000 in
theorem layer_c (a b c d e f axis k : Int) (h1 : -2147483648 ≤ k) (h2 : k + 1 ≤ 2147483648) (w : World) : Calls Tryz.prog 356 #[.agg #[.int .i64 a, .int .i64 b, .int .i64 c, .int .i64 d, .int .i64 e, .int .i64 f], .int .i64 axis, .int .i64 k] w fun r w' =>
    r = .returned (.agg #[.int .i64 (wiI a axis 0 (k * 65536)), .int .i64 (wiI b axis 1 (k * 65536)), .int .i64 (wiI c axis 2 (k * 65536)), .int .i64 (wiI d axis 0 (k * 65536 + 65536)), .int .i64 (wiI e axis 1 (k * 65536 + 65536)), .int .i64 (wiI f axis 2 (k * 65536 + 65536))]) ∧ Below w.heap.size w w' := by
  have hw : IntKind.i64.wrap (k + 1) = k + 1 := IntWalk.i64_in _ (by omega)
  have o1 : ofI k = k * 65536 := ofI_id (by omega) (by omega)
  have o2 : ofI (k + 1) = k * 65536 + 65536 := by rw [ofI_id (by omega) (by omega)]; omega
  have O := Lib.hid (And.intro o1 o2)
  clear o1 o2 h1 h2
  have U : Blk ((w.alloc (.cells (bV6 a b c d e f) 210)).alloc (.cells (bV6 0 0 0 0 0 0) 210)) w.heap.size 210 (bV6 a b c d e f) := (Blk.new' rfl).alloc _
  have R0 : Blk ((w.alloc (.cells (bV6 a b c d e f) 210)).alloc (.cells (bV6 0 0 0 0 0 0) 210)) (w.heap.size + 1) 210 (bV6 0 0 0 0 0 0) := Blk.new' (by simp)
  obtain ⟨k0, k1, k2, k3, k4, k5⟩ := U.re6
  go_enter Tryz.func356, Tryz.ntmps356
  go_upto_region 1 with (fail)
  refine wp_region_last_below 14 (by kernel_rfl) rfl (by kernel_rfl) ?_
  simp only [List.take_succ_cons, List.take_zero, List.drop_succ_cons, List.drop_zero]
  repeat (go_big_quiet_step (first | exact Calls.regrown_of (of_b _ _ O.out.1 _) | exact Calls.regrown_of (of_b _ _ O.out.2 _) | exact Calls.regrown_of (with_c _ _ _ _ _ _)))
  refine wpQuiet_nil ?_
  intro w' hw'
  obtain ⟨rg, rfl⟩ := hw'
  have R := R0.re rg.d rg.os
  obtain ⟨⟨r0, r1, r2, r3, r4, r5⟩, s0, s1, s2, s3, s4, s5⟩ := R.c6
  go_wp2_with fail
  have R2 := R.st6 (.int .i64 (wiI a axis 0 (k * 65536))) (.int .i64 (wiI b axis 1 (k * 65536))) (.int .i64 (wiI c axis 2 (k * 65536))) (.int .i64 (wiI d axis 0 (k * 65536 + 65536))) (.int .i64 (wiI e axis 1 (k * 65536 + 65536))) (.int .i64 (wiI f axis 2 (k * 65536 + 65536)))
  obtain ⟨⟨d0, d1, d2, d3, d4, d5⟩, -, -, -, -, -, -⟩ := R2.c6
  exact bodyPost_ret (v := .agg #[.int .i64 (wiI a axis 0 (k * 65536)), .int .i64 (wiI b axis 1 (k * 65536)), .int .i64 (wiI c axis 2 (k * 65536)), .int .i64 (wiI d axis 0 (k * 65536 + 65536)), .int .i64 (wiI e axis 1 (k * 65536 + 65536)), .int .i64 (wiI f axis 2 (k * 65536 + 65536))]) (by simp [results, Tryz.results356, go_sem, d0, d1, d2, d3, d4, d5]) rfl ⟨rfl, by (repeat' (first | (with_reducible exact Below.refl _ _) | (with_reducible assumption) | (with_reducible refine Below.alloc ?_ ?_ _) | (with_reducible refine Below.drew ?_) | (with_reducible refine Below.setCell ?_ ?_ _) | (with_reducible refine after ?_ (below_regrown _ _ _)) | (refine after ?_ (by with_reducible assumption)) | go_size))⟩
theorem leave_none {F : Fence} {n : Nat} {P : Program} {fn : Func} {R : Ending → World → Prop} {tmps : Array Value} {w : World} {v : Value} (hv : (results fn tmps).run P w = .ok v w) (hR : R (.returned v) w) : bodyPostM F n P fn R .ret { tmps := tmps, defers := [] } w := ⟨v, hv, hR⟩
def axT (p : Int × Bool) : Value := .tuple #[.int .i64 p.1, .bool p.2]
set_option maxRecDepth 100000 in
set_option maxHeartbeats 8000000 in
theorem saxis_c (V : FuncId) (lv : Value) (val : Cl → Int) (a b c d e f axis dd M : Int) (hM : M ≤ 72000000000000) (hM0 : 0 ≤ M) (hB : Sm M a b c d e f) (w : World)
    (eV : ∀ args w, (callFunc V args).run Tryz.prog w = .ok (.enter V args) w) (hV : Tells Tryz.prog V lv val w) :
    Calls Tryz.prog 341 #[.func (.func V) #[lv] #[], .agg #[.int .i64 a, .int .i64 b, .int .i64 c, .int .i64 d, .int .i64 e, .int .i64 f], .int .i64 axis, .int .i64 dd] w fun r w' =>
      r = .returned (axT (axisV val a b c d e f axis dd)) ∧ Below w.heap.size w w' := by
  have HV := Lib.hid hV
  clear hV
  obtain ⟨W, hW⟩ : ∃ W, W = ((((w.alloc (.cells #[.func (.func V) #[lv] #[]] 74)).alloc (.cells #[.int .i64 a, .int .i64 b, .int .i64 c, .int .i64 d, .int .i64 e, .int .i64 f] 210)).alloc (.cells #[.int .i64 axis] 3)).alloc (.cells #[.int .i64 0] 3)).alloc (.cells #[.bool false] 4) := ⟨_, rfl⟩
  have H : Below w.heap.size w W := by rw [hW]; go_grown
  have b0 : Blk W w.heap.size 74 #[.func (.func V) #[lv] #[]] := by rw [hW]; exact ((((Blk.new' rfl).alloc _).alloc _).alloc _).alloc _
  have b1 : Blk W (w.heap.size + 1) 210 #[.int .i64 a, .int .i64 b, .int .i64 c, .int .i64 d, .int .i64 e, .int .i64 f] := by rw [hW]; exact (((Blk.new' (by simp)).alloc _).alloc _).alloc _
  have b2 : Blk W (w.heap.size + 1 + 1) 3 #[.int .i64 axis] := by rw [hW]; exact ((Blk.new' (by simp)).alloc _).alloc _
  have b3 : Blk W (w.heap.size + 1 + 1 + 1) 3 #[.int .i64 0] := by rw [hW]; exact (Blk.new' (by simp)).alloc _
  have b4 : Blk W (w.heap.size + 1 + 1 + 1 + 1) 4 #[.bool false] := by rw [hW]; exact Blk.new' (by simp)
  have hs : W.heap.size = w.heap.size + 5 := by rw [hW]; simp
  obtain ⟨N, hN⟩ : ∃ N, N = w.heap.size := ⟨_, rfl⟩
  rw [← hN] at b0 b1 b2 b3 b4 hs
  have hmn := @run_mn Tryz.prog
  have hmx := @run_mx Tryz.prog
  refine (callsIn_wide (n := 5)).1 (callsIn_of_wp_marks Tryz.func341 rfl trivial ?_ rfl)
  refine wpIn_wide.2 ?_
  simp only [Tryz.ntmps341, List.size_toArray, List.length_cons, List.length_nil, Nat.reduceAdd, Nat.reduceSub, Array.replicate_succ, Array.replicate_zero, List.push_toArray, List.append_toArray, List.nil_append, List.cons_append]
  go_upto_region 1 with (fail)
  rw [← hW, ← hN]
  have HN := Lib.hid hN
  have HS0 := Lib.hid hs
  clear hW hN hs
  have g0 := b2.cell 0
  by_cases hax : axis < 0 ∨ 3 ≤ axis
  · have hv : axisV val a b c d e f axis dd = (0, false) := by unfold axisV; rw [if_pos hax]
    have HVV := Lib.hid hv
    clear hv
    obtain ⟨r0, f0⟩ := b3.c1
    obtain ⟨s0, q0⟩ := b4.c1
    have e3 := (b3.set_ 0 (.int .i64 0)).far (p := ⟨N + 1 + 1 + 1 + 1, 0, none⟩) (by dsimp only; omega) (.bool false)
    have e4 := (b4.far (p := ⟨N + 1 + 1 + 1, 0, none⟩) (by dsimp only; omega) (.int .i64 0)).set_ 0 (.bool false)
    obtain ⟨d0, -⟩ := e3.c1
    obtain ⟨d1, -⟩ := e4.c1
    have HH := Lib.hid ((H.setCell (p := ⟨N + 1 + 1 + 1, 0, none⟩) (by rw [← HN.out]; dsimp only; omega) (.int .i64 0)).setCell (p := ⟨N + 1 + 1 + 1 + 1, 0, none⟩) (by rw [← HN.out]; dsimp only; omega) (.bool false))
    clear e3 e4 H b0 b1 b2 b3 b4
    rcases hax with hax | hax
    all_goals
      go_wp2_with fail
      refine leave_none (v := axT (0, false)) (by simp [results, Tryz.f341, go_sem, axT, d0, d1]) ⟨by rw [HVV.out], HH.out⟩
  · obtain ⟨x1, x2⟩ : 0 ≤ axis ∧ axis < 3 := by omega
    have y1 : ¬ axis < 0 := by omega
    have y2 : ¬ 3 ≤ axis := by omega
    have hv : axisV val a b c d e f axis dd = axV (lyB val a b c d e f axis) (axI a b c axis) (axI d e f axis) (farI dd) := by unfold axisV; rw [if_neg hax]
    have HVV := Lib.hid hv
    clear hv hax
    go_upto_region 4 with (fail)
    have hfe : mnI (mxI dd (-4194304)) 4194304 = farI dd := rfl
    rw [hfe]
    clear hfe
    obtain ⟨fb1, fb2⟩ := farI_bd dd
    generalize farI dd = df at HVV fb1 fb2 ⊢
    obtain ⟨a0, a1, a2, a3, a4, a5⟩ := b1.c6.1
    go_wp2_with (go_at_call 355; refine (layers_c _ _ _ _ _ _ _ _ _).mono ?_; rintro e_ w1 ⟨rfl, rfl⟩)
    generalize hV : World.alloc (World.alloc (World.alloc W _) _) _ = W1
    have c1 : Blk W1 W.heap.size 210 #[.int .i64 a, .int .i64 b, .int .i64 c, .int .i64 d, .int .i64 e, .int .i64 f] := Blk.eqw hV (((Blk.new' rfl).alloc _).alloc _)
    have c2 : Blk W1 (W.heap.size + 1) 3 #[.int .i64 axis] := Blk.eqw hV ((Blk.new' (by simp)).alloc _)
    have c3 : Blk W1 (W.heap.size + 1 + 1) 3 #[.int .i64 df] := Blk.eqw hV (Blk.new' (by simp))
    replace b0 := Blk.eqw hV (((b0.alloc _).alloc _).alloc _)
    replace b1 := Blk.eqw hV (((b1.alloc _).alloc _).alloc _)
    replace b2 := Blk.eqw hV (((b2.alloc _).alloc _).alloc _)
    replace b3 := Blk.eqw hV (((b3.alloc _).alloc _).alloc _)
    replace b4 := Blk.eqw hV (((b4.alloc _).alloc _).alloc _)
    have H1 : Below w.heap.size w W1 := by
      have := H.size
      rw [← hV]; exact ((H.alloc H.size _).alloc (by simp; omega) _).alloc (by simp; omega) _
    have hs1 : W1.heap.size = N + 8 := by rw [← hV]; simp [HS0.out]
    rw [HS0.out] at c1 c2 c3 ⊢
    clear hV a0 a1 a2 a3 a4 a5 g0 H
    have HS := Lib.hid hs1
    clear hs1 HS0
    have hit := lay_it (N + 5) (N + 5 + 1) (N + 5 + 1 + 1) a b c d e f axis df M (by omega) hM0 hB fb1 fb2 W1 c1 c2 c3
    have hbd := axI_sm (axis := axis) hB hM0
    generalize axI a b c axis = low at HVV hit hbd
    generalize axI d e f axis = top at HVV hit hbd
    have HBD := Lib.hid hbd
    have HFB := Lib.hid (And.intro fb1 fb2)
    have HSM := Lib.hid hB
    have HM := Lib.hid (And.intro hM hM0)
    have C1 := Lib.hid c1
    have hcap : ∀ x, (x = N + 5 ∨ x = N + 5 + 1 ∨ x = N + 5 + 1 + 1) → x < W1.heap.size := fun x hx => by rw [HS.out]; omega
    have HCAP := Lib.hid hcap
    clear hbd fb1 fb2 hB hM hM0 c1 c2 c3
    refine wp_range (m := 3) (gf := 362) (lb := #[.pointer (some ⟨N + 5, 0, none⟩), .pointer (some ⟨N + 5 + 1, 0, none⟩), .pointer (some ⟨N + 5 + 1 + 1, 0, none⟩)]) rfl (enters_of Tryz.func362 (by kernel_rfl) rfl) hit hcap (fun _ => rfl)
      (fun Z i A => Hid (∀ j x, j < i → (lays low top df)[j]? = some x → lyB val a b c d e f axis x.1 = false) ∧ Blk A N 74 #[.func (.func V) #[lv] #[]] ∧ Blk A (N + 1) 210 #[.int .i64 a, .int .i64 b, .int .i64 c, .int .i64 d, .int .i64 e, .int .i64 f] ∧ Blk A (N + 1 + 1) 3 #[.int .i64 axis] ∧ Blk A (N + 1 + 1 + 1) 3 #[.int .i64 0] ∧ Blk A (N + 1 + 1 + 1 + 1) 4 #[.bool false] ∧ Below w.heap.size w A)
      (fun Z k i A => k = .ret ∧ Hid (∀ j x, j < i → (lays low top df)[j]? = some x → lyB val a b c d e f axis x.1 = false) ∧ ∃ x, Hid ((lays low top df)[i]? = some x ∧ lyB val a b c d e f axis x.1 = true) ∧ Blk A (N + 1 + 1 + 1) 3 #[.int .i64 x.2] ∧ Blk A (N + 1 + 1 + 1 + 1) 4 #[.bool true] ∧ Below w.heap.size w A)
      ?_ ?_ (fun Z => ⟨fun j x h => by omega, b0, b1, b2, b3, b4, H1⟩) ?round ?done ?stop
    · rintro Z i A B ⟨h1, h2, h3, h4, h5, h6, h7⟩ hk
      have lt : ∀ n, n < 8 → ¬ Priv W1.heap.size Z (N + n) := fun n hn h => by have := h.1; rw [HS.out] at this; omega
      exact ⟨h1, hk.blk (lt 0 (by omega)) h2, hk.blk (lt 1 (by omega)) h3, hk.blk (lt 2 (by omega)) h4, hk.blk (lt 3 (by omega)) h5, hk.blk (lt 4 (by omega)) h6, h7.trans (hk.below h7.size (fun b hb h => by have := h.1; rw [HS.out] at this; rw [← HN.out] at hb; omega))⟩
    · rintro Z k i A B ⟨h1, h2, x, h3, h4, h5, h6⟩ hk
      have lt : ∀ n, n < 8 → ¬ Priv W1.heap.size Z (N + n) := fun n hn h => by have := h.1; rw [HS.out] at this; omega
      exact ⟨h1, h2, x, h3, hk.blk (lt 3 (by omega)) h4, hk.blk (lt 4 (by omega)) h5, h6.trans (hk.below h6.size (fun b hb h => by have := h.1; rw [HS.out] at this; rw [← HN.out] at hb; omega))⟩
    case round =>
      rintro Z l i x A rfl hZ1 hZ2 hx ⟨h1, h2, h3, h4, h5, h6, h7⟩
      clear b0 b1 b2 b3 b4 H1 hit hcap
      gi_wp2
      refine ⟨Kept.refl _ _, fun A2 hA2 hz2 => ?_⟩
      have hs1 := HS.out
      have keep : ∀ n t cs, n < 8 → Blk A (N + n) t cs → Blk A2 (N + n) t cs := fun n t cs hn h => hA2.blk (show N + n ≠ W1.heap.size + 1 by omega) h
      replace h2 : Blk A2 N 74 _ := keep 0 _ _ (by omega) h2
      replace h3 := keep 1 _ _ (by omega) h3
      replace h4 := keep 2 _ _ (by omega) h4
      replace h5 := keep 3 _ _ (by omega) h5
      replace h6 := keep 4 _ _ (by omega) h6
      replace h7 : Below w.heap.size w A2 := h7.trans (hA2.below h7.size (fun b hb => by rw [← HN.out] at hb; omega))
      have hmem := mem_lays (k := x.1) (w := x.2) (low := low) (top := top) (d := df) (List.mem_of_getElem? hx)
      have hbd := HBD.out
      have hfb := HFB.out
      have hmm := HM.out
      have k1 : -2147483648 ≤ x.1 := by omega
      have k2 : x.1 + 1 ≤ 2147483648 := by omega
      have hsm := HSM.out.layer (axis := axis) (k := x.1) (by omega) (by omega) (by omega)
      have hbox := hsm.box (by omega)
      have HLY := Lib.hid fun W => layer_c a b c d e f axis x.1 k1 k2 W
      have hP := fun W (h : Below w.heap.size w W) => pmBlocked_c V lv val _ _ _ _ _ _ hbox W eV (HV.out.on h)
      have hP2 : ∀ dr os, Calls Tryz.prog 137 #[.func (.func V) #[lv] #[], .agg #[.int .i64 (wiI a axis 0 (x.1 * 65536)), .int .i64 (wiI b axis 1 (x.1 * 65536)), .int .i64 (wiI c axis 2 (x.1 * 65536)), .int .i64 (wiI d axis 0 (x.1 * 65536 + 65536)), .int .i64 (wiI e axis 1 (x.1 * 65536 + 65536)), .int .i64 (wiI f axis 2 (x.1 * 65536 + 65536))]] (Go.Sort.grow (redrawn A2 dr) os) fun r W' => r = .returned (.bool (lyB val a b c d e f axis x.1)) ∧ Below (Go.Sort.grow (redrawn A2 dr) os).heap.size (Go.Sort.grow (redrawn A2 dr) os) W' := fun dr os =>
        hP _ (h7.trans ((below_regrown A2 dr os).mono h7.size))
      have HX := Lib.hid hx
      have H1 := Lib.hid h1
      have HZ := Lib.hid (And.intro hZ1 hZ2)
      have HA2 := Lib.hid hz2
      clear hA2 hz2 keep hx h1 hZ1 hZ2 hs1 hmem hbd hfb hmm k1 k2 hsm hbox hP
      have g0 := fun d os => (h2.re d os).cell 0
      have g2 := fun d os => (h4.re d os).cell 0
      obtain ⟨x0, x1, x2, x3, x4, x5⟩ := h3.re6
      cases hp : lyB val a b c d e f axis x.1
      · rw [hp] at hP2
        have HP := Lib.hid hp
        replace hP2 := Lib.hid hP2
        clear hp
        gi_wp2
        refine in_sched [0, 0, 0, 0, 0, 0] (fun _ _ _ => True) (by kernel_rfl) (by kernel_rfl) (fun _ _ _ _ h _ => h) (by kernel_rfl) (fun ⟨_, _, h⟩ => h) ?_
        repeat (first | (refine wpQs_s ?_) | (refine wpQs_q (fun K hK => ?_); go_simp; first | (refine hK _ ?_; clear hK K) | (apply Exists.intro; refine ⟨fun _ => ?_, hK _ ?_⟩; (first | exact HLY.out _ | exact hP2.out _ _); clear hK K)) | (refine wpQs_f (fun K hK => ?_); go_simp; refine hK _ ?_; clear hK K))
        refine wpQs_nil ?_
        repeat (first | (refine wpLs_skip ?_) | (refine wpLs_one ?lsA (fun v_ => ?_); case lsA => (intro w_ hw_ hp_; (fail))))
        refine wpLs_nilB ?_
        simp only [tails]
        intro w3 k7 _
        clear g0 g2 x0 x1 x2 x3 x4 x5
        simp only [wpList, Exit.then]
        go_at_K
        gi_wp2
        exact ⟨Kept.of_below k7, fun j y hj hy => (by
          rcases Nat.lt_or_eq_of_le (Nat.le_of_lt_succ hj) with e | e
          · exact H1.out j y e hy
          · subst e; rw [HX.out] at hy; obtain rfl := Option.some.inj hy; exact HP.out), h2.on k7, h3.on k7, h4.on k7, h5.on k7, h6.on k7, after h7 k7⟩
      · rw [hp] at hP2
        have HP := Lib.hid hp
        replace hP2 := Lib.hid hP2
        clear hp
        gi_wp2
        refine in_sched [0, 0, 0, 0, 0, 0] (fun _ _ _ => True) (by kernel_rfl) (by kernel_rfl) (fun _ _ _ _ h _ => h) (by kernel_rfl) (fun ⟨_, _, h⟩ => h) ?_
        repeat (first | (refine wpQs_s ?_) | (refine wpQs_q (fun K hK => ?_); go_simp; first | (refine hK _ ?_; clear hK K) | (apply Exists.intro; refine ⟨fun _ => ?_, hK _ ?_⟩; (first | exact HLY.out _ | exact hP2.out _ _); clear hK K)) | (refine wpQs_f (fun K hK => ?_); go_simp; refine hK _ ?_; clear hK K))
        refine wpQs_nil ?_
        repeat (first | (refine wpLs_skip ?_) | (refine wpLs_one ?lsA (fun v_ => ?_); case lsA => (intro w_ hw_ hp_; (fail))))
        refine wpLs_nilB ?_
        simp only [tails]
        intro w3 k7 _
        clear g0 g2 x0 x1 x2 x3 x4 x5
        replace h5 := h5.on k7
        replace h6 := h6.on k7
        obtain ⟨r0, f0⟩ := h5.c1
        obtain ⟨s0, q0⟩ := h6.c1
        simp only [wpList, Exit.then]
        go_at_K
        gi_wp2
        have hs1 := HS.out
        have n3 : ¬ Keeps W1.heap.size Z (fun x => x = N + 5 ∨ x = N + 5 + 1 ∨ x = N + 5 + 1 + 1) (N + 1 + 1 + 1) := fun h => by rcases h with h | h | h | h; exact absurd h.1 (by omega); all_goals omega
        have n4 : ¬ Keeps W1.heap.size Z (fun x => x = N + 5 ∨ x = N + 5 + 1 ∨ x = N + 5 + 1 + 1) (N + 1 + 1 + 1 + 1) := fun h => by rcases h with h | h | h | h; exact absurd h.1 (by omega); all_goals omega
        refine ⟨((Kept.of_below k7).setCell (p := ⟨N + 1 + 1 + 1, 0, none⟩) n3 _).setCell (p := ⟨N + 1 + 1 + 1 + 1, 0, none⟩) n4 _, rfl, H1.out, x, ⟨HX.out, HP.out⟩,
          (h5.set_ 0 _).far (p := ⟨N + 1 + 1 + 1 + 1, 0, none⟩) (by dsimp only; omega) _, (h6.far (p := ⟨N + 1 + 1 + 1, 0, none⟩) (by dsimp only; omega) _).set_ 0 _, ?_⟩
        replace h7 := after h7 k7
        rw [← HN.out] at h7 ⊢
        exact (h7.setCell (p := ⟨N + 1 + 1 + 1, 0, none⟩) (by dsimp only; omega) _).setCell (p := ⟨N + 1 + 1 + 1 + 1, 0, none⟩) (by dsimp only; omega) _
    case done =>
      rintro Z A ⟨h1, -, -, -, h5, h6, h7⟩ hK
      clear b0 b1 b2 b3 b4 H1 hit hcap
      obtain ⟨r0, f0⟩ := h5.c1
      obtain ⟨s0, q0⟩ := h6.c1
      have HK := Lib.hid hK
      clear hK
      go_wp2_with fail
      have hs1 := HS.out
      have hf : axV (lyB val a b c d e f axis) low top df = (df, false) := by unfold axV; rw [find_no h1.out]
      have e3 := ((h5.set_ 0 (.int .i64 df)).far (p := ⟨N + 1 + 1 + 1 + 1, 0, none⟩) (by dsimp only; omega) (.bool false)).putObj (D := W1.heap.size) (by omega) (.deferred none)
      have e4 := ((h6.far (p := ⟨N + 1 + 1 + 1, 0, none⟩) (by dsimp only; omega) (.int .i64 df)).set_ 0 (.bool false)).putObj (D := W1.heap.size) (by omega) (.deferred none)
      obtain ⟨d0, -⟩ := e3.c1
      obtain ⟨d1, -⟩ := e4.c1
      have hK' := def_far (p := ⟨N + 1 + 1 + 1 + 1, 0, none⟩) (u := .bool false) (def_far (p := ⟨N + 1 + 1 + 1, 0, none⟩) (u := .int .i64 df) HK.out (by dsimp only; omega)) (by dsimp only; omega)
      refine leave_mark hK' (v := axT (df, false)) (by simp [results, Tryz.f341, go_sem, axT, d0, d1]) ⟨by rw [HVV.out, hf], ?_⟩
      rw [← HN.out] at h7 ⊢
      exact putObj_below ((h7.setCell (p := ⟨N + 1 + 1 + 1, 0, none⟩) (by dsimp only; omega) _).setCell (p := ⟨N + 1 + 1 + 1 + 1, 0, none⟩) (by dsimp only; omega) _) (by omega) _
    case stop =>
      rintro Z k i A hi ⟨rfl, h1, x, hx, h5, h6, h7⟩ hK
      clear b0 b1 b2 b3 b4 H1 hit hcap
      obtain ⟨r0, f0⟩ := h5.c1
      obtain ⟨s0, q0⟩ := h6.c1
      have HK := Lib.hid hK
      clear hK
      go_wp2_with fail
      have hs1 := HS.out
      have hf : axV (lyB val a b c d e f axis) low top df = (x.2, true) := by unfold axV; rw [find_at hx.out.1 hx.out.2 h1.out]
      obtain ⟨d0, -⟩ := (h5.putObj (D := W1.heap.size) (by omega) (.deferred none)).c1
      obtain ⟨d1, -⟩ := (h6.putObj (D := W1.heap.size) (by omega) (.deferred none)).c1
      refine leave_mark HK.out (v := axT (x.2, true)) (by simp [results, Tryz.f341, go_sem, axT, d0, d1]) ⟨by rw [HVV.out, hf], ?_⟩
      rw [← HN.out] at h7 ⊢
      exact putObj_below h7 (by omega) _
end Go.Proofs.YtmbccnioijokfaaGreatDoor

namespace Go.Proofs.YtmbccnioijokfaaGreatDoor
open Go.RowKit
attribute [local go_sem] Oper.semAt_some
theorem Owns.mono {w : World} {base base' : Nat} {e : TypeId} {size : Nat} {α : Type} {enc : α → List Value} {v : Value} {xs : List α} (h : Owns w base e size enc v xs) (hb : base' ≤ base) : Owns w base' e size enc v xs := by
  refine ⟨h.1, ?_⟩
  rcases h.2 with h0 | ⟨g, cap, cur, hv, hbg, r⟩
  · exact .inl h0
  · exact .inr ⟨g, cap, cur, hv, by omega, r⟩
end Go.Proofs.YtmbccnioijokfaaGreatDoor

namespace Go.Proofs.YtmbccnioijokfaaGreatDoor
open Go.RowKit Go.Shelf
attribute [local go_sem] Oper.semAt_some
set_option maxRecDepth 100000 in
set_option maxHeartbeats 2000000 in
theorem smove_c (a b c d e f x y z : Int) (w : World) : Calls Tryz.prog 342 #[.agg #[.int .i64 a, .int .i64 b, .int .i64 c, .int .i64 d, .int .i64 e, .int .i64 f], .agg #[.int .i64 x, .int .i64 y, .int .i64 z]] w fun r w' => r = .returned (.agg #[.int .i64 (addI a x), .int .i64 (addI b y), .int .i64 (addI c z), .int .i64 (addI d x), .int .i64 (addI e y), .int .i64 (addI f z)]) ∧ Below w.heap.size w w' := by
  have U : Blk (((w.alloc (.cells (bV6 a b c d e f) 210)).alloc (.cells #[.int .i64 x, .int .i64 y, .int .i64 z] 38)).alloc (.cells (bV6 0 0 0 0 0 0) 210)) w.heap.size 210 (bV6 a b c d e f) := ((Blk.new' rfl).alloc _).alloc _
  have V : Blk (((w.alloc (.cells (bV6 a b c d e f) 210)).alloc (.cells #[.int .i64 x, .int .i64 y, .int .i64 z] 38)).alloc (.cells (bV6 0 0 0 0 0 0) 210)) (w.heap.size + 1) 38 #[.int .i64 x, .int .i64 y, .int .i64 z] := (Blk.new' (by simp)).alloc _
  have R0 : Blk (((w.alloc (.cells (bV6 a b c d e f) 210)).alloc (.cells #[.int .i64 x, .int .i64 y, .int .i64 z] 38)).alloc (.cells (bV6 0 0 0 0 0 0) 210)) (w.heap.size + 1 + 1) 210 (bV6 0 0 0 0 0 0) := Blk.new' (by simp)
  obtain ⟨k0, k1, k2, k3, k4, k5⟩ := U.re6
  obtain ⟨l0, l1, l2⟩ := V.re3
  go_enter Tryz.func342, Tryz.ntmps342
  go_wp2_with fail
  refine wp_region_last_below 9 (by kernel_rfl) rfl (by kernel_rfl) ?_
  simp only [List.take_succ_cons, List.take_zero, List.drop_succ_cons, List.drop_zero]
  repeat (go_big_quiet_step (exact Calls.regrown_of (add_c _ _ _ _ _ _ _)))
  refine wpQuiet_nil ?_
  intro w' hw'
  obtain ⟨rg, rfl⟩ := hw'
  have R := R0.re rg.d rg.os
  obtain ⟨⟨r0, r1, r2, r3, r4, r5⟩, s0, s1, s2, s3, s4, s5⟩ := R.c6
  go_wp2_with fail
  have R2 := R.st6 (.int .i64 (addI a x)) (.int .i64 (addI b y)) (.int .i64 (addI c z)) (.int .i64 (addI d x)) (.int .i64 (addI e y)) (.int .i64 (addI f z))
  obtain ⟨⟨d0, d1, d2, d3, d4, d5⟩, -, -, -, -, -, -⟩ := R2.c6
  exact bodyPost_ret (v := .agg #[.int .i64 (addI a x), .int .i64 (addI b y), .int .i64 (addI c z), .int .i64 (addI d x), .int .i64 (addI e y), .int .i64 (addI f z)]) (by simp [results, Tryz.results342, go_sem, d0, d1, d2, d3, d4, d5]) rfl ⟨rfl, by (repeat' (first | (with_reducible exact Below.refl _ _) | (with_reducible assumption) | (with_reducible refine Below.alloc ?_ ?_ _) | (with_reducible refine Below.drew ?_) | (with_reducible refine Below.setCell ?_ ?_ _) | (with_reducible refine after ?_ (below_regrown _ _ _)) | (refine after ?_ (by with_reducible assumption)) | go_size))⟩
end Go.Proofs.YtmbccnioijokfaaGreatDoor

namespace Go.Proofs.YtmbccnioijokfaaGreatDoor
open Go.RowKit Go.Shelf
attribute [local go_sem] Oper.semAt_some
def alT (p : B6 × Bool) : Value := .tuple #[.agg (ag6 p.1), .bool p.2]
set_option maxRecDepth 100000 in
set_option maxHeartbeats 4000000 in
theorem palong_c (V : FuncId) (lv : Value) (val : Cl → Int) (x : B6) (axis dd M : Int) (hM : M ≤ 72000000000000) (hM0 : 0 ≤ M) (hB : Sm6 M x) (w : World)
    (eV : ∀ args w, (callFunc V args).run Tryz.prog w = .ok (.enter V args) w) (hV : Tells Tryz.prog V lv val w) :
    Calls Tryz.prog 314 #[.func (.func V) #[lv] #[], .agg (ag6 x), .int .i64 axis, .int .i64 dd] w fun r w' => r = .returned (alT (al6 (val) x axis dd)) ∧ Below w.heap.size w w' := by
  have HC := Lib.hid fun W (h : Below w.heap.size w W) => saxis_c V lv val x.1 x.2.1 x.2.2.1 x.2.2.2.1 x.2.2.2.2.1 x.2.2.2.2.2 axis dd M hM hM0 hB W eV (hV.on h)
  have hal : al6 (val) x axis dd = (mv6 x axis (ax6 (val) x axis dd).1, (ax6 (val) x axis dd).2) := rfl
  rw [hal]
  unfold ax6 mv6
  obtain ⟨a, b, c, d, e, f⟩ := x
  simp only [ag6] at HC ⊢
  generalize axisV (val) a b c d e f axis dd = r at HC ⊢
  obtain ⟨n, hit⟩ := r
  simp only [axT] at HC ⊢
  clear hV eV hM hM0 hB hal
  obtain ⟨W0, hW0⟩ : ∃ W0, W0 = ((w).alloc (.cells #[.int .i64 a, .int .i64 b, .int .i64 c, .int .i64 d, .int .i64 e, .int .i64 f] 210)).alloc (.cells #[.int .i64 0, .int .i64 0, .int .i64 0, .int .i64 0, .int .i64 0, .int .i64 0] 210) := ⟨_, rfl⟩
  have U : Blk W0 (w.heap.size) 210 _ := Blk.eqw hW0.symm ((Blk.new' (by simp)).alloc _)
  have R0 : Blk W0 (w.heap.size + 1) 210 _ := Blk.eqw hW0.symm (Blk.new' (by simp))
  have H0 : Below w.heap.size w W0 := by rw [hW0]; go_grown
  have XA : True := trivial
  go_enter Tryz.func314, Tryz.ntmps314
  go_upto_region 1 with (fail)
  rw [← hW0]
  clear hW0
  obtain ⟨u0, u1, u2, u3, u4, u5⟩ := U.c6.1
  have XB : True := trivial
  go_upto_region 2 with (go_at_call 341; refine (HC.out _ H0).mono ?_; rintro e_ w1 ⟨rfl, h1⟩)
  replace U := U.on h1
  have R := R0.on h1
  replace H0 := after H0 h1
  clear u0 u1 u2 u3 u4 u5 h1 R0 HC
  obtain ⟨u0, u1, u2, u3, u4, u5⟩ := U.re6
  refine wp_sched [0, 0, 0, 0, 0, 0, 1, 3, 3] (fun _ _ _ => True) (by kernel_rfl) (by kernel_rfl) (fun _ _ _ _ h _ => h) ?_
  repeat (first | (refine wpQs_s ?_) | (refine wpQs_q (fun K hK => ?_); go_simp; first | (refine hK _ ?_; clear hK K) | (apply Exists.intro; refine ⟨fun _ => ?_, hK _ ?_⟩; (first | exact with_c _ _ _ _ _ _ | exact smove_c _ _ _ _ _ _ _ _ _ _); clear hK K)) | (refine wpQs_f (fun K hK => ?_); go_simp; refine hK _ ?_; clear hK K))
  refine wpQs_nil ?_
  repeat (first | (refine wpLs_skip ?_) | (refine wpLs_one ?lsA (fun v_ => ?_); case lsA => (intro w_ hw_ hp_; (fail))))
  refine wpLs_nilB ?_
  simp only [tails]
  intro W2 h2 _
  clear u0 u1 u2 u3 u4 u5
  replace R := R.on h2
  replace H0 := after H0 h2
  obtain ⟨⟨r0, r1, r2, r3, r4, r5⟩, s0, s1, s2, s3, s4, s5⟩ := R.c6
  go_wp2_with fail
  have R2 := R.st6 (.int .i64 (addI a (wiI 0 axis 0 n))) (.int .i64 (addI b (wiI 0 axis 1 n))) (.int .i64 (addI c (wiI 0 axis 2 n))) (.int .i64 (addI d (wiI 0 axis 0 n))) (.int .i64 (addI e (wiI 0 axis 1 n))) (.int .i64 (addI f (wiI 0 axis 2 n)))
  obtain ⟨⟨d0, d1, d2, d3, d4, d5⟩, -, -, -, -, -, -⟩ := R2.c6
  exact bodyPost_ret (v := alT ((addI a (wiI 0 axis 0 n), addI b (wiI 0 axis 1 n), addI c (wiI 0 axis 2 n), addI d (wiI 0 axis 0 n), addI e (wiI 0 axis 1 n), addI f (wiI 0 axis 2 n)), hit)) (by simp [results, Tryz.f314, go_sem, alT, d0, d1, d2, d3, d4, d5]) rfl ⟨rfl, by (repeat' (first | (with_reducible exact Below.refl _ _) | (with_reducible assumption) | (with_reducible refine Below.alloc ?_ ?_ _) | (with_reducible refine Below.drew ?_) | (with_reducible refine Below.setCell ?_ ?_ _) | (with_reducible refine after ?_ (below_regrown _ _ _)) | (refine after ?_ (by with_reducible assumption)) | go_size))⟩
end Go.Proofs.YtmbccnioijokfaaGreatDoor

namespace Go.Proofs.YtmbccnioijokfaaGreatDoor
open Go.RowKit Go.Shelf
attribute [local go_sem] Oper.semAt_some
theorem arr3_at (a b c : Int) (w : World) : (Instr.index 361 (.agg #[.int .i64 a, .int .i64 b, .int .i64 c]) (.int .i64 0)).run Tryz.prog w = .ok (.int .i64 a) w ∧ (Instr.index 361 (.agg #[.int .i64 a, .int .i64 b, .int .i64 c]) (.int .i64 1)).run Tryz.prog w = .ok (.int .i64 b) w ∧ (Instr.index 361 (.agg #[.int .i64 a, .int .i64 b, .int .i64 c]) (.int .i64 2)).run Tryz.prog w = .ok (.int .i64 c) w := by
  refine ⟨?_, ?_, ?_⟩ <;> simp [Instr.index, asIntOf, go_sem]
theorem sx6_far {w : World} {N g : Nat} {t : TypeId} {cs : Array Value} (V : Blk w g t cs) (h : g ≠ N) (v0 v1 v2 v3 v4 v5 : Value) : Blk ((((((w.setCell ⟨N, 0, none⟩ v0).setCell ⟨N, 1, none⟩ v1).setCell ⟨N, 2, none⟩ v2).setCell ⟨N, 3, none⟩ v3).setCell ⟨N, 4, none⟩ v4).setCell ⟨N, 5, none⟩ v5) g t cs :=
  (((((V.far (p := ⟨N, 0, none⟩) h _).far (p := ⟨N, 1, none⟩) h _).far (p := ⟨N, 2, none⟩) h _).far (p := ⟨N, 3, none⟩) h _).far (p := ⟨N, 4, none⟩) h _).far (p := ⟨N, 5, none⟩) h _
theorem sx6_below {w w0 : World} {N n : Nat} (H : Below n w0 w) (h : n ≤ N) (v0 v1 v2 v3 v4 v5 : Value) : Below n w0 ((((((w.setCell ⟨N, 0, none⟩ v0).setCell ⟨N, 1, none⟩ v1).setCell ⟨N, 2, none⟩ v2).setCell ⟨N, 3, none⟩ v3).setCell ⟨N, 4, none⟩ v4).setCell ⟨N, 5, none⟩ v5) :=
  (((((H.setCell (p := ⟨N, 0, none⟩) h _).setCell (p := ⟨N, 1, none⟩) h _).setCell (p := ⟨N, 2, none⟩) h _).setCell (p := ⟨N, 3, none⟩) h _).setCell (p := ⟨N, 4, none⟩) h _).setCell (p := ⟨N, 5, none⟩) h _
set_option maxRecDepth 100000 in
set_option maxHeartbeats 8000000 in
theorem pmove_c (V : FuncId) (lv : Value) (val : Cl → Int) (x : B6) (dx dy dz M : Int) (hM : M ≤ 71500000000000) (hM0 : 0 ≤ M) (hB : Sm6 M x) (w : World)
    (eV : ∀ args w, (callFunc V args).run Tryz.prog w = .ok (.enter V args) w) (hV : Tells Tryz.prog V lv val w) :
    Calls Tryz.prog 272 #[.func (.func V) #[lv] #[], .agg (ag6 x), .agg #[.int .i64 dx, .int .i64 dy, .int .i64 dz]] w fun r w' => r = .returned (moveT val x dx dy dz) ∧ Below w.heap.size w w' := by
  have s1 := al6_sm hB hM0 (by omega) val 1 dy
  have s2 := al6_sm (x := st1 val x dy) s1 (by omega) (by omega) val 0 dx
  have C1 := fun W (h : Below w.heap.size w W) => palong_c V lv val x 1 dy M (by omega) hM0 hB W eV (hV.on h)
  have C2 := fun W (h : Below w.heap.size w W) => palong_c V lv val (st1 val x dy) 0 dx (M + 10000000) (by omega) (by omega) s1 W eV (hV.on h)
  have C3 := fun W (h : Below w.heap.size w W) => palong_c V lv val (st2 val x dx dy) 2 dz (M + 10000000 + 10000000) (by omega) (by omega) s2 W eV (hV.on h)
  unfold moveT
  have e3 : st3 val x dx dy dz = (al6 val (st2 val x dx dy) 2 dz).1 := rfl
  have f3 : hz3 val x dx dy dz = (al6 val (st2 val x dx dy) 2 dz).2 := rfl
  have e2 : st2 val x dx dy = (al6 val (st1 val x dy) 0 dx).1 := rfl
  have f2 : hx2 val x dx dy = (al6 val (st1 val x dy) 0 dx).2 := rfl
  have e1 : st1 val x dy = (al6 val x 1 dy).1 := rfl
  have f1 : hy1 val x dy = (al6 val x 1 dy).2 := rfl
  rw [e3, f3, f2, f1]
  generalize al6 val (st2 val x dx dy) 2 dz = p3 at C3 ⊢
  rw [e2] at C3
  generalize al6 val (st1 val x dy) 0 dx = p2 at C2 C3 ⊢
  rw [e1] at C2
  generalize al6 val x 1 dy = p1 at C1 C2 ⊢
  obtain ⟨⟨a1, b1, c1, d1, g1, h1⟩, u1⟩ := p1
  obtain ⟨⟨a2, b2, c2, d2, g2, h2⟩, u2⟩ := p2
  obtain ⟨⟨a3, b3, c3, d3, g3, h3⟩, u3⟩ := p3
  obtain ⟨a, b, c, d, e, f⟩ := x
  simp only [alT, ag6] at C1 C2 C3 ⊢
  have HC1 := Lib.hid C1
  have HC2 := Lib.hid C2
  have HC3 := Lib.hid C3
  clear C1 C2 C3 s1 s2 hM hM0 hB eV hV e1 e2 e3 f1 f2 f3
  obtain ⟨W, hW⟩ : ∃ W, W = ((((w.alloc (.cells #[.int .i64 a, .int .i64 b, .int .i64 c, .int .i64 d, .int .i64 e, .int .i64 f] 210)).alloc (.cells #[.int .i64 dx, .int .i64 dy, .int .i64 dz] 38)).alloc (.cells #[.int .i64 0, .int .i64 0, .int .i64 0, .int .i64 0, .int .i64 0, .int .i64 0] 210)).alloc (.cells #[.bool false, .bool false, .bool false] 322)).alloc (.cells #[.bool false, .bool false, .bool false] 322) := ⟨_, rfl⟩
  have H : Below w.heap.size w W := by rw [hW]; go_grown
  obtain ⟨N, hN⟩ : ∃ N, N = w.heap.size := ⟨_, rfl⟩
  have U : Blk W N 210 _ := Blk.eqw hW.symm (by rw [hN]; exact ((((Blk.new' rfl).alloc _).alloc _).alloc _).alloc _)
  have D : Blk W (N + 1) 38 _ := Blk.eqw hW.symm (by rw [hN]; exact (((Blk.new' (by simp)).alloc _).alloc _).alloc _)
  have R0 : Blk W (N + 1 + 1) 210 _ := Blk.eqw hW.symm (by rw [hN]; exact ((Blk.new' (by simp)).alloc _).alloc _)
  have R1 : Blk W (N + 1 + 1 + 1) 322 _ := Blk.eqw hW.symm (by rw [hN]; exact (Blk.new' (by simp)).alloc _)
  have T0 : Blk W (N + 1 + 1 + 1 + 1) 322 _ := Blk.eqw hW.symm (by rw [hN]; exact Blk.new' (by simp))
  have ix0 := fun w => (arr3_at 1 0 2 w).1
  have ix1 := fun w => (arr3_at 1 0 2 w).2.1
  have ix2 := fun w => (arr3_at 1 0 2 w).2.2
  go_enter Tryz.func272, Tryz.ntmps272
  go_upto_region 2 with (fail)
  rw [← hW, ← hN]
  have HN := Lib.hid hN
  clear hW hN
  go_upto_region 3 with (fail)
  go_loopw [10, 12] (fun _ kv wr => ((kv = .int .i64 0 ∧ Blk wr N 210 #[.int .i64 a, .int .i64 b, .int .i64 c, .int .i64 d, .int .i64 e, .int .i64 f] ∧ Blk wr (N + 1 + 1 + 1 + 1) 322 #[.bool false, .bool false, .bool false]) ∨ (kv = .int .i64 1 ∧ Blk wr N 210 #[.int .i64 a1, .int .i64 b1, .int .i64 c1, .int .i64 d1, .int .i64 g1, .int .i64 h1] ∧ Blk wr (N + 1 + 1 + 1 + 1) 322 #[.bool false, .bool u1, .bool false]) ∨ (kv = .int .i64 2 ∧ Blk wr N 210 #[.int .i64 a2, .int .i64 b2, .int .i64 c2, .int .i64 d2, .int .i64 g2, .int .i64 h2] ∧ Blk wr (N + 1 + 1 + 1 + 1) 322 #[.bool u2, .bool u1, .bool false]) ∨ (kv = .int .i64 3 ∧ Blk wr N 210 #[.int .i64 a3, .int .i64 b3, .int .i64 c3, .int .i64 d3, .int .i64 g3, .int .i64 h3] ∧ Blk wr (N + 1 + 1 + 1 + 1) 322 #[.bool u2, .bool u1, .bool u3])) ∧ Blk wr (N + 1) 38 #[.int .i64 dx, .int .i64 dy, .int .i64 dz] ∧ Blk wr (N + 1 + 1) 210 #[.int .i64 0, .int .i64 0, .int .i64 0, .int .i64 0, .int .i64 0, .int .i64 0] ∧ Blk wr (N + 1 + 1 + 1) 322 #[.bool false, .bool false, .bool false] ∧ Hid (Below w.heap.size w wr)) (fun _ v _ => 3 - (intOf v).toNat)
  case atStart => exact ⟨.inl ⟨rfl, U, T0⟩, D, R0, R1, H⟩
  case round =>
    clear U T0 D R0 R1 H
    obtain ⟨hd, D, R0, R1, H⟩ := hrel
    have hNw : w.heap.size ≤ N := by rw [← HN.out]; exact Nat.le_refl _
    rcases hd with ⟨rfl, U, T0⟩ | ⟨rfl, U, T0⟩ | ⟨rfl, U, T0⟩ | ⟨rfl, U, T0⟩
    · have hc := fun x y => HC1.out (Go.Sort.grow (redrawn _ x) y) (after H.out (below_regrown _ x y))
      have CC := Lib.hid hc
      clear hc
      obtain ⟨u0, uu1, uu2, uu3, uu4, uu5⟩ := U.re6
      obtain ⟨v0, v1, v2⟩ := D.re3
      go_upto_region 5 with (fail)
      refine wp_sched [1, 1, 0, 0, 0, 0, 0, 0, 0, 0, 1, 3, 3, 3] (fun _ _ _ => True) (by kernel_rfl) (by kernel_rfl) (fun _ _ _ _ h _ => h) ?_
      repeat (first | (refine wpQs_s ?_) | (refine wpQs_q (fun K hK => ?_); go_simp; first | (refine hK _ ?_; clear hK K) | (apply Exists.intro; refine ⟨fun _ => ?_, hK _ ?_⟩; (first | exact CC.out _ _ | exact axis_e _ _ _ _ _ rfl _); clear hK K)) | (refine wpQs_f (fun K hK => ?_); go_simp; refine hK _ ?_; clear hK K))
      refine wpQs_nil ?_
      repeat (first | (refine wpLs_skip ?_) | (refine wpLs_one ?lsA (fun v_ => ?_); case lsA => (intro w_ hw_ hp_; (fail))))
      refine wpLs_nilB ?_
      simp only [tails]
      intro W5 k5 _
      clear u0 uu1 uu2 uu3 uu4 uu5 v0 v1 v2
      replace U := U.on k5
      replace T0 := T0.on k5
      have t1 := T0.cell 1
      have tf := T0.frz 1
      obtain ⟨⟨r0, r1, r2, r3, r4, r5⟩, z0, z1, z2, z3, z4, z5⟩ := U.c6
      go_wp2_with fail
      go_roundw
      case rel => exact ⟨.inr (.inl ⟨rfl, (U.st6 (.int .i64 a1) (.int .i64 b1) (.int .i64 c1) (.int .i64 d1) (.int .i64 g1) (.int .i64 h1)).far (p := ⟨N + 1 + 1 + 1 + 1, 1, none⟩) (by dsimp only; omega) _, (sx6_far T0 (by omega) (.int .i64 a1) (.int .i64 b1) (.int .i64 c1) (.int .i64 d1) (.int .i64 g1) (.int .i64 h1)).set_ 1 (.bool u1)⟩), (sx6_far (D.on k5) (by omega) (.int .i64 a1) (.int .i64 b1) (.int .i64 c1) (.int .i64 d1) (.int .i64 g1) (.int .i64 h1)).far (p := ⟨N + 1 + 1 + 1 + 1, 1, none⟩) (by dsimp only; omega) _, (sx6_far (R0.on k5) (by omega) (.int .i64 a1) (.int .i64 b1) (.int .i64 c1) (.int .i64 d1) (.int .i64 g1) (.int .i64 h1)).far (p := ⟨N + 1 + 1 + 1 + 1, 1, none⟩) (by dsimp only; omega) _, (sx6_far (R1.on k5) (by omega) (.int .i64 a1) (.int .i64 b1) (.int .i64 c1) (.int .i64 d1) (.int .i64 g1) (.int .i64 h1)).far (p := ⟨N + 1 + 1 + 1 + 1, 1, none⟩) (by dsimp only; omega) _, (sx6_below (after H.out k5) hNw (.int .i64 a1) (.int .i64 b1) (.int .i64 c1) (.int .i64 d1) (.int .i64 g1) (.int .i64 h1)).setCell (p := ⟨N + 1 + 1 + 1 + 1, 1, none⟩) (by dsimp only; omega) _⟩
      case measure => simp [intOf]
    · have hc := fun x y => HC2.out (Go.Sort.grow (redrawn _ x) y) (after H.out (below_regrown _ x y))
      have CC := Lib.hid hc
      clear hc
      obtain ⟨u0, uu1, uu2, uu3, uu4, uu5⟩ := U.re6
      obtain ⟨v0, v1, v2⟩ := D.re3
      go_upto_region 5 with (fail)
      refine wp_sched [1, 1, 0, 0, 0, 0, 0, 0, 0, 0, 1, 3, 3, 3] (fun _ _ _ => True) (by kernel_rfl) (by kernel_rfl) (fun _ _ _ _ h _ => h) ?_
      repeat (first | (refine wpQs_s ?_) | (refine wpQs_q (fun K hK => ?_); go_simp; first | (refine hK _ ?_; clear hK K) | (apply Exists.intro; refine ⟨fun _ => ?_, hK _ ?_⟩; (first | exact CC.out _ _ | exact axis_e _ _ _ _ _ rfl _); clear hK K)) | (refine wpQs_f (fun K hK => ?_); go_simp; refine hK _ ?_; clear hK K))
      refine wpQs_nil ?_
      repeat (first | (refine wpLs_skip ?_) | (refine wpLs_one ?lsA (fun v_ => ?_); case lsA => (intro w_ hw_ hp_; (fail))))
      refine wpLs_nilB ?_
      simp only [tails]
      intro W5 k5 _
      clear u0 uu1 uu2 uu3 uu4 uu5 v0 v1 v2
      replace U := U.on k5
      replace T0 := T0.on k5
      have t0 := T0.cell 0
      have tf := T0.frz 0
      obtain ⟨⟨r0, r1, r2, r3, r4, r5⟩, z0, z1, z2, z3, z4, z5⟩ := U.c6
      go_wp2_with fail
      go_roundw
      case rel => exact ⟨.inr (.inr (.inl ⟨rfl, (U.st6 (.int .i64 a2) (.int .i64 b2) (.int .i64 c2) (.int .i64 d2) (.int .i64 g2) (.int .i64 h2)).far (p := ⟨N + 1 + 1 + 1 + 1, 0, none⟩) (by dsimp only; omega) _, (sx6_far T0 (by omega) (.int .i64 a2) (.int .i64 b2) (.int .i64 c2) (.int .i64 d2) (.int .i64 g2) (.int .i64 h2)).set_ 0 (.bool u2)⟩)), (sx6_far (D.on k5) (by omega) (.int .i64 a2) (.int .i64 b2) (.int .i64 c2) (.int .i64 d2) (.int .i64 g2) (.int .i64 h2)).far (p := ⟨N + 1 + 1 + 1 + 1, 0, none⟩) (by dsimp only; omega) _, (sx6_far (R0.on k5) (by omega) (.int .i64 a2) (.int .i64 b2) (.int .i64 c2) (.int .i64 d2) (.int .i64 g2) (.int .i64 h2)).far (p := ⟨N + 1 + 1 + 1 + 1, 0, none⟩) (by dsimp only; omega) _, (sx6_far (R1.on k5) (by omega) (.int .i64 a2) (.int .i64 b2) (.int .i64 c2) (.int .i64 d2) (.int .i64 g2) (.int .i64 h2)).far (p := ⟨N + 1 + 1 + 1 + 1, 0, none⟩) (by dsimp only; omega) _, (sx6_below (after H.out k5) hNw (.int .i64 a2) (.int .i64 b2) (.int .i64 c2) (.int .i64 d2) (.int .i64 g2) (.int .i64 h2)).setCell (p := ⟨N + 1 + 1 + 1 + 1, 0, none⟩) (by dsimp only; omega) _⟩
      case measure => simp [intOf]
    · have hc := fun x y => HC3.out (Go.Sort.grow (redrawn _ x) y) (after H.out (below_regrown _ x y))
      have CC := Lib.hid hc
      clear hc
      obtain ⟨u0, uu1, uu2, uu3, uu4, uu5⟩ := U.re6
      obtain ⟨v0, v1, v2⟩ := D.re3
      go_upto_region 5 with (fail)
      refine wp_sched [1, 1, 0, 0, 0, 0, 0, 0, 0, 0, 1, 3, 3, 3] (fun _ _ _ => True) (by kernel_rfl) (by kernel_rfl) (fun _ _ _ _ h _ => h) ?_
      repeat (first | (refine wpQs_s ?_) | (refine wpQs_q (fun K hK => ?_); go_simp; first | (refine hK _ ?_; clear hK K) | (apply Exists.intro; refine ⟨fun _ => ?_, hK _ ?_⟩; (first | exact CC.out _ _ | exact axis_e _ _ _ _ _ rfl _); clear hK K)) | (refine wpQs_f (fun K hK => ?_); go_simp; refine hK _ ?_; clear hK K))
      refine wpQs_nil ?_
      repeat (first | (refine wpLs_skip ?_) | (refine wpLs_one ?lsA (fun v_ => ?_); case lsA => (intro w_ hw_ hp_; (fail))))
      refine wpLs_nilB ?_
      simp only [tails]
      intro W5 k5 _
      clear u0 uu1 uu2 uu3 uu4 uu5 v0 v1 v2
      replace U := U.on k5
      replace T0 := T0.on k5
      have t2 := T0.cell 2
      have tf := T0.frz 2
      obtain ⟨⟨r0, r1, r2, r3, r4, r5⟩, z0, z1, z2, z3, z4, z5⟩ := U.c6
      go_wp2_with fail
      go_roundw
      case rel => exact ⟨.inr (.inr (.inr ⟨rfl, (U.st6 (.int .i64 a3) (.int .i64 b3) (.int .i64 c3) (.int .i64 d3) (.int .i64 g3) (.int .i64 h3)).far (p := ⟨N + 1 + 1 + 1 + 1, 2, none⟩) (by dsimp only; omega) _, (sx6_far T0 (by omega) (.int .i64 a3) (.int .i64 b3) (.int .i64 c3) (.int .i64 d3) (.int .i64 g3) (.int .i64 h3)).set_ 2 (.bool u3)⟩)), (sx6_far (D.on k5) (by omega) (.int .i64 a3) (.int .i64 b3) (.int .i64 c3) (.int .i64 d3) (.int .i64 g3) (.int .i64 h3)).far (p := ⟨N + 1 + 1 + 1 + 1, 2, none⟩) (by dsimp only; omega) _, (sx6_far (R0.on k5) (by omega) (.int .i64 a3) (.int .i64 b3) (.int .i64 c3) (.int .i64 d3) (.int .i64 g3) (.int .i64 h3)).far (p := ⟨N + 1 + 1 + 1 + 1, 2, none⟩) (by dsimp only; omega) _, (sx6_far (R1.on k5) (by omega) (.int .i64 a3) (.int .i64 b3) (.int .i64 c3) (.int .i64 d3) (.int .i64 g3) (.int .i64 h3)).far (p := ⟨N + 1 + 1 + 1 + 1, 2, none⟩) (by dsimp only; omega) _, (sx6_below (after H.out k5) hNw (.int .i64 a3) (.int .i64 b3) (.int .i64 c3) (.int .i64 d3) (.int .i64 g3) (.int .i64 h3)).setCell (p := ⟨N + 1 + 1 + 1 + 1, 2, none⟩) (by dsimp only; omega) _⟩
      case measure => simp [intOf]
    · have x0 := fun f d os => (U.sp (D := [N + 1 + 1, N + 1 + 1 + 1]) (by simp; omega) f d os).c6.1
      have y0 := fun f d os => (T0.sp (D := [N + 1 + 1, N + 1 + 1 + 1]) (by simp; omega) f d os).c3
      go_upto_region 7 with (fail)
      refine wp_two [0, 0, 2, 2] 2 (N + 1 + 1) 210 (#[.int .i64 a3, .int .i64 b3, .int .i64 c3, .int .i64 d3, .int .i64 g3, .int .i64 h3]) 3 (N + 1 + 1 + 1) 322 (#[.bool u2, .bool u1, .bool u3]) (by omega) (by kernel_rfl) (by kernel_rfl) ?_
      repeat (first | (refine wpQs_s ?_) | (refine wpQs_q (fun K hK => ?_); go_simp; first | (refine hK _ ?_; clear hK K) | (apply Exists.intro; refine ⟨fun _ => ?_, hK _ ?_⟩; (fail); clear hK K)) | (refine wpQs_f (fun K hK => ?_); go_simp; refine hK _ ?_; clear hK K))
      refine wpQs_nil ?_
      repeat (refine wpLs_skip ?_)
      refine wpLs_one ?s1 (fun _ => ?_)
      case s1 =>
        intro w_ hw_ hp_
        have L2 := hp_.blk (by simp [Ds2]) R0
        obtain ⟨⟨q0, q1, q2, q3, q4, q5⟩, f0, f1, f2, f3, f4, f5⟩ := L2.c6
        go_simp
        exact two_fst (by decide) kept6 (L2.st6 _ _ _ _ _ _)
      refine wpLs_one ?s2 (fun _ => ?_)
      case s2 =>
        intro w_ hw_ hp_
        have T2 := hp_.blk (by simp [Ds2]) R1
        obtain ⟨q0, q1, q2, f0, f1, f2⟩ := T2.c3
        go_simp
        exact two_snd (by decide) kept3 (T2.st3 _ _ _)
      refine wpLs_nilD ?_
      simp only [tails]
      rintro w1 k1 ⟨⟨-, r1⟩, r2⟩
      obtain ⟨⟨m0, m1, m2, m3, m4, m5⟩, -, -, -, -, -, -⟩ := (r1.1 rfl).c6
      obtain ⟨j0, j1, j2, -, -, -⟩ := (r2.2 rfl).c3
      clear r1 r2 x0 y0
      go_wp2_with fail
      refine bodyPost_ret (v := .tuple #[.agg #[.int .i64 a3, .int .i64 b3, .int .i64 c3, .int .i64 d3, .int .i64 g3, .int .i64 h3], .agg #[.bool u2, .bool u1, .bool u3]]) (by simp [results, Tryz.f272, go_sem, m0, m1, m2, m3, m4, m5, j0, j1, j2]) rfl ⟨rfl, ?_⟩
      exact H.out.trans (k1.below H.out.size (fun b hb => by simp; omega))
end Go.Proofs.YtmbccnioijokfaaGreatDoor

namespace Go.Proofs.YtmbccnioijokfaaGreatDoor
open Go.RowKit Go.Shelf
attribute [local go_sem] Oper.semAt_some
def zb (b : Bool) (n : Int) : Int := if b then 0 else n
theorem arrb_at (a b c : Bool) (w : World) : (Instr.index 322 (.agg #[.bool a, .bool b, .bool c]) (.int .i64 0)).run Tryz.prog w = .ok (.bool a) w ∧ (Instr.index 322 (.agg #[.bool a, .bool b, .bool c]) (.int .i64 1)).run Tryz.prog w = .ok (.bool b) w ∧ (Instr.index 322 (.agg #[.bool a, .bool b, .bool c]) (.int .i64 2)).run Tryz.prog w = .ok (.bool c) w := by
  refine ⟨?_, ?_, ?_⟩ <;> simp [Instr.index, asIntOf, go_sem]
theorem with_v (x y z a m p q r : Int) (h1 : wiI x a 0 m = p) (h2 : wiI y a 1 m = q) (h3 : wiI z a 2 m = r) (w : World) : Calls Tryz.prog 240 #[.agg #[.int .i64 x, .int .i64 y, .int .i64 z], .int .i64 a, .int .i64 m] w fun e w' => e = .returned (.agg #[.int .i64 p, .int .i64 q, .int .i64 r]) ∧ Below w.heap.size w w' := by
  subst h1 h2 h3; exact with_c x y z a m w
set_option maxRecDepth 100000 in
set_option maxHeartbeats 4000000 in
theorem stop_c (h0 h1 h2 : Bool) (x y z : Int) (w : World) : Calls Tryz.prog 270 #[.agg #[.bool h0, .bool h1, .bool h2], .agg #[.int .i64 x, .int .i64 y, .int .i64 z]] w fun r w' => r = .returned (.agg #[.int .i64 (zb h0 x), .int .i64 (zb h1 y), .int .i64 (zb h2 z)]) ∧ Below w.heap.size w w' := by
  obtain ⟨W, hW⟩ : ∃ W, W = ((w.alloc (.cells #[.bool h0, .bool h1, .bool h2] 322)).alloc (.cells #[.int .i64 x, .int .i64 y, .int .i64 z] 38)).alloc (.cells #[.int .i64 0, .int .i64 0, .int .i64 0] 38) := ⟨_, rfl⟩
  have H : Below w.heap.size w W := by rw [hW]; go_grown
  obtain ⟨N, hN⟩ : ∃ N, N = w.heap.size := ⟨_, rfl⟩
  have A : Blk W N 322 _ := Blk.eqw hW.symm (by rw [hN]; exact ((Blk.new' rfl).alloc _).alloc _)
  have S : Blk W (N + 1) 38 _ := Blk.eqw hW.symm (by rw [hN]; exact (Blk.new' (by simp)).alloc _)
  have R : Blk W (N + 1 + 1) 38 _ := Blk.eqw hW.symm (by rw [hN]; exact Blk.new' (by simp))
  have ix0 := fun w => (arrb_at h0 h1 h2 w).1
  have ix1 := fun w => (arrb_at h0 h1 h2 w).2.1
  have ix2 := fun w => (arrb_at h0 h1 h2 w).2.2
  go_enter Tryz.func270, Tryz.ntmps270
  go_upto_region 1 with (fail)
  rw [← hW, ← hN]
  have HN := Lib.hid hN
  clear hW hN
  obtain ⟨a0, a1, a2, -, -, -⟩ := A.c3
  go_upto_region 2 with (fail)
  go_loopw [5, 6, 8] (fun _ _ kv wr => ((kv = .int .i64 0 ∧ Blk wr (N + 1) 38 #[.int .i64 x, .int .i64 y, .int .i64 z]) ∨ (kv = .int .i64 1 ∧ Blk wr (N + 1) 38 #[.int .i64 (zb h0 x), .int .i64 y, .int .i64 z]) ∨ (kv = .int .i64 2 ∧ Blk wr (N + 1) 38 #[.int .i64 (zb h0 x), .int .i64 (zb h1 y), .int .i64 z]) ∨ (kv = .int .i64 3 ∧ Blk wr (N + 1) 38 #[.int .i64 (zb h0 x), .int .i64 (zb h1 y), .int .i64 (zb h2 z)])) ∧ Blk wr (N + 1 + 1) 38 #[.int .i64 0, .int .i64 0, .int .i64 0] ∧ Hid (Below w.heap.size w wr)) (fun _ _ v _ => 3 - (intOf v).toNat)
  case atStart => exact ⟨.inl ⟨rfl, S⟩, R, H⟩
  case round =>
    clear A S R H a0 a1 a2
    obtain ⟨hd, R, H⟩ := hrel
    have hNw : w.heap.size ≤ N + 1 := by rw [← HN.out]; exact Nat.le_succ _
    rcases hd with ⟨rfl, S⟩ | ⟨rfl, S⟩ | ⟨rfl, S⟩ | ⟨rfl, S⟩
    · cases h0
      · go_wp2_with fail
        go_roundw
        case rel => exact ⟨.inr (.inl ⟨rfl, S⟩), R, H⟩
        case measure => simp [intOf]
      · obtain ⟨s0, s1, s2, t0, t1, t2⟩ := S.c3
        go_wp2_with (go_at_call 240; refine (with_v _ _ _ _ _ _ _ _ rfl rfl rfl _).mono ?_; rintro e_ w5 ⟨rfl, h5⟩; replace S := S.on h5; obtain ⟨s0, s1, s2, t0, t1, t2⟩ := S.c3)
        go_roundw
        case rel => exact ⟨.inr (.inl ⟨rfl, S.st3 _ _ _⟩), (((R.on h5).far (p := ⟨N + 1, 0, none⟩) (by dsimp only; omega) _).far (p := ⟨N + 1, 1, none⟩) (by dsimp only; omega) _).far (p := ⟨N + 1, 2, none⟩) (by dsimp only; omega) _, (((after H.out h5).setCell (p := ⟨N + 1, 0, none⟩) hNw _).setCell (p := ⟨N + 1, 1, none⟩) hNw _).setCell (p := ⟨N + 1, 2, none⟩) hNw _⟩
        case measure => simp [intOf]
    · cases h1
      · go_wp2_with fail
        go_roundw
        case rel => exact ⟨.inr (.inr (.inl ⟨rfl, S⟩)), R, H⟩
        case measure => simp [intOf]
      · obtain ⟨s0, s1, s2, t0, t1, t2⟩ := S.c3
        go_wp2_with (go_at_call 240; refine (with_v _ _ _ _ _ _ _ _ rfl rfl rfl _).mono ?_; rintro e_ w5 ⟨rfl, h5⟩; replace S := S.on h5; obtain ⟨s0, s1, s2, t0, t1, t2⟩ := S.c3)
        go_roundw
        case rel => exact ⟨.inr (.inr (.inl ⟨rfl, S.st3 _ _ _⟩)), (((R.on h5).far (p := ⟨N + 1, 0, none⟩) (by dsimp only; omega) _).far (p := ⟨N + 1, 1, none⟩) (by dsimp only; omega) _).far (p := ⟨N + 1, 2, none⟩) (by dsimp only; omega) _, (((after H.out h5).setCell (p := ⟨N + 1, 0, none⟩) hNw _).setCell (p := ⟨N + 1, 1, none⟩) hNw _).setCell (p := ⟨N + 1, 2, none⟩) hNw _⟩
        case measure => simp [intOf]
    · cases h2
      · go_wp2_with fail
        go_roundw
        case rel => exact ⟨.inr (.inr (.inr ⟨rfl, S⟩)), R, H⟩
        case measure => simp [intOf]
      · obtain ⟨s0, s1, s2, t0, t1, t2⟩ := S.c3
        go_wp2_with (go_at_call 240; refine (with_v _ _ _ _ _ _ _ _ rfl rfl rfl _).mono ?_; rintro e_ w5 ⟨rfl, h5⟩; replace S := S.on h5; obtain ⟨s0, s1, s2, t0, t1, t2⟩ := S.c3)
        go_roundw
        case rel => exact ⟨.inr (.inr (.inr ⟨rfl, S.st3 _ _ _⟩)), (((R.on h5).far (p := ⟨N + 1, 0, none⟩) (by dsimp only; omega) _).far (p := ⟨N + 1, 1, none⟩) (by dsimp only; omega) _).far (p := ⟨N + 1, 2, none⟩) (by dsimp only; omega) _, (((after H.out h5).setCell (p := ⟨N + 1, 0, none⟩) hNw _).setCell (p := ⟨N + 1, 1, none⟩) hNw _).setCell (p := ⟨N + 1, 2, none⟩) hNw _⟩
        case measure => simp [intOf]
    · obtain ⟨s0, s1, s2, -, -, -⟩ := S.c3
      obtain ⟨r0, r1, r2, f0, f1, f2⟩ := R.c3
      replace H := H.out
      have hw2 : w.heap.size ≤ N + 1 + 1 := by omega
      go_wp2_with fail
      have R2 := R.st3 (.int .i64 (zb h0 x)) (.int .i64 (zb h1 y)) (.int .i64 (zb h2 z))
      obtain ⟨d0, d1, d2, -, -, -⟩ := R2.c3
      exact bodyPost_ret (v := .agg #[.int .i64 (zb h0 x), .int .i64 (zb h1 y), .int .i64 (zb h2 z)]) (by simp [results, Tryz.results270, go_sem, d0, d1, d2]) rfl ⟨rfl, by (repeat' (first | (with_reducible exact Below.refl _ _) | (with_reducible assumption) | (with_reducible refine Below.alloc ?_ ?_ _) | (with_reducible refine Below.drew ?_) | (with_reducible refine Below.setCell ?_ ?_ _) | (with_reducible refine after ?_ (below_regrown _ _ _)) | (refine after ?_ (by with_reducible assumption)) | go_size))⟩
end Go.Proofs.YtmbccnioijokfaaGreatDoor

namespace Go.Proofs.YtmbccnioijokfaaGreatDoor
open Go.RowKit
abbrev BD := Int × Int × Int × Int × Int × Int × Int × Int × Bool
abbrev bd9 (b : BD) : Array Value := #[.int .i64 b.1, .int .i64 b.2.1, .int .i64 b.2.2.1, .int .i64 b.2.2.2.1, .int .i64 b.2.2.2.2.1, .int .i64 b.2.2.2.2.2.1, .int .i64 b.2.2.2.2.2.2.1, .int .i64 b.2.2.2.2.2.2.2.1, .bool b.2.2.2.2.2.2.2.2]
def mn3 (x y z : Int) : Int := min (min x y) z
def mx3 (x y z : Int) : Int := max (max x y) z
theorem run_mn3 {P : Program} (ts : Array TypeId) (t : TypeId) (k : IntKind) (x y z : Int) (w : World) : (Builtin.min_ ts t #[.int k x, .int k y, .int k z]).run P w = .ok (.int k (mn3 x y z)) w := by
  have h : mn3 x y z = if z < (if y < x then y else x) then z else (if y < x then y else x) := by unfold mn3; split <;> split <;> omega
  rw [h]
  simp [Builtin.min_, Builtin.min2]
theorem run_mx3 {P : Program} (ts : Array TypeId) (t : TypeId) (k : IntKind) (x y z : Int) (w : World) : (Builtin.max_ ts t #[.int k x, .int k y, .int k z]).run P w = .ok (.int k (mx3 x y z)) w := by
  have h : mx3 x y z = if (if x < y then y else x) < z then z else (if x < y then y else x) := by unfold mx3; split <;> split <;> omega
  rw [h]
  simp [Builtin.max_, Builtin.max2]
def inI (x y z m : Int) : Bool := decide (-m ≤ mn3 x y z) && decide (mx3 x y z ≤ m)
def mayB (b : BD) : Bool := decide (2 ≤ b.2.2.2.2.2.2.1) && decide (b.2.2.2.2.2.2.1 ≤ 131072) && decide (1 ≤ b.2.2.2.2.2.2.2.1) && decide (b.2.2.2.2.2.2.2.1 ≤ 262144) && inI b.1 b.2.1 b.2.2.1 70368744177664 && inI b.2.2.2.1 b.2.2.2.2.1 b.2.2.2.2.2.1 262144
def standI (x y z wd h : Int) : B6 := (subI x (max wd 0 / 2), cutI y, subI z (max wd 0 / 2), addI x (max wd 0 / 2), addI y (max h 0), addI z (max wd 0 / 2))
def boxB (b : BD) : B6 := standI b.1 b.2.1 b.2.2.1 b.2.2.2.2.2.2.1 b.2.2.2.2.2.2.2.1
def clI (n : Int) : Int := mnI (mxI n (-70368744177664)) 70368744177664
def fwI (x d : Int) : Int := subI (clI (addI x d)) x
def walkI (n : Int) : Int := mulI (mnI (mxI n (-65536)) 65536) 16384
def riseI (climbs wet stands jump : Bool) (n : Int) : Int :=
  if climbs then (if jump then 8192 else mxI (n - 4096) (-8192)) else if wet then (if jump then 6144 else mxI (n - 1024) (-8192)) else if jump && stands then 28672 else mxI (n - 4096) (-262144)
section
variable (val : Cl → Int)
def anyB (p : Int → Bool) (x : B6) : Bool := (cellsI x.1 x.2.1 x.2.2.1 x.2.2.2.1 x.2.2.2.2.1 x.2.2.2.2.2).any fun c => p (val c)
def walkB (b : BD) (ix iz : Int) : BD := (b.1, b.2.1, b.2.2.1, walkI ix, b.2.2.2.2.1, walkI iz, b.2.2.2.2.2.2.1, b.2.2.2.2.2.2.2.1, b.2.2.2.2.2.2.2.2)
def riseB (b : BD) (jump : Bool) : BD := (b.1, b.2.1, b.2.2.1, b.2.2.2.1, riseI (anyB val cliB (boxB b)) (anyB val wetB (boxB b)) (unB val (boxB b)) jump b.2.2.2.2.1, b.2.2.2.2.2.1, b.2.2.2.2.2.2.1, b.2.2.2.2.2.2.2.1, b.2.2.2.2.2.2.2.2)
def goV (b : BD) : B6 × Bool × Bool × Bool := stepV val (boxB b) (fwI b.1 b.2.2.2.1) (fwI b.2.1 b.2.2.2.2.1) (fwI b.2.2.1 b.2.2.2.2.2.1) 32768
def putB (b : BD) (o : B6) (r : B6 × Bool × Bool × Bool) (st : Bool) : BD := (addI b.1 (subI r.1.1 o.1), addI b.2.1 (subI r.1.2.1 o.2.1), addI b.2.2.1 (subI r.1.2.2.1 o.2.2.1), zb r.2.1 b.2.2.2.1, zb r.2.2.1 b.2.2.2.2.1, zb r.2.2.2 b.2.2.2.2.2.1, b.2.2.2.2.2.2.1, b.2.2.2.2.2.2.2.1, st)
def goB (b : BD) : BD := putB b (boxB b) (goV val b) (unB val (goV val b).1)
def stepB (b : BD) (ix iz : Int) (jump : Bool) : BD := goB val (riseB val (walkB b ix iz) jump)
end
structure BOk (M : Int) (b : BD) : Prop where
  x : -M ≤ b.1 ∧ b.1 ≤ M
  y : -M ≤ b.2.1 ∧ b.2.1 ≤ M
  z : -M ≤ b.2.2.1 ∧ b.2.2.1 ≤ M
  sx : -262144 ≤ b.2.2.2.1 ∧ b.2.2.2.1 ≤ 262144
  sy : -262144 ≤ b.2.2.2.2.1 ∧ b.2.2.2.2.1 ≤ 262144
  sz : -262144 ≤ b.2.2.2.2.2.1 ∧ b.2.2.2.2.2.1 ≤ 262144
  wd : 2 ≤ b.2.2.2.2.2.2.1 ∧ b.2.2.2.2.2.2.1 ≤ 131072
  ht : 1 ≤ b.2.2.2.2.2.2.2.1 ∧ b.2.2.2.2.2.2.2.1 ≤ 262144
theorem BOk.box {M : Int} {b : BD} (h : BOk M b) (hM : M ≤ 71000000000000) : Sm6 (M + 65536) (boxB b) ∧ boxB b = (b.1 - b.2.2.2.2.2.2.1 / 2, b.2.1, b.2.2.1 - b.2.2.2.2.2.2.1 / 2, b.1 + b.2.2.2.2.2.2.1 / 2, b.2.1 + b.2.2.2.2.2.2.2.1, b.2.2.1 + b.2.2.2.2.2.2.1 / 2) := by
  obtain ⟨x, y, z, sx, sy, sz, wd, ht, st⟩ := b
  obtain ⟨⟨a1, a2⟩, ⟨b1, b2⟩, ⟨c1, c2⟩, -, -, -, ⟨w1, w2⟩, h1, h2⟩ := h
  dsimp only at *
  have e : boxB (x, y, z, sx, sy, sz, wd, ht, st) = (x - wd / 2, y, z - wd / 2, x + wd / 2, y + ht, z + wd / 2) := by
    unfold boxB standI addI subI cutI
    dsimp only
    simp only [Prod.mk.injEq]
    refine ⟨?_, ?_, ?_, ?_, ?_, ?_⟩ <;> omega
  refine ⟨?_, e⟩
  rw [e]
  constructor <;> dsimp only <;> omega
end Go.Proofs.YtmbccnioijokfaaGreatDoor

namespace Go.Proofs.YtmbccnioijokfaaGreatDoor
open Go.RowKit
attribute [local go_sem] Oper.semAt_some
section
variable {w : World} {g : Nat} {t : TypeId} {a b c d e f k l m : Value}
theorem Blk.c9 (h : Blk w g t #[a, b, c, d, e, f, k, l, m]) : (w.cell? ⟨g, 0, none⟩ = some a ∧ w.cell? ⟨g, 1, none⟩ = some b ∧ w.cell? ⟨g, 2, none⟩ = some c ∧ w.cell? ⟨g, 3, none⟩ = some d ∧ w.cell? ⟨g, 4, none⟩ = some e ∧ w.cell? ⟨g, 5, none⟩ = some f ∧ w.cell? ⟨g, 6, none⟩ = some k ∧ w.cell? ⟨g, 7, none⟩ = some l ∧ w.cell? ⟨g, 8, none⟩ = some m) ∧
    w.frozen? ⟨g, 0, none⟩ = false ∧ w.frozen? ⟨g, 1, none⟩ = false ∧ w.frozen? ⟨g, 2, none⟩ = false ∧ w.frozen? ⟨g, 3, none⟩ = false ∧ w.frozen? ⟨g, 4, none⟩ = false ∧ w.frozen? ⟨g, 5, none⟩ = false ∧ w.frozen? ⟨g, 6, none⟩ = false ∧ w.frozen? ⟨g, 7, none⟩ = false ∧ w.frozen? ⟨g, 8, none⟩ = false :=
  ⟨⟨h.cell 0, h.cell 1, h.cell 2, h.cell 3, h.cell 4, h.cell 5, h.cell 6, h.cell 7, h.cell 8⟩, h.frz 0, h.frz 1, h.frz 2, h.frz 3, h.frz 4, h.frz 5, h.frz 6, h.frz 7, h.frz 8⟩
theorem Blk.st9 {a' b' c' d' e' f' k' l' m' : Value} (h : Blk w g t #[a', b', c', d', e', f', k', l', m']) (a b c d e f k l m : Value) : Blk (((((((((w.setCell ⟨g, 0, none⟩ a).setCell ⟨g, 1, none⟩ b).setCell ⟨g, 2, none⟩ c).setCell ⟨g, 3, none⟩ d).setCell ⟨g, 4, none⟩ e).setCell ⟨g, 5, none⟩ f).setCell ⟨g, 6, none⟩ k).setCell ⟨g, 7, none⟩ l).setCell ⟨g, 8, none⟩ m) g t #[a, b, c, d, e, f, k, l, m] := by
  have h0 : Blk _ g t #[a, b', c', d', e', f', k', l', m'] := h.set_ 0 a
  have h1 : Blk _ g t #[a, b, c', d', e', f', k', l', m'] := h0.set_ 1 b
  have h2 : Blk _ g t #[a, b, c, d', e', f', k', l', m'] := h1.set_ 2 c
  have h3 : Blk _ g t #[a, b, c, d, e', f', k', l', m'] := h2.set_ 3 d
  have h4 : Blk _ g t #[a, b, c, d, e, f', k', l', m'] := h3.set_ 4 e
  have h5 : Blk _ g t #[a, b, c, d, e, f, k', l', m'] := h4.set_ 5 f
  have h6 : Blk _ g t #[a, b, c, d, e, f, k, l', m'] := h5.set_ 6 k
  have h7 : Blk _ g t #[a, b, c, d, e, f, k, l, m'] := h6.set_ 7 l
  have h8 : Blk _ g t #[a, b, c, d, e, f, k, l, m] := h7.set_ 8 m
  exact h8
theorem sx9_far {N : Nat} {cs : Array Value} (V : Blk w g t cs) (h : g ≠ N) (a b c d e f k l m : Value) : Blk (((((((((w.setCell ⟨N, 0, none⟩ a).setCell ⟨N, 1, none⟩ b).setCell ⟨N, 2, none⟩ c).setCell ⟨N, 3, none⟩ d).setCell ⟨N, 4, none⟩ e).setCell ⟨N, 5, none⟩ f).setCell ⟨N, 6, none⟩ k).setCell ⟨N, 7, none⟩ l).setCell ⟨N, 8, none⟩ m) g t cs :=
  ((((((((V.far (p := ⟨N, 0, none⟩) h _).far (p := ⟨N, 1, none⟩) h _).far (p := ⟨N, 2, none⟩) h _).far (p := ⟨N, 3, none⟩) h _).far (p := ⟨N, 4, none⟩) h _).far (p := ⟨N, 5, none⟩) h _).far (p := ⟨N, 6, none⟩) h _).far (p := ⟨N, 7, none⟩) h _).far (p := ⟨N, 8, none⟩) h _
theorem sx9_below {w0 : World} {N n : Nat} (H : Below n w0 w) (h : n ≤ N) (a b c d e f k l m : Value) : Below n w0 (((((((((w.setCell ⟨N, 0, none⟩ a).setCell ⟨N, 1, none⟩ b).setCell ⟨N, 2, none⟩ c).setCell ⟨N, 3, none⟩ d).setCell ⟨N, 4, none⟩ e).setCell ⟨N, 5, none⟩ f).setCell ⟨N, 6, none⟩ k).setCell ⟨N, 7, none⟩ l).setCell ⟨N, 8, none⟩ m) :=
  ((((((((H.setCell (p := ⟨N, 0, none⟩) h _).setCell (p := ⟨N, 1, none⟩) h _).setCell (p := ⟨N, 2, none⟩) h _).setCell (p := ⟨N, 3, none⟩) h _).setCell (p := ⟨N, 4, none⟩) h _).setCell (p := ⟨N, 5, none⟩) h _).setCell (p := ⟨N, 6, none⟩) h _).setCell (p := ⟨N, 7, none⟩) h _).setCell (p := ⟨N, 8, none⟩) h _
end
theorem wi20_c (x y z m : Int) (hm : 0 ≤ m ∧ m ≤ 70368744177664) (w : World) : Calls Tryz.prog 180 #[.agg #[.int .i64 x, .int .i64 y, .int .i64 z], .int .i64 m] w fun r w' => r = .returned (.bool (inI x y z m)) ∧ Below w.heap.size w w' := by
  have hmn := @run_mn3 Tryz.prog
  have hmx := @run_mx3 Tryz.prog
  have q : -9223372036854775808 ≤ -m ∧ -m ≤ 9223372036854775807 := by omega
  obtain ⟨q1, q2⟩ := q
  clear hm
  unfold inI
  by_cases h1 : -m ≤ mn3 x y z
  · by_cases h2 : mx3 x y z ≤ m
    · go_enter Tryz.func180, Tryz.ntmps180
      go_wp2_with fail
      go_returns
      exact ⟨by simp [h1, h2], by (repeat' (first | (with_reducible exact Below.refl _ _) | (with_reducible assumption) | (with_reducible refine Below.alloc ?_ ?_ _) | (with_reducible refine Below.drew ?_) | (with_reducible refine Below.setCell ?_ ?_ _) | (with_reducible refine after ?_ (below_regrown _ _ _)) | (refine after ?_ (by with_reducible assumption)) | go_size))⟩
    · go_enter Tryz.func180, Tryz.ntmps180
      go_wp2_with fail
      go_returns
      exact ⟨by simp [h2], by (repeat' (first | (with_reducible exact Below.refl _ _) | (with_reducible assumption) | (with_reducible refine Below.alloc ?_ ?_ _) | (with_reducible refine Below.drew ?_) | (with_reducible refine Below.setCell ?_ ?_ _) | (with_reducible refine after ?_ (below_regrown _ _ _)) | (refine after ?_ (by with_reducible assumption)) | go_size))⟩
  · go_enter Tryz.func180, Tryz.ntmps180
    go_wp2_with fail
    go_returns
    exact ⟨by simp; omega, by (repeat' (first | (with_reducible exact Below.refl _ _) | (with_reducible assumption) | (with_reducible refine Below.alloc ?_ ?_ _) | (with_reducible refine Below.drew ?_) | (with_reducible refine Below.setCell ?_ ?_ _) | (with_reducible refine after ?_ (below_regrown _ _ _)) | (refine after ?_ (by with_reducible assumption)) | go_size))⟩
set_option maxRecDepth 100000 in
set_option maxHeartbeats 4000000 in
theorem bbox_c (b : BD) (hw : b.2.2.2.2.2.2.1 ≤ 9223372036854775807) (w : World) : Calls Tryz.prog 139 #[.agg (bd9 b)] w fun r w' => r = .returned (.agg (ag6 (boxB b))) ∧ Below w.heap.size w w' := by
  obtain ⟨x, y, z, sx, sy, sz, wd, ht, st⟩ := b
  dsimp only at hw
  have HS := Lib.hid (fun W => stand_c x y z wd ht hw W)
  clear hw
  simp only [boxB, standI, ag6, bd9]
  obtain ⟨W, hW⟩ : ∃ W, W = (w.alloc (.cells #[.int .i64 x, .int .i64 y, .int .i64 z, .int .i64 sx, .int .i64 sy, .int .i64 sz, .int .i64 wd, .int .i64 ht, .bool st] 40)).alloc (.cells #[.int .i64 0, .int .i64 0, .int .i64 0, .int .i64 0, .int .i64 0, .int .i64 0] 210) := ⟨_, rfl⟩
  have H : Below w.heap.size w W := by rw [hW]; go_grown
  have R0 : Blk W (w.heap.size + 1) 210 _ := Blk.eqw hW.symm (Blk.new' (by simp))
  have B0 : Blk W w.heap.size 40 _ := Blk.eqw hW.symm ((Blk.new' rfl).alloc _)
  go_enter Tryz.func139, Tryz.ntmps139
  go_upto_region 1 with (fail)
  rw [← hW]
  clear hW
  obtain ⟨⟨b0, b1, b2, b3, b4, b5, b6, b7, b8⟩, -⟩ := B0.c9
  go_wp2_with (go_at_call 184; refine (HS.out _).mono ?_; rintro e_ w1 ⟨rfl, h1⟩; have R := R0.on h1; obtain ⟨⟨r0, r1, r2, r3, r4, r5⟩, s0, s1, s2, s3, s4, s5⟩ := R.c6)
  have R2 := R.st6 (.int .i64 (subI x (max wd 0 / 2))) (.int .i64 (cutI y)) (.int .i64 (subI z (max wd 0 / 2))) (.int .i64 (addI x (max wd 0 / 2))) (.int .i64 (addI y (max ht 0))) (.int .i64 (addI z (max wd 0 / 2)))
  obtain ⟨⟨d0, d1, d2, d3, d4, d5⟩, -, -, -, -, -, -⟩ := R2.c6
  exact bodyPost_ret (v := .agg #[.int .i64 (subI x (max wd 0 / 2)), .int .i64 (cutI y), .int .i64 (subI z (max wd 0 / 2)), .int .i64 (addI x (max wd 0 / 2)), .int .i64 (addI y (max ht 0)), .int .i64 (addI z (max wd 0 / 2))]) (by simp [results, Tryz.results139, go_sem, d0, d1, d2, d3, d4, d5]) rfl ⟨rfl, by (repeat' (first | (with_reducible exact Below.refl _ _) | (with_reducible assumption) | (with_reducible refine Below.alloc ?_ ?_ _) | (with_reducible refine Below.drew ?_) | (with_reducible refine Below.setCell ?_ ?_ _) | (with_reducible refine after ?_ (below_regrown _ _ _)) | (refine after ?_ (by with_reducible assumption)) | go_size))⟩
set_option maxRecDepth 100000 in
set_option maxHeartbeats 8000000 in
theorem bmay_c (b : BD) (w : World) : Calls Tryz.prog 135 #[.agg (bd9 b)] w fun r w' => r = .returned (.bool (mayB b)) ∧ Below w.heap.size w w' := by
  obtain ⟨x, y, z, sx, sy, sz, wd, ht, st⟩ := b
  have C1 := fun W => wi20_c x y z 70368744177664 ⟨by decide, by decide⟩ W
  have C2 := fun W => wi20_c sx sy sz 262144 ⟨by decide, by decide⟩ W
  unfold mayB
  dsimp only
  generalize inI x y z 70368744177664 = p1 at C1 ⊢
  generalize inI sx sy sz 262144 = p2 at C2 ⊢
  have D1 := Lib.hid C1
  have D2 := Lib.hid C2
  clear C1 C2
  obtain ⟨W, hW⟩ : ∃ W, W = w.alloc (.cells #[.int .i64 x, .int .i64 y, .int .i64 z, .int .i64 sx, .int .i64 sy, .int .i64 sz, .int .i64 wd, .int .i64 ht, .bool st] 40) := ⟨_, rfl⟩
  have H : Below w.heap.size w W := by rw [hW]; go_grown
  have B0 : Blk W w.heap.size 40 _ := Blk.eqw hW.symm (Blk.new' rfl)
  simp only [bd9]
  obtain ⟨⟨b0, b1, b2, b3, b4, b5, b6, b7, b8⟩, -⟩ := B0.c9
  by_cases h1 : 2 ≤ wd
  · by_cases h2 : wd ≤ 131072
    · by_cases h3 : 1 ≤ ht
      · by_cases h4 : ht ≤ 262144
        · have e : (decide (2 ≤ wd) && decide (wd ≤ 131072) && decide (1 ≤ ht) && decide (ht ≤ 262144) && p1 && p2) = (p1 && p2) := by simp [h1, h2, h3, h4]
          rw [e]
          cases p1
          · go_enter Tryz.func135, Tryz.ntmps135
            go_upto_region 1 with (fail)
            rw [← hW]
            clear hW
            go_wp2_with (go_at_call 180; refine (D1.out _).mono ?_; rintro e_ w1 ⟨rfl, k1⟩)
            go_returns
            exact ⟨by simp, after H k1⟩
          · go_enter Tryz.func135, Tryz.ntmps135
            go_upto_region 1 with (fail)
            rw [← hW]
            clear hW
            go_wp2_with (go_at_call 180; first | (refine (D1.out _).mono ?_; rintro e_ w1 ⟨rfl, k1⟩; clear D1; obtain ⟨⟨b0, b1, b2, b3, b4, b5, b6, b7, b8⟩, -⟩ := (B0.on k1).c9) | (refine (D2.out _).mono ?_; rintro e_ w2 ⟨rfl, k2⟩))
            go_returns
            exact ⟨by simp, after (after H k1) k2⟩
        · have e : (decide (2 ≤ wd) && decide (wd ≤ 131072) && decide (1 ≤ ht) && decide (ht ≤ 262144) && p1 && p2) = false := by simp [h4]
          rw [e]
          go_enter Tryz.func135, Tryz.ntmps135
          go_upto_region 1 with (fail)
          rw [← hW]
          clear hW D1 D2
          go_wp2_with fail
          go_returns
          exact ⟨by simp, H⟩
      · have e : (decide (2 ≤ wd) && decide (wd ≤ 131072) && decide (1 ≤ ht) && decide (ht ≤ 262144) && p1 && p2) = false := by simp [h3]
        rw [e]
        go_enter Tryz.func135, Tryz.ntmps135
        go_upto_region 1 with (fail)
        rw [← hW]
        clear hW D1 D2
        go_wp2_with fail
        go_returns
        exact ⟨by simp, H⟩
    · have e : (decide (2 ≤ wd) && decide (wd ≤ 131072) && decide (1 ≤ ht) && decide (ht ≤ 262144) && p1 && p2) = false := by simp [h2]
      rw [e]
      go_enter Tryz.func135, Tryz.ntmps135
      go_upto_region 1 with (fail)
      rw [← hW]
      clear hW D1 D2
      go_wp2_with fail
      go_returns
      exact ⟨by simp, H⟩
  · have e : (decide (2 ≤ wd) && decide (wd ≤ 131072) && decide (1 ≤ ht) && decide (ht ≤ 262144) && p1 && p2) = false := by simp [h1]
    rw [e]
    go_enter Tryz.func135, Tryz.ntmps135
    go_upto_region 1 with (fail)
    rw [← hW]
    clear hW D1 D2
    go_wp2_with fail
    go_returns
    exact ⟨by simp, H⟩
end Go.Proofs.YtmbccnioijokfaaGreatDoor

namespace Go.Proofs.YtmbccnioijokfaaGreatDoor
section
variable {val : Cl → Int} {M : Int} {x : B6}
theorem walk_bd (n : Int) : -16384 ≤ walkI n ∧ walkI n ≤ 16384 := by
  unfold walkI mnI mxI
  rw [mulI_p (p := cutI (min (max n (-65536)) 65536) * 16384) (by rw [cutI_id (n := 16384) (by decide) (by decide)])]
  unfold cutI
  omega
theorem rise_bd (c w s j : Bool) {n : Int} (h : -262144 ≤ n ∧ n ≤ 262144) : -262144 ≤ riseI c w s j n ∧ riseI c w s j n ≤ 262144 := by
  unfold riseI mxI
  split
  · split <;> omega
  · split
    · split <;> omega
    · split <;> omega
theorem BOk.walk {b : BD} (h : BOk M b) (ix iz : Int) : BOk M (walkB b ix iz) := by
  obtain ⟨hx, hy, hz, sx, sy, sz, hw, hh⟩ := h
  have w1 := walk_bd ix
  have w2 := walk_bd iz
  exact ⟨hx, hy, hz, by dsimp only [walkB]; omega, sy, by dsimp only [walkB]; omega, hw, hh⟩
theorem BOk.rise {b : BD} (h : BOk M b) (val : Cl → Int) (j : Bool) : BOk M (riseB val b j) := by
  obtain ⟨hx, hy, hz, sx, sy, sz, hw, hh⟩ := h
  exact ⟨hx, hy, hz, sx, rise_bd _ _ _ _ sy, sz, hw, hh⟩
theorem BOk.mono {M' : Int} {b : BD} (h : BOk M b) (hm : M ≤ M') : BOk M' b := by
  obtain ⟨hx, hy, hz, sx, sy, sz, hw, hh⟩ := h
  exact ⟨by omega, by omega, by omega, sx, sy, sz, hw, hh⟩
end
end Go.Proofs.YtmbccnioijokfaaGreatDoor

namespace Go.Proofs.YtmbccnioijokfaaGreatDoor
abbrev V3 := Int × Int × Int
section
variable {M : Int} {a b : BD}
end
end Go.Proofs.YtmbccnioijokfaaGreatDoor

namespace Go.Proofs.YtmbccnioijokfaaGreatDoor
section
variable {val : Cl → Int} {M : Int} {l : List BD}
structure AllOk (val : Cl → Int) (M : Int) (l0 l : List BD) : Prop where
  len : l.length = l0.length
  ok : ∀ (i : Nat) (b : BD), l[i]? = some b → BOk M b
  free : ∀ (i : Nat) (a b : BD), l0[i]? = some a → l[i]? = some b → blk6 val (boxB a) = false → blk6 val (boxB b) = false
theorem AllOk.mono {M' : Int} {l0 : List BD} (h : AllOk val M l0 l) (hm : M ≤ M') : AllOk val M' l0 l := ⟨h.len, fun i b hi => (h.ok i b hi).mono hm, h.free⟩
end
end Go.Proofs.YtmbccnioijokfaaGreatDoor

namespace Go.Proofs.YtmbccnioijokfaaGreatDoor
open Go.ChangeShapes Go.WideShapes Go.ChangeAt Go.RowKit
section
variable {H : Type} {enc : TypeId × Value → H} {P : Program}
def enBd (b : BD) : List Value := (bd9 b).toList
end
end Go.Proofs.YtmbccnioijokfaaGreatDoor

namespace Go.Proofs.YtmbccnioijokfaaGreatDoor
open Go.RowKit
def Rwb (w : World) (g : Nat) (t : TypeId) (l : List BD) : Prop := ∃ cur : Array Value, Blk w g t cur ∧ ∀ (i : Nat) (b : BD), l[i]? = some b → ∀ (j : Nat) (u : Value), (enBd b)[j]? = some u → cur[i * 9 + j]? = some u
section
variable {w w' : World} {g : Nat} {t : TypeId} {l : List BD} {i : Nat} {b : BD}
end
def BRow (w : World) (n : Nat) (t : TypeId) (v : Value) (l : List BD) : Prop := ∃ q cap, v = .slice q l.length cap ∧ l.length ≤ cap ∧ cap ≤ maxLen ∧ (0 < l.length → ∃ g, q = some ⟨g, 0, none⟩ ∧ n ≤ g ∧ Rwb w g t l)
theorem BRow.of {w : World} {n : Nat} {t : TypeId} {v : Value} {l : List BD} (h : Owns w n t 9 enBd v l) : BRow w n t v l := by
  obtain ⟨q, cap, hv, h1, h2, -, -, -⟩ := Owns.form (size := 9) (enc := enBd) (fun _ => rfl) h
  refine ⟨q, cap, hv, h1, h2, fun hn => ?_⟩
  rcases h.2 with ⟨-, h0⟩ | ⟨g, cap', cur, hv', hb, hg, hc, hm, hs, ht⟩
  · omega
  · rw [hv] at hv'
    injection hv' with e1 e2 e3
    refine ⟨g, e1, hb, cur, hg, fun i b hi j u hu => ?_⟩
    have h3 := flat_at (size := 9) (enc := enBd) (fun _ => rfl) l i b hi j u hu
    rw [← ht] at h3
    have h4 := (List.getElem?_eq_some_iff.1 h3).1
    rw [List.length_take] at h4
    rw [List.getElem?_take_of_lt (by omega)] at h3
    simpa using h3
end Go.Proofs.YtmbccnioijokfaaGreatDoor

namespace Go.Proofs.YtmbccnioijokfaaGreatDoor
open Go.RowKit
attribute [local go_sem] Oper.semAt_some
theorem infBd : (Tryz.prog.info? 40).map (fun i => (i.zero, i.size, i.bytes)) = some (some (.agg #[.int .i64 0, .int .i64 0, .int .i64 0, .int .i64 0, .int .i64 0, .int .i64 0, .int .i64 0, .int .i64 0, .bool false]), 9, 72) := by kernel_rfl
theorem oneB (b : BD) : ∀ u ∈ enBd b, u.oneCell' = true := by
  obtain ⟨x, y, z, sx, sy, sz, wd, ht, st⟩ := b
  simp [enBd, Value.oneCell']
theorem owns_empty {w : World} {t : TypeId} : Owns (w.alloc (.cells #[] t)) w.heap.size t 9 enBd (.slice (some ⟨w.heap.size, 0, none⟩) 0 0) [] := by
  refine ⟨by simp, .inr ⟨w.heap.size, 0, #[], rfl, Nat.le_refl _, Blk.new' rfl, by simp, by decide, by simp, by simp⟩⟩
theorem rd_bd {w : World} {q : Option Addr} {l : List BD} {n : Nat} (h : Rd w q 9 enBd l) (hq : q = none) (hl : l.length = n) : n = 0 ∧ l = [] := by
  have hn : ¬ 0 < l.length := fun hn => by
    obtain ⟨g, o, e, -⟩ := h hn
    rw [hq] at e
    cases e
  have h0 : l.length = 0 := by omega
  exact ⟨by omega, List.length_eq_zero_iff.1 h0⟩
set_option maxRecDepth 100000 in
set_option maxHeartbeats 8000000 in
theorem clone_bd (q : Option Addr) (n c : Nat) (l : List BD) (hl : l.length = n) (hc : n ≤ c) (hn : n ≤ 1000000) (w : World) (h : Rd w q 9 enBd l) :
    Calls Tryz.prog 199 #[.slice q n c] w fun r w' => ∃ v, r = .returned v ∧ Owns w' w.heap.size 40 9 enBd v l ∧ Below w.heap.size w w' := by
  have hnl : ∀ (w : World) (a : Option Addr) (n c n' c' : Nat), (binOp .eql 218 (.slice a n c) (.slice none n' c')).run Tryz.prog w = .ok (.bool a.isNone) w := fun w a n c n' c' => Lib.run_eql_slice_nil w _ _ a n c n' c' Tryz.underlying218
  cases hq : q with
  | none =>
    obtain ⟨rfl, rfl⟩ := rd_bd h hq hl
    subst hq
    go_enter Tryz.func199, Tryz.ntmps199
    go_wp2_with fail
    go_returns
    exact ⟨_, rfl, Owns.nil, Below.refl _ _⟩
  | some a =>
    rw [hq] at h
    have hB : Below w.heap.size w (w.alloc (.cells #[] 40)) := (Below.refl _ _).alloc (Nat.le_refl _) _
    obtain ⟨v1, w5, hrun1, O1, hb1⟩ := run_rows (P := Tryz.prog) (ts := 218) (ty := 218) (enc := enBd) (w := w.alloc (.cells #[] 40)) (base := w.heap.size) (xs := ([] : List BD)) (ys := l) (q := some a) (m := n) (c := c) (v := .slice (some ⟨w.heap.size, 0, none⟩) 0 0) Tryz.underlying218 infBd rfl (by decide) (by decide) (fun _ => rfl) (fun b _ => oneB b) owns_empty hl hc (h.on hB) (by simp; omega) hB.size
    rw [List.nil_append] at O1
    have HO := Lib.hid (And.intro O1 (hB.trans hb1))
    clear O1 hb1 hB h hl hc hn hq
    go_enter Tryz.func199, Tryz.ntmps199
    go_wp2_with (at_builtin; refine Lib.wpList_append_run _ rfl _ _ _ _ rfl _ _ rfl rfl _ _ hrun1 ?_)
    go_returns
    exact ⟨_, rfl, HO.out.1, HO.out.2⟩
end Go.Proofs.YtmbccnioijokfaaGreatDoor

namespace Go.Proofs.YtmbccnioijokfaaGreatDoor
open Go.RowKit
attribute [local go_sem] Oper.semAt_some
theorem bcut1_c (n : Int) (w : World) : Calls Tryz.prog 316 #[.int .i64 n] w fun r w' => r = .returned (.int .i64 (clI n)) ∧ Below w.heap.size w w' := by
  have hmn := @run_mn Tryz.prog
  have hmx := @run_mx Tryz.prog
  go_enter Tryz.func316, Tryz.ntmps316
  go_wp2_with fail
  go_returns
  exact ⟨rfl, Below.refl _ _⟩
set_option maxRecDepth 100000 in
set_option maxHeartbeats 8000000 in
theorem bcut_c (b : BD) (dx dy dz : Int) (w : World) : Calls Tryz.prog 269 #[.agg (bd9 b), .agg #[.int .i64 dx, .int .i64 dy, .int .i64 dz]] w fun r w' => r = .returned (.agg #[.int .i64 (fwI b.1 dx), .int .i64 (fwI b.2.1 dy), .int .i64 (fwI b.2.2.1 dz)]) ∧ Below w.heap.size w w' := by
  obtain ⟨x, y, z, sx, sy, sz, wd, ht, st⟩ := b
  unfold fwI
  simp only [bd9]
  have HA := Lib.hid (fun W => add_c x y z dx dy dz W)
  have HS := Lib.hid (fun W => sub_c (clI (addI x dx)) (clI (addI y dy)) (clI (addI z dz)) x y z W)
  generalize addI x dx = a1 at HA HS ⊢
  generalize addI y dy = a2 at HA HS ⊢
  generalize addI z dz = a3 at HA HS ⊢
  obtain ⟨N, hN⟩ : ∃ N, N = w.heap.size := ⟨_, rfl⟩
  obtain ⟨W, hW⟩ : ∃ W, W = ((w.alloc (.cells #[.int .i64 x, .int .i64 y, .int .i64 z, .int .i64 sx, .int .i64 sy, .int .i64 sz, .int .i64 wd, .int .i64 ht, .bool st] 40)).alloc (.cells #[.int .i64 dx, .int .i64 dy, .int .i64 dz] 38)).alloc (.cells #[.int .i64 0, .int .i64 0, .int .i64 0] 38) := ⟨_, rfl⟩
  have H : Below w.heap.size w W := by rw [hW]; go_grown
  have B : Blk W N 40 _ := Blk.eqw hW.symm (by rw [hN]; exact ((Blk.new' rfl).alloc _).alloc _)
  have D : Blk W (N + 1) 38 _ := Blk.eqw hW.symm (by rw [hN]; exact (Blk.new' (by simp)).alloc _)
  have R : Blk W (N + 1 + 1) 38 _ := Blk.eqw hW.symm (by rw [hN]; exact Blk.new' (by simp))
  go_enter Tryz.func269, Tryz.ntmps269
  go_upto_region 1 with (fail)
  rw [← hW, ← hN]
  have HN := Lib.hid hN
  clear hW hN
  have b0 := B.cell 0
  have b1 := B.cell 1
  have b2 := B.cell 2
  simp at b0 b1 b2
  obtain ⟨d0, d1, d2, -, -, -⟩ := D.c3
  go_upto_region 2 with (go_at_call 195; refine (HA.out _).mono ?_; rintro e_ w1 ⟨rfl, k1⟩)
  generalize hV : World.alloc w1 _ = W1
  have T : Blk W1 w1.heap.size 38 #[.int .i64 a1, .int .i64 a2, .int .i64 a3] := Blk.eqw hV (Blk.new' rfl)
  have h1 : Below w1.heap.size w1 W1 := by rw [← hV]; exact (Below.refl _ _).alloc (Nat.le_refl _) _
  have k2 := after k1 h1
  have HB := Lib.hid (B.on k2)
  have HR := Lib.hid (R.on k2)
  have HH := Lib.hid (after H k2)
  have HT := Lib.hid T
  generalize w1.heap.size = g at HT ⊢
  clear hV h1 k1 k2 B D R H b0 b1 b2 d0 d1 d2 T HA
  have b0 := fun d os => (HB.out.re d os).cell 0
  have b1 := fun d os => (HB.out.re d os).cell 1
  have b2 := fun d os => (HB.out.re d os).cell 2
  simp at b0 b1 b2
  have t0 := fun d os => (HT.out.re d os).cell 0
  have t1 := fun d os => (HT.out.re d os).cell 1
  have t2 := fun d os => (HT.out.re d os).cell 2
  simp at t0 t1 t2
  go_upto_region 3 with (fail)
  refine wp_region_last_below 16 (by kernel_rfl) rfl (by kernel_rfl) ?_
  simp only [List.take_succ_cons, List.take_zero, List.drop_succ_cons, List.drop_zero]
  repeat (go_big_quiet_step (first | (with_reducible exact Calls.regrown_of (bcut1_c _ _)) | (with_reducible exact Calls.regrown_of (HS.out _))))
  refine wpQuiet_nil ?_
  intro w' hw'
  obtain ⟨rg, rfl⟩ := hw'
  clear b0 b1 b2 t0 t1 t2
  have R := HR.out.re rg.d rg.os
  obtain ⟨r0, r1, r2, s0, s1, s2⟩ := R.c3
  have H := HH.out
  have hNw : w.heap.size ≤ N + 1 + 1 := by have := HN.out; omega
  go_wp2_with fail
  have R2 := R.st3 (.int .i64 (subI (clI a1) x)) (.int .i64 (subI (clI a2) y)) (.int .i64 (subI (clI a3) z))
  obtain ⟨d0, d1, d2, -, -, -⟩ := R2.c3
  exact bodyPost_ret (v := .agg #[.int .i64 (subI (clI a1) x), .int .i64 (subI (clI a2) y), .int .i64 (subI (clI a3) z)]) (by simp [results, Tryz.results269, go_sem, d0, d1, d2]) rfl ⟨rfl, by (repeat' (first | (with_reducible exact Below.refl _ _) | (with_reducible assumption) | (with_reducible refine Below.alloc ?_ ?_ _) | (with_reducible refine Below.drew ?_) | (with_reducible refine Below.setCell ?_ ?_ _) | (with_reducible refine after ?_ (below_regrown _ _ _)) | (refine after ?_ (by with_reducible assumption)) | go_size))⟩
theorem bwalk1_c (n : Int) (w : World) : Calls Tryz.prog 263 #[.int .i64 n] w fun r w' => r = .returned (.int .i64 (walkI n)) ∧ Below w.heap.size w w' := by
  have hmn := @run_mn Tryz.prog
  have hmx := @run_mx Tryz.prog
  unfold walkI
  go_enter Tryz.func263, Tryz.ntmps263
  go_wp2_with (go_at_call 264; refine (fmul_c _ _ _).mono ?_; rintro e_ w1 ⟨rfl, k1⟩)
  go_returns
  exact ⟨rfl, k1⟩
end Go.Proofs.YtmbccnioijokfaaGreatDoor

namespace Go.Proofs.YtmbccnioijokfaaGreatDoor
open Go.RowKit
attribute [local go_sem] Oper.semAt_some
def WkI (N : Nat) (t : TypeId) (x y z sy wd ht a c : Int) (st : Bool) : InvT := fun S _ w => ∃ p q : Int, Blk w N t #[.int .i64 x, .int .i64 y, .int .i64 z, .int .i64 p, .int .i64 sy, .int .i64 q, .int .i64 wd, .int .i64 ht, .bool st] ∧ (S 10 → p = a) ∧ (S 13 → q = c)
section
variable {N : Nat} {t : TypeId} {x y z sy wd ht a c : Int} {st : Bool} {S : Nat → Prop} {V : Nat → Value} {w w' : World}
theorem wkI_zero {p q : Int} (h : Blk w N t #[.int .i64 x, .int .i64 y, .int .i64 z, .int .i64 p, .int .i64 sy, .int .i64 q, .int .i64 wd, .int .i64 ht, .bool st]) : WkI N t x y z sy wd ht a c st (fun _ => False) V w := ⟨p, q, h, fun h => h.elim, fun h => h.elim⟩
theorem WkI.below (h : WkI N t x y z sy wd ht a c st S V w) (k : Below w.heap.size w w') : WkI N t x y z sy wd ht a c st S V w' := by
  obtain ⟨p, q, h1, h2⟩ := h
  exact ⟨p, q, h1.on k, h2⟩
theorem WkI.one {p q : Int} {v : Value} (h : Blk w N t #[.int .i64 x, .int .i64 y, .int .i64 z, .int .i64 p, .int .i64 sy, .int .i64 q, .int .i64 wd, .int .i64 ht, .bool st]) (hq : S 13 → q = c) :
    WkI N t x y z sy wd ht a c st (andOf S 10) (upd V 10 v) (w.setCell ⟨N, 3, none⟩ (.int .i64 a)) := ⟨a, q, h.set_ 3 _, fun _ => rfl, fun e => hq (e.resolve_left (by decide))⟩
theorem WkI.two {p q : Int} {v : Value} (h : Blk w N t #[.int .i64 x, .int .i64 y, .int .i64 z, .int .i64 p, .int .i64 sy, .int .i64 q, .int .i64 wd, .int .i64 ht, .bool st]) (hp : S 10 → p = a) :
    WkI N t x y z sy wd ht a c st (andOf S 13) (upd V 13 v) (w.setCell ⟨N, 5, none⟩ (.int .i64 c)) := ⟨p, c, h.set_ 5 _, fun e => hp (e.resolve_left (by decide)), fun _ => rfl⟩
end
theorem kept_one {w : World} {N i : Nat} (u : Value) : Kept (fun c => c ≠ N) w (w.setCell ⟨N, i, none⟩ u) := (Kept.refl _ _).setCell (by simp) _
set_option maxRecDepth 100000 in
set_option maxHeartbeats 8000000 in
theorem bwalks_c (b : BD) (V : Value) (ix iz : Int) (j : Bool) (w : World) : Calls Tryz.prog 196 #[.agg (bd9 b), V, .agg #[.int .i64 ix, .int .i64 iz, .bool j]] w fun r w' => r = .returned (.agg (bd9 (walkB b ix iz))) ∧ Below w.heap.size w w' := by
  obtain ⟨x, y, z, sx, sy, sz, wd, ht, st⟩ := b
  unfold walkB
  simp only [bd9]
  have HX := Lib.hid (fun W => bwalk1_c ix W)
  have HZ := Lib.hid (fun W => bwalk1_c iz W)
  generalize walkI ix = a at HX ⊢
  generalize walkI iz = c at HZ ⊢
  obtain ⟨N, hN⟩ : ∃ N, N = w.heap.size := ⟨_, rfl⟩
  obtain ⟨W, hW⟩ : ∃ W, W = ((w.alloc (.cells #[.int .i64 x, .int .i64 y, .int .i64 z, .int .i64 sx, .int .i64 sy, .int .i64 sz, .int .i64 wd, .int .i64 ht, .bool st] 40)).alloc (.cells #[.int .i64 ix, .int .i64 iz, .bool j] 81)).alloc (.cells #[.int .i64 0, .int .i64 0, .int .i64 0, .int .i64 0, .int .i64 0, .int .i64 0, .int .i64 0, .int .i64 0, .bool false] 40) := ⟨_, rfl⟩
  have H : Below w.heap.size w W := by rw [hW]; go_grown
  have B : Blk W N 40 _ := Blk.eqw hW.symm (by rw [hN]; exact ((Blk.new' rfl).alloc _).alloc _)
  have D : Blk W (N + 1) 81 _ := Blk.eqw hW.symm (by rw [hN]; exact (Blk.new' (by simp)).alloc _)
  have R : Blk W (N + 1 + 1) 40 _ := Blk.eqw hW.symm (by rw [hN]; exact Blk.new' (by simp))
  have d0 := fun f d os => (D.sp (D := [N]) (by simp) f d os).cell 0
  have d1 := fun f d os => (D.sp (D := [N]) (by simp) f d os).cell 1
  simp only [List.getElem?_toArray, List.getElem?_cons_zero, List.getElem?_cons_succ] at d0 d1
  go_enter Tryz.func196, Tryz.ntmps196
  go_upto_region 2 with (fail)
  rw [← hW, ← hN]
  have HN := Lib.hid hN
  clear hW hN
  refine wp_inv [0, 0, 0, 0, 0, 0, 0, 0, 1, 1, 2, 1, 1, 2] [N] (WkI N 40 x y z sy wd ht a c st) (by kernel_rfl) (by kernel_rfl) (fun _ _ _ _ _ h k => h.below k) (fun _ => wkI_zero B) ?_
  repeat (first | (refine wpQs_s ?_) | (refine wpQs_q (fun K hK => ?_); go_simp; first | (refine hK _ ?_; clear hK K) | (apply Exists.intro; refine ⟨fun _ => ?_, hK _ ?_⟩; (first | ((with_reducible refine Calls.mono (HX.out _) ?_); exact fun _ _ h => h) | ((with_reducible refine Calls.mono (HZ.out _) ?_); exact fun _ _ h => h)); clear hK K)) | (refine wpQs_f (fun K hK => ?_); go_simp; refine hK _ ?_; clear hK K))
  refine wpQs_nil ?_
  repeat (refine wpLsI_skip ?_)
  refine wpLsI_one rfl ?s10 (fun v10_ => ?_)
  case s10 =>
    intro S_ V_ w_ hw_ hV_ ha_ hn_ hI_
    obtain ⟨p, q, hb, hp, hq⟩ := hI_
    have HF := Lib.hid (fun v => And.intro (keptD_set (b := N) hw_ (by simp) (kept_one (i := 3) (.int .i64 a))) (WkI.one (a := a) (c := c) (V := V_) (v := v) hb hq))
    have c3 := hb.cell 3
    have f3 := hb.frz 3
    clear hV_ ha_ hn_ hw_ hp hq hb
    go_simp
    exact HF.out _
  repeat (refine wpLsI_skip ?_)
  refine wpLsI_one rfl ?s13 (fun v13_ => ?_)
  case s13 =>
    intro S_ V_ w_ hw_ hV_ ha_ hn_ hI_
    obtain ⟨p, q, hb, hp, hq⟩ := hI_
    have HF := Lib.hid (fun v => And.intro (keptD_set (b := N) hw_ (by simp) (kept_one (i := 5) (.int .i64 c))) (WkI.two (a := a) (c := c) (V := V_) (v := v) hb hp))
    have c3 := hb.cell 5
    have f3 := hb.frz 5
    clear hV_ ha_ hn_ hw_ hp hq hb
    go_simp
    exact HF.out _
  refine wpLsI_nil fun V_ w2 hw_ hV_ hI_ => ?_
  obtain ⟨p, q, B2, hp, hq⟩ := hI_
  obtain rfl := hp ⟨show (10 : Nat) < 14 by decide, rfl⟩
  obtain rfl := hq ⟨show (13 : Nat) < 14 by decide, rfl⟩
  have R2 := hw_.blk (by simp; omega) R
  have H2 := H.trans (hw_.below (n := w.heap.size) H.size (fun b hb h => by have := HN.out; simp at h; omega))
  clear hV_ hw_ d0 d1 R H B D hp hq HX HZ
  simp only [tails]
  obtain ⟨⟨b0, b1, b2, b3, b4, b5, b6, b7, b8⟩, -⟩ := B2.c9
  obtain ⟨⟨r0, r1, r2, r3, r4, r5, r6, r7, r8⟩, f0, f1, f2, f3, f4, f5, f6, f7, f8⟩ := R2.c9
  have hNw : w.heap.size ≤ N + 1 + 1 := by have := HN.out; omega
  go_wp2_with fail
  have R2_ := R2.st9 (.int .i64 (x)) (.int .i64 (y)) (.int .i64 (z)) (.int .i64 (p)) (.int .i64 (sy)) (.int .i64 (q)) (.int .i64 (wd)) (.int .i64 (ht)) (.bool (st))
  obtain ⟨⟨d0, d1, d2, d3, d4, d5, d6, d7, d8⟩, -⟩ := R2_.c9
  exact bodyPost_ret (v := .agg #[.int .i64 (x), .int .i64 (y), .int .i64 (z), .int .i64 (p), .int .i64 (sy), .int .i64 (q), .int .i64 (wd), .int .i64 (ht), .bool (st)]) (by simp [results, Tryz.results196, go_sem, d0, d1, d2, d3, d4, d5, d6, d7, d8]) rfl ⟨rfl, sx9_below H2 hNw _ _ _ _ _ _ _ _ _⟩
end Go.Proofs.YtmbccnioijokfaaGreatDoor

namespace Go.Proofs.YtmbccnioijokfaaGreatDoor
open Go.RowKit Go.Shelf
attribute [local go_sem] Oper.semAt_some
set_option maxRecDepth 100000 in
set_option maxHeartbeats 8000000 in
theorem brise1_c (jump less least x y z sx sy sz wd ht ix iz : Int) (st j : Bool) (N M g : Nat) (h1 : 0 ≤ less ∧ less ≤ 10000) (h2 : 0 ≤ least ∧ least ≤ 300000) (h3 : -300000 ≤ sy ∧ sy ≤ 300000) (w : World)
    (B : Blk w N 40 #[.int .i64 x, .int .i64 y, .int .i64 z, .int .i64 sx, .int .i64 sy, .int .i64 sz, .int .i64 wd, .int .i64 ht, .bool st]) (D : Blk w M 81 #[.int .i64 ix, .int .i64 iz, .bool j]) (P : Blk w g 319 #[.pointer (some ⟨N, 4, none⟩)]) (hMN : M ≠ N) (hgN : g ≠ N) :
    Calls Tryz.prog 265 #[.int .i64 jump, .int .i64 less, .int .i64 least, .pointer (some ⟨g, 0, none⟩), .pointer (some ⟨M, 0, none⟩)] w fun r w' => r = .returned (.tuple #[]) ∧ Kept (fun b => b ≠ N) w w' ∧
      Blk w' N 40 #[.int .i64 x, .int .i64 y, .int .i64 z, .int .i64 sx, .int .i64 (if j = true then jump else mxI (sy - less) (-least)), .int .i64 sz, .int .i64 wd, .int .i64 ht, .bool st] := by
  have hmx := @run_mx Tryz.prog
  have e1 : IntKind.i64.wrap (sy - less) = sy - less := IntWalk.i64_in _ (by omega)
  have e2 : IntKind.i64.wrap (-least) = -least := IntWalk.i64_in _ (by omega)
  have HB := Lib.hid B
  have HD := Lib.hid D
  have HP := Lib.hid P
  have HX := Lib.hid (And.intro hMN hgN)
  clear B D P hMN hgN h1 h2 h3
  have p0 := fun d os => (HP.out.re d os).cell 0
  have b4 := fun d os => (HB.out.re d os).cell 4
  simp only [List.getElem?_toArray, List.getElem?_cons_zero, List.getElem?_cons_succ] at p0 b4
  go_enter Tryz.func265, Tryz.ntmps265
  go_upto_region 0 with (fail)
  refine wp_region_last_below 10 (by kernel_rfl) rfl (by kernel_rfl) ?_
  simp only [List.take_succ_cons, List.take_zero, List.drop_succ_cons, List.drop_zero]
  repeat (go_big_quiet_step (fail))
  refine wpQuiet_nil ?_
  intro w' hw'
  obtain ⟨rg, rfl⟩ := hw'
  clear p0 b4 hmx
  obtain ⟨W1, hW1⟩ : ∃ W1, W1 = Go.Sort.grow (redrawn w rg.d) rg.os := ⟨_, rfl⟩
  have hb1 : Below w.heap.size w W1 := by rw [hW1]; exact below_regrown _ _ _
  rw [← hW1]
  clear hW1
  have b4 := (HB.out.on hb1).cell 4
  have f4 := (HB.out.on hb1).frz 4
  simp only [List.getElem?_toArray, List.getElem?_cons_zero, List.getElem?_cons_succ] at b4
  go_upto_region 1 with (fail)
  generalize hV : World.setCell W1 _ _ = W2
  have B2 : Blk W2 N 40 #[.int .i64 x, .int .i64 y, .int .i64 z, .int .i64 sx, .int .i64 (mxI (sy - less) (-least)), .int .i64 sz, .int .i64 wd, .int .i64 ht, .bool st] := Blk.eqw hV ((HB.out.on hb1).set_ 4 _)
  have K2 : Kept (fun b => b ≠ N) w W2 := by rw [← hV]; exact ((Kept.of_below hb1).mono fun _ _ => trivial).setCell (by simp) _
  have d2 := (K2.blk HX.out.1 HD.out).cell 2
  have p0 := (K2.blk HX.out.2 HP.out).cell 0
  have b4 := B2.cell 4
  have f4 := B2.frz 4
  simp only [List.getElem?_toArray, List.getElem?_cons_zero, List.getElem?_cons_succ] at d2 p0 b4
  have HB2 := Lib.hid B2
  have HK2 := Lib.hid K2
  clear hV B2 K2 hb1
  cases j
  · go_wp2_with fail
    go_returns
    exact ⟨rfl, HK2.out, HB2.out⟩
  · go_wp2_with fail
    go_returns
    exact ⟨rfl, HK2.out.setCell (by simp) _, HB2.out.set_ 4 _⟩
set_option maxRecDepth 100000 in
set_option maxHeartbeats 8000000 in
theorem brises_c (V : FuncId) (lv : Value) (val : Cl → Int) (b : BD) (ix iz : Int) (j : Bool) (M : Int) (hM : M ≤ 71000000000000) (hM0 : 0 ≤ M) (hB : BOk M b) (w : World)
    (eV : ∀ args w, (callFunc V args).run Tryz.prog w = .ok (.enter V args) w) (hV : Tells Tryz.prog V lv val w) :
    Calls Tryz.prog 197 #[.agg (bd9 b), .func (.func V) #[lv] #[], .agg #[.int .i64 ix, .int .i64 iz, .bool j]] w fun r w' => r = .returned (.agg (bd9 (riseB val b j))) ∧ Below w.heap.size w w' := by
  obtain ⟨hS, -⟩ := hB.box hM
  have hbox := hS.box (by omega) (by omega)
  have hund := hS.under (by omega) (by omega)
  have hbd := hS.bd
  have hsy := hB.sy
  have CB := fun W => bbox_c b (by have := hB.wd; omega) W
  have CC := fun W (h : Below w.heap.size w W) => pmClimbs_c V lv val (boxB b).1 (boxB b).2.1 (boxB b).2.2.1 (boxB b).2.2.2.1 (boxB b).2.2.2.2.1 (boxB b).2.2.2.2.2 hbox.1 W eV (hV.on h)
  have CW := fun W (h : Below w.heap.size w W) => pmWet_c V lv val (boxB b).1 (boxB b).2.1 (boxB b).2.2.1 (boxB b).2.2.2.1 (boxB b).2.2.2.2.1 (boxB b).2.2.2.2.2 hbox.1 W eV (hV.on h)
  have CS := fun W (h : Below w.heap.size w W) => pmStands_c V lv val (boxB b).1 (boxB b).2.1 (boxB b).2.2.1 (boxB b).2.2.2.1 (boxB b).2.2.2.2.1 (boxB b).2.2.2.2.2 (by omega) (by omega) hund.1 W eV (hV.on h)
  clear hS hbox hund hbd hV eV hM hM0 hB
  unfold riseB
  have fC : anyB val cliB (boxB b) = (cellsI (boxB b).1 (boxB b).2.1 (boxB b).2.2.1 (boxB b).2.2.2.1 (boxB b).2.2.2.2.1 (boxB b).2.2.2.2.2).any fun c => cliB (val c) := by unfold anyB; rfl
  have fW : anyB val wetB (boxB b) = (cellsI (boxB b).1 (boxB b).2.1 (boxB b).2.2.1 (boxB b).2.2.2.1 (boxB b).2.2.2.2.1 (boxB b).2.2.2.2.2).any fun c => wetB (val c) := by unfold anyB; rfl
  have fS : unB val (boxB b) = (cellsI (boxB b).1 (cutI ((boxB b).2.1 - 1)) (boxB b).2.2.1 (boxB b).2.2.2.1 (boxB b).2.1 (boxB b).2.2.2.2.2).any fun c => solB (val c) := by unfold unB; rfl
  rw [← fC] at CC
  rw [← fW] at CW
  rw [← fS] at CS
  clear fC fW fS
  generalize anyB val cliB (boxB b) = pc at CC ⊢
  generalize anyB val wetB (boxB b) = pw at CW ⊢
  generalize unB val (boxB b) = ps at CS ⊢
  generalize boxB b = bx at CB CC CW CS
  obtain ⟨x, y, z, sx, sy, sz, wd, ht, st⟩ := b
  obtain ⟨y1, y2, y3, y4, y5, y6⟩ := bx
  simp only [bd9, ag6] at *
  have HCB := Lib.hid CB
  have HCC := Lib.hid CC
  have HCW := Lib.hid CW
  have HCS := Lib.hid CS
  clear CB CC CW CS
  obtain ⟨N, hN⟩ : ∃ N, N = w.heap.size := ⟨_, rfl⟩
  obtain ⟨W, hW⟩ : ∃ W, W = ((w.alloc (.cells #[.int .i64 x, .int .i64 y, .int .i64 z, .int .i64 sx, .int .i64 sy, .int .i64 sz, .int .i64 wd, .int .i64 ht, .bool st] 40)).alloc (.cells #[.int .i64 ix, .int .i64 iz, .bool j] 81)).alloc (.cells #[.int .i64 0, .int .i64 0, .int .i64 0, .int .i64 0, .int .i64 0, .int .i64 0, .int .i64 0, .int .i64 0, .bool false] 40) := ⟨_, rfl⟩
  have H : Below w.heap.size w W := by rw [hW]; go_grown
  have B : Blk W N 40 _ := Blk.eqw hW.symm (by rw [hN]; exact ((Blk.new' rfl).alloc _).alloc _)
  have D : Blk W (N + 1) 81 _ := Blk.eqw hW.symm (by rw [hN]; exact (Blk.new' (by simp)).alloc _)
  have R : Blk W (N + 1 + 1) 40 _ := Blk.eqw hW.symm (by rw [hN]; exact Blk.new' (by simp))
  go_enter Tryz.func197, Tryz.ntmps197
  go_upto_region 1 with (fail)
  rw [← hW, ← hN]
  have HN := Lib.hid hN
  clear hW hN
  obtain ⟨⟨b0, b1, b2, b3, b4, b5, b6, b7, b8⟩, -⟩ := B.c9
  go_upto_region 2 with (go_at_call 139; refine (HCB.out _).mono ?_; rintro e_ w1 ⟨rfl, k1⟩)
  generalize hV : World.alloc (World.alloc w1 _) _ = W1
  have X : Blk W1 w1.heap.size 210 #[.int .i64 y1, .int .i64 y2, .int .i64 y3, .int .i64 y4, .int .i64 y5, .int .i64 y6] := Blk.eqw hV ((Blk.new' rfl).alloc _)
  have P : Blk W1 (w1.heap.size + 1) 319 #[.pointer (some ⟨N, 4, none⟩)] := Blk.eqw hV (Blk.new' (by simp))
  have hk : Below W.heap.size W W1 := by rw [← hV]; exact after k1 (((Below.refl _ _).alloc (Nat.le_refl _) _).alloc (by simp) _)
  have hgN := Nat.lt_of_lt_of_le R.lt k1.size
  replace B := B.on hk
  replace D := D.on hk
  replace R := R.on hk
  replace H := after H hk
  clear hV k1 hk b0 b1 b2 b3 b4 b5 b6 b7 b8 HCB
  generalize w1.heap.size = g at X P hgN ⊢
  have hn1 : N + 1 ≠ N := by omega
  have hn2 : N + 1 + 1 ≠ N := by omega
  have hn3 : g ≠ N := by omega
  have hn5 : g ≠ N + 1 := by omega
  have hn6 : g + 1 ≠ N + 1 := by omega
  have hn4 : g + 1 ≠ N := by omega
  have hNw : w.heap.size ≤ N + 1 + 1 := by have := HN.out; omega
  obtain ⟨hs1, hs2⟩ := hsy
  have HSY := Lib.hid (show -300000 ≤ sy ∧ sy ≤ 300000 by omega)
  clear hs1 hs2 hgN
  obtain ⟨⟨x0, x1, x2, x3, x4, x5⟩, -⟩ := X.c6
  cases pc
  · cases pw
    · go_upto_region 3 with first
        | (go_at_call 266; refine (HCC.out _ H).mono ?_; rintro e_ w2 ⟨rfl, k2⟩; replace B := B.on k2; replace D := D.on k2; replace R := R.on k2; replace X := X.on k2; replace P := P.on k2; replace H := after H k2; obtain ⟨⟨x0, x1, x2, x3, x4, x5⟩, -⟩ := X.c6; clear k2)
        | (go_at_call 267; refine (HCW.out _ H).mono ?_; rintro e_ w3 ⟨rfl, k3⟩; replace B := B.on k3; replace D := D.on k3; replace R := R.on k3; replace X := X.on k3; replace P := P.on k3; replace H := after H k3; obtain ⟨⟨x0, x1, x2, x3, x4, x5⟩, -⟩ := X.c6; clear k3)
      have d2 := D.cell 2
      have f2 := D.frz 2
      simp only [List.getElem?_toArray, List.getElem?_cons_zero, List.getElem?_cons_succ] at d2
      cases j
      · go_upto_region 4 with (go_at_call 140; refine (HCS.out _ H).mono ?_; rintro e_ w4 ⟨rfl, k4⟩; replace B := B.on k4; replace D := D.on k4; replace R := R.on k4; replace X := X.on k4; replace P := P.on k4; replace H := after H k4; have f2 := D.frz 2; have d2 := D.cell 2; clear k4)
        generalize hV : World.setCell _ _ _ = W5
        replace B := Blk.eqw hV (B.far (p := ⟨N + 1, 2, none⟩) (by dsimp only; omega) _)
        replace R := Blk.eqw hV (R.far (p := ⟨N + 1, 2, none⟩) (by dsimp only; omega) _)
        replace P := Blk.eqw hV (P.far (p := ⟨N + 1, 2, none⟩) (by dsimp only; omega) _)
        replace D : Blk W5 (N + 1) 81 #[.int .i64 ix, .int .i64 iz, .bool false] := Blk.eqw hV (D.set_ 2 _)
        replace H : Below w.heap.size w W5 := by rw [← hV]; exact H.setCell (p := ⟨N + 1, 2, none⟩) (by have := HN.out; dsimp only; omega) _
        clear hV d2 f2
        have hcl := brise1_c 28672 4096 262144 x y z sx sy sz wd ht ix iz st false N (N + 1) (g + 1) ⟨by decide, by decide⟩ ⟨by decide, by decide⟩ HSY.out _ B D P hn1 hn4
        have HCL := Lib.hid hcl
        clear hcl x0 x1 x2 x3 x4 x5 HCC HCW HCS
        go_upto_region 9 with (go_at_call 265; refine HCL.out.mono ?_; rintro e_ w6 ⟨rfl, k6, B6⟩; have HK5 := Lib.hid k6; have HB5 := Lib.hid (show Blk w6 N 40 #[.int .i64 x, .int .i64 y, .int .i64 z, .int .i64 sx, .int .i64 (riseI false false ps false sy), .int .i64 sz, .int .i64 wd, .int .i64 ht, .bool st] from B6); clear k6 B6)
        clear HCL
        have K5 := HK5.out
        replace H := H.trans (K5.below (n := w.heap.size) H.size (fun b hb e => by have := HN.out; omega))
        obtain ⟨⟨b0, b1, b2, b3, b4, b5, b6, b7, b8⟩, -⟩ := HB5.out.c9
        have R5 := K5.blk hn2 R
        obtain ⟨⟨r0, r1, r2, r3, r4, r5, r6, r7, r8⟩, f0, f1, f2, f3, f4, f5, f6, f7, f8⟩ := R5.c9
        clear HK5 K5 B D X P HB5 R
        go_wp2_with fail
        have R2_ := R5.st9 (.int .i64 (x)) (.int .i64 (y)) (.int .i64 (z)) (.int .i64 (sx)) (.int .i64 (riseI false false ps false sy)) (.int .i64 (sz)) (.int .i64 (wd)) (.int .i64 (ht)) (.bool (st))
        obtain ⟨⟨d0, d1, d2, d3, d4, d5, d6, d7, d8⟩, -⟩ := R2_.c9
        exact bodyPost_ret (v := .agg #[.int .i64 (x), .int .i64 (y), .int .i64 (z), .int .i64 (sx), .int .i64 (riseI false false ps false sy), .int .i64 (sz), .int .i64 (wd), .int .i64 (ht), .bool (st)]) (by simp [results, Tryz.results197, go_sem, d0, d1, d2, d3, d4, d5, d6, d7, d8]) rfl ⟨rfl, sx9_below H hNw _ _ _ _ _ _ _ _ _⟩
      · go_upto_region 4 with (go_at_call 140; refine (HCS.out _ H).mono ?_; rintro e_ w4 ⟨rfl, k4⟩; replace B := B.on k4; replace D := D.on k4; replace R := R.on k4; replace X := X.on k4; replace P := P.on k4; replace H := after H k4; have f2 := D.frz 2; have d2 := D.cell 2; clear k4)
        generalize hV : World.setCell _ _ _ = W5
        replace B := Blk.eqw hV (B.far (p := ⟨N + 1, 2, none⟩) (by dsimp only; omega) _)
        replace R := Blk.eqw hV (R.far (p := ⟨N + 1, 2, none⟩) (by dsimp only; omega) _)
        replace P := Blk.eqw hV (P.far (p := ⟨N + 1, 2, none⟩) (by dsimp only; omega) _)
        replace D : Blk W5 (N + 1) 81 #[.int .i64 ix, .int .i64 iz, .bool ps] := Blk.eqw hV (D.set_ 2 _)
        replace H : Below w.heap.size w W5 := by rw [← hV]; exact H.setCell (p := ⟨N + 1, 2, none⟩) (by have := HN.out; dsimp only; omega) _
        clear hV d2 f2
        have hcl := brise1_c 28672 4096 262144 x y z sx sy sz wd ht ix iz st ps N (N + 1) (g + 1) ⟨by decide, by decide⟩ ⟨by decide, by decide⟩ HSY.out _ B D P hn1 hn4
        have HCL := Lib.hid hcl
        clear hcl x0 x1 x2 x3 x4 x5 HCC HCW HCS
        go_upto_region 9 with (go_at_call 265; refine HCL.out.mono ?_; rintro e_ w6 ⟨rfl, k6, B6⟩; have HK5 := Lib.hid k6; have HB5 := Lib.hid (show Blk w6 N 40 #[.int .i64 x, .int .i64 y, .int .i64 z, .int .i64 sx, .int .i64 (riseI false false ps true sy), .int .i64 sz, .int .i64 wd, .int .i64 ht, .bool st] from B6); clear k6 B6)
        clear HCL
        have K5 := HK5.out
        replace H := H.trans (K5.below (n := w.heap.size) H.size (fun b hb e => by have := HN.out; omega))
        obtain ⟨⟨b0, b1, b2, b3, b4, b5, b6, b7, b8⟩, -⟩ := HB5.out.c9
        have R5 := K5.blk hn2 R
        obtain ⟨⟨r0, r1, r2, r3, r4, r5, r6, r7, r8⟩, f0, f1, f2, f3, f4, f5, f6, f7, f8⟩ := R5.c9
        clear HK5 K5 B D X P HB5 R
        go_wp2_with fail
        have R2_ := R5.st9 (.int .i64 (x)) (.int .i64 (y)) (.int .i64 (z)) (.int .i64 (sx)) (.int .i64 (riseI false false ps true sy)) (.int .i64 (sz)) (.int .i64 (wd)) (.int .i64 (ht)) (.bool (st))
        obtain ⟨⟨d0, d1, d2, d3, d4, d5, d6, d7, d8⟩, -⟩ := R2_.c9
        exact bodyPost_ret (v := .agg #[.int .i64 (x), .int .i64 (y), .int .i64 (z), .int .i64 (sx), .int .i64 (riseI false false ps true sy), .int .i64 (sz), .int .i64 (wd), .int .i64 (ht), .bool (st)]) (by simp [results, Tryz.results197, go_sem, d0, d1, d2, d3, d4, d5, d6, d7, d8]) rfl ⟨rfl, sx9_below H hNw _ _ _ _ _ _ _ _ _⟩
    · go_upto_region 8 with first
        | (go_at_call 266; refine (HCC.out _ H).mono ?_; rintro e_ w2 ⟨rfl, k2⟩; replace B := B.on k2; replace D := D.on k2; replace R := R.on k2; replace X := X.on k2; replace P := P.on k2; replace H := after H k2; obtain ⟨⟨x0, x1, x2, x3, x4, x5⟩, -⟩ := X.c6; clear k2)
        | (go_at_call 267; refine (HCW.out _ H).mono ?_; rintro e_ w3 ⟨rfl, k3⟩; replace B := B.on k3; replace D := D.on k3; replace R := R.on k3; replace X := X.on k3; replace P := P.on k3; replace H := after H k3; obtain ⟨⟨x0, x1, x2, x3, x4, x5⟩, -⟩ := X.c6; clear k3)
      have hcl := brise1_c 6144 1024 8192 x y z sx sy sz wd ht ix iz st j N (N + 1) (g + 1) ⟨by decide, by decide⟩ ⟨by decide, by decide⟩ HSY.out _ B D P hn1 hn4
      have HCL := Lib.hid hcl
      clear hcl x0 x1 x2 x3 x4 x5 HCC HCW HCS
      go_upto_region 9 with (go_at_call 265; refine HCL.out.mono ?_; rintro e_ w6 ⟨rfl, k6, B6⟩; have HK5 := Lib.hid k6; have HB5 := Lib.hid (show Blk w6 N 40 #[.int .i64 x, .int .i64 y, .int .i64 z, .int .i64 sx, .int .i64 (riseI false true ps j sy), .int .i64 sz, .int .i64 wd, .int .i64 ht, .bool st] from B6); clear k6 B6)
      clear HCL
      have K5 := HK5.out
      replace H := H.trans (K5.below (n := w.heap.size) H.size (fun b hb e => by have := HN.out; omega))
      obtain ⟨⟨b0, b1, b2, b3, b4, b5, b6, b7, b8⟩, -⟩ := HB5.out.c9
      have R5 := K5.blk hn2 R
      obtain ⟨⟨r0, r1, r2, r3, r4, r5, r6, r7, r8⟩, f0, f1, f2, f3, f4, f5, f6, f7, f8⟩ := R5.c9
      clear HK5 K5 B D X P HB5 R
      go_wp2_with fail
      have R2_ := R5.st9 (.int .i64 (x)) (.int .i64 (y)) (.int .i64 (z)) (.int .i64 (sx)) (.int .i64 (riseI false true ps j sy)) (.int .i64 (sz)) (.int .i64 (wd)) (.int .i64 (ht)) (.bool (st))
      obtain ⟨⟨d0, d1, d2, d3, d4, d5, d6, d7, d8⟩, -⟩ := R2_.c9
      exact bodyPost_ret (v := .agg #[.int .i64 (x), .int .i64 (y), .int .i64 (z), .int .i64 (sx), .int .i64 (riseI false true ps j sy), .int .i64 (sz), .int .i64 (wd), .int .i64 (ht), .bool (st)]) (by simp [results, Tryz.results197, go_sem, d0, d1, d2, d3, d4, d5, d6, d7, d8]) rfl ⟨rfl, sx9_below H hNw _ _ _ _ _ _ _ _ _⟩
  · go_upto_region 6 with (go_at_call 266; refine (HCC.out _ H).mono ?_; rintro e_ w2 ⟨rfl, k2⟩; replace B := B.on k2; replace D := D.on k2; replace R := R.on k2; replace X := X.on k2; replace P := P.on k2; replace H := after H k2; obtain ⟨⟨x0, x1, x2, x3, x4, x5⟩, -⟩ := X.c6; clear k2)
    have hcl := brise1_c 8192 4096 8192 x y z sx sy sz wd ht ix iz st j N (N + 1) (g + 1) ⟨by decide, by decide⟩ ⟨by decide, by decide⟩ HSY.out _ B D P hn1 hn4
    have HCL := Lib.hid hcl
    clear hcl x0 x1 x2 x3 x4 x5 HCC HCW HCS
    go_upto_region 9 with (go_at_call 265; refine HCL.out.mono ?_; rintro e_ w6 ⟨rfl, k6, B6⟩; have HK5 := Lib.hid k6; have HB5 := Lib.hid (show Blk w6 N 40 #[.int .i64 x, .int .i64 y, .int .i64 z, .int .i64 sx, .int .i64 (riseI true pw ps j sy), .int .i64 sz, .int .i64 wd, .int .i64 ht, .bool st] from B6); clear k6 B6)
    clear HCL
    have K5 := HK5.out
    replace H := H.trans (K5.below (n := w.heap.size) H.size (fun b hb e => by have := HN.out; omega))
    obtain ⟨⟨b0, b1, b2, b3, b4, b5, b6, b7, b8⟩, -⟩ := HB5.out.c9
    have R5 := K5.blk hn2 R
    obtain ⟨⟨r0, r1, r2, r3, r4, r5, r6, r7, r8⟩, f0, f1, f2, f3, f4, f5, f6, f7, f8⟩ := R5.c9
    clear HK5 K5 B D X P HB5 R
    go_wp2_with fail
    have R2_ := R5.st9 (.int .i64 (x)) (.int .i64 (y)) (.int .i64 (z)) (.int .i64 (sx)) (.int .i64 (riseI true pw ps j sy)) (.int .i64 (sz)) (.int .i64 (wd)) (.int .i64 (ht)) (.bool (st))
    obtain ⟨⟨d0, d1, d2, d3, d4, d5, d6, d7, d8⟩, -⟩ := R2_.c9
    exact bodyPost_ret (v := .agg #[.int .i64 (x), .int .i64 (y), .int .i64 (z), .int .i64 (sx), .int .i64 (riseI true pw ps j sy), .int .i64 (sz), .int .i64 (wd), .int .i64 (ht), .bool (st)]) (by simp [results, Tryz.results197, go_sem, d0, d1, d2, d3, d4, d5, d6, d7, d8]) rfl ⟨rfl, sx9_below H hNw _ _ _ _ _ _ _ _ _⟩
end Go.Proofs.YtmbccnioijokfaaGreatDoor

namespace Go.Proofs.YtmbccnioijokfaaGreatDoor
open Go.RowKit Go.Shelf
attribute [local go_sem] Oper.semAt_some
set_option maxRecDepth 100000 in
set_option maxHeartbeats 2000000 in
theorem pwent_c (x y : B6) (h : -100000000000000 ≤ x.1 ∧ x.1 ≤ 100000000000000) (h2 : -100000000000000 ≤ x.2.2.1 ∧ x.2.2.1 ≤ 100000000000000) (k : -100000000000000 ≤ y.1 ∧ y.1 ≤ 100000000000000) (k2 : -100000000000000 ≤ y.2.2.1 ∧ y.2.2.1 ≤ 100000000000000) (w : World) :
    Calls Tryz.prog 315 #[.agg (ag6 x), .agg (ag6 y)] w fun r w' => r = .returned (.int .i64 (wentI x y)) ∧ Below w.heap.size w w' := by
  obtain ⟨a, b, c, d, e, f⟩ := x
  obtain ⟨a', b', c', d', e', f'⟩ := y
  dsimp only at h h2 k k2
  simp only [ag6, wentI]
  have hmx := @run_mx Tryz.prog
  have U : Blk ((w.alloc (.cells #[.int .i64 a, .int .i64 b, .int .i64 c, .int .i64 d, .int .i64 e, .int .i64 f] 210)).alloc (.cells #[.int .i64 a', .int .i64 b', .int .i64 c', .int .i64 d', .int .i64 e', .int .i64 f'] 210)) w.heap.size 210 #[.int .i64 a, .int .i64 b, .int .i64 c, .int .i64 d, .int .i64 e, .int .i64 f] := (Blk.new' rfl).alloc _
  have D : Blk ((w.alloc (.cells #[.int .i64 a, .int .i64 b, .int .i64 c, .int .i64 d, .int .i64 e, .int .i64 f] 210)).alloc (.cells #[.int .i64 a', .int .i64 b', .int .i64 c', .int .i64 d', .int .i64 e', .int .i64 f'] 210)) (w.heap.size + 1) 210 #[.int .i64 a', .int .i64 b', .int .i64 c', .int .i64 d', .int .i64 e', .int .i64 f'] := Blk.new' (by simp)
  obtain ⟨u0, u1, u2, u3, u4, u5⟩ := U.re6
  obtain ⟨d0, d1, d2, d3, d4, d5⟩ := D.re6
  have r1 : -9223372036854775808 ≤ a' - a ∧ a' - a ≤ 9223372036854775807 := by omega
  have r2 : -9223372036854775808 ≤ c' - c ∧ c' - c ≤ 9223372036854775807 := by omega
  obtain ⟨r1, s1⟩ := r1
  obtain ⟨r2, s2⟩ := r2
  have e1 : IntKind.i64.wrap (a' - a) = a' - a := IntWalk.i64_in _ ⟨r1, s1⟩
  have e2 : IntKind.i64.wrap (c' - c) = c' - c := IntWalk.i64_in _ ⟨r2, s2⟩
  have m1 : -(a' - a) = a - a' := by omega
  have m2 : -(c' - c) = c - c' := by omega
  have b1 : -200000000000000 ≤ mxI (a' - a) (a - a') ∧ mxI (a' - a) (a - a') ≤ 200000000000000 := by unfold mxI; omega
  have b2 : -200000000000000 ≤ mxI (c' - c) (c - c') ∧ mxI (c' - c) (c - c') ≤ 200000000000000 := by unfold mxI; omega
  obtain ⟨b1, b3⟩ := b1
  obtain ⟨b2, b4⟩ := b2
  go_enter Tryz.func315, Tryz.ntmps315
  go_wp2_with fail
  refine wp_region_quiet_below (by kernel_rfl) (by kernel_rfl) ?_
  repeat (go_big_quiet_step (fail))
  refine wpQuiet_nil ?_
  intro w' hw'
  obtain ⟨rg, rfl⟩ := hw'
  clear u0 u1 u2 u3 u4 u5 d0 d1 d2 d3 d4 d5
  go_wp2_with fail
  go_returns
  refine ⟨rfl, ?_⟩
  (repeat' (first | (with_reducible exact Below.refl _ _) | (with_reducible assumption) | (with_reducible refine Below.alloc ?_ ?_ _) | (with_reducible refine Below.drew ?_) | (with_reducible refine Below.setCell ?_ ?_ _) | (with_reducible refine after ?_ (below_regrown _ _ _)) | (refine after ?_ (by with_reducible assumption)) | go_size))
end Go.Proofs.YtmbccnioijokfaaGreatDoor

