/- A box that goes: plain. No program in sight. -/
import Derived.Test.YtckjpiioipkfcaaSwP2
namespace Go.Proofs.Ytckjpiioipkfcaa
open Go.RowKit

abbrev B6 := Int × Int × Int × Int × Int × Int
abbrev ag6 (x : B6) : Array Value := #[.int .i64 x.1, .int .i64 x.2.1, .int .i64 x.2.2.1, .int .i64 x.2.2.2.1, .int .i64 x.2.2.2.2.1, .int .i64 x.2.2.2.2.2]
def Sm6 (M : Int) (x : B6) : Prop := Sm M x.1 x.2.1 x.2.2.1 x.2.2.2.1 x.2.2.2.2.1 x.2.2.2.2.2
def ax6 (val : Cl → Int) (x : B6) (axis dd : Int) : Int × Bool := axisV val x.1 x.2.1 x.2.2.1 x.2.2.2.1 x.2.2.2.2.1 x.2.2.2.2.2 axis dd
def mv6 (x : B6) (axis n : Int) : B6 :=
  (addI x.1 (wiI 0 axis 0 n), addI x.2.1 (wiI 0 axis 1 n), addI x.2.2.1 (wiI 0 axis 2 n), addI x.2.2.2.1 (wiI 0 axis 0 n), addI x.2.2.2.2.1 (wiI 0 axis 1 n), addI x.2.2.2.2.2 (wiI 0 axis 2 n))
def al6 (val : Cl → Int) (x : B6) (axis dd : Int) : B6 × Bool := (mv6 x axis (ax6 val x axis dd).1, (ax6 val x axis dd).2)
theorem axisV_far (val : Cl → Int) (a b c d e f axis dd : Int) : -4194304 ≤ (axisV val a b c d e f axis dd).1 ∧ (axisV val a b c d e f axis dd).1 ≤ 4194304 := by
  unfold axisV
  split
  · simp
  · obtain ⟨h1, h2⟩ := farI_bd dd
    obtain ⟨h3, h4⟩ := axV_bd (blk := lyB val a b c d e f axis) (low := axI a b c axis) (top := axI d e f axis) (d := farI dd)
    omega
theorem addI_in {a b : Int} (h1 : -100000000000000 ≤ a) (h2 : a ≤ 100000000000000) (h3 : -10000000 ≤ b) (h4 : b ≤ 10000000) : addI a b = a + b := by
  unfold addI cutI; omega
theorem wi0 {axis i n : Int} (h1 : -10000000 ≤ n) (h2 : n ≤ 10000000) : wiI 0 axis i n = if i = axis then n else 0 := wi_c (by omega) (by omega)
theorem mv6_sm {M : Int} {x : B6} (h : Sm6 M x) (hM0 : 0 ≤ M) (hM : M ≤ 10000000000000) {axis n : Int} (h1 : -10000000 ≤ n) (h2 : n ≤ 10000000) : Sm6 (M + 10000000) (mv6 x axis n) := by
  obtain ⟨h3, h4, h5, h6, h7, h8, h9, h10, h11, h12, h13, h14⟩ := h
  unfold Sm6 mv6
  rw [wi0 h1 h2, wi0 h1 h2, wi0 h1 h2]
  dsimp only
  have q : ∀ i : Int, -10000000 ≤ (if i = axis then n else 0) ∧ (if i = axis then n else 0) ≤ 10000000 := fun i => by split <;> omega
  have q0 := q 0
  have q1 := q 1
  have q2 := q 2
  generalize (if (0 : Int) = axis then n else 0) = n0 at q0 ⊢
  generalize (if (1 : Int) = axis then n else 0) = n1 at q1 ⊢
  generalize (if (2 : Int) = axis then n else 0) = n2 at q2 ⊢
  rw [addI_in (by omega) (by omega) q0.1 q0.2, addI_in (by omega) (by omega) q1.1 q1.2, addI_in (by omega) (by omega) q2.1 q2.2, addI_in (by omega) (by omega) q0.1 q0.2, addI_in (by omega) (by omega) q1.1 q1.2, addI_in (by omega) (by omega) q2.1 q2.2]
  constructor <;> omega
theorem al6_sm {M : Int} {x : B6} (h : Sm6 M x) (hM0 : 0 ≤ M) (hM : M ≤ 10000000000000) (val : Cl → Int) (axis dd : Int) : Sm6 (M + 10000000) (al6 val x axis dd).1 := by
  obtain ⟨h1, h2⟩ := axisV_far val x.1 x.2.1 x.2.2.1 x.2.2.2.1 x.2.2.2.2.1 x.2.2.2.2.2 axis dd
  exact mv6_sm h hM0 hM (n := (ax6 val x axis dd).1) (by unfold ax6; omega) (by unfold ax6; omega)
/-- The box and the hits behind so many of the three ways. -/
def st1 (val : Cl → Int) (x : B6) (dy : Int) : B6 := (al6 val x 1 dy).1
def st2 (val : Cl → Int) (x : B6) (dx dy : Int) : B6 := (al6 val (st1 val x dy) 0 dx).1
def st3 (val : Cl → Int) (x : B6) (dx dy dz : Int) : B6 := (al6 val (st2 val x dx dy) 2 dz).1
def hy1 (val : Cl → Int) (x : B6) (dy : Int) : Bool := (al6 val x 1 dy).2
def hx2 (val : Cl → Int) (x : B6) (dx dy : Int) : Bool := (al6 val (st1 val x dy) 0 dx).2
def hz3 (val : Cl → Int) (x : B6) (dx dy dz : Int) : Bool := (al6 val (st2 val x dx dy) 2 dz).2
def moveT (val : Cl → Int) (x : B6) (dx dy dz : Int) : Value := .tuple #[.agg (ag6 (st3 val x dx dy dz)), .agg #[.bool (hx2 val x dx dy), .bool (hy1 val x dy), .bool (hz3 val x dx dy dz)]]
end Go.Proofs.Ytckjpiioipkfcaa
