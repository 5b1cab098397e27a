/- What a ray sees: plain. No program in sight. -/
import Derived.Test.YtjlgcfdpfalbpaaRay1
namespace Go.Proofs.Ytjlgcfdpfalbpaa

abbrev I3 := Int × Int × Int
abbrev K3 := Nat × Nat × Nat
def comp (x : I3) (a : Nat) : Int := if a = 0 then x.1 else if a = 1 then x.2.1 else x.2.2
def bump (k : K3) (a : Nat) : K3 := if a = 0 then (k.1 + 1, k.2.1, k.2.2) else if a = 1 then (k.1, k.2.1 + 1, k.2.2) else (k.1, k.2.1, k.2.2 + 1)
/-- A ray: its first cell, how far it is to the first side along each axis, how fast, and whether upward (1) or not (0). -/
structure Rp where
  c : I3
  l : I3
  s : I3
  u : I3
def lefts (l : I3) (k : K3) : I3 := (l.1 + 65536 * k.1, l.2.1 + 65536 * k.2.1, l.2.2 + 65536 * k.2.2)
/-- The axis whose side is come to next. -/
def pk (l s : I3) : Nat :=
  if soonB l.2.2 s.2.2 (if soonB l.2.1 s.2.1 l.1 s.1 then l.2.1 else l.1) (if soonB l.2.1 s.2.1 l.1 s.1 then s.2.1 else s.1) then 2 else if soonB l.2.1 s.2.1 l.1 s.1 then 1 else 0
theorem pk_lt (l s : I3) : pk l s < 3 := by
  unfold pk
  generalize soonB l.2.1 s.2.1 l.1 s.1 = b
  cases b <;> simp <;> split <;> omega
def stepI (u : Int) : Int := 2 * u - 1
def cellK (p : Rp) (k : K3) : I3 := (p.c.1 + stepI p.u.1 * k.1, p.c.2.1 + stepI p.u.2.1 * k.2.1, p.c.2.2 + stepI p.u.2.2 * k.2.2)
/-- Near enough? -/
def inR (R : Int) (k : K3) : Bool := decide ((k.1 : Int) ≤ R) && decide ((k.2.1 : Int) ≤ R) && decide ((k.2.2 : Int) ≤ R)
theorem inR_bd {R : Int} {k : K3} (h : inR R k = true) (hR : R ≤ 64) : k.1 ≤ 64 ∧ k.2.1 ≤ 64 ∧ k.2.2 ≤ 64 := by
  unfold inR at h
  simp only [Bool.and_eq_true, decide_eq_true_eq] at h
  omega
abbrev RH := I3 × Int × Int
/-- What it sees from here on: cell, face, time. -/
def trL (p : Rp) (R : Int) : Nat → K3 → Int → Int → List RH
  | 0, _, _, _ => []
  | f + 1, k, face, time => if inR R k then (cellK p k, face, time) ::
      (if comp p.s (pk (lefts p.l k) p.s) = 0 then [] else trL p R f (bump k (pk (lefts p.l k) p.s)) (2 * (pk (lefts p.l k) p.s : Int) + 1 - comp p.u (pk (lefts p.l k) p.s)) (quoI (comp (lefts p.l k) (pk (lefts p.l k) p.s)) (comp p.s (pk (lefts p.l k) p.s)))) else []
abbrev traceP (p : Rp) (R : Int) : List RH := trL p R 200 (0, 0, 0) (-1) 0
section
variable {p : Rp} {R face time : Int} {k : K3} {f : Nat}
theorem trL_out (h : inR R k = false) : trL p R (f + 1) k face time = [] := by unfold trL; rw [h]; rfl
theorem trL_stop (h : inR R k = true) (hs : comp p.s (pk (lefts p.l k) p.s) = 0) : trL p R (f + 1) k face time = [(cellK p k, face, time)] := by unfold trL; rw [h, if_pos rfl, if_pos hs]
theorem trL_go (h : inR R k = true) (hs : comp p.s (pk (lefts p.l k) p.s) ≠ 0) : trL p R (f + 1) k face time = (cellK p k, face, time) :: trL p R f (bump k (pk (lefts p.l k) p.s)) (2 * (pk (lefts p.l k) p.s : Int) + 1 - comp p.u (pk (lefts p.l k) p.s)) (quoI (comp (lefts p.l k) (pk (lefts p.l k) p.s)) (comp p.s (pk (lefts p.l k) p.s))) := by
  rw [trL, h, if_pos rfl, if_neg hs]
end
def sumK (k : K3) : Nat := k.1 + k.2.1 + k.2.2
theorem sumK_bump (k : K3) (a : Nat) : sumK (bump k a) = sumK k + 1 := by
  unfold bump sumK
  split
  · simp only; omega
  split <;> (simp only; omega)
theorem sumK_in {R : Int} {k : K3} (h : inR R k = true) (hR : R ≤ 64) : sumK k ≤ 192 := by
  have := inR_bd h hR
  unfold sumK; omega
end Go.Proofs.Ytjlgcfdpfalbpaa
