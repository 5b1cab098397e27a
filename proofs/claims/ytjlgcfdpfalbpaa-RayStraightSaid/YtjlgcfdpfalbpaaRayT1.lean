/- What a ray sees: plain parts of the iterator's walk; the neighbours by number. -/
import Derived.Test.YtjlgcfdpfalbpaaRaySd
import Derived.Test.YtjlgcfdpfalbpaaRayW
import Derived.Test.YtjlgcfdpfalbpaaRayN2
import Derived.Test.YtjlgcfdpfalbpaaRayL
import Derived.Test.YtjlgcfdpfalbpaaSpan2
namespace Go.Proofs.Ytjlgcfdpfalbpaa
open Go.RowKit Go.Shelf
attribute [local go_sem] Oper.semAt_some

def rupI (w : Int) : Int := if 0 < w then 1 else 0
def rpOf (x y z a b c : Int) : Rp := ⟨(lowI x, lowI y, lowI z), (sdL x a, sdL y b, sdL z c), (sdS a, sdS b, sdS c), (rupI a, rupI b, rupI c)⟩
theorem rp_ok {x y z a b c : Int} (ha : -1048576 ≤ a ∧ a ≤ 1048576) (hb : -1048576 ≤ b ∧ b ≤ 1048576) (hc : -1048576 ≤ c ∧ c ≤ 1048576) : RpOk (rpOf x y z a b c) := by
  refine ⟨fun i hi => ?_, fun i hi => ?_, fun i hi => ?_⟩ <;> rcases lt3 hi with rfl | rfl | rfl <;> simp only [comp, rpOf, if_true, show (1 : Nat) ≠ 0 by decide, show (2 : Nat) ≠ 0 by decide, show (2 : Nat) ≠ 1 by decide, if_false]
  · unfold sdL; split <;> omega
  · unfold sdL; split <;> omega
  · unfold sdL; split <;> omega
  · unfold sdS; split <;> omega
  · unfold sdS; split <;> omega
  · unfold sdS; split <;> omega
  · unfold rupI; split <;> simp
  · unfold rupI; split <;> simp
  · unfold rupI; split <;> simp
/-- The cells lie near 0. -/
def CellOk (p : Rp) : Prop := ∀ b, b < 3 → -1073741824 ≤ comp p.c b ∧ comp p.c b ≤ 1073741824
theorem rp_cell {x y z a b c : Int} (hx : -70368744177664 ≤ x ∧ x ≤ 70368744177664) (hy : -70368744177664 ≤ y ∧ y ≤ 70368744177664) (hz : -70368744177664 ≤ z ∧ z ≤ 70368744177664) : CellOk (rpOf x y z a b c) := by
  intro i hi
  rcases lt3 hi with rfl | rfl | rfl <;> simp only [comp, rpOf, if_true, show (1 : Nat) ≠ 0 by decide, show (2 : Nat) ≠ 0 by decide, show (2 : Nat) ≠ 1 by decide, if_false, lowI, cutI] <;> omega
/-- The six neighbours. -/
abbrev nearP (x y z : Int) : Array Value := #[.int .i64 (x - 1), .int .i64 y, .int .i64 z, .int .i64 (x + 1), .int .i64 y, .int .i64 z, .int .i64 x, .int .i64 (y - 1), .int .i64 z, .int .i64 x, .int .i64 (y + 1), .int .i64 z, .int .i64 x, .int .i64 y, .int .i64 (z - 1), .int .i64 x, .int .i64 y, .int .i64 (z + 1)]
theorem nearA_eq {x y z : Int} (hx : -2147483000 ≤ x ∧ x ≤ 2147483000) (hy : -2147483000 ≤ y ∧ y ≤ 2147483000) (hz : -2147483000 ≤ z ∧ z ≤ 2147483000) : nearA x y z = nearP x y z := by
  have e : ∀ n : Int, -2147483648 ≤ n → n ≤ 2147483648 → ccI n = n := fun n h1 h2 => ccI_id h1 h2
  have a0 := e x (by omega) (by omega)
  have b0 := e y (by omega) (by omega)
  have c0 := e z (by omega) (by omega)
  have a1 := e (x + -1) (by omega) (by omega)
  have b1 := e (y + -1) (by omega) (by omega)
  have c1 := e (z + -1) (by omega) (by omega)
  have a2 := e (x + 1) (by omega) (by omega)
  have b2 := e (y + 1) (by omega) (by omega)
  have c2 := e (z + 1) (by omega) (by omega)
  unfold nearA nearP
  rw [a0, b0, c0, a1, b1, c1, a2, b2, c2, a0, b0, c0]
  rfl
theorem cnear_e (x y z : Int) (hx : -2147483000 ≤ x ∧ x ≤ 2147483000) (hy : -2147483000 ≤ y ∧ y ≤ 2147483000) (hz : -2147483000 ≤ z ∧ z ≤ 2147483000) (w : World) : Calls Try.prog 32 #[.agg #[.int .i64 x, .int .i64 y, .int .i64 z]] w fun r w' => r = .returned (.agg (nearP x y z)) ∧ Below w.heap.size w w' := by
  rw [← nearA_eq hx hy hz]; exact cnear_c x y z w
theorem arr6_at (v0 v1 v2 v3 v4 v5 v6 v7 v8 v9 v10 v11 v12 v13 v14 v15 v16 v17 : Value) (w : World) :
    (Instr.index 47 (.agg #[v0, v1, v2, v3, v4, v5, v6, v7, v8, v9, v10, v11, v12, v13, v14, v15, v16, v17]) (.int .i64 0)).run Try.prog w = .ok (.agg #[v0, v1, v2]) w ∧
    (Instr.index 47 (.agg #[v0, v1, v2, v3, v4, v5, v6, v7, v8, v9, v10, v11, v12, v13, v14, v15, v16, v17]) (.int .i64 1)).run Try.prog w = .ok (.agg #[v3, v4, v5]) w ∧
    (Instr.index 47 (.agg #[v0, v1, v2, v3, v4, v5, v6, v7, v8, v9, v10, v11, v12, v13, v14, v15, v16, v17]) (.int .i64 2)).run Try.prog w = .ok (.agg #[v6, v7, v8]) w ∧
    (Instr.index 47 (.agg #[v0, v1, v2, v3, v4, v5, v6, v7, v8, v9, v10, v11, v12, v13, v14, v15, v16, v17]) (.int .i64 3)).run Try.prog w = .ok (.agg #[v9, v10, v11]) w ∧
    (Instr.index 47 (.agg #[v0, v1, v2, v3, v4, v5, v6, v7, v8, v9, v10, v11, v12, v13, v14, v15, v16, v17]) (.int .i64 4)).run Try.prog w = .ok (.agg #[v12, v13, v14]) w ∧
    (Instr.index 47 (.agg #[v0, v1, v2, v3, v4, v5, v6, v7, v8, v9, v10, v11, v12, v13, v14, v15, v16, v17]) (.int .i64 5)).run Try.prog w = .ok (.agg #[v15, v16, v17]) w := by
  refine ⟨?_, ?_, ?_, ?_, ?_, ?_⟩ <;> kernel_rfl
theorem nearB_up {R c : Int} {k : Nat} (u : Int) (hu : u = 0 ∨ u = 1) (hR : 0 ≤ R) : nearB R c (c + stepI u * k) = decide ((k : Int) ≤ R) := by
  unfold nearB stepI
  rw [← Bool.decide_and]
  apply decide_eq_decide.2
  rcases hu with rfl | rfl <;> simp <;> omega
theorem within_in {p : Rp} {R : Int} {k : K3} (hp : RpOk p) (hR : 0 ≤ R) : withinB R p.c (cellK p k) = inR R k := by
  have u0 := hp.u0 0 (by omega)
  have u1 := hp.u0 1 (by omega)
  have u2 := hp.u0 2 (by omega)
  simp [comp] at u0 u1 u2
  unfold withinB inR cellK
  simp only
  rw [nearB_up _ u0 hR, nearB_up _ u1 hR, nearB_up _ u2 hR]
theorem within_k (p : Rp) (k : K3) (cx cy cz : Int) (R : Int) (hp : RpOk p) (hc : CellOk p) (hR : 0 ≤ R) (hk : ∀ b, b < 3 → kc k b ≤ 65) (he : cellK p k = (cx, cy, cz)) (v : Bool) (hv : inR R k = v) (w : World) :
    Calls Try.prog 44 #[.agg #[.int .i64 p.c.1, .int .i64 p.c.2.1, .int .i64 p.c.2.2], .agg #[.int .i64 cx, .int .i64 cy, .int .i64 cz], .int .i64 R] w fun r w' => r = .returned (.bool v) ∧ Below w.heap.size w w' := by
  have c0 := hc 0 (by omega)
  have c1 := hc 1 (by omega)
  have c2 := hc 2 (by omega)
  have k0 := hk 0 (by omega)
  have k1 := hk 1 (by omega)
  have k2 := hk 2 (by omega)
  have u0 := hp.u0 0 (by omega)
  have u1 := hp.u0 1 (by omega)
  have u2 := hp.u0 2 (by omega)
  simp [comp] at c0 c1 c2 u0 u1 u2
  simp [kc] at k0 k1 k2
  have h := within_c p.c (cellK p k) R ⟨⟨by omega, by omega⟩, ⟨by omega, by omega⟩, ⟨by omega, by omega⟩⟩
    ⟨by unfold cellK stepI; simp only; rcases u0 with e | e <;> rw [e] <;> simp <;> omega, by unfold cellK stepI; simp only; rcases u1 with e | e <;> rw [e] <;> simp <;> omega, by unfold cellK stepI; simp only; rcases u2 with e | e <;> rw [e] <;> simp <;> omega⟩ w
  rw [within_in hp hR, hv, he] at h
  exact h
/-- Where the iterator stands. -/
structure TSt (p : Rp) (R : Int) (k : K3) (face time : Int) : Prop where
  drop : (traceP p R).drop (sumK k) = trL p R (200 - sumK k) k face time
  le : sumK k ≤ (traceP p R).length
  few : ∀ b, b < 3 → kc k b ≤ 65
theorem TSt.zero (p : Rp) (R : Int) : TSt p R (0, 0, 0) (-1) 0 := ⟨rfl, Nat.zero_le _, fun b hb => by rcases lt3 hb with rfl | rfl | rfl <;> decide⟩
theorem sumK_kc (k : K3) : sumK k = kc k 0 + kc k 1 + kc k 2 := by simp [sumK, kc]
theorem TSt.out {p : Rp} {R face time : Int} {k : K3} (h : TSt p R k face time) (hk : inR R k = false) : sumK k = (traceP p R).length := by
  have := h.few 0 (by omega); have := h.few 1 (by omega); have := h.few 2 (by omega)
  have hs := sumK_kc k
  have e := h.drop
  obtain ⟨f, hf⟩ : ∃ f, 200 - sumK k = f + 1 := ⟨199 - sumK k, by omega⟩
  rw [hf, trL_out hk] at e
  have := List.drop_eq_nil_iff.1 e
  have := h.le
  omega
theorem TSt.at {p : Rp} {R face time : Int} {k : K3} (h : TSt p R k face time) (hk : inR R k = true) : (traceP p R)[sumK k]? = some (cellK p k, face, time) ∧ sumK k < (traceP p R).length := by
  have := h.few 0 (by omega); have := h.few 1 (by omega); have := h.few 2 (by omega)
  have hs := sumK_kc k
  have e := h.drop
  obtain ⟨f, hf⟩ : ∃ f, 200 - sumK k = f + 1 := ⟨199 - sumK k, by omega⟩
  obtain ⟨r, hr⟩ := trL_first (p := p) (R := R) (f := f) (k := k) (face := face) (time := time) hk
  rw [hf, hr] at e
  have e2 : (traceP p R)[sumK k]? = some (cellK p k, face, time) := by
    have := congrArg (fun l => l[0]?) e
    simpa using this
  exact ⟨e2, (List.getElem?_eq_some_iff.1 e2).1⟩
theorem TSt.stop {p : Rp} {R face time : Int} {k : K3} (h : TSt p R k face time) (hk : inR R k = true) (h0 : comp p.s (pk (lefts p.l k) p.s) = 0) : sumK k + 1 = (traceP p R).length := by
  have := h.few 0 (by omega); have := h.few 1 (by omega); have := h.few 2 (by omega)
  have hs := sumK_kc k
  have e := h.drop
  obtain ⟨f, hf⟩ : ∃ f, 200 - sumK k = f + 1 := ⟨199 - sumK k, by omega⟩
  rw [hf, trL_stop hk h0] at e
  have := congrArg List.length e
  simp at this
  omega
theorem TSt.go {p : Rp} {R face time : Int} {k : K3} (h : TSt p R k face time) (hk : inR R k = true) (hR : R ≤ 64) {a : Nat} (ha : a < 3) (hpk : pk (lefts p.l k) p.s = a) (h0 : comp p.s a ≠ 0) :
    TSt p R (bump k a) (2 * (a : Int) + 1 - comp p.u a) (quoI (comp (lefts p.l k) a) (comp p.s a)) := by
  have := h.few 0 (by omega); have := h.few 1 (by omega); have := h.few 2 (by omega)
  have hs := sumK_kc k
  have e := h.drop
  obtain ⟨f, hf⟩ : ∃ f, 200 - sumK k = f + 1 := ⟨199 - sumK k, by omega⟩
  rw [hf, trL_go hk (by rw [hpk]; exact h0), hpk] at e
  have hkc := inR_kc hk
  refine ⟨?_, ?_, fun b hb => ?_⟩
  · rw [sumK_bump, show 200 - (sumK k + 1) = f by omega, ← List.drop_drop, e]; rfl
  · rw [sumK_bump]; exact (h.at hk).2
  · rw [kc_bump k ha hb]
    have := hkc b hb
    split <;> omega
end Go.Proofs.Ytjlgcfdpfalbpaa
