/- What a ray sees: what the iterator owes. -/
import Derived.Test.YtjlgcfdpfalbpaaRayT1
import Derived.Test.YtjlgcfdpfalbpaaRF
import Derived.Test.YtjlgcfdpfalbpaaSched2
import Derived.Test.YtjlgcfdpfalbpaaBxs
import Derived.Deep.Cut
import Derived.Shelf.Abstract
import Derived.Shelf.RegionOpen
import Derived.OwnWalkIn
import Derived.TacticsInMore
import Derived.LoopNIn
import Derived.LoopIn
namespace Go.Proofs.Ytjlgcfdpfalbpaa
open Go.RowKit Go.Shelf
attribute [local go_sem] Oper.semAt_some

abbrev encH (h : RH) : Array Value := #[.agg #[.int .i64 h.1.1, .int .i64 h.1.2.1, .int .i64 h.1.2.2, .int .i64 0, .int .i64 h.2.1, .int .i64 h.2.2]]
theorem fdiv_t (a b : Int) (h : 0 < b) (h2 : b ≤ 1048576) (w : World) : Calls Try.prog 46 #[.int .i64 a, .int .i64 b] w fun e w' => e = .returned (.tuple #[.int .i64 (quoI a b), .int .i64 0]) ∧ Below w.heap.size w w' :=
  (fdiv_c a b w).mono fun e w' ⟨_, h2, h3⟩ => ⟨h2 (by unfold cutI; omega), h3⟩
def addA (l : I3) (a : Nat) : I3 := if a = 0 then (l.1 + 65536, l.2.1, l.2.2) else if a = 1 then (l.1, l.2.1 + 65536, l.2.2) else (l.1, l.2.1, l.2.2 + 65536)
structure Nxt (p : Rp) (R : Int) (k : K3) (a : Nat) (u tm : Int) (c l : I3) : Prop where
  st : TSt p R (bump k a) (2 * (a : Int) + 1 - u) tm
  cell : cellK p (bump k a) = nearI c (2 * (a : Int) + u)
  left : lefts p.l (bump k a) = addA l a
theorem tst_next {p : Rp} {R face time : Int} {k : K3} {a : Nat} {l0 l1 l2 s0 s1 s2 cx cy cz u : Int} (hp : RpOk p) (hst : TSt p R k face time) (hin : inR R k = true) (hR : R ≤ 64) (hck : cellK p k = (cx, cy, cz)) (hlk : lefts p.l k = (l0, l1, l2) ∧ p.s = (s0, s1, s2))
    (hpk : pk (l0, l1, l2) (s0, s1, s2) = a) (ha : a < 3) (h0 : comp (s0, s1, s2) a ≠ 0) (hu : comp p.u a = u) : Nxt p R k a u (quoI (comp (l0, l1, l2) a) (comp (s0, s1, s2) a)) (cx, cy, cz) (l0, l1, l2) := by
  refine ⟨?_, ?_, ?_⟩
  · have := hst.go hin hR ha (by rw [hlk.1, hlk.2]; exact hpk) (by rw [hlk.2]; exact h0)
    rw [hu, hlk.1, hlk.2] at this
    exact this
  · rw [← hck, ← hu]; exact (near_fore hp ha).symm
  · rw [← hlk.1]
    rcases lt3 ha with rfl | rfl | rfl <;> simp [addA, lefts, bump] <;> omega
theorem near_k {p : Rp} {k : K3} {cx cy cz : Int} (hp : RpOk p) (hc : CellOk p) (hk : ∀ b, b < 3 → kc k b ≤ 65) (he : cellK p k = (cx, cy, cz)) (w : World) :
    Calls Try.prog 32 #[.agg #[.int .i64 cx, .int .i64 cy, .int .i64 cz]] w fun r w' => r = .returned (.agg (nearP cx cy cz)) ∧ Below w.heap.size w w' := by
  have c0 := hc 0 (by omega)
  have c1 := hc 1 (by omega)
  have c2 := hc 2 (by omega)
  have k0 := hk 0 (by omega)
  have k1 := hk 1 (by omega)
  have k2 := hk 2 (by omega)
  have u0 := hp.u0 0 (by omega)
  have u1 := hp.u0 1 (by omega)
  have u2 := hp.u0 2 (by omega)
  simp [comp] at c0 c1 c2 u0 u1 u2
  simp [kc] at k0 k1 k2
  unfold cellK stepI at he
  simp only [Prod.mk.injEq] at he
  obtain ⟨e0, e1, e2⟩ := he
  refine cnear_e cx cy cz ?_ ?_ ?_ w
  · rcases u0 with e | e <;> rw [e] at e0 <;> simp at e0 <;> omega
  · rcases u1 with e | e <;> rw [e] at e1 <;> simp at e1 <;> omega
  · rcases u2 with e | e <;> rw [e] at e2 <;> simp at e2 <;> omega
theorem meas_of {w : World} {g t : Nat} {l : I3} {u v x : Value} (h : Blk w g t #[.int .i64 l.1, u, .int .i64 l.2.1, v, .int .i64 l.2.2, x]) : intAt w ⟨g, 0, none⟩ + intAt w ⟨g, 2, none⟩ + intAt w ⟨g, 4, none⟩ = l.1 + l.2.1 + l.2.2 := by
  rw [intAt_eq (h.cell 0), intAt_eq (h.cell 2), intAt_eq (h.cell 4)]
theorem meas_new {w : World} {g t : Nat} {l0 l1 l2 : Int} {u v x : Value} (h : Blk w g t #[.int .i64 l0, u, .int .i64 l1, v, .int .i64 l2, x]) : intAt w ⟨g, 0, none⟩ + intAt w ⟨g, 2, none⟩ + intAt w ⟨g, 4, none⟩ = l0 + l1 + l2 := meas_of (l := (l0, l1, l2)) h
theorem sooner_v (al sa bl sb : Int) (v : Bool) (h : soonB al sa bl sb = v) (h1 : 0 ≤ al) (h2 : al ≤ 100000000) (h3 : 0 ≤ sa) (h4 : sa ≤ 1048576) (h5 : 0 ≤ bl) (h6 : bl ≤ 100000000) (h7 : 0 ≤ sb) (h8 : sb ≤ 1048576) (w : World) :
    Calls Try.prog 45 #[.agg #[.int .i64 al, .int .i64 sa], .agg #[.int .i64 bl, .int .i64 sb]] w fun r w' => r = .returned (.bool v) ∧ Below w.heap.size w w' := by rw [← h]; exact sooner_c al sa bl sb h1 h2 h3 h4 h5 h6 h7 h8 w
theorem soon_self {l s : Int} : soonB l s l s = false := by
  unfold soonB; split <;> simp <;> omega
theorem tst_bd {p : Rp} {k : K3} (hp : RpOk p) (hk : ∀ b, b < 3 → kc k b ≤ 65) :
    (0 ≤ (lefts p.l k).1 ∧ (lefts p.l k).1 ≤ 100000000 ∧ 0 ≤ p.s.1 ∧ p.s.1 ≤ 1048576) ∧ (0 ≤ (lefts p.l k).2.1 ∧ (lefts p.l k).2.1 ≤ 100000000 ∧ 0 ≤ p.s.2.1 ∧ p.s.2.1 ≤ 1048576) ∧ (0 ≤ (lefts p.l k).2.2 ∧ (lefts p.l k).2.2 ≤ 100000000 ∧ 0 ≤ p.s.2.2 ∧ p.s.2.2 ≤ 1048576) := by
  have k0 := hk 0 (by omega)
  have k1 := hk 1 (by omega)
  have k2 := hk 2 (by omega)
  have l0 := hp.l0 0 (by omega)
  have l1 := hp.l0 1 (by omega)
  have l2 := hp.l0 2 (by omega)
  have s0 := hp.s0 0 (by omega)
  have s1 := hp.s0 1 (by omega)
  have s2 := hp.s0 2 (by omega)
  simp [comp] at l0 l1 l2 s0 s1 s2
  simp [kc] at k0 k1 k2
  simp only [lefts]
  omega
/-- How far the least side has been sought. -/
def Inn (l0 l1 l2 s0 s1 s2 : Int) (v t : Value) : Prop :=
  (v = .int .i64 0 ∧ t = .int .i64 0) ∨ (v = .int .i64 1 ∧ t = .int .i64 0) ∨ (v = .int .i64 2 ∧ t = .int .i64 0 ∧ soonB l1 s1 l0 s0 = false) ∨ (v = .int .i64 2 ∧ t = .int .i64 1 ∧ soonB l1 s1 l0 s0 = true) ∨
  (v = .int .i64 3 ∧ t = .int .i64 0 ∧ pk (l0, l1, l2) (s0, s1, s2) = 0) ∨ (v = .int .i64 3 ∧ t = .int .i64 1 ∧ pk (l0, l1, l2) (s0, s1, s2) = 1) ∨ (v = .int .i64 3 ∧ t = .int .i64 2 ∧ pk (l0, l1, l2) (s0, s1, s2) = 2)
set_option maxRecDepth 100000 in
set_option maxHeartbeats 8000000 in
theorem trace_it (B1 B2 B3 : Nat) (x y z a b c R : Int) (hx : -70368744177664 ≤ x ∧ x ≤ 70368744177664) (hy : -70368744177664 ≤ y ∧ y ≤ 70368744177664) (hz : -70368744177664 ≤ z ∧ z ≤ 70368744177664)
    (ha : -1048576 ≤ a ∧ a ≤ 1048576) (hb : -1048576 ≤ b ∧ b ≤ 1048576) (hc : -1048576 ≤ c ∧ c ≤ 1048576) (hR : 0 ≤ R) (hR2 : R ≤ 64) (w : World)
    (h1 : Blk w B1 26 #[.int .i64 x, .int .i64 y, .int .i64 z]) (h2 : Blk w B2 26 #[.int .i64 a, .int .i64 b, .int .i64 c]) (h3 : Blk w B3 3 #[.int .i64 R]) :
    Iter Try.prog 41 #[.pointer (some ⟨B1, 0, none⟩), .pointer (some ⟨B2, 0, none⟩), .pointer (some ⟨B3, 0, none⟩)] encH (traceP (rpOf x y z a b c) R) (fun b => b = B1 ∨ b = B2 ∨ b = B3) w := by
  intro m l J Jx W hW hJ hJx hY h0
  have A1 := hW.blk (.inl rfl) h1
  have A2 := hW.blk (.inr (.inl rfl)) h2
  have A3 := hW.blk (.inr (.inr rfl)) h3
  have HBL := Lib.hid (show B1 < W.heap.size ∧ B2 < W.heap.size ∧ B3 < W.heap.size from ⟨A1.lt, A2.lt, A3.lt⟩)
  have hp := rp_ok (x := x) (y := y) (z := z) ha hb hc
  have hcell := rp_cell (a := a) (b := b) (c := c) hx hy hz
  have HS := Lib.hid fun W => sides_c x y z a b c (by omega) (by omega) (by omega) W
  clear h1 h2 h3 hW hx hy hz ha hb hc
  refine callsIn_of_wp Try.func41 rfl trivial ?_ rfl
  simp only [Try.ntmps41, List.size_toArray, List.length_cons, List.length_nil, Nat.reduceAdd, Nat.reduceSub, Array.replicate_succ, Array.replicate_zero, List.push_toArray, List.append_toArray, List.nil_append, List.cons_append]
  refine wpIn_wide.2 ?_
  obtain ⟨a0, a1, a2, -, -, -⟩ := A1.c3
  obtain ⟨b0, b1, b2, -, -, -⟩ := A2.c3
  have HP := Lib.hid (And.intro hp hcell)
  have HRR := Lib.hid (And.intro hR hR2)
  clear hp hcell hR hR2
  go_upto_region 1 with (go_at_call 42; refine (HS.out _).mono ?_; rintro e_ w1 ⟨rfl, k1⟩)
  have hs1 := k1.size
  generalize hg : w1.heap.size = g at hs1 ⊢
  generalize hV : World.alloc w1 _ = w2
  have hz2 : w2.heap.size = g + 1 := by rw [← hV]; simp [hg]
  have L : Blk w2 g 75 (sdA x y z a b c) := Blk.eqw hV (Blk.new' hg.symm)
  have k2 : Below W.heap.size W w2 := by rw [← hV]; exact k1.alloc k1.size _
  clear a0 a1 a2 b0 b1 b2 HS hV hg k1
  replace A1 := A1.on k2
  replace A2 := A2.on k2
  replace A3 := A3.on k2
  obtain ⟨a0, a1, a2, -, -, -⟩ := A1.c3
  have hof := Lib.hid fun w => cof_c x y z w
  go_upto_region 2 with (go_at_call 43; refine (hof.out _).mono ?_; rintro e_ w3 ⟨rfl, k3⟩)
  have hz3 := k3.size
  generalize hg3 : w3.heap.size = g3 at hz3 ⊢
  generalize hV : World.alloc w3 _ = w4
  have hz4 : w4.heap.size = g3 + 1 := by rw [← hV]; simp [hg3]
  have D : Blk w4 g3 31 #[.int .i64 (lowI x), .int .i64 (lowI y), .int .i64 (lowI z), .int .i64 0, .int .i64 (-1), .int .i64 0] := Blk.eqw hV (Blk.new' hg3.symm)
  have k4 : Below w2.heap.size w2 w4 := by rw [← hV]; exact k3.alloc k3.size _
  rw [hz2] at hz3
  clear a0 a1 a2 hof hV hg3 k3 hz2
  replace A1 := A1.on k4
  replace A2 := A2.on k4
  replace A3 := A3.on k4
  replace L := L.on k4
  replace k4 := after k2 k4
  clear k2
  obtain ⟨⟨d0, d1, d2, -, -, -⟩, -, -, -, -, -, -⟩ := D.c6
  go_upto_region 3 with (fail)
  generalize hV : World.alloc w4 _ = w5
  have E : Blk w5 (g3 + 1) 29 #[.int .i64 (lowI x), .int .i64 (lowI y), .int .i64 (lowI z)] := Blk.eqw hV (Blk.new' hz4.symm)
  have k5 : Below w4.heap.size w4 w5 := by rw [← hV]; exact (Below.refl _ _).alloc (Nat.le_refl _) _
  have hz5 : w5.heap.size = g3 + 2 := by rw [← hV]; simp [hz4]
  replace A1 := A1.on k5
  replace A2 := A2.on k5
  replace A3 := A3.on k5
  replace L := L.on k5
  replace D := D.on k5
  have hJ5 : ∀ Z, J Z 0 w5 := fun Z => hJ Z 0 W w5 (h0 Z) (Kept.of_below (after k4 k5))
  clear hV k4 k5 d0 d1 d2 h0
  have HZ := Lib.hid (show W.heap.size ≤ g ∧ g + 1 ≤ g3 from ⟨hs1, hz3⟩)
  have HZ5 := Lib.hid hz5
  clear hs1 hz3 hz4 hz5
  have hpe : ∃ p, p = rpOf x y z a b c := ⟨_, rfl⟩
  obtain ⟨p, hpe⟩ := hpe
  rw [← hpe] at hY HP
  have hend : (traceP (rpOf x y z a b c) R) = traceP p R := by rw [hpe]
  have HE := Lib.hid hend
  clear hend
  have HW := Lib.hid (show p.c = (lowI x, lowI y, lowI z) ∧ p.u = (rupI a, rupI b, rupI c) from by rw [hpe]; exact ⟨rfl, rfl⟩)
  have HL := Lib.hid (show sdA x y z a b c = #[.int .i64 (lefts p.l (0, 0, 0)).1, .int .i64 p.s.1, .int .i64 (lefts p.l (0, 0, 0)).2.1, .int .i64 p.s.2.1, .int .i64 (lefts p.l (0, 0, 0)).2.2, .int .i64 p.s.2.2] from by rw [hpe]; simp [sdA, rpOf, lefts])
  rw [HL.out] at L
  have hD : (#[.int .i64 (lowI x), .int .i64 (lowI y), .int .i64 (lowI z), .int .i64 0, .int .i64 (-1), .int .i64 0] : Array Value) = #[.int .i64 (cellK p (0, 0, 0)).1, .int .i64 (cellK p (0, 0, 0)).2.1, .int .i64 (cellK p (0, 0, 0)).2.2, .int .i64 0, .int .i64 (-1), .int .i64 0] := by rw [hpe]; simp [rpOf, cellK]
  rw [hD] at D
  have hE : (#[.int .i64 (lowI x), .int .i64 (lowI y), .int .i64 (lowI z)] : Array Value) = #[.int .i64 p.c.1, .int .i64 p.c.2.1, .int .i64 p.c.2.2] := by rw [hpe]; rfl
  rw [hE] at E
  clear hpe HL hD hE
  refine (wpIn_wide (n := m + 1)).1 ?_
  gi_loopw [8] (fun _ wr => ∃ (k : K3) (face time : Int), Hid (TSt p R k face time) ∧ Blk wr g 75 #[.int .i64 (lefts p.l k).1, .int .i64 p.s.1, .int .i64 (lefts p.l k).2.1, .int .i64 p.s.2.1, .int .i64 (lefts p.l k).2.2, .int .i64 p.s.2.2] ∧
    Blk wr g3 31 #[.int .i64 (cellK p k).1, .int .i64 (cellK p k).2.1, .int .i64 (cellK p k).2.2, .int .i64 0, .int .i64 face, .int .i64 time] ∧ Blk wr (g3 + 1) 29 #[.int .i64 p.c.1, .int .i64 p.c.2.1, .int .i64 p.c.2.2] ∧
    Blk wr B1 26 #[.int .i64 x, .int .i64 y, .int .i64 z] ∧ Blk wr B2 26 #[.int .i64 a, .int .i64 b, .int .i64 c] ∧ Blk wr B3 3 #[.int .i64 R] ∧ Hid (g3 + 2 ≤ wr.heap.size) ∧ J (g3 + 2) (sumK k) wr)
    (fun _ wr => (1000000000 - (intAt wr ⟨g, 0, none⟩ + intAt wr ⟨g, 2, none⟩ + intAt wr ⟨g, 4, none⟩)).toNat)
  case atStart => exact ⟨_, _, _, TSt.zero p R, L, D, E, A1, A2, A3, Nat.le_of_eq HZ5.out.symm, hJ5 _⟩
  case round =>
    clear L D E A1 A2 A3 HZ5 hJ5
    obtain ⟨k, face, time, hst, L, D, E, A1, A2, A3, hsz, hj⟩ := hrel
    have HME := Lib.hid (meas_of L)
    rcases hck : cellK p k with ⟨cx, cy, cz⟩
    rw [hck] at D
    have HCK := Lib.hid hck
    clear hck
    obtain ⟨e0, e1, e2, -, -, -⟩ := E.c3
    obtain ⟨⟨d0, d1, d2, d3, d4, d5⟩, -, -, -, -, -, -⟩ := D.c6
    obtain ⟨r0, -⟩ := A3.c1
    cases hin : inR R k
    · have HWI := Lib.hid fun w => within_k p k cx cy cz R HP.out.1 HP.out.2 HRR.out.1 hst.out.few HCK.out false hin w
      have HN := Lib.hid (hst.out.out hin)
      clear hin
      gi_wp2_with (refine ⟨trivial, ?_⟩; gi_at_call 44; refine (callsIn_wide.2 (HWI.out _)).mono ?_; rintro e_ w6 ⟨rfl, k6⟩)
      go_end0
      exact ⟨⟨_, rfl⟩, g3 + 2, by have := HZ.out; omega, .inl (by rw [HE.out, ← HN.out]; exact hJ _ _ _ _ hj (Kept.of_below k6))⟩
    · have HWI := Lib.hid fun w => within_k p k cx cy cz R HP.out.1 HP.out.2 HRR.out.1 hst.out.few HCK.out true hin w
      have HIN := Lib.hid hin
      have hat := hst.out.at hin
      rw [HCK.out] at hat
      have HAT := Lib.hid hat
      clear hin hat
      have hgz : W.heap.size ≤ g3 + 2 := by have := HZ.out; omega
      have HGZ := Lib.hid hgz
      clear hgz
      gi_wp2_with (refine ⟨trivial, ?_⟩; gi_at_call 44; refine (callsIn_wide.2 (HWI.out _)).mono ?_; rintro e_ w6 ⟨rfl, k6⟩; replace L := L.on k6; replace D := D.on k6; replace E := E.on k6; replace A1 := A1.on k6; replace A2 := A2.on k6; replace A3 := A3.on k6; have hsz6 := Lib.hid (Nat.le_trans hsz.out k6.size); replace hj := hJ _ _ _ _ hj (Kept.of_below k6); clear k6 e0 e1 e2 d0 d1 d2 d3 d4 d5 r0; obtain ⟨⟨d0, d1, d2, d3, d4, d5⟩, -, -, -, -, -, -⟩ := D.c6; obtain ⟨fn, tmps, assign, body, hy', hR⟩ := hY (g3 + 2) (sumK k) _ w6 HGZ.out hsz6.out HAT.out.1 hj)
      refine hR.mono ?_
      rintro e_ W3 (⟨rfl, hj3, hk3⟩ | ⟨rfl, hjx3⟩)
      · replace L := hk3.blk (.inl ⟨HZ.out.1, by have := HZ.out; omega⟩) L
        replace D := hk3.blk (.inl ⟨by have := HZ.out; omega, by omega⟩) D
        replace E := hk3.blk (.inl ⟨by have := HZ.out; omega, by omega⟩) E
        replace A1 := hk3.blk (.inr (.inl rfl)) A1
        replace A2 := hk3.blk (.inr (.inr (.inl rfl))) A2
        replace A3 := hk3.blk (.inr (.inr (.inr rfl))) A3
        have hsz3 := Lib.hid (Nat.le_trans hsz6.out hk3.size)
        clear hk3 hR hy' hj hsz hsz6 d0 d1 d2 d3 d4 d5 HWI
        have hbd := tst_bd HP.out.1 hst.out.few
        rcases hlk : lefts p.l k with ⟨l0, l1, l2⟩
        rcases hsk : p.s with ⟨s0, s1, s2⟩
        rw [hlk, hsk] at L
        rw [hlk, hsk] at hbd
        have HLK := Lib.hid (And.intro hlk hsk)
        clear hlk hsk
        obtain ⟨⟨l0a, l0b, s0a, s0b⟩, ⟨l1a, l1b, s1a, s1b⟩, ⟨l2a, l2b, s2a, s2b⟩⟩ := hbd
        gi_wp2
        gi_loopw [8, 30] (fun t v wr => Hid (Inn l0 l1 l2 s0 s1 s2 v t) ∧ Blk wr g 75 #[.int .i64 l0, .int .i64 s0, .int .i64 l1, .int .i64 s1, .int .i64 l2, .int .i64 s2] ∧ Blk wr g3 31 #[.int .i64 cx, .int .i64 cy, .int .i64 cz, .int .i64 0, .int .i64 face, .int .i64 time] ∧ Blk wr (g3 + 1) 29 #[.int .i64 p.c.1, .int .i64 p.c.2.1, .int .i64 p.c.2.2] ∧ Blk wr B1 26 #[.int .i64 x, .int .i64 y, .int .i64 z] ∧ Blk wr B2 26 #[.int .i64 a, .int .i64 b, .int .i64 c] ∧ Blk wr B3 3 #[.int .i64 R] ∧ Hid (g3 + 2 ≤ wr.heap.size) ∧ J (g3 + 2) (sumK k + 1) wr) (fun _ v _ => (3 - intOf v).toNat)
        case atStart => exact ⟨.inl ⟨rfl, rfl⟩, L, D, E, A1, A2, A3, hsz3, hj3⟩
        case round =>
          clear L D E A1 A2 A3 hsz3 hj3
          obtain ⟨hinn, L, D, E, A1, A2, A3, hsz3, hj3⟩ := hrel
          rcases hinn.out with ⟨rfl, rfl⟩ | ⟨rfl, rfl⟩ | ⟨rfl, rfl, hso⟩ | ⟨rfl, rfl, hso⟩ | ⟨rfl, rfl, hpk⟩ | ⟨rfl, rfl, hpk⟩ | ⟨rfl, rfl, hpk⟩
          · clear hinn
            obtain ⟨p0, p1, p2, p3, p4, p5⟩ := L.re6
            have HSO := Lib.hid fun w => sooner_v l0 s0 l0 s0 false soon_self l0a l0b s0a s0b l0a l0b s0a s0b w
            gi_wp2
            refine wpIn_wide.2 ?_
            refine wp_sched [0, 0, 0, 0, 0, 0, 0] (fun _ _ _ => True) (by kernel_rfl) (by kernel_rfl) (fun _ _ _ _ h _ => h) ?_
            repeat (first | (refine wpQs_s ?_) | (refine wpQs_q (fun K hK => ?_); go_simp; first | (refine hK _ ?_; clear hK K) | (apply Exists.intro; refine ⟨fun _ => ?_, hK _ ?_⟩; (exact HSO.out _); clear hK K)) | (refine wpQs_f (fun K hK => ?_); go_simp; refine hK _ ?_; clear hK K))
            refine wpQs_nil ?_
            repeat (first | (refine wpLs_skip ?_) | (refine wpLs_one ?lsA (fun v_ => ?_); case lsA => (intro w_ hw_ hp_; (fail))))
            refine wpLs_nilB ?_
            simp only [tails]
            intro W4 k4 _
            clear p0 p1 p2 p3 p4 p5
            replace L := L.on k4
            replace D := D.on k4
            replace E := E.on k4
            replace A1 := A1.on k4
            replace A2 := A2.on k4
            replace A3 := A3.on k4
            have hsz4 := Lib.hid (Nat.le_trans hsz3.out k4.size)
            replace hj3 := hJ _ _ _ _ hj3 (Kept.of_below k4)
            clear k4 hsz3
            simp only [wpList, Exit.then]
            go_at_K
            gi_wp2
            go_roundw
            case rel => exact ⟨.inr (.inl ⟨rfl, rfl⟩), L, D, E, A1, A2, A3, hsz4, hj3⟩
            case measure => simp [intOf]
          · clear hinn
            cases hso : soonB l1 s1 l0 s0
            · have hso2 := Lib.hid hso
              clear hso
              obtain ⟨p0, p1, p2, p3, p4, p5⟩ := L.re6
              have HSO := Lib.hid fun w => sooner_v l1 s1 l0 s0 false hso2.out l1a l1b s1a s1b l0a l0b s0a s0b w
              gi_wp2
              refine wpIn_wide.2 ?_
              refine wp_sched [0, 0, 0, 0, 0, 0, 0] (fun _ _ _ => True) (by kernel_rfl) (by kernel_rfl) (fun _ _ _ _ h _ => h) ?_
              repeat (first | (refine wpQs_s ?_) | (refine wpQs_q (fun K hK => ?_); go_simp; first | (refine hK _ ?_; clear hK K) | (apply Exists.intro; refine ⟨fun _ => ?_, hK _ ?_⟩; (exact HSO.out _); clear hK K)) | (refine wpQs_f (fun K hK => ?_); go_simp; refine hK _ ?_; clear hK K))
              refine wpQs_nil ?_
              repeat (first | (refine wpLs_skip ?_) | (refine wpLs_one ?lsA (fun v_ => ?_); case lsA => (intro w_ hw_ hp_; (fail))))
              refine wpLs_nilB ?_
              simp only [tails]
              intro W4 k4 _
              clear p0 p1 p2 p3 p4 p5
              replace L := L.on k4
              replace D := D.on k4
              replace E := E.on k4
              replace A1 := A1.on k4
              replace A2 := A2.on k4
              replace A3 := A3.on k4
              have hsz4 := Lib.hid (Nat.le_trans hsz3.out k4.size)
              replace hj3 := hJ _ _ _ _ hj3 (Kept.of_below k4)
              clear k4 hsz3
              simp only [wpList, Exit.then]
              go_at_K
              gi_wp2
              go_roundw
              case rel => exact ⟨.inr (.inr (.inl ⟨rfl, rfl, hso2.out⟩)), L, D, E, A1, A2, A3, hsz4, hj3⟩
              case measure => simp [intOf]
            · have hso2 := Lib.hid hso
              clear hso
              obtain ⟨p0, p1, p2, p3, p4, p5⟩ := L.re6
              have HSO := Lib.hid fun w => sooner_v l1 s1 l0 s0 true hso2.out l1a l1b s1a s1b l0a l0b s0a s0b w
              gi_wp2
              refine wpIn_wide.2 ?_
              refine wp_sched [0, 0, 0, 0, 0, 0, 0] (fun _ _ _ => True) (by kernel_rfl) (by kernel_rfl) (fun _ _ _ _ h _ => h) ?_
              repeat (first | (refine wpQs_s ?_) | (refine wpQs_q (fun K hK => ?_); go_simp; first | (refine hK _ ?_; clear hK K) | (apply Exists.intro; refine ⟨fun _ => ?_, hK _ ?_⟩; (exact HSO.out _); clear hK K)) | (refine wpQs_f (fun K hK => ?_); go_simp; refine hK _ ?_; clear hK K))
              refine wpQs_nil ?_
              repeat (first | (refine wpLs_skip ?_) | (refine wpLs_one ?lsA (fun v_ => ?_); case lsA => (intro w_ hw_ hp_; (fail))))
              refine wpLs_nilB ?_
              simp only [tails]
              intro W4 k4 _
              clear p0 p1 p2 p3 p4 p5
              replace L := L.on k4
              replace D := D.on k4
              replace E := E.on k4
              replace A1 := A1.on k4
              replace A2 := A2.on k4
              replace A3 := A3.on k4
              have hsz4 := Lib.hid (Nat.le_trans hsz3.out k4.size)
              replace hj3 := hJ _ _ _ _ hj3 (Kept.of_below k4)
              clear k4 hsz3
              simp only [wpList, Exit.then]
              go_at_K
              gi_wp2
              go_roundw
              case rel => exact ⟨.inr (.inr (.inr (.inl ⟨rfl, rfl, hso2.out⟩))), L, D, E, A1, A2, A3, hsz4, hj3⟩
              case measure => simp [intOf]
          · clear hinn
            have HSO1 := Lib.hid hso
            clear hso
            cases hso : soonB l2 s2 l0 s0
            · have hso2 := Lib.hid hso
              have hpk := Lib.hid (show pk (l0, l1, l2) (s0, s1, s2) = 0 by unfold pk; simp [HSO1.out, hso])
              clear hso
              obtain ⟨p0, p1, p2, p3, p4, p5⟩ := L.re6
              have HSO := Lib.hid fun w => sooner_v l2 s2 l0 s0 false hso2.out l2a l2b s2a s2b l0a l0b s0a s0b w
              gi_wp2
              refine wpIn_wide.2 ?_
              refine wp_sched [0, 0, 0, 0, 0, 0, 0] (fun _ _ _ => True) (by kernel_rfl) (by kernel_rfl) (fun _ _ _ _ h _ => h) ?_
              repeat (first | (refine wpQs_s ?_) | (refine wpQs_q (fun K hK => ?_); go_simp; first | (refine hK _ ?_; clear hK K) | (apply Exists.intro; refine ⟨fun _ => ?_, hK _ ?_⟩; (exact HSO.out _); clear hK K)) | (refine wpQs_f (fun K hK => ?_); go_simp; refine hK _ ?_; clear hK K))
              refine wpQs_nil ?_
              repeat (first | (refine wpLs_skip ?_) | (refine wpLs_one ?lsA (fun v_ => ?_); case lsA => (intro w_ hw_ hp_; (fail))))
              refine wpLs_nilB ?_
              simp only [tails]
              intro W4 k4 _
              clear p0 p1 p2 p3 p4 p5
              replace L := L.on k4
              replace D := D.on k4
              replace E := E.on k4
              replace A1 := A1.on k4
              replace A2 := A2.on k4
              replace A3 := A3.on k4
              have hsz4 := Lib.hid (Nat.le_trans hsz3.out k4.size)
              replace hj3 := hJ _ _ _ _ hj3 (Kept.of_below k4)
              clear k4 hsz3
              simp only [wpList, Exit.then]
              go_at_K
              gi_wp2
              go_roundw
              case rel => exact ⟨.inr (.inr (.inr (.inr (.inl ⟨rfl, rfl, hpk.out⟩)))), L, D, E, A1, A2, A3, hsz4, hj3⟩
              case measure => simp [intOf]
            · have hso2 := Lib.hid hso
              have hpk := Lib.hid (show pk (l0, l1, l2) (s0, s1, s2) = 2 by unfold pk; simp [HSO1.out, hso])
              clear hso
              obtain ⟨p0, p1, p2, p3, p4, p5⟩ := L.re6
              have HSO := Lib.hid fun w => sooner_v l2 s2 l0 s0 true hso2.out l2a l2b s2a s2b l0a l0b s0a s0b w
              gi_wp2
              refine wpIn_wide.2 ?_
              refine wp_sched [0, 0, 0, 0, 0, 0, 0] (fun _ _ _ => True) (by kernel_rfl) (by kernel_rfl) (fun _ _ _ _ h _ => h) ?_
              repeat (first | (refine wpQs_s ?_) | (refine wpQs_q (fun K hK => ?_); go_simp; first | (refine hK _ ?_; clear hK K) | (apply Exists.intro; refine ⟨fun _ => ?_, hK _ ?_⟩; (exact HSO.out _); clear hK K)) | (refine wpQs_f (fun K hK => ?_); go_simp; refine hK _ ?_; clear hK K))
              refine wpQs_nil ?_
              repeat (first | (refine wpLs_skip ?_) | (refine wpLs_one ?lsA (fun v_ => ?_); case lsA => (intro w_ hw_ hp_; (fail))))
              refine wpLs_nilB ?_
              simp only [tails]
              intro W4 k4 _
              clear p0 p1 p2 p3 p4 p5
              replace L := L.on k4
              replace D := D.on k4
              replace E := E.on k4
              replace A1 := A1.on k4
              replace A2 := A2.on k4
              replace A3 := A3.on k4
              have hsz4 := Lib.hid (Nat.le_trans hsz3.out k4.size)
              replace hj3 := hJ _ _ _ _ hj3 (Kept.of_below k4)
              clear k4 hsz3
              simp only [wpList, Exit.then]
              go_at_K
              gi_wp2
              go_roundw
              case rel => exact ⟨.inr (.inr (.inr (.inr (.inr (.inr ⟨rfl, rfl, hpk.out⟩))))), L, D, E, A1, A2, A3, hsz4, hj3⟩
              case measure => simp [intOf]
          · clear hinn
            have HSO1 := Lib.hid hso
            clear hso
            cases hso : soonB l2 s2 l1 s1
            · have hso2 := Lib.hid hso
              have hpk := Lib.hid (show pk (l0, l1, l2) (s0, s1, s2) = 1 by unfold pk; simp [HSO1.out, hso])
              clear hso
              obtain ⟨p0, p1, p2, p3, p4, p5⟩ := L.re6
              have HSO := Lib.hid fun w => sooner_v l2 s2 l1 s1 false hso2.out l2a l2b s2a s2b l1a l1b s1a s1b w
              gi_wp2
              refine wpIn_wide.2 ?_
              refine wp_sched [0, 0, 0, 0, 0, 0, 0] (fun _ _ _ => True) (by kernel_rfl) (by kernel_rfl) (fun _ _ _ _ h _ => h) ?_
              repeat (first | (refine wpQs_s ?_) | (refine wpQs_q (fun K hK => ?_); go_simp; first | (refine hK _ ?_; clear hK K) | (apply Exists.intro; refine ⟨fun _ => ?_, hK _ ?_⟩; (exact HSO.out _); clear hK K)) | (refine wpQs_f (fun K hK => ?_); go_simp; refine hK _ ?_; clear hK K))
              refine wpQs_nil ?_
              repeat (first | (refine wpLs_skip ?_) | (refine wpLs_one ?lsA (fun v_ => ?_); case lsA => (intro w_ hw_ hp_; (fail))))
              refine wpLs_nilB ?_
              simp only [tails]
              intro W4 k4 _
              clear p0 p1 p2 p3 p4 p5
              replace L := L.on k4
              replace D := D.on k4
              replace E := E.on k4
              replace A1 := A1.on k4
              replace A2 := A2.on k4
              replace A3 := A3.on k4
              have hsz4 := Lib.hid (Nat.le_trans hsz3.out k4.size)
              replace hj3 := hJ _ _ _ _ hj3 (Kept.of_below k4)
              clear k4 hsz3
              simp only [wpList, Exit.then]
              go_at_K
              gi_wp2
              go_roundw
              case rel => exact ⟨.inr (.inr (.inr (.inr (.inr (.inl ⟨rfl, rfl, hpk.out⟩))))), L, D, E, A1, A2, A3, hsz4, hj3⟩
              case measure => simp [intOf]
            · have hso2 := Lib.hid hso
              have hpk := Lib.hid (show pk (l0, l1, l2) (s0, s1, s2) = 2 by unfold pk; simp [HSO1.out, hso])
              clear hso
              obtain ⟨p0, p1, p2, p3, p4, p5⟩ := L.re6
              have HSO := Lib.hid fun w => sooner_v l2 s2 l1 s1 true hso2.out l2a l2b s2a s2b l1a l1b s1a s1b w
              gi_wp2
              refine wpIn_wide.2 ?_
              refine wp_sched [0, 0, 0, 0, 0, 0, 0] (fun _ _ _ => True) (by kernel_rfl) (by kernel_rfl) (fun _ _ _ _ h _ => h) ?_
              repeat (first | (refine wpQs_s ?_) | (refine wpQs_q (fun K hK => ?_); go_simp; first | (refine hK _ ?_; clear hK K) | (apply Exists.intro; refine ⟨fun _ => ?_, hK _ ?_⟩; (exact HSO.out _); clear hK K)) | (refine wpQs_f (fun K hK => ?_); go_simp; refine hK _ ?_; clear hK K))
              refine wpQs_nil ?_
              repeat (first | (refine wpLs_skip ?_) | (refine wpLs_one ?lsA (fun v_ => ?_); case lsA => (intro w_ hw_ hp_; (fail))))
              refine wpLs_nilB ?_
              simp only [tails]
              intro W4 k4 _
              clear p0 p1 p2 p3 p4 p5
              replace L := L.on k4
              replace D := D.on k4
              replace E := E.on k4
              replace A1 := A1.on k4
              replace A2 := A2.on k4
              replace A3 := A3.on k4
              have hsz4 := Lib.hid (Nat.le_trans hsz3.out k4.size)
              replace hj3 := hJ _ _ _ _ hj3 (Kept.of_below k4)
              clear k4 hsz3
              simp only [wpList, Exit.then]
              go_at_K
              gi_wp2
              go_roundw
              case rel => exact ⟨.inr (.inr (.inr (.inr (.inr (.inr ⟨rfl, rfl, hpk.out⟩))))), L, D, E, A1, A2, A3, hsz4, hj3⟩
              case measure => simp [intOf]
          · clear hinn
            have HPK := Lib.hid hpk
            clear hpk
            by_cases h0 : s0 = 0
            · have HST := Lib.hid (hst.out.stop HIN.out (by rw [HLK.out.1, HLK.out.2, HPK.out]; exact h0))
              obtain ⟨⟨q0, q1, q2, q3, q4, q5⟩, -, -, -, -, -, -⟩ := L.c6
              subst h0
              gi_wp2
              refine bodyPost_ret (results_none rfl _ _ _) rfl ?_
              exact ⟨⟨_, rfl⟩, g3 + 2, HGZ.out, .inl (by rw [HE.out, ← HST.out]; exact hj3)⟩
            · have h0b : (s0 == 0) = false := by simpa using h0
              have HDV := Lib.hid fun w => fdiv_t l0 s0 (by omega) s0b w
              obtain ⟨u, hu⟩ : ∃ u, u = rupI a := ⟨_, rfl⟩
              have hcu : comp p.u 0 = u := by rw [HW.out.2, hu]; rfl
              have HNX := Lib.hid (tst_next HP.out.1 hst.out HIN.out HRR.out.2 HCK.out HLK.out HPK.out (by omega) h0 hcu)
              have HNR := Lib.hid fun w => near_k HP.out.1 HP.out.2 hst.out.few HCK.out w
              have HAX := Lib.hid fun w => axis_e a b c 0 a rfl w
              generalize htm : quoI l0 s0 = tm at HDV
              have HTM := Lib.hid htm
              clear htm hcu
              by_cases hpos : 0 < a
              · obtain rfl : u = 1 := by rw [hu]; unfold rupI; rw [if_pos hpos]
                clear hu
                obtain ⟨p0, p1, p2, p3, p4, p5⟩ := L.re6
                obtain ⟨⟨q0, q1, q2, q3, q4, q5⟩, -, -, -, -, -, -⟩ := L.c6
                gi_wp2
                refine wpIn_wide.2 ?_
                refine wp_sched [0, 0, 0, 0, 0, 0, 0, 0, 0, 0, 0, 0, 0, 0] (fun _ _ _ => True) (by kernel_rfl) (by kernel_rfl) (fun _ _ _ _ h _ => h) ?_
                repeat (first | (refine wpQs_s ?_) | (refine wpQs_q (fun K hK => ?_); go_simp; first | (refine hK _ ?_; clear hK K) | (apply Exists.intro; refine ⟨fun _ => ?_, hK _ ?_⟩; (exact HDV.out _); clear hK K)) | (refine wpQs_f (fun K hK => ?_); go_simp; refine hK _ ?_; clear hK K))
                refine wpQs_nil ?_
                repeat (first | (refine wpLs_skip ?_) | (refine wpLs_one ?lsA (fun v_ => ?_); case lsA => (intro w_ hw_ hp_; (fail))))
                refine wpLs_nilB ?_
                simp only [tails]
                intro W4 k4 _
                clear p0 p1 p2 p3 p4 p5 q0 q1 q2 q3 q4 q5
                replace L := L.on k4
                replace D := D.on k4
                replace E := E.on k4
                replace A1 := A1.on k4
                replace A2 := A2.on k4
                replace A3 := A3.on k4
                have hsz4 := Lib.hid (Nat.le_trans hsz3.out k4.size)
                replace hj3 := hJ _ _ _ _ hj3 (Kept.of_below k4)
                clear k4 hsz3
                simp only [wpList, Exit.then]
                go_at_K
                obtain ⟨⟨p0, p1, p2, p3, p4, p5⟩, f0, f1, f2, f3, f4, f5⟩ := L.c6
                obtain ⟨b0, b1, b2, -, -, -⟩ := A2.c3
                have hne := HZ.out
                have hbl := HBL.out
                have hb1 : B1 ≠ g := by omega
                have hb2 : B2 ≠ g := by omega
                have hb3 : B3 ≠ g := by omega
                have ix := fun w => (arr6_at (.int .i64 (cx - 1)) (.int .i64 cy) (.int .i64 cz) (.int .i64 (cx + 1)) (.int .i64 cy) (.int .i64 cz) (.int .i64 cx) (.int .i64 (cy - 1)) (.int .i64 cz) (.int .i64 cx) (.int .i64 (cy + 1)) (.int .i64 cz) (.int .i64 cx) (.int .i64 cy) (.int .i64 (cz - 1)) (.int .i64 cx) (.int .i64 cy) (.int .i64 (cz + 1)) w).2.1
                gi_wp2_with first
                  | (refine ⟨trivial, ?_⟩; gi_at_call 47; refine (callsIn_wide.2 (HAX.out _)).mono ?_; rintro e_ w7 ⟨rfl, k7⟩; replace L := (L.set_ 0 _).on k7; replace D := (D.far (p := ⟨g, 0, none⟩) (by dsimp only; omega) _).on k7; replace E := (E.far (p := ⟨g, 0, none⟩) (by dsimp only; omega) _).on k7; replace A1 := (A1.far (p := ⟨g, 0, none⟩) hb1 _).on k7; replace A2 := (A2.far (p := ⟨g, 0, none⟩) hb2 _).on k7; replace A3 := (A3.far (p := ⟨g, 0, none⟩) hb3 _).on k7; have hsz7 := Lib.hid (Nat.le_trans hsz4.out (by simpa using k7.size)); replace hj3 := hJ _ _ _ _ (hJ _ _ _ _ hj3 ((Kept.refl _ _).setCell (p := ⟨g, 0, none⟩) (fun h => h ⟨hne.1, by dsimp only; omega⟩) _)) (Kept.of_below k7); clear p0 p1 p2 p3 p4 p5 f0 f1 f2 f3 f4 f5 b0 b1 b2 k7 hsz4; obtain ⟨⟨d0, d1, d2, d3, d4, d5⟩, -, -, -, -, -, -⟩ := D.c6)
                  | (refine ⟨trivial, ?_⟩; gi_at_call 32; refine (callsIn_wide.2 (HNR.out _)).mono ?_; rintro e_ w8 ⟨rfl, k8⟩; clear d0 d1 d2 d3 d4 d5; replace L := L.on k8; replace D := D.on k8; replace E := E.on k8; replace A1 := A1.on k8; replace A2 := A2.on k8; replace A3 := A3.on k8; have hsz8 := Lib.hid (Nat.le_trans hsz7.out k8.size); replace hj3 := hJ _ _ _ _ hj3 (Kept.of_below k8); clear k8; obtain ⟨⟨d0, d1, d2, d3, d4, d5⟩, f0, f1, f2, f3, f4, f5⟩ := D.c6)
                have hnx : TSt p R (bump k 0) 0 (quoI l0 s0) := HNX.out.st
                rw [HTM.out] at hnx
                have LL := (kept6 (x := .int .i64 (cx + 1)) (y := .int .i64 (cy)) (z := .int .i64 (cz)) (p := .int .i64 0) (q := .int .i64 0) (r := .int .i64 tm)).blk (show g ≠ g3 by omega) L
                have hml := meas_new (LL : Blk _ g 75 #[.int .i64 (l0 + 65536), .int .i64 s0, .int .i64 (l1), .int .i64 s1, .int .i64 (l2), .int .i64 s2])
                go_roundw
                case rel => exact ⟨bump k 0, 0, tm, hnx, by rw [HNX.out.left, HLK.out.2]; exact LL, by rw [HNX.out.cell]; exact D.st6 _ _ _ _ _ _, kept6.blk (by omega) E, kept6.blk (by omega) A1, kept6.blk (by omega) A2, kept6.blk (by omega) A3, by have := hsz8.out; simp; omega, by rw [sumK_bump]; exact hJ _ _ _ _ hj3 (kept6.mono (fun c h e => h (e ▸ ⟨by omega, by omega⟩)))⟩
                case measure => rw [HME.out, hml, HLK.out.1]; dsimp only; omega
              · obtain rfl : u = 0 := by rw [hu]; unfold rupI; rw [if_neg hpos]
                clear hu
                obtain ⟨p0, p1, p2, p3, p4, p5⟩ := L.re6
                obtain ⟨⟨q0, q1, q2, q3, q4, q5⟩, -, -, -, -, -, -⟩ := L.c6
                gi_wp2
                refine wpIn_wide.2 ?_
                refine wp_sched [0, 0, 0, 0, 0, 0, 0, 0, 0, 0, 0, 0, 0, 0] (fun _ _ _ => True) (by kernel_rfl) (by kernel_rfl) (fun _ _ _ _ h _ => h) ?_
                repeat (first | (refine wpQs_s ?_) | (refine wpQs_q (fun K hK => ?_); go_simp; first | (refine hK _ ?_; clear hK K) | (apply Exists.intro; refine ⟨fun _ => ?_, hK _ ?_⟩; (exact HDV.out _); clear hK K)) | (refine wpQs_f (fun K hK => ?_); go_simp; refine hK _ ?_; clear hK K))
                refine wpQs_nil ?_
                repeat (first | (refine wpLs_skip ?_) | (refine wpLs_one ?lsA (fun v_ => ?_); case lsA => (intro w_ hw_ hp_; (fail))))
                refine wpLs_nilB ?_
                simp only [tails]
                intro W4 k4 _
                clear p0 p1 p2 p3 p4 p5 q0 q1 q2 q3 q4 q5
                replace L := L.on k4
                replace D := D.on k4
                replace E := E.on k4
                replace A1 := A1.on k4
                replace A2 := A2.on k4
                replace A3 := A3.on k4
                have hsz4 := Lib.hid (Nat.le_trans hsz3.out k4.size)
                replace hj3 := hJ _ _ _ _ hj3 (Kept.of_below k4)
                clear k4 hsz3
                simp only [wpList, Exit.then]
                go_at_K
                obtain ⟨⟨p0, p1, p2, p3, p4, p5⟩, f0, f1, f2, f3, f4, f5⟩ := L.c6
                obtain ⟨b0, b1, b2, -, -, -⟩ := A2.c3
                have hne := HZ.out
                have hbl := HBL.out
                have hb1 : B1 ≠ g := by omega
                have hb2 : B2 ≠ g := by omega
                have hb3 : B3 ≠ g := by omega
                have ix := fun w => (arr6_at (.int .i64 (cx - 1)) (.int .i64 cy) (.int .i64 cz) (.int .i64 (cx + 1)) (.int .i64 cy) (.int .i64 cz) (.int .i64 cx) (.int .i64 (cy - 1)) (.int .i64 cz) (.int .i64 cx) (.int .i64 (cy + 1)) (.int .i64 cz) (.int .i64 cx) (.int .i64 cy) (.int .i64 (cz - 1)) (.int .i64 cx) (.int .i64 cy) (.int .i64 (cz + 1)) w).1
                gi_wp2_with first
                  | (refine ⟨trivial, ?_⟩; gi_at_call 47; refine (callsIn_wide.2 (HAX.out _)).mono ?_; rintro e_ w7 ⟨rfl, k7⟩; replace L := (L.set_ 0 _).on k7; replace D := (D.far (p := ⟨g, 0, none⟩) (by dsimp only; omega) _).on k7; replace E := (E.far (p := ⟨g, 0, none⟩) (by dsimp only; omega) _).on k7; replace A1 := (A1.far (p := ⟨g, 0, none⟩) hb1 _).on k7; replace A2 := (A2.far (p := ⟨g, 0, none⟩) hb2 _).on k7; replace A3 := (A3.far (p := ⟨g, 0, none⟩) hb3 _).on k7; have hsz7 := Lib.hid (Nat.le_trans hsz4.out (by simpa using k7.size)); replace hj3 := hJ _ _ _ _ (hJ _ _ _ _ hj3 ((Kept.refl _ _).setCell (p := ⟨g, 0, none⟩) (fun h => h ⟨hne.1, by dsimp only; omega⟩) _)) (Kept.of_below k7); clear p0 p1 p2 p3 p4 p5 f0 f1 f2 f3 f4 f5 b0 b1 b2 k7 hsz4; obtain ⟨⟨d0, d1, d2, d3, d4, d5⟩, -, -, -, -, -, -⟩ := D.c6)
                  | (refine ⟨trivial, ?_⟩; gi_at_call 32; refine (callsIn_wide.2 (HNR.out _)).mono ?_; rintro e_ w8 ⟨rfl, k8⟩; clear d0 d1 d2 d3 d4 d5; replace L := L.on k8; replace D := D.on k8; replace E := E.on k8; replace A1 := A1.on k8; replace A2 := A2.on k8; replace A3 := A3.on k8; have hsz8 := Lib.hid (Nat.le_trans hsz7.out k8.size); replace hj3 := hJ _ _ _ _ hj3 (Kept.of_below k8); clear k8; obtain ⟨⟨d0, d1, d2, d3, d4, d5⟩, f0, f1, f2, f3, f4, f5⟩ := D.c6)
                have hnx : TSt p R (bump k 0) 1 (quoI l0 s0) := HNX.out.st
                rw [HTM.out] at hnx
                have LL := (kept6 (x := .int .i64 (cx - 1)) (y := .int .i64 (cy)) (z := .int .i64 (cz)) (p := .int .i64 0) (q := .int .i64 1) (r := .int .i64 tm)).blk (show g ≠ g3 by omega) L
                have hml := meas_new (LL : Blk _ g 75 #[.int .i64 (l0 + 65536), .int .i64 s0, .int .i64 (l1), .int .i64 s1, .int .i64 (l2), .int .i64 s2])
                go_roundw
                case rel => exact ⟨bump k 0, 1, tm, hnx, by rw [HNX.out.left, HLK.out.2]; exact LL, by rw [HNX.out.cell]; exact D.st6 _ _ _ _ _ _, kept6.blk (by omega) E, kept6.blk (by omega) A1, kept6.blk (by omega) A2, kept6.blk (by omega) A3, by have := hsz8.out; simp; omega, by rw [sumK_bump]; exact hJ _ _ _ _ hj3 (kept6.mono (fun c h e => h (e ▸ ⟨by omega, by omega⟩)))⟩
                case measure => rw [HME.out, hml, HLK.out.1]; dsimp only; omega
          · clear hinn
            have HPK := Lib.hid hpk
            clear hpk
            by_cases h0 : s1 = 0
            · have HST := Lib.hid (hst.out.stop HIN.out (by rw [HLK.out.1, HLK.out.2, HPK.out]; exact h0))
              obtain ⟨⟨q0, q1, q2, q3, q4, q5⟩, -, -, -, -, -, -⟩ := L.c6
              subst h0
              gi_wp2
              refine bodyPost_ret (results_none rfl _ _ _) rfl ?_
              exact ⟨⟨_, rfl⟩, g3 + 2, HGZ.out, .inl (by rw [HE.out, ← HST.out]; exact hj3)⟩
            · have h0b : (s1 == 0) = false := by simpa using h0
              have HDV := Lib.hid fun w => fdiv_t l1 s1 (by omega) s1b w
              obtain ⟨u, hu⟩ : ∃ u, u = rupI b := ⟨_, rfl⟩
              have hcu : comp p.u 1 = u := by rw [HW.out.2, hu]; rfl
              have HNX := Lib.hid (tst_next HP.out.1 hst.out HIN.out HRR.out.2 HCK.out HLK.out HPK.out (by omega) h0 hcu)
              have HNR := Lib.hid fun w => near_k HP.out.1 HP.out.2 hst.out.few HCK.out w
              have HAX := Lib.hid fun w => axis_e a b c 1 b rfl w
              generalize htm : quoI l1 s1 = tm at HDV
              have HTM := Lib.hid htm
              clear htm hcu
              by_cases hpos : 0 < b
              · obtain rfl : u = 1 := by rw [hu]; unfold rupI; rw [if_pos hpos]
                clear hu
                obtain ⟨p0, p1, p2, p3, p4, p5⟩ := L.re6
                obtain ⟨⟨q0, q1, q2, q3, q4, q5⟩, -, -, -, -, -, -⟩ := L.c6
                gi_wp2
                refine wpIn_wide.2 ?_
                refine wp_sched [0, 0, 0, 0, 0, 0, 0, 0, 0, 0, 0, 0, 0, 0] (fun _ _ _ => True) (by kernel_rfl) (by kernel_rfl) (fun _ _ _ _ h _ => h) ?_
                repeat (first | (refine wpQs_s ?_) | (refine wpQs_q (fun K hK => ?_); go_simp; first | (refine hK _ ?_; clear hK K) | (apply Exists.intro; refine ⟨fun _ => ?_, hK _ ?_⟩; (exact HDV.out _); clear hK K)) | (refine wpQs_f (fun K hK => ?_); go_simp; refine hK _ ?_; clear hK K))
                refine wpQs_nil ?_
                repeat (first | (refine wpLs_skip ?_) | (refine wpLs_one ?lsA (fun v_ => ?_); case lsA => (intro w_ hw_ hp_; (fail))))
                refine wpLs_nilB ?_
                simp only [tails]
                intro W4 k4 _
                clear p0 p1 p2 p3 p4 p5 q0 q1 q2 q3 q4 q5
                replace L := L.on k4
                replace D := D.on k4
                replace E := E.on k4
                replace A1 := A1.on k4
                replace A2 := A2.on k4
                replace A3 := A3.on k4
                have hsz4 := Lib.hid (Nat.le_trans hsz3.out k4.size)
                replace hj3 := hJ _ _ _ _ hj3 (Kept.of_below k4)
                clear k4 hsz3
                simp only [wpList, Exit.then]
                go_at_K
                obtain ⟨⟨p0, p1, p2, p3, p4, p5⟩, f0, f1, f2, f3, f4, f5⟩ := L.c6
                obtain ⟨b0, b1, b2, -, -, -⟩ := A2.c3
                have hne := HZ.out
                have hbl := HBL.out
                have hb1 : B1 ≠ g := by omega
                have hb2 : B2 ≠ g := by omega
                have hb3 : B3 ≠ g := by omega
                have ix := fun w => (arr6_at (.int .i64 (cx - 1)) (.int .i64 cy) (.int .i64 cz) (.int .i64 (cx + 1)) (.int .i64 cy) (.int .i64 cz) (.int .i64 cx) (.int .i64 (cy - 1)) (.int .i64 cz) (.int .i64 cx) (.int .i64 (cy + 1)) (.int .i64 cz) (.int .i64 cx) (.int .i64 cy) (.int .i64 (cz - 1)) (.int .i64 cx) (.int .i64 cy) (.int .i64 (cz + 1)) w).2.2.2.1
                gi_wp2_with first
                  | (refine ⟨trivial, ?_⟩; gi_at_call 47; refine (callsIn_wide.2 (HAX.out _)).mono ?_; rintro e_ w7 ⟨rfl, k7⟩; replace L := (L.set_ 2 _).on k7; replace D := (D.far (p := ⟨g, 2, none⟩) (by dsimp only; omega) _).on k7; replace E := (E.far (p := ⟨g, 2, none⟩) (by dsimp only; omega) _).on k7; replace A1 := (A1.far (p := ⟨g, 2, none⟩) hb1 _).on k7; replace A2 := (A2.far (p := ⟨g, 2, none⟩) hb2 _).on k7; replace A3 := (A3.far (p := ⟨g, 2, none⟩) hb3 _).on k7; have hsz7 := Lib.hid (Nat.le_trans hsz4.out (by simpa using k7.size)); replace hj3 := hJ _ _ _ _ (hJ _ _ _ _ hj3 ((Kept.refl _ _).setCell (p := ⟨g, 2, none⟩) (fun h => h ⟨hne.1, by dsimp only; omega⟩) _)) (Kept.of_below k7); clear p0 p1 p2 p3 p4 p5 f0 f1 f2 f3 f4 f5 b0 b1 b2 k7 hsz4; obtain ⟨⟨d0, d1, d2, d3, d4, d5⟩, -, -, -, -, -, -⟩ := D.c6)
                  | (refine ⟨trivial, ?_⟩; gi_at_call 32; refine (callsIn_wide.2 (HNR.out _)).mono ?_; rintro e_ w8 ⟨rfl, k8⟩; clear d0 d1 d2 d3 d4 d5; replace L := L.on k8; replace D := D.on k8; replace E := E.on k8; replace A1 := A1.on k8; replace A2 := A2.on k8; replace A3 := A3.on k8; have hsz8 := Lib.hid (Nat.le_trans hsz7.out k8.size); replace hj3 := hJ _ _ _ _ hj3 (Kept.of_below k8); clear k8; obtain ⟨⟨d0, d1, d2, d3, d4, d5⟩, f0, f1, f2, f3, f4, f5⟩ := D.c6)
                have hnx : TSt p R (bump k 1) 2 (quoI l1 s1) := HNX.out.st
                rw [HTM.out] at hnx
                have LL := (kept6 (x := .int .i64 (cx)) (y := .int .i64 (cy + 1)) (z := .int .i64 (cz)) (p := .int .i64 0) (q := .int .i64 2) (r := .int .i64 tm)).blk (show g ≠ g3 by omega) L
                have hml := meas_new (LL : Blk _ g 75 #[.int .i64 (l0), .int .i64 s0, .int .i64 (l1 + 65536), .int .i64 s1, .int .i64 (l2), .int .i64 s2])
                go_roundw
                case rel => exact ⟨bump k 1, 2, tm, hnx, by rw [HNX.out.left, HLK.out.2]; exact LL, by rw [HNX.out.cell]; exact D.st6 _ _ _ _ _ _, kept6.blk (by omega) E, kept6.blk (by omega) A1, kept6.blk (by omega) A2, kept6.blk (by omega) A3, by have := hsz8.out; simp; omega, by rw [sumK_bump]; exact hJ _ _ _ _ hj3 (kept6.mono (fun c h e => h (e ▸ ⟨by omega, by omega⟩)))⟩
                case measure => rw [HME.out, hml, HLK.out.1]; dsimp only; omega
              · obtain rfl : u = 0 := by rw [hu]; unfold rupI; rw [if_neg hpos]
                clear hu
                obtain ⟨p0, p1, p2, p3, p4, p5⟩ := L.re6
                obtain ⟨⟨q0, q1, q2, q3, q4, q5⟩, -, -, -, -, -, -⟩ := L.c6
                gi_wp2
                refine wpIn_wide.2 ?_
                refine wp_sched [0, 0, 0, 0, 0, 0, 0, 0, 0, 0, 0, 0, 0, 0] (fun _ _ _ => True) (by kernel_rfl) (by kernel_rfl) (fun _ _ _ _ h _ => h) ?_
                repeat (first | (refine wpQs_s ?_) | (refine wpQs_q (fun K hK => ?_); go_simp; first | (refine hK _ ?_; clear hK K) | (apply Exists.intro; refine ⟨fun _ => ?_, hK _ ?_⟩; (exact HDV.out _); clear hK K)) | (refine wpQs_f (fun K hK => ?_); go_simp; refine hK _ ?_; clear hK K))
                refine wpQs_nil ?_
                repeat (first | (refine wpLs_skip ?_) | (refine wpLs_one ?lsA (fun v_ => ?_); case lsA => (intro w_ hw_ hp_; (fail))))
                refine wpLs_nilB ?_
                simp only [tails]
                intro W4 k4 _
                clear p0 p1 p2 p3 p4 p5 q0 q1 q2 q3 q4 q5
                replace L := L.on k4
                replace D := D.on k4
                replace E := E.on k4
                replace A1 := A1.on k4
                replace A2 := A2.on k4
                replace A3 := A3.on k4
                have hsz4 := Lib.hid (Nat.le_trans hsz3.out k4.size)
                replace hj3 := hJ _ _ _ _ hj3 (Kept.of_below k4)
                clear k4 hsz3
                simp only [wpList, Exit.then]
                go_at_K
                obtain ⟨⟨p0, p1, p2, p3, p4, p5⟩, f0, f1, f2, f3, f4, f5⟩ := L.c6
                obtain ⟨b0, b1, b2, -, -, -⟩ := A2.c3
                have hne := HZ.out
                have hbl := HBL.out
                have hb1 : B1 ≠ g := by omega
                have hb2 : B2 ≠ g := by omega
                have hb3 : B3 ≠ g := by omega
                have ix := fun w => (arr6_at (.int .i64 (cx - 1)) (.int .i64 cy) (.int .i64 cz) (.int .i64 (cx + 1)) (.int .i64 cy) (.int .i64 cz) (.int .i64 cx) (.int .i64 (cy - 1)) (.int .i64 cz) (.int .i64 cx) (.int .i64 (cy + 1)) (.int .i64 cz) (.int .i64 cx) (.int .i64 cy) (.int .i64 (cz - 1)) (.int .i64 cx) (.int .i64 cy) (.int .i64 (cz + 1)) w).2.2.1
                gi_wp2_with first
                  | (refine ⟨trivial, ?_⟩; gi_at_call 47; refine (callsIn_wide.2 (HAX.out _)).mono ?_; rintro e_ w7 ⟨rfl, k7⟩; replace L := (L.set_ 2 _).on k7; replace D := (D.far (p := ⟨g, 2, none⟩) (by dsimp only; omega) _).on k7; replace E := (E.far (p := ⟨g, 2, none⟩) (by dsimp only; omega) _).on k7; replace A1 := (A1.far (p := ⟨g, 2, none⟩) hb1 _).on k7; replace A2 := (A2.far (p := ⟨g, 2, none⟩) hb2 _).on k7; replace A3 := (A3.far (p := ⟨g, 2, none⟩) hb3 _).on k7; have hsz7 := Lib.hid (Nat.le_trans hsz4.out (by simpa using k7.size)); replace hj3 := hJ _ _ _ _ (hJ _ _ _ _ hj3 ((Kept.refl _ _).setCell (p := ⟨g, 2, none⟩) (fun h => h ⟨hne.1, by dsimp only; omega⟩) _)) (Kept.of_below k7); clear p0 p1 p2 p3 p4 p5 f0 f1 f2 f3 f4 f5 b0 b1 b2 k7 hsz4; obtain ⟨⟨d0, d1, d2, d3, d4, d5⟩, -, -, -, -, -, -⟩ := D.c6)
                  | (refine ⟨trivial, ?_⟩; gi_at_call 32; refine (callsIn_wide.2 (HNR.out _)).mono ?_; rintro e_ w8 ⟨rfl, k8⟩; clear d0 d1 d2 d3 d4 d5; replace L := L.on k8; replace D := D.on k8; replace E := E.on k8; replace A1 := A1.on k8; replace A2 := A2.on k8; replace A3 := A3.on k8; have hsz8 := Lib.hid (Nat.le_trans hsz7.out k8.size); replace hj3 := hJ _ _ _ _ hj3 (Kept.of_below k8); clear k8; obtain ⟨⟨d0, d1, d2, d3, d4, d5⟩, f0, f1, f2, f3, f4, f5⟩ := D.c6)
                have hnx : TSt p R (bump k 1) 3 (quoI l1 s1) := HNX.out.st
                rw [HTM.out] at hnx
                have LL := (kept6 (x := .int .i64 (cx)) (y := .int .i64 (cy - 1)) (z := .int .i64 (cz)) (p := .int .i64 0) (q := .int .i64 3) (r := .int .i64 tm)).blk (show g ≠ g3 by omega) L
                have hml := meas_new (LL : Blk _ g 75 #[.int .i64 (l0), .int .i64 s0, .int .i64 (l1 + 65536), .int .i64 s1, .int .i64 (l2), .int .i64 s2])
                go_roundw
                case rel => exact ⟨bump k 1, 3, tm, hnx, by rw [HNX.out.left, HLK.out.2]; exact LL, by rw [HNX.out.cell]; exact D.st6 _ _ _ _ _ _, kept6.blk (by omega) E, kept6.blk (by omega) A1, kept6.blk (by omega) A2, kept6.blk (by omega) A3, by have := hsz8.out; simp; omega, by rw [sumK_bump]; exact hJ _ _ _ _ hj3 (kept6.mono (fun c h e => h (e ▸ ⟨by omega, by omega⟩)))⟩
                case measure => rw [HME.out, hml, HLK.out.1]; dsimp only; omega
          · clear hinn
            have HPK := Lib.hid hpk
            clear hpk
            by_cases h0 : s2 = 0
            · have HST := Lib.hid (hst.out.stop HIN.out (by rw [HLK.out.1, HLK.out.2, HPK.out]; exact h0))
              obtain ⟨⟨q0, q1, q2, q3, q4, q5⟩, -, -, -, -, -, -⟩ := L.c6
              subst h0
              gi_wp2
              refine bodyPost_ret (results_none rfl _ _ _) rfl ?_
              exact ⟨⟨_, rfl⟩, g3 + 2, HGZ.out, .inl (by rw [HE.out, ← HST.out]; exact hj3)⟩
            · have h0b : (s2 == 0) = false := by simpa using h0
              have HDV := Lib.hid fun w => fdiv_t l2 s2 (by omega) s2b w
              obtain ⟨u, hu⟩ : ∃ u, u = rupI c := ⟨_, rfl⟩
              have hcu : comp p.u 2 = u := by rw [HW.out.2, hu]; rfl
              have HNX := Lib.hid (tst_next HP.out.1 hst.out HIN.out HRR.out.2 HCK.out HLK.out HPK.out (by omega) h0 hcu)
              have HNR := Lib.hid fun w => near_k HP.out.1 HP.out.2 hst.out.few HCK.out w
              have HAX := Lib.hid fun w => axis_e a b c 2 c rfl w
              generalize htm : quoI l2 s2 = tm at HDV
              have HTM := Lib.hid htm
              clear htm hcu
              by_cases hpos : 0 < c
              · obtain rfl : u = 1 := by rw [hu]; unfold rupI; rw [if_pos hpos]
                clear hu
                obtain ⟨p0, p1, p2, p3, p4, p5⟩ := L.re6
                obtain ⟨⟨q0, q1, q2, q3, q4, q5⟩, -, -, -, -, -, -⟩ := L.c6
                gi_wp2
                refine wpIn_wide.2 ?_
                refine wp_sched [0, 0, 0, 0, 0, 0, 0, 0, 0, 0, 0, 0, 0, 0] (fun _ _ _ => True) (by kernel_rfl) (by kernel_rfl) (fun _ _ _ _ h _ => h) ?_
                repeat (first | (refine wpQs_s ?_) | (refine wpQs_q (fun K hK => ?_); go_simp; first | (refine hK _ ?_; clear hK K) | (apply Exists.intro; refine ⟨fun _ => ?_, hK _ ?_⟩; (exact HDV.out _); clear hK K)) | (refine wpQs_f (fun K hK => ?_); go_simp; refine hK _ ?_; clear hK K))
                refine wpQs_nil ?_
                repeat (first | (refine wpLs_skip ?_) | (refine wpLs_one ?lsA (fun v_ => ?_); case lsA => (intro w_ hw_ hp_; (fail))))
                refine wpLs_nilB ?_
                simp only [tails]
                intro W4 k4 _
                clear p0 p1 p2 p3 p4 p5 q0 q1 q2 q3 q4 q5
                replace L := L.on k4
                replace D := D.on k4
                replace E := E.on k4
                replace A1 := A1.on k4
                replace A2 := A2.on k4
                replace A3 := A3.on k4
                have hsz4 := Lib.hid (Nat.le_trans hsz3.out k4.size)
                replace hj3 := hJ _ _ _ _ hj3 (Kept.of_below k4)
                clear k4 hsz3
                simp only [wpList, Exit.then]
                go_at_K
                obtain ⟨⟨p0, p1, p2, p3, p4, p5⟩, f0, f1, f2, f3, f4, f5⟩ := L.c6
                obtain ⟨b0, b1, b2, -, -, -⟩ := A2.c3
                have hne := HZ.out
                have hbl := HBL.out
                have hb1 : B1 ≠ g := by omega
                have hb2 : B2 ≠ g := by omega
                have hb3 : B3 ≠ g := by omega
                have ix := fun w => (arr6_at (.int .i64 (cx - 1)) (.int .i64 cy) (.int .i64 cz) (.int .i64 (cx + 1)) (.int .i64 cy) (.int .i64 cz) (.int .i64 cx) (.int .i64 (cy - 1)) (.int .i64 cz) (.int .i64 cx) (.int .i64 (cy + 1)) (.int .i64 cz) (.int .i64 cx) (.int .i64 cy) (.int .i64 (cz - 1)) (.int .i64 cx) (.int .i64 cy) (.int .i64 (cz + 1)) w).2.2.2.2.2
                gi_wp2_with first
                  | (refine ⟨trivial, ?_⟩; gi_at_call 47; refine (callsIn_wide.2 (HAX.out _)).mono ?_; rintro e_ w7 ⟨rfl, k7⟩; replace L := (L.set_ 4 _).on k7; replace D := (D.far (p := ⟨g, 4, none⟩) (by dsimp only; omega) _).on k7; replace E := (E.far (p := ⟨g, 4, none⟩) (by dsimp only; omega) _).on k7; replace A1 := (A1.far (p := ⟨g, 4, none⟩) hb1 _).on k7; replace A2 := (A2.far (p := ⟨g, 4, none⟩) hb2 _).on k7; replace A3 := (A3.far (p := ⟨g, 4, none⟩) hb3 _).on k7; have hsz7 := Lib.hid (Nat.le_trans hsz4.out (by simpa using k7.size)); replace hj3 := hJ _ _ _ _ (hJ _ _ _ _ hj3 ((Kept.refl _ _).setCell (p := ⟨g, 4, none⟩) (fun h => h ⟨hne.1, by dsimp only; omega⟩) _)) (Kept.of_below k7); clear p0 p1 p2 p3 p4 p5 f0 f1 f2 f3 f4 f5 b0 b1 b2 k7 hsz4; obtain ⟨⟨d0, d1, d2, d3, d4, d5⟩, -, -, -, -, -, -⟩ := D.c6)
                  | (refine ⟨trivial, ?_⟩; gi_at_call 32; refine (callsIn_wide.2 (HNR.out _)).mono ?_; rintro e_ w8 ⟨rfl, k8⟩; clear d0 d1 d2 d3 d4 d5; replace L := L.on k8; replace D := D.on k8; replace E := E.on k8; replace A1 := A1.on k8; replace A2 := A2.on k8; replace A3 := A3.on k8; have hsz8 := Lib.hid (Nat.le_trans hsz7.out k8.size); replace hj3 := hJ _ _ _ _ hj3 (Kept.of_below k8); clear k8; obtain ⟨⟨d0, d1, d2, d3, d4, d5⟩, f0, f1, f2, f3, f4, f5⟩ := D.c6)
                have hnx : TSt p R (bump k 2) 4 (quoI l2 s2) := HNX.out.st
                rw [HTM.out] at hnx
                have LL := (kept6 (x := .int .i64 (cx)) (y := .int .i64 (cy)) (z := .int .i64 (cz + 1)) (p := .int .i64 0) (q := .int .i64 4) (r := .int .i64 tm)).blk (show g ≠ g3 by omega) L
                have hml := meas_new (LL : Blk _ g 75 #[.int .i64 (l0), .int .i64 s0, .int .i64 (l1), .int .i64 s1, .int .i64 (l2 + 65536), .int .i64 s2])
                go_roundw
                case rel => exact ⟨bump k 2, 4, tm, hnx, by rw [HNX.out.left, HLK.out.2]; exact LL, by rw [HNX.out.cell]; exact D.st6 _ _ _ _ _ _, kept6.blk (by omega) E, kept6.blk (by omega) A1, kept6.blk (by omega) A2, kept6.blk (by omega) A3, by have := hsz8.out; simp; omega, by rw [sumK_bump]; exact hJ _ _ _ _ hj3 (kept6.mono (fun c h e => h (e ▸ ⟨by omega, by omega⟩)))⟩
                case measure => rw [HME.out, hml, HLK.out.1]; dsimp only; omega
              · obtain rfl : u = 0 := by rw [hu]; unfold rupI; rw [if_neg hpos]
                clear hu
                obtain ⟨p0, p1, p2, p3, p4, p5⟩ := L.re6
                obtain ⟨⟨q0, q1, q2, q3, q4, q5⟩, -, -, -, -, -, -⟩ := L.c6
                gi_wp2
                refine wpIn_wide.2 ?_
                refine wp_sched [0, 0, 0, 0, 0, 0, 0, 0, 0, 0, 0, 0, 0, 0] (fun _ _ _ => True) (by kernel_rfl) (by kernel_rfl) (fun _ _ _ _ h _ => h) ?_
                repeat (first | (refine wpQs_s ?_) | (refine wpQs_q (fun K hK => ?_); go_simp; first | (refine hK _ ?_; clear hK K) | (apply Exists.intro; refine ⟨fun _ => ?_, hK _ ?_⟩; (exact HDV.out _); clear hK K)) | (refine wpQs_f (fun K hK => ?_); go_simp; refine hK _ ?_; clear hK K))
                refine wpQs_nil ?_
                repeat (first | (refine wpLs_skip ?_) | (refine wpLs_one ?lsA (fun v_ => ?_); case lsA => (intro w_ hw_ hp_; (fail))))
                refine wpLs_nilB ?_
                simp only [tails]
                intro W4 k4 _
                clear p0 p1 p2 p3 p4 p5 q0 q1 q2 q3 q4 q5
                replace L := L.on k4
                replace D := D.on k4
                replace E := E.on k4
                replace A1 := A1.on k4
                replace A2 := A2.on k4
                replace A3 := A3.on k4
                have hsz4 := Lib.hid (Nat.le_trans hsz3.out k4.size)
                replace hj3 := hJ _ _ _ _ hj3 (Kept.of_below k4)
                clear k4 hsz3
                simp only [wpList, Exit.then]
                go_at_K
                obtain ⟨⟨p0, p1, p2, p3, p4, p5⟩, f0, f1, f2, f3, f4, f5⟩ := L.c6
                obtain ⟨b0, b1, b2, -, -, -⟩ := A2.c3
                have hne := HZ.out
                have hbl := HBL.out
                have hb1 : B1 ≠ g := by omega
                have hb2 : B2 ≠ g := by omega
                have hb3 : B3 ≠ g := by omega
                have ix := fun w => (arr6_at (.int .i64 (cx - 1)) (.int .i64 cy) (.int .i64 cz) (.int .i64 (cx + 1)) (.int .i64 cy) (.int .i64 cz) (.int .i64 cx) (.int .i64 (cy - 1)) (.int .i64 cz) (.int .i64 cx) (.int .i64 (cy + 1)) (.int .i64 cz) (.int .i64 cx) (.int .i64 cy) (.int .i64 (cz - 1)) (.int .i64 cx) (.int .i64 cy) (.int .i64 (cz + 1)) w).2.2.2.2.1
                gi_wp2_with first
                  | (refine ⟨trivial, ?_⟩; gi_at_call 47; refine (callsIn_wide.2 (HAX.out _)).mono ?_; rintro e_ w7 ⟨rfl, k7⟩; replace L := (L.set_ 4 _).on k7; replace D := (D.far (p := ⟨g, 4, none⟩) (by dsimp only; omega) _).on k7; replace E := (E.far (p := ⟨g, 4, none⟩) (by dsimp only; omega) _).on k7; replace A1 := (A1.far (p := ⟨g, 4, none⟩) hb1 _).on k7; replace A2 := (A2.far (p := ⟨g, 4, none⟩) hb2 _).on k7; replace A3 := (A3.far (p := ⟨g, 4, none⟩) hb3 _).on k7; have hsz7 := Lib.hid (Nat.le_trans hsz4.out (by simpa using k7.size)); replace hj3 := hJ _ _ _ _ (hJ _ _ _ _ hj3 ((Kept.refl _ _).setCell (p := ⟨g, 4, none⟩) (fun h => h ⟨hne.1, by dsimp only; omega⟩) _)) (Kept.of_below k7); clear p0 p1 p2 p3 p4 p5 f0 f1 f2 f3 f4 f5 b0 b1 b2 k7 hsz4; obtain ⟨⟨d0, d1, d2, d3, d4, d5⟩, -, -, -, -, -, -⟩ := D.c6)
                  | (refine ⟨trivial, ?_⟩; gi_at_call 32; refine (callsIn_wide.2 (HNR.out _)).mono ?_; rintro e_ w8 ⟨rfl, k8⟩; clear d0 d1 d2 d3 d4 d5; replace L := L.on k8; replace D := D.on k8; replace E := E.on k8; replace A1 := A1.on k8; replace A2 := A2.on k8; replace A3 := A3.on k8; have hsz8 := Lib.hid (Nat.le_trans hsz7.out k8.size); replace hj3 := hJ _ _ _ _ hj3 (Kept.of_below k8); clear k8; obtain ⟨⟨d0, d1, d2, d3, d4, d5⟩, f0, f1, f2, f3, f4, f5⟩ := D.c6)
                have hnx : TSt p R (bump k 2) 5 (quoI l2 s2) := HNX.out.st
                rw [HTM.out] at hnx
                have LL := (kept6 (x := .int .i64 (cx)) (y := .int .i64 (cy)) (z := .int .i64 (cz - 1)) (p := .int .i64 0) (q := .int .i64 5) (r := .int .i64 tm)).blk (show g ≠ g3 by omega) L
                have hml := meas_new (LL : Blk _ g 75 #[.int .i64 (l0), .int .i64 s0, .int .i64 (l1), .int .i64 s1, .int .i64 (l2 + 65536), .int .i64 s2])
                go_roundw
                case rel => exact ⟨bump k 2, 5, tm, hnx, by rw [HNX.out.left, HLK.out.2]; exact LL, by rw [HNX.out.cell]; exact D.st6 _ _ _ _ _ _, kept6.blk (by omega) E, kept6.blk (by omega) A1, kept6.blk (by omega) A2, kept6.blk (by omega) A3, by have := hsz8.out; simp; omega, by rw [sumK_bump]; exact hJ _ _ _ _ hj3 (kept6.mono (fun c h e => h (e ▸ ⟨by omega, by omega⟩)))⟩
                case measure => rw [HME.out, hml, HLK.out.1]; dsimp only; omega
      · gi_wp2
        refine bodyPost_ret (results_none rfl _ _ _) rfl ?_
        exact ⟨⟨_, rfl⟩, g3 + 2, HGZ.out, .inr ⟨sumK k, by rw [HE.out]; exact HAT.out.2, hjx3⟩⟩
end Go.Proofs.Ytjlgcfdpfalbpaa
