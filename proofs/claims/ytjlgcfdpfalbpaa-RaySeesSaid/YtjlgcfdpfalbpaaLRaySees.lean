/- RaySees holds: a ray that is cast from a place toward the middle of a cell that is near sees that cell, if its reach is enough: any place near a small world (made one), any cell near it. -/
import Derived.Test.YtjlgcfdpfalbpaaRayLv
import Derived.Test.YtjlgcfdpfalbpaaRayNr
import Derived.Test.YtjlgcfdpfalbpaaRef2
import Derived.Test.YtjlgcfdpfalbpaaFloat
import Derived.Test.YtjlgcfdpfalbpaaSmall
namespace Go.Proofs.Ytjlgcfdpfalbpaa
open Go.ChangeShapes Go.WideShapes Go.ChangeAt Go.RowKit
attribute [local go_sem] Oper.semAt_some

def hopsI (x d : Int) : Int := if 0 < d * 65536 + 32768 - x then d - x / 65536 else x / 65536 - d
theorem hops_bd {x d : Int} (hx : -131072 ≤ x ∧ x ≤ 524288) (hd : -1 ≤ d ∧ d ≤ 6) : 0 ≤ hopsI x d ∧ hopsI x d ≤ 20 := by
  unfold hopsI; split <;> omega
theorem hops_iff {x d j : Int} (hx : -131072 ≤ x ∧ x ≤ 524288) (hj : 0 ≤ j) : (sdS (d * 65536 + 32768 - x) ≠ 0 ∧ sdL x (d * 65536 + 32768 - x) + 65536 * j ≤ sdS (d * 65536 + 32768 - x)) ↔ j < hopsI x d := by
  have hc : cutI x = x := by unfold cutI; omega
  unfold hopsI sdS sdL
  rw [hc]
  by_cases h : 0 < d * 65536 + 32768 - x
  · rw [if_pos h, if_pos h, if_pos h]; omega
  · rw [if_neg h, if_neg h, if_neg h]; omega
theorem hops_end {x d : Int} (hx : -131072 ≤ x ∧ x ≤ 524288) : lowI x + stepI (rupI (d * 65536 + 32768 - x)) * hopsI x d = d := by
  have hc : cutI x = x := by unfold cutI; omega
  unfold lowI hopsI rupI stepI
  rw [hc]
  by_cases h : 0 < d * 65536 + 32768 - x
  · rw [if_pos h, if_pos h]; omega
  · rw [if_neg h, if_neg h]; omega
theorem sees_in {x y z d0 d1 d2 : Int} (hx : -131072 ≤ x ∧ x ≤ 524288) (hy : -131072 ≤ y ∧ y ≤ 524288) (hz : -131072 ≤ z ∧ z ≤ 524288) (h0 : -1 ≤ d0 ∧ d0 ≤ 6) (h1 : -1 ≤ d1 ∧ d1 ≤ 6) (h2 : -1 ≤ d2 ∧ d2 ≤ 6) :
    (d0, d1, d2) ∈ (seeL x y z (d0 * 65536 + 32768 - x) (d1 * 65536 + 32768 - y) (d2 * 65536 + 32768 - z) 64).map (·.1) := by
  have q : ∀ n : Int, -1048576 ≤ n → n ≤ 1048576 → qI n = n := fun n a b => by unfold qI mnI mxI; omega
  have q0 := q (d0 * 65536 + 32768 - x) (by omega) (by omega)
  have q1 := q (d1 * 65536 + 32768 - y) (by omega) (by omega)
  have q2 := q (d2 * 65536 + 32768 - z) (by omega) (by omega)
  have hr : rchI 64 = 64 := by decide
  have b0 := hops_bd hx h0
  have b1 := hops_bd hy h1
  have b2 := hops_bd hz h2
  have hp := rp_ok (x := x) (y := y) (z := z) (a := d0 * 65536 + 32768 - x) (b := d1 * 65536 + 32768 - y) (c := d2 * 65536 + 32768 - z) (by omega) (by omega) (by omega)
  obtain ⟨n0, e0⟩ : ∃ n : Nat, (n : Int) = hopsI x d0 := ⟨(hopsI x d0).toNat, by omega⟩
  obtain ⟨n1, e1⟩ : ∃ n : Nat, (n : Int) = hopsI y d1 := ⟨(hopsI y d1).toNat, by omega⟩
  obtain ⟨n2, e2⟩ : ∃ n : Nat, (n : Int) = hopsI z d2 := ⟨(hopsI z d2).toNat, by omega⟩
  have hN : ∀ b, b < 3 → ∀ j : Nat, (comp (rpOf x y z (d0 * 65536 + 32768 - x) (d1 * 65536 + 32768 - y) (d2 * 65536 + 32768 - z)).s b ≠ 0 ∧ comp (rpOf x y z (d0 * 65536 + 32768 - x) (d1 * 65536 + 32768 - y) (d2 * 65536 + 32768 - z)).l b + 65536 * (j : Int) ≤ comp (rpOf x y z (d0 * 65536 + 32768 - x) (d1 * 65536 + 32768 - y) (d2 * 65536 + 32768 - z)).s b) ↔ j < kc (n0, n1, n2) b := by
    intro b hb j
    rcases lt3 hb with rfl | rfl | rfl
    · refine (hops_iff hx (by omega : (0 : Int) ≤ j)).trans ?_
      show _ ↔ j < n0
      omega
    · refine (hops_iff hy (by omega : (0 : Int) ≤ j)).trans ?_
      show _ ↔ j < n1
      omega
    · refine (hops_iff hz (by omega : (0 : Int) ≤ j)).trans ?_
      show _ ↔ j < n2
      omega
  obtain ⟨s, hs, es⟩ := trL_sees hp hN (R := 64) (fun b hb => by
    rcases lt3 hb with rfl | rfl | rfl
    · show (n0 : Int) ≤ 64; omega
    · show (n1 : Int) ≤ 64; omega
    · show (n2 : Int) ≤ 64; omega) (sumK (n0, n1, n2)) 200 (0, 0, 0) (-1) 0 (fun b hb => by
    rcases lt3 hb with rfl | rfl | rfl <;> exact Nat.zero_le _) (by simp [sumK]) (by unfold sumK; simp only; omega)
  rw [show seeL x y z (d0 * 65536 + 32768 - x) (d1 * 65536 + 32768 - y) (d2 * 65536 + 32768 - z) 64 = traceP (rpOf x y z (d0 * 65536 + 32768 - x) (d1 * 65536 + 32768 - y) (d2 * 65536 + 32768 - z)) 64 by unfold seeL; rw [q0, q1, q2, hr]]
  refine List.mem_map.2 ⟨s, hs, es.trans ?_⟩
  unfold cellK rpOf
  simp only
  rw [e0, e1, e2, hops_end hx, hops_end hy, hops_end hz]
theorem vecs_guard : Try.prog.eqGuardType Try.prog.depth 26 = false := by kernel_rfl
theorem cell_ne_vals {x : Int × Int × Int} {d0 d1 d2 : Int} (h : x ≠ (d0, d1, d2)) (w : World) : (binOp .eql 29 (.agg #[.int .i64 x.1, .int .i64 x.2.1, .int .i64 x.2.2]) (.agg #[.int .i64 d0, .int .i64 d1, .int .i64 d2])).run Try.prog w = .ok (.bool false) w := by
  obtain ⟨x0, x1, x2⟩ := x
  rw [run_eql_struct]
  simp [go_sem]
  intro e0 e1 e2
  exact h (by rw [e0, e1, e2])
set_option maxRecDepth 100000 in
set_option maxHeartbeats 16000000 in
theorem raySees_c (x y z : Int) (hx : In64 x) (hy : In64 y) (hz : In64 z) (cx cy cz : Int) (hcx : In64 cx) (hcy : In64 cy) (hcz : In64 cz) (w : World) :
    Calls Try.prog 8 #[.agg #[.int .i64 x, .int .i64 y, .int .i64 z], .agg #[.int .i64 cx, .int .i64 cy, .int .i64 cz]] w fun e w' => e = .returned (.bool true) ∧ Below w.heap.size w w' := by
  have HNR := Lib.hid fun w => rnr_c x y z hx hy hz w
  have bx := nrI_bd x
  have bY := nrI_bd y
  have bz := nrI_bd z
  generalize nrI x = ax at HNR bx
  generalize nrI y = ay at HNR bY
  generalize nrI z = az at HNR bz
  have a1 := arI_lo cx (m := 8) (by decide)
  have a2 := arI_hi cx (m := 8) (by decide)
  have b1 := arI_lo cy (m := 8) (by decide)
  have b2 := arI_hi cy (m := 8) (by decide)
  have c1 := arI_lo cz (m := 8) (by decide)
  have c2 := arI_hi cz (m := 8) (by decide)
  clear hx hy hz
  obtain ⟨W, hW⟩ : ∃ W, W = (w.alloc (.cells #[.int .i64 x, .int .i64 y, .int .i64 z] 26)).alloc (.cells #[.int .i64 cx, .int .i64 cy, .int .i64 cz] 29) := ⟨_, rfl⟩
  have H : Below w.heap.size w W := by rw [hW]; go_grown
  have A : Blk W w.heap.size 26 #[.int .i64 x, .int .i64 y, .int .i64 z] := by rw [hW]; exact (Blk.new' rfl).alloc _
  have B : Blk W (w.heap.size + 1) 29 #[.int .i64 cx, .int .i64 cy, .int .i64 cz] := by rw [hW]; exact Blk.new' (by simp)
  go_enter Try.func8, Try.ntmps8
  go_upto_region 1 with (fail)
  rw [← hW]
  clear hW
  obtain ⟨k0, k1, k2, -, -, -⟩ := A.c3
  go_upto_region 2 with (go_at_call 10; refine (HNR.out _).mono ?_; rintro e_ w1 ⟨rfl, h1⟩)
  generalize hV : World.alloc w1 _ = w2
  have P : Blk w2 w1.heap.size 26 #[.int .i64 ax, .int .i64 ay, .int .i64 az] := Blk.eqw hV (Blk.new' rfl)
  have h2 : Below W.heap.size W w2 := by rw [← hV]; exact h1.alloc h1.size _
  replace B := B.on h2
  replace H := after H h2
  clear k0 k1 k2 hV h1 h2 A HNR
  generalize w1.heap.size = gp at P ⊢
  obtain ⟨r0, r1, r2⟩ := B.re3
  have u1 : IntKind.i64.wrap (arI cx 8 - 1) = arI cx 8 - 1 := IntWalk.i64_in _ (by omega)
  have u2 : IntKind.i64.wrap (arI cy 8 - 1) = arI cy 8 - 1 := IntWalk.i64_in _ (by omega)
  have u3 : IntKind.i64.wrap (arI cz 8 - 1) = arI cz 8 - 1 := IntWalk.i64_in _ (by omega)
  refine wp_region_float (t := 29) (z := #[.int .i64 0, .int .i64 0, .int .i64 0]) 13 6 (by kernel_rfl) rfl (by kernel_rfl) rfl (fun _ _ => by kernel_rfl) ?_
  simp only [List.take_succ_cons, List.take_zero, List.drop_succ_cons, List.drop_zero]
  repeat (refine wpRel_step (fun K hK => ?_); go_simp; first | (refine hK _ ?_; clear hK K) | (apply Exists.intro; refine ⟨fun _ => ?_, hK _ ?_⟩; (exact around_b _ _ (by assumption) (by decide) _); clear hK K))
  refine wpRel_nil ?_
  intro b W hb hB hle
  clear r0 r1 r2 u1 u2 u3
  obtain ⟨k0, k1, k2, f0, f1, f2⟩ := hB.c3
  simp only [Act.put]
  obtain ⟨d0, e0⟩ : ∃ d0, d0 = arI cx 8 - 1 := ⟨_, rfl⟩
  obtain ⟨d1, e1⟩ : ∃ d1, d1 = arI cy 8 - 1 := ⟨_, rfl⟩
  obtain ⟨d2, e2⟩ : ∃ d2, d2 = arI cz 8 - 1 := ⟨_, rfl⟩
  rw [← e0, ← e1, ← e2]
  have hd0 : -1 ≤ d0 ∧ d0 ≤ 6 := by omega
  have hd1 : -1 ≤ d1 ∧ d1 ≤ 6 := by omega
  have hd2 : -1 ≤ d2 ∧ d2 ≤ 6 := by omega
  clear e0 e1 e2 a1 a2 b1 b2 c1 c2 hcx hcy hcz B
  go_upto_region 3 with (fail)
  obtain ⟨W4, hW⟩ : ∃ W4, W4 = ((W.setCell ⟨b, 0, none⟩ (.int .i64 d0)).setCell ⟨b, 1, none⟩ (.int .i64 d1)).setCell ⟨b, 2, none⟩ (.int .i64 d2) := ⟨_, rfl⟩
  rw [← hW]
  clear k0 k1 k2 f0 f1 f2
  replace P := P.far3 hb hle hW
  have D := hB.put3 hW
  replace H := far_below3 H hb hle hW
  clear hW hb hle hB
  have t1 : -9223372036854775808 ≤ d0 * 65536 := by omega
  have t2 : d0 * 65536 + 32768 ≤ 9223372036854775807 := by omega
  have t3 : -9223372036854775808 ≤ d1 * 65536 := by omega
  have t4 : d1 * 65536 + 32768 ≤ 9223372036854775807 := by omega
  have t5 : -9223372036854775808 ≤ d2 * 65536 := by omega
  have t6 : d2 * 65536 + 32768 ≤ 9223372036854775807 := by omega
  have t7 : d0 * 65536 ≤ 9223372036854775807 := by omega
  have t8 : d1 * 65536 ≤ 9223372036854775807 := by omega
  have t9 : d2 * 65536 ≤ 9223372036854775807 := by omega
  have t10 : -9223372036854775808 ≤ d0 * 65536 + 32768 := by omega
  have t11 : -9223372036854775808 ≤ d1 * 65536 + 32768 := by omega
  have t12 : -9223372036854775808 ≤ d2 * 65536 + 32768 := by omega
  obtain ⟨k0, k1, k2, -, -, -⟩ := D.c3
  go_upto_region 4 with (fail)
  generalize hV : World.alloc W4 _ = W5
  have T : Blk W5 W4.heap.size 26 #[.int .i64 (d0 * 65536 + 32768), .int .i64 (d1 * 65536 + 32768), .int .i64 (d2 * 65536 + 32768)] := Blk.eqw hV (Blk.new' rfl)
  have h5 : Below W4.heap.size W4 W5 := by rw [← hV]; exact (Below.refl _ _).alloc (Nat.le_refl _) _
  generalize W4.heap.size = gt at T ⊢
  replace P := P.on h5
  replace D := D.on h5
  replace H := after H h5
  clear hV h5 k0 k1 k2 t1 t2 t3 t4 t5 t6 t7 t8 t9 t10 t11 t12
  have hsub : ∀ n m : Int, -1000000 ≤ n → n ≤ 1000000 → -1000000 ≤ m → m ≤ 1000000 → subI n m = n - m := fun n m h1 h2 h3 h4 => by unfold subI cutI; omega
  have hq : ∀ n : Int, -1048576 ≤ n → n ≤ 1048576 → qI n = n := fun n a b => by unfold qI mnI mxI; omega
  have HTO := Lib.hid fun w => toward_c ax ay az (d0 * 65536 + 32768) (d1 * 65536 + 32768) (d2 * 65536 + 32768) (d0 * 65536 + 32768 - ax) (d1 * 65536 + 32768 - ay) (d2 * 65536 + 32768 - az) (hsub _ _ (by omega) (by omega) (by omega) (by omega)) (hsub _ _ (by omega) (by omega) (by omega) (by omega)) (hsub _ _ (by omega) (by omega) (by omega) (by omega)) (hq _ (by omega) (by omega)) (hq _ (by omega) (by omega)) (hq _ (by omega) (by omega)) w
  have HSB := Lib.hid fun w => (show Calls Try.prog 28 #[.agg #[.int .i64 (d0 * 65536 + 32768), .int .i64 (d1 * 65536 + 32768), .int .i64 (d2 * 65536 + 32768)], .agg #[.int .i64 ax, .int .i64 ay, .int .i64 az]] w fun r w' => r = .returned (.agg #[.int .i64 (d0 * 65536 + 32768 - ax), .int .i64 (d1 * 65536 + 32768 - ay), .int .i64 (d2 * 65536 + 32768 - az)]) ∧ Below w.heap.size w w' from by
    have h := rsubv_c (d0 * 65536 + 32768) (d1 * 65536 + 32768) (d2 * 65536 + 32768) ax ay az w
    rw [hsub _ _ (by omega) (by omega) (by omega) (by omega), hsub _ _ (by omega) (by omega) (by omega) (by omega), hsub _ _ (by omega) (by omega) (by omega) (by omega)] at h
    exact h)
  have h46 : In46 ax ay az := by unfold In46; omega
  have HCE := Lib.hid fun w => cells_c ax ay az (d0 * 65536 + 32768 - ax) (d1 * 65536 + 32768 - ay) (d2 * 65536 + 32768 - az) 64 h46 w
  have hsee := sees_in bx bY bz hd0 hd1 hd2
  have hlen := see_len ax ay az (d0 * 65536 + 32768 - ax) (d1 * 65536 + 32768 - ay) (d2 * 65536 + 32768 - az) 64
  generalize hcs : (seeL ax ay az (d0 * 65536 + 32768 - ax) (d1 * 65536 + 32768 - ay) (d2 * 65536 + 32768 - az) 64).map (·.1) = cs at HCE hsee
  have hcl : cs.length ≤ 1000000 := by rw [← hcs, List.length_map]; exact hlen
  have HSEE := Lib.hid (And.intro hsee hcl)
  clear hsub hq h46 hsee hlen hcs hcl bx bY bz hd0 hd1 hd2
  generalize d0 * 65536 + 32768 - ax = wx at *
  generalize d1 * 65536 + 32768 - ay = wy at *
  generalize d2 * 65536 + 32768 - az = wz at *
  generalize d0 * 65536 + 32768 = tx at *
  generalize d1 * 65536 + 32768 = ty at *
  generalize d2 * 65536 + 32768 = tz at *
  obtain ⟨p0, p1, p2, -, -, -⟩ := P.c3
  obtain ⟨t0, t1, t2, -, -, -⟩ := T.c3
  go_upto_region 5 with (go_at_call 27; refine (HTO.out _).mono ?_; rintro e_ w6 ⟨rfl, h6⟩)
  generalize hV : World.alloc w6 _ = w7
  have V : Blk w7 w6.heap.size 26 #[.int .i64 wx, .int .i64 wy, .int .i64 wz] := Blk.eqw hV (Blk.new' rfl)
  have h7 : Below W5.heap.size W5 w7 := by rw [← hV]; exact h6.alloc h6.size _
  generalize w6.heap.size = gv at V ⊢
  replace P := P.on h7
  replace D := D.on h7
  replace T := T.on h7
  replace H := after H h7
  clear hV h6 h7 p0 p1 p2 t0 t1 t2 HTO
  obtain ⟨p0, p1, p2, -, -, -⟩ := P.c3
  obtain ⟨v0, v1, v2, -, -, -⟩ := V.c3
  go_upto_region 6 with (go_at_call 23; refine (HCE.out _).mono ?_; rintro e_ w8 ⟨u, rfl, ho, h8⟩)
  replace P := P.on h8
  replace D := D.on h8
  replace T := T.on h8
  replace V := V.on h8
  replace H := after H h8
  obtain ⟨q, cap, rfl, hcap, -, hrd, -, -⟩ := ho.form len3
  have HRD := Lib.hid hrd
  have HK := Lib.hid H
  clear p0 p1 p2 v0 v1 v2 h8 ho hrd hcap HCE H
  have HLV := Lib.hid fun w => rlives_c w
  go_upto_region 7 with (fail)
  go_loopw [10] (fun v wr => ∃ i : Nat, i ≤ cs.length ∧ v = .int .i64 i ∧ Hid (∀ j, j < i → cs[j]? ≠ some (d0, d1, d2)) ∧ Hid (Rd wr q 3 enc3 cs) ∧ Blk wr gp 26 #[.int .i64 ax, .int .i64 ay, .int .i64 az] ∧ Blk wr b 29 #[.int .i64 d0, .int .i64 d1, .int .i64 d2] ∧ Blk wr gt 26 #[.int .i64 tx, .int .i64 ty, .int .i64 tz] ∧ Blk wr gv 26 #[.int .i64 wx, .int .i64 wy, .int .i64 wz] ∧ Hid (Below w.heap.size w wr)) (fun v _ => cs.length - (intOf v).toNat)
  case atStart => exact ⟨0, Nat.zero_le _, rfl, Lib.hid (fun j hj => by omega), HRD, P, D, T, V, HK⟩
  case round =>
    clear P D T V HRD HK
    obtain ⟨i, hi, rfl, hno, HRD, P, D, T, V, HK⟩ := hrel
    by_cases hil : i < cs.length
    · obtain ⟨x, hx⟩ : ∃ x, cs[i]? = some x := ⟨_, List.getElem?_eq_getElem hil⟩
      obtain ⟨go, oo, hqo, hro⟩ := HRD.out (by omega)
      subst hqo
      have c0 := fun d os => cell_regrown (show wr.cell? ⟨go, oo + i * 3, none⟩ = some (.int .i64 x.1) from hro i x hx 0 _ rfl) d os
      have c1 := fun d os => cell_regrown (show wr.cell? ⟨go, oo + i * 3 + 1, none⟩ = some (.int .i64 x.2.1) from hro i x hx 1 _ rfl) d os
      have c2 := fun d os => cell_regrown (show wr.cell? ⟨go, oo + i * 3 + 2, none⟩ = some (.int .i64 x.2.2) from hro i x hx 2 _ rfl) d os
      have hi0 : (0 : Int) ≤ i := by omega
      have hil2 : (i : Int) < cs.length := by omega
      have hi9 : (i : Int) + 1 ≤ 9223372036854775807 := by have := HSEE.out.2; omega
      have hi8 : -9223372036854775808 ≤ (i : Int) + 1 := by omega
      have HX := Lib.hid hx
      clear hro hx
      obtain ⟨k0, k1, k2⟩ := D.re3
      have cg := cell_guard
      have vg := vecs_guard
      by_cases he : x = (d0, d1, d2)
      · subst he
        have se := cell_eq_self d0 d1 d2
        have ve := vecs_eq_self wx wy wz
        go_wp2_with fail
        refine wp_region_quiet_below (by kernel_rfl) (by kernel_rfl) ?_
        repeat (go_big_quiet_step (fail))
        refine wpQuiet_nil ?_
        intro w' hw'
        obtain ⟨rg, rfl⟩ := hw'
        generalize hW4 : Go.Sort.grow (redrawn wr rg.d) rg.os = w4
        have k4 : Below wr.heap.size wr w4 := by rw [← hW4]; exact below_regrown wr _ _
        replace P := P.on k4
        replace T := T.on k4
        replace V := V.on k4
        replace HK := Lib.hid (after HK.out k4)
        clear hW4 k4 c0 c1 c2 k0 k1 k2 D HRD
        have v0 := fun d os => (V.re d os).cell 0
        have v1 := fun d os => (V.re d os).cell 1
        have v2 := fun d os => (V.re d os).cell 2
        have p0 := fun d os => (P.re d os).cell 0
        have p1 := fun d os => (P.re d os).cell 1
        have p2 := fun d os => (P.re d os).cell 2
        have t0 := fun d os => (T.re d os).cell 0
        have t1 := fun d os => (T.re d os).cell 1
        have t2 := fun d os => (T.re d os).cell 2
        go_wp2_with fail
        refine wp_region_quiet_below (by kernel_rfl) (by kernel_rfl) ?_
        repeat (go_big_quiet_step (first | (go_at_call 28; exact Calls.regrown_of (HSB.out _)) | (go_at_call 15; exact Calls.regrown_of (HLV.out _))))
        refine wpQuiet_nil ?_
        intro w' hw'
        obtain ⟨rg, rfl⟩ := hw'
        clear v0 v1 v2 p0 p1 p2 t0 t1 t2
        go_wp2_with fail
        go_returns
        exact ⟨rfl, after HK.out (below_regrown _ _ _)⟩
      · have se := cell_ne_vals (x := x) (d0 := d0) (d1 := d1) (d2 := d2) he
        go_wp2_with fail
        refine wp_region_quiet_below (by kernel_rfl) (by kernel_rfl) ?_
        repeat (go_big_quiet_step (fail))
        refine wpQuiet_nil ?_
        intro w' hw'
        obtain ⟨rg, rfl⟩ := hw'
        generalize hW4 : Go.Sort.grow (redrawn wr rg.d) rg.os = w4
        have k4 : Below wr.heap.size wr w4 := by rw [← hW4]; exact below_regrown wr _ _
        replace P := P.on k4
        replace D := D.on k4
        replace T := T.on k4
        replace V := V.on k4
        replace HRD := Lib.hid (HRD.out.on k4)
        replace HK := Lib.hid (after HK.out k4)
        clear hW4 k4 c0 c1 c2 k0 k1 k2
        go_wp2_with fail
        go_roundw
        case rel => exact ⟨i + 1, by omega, by go_num, Lib.hid (fun j hj => by
          rcases Nat.lt_or_eq_of_le (Nat.le_of_lt_succ hj) with e | e
          · exact hno.out j e
          · rw [e, HX.out]; exact fun h => he (Option.some.inj h)), HRD, P, D, T, V, HK⟩
        case measure => simp [intOf]; omega
    · exact absurd HSEE.out.1 (fun h => by
        obtain ⟨j, hj, e⟩ := List.mem_iff_getElem.1 h
        exact hno.out j (by omega) (by rw [List.getElem?_eq_getElem hj, e]))
set_option maxRecDepth 100000 in
theorem raySees_lifted (os : Os) (started : os.Started) (H : Type) (enc : TypeId × Value → H) :
    ReturnsInHanded {} Try.checked os 8 .any (Rows.raySeesSpec.pre6 enc Try.prog Try.f8 Rows.raySeesRow.domain false) (Rows.raySeesSpec.post enc Try.prog Try.f8 false true false false) := by
  refine returnsInHanded_of_change (C := Try.checked) own started (by kernel_rfl) Try.func8
    (ChangeSpec.witness6 (enc := enc) (C := Try.checked) false ⟨#[], #[.agg #[.int .i64 0, .int .i64 0, .int .i64 0], .agg #[.int .i64 0, .int .i64 0, .int .i64 0]], []⟩ 8 (by kernel_rfl) (by kernel_rfl) (by kernel_rfl) (by kernel_rfl)) ?_
  intro W base args ds gs before hval0 hW hcnd hsz
  have hval : ∀ (j : Nat) t v, Try.f8.params[j]? = some t → args[j]? = some v → Value.okWide Try.prog W .any base t v := hval0
  have hW' := hW
  obtain ⟨p, q, hA0, hV, rfl, hfz, hnd⟩ := hW
  have hA : DataW.TrodAll enc Try.prog W 0 (fun _ => true) true Try.f8.params.toList args.toList ds p := hA0
  rw [Try.params8] at hA hval
  obtain ⟨v0, vs0, d0, ds0, p_0, q_0, hargs, rfl, rfl, h0, r_0⟩ := trodAll_cons hA
  obtain ⟨v1, vs1, d1, ds1, p_1, q_1, rfl, rfl, rfl, h1, r_1⟩ := trodAll_cons r_0
  obtain ⟨rfl, rfl, rfl⟩ := trodAll_nil r_1
  obtain rfl : args = #[v0, v1] := by cases args; simp_all
  obtain ⟨rfl, rfl⟩ := trodVars_none hV
  obtain ⟨x0, y0, z0, rfl, wx0, wy0, wz0⟩ := open_vec Try.underlying26 (by kernel_rfl) (by kernel_rfl) Try.underlying3 (hval 0 26 v0 rfl rfl) h0
  obtain ⟨x1, y1, z1, rfl, wx1, wy1, wz1⟩ := open_vec Try.underlying29 (by kernel_rfl) (by kernel_rfl) Try.underlying3 (hval 1 29 v1 rfl rfl) h1
  refine (raySees_c x0 y0 z0 wx0 wy0 wz0 x1 y1 z1 wx1 wy1 wz1 W).mono fun e W' ⟨he, hb⟩ => ?_
  subst he
  exact ⟨_, rfl, law_post laidOut (by kernel_rfl) rfl (by kernel_rfl) Try.underlying4 hW' rfl rfl rfl hb⟩

/-- The statement. -/
theorem raySees_proved : Rows.RaySeesSaid :=
  OpenClaim.holds_of_wide 8 Try.f8 rfl rfl rfl rfl rfl rfl rfl ⟨rfl, rfl, rfl, rfl, rfl⟩ rfl rfl rfl rfl rfl (by kernel_rfl) Try.func8 (by kernel_rfl)
    (of_decide_eq_true (by kernel_rfl)) (by unfold Func.isWrapper; first | (rw [if_pos (by decide +kernel)]; kernel_rfl) | (rw [if_neg (by decide +kernel)]; exact ⟨rfl, rfl⟩))
    (fun os started H enc _ => raySees_lifted os started H enc)
end Go.Proofs.Ytjlgcfdpfalbpaa
