/- Texts that build one behind the other, laid together: SwP5 Free2 Lay1 Lay2 Meet2 Good13 Meet3. -/
import Derived.Test.YtnokibdecnddlaaMa4
import Derived.Test.YtnokibdecnddlaaMa1
import Derived.Test.YtnokibdecnddlaaMa3
/- A box that steps up: plain. No program in sight. -/
namespace Go.Proofs.Ytnokibdecnddlaa

def unB (val : Cl → Int) (x : B6) : Bool := (cellsI x.1 (cutI (x.2.1 - 1)) x.2.2.1 x.2.2.2.1 x.2.1 x.2.2.2.2.2).any fun c => solB (val c)
def wentI (x y : B6) : Int := mxI (y.1 - x.1) (x.1 - y.1) + mxI (y.2.2.1 - x.2.2.1) (x.2.2.1 - y.2.2.1)
section
variable (val : Cl → Int) (x : B6) (dx dy dz up : Int)
def hi1 : B6 × Bool := al6 val x 1 (mnI up 65536)
def rise : Int := (hi1 val x up).1.2.1 - x.2.1
def oA : B6 × Bool := al6 val (hi1 val x up).1 0 dx
def oB : B6 × Bool := al6 val (oA val x dx up).1 2 dz
def oC : B6 × Bool := al6 val (oB val x dx dz up).1 1 (-rise val x up)
abbrev ah3 (h : Bool × Bool × Bool) : Array Value := #[.bool h.1, .bool h.2.1, .bool h.2.2]
abbrev bhT (p : B6 × Bool × Bool × Bool) : Value := .tuple #[.agg (ag6 p.1), .agg (ah3 p.2)]
/-- Does it step up? -/
def stepOf (y c : B6) (u0 u1 u2 sa sb st : Bool) (up n1 n2 : Int) : B6 × Bool × Bool × Bool :=
  if ((u0 || u2) && decide (0 < up) && st && decide (n2 < n1)) = true then (c, sa, true, sb) else (y, u0, u1, u2)
def stepV : B6 × Bool × Bool × Bool :=
  stepOf (st3 val x dx dy dz) (oC val x dx dz up).1 (hx2 val x dx dy) (hy1 val x dy) (hz3 val x dx dy dz) (oA val x dx up).2 (oB val x dx dz up).2 (unB val x) up (wentI x (oC val x dx dz up).1) (wentI x (st3 val x dx dy dz))
variable {val x dx dy dz up}
theorem stepOf_no {y c : B6} {u0 u1 u2 sa sb st : Bool} {up n1 n2 : Int} (h : (u0 = false ∧ u2 = false) ∨ up ≤ 0 ∨ st = false ∨ n1 ≤ n2) : stepOf y c u0 u1 u2 sa sb st up n1 n2 = (y, u0, u1, u2) := by
  unfold stepOf
  refine if_neg fun e => ?_
  simp only [Bool.and_eq_true, Bool.or_eq_true, decide_eq_true_eq] at e
  obtain ⟨⟨⟨e1, e2⟩, e3⟩, e4⟩ := e
  rcases h with ⟨rfl, rfl⟩ | h | rfl | h
  · simp at e1
  · omega
  · cases e3
  · omega
theorem stepOf_yes {y c : B6} {u0 u1 u2 sa sb : Bool} {up n1 n2 : Int} (h : u0 = true ∨ u2 = true) (h1 : 0 < up) (h2 : n2 < n1) : stepOf y c u0 u1 u2 sa sb true up n1 n2 = (c, sa, true, sb) := by
  unfold stepOf
  refine if_pos ?_
  simp only [Bool.and_eq_true, Bool.or_eq_true, decide_eq_true_eq]
  exact ⟨⟨⟨h, h1⟩, trivial⟩, h2⟩
theorem hi1_sm {M : Int} (h : Sm6 M x) (hM0 : 0 ≤ M) (hM : M ≤ 73000000000000) : Sm6 (M + 10000000) (hi1 val x up).1 := al6_sm h hM0 (by omega) val 1 _
theorem oA_sm {M : Int} (h : Sm6 M x) (hM0 : 0 ≤ M) (hM : M ≤ 73000000000000) : Sm6 (M + 20000000) (oA val x dx up).1 := by
  have := al6_sm (hi1_sm (val := val) (up := up) h hM0 hM) (by omega) (by omega) val 0 dx
  rwa [show M + 10000000 + 10000000 = M + 20000000 by omega] at this
theorem oB_sm {M : Int} (h : Sm6 M x) (hM0 : 0 ≤ M) (hM : M ≤ 73000000000000) : Sm6 (M + 30000000) (oB val x dx dz up).1 := by
  have := al6_sm (oA_sm (val := val) (up := up) (dx := dx) h hM0 hM) (by omega) (by omega) val 2 dz
  rwa [show M + 20000000 + 10000000 = M + 30000000 by omega] at this
theorem oC_sm {M : Int} (h : Sm6 M x) (hM0 : 0 ≤ M) (hM : M ≤ 73000000000000) : Sm6 (M + 40000000) (oC val x dx dz up).1 := by
  have := al6_sm (oB_sm (val := val) (up := up) (dx := dx) (dz := dz) h hM0 hM) (by omega) (by omega) val 1 (-rise val x up)
  rwa [show M + 30000000 + 10000000 = M + 40000000 by omega] at this
theorem st3_sm {M : Int} (h : Sm6 M x) (hM0 : 0 ≤ M) (hM : M ≤ 73000000000000) : Sm6 (M + 30000000) (st3 val x dx dy dz) := by
  have s1 := al6_sm h hM0 (by omega) val 1 dy
  have s2 := al6_sm (x := st1 val x dy) s1 (by omega) (by omega) val 0 dx
  have s3 := al6_sm (x := st2 val x dx dy) s2 (by omega) (by omega) val 2 dz
  rwa [show M + 10000000 + 10000000 + 10000000 = M + 30000000 by omega] at s3
theorem Sm6.bd {M : Int} (h : Sm6 M x) : (-M ≤ x.1 ∧ x.1 ≤ M) ∧ (-M ≤ x.2.1 ∧ x.2.1 ≤ M) ∧ (-M ≤ x.2.2.1 ∧ x.2.2.1 ≤ M) := ⟨⟨h.a1, h.a2⟩, ⟨h.b1, h.b2⟩, ⟨h.c1, h.c2⟩⟩
theorem Sm6.under {M : Int} (h : Sm6 M x) (hM0 : 0 ≤ M) (hM : M ≤ 73000000000000) : BoxOk x.1 (cutI (x.2.1 - 1)) x.2.2.1 x.2.2.2.1 x.2.1 x.2.2.2.2.2 ∧ (cellsI x.1 (cutI (x.2.1 - 1)) x.2.2.1 x.2.2.2.1 x.2.1 x.2.2.2.2.2).length ≤ 1000000 := by
  obtain ⟨h1, h2, h3, h4, h5, h6, h7, h8, h9, h10, h11, h12⟩ := h
  rw [cutI_id (by omega) (by omega)]
  exact ⟨⟨by omega, by omega, by omega, by omega, by omega, by omega, by omega, by omega, by omega⟩, cells_len (by omega) (by omega) (by omega) (by omega) (by omega) (by omega)⟩
end
end Go.Proofs.Ytnokibdecnddlaa

/- Steps and ways along an axis of a box that is not blocked: plain. No program in sight. -/
namespace Go.Proofs.Ytnokibdecnddlaa

theorem Sm6.mono {M M' : Int} {x : B6} (h : Sm6 M x) (hm : M ≤ M') : Sm6 M' x := by
  obtain ⟨h1, h2, h3, h4, h5, h6, h7, h8, h9, h10, h11, h12⟩ := h
  exact ⟨by omega, by omega, by omega, by omega, by omega, by omega, h7, h8, h9, h10, h11, h12⟩
section
variable {val : Cl → Int} {x : B6} {dx dy dz up M : Int}
theorem stepV_sm (h : Sm6 M x) (hM0 : 0 ≤ M) (hM : M ≤ 73000000000000) : Sm6 (M + 40000000) (stepV val x dx dy dz up).1 := by
  unfold stepV stepOf
  split
  · exact oC_sm h hM0 hM
  · exact (st3_sm h hM0 hM).mono (by omega)
theorem free_stepV (h : Sm6 M x) (hM0 : 0 ≤ M) (hM : M ≤ 73000000000000) (hx : blk6 val x = false) : blk6 val (stepV val x dx dy dz up).1 = false := by
  unfold stepV stepOf
  split
  · have k1 : blk6 val (hi1 val x up).1 = false := free_al h hM0 (by omega) (mnI up 65536) (by decide) hx
    have k2 : blk6 val (oA val x dx up).1 = false := free_al (hi1_sm h hM0 hM) (by omega) (by omega) dx (by decide) k1
    have k3 : blk6 val (oB val x dx dz up).1 = false := free_al (oA_sm h hM0 hM) (by omega) (by omega) dz (by decide) k2
    exact free_al (oB_sm h hM0 hM) (by omega) (by omega) (-rise val x up) (by decide) k3
  · exact free_st3 h hM0 hM dx dy dz hx
theorem Sm6.box (h : Sm6 M x) (hM0 : 0 ≤ M) (hM : M ≤ 73000000000000) : BoxOk x.1 x.2.1 x.2.2.1 x.2.2.2.1 x.2.2.2.2.1 x.2.2.2.2.2 ∧ (cellsI x.1 x.2.1 x.2.2.1 x.2.2.2.1 x.2.2.2.2.1 x.2.2.2.2.2).length ≤ 1000000 := ⟨Sm.box h (by omega), Sm.cells h⟩
end
theorem axV_miss {blk : Int → Bool} {low top d : Int} (h : (axV blk low top d).2 = false) : (axV blk low top d).1 = d := by
  unfold axV at *
  split at h
  · cases h
  · rfl
/-- What is known of how far it goes. -/
theorem ax6_say (val : Cl → Int) (x : B6) {i m : Int} (hi : 0 ≤ i ∧ i < 3) (h1 : -4194304 ≤ m) (h2 : m ≤ 4194304) :
    (((0 ≤ m ∧ 0 ≤ (ax6 val x i m).1 ∧ (ax6 val x i m).1 ≤ m) ∨ (m ≤ 0 ∧ m ≤ (ax6 val x i m).1 ∧ (ax6 val x i m).1 ≤ 0))) ∧ ((ax6 val x i m).2 = false → (ax6 val x i m).1 = m) := by
  unfold ax6 axisV
  rw [if_neg (by omega), far_in h1 h2]
  obtain ⟨h3, h4⟩ := axV_bd (blk := lyB val x.1 x.2.1 x.2.2.1 x.2.2.2.1 x.2.2.2.2.1 x.2.2.2.2.2 i) (low := axI x.1 x.2.1 x.2.2.1 i) (top := axI x.2.2.2.1 x.2.2.2.2.1 x.2.2.2.2.2 i) (d := m)
  refine ⟨?_, axV_miss⟩
  rcases (show 0 ≤ m ∨ m ≤ 0 by omega) with h | h
  · exact .inl ⟨h, h3 h⟩
  · exact .inr ⟨h, h4 h⟩
/-- The tests of a way and what came of it. -/
theorem way_tests {n m : Int} (h : (0 ≤ m ∧ 0 ≤ n ∧ n ≤ m) ∨ (m ≤ 0 ∧ m ≤ n ∧ n ≤ 0)) (h1 : -4194304 ≤ m) (h2 : m ≤ 4194304) :
    decide (n * m < 0) = false ∧ decide (mxI m (-m) < mxI n (-n)) = false ∧ -9223372036854775808 ≤ n * m ∧ n * m ≤ 9223372036854775807 := by
  have k : 0 ≤ n * m ∧ n * m ≤ 4194304 * 4194304 := by
    rcases h with ⟨a, b, c⟩ | ⟨a, b, c⟩
    · exact ⟨Int.mul_nonneg b a, Int.mul_le_mul (by omega) h2 a (by omega)⟩
    · rw [← Int.neg_mul_neg]
      exact ⟨Int.mul_nonneg (by omega) (by omega), Int.mul_le_mul (by omega) (by omega) (by omega) (by omega)⟩
  obtain ⟨k1, k2⟩ := k
  refine ⟨?_, ?_, by omega, by omega⟩
  · simpa using k1
  · unfold mxI; simp only [decide_eq_false_iff_not]; omega
theorem tdiv_half {n : Int} (h1 : -4194304 ≤ n) (h2 : n ≤ 4194304) : (0 ≤ n ∧ 0 ≤ n.tdiv 2 ∧ n.tdiv 2 ≤ n) ∨ (n ≤ 0 ∧ n ≤ n.tdiv 2 ∧ n.tdiv 2 ≤ 0) := by
  rcases (show 0 ≤ n ∨ n < 0 by omega) with h | h
  · left
    rw [Int.tdiv_eq_ediv_of_nonneg h]
    omega
  · right
    have e : n.tdiv 2 = -((-n) / 2) := by
      rw [← Int.tdiv_eq_ediv_of_nonneg (by omega), Int.neg_tdiv, Int.neg_neg]
    omega
/-- Half of the way that it goes is free. -/
theorem free_half {val : Cl → Int} {M : Int} {x : B6} (h : Sm6 M x) (hM0 : 0 ≤ M) (hM : M ≤ 74000000000000) {i m : Int} (hi : 0 ≤ i ∧ i < 3) (h1 : -4194304 ≤ m) (h2 : m ≤ 4194304) (hx : blk6 val x = false) : blk6 val (mv6 x i ((ax6 val x i m).1.tdiv 2)) = false := by
  obtain ⟨h3, -⟩ := ax6_say val x hi h1 h2
  have h4 := tdiv_half (n := (ax6 val x i m).1) (by omega) (by omega)
  exact free6 h hM0 hM hi hx (dd := m) (by omega)
end Go.Proofs.Ytnokibdecnddlaa

/- The layers that a box goes through: what the iterator owes. -/
namespace Go.Proofs.Ytnokibdecnddlaa
open Go.RowKit Go.Shelf
attribute [local go_sem] Oper.semAt_some

theorem layers_c (a b c d e f axis dd : Int) (w : World) : Calls Try.prog 115 #[.agg #[.int .i64 a, .int .i64 b, .int .i64 c, .int .i64 d, .int .i64 e, .int .i64 f], .int .i64 axis, .int .i64 dd] w fun r w' =>
    r = .returned (.func (.func 118) #[] #[.pointer (some ⟨w.heap.size, 0, none⟩), .pointer (some ⟨w.heap.size + 1, 0, none⟩), .pointer (some ⟨w.heap.size + 1 + 1, 0, none⟩)]) ∧
    w' = ((w.alloc (.cells #[.int .i64 a, .int .i64 b, .int .i64 c, .int .i64 d, .int .i64 e, .int .i64 f] 48)).alloc (.cells #[.int .i64 axis] 3)).alloc (.cells #[.int .i64 dd] 3) := by
  have hmf : ∀ (fn : Fn) (first cap : Array Value) (w : World), (Instr.makeFunc fn first cap).run Try.prog w = .ok (.func fn first cap) w := fun _ _ _ _ => rfl
  go_enter Try.func115, Try.ntmps115
  go_wp2_with fail
  go_returns
  exact ⟨rfl, rfl⟩
abbrev encK (c : Int × Int) : Array Value := #[.int .i64 c.1, .int .i64 c.2]
theorem of_b (n v : Int) (h : ofI n = v) (w : World) : Calls Try.prog 120 #[.int .i64 n] w fun e w' => e = .returned (.int .i64 v) ∧ Below w.heap.size w w' := calls_bel (of_e n v h w)
theorem floor_v (n v : Int) (h : cutI n / 65536 = v) (w : World) : Calls Try.prog 119 #[.int .i64 n] w fun e w' => e = .returned (.int .i64 v) ∧ w = w' := by subst h; exact floor_c n w
set_option maxRecDepth 100000 in
set_option maxHeartbeats 8000000 in
theorem lay_it (B G D : Nat) (a b c d e f axis dd M : Int) (hM : M ≤ 73000000000000) (hM0 : 0 ≤ M) (hB : Sm M a b c d e f) (h1 : -4194304 ≤ dd) (h2 : dd ≤ 4194304) (w : World) (hb : Blk w B 48 #[.int .i64 a, .int .i64 b, .int .i64 c, .int .i64 d, .int .i64 e, .int .i64 f]) (hg : Blk w G 3 #[.int .i64 axis]) (hd : Blk w D 3 #[.int .i64 dd]) :
    Iter Try.prog 118 #[.pointer (some ⟨B, 0, none⟩), .pointer (some ⟨G, 0, none⟩), .pointer (some ⟨D, 0, none⟩)] encK (lays (axI a b c axis) (axI d e f axis) dd) (fun x => x = B ∨ x = G ∨ x = D) w := by
  intro m l J Jx W hW hJ hJx hY h0
  have A := hW.blk (.inl rfl) hb
  have A1 := hW.blk (.inr (.inl rfl)) hg
  have A2 := hW.blk (.inr (.inr rfl)) hd
  obtain ⟨l1, l2, l3⟩ := axI_sm (axis := axis) hB hM0
  clear hb hg hd hW hB
  refine callsIn_of_wp Try.func118 rfl trivial ?_ rfl
  simp only [Try.ntmps118, List.size_toArray, List.length_cons, List.length_nil, Nat.reduceAdd, Nat.reduceSub, Array.replicate_succ, Array.replicate_zero, List.push_toArray, List.append_toArray, List.nil_append, List.cons_append]
  refine wpIn_wide.2 ?_
  obtain ⟨a0, a1, a2, a3, a4, a5⟩ := A.re6
  have g0 := fun x y => (A1.re x y).cell 0
  clear A
  go_upto_region 0 with (fail)
  refine wp_sched [0, 0, 0, 0, 0, 0, 0, 0, 0, 0] (fun _ _ _ => True) (by kernel_rfl) (by kernel_rfl) (fun _ _ _ _ h _ => h) ?_
  repeat (first | (refine wpQs_s ?_) | (refine wpQs_q (fun K hK => ?_); go_simp; first | (refine hK _ ?_; clear hK K) | (apply Exists.intro; refine ⟨fun _ => ?_, hK _ ?_⟩; (exact axis_c _ _ _ _ _); clear hK K)) | (refine wpQs_f (fun K hK => ?_); go_simp; refine hK _ ?_; clear hK K))
  refine wpQs_nil ?_
  repeat (first | (refine wpLs_skip ?_) | (refine wpLs_one ?lsA (fun v_ => ?_); case lsA => (intro w_ hw_ hp_; (fail))))
  refine wpLs_nilB ?_
  simp only [tails]
  clear a0 a1 a2 a3 a4 a5 g0
  generalize hlo : axI a b c axis = low at l1 l2 hY ⊢
  generalize hto : axI d e f axis = top at l2 l3 hY ⊢
  intro W1 k1 _
  have HLO := Lib.hid hlo
  have HTO := Lib.hid hto
  clear hlo hto
  have hD := A2.on k1
  have d0 := hD.cell 0
  have hJ1 : ∀ Z, J Z 0 W1 := fun Z => hJ Z 0 W W1 (h0 Z) (Kept.of_below k1)
  have hsz := k1.size
  have hDl := A2.lt
  clear k1 h0 A1 A2
  by_cases hpos : 0 < dd
  · have hls : lays low top dd = layU top dd := by unfold lays; rw [if_pos hpos]
    rw [hls] at hY
    have HLS := Lib.hid hls
    have hlen := layU_len top dd
    have HLEN := Lib.hid hlen
    clear hls hlen
    go_upto_region 3 with (go_at_call 119; refine (floor_v _ ((top + 65535) / 65536) (by unfold cutI; omega) _).mono ?_; rintro e_ w2 ⟨rfl, rfl⟩)
    refine (wpIn_wide (n := m + 1)).1 ?_
    gi_loopw [7] (fun v wr => ∃ (kk : Int) (i : Nat), v = .int .i64 kk ∧ Hid (kk = (top + 65535) / 65536 + (i : Int)) ∧ Hid (i ≤ (layU top dd).length) ∧ Blk wr D 3 #[.int .i64 dd] ∧ Hid (W1.heap.size ≤ wr.heap.size) ∧ J W1.heap.size i wr) (fun v _ => ((top + dd + 65535) / 65536 + 1 - intOf v).toNat)
    case atStart => exact ⟨_, 0, rfl, Lib.hid (by omega), Nat.zero_le _, hD, Nat.le_refl _, hJ1 _⟩
    case round =>
      clear hD hJ1 d0
      obtain ⟨kk, i, rfl, hkk0, hi, hD, hsz2, hj⟩ := hrel
      have d0 := fun x y => (hD.re x y).cell 0
      have hkk := hkk0.out
      have hi2 := hi.out
      rw [HLEN.out] at hi2
      have b1 : -9223372036854775808 ≤ kk - 1 := by omega
      have b2 : kk + 1 ≤ 9223372036854775807 := by omega
      have b3 : -9223372036854775808 ≤ kk + 1 := by omega
      have b4 : kk - 1 ≤ 9223372036854775807 := by omega
      have b5 : -9223372036854775808 ≤ kk * 65536 - top := by omega
      have b6 : kk * 65536 - top ≤ 9223372036854775807 := by omega
      have hof : ofI (kk) = (kk) * 65536 := ofI_id (by omega) (by omega)
      have HOF := Lib.hid hof
      by_cases hlt : i < (layU top dd).length
      · have c1 : (layU top dd)[i]? = some (kk, kk * 65536 - top) := by rw [layU_at hlt, hkk]
        have C1 := Lib.hid c1
        have HI := Lib.hid hlt
        rw [HLEN.out] at hlt
        have hlt2 : kk * 65536 < top + dd := by omega
        clear hlt c1 hi2 hof hkk
        have hw : IntKind.i64.wrap (top + dd) = top + dd := IntWalk.i64_in _ (by omega)
        gi_wp2
        refine wpIn_wide.2 ?_
        refine wp_sched [0, 0, 0, 0, 0, 0] (fun _ _ _ => True) (by kernel_rfl) (by kernel_rfl) (fun _ _ _ _ h _ => h) ?_
        repeat (first | (refine wpQs_s ?_) | (refine wpQs_q (fun K hK => ?_); go_simp; first | (refine hK _ ?_; clear hK K) | (apply Exists.intro; refine ⟨fun _ => ?_, hK _ ?_⟩; (exact of_b _ _ HOF.out _); clear hK K)) | (refine wpQs_f (fun K hK => ?_); go_simp; refine hK _ ?_; clear hK K))
        refine wpQs_nil ?_
        repeat (first | (refine wpLs_skip ?_) | (refine wpLs_one ?lsA (fun v_ => ?_); case lsA => (intro w_ hw_ hp_; (fail))))
        refine wpLs_nilB ?_
        simp only [tails]
        intro W2 k2 _
        have HJ := Lib.hid (And.intro (hJ _ _ _ _ hj (Kept.of_below k2)) (Nat.le_trans hsz2.out k2.size))
        clear d0 hj
        simp only [wpList, Exit.then]
        go_at_K
        gi_wp2_with (refine ⟨trivial, ?_⟩; gi_at_call 120; refine (callsIn_wide.2 (of_b _ _ HOF.out _)).mono ?_; rintro e_ w3 ⟨rfl, k3⟩; obtain ⟨hj, hs2⟩ := HJ.out; have hs3 := Nat.le_trans hs2 k3.size; replace hD := (hD.on k2).on k3; obtain ⟨fn, tmps, assign, body, hy', hR⟩ := hY W1.heap.size i _ w3 hsz hs3 C1.out (hJ _ _ _ _ hj (Kept.of_below k3)))
        refine hR.mono ?_
        rintro e_ W3 (⟨rfl, hj3, hk3⟩ | ⟨rfl, hjx3⟩)
        · replace hD := hk3.blk (.inr (.inr (.inr rfl))) hD
          have hsz3 := Lib.hid (Nat.le_trans hs3 hk3.size)
          gi_wp2
          go_roundw
          case rel => exact ⟨kk + 1, i + 1, rfl, Lib.hid (by have := hkk0.out; omega), HI.out, hD, hsz3.out, hj3⟩
          case measure => have := hkk0.out; have := HI.out; rw [HLEN.out] at this; simp [intOf]; omega
        · gi_wp2
          refine bodyPost_ret (results_none rfl _ _ _) rfl ?_
          exact ⟨⟨_, rfl⟩, W1.heap.size, hsz, .inr ⟨i, by rw [HLO.out, HTO.out, HLS.out]; exact HI.out, hjx3⟩⟩
      · have hin : i = (layU top dd).length := Nat.le_antisymm hi.out (Nat.le_of_not_lt hlt)
        have hlt2 : ¬ kk * 65536 < top + dd := by rw [HLEN.out] at hin; omega
        have hw : IntKind.i64.wrap (top + dd) = top + dd := IntWalk.i64_in _ (by omega)
        have hw2 : True := trivial
        have HI := Lib.hid hin
        clear hlt hi2 hof hkk hin
        gi_wp2
        refine wpIn_wide.2 ?_
        refine wp_sched [0, 0, 0, 0, 0, 0] (fun _ _ _ => True) (by kernel_rfl) (by kernel_rfl) (fun _ _ _ _ h _ => h) ?_
        repeat (first | (refine wpQs_s ?_) | (refine wpQs_q (fun K hK => ?_); go_simp; first | (refine hK _ ?_; clear hK K) | (apply Exists.intro; refine ⟨fun _ => ?_, hK _ ?_⟩; (exact of_b _ _ HOF.out _); clear hK K)) | (refine wpQs_f (fun K hK => ?_); go_simp; refine hK _ ?_; clear hK K))
        refine wpQs_nil ?_
        repeat (first | (refine wpLs_skip ?_) | (refine wpLs_one ?lsA (fun v_ => ?_); case lsA => (intro w_ hw_ hp_; (fail))))
        refine wpLs_nilB ?_
        simp only [tails]
        intro W2 k2 _
        have HJ := Lib.hid (hJ _ _ _ _ hj (Kept.of_below k2))
        clear d0 hj
        simp only [wpList, Exit.then]
        go_at_K
        gi_wp2
        go_wp2_with fail
        refine bodyPost_ret (results_none rfl _ _ _) rfl ?_
        exact ⟨⟨_, rfl⟩, W1.heap.size, hsz, .inl (by rw [HLO.out, HTO.out, HLS.out, ← HI.out]; exact HJ.out)⟩
  · have hls : lays low top dd = layD low dd := by unfold lays; rw [if_neg hpos]
    rw [hls] at hY
    have HLS := Lib.hid hls
    have hlen := layD_len low dd
    have HLEN := Lib.hid hlen
    clear hls hlen
    go_upto_region 7 with (go_at_call 119; refine (floor_v _ (low / 65536) (by unfold cutI; omega) _).mono ?_; rintro e_ w2 ⟨rfl, rfl⟩)
    refine (wpIn_wide (n := m + 1)).1 ?_
    gi_loopw [8] (fun v wr => ∃ (kk : Int) (i : Nat), v = .int .i64 kk ∧ Hid (kk = low / 65536 - 1 - (i : Int)) ∧ Hid (i ≤ (layD low dd).length) ∧ Blk wr D 3 #[.int .i64 dd] ∧ Hid (W1.heap.size ≤ wr.heap.size) ∧ J W1.heap.size i wr) (fun v _ => (intOf v - (low + dd) / 65536 + 1).toNat)
    case atStart => exact ⟨_, 0, rfl, Lib.hid (by omega), Nat.zero_le _, hD, Nat.le_refl _, hJ1 _⟩
    case round =>
      clear hD hJ1 d0
      obtain ⟨kk, i, rfl, hkk0, hi, hD, hsz2, hj⟩ := hrel
      have d0 := fun x y => (hD.re x y).cell 0
      have hkk := hkk0.out
      have hi2 := hi.out
      rw [HLEN.out] at hi2
      have b1 : -9223372036854775808 ≤ kk - 1 := by omega
      have b2 : kk + 1 ≤ 9223372036854775807 := by omega
      have b3 : -9223372036854775808 ≤ kk + 1 := by omega
      have b4 : kk - 1 ≤ 9223372036854775807 := by omega
      have b5 : -9223372036854775808 ≤ (kk + 1) * 65536 - low := by omega
      have b6 : (kk + 1) * 65536 - low ≤ 9223372036854775807 := by omega
      have hof : ofI (kk + 1) = (kk + 1) * 65536 := ofI_id (by omega) (by omega)
      have HOF := Lib.hid hof
      by_cases hlt : i < (layD low dd).length
      · have c1 : (layD low dd)[i]? = some (kk, (kk + 1) * 65536 - low) := by rw [layD_at hlt, hkk]; congr 2; omega
        have C1 := Lib.hid c1
        have HI := Lib.hid hlt
        rw [HLEN.out] at hlt
        have hlt2 : (kk + 1) * 65536 > low + dd := by omega
        clear hlt c1 hi2 hof hkk
        have hw : IntKind.i64.wrap (low + dd) = low + dd := IntWalk.i64_in _ (by omega)
        have hw2 : IntKind.i64.wrap (kk + 1) = kk + 1 := IntWalk.i64_in _ (by omega)
        gi_wp2
        refine wpIn_wide.2 ?_
        refine wp_sched [0, 0, 0, 0, 0, 0, 0] (fun _ _ _ => True) (by kernel_rfl) (by kernel_rfl) (fun _ _ _ _ h _ => h) ?_
        repeat (first | (refine wpQs_s ?_) | (refine wpQs_q (fun K hK => ?_); go_simp; first | (refine hK _ ?_; clear hK K) | (apply Exists.intro; refine ⟨fun _ => ?_, hK _ ?_⟩; (exact of_b _ _ HOF.out _); clear hK K)) | (refine wpQs_f (fun K hK => ?_); go_simp; refine hK _ ?_; clear hK K))
        refine wpQs_nil ?_
        repeat (first | (refine wpLs_skip ?_) | (refine wpLs_one ?lsA (fun v_ => ?_); case lsA => (intro w_ hw_ hp_; (fail))))
        refine wpLs_nilB ?_
        simp only [tails]
        intro W2 k2 _
        have HJ := Lib.hid (And.intro (hJ _ _ _ _ hj (Kept.of_below k2)) (Nat.le_trans hsz2.out k2.size))
        clear d0 hj
        simp only [wpList, Exit.then]
        go_at_K
        gi_wp2_with (refine ⟨trivial, ?_⟩; gi_at_call 120; refine (callsIn_wide.2 (of_b _ _ HOF.out _)).mono ?_; rintro e_ w3 ⟨rfl, k3⟩; obtain ⟨hj, hs2⟩ := HJ.out; have hs3 := Nat.le_trans hs2 k3.size; replace hD := (hD.on k2).on k3; obtain ⟨fn, tmps, assign, body, hy', hR⟩ := hY W1.heap.size i _ w3 hsz hs3 C1.out (hJ _ _ _ _ hj (Kept.of_below k3)))
        refine hR.mono ?_
        rintro e_ W3 (⟨rfl, hj3, hk3⟩ | ⟨rfl, hjx3⟩)
        · replace hD := hk3.blk (.inr (.inr (.inr rfl))) hD
          have hsz3 := Lib.hid (Nat.le_trans hs3 hk3.size)
          gi_wp2
          go_roundw
          case rel => exact ⟨kk - 1, i + 1, rfl, Lib.hid (by have := hkk0.out; omega), HI.out, hD, hsz3.out, hj3⟩
          case measure => have := hkk0.out; have := HI.out; rw [HLEN.out] at this; simp [intOf]; omega
        · gi_wp2
          refine bodyPost_ret (results_none rfl _ _ _) rfl ?_
          exact ⟨⟨_, rfl⟩, W1.heap.size, hsz, .inr ⟨i, by rw [HLO.out, HTO.out, HLS.out]; exact HI.out, hjx3⟩⟩
      · have hin : i = (layD low dd).length := Nat.le_antisymm hi.out (Nat.le_of_not_lt hlt)
        have hlt2 : ¬ (kk + 1) * 65536 > low + dd := by rw [HLEN.out] at hin; omega
        have hw : IntKind.i64.wrap (low + dd) = low + dd := IntWalk.i64_in _ (by omega)
        have hw2 : IntKind.i64.wrap (kk + 1) = kk + 1 := IntWalk.i64_in _ (by omega)
        have HI := Lib.hid hin
        clear hlt hi2 hof hkk hin
        gi_wp2
        refine wpIn_wide.2 ?_
        refine wp_sched [0, 0, 0, 0, 0, 0, 0] (fun _ _ _ => True) (by kernel_rfl) (by kernel_rfl) (fun _ _ _ _ h _ => h) ?_
        repeat (first | (refine wpQs_s ?_) | (refine wpQs_q (fun K hK => ?_); go_simp; first | (refine hK _ ?_; clear hK K) | (apply Exists.intro; refine ⟨fun _ => ?_, hK _ ?_⟩; (exact of_b _ _ HOF.out _); clear hK K)) | (refine wpQs_f (fun K hK => ?_); go_simp; refine hK _ ?_; clear hK K))
        refine wpQs_nil ?_
        repeat (first | (refine wpLs_skip ?_) | (refine wpLs_one ?lsA (fun v_ => ?_); case lsA => (intro w_ hw_ hp_; (fail))))
        refine wpLs_nilB ?_
        simp only [tails]
        intro W2 k2 _
        have HJ := Lib.hid (hJ _ _ _ _ hj (Kept.of_below k2))
        clear d0 hj
        simp only [wpList, Exit.then]
        go_at_K
        gi_wp2
        go_end0
        exact ⟨⟨_, rfl⟩, W1.heap.size, hsz, .inl (by rw [HLO.out, HTO.out, HLS.out, ← HI.out]; exact HJ.out)⟩
end Go.Proofs.Ytnokibdecnddlaa

/- A layer's box; how far a box goes along an axis. -/
namespace Go.Proofs.Ytnokibdecnddlaa
open Go.RowKit Go.Shelf
attribute [local go_sem] Oper.semAt_some

abbrev bV6 (a b c d e f : Int) : Array Value := #[.int .i64 a, .int .i64 b, .int .i64 c, .int .i64 d, .int .i64 e, .int .i64 f]
set_option maxRecDepth 100000 in
set_option maxHeartbeats 4000000 in
theorem layer_c (a b c d e f axis k : Int) (h1 : -2147483648 ≤ k) (h2 : k + 1 ≤ 2147483648) (w : World) : Calls Try.prog 116 #[.agg #[.int .i64 a, .int .i64 b, .int .i64 c, .int .i64 d, .int .i64 e, .int .i64 f], .int .i64 axis, .int .i64 k] w fun r w' =>
    r = .returned (.agg #[.int .i64 (wiI a axis 0 (k * 65536)), .int .i64 (wiI b axis 1 (k * 65536)), .int .i64 (wiI c axis 2 (k * 65536)), .int .i64 (wiI d axis 0 (k * 65536 + 65536)), .int .i64 (wiI e axis 1 (k * 65536 + 65536)), .int .i64 (wiI f axis 2 (k * 65536 + 65536))]) ∧ Below w.heap.size w w' := by
  have hw : IntKind.i64.wrap (k + 1) = k + 1 := IntWalk.i64_in _ (by omega)
  have o1 : ofI k = k * 65536 := ofI_id (by omega) (by omega)
  have o2 : ofI (k + 1) = k * 65536 + 65536 := by rw [ofI_id (by omega) (by omega)]; omega
  have O := Lib.hid (And.intro o1 o2)
  clear o1 o2 h1 h2
  have U : Blk ((w.alloc (.cells (bV6 a b c d e f) 48)).alloc (.cells (bV6 0 0 0 0 0 0) 48)) w.heap.size 48 (bV6 a b c d e f) := (Blk.new' rfl).alloc _
  have R0 : Blk ((w.alloc (.cells (bV6 a b c d e f) 48)).alloc (.cells (bV6 0 0 0 0 0 0) 48)) (w.heap.size + 1) 48 (bV6 0 0 0 0 0 0) := Blk.new' (by simp)
  obtain ⟨k0, k1, k2, k3, k4, k5⟩ := U.re6
  go_enter Try.func116, Try.ntmps116
  go_upto_region 1 with (fail)
  refine wp_region_last_below 14 (by kernel_rfl) rfl (by kernel_rfl) ?_
  simp only [List.take_succ_cons, List.take_zero, List.drop_succ_cons, List.drop_zero]
  repeat (go_big_quiet_step (first | exact Calls.regrown_of (of_b _ _ O.out.1 _) | exact Calls.regrown_of (of_b _ _ O.out.2 _) | exact Calls.regrown_of (with_c _ _ _ _ _ _)))
  refine wpQuiet_nil ?_
  intro w' hw'
  obtain ⟨rg, rfl⟩ := hw'
  have R := R0.re rg.d rg.os
  obtain ⟨⟨r0, r1, r2, r3, r4, r5⟩, s0, s1, s2, s3, s4, s5⟩ := R.c6
  go_wp2_with fail
  have R2 := R.st6 (.int .i64 (wiI a axis 0 (k * 65536))) (.int .i64 (wiI b axis 1 (k * 65536))) (.int .i64 (wiI c axis 2 (k * 65536))) (.int .i64 (wiI d axis 0 (k * 65536 + 65536))) (.int .i64 (wiI e axis 1 (k * 65536 + 65536))) (.int .i64 (wiI f axis 2 (k * 65536 + 65536)))
  obtain ⟨⟨d0, d1, d2, d3, d4, d5⟩, -, -, -, -, -, -⟩ := R2.c6
  exact bodyPost_ret (v := .agg #[.int .i64 (wiI a axis 0 (k * 65536)), .int .i64 (wiI b axis 1 (k * 65536)), .int .i64 (wiI c axis 2 (k * 65536)), .int .i64 (wiI d axis 0 (k * 65536 + 65536)), .int .i64 (wiI e axis 1 (k * 65536 + 65536)), .int .i64 (wiI f axis 2 (k * 65536 + 65536))]) (by simp [results, Try.results116, go_sem, d0, d1, d2, d3, d4, d5]) rfl ⟨rfl, by (repeat' (first | (with_reducible exact Below.refl _ _) | (with_reducible assumption) | (with_reducible refine Below.alloc ?_ ?_ _) | (with_reducible refine Below.drew ?_) | (with_reducible refine Below.setCell ?_ ?_ _) | (with_reducible refine after ?_ (below_regrown _ _ _)) | (refine after ?_ (by with_reducible assumption)) | go_size))⟩
theorem leave_none {F : Fence} {n : Nat} {P : Program} {fn : Func} {R : Ending → World → Prop} {tmps : Array Value} {w : World} {v : Value} (hv : (results fn tmps).run P w = .ok v w) (hR : R (.returned v) w) : bodyPostM F n P fn R .ret { tmps := tmps, defers := [] } w := ⟨v, hv, hR⟩
def axT (p : Int × Bool) : Value := .tuple #[.int .i64 p.1, .bool p.2]
set_option maxRecDepth 100000 in
set_option maxHeartbeats 8000000 in
theorem saxis_c (V : FuncId) (lv : Array Value) (val : Cl → Int) (a b c d e f axis dd M : Int) (hM : M ≤ 72000000000000) (hM0 : 0 ≤ M) (hB : Sm M a b c d e f) (w : World)
    (eV : ∀ args w, (callFunc V args).run Try.prog w = .ok (.enter V args) w) (hV : Tells Try.prog V lv val w) :
    Calls Try.prog 109 #[.func (.func V) #[] lv, .agg #[.int .i64 a, .int .i64 b, .int .i64 c, .int .i64 d, .int .i64 e, .int .i64 f], .int .i64 axis, .int .i64 dd] w fun r w' =>
      r = .returned (axT (axisV val a b c d e f axis dd)) ∧ Below w.heap.size w w' := by
  have HV := Lib.hid hV
  clear hV
  obtain ⟨W, hW⟩ : ∃ W, W = ((((w.alloc (.cells #[.func (.func V) #[] lv] 32)).alloc (.cells #[.int .i64 a, .int .i64 b, .int .i64 c, .int .i64 d, .int .i64 e, .int .i64 f] 48)).alloc (.cells #[.int .i64 axis] 3)).alloc (.cells #[.int .i64 0] 3)).alloc (.cells #[.bool false] 4) := ⟨_, rfl⟩
  have H : Below w.heap.size w W := by rw [hW]; go_grown
  have b0 : Blk W w.heap.size 32 #[.func (.func V) #[] lv] := by rw [hW]; exact ((((Blk.new' rfl).alloc _).alloc _).alloc _).alloc _
  have b1 : Blk W (w.heap.size + 1) 48 #[.int .i64 a, .int .i64 b, .int .i64 c, .int .i64 d, .int .i64 e, .int .i64 f] := by rw [hW]; exact (((Blk.new' (by simp)).alloc _).alloc _).alloc _
  have b2 : Blk W (w.heap.size + 1 + 1) 3 #[.int .i64 axis] := by rw [hW]; exact ((Blk.new' (by simp)).alloc _).alloc _
  have b3 : Blk W (w.heap.size + 1 + 1 + 1) 3 #[.int .i64 0] := by rw [hW]; exact (Blk.new' (by simp)).alloc _
  have b4 : Blk W (w.heap.size + 1 + 1 + 1 + 1) 4 #[.bool false] := by rw [hW]; exact Blk.new' (by simp)
  have hs : W.heap.size = w.heap.size + 5 := by rw [hW]; simp
  obtain ⟨N, hN⟩ : ∃ N, N = w.heap.size := ⟨_, rfl⟩
  rw [← hN] at b0 b1 b2 b3 b4 hs
  have hmn := @run_mn Try.prog
  have hmx := @run_mx Try.prog
  refine (callsIn_wide (n := 5)).1 (callsIn_of_wp_marks Try.func109 rfl trivial ?_ rfl)
  refine wpIn_wide.2 ?_
  simp only [Try.ntmps109, List.size_toArray, List.length_cons, List.length_nil, Nat.reduceAdd, Nat.reduceSub, Array.replicate_succ, Array.replicate_zero, List.push_toArray, List.append_toArray, List.nil_append, List.cons_append]
  go_upto_region 1 with (fail)
  rw [← hW, ← hN]
  have HN := Lib.hid hN
  have HS0 := Lib.hid hs
  clear hW hN hs
  have g0 := b2.cell 0
  by_cases hax : axis < 0 ∨ 3 ≤ axis
  · have hv : axisV val a b c d e f axis dd = (0, false) := by unfold axisV; rw [if_pos hax]
    have HVV := Lib.hid hv
    clear hv
    obtain ⟨r0, f0⟩ := b3.c1
    obtain ⟨s0, q0⟩ := b4.c1
    have e3 := (b3.set_ 0 (.int .i64 0)).far (p := ⟨N + 1 + 1 + 1 + 1, 0, none⟩) (by dsimp only; omega) (.bool false)
    have e4 := (b4.far (p := ⟨N + 1 + 1 + 1, 0, none⟩) (by dsimp only; omega) (.int .i64 0)).set_ 0 (.bool false)
    obtain ⟨d0, -⟩ := e3.c1
    obtain ⟨d1, -⟩ := e4.c1
    have HH := Lib.hid ((H.setCell (p := ⟨N + 1 + 1 + 1, 0, none⟩) (by rw [← HN.out]; dsimp only; omega) (.int .i64 0)).setCell (p := ⟨N + 1 + 1 + 1 + 1, 0, none⟩) (by rw [← HN.out]; dsimp only; omega) (.bool false))
    clear e3 e4 H b0 b1 b2 b3 b4
    rcases hax with hax | hax
    all_goals
      go_wp2_with fail
      refine leave_none (v := axT (0, false)) (by simp [results, Try.f109, go_sem, axT, d0, d1]) ⟨by rw [HVV.out], HH.out⟩
  · obtain ⟨x1, x2⟩ : 0 ≤ axis ∧ axis < 3 := by omega
    have y1 : ¬ axis < 0 := by omega
    have y2 : ¬ 3 ≤ axis := by omega
    have hv : axisV val a b c d e f axis dd = axV (lyB val a b c d e f axis) (axI a b c axis) (axI d e f axis) (farI dd) := by unfold axisV; rw [if_neg hax]
    have HVV := Lib.hid hv
    clear hv hax
    go_upto_region 4 with (fail)
    have hfe : mnI (mxI dd (-4194304)) 4194304 = farI dd := rfl
    rw [hfe]
    clear hfe
    obtain ⟨fb1, fb2⟩ := farI_bd dd
    generalize farI dd = df at HVV fb1 fb2 ⊢
    obtain ⟨a0, a1, a2, a3, a4, a5⟩ := b1.c6.1
    go_wp2_with (go_at_call 115; refine (layers_c _ _ _ _ _ _ _ _ _).mono ?_; rintro e_ w1 ⟨rfl, rfl⟩)
    generalize hV : World.alloc (World.alloc (World.alloc W _) _) _ = W1
    have c1 : Blk W1 W.heap.size 48 #[.int .i64 a, .int .i64 b, .int .i64 c, .int .i64 d, .int .i64 e, .int .i64 f] := Blk.eqw hV (((Blk.new' rfl).alloc _).alloc _)
    have c2 : Blk W1 (W.heap.size + 1) 3 #[.int .i64 axis] := Blk.eqw hV ((Blk.new' (by simp)).alloc _)
    have c3 : Blk W1 (W.heap.size + 1 + 1) 3 #[.int .i64 df] := Blk.eqw hV (Blk.new' (by simp))
    replace b0 := Blk.eqw hV (((b0.alloc _).alloc _).alloc _)
    replace b1 := Blk.eqw hV (((b1.alloc _).alloc _).alloc _)
    replace b2 := Blk.eqw hV (((b2.alloc _).alloc _).alloc _)
    replace b3 := Blk.eqw hV (((b3.alloc _).alloc _).alloc _)
    replace b4 := Blk.eqw hV (((b4.alloc _).alloc _).alloc _)
    have H1 : Below w.heap.size w W1 := by
      have := H.size
      rw [← hV]; exact ((H.alloc H.size _).alloc (by simp; omega) _).alloc (by simp; omega) _
    have hs1 : W1.heap.size = N + 8 := by rw [← hV]; simp [HS0.out]
    rw [HS0.out] at c1 c2 c3 ⊢
    clear hV a0 a1 a2 a3 a4 a5 g0 H
    have HS := Lib.hid hs1
    clear hs1 HS0
    have hit := lay_it (N + 5) (N + 5 + 1) (N + 5 + 1 + 1) a b c d e f axis df M (by omega) hM0 hB fb1 fb2 W1 c1 c2 c3
    have hbd := axI_sm (axis := axis) hB hM0
    generalize axI a b c axis = low at HVV hit hbd
    generalize axI d e f axis = top at HVV hit hbd
    have HBD := Lib.hid hbd
    have HFB := Lib.hid (And.intro fb1 fb2)
    have HSM := Lib.hid hB
    have HM := Lib.hid (And.intro hM hM0)
    have C1 := Lib.hid c1
    have hcap : ∀ x, (x = N + 5 ∨ x = N + 5 + 1 ∨ x = N + 5 + 1 + 1) → x < W1.heap.size := fun x hx => by rw [HS.out]; omega
    have HCAP := Lib.hid hcap
    clear hbd fb1 fb2 hB hM hM0 c1 c2 c3
    refine wp_range (m := 3) (gf := 118) (lb := #[.pointer (some ⟨N + 5, 0, none⟩), .pointer (some ⟨N + 5 + 1, 0, none⟩), .pointer (some ⟨N + 5 + 1 + 1, 0, none⟩)]) rfl (enters_of Try.func118 (by kernel_rfl) rfl) hit hcap (fun _ => rfl)
      (fun Z i A => Hid (∀ j x, j < i → (lays low top df)[j]? = some x → lyB val a b c d e f axis x.1 = false) ∧ Blk A N 32 #[.func (.func V) #[] lv] ∧ Blk A (N + 1) 48 #[.int .i64 a, .int .i64 b, .int .i64 c, .int .i64 d, .int .i64 e, .int .i64 f] ∧ Blk A (N + 1 + 1) 3 #[.int .i64 axis] ∧ Blk A (N + 1 + 1 + 1) 3 #[.int .i64 0] ∧ Blk A (N + 1 + 1 + 1 + 1) 4 #[.bool false] ∧ Below w.heap.size w A)
      (fun Z k i A => k = .ret ∧ Hid (∀ j x, j < i → (lays low top df)[j]? = some x → lyB val a b c d e f axis x.1 = false) ∧ ∃ x, Hid ((lays low top df)[i]? = some x ∧ lyB val a b c d e f axis x.1 = true) ∧ Blk A (N + 1 + 1 + 1) 3 #[.int .i64 x.2] ∧ Blk A (N + 1 + 1 + 1 + 1) 4 #[.bool true] ∧ Below w.heap.size w A)
      ?_ ?_ (fun Z => ⟨fun j x h => by omega, b0, b1, b2, b3, b4, H1⟩) ?round ?done ?stop
    · rintro Z i A B ⟨h1, h2, h3, h4, h5, h6, h7⟩ hk
      have lt : ∀ n, n < 8 → ¬ Priv W1.heap.size Z (N + n) := fun n hn h => by have := h.1; rw [HS.out] at this; omega
      exact ⟨h1, hk.blk (lt 0 (by omega)) h2, hk.blk (lt 1 (by omega)) h3, hk.blk (lt 2 (by omega)) h4, hk.blk (lt 3 (by omega)) h5, hk.blk (lt 4 (by omega)) h6, h7.trans (hk.below h7.size (fun b hb h => by have := h.1; rw [HS.out] at this; rw [← HN.out] at hb; omega))⟩
    · rintro Z k i A B ⟨h1, h2, x, h3, h4, h5, h6⟩ hk
      have lt : ∀ n, n < 8 → ¬ Priv W1.heap.size Z (N + n) := fun n hn h => by have := h.1; rw [HS.out] at this; omega
      exact ⟨h1, h2, x, h3, hk.blk (lt 3 (by omega)) h4, hk.blk (lt 4 (by omega)) h5, h6.trans (hk.below h6.size (fun b hb h => by have := h.1; rw [HS.out] at this; rw [← HN.out] at hb; omega))⟩
    case round =>
      rintro Z l i x A rfl hZ1 hZ2 hx ⟨h1, h2, h3, h4, h5, h6, h7⟩
      clear b0 b1 b2 b3 b4 H1 hit hcap
      gi_wp2
      refine ⟨Kept.refl _ _, fun A2 hA2 hz2 => ?_⟩
      have hs1 := HS.out
      have keep : ∀ n t cs, n < 8 → Blk A (N + n) t cs → Blk A2 (N + n) t cs := fun n t cs hn h => hA2.blk (show N + n ≠ W1.heap.size + 1 by omega) h
      replace h2 : Blk A2 N 32 _ := keep 0 _ _ (by omega) h2
      replace h3 := keep 1 _ _ (by omega) h3
      replace h4 := keep 2 _ _ (by omega) h4
      replace h5 := keep 3 _ _ (by omega) h5
      replace h6 := keep 4 _ _ (by omega) h6
      replace h7 : Below w.heap.size w A2 := h7.trans (hA2.below h7.size (fun b hb => by rw [← HN.out] at hb; omega))
      have hmem := mem_lays (k := x.1) (w := x.2) (low := low) (top := top) (d := df) (List.mem_of_getElem? hx)
      have hbd := HBD.out
      have hfb := HFB.out
      have hmm := HM.out
      have k1 : -2147483648 ≤ x.1 := by omega
      have k2 : x.1 + 1 ≤ 2147483648 := by omega
      have hsm := HSM.out.layer (axis := axis) (k := x.1) (by omega) (by omega) (by omega)
      have hbox := hsm.box (by omega)
      have HLY := Lib.hid fun W => layer_c a b c d e f axis x.1 k1 k2 W
      have hP := fun W (h : Below w.heap.size w W) => pmBlocked_c V lv val _ _ _ _ _ _ hbox W eV (HV.out.on h)
      have hP2 : ∀ dr os, Calls Try.prog 103 #[.func (.func V) #[] lv, .agg #[.int .i64 (wiI a axis 0 (x.1 * 65536)), .int .i64 (wiI b axis 1 (x.1 * 65536)), .int .i64 (wiI c axis 2 (x.1 * 65536)), .int .i64 (wiI d axis 0 (x.1 * 65536 + 65536)), .int .i64 (wiI e axis 1 (x.1 * 65536 + 65536)), .int .i64 (wiI f axis 2 (x.1 * 65536 + 65536))]] (Go.Sort.grow (redrawn A2 dr) os) fun r W' => r = .returned (.bool (lyB val a b c d e f axis x.1)) ∧ Below (Go.Sort.grow (redrawn A2 dr) os).heap.size (Go.Sort.grow (redrawn A2 dr) os) W' := fun dr os =>
        hP _ (h7.trans ((below_regrown A2 dr os).mono h7.size))
      have HX := Lib.hid hx
      have H1 := Lib.hid h1
      have HZ := Lib.hid (And.intro hZ1 hZ2)
      have HA2 := Lib.hid hz2
      clear hA2 hz2 keep hx h1 hZ1 hZ2 hs1 hmem hbd hfb hmm k1 k2 hsm hbox hP
      have g0 := fun d os => (h2.re d os).cell 0
      have g2 := fun d os => (h4.re d os).cell 0
      obtain ⟨x0, x1, x2, x3, x4, x5⟩ := h3.re6
      cases hp : lyB val a b c d e f axis x.1
      · rw [hp] at hP2
        have HP := Lib.hid hp
        replace hP2 := Lib.hid hP2
        clear hp
        gi_wp2
        refine in_sched [0, 0, 0, 0, 0, 0] (fun _ _ _ => True) (by kernel_rfl) (by kernel_rfl) (fun _ _ _ _ h _ => h) (by kernel_rfl) (fun ⟨_, _, h⟩ => h) ?_
        repeat (first | (refine wpQs_s ?_) | (refine wpQs_q (fun K hK => ?_); go_simp; first | (refine hK _ ?_; clear hK K) | (apply Exists.intro; refine ⟨fun _ => ?_, hK _ ?_⟩; (first | exact HLY.out _ | exact hP2.out _ _); clear hK K)) | (refine wpQs_f (fun K hK => ?_); go_simp; refine hK _ ?_; clear hK K))
        refine wpQs_nil ?_
        repeat (first | (refine wpLs_skip ?_) | (refine wpLs_one ?lsA (fun v_ => ?_); case lsA => (intro w_ hw_ hp_; (fail))))
        refine wpLs_nilB ?_
        simp only [tails]
        intro w3 k7 _
        clear g0 g2 x0 x1 x2 x3 x4 x5
        simp only [wpList, Exit.then]
        go_at_K
        gi_wp2
        exact ⟨Kept.of_below k7, fun j y hj hy => (by
          rcases Nat.lt_or_eq_of_le (Nat.le_of_lt_succ hj) with e | e
          · exact H1.out j y e hy
          · subst e; rw [HX.out] at hy; obtain rfl := Option.some.inj hy; exact HP.out), h2.on k7, h3.on k7, h4.on k7, h5.on k7, h6.on k7, after h7 k7⟩
      · rw [hp] at hP2
        have HP := Lib.hid hp
        replace hP2 := Lib.hid hP2
        clear hp
        gi_wp2
        refine in_sched [0, 0, 0, 0, 0, 0] (fun _ _ _ => True) (by kernel_rfl) (by kernel_rfl) (fun _ _ _ _ h _ => h) (by kernel_rfl) (fun ⟨_, _, h⟩ => h) ?_
        repeat (first | (refine wpQs_s ?_) | (refine wpQs_q (fun K hK => ?_); go_simp; first | (refine hK _ ?_; clear hK K) | (apply Exists.intro; refine ⟨fun _ => ?_, hK _ ?_⟩; (first | exact HLY.out _ | exact hP2.out _ _); clear hK K)) | (refine wpQs_f (fun K hK => ?_); go_simp; refine hK _ ?_; clear hK K))
        refine wpQs_nil ?_
        repeat (first | (refine wpLs_skip ?_) | (refine wpLs_one ?lsA (fun v_ => ?_); case lsA => (intro w_ hw_ hp_; (fail))))
        refine wpLs_nilB ?_
        simp only [tails]
        intro w3 k7 _
        clear g0 g2 x0 x1 x2 x3 x4 x5
        replace h5 := h5.on k7
        replace h6 := h6.on k7
        obtain ⟨r0, f0⟩ := h5.c1
        obtain ⟨s0, q0⟩ := h6.c1
        simp only [wpList, Exit.then]
        go_at_K
        gi_wp2
        have hs1 := HS.out
        have n3 : ¬ Keeps W1.heap.size Z (fun x => x = N + 5 ∨ x = N + 5 + 1 ∨ x = N + 5 + 1 + 1) (N + 1 + 1 + 1) := fun h => by rcases h with h | h | h | h; exact absurd h.1 (by omega); all_goals omega
        have n4 : ¬ Keeps W1.heap.size Z (fun x => x = N + 5 ∨ x = N + 5 + 1 ∨ x = N + 5 + 1 + 1) (N + 1 + 1 + 1 + 1) := fun h => by rcases h with h | h | h | h; exact absurd h.1 (by omega); all_goals omega
        refine ⟨((Kept.of_below k7).setCell (p := ⟨N + 1 + 1 + 1, 0, none⟩) n3 _).setCell (p := ⟨N + 1 + 1 + 1 + 1, 0, none⟩) n4 _, rfl, H1.out, x, ⟨HX.out, HP.out⟩,
          (h5.set_ 0 _).far (p := ⟨N + 1 + 1 + 1 + 1, 0, none⟩) (by dsimp only; omega) _, (h6.far (p := ⟨N + 1 + 1 + 1, 0, none⟩) (by dsimp only; omega) _).set_ 0 _, ?_⟩
        replace h7 := after h7 k7
        rw [← HN.out] at h7 ⊢
        exact (h7.setCell (p := ⟨N + 1 + 1 + 1, 0, none⟩) (by dsimp only; omega) _).setCell (p := ⟨N + 1 + 1 + 1 + 1, 0, none⟩) (by dsimp only; omega) _
    case done =>
      rintro Z A ⟨h1, -, -, -, h5, h6, h7⟩ hK
      clear b0 b1 b2 b3 b4 H1 hit hcap
      obtain ⟨r0, f0⟩ := h5.c1
      obtain ⟨s0, q0⟩ := h6.c1
      have HK := Lib.hid hK
      clear hK
      go_wp2_with fail
      have hs1 := HS.out
      have hf : axV (lyB val a b c d e f axis) low top df = (df, false) := by unfold axV; rw [find_no h1.out]
      have e3 := ((h5.set_ 0 (.int .i64 df)).far (p := ⟨N + 1 + 1 + 1 + 1, 0, none⟩) (by dsimp only; omega) (.bool false)).putObj (D := W1.heap.size) (by omega) (.deferred none)
      have e4 := ((h6.far (p := ⟨N + 1 + 1 + 1, 0, none⟩) (by dsimp only; omega) (.int .i64 df)).set_ 0 (.bool false)).putObj (D := W1.heap.size) (by omega) (.deferred none)
      obtain ⟨d0, -⟩ := e3.c1
      obtain ⟨d1, -⟩ := e4.c1
      have hK' := def_far (p := ⟨N + 1 + 1 + 1 + 1, 0, none⟩) (u := .bool false) (def_far (p := ⟨N + 1 + 1 + 1, 0, none⟩) (u := .int .i64 df) HK.out (by dsimp only; omega)) (by dsimp only; omega)
      refine leave_mark hK' (v := axT (df, false)) (by simp [results, Try.f109, go_sem, axT, d0, d1]) ⟨by rw [HVV.out, hf], ?_⟩
      rw [← HN.out] at h7 ⊢
      exact putObj_below ((h7.setCell (p := ⟨N + 1 + 1 + 1, 0, none⟩) (by dsimp only; omega) _).setCell (p := ⟨N + 1 + 1 + 1 + 1, 0, none⟩) (by dsimp only; omega) _) (by omega) _
    case stop =>
      rintro Z k i A hi ⟨rfl, h1, x, hx, h5, h6, h7⟩ hK
      clear b0 b1 b2 b3 b4 H1 hit hcap
      obtain ⟨r0, f0⟩ := h5.c1
      obtain ⟨s0, q0⟩ := h6.c1
      have HK := Lib.hid hK
      clear hK
      go_wp2_with fail
      have hs1 := HS.out
      have hf : axV (lyB val a b c d e f axis) low top df = (x.2, true) := by unfold axV; rw [find_at hx.out.1 hx.out.2 h1.out]
      obtain ⟨d0, -⟩ := (h5.putObj (D := W1.heap.size) (by omega) (.deferred none)).c1
      obtain ⟨d1, -⟩ := (h6.putObj (D := W1.heap.size) (by omega) (.deferred none)).c1
      refine leave_mark HK.out (v := axT (x.2, true)) (by simp [results, Try.f109, go_sem, axT, d0, d1]) ⟨by rw [HVV.out, hf], ?_⟩
      rw [← HN.out] at h7 ⊢
      exact putObj_below h7 (by omega) _
end Go.Proofs.Ytnokibdecnddlaa

/- The document's cells of a box. -/
namespace Go.Proofs.Ytnokibdecnddlaa
open Go.RowKit
attribute [local go_sem] Oper.semAt_some

theorem infC : (Try.prog.info? 74).map (fun i => (i.zero, i.size, i.bytes)) = some (some (.agg #[.int .i64 0, .int .i64 0, .int .i64 0]), 3, 24) := by kernel_rfl
theorem Owns.mono {w : World} {base base' : Nat} {e : TypeId} {size : Nat} {α : Type} {enc : α → List Value} {v : Value} {xs : List α} (h : Owns w base e size enc v xs) (hb : base' ≤ base) : Owns w base' e size enc v xs := by
  refine ⟨h.1, ?_⟩
  rcases h.2 with h0 | ⟨g, cap, cur, hv, hbg, r⟩
  · exact .inl h0
  · exact .inr ⟨g, cap, cur, hv, by omega, r⟩
theorem take_push {α : Type} {xs t : List α} {a : α} {i : Nat} (h : xs.drop i = a :: t) : xs.take (i + 1) = xs.take i ++ [a] := by
  obtain ⟨h1, -, -⟩ := drop_cons h
  rw [List.take_add_one, h1]; rfl
theorem take_len {α : Type} {xs : List α} {i : Nat} (h : i ≤ xs.length) : (xs.take i).length = i := by rw [List.length_take]; omega
theorem near24 {i n : Nat} (h : i < n) (hn : n ≤ 1000000) : (i + 1) * 24 ≤ 140737488355328 := by omega
set_option maxRecDepth 100000 in
set_option maxHeartbeats 8000000 in
theorem rcells_c (a b c d e f : Int) (hB : BoxOk a b c d e f) (hL : (cellsI a b c d e f).length ≤ 1000000) (w : World) :
    Calls Try.prog 84 #[.agg #[.int .i64 a, .int .i64 b, .int .i64 c, .int .i64 d, .int .i64 e, .int .i64 f]] w fun r w' => ∃ v, r = .returned v ∧ Owns w' w.heap.size 74 3 enc3 v (cellsI a b c d e f) ∧ Below w.heap.size w w' := by
  have HB := Lib.hid hB
  have HL := Lib.hid hL
  clear hB hL
  obtain ⟨N, hN⟩ : ∃ N, N = w.heap.size := ⟨_, rfl⟩
  have HN := Lib.hid hN
  clear hN
  go_enter Try.func84, Try.ntmps84
  go_upto_region 3 with (go_at_call 108; refine (rspan_c a b c d e f _).mono ?_; rintro e_ w1 ⟨rfl, h1⟩)
  have hsz := h1.size
  generalize hV : World.alloc (World.alloc w1 _) _ = W2
  have X : Blk W2 w1.heap.size _ _ := Blk.eqw hV ((Blk.new' rfl).alloc _)
  have Y : Blk W2 (w1.heap.size + 1) _ _ := Blk.eqw hV (Blk.new' (by simp))
  have hz : W2.heap.size = w1.heap.size + 2 := by rw [← hV]; simp
  have hk : Below w.heap.size w W2 := by
    have h2 := after ((Below.refl _ w).alloc (Nat.le_refl _) _) h1
    simp at hsz
    rw [← hV]; exact (h2.alloc (by omega) _).alloc (by simp; omega) _
  clear hV h1
  simp at hsz
  have HS := Lib.hid hsz
  clear hsz
  generalize w1.heap.size = g at X Y HS hz ⊢
  cases his : isI a b c d e f
  · have hx : cellsI a b c d e f = [] := by unfold cellsI; rw [his]; rfl
    have HX := Lib.hid hx
    clear hx X Y
    go_wp2_with fail
    go_returns
    exact ⟨_, rfl, by rw [HX.out]; exact Owns.nil, hk⟩
  · rw [his] at X Y
    have hx : cellsI a b c d e f = rest1 (lowI a) (topI a d) (topI b e) (lowI c) (topI c f) (lowI b) := by unfold cellsI; rw [his, if_pos rfl]; rfl
    have HX := Lib.hid hx
    have HIS := Lib.hid his
    have HZ := Lib.hid hz
    clear hx his hz
    simp only [zI, if_true] at X Y
    obtain ⟨x0, x1, x2, -, -, -⟩ := X.c3
    obtain ⟨y0, y1, y2, -, -, -⟩ := Y.c3
    have lb := lowI_bd b
    have lc := lowI_bd c
    have la := lowI_bd a
    have tb := topI_bd (n := b) (m := e)
    have tc := topI_bd (n := c) (m := f)
    have ta := topI_bd (n := a) (m := d)
    have q1 := topI_low HB.out.b1 HB.out.e2 HB.out.be
    have q2 := topI_low HB.out.c1 HB.out.f2 HB.out.cf
    have q3 := topI_low HB.out.a1 HB.out.d2 HB.out.ad
    go_upto_region 6 with (fail)
    go_loopw [3, 7] (fun sl v wr => ∃ (y : Int) (i : Nat), v = .int .i64 y ∧ lowI b ≤ y ∧ y ≤ topI b e + 1 ∧ Hid ((cellsI a b c d e f).drop i = rest1 (lowI a) (topI a d) (topI b e) (lowI c) (topI c f) y) ∧ Hid (i ≤ (cellsI a b c d e f).length) ∧
      Blk wr g 74 #[.int .i64 (lowI a), .int .i64 (lowI b), .int .i64 (lowI c)] ∧ Blk wr (g + 1) 74 #[.int .i64 (topI a d), .int .i64 (topI b e), .int .i64 (topI c f)] ∧ Hid (g + 2 ≤ wr.heap.size) ∧ Hid (Owns wr (g + 2) 74 3 enc3 sl ((cellsI a b c d e f).take i)) ∧ Hid (Below w.heap.size w wr)) (fun _ v _ => (topI b e + 1 - intOf v).toNat)
    case atStart => exact ⟨_, 0, rfl, Int.le_refl _, by omega, by rw [List.drop_zero]; exact HX.out, Nat.zero_le _, X, Y, Nat.le_of_eq HZ.out.symm, by rw [List.take_zero]; exact Owns.nil, hk⟩
    case round =>
      clear X Y x0 x1 x2 y0 y1 y2 hk
      obtain ⟨y, i, rfl, hy1, hy2, hd, hil, X, Y, hsz2, hj, hk⟩ := hrel
      obtain ⟨x0, x1, x2, -, -, -⟩ := X.c3
      obtain ⟨y0, y1, y2, -, -, -⟩ := Y.c3
      by_cases hy : y ≤ topI b e
      · have hd1 := Lib.hid (hd.out.trans (rest1_cons hy))
        go_upto_region 9 with (fail)
        obtain ⟨wo, rfl⟩ : ∃ wo : World, wo = wr := ⟨_, rfl⟩
        go_loopw [3, 8] (fun sl v wr => ∃ (z : Int) (i : Nat), v = .int .i64 z ∧ lowI c ≤ z ∧ z ≤ topI c f + 1 ∧ Hid ((cellsI a b c d e f).drop i = rest2 (lowI a) (topI a d) (topI b e) (lowI c) (topI c f) y z) ∧ Hid (i ≤ (cellsI a b c d e f).length) ∧
          Blk wr g 74 #[.int .i64 (lowI a), .int .i64 (lowI b), .int .i64 (lowI c)] ∧ Blk wr (g + 1) 74 #[.int .i64 (topI a d), .int .i64 (topI b e), .int .i64 (topI c f)] ∧ Hid (g + 2 ≤ wr.heap.size) ∧ Hid (Owns wr (g + 2) 74 3 enc3 sl ((cellsI a b c d e f).take i)) ∧ Hid (Below w.heap.size w wr)) (fun _ v _ => (topI c f + 1 - intOf v).toNat)
        case atStart => exact ⟨_, i, rfl, Int.le_refl _, by omega, hd1.out, hil.out, X, Y, hsz2.out, hj, hk⟩
        case round =>
          clear X Y x0 x1 x2 y0 y1 y2 hd hil hsz2 hj hd1 hk
          obtain ⟨z, i, rfl, hz1, hz2, hd, hil, X, Y, hsz2, hj, hk⟩ := hrel
          obtain ⟨x0, x1, x2, -, -, -⟩ := X.c3
          obtain ⟨y0, y1, y2, -, -, -⟩ := Y.c3
          by_cases hzt : z ≤ topI c f
          · have hd1 := Lib.hid (hd.out.trans (rest2_cons hzt))
            go_upto_region 12 with (fail)
            obtain ⟨wo2, rfl⟩ : ∃ wo : World, wo = wr := ⟨_, rfl⟩
            go_loopw [3, 9] (fun sl v wr => ∃ (x : Int) (i : Nat), v = .int .i64 x ∧ lowI a ≤ x ∧ x ≤ topI a d + 1 ∧ Hid ((cellsI a b c d e f).drop i = rest3 (lowI a) (topI a d) (topI b e) (lowI c) (topI c f) y z x) ∧ Hid (i ≤ (cellsI a b c d e f).length) ∧
              Blk wr g 74 #[.int .i64 (lowI a), .int .i64 (lowI b), .int .i64 (lowI c)] ∧ Blk wr (g + 1) 74 #[.int .i64 (topI a d), .int .i64 (topI b e), .int .i64 (topI c f)] ∧ Hid (g + 2 ≤ wr.heap.size) ∧ Hid (Owns wr (g + 2) 74 3 enc3 sl ((cellsI a b c d e f).take i)) ∧ Hid (Below w.heap.size w wr)) (fun _ v _ => (topI a d + 1 - intOf v).toNat)
            case atStart => exact ⟨_, i, rfl, Int.le_refl _, by omega, hd1.out, hil.out, X, Y, hsz2.out, hj, hk⟩
            case round =>
              clear X Y x0 x1 x2 y0 y1 y2 hd hil hsz2 hj hd1 hk
              obtain ⟨x, i, rfl, hx1, hx2, hd, hil, X, Y, hsz2, hj, hk⟩ := hrel
              obtain ⟨x0, x1, x2, -, -, -⟩ := X.c3
              obtain ⟨y0, y1, y2, -, -, -⟩ := Y.c3
              by_cases hxt : x ≤ topI a d
              · have hdc := hd.out.trans (rest3_cons hxt)
                obtain ⟨c1, c2, c3⟩ := drop_cons hdc
                have hA : Below wr.heap.size wr (wr.alloc (.cells #[.int .i64 x, .int .i64 y, .int .i64 z] 74)) := (Below.refl _ _).alloc (Nat.le_refl _) _
                have hNew : Blk (wr.alloc (.cells #[.int .i64 x, .int .i64 y, .int .i64 z] 74)) wr.heap.size 74 #[.int .i64 x, .int .i64 y, .int .i64 z] := Blk.new' rfl
                obtain ⟨v', w', hrun, V2, -, hb2, -⟩ := run_push (P := Try.prog) (ts := 101) (ty := 101) (x := (x, y, z)) (b := wr.heap.size) Try.underlying101 infC rfl (by decide) (by decide) rfl (by simp [Value.oneCell']) (hj.out.on hA)
                  (fun j u hu => by rw [hNew.cell j]; simpa using hu) (by rw [take_len hil.out]; exact near24 c3 HL.out) (Nat.le_trans hsz2.out hA.size)
                rw [← take_push hdc] at V2
                have hk2 := Lib.hid ((after hk.out hA).trans (hb2.mono (by have := HS.out; omega)))
                replace X := (X.on hA).below hb2 (by omega)
                replace Y := (Y.on hA).below hb2 (by omega)
                have hsz3 := Lib.hid (Nat.le_trans (Nat.le_trans hsz2.out hA.size) hb2.size)
                have C2 := Lib.hid c2
                have C3 := Lib.hid c3
                have HV := Lib.hid V2
                clear hNew c1 c2 c3 hA hb2 hdc V2 hj hk
                go_wp2_with (at_builtin; refine Lib.wpList_append_run _ rfl _ _ _ _ rfl _ _ rfl rfl _ _ hrun ?_)
                go_roundw
                case rel => exact ⟨x + 1, i + 1, rfl, by omega, by omega, C2.out, C3.out, X, Y, hsz3.out, HV.out, hk2⟩
                case measure => simp [intOf]; omega
              · have hd1 := Lib.hid (hd.out.trans (rest3_nil (by omega)))
                go_wp2_with fail
                go_roundw
                case rel => exact ⟨z + 1, i, rfl, by omega, by omega, hd1.out, hil.out, X, Y, hsz2.out, hj, hk⟩
                case measure => simp [intOf]; omega
          · have hd1 := Lib.hid (hd.out.trans (rest2_nil (by omega)))
            go_wp2_with fail
            go_roundw
            case rel => exact ⟨y + 1, i, rfl, by omega, by omega, hd1.out, hil.out, X, Y, hsz2.out, hj, hk⟩
            case measure => simp [intOf]; omega
      · have hi := drop_nil (hd.out.trans (rest1_nil (by omega))) hil.out
        have HI := Lib.hid hi
        clear hi
        go_wp2_with fail
        go_returns
        exact ⟨_, rfl, by have h := hj.out; rw [HI.out, List.take_length] at h; exact h.mono (by have := HS.out; omega), hk.out⟩
end Go.Proofs.Ytnokibdecnddlaa

/- A small world, made of any. -/
namespace Go.Proofs.Ytnokibdecnddlaa
open Go.RowKit

def goodI (n : Int) : Int := if 5 < arI n 14 then arI n 14 + 2 else arI n 14
theorem goodI_lo (n : Int) : 0 ≤ goodI n := by have := arI_lo n (m := 14) (by decide); unfold goodI; split <;> omega
theorem goodI_hi (n : Int) : goodI n ≤ 15 := by have := arI_hi n (m := 14) (by decide); unfold goodI; split <;> omega
theorem rgood4_c (n : Int) (h1 : -9223372036854775808 ≤ n) (h2 : n ≤ 9223372036854775807) (w : World) : Calls Try.prog 37 #[.int .i64 n] w fun r w' => r = .returned (.int .i64 (goodI n)) ∧ w = w' := by
  have a1 := arI_lo n (m := 14) (by decide)
  have a2 := arI_hi n (m := 14) (by decide)
  by_cases h : 5 < arI n 14
  all_goals
    go_enter Try.func37, Try.ntmps37
    go_wp2_with fail
    refine (around_c n 14 h1 h2 (by decide) _).mono ?_; rintro e w1 ⟨rfl, rfl⟩
    go_wp2_with fail
    go_returns
    exact ⟨ret_i (by unfold goodI; first | rw [if_pos h] | rw [if_neg (by omega)]), rfl⟩
theorem infI : (Try.prog.info? 3).map (fun i => (i.zero, i.size, i.bytes)) = some (some (.int .i64 0), 1, 8) := by kernel_rfl
/-- The blocks of a small world, made of any. -/
def goodL (n : Nat) (F : Nat → Int) : List Int := (List.range (min n 216)).map fun i => goodI (F i)
theorem goodL_take {n k : Nat} {F : Nat → Int} (hk : k < n) (h2 : k < 216) : (goodL n F).take (k + 1) = (goodL n F).take k ++ [goodI (F k)] := by
  rw [List.take_succ_eq_append_getElem (by simp [goodL]; omega)]
  simp [goodL]
theorem goodL_len {n k : Nat} {F : Nat → Int} (hk : k ≤ min n 216) : ((goodL n F).take k).length = k := by simp [goodL]; omega
theorem goodL_all {n k : Nat} (hk : k ≤ min n 216) (h : ¬ (k < n ∧ k < 216)) : k = min n 216 := by omega
theorem goodL_full {n : Nat} {F : Nat → Int} : (goodL n F).take (min n 216) = goodL n F := List.take_of_length_le (by simp [goodL])
theorem lt_3 (N : Nat) : N < N + 3 ∧ N + 1 < N + 3 ∧ N + 1 + 1 < N + 3 := by omega
theorem le_3 (N : Nat) : N ≤ N + 1 ∧ N ≤ N + 1 + 1 := by omega
theorem ne_1 (N : Nat) : N ≠ N + 1 := by omega
theorem ne_2 (N : Nat) : N ≠ N + 1 + 1 := by omega
set_option maxRecDepth 100000 in
set_option maxHeartbeats 4000000 in
theorem rgood13_at (q : Option Addr) (n c : Nat) (F : Nat → Int) (els : Int) (hm : c ≤ maxLen) (w : World) (hq : Iq w q n F) (hF : ∀ i, i < n → In64 (F i)) (he : In64 els) :
    Calls Try.prog 11 #[.agg #[.slice q n c, .int .i64 els]] w fun r w' => ∃ q' c', r = .returned (.agg #[.slice q' (min n 216) c', .int .i64 (arI els 3 - 1)]) ∧ Rd w' q' 1 encI (goodL n F) ∧ min n 216 ≤ c' ∧ c' ≤ maxLen ∧ Below w.heap.size w w' ∧ ∀ a, q' = some a → w.heap.size ≤ a.block := by
  obtain ⟨W, hW⟩ : ∃ W, W = ((w.alloc (.cells #[.slice q n c, .int .i64 els] 24)).alloc (.cells #[.slice none 0 0, .int .i64 0] 24)).alloc (.cells #[.slice none 0 0, .int .i64 0] 24) := ⟨_, rfl⟩
  have H : Below w.heap.size w W := by rw [hW]; go_grown
  have A : Blk W w.heap.size 24 #[.slice q n c, .int .i64 els] := by rw [hW]; exact ((Blk.new' rfl).alloc _).alloc _
  have B : Blk W (w.heap.size + 1) 24 #[.slice none 0 0, .int .i64 0] := by rw [hW]; exact (Blk.new' (by simp)).alloc _
  have O : Blk W (w.heap.size + 1 + 1) 24 #[.slice none 0 0, .int .i64 0] := by rw [hW]; exact Blk.new' (by simp)
  have hs : W.heap.size = w.heap.size + 3 := by rw [hW]; simp
  obtain ⟨N, hN⟩ : ∃ N, N = w.heap.size := ⟨_, rfl⟩
  rw [← hN] at A B O hs
  go_enter Try.func11, Try.ntmps11
  go_upto_region 2 with (fail)
  rw [← hW, ← hN]
  go_upto_region 3 with (fail)
  clear hW
  have HN := Lib.hid hN
  have HM := Lib.hid hm
  clear hN hm
  have hq' := hq.on H
  go_loopw [4] (fun i wr => ∃ (k : Nat) (v : Value), k ≤ min n 216 ∧ i = .int .i64 k ∧ Blk wr N 24 #[.slice q n c, .int .i64 els] ∧ Blk wr (N + 1) 24 #[.slice none 0 0, .int .i64 0] ∧ Blk wr (N + 1 + 1) 24 #[v, .int .i64 0] ∧ Owns wr (N + 3) 3 1 encI v ((goodL n F).take k) ∧ N + 3 ≤ wr.heap.size ∧ Below w.heap.size w wr) (fun i _ => 216 - (intOf i).toNat)
  case atStart => exact ⟨0, _, by omega, rfl, A, B, O, by rw [List.take_zero]; exact Owns.nil, by omega, H⟩
  case round =>
    clear A B O H hs hq'
    obtain ⟨k, v, hk, rfl, A, B, O, V, hs, H⟩ := hrel
    have hqw := hq.on H
    by_cases hlt : k < n
    · by_cases h2 : k < 216
      · obtain ⟨g, o, rfl, hI⟩ := hqw (by omega)
        have hc := hI k hlt
        have hFk := hF k hlt
        have a0 := A.cell 0
        have o0 := O.cell 0
        have hi0 : (0 : Int) ≤ k := by omega
        have hi1 : (k : Int) < n := by omega
        go_upto_region 5 with (fail)
        have a0 := fun d os => (A.re d os).cell 0
        have o0 := fun d os => (O.re d os).cell 0
        have hc' := fun d os => cell_regrown hc d os
        refine wp_sched [0, 0, 0, 0, 0, 0, 0, 0, 2, 3, 3, 3] (fun _ v w => ∃ b, v = .slice (some ⟨b, 0, none⟩) 1 1 ∧ Blk w b 3 #[.int .i64 (goodI (F k))] ∧ N + 3 ≤ b) (by kernel_rfl) (by kernel_rfl) (fun _ _ _ _ ⟨b, h1, h2, h3⟩ h => ⟨b, h1, h2.on h, h3⟩) ?_
        repeat (first | (refine wpQs_s ?_) | (refine wpQs_q (fun K hK => ?_); go_simp; first | (refine hK _ ?_; clear hK K) | (apply Exists.intro; refine ⟨fun _ => ?_, hK _ ?_⟩; (exact (rgood4_c _ hFk.1 hFk.2 _).mono fun _ _ ⟨he, hw⟩ => ⟨he, by rw [← hw]; exact Below.refl _ _⟩); clear hK K)) | (refine wpQs_f (fun K hK => ?_); go_simp; refine hK _ ?_; clear hK K))
        refine wpQs_nil ?_
        repeat (first | (refine wpLs_skip ?_) | (refine wpLs_one ?lsA (fun v_ => ?_); case lsA => (intro w_ hw_ hp_; (go_simp; exact ⟨Kept.of_below ((Below.refl _ _).alloc (Nat.le_refl _) _), Blk.new' rfl, Nat.le_trans hs (msd_kept hw_).size⟩))))
        refine wpLs_nilB ?_
        simp only [tails]
        rintro W1 h1 ⟨-, b, rfl, hB, hb⟩
        have b0 := hB.cell 0
        replace A := A.on h1
        replace O := O.on h1
        replace B := B.on h1
        replace V := V.on h1
        have hs1 : N + 3 ≤ W1.heap.size := Nat.le_trans hs h1.size
        obtain ⟨v', w', hrun, V2, -, hb2, g2, c2, rfl⟩ := run_push (P := Try.prog) (ts := 22) (ty := 22) (x := goodI (F k)) (b := b) Try.underlying22 infI rfl (by decide) (by decide) rfl (by simp [Value.oneCell']) V
          (fun j u hu => by rw [hB.cell j]; simpa using hu) (by simp; omega) hs1
        rw [goodL_len hk] at hrun V2
        rw [← goodL_take hlt h2] at V2
        replace A := A.below hb2 (by omega)
        replace O := O.below hb2 (by omega)
        replace B := B.below hb2 (by omega)
        have f0 := O.frz 0
        have o0 := O.cell 0
        have hs2 : N + 3 ≤ w'.heap.size := Nat.le_trans hs1 hb2.size
        clear hB b0 V
        go_wp2_with (at_builtin; refine Lib.wpList_append_run _ rfl _ _ _ _ rfl _ _ rfl rfl _ _ hrun ?_)
        have hkw := next64 (Nat.le_refl 216) (by decide) h2
        go_roundw
        case rel => exact ⟨k + 1, _, Nat.lt_min.2 ⟨hlt, h2⟩, rfl, A.far (ne_2 N) _, B.far (ne_1 (N + 1)) _, O.set_ 0 _, V2.far (Nat.lt_succ_self _) _, by simp [World.setCell]; exact hs2, ((after H h1).trans (hb2.mono (by rw [← HN.out]; exact Nat.le_add_right _ _))).setCell (by rw [← HN.out]; exact Nat.le_add_right _ 2) _⟩
        case measure => exact next_less' h2
      · have hk2 := goodL_all hk (by omega)
        have VL := goodL_len (F := F) hk
        rw [hk2] at VL
        rw [hk2, goodL_full] at V
        rw [goodL_full] at VL
        obtain ⟨q', c', rfl, k1, k2, k3, k4, -⟩ := V.form lenI
        rw [VL] at O k1
        have K2 := Lib.hid k2
        clear k2
        have a0 := A.cell 0
        have a1 := A.cell 1
        have o0 := O.cell 0
        have o1 := O.cell 1
        have of1 := O.frz 1
        have b0 := B.cell 0
        have b1 := B.cell 1
        have bf0 := B.frz 0
        have bf1 := B.frz 1
        have r1 := arI_lo els (m := 3) (by decide)
        have r2 := arI_hi els (m := 3) (by decide)
        clear hqw hq
        go_upto_region 6 with (fail)
        go_wp2_with fail
        refine (around_c els 3 he.1 he.2 (by decide) _).mono ?_; rintro e w1 ⟨rfl, rfl⟩
        go_wp2_with fail
        have R := ((B.far (p := ⟨N + 1 + 1, 1, none⟩) (ne_1 (N + 1)) (.int .i64 (arI els 3 - 1))).set_ 0 (.slice q' (min n 216) c')).set_ 1 (.int .i64 (arI els 3 - 1))
        have d0 := R.cell 0
        have d1 := R.cell 1
        refine bodyPost_ret (v := .agg #[.slice q' (min n 216) c', .int .i64 (arI els 3 - 1)]) (by simp [results, Try.results11, go_sem] at d0 d1 ⊢; simp [d0, d1]) rfl ⟨q', c', rfl, ?_, k1, K2.out, ?_, fun a ha => Nat.le_trans (by rw [← HN.out]; omega) (k4 a ha).1⟩
        · exact ((k3.far (fun a ha => (k4 a ha).1) (p := ⟨N + 1 + 1, 1, none⟩) (lt_3 N).2.2 _).far (fun a ha => (k4 a ha).1) (p := ⟨N + 1, 0, none⟩) (lt_3 N).2.1 _).far (fun a ha => (k4 a ha).1) (p := ⟨N + 1, 1, none⟩) (lt_3 N).2.1 _
        · rw [← HN.out]; rw [← HN.out] at H; exact ((H.setCell (p := ⟨N + 1 + 1, 1, none⟩) (le_3 N).2 _).setCell (p := ⟨N + 1, 0, none⟩) (le_3 N).1 _).setCell (p := ⟨N + 1, 1, none⟩) (le_3 N).1 _
    · have h2 : ¬ (k < n ∧ k < 216) := fun h => hlt h.1
      have hk2 := goodL_all hk (by omega)
      have VL := goodL_len (F := F) hk
      rw [hk2] at VL
      rw [hk2, goodL_full] at V
      rw [goodL_full] at VL
      obtain ⟨q', c', rfl, k1, k2, k3, k4, -⟩ := V.form lenI
      rw [VL] at O k1
      have K2 := Lib.hid k2
      clear k2
      have a0 := A.cell 0
      have a1 := A.cell 1
      have o0 := O.cell 0
      have o1 := O.cell 1
      have of1 := O.frz 1
      have b0 := B.cell 0
      have b1 := B.cell 1
      have bf0 := B.frz 0
      have bf1 := B.frz 1
      have r1 := arI_lo els (m := 3) (by decide)
      have r2 := arI_hi els (m := 3) (by decide)
      clear hqw hq
      go_upto_region 6 with (fail)
      go_wp2_with fail
      refine (around_c els 3 he.1 he.2 (by decide) _).mono ?_; rintro e w1 ⟨rfl, rfl⟩
      go_wp2_with fail
      have R := ((B.far (p := ⟨N + 1 + 1, 1, none⟩) (ne_1 (N + 1)) (.int .i64 (arI els 3 - 1))).set_ 0 (.slice q' (min n 216) c')).set_ 1 (.int .i64 (arI els 3 - 1))
      have d0 := R.cell 0
      have d1 := R.cell 1
      refine bodyPost_ret (v := .agg #[.slice q' (min n 216) c', .int .i64 (arI els 3 - 1)]) (by simp [results, Try.results11, go_sem] at d0 d1 ⊢; simp [d0, d1]) rfl ⟨q', c', rfl, ?_, k1, K2.out, ?_, fun a ha => Nat.le_trans (by rw [← HN.out]; omega) (k4 a ha).1⟩
      · exact ((k3.far (fun a ha => (k4 a ha).1) (p := ⟨N + 1 + 1, 1, none⟩) (lt_3 N).2.2 _).far (fun a ha => (k4 a ha).1) (p := ⟨N + 1, 0, none⟩) (lt_3 N).2.1 _).far (fun a ha => (k4 a ha).1) (p := ⟨N + 1, 1, none⟩) (lt_3 N).2.1 _
      · rw [← HN.out]; rw [← HN.out] at H; exact ((H.setCell (p := ⟨N + 1 + 1, 1, none⟩) (le_3 N).2 _).setCell (p := ⟨N + 1, 0, none⟩) (le_3 N).1 _).setCell (p := ⟨N + 1, 1, none⟩) (le_3 N).1 _
theorem rgood13_c (q : Option Addr) (n c : Nat) (F : Nat → Int) (els : Int) (hm : c ≤ maxLen) (w : World) (hq : Iq w q n F) (hF : ∀ i, i < n → In64 (F i)) (he : In64 els) :
    Calls Try.prog 11 #[.agg #[.slice q n c, .int .i64 els]] w fun r w' => ∃ q' c', r = .returned (.agg #[.slice q' (min n 216) c', .int .i64 (arI els 3 - 1)]) ∧ Rd w' q' 1 encI (goodL n F) ∧ min n 216 ≤ c' ∧ c' ≤ maxLen ∧ Below w.heap.size w w' :=
  (rgood13_at q n c F els hm w hq hF he).mono fun _ _ ⟨q', c', h1, h2, h3, h4, h5, _⟩ => ⟨q', c', h1, h2, h3, h4, h5⟩
end Go.Proofs.Ytnokibdecnddlaa

/- The document's blocks of a box; whether it is blocked, in water, on a ladder. -/
namespace Go.Proofs.Ytnokibdecnddlaa
open Go.RowKit
attribute [local go_sem] Oper.semAt_some

theorem nexti {i n : Nat} (h : i < n) (hn : n ≤ 1000000) : ((i : Int) + 1 = ((i + 1 : Nat) : Int)) ∧ (0 : Int) ≤ i ∧ (i : Int) < n ∧ (i + 1) * 8 ≤ 140737488355328 ∧ -9223372036854775808 ≤ (i : Int) + 1 ∧ (i : Int) + 1 ≤ 9223372036854775807 := by omega
theorem Rd.below {w w' : World} {base : Nat} {q : Option Addr} {size : Nat} {α : Type} {enc : α → List Value} {xs : List α} (h : Rd w q size enc xs) (hb : Below base w w') (hq : ∀ a, q = some a → a.block < base) : Rd w' q size enc xs := fun hn => by
  obtain ⟨g, o, hg, h1⟩ := h hn
  have h2 := hq _ hg
  exact ⟨g, o, hg, fun i x hx j u hu => by rw [cell_below (p := ⟨g, o + i * size + j, none⟩) hb h2]; exact h1 i x hx j u hu⟩
theorem len_map_take {α β : Type} {xs : List α} {f : α → β} {i : Nat} (h : i < xs.length) : ((xs.take i).map f).length = i := by simp; omega
theorem map_push {α β : Type} {xs : List α} {f : α → β} {i : Nat} {x : α} (h : xs[i]? = some x) : (xs.take (i + 1)).map f = (xs.take i).map f ++ [f x] := by
  rw [List.take_add_one, h]; simp
set_option maxRecDepth 100000 in
set_option maxHeartbeats 8000000 in
theorem rblocks_c (q : Option Addr) (n cp : Nat) (F : Nat → Int) (els : Int) (a b c d e f : Int) (hB : BoxOk a b c d e f) (hL : (cellsI a b c d e f).length ≤ 1000000) (w : World) (hq : Iq w q n F) :
    Calls Try.prog 51 #[.agg #[.slice q n cp, .int .i64 els], .agg #[.int .i64 a, .int .i64 b, .int .i64 c, .int .i64 d, .int .i64 e, .int .i64 f]] w fun r w' =>
      ∃ v, r = .returned v ∧ Owns w' w.heap.size 3 1 encI v ((cellsI a b c d e f).map fun x => atG n F els x.1 x.2.1 x.2.2) ∧ Below w.heap.size w w' := by
  obtain ⟨W, hW⟩ : ∃ W, W = (w.alloc (.cells #[.slice q n cp, .int .i64 els] 24)).alloc (.cells #[.int .i64 a, .int .i64 b, .int .i64 c, .int .i64 d, .int .i64 e, .int .i64 f] 48) := ⟨_, rfl⟩
  have H : Below w.heap.size w W := by rw [hW]; go_grown
  have A : Blk W w.heap.size 24 #[.slice q n cp, .int .i64 els] := by rw [hW]; exact (Blk.new' rfl).alloc _
  have B : Blk W (w.heap.size + 1) 48 #[.int .i64 a, .int .i64 b, .int .i64 c, .int .i64 d, .int .i64 e, .int .i64 f] := by rw [hW]; exact Blk.new' (by simp)
  have hs : W.heap.size = w.heap.size + 2 := by rw [hW]; simp
  obtain ⟨N, hN⟩ : ∃ N, N = w.heap.size := ⟨_, rfl⟩
  rw [← hN] at A B hs
  go_enter Try.func51, Try.ntmps51
  go_upto_region 1 with (fail)
  rw [← hW, ← hN]
  have HN := Lib.hid hN
  have HS := Lib.hid hs
  have HL := Lib.hid hL
  clear hN hs hL hW
  obtain ⟨b0, b1, b2, b3, b4, b5⟩ := B.c6.1
  go_upto_region 2 with (go_at_call 84; refine (rcells_c a b c d e f hB HL.out _).mono ?_; rintro e_ w1 ⟨v, rfl, V, h1⟩)
  clear b0 b1 b2 b3 b4 b5 B
  replace A := A.on h1
  have hs1 := Lib.hid (Nat.le_trans (Nat.le_of_eq HS.out.symm) h1.size)
  have H1 := Lib.hid (after H h1)
  clear H h1
  obtain ⟨M, hM⟩ : ∃ M, M = w1.heap.size := ⟨_, rfl⟩
  have HM2 := Lib.hid (show N + 2 ≤ M by rw [hM]; exact hs1.out)
  have HM := Lib.hid hM
  clear hM
  have hq1 := Lib.hid (fun w' (h : Below w.heap.size w w') => hq.on h)
  clear hq
  generalize hxs : cellsI a b c d e f = xs at V HL ⊢
  have HXS := Lib.hid hxs
  clear hxs hB
  obtain ⟨q2, c2, rfl, k1, k2, k3, k4, -⟩ := V.form len3
  have K2 := Lib.hid k2
  have K4 := Lib.hid (fun a h => (HM.out ▸ (k4 a h).2 : a.block < M))
  have V0 := Lib.hid V
  clear k2 k4 V
  go_upto_region 4 with (fail)
  go_loopw [6, 7] (fun sl iv wr => ∃ (i : Nat), iv = .int .i64 (i : Nat) ∧ Hid (i ≤ xs.length) ∧ Blk wr N 24 #[.slice q n cp, .int .i64 els] ∧ Rd wr q2 3 enc3 xs ∧ Hid (M ≤ wr.heap.size) ∧ Hid (Owns wr M 3 1 encI sl ((xs.take i).map fun x => atG n F els x.1 x.2.1 x.2.2)) ∧ Hid (Below w.heap.size w wr)) (fun _ v _ => xs.length - (intOf v).toNat)
  case atStart => exact ⟨0, rfl, Nat.zero_le _, A, k3, Nat.le_of_eq HM.out, by rw [List.take_zero]; exact Owns.nil, H1.out⟩
  case round =>
    clear A k3 hs1 V0 H1
    obtain ⟨i, rfl, hi, A, R, hs, V, H⟩ := hrel
    by_cases hlt : i < xs.length
    · obtain ⟨x, hx⟩ : ∃ x, xs[i]? = some x := ⟨_, List.getElem?_eq_getElem hlt⟩
      have hlt' : (i : Int) < (xs.length : Int) := by omega
      obtain ⟨g, o, rfl, hI⟩ := R (by omega)
      have e0 : wr.cell? ⟨g, o + i * 3, none⟩ = some (.int .i64 x.1) := hI i x hx 0 _ rfl
      have e1 : wr.cell? ⟨g, o + i * 3 + 1, none⟩ = some (.int .i64 x.2.1) := hI i x hx 1 _ rfl
      have e2 : wr.cell? ⟨g, o + i * 3 + 2, none⟩ = some (.int .i64 x.2.2) := hI i x hx 2 _ rfl
      obtain ⟨-, n2, n3, n4, n5, n6⟩ := nexti hlt HL.out
      have N4 := Lib.hid n4
      have hat : ∀ d os, Calls Try.prog 39 #[.agg #[.slice q n cp, .int .i64 els], .agg #[.int .i64 x.1, .int .i64 x.2.1, .int .i64 x.2.2]] (Go.Sort.grow (redrawn wr d) os) fun r w' => r = .returned (.int .i64 (atG n F els x.1 x.2.1 x.2.2)) ∧ Below (Go.Sort.grow (redrawn wr d) os).heap.size (Go.Sort.grow (redrawn wr d) os) w' := fun d os =>
        at_c q n cp F els x.1 x.2.1 x.2.2 _ (hq1.out _ (H.out.trans ((below_regrown wr d os).mono H.out.size)))
      generalize hval : atG n F els x.1 x.2.1 x.2.2 = vl at hat
      have HVL := Lib.hid hval
      have HX := Lib.hid hx
      replace hat := Lib.hid hat
      clear n4 hval hx hI
      have hs2 := hs.out
      go_upto_region 6 with (fail)
      have a0 := fun d os => (A.re d os).cell 0
      have a1 := fun d os => (A.re d os).cell 1
      have e0 := fun d os => cell_regrown e0 d os
      have e1 := fun d os => cell_regrown e1 d os
      have e2 := fun d os => cell_regrown e2 d os
      refine wp_sched [0, 0, 0, 0, 0, 0, 0, 2, 3, 3] (fun _ v w => ∃ b, v = .slice (some ⟨b, 0, none⟩) 1 1 ∧ Blk w b 3 #[.int .i64 vl] ∧ M ≤ b) (by kernel_rfl) (by kernel_rfl) (fun _ _ _ _ ⟨b, h1, h2, h3⟩ h => ⟨b, h1, h2.on h, h3⟩) ?_
      repeat (first | (refine wpQs_s ?_) | (refine wpQs_q (fun K hK => ?_); go_simp; first | (refine hK _ ?_; clear hK K) | (apply Exists.intro; refine ⟨fun _ => ?_, hK _ ?_⟩; (exact hat.out _ _); clear hK K)) | (refine wpQs_f (fun K hK => ?_); go_simp; refine hK _ ?_; clear hK K))
      refine wpQs_nil ?_
      repeat (first | (refine wpLs_skip ?_) | (refine wpLs_one ?lsA (fun v_ => ?_); case lsA => (intro w_ hw_ hp_; (go_simp; exact ⟨Kept.of_below ((Below.refl _ _).alloc (Nat.le_refl _) _), Blk.new' rfl, Nat.le_trans hs2 (msd_kept hw_).size⟩))))
      refine wpLs_nilB ?_
      simp only [tails]
      rintro W1 h1 ⟨-, b, rfl, hB, hb⟩
      have hbj := hB.cell 0
      replace A := A.on h1
      replace R := R.on h1
      replace V := V.out.on h1
      have hs1 : M ≤ W1.heap.size := Nat.le_trans hs2 h1.size
      obtain ⟨v', w', hrun, V2, -, hb2, -⟩ := run_push (P := Try.prog) (ts := 22) (ty := 22) (x := vl) (b := b) Try.underlying22 infI rfl (by decide) (by decide) rfl (by simp [Value.oneCell']) V
        (fun j u hu => by rw [hB.cell j]; simpa using hu) (by rw [len_map_take hlt]; exact N4.out) hs1
      rw [← HVL.out, ← map_push (f := fun x : Cl => atG n F els x.1 x.2.1 x.2.2) HX.out] at V2
      replace A := A.below hb2 (by have := HM2.out; omega)
      have R2 : Rd w' (some ⟨g, o, none⟩) 3 enc3 xs := R.below hb2 K4.out
      have hs3 := Lib.hid (Nat.le_trans hs1 hb2.size)
      have HV := Lib.hid V2
      have H2 := Lib.hid ((after H.out h1).trans (hb2.mono (by have := HN.out; have := HM2.out; omega)))
      clear hB hbj V V2 R hb2 hb hs1 hs2
      go_wp2_with (at_builtin; refine Lib.wpList_append_run _ rfl _ _ _ _ rfl _ _ rfl rfl _ _ hrun ?_)
      go_roundw
      case rel => exact ⟨i + 1, rfl, hlt, A, R2, hs3.out, HV.out, H2⟩
      case measure => simp [intOf]; omega
    · have hi2 : i = xs.length := by have := hi.out; omega
      have hlt' : ¬ (i : Int) < (xs.length : Int) := by omega
      go_wp2_with fail
      go_returns
      refine ⟨_, rfl, ?_, H.out⟩
      have h := V.out
      rw [hi2, List.take_length, ← HXS.out] at h
      have hb : w.heap.size ≤ M := by have := HN.out; have := HM2.out; omega
      exact h.mono hb
set_option maxRecDepth 100000 in
set_option maxHeartbeats 8000000 in
theorem rfBlocked_c (q : Option Addr) (n cp : Nat) (F : Nat → Int) (els : Int) (a b c d e f : Int) (hB : BoxOk a b c d e f) (hL : (cellsI a b c d e f).length ≤ 1000000) (w : World) (hq : Iq w q n F) :
    Calls Try.prog 18 #[.agg #[.slice q n cp, .int .i64 els], .agg #[.int .i64 a, .int .i64 b, .int .i64 c, .int .i64 d, .int .i64 e, .int .i64 f]] w fun r w' =>
      r = .returned (.bool ((cellsI a b c d e f).any fun x => solB (atG n F els x.1 x.2.1 x.2.2))) ∧ Below w.heap.size w w' := by
  have hQ : ∀ W, Below w.heap.size w W → Calls Try.prog 51 #[.agg #[.slice q n cp, .int .i64 els], .agg #[.int .i64 a, .int .i64 b, .int .i64 c, .int .i64 d, .int .i64 e, .int .i64 f]] W fun r w' =>
      ∃ v, r = .returned v ∧ Owns w' W.heap.size 3 1 encI v ((cellsI a b c d e f).map fun x => atG n F els x.1 x.2.1 x.2.2) ∧ Below W.heap.size W w' := fun W h => rblocks_c q n cp F els a b c d e f hB hL W (hq.on h)
  have hv : ((cellsI a b c d e f).any fun x => solB (atG n F els x.1 x.2.1 x.2.2)) = ((cellsI a b c d e f).map fun x => atG n F els x.1 x.2.1 x.2.2).any solB := by rw [List.any_map]; rfl
  rw [hv]
  have hlen : ((cellsI a b c d e f).map fun x => atG n F els x.1 x.2.1 x.2.2).length ≤ 1000000 := by rw [List.length_map]; exact hL
  clear hv hq hB hL
  generalize (cellsI a b c d e f).map (fun x => atG n F els x.1 x.2.1 x.2.2) = xs at hQ hlen ⊢
  have HL := Lib.hid hlen
  replace hQ := Lib.hid hQ
  clear hlen
  go_enter Try.func18, Try.ntmps18
  go_upto_region 2 with (go_at_call 51; refine (hQ.out _ (by go_grown)).mono ?_; rintro e_ w1 ⟨v, rfl, V, h1⟩)
  have H := Lib.hid (after (((Below.refl _ w).alloc (Nat.le_refl _) _).alloc (by simp) _) h1)
  obtain ⟨q2, c2, rfl, k1, k2, k3, -, -⟩ := V.form lenI
  clear k2 V h1
  go_upto_region 3 with (fail)
  go_loopw [6] (fun iv wr => wr = w1 ∧ ∃ (i : Nat), iv = .int .i64 (i : Nat) ∧ Hid (i ≤ xs.length) ∧ Hid ((xs.take i).any solB = false)) (fun v _ => xs.length - (intOf v).toNat)
  case atStart => exact ⟨rfl, 0, rfl, Nat.zero_le _, by rw [List.take_zero]; rfl⟩
  case round =>
    obtain ⟨rfl, i, rfl, hi, hno⟩ := hrel
    by_cases hlt : i < xs.length
    · obtain ⟨x, hx⟩ : ∃ x, xs[i]? = some x := ⟨_, List.getElem?_eq_getElem hlt⟩
      have hlt' : (i : Int) < (xs.length : Int) := by omega
      obtain ⟨g, o, rfl, hI⟩ := k3 (by omega)
      have e0 : wr.cell? ⟨g, o + i * 1, none⟩ = some (.int .i64 x) := hI i x hx 0 _ rfl
      rw [Nat.mul_one] at e0
      obtain ⟨-, n2, n3, n4, n5, n6⟩ := nexti hlt HL.out
      have HX := Lib.hid hx
      clear n4 hx hI
      cases hp : solB x
      · have hv0 := fun w => rsolid_c x w
        rw [hp] at hv0
        have HP := Lib.hid hp
        clear hp
        go_wp2_with (go_at_call 52; refine (hv0 _).mono ?_; rintro e_ w3 ⟨rfl, rfl⟩)
        go_roundw
        case rel => exact ⟨trivial, i + 1, rfl, hlt, by show _ = false; rw [List.take_add_one, List.any_append, hno.out, HX.out]; simp [HP.out]⟩
        case measure => simp [intOf]; omega
      · have hv0 := fun w => rsolid_c x w
        rw [hp] at hv0
        have HP := Lib.hid hp
        clear hp
        go_wp2_with (go_at_call 52; refine (hv0 _).mono ?_; rintro e_ w3 ⟨rfl, rfl⟩)
        go_returns
        exact ⟨ret_b (List.any_eq_true.2 ⟨x, List.mem_of_getElem? HX.out, HP.out⟩).symm, H.out⟩
    · have hi2 : i = xs.length := by have := hi.out; omega
      have hlt' : ¬ (i : Int) < (xs.length : Int) := by omega
      go_wp2_with fail
      go_returns
      refine ⟨ret_b ?_, H.out⟩
      have := hno.out
      rw [hi2, List.take_length] at this
      exact this.symm
set_option maxRecDepth 100000 in
set_option maxHeartbeats 8000000 in
theorem rfWet_c (q : Option Addr) (n cp : Nat) (F : Nat → Int) (els : Int) (a b c d e f : Int) (hB : BoxOk a b c d e f) (hL : (cellsI a b c d e f).length ≤ 1000000) (w : World) (hq : Iq w q n F) :
    Calls Try.prog 45 #[.agg #[.slice q n cp, .int .i64 els], .agg #[.int .i64 a, .int .i64 b, .int .i64 c, .int .i64 d, .int .i64 e, .int .i64 f]] w fun r w' =>
      r = .returned (.bool ((cellsI a b c d e f).any fun x => wetB (atG n F els x.1 x.2.1 x.2.2))) ∧ Below w.heap.size w w' := by
  have hQ : ∀ W, Below w.heap.size w W → Calls Try.prog 51 #[.agg #[.slice q n cp, .int .i64 els], .agg #[.int .i64 a, .int .i64 b, .int .i64 c, .int .i64 d, .int .i64 e, .int .i64 f]] W fun r w' =>
      ∃ v, r = .returned v ∧ Owns w' W.heap.size 3 1 encI v ((cellsI a b c d e f).map fun x => atG n F els x.1 x.2.1 x.2.2) ∧ Below W.heap.size W w' := fun W h => rblocks_c q n cp F els a b c d e f hB hL W (hq.on h)
  have hv : ((cellsI a b c d e f).any fun x => wetB (atG n F els x.1 x.2.1 x.2.2)) = ((cellsI a b c d e f).map fun x => atG n F els x.1 x.2.1 x.2.2).any wetB := by rw [List.any_map]; rfl
  rw [hv]
  have hlen : ((cellsI a b c d e f).map fun x => atG n F els x.1 x.2.1 x.2.2).length ≤ 1000000 := by rw [List.length_map]; exact hL
  clear hv hq hB hL
  generalize (cellsI a b c d e f).map (fun x => atG n F els x.1 x.2.1 x.2.2) = xs at hQ hlen ⊢
  have HL := Lib.hid hlen
  replace hQ := Lib.hid hQ
  clear hlen
  go_enter Try.func45, Try.ntmps45
  go_upto_region 2 with (go_at_call 51; refine (hQ.out _ (by go_grown)).mono ?_; rintro e_ w1 ⟨v, rfl, V, h1⟩)
  have H := Lib.hid (after (((Below.refl _ w).alloc (Nat.le_refl _) _).alloc (by simp) _) h1)
  obtain ⟨q2, c2, rfl, k1, k2, k3, -, -⟩ := V.form lenI
  clear k2 V h1
  go_upto_region 3 with (fail)
  go_loopw [6] (fun iv wr => wr = w1 ∧ ∃ (i : Nat), iv = .int .i64 (i : Nat) ∧ Hid (i ≤ xs.length) ∧ Hid ((xs.take i).any wetB = false)) (fun v _ => xs.length - (intOf v).toNat)
  case atStart => exact ⟨rfl, 0, rfl, Nat.zero_le _, by rw [List.take_zero]; rfl⟩
  case round =>
    obtain ⟨rfl, i, rfl, hi, hno⟩ := hrel
    by_cases hlt : i < xs.length
    · obtain ⟨x, hx⟩ : ∃ x, xs[i]? = some x := ⟨_, List.getElem?_eq_getElem hlt⟩
      have hlt' : (i : Int) < (xs.length : Int) := by omega
      obtain ⟨g, o, rfl, hI⟩ := k3 (by omega)
      have e0 : wr.cell? ⟨g, o + i * 1, none⟩ = some (.int .i64 x) := hI i x hx 0 _ rfl
      rw [Nat.mul_one] at e0
      obtain ⟨-, n2, n3, n4, n5, n6⟩ := nexti hlt HL.out
      have HX := Lib.hid hx
      clear n4 hx hI
      cases hp : wetB x
      · have hv0 := fun w => rwet_c x w
        rw [hp] at hv0
        have HP := Lib.hid hp
        clear hp
        go_wp2_with (go_at_call 80; refine (hv0 _).mono ?_; rintro e_ w3 ⟨rfl, rfl⟩)
        go_roundw
        case rel => exact ⟨trivial, i + 1, rfl, hlt, by show _ = false; rw [List.take_add_one, List.any_append, hno.out, HX.out]; simp [HP.out]⟩
        case measure => simp [intOf]; omega
      · have hv0 := fun w => rwet_c x w
        rw [hp] at hv0
        have HP := Lib.hid hp
        clear hp
        go_wp2_with (go_at_call 80; refine (hv0 _).mono ?_; rintro e_ w3 ⟨rfl, rfl⟩)
        go_returns
        exact ⟨ret_b (List.any_eq_true.2 ⟨x, List.mem_of_getElem? HX.out, HP.out⟩).symm, H.out⟩
    · have hi2 : i = xs.length := by have := hi.out; omega
      have hlt' : ¬ (i : Int) < (xs.length : Int) := by omega
      go_wp2_with fail
      go_returns
      refine ⟨ret_b ?_, H.out⟩
      have := hno.out
      rw [hi2, List.take_length] at this
      exact this.symm
set_option maxRecDepth 100000 in
set_option maxHeartbeats 8000000 in
theorem rfClimbs_c (q : Option Addr) (n cp : Nat) (F : Nat → Int) (els : Int) (a b c d e f : Int) (hB : BoxOk a b c d e f) (hL : (cellsI a b c d e f).length ≤ 1000000) (w : World) (hq : Iq w q n F) :
    Calls Try.prog 44 #[.agg #[.slice q n cp, .int .i64 els], .agg #[.int .i64 a, .int .i64 b, .int .i64 c, .int .i64 d, .int .i64 e, .int .i64 f]] w fun r w' =>
      r = .returned (.bool ((cellsI a b c d e f).any fun x => cliB (atG n F els x.1 x.2.1 x.2.2))) ∧ Below w.heap.size w w' := by
  have hQ : ∀ W, Below w.heap.size w W → Calls Try.prog 51 #[.agg #[.slice q n cp, .int .i64 els], .agg #[.int .i64 a, .int .i64 b, .int .i64 c, .int .i64 d, .int .i64 e, .int .i64 f]] W fun r w' =>
      ∃ v, r = .returned v ∧ Owns w' W.heap.size 3 1 encI v ((cellsI a b c d e f).map fun x => atG n F els x.1 x.2.1 x.2.2) ∧ Below W.heap.size W w' := fun W h => rblocks_c q n cp F els a b c d e f hB hL W (hq.on h)
  have hv : ((cellsI a b c d e f).any fun x => cliB (atG n F els x.1 x.2.1 x.2.2)) = ((cellsI a b c d e f).map fun x => atG n F els x.1 x.2.1 x.2.2).any cliB := by rw [List.any_map]; rfl
  rw [hv]
  have hlen : ((cellsI a b c d e f).map fun x => atG n F els x.1 x.2.1 x.2.2).length ≤ 1000000 := by rw [List.length_map]; exact hL
  clear hv hq hB hL
  generalize (cellsI a b c d e f).map (fun x => atG n F els x.1 x.2.1 x.2.2) = xs at hQ hlen ⊢
  have HL := Lib.hid hlen
  replace hQ := Lib.hid hQ
  clear hlen
  go_enter Try.func44, Try.ntmps44
  go_upto_region 2 with (go_at_call 51; refine (hQ.out _ (by go_grown)).mono ?_; rintro e_ w1 ⟨v, rfl, V, h1⟩)
  have H := Lib.hid (after (((Below.refl _ w).alloc (Nat.le_refl _) _).alloc (by simp) _) h1)
  obtain ⟨q2, c2, rfl, k1, k2, k3, -, -⟩ := V.form lenI
  clear k2 V h1
  go_upto_region 3 with (fail)
  go_loopw [6] (fun iv wr => wr = w1 ∧ ∃ (i : Nat), iv = .int .i64 (i : Nat) ∧ Hid (i ≤ xs.length) ∧ Hid ((xs.take i).any cliB = false)) (fun v _ => xs.length - (intOf v).toNat)
  case atStart => exact ⟨rfl, 0, rfl, Nat.zero_le _, by rw [List.take_zero]; rfl⟩
  case round =>
    obtain ⟨rfl, i, rfl, hi, hno⟩ := hrel
    by_cases hlt : i < xs.length
    · obtain ⟨x, hx⟩ : ∃ x, xs[i]? = some x := ⟨_, List.getElem?_eq_getElem hlt⟩
      have hlt' : (i : Int) < (xs.length : Int) := by omega
      obtain ⟨g, o, rfl, hI⟩ := k3 (by omega)
      have e0 : wr.cell? ⟨g, o + i * 1, none⟩ = some (.int .i64 x) := hI i x hx 0 _ rfl
      rw [Nat.mul_one] at e0
      obtain ⟨-, n2, n3, n4, n5, n6⟩ := nexti hlt HL.out
      have HX := Lib.hid hx
      clear n4 hx hI
      cases hp : cliB x
      · have hv0 := show (x == 4) = cliB x from rfl
        rw [hp] at hv0
        have HP := Lib.hid hp
        clear hp
        go_wp2_with (go_at_call 80; refine (hv0 _).mono ?_; rintro e_ w3 ⟨rfl, rfl⟩)
        go_roundw
        case rel => exact ⟨trivial, i + 1, rfl, hlt, by show _ = false; rw [List.take_add_one, List.any_append, hno.out, HX.out]; simp [HP.out]⟩
        case measure => simp [intOf]; omega
      · have hv0 := show (x == 4) = cliB x from rfl
        rw [hp] at hv0
        have HP := Lib.hid hp
        clear hp
        go_wp2_with (go_at_call 80; refine (hv0 _).mono ?_; rintro e_ w3 ⟨rfl, rfl⟩)
        go_returns
        exact ⟨ret_b (List.any_eq_true.2 ⟨x, List.mem_of_getElem? HX.out, HP.out⟩).symm, H.out⟩
    · have hi2 : i = xs.length := by have := hi.out; omega
      have hlt' : ¬ (i : Int) < (xs.length : Int) := by omega
      go_wp2_with fail
      go_returns
      refine ⟨ret_b ?_, H.out⟩
      have := hno.out
      rw [hi2, List.take_length] at this
      exact this.symm
set_option maxHeartbeats 2000000 in
theorem rfStands_c (q : Option Addr) (n cp : Nat) (F : Nat → Int) (els : Int) (a b c d e f : Int) (hU : ∀ w, Calls Try.prog 81 #[.agg #[.int .i64 a, .int .i64 b, .int .i64 c, .int .i64 d, .int .i64 e, .int .i64 f]] w fun r w' => r = .returned (.agg #[.int .i64 a, .int .i64 (cutI (b - 1)), .int .i64 c, .int .i64 d, .int .i64 b, .int .i64 f]) ∧ Below w.heap.size w w')
    (hB : BoxOk a (cutI (b - 1)) c d b f) (hL : (cellsI a (cutI (b - 1)) c d b f).length ≤ 1000000) (w : World) (hq : Iq w q n F) :
    Calls Try.prog 46 #[.agg #[.slice q n cp, .int .i64 els], .agg #[.int .i64 a, .int .i64 b, .int .i64 c, .int .i64 d, .int .i64 e, .int .i64 f]] w fun r w' =>
      r = .returned (.bool ((cellsI a (cutI (b - 1)) c d b f).any fun x => solB (atG n F els x.1 x.2.1 x.2.2))) ∧ Below w.heap.size w w' := by
  obtain ⟨W, hW⟩ : ∃ W, W = (w.alloc (.cells #[.slice q n cp, .int .i64 els] 24)).alloc (.cells #[.int .i64 a, .int .i64 b, .int .i64 c, .int .i64 d, .int .i64 e, .int .i64 f] 48) := ⟨_, rfl⟩
  have H : Below w.heap.size w W := by rw [hW]; go_grown
  have A : Blk W w.heap.size 24 #[.slice q n cp, .int .i64 els] := by rw [hW]; exact (Blk.new' rfl).alloc _
  have B : Blk W (w.heap.size + 1) 48 #[.int .i64 a, .int .i64 b, .int .i64 c, .int .i64 d, .int .i64 e, .int .i64 f] := by rw [hW]; exact Blk.new' (by simp)
  have hS : ∀ x y, Calls Try.prog 18 #[.agg #[.slice q n cp, .int .i64 els], .agg #[.int .i64 a, .int .i64 (cutI (b - 1)), .int .i64 c, .int .i64 d, .int .i64 b, .int .i64 f]] (Go.Sort.grow (redrawn W x) y) fun r w' =>
      r = .returned (.bool ((cellsI a (cutI (b - 1)) c d b f).any fun x => solB (atG n F els x.1 x.2.1 x.2.2))) ∧ Below (Go.Sort.grow (redrawn W x) y).heap.size (Go.Sort.grow (redrawn W x) y) w' := fun x y =>
    rfBlocked_c q n cp F els a (cutI (b - 1)) c d b f hB hL _ (hq.on (H.trans ((below_regrown W x y).mono H.size)))
  have HS := Lib.hid hS
  have HU := Lib.hid (fun x y => hU (Go.Sort.grow (redrawn W x) y))
  clear hS hB hL hq hU
  generalize (cellsI a (cutI (b - 1)) c d b f).any (fun x => solB (atG n F els x.1 x.2.1 x.2.2)) = res at HS ⊢
  generalize cutI (b - 1) = b' at HS HU ⊢
  have a0 := fun x y => (A.re x y).cell 0
  have a1 := fun x y => (A.re x y).cell 1
  obtain ⟨b0, b1, b2, b3, b4, b5⟩ := B.re6
  go_enter Try.func46, Try.ntmps46
  go_upto_region 1 with (fail)
  rw [← hW]
  clear hW
  refine wp_sched [0, 0, 0, 0, 0] (fun _ _ _ => True) (by kernel_rfl) (by kernel_rfl) (fun _ _ _ _ h _ => h) ?_
  repeat (first | (refine wpQs_s ?_) | (refine wpQs_q (fun K hK => ?_); go_simp; first | (refine hK _ ?_; clear hK K) | (apply Exists.intro; refine ⟨fun _ => ?_, hK _ ?_⟩; (first | exact HU.out _ _ | exact HS.out _ _); clear hK K)) | (refine wpQs_f (fun K hK => ?_); go_simp; refine hK _ ?_; clear hK K))
  refine wpQs_nil ?_
  repeat (first | (refine wpLs_skip ?_) | (refine wpLs_one ?lsA (fun v_ => ?_); case lsA => (intro w_ hw_ hp_; (fail))))
  refine wpLs_nilB ?_
  simp only [tails]
  intro W1 h1 _
  go_wp2_with fail
  go_returns
  exact ⟨rfl, after H h1⟩
end Go.Proofs.Ytnokibdecnddlaa
