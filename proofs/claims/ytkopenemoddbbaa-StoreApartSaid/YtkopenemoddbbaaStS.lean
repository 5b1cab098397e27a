/- An id's record: the walk of the program. -/
import Derived.Test.YtkopenemoddbbaaStR
namespace Go.Proofs.Ytkopenemoddbbaa
open Go.RowKit
attribute [local go_sem] Oper.semAt_some

/-- The record of a slot. -/
noncomputable def recAt (S : DS) (k : Int) : Int × Bs × Int := readL ((S.get k).getD [])
/-- An id's record: its slot, its version, its body. -/
noncomputable def ofV (S : DS) (id : Int) : Int × Int × Bs :=
  if (recAt S (2 * id)).2.2 = 0 then
    if (recAt S (2 * id + 1)).2.2 = 0 ∧ (recAt S (2 * id)).1 < (recAt S (2 * id + 1)).1 then (2 * id + 1, (recAt S (2 * id + 1)).1, (recAt S (2 * id + 1)).2.1)
    else (2 * id, (recAt S (2 * id)).1, (recAt S (2 * id)).2.1)
  else if (recAt S (2 * id + 1)).2.2 = 0 then (2 * id + 1, (recAt S (2 * id + 1)).1, (recAt S (2 * id + 1)).2.1)
  else (2 * id + 1, 0, [])
structure StoreIs (w : World) (base : Nat) (M : Nat → Prop) (s d : Nat) (S : DS) : Prop where
  blk : Blk w s 59 #[.pointer (some ⟨d, 0, none⟩)]
  disk : DiskIs w base M d S
  based : base ≤ s
theorem StoreIs.on {w w' : World} {base : Nat} {M : Nat → Prop} {s d : Nat} {S : DS} (h : StoreIs w base M s d S) (hb : Below w.heap.size w w') : StoreIs w' base M s d S := ⟨h.blk.on hb, h.disk.on hb, h.based⟩
theorem get_size {S : DS} {N M : Nat} (h : DOk S N M) (k : Int) : ((S.get k).getD []).length ≤ M := by
  unfold DS.get
  cases hg : getL S.now k with
  | none => simp
  | some b =>
    unfold getL at hg
    cases hf : S.now.find? fun p => p.1 == k with
    | none => rw [hf] at hg; cases hg
    | some p =>
      rw [hf] at hg
      obtain rfl : p.2 = b := by simpa using hg
      exact h.now.2.2.2 p (List.mem_of_find?_eq_some hf)
/-- The best of the first k slots. -/
noncomputable def bestS (S : DS) (id : Int) : Nat → Int × Int × Bs
  | 0 => (2 * id + 1, 0, [])
  | k + 1 => if (recAt S (2 * id + k)).2.2 = 0 ∧ (bestS S id k).2.1 < (recAt S (2 * id + k)).1 then (2 * id + k, (recAt S (2 * id + k)).1, (recAt S (2 * id + k)).2.1) else bestS S id k
theorem recAt_pos {S : DS} {k : Int} (h : (recAt S k).2.2 = 0) : 1 ≤ (recAt S k).1 ∧ (recAt S k).1 ≤ 1073741824 := by
  unfold recAt at *
  rcases read_cases ((S.get k).getD []) with ⟨h1, -⟩ | ⟨-, h1, h2, -⟩
  · omega
  · exact ⟨h1, h2⟩
theorem recAt_no {S : DS} {k : Int} (h : (recAt S k).2.2 ≠ 0) : (recAt S k).1 = 0 ∧ (recAt S k).2.1 = [] := by
  unfold recAt at *
  rcases read_cases ((S.get k).getD []) with ⟨-, h1⟩ | ⟨h1, -⟩
  · exact h1
  · exact absurd h1 h
theorem recAt_int (S : DS) (k : Int) : 0 ≤ (recAt S k).1 ∧ (recAt S k).1 ≤ 1073741824 := by
  by_cases h : (recAt S k).2.2 = 0
  · have := recAt_pos h; omega
  · have := (recAt_no h).1; omega
theorem bestS_succ (S : DS) (id : Int) (k : Nat) : bestS S id (k + 1) = if (recAt S (2 * id + k)).2.2 = 0 ∧ (bestS S id k).2.1 < (recAt S (2 * id + k)).1 then (2 * id + k, (recAt S (2 * id + k)).1, (recAt S (2 * id + k)).2.1) else bestS S id k := rfl
theorem bestS_two (S : DS) (id : Int) : bestS S id 2 = ofV S id := by
  have p1 : (recAt S (2 * id)).2.2 = 0 → 1 ≤ (recAt S (2 * id)).1 := fun h => (recAt_pos h).1
  have p2 : (recAt S (2 * id + 1)).2.2 = 0 → 1 ≤ (recAt S (2 * id + 1)).1 := fun h => (recAt_pos h).1
  unfold ofV
  simp only [bestS, Int.natCast_zero, Int.add_zero, Int.natCast_one]
  by_cases h1 : (recAt S (2 * id)).2.2 = 0
  · have := p1 h1
    rw [if_pos (show (recAt S (2 * id)).2.2 = 0 ∧ 0 < (recAt S (2 * id)).1 from ⟨h1, by omega⟩), if_pos h1]
  · rw [if_neg (show ¬ ((recAt S (2 * id)).2.2 = 0 ∧ 0 < (recAt S (2 * id)).1) from fun h => h1 h.1), if_neg h1]
    by_cases h2 : (recAt S (2 * id + 1)).2.2 = 0
    · have := p2 h2
      rw [if_pos ⟨h2, by dsimp only; omega⟩, if_pos h2]
    · rw [if_neg (fun h => h2 h.1), if_neg h2]
theorem bestS_int (S : DS) (id : Int) : ∀ k, 0 ≤ (bestS S id k).2.1 ∧ (bestS S id k).2.1 ≤ 1073741824
  | 0 => by simp [bestS]
  | k + 1 => by
    unfold bestS
    split
    · exact recAt_int S _
    · exact bestS_int S id k
theorem idx20 (a b : Int) (w : World) : (Instr.index 105 (.agg #[.int .i64 a, .int .i64 b]) (.int .i64 0)).run Try.prog w = .ok (.int .i64 a) w := by kernel_rfl
theorem idx21 (a b : Int) (w : World) : (Instr.index 105 (.agg #[.int .i64 a, .int .i64 b]) (.int .i64 1)).run Try.prog w = .ok (.int .i64 b) w := by kernel_rfl
def RecR (base : Nat) (x : Int × Int × Bs) (r : Ending) (w w' : World) : Prop := ∃ sl : SL, r = .returned (.agg #[.int .i64 x.1, .int .i64 x.2.1, slV sl]) ∧ GoodS w' base sl ∧ rdB w' sl = x.2.2 ∧ Below w.heap.size w w'
/-- The best so far, in memory. -/
def BestI (w : World) (base r t : Nat) (b : Int × Int × Bs) (wr : World) : Prop := Below w.heap.size w wr ∧ Blk wr r 73 #[.int .i64 0, .int .i64 0, .slice none 0 0] ∧ ∃ sl : SL, Blk wr t 73 #[.int .i64 b.1, .int .i64 b.2.1, slV sl] ∧ GoodS wr base sl ∧ rdB wr sl = b.2.2
theorem BestI.on {w wr wr' : World} {base r t : Nat} {b : Int × Int × Bs} (h : BestI w base r t b wr) (g : Below wr.heap.size wr wr') : BestI w base r t b wr' := by
  obtain ⟨h1, h2, sl, h3, h4, h5⟩ := h
  exact ⟨after h1 g, h2.on g, sl, h3.on g, (h4.on g).1, (h4.on g).2.trans h5⟩
theorem good_rec {W : World} {r base : Nat} {cs : Array Value} {sl : SL} (hB : Blk W r 73 cs) (hs : GoodS W base sl) (hb0 : base ≤ r) (u v x : Value) : GoodS (((W.setCell ⟨r, 0, none⟩ u).setCell ⟨r, 1, none⟩ v).setCell ⟨r, 2, none⟩ x) base sl ∧ rdB (((W.setCell ⟨r, 0, none⟩ u).setCell ⟨r, 1, none⟩ v).setCell ⟨r, 2, none⟩ x) sl = rdB W sl := by
  have hk : Kept (fun b => b ≠ r) W (((W.setCell ⟨r, 0, none⟩ u).setCell ⟨r, 1, none⟩ v).setCell ⟨r, 2, none⟩ x) := (((Kept.refl _ W).setCell (by simp) _).setCell (by simp) _).setCell (by simp) _
  refine hs.kept hk fun b hb e => ?_
  subst e
  rcases hb with hb | ⟨cur, hb⟩
  · omega
  · have := blk_one hb hB
    revert this
    decide
theorem BestI.put {w wr : World} {base r t : Nat} {b b' : Int × Int × Bs} {sl : SL} (h : BestI w base r t b wr) (hrt : r ≠ t) (hbt : base ≤ t) (hwt : w.heap.size ≤ t) (hs : GoodS wr base sl) (hr : rdB wr sl = b'.2.2) : BestI w base r t b' (((wr.setCell ⟨t, 0, none⟩ (.int .i64 b'.1)).setCell ⟨t, 1, none⟩ (.int .i64 b'.2.1)).setCell ⟨t, 2, none⟩ (slV sl)) := by
  obtain ⟨g1, h2, sl0, h3, -, -⟩ := h
  obtain ⟨k1, k2⟩ := good_rec h3 hs hbt (.int .i64 b'.1) (.int .i64 b'.2.1) (slV sl)
  exact ⟨far_below3 (Below.refl _ _) g1 hwt rfl, ((h2.far (p := ⟨t, 0, none⟩) hrt _).far (p := ⟨t, 1, none⟩) hrt _).far (p := ⟨t, 2, none⟩) hrt _, sl, h3.st3 _ _ _, k1, k2.trans hr⟩
set_option maxRecDepth 100000 in
set_option maxHeartbeats 4000000 in
theorem sof_c (base s d : Nat) (M : Nat → Prop) (S : DS) (N : Nat) (w : World) (h : StoreIs w base M s d S) (hok : DOk S N 1000000) (hN : N ≤ 100000) (id : Int) (h0 : 0 ≤ id) (h1 : id ≤ 1099511627776) (hbase : base ≤ w.heap.size) :
    Calls Try.prog 37 #[.pointer (some ⟨s, 0, none⟩), .int .i64 id] w fun r w' => RecR base (ofV S id) r w w' := by
  rw [← bestS_two]
  have HS := Lib.hid h
  have hB := h.blk
  have HG := Lib.hid fun (k : Int) (hk : In64 k) (W : World) (hb : Below w.heap.size w W) => get_c base d M S N W (h.disk.on hb) hok hN k hk
  have HZ := Lib.hid fun k => get_size hok k
  clear h hok hN
  have i20 := idx20 (2 * id) (2 * id + 1)
  have i21 := idx21 (2 * id) (2 * id + 1)
  go_enter Try.func37, Try.ntmps37
  go_upto_region 3 with (fail)
  obtain ⟨W0, hW0⟩ : ∃ W0, W0 = (w.alloc (.cells #[.int .i64 0, .int .i64 0, .slice none 0 0] 73)).alloc (.cells #[.int .i64 (2 * id + 1), .int .i64 0, .slice none 0 0] 73) := ⟨_, rfl⟩
  rw [← hW0]
  have HI0 : BestI w base w.heap.size (w.heap.size + 1) (bestS S id 0) W0 := by
    subst hW0
    have hs1 : (w.alloc (.cells #[.int .i64 0, .int .i64 0, .slice none 0 0] 73)).heap.size = w.heap.size + 1 := by simp
    refine ⟨(bel_alloc w _).trans (bel_alloc' (by rw [hs1]; omega) _), (Blk.new' rfl).on (bel_alloc _ _), (none, 0, 0), ?_, good_nil, rfl⟩
    rw [← hs1]
    exact Blk.new' rfl
  have HI := Lib.hid HI0
  have HT := Lib.hid (show w.heap.size ≠ w.heap.size + 1 ∧ base ≤ w.heap.size + 1 ∧ w.heap.size ≤ w.heap.size + 1 ∧ base ≤ w.heap.size from ⟨by omega, by omega, by omega, hbase⟩)
  generalize w.heap.size + 1 = t at *
  clear hW0 HI0 hbase
  go_loopw [23] (fun iv wr => ∃ k : Nat, k ≤ 2 ∧ iv = .int .i64 k ∧ BestI w base w.heap.size t (bestS S id k) wr) (fun iv _ => 2 - (intOf iv).toNat)
  case atStart => exact ⟨0, by omega, rfl, HI.out⟩
  case round =>
    obtain ⟨k, hk, hiv, hI⟩ := hrel
    rcases (by omega : k = 0 ∨ k = 1 ∨ k = 2) with rfl | rfl | rfl
    · obtain rfl : _ = Value.int .i64 0 := hiv
      have hn : (bestS S id (0 + 1)) = if (recAt S (2 * id)).2.2 = 0 ∧ (bestS S id 0).2.1 < (recAt S (2 * id)).1 then (2 * id, (recAt S (2 * id)).1, (recAt S (2 * id)).2.1) else bestS S id 0 := by rw [bestS_succ, show (2 * id + ((0 : Nat) : Int)) = 2 * id by omega]
      have HNx := Lib.hid hn
      have HI1 := Lib.hid hI
      have hBs : wr.cell? ⟨s, 0, none⟩ = some (.pointer (some ⟨d, 0, none⟩)) := (HS.out.blk.on HI1.out.1).cell 0
      clear hn hI
      generalize bestS S id 0 = b at *
      go_upto_region 6 with (go_at_call 40; refine (HG.out (2 * id) (by unfold In64; omega) _ HI1.out.1).mono ?_; rintro e_ w1 ⟨s1, rfl, hs1, hr1, gb1⟩)
      have HQ := Lib.hid (sread_c base s1 w1 hs1 (by rw [← hs1.len, hr1]; exact HZ.out _))
      rw [hr1] at HQ
      rw [show readL ((S.get (2 * id)).getD []) = recAt S (2 * id) from rfl] at HQ
      have HI2 := Lib.hid (HI1.out.on gb1)
      generalize recAt S (2 * id) = x at *
      obtain ⟨v, bd, e⟩ := x
      go_upto_region 7 with (go_at_call 14; refine HQ.out.mono ?_; rintro e_ w2 ⟨s2, rfl, hs2, hr2, gb2⟩)
      have HI := Lib.hid (HI2.out.on gb2)
      clear HI1 HI2 gb1 gb2 hs1 hr1 HQ
      obtain ⟨b1, b2, b3⟩ := b
      have HIc := HI.out
      obtain ⟨-, Br, sl, Bt, -, -⟩ := HIc
      obtain ⟨t0, t1, t2, f0, f1, f2⟩ := Bt.c3
      obtain ⟨qs, ns, cs⟩ := s2
      obtain ⟨ql, nl, cl⟩ := sl
      simp only [slV] at t2 ⊢
      have HS2 := Lib.hid (And.intro hs2 hr2)
      clear hs2 hr2 Br Bt
      by_cases he : e = 0
      · by_cases hv : b2 < v
        · have HE := Lib.hid (show bestS S id 1 = (2 * id, v, bd) from by rw [HNx.out, if_pos ⟨he, hv⟩])
          go_wp2_with fail
          have HP := HI.out.put (b' := (2 * id, v, bd)) (sl := (qs, ns, cs)) HT.out.1 HT.out.2.1 HT.out.2.2.1 HS2.out.1 HS2.out.2
          refine ⟨⟨1, by omega, rfl, ?_⟩, by decide⟩
          rw [HE.out]
          exact HP
        · have HE := Lib.hid (show bestS S id 1 = (b1, b2, b3) from by rw [HNx.out, if_neg (fun h => hv h.2)])
          go_wp2_with fail
          exact ⟨⟨1, by omega, rfl, by rw [HE.out]; exact HI.out⟩, by decide⟩
      · have HE := Lib.hid (show bestS S id 1 = (b1, b2, b3) from by rw [HNx.out, if_neg (fun h => he h.1)])
        go_wp2_with fail
        exact ⟨⟨1, by omega, rfl, by rw [HE.out]; exact HI.out⟩, by decide⟩
    · obtain rfl : _ = Value.int .i64 1 := hiv
      have hn : (bestS S id (1 + 1)) = if (recAt S (2 * id + 1)).2.2 = 0 ∧ (bestS S id 1).2.1 < (recAt S (2 * id + 1)).1 then (2 * id + 1, (recAt S (2 * id + 1)).1, (recAt S (2 * id + 1)).2.1) else bestS S id 1 := by rw [bestS_succ]; rfl
      have HNx := Lib.hid hn
      have HI1 := Lib.hid hI
      have hBs : wr.cell? ⟨s, 0, none⟩ = some (.pointer (some ⟨d, 0, none⟩)) := (HS.out.blk.on HI1.out.1).cell 0
      clear hn hI
      generalize bestS S id 1 = b at *
      go_upto_region 6 with (go_at_call 40; refine (HG.out (2 * id + 1) (by unfold In64; omega) _ HI1.out.1).mono ?_; rintro e_ w1 ⟨s1, rfl, hs1, hr1, gb1⟩)
      have HQ := Lib.hid (sread_c base s1 w1 hs1 (by rw [← hs1.len, hr1]; exact HZ.out _))
      rw [hr1] at HQ
      rw [show readL ((S.get (2 * id + 1)).getD []) = recAt S (2 * id + 1) from rfl] at HQ
      have HI2 := Lib.hid (HI1.out.on gb1)
      generalize recAt S (2 * id + 1) = x at *
      obtain ⟨v, bd, e⟩ := x
      go_upto_region 7 with (go_at_call 14; refine HQ.out.mono ?_; rintro e_ w2 ⟨s2, rfl, hs2, hr2, gb2⟩)
      have HI := Lib.hid (HI2.out.on gb2)
      clear HI1 HI2 gb1 gb2 hs1 hr1 HQ
      obtain ⟨b1, b2, b3⟩ := b
      have HIc := HI.out
      obtain ⟨-, Br, sl, Bt, -, -⟩ := HIc
      obtain ⟨t0, t1, t2, f0, f1, f2⟩ := Bt.c3
      obtain ⟨qs, ns, cs⟩ := s2
      obtain ⟨ql, nl, cl⟩ := sl
      simp only [slV] at t2 ⊢
      have HS2 := Lib.hid (And.intro hs2 hr2)
      clear hs2 hr2 Br Bt
      by_cases he : e = 0
      · by_cases hv : b2 < v
        · have HE := Lib.hid (show bestS S id 2 = (2 * id + 1, v, bd) from by rw [HNx.out, if_pos ⟨he, hv⟩])
          go_wp2_with fail
          have HP := HI.out.put (b' := (2 * id + 1, v, bd)) (sl := (qs, ns, cs)) HT.out.1 HT.out.2.1 HT.out.2.2.1 HS2.out.1 HS2.out.2
          refine ⟨⟨2, by omega, rfl, ?_⟩, by decide⟩
          rw [HE.out]
          exact HP
        · have HE := Lib.hid (show bestS S id 2 = (b1, b2, b3) from by rw [HNx.out, if_neg (fun h => hv h.2)])
          go_wp2_with fail
          exact ⟨⟨2, by omega, rfl, by rw [HE.out]; exact HI.out⟩, by decide⟩
      · have HE := Lib.hid (show bestS S id 2 = (b1, b2, b3) from by rw [HNx.out, if_neg (fun h => he h.1)])
        go_wp2_with fail
        exact ⟨⟨2, by omega, rfl, by rw [HE.out]; exact HI.out⟩, by decide⟩
    · obtain rfl : _ = Value.int .i64 2 := hiv
      obtain ⟨⟨b1, b2, b3⟩, hb⟩ : ∃ b, bestS S id 2 = b := ⟨_, rfl⟩
      rw [hb] at hI
      have HB := Lib.hid hb
      clear hb
      have HI := Lib.hid hI
      obtain ⟨-, Br, ⟨ql, nl, cl⟩, Bt, hg, hr⟩ := hI
      have HGR := Lib.hid (And.intro hg hr)
      simp only [slV] at Bt
      have HBr := Lib.hid Br
      obtain ⟨t0, t1, t2, f0, f1, f2⟩ := Bt.c3
      obtain ⟨r0, r1, r2, q0, q1, q2⟩ := Br.c3
      clear Br Bt hg hr
      go_wp2_with fail
      have R2 := HBr.out.st3 (.int .i64 b1) (.int .i64 b2) (.slice ql nl cl)
      obtain ⟨d0, d1, d2, -, -, -⟩ := R2.c3
      have hg := good_rec HBr.out HGR.out.1 HT.out.2.2.2 (.int .i64 b1) (.int .i64 b2) (.slice ql nl cl)
      refine bodyPost_ret (v := .agg #[.int .i64 b1, .int .i64 b2, .slice ql nl cl]) (by simp [results, Try.results37, go_sem, d0, d1, d2]) rfl ?_
      rw [HB.out]
      exact ⟨(ql, nl, cl), rfl, hg.1, hg.2.trans HGR.out.2, far_below3 (Below.refl _ _) HI.out.1 (Nat.le_refl _) rfl⟩
end Go.Proofs.Ytkopenemoddbbaa
