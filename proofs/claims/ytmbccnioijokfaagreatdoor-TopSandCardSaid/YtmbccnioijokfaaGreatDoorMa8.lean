/- Texts that build one behind the other, laid together: WdR NewT QueP QueA QueB QueC QueD QueE QueF QueG QueH FlowT Flow2 Flow3 SimT LinN LinB LinT BldT. -/
import Derived.Test.YtmbccnioijokfaaGreatDoorMa7
import Derived.Test.YtmbccnioijokfaaGreatDoorMa2
import Derived.WideKeyArgs
import Derived.DeepKeys4
import Derived.MapViews
import Derived.Maps.OwnSet
import Derived.Test.YtmbccnioijokfaaGreatDoorMa1
import Derived.Lib.SliceRun
import Derived.Test.YtmbccnioijokfaaGreatDoorMa6
import Derived.Test.YtmbccnioijokfaaGreatDoorMa3
import Derived.Great.BuildSlice
import Derived.Test.YtmbccnioijokfaaGreatDoorMa4
import Derived.Laws.RangeString
import Derived.Laws.RangeAny
import Derived.Test.YtmbccnioijokfaaGreatDoorMa5
import Derived.Lib.FrozenHead
import Derived.Lib.UnsafeStr
import Derived.Lib.AppendStr
import Derived.Laws.Externs
namespace Go.Proofs.YtmbccnioijokfaaGreatDoor
open Go.RowKit Go.Shelf
attribute [local go_sem] Oper.semAt_some
def ringL (a b : Int) : List (Int × Int) := [(a, b), (a - 1, b), (a + 1, b), (a, b - 1), (a, b + 1)]
def TS.ready (T : TS) (x z : Int) : Bool := (ringL (x / 16) (z / 16)).all fun p => decide (p ∈ T.here)
theorem ring_get {a b : Int} {k : Nat} (hk : k < 5) : ∃ p, (ringL a b)[k]? = some p := ⟨_, List.getElem?_eq_getElem hk⟩
theorem all_stop {l : List (Int × Int)} {q : Int × Int → Bool} {k : Nat} {p : Int × Int} (h : l[k]? = some p) (hq : q p = false) : l.all q = false := by
  rw [List.all_eq_false]
  exact ⟨p, List.mem_of_getElem? h, by rw [hq]; decide⟩
theorem all_go {l : List (Int × Int)} {q : Int × Int → Bool} (h : ∀ (j : Nat) (p : Int × Int), l[j]? = some p → q p = true) : l.all q = true := by
  rw [List.all_eq_true]
  intro x hx
  obtain ⟨j, hj⟩ := List.getElem?_of_mem hx
  exact h j x hj
theorem at5_0 (a0 a1 a2 a3 a4 a5 a6 a7 a8 a9 : Value) (w : World) : (Instr.index 297 (.agg #[a0, a1, a2, a3, a4, a5, a6, a7, a8, a9]) (.int .i64 0)).run Tryz.prog w = .ok (.agg #[a0, a1]) w := by kernel_rfl
theorem at5_1 (a0 a1 a2 a3 a4 a5 a6 a7 a8 a9 : Value) (w : World) : (Instr.index 297 (.agg #[a0, a1, a2, a3, a4, a5, a6, a7, a8, a9]) (.int .i64 1)).run Tryz.prog w = .ok (.agg #[a2, a3]) w := by kernel_rfl
theorem at5_2 (a0 a1 a2 a3 a4 a5 a6 a7 a8 a9 : Value) (w : World) : (Instr.index 297 (.agg #[a0, a1, a2, a3, a4, a5, a6, a7, a8, a9]) (.int .i64 2)).run Tryz.prog w = .ok (.agg #[a4, a5]) w := by kernel_rfl
theorem at5_3 (a0 a1 a2 a3 a4 a5 a6 a7 a8 a9 : Value) (w : World) : (Instr.index 297 (.agg #[a0, a1, a2, a3, a4, a5, a6, a7, a8, a9]) (.int .i64 3)).run Tryz.prog w = .ok (.agg #[a6, a7]) w := by kernel_rfl
theorem at5_4 (a0 a1 a2 a3 a4 a5 a6 a7 a8 a9 : Value) (w : World) : (Instr.index 297 (.agg #[a0, a1, a2, a3, a4, a5, a6, a7, a8, a9]) (.int .i64 4)).run Tryz.prog w = .ok (.agg #[a8, a9]) w := by kernel_rfl
set_option maxRecDepth 100000 in
set_option maxHeartbeats 4000000 in
theorem wready_c (wd t k : Nat) (T : TS) (x y z : Int) (w : World) (M : Nat → Prop) (h : WdA wd t T k w M) (hx : -1000000000000000 ≤ x ∧ x ≤ 1000000000000000) (hz : -1000000000000000 ≤ z ∧ z ≤ 1000000000000000) (hn : T.l.length ≤ 1000) :
    Calls Tryz.prog 181 #[.pointer (some ⟨wd, 0, none⟩), .agg #[.int .i64 x, .int .i64 y, .int .i64 z]] w fun r w' => r = .returned (.bool (T.ready x z)) ∧ Below w.heap.size w w' := by
  obtain ⟨v, xs, Mt, h1, -, -, h4, -⟩ := h
  obtain ⟨W, hW⟩ : ∃ W, W = w.alloc (.cells #[.int .i64 x, .int .i64 y, .int .i64 z] 43) := ⟨_, rfl⟩
  have H : Below w.heap.size w W := by rw [hW]; exact (Below.refl _ _).alloc (Nat.le_refl _) _
  have C : Blk W w.heap.size 43 #[.int .i64 x, .int .i64 y, .int .i64 z] := Blk.fresh hW
  have HHR := Lib.hid (there_c t T W Mt ((tbA_fit t T).on h4 H) hn)
  have HCH := Lib.hid fun W2 => cchunk_c x y z (by unfold In64; omega) (by unfold In64; omega) W2
  have HBE := Lib.hid fun W2 => cbeside_c (x / 16) (z / 16) (by omega) (by omega) W2
  have hlen : T.here.length ≤ 1000 := by unfold TS.here; rw [List.length_map]; exact hn
  have HC := Lib.hid C
  have HH := Lib.hid H
  have w0 := (h1.on H).cell 0
  unfold TS.ready
  generalize x / 16 = a at *
  generalize z / 16 = b at *
  generalize T.here = xh at *
  clear h1 h4 H C hx hz hn
  go_enter Tryz.func181, Tryz.ntmps181
  go_upto_region 1 with (fail)
  rw [← hW]
  clear hW
  go_upto_region 2 with (go_at_call 104; refine HHR.out.mono ?_; rintro e_ w1 ⟨v1, rfl, o1, g1⟩; have O1 := Lib.hid o1; have G1 := Lib.hid g1; clear o1 g1)
  clear w0
  obtain ⟨c0, c1, c2, -, -, -⟩ := (HC.out.on G1.out).c3
  go_upto_region 3 with first
    | (go_at_call 108; refine (HCH.out _).mono ?_; rintro e_ w2 ⟨rfl, g2⟩; have O2 := Lib.hid (O1.out.on g2); have G2 := Lib.hid (after G1.out g2); clear g2)
    | (go_at_call 235; refine (HBE.out _).mono ?_; rintro e_ w3 ⟨rfl, g3⟩; have G3 := Lib.hid (after G2.out g3); have O3 := Lib.hid (O2.out.on g3); clear g3)
  unfold besides
  obtain ⟨q, cp, rfl, -, -, hrd, -⟩ := O3.out.form lenP
  have HRD := Lib.hid hrd
  clear hrd c0 c1 c2 HCH HBE O1 O2 O3
  go_loopw [7, 16] (fun _ iv wr => ∃ (k : Nat), iv = .int .i64 (k : Nat) ∧ Hid (k ≤ 5) ∧ Hid (∀ (j : Nat) (p : Int × Int), j < k → (ringL a b)[j]? = some p → decide (p ∈ xh) = true) ∧ Hid (Below w3.heap.size w3 wr)) (fun _ v _ => 5 - (intOf v).toNat)
  case atStart => exact ⟨0, rfl, Lib.hid (by omega), Lib.hid (fun j p hj => by omega), Lib.hid (Below.refl _ _)⟩
  case round =>
    obtain ⟨k, rfl, hk, hno, H⟩ := hrel
    by_cases hlt : k < 5
    · have hlt' : (k : Int) < 5 := by omega
      obtain ⟨p, hp⟩ := ring_get (a := a) (b := b) hlt
      have HP := Lib.hid hp
      have hcase : k = 0 ∨ k = 1 ∨ k = 2 ∨ k = 3 ∨ k = 4 := by omega
      have HCO := Lib.hid fun (W1 : World) (h : Below w3.heap.size w3 W1) => pcont_c q cp xh (by omega) p W1 (HRD.out.on h)
      have HK := Lib.hid hlt
      clear hp
      have i0 := at5_0
      have i1 := at5_1
      have i2 := at5_2
      have i3 := at5_3
      have i4 := at5_4
      cases hd : decide (p ∈ xh)
      · rw [hd] at HCO
        have HD := Lib.hid hd
        clear hd
        rcases hcase with rfl | rfl | rfl | rfl | rfl
        · obtain rfl : (a, b) = p := Option.some.inj HP.out
          obtain ⟨W5, hW5⟩ : ∃ W5, W5 = wr.alloc (.cells #[.int .i64 (a), .int .i64 (b)] 123) := ⟨_, rfl⟩
          have h5 : Below wr.heap.size wr W5 := by rw [hW5]; exact bel_alloc _ _
          have x0 := (Blk.fresh hW5).cell 0
          have x1 := (Blk.fresh hW5).cell 1
          have HC5 := Lib.hid (HCO.out W5 (after H.out h5))
          go_upto_region 5 with (fail)
          rw [← hW5]
          clear hW5
          go_wp2_with (go_at_call 236; refine HC5.out.mono ?_; rintro e_ w4 ⟨rfl, g4⟩; have G4 := Lib.hid (after (after H.out h5) g4); clear g4)
          go_returns
          exact ⟨congrArg (fun b => Ending.returned (.bool b)) (all_stop HP.out HD.out).symm, after (after HH.out G3.out) G4.out⟩
        · obtain rfl : (a - 1, b) = p := Option.some.inj HP.out
          obtain ⟨W5, hW5⟩ : ∃ W5, W5 = wr.alloc (.cells #[.int .i64 (a - 1), .int .i64 (b)] 123) := ⟨_, rfl⟩
          have h5 : Below wr.heap.size wr W5 := by rw [hW5]; exact bel_alloc _ _
          have x0 := (Blk.fresh hW5).cell 0
          have x1 := (Blk.fresh hW5).cell 1
          have HC5 := Lib.hid (HCO.out W5 (after H.out h5))
          go_upto_region 5 with (fail)
          rw [← hW5]
          clear hW5
          go_wp2_with (go_at_call 236; refine HC5.out.mono ?_; rintro e_ w4 ⟨rfl, g4⟩; have G4 := Lib.hid (after (after H.out h5) g4); clear g4)
          go_returns
          exact ⟨congrArg (fun b => Ending.returned (.bool b)) (all_stop HP.out HD.out).symm, after (after HH.out G3.out) G4.out⟩
        · obtain rfl : (a + 1, b) = p := Option.some.inj HP.out
          obtain ⟨W5, hW5⟩ : ∃ W5, W5 = wr.alloc (.cells #[.int .i64 (a + 1), .int .i64 (b)] 123) := ⟨_, rfl⟩
          have h5 : Below wr.heap.size wr W5 := by rw [hW5]; exact bel_alloc _ _
          have x0 := (Blk.fresh hW5).cell 0
          have x1 := (Blk.fresh hW5).cell 1
          have HC5 := Lib.hid (HCO.out W5 (after H.out h5))
          go_upto_region 5 with (fail)
          rw [← hW5]
          clear hW5
          go_wp2_with (go_at_call 236; refine HC5.out.mono ?_; rintro e_ w4 ⟨rfl, g4⟩; have G4 := Lib.hid (after (after H.out h5) g4); clear g4)
          go_returns
          exact ⟨congrArg (fun b => Ending.returned (.bool b)) (all_stop HP.out HD.out).symm, after (after HH.out G3.out) G4.out⟩
        · obtain rfl : (a, b - 1) = p := Option.some.inj HP.out
          obtain ⟨W5, hW5⟩ : ∃ W5, W5 = wr.alloc (.cells #[.int .i64 (a), .int .i64 (b - 1)] 123) := ⟨_, rfl⟩
          have h5 : Below wr.heap.size wr W5 := by rw [hW5]; exact bel_alloc _ _
          have x0 := (Blk.fresh hW5).cell 0
          have x1 := (Blk.fresh hW5).cell 1
          have HC5 := Lib.hid (HCO.out W5 (after H.out h5))
          go_upto_region 5 with (fail)
          rw [← hW5]
          clear hW5
          go_wp2_with (go_at_call 236; refine HC5.out.mono ?_; rintro e_ w4 ⟨rfl, g4⟩; have G4 := Lib.hid (after (after H.out h5) g4); clear g4)
          go_returns
          exact ⟨congrArg (fun b => Ending.returned (.bool b)) (all_stop HP.out HD.out).symm, after (after HH.out G3.out) G4.out⟩
        · obtain rfl : (a, b + 1) = p := Option.some.inj HP.out
          obtain ⟨W5, hW5⟩ : ∃ W5, W5 = wr.alloc (.cells #[.int .i64 (a), .int .i64 (b + 1)] 123) := ⟨_, rfl⟩
          have h5 : Below wr.heap.size wr W5 := by rw [hW5]; exact bel_alloc _ _
          have x0 := (Blk.fresh hW5).cell 0
          have x1 := (Blk.fresh hW5).cell 1
          have HC5 := Lib.hid (HCO.out W5 (after H.out h5))
          go_upto_region 5 with (fail)
          rw [← hW5]
          clear hW5
          go_wp2_with (go_at_call 236; refine HC5.out.mono ?_; rintro e_ w4 ⟨rfl, g4⟩; have G4 := Lib.hid (after (after H.out h5) g4); clear g4)
          go_returns
          exact ⟨congrArg (fun b => Ending.returned (.bool b)) (all_stop HP.out HD.out).symm, after (after HH.out G3.out) G4.out⟩
      · rw [hd] at HCO
        have hno2 : ∀ (j : Nat) (p : Int × Int), j < k + 1 → (ringL a b)[j]? = some p → decide (p ∈ xh) = true := fun j p' hj hp' => by
          rcases Nat.lt_or_eq_of_le (Nat.le_of_lt_succ hj) with h | rfl
          · exact hno.out j p' h hp'
          · rw [HP.out] at hp'
            obtain rfl := Option.some.inj hp'
            exact hd
        have HN2 := Lib.hid hno2
        clear hd hno2 hno
        rcases hcase with rfl | rfl | rfl | rfl | rfl
        · obtain rfl : (a, b) = p := Option.some.inj HP.out
          obtain ⟨W5, hW5⟩ : ∃ W5, W5 = wr.alloc (.cells #[.int .i64 (a), .int .i64 (b)] 123) := ⟨_, rfl⟩
          have h5 : Below wr.heap.size wr W5 := by rw [hW5]; exact bel_alloc _ _
          have x0 := (Blk.fresh hW5).cell 0
          have x1 := (Blk.fresh hW5).cell 1
          have HC5 := Lib.hid (HCO.out W5 (after H.out h5))
          go_upto_region 5 with (fail)
          rw [← hW5]
          clear hW5
          go_wp2_with (go_at_call 236; refine HC5.out.mono ?_; rintro e_ w4 ⟨rfl, g4⟩; have G4 := Lib.hid (after (after H.out h5) g4); clear g4)
          exact ⟨⟨1, by go_num, Lib.hid (by omega), Lib.hid HN2.out, G4⟩, by simp [intOf]⟩
        · obtain rfl : (a - 1, b) = p := Option.some.inj HP.out
          obtain ⟨W5, hW5⟩ : ∃ W5, W5 = wr.alloc (.cells #[.int .i64 (a - 1), .int .i64 (b)] 123) := ⟨_, rfl⟩
          have h5 : Below wr.heap.size wr W5 := by rw [hW5]; exact bel_alloc _ _
          have x0 := (Blk.fresh hW5).cell 0
          have x1 := (Blk.fresh hW5).cell 1
          have HC5 := Lib.hid (HCO.out W5 (after H.out h5))
          go_upto_region 5 with (fail)
          rw [← hW5]
          clear hW5
          go_wp2_with (go_at_call 236; refine HC5.out.mono ?_; rintro e_ w4 ⟨rfl, g4⟩; have G4 := Lib.hid (after (after H.out h5) g4); clear g4)
          exact ⟨⟨2, by go_num, Lib.hid (by omega), Lib.hid HN2.out, G4⟩, by simp [intOf]⟩
        · obtain rfl : (a + 1, b) = p := Option.some.inj HP.out
          obtain ⟨W5, hW5⟩ : ∃ W5, W5 = wr.alloc (.cells #[.int .i64 (a + 1), .int .i64 (b)] 123) := ⟨_, rfl⟩
          have h5 : Below wr.heap.size wr W5 := by rw [hW5]; exact bel_alloc _ _
          have x0 := (Blk.fresh hW5).cell 0
          have x1 := (Blk.fresh hW5).cell 1
          have HC5 := Lib.hid (HCO.out W5 (after H.out h5))
          go_upto_region 5 with (fail)
          rw [← hW5]
          clear hW5
          go_wp2_with (go_at_call 236; refine HC5.out.mono ?_; rintro e_ w4 ⟨rfl, g4⟩; have G4 := Lib.hid (after (after H.out h5) g4); clear g4)
          exact ⟨⟨3, by go_num, Lib.hid (by omega), Lib.hid HN2.out, G4⟩, by simp [intOf]⟩
        · obtain rfl : (a, b - 1) = p := Option.some.inj HP.out
          obtain ⟨W5, hW5⟩ : ∃ W5, W5 = wr.alloc (.cells #[.int .i64 (a), .int .i64 (b - 1)] 123) := ⟨_, rfl⟩
          have h5 : Below wr.heap.size wr W5 := by rw [hW5]; exact bel_alloc _ _
          have x0 := (Blk.fresh hW5).cell 0
          have x1 := (Blk.fresh hW5).cell 1
          have HC5 := Lib.hid (HCO.out W5 (after H.out h5))
          go_upto_region 5 with (fail)
          rw [← hW5]
          clear hW5
          go_wp2_with (go_at_call 236; refine HC5.out.mono ?_; rintro e_ w4 ⟨rfl, g4⟩; have G4 := Lib.hid (after (after H.out h5) g4); clear g4)
          exact ⟨⟨4, by go_num, Lib.hid (by omega), Lib.hid HN2.out, G4⟩, by simp [intOf]⟩
        · obtain rfl : (a, b + 1) = p := Option.some.inj HP.out
          obtain ⟨W5, hW5⟩ : ∃ W5, W5 = wr.alloc (.cells #[.int .i64 (a), .int .i64 (b + 1)] 123) := ⟨_, rfl⟩
          have h5 : Below wr.heap.size wr W5 := by rw [hW5]; exact bel_alloc _ _
          have x0 := (Blk.fresh hW5).cell 0
          have x1 := (Blk.fresh hW5).cell 1
          have HC5 := Lib.hid (HCO.out W5 (after H.out h5))
          go_upto_region 5 with (fail)
          rw [← hW5]
          clear hW5
          go_wp2_with (go_at_call 236; refine HC5.out.mono ?_; rintro e_ w4 ⟨rfl, g4⟩; have G4 := Lib.hid (after (after H.out h5) g4); clear g4)
          exact ⟨⟨5, by go_num, Lib.hid (by omega), Lib.hid HN2.out, G4⟩, by simp [intOf]⟩
    · have hk5 : k = 5 := by have := hk.out; omega
      subst hk5
      go_wp2_with fail
      go_returns
      exact ⟨congrArg (fun b => Ending.returned (.bool b)) (all_go fun j p hp => hno.out j p (show j < (ringL a b).length from (List.getElem?_eq_some_iff.1 hp).1) hp).symm, after (after HH.out G3.out) H.out⟩
end Go.Proofs.YtmbccnioijokfaaGreatDoor

namespace Go.Proofs.YtmbccnioijokfaaGreatDoor
open Go.RowKit Go.Shelf
attribute [local go_sem] Oper.semAt_some
theorem snew_t (R : Int) (w : World) :
    Calls Tryz.prog 161 #[.int .i64 R] w fun r w' => ∃ s d Ms, r = .returned (.pointer (some ⟨s, 0, none⟩)) ∧ StoreIs w' 0 Ms s d (newS R) ∧ (∀ b, Ms b → w.heap.size ≤ b) ∧ w.heap.size ≤ s ∧ Below w.heap.size w w' := by
  have HN := Lib.hid (new_c R 0 w (Nat.zero_le _))
  go_enter Tryz.func161, Tryz.ntmps161
  go_wp2_with (go_at_call 209; refine HN.out.mono ?_; rintro e_ w1 ⟨d, M, rfl, D1, n1, h1⟩)
  go_returns
  obtain ⟨W2, hW⟩ : ∃ W2, W2 = w1.alloc (.cells #[.pointer (some ⟨d, 0, none⟩)] 151) := ⟨_, rfl⟩
  rw [← hW]
  have C := Blk.fresh hW
  have h2 : Below w1.heap.size w1 W2 := by rw [hW]; exact bel_alloc _ _
  exact ⟨_, d, M, rfl, ⟨C, D1.on h2, Nat.zero_le _⟩, n1, h1.size, after h1 h2⟩
def limI (n : Int) : Int := mnI (mxI n 1) 16
def newT (seed lim R : Int) : TS := ⟨seed, limI lim, [], newS R⟩
def NewTR (seed lim R : Int) (w : World) (r : Ending) (w' : World) : Prop := ∃ t M, r = .returned (.pointer (some ⟨t, 0, none⟩)) ∧ TbA t (newT seed lim R) w' M ∧ (∀ b, M b → w.heap.size ≤ b) ∧ Below w.heap.size w w'
theorem tnew_c (seed lim R : Int) (w : World) : Calls Tryz.prog 113 #[.int .i64 seed, .int .i64 lim, .int .i64 R] w fun r w' => NewTR seed lim R w r w' := by
  have HN := Lib.hid (snew_t R w)
  have hmn := @run_mn Tryz.prog
  have hmx := @run_mx Tryz.prog
  go_enter Tryz.func113, Tryz.ntmps113
  go_wp2_with (go_at_call 161; refine HN.out.mono ?_; rintro e_ w1 ⟨s, d, Ms, rfl, D1, n1, n2, h1⟩)
  go_returns
  obtain ⟨W2, hW⟩ : ∃ W2, W2 = w1.alloc (.cells #[.pointer (some ⟨s, 0, none⟩), .int .i64 seed, .int .i64 (limI lim), .slice none 0 0] 135) := ⟨_, rfl⟩
  have C := Blk.fresh hW
  have h2 : Below w1.heap.size w1 W2 := by rw [hW]; exact bel_alloc _ _
  unfold limI at hW
  rw [← hW]
  refine ⟨_, TbM w1.heap.size s (.slice none 0 0) Ms (fun _ => False), rfl, ⟨s, d, _, [], Ms, fun _ => False, ⟨C, D1.on h2, Owns.nil, fun _ h => h, rfl⟩, fun _ => Iff.rfl⟩, fun b hb => ?_, after h1 h2⟩
  rcases hb with rfl | rfl | hb | hb | hb
  · exact h1.size
  · exact n2
  · exact n1 _ hb
  · cases hb
  · cases hb
def NewWR (seed lim R : Int) (w : World) (r : Ending) (w' : World) : Prop := ∃ wd t M, r = .returned (.pointer (some ⟨wd, 0, none⟩)) ∧ WdA wd t (newT seed lim R) 0 w' M ∧ (∀ b, M b → w.heap.size ≤ b) ∧ Below w.heap.size w w'
theorem wnew_c (seed lim R : Int) (w : World) : Calls Tryz.prog 72 #[.int .i64 seed, .int .i64 lim, .int .i64 R] w fun r w' => NewWR seed lim R w r w' := by
  have HN := Lib.hid (tnew_c seed lim R w)
  go_enter Tryz.func72, Tryz.ntmps72
  go_wp2_with (go_at_call 113; refine HN.out.mono ?_; rintro e_ w1 ⟨t, Mt, rfl, T1, n1, h1⟩)
  go_returns
  obtain ⟨W2, hW⟩ : ∃ W2, W2 = w1.alloc (.cells #[.pointer (some ⟨t, 0, none⟩), .slice none 0 0] 114) := ⟨_, rfl⟩
  have C := Blk.fresh hW
  have h2 : Below w1.heap.size w1 W2 := by rw [hW]; exact bel_alloc _ _
  rw [← hW]
  refine ⟨_, t, fun b => b = w1.heap.size ∨ Value.ownBlock (.slice none 0 0) = some b ∨ Mt b, rfl, ⟨.slice none 0 0, [], Mt, C, Owns.nil, Nat.zero_le _, (tbA_fit t _).on T1 h2, fun _ => Iff.rfl⟩, fun b hb => ?_, after h1 h2⟩
  rcases hb with rfl | hb | hb
  · exact h1.size
  · cases hb
  · exact n1 _ hb
end Go.Proofs.YtmbccnioijokfaaGreatDoor

namespace Go.Proofs.YtmbccnioijokfaaGreatDoor
open Go.RowKit Go.Maps
attribute [local go_sem] Oper.semAt_some
theorem wideC : (match Tryz.prog.underlying 43 with | some (.array _ _) | some (.struct _) => true | _ => false) = true := by rw [Tryz.underlying43]
set_option maxRecDepth 100000 in
theorem rowC : (43 : TypeId) < Tryz.prog.types.size := of_decide_eq_true (by kernel_rfl)
set_option maxRecDepth 100000 in
theorem lawC : Keyed Tryz.prog 43 := Keyed.of_law (deep_law_laid laidOut (m := 2) (by omega) rowC (by kernel_rfl) wideC)
def kc (c : Cl) : Lit := .string (keyBytes [.int .i64 c.1, .int .i64 c.2.1, .int .i64 c.2.2])
abbrev cellV (c : Cl) : Value := .agg #[.int .i64 c.1, .int .i64 c.2.1, .int .i64 c.2.2]
def In3 (c : Cl) : Prop := In64 c.1 ∧ In64 c.2.1 ∧ In64 c.2.2
theorem kt : Tryz.prog.keyType 43 = true := by kernel_rfl
theorem fmC (a b c : Value) : (Value.agg #[a, b, c]).formed Tryz.prog 43 = true := by
  have e : Tryz.prog.cellsOf 43 = 3 := by kernel_rfl
  simp [Value.formed, Tryz.underlying43, e]
theorem litsC (n : Nat) {a b c : Int} (ha : In64 a) (hb : In64 b) (hc : In64 c) : Tryz.prog.keyLits (n + 2) 43 [.int .i64 a, .int .i64 b, .int .i64 c] = some [.int .i64 a, .int .i64 b, .int .i64 c] := by
  have e : Tryz.prog.cellsOf 43 = 3 := by kernel_rfl
  have e1 : Tryz.prog.cellsOf 3 = 1 := by kernel_rfl
  have hi : ∀ x : Int, In64 x → Tryz.prog.keyLits (n + 1) 3 [.int .i64 x] = some [.int .i64 x] := fun x hx => by
    unfold Program.keyLits
    rw [Tryz.underlying3]
    dsimp only
    rw [if_pos ⟨rfl, wf64 hx⟩]
  unfold Program.keyLits
  rw [Tryz.underlying43]
  simp [e, e1, hi _ ha, hi _ hb, hi _ hc]
theorem pos_succ : ∀ {m n : Nat}, m < n → ∃ k, n = k + 1
  | _, 0, h => absurd h (Nat.not_lt_zero _)
  | _, k + 1, _ => ⟨k, rfl⟩
theorem sizeT : ∃ n, Tryz.prog.types.size = n + 1 := pos_succ rowC
theorem keyC {c : Cl} (h : In3 c) : keyOf Tryz.prog 43 (cellV c) = some (kc c) := by
  unfold keyOf
  rw [Tryz.underlying43]
  dsimp only
  rw [kt, fmC]
  obtain ⟨n, hn⟩ := sizeT
  rw [hn]
  have := litsC n h.1 h.2.1 h.2.2
  simp only [Bool.and_self, if_true]
  rw [show (cellV c).cells.toList = [.int .i64 c.1, .int .i64 c.2.1, .int .i64 c.2.2] from rfl, this]
  rfl
theorem kc_inj {c d : Cl} (h : In3 c) (g : In3 d) (e : kc c = kc d) : c = d := by
  have h1 := keyC h
  have h2 := keyC g
  rw [← e] at h2
  have := lawC.inj h1 h2
  simp only [cellV, Value.agg.injEq] at this
  obtain ⟨a, b, cc⟩ := c
  obtain ⟨a', b', cc'⟩ := d
  simp at this
  obtain ⟨h3, h4, h5⟩ := this
  subst h3 h4 h5
  rfl
abbrev QI := Int × Cl
abbrev encQ (x : QI) : List Value := [.int .i64 x.1, .int .i64 x.2.1, .int .i64 x.2.2.1, .int .i64 x.2.2.2]
theorem lenQ (x : QI) : (encQ x).length = 4 := rfl
structure QS where
  room : Int
  lost : Int
  l : List QI
def atQ (l : List QI) (c : Cl) : Int := match l.find? fun p => decide (p.2 = c) with
  | some p => p.1
  | none => 0
def hasQ (l : List QI) (c : Cl) : Bool := l.any fun p => decide (p.2 = c)
abbrev DU := DataW Unit
structure Tell (D : DU) (l : List QI) : Prop where
  size : Maps.size D = l.length
  has : ∀ c, In3 c → Maps.has D (kc c) = hasQ l c
  at_ : ∀ c, In3 c → D.atKey (kc c) (.lit (.int .i64 0)) = .lit (.int .i64 (atQ l c))
  far : ∀ p ∈ l, In3 p.2 ∧ In64 p.1
theorem tell_nil : Tell (.map []) [] := ⟨rfl, fun _ _ => rfl, fun _ _ => rfl, fun p hp => by cases hp⟩
theorem isKey_kc (c : Cl) : WideAt.IsKeyLit (kc c) := trivial
theorem Tell.push {D : DU} {l : List QI} (h : Tell D l) (hT : Tidy D) {t : Int} {c : Cl} (hc : In3 c) (ht : In64 t) (hn : hasQ l c = false) : Tell (D.put (kc c) (.lit (.int .i64 t))) (l ++ [(t, c)]) where
  size := by
    have := h.has c hc
    rw [hn] at this
    rw [size_put hT, this, h.size]; simp
  has := fun d hd => by
    by_cases e : d = c
    · subst e
      rw [has_put_same hT.isMap (isKey_kc d)]
      simp [hasQ]
    · rw [has_put_other (fun e' => e (kc_inj hd hc e')), h.has d hd]
      have : ¬ c = d := fun e' => e e'.symm
      simp [hasQ, this]
  at_ := fun d hd => by
    by_cases e : d = c
    · subst e
      rw [atKey_put_same hT.isMap (isKey_kc d)]
      have : l.find? (fun p => decide (p.2 = d)) = none := by
        rw [List.find?_eq_none]
        intro x hx hd2
        unfold hasQ at hn
        rw [List.any_eq_false] at hn
        exact hn x hx hd2
      simp [atQ, List.find?_append, this]
    · rw [atKey_put_other (fun e' => e (kc_inj hd hc e')), h.at_ d hd]
      have h1 : ¬ c = d := fun e' => e e'.symm
      simp [atQ, List.find?_append, h1]
  far := fun p hp => by
    rcases List.mem_append.1 hp with hp | hp
    · exact h.far p hp
    · obtain rfl := List.mem_singleton.1 hp
      exact ⟨hc, ht⟩
theorem Tell.pop {D : DU} {l : List QI} {t : Int} {c : Cl} (h : Tell D ((t, c) :: l)) (hT : Tidy D) (hn : hasQ l c = false) : Tell (D.del (kc c)) l where
  size := by
    have h1 := size_del (k := kc c) hT
    have hc := (h.far (t, c) List.mem_cons_self).1
    rw [h.has c hc, h.size] at h1
    simp [hasQ] at h1
    exact h1
  has := fun d hd => by
    have hc := (h.far (t, c) List.mem_cons_self).1
    by_cases e : d = c
    · subst e
      rw [has_del_same, hn]
    · rw [has_del_other (fun e' => e (kc_inj hd hc e')), h.has d hd]
      have : ¬ c = d := fun e' => e e'.symm
      simp [hasQ, this]
  at_ := fun d hd => by
    have hc := (h.far (t, c) List.mem_cons_self).1
    by_cases e : d = c
    · subst e
      have : l.find? (fun p => decide (p.2 = d)) = none := by
        rw [List.find?_eq_none]
        intro x hx hd2
        unfold hasQ at hn
        rw [List.any_eq_false] at hn
        exact hn x hx hd2
      rw [atKey_del_same]
      simp [atQ, this]
    · rw [atKey_del_other (fun e' => e (kc_inj hd hc e')), h.at_ d hd]
      have h1 : ¬ c = d := fun e' => e e'.symm
      simp [atQ, h1]
  far := fun p hp => h.far p (List.mem_cons_of_mem _ hp)
end Go.Proofs.YtmbccnioijokfaaGreatDoor

namespace Go.Proofs.YtmbccnioijokfaaGreatDoor
open Go.RowKit Go.Maps
attribute [local go_sem] Oper.semAt_some
noncomputable abbrev RI : Value → Option (DU × List MemPlace) := plainElem Tryz.prog 3
def QA (q : Nat) (Q : QS) : Asn := fun w M => ∃ v m D, Blk w q 175 #[.int .i64 Q.room, .int .i64 Q.lost, v, .map (some m)] ∧ Owns w 0 92 4 encQ v Q.l ∧ w.ownsMap Tryz.prog 43 RI m Q.l.length D ∧ Tell D Q.l ∧ ∀ b, M b ↔ b = q ∨ v.ownBlock = some b ∨ b = m
theorem qmap_kept {w w' : World} {K : Nat → Prop} {m n : Nat} {D : DU} (h : w.ownsMap Tryz.prog 43 RI m n D) (hk : Kept K w w') (hm : K m) : w'.ownsMap Tryz.prog 43 RI m n D := by
  have hlt := h.lt
  obtain ⟨es, clock, hb, F, hs, hD⟩ := h
  exact ⟨es, clock, (hk.block m hlt hm).trans hb, F, hs, hD⟩
theorem map_no {w : World} {m n : Nat} {D : DU} {ty : TypeId} {cs : Array Value} (h : w.ownsMap Tryz.prog 43 RI m n D) : ¬ Blk w m ty cs := fun hB => by
  obtain ⟨es, clock, hb, -⟩ := h
  unfold Blk at hB
  rw [hb] at hB
  cases hB
theorem map_size {w : World} {m n : Nat} {D : DU} (h : w.ownsMap Tryz.prog 43 RI m n D) : w.ownsMap Tryz.prog 43 RI m (Maps.size D) D := by
  obtain ⟨es, clock, hb, F, hs, hD⟩ := h
  refine ⟨es, clock, hb, F, ?_, hD⟩
  rw [hD]
  simp [Maps.size, length_sorted]
def QT (ty : TypeId) : Prop := ty = 175 ∨ ty = 92
section
variable {w w' : World} {q : Nat} {Q : QS} {M K : Nat → Prop}
theorem QA.type (h : QA q Q w M) {b : Nat} (hb : M b) : b < w.heap.size ∧ ∀ ty cs, Blk w b ty cs → QT ty := by
  obtain ⟨v, m, D, h1, h2, h3, -, hM⟩ := h
  rcases (hM b).1 hb with rfl | hb | rfl
  · exact ⟨h1.lt, fun ty cs hB => .inl (one_type hB h1)⟩
  · obtain ⟨-, cur, h4⟩ := own_at h2 hb
    exact ⟨h4.lt, fun ty cs hB => .inr (one_type hB h4)⟩
  · exact ⟨h3.lt, fun ty cs hB => absurd hB (map_no h3)⟩
theorem qA_fit (q : Nat) (Q : QS) : Asn.Fit 5 (QA q Q) where
  lt := fun h b hb => (h.type hb).1
  nob := fun h b hb cs hB => by
    rcases (h.type hb).2 _ _ hB with h | h <;> revert h <;> decide
  kept := fun ⟨v, m, D, h1, h2, h3, h4, hM⟩ hk k1 k2 => ⟨v, m, D, hk.blk (k1 _ ((hM _).2 (.inl rfl))) h1, h2.keep hk (fun b hb => k1 b ((hM b).2 (.inr (.inl hb)))), qmap_kept h3 hk (k1 _ ((hM _).2 (.inr (.inr rfl)))), h4, hM⟩
end
def newQ (room : Int) : QS := ⟨mnI (mxI room 1) 4096, 0, []⟩
def NewQR (room : Int) (w : World) (r : Ending) (w' : World) : Prop := ∃ q M, r = .returned (.pointer (some ⟨q, 0, none⟩)) ∧ QA q (newQ room) w' M ∧ (∀ b, M b → w.heap.size ≤ b) ∧ Below w.heap.size w w'
theorem qnew_c (room : Int) (w : World) : Calls Tryz.prog 111 #[.int .i64 room] w fun r w' => NewQR room w r w' := by
  have hmn := @run_mn Tryz.prog
  have hmx := @run_mx Tryz.prog
  have hmm := @run_makeMap Tryz.prog
  go_enter Tryz.func111, Tryz.ntmps111
  go_wp2_with fail
  go_returns
  obtain ⟨W1, hW1⟩ : ∃ W1, W1 = w.alloc (.map #[] 0) := ⟨_, rfl⟩
  have hm : W1.ownsMap Tryz.prog 43 RI w.heap.size 0 (.map []) := by rw [hW1]; exact World.ownsMap_made _ _ _ _
  have hs1 : W1.heap.size = w.heap.size + 1 := by rw [hW1]; simp
  have h1 : Below w.heap.size w W1 := by rw [hW1]; exact bel_alloc _ _
  rw [← hW1]
  obtain ⟨W2, hW2⟩ : ∃ W2, W2 = W1.alloc (.cells #[.int .i64 (mnI (mxI room 1) 4096), .int .i64 0, .slice none 0 0, .map (some w.heap.size)] 175) := ⟨_, rfl⟩
  have h2 : Below W1.heap.size W1 W2 := by rw [hW2]; exact bel_alloc _ _
  have C := Blk.fresh hW2
  rw [hs1] at C
  rw [← hW2]
  refine ⟨w.heap.size + 1, fun b => b = w.heap.size + 1 ∨ Value.ownBlock (.slice none 0 0) = some b ∨ b = w.heap.size, rfl, ⟨_, w.heap.size, .map [], C, Owns.nil, qmap_kept (K := fun _ => True) hm ((Kept.of_below h2).mono fun _ _ => trivial) trivial, tell_nil, fun _ => Iff.rfl⟩, fun b hb => ?_, after h1 h2⟩
  rcases hb with rfl | hb | rfl
  · exact Nat.le_succ _
  · cases hb
  · exact Nat.le_refl _
end Go.Proofs.YtmbccnioijokfaaGreatDoor

namespace Go.Proofs.YtmbccnioijokfaaGreatDoor
open Go.RowKit Go.Maps
attribute [local go_sem] Oper.semAt_some
theorem zeroI (w : World) : (zeroValue 3).run Tryz.prog w = .ok (.int .i64 0) w := by kernel_rfl
theorem look_q {w : World} {m n : Nat} {D : DU} {l : List QI} {c : Cl} (h : w.ownsMap Tryz.prog 43 RI m n D) (hT : Tell D l) (hc : In3 c) :
    (Instr.lookup 173 (.map (some m)) (cellV c) true).run Tryz.prog w = .ok (.tuple #[.int .i64 (atQ l c), .bool (hasQ l c)]) w := by
  obtain ⟨v, ps, hrun, hv⟩ := h.look_ok lawC Tryz.underlying173 (zeroI w) (zd := .lit (.int .i64 0)) (zp := []) (plainElem_int Tryz.underlying3 (by decide)) (keyC hc)
  rw [hT.at_ c hc] at hv
  obtain ⟨a, rfl, h1, -⟩ := plainElem_int_inv Tryz.underlying3 hv
  rw [hrun, hT.has c hc]
  simp at h1
  rw [h1.1]
set_option maxRecDepth 100000 in
set_option maxHeartbeats 1000000 in
theorem qat_c (q : Nat) (Q : QS) (c : Cl) (hc : In3 c) (w : World) (M : Nat → Prop) (h : QA q Q w M) :
    Calls Tryz.prog 296 #[.pointer (some ⟨q, 0, none⟩), cellV c] w fun r w' => r = .returned (.tuple #[.int .i64 (atQ Q.l c), .bool (hasQ Q.l c)]) ∧ Below w.heap.size w w' := by
  obtain ⟨v, m, D, h1, -, h3, h4, -⟩ := h
  obtain ⟨W, hW⟩ : ∃ W, W = w.alloc (.cells #[.int .i64 c.1, .int .i64 c.2.1, .int .i64 c.2.2] 43) := ⟨_, rfl⟩
  have H : Below w.heap.size w W := by rw [hW]; exact bel_alloc _ _
  have C : Blk W w.heap.size 43 #[.int .i64 c.1, .int .i64 c.2.1, .int .i64 c.2.2] := Blk.fresh hW
  have hl := fun d os => look_q (qmap_kept (K := fun _ => True) (w' := Go.Sort.grow (redrawn W d) os) h3 ((Kept.of_below (after H (below_regrown W d os))).mono fun _ _ => trivial) trivial) h4 hc
  obtain ⟨c0, c1, c2⟩ := C.re3
  have q3 := fun d os => ((h1.on H).re d os).cell 3
  have HH := Lib.hid H
  clear h1 h3 h4 H C hc
  go_enter Tryz.func296, Tryz.ntmps296
  go_upto_region 1 with (fail)
  rw [← hW]
  clear hW
  refine wp_region_quiet_below (by kernel_rfl) (by kernel_rfl) ?_
  repeat (go_big_quiet_step (fail))
  refine wpQuiet_nil ?_
  intro w' hw'
  obtain ⟨rg, rfl⟩ := hw'
  go_wp2_with fail
  go_returns
  exact ⟨rfl, after HH.out (below_regrown _ _ _)⟩
end Go.Proofs.YtmbccnioijokfaaGreatDoor

namespace Go.Proofs.YtmbccnioijokfaaGreatDoor
open Go.RowKit Go.Maps
attribute [local go_sem] Oper.semAt_some
theorem infQ : (Tryz.prog.info? 92).map (fun i => (i.zero, i.size, i.bytes)) = some (some (.agg #[.int .i64 0, .int .i64 0, .int .i64 0, .int .i64 0]), 4, 32) := by kernel_rfl
def InsR (v : Value) (l : List QI) (w : World) (r : Ending) (w' : World) : Prop := ∃ g c, r = .returned (.slice (some ⟨g, 0, none⟩) l.length c) ∧ Owns w' 0 92 4 encQ (.slice (some ⟨g, 0, none⟩) l.length c) l ∧ Kept (fun b => v.ownBlock ≠ some b) w w' ∧ (v.ownBlock = some g ∨ w.heap.size ≤ g)
set_option maxRecDepth 100000 in
set_option maxHeartbeats 1000000 in
theorem qins_c (q : Option Addr) (cp : Nat) (l : List QI) (x : QI) (b : Nat) (w : World) (hO : Owns w 0 92 4 encQ (.slice q l.length cp) l) (hX : Blk w b 92 #[.int .i64 x.1, .int .i64 x.2.1, .int .i64 x.2.2.1, .int .i64 x.2.2.2]) (hl : l.length ≤ 1000000) :
    Calls Tryz.prog 336 #[.slice q l.length cp, .int .i64 l.length, .slice (some ⟨b, 0, none⟩) 1 1] w fun r w' => InsR (.slice q l.length cp) (l ++ [x]) w r w' := by
  obtain ⟨g, c2, w9, hrun, ho, hg9, hgo⟩ := run_push_at (P := Tryz.prog) (w := w) (base := 0) (e := 92) (size := 4) (enc := encQ) (xs := l) (ts := 88) (ty := 88) (bytes := 32) (b := b) (x := x) Tryz.underlying88 infQ rfl (by decide) (by decide) rfl (by intro u hu; simp [encQ] at hu; rcases hu with rfl | rfl | rfl | rfl <;> rfl) hO (fun j u hu => by rw [hX.cell j]; simpa [encQ] using hu) (by omega) (Nat.zero_le _)
  obtain ⟨q', cap', hv', hcap, hmax, -, -, -⟩ := hO.form lenQ
  have e1 : q' = q ∧ cap' = cp := by simp at hv'; exact ⟨hv'.1.symm, hv'.2.symm⟩
  obtain ⟨rfl, rfl⟩ := e1
  have HF := Lib.hid (And.intro ho (And.intro (show Kept (fun b => Value.ownBlock (.slice q' l.length cap') ≠ some b) w w9 from ⟨hg9.os, hg9.tape, hg9.output, hg9.size, fun k hk hK => hg9.block k hk (Ne.symm hK)⟩) hgo))
  have HL := Lib.hid hl
  unfold maxLen at hmax
  have h0 : (0 : Int) ≤ (l.length : Int) := by omega
  have h1 : (l.length : Int) ≤ (cap' : Int) := by omega
  clear hv' ho hg9 hgo hX hl
  rcases q' with _ | ⟨⟨g', o', t'⟩⟩
  · obtain rfl : l = [] := by
      rcases hO.2 with ⟨hv, h⟩ | ⟨g, cap, cur, hv, -⟩
      · exact List.eq_nil_of_length_eq_zero h
      · cases hv
    obtain rfl : cap' = 0 := by
      rcases hO.2 with ⟨hv, h⟩ | ⟨g, cap, cur, hv, -⟩
      · cases hv; rfl
      · cases hv
    clear hO
    go_enter Tryz.func336, Tryz.ntmps336
    go_upto_region 7 with (fail)
    go_wp2_with (at_builtin; refine Lib.wpList_append_run _ rfl _ _ _ _ rfl _ _ rfl rfl _ _ hrun ?_)
    go_returns
    obtain ⟨r1, r2, r3⟩ := HF.out
    exact ⟨g, c2, by simp, r1, r2, r3⟩
  · clear hO
    have hq0 : cap' = l.length ∨ l.length < cap' := by omega
    rcases hq0 with hq0 | hq0
    · subst hq0
      go_enter Tryz.func336, Tryz.ntmps336
      go_upto_region 7 with (fail)
      go_wp2_with (at_builtin; refine Lib.wpList_append_run _ rfl _ _ _ _ rfl _ _ rfl rfl _ _ hrun ?_)
      go_returns
      obtain ⟨r1, r2, r3⟩ := HF.out
      exact ⟨g, c2, by simp, by rw [List.length_append]; exact r1, r2, r3⟩
    · have hq1 : ¬ cap' = l.length := by omega
      go_enter Tryz.func336, Tryz.ntmps336
      go_upto_region 7 with (fail)
      go_wp2_with (at_builtin; refine Lib.wpList_append_run _ rfl _ _ _ _ rfl _ _ rfl rfl _ _ hrun ?_)
      go_returns
      obtain ⟨r1, r2, r3⟩ := HF.out
      exact ⟨g, c2, by simp, by rw [List.length_append]; exact r1, r2, r3⟩
set_option maxRecDepth 100000 in
set_option maxHeartbeats 1000000 in
theorem qbs_c (q : Option Addr) (cp : Nat) (x : QI) (G : FuncId) (w : World) :
    Calls Tryz.prog 332 #[.slice q 0 cp, .agg #[.int .i64 x.1, .int .i64 x.2.1, .int .i64 x.2.2.1, .int .i64 x.2.2.2], .func (.func G) #[] #[]] w fun r w' => r = .returned (.tuple #[.int .i64 0, .bool false]) ∧ Below w.heap.size w w' := by
  obtain ⟨W, hW⟩ : ∃ W, W = w.alloc (.cells #[.int .i64 x.1, .int .i64 x.2.1, .int .i64 x.2.2.1, .int .i64 x.2.2.2] 92) := ⟨_, rfl⟩
  have H : Below w.heap.size w W := by rw [hW]; exact bel_alloc _ _
  have HH := Lib.hid H
  clear H
  go_enter Tryz.func332, Tryz.ntmps332
  go_upto_region 3 with (fail)
  rw [← hW]
  clear hW
  refine wp_loop_rounds 1 ?_
  rw [rounds_succ]
  go_upto_region 8 with (fail)
  refine wp_region_quiet_below (by kernel_rfl) (by kernel_rfl) ?_
  repeat (go_big_quiet_step (fail))
  refine wpQuiet_nil ?_
  intro w' hw'
  obtain ⟨rg, rfl⟩ := hw'
  go_wp2_with fail
  go_returns
  exact ⟨rfl, after HH.out (below_regrown _ _ _)⟩
end Go.Proofs.YtmbccnioijokfaaGreatDoor

namespace Go.Proofs.YtmbccnioijokfaaGreatDoor
open Go.RowKit Go.Maps
attribute [local go_sem] Oper.semAt_some
def ItL (N : Nat) (x : QI) (v : Value) (w : World) : Prop := ∃ b, v = .slice (some ⟨b, 0, none⟩) 1 1 ∧ N ≤ b ∧ Blk w b 92 #[.int .i64 x.1, .int .i64 x.2.1, .int .i64 x.2.2.1, .int .i64 x.2.2.2]
def ItM (N : Nat) (r : Option Nat) (x : QI) (v : Value) (w : World) : Prop := ∃ g c, v = .slice (some ⟨g, 0, none⟩) 1 c ∧ Owns w 0 92 4 encQ (.slice (some ⟨g, 0, none⟩) 1 c) [x] ∧ (r = some g ∨ N ≤ g)
def quR (N : Nat) (r : Option Nat) (x : QI) : Nat → Rel := fun i v' w => match i with | 7 => ItL N x v' w | 8 => ItM N r x v' w | _ => True
theorem quR_on {N : Nat} {r : Option Nat} {x : QI} (hv : ∀ b, r = some b → b < N) : ∀ i v' (w w' : World), quR N r x i v' w → (if i = 8 then Below w.heap.size w w' else Kept (fun b => r ≠ some b) w w') → quR N r x i v' w'
  | 7, _, _, _, ⟨b, h1, h2, h3⟩, hk => ⟨b, h1, h2, (show Kept _ _ _ from hk).blk (fun e => by have := hv b e; omega) h3⟩
  | 8, _, _, _, ⟨g, c, h1, h2, h3⟩, hk => ⟨g, c, h1, h2.on hk, h3⟩
  | 0, _, _, _, _, _ => trivial
  | 1, _, _, _, _, _ => trivial
  | 2, _, _, _, _, _ => trivial
  | 3, _, _, _, _, _ => trivial
  | 4, _, _, _, _, _ => trivial
  | 5, _, _, _, _, _ => trivial
  | 6, _, _, _, _, _ => trivial
  | n + 9, _, _, _, _, _ => trivial
set_option maxRecDepth 100000 in
set_option maxHeartbeats 4000000 in
theorem qpush_c (q : Nat) (Q : QS) (x : QI) (hx : In3 x.2) (ht : In64 x.1) (hl : Q.l = []) (w : World) (M : Nat → Prop) (h : QA q Q w M) :
    Calls Tryz.prog 298 #[.pointer (some ⟨q, 0, none⟩), .agg #[.int .i64 x.1, .int .i64 x.2.1, .int .i64 x.2.2.1, .int .i64 x.2.2.2]] w fun r w' => r = .returned (.tuple #[]) ∧ Aft (QA q { Q with l := [x] }) w M w' := by
  obtain ⟨v, m, D, h1, h2, h3, h4, hM⟩ := h
  rw [hl] at h2 h3 h4
  obtain ⟨q0, cp, rfl, -⟩ := h2.form lenQ
  obtain ⟨W, hW⟩ : ∃ W, W = w.alloc (.cells #[.int .i64 x.1, .int .i64 x.2.1, .int .i64 x.2.2.1, .int .i64 x.2.2.2] 92) := ⟨_, rfl⟩
  have H : Below w.heap.size w W := by rw [hW]; exact bel_alloc _ _
  have C : Blk W w.heap.size 92 #[.int .i64 x.1, .int .i64 x.2.1, .int .i64 x.2.2.1, .int .i64 x.2.2.2] := Blk.fresh hW
  have HH := Lib.hid H
  have HB := Lib.hid h1
  have HC := Lib.hid C
  have HO := Lib.hid h2
  have HMP := Lib.hid h3
  have HT := Lib.hid (And.intro h4 (And.intro hx (And.intro ht hM)))
  have b2 := fun d os => ((h1.on H).re d os).cell 2
  have c0 := fun d os => (C.re d os).cell 0
  have c1 := fun d os => (C.re d os).cell 1
  have c2 := fun d os => (C.re d os).cell 2
  have c3 := fun d os => (C.re d os).cell 3
  have HBS := Lib.hid fun G W2 => qbs_c q0 cp x G W2
  clear h1 h2 h3 h4 hM H C hx ht hl
  go_enter Tryz.func298, Tryz.ntmps298
  go_upto_region 1 with (fail)
  rw [← hW]
  clear hW
  refine wp_region_quiet_below (by kernel_rfl) (by kernel_rfl) ?_
  repeat (go_big_quiet_step (exact Calls.regrown_of (HBS.out _ _)))
  refine wpQuiet_nil ?_
  intro w' hw'
  obtain ⟨rg, rfl⟩ := hw'
  obtain ⟨W1, hW1⟩ : ∃ W1, W1 = Go.Sort.grow (redrawn W rg.d) rg.os := ⟨_, rfl⟩
  have g1 : Below W.heap.size W W1 := by rw [hW1]; exact below_regrown _ _ _
  rw [← hW1]
  have G1 := Lib.hid (after HH.out g1)
  have HC1 := Lib.hid (HC.out.on g1)
  clear hW1 g1 b2 c0 c1 c2 c3 HBS
  have HB1 := HB.out.on G1.out
  have HO1 := Lib.hid (HO.out.on G1.out)
  have hqr : Value.ownBlock (.slice q0 0 cp) ≠ some q := fun e => by
    obtain ⟨-, cur, h5⟩ := own_at HO1.out e
    exact absurd (one_type h5 HB1) (by decide)
  have hqc : Value.ownBlock (.slice q0 0 cp) ≠ some w.heap.size := fun e => by have := (HO.out.block _ e).2; omega
  have HV := Lib.hid (fun b (e : Value.ownBlock (.slice q0 0 cp) = some b) => (HO1.out.block b e).2)
  have b2 := fun f d os => (HB1.sp (not_row hqr) f d os).cell 2
  have c0 := fun f d os => (HC1.out.sp (not_row hqc) f d os).cell 0
  have c1 := fun f d os => (HC1.out.sp (not_row hqc) f d os).cell 1
  have c2 := fun f d os => (HC1.out.sp (not_row hqc) f d os).cell 2
  have c3 := fun f d os => (HC1.out.sp (not_row hqc) f d os).cell 3
  have HN := Lib.hid (And.intro hqr hqc)
  have HB1' := Lib.hid HB1
  clear hqr hqc HB1
  go_upto_region 2 with (fail)
  generalize hvr : Value.ownBlock (.slice q0 0 cp) = vr at *
  have HVR := Lib.hid hvr
  clear hvr
  refine wp_schedR [0, 0, 0, 0, 0, 0, 0, 2, 2, 1, 1, 3] 8 (vr) (quR W1.heap.size vr x) (by kernel_rfl) (by kernel_rfl) (quR_on HV.out) ?_
  repeat (first | (refine wpQs_s ?_) | (refine wpQs_q (fun K hK => ?_); go_simp; first | (refine hK _ ?_; clear hK K) | (apply Exists.intro; refine ⟨fun _ => ?_, hK _ ?_⟩; (fail); clear hK K)) | (refine wpQs_f (fun K hK => ?_); go_simp; refine hK _ ?_; clear hK K))
  refine wpQs_nil ?_
  refine wpLs_skip ?_
  refine wpLs_skip ?_
  refine wpLs_skip ?_
  refine wpLs_skip ?_
  refine wpLs_skip ?_
  refine wpLs_skip ?_
  refine wpLs_skip ?_
  refine wpLs_one ?lsA (fun v_ => ?_)
  case lsA => (intro w_ hw_ hp_; (first | (dsimp only at hF_; obtain ⟨b9, rfl, hb9, hB9⟩ := hF_.2 (by kernel_rfl); go_simp; refine (qins_c q0 cp [] x b9 w_ (HO1.out.on (msd_row hw_ hp_)) hB9 (by simp)).mono ?_; rintro e_ w9 ⟨g9, c9, rfl, ho9, hk9, hg9⟩; exact ⟨_, rfl, hk9.mono fun b hb e => hb (by unfold DsR; rw [if_pos rfl, Option.mem_toList, ← HVR.out]; exact e), g9, c9, rfl, ho9, hg9.imp (fun e => HVR.out.symm.trans e) (Nat.le_trans (msd_kept hw_).size)⟩) | (go_simp; exact ⟨Kept.of_below ((Below.refl _ _).alloc (Nat.le_refl _) _), _, rfl, (msd_kept hw_).size, Blk.new' rfl⟩)))
  refine wpLs_oneF ?lsA (fun v_ => ?_)
  case lsA => (intro w_ hw_ hp_ hF_; (first | (dsimp only at hF_; obtain ⟨b9, rfl, hb9, hB9⟩ := hF_.2 (by kernel_rfl); go_simp; refine (qins_c q0 cp [] x b9 w_ (HO1.out.on (msd_row hw_ hp_)) hB9 (by simp)).mono ?_; rintro e_ w9 ⟨g9, c9, rfl, ho9, hk9, hg9⟩; exact ⟨_, rfl, hk9.mono fun b hb e => hb (by unfold DsR; rw [if_pos rfl, Option.mem_toList, ← HVR.out]; exact e), g9, c9, rfl, ho9, hg9.imp (fun e => HVR.out.symm.trans e) (Nat.le_trans (msd_kept hw_).size)⟩) | (go_simp; exact ⟨Kept.of_below ((Below.refl _ _).alloc (Nat.le_refl _) _), _, rfl, (msd_kept hw_).size, Blk.new' rfl⟩)))
  refine wpLs_skip ?_
  refine wpLs_skip ?_
  refine wpLs_skip ?_
  refine wpLs_nilD ?_
  simp only [tails]
  rintro W5 k5 ⟨-, g9, c9, rfl, ho9, hg9⟩
  have hB5 := k5.blk (not_row HN.out.1) HB1'.out
  have e1 := hB5.cell 2
  have f1 := hB5.frz 2
  have H5 := Lib.hid (And.intro k5 (And.intro ho9 (And.intro hg9 hB5)))
  clear k5 ho9 hg9 hB5 b2 c0 c1 c2 c3
  go_upto_region 3 with (fail)
  obtain ⟨W6, hW6⟩ : ∃ W6, W6 = W5.setCell ⟨q, 2, none⟩ (.slice (some ⟨g9, 0, none⟩) 1 c9) := ⟨_, rfl⟩
  rw [← hW6]
  have hst : Kept (fun b => b ≠ q) W5 W6 := by rw [hW6]; exact (Kept.refl _ _).setCell (by simp) _
  have hB6 : Blk W6 q 175 #[.int .i64 Q.room, .int .i64 Q.lost, .slice (some ⟨g9, 0, none⟩) 1 c9, .map (some m)] := by rw [hW6]; exact H5.out.2.2.2.set_ 2 _
  have hO6 : Owns W6 0 92 4 encQ (.slice (some ⟨g9, 0, none⟩) 1 c9) [x] := H5.out.2.1.keep hst fun b hb e => by
    obtain ⟨-, cur, h5⟩ := own_at H5.out.2.1 hb
    subst e
    exact absurd (one_type h5 H5.out.2.2.2) (by decide)
  have k16 : Kept (fun b => vr ≠ some b ∧ b ≠ q) W1 W6 := (H5.out.1.mono fun b hb => not_row hb.1).trans (hst.mono fun b hb => hb.2)
  have hC6 : Blk W6 w.heap.size 92 #[.int .i64 x.1, .int .i64 x.2.1, .int .i64 x.2.2.1, .int .i64 x.2.2.2] := k16.blk ⟨HN.out.2, fun e => by have := HB.out.lt; omega⟩ HC1.out
  have hmq : m ≠ q := fun e => map_no HMP.out (by rw [e]; exact HB.out)
  have hmr : vr ≠ some m := fun e => by
    rw [← HVR.out] at e
    obtain ⟨-, cur, h5⟩ := own_at HO.out e
    exact map_no HMP.out h5
  have hM6 := qmap_kept (qmap_kept (K := fun _ => True) HMP.out ((Kept.of_below G1.out).mono fun _ _ => trivial) trivial) k16 ⟨hmr, hmq⟩
  have b3 := fun d os => (hB6.re d os).cell 3
  have c0 := fun d os => (hC6.re d os).cell 0
  have c1 := fun d os => (hC6.re d os).cell 1
  have c2 := fun d os => (hC6.re d os).cell 2
  have c3 := fun d os => (hC6.re d os).cell 3
  have H6 := Lib.hid (And.intro hB6 (And.intro hO6 (And.intro k16 (And.intro hmq (And.intro hmr hM6)))))
  clear hW6 hst hB6 hO6 k16 hC6 hmq hmr hM6 e1 f1
  refine wp_sched [0, 0, 0, 0, 0, 0, 0, 0, 3] (fun _ _ _ => True) (by kernel_rfl) (by kernel_rfl) (fun _ _ _ _ h _ => h) ?_
  repeat (first | (refine wpQs_s ?_) | (refine wpQs_q (fun K hK => ?_); go_simp; first | (refine hK _ ?_; clear hK K) | (apply Exists.intro; refine ⟨fun _ => ?_, hK _ ?_⟩; (fail); clear hK K)) | (refine wpQs_f (fun K hK => ?_); go_simp; refine hK _ ?_; clear hK K))
  refine wpQs_nil ?_
  repeat (first | (refine wpLs_skip ?_) | (refine wpLs_one ?lsA (fun v_ => ?_); case lsA => (intro w_ hw_ hp_; (fail))))
  refine wpLs_nilB ?_
  simp only [tails]
  intro W7 h7 _
  have H7 := Lib.hid h7
  have hM7 := qmap_kept (K := fun _ => True) H6.out.2.2.2.2.2 ((Kept.of_below h7).mono fun _ _ => trivial) trivial
  have HM7 := Lib.hid hM7
  clear h7 b3 c0 c1 c2 c3 hM7
  go_wp2_with (at_mapUpdate; refine wpList_mapUpdate_in _ rfl _ _ _ 173 rfl 43 3 lawC Tryz.underlying173 RI m _ D rfl HM7.out (by simp [maxLen]) _ _ (kc x.2) rfl rfl (keyC HT.out.2.1) (.lit (.int .i64 x.1)) [] (plainElem_int Tryz.underlying3 (wf64 HT.out.2.2.1)) ?_; intro w8 hown8 hturn8)
  go_returns
  have hk8 := grown_kept hturn8.grown
  obtain ⟨hB6, hO6, k16, hmq, hmr, -⟩ := H6.out
  refine ⟨rfl, fun b => b = q ∨ Value.ownBlock (.slice (some ⟨g9, 0, none⟩) 1 c9) = some b ∨ b = m, ⟨_, m, _, hk8.blk (fun e => hmq (Option.some.inj e)) (hB6.on H7.out), (hO6.on H7.out).keep hk8 fun b hb e => ?_, hown8, HT.out.1.push (HM7.out.tidy lawC) HT.out.2.1 HT.out.2.2.1 rfl, fun _ => Iff.rfl⟩, fun b hb => ?_, ?_⟩
  · obtain rfl := Option.some.inj e
    obtain ⟨-, cur, h5⟩ := own_at (hO6.on H7.out) hb
    exact map_no HM7.out h5
  · rcases hb with rfl | hb | rfl
    · exact .inl ((HT.out.2.2.2 _).2 (.inl rfl))
    · simp [Value.ownBlock] at hb
      subst hb
      rcases H5.out.2.2.1 with h | h
      · exact .inl ((HT.out.2.2.2 _).2 (.inr (.inl h)))
      · exact .inr (Nat.le_trans G1.out.size h)
    · exact .inl ((HT.out.2.2.2 _).2 (.inr (.inr rfl)))
  · exact ((Kept.of_below G1.out).mono (K' := fun b => ¬ M b) fun _ _ => trivial).trans ((k16.mono fun b hb => ⟨fun e => hb ((HT.out.2.2.2 _).2 (.inr (.inl e))), fun e => hb ((HT.out.2.2.2 _).2 (.inl e))⟩).trans (((Kept.of_below H7.out).mono fun _ _ => trivial).trans (hk8.mono fun b hb e => hb ((HT.out.2.2.2 _).2 (.inr (.inr (Option.some.inj e).symm))))))
end Go.Proofs.YtmbccnioijokfaaGreatDoor

namespace Go.Proofs.YtmbccnioijokfaaGreatDoor
open Go.RowKit Go.Maps
attribute [local go_sem] Oper.semAt_some
set_option maxRecDepth 100000 in
set_option maxHeartbeats 4000000 in
theorem qadd_c (q : Nat) (Q : QS) (c : Cl) (t : Int) (hc : In3 c) (ht : In64 t) (hl : Q.l = []) (hr : 1 ≤ Q.room) (w : World) (M : Nat → Prop) (h : QA q Q w M) :
    Calls Tryz.prog 234 #[.pointer (some ⟨q, 0, none⟩), cellV c, .int .i64 t] w fun r w' => r = .returned (.bool true) ∧ Aft (QA q { Q with l := [(t, c)] }) w M w' := by
  obtain ⟨W, hW⟩ : ∃ W, W = w.alloc (.cells #[.int .i64 c.1, .int .i64 c.2.1, .int .i64 c.2.2] 43) := ⟨_, rfl⟩
  have H : Below w.heap.size w W := by rw [hW]; exact bel_alloc _ _
  have C : Blk W w.heap.size 43 #[.int .i64 c.1, .int .i64 c.2.1, .int .i64 c.2.2] := Blk.fresh hW
  have hA := qat_c q Q c hc W M ((qA_fit q Q).on h H)
  rw [hl] at hA
  have HA := Lib.hid hA
  have HP := Lib.hid fun W2 (g : Below w.heap.size w W2) => qpush_c q Q (t, c) hc ht hl W2 M ((qA_fit q Q).on h g)
  obtain ⟨v, m, D, h1, h2, -⟩ := h
  rw [hl] at h2
  obtain ⟨q0, cp, rfl, -⟩ := h2.form lenQ
  have HB := Lib.hid h1
  have HC := Lib.hid C
  have HH := Lib.hid H
  obtain ⟨c0, c1, c2, -, -, -⟩ := C.c3
  have hr0 : ¬ (0 : Int) = Q.room := by omega
  have hr1 : ((0 : Int) == Q.room) = false := by simp; omega
  clear hA h1 h2 H C hc ht hl hr
  go_enter Tryz.func234, Tryz.ntmps234
  go_upto_region 1 with (fail)
  rw [← hW]
  clear hW
  go_upto_region 6 with (go_at_call 296; refine HA.out.mono ?_; rintro e_ w1 ⟨rfl, g1⟩; have G1 := Lib.hid (after HH.out g1); have HC1 := Lib.hid (HC.out.on g1); clear g1)
  clear c0 c1 c2
  have hB1 := HB.out.on G1.out
  have b0 := fun d os => (hB1.re d os).cell 0
  have b2 := fun d os => (hB1.re d os).cell 2
  refine wp_region_quiet_below (by kernel_rfl) (by kernel_rfl) ?_
  repeat (go_big_quiet_step (fail))
  refine wpQuiet_nil ?_
  intro w' hw'
  obtain ⟨rg, rfl⟩ := hw'
  obtain ⟨W2, hW2⟩ : ∃ W2, W2 = Go.Sort.grow (redrawn w1 rg.d) rg.os := ⟨_, rfl⟩
  have g2 : Below w1.heap.size w1 W2 := by rw [hW2]; exact below_regrown _ _ _
  rw [← hW2]
  have G2 := Lib.hid (after G1.out g2)
  obtain ⟨c0, c1, c2, -, -, -⟩ := (HC1.out.on g2).c3
  have HP2 := Lib.hid (HP.out W2 G2.out)
  clear b0 b2 hB1 hW2 g2 HP
  go_upto_region 10 with (go_at_call 298; refine HP2.out.mono ?_; rintro e_ w3 ⟨rfl, k3⟩; have K3 := Lib.hid k3; clear k3)
  go_wp2_with fail
  go_returns
  exact ⟨rfl, Aft.ahead G2.out K3.out⟩
end Go.Proofs.YtmbccnioijokfaaGreatDoor

namespace Go.Proofs.YtmbccnioijokfaaGreatDoor
open Go.RowKit Go.Maps
attribute [local go_sem] Oper.semAt_some
abbrev encCl (c : Cl) : List Value := [.int .i64 c.1, .int .i64 c.2.1, .int .i64 c.2.2]
theorem lenCl (c : Cl) : (encCl c).length = 3 := rfl
def DueR (q : Nat) (Q' : QS) (out : List Cl) (w : World) (M : Nat → Prop) (r : Ending) (w' : World) : Prop := ∃ v, r = .returned v ∧ Owns w' w.heap.size 43 3 encCl v out ∧ Aft (QA q Q') w M w'
set_option maxRecDepth 100000 in
set_option maxHeartbeats 1000000 in
theorem qdel0_c (q : Option Addr) (n cp : Nat) (hn : q = none → n = 0 ∧ cp = 0) (hc : n ≤ cp) (w : World) : Calls Tryz.prog 273 #[.slice q n cp, .int .i64 0, .int .i64 0] w fun r w' => r = .returned (.slice q n cp) ∧ w = w' := by
  have h1 : (n : Int) ≤ (cp : Int) := by omega
  have h2 : (0 : Int) ≤ (n : Int) := by omega
  rcases q with _ | a
  · obtain ⟨rfl, rfl⟩ := hn rfl
    go_enter Tryz.func273, Tryz.ntmps273
    go_wp2_with fail
    go_returns
    exact ⟨rfl, rfl⟩
  · clear hn
    go_enter Tryz.func273, Tryz.ntmps273
    go_wp2_with fail
    go_returns
    exact ⟨rfl, rfl⟩
theorem due_same {q : Nat} {Q : QS} {w : World} {M : Nat → Prop} {a b v d : Value} (h : QA q Q w M) (hB : Blk w q 175 #[a, b, v, d]) : ∀ w', w' = w.setCell ⟨q, 2, none⟩ v → DueR q Q [] w M (.returned (.slice none 0 0)) w' := by
  rintro w' rfl
  refine ⟨_, rfl, Owns.nil, ?_⟩
  have hk : Kept (fun b => b ≠ q) w (w.setCell ⟨q, 2, none⟩ v) := (Kept.refl _ _).setCell (by simp) _
  obtain ⟨v', m, D, h1, h2, h3, h4, hM⟩ := h
  have e : (#[a, b, v, d] : Array Value) = #[.int .i64 Q.room, .int .i64 Q.lost, v', .map (some m)] := by
    unfold Blk at hB h1
    rw [hB] at h1
    simpa using h1
  simp at e
  obtain ⟨rfl, rfl, rfl, rfl⟩ := e
  have hB2 := h1.set_ 2 v
  refine ⟨M, ⟨v, m, D, hB2, h2.keep hk fun b hb e => ?_, qmap_kept h3 hk (fun e => map_no h3 (by rw [e]; exact h1)), h4, hM⟩, fun b hb => .inl hb, hk.mono fun b hb e => hb ((hM _).2 (.inl e))⟩
  obtain ⟨-, cur, h5⟩ := own_at h2 hb
  subst e
  exact absurd (one_type h5 h1) (by decide)
set_option maxRecDepth 100000 in
set_option maxHeartbeats 4000000 in
theorem qdue0_c (q : Nat) (Q : QS) (now many : Int) (hl : Q.l = []) (w : World) (M : Nat → Prop) (h : QA q Q w M) :
    Calls Tryz.prog 202 #[.pointer (some ⟨q, 0, none⟩), .int .i64 now, .int .i64 many] w fun r w' => DueR q Q [] w M r w' := by
  have HQ := Lib.hid h
  obtain ⟨v, m, D, h1, h2, -⟩ := h
  rw [hl] at h2
  obtain ⟨q0, cp, rfl, hc1, -, -, -, -⟩ := h2.form lenQ
  have hq0 : q0 = none → ([] : List QI).length = 0 ∧ cp = 0 := fun e => by
    rcases h2.2 with ⟨hv, -⟩ | ⟨g, cap, cur, hv, -⟩
    · cases hv; exact ⟨rfl, rfl⟩
    · cases hv; cases e
  have HD := Lib.hid fun W => qdel0_c q0 0 cp hq0 (Nat.zero_le _) W
  have b2 := h1.cell 2
  have f2 := h1.frz 2
  have HF := Lib.hid (due_same HQ.out h1)
  have hcp : (0 : Int) ≤ (cp : Int) := by omega
  clear h1 h2 hq0 hc1 hl
  rcases q0 with _ | a
  · go_enter Tryz.func202, Tryz.ntmps202
    go_upto_region 2 with (fail)
    refine wp_loop_rounds 1 ?_
    rw [rounds_succ]
    go_upto_region 6 with (fail)
    refine wp_loop_rounds 1 ?_
    rw [rounds_succ]
    go_wp2_with (go_at_call 273; refine (HD.out _).mono ?_; rintro e_ w1 ⟨rfl, rfl⟩)
    go_returns
    exact HF.out _ rfl
  · go_enter Tryz.func202, Tryz.ntmps202
    go_upto_region 2 with (fail)
    refine wp_loop_rounds 1 ?_
    rw [rounds_succ]
    go_upto_region 6 with (fail)
    refine wp_loop_rounds 1 ?_
    rw [rounds_succ]
    go_wp2_with (go_at_call 273; refine (HD.out _).mono ?_; rintro e_ w1 ⟨rfl, rfl⟩)
    go_returns
    exact HF.out _ rfl
set_option maxRecDepth 100000 in
set_option maxHeartbeats 4000000 in
theorem qdue2_c (q : Nat) (Q : QS) (x : QI) (now many : Int) (hl : Q.l = [x]) (hx : now < x.1) (w : World) (M : Nat → Prop) (h : QA q Q w M) :
    Calls Tryz.prog 202 #[.pointer (some ⟨q, 0, none⟩), .int .i64 now, .int .i64 many] w fun r w' => DueR q Q [] w M r w' := by
  have HQ := Lib.hid h
  obtain ⟨v, m, D, h1, h2, -⟩ := h
  rw [hl] at h2
  obtain ⟨q0, cp, rfl, hc1, -, hrd, -, hq0⟩ := h2.form lenQ
  obtain ⟨g, rfl⟩ := hq0 (by simp)
  have hrd' := hrd (by simp)
  obtain ⟨g', o', e, h5⟩ := hrd'
  simp at e
  obtain ⟨rfl, rfl⟩ := e
  have r0 : w.cell? ⟨g, 0, none⟩ = some (.int .i64 x.1) := h5 0 x rfl 0 _ rfl
  simp only [List.length_singleton] at hc1
  have HD := Lib.hid fun W => qdel0_c (some ⟨g, 0, none⟩) 1 cp (fun e => by cases e) hc1 W
  have b2 := h1.cell 2
  have f2 := h1.frz 2
  have HF := Lib.hid (due_same HQ.out h1)
  have hcp : (0 : Int) ≤ (cp : Int) := by omega
  have hcp1 : (1 : Int) ≤ (cp : Int) := by omega
  have hx1 : ¬ x.1 ≤ now := by omega
  clear h1 h2 hc1 hl hrd h5 hx hq0
  by_cases hm : (0 : Int) < many
  · go_enter Tryz.func202, Tryz.ntmps202
    go_upto_region 2 with (fail)
    refine wp_loop_rounds 1 ?_
    rw [rounds_succ]
    go_upto_region 6 with (fail)
    refine wp_loop_rounds 1 ?_
    rw [rounds_succ]
    go_wp2_with (go_at_call 273; refine (HD.out _).mono ?_; rintro e_ w1 ⟨rfl, rfl⟩)
    go_returns
    exact HF.out _ rfl
  · go_enter Tryz.func202, Tryz.ntmps202
    go_upto_region 2 with (fail)
    refine wp_loop_rounds 1 ?_
    rw [rounds_succ]
    go_upto_region 6 with (fail)
    refine wp_loop_rounds 1 ?_
    rw [rounds_succ]
    go_wp2_with (go_at_call 273; refine (HD.out _).mono ?_; rintro e_ w1 ⟨rfl, rfl⟩)
    go_returns
    exact HF.out _ rfl
end Go.Proofs.YtmbccnioijokfaaGreatDoor

namespace Go.Proofs.YtmbccnioijokfaaGreatDoor
open Go.RowKit Go.Maps
attribute [local go_sem] Oper.semAt_some
theorem run_clear1 (w : World) (g c : Nat) (ty : TypeId) (cur : Array Value) (hB : Blk w g 92 cur) (hc : 4 ≤ cur.size) :
    (Builtin.clear_ #[88] ty #[.slice (some ⟨g, 0, none⟩) 1 c]).run Tryz.prog w = .ok (.tuple #[]) ((((w.setCell ⟨g, 0, none⟩ (.int .i64 0)).setCell ⟨g, 1, none⟩ (.int .i64 0)).setCell ⟨g, 2, none⟩ (.int .i64 0)).setCell ⟨g, 3, none⟩ (.int .i64 0)) := by
  have hzc : (Builtin.zeroCells (Value.agg #[.int .i64 0, .int .i64 0, .int .i64 0, .int .i64 0]).cells 1).toList = List.replicate 4 (.int .i64 0) := by kernel_rfl
  have hst := run_storeCells_cells (P := Tryz.prog) g 0 (List.replicate 4 (.int .i64 0)) 0 w (fun j hj => ?_) (fun j hj => ?_) (by intro v hv'; rw [List.eq_of_mem_replicate hv']; rfl)
  · simp only [Nat.add_zero] at hst
    simp only [Builtin.clear_]
    simp [run_underlying Tryz.underlying88]
    simp only [List.replicate] at hst hzc
    rw [hzc, hst]
    rfl
  · have hj' : j < cur.size := by rw [List.length_replicate] at hj; omega
    simp only [Nat.zero_add, Nat.add_zero]
    rw [hB.cell, Array.getElem?_eq_getElem hj']; rfl
  · exact hB.frz _
theorem Owns.empty {w w' : World} {base g n cap size : Nat} {e : TypeId} {α : Type} {enc : α → List Value} {xs : List α} {cur cur' : Array Value} (h : Owns w base e size enc (.slice (some ⟨g, 0, none⟩) n cap) xs) (hB : Blk w g e cur) (hB' : Blk w' g e cur') (hs : cur'.size = cur.size) : Owns w' base e size enc (.slice (some ⟨g, 0, none⟩) 0 cap) ([] : List α) := by
  refine ⟨by simp, .inr ?_⟩
  rcases h.2 with ⟨hv, h0⟩ | ⟨g', cap', cur2, hv', hb, hg, hc, hm, hs2, ht⟩
  · cases hv
  · obtain ⟨h2, h3, h4⟩ := Value.slice.inj hv'
    obtain rfl : g = g' := by simpa using h2
    subst h4
    have e : cur2 = cur := by
      unfold Blk at hB
      rw [hg] at hB
      simpa using hB
    subst e
    exact ⟨g, cap, cur', rfl, hb, hB', Nat.zero_le _, hm, by rw [hs]; exact hs2, by simp⟩
def Del1 (g cp : Nat) (w : World) (r : Ending) (w' : World) : Prop := r = .returned (.slice (some ⟨g, 0, none⟩) 0 cp) ∧ Owns w' 0 92 4 encQ (.slice (some ⟨g, 0, none⟩) 0 cp) [] ∧ Kept (fun b => b ≠ g) w w'
set_option maxRecDepth 100000 in
set_option maxHeartbeats 1000000 in
theorem qdel1_c (g cp : Nat) (x : QI) (w : World) (hO : Owns w 0 92 4 encQ (.slice (some ⟨g, 0, none⟩) 1 cp) [x]) : Calls Tryz.prog 273 #[.slice (some ⟨g, 0, none⟩) 1 cp, .int .i64 0, .int .i64 1] w fun r w' => Del1 g cp w r w' := by
  obtain ⟨cur, hB, hs, hcp⟩ : ∃ cur, Blk w g 92 cur ∧ cur.size = cp * 4 ∧ 1 ≤ cp := by
    rcases hO.2 with ⟨hv, h0⟩ | ⟨g', cap', cur2, hv', hb, hg, hc, hm, hs2, ht⟩
    · cases hv
    · obtain ⟨h2, h3, h4⟩ := Value.slice.inj hv'
      obtain rfl : g = g' := by simpa using h2
      subst h4
      exact ⟨cur2, hg, hs2, by simpa using hc⟩
  obtain ⟨i, hi, -, hsz, -⟩ := info_parts infQ
  have hap : ∀ (a : Option Addr) (c2 : Nat) (ty : TypeId) (W : World), (Builtin.append_ #[88, 88] ty #[.slice (some ⟨g, 0, none⟩) 0 cp, .slice a 0 c2]).run Tryz.prog W = .ok (.slice (some ⟨g, 0, none⟩) 0 cp) W := fun a c2 ty W => run_append_nothing W _ _ _ _ i Tryz.underlying88 hi _ _ _ (Nat.zero_le _) _ (by
    rcases a with _ | a
    · exact Src.ofNil W Tryz.underlying88 c2
    · exact Src.ofSlice W Tryz.underlying88 a 0 c2 [] (by simp) (by simp) (by simp))
  have hcl : ∀ (W : World), Below w.heap.size w W → ∀ (c : Nat) (ty : TypeId), (Builtin.clear_ #[88] ty #[.slice (some ⟨g, 0, none⟩) 1 c]).run Tryz.prog W = .ok (.tuple #[]) ((((W.setCell ⟨g, 0, none⟩ (.int .i64 0)).setCell ⟨g, 1, none⟩ (.int .i64 0)).setCell ⟨g, 2, none⟩ (.int .i64 0)).setCell ⟨g, 3, none⟩ (.int .i64 0)) := fun W hb c ty => run_clear1 W g c ty cur (hB.on hb) (by omega)
  have HCL := Lib.hid hcl
  have HF : Hid (∀ W, Below w.heap.size w W → Del1 g cp w (.returned (.slice (some ⟨g, 0, none⟩) 0 cp)) ((((W.setCell ⟨g, 0, none⟩ (.int .i64 0)).setCell ⟨g, 1, none⟩ (.int .i64 0)).setCell ⟨g, 2, none⟩ (.int .i64 0)).setCell ⟨g, 3, none⟩ (.int .i64 0))) := Lib.hid fun W hb => ⟨rfl, (hO.on hb).empty (hB.on hb) (((((hB.on hb).set_ 0 _).set_ 1 _).set_ 2 _).set_ 3 _) (by simp), ((Kept.of_below hb).mono fun _ _ => trivial).trans (((((Kept.refl _ _).setCell (by simp) _).setCell (by simp) _).setCell (by simp) _).setCell (by simp) _)⟩
  have h1 : (1 : Int) ≤ (cp : Int) := by omega
  have h0 : (0 : Int) ≤ (cp : Int) := by omega
  clear hO hs hcl hB
  rcases (show cp = 1 ∨ 1 < cp by omega) with rfl | hcp2
  · go_enter Tryz.func273, Tryz.ntmps273
    go_upto_region 5 with (fail)
    refine wp_region_quiet_below (by kernel_rfl) (by kernel_rfl) ?_
    repeat (go_big_quiet_step (fail))
    refine wpQuiet_nil ?_
    intro w' hw'
    obtain ⟨rg, rfl⟩ := hw'
    obtain ⟨W1, hW1⟩ : ∃ W1, W1 = Go.Sort.grow (redrawn w rg.d) rg.os := ⟨_, rfl⟩
    have g1 : Below w.heap.size w W1 := by rw [hW1]; exact below_regrown _ _ _
    rw [← hW1]
    have hcl2 := HCL.out W1 g1
    have HF1 := Lib.hid (HF.out W1 g1)
    clear hW1 g1 HF HCL
    go_wp2_with (simp only [hcl2])
    go_returns
    exact HF1.out
  · have hcp3 : ¬ cp = 1 := by omega
    have hcp4 : 1 ≤ cp := by omega
    go_enter Tryz.func273, Tryz.ntmps273
    go_upto_region 5 with (fail)
    refine wp_region_quiet_below (by kernel_rfl) (by kernel_rfl) ?_
    repeat (go_big_quiet_step (fail))
    refine wpQuiet_nil ?_
    intro w' hw'
    obtain ⟨rg, rfl⟩ := hw'
    obtain ⟨W1, hW1⟩ : ∃ W1, W1 = Go.Sort.grow (redrawn w rg.d) rg.os := ⟨_, rfl⟩
    have g1 : Below w.heap.size w W1 := by rw [hW1]; exact below_regrown _ _ _
    rw [← hW1]
    have hcl2 := HCL.out W1 g1
    have HF1 := Lib.hid (HF.out W1 g1)
    clear hW1 g1 HF HCL
    go_wp2_with (simp only [hcl2])
    go_returns
    exact HF1.out
end Go.Proofs.YtmbccnioijokfaaGreatDoor

namespace Go.Proofs.YtmbccnioijokfaaGreatDoor
open Go.RowKit Go.Maps
attribute [local go_sem] Oper.semAt_some
theorem infCl : (Tryz.prog.info? 43).map (fun i => (i.zero, i.size, i.bytes)) = some (some (.agg #[.int .i64 0, .int .i64 0, .int .i64 0]), 3, 24) := by kernel_rfl
theorem cl_push {B : Nat} {v : Value} {xs : List Cl} {p : Cl} {W : World} {b : Nat} (hO : Owns W B 43 3 encCl v xs) (h8 : Blk W b 43 #[.int .i64 p.1, .int .i64 p.2.1, .int .i64 p.2.2]) (hl : xs.length ≤ 1000000) (hB : B ≤ W.heap.size) :
    ∃ q c w', (Builtin.append_ #[47, 47] 47 #[v, .slice (some ⟨b, 0, none⟩) 1 1]).run Tryz.prog W = .ok (.slice q (xs.length + 1) c) w' ∧ Owns w' B 43 3 encCl (.slice q (xs.length + 1) c) (xs ++ [p]) ∧ Below B W w' := by
  obtain ⟨v', w', hrun, V2, -, hb2, g2, c2, rfl⟩ := run_push (P := Tryz.prog) (ts := 47) (ty := 47) (x := p) (b := b) Tryz.underlying47 infCl rfl (by decide) (by decide) rfl (by intro u hu; simp [encCl] at hu; rcases hu with rfl | rfl | rfl <;> rfl) hO (fun j u hu => by rw [h8.cell j]; simpa [encCl] using hu) (by omega) hB
  exact ⟨_, _, w', hrun, V2, hb2⟩
set_option maxRecDepth 100000 in
set_option maxHeartbeats 4000000 in
theorem qdue1_c (q : Nat) (Q : QS) (x : QI) (now many : Int) (hl : Q.l = [x]) (hx : x.1 ≤ now) (hm : 1 ≤ many) (w : World) (M : Nat → Prop) (h : QA q Q w M) :
    Calls Tryz.prog 202 #[.pointer (some ⟨q, 0, none⟩), .int .i64 now, .int .i64 many] w fun r w' => DueR q { Q with l := [] } [x.2] w M r w' := by
  obtain ⟨v, m, D, h1, h2, h3, h4, hM⟩ := h
  rw [hl] at h2 h3 h4
  obtain ⟨q0, cp, rfl, hc1, -, hrd, -, hq0⟩ := h2.form lenQ
  obtain ⟨g, rfl⟩ := hq0 (by simp)
  obtain ⟨g', o', e, h5⟩ := hrd (by simp)
  simp at e
  obtain ⟨rfl, rfl⟩ := e
  simp only [List.length_singleton] at hc1 h1 h2
  have r0 : w.cell? ⟨g, 0, none⟩ = some (.int .i64 x.1) := h5 0 x rfl 0 _ rfl
  have r1 : w.cell? ⟨g, 1, none⟩ = some (.int .i64 x.2.1) := h5 0 x rfl 1 _ rfl
  have r2 : w.cell? ⟨g, 2, none⟩ = some (.int .i64 x.2.2.1) := h5 0 x rfl 2 _ rfl
  have r3 : w.cell? ⟨g, 3, none⟩ = some (.int .i64 x.2.2.2) := h5 0 x rfl 3 _ rfl
  have b2 := h1.cell 2
  have HB := Lib.hid h1
  have HO := Lib.hid h2
  have HMP := Lib.hid h3
  have HT := Lib.hid (And.intro h4 hM)
  have hcp : (0 : Int) ≤ (cp : Int) := by omega
  have hcp1 : (1 : Int) ≤ (cp : Int) := by omega
  have hm0 : (0 : Int) < many := by omega
  clear h1 h2 h3 h4 hM hc1 hl hrd h5 hq0 hm
  go_enter Tryz.func202, Tryz.ntmps202
  go_upto_region 2 with (fail)
  refine wp_loop_rounds 2 ?_
  rw [rounds_succ]
  go_upto_region 6 with (fail)
  rw [rounds_succ]
  go_upto_region 6 with (fail)
  refine wp_loop_rounds 2 ?_
  rw [rounds_succ]
  obtain ⟨W1, hW1⟩ : ∃ W1, W1 = w.alloc (.cells #[.int .i64 x.1, .int .i64 x.2.1, .int .i64 x.2.2.1, .int .i64 x.2.2.2] 92) := ⟨_, rfl⟩
  have h1 : Below w.heap.size w W1 := by rw [hW1]; exact bel_alloc _ _
  have X1 := Blk.fresh hW1
  have x0 := X1.cell 0
  have x1 := X1.cell 1
  have x2 := X1.cell 2
  have x3 := X1.cell 3
  go_upto_region 8 with (fail)
  rw [← hW1]
  clear hW1 r0 r1 r2 r3 b2
  obtain ⟨W2, hW2⟩ : ∃ W2, W2 = W1.alloc (.cells #[.int .i64 x.2.1, .int .i64 x.2.2.1, .int .i64 x.2.2.2] 43) := ⟨_, rfl⟩
  have h2 : Below W1.heap.size W1 W2 := by rw [hW2]; exact bel_alloc _ _
  have X2 := Blk.fresh hW2
  obtain ⟨qo, co, w3, hrun, ho, hb3⟩ := cl_push (W := W2) (B := W2.heap.size) (v := .slice none 0 0) (xs := []) (p := x.2) Owns.nil X2 (by simp) (Nat.le_refl _)
  rw [hW2] at hrun
  have G3 := Lib.hid (after (after h1 h2) hb3)
  have HO3 := Lib.hid (ho.lowB (after h1 h2).size)
  have HX3 := Lib.hid ((X1.on h2).on hb3)
  clear hW2 X2 ho
  go_upto_region 9 with (at_builtin; refine Lib.wpList_append_run _ rfl _ _ _ _ rfl _ _ rfl rfl _ _ hrun ?_)
  clear hrun hb3 h1 h2 X1 x0 x1 x2 x3
  have x1 := fun d os => (HX3.out.re d os).cell 1
  have x2 := fun d os => (HX3.out.re d os).cell 2
  have x3 := fun d os => (HX3.out.re d os).cell 3
  have hB3 := HB.out.on G3.out
  have b3 := fun d os => (hB3.re d os).cell 3
  refine wp_sched [0, 0, 0, 0, 0, 0, 3] (fun _ _ _ => True) (by kernel_rfl) (by kernel_rfl) (fun _ _ _ _ h _ => h) ?_
  repeat (first | (refine wpQs_s ?_) | (refine wpQs_q (fun K hK => ?_); go_simp; first | (refine hK _ ?_; clear hK K) | (apply Exists.intro; refine ⟨fun _ => ?_, hK _ ?_⟩; (fail); clear hK K)) | (refine wpQs_f (fun K hK => ?_); go_simp; refine hK _ ?_; clear hK K))
  refine wpQs_nil ?_
  repeat (first | (refine wpLs_skip ?_) | (refine wpLs_one ?lsA (fun v_ => ?_); case lsA => (intro w_ hw_ hp_; (fail))))
  refine wpLs_nilB ?_
  simp only [tails]
  intro W4 h4 _
  have G4 := Lib.hid (after G3.out h4)
  have HO4 := Lib.hid (HO3.out.on h4)
  have HM4 := Lib.hid (qmap_kept (K := fun _ => True) HMP.out ((Kept.of_below G4.out).mono fun _ _ => trivial) trivial)
  clear x1 x2 x3 b3 hB3 h4 HO3 HX3 G3
  have hx3 := (HT.out.1.far x List.mem_cons_self).1
  have HX3 := Lib.hid hx3
  clear hx3
  go_wp2_with (at_delete; refine wpList_delete_own _ rfl _ _ 173 43 rfl 3 lawC Tryz.underlying173 RI m _ D rfl HM4.out _ (kc x.2) rfl (keyC HX3.out) ?_; intro w5 hown5 hturn5)
  have hk5 := grown_kept hturn5.grown
  have HM5 := Lib.hid (map_size hown5)
  rw [rounds_succ]
  go_upto_region 11 with (fail)
  have hmq : m ≠ q := fun e => map_no HMP.out (by rw [e]; exact HB.out)
  obtain ⟨-, curg, hBg⟩ := own_at HO.out (b := g) rfl
  have hmg : m ≠ g := fun e => map_no HMP.out (by rw [e]; exact hBg)
  have hgq : g ≠ q := fun e => by rw [e] at hBg; exact absurd (one_type hBg HB.out) (by decide)
  have hB5 := hk5.blk (fun e => hmq (Option.some.inj e)) (HB.out.on G4.out)
  have hO5 := (HO.out.on G4.out).keep hk5 fun b hb e => by
    simp [Value.ownBlock] at hb
    exact hmg ((Option.some.inj e).trans hb.symm)
  have b2 := hB5.cell 2
  have HDE := Lib.hid (qdel1_c g cp x w5 hO5)
  have hgl := hBg.lt
  have hml := HMP.out.lt
  have hT := HT.out.1.pop (HMP.out.tidy lawC) rfl
  have hM5 := HM5.out
  rw [hT.size] at hM5
  have H5 := Lib.hid (And.intro hB5 (And.intro hk5 (And.intro hM5 (And.intro hT (And.intro hmq (And.intro hmg (And.intro hgq (And.intro hgl hml))))))))
  clear hmq hBg hmg hgq hB5 hO5 hgl hml hT hM5 hk5 HM5 hown5 hturn5
  go_upto_region 12 with (go_at_call 273; refine HDE.out.mono ?_; rintro e_ w6 ⟨rfl, o6, k6⟩; have K6 := Lib.hid k6; have O6 := Lib.hid o6; have b2' := (k6.blk H5.out.2.2.2.2.2.2.1.symm H5.out.1).cell 2; have f2' := (k6.blk H5.out.2.2.2.2.2.2.1.symm H5.out.1).frz 2; clear k6 o6)
  clear b2 b2' f2'
  go_wp2_with fail
  go_returns
  obtain ⟨hB5, hk5, hM5, hT, hmq, hmg, hgq, hgl, hml⟩ := H5.out
  have k6 := K6.out
  have hB6 := k6.blk hgq.symm hB5
  have hst : Kept (fun b => b ≠ q) w6 (w6.setCell ⟨q, 2, none⟩ (.slice (some ⟨g, 0, none⟩) 0 cp)) := (Kept.refl _ _).setCell (by simp) _
  have hql := HB.out.lt
  have k47 : Kept (fun b => b ≠ m ∧ b ≠ g ∧ b ≠ q) W4 (w6.setCell ⟨q, 2, none⟩ (.slice (some ⟨g, 0, none⟩) 0 cp)) := (hk5.mono fun b hb e => hb.1 (Option.some.inj e).symm).trans ((k6.mono fun b hb => hb.2.1).trans (hst.mono fun b hb => hb.2.2))
  refine ⟨_, rfl, HO4.out.keep k47 fun b hb => ?_, fun b => b = q ∨ Value.ownBlock (.slice (some ⟨g, 0, none⟩) 0 cp) = some b ∨ b = m, ⟨_, m, _, hB6.set_ 2 _, O6.out.keep hst fun b hb e => ?_, qmap_kept (qmap_kept hM5 k6 hmg) hst hmq, hT, fun _ => Iff.rfl⟩, fun b hb => .inl ((HT.out.2 b).2 ?_), ?_⟩
  · have := (HO4.out.block b hb).1
    omega
  · simp [Value.ownBlock] at hb
    omega
  · rcases hb with hb | hb | hb
    · exact .inl hb
    · exact .inr (.inl hb)
    · exact .inr (.inr hb)
  · exact ((Kept.of_below G4.out).mono fun _ _ => trivial).trans (k47.mono fun b hb => ⟨fun e => hb ((HT.out.2 b).2 (.inr (.inr e))), fun e => hb ((HT.out.2 b).2 (.inr (.inl (by rw [e]; rfl)))), fun e => hb ((HT.out.2 b).2 (.inl e))⟩)
end Go.Proofs.YtmbccnioijokfaaGreatDoor

namespace Go.Proofs.YtmbccnioijokfaaGreatDoor
open Go.RowKit Go.Maps
attribute [local go_sem] Oper.semAt_some
def yldB (n : Int) : Bool := (n == 0) || wetB n
theorem yields_c (n : Int) (w : World) : Calls Tryz.prog 194 #[.int .i64 n] w fun r w' => r = .returned (.bool (yldB n)) ∧ w = w' := by
  by_cases h : n = 0
  · subst h
    have e : yldB 0 = true := rfl
    rw [e]
    go_enter Tryz.func194, Tryz.ntmps194
    go_wp2_with fail
    go_returns
    exact ⟨rfl, rfl⟩
  · have h1 : (n == 0) = false := by simpa using h
    have e : yldB n = wetB n := by unfold yldB; rw [h1]; rfl
    rw [e]
    clear e h
    go_enter Tryz.func194, Tryz.ntmps194
    go_wp2_with (go_at_call 259; refine (wet_c _ _).mono ?_; rintro e_ w1 ⟨rfl, rfl⟩)
    go_returns
    exact ⟨rfl, rfl⟩
def dlyI (n : Int) : Int := if fallB n then 2 else if wetB n then 5 else 0
theorem delay_c (n : Int) (w : World) : Calls Tryz.prog 251 #[.int .i64 n] w fun r w' => r = .returned (.int .i64 (dlyI n)) ∧ w = w' := by
  have HF := Lib.hid (falls_c n w)
  have HW := Lib.hid (wet_c n w)
  unfold dlyI
  cases h1 : fallB n
  · rw [h1] at HF
    cases h2 : wetB n
    · rw [h2] at HW
      clear h1 h2
      go_enter Tryz.func251, Tryz.ntmps251
      go_wp2_with first
        | (go_at_call 275; refine HF.out.mono ?_; rintro e_ w1 ⟨rfl, rfl⟩)
        | (go_at_call 259; refine HW.out.mono ?_; rintro e_ w1 ⟨rfl, rfl⟩)
      go_returns
      exact ⟨rfl, rfl⟩
    · rw [h2] at HW
      clear h1 h2
      go_enter Tryz.func251, Tryz.ntmps251
      go_wp2_with first
        | (go_at_call 275; refine HF.out.mono ?_; rintro e_ w1 ⟨rfl, rfl⟩)
        | (go_at_call 259; refine HW.out.mono ?_; rintro e_ w1 ⟨rfl, rfl⟩)
      go_returns
      exact ⟨rfl, rfl⟩
  · rw [h1] at HF
    clear h1
    go_enter Tryz.func251, Tryz.ntmps251
    go_wp2_with (go_at_call 275; refine HF.out.mono ?_; rintro e_ w1 ⟨rfl, rfl⟩)
    go_returns
    exact ⟨rfl, rfl⟩
def nearL (c : Cl) : List Cl := [(c.1 - 1, c.2.1, c.2.2), (c.1 + 1, c.2.1, c.2.2), (c.1, c.2.1 - 1, c.2.2), (c.1, c.2.1 + 1, c.2.2), (c.1, c.2.1, c.2.2 - 1), (c.1, c.2.1, c.2.2 + 1)]
def Mid (c : Cl) : Prop := (-1000000000 ≤ c.1 ∧ c.1 ≤ 1000000000) ∧ (-1000000000 ≤ c.2.1 ∧ c.2.1 ≤ 1000000000) ∧ (-1000000000 ≤ c.2.2 ∧ c.2.2 ≤ 1000000000)
def nearV (c : Cl) : Array Value := #[.int .i64 (c.1 - 1), .int .i64 c.2.1, .int .i64 c.2.2, .int .i64 (c.1 + 1), .int .i64 c.2.1, .int .i64 c.2.2, .int .i64 c.1, .int .i64 (c.2.1 - 1), .int .i64 c.2.2, .int .i64 c.1, .int .i64 (c.2.1 + 1), .int .i64 c.2.2, .int .i64 c.1, .int .i64 c.2.1, .int .i64 (c.2.2 - 1), .int .i64 c.1, .int .i64 c.2.1, .int .i64 (c.2.2 + 1)]
theorem cc_mid {n : Int} (h : -1000000001 ≤ n ∧ n ≤ 1000000001) : ccI n = n := by unfold ccI mnI mxI; omega
theorem near_mid {c : Cl} (h : Mid c) : nearA c.1 c.2.1 c.2.2 = nearV c := by
  obtain ⟨h1, h2, h3⟩ := h
  simp only [nearA, nearV]
  have e1 := cc_mid (n := c.1) (by omega)
  have e2 := cc_mid (n := c.2.1) (by omega)
  have e3 := cc_mid (n := c.2.2) (by omega)
  rw [e1, e2, e3, e1, e2, e3, cc_mid (n := c.1 + -1) (by omega), cc_mid (n := c.1 + 1) (by omega), cc_mid (n := c.2.1 + -1) (by omega), cc_mid (n := c.2.1 + 1) (by omega), cc_mid (n := c.2.2 + -1) (by omega), cc_mid (n := c.2.2 + 1) (by omega)]
  simp only [Int.sub_eq_add_neg]
theorem cnear_m (c : Cl) (h : Mid c) (w : World) : Calls Tryz.prog 186 #[cellV c] w fun r w' => r = .returned (.agg (nearV c)) ∧ Below w.heap.size w w' := by
  have := cnear_c c.1 c.2.1 c.2.2 w
  rw [near_mid h] at this
  exact this
theorem at6_2 (a0 a1 a2 a3 a4 a5 a6 a7 a8 a9 b0 b1 b2 b3 b4 b5 b6 b7 : Value) (w : World) : (Instr.index 257 (.agg #[a0, a1, a2, a3, a4, a5, a6, a7, a8, a9, b0, b1, b2, b3, b4, b5, b6, b7]) (.int .i64 2)).run Tryz.prog w = .ok (.agg #[a6, a7, a8]) w := by kernel_rfl
end Go.Proofs.YtmbccnioijokfaaGreatDoor

namespace Go.Proofs.YtmbccnioijokfaaGreatDoor
open Go.RowKit Go.Maps
attribute [local go_sem] Oper.semAt_some
def wakeL (val : Cl → Int) (c : Cl) : List Cl := (c :: nearL c).filter fun d => decide (0 < dlyI (val d))
def RowCl (w : World) (xs : List Cl) (r : Ending) (w' : World) : Prop := ∃ v, r = .returned v ∧ Owns w' w.heap.size 43 3 encCl v xs ∧ Below w.heap.size w w'
def Sl7 (N : Nat) (c : Cl) (v : Value) (w : World) : Prop := ∃ g cap, v = .slice (some ⟨g, 0, none⟩) 7 cap ∧ Owns w N 43 3 encCl (.slice (some ⟨g, 0, none⟩) 7 cap) (c :: nearL c)
def Sl1 (c : Cl) (v : Value) (w : World) : Prop := ∃ b, v = .slice (some ⟨b, 0, none⟩) 1 1 ∧ Blk w b 43 #[.int .i64 c.1, .int .i64 c.2.1, .int .i64 c.2.2]
def wkR (N : Nat) (c : Cl) : Nat → Rel := fun i v w => match i with | 1 => Sl1 c v w | 3 => Sl7 N c v w | 4 => v = .int .i64 7 | _ => True
theorem wkR_on {N : Nat} {c : Cl} : ∀ i v (w w' : World), wkR N c i v w → Below w.heap.size w w' → wkR N c i v w'
  | 1, _, _, _, ⟨b, h1, h2⟩, hb => ⟨b, h1, h2.on hb⟩
  | 3, _, _, _, ⟨g, cap, h1, h2⟩, hb => ⟨g, cap, h1, h2.on hb⟩
  | 4, _, _, _, h, _ => h
  | 0, _, _, _, _, _ => trivial
  | 2, _, _, _, _, _ => trivial
  | _ + 5, _, _, _, _, _ => trivial
theorem rd_near {w : World} {g : Nat} {t : TypeId} {c : Cl} (h : Blk w g t (nearV c)) : Rd w (some ⟨g, 0, none⟩) 3 encCl (nearL c) := fun _ => by
  refine ⟨g, 0, rfl, fun i x hx j u hu => ?_⟩
  have hi : i < 6 := (List.getElem?_eq_some_iff.1 hx).1
  have hj : j < 3 := (List.getElem?_eq_some_iff.1 hu).1
  rw [h.cell]
  have hi' : i = 0 ∨ i = 1 ∨ i = 2 ∨ i = 3 ∨ i = 4 ∨ i = 5 := by omega
  have hj' : j = 0 ∨ j = 1 ∨ j = 2 := by omega
  rcases hi' with rfl | rfl | rfl | rfl | rfl | rfl <;> (obtain rfl := Option.some.inj hx; rcases hj' with rfl | rfl | rfl <;> exact hu)
theorem one_cl : ∀ xs : List Cl, ∀ x ∈ xs, ∀ u ∈ encCl x, u.oneCell' = true := fun _ x _ u hu => by simp [encCl] at hu; rcases hu with rfl | rfl | rfl <;> rfl
theorem rd_one {w : World} {b : Nat} {c : Cl} (h : Blk w b 43 #[.int .i64 c.1, .int .i64 c.2.1, .int .i64 c.2.2]) : Rd w (some ⟨b, 0, none⟩) 3 encCl [c] := fun _ => by
  refine ⟨b, 0, rfl, fun i x hx j u hu => ?_⟩
  have hi : i < 1 := (List.getElem?_eq_some_iff.1 hx).1
  have hj : j < 3 := (List.getElem?_eq_some_iff.1 hu).1
  obtain rfl : i = 0 := by omega
  obtain rfl := Option.some.inj hx
  have hj' : j = 0 ∨ j = 1 ∨ j = 2 := by omega
  rw [h.cell]
  rcases hj' with rfl | rfl | rfl <;> exact hu
theorem run_seven {w : World} {b g N : Nat} {c : Cl} {t : TypeId} (h1 : Blk w b 43 #[.int .i64 c.1, .int .i64 c.2.1, .int .i64 c.2.2]) (h2 : Blk w g t (nearV c)) (hN : N ≤ w.heap.size) :
    ∃ v' w', (Builtin.append_ #[47, 47] 47 #[.slice (some ⟨b, 0, none⟩) 1 1, .slice (some ⟨g, 0, none⟩) 6 6]).run Tryz.prog w = .ok v' w' ∧ Below w.heap.size w w' ∧ Sl7 N c v' w' := by
  obtain ⟨cap, w', hrun, ho, hb⟩ := run_fresh (P := Tryz.prog) (ts := 47) (ty := 47) (c := 1) (c2 := 6) Tryz.underlying47 infCl rfl (by decide) lenCl (one_cl _) (one_cl _) (rd_one h1) (rd_near h2) (by simp [nearL]) (by simp [nearL])
  exact ⟨_, w', hrun, hb, _, cap, rfl, ho.lowB hN⟩
theorem far_near {c : Cl} (h : Mid c) : ∀ d ∈ c :: nearL c, FarC d := fun d hd => by
  obtain ⟨h1, h2, h3⟩ := h
  simp [nearL] at hd
  unfold FarC In64
  rcases hd with rfl | rfl | rfl | rfl | rfl | rfl | rfl <;> (try dsimp only) <;> omega
def WkIf (N : Nat) (w wr : World) (xs : List Cl) (v : Value) : Prop := Owns wr N 43 3 encCl v xs ∧ Below w.heap.size w wr
set_option maxRecDepth 100000 in
set_option maxHeartbeats 4000000 in
theorem wakes_c (t : Nat) (val : Cl → Int) (c : Cl) (hc : Mid c) (w : World) (hV : Tells Tryz.prog 67 (.pointer (some ⟨t, 0, none⟩)) val w) :
    Calls Tryz.prog 250 #[viewV t, cellV c] w fun r w' => RowCl w (wakeL val c) r w' := by
  generalize hxs : wakeL val c = xs
  unfold wakeL at hxs
  have HXS := Lib.hid hxs
  clear hxs
  obtain ⟨W, hW⟩ : ∃ W, W = w.alloc (.cells #[.int .i64 c.1, .int .i64 c.2.1, .int .i64 c.2.2] 43) := ⟨_, rfl⟩
  have H : Below w.heap.size w W := by rw [hW]; exact bel_alloc _ _
  have C : Blk W w.heap.size 43 #[.int .i64 c.1, .int .i64 c.2.1, .int .i64 c.2.2] := Blk.fresh hW
  have HNE := Lib.hid fun W2 => cnear_m c hc W2
  have HV := Lib.hid hV
  have HC := Lib.hid C
  have HH := Lib.hid H
  have HMID := Lib.hid hc
  obtain ⟨c0, c1, c2, -, -, -⟩ := C.c3
  clear hV H C hc
  go_enter Tryz.func250, Tryz.ntmps250
  go_upto_region 2 with (fail)
  rw [← hW]
  clear hW
  have hone := Lib.hid (show (nearV c).all (·.oneCell') = true by simp [nearV, Value.oneCell'])
  go_upto_region 3 with first
    | (go_at_call 186; refine (HNE.out _).mono ?_; rintro e_ w1 ⟨rfl, g1⟩; have G1 := Lib.hid (after HH.out g1); have HC1 := Lib.hid (HC.out.on g1); clear g1)
    | (refine wpList_store_rowTo rfl 257 _ _ rfl rfl w1.heap.size (nearV c) rfl rfl 257 _ (Blk.new' rfl) (by kernel_rfl) rfl hone.out ?_)
  obtain ⟨W1, hW1⟩ : ∃ W1, W1 = w1.alloc (.cells #[.int .i64 0, .int .i64 0, .int .i64 0, .int .i64 0, .int .i64 0, .int .i64 0, .int .i64 0, .int .i64 0, .int .i64 0, .int .i64 0, .int .i64 0, .int .i64 0, .int .i64 0, .int .i64 0, .int .i64 0, .int .i64 0, .int .i64 0, .int .i64 0] 257) := ⟨_, rfl⟩
  have g1 : Below w1.heap.size w1 W1 := by rw [hW1]; exact bel_alloc _ _
  have X1 := Blk.fresh hW1
  rw [← hW1]
  obtain ⟨W2, hW2⟩ : ∃ W2, W2 = W1.setRow w1.heap.size (nearV c) := ⟨_, rfl⟩
  have g2 : Below w1.heap.size w1 W2 := by rw [hW2]; exact below_row g1 (Nat.le_refl _) _
  have X2 : Blk W2 w1.heap.size 257 (nearV c) := by rw [hW2]; exact X1.row _
  rw [← hW2]
  have HX2 := Lib.hid X2
  have G2 := Lib.hid (after G1.out g2)
  have HC2 := Lib.hid (HC1.out.on g2)
  clear hW1 g1 X1 hW2 g2 X2 c0 c1 c2 hone
  obtain ⟨c0, c1, c2⟩ := HC2.out.re3
  refine wp_sched [0, 2, 0, 2, 2, 0] (wkR w.heap.size c) (by kernel_rfl) (by kernel_rfl) (wkR_on) ?_
  repeat (first | (refine wpQs_s ?_) | (refine wpQs_q (fun K hK => ?_); go_simp; first | (refine hK _ ?_; clear hK K) | (apply Exists.intro; refine ⟨fun _ => ?_, hK _ ?_⟩; (fail); clear hK K)) | (refine wpQs_f (fun K hK => ?_); go_simp; refine hK _ ?_; clear hK K))
  refine wpQs_nil ?_
  refine wpLs_skip ?_
  refine wpLs_one ?lsA (fun v_ => ?_)
  case lsA => (intro w_ hw_ hp_; (first | (dsimp only at hF_; obtain ⟨b9, rfl, hB9⟩ := (show Sl1 _ _ _ from hF_.2 (by kernel_rfl)); obtain ⟨v9, w9, hr9, hb9, hS9⟩ := run_seven hB9 (HX2.out.on (msd_kept hw_).none) (Nat.le_trans G2.out.size (msd_kept hw_).size); exact sumAt_append _ _ _ _ rfl _ _ rfl rfl v9 w9 hr9 ((Kept.of_below hb9).mono fun _ _ => trivial) hS9) | (dsimp only at hF_; obtain ⟨g9, c9, rfl, -⟩ := (show Sl7 _ _ _ _ from hF_.2 (by kernel_rfl)); go_simp; exact ⟨Kept.refl _ _, rfl⟩) | (go_simp; exact ⟨Kept.of_below ((Below.refl _ _).alloc (Nat.le_refl _) _), _, rfl, Blk.new' rfl⟩)))
  refine wpLs_skip ?_
  refine wpLs_oneF ?lsA (fun v_ => ?_)
  case lsA => (intro w_ hw_ hp_ hF_; (first | (dsimp only at hF_; obtain ⟨b9, rfl, hB9⟩ := (show Sl1 _ _ _ from hF_.2 (by kernel_rfl)); obtain ⟨v9, w9, hr9, hb9, hS9⟩ := run_seven hB9 (HX2.out.on (msd_kept hw_).none) (Nat.le_trans G2.out.size (msd_kept hw_).size); exact sumAt_append _ _ _ _ rfl _ _ rfl rfl v9 w9 hr9 ((Kept.of_below hb9).mono fun _ _ => trivial) hS9) | (dsimp only at hF_; obtain ⟨g9, c9, rfl, -⟩ := (show Sl7 _ _ _ _ from hF_.2 (by kernel_rfl)); go_simp; exact ⟨Kept.refl _ _, rfl⟩) | (go_simp; exact ⟨Kept.of_below ((Below.refl _ _).alloc (Nat.le_refl _) _), _, rfl, Blk.new' rfl⟩)))
  refine wpLs_oneF ?lsA (fun v_ => ?_)
  case lsA => (intro w_ hw_ hp_ hF_; (first | (dsimp only at hF_; obtain ⟨b9, rfl, hB9⟩ := (show Sl1 _ _ _ from hF_.2 (by kernel_rfl)); obtain ⟨v9, w9, hr9, hb9, hS9⟩ := run_seven hB9 (HX2.out.on (msd_kept hw_).none) (Nat.le_trans G2.out.size (msd_kept hw_).size); exact sumAt_append _ _ _ _ rfl _ _ rfl rfl v9 w9 hr9 ((Kept.of_below hb9).mono fun _ _ => trivial) hS9) | (dsimp only at hF_; obtain ⟨g9, c9, rfl, -⟩ := (show Sl7 _ _ _ _ from hF_.2 (by kernel_rfl)); go_simp; exact ⟨Kept.refl _ _, rfl⟩) | (go_simp; exact ⟨Kept.of_below ((Below.refl _ _).alloc (Nat.le_refl _) _), _, rfl, Blk.new' rfl⟩)))
  refine wpLs_skip ?_
  refine wpLs_nilB ?_
  simp only [tails]
  rintro W3 h3 ⟨⟨⟨-, b9, rfl, -⟩, g7, c7, rfl, ho7⟩, h4⟩
  obtain rfl : _ = Value.int .i64 7 := h4
  have G3 := Lib.hid (after G2.out h3)
  have HFAR := Lib.hid (far_near HMID.out)
  have hrd := (ho7.form lenCl)
  obtain ⟨q', cap', hv', -, -, hrd, -⟩ := hrd
  have e1 : q' = some ⟨g7, 0, none⟩ := by simp at hv'; exact hv'.1.symm
  subst e1
  have HRD := Lib.hid hrd
  have hlen : (c :: nearL c).length = 7 := rfl
  generalize c :: nearL c = L at *
  clear hrd hv' ho7 c0 c1 c2 HX2 HC2 HMID HNE HC1 h3
  go_upto_region 4 with (fail)
  simp only [Act.put]
  go_simp
  go_loopw [5, 8, 16] (fun v x i wr => ∃ (k : Nat), i = .int .i64 (k : Nat) ∧ Hid (k ≤ 7) ∧ Hid (WkIf W3.heap.size w wr ((L.take k).filter fun d => decide (0 < dlyI (val d))) v) ∧ Hid (Below W3.heap.size W3 wr)) (fun _ _ i _ => 7 - (intOf i).toNat)
  case atStart => exact ⟨0, rfl, Lib.hid (by omega), Lib.hid ⟨Owns.nil, G3.out⟩, Lib.hid (Below.refl _ _)⟩
  case round =>
    obtain ⟨k, rfl, hk, hI, hB⟩ := hrel
    by_cases hlt : k < 7
    · have hlt' : (k : Int) < 7 := by omega
      have hk0 : (0 : Int) ≤ k := by omega
      have hw : IntKind.i64.wrap ((k : Int) + 1) = (k : Int) + 1 := IntWalk.i64_in _ (by omega)
      obtain ⟨d, hd⟩ : ∃ d, L[k]? = some d := ⟨_, List.getElem?_eq_getElem (by omega)⟩
      have hrd := HRD.out.on hB.out
      have r0 : wr.cell? ⟨g7, 0 + k * 3, none⟩ = some (.int .i64 d.1) := hrd.at hd (j := 0) rfl
      have r1 : wr.cell? ⟨g7, 0 + k * 3 + 1, none⟩ = some (.int .i64 d.2.1) := hrd.at hd (j := 1) rfl
      have r2 : wr.cell? ⟨g7, 0 + k * 3 + 2, none⟩ = some (.int .i64 d.2.2) := hrd.at hd (j := 2) rfl
      have hfd := HFAR.out d (List.mem_of_getElem? hd)
      have hst : L.take (k + 1) = L.take k ++ [d] := by rw [List.take_add_one, hd]; rfl
      have HST := Lib.hid hst
      simp only [Nat.zero_add] at r0 r1 r2
      obtain ⟨W4, hW4⟩ : ∃ W4, W4 = wr.alloc (.cells #[.int .i64 d.1, .int .i64 d.2.1, .int .i64 d.2.2] 43) := ⟨_, rfl⟩
      have h4 : Below wr.heap.size wr W4 := by rw [hW4]; exact bel_alloc _ _
      have X4 := Blk.fresh hW4
      have HAT := Lib.hid (HV.out d hfd W4 (after (after hI.out.2 h4) (Below.refl _ _)))
      obtain ⟨x0, x1, x2, -, -, -⟩ := X4.c3
      clear hd hrd hst hfd
      go_upto_region 6 with (fail)
      rw [← hW4]
      clear hW4 r0 r1 r2
      have HBI := Lib.hid (And.intro hI.out hB.out)
      have H4 := Lib.hid h4
      have HX4 := Lib.hid X4
      clear h4 X4
      generalize hval : val d = vd at *
      have HVAL := Lib.hid hval
      have HDL := Lib.hid fun W => delay_c vd W
      cases hgt : decide (0 < dlyI vd)
      · have hgt' : ¬ (0 : Int) < dlyI vd := of_decide_eq_false hgt
        have HGT := Lib.hid hgt
        clear hgt hval
        go_wp2_with first
          | (go_at_call 67; refine HAT.out.mono ?_; rintro e_ w5 ⟨rfl, g5⟩; have G5 := Lib.hid g5; clear g5)
          | (go_at_call 251; refine (HDL.out _).mono ?_; rintro e_ w6 ⟨rfl, rfl⟩)
        have hb5 := after H4.out G5.out
        exact ⟨⟨k + 1, by go_num, Lib.hid hlt, Lib.hid ⟨by rw [HST.out, List.filter_append]; simp only [List.filter_cons, List.filter_nil, HVAL.out, HGT.out]; rw [if_neg (by decide), List.append_nil]; exact HBI.out.1.1.on hb5, after HBI.out.1.2 hb5⟩, Lib.hid (after HBI.out.2 hb5)⟩, by simp [intOf]; omega⟩
      · have hgt' : (0 : Int) < dlyI vd := of_decide_eq_true hgt
        have HGT := Lib.hid hgt
        have hln : ((L.take k).filter fun d => decide (0 < dlyI (val d))).length ≤ 1000000 := Nat.le_trans (List.length_filter_le _ _) (by rw [List.length_take]; omega)
        have HLN := Lib.hid hln
        clear hgt hval hln
        go_upto_region 7 with first
          | (go_at_call 67; refine HAT.out.mono ?_; rintro e_ w5 ⟨rfl, g5⟩; have G5 := Lib.hid g5; clear g5)
          | (go_at_call 251; refine (HDL.out _).mono ?_; rintro e_ w6 ⟨rfl, rfl⟩)
        clear x0 x1 x2
        obtain ⟨x0, x1, x2, -, -, -⟩ := (HX4.out.on G5.out).c3
        have HO5 := Lib.hid (HBI.out.1.1.on (after H4.out G5.out))
        have hN5 : W3.heap.size ≤ w5.heap.size := (after HBI.out.2 (after H4.out G5.out)).size
        obtain ⟨q6, c6, w7, hrun, ho, hb7⟩ := cl_push (W := w5.alloc (.cells #[.int .i64 d.1, .int .i64 d.2.1, .int .i64 d.2.2] 43)) (p := d) (HO5.out.on (bel_alloc _ _)) (Blk.new' rfl) HLN.out (by simp; omega)
        have HF := Lib.hid (And.intro ho hb7)
        clear ho hb7
        go_wp2_with (at_builtin; refine Lib.wpList_append_run _ rfl _ _ _ _ rfl _ _ rfl rfl _ _ hrun ?_)
        have hb5 := after (after H4.out G5.out) (bel_alloc w5 (.cells #[.int .i64 d.1, .int .i64 d.2.1, .int .i64 d.2.2] 43))
        have hb3 := (after HBI.out.2 hb5).trans HF.out.2
        exact ⟨⟨k + 1, by go_num, Lib.hid hlt, Lib.hid ⟨by rw [HST.out, List.filter_append]; simp only [List.filter_cons, List.filter_nil, HVAL.out, HGT.out]; rw [if_pos trivial]; exact HF.out.1, after G3.out hb3⟩, Lib.hid hb3⟩, by simp [intOf]; omega⟩
    · have hk7 : k = 7 := by have := hk.out; omega
      subst hk7
      have ht : L.take 7 = L := List.take_of_length_le (by omega)
      rw [ht, HXS.out] at hI
      have HI := Lib.hid (And.intro (hI.out.1.lowB G3.out.size) hI.out.2)
      clear hI ht
      go_wp2_with fail
      go_returns
      exact ⟨_, rfl, HI.out.1, HI.out.2⟩
end Go.Proofs.YtmbccnioijokfaaGreatDoor

namespace Go.Proofs.YtmbccnioijokfaaGreatDoor
open Go.RowKit Go.Maps
attribute [local go_sem] Oper.semAt_some
theorem own_made {w : World} {base g size : Nat} {e : TypeId} {α : Type} {enc : α → List Value} {xs : List α} {cur : Array Value} (hB : Blk w g e cur) (hb : base ≤ g) (hl : ∀ x, (enc x).length = size) (hm : xs.length ≤ maxLen) (hc : cur.toList = xs.flatMap enc) : Owns w base e size enc (.slice (some ⟨g, 0, none⟩) xs.length xs.length) xs := by
  have h1 : (xs.flatMap enc).length = xs.length * size := flat_lenR hl xs
  refine ⟨h1, .inr ⟨g, xs.length, cur, rfl, hb, hB, Nat.le_refl _, hm, ?_, ?_⟩⟩
  · rw [← h1, ← hc, Array.length_toList]
  · rw [hc, List.take_of_length_le (by rw [h1]; exact Nat.le_refl _)]
def lowC (c : Cl) : Cl := (c.1, c.2.1 - 1, c.2.2)
def sandL (val : Cl → Int) (c : Cl) : List (Int × Int × Int × Int) := if yldB (val (lowC c)) then [(c.1, c.2.1, c.2.2, val (lowC c)), (c.1, c.2.1 - 1, c.2.2, 3)] else []
def RowCh (w : World) (xs : List (Int × Int × Int × Int)) (r : Ending) (w' : World) : Prop := ∃ v, r = .returned v ∧ Owns w' w.heap.size 307 4 encCh v xs ∧ Below w.heap.size w w'
set_option maxRecDepth 100000 in
set_option maxHeartbeats 4000000 in
theorem sand_c (t : Nat) (val : Cl → Int) (c : Cl) (hc : Mid c) (w : World) (hV : Tells Tryz.prog 67 (.pointer (some ⟨t, 0, none⟩)) val w) :
    Calls Tryz.prog 317 #[viewV t, cellV c] w fun r w' => RowCh w (sandL val c) r w' := by
  obtain ⟨W, hW⟩ : ∃ W, W = w.alloc (.cells #[.int .i64 c.1, .int .i64 c.2.1, .int .i64 c.2.2] 43) := ⟨_, rfl⟩
  have H : Below w.heap.size w W := by rw [hW]; exact bel_alloc _ _
  have C : Blk W w.heap.size 43 #[.int .i64 c.1, .int .i64 c.2.1, .int .i64 c.2.2] := Blk.fresh hW
  have HNE := Lib.hid fun W2 => cnear_m c hc W2
  have hfar : FarC (lowC c) := by
    obtain ⟨h1, h2, h3⟩ := hc
    unfold FarC In64 lowC
    dsimp only
    omega
  have HV := Lib.hid fun W2 (g : Below w.heap.size w W2) => hV (lowC c) hfar W2 g
  have HC := Lib.hid C
  have HH := Lib.hid H
  have hat := at6_2
  obtain ⟨c0, c1, c2, -, -, -⟩ := C.c3
  unfold sandL
  generalize val (lowC c) = b at *
  have HY := Lib.hid fun W2 => yields_c b W2
  unfold lowC at HV
  dsimp only at HV
  cases hy : yldB b
  · rw [hy] at HY
    clear hV H C hc hfar hy
    rw [if_neg (by decide)]
    go_enter Tryz.func317, Tryz.ntmps317
    go_upto_region 1 with (fail)
    rw [← hW]
    clear hW
    go_upto_region 2 with (go_at_call 186; refine (HNE.out _).mono ?_; rintro e_ w1 ⟨rfl, g1⟩; have G1 := Lib.hid (after HH.out g1); unfold nearV; clear g1)
    obtain ⟨W1, hW1⟩ : ∃ W1, W1 = w1.alloc (.cells #[.int .i64 c.1, .int .i64 (c.2.1 - 1), .int .i64 c.2.2] 43) := ⟨_, rfl⟩
    have g1 : Below w1.heap.size w1 W1 := by rw [hW1]; exact bel_alloc _ _
    have HL1 := Lib.hid (Blk.fresh hW1)
    obtain ⟨x0, x1, x2, -, -, -⟩ := (Blk.fresh hW1).c3
    rw [← hW1]
    have G2 := Lib.hid (after G1.out g1)
    have HV2 := Lib.hid (HV.out W1 G2.out)
    clear hW1 g1 HV
    go_wp2_with first
      | (go_at_call 67; refine HV2.out.mono ?_; rintro e_ w5 ⟨rfl, g5⟩; have G5 := Lib.hid (after G2.out g5); clear g5)
      | (go_at_call 194; refine (HY.out _).mono ?_; rintro e_ w6 ⟨rfl, rfl⟩)
    go_returns
    exact ⟨_, rfl, Owns.nil, G5.out⟩
  · rw [hy] at HY
    clear hV H C hc hfar hy
    rw [if_pos rfl]
    go_enter Tryz.func317, Tryz.ntmps317
    go_upto_region 1 with (fail)
    rw [← hW]
    clear hW
    go_upto_region 2 with (go_at_call 186; refine (HNE.out _).mono ?_; rintro e_ w1 ⟨rfl, g1⟩; have G1 := Lib.hid (after HH.out g1); have HC1 := Lib.hid (HC.out.on g1); unfold nearV; clear g1)
    clear c0 c1 c2
    obtain ⟨W1, hW1⟩ : ∃ W1, W1 = w1.alloc (.cells #[.int .i64 c.1, .int .i64 (c.2.1 - 1), .int .i64 c.2.2] 43) := ⟨_, rfl⟩
    have g1 : Below w1.heap.size w1 W1 := by rw [hW1]; exact bel_alloc _ _
    have HL1 := Lib.hid (Blk.fresh hW1)
    obtain ⟨x0, x1, x2, -, -, -⟩ := (Blk.fresh hW1).c3
    rw [← hW1]
    have G2 := Lib.hid (after G1.out g1)
    have HV2 := Lib.hid (HV.out W1 G2.out)
    have HC2 := Lib.hid (HC1.out.on g1)
    clear hW1 g1 HV
    go_upto_region 5 with first
      | (go_at_call 67; refine HV2.out.mono ?_; rintro e_ w5 ⟨rfl, g5⟩; have G5 := Lib.hid (after G2.out g5); have HC5 := Lib.hid (HC2.out.on g5); have HL5 := Lib.hid (HL1.out.on g5); clear g5)
      | (go_at_call 194; refine (HY.out _).mono ?_; rintro e_ w6 ⟨rfl, rfl⟩)
    clear x0 x1 x2
    obtain ⟨c0, c1, c2, -, -, -⟩ := HC5.out.c3
    obtain ⟨x0, x1, x2, -, -, -⟩ := HL5.out.c3
    go_wp2_with fail
    go_returns
    obtain ⟨W6, hW6⟩ : ∃ W6, W6 = w5.alloc (.cells #[.int .i64 c.1, .int .i64 c.2.1, .int .i64 c.2.2, .int .i64 b, .int .i64 c.1, .int .i64 (c.2.1 - 1), .int .i64 c.2.2, .int .i64 3] 307) := ⟨_, rfl⟩
    have g6 : Below w5.heap.size w5 W6 := by rw [hW6]; exact bel_alloc _ _
    rw [← hW6]
    refine ⟨_, rfl, own_made (xs := [(c.1, c.2.1, c.2.2, b), (c.1, c.2.1 - 1, c.2.2, 3)]) (Blk.fresh hW6) G5.out.size lenCh (by simp [maxLen]) rfl, after G5.out g6⟩
def nextL (val : Cl → Int) (c : Cl) : List (Int × Int × Int × Int) := if fallB (val c) then sandL val c else []
set_option maxRecDepth 100000 in
set_option maxHeartbeats 4000000 in
theorem next_c (t : Nat) (val : Cl → Int) (c : Cl) (hc : Mid c) (hw : wetB (val c) = false) (w : World) (hV : Tells Tryz.prog 67 (.pointer (some ⟨t, 0, none⟩)) val w) :
    Calls Tryz.prog 274 #[viewV t, cellV c] w fun r w' => RowCh w (nextL val c) r w' := by
  obtain ⟨W, hW⟩ : ∃ W, W = w.alloc (.cells #[.int .i64 c.1, .int .i64 c.2.1, .int .i64 c.2.2] 43) := ⟨_, rfl⟩
  have H : Below w.heap.size w W := by rw [hW]; exact bel_alloc _ _
  have C : Blk W w.heap.size 43 #[.int .i64 c.1, .int .i64 c.2.1, .int .i64 c.2.2] := Blk.fresh hW
  have HV := Lib.hid (hV c (far_near hc c List.mem_cons_self) W H)
  have HSA := Lib.hid fun W2 (g : Below w.heap.size w W2) => sand_c t val c hc W2 fun d hd W3 g3 => hV d hd W3 (after g g3)
  have HC := Lib.hid C
  have HH := Lib.hid H
  obtain ⟨c0, c1, c2, -, -, -⟩ := C.c3
  unfold nextL
  generalize sandL val c = sl at *
  generalize val c = b at *
  have HFA := Lib.hid fun W2 => falls_c b W2
  have HWE := Lib.hid fun W2 => wet_c b W2
  rw [hw] at HWE
  clear hV H C hc hw
  cases hf : fallB b
  · rw [hf] at HFA
    rw [if_neg (by decide)]
    clear hf
    go_enter Tryz.func274, Tryz.ntmps274
    go_upto_region 1 with (fail)
    rw [← hW]
    clear hW
    go_wp2_with first
      | (go_at_call 67; refine HV.out.mono ?_; rintro e_ w1 ⟨rfl, g1⟩; have G1 := Lib.hid (after HH.out g1); clear g1)
      | (go_at_call 275; refine (HFA.out _).mono ?_; rintro e_ w6 ⟨rfl, rfl⟩)
      | (go_at_call 259; refine (HWE.out _).mono ?_; rintro e_ w6 ⟨rfl, rfl⟩)
    go_returns
    exact ⟨_, rfl, Owns.nil, G1.out⟩
  · rw [hf] at HFA
    rw [if_pos rfl]
    clear hf
    go_enter Tryz.func274, Tryz.ntmps274
    go_upto_region 1 with (fail)
    rw [← hW]
    clear hW
    go_upto_region 3 with first
      | (go_at_call 67; refine HV.out.mono ?_; rintro e_ w1 ⟨rfl, g1⟩; have G1 := Lib.hid (after HH.out g1); have HC1 := Lib.hid (HC.out.on g1); clear g1)
      | (go_at_call 275; refine (HFA.out _).mono ?_; rintro e_ w6 ⟨rfl, rfl⟩)
    clear c0 c1 c2
    obtain ⟨c0, c1, c2, -, -, -⟩ := HC1.out.c3
    have HS1 := Lib.hid (HSA.out w1 G1.out)
    go_wp2_with (go_at_call 317; refine HS1.out.mono ?_; rintro e_ w2 ⟨v2, rfl, o2, g2⟩; have O2 := Lib.hid (o2.lowB G1.out.size); have G2 := Lib.hid (after G1.out g2); clear o2 g2)
    go_returns
    exact ⟨_, rfl, O2.out, G2.out⟩
end Go.Proofs.YtmbccnioijokfaaGreatDoor

namespace Go.Proofs.YtmbccnioijokfaaGreatDoor
open Go.RowKit Go.Maps
attribute [local go_sem] Oper.semAt_some
structure SS where
  T : TS
  k : Nat
  Q : QS
  budget : Int
  now : Int
  d : Nat
structure SimAt (w : World) (s wd t q : Nat) (occ : Value) (S : SS) (v : Value) (ds : List Cl) (Mw Mq : Nat → Prop) : Prop where
  blk : Blk w s 111 #[.pointer (some ⟨q, 0, none⟩), .pointer (some ⟨wd, 0, none⟩), .int .i64 S.budget, .int .i64 S.now, occ, v]
  row : Owns w 0 43 3 encCl v ds
  len : ds.length ≤ S.d
  wd : WdA wd t S.T S.k w Mw
  q : QA q S.Q w Mq
  apart : ∀ b, Mw b → ¬ Mq b
def SimM (s : Nat) (v : Value) (Mw Mq : Nat → Prop) (b : Nat) : Prop := b = s ∨ v.ownBlock = some b ∨ Mw b ∨ Mq b
def SimA (s wd t q : Nat) (occ : Value) (S : SS) : Asn := fun w M => ∃ v ds Mw Mq, SimAt w s wd t q occ S v ds Mw Mq ∧ ∀ b, M b ↔ SimM s v Mw Mq b
def SimTy (ty : TypeId) : Prop := ty = 111 ∨ ty = 43 ∨ WdT ty ∨ QT ty
theorem sim_no : ¬ WdT 111 ∧ ¬ QT 111 ∧ ¬ WdT 43 ∧ ¬ QT 43 := by
  refine ⟨fun h => ?_, fun h => ?_, fun h => ?_, fun h => ?_⟩
  · rcases h with h | h | h | h | h | h | h | h | h | h <;> revert h <;> decide
  · rcases h with h | h <;> revert h <;> decide
  · rcases h with h | h | h | h | h | h | h | h | h | h <;> revert h <;> decide
  · rcases h with h | h <;> revert h <;> decide
section
variable {w w' : World} {s wd t q : Nat} {occ v : Value} {S : SS} {ds : List Cl} {Mw Mq M K : Nat → Prop}
theorem SimAt.type (h : SimAt w s wd t q occ S v ds Mw Mq) {b : Nat} (hb : SimM s v Mw Mq b) : b < w.heap.size ∧ ∀ ty cs, Blk w b ty cs → SimTy ty := by
  rcases hb with rfl | hb | hb | hb
  · exact ⟨h.blk.lt, fun ty cs hB => .inl (one_type hB h.blk)⟩
  · obtain ⟨-, cur, h4⟩ := own_at h.row hb
    exact ⟨h4.lt, fun ty cs hB => .inr (.inl (one_type hB h4))⟩
  · exact ⟨(h.wd.type hb).1, fun ty cs hB => .inr (.inr (.inl ((h.wd.type hb).2 ty cs hB)))⟩
  · exact ⟨(h.q.type hb).1, fun ty cs hB => .inr (.inr (.inr ((h.q.type hb).2 ty cs hB)))⟩
theorem SimAt.kept (h : SimAt w s wd t q occ S v ds Mw Mq) (hk : Kept K w w') (k1 : ∀ b, SimM s v Mw Mq b → K b) (k2 : ∀ b cs, Blk w b 5 cs → K b) : SimAt w' s wd t q occ S v ds Mw Mq where
  blk := hk.blk (k1 _ (.inl rfl)) h.blk
  row := h.row.keep hk fun b hb => k1 b (.inr (.inl hb))
  len := h.len
  wd := (wdA_fit wd t S.T S.k).kept h.wd hk (fun b hb => k1 b (.inr (.inr (.inl hb)))) k2
  q := (qA_fit q S.Q).kept h.q hk (fun b hb => k1 b (.inr (.inr (.inr hb)))) k2
  apart := h.apart
theorem SimAt.on (h : SimAt w s wd t q occ S v ds Mw Mq) (hb : Below w.heap.size w w') : SimAt w' s wd t q occ S v ds Mw Mq := h.kept ((Kept.of_below hb).mono (K' := fun _ => True) fun _ _ => trivial) (fun _ _ => trivial) (fun _ _ _ => trivial)
theorem simA_fit (s wd t q : Nat) (occ : Value) (S : SS) : Asn.Fit 5 (SimA s wd t q occ S) where
  lt := fun ⟨v, ds, Mw, Mq, h, hM⟩ b hb => (h.type ((hM b).1 hb)).1
  nob := fun ⟨v, ds, Mw, Mq, h, hM⟩ b hb cs hB => by
    rcases (h.type ((hM b).1 hb)).2 _ _ hB with h | h | h | h
    · revert h; decide
    · revert h; decide
    · rcases h with h | h | h | h | h | h | h | h | h | h <;> revert h <;> decide
    · rcases h with h | h <;> revert h <;> decide
  kept := fun ⟨v, ds, Mw, Mq, h, hM⟩ hk k1 k2 => ⟨v, ds, Mw, Mq, h.kept hk (fun b hb => k1 b ((hM b).2 hb)) k2, hM⟩
theorem SimAt.s_no (h : SimAt w s wd t q occ S v ds Mw Mq) : ¬ Mw s ∧ ¬ Mq s := ⟨fun hb => sim_no.1 ((h.wd.type hb).2 _ _ h.blk), fun hb => sim_no.2.1 ((h.q.type hb).2 _ _ h.blk)⟩
theorem SimAt.r_no (h : SimAt w s wd t q occ S v ds Mw Mq) {b : Nat} (hb : v.ownBlock = some b) : ¬ Mw b ∧ ¬ Mq b ∧ b ≠ s := by
  obtain ⟨-, cur, h4⟩ := own_at h.row hb
  exact ⟨fun hb => sim_no.2.2.1 ((h.wd.type hb).2 _ _ h4), fun hb => sim_no.2.2.2 ((h.q.type hb).2 _ _ h4), fun e => by rw [e] at h4; exact absurd (one_type h4 h.blk) (by decide)⟩
theorem SimAt.world (h : SimAt w s wd t q occ S v ds Mw Mq) {T' : TS} {k' : Nat} (k : Aft (WdA wd t T' k') w Mw w') : Aft (SimA s wd t q occ { S with T := T', k := k' }) w (SimM s v Mw Mq) w' := by
  obtain ⟨Mw', k1, k2, k3⟩ := k
  refine ⟨SimM s v Mw' Mq, ⟨v, ds, Mw', Mq, ⟨k3.blk h.s_no.1 h.blk, h.row.keep k3 fun b hb => (h.r_no hb).1, h.len, k1, (qA_fit q S.Q).beside h.q k3 (fun b hb hb' => h.apart b hb' hb) ((wdA_fit wd t S.T S.k).nob h.wd), fun b hb hb' => ?_⟩, fun _ => Iff.rfl⟩, fun b hb => ?_, k3.mono fun b hb hMw => hb (.inr (.inr (.inl hMw)))⟩
  · rcases k2 b hb with h1 | h1
    · exact h.apart b h1 hb'
    · have := (h.q.type hb').1; omega
  · rcases hb with hb | hb | hb | hb
    · exact .inl (.inl hb)
    · exact .inl (.inr (.inl hb))
    · exact (k2 b hb).imp_left fun h => .inr (.inr (.inl h))
    · exact .inl (.inr (.inr (.inr hb)))
theorem SimAt.queue (h : SimAt w s wd t q occ S v ds Mw Mq) {Q' : QS} (k : Aft (QA q Q') w Mq w') : Aft (SimA s wd t q occ { S with Q := Q' }) w (SimM s v Mw Mq) w' := by
  obtain ⟨Mq', k1, k2, k3⟩ := k
  refine ⟨SimM s v Mw Mq', ⟨v, ds, Mw, Mq', ⟨k3.blk h.s_no.2 h.blk, h.row.keep k3 fun b hb => (h.r_no hb).2.1, h.len, (wdA_fit wd t S.T S.k).beside h.wd k3 (fun b hb hb' => h.apart b hb hb') ((qA_fit q S.Q).nob h.q), k1, fun b hb hb' => ?_⟩, fun _ => Iff.rfl⟩, fun b hb => ?_, k3.mono fun b hb hMw => hb (.inr (.inr (.inr hMw)))⟩
  · rcases k2 b hb' with h1 | h1
    · exact h.apart b hb h1
    · have := (h.wd.type hb).1; omega
  · rcases hb with hb | hb | hb | hb
    · exact .inl (.inl hb)
    · exact .inl (.inr (.inl hb))
    · exact .inl (.inr (.inr (.inl hb)))
    · exact (k2 b hb).imp_left fun h => .inr (.inr (.inr h))
theorem SimAt.self (h : SimAt w s wd t q occ S v ds Mw Mq) {occ' : Value} {S' : SS} (hk : Kept (fun b => b ≠ s) w w') (hB : Blk w' s 111 #[.pointer (some ⟨q, 0, none⟩), .pointer (some ⟨wd, 0, none⟩), .int .i64 S'.budget, .int .i64 S'.now, occ', v]) (hT : S'.T = S.T) (hkk : S'.k = S.k) (hQ : S'.Q = S.Q) (hd : S'.d = S.d) : SimAt w' s wd t q occ' S' v ds Mw Mq where
  blk := hB
  row := h.row.keep hk fun b hb => (h.r_no hb).2.2
  len := by rw [hd]; exact h.len
  wd := by rw [hT, hkk]; exact (wdA_fit wd t S.T S.k).kept h.wd hk (fun b hb e => h.s_no.1 (e ▸ hb)) fun b cs hb e => by rw [e] at hb; exact absurd (one_type hb h.blk) (by decide)
  q := by rw [hQ]; exact (qA_fit q S.Q).kept h.q hk (fun b hb e => h.s_no.2 (e ▸ hb)) fun b cs hb e => by rw [e] at hb; exact absurd (one_type hb h.blk) (by decide)
  apart := h.apart
end
end Go.Proofs.YtmbccnioijokfaaGreatDoor

namespace Go.Proofs.YtmbccnioijokfaaGreatDoor
open Go.RowKit
attribute [local go_sem] Oper.semAt_some
def digN (l : List UInt8) : Int := l.foldl (fun n c => n * 10 + ((c.toNat : Int) - 48)) 0
structure DigOk (l : List UInt8) : Prop where
  pos : 1 ≤ l.length
  len : l.length ≤ 15
  all : ∀ c ∈ l, 48 ≤ c.toNat ∧ c.toNat ≤ 57
instance (l : List UInt8) : Decidable (DigOk l) := decidable_of_iff (1 ≤ l.length ∧ l.length ≤ 15 ∧ ∀ c ∈ l, 48 ≤ c.toNat ∧ c.toNat ≤ 57) ⟨fun h => ⟨h.1, h.2.1, h.2.2⟩, fun h => ⟨h.1, h.2, h.3⟩⟩
theorem digN_snoc (l : List UInt8) (c : UInt8) : digN (l ++ [c]) = digN l * 10 + ((c.toNat : Int) - 48) := by simp [digN]
theorem digN_bd : ∀ (n : Nat) (l : List UInt8), l.length = n → (∀ c ∈ l, 48 ≤ c.toNat ∧ c.toNat ≤ 57) → 0 ≤ digN l ∧ digN l < 10 ^ n
  | 0, l, hl, _ => by
    obtain rfl := List.length_eq_zero_iff.1 hl
    decide
  | n + 1, l, hl, h => by
    have hne : l ≠ [] := by rintro rfl; simp at hl
    have e := List.dropLast_concat_getLast hne
    have ih := digN_bd n l.dropLast (by simp [hl]) fun c hc => h c ((List.dropLast_sublist l).subset hc)
    have hc := h _ (List.getLast_mem hne)
    rw [← e, digN_snoc]
    generalize l.getLast hne = c at *
    generalize digN l.dropLast = m at *
    have : (10 : Int) ^ (n + 1) = 10 ^ n * 10 := Int.pow_succ 10 n
    omega
theorem digN_take {l : List UInt8} (h : DigOk l) (i : Nat) : 0 ≤ digN (l.take i) ∧ digN (l.take i) < 1000000000000000 := by
  have h1 := digN_bd _ (l.take i) rfl fun c hc => h.all c (List.mem_of_mem_take hc)
  have h2 : (l.take i).length ≤ 15 := by rw [List.length_take]; have := h.len; omega
  have h3 : (10 : Int) ^ (l.take i).length ≤ 10 ^ 15 := by have := Nat.pow_le_pow_right (show 0 < 10 by decide) h2; exact_mod_cast this
  have h4 : (10 : Int) ^ 15 = 1000000000000000 := by decide
  omega
abbrev strA (l : List UInt8) : ByteArray := ⟨l.toArray⟩
structure NumW (s : ByteArray) (below : Bool) (d : List UInt8) : Prop where
  sign : Lib.hasPrefix s.data.toList [45] = below
  rest : Lib.trimPrefix s.data.toList [45] = d
  ok : DigOk d
def numV (below : Bool) (d : List UInt8) : Int := if below then -digN d else digN d
theorem iterPos_at (w : World) (s : ByteArray) (p : Nat) : (w.iter s p).iterPos w.heap.size = p := by simp [World.iterPos, World.iter_heap]
set_option maxRecDepth 100000 in
set_option maxHeartbeats 4000000 in
theorem number_c (s : ByteArray) (below : Bool) (d : List UInt8) (h : NumW s below d) (w : World) :
    Calls Tryz.prog 114 #[.string s] w fun r w' => r = .returned (.tuple #[.int .i64 (numV below d), .bool true]) ∧ Below w.heap.size w w' := by
  have HCP := Tryz.strings_CutPrefix s ⟨#[45]⟩ w
  rw [show ((⟨#[45]⟩ : ByteArray).data.toList) = [45] from rfl, h.sign, h.rest] at HCP
  have HCQ : Calls Tryz.prog 162 #[.string s, .string ⟨#[45]⟩] w fun e w' => e = .returned (.tuple #[.string (strA d), .bool below]) ∧ w = w' := HCP.mono fun _ _ h => ⟨h.1, h.2.symm⟩
  have HCP' := Lib.hid HCQ
  have hsz : (strA d).size = d.length := by simp [ByteArray.size]
  have hat : ∀ (i : Nat) (hi : i < (strA d).size) (c : UInt8), d[i]? = some c → (strA d)[i]'hi = c := fun i hi c hc => by
    have : (strA d)[i]'hi = d.toArray[i]'(by rw [hsz] at hi; simpa using hi) := rfl
    rw [this]
    simp only [List.getElem_toArray]
    exact Option.some.inj (by rw [← hc]; exact (List.getElem?_eq_getElem _).symm)
  have HD := Lib.hid (And.intro h.ok (And.intro hsz hat))
  have hit : ∀ i, Below w.heap.size w (w.iter (strA d) i) := fun i => by unfold World.iter; exact (Below.refl _ _).alloc (Nat.le_refl _) _
  have HIT := Lib.hid hit
  have hne : d.isEmpty = false := by
    have h1 := h.ok.pos
    cases d with
    | nil => simp at h1
    | cons _ _ => rfl
  have hle : ¬ (15 : Int) < (d.length : Int) := by have := h.ok.len; omega
  clear HCP HCQ h hsz hat hit
  go_enter Tryz.func114, Tryz.ntmps114
  go_upto_region 4 with (go_at_call 162; refine HCP'.out.mono ?_; rintro e_ w1 ⟨rfl, rfl⟩)
  go_loopw [6, 8] (fun n _ wr => ∃ i : Nat, i ≤ d.length ∧ n = .int .i64 (digN (d.take i)) ∧ wr = w.iter (strA d) i) (fun _ _ wr => d.length - wr.iterPos w.heap.size)
  case atStart => exact ⟨0, Nat.zero_le _, rfl, rfl⟩
  case round =>
    obtain ⟨i, hi, rfl, rfl⟩ := hrel
    by_cases hlt : i < d.length
    · obtain ⟨c, hc⟩ : ∃ c, d[i]? = some c := ⟨_, List.getElem?_eq_getElem hlt⟩
      have hlt2 : i < (strA d).size := by rw [HD.out.2.1]; exact hlt
      have hcc := HD.out.1.all c (List.mem_of_getElem? hc)
      have hnx := fun ty => run_next_ascii (P := Tryz.prog) w (strA d) i ty hlt2 (by rw [HD.out.2.2 i hlt2 c hc]; omega)
      rw [HD.out.2.2 i hlt2 c hc] at hnx
      have hstep : digN (d.take (i + 1)) = digN (d.take i) * 10 + ((c.toNat : Int) - 48) := by rw [List.take_add_one, hc]; exact digN_snoc _ _
      have hb1 := digN_take HD.out.1 i
      have hb2 := digN_take HD.out.1 (i + 1)
      rw [hstep] at hb2
      have HS := Lib.hid hstep
      generalize digN (d.take i) = m at *
      have hv : ∃ v : Int, v = (c.toNat : Int) := ⟨_, rfl⟩
      obtain ⟨v, hv⟩ := hv
      rw [← hv] at hnx hb2
      have hv1 : 48 ≤ v := by omega
      have hv2 : v ≤ 57 := by omega
      have n1 : ¬ v < 48 := by omega
      have n2 : ¬ 57 < v := by omega
      have HV := Lib.hid hv
      clear hv hcc hc hstep
      go_wp2_with fail
      refine ⟨⟨i + 1, hlt, by rw [HS.out, HV.out], rfl⟩, ?_⟩
      rw [iterPos_at, iterPos_at]
      omega
    · obtain rfl : i = d.length := by omega
      have hnx := fun ty => run_next_end (P := Tryz.prog) w (strA d) d.length ty (by rw [HD.out.2.1]; omega)
      rw [List.take_length]
      clear hlt hi
      have hng : wrap64 (-digN d) = -digN d := by
        have hb := digN_take HD.out.1 d.length
        rw [List.take_length] at hb
        unfold wrap64
        omega
      cases below
      · go_wp2_with fail
        go_returns
        exact ⟨rfl, HIT.out _⟩
      · go_wp2_with fail
        go_returns
        refine ⟨?_, HIT.out _⟩
        show Ending.returned (.tuple #[.int .i64 (wrap64 (-digN d)), .bool true]) = _
        rw [hng]
        rfl
end Go.Proofs.YtmbccnioijokfaaGreatDoor

namespace Go.Proofs.YtmbccnioijokfaaGreatDoor
open Go.RowKit
attribute [local go_sem] Oper.semAt_some
def NW (s : ByteArray) (n : Int) : Prop := ∃ b d, NumW s b d ∧ numV b d = n
set_option maxRecDepth 100000 in
set_option maxHeartbeats 2000000 in
theorem num_c (N a : Nat) (s : ByteArray) (n : Int) (hs : NW s n) (ws : List ByteArray) (w : World) (h : ArgA N a (s :: ws) w) :
    Calls Tryz.prog 73 #[.pointer (some ⟨a, 0, none⟩)] w fun r w' => r = .returned (.int .i64 n) ∧ ArgA N a ws w' ∧ Kept (fun b => b ≠ a) w w' := by
  obtain ⟨b, d, hnw, hn⟩ := hs
  have HW := Lib.hid (word_c N a s ws w h)
  have HN := fun W => number_c s b d hnw W
  rw [hn] at HN
  have HN' := Lib.hid HN
  clear h hnw hn HN
  go_enter Tryz.func73, Tryz.ntmps73
  go_wp2_with first
    | (go_at_call 24; refine HW.out.mono ?_; rintro e_ w1 ⟨rfl, a1, k1⟩; have A1 := Lib.hid (And.intro a1 k1); clear a1 k1)
    | (go_at_call 114; refine (HN'.out _).mono ?_; rintro e_ w2 ⟨rfl, g2⟩; have G2 := Lib.hid g2; clear g2)
    | (go_at_call 25; refine (must_c _).mono ?_; rintro e_ w3 ⟨rfl, rfl⟩)
  go_returns
  exact ⟨rfl, A1.out.1.on G2.out, A1.out.2.on G2.out⟩
set_option maxRecDepth 100000 in
set_option maxHeartbeats 4000000 in
theorem vec_c (N a : Nat) (s1 s2 s3 : ByteArray) (x y z : Int) (h1 : NW s1 x) (h2 : NW s2 y) (h3 : NW s3 z) (ws : List ByteArray) (w : World) (h : ArgA N a (s1 :: s2 :: s3 :: ws) w) :
    Calls Tryz.prog 91 #[.pointer (some ⟨a, 0, none⟩)] w fun r w' => r = .returned (.agg #[.int .i64 x, .int .i64 y, .int .i64 z]) ∧ ArgA N a ws w' ∧ Kept (fun b => b ≠ a) w w' := by
  obtain ⟨W, hWe⟩ : ∃ W, W = w.alloc (.cells #[.int .i64 0, .int .i64 0, .int .i64 0] 38) := ⟨_, rfl⟩
  have H : Below w.heap.size w W := by rw [hWe]; exact (Below.refl _ _).alloc (Nat.le_refl _) _
  have R : Blk W w.heap.size 38 #[.int .i64 0, .int .i64 0, .int .i64 0] := by rw [hWe]; exact Blk.new' (by simp)
  have A0 := Lib.hid (h.on H)
  have hga : N ≤ w.heap.size ∧ a < N := h.le
  have HR := Lib.hid R
  have HG := Lib.hid (And.intro hga H)
  have H1 := Lib.hid (And.intro h1 (And.intro h2 h3))
  clear h H hga h1 h2 h3 R
  go_enter Tryz.func91, Tryz.ntmps91
  go_upto_region 1 with (fail)
  rw [← hWe]
  clear hWe
  have hgg := Lib.hid (show w.heap.size ≤ w.heap.size from Nat.le_refl _)
  generalize hge : w.heap.size = g at *
  have HGE := Lib.hid hge
  clear hge hgg
  go_wp2_with first
    | (go_at_call 73; refine (num_c N a s1 x H1.out.1 _ _ A0.out).mono ?_; rintro e_ w1 ⟨rfl, a1, k1⟩; have A1 := Lib.hid a1; have K1 := Lib.hid k1; clear a1 k1)
    | (go_at_call 73; refine (num_c N a s2 y H1.out.2.1 _ _ A1.out).mono ?_; rintro e_ w2 ⟨rfl, a2, k2⟩; have A2 := Lib.hid a2; have K2 := Lib.hid (K1.out.trans k2); clear a2 k2)
    | (go_at_call 73; refine (num_c N a s3 z H1.out.2.2 _ _ A2.out).mono ?_; rintro e_ w3 ⟨rfl, a3, k3⟩; have A3 := Lib.hid a3; have hk3 := K2.out.trans k3; have K3 := Lib.hid hk3; have hR3 := hk3.blk (show g ≠ a by have := HG.out.1; omega) HR.out; have HR3 := Lib.hid hR3; obtain ⟨r0, r1, r2, f0, f1, f2⟩ := hR3.c3; clear a3 k3 hk3 hR3)
  have R2 := HR3.out.st3 (.int .i64 x) (.int .i64 y) (.int .i64 z)
  obtain ⟨d0, d1, d2, -, -, -⟩ := R2.c3
  refine bodyPost_ret (v := .agg #[.int .i64 x, .int .i64 y, .int .i64 z]) (by simp [results, Tryz.results91, go_sem, d0, d1, d2]) rfl ⟨rfl, A3.out.bel ?_, ?_⟩
  · have hb : Below N w3 w3 := .refl _ _
    exact ((hb.setCell (p := ⟨g, 0, none⟩) HG.out.1.1 _).setCell (p := ⟨g, 1, none⟩) HG.out.1.1 _).setCell (p := ⟨g, 2, none⟩) HG.out.1.1 _
  · have hk : Kept (fun b => b ≠ a) w w3 := (Kept.of_below (by rw [HGE.out]; exact HG.out.2)).trans K3.out
    have hg : w.heap.size ≤ g := by rw [HGE.out]; exact Nat.le_refl _
    exact ((hk.fresh (p := ⟨g, 0, none⟩) hg _).fresh (p := ⟨g, 1, none⟩) hg _).fresh (p := ⟨g, 2, none⟩) hg _
set_option maxRecDepth 100000 in
set_option maxHeartbeats 4000000 in
theorem acell_c (N a : Nat) (s1 s2 s3 : ByteArray) (x y z : Int) (h1 : NW s1 x) (h2 : NW s2 y) (h3 : NW s3 z) (ws : List ByteArray) (w : World) (h : ArgA N a (s1 :: s2 :: s3 :: ws) w) :
    Calls Tryz.prog 98 #[.pointer (some ⟨a, 0, none⟩)] w fun r w' => r = .returned (.agg #[.int .i64 x, .int .i64 y, .int .i64 z]) ∧ ArgA N a ws w' ∧ Kept (fun b => b ≠ a) w w' := by
  obtain ⟨W, hWe⟩ : ∃ W, W = w.alloc (.cells #[.int .i64 0, .int .i64 0, .int .i64 0] 43) := ⟨_, rfl⟩
  have H : Below w.heap.size w W := by rw [hWe]; exact (Below.refl _ _).alloc (Nat.le_refl _) _
  have R : Blk W w.heap.size 43 #[.int .i64 0, .int .i64 0, .int .i64 0] := by rw [hWe]; exact Blk.new' (by simp)
  have A0 := Lib.hid (vec_c N a s1 s2 s3 x y z h1 h2 h3 ws W (h.on H))
  have hga : N ≤ w.heap.size ∧ a < N := h.le
  have HR := Lib.hid R
  have HG := Lib.hid (And.intro hga H)
  clear h H hga h1 h2 h3 R
  go_enter Tryz.func98, Tryz.ntmps98
  go_upto_region 1 with (fail)
  rw [← hWe]
  clear hWe
  generalize hge : w.heap.size = g at *
  have HGE := Lib.hid hge
  clear hge
  go_upto_region 2 with (go_at_call 91; refine A0.out.mono ?_; rintro e_ w1 ⟨rfl, a1, k1⟩; have A1 := Lib.hid a1; have K1 := Lib.hid k1; clear a1 k1)
  obtain ⟨W2, hW2⟩ : ∃ W2, W2 = w1.alloc (.cells #[.int .i64 x, .int .i64 y, .int .i64 z] 38) := ⟨_, rfl⟩
  have H2 : Below w1.heap.size w1 W2 := by rw [hW2]; exact (Below.refl _ _).alloc (Nat.le_refl _) _
  obtain ⟨c0, c1, c2, -, -, -⟩ := (Blk.fresh hW2).c3
  have hR2 := (K1.out.blk (show g ≠ a by have := HG.out.1; omega) HR.out).on H2
  obtain ⟨r0, r1, r2, f0, f1, f2⟩ := hR2.c3
  have HR2 := Lib.hid hR2
  have HH2 := Lib.hid H2
  rw [← hW2]
  clear hW2 H2 hR2
  go_wp2_with fail
  have R2 := HR2.out.st3 (.int .i64 x) (.int .i64 y) (.int .i64 z)
  obtain ⟨d0, d1, d2, -, -, -⟩ := R2.c3
  refine bodyPost_ret (v := .agg #[.int .i64 x, .int .i64 y, .int .i64 z]) (by simp [results, Tryz.results98, go_sem, d0, d1, d2]) rfl ⟨rfl, (A1.out.on HH2.out).bel ?_, ?_⟩
  · have hb : Below N W2 W2 := .refl _ _
    exact ((hb.setCell (p := ⟨g, 0, none⟩) HG.out.1.1 _).setCell (p := ⟨g, 1, none⟩) HG.out.1.1 _).setCell (p := ⟨g, 2, none⟩) HG.out.1.1 _
  · have hk : Kept (fun b => b ≠ a) w W2 := ((Kept.of_below (by rw [HGE.out]; exact HG.out.2)).trans K1.out).on HH2.out
    have hg : w.heap.size ≤ g := by rw [HGE.out]; exact Nat.le_refl _
    exact ((hk.fresh (p := ⟨g, 0, none⟩) hg _).fresh (p := ⟨g, 1, none⟩) hg _).fresh (p := ⟨g, 2, none⟩) hg _
set_option maxRecDepth 100000 in
set_option maxHeartbeats 4000000 in
theorem apos_c (N a : Nat) (s1 s2 : ByteArray) (x z : Int) (h1 : NW s1 x) (h2 : NW s2 z) (ws : List ByteArray) (w : World) (h : ArgA N a (s1 :: s2 :: ws) w) :
    Calls Tryz.prog 77 #[.pointer (some ⟨a, 0, none⟩)] w fun r w' => r = .returned (.agg #[.int .i64 x, .int .i64 z]) ∧ ArgA N a ws w' ∧ Kept (fun b => b ≠ a) w w' := by
  obtain ⟨W, hWe⟩ : ∃ W, W = w.alloc (.cells #[.int .i64 0, .int .i64 0] 123) := ⟨_, rfl⟩
  have H : Below w.heap.size w W := by rw [hWe]; exact (Below.refl _ _).alloc (Nat.le_refl _) _
  have R : Blk W w.heap.size 123 #[.int .i64 0, .int .i64 0] := by rw [hWe]; exact Blk.new' (by simp)
  have A0 := Lib.hid (h.on H)
  have hga : N ≤ w.heap.size ∧ a < N := h.le
  have HR := Lib.hid R
  have HG := Lib.hid (And.intro hga H)
  have H1 := Lib.hid (And.intro h1 h2)
  clear h H hga h1 h2 R
  go_enter Tryz.func77, Tryz.ntmps77
  go_upto_region 1 with (fail)
  rw [← hWe]
  clear hWe
  generalize hge : w.heap.size = g at *
  have HGE := Lib.hid hge
  clear hge
  go_wp2_with first
    | (go_at_call 73; refine (num_c N a s1 x H1.out.1 _ _ A0.out).mono ?_; rintro e_ w1 ⟨rfl, a1, k1⟩; have A1 := Lib.hid a1; have K1 := Lib.hid k1; clear a1 k1)
    | (go_at_call 73; refine (num_c N a s2 z H1.out.2 _ _ A1.out).mono ?_; rintro e_ w3 ⟨rfl, a3, k3⟩; have A3 := Lib.hid a3; have hk3 := K1.out.trans k3; have K3 := Lib.hid hk3; have hR3 := hk3.blk (show g ≠ a by have := HG.out.1; omega) HR.out; have HR3 := Lib.hid hR3; obtain ⟨r0, r1, f0, f1⟩ := hR3.pair; clear a3 k3 hk3 hR3)
  have R1 : Blk _ g 123 #[.int .i64 x, .int .i64 0] := HR3.out.set_ 0 (.int .i64 x)
  have R2 : Blk _ g 123 #[.int .i64 x, .int .i64 z] := R1.set_ 1 (.int .i64 z)
  obtain ⟨d0, d1, -, -⟩ := R2.pair
  refine bodyPost_ret (v := .agg #[.int .i64 x, .int .i64 z]) (by simp [results, Tryz.results77, go_sem, d0, d1]) rfl ⟨rfl, A3.out.bel ?_, ?_⟩
  · have hb : Below N w3 w3 := .refl _ _
    exact (hb.setCell (p := ⟨g, 0, none⟩) HG.out.1.1 _).setCell (p := ⟨g, 1, none⟩) HG.out.1.1 _
  · have hk : Kept (fun b => b ≠ a) w w3 := (Kept.of_below (by rw [HGE.out]; exact HG.out.2)).trans K3.out
    have hg : w.heap.size ≤ g := by rw [HGE.out]; exact Nat.le_refl _
    exact (hk.fresh (p := ⟨g, 0, none⟩) hg _).fresh (p := ⟨g, 1, none⟩) hg _
set_option maxRecDepth 100000 in
set_option maxHeartbeats 2000000 in
theorem ablk_c (N a : Nat) (b : Int) (hb : mayK b = true) (ws : List ByteArray) (w : World) (h : ArgA N a (strA (blkN b) :: ws) w) :
    Calls Tryz.prog 96 #[.pointer (some ⟨a, 0, none⟩)] w fun r w' => r = .returned (.int .i64 b) ∧ ArgA N a ws w' ∧ Kept (fun b => b ≠ a) w w' := by
  have HW := Lib.hid (word_c N a _ ws w h)
  have HN' := Lib.hid fun W => bparse_c b hb W
  clear h hb
  go_enter Tryz.func96, Tryz.ntmps96
  go_wp2_with first
    | (go_at_call 24; refine HW.out.mono ?_; rintro e_ w1 ⟨rfl, a1, k1⟩; have A1 := Lib.hid (And.intro a1 k1); clear a1 k1)
    | (go_at_call 141; refine (HN'.out _).mono ?_; rintro e_ w2 ⟨rfl, g2⟩; have G2 := Lib.hid g2; clear g2)
    | (go_at_call 25; refine (must_c _).mono ?_; rintro e_ w3 ⟨rfl, rfl⟩)
  go_returns
  exact ⟨rfl, A1.out.1.on G2.out, A1.out.2.on G2.out⟩
end Go.Proofs.YtmbccnioijokfaaGreatDoor

namespace Go.Proofs.YtmbccnioijokfaaGreatDoor
open Go.RowKit Go.Maps
attribute [local go_sem] Oper.semAt_some
def TabOk (w : World) : Prop := Lib.TabIs Tryz.prog w "internal/strconv.uint64pow10" .u64 Lib.pow10Tab
theorem TabOk.on {w w' : World} (h : TabOk w) (hb : Below w.heap.size w w') : TabOk w' := by
  unfold TabOk Lib.TabIs World.var? at *
  obtain ⟨g, hg, h1⟩ := Option.bind_eq_some_iff.1 h
  rw [hg]
  show (match w'.heap[g]? with | some (.cells cs _ _) => some cs | _ => none) = _
  have hlt : g < w.heap.size := by
    rcases Nat.lt_or_ge g w.heap.size with h2 | h2
    · exact h2
    · rw [Array.getElem?_eq_none h2] at h1; cases h1
  rw [hb.block g hlt]
  exact h1
theorem itoa_c (n : Int) (hn : -9223372036854775808 ≤ n ∧ n ≤ 9223372036854775807) (w : World) (h : (0 ≤ n ∧ n < 100) ∨ TabOk w) : Calls Tryz.prog 115 #[.int .i64 n] w fun r w' => r = .returned (.string (strA (Lib.itoa n))) ∧ Below w.heap.size w w' := by
  rcases h with ⟨h0, h1⟩ | h
  · obtain ⟨i, rfl⟩ := Int.eq_ofNat_of_zero_le h0
    have := Tryz.strconv_Itoa_small i (by omega) w
    refine this.mono ?_
    rintro r w' ⟨rfl, rfl⟩
    refine ⟨?_, .refl _ _⟩
    unfold Lib.itoa
    rw [if_neg (by omega)]
    rfl
  · refine (Tryz.strconv_Itoa n hn.1 hn.2 w h).mono ?_
    rintro r w' ⟨rfl, k, os, rfl⟩
    exact ⟨rfl, below_regrown w _ os⟩
inductive TV
  | int (n : Int)
  | str (s : ByteArray)
  | ok
  | vec (x y z : Int)
  | bool (b : Bool)
def TV.val : TV → Value
  | .int n => .iface 3 (.int .i64 n)
  | .str s => .iface 9 (.string s)
  | .ok => .iface 121 (.int .i64 0)
  | .vec x y z => .iface 38 (.agg #[.int .i64 x, .int .i64 y, .int .i64 z])
  | .bool b => .iface 4 (.bool b)
abbrev joinB (l : List ByteArray) : ByteArray := strA (Lib.join (l.map (·.data.toList)) [32])
def TV.str_ : TV → ByteArray
  | .int n => strA (Lib.itoa n)
  | .str s => s
  | .ok => strA [111, 107]
  | .vec x y z => joinB [strA (Lib.itoa x), strA (Lib.itoa y), strA (Lib.itoa z)]
  | .bool b => joinB [strA (Lib.itoa (if b then 1 else 0))]
def Sm9 (n : Int) : Prop := -9223372036854775808 ≤ n ∧ n ≤ 9223372036854775807
def NumT (w : World) (n : Int) : Prop := Sm9 n ∧ ((0 ≤ n ∧ n < 100) ∨ TabOk w)
theorem NumT.on {w w' : World} {n : Int} (h : NumT w n) (hb : Below w.heap.size w w') : NumT w' n := ⟨h.1, h.2.imp_right fun h => h.on hb⟩
def TV.may (w : World) : TV → Prop
  | .int n => NumT w n
  | .str _ => True
  | .ok => True
  | .vec x y z => NumT w x ∧ NumT w y ∧ NumT w z ∧ ∀ W b, Below w.heap.size w W → Blk W b 20 #[.iface 3 (.int .i64 x), .iface 3 (.int .i64 y), .iface 3 (.int .i64 z)] → Calls Tryz.prog 75 #[.slice (some ⟨b, 0, none⟩) 3 3] W fun r w' => r = .returned (.string (TV.vec x y z).str_) ∧ Below W.heap.size W w'
  | .bool v => ∀ W b, Below w.heap.size w W → Blk W b 20 #[.iface 3 (.int .i64 (if v then 1 else 0))] → Calls Tryz.prog 75 #[.slice (some ⟨b, 0, none⟩) 1 1] W fun r w' => r = .returned (.string (TV.bool v).str_) ∧ Below W.heap.size W w'
theorem infS : (Tryz.prog.info? 9).map (fun i => (i.zero, i.size, i.bytes)) = some (some (.string ⟨#[]⟩), 1, 16) := by kernel_rfl
theorem s_push {N b : Nat} {v : Value} {xs : List ByteArray} {s : ByteArray} {W : World} (hO : Owns W N 9 1 encS v xs) (h8 : Blk W b 9 #[.string s]) (hl : xs.length ≤ 1000000) (hN : N ≤ W.heap.size) :
    ∃ v' w', (Builtin.append_ #[48, 48] 48 #[v, .slice (some ⟨b, 0, none⟩) 1 1]).run Tryz.prog W = .ok v' w' ∧ Owns w' N 9 1 encS v' (xs ++ [s]) ∧ Below N W w' := by
  obtain ⟨v', w', hrun, V2, -, hb2, -⟩ := run_push (P := Tryz.prog) (ts := 48) (ty := 48) (enc := encS) (x := s) (b := b) (w := W) (base := N) (xs := xs) (v := v) Tryz.underlying48 infS rfl (by decide) (by decide) rfl (by intro u hu; simp [encS] at hu; rcases hu with rfl; rfl) hO (fun j u hu => by rw [h8.cell j]; simpa [encS] using hu) (by omega) hN
  exact ⟨v', w', hrun, V2, hb2⟩
theorem ta_int_int (v : Value) (w : World) : (Instr.typeAssert (.iface 3 v) 20 3 true).run Tryz.prog w = .ok (.tuple #[v, .bool true]) w := by kernel_rfl
theorem ta_string_int (v : Value) (w : World) : (Instr.typeAssert (.iface 9 v) 20 3 true).run Tryz.prog w = .ok (.tuple #[.int .i64 0, .bool false]) w := by kernel_rfl
theorem ta_string_string (v : Value) (w : World) : (Instr.typeAssert (.iface 9 v) 20 9 true).run Tryz.prog w = .ok (.tuple #[v, .bool true]) w := by kernel_rfl
theorem ta_errno_int (v : Value) (w : World) : (Instr.typeAssert (.iface 121 v) 20 3 true).run Tryz.prog w = .ok (.tuple #[.int .i64 0, .bool false]) w := by kernel_rfl
theorem ta_errno_string (v : Value) (w : World) : (Instr.typeAssert (.iface 121 v) 20 9 true).run Tryz.prog w = .ok (.tuple #[.string ⟨#[]⟩, .bool false]) w := by kernel_rfl
theorem ta_errno_errno (v : Value) (w : World) : (Instr.typeAssert (.iface 121 v) 20 121 true).run Tryz.prog w = .ok (.tuple #[v, .bool true]) w := by kernel_rfl
theorem ta_vec_int (v : Value) (w : World) : (Instr.typeAssert (.iface 38 v) 20 3 true).run Tryz.prog w = .ok (.tuple #[.int .i64 0, .bool false]) w := by kernel_rfl
theorem ta_vec_string (v : Value) (w : World) : (Instr.typeAssert (.iface 38 v) 20 9 true).run Tryz.prog w = .ok (.tuple #[.string ⟨#[]⟩, .bool false]) w := by kernel_rfl
theorem ta_vec_errno (v : Value) (w : World) : (Instr.typeAssert (.iface 38 v) 20 121 true).run Tryz.prog w = .ok (.tuple #[.int .i64 0, .bool false]) w := by kernel_rfl
theorem ta_vec_vec (v : Value) (w : World) : (Instr.typeAssert (.iface 38 v) 20 38 true).run Tryz.prog w = .ok (.tuple #[v, .bool true]) w := by kernel_rfl
theorem ta_bool_int (v : Value) (w : World) : (Instr.typeAssert (.iface 4 v) 20 3 true).run Tryz.prog w = .ok (.tuple #[.int .i64 0, .bool false]) w := by kernel_rfl
theorem ta_bool_string (v : Value) (w : World) : (Instr.typeAssert (.iface 4 v) 20 9 true).run Tryz.prog w = .ok (.tuple #[.string ⟨#[]⟩, .bool false]) w := by kernel_rfl
theorem ta_bool_errno (v : Value) (w : World) : (Instr.typeAssert (.iface 4 v) 20 121 true).run Tryz.prog w = .ok (.tuple #[.int .i64 0, .bool false]) w := by kernel_rfl
theorem ta_bool_vec (v : Value) (w : World) : (Instr.typeAssert (.iface 4 v) 20 38 true).run Tryz.prog w = .ok (.tuple #[.agg #[.int .i64 0, .int .i64 0, .int .i64 0], .bool false]) w := by kernel_rfl
theorem ta_bool_bool (v : Value) (w : World) : (Instr.typeAssert (.iface 4 v) 20 4 true).run Tryz.prog w = .ok (.tuple #[v, .bool true]) w := by kernel_rfl
def ToI (w wr : World) (ss : List ByteArray) (v : Value) : Prop := Owns wr w.heap.size 9 1 encS v ss ∧ Below w.heap.size w wr
set_option maxRecDepth 100000 in
set_option maxHeartbeats 16000000 in
theorem told_c (b : Nat) (xs : List TV) (h0 : 1 ≤ xs.length) (hl : xs.length ≤ 1000) (w : World) (hB : ∀ (k : Nat) (x : TV), xs[k]? = some x → ∀ W, Below w.heap.size w W → W.cell? ⟨b, k, none⟩ = some x.val) (hm : ∀ x ∈ xs, x.may w)
    (hj : (Lib.join ((xs.map TV.str_).map (·.data.toList)) [32]).length ≤ 140737488355328) :
    Calls Tryz.prog 75 #[.slice (some ⟨b, 0, none⟩) xs.length xs.length] w fun r w' => r = .returned (.string (joinB (xs.map TV.str_))) ∧ Below w.heap.size w w' := by
  have hmm := @run_makeMap Tryz.prog
  have HB := Lib.hid hB
  have HM := Lib.hid hm
  have HJ := Lib.hid (And.intro h0 (And.intro hl hj))
  clear hB hm hj h0 hl
  go_enter Tryz.func75, Tryz.ntmps75
  go_upto_region 3 with (fail)
  go_loopw [3, 5, 6, 7, 8, 9, 10, 13] (fun v _ _ _ _ _ _ i wr => ∃ (k : Nat), k ≤ xs.length ∧ i = .int .i64 k ∧ Hid (ToI w wr ((xs.map TV.str_).take k) v)) (fun _ _ _ _ _ _ _ i _ => xs.length - (intOf i).toNat)
  case atStart => exact ⟨0, Nat.zero_le _, rfl, ⟨Owns.nil, Below.refl _ _⟩⟩
  case round =>
    obtain ⟨k, hk, rfl, hI⟩ := hrel
    by_cases hlt : k < xs.length
    · obtain ⟨x, hx⟩ : ∃ x, xs[k]? = some x := ⟨_, List.getElem?_eq_getElem hlt⟩
      have c0 := HB.out k x hx wr hI.out.2
      have hk0 : (0 : Int) ≤ k := by omega
      have hk1 : (k : Int) < (xs.length : Int) := by omega
      have hw : IntKind.i64.wrap ((k : Int) + 1) = (k : Int) + 1 := IntWalk.i64_in _ (by have := HJ.out.2.1; omega)
      have HX := Lib.hid (HM.out x (List.mem_of_getElem? hx))
      have hst : (xs.map TV.str_).take (k + 1) = (xs.map TV.str_).take k ++ [x.str_] := by
        rw [List.take_add_one, List.getElem?_map, hx]; rfl
      have hln : ((xs.map TV.str_).take k).length ≤ 1000000 := by rw [List.length_take, List.length_map]; have := HJ.out.2.1; omega
      have HST := Lib.hid (And.intro hst hln)
      clear hst hln hx
      go_upto_region 5 with (fail)
      cases x with
      | int n =>
        dsimp only [TV.val] at *
        have t1 := ta_int_int
        have HIT := Lib.hid (itoa_c n HX.out.1 wr (NumT.on HX.out hI.out.2).2)
        go_wp2_with first
          | (go_at_call 115; refine HIT.out.mono ?_; rintro e_ w1 ⟨rfl, g1⟩; have G1 := Lib.hid g1; clear g1)
          | (at_builtin; obtain ⟨v2, w2, hrun, ho, hb2⟩ := s_push (W := World.alloc w1 (.cells #[.string (strA (Lib.itoa n))] 9)) (s := strA (Lib.itoa n)) (Owns.on (hI.out.1.on G1.out) (bel_alloc _ _)) (Blk.new' rfl) HST.out.2 (Nat.le_trans (after hI.out.2 G1.out).size (bel_alloc _ _).size); have HO2 := Lib.hid (And.intro ho (after' (after hI.out.2 G1.out) (Nat.le_refl _) (bel_alloc _ _) |>.trans (hb2.mono (by simp)))); clear ho hb2; refine Lib.wpList_append_run _ rfl _ _ _ _ rfl _ _ rfl rfl _ _ hrun ?_)
        exact ⟨⟨k + 1, hlt, by go_num, Lib.hid (by rw [HST.out.1]; exact HO2.out)⟩, by simp [intOf]; omega⟩
      | str s =>
        dsimp only [TV.val] at *
        have t1 := ta_string_int
        have t2 := ta_string_string
        go_wp2_with (at_builtin; obtain ⟨v2, w2, hrun, ho, hb2⟩ := s_push (W := World.alloc wr (.cells #[.string (s)] 9)) (s := s) (Owns.on hI.out.1 (bel_alloc _ _)) (Blk.new' rfl) HST.out.2 (Nat.le_trans (hI.out.2).size (bel_alloc _ _).size); have HO2 := Lib.hid (And.intro ho (after' (hI.out.2) (Nat.le_refl _) (bel_alloc _ _) |>.trans (hb2.mono (by simp)))); clear ho hb2; refine Lib.wpList_append_run _ rfl _ _ _ _ rfl _ _ rfl rfl _ _ hrun ?_)
        exact ⟨⟨k + 1, hlt, by go_num, Lib.hid (by rw [HST.out.1]; exact HO2.out)⟩, by simp [intOf]; omega⟩
      | ok =>
        dsimp only [TV.val] at *
        have t1 := ta_errno_int
        have t2 := ta_errno_string
        have t3 := ta_errno_errno
        go_wp2_with (at_builtin; obtain ⟨v2, w2, hrun, ho, hb2⟩ := s_push (W := World.alloc wr (.cells #[.string (⟨#[111, 107]⟩)] 9)) (s := ⟨#[111, 107]⟩) (Owns.on hI.out.1 (bel_alloc _ _)) (Blk.new' rfl) HST.out.2 (Nat.le_trans (hI.out.2).size (bel_alloc _ _).size); have HO2 := Lib.hid (And.intro ho (after' (hI.out.2) (Nat.le_refl _) (bel_alloc _ _) |>.trans (hb2.mono (by simp)))); clear ho hb2; refine Lib.wpList_append_run _ rfl _ _ _ _ rfl _ _ rfl rfl _ _ hrun ?_)
        exact ⟨⟨k + 1, hlt, by go_num, Lib.hid (by rw [HST.out.1]; exact HO2.out)⟩, by simp [intOf]; omega⟩
      | vec x y z =>
        dsimp only [TV.val] at *
        have t1 := ta_vec_int
        have t2 := ta_vec_string
        have t3 := ta_vec_errno
        have t4 := ta_vec_vec
        go_upto_region 19 with (fail)
        obtain ⟨W1, hW1⟩ : ∃ W1, W1 = wr.alloc (.cells #[.int .i64 x, .int .i64 y, .int .i64 z] 38) := ⟨_, rfl⟩
        obtain ⟨v0, v1, v2_, -, -, -⟩ := (Blk.fresh hW1).c3
        have G1 := Lib.hid (show Below wr.heap.size wr W1 by rw [hW1]; exact bel_alloc _ _)
        rw [← hW1]
        clear hW1
        have HTD := Lib.hid (HX.out.2.2.2 (W1.alloc (.cells #[.iface 3 (.int .i64 x), .iface 3 (.int .i64 y), .iface 3 (.int .i64 z)] 20)) W1.heap.size (after (after hI.out.2 G1.out) (bel_alloc _ _)) (Blk.new' rfl))
        go_wp2_with first
          | (go_at_call 75; refine HTD.out.mono ?_; rintro e_ w3 ⟨rfl, g3⟩; have G3 := Lib.hid (after (after G1.out (bel_alloc _ _)) g3); clear g3)
          | (at_builtin; obtain ⟨v2, w2, hrun, ho, hb2⟩ := s_push (W := World.alloc w3 (.cells #[.string ((TV.vec x y z).str_)] 9)) (s := (TV.vec x y z).str_) (Owns.on (hI.out.1.on G3.out) (bel_alloc _ _)) (Blk.new' rfl) HST.out.2 (Nat.le_trans (after hI.out.2 G3.out).size (bel_alloc _ _).size); have HO2 := Lib.hid (And.intro ho (after' (after hI.out.2 G3.out) (Nat.le_refl _) (bel_alloc _ _) |>.trans (hb2.mono (by simp)))); clear ho hb2; refine Lib.wpList_append_run _ rfl _ _ _ _ rfl _ _ rfl rfl _ _ hrun ?_)
        exact ⟨⟨k + 1, hlt, by go_num, Lib.hid (by rw [HST.out.1]; exact HO2.out)⟩, by simp [intOf]; omega⟩
      | bool v =>
        dsimp only [TV.val] at *
        have t1 := ta_bool_int
        have t2 := ta_bool_string
        have t3 := ta_bool_errno
        have t4 := ta_bool_vec
        have t5 := ta_bool_bool
        cases v
        all_goals
          go_wp2_with first
            | (refine wpList_insert rfl _ _ _ 179 rfl 4 3 .bool Tryz.underlying179 Tryz.underlying4 wr.heap.size [] rfl (strM_new wr) (.bool true) (.int .i64 1) rfl rfl trivial rfl ?_; intro w5 hM5 hK5; have G5 := Lib.hid (show Below wr.heap.size wr w5 from (bel_alloc wr (.map #[] 0)).trans (hK5.below (by simp) (fun b hb => by omega))); have hlk := run_look (P := Tryz.prog) (mty := 179) (k := .bool true) (v := .int .i64 1) (i := 0) Tryz.underlying179 Tryz.underlying4 trivial hM5 rfl; have hlk0 := run_look0 (P := Tryz.prog) (mty := 179) (k := .bool false) (z := .int .i64 0) Tryz.underlying179 Tryz.underlying4 trivial hM5 rfl rfl; clear hM5 hK5)
            | (go_at_call 75; refine (HX.out _ w5.heap.size (after (after hI.out.2 G5.out) (bel_alloc _ _)) (Blk.new' rfl)).mono ?_; rintro e_ w3 ⟨rfl, g3⟩; have G3 := Lib.hid (after (after G5.out (bel_alloc _ _)) g3); clear g3)
            | (at_builtin; obtain ⟨v2, w2, hrun, ho, hb2⟩ := s_push (W := World.alloc w3 (.cells #[.string (TV.str_ _)] 9)) (s := TV.str_ _) (Owns.on (hI.out.1.on G3.out) (bel_alloc _ _)) (Blk.new' rfl) HST.out.2 (Nat.le_trans (after hI.out.2 G3.out).size (bel_alloc _ _).size); have HO2 := Lib.hid (And.intro ho (after' (after hI.out.2 G3.out) (Nat.le_refl _) (bel_alloc _ _) |>.trans (hb2.mono (by simp)))); clear ho hb2; refine Lib.wpList_append_run _ rfl _ _ _ _ rfl _ _ rfl rfl _ _ hrun ?_)
          exact ⟨⟨k + 1, hlt, by go_num, Lib.hid (by rw [HST.out.1]; exact HO2.out)⟩, by simp [intOf]; omega⟩
    · obtain rfl : k = xs.length := by omega
      have hlt' : ¬ (xs.length : Int) < (xs.length : Int) := by omega
      have hfull : (xs.map TV.str_).take xs.length = xs.map TV.str_ := List.take_of_length_le (by simp)
      have hT := hI.out
      rw [hfull] at hT
      obtain ⟨q, cap, hv, hc1, -, hrd, hlt2, hg⟩ := hT.1.form lenS
      obtain ⟨g, hq⟩ := hg (by have := HJ.out.1; simp; omega)
      subst hq
      have hll : (xs.map TV.str_).length = xs.length := by simp
      rw [hll] at hv hc1
      have HJN := Tryz.strings_Join g 0 cap (xs.map TV.str_) ⟨#[32]⟩ wr (fun j x hj => by
        obtain ⟨g', o', hq', h5⟩ := hrd (by have := HJ.out.1; simp; omega)
        injection hq' with e1
        injection e1 with e2 e3
        have := h5 j x hj 0 _ rfl
        rw [← e2, ← e3] at this
        simpa using this) (hlt2 _ rfl).2 (by have := HJ.out.2.1; simp; omega) (by rw [hll]; exact hc1) HJ.out.2.2
      rw [hll] at HJN
      have HJN' := Lib.hid HJN
      have HB2 := Lib.hid hT.2
      subst hv
      clear HJN hfull hT hrd hlt2 hg
      go_wp2_with (go_at_call 117; refine HJN'.out.mono ?_; rintro e_ w1 ⟨rfl, g1⟩; have G1 := Lib.hid g1; clear g1)
      go_returns
      refine ⟨?_, after HB2.out G1.out⟩
      show Ending.returned (.string ⟨(Lib.join (List.map ((fun x => x.data.toList) ∘ TV.str_) xs) [32]).toArray⟩) = _
      rw [← List.map_map]
end Go.Proofs.YtmbccnioijokfaaGreatDoor

namespace Go.Proofs.YtmbccnioijokfaaGreatDoor
open Go.RowKit Go.Lib
attribute [local go_sem] Oper.semAt_some
abbrev BldF (B b : Nat) (bs : List Value) (w : World) : Prop := Lib.IsBuilderF 102 5 B b bs w
abbrev BldA (B b : Nat) (p : Value) (bs : List Value) (w : World) : Prop := Lib.BuilderAtF 102 5 B b p bs w
set_option maxRecDepth 100000 in
set_option maxHeartbeats 1000000 in
theorem bused_c (b : Nat) (w : World) (h0 : w.cell? ⟨b, 0, none⟩ = some (.pointer (some ⟨b, 0, none⟩))) :
    Calls Tryz.prog 107 #[.pointer (some ⟨b, 0, none⟩)] w fun e w' => e = .returned (.tuple #[]) ∧ w' = w := by
  obtain ⟨j, hj, _⟩ := Option.map_eq_some_iff.1 (show (Tryz.prog.info? 102).map (·.size) = some 2 by kernel_rfl)
  go_enter Tryz.func107, Tryz.ntmps107
  go_wp2
  rw [Lib.run_neq_ptr_same w _ Tryz.underlying100 hj]
  go_wp2
  go_end0
  exact ⟨rfl, rfl⟩
set_option maxRecDepth 100000 in
set_option maxHeartbeats 1000000 in
theorem bfresh_c (b : Nat) (w : World) (h0 : w.cell? ⟨b, 0, none⟩ = some (.pointer none)) (hsh : w.shape? b = some (102, 2)) (hfz : w.frozen? ⟨b, 0, none⟩ = false) :
    Calls Tryz.prog 107 #[.pointer (some ⟨b, 0, none⟩)] w fun e w' => e = .returned (.tuple #[]) ∧ w' = w.setCell ⟨b, 0, none⟩ (.pointer (some ⟨b, 0, none⟩)) := by
  obtain ⟨j, hj, hjs⟩ := Option.map_eq_some_iff.1 (show (Tryz.prog.info? 102).map (·.size) = some 2 by kernel_rfl)
  go_enter Tryz.func107, Tryz.ntmps107
  go_wp2
  rw [Lib.run_to_unsafe w ⟨b, 0, none⟩ Tryz.underlying100 Tryz.underlying224 hj (by rw [hjs]; decide) hsh (Nat.zero_lt_succ 1)]
  simp only [Result.andThen]
  rw [Oper.upon_value]
  go_wp2
  rw [run_callFunc_extern Tryz.func157 (by kernel_rfl) (by kernel_rfl) (by kernel_rfl) (e := Extern.AbiNoEscape.same) (by kernel_rfl)]
  rw [Lib.run_noEscape]
  simp only [Result.andThen]
  rw [Oper.upon_value]
  go_wp2
  rw [Lib.run_from_unsafe w ⟨b, 0, none⟩ Tryz.underlying224 Tryz.underlying100 hj hsh (by kernel_rfl)]
  simp only [Result.andThen]
  rw [Oper.upon_value]
  go_wp2
  go_end0
  exact ⟨rfl, rfl⟩
theorem bcheck_c (B b : Nat) (bs : List Value) (w : World) (h : BldF B b bs w) :
    Calls Tryz.prog 107 #[.pointer (some ⟨b, 0, none⟩)] w fun e w' => e = .returned (.tuple #[]) ∧ (BldA B b (.pointer (some ⟨b, 0, none⟩)) bs w' ∧ Below B w w' ∧ Kept (fun g => g ≠ b) w w' ∧ w'.cell? ⟨b, 1, none⟩ = w.cell? ⟨b, 1, none⟩) := by
  rcases h with h | h
  · refine (bfresh_c b w h.cell0 h.shape h.frozen0).mono ?_
    rintro e w' ⟨rfl, rfl⟩
    exact ⟨rfl, h.used _, (Below.refl B w).setCell (p := ⟨b, 0, none⟩) h.1 _, (Kept.refl _ _).setCell (by simp) _, World.cell?_setCell_other _ _ _ _ (by simp)⟩
  · refine (bused_c b w h.cell0).mono ?_
    rintro e w' ⟨rfl, rfl⟩
    exact ⟨rfl, h, Below.refl B _, Kept.refl _ _, rfl⟩
set_option maxRecDepth 100000 in
set_option maxHeartbeats 2000000 in
theorem bwrite_c (B b : Nat) (bs : List Value) (s : ByteArray) (w : World) (h : BldF B b bs w) (hlen : bs.length + s.size ≤ 140737488355328) (hBw : B ≤ w.heap.size) :
    Calls Tryz.prog 65 #[.pointer (some ⟨b, 0, none⟩), .string s] w fun e w' => e = .returned (.tuple #[.int .i64 s.size, .nilIface]) ∧ (BldA B b (.pointer (some ⟨b, 0, none⟩)) (bs ++ Lib.strCells s) w' ∧ Below B w w' ∧ ∀ v, w.cell? ⟨b, 1, none⟩ = some v → Kept (fun g => g ≠ b ∧ v.ownBlock ≠ some g) w w') := by
  obtain ⟨i0, hi, hz0, hz1, hz2⟩ := info_parts (show (Tryz.prog.info? 5).map (fun i => (i.zero, i.size, i.bytes)) = some (some (.int .u8 0), 1, 1) by kernel_rfl)
  go_enter Tryz.func65, Tryz.ntmps65
  go_wp2_with (go_at_call 107; refine (bcheck_c B b bs _ h).mono ?_)
  rintro e w1 ⟨rfl, h1, hb1, kk1, ce1⟩
  have CE := Lib.hid (And.intro ce1 kk1)
  clear ce1 kk1
  obtain ⟨hB, v, hbk, hown, hne⟩ := h1
  have c0 : w1.cell? ⟨b, 0, none⟩ = some (.pointer (some ⟨b, 0, none⟩)) := by rw [Lib.cell_of_heap hbk]; rfl
  have c1 : w1.cell? ⟨b, 1, none⟩ = some v := by rw [Lib.cell_of_heap hbk]; rfl
  go_wp2_with (at_builtin; refine Lib.wpList_append_own_stringF _ rfl _ _ 51 9 rfl B 5 i0 Tryz.underlying51 Tryz.underlying9 hi hz0 hz1 hz2 _ _ _ rfl hown s rfl ?c3 ?c4 ?c5 ?_)
  case c3 => unfold maxLen; omega
  case c4 => omega
  case c5 => have := hb1.size; omega
  intro v' w2 hown' hgrow _
  have hlt : b < w1.heap.size := by
    rcases Nat.lt_or_ge b w1.heap.size with h' | h'
    · exact h'
    · simp [Array.getElem?_eq_none h'] at hbk
  have hb2 : w2.heap[b]? = some (.cells #[.pointer (some ⟨b, 0, none⟩), v] 102 (0, 0)) := by
    rw [hgrow.block b hlt (fun e => hne e.symm)]
    exact hbk
  have d0 : w2.cell? ⟨b, 0, none⟩ = some (.pointer (some ⟨b, 0, none⟩)) := by rw [Lib.cell_of_heap hb2]; rfl
  have d1 : w2.cell? ⟨b, 1, none⟩ = some v := by rw [Lib.cell_of_heap hb2]; rfl
  have f1 : w2.frozen? ⟨b, 1, none⟩ = false := Lib.frozen_of_heap hb2 1
  obtain ⟨ao, n', cap, rfl⟩ : ∃ ao n' cap, v' = .slice ao n' cap := by
    rcases hown'.2 with ⟨hv, _⟩ | ⟨g, cap, cur, fz, hv, _⟩
    · exact ⟨_, _, _, hv⟩
    · exact ⟨_, _, _, hv⟩
  go_wp2
  go_ret2
  refine ⟨rfl, ?_, ?_, ?_⟩
  · exact Lib.BuilderAtF.put (T := 102) (e := 5) hB hb2 (bs' := bs ++ Lib.strCells s) (by simpa [Lib.strCells_length] using hown') (by decide)
  · exact (hb1.grown hgrow (by have := hb1.size; omega) (fun k hk => (hown.lt k hk).1)).setCell (p := ⟨b, 1, none⟩) hB _
  · intro v0 hv0
    rw [← CE.out.1, c1] at hv0
    obtain rfl := Option.some.inj hv0
    exact ((CE.out.2.mono (K' := fun g => g ≠ b ∧ v.ownBlock ≠ some g) fun g h => h.1).grown hgrow (fun k hk h => h.2 hk)).setCell (fun h => h.1 rfl) _
end Go.Proofs.YtmbccnioijokfaaGreatDoor

