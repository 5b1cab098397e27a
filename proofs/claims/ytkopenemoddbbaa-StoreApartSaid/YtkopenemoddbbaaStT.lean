/- Load, Save: the walks of the program. -/
import Derived.Test.YtkopenemoddbbaaStS
namespace Go.Proofs.Ytkopenemoddbbaa
open Go.RowKit
attribute [local go_sem] Oper.semAt_some

theorem xor_one_n (N : Nat) : 2 * N ^^^ 1 = 2 * N + 1 := by
  have h := Nat.xor_div_two (a := 2 * N) (b := 1)
  have h2 := Nat.xor_mod_two_pow (a := 2 * N) (b := 1) (n := 1)
  rw [show 2 * N / 2 = N by omega, show 1 / 2 = 0 by decide, Nat.xor_zero] at h
  rw [Nat.pow_one, show 2 * N % 2 = 0 by omega, show 1 % 2 = 1 by decide, Nat.zero_xor] at h2
  omega
theorem xor_one_m (N : Nat) : (2 * N + 1) ^^^ 1 = 2 * N := by
  rw [← xor_one_n N, Nat.xor_assoc, Nat.xor_self, Nat.xor_zero]
/-- The other slot. -/
theorem xor_slot {id x : Int} (h0 : 0 ≤ id) (h1 : id ≤ 1099511627776) (hx : x = 2 * id ∨ x = 2 * id + 1) : bits .xor .i64 x 1 = 4 * id + 1 - x := by
  obtain ⟨N, rfl⟩ := Int.eq_ofNat_of_zero_le h0
  have key : ∀ a b : Nat, (a : Int) < 4398046511104 → (b : Int) < 4398046511104 → a ^^^ 1 = b → bits .xor .i64 (a : Int) 1 = b := fun a b ha hb e => by
    show IntKind.i64.wrap ((BitVec.ofInt 64 (a : Int) ^^^ BitVec.ofInt 64 1).toNat : Int) = (b : Int)
    have e1 : (BitVec.ofInt 64 (a : Int)).toNat = a := by rw [BitVec.toNat_ofInt]; omega
    have e2 : (BitVec.ofInt 64 1).toNat = 1 := by decide
    rw [BitVec.toNat_xor, e1, e2, e, IntKind.wrap_i64]
    omega
  rcases hx with rfl | rfl
  · have := key (2 * N) (2 * N + 1) (by omega) (by omega) (xor_one_n N)
    rw [show (2 * (N : Int)) = ((2 * N : Nat) : Int) by omega, this]; omega
  · have := key (2 * N + 1) (2 * N) (by omega) (by omega) (xor_one_m N)
    rw [show (2 * (N : Int) + 1) = ((2 * N + 1 : Nat) : Int) by omega, this]; omega
theorem ofV_slot (S : DS) (id : Int) : (ofV S id).1 = 2 * id ∨ (ofV S id).1 = 2 * id + 1 := by
  unfold ofV
  split
  · split
    · exact .inr rfl
    · exact .inl rfl
  · split <;> exact .inr rfl
theorem ofV_int (S : DS) (id : Int) : 0 ≤ (ofV S id).2.1 ∧ (ofV S id).2.1 ≤ 1073741824 := by
  rw [← bestS_two]; exact bestS_int S id 2
/-- May an id be? -/
def mayId (id : Int) : Bool := decide (0 ≤ id) && decide (id ≤ 1099511627776)
theorem smay_c (id : Int) (w : World) : Calls Try.prog 36 #[.int .i64 id] w fun r w' => r = .returned (.bool (mayId id)) ∧ w = w' := by
  unfold mayId
  go_enter Try.func36, Try.ntmps36
  by_cases h1 : 0 ≤ id
  · by_cases h2 : id ≤ 1099511627776
    · go_wp2_with fail
      go_returns
      simp [h1, h2]
    · have h2' : 1099511627776 < id := by omega
      go_wp2_with fail
      go_returns
      simp [h2]
  · have h1' : id < 0 := by omega
    go_wp2_with fail
    go_returns
    simp
    omega
noncomputable def loadV (S : DS) (id : Int) : Bs × Int × Bool := if mayId id then ((ofV S id).2.2, (ofV S id).2.1, decide (0 < (ofV S id).2.1)) else ([], 0, false)
def LoadR (base : Nat) (x : Bs × Int × Bool) (r : Ending) (w w' : World) : Prop := ∃ sl : SL, r = .returned (.tuple #[slV sl, .int .i64 x.2.1, .bool x.2.2]) ∧ GoodS w' base sl ∧ rdB w' sl = x.1 ∧ Below w.heap.size w w'
set_option maxRecDepth 100000 in
set_option maxHeartbeats 4000000 in
theorem sload_c (base s d : Nat) (M : Nat → Prop) (S : DS) (N : Nat) (w : World) (h : StoreIs w base M s d S) (hok : DOk S N 1000000) (hN : N ≤ 100000) (id : Int) (hbase : base ≤ w.heap.size) :
    Calls Try.prog 19 #[.pointer (some ⟨s, 0, none⟩), .int .i64 id] w fun r w' => LoadR base (loadV S id) r w w' := by
  have HM := Lib.hid (smay_c id w)
  unfold loadV
  by_cases hm : mayId id = true
  · have hm2 : 0 ≤ id ∧ id ≤ 1099511627776 := by unfold mayId at hm; simpa using hm
    have HO := Lib.hid (sof_c base s d M S N w h hok hN id hm2.1 hm2.2 hbase)
    have HX := Lib.hid (ofV_int S id)
    rw [hm] at HM
    rw [if_pos hm]
    clear h hok hN hm
    generalize ofV S id = x at *
    obtain ⟨x1, x2, x3⟩ := x
    go_enter Try.func19, Try.ntmps19
    go_upto_region 4 with first
      | (go_at_call 36; refine HM.out.mono ?_; rintro e_ w' ⟨rfl, rfl⟩)
      | (go_at_call 37; refine HO.out.mono ?_; rintro e_ w1 ⟨⟨q, n, c⟩, rfl, hg, hr, g1⟩; dsimp only [slV] at *)
    obtain ⟨W2, hW⟩ : ∃ W2, W2 = w1.alloc (.cells #[.int .i64 x1, .int .i64 x2, .slice q n c] 73) := ⟨_, rfl⟩
    rw [← hW]
    have C := Blk.fresh hW
    have g2 : Below w1.heap.size w1 W2 := by rw [hW]; exact bel_alloc _ _
    have c0 := fun d os => (C.re d os).cell 1
    have c2 := fun d os => (C.re d os).cell 2
    have HG := Lib.hid (And.intro hg hr)
    have HB := Lib.hid (And.intro g1 g2)
    clear hg hr g1 g2 C hW
    refine wp_region_quiet_below (by kernel_rfl) (by kernel_rfl) ?_
    repeat (go_big_quiet_step (fail))
    refine wpQuiet_nil ?_
    intro w' hw'
    obtain ⟨rg, rfl⟩ := hw'
    clear c0 c2
    go_wp2_with fail
    go_returns
    obtain ⟨h1, h2⟩ := HG.out.1.on (after HB.out.2 (below_regrown W2 _ _))
    exact ⟨(q, n, c), rfl, h1, h2.trans HG.out.2, after (after HB.out.1 HB.out.2) (below_regrown W2 _ _)⟩
  · have hm' : mayId id = false := by simpa using hm
    rw [hm'] at HM
    rw [if_neg hm]
    clear h hok hN hm hm'
    go_enter Try.func19, Try.ntmps19
    go_wp2_with (go_at_call 36; refine HM.out.mono ?_; rintro e_ w' ⟨rfl, rfl⟩)
    go_returns
    exact ⟨(none, 0, 0), rfl, good_nil, rfl, Below.refl _ _⟩
/-- What a save does. -/
noncomputable def saveV (S : DS) (id : Int) (b : Bs) : DS × Int :=
  if mayId id then
    match writeL ((ofV S id).2.1 + 1) b with
    | none => (S, 1)
    | some r => if (S.put (4 * id + 1 - (ofV S id).1) r).2 = 0 then (S.put (4 * id + 1 - (ofV S id).1) r).1.sync else S.put (4 * id + 1 - (ofV S id).1) r
  else (S, 1)
theorem StoreIs.turn {w w' : World} {base : Nat} {M : Nat → Prop} {s d : Nat} {S S' : DS} (h : StoreIs w base M s d S) (ht : Turn w base M d S' w') : ∃ M', StoreIs w' base M' s d S' := by
  have hb := ht.blk h.disk h.blk (by decide)
  obtain ⟨M', h1, -, -⟩ := ht
  exact ⟨M', hb, h1, h.based⟩
/-- Two turns, one behind the other. -/
theorem Turn.then {w w' w'' : World} {base : Nat} {M : Nat → Prop} {d : Nat} {S' S'' : DS} (h : Turn w base M d S' w') (k : ∀ M', DiskIs w' base M' d S' → Turn w' base M' d S'' w'') : Turn w base M d S'' w'' := by
  obtain ⟨M', h1, h2, h3⟩ := h
  exact Turn.trans h2 h3 (k M' h1)
theorem Turn.ahead {w w' w'' : World} {base : Nat} {M : Nat → Prop} {d : Nat} {S'' : DS} (hb : Below w.heap.size w w') (k : Turn w' base M d S'' w'') : Turn w base M d S'' w'' :=
  Turn.trans (fun _ h => .inl h) ((Kept.of_below hb).mono fun _ _ => trivial) k
set_option maxRecDepth 100000 in
set_option maxHeartbeats 4000000 in
theorem ssave_c (base s d : Nat) (M : Nat → Prop) (S : DS) (N : Nat) (w : World) (h : StoreIs w base M s d S) (hok : DOk S N 1000000) (hN : N ≤ 90000) (id : Int) (sl : SL) (hs : GoodS w base sl) (hz : sl.2.1 ≤ 1000000) (hbase : base ≤ w.heap.size) :
    Calls Try.prog 18 #[.pointer (some ⟨s, 0, none⟩), .int .i64 id, slV sl] w fun r w' => r = .returned (.int .i64 (saveV S id (rdB w sl)).2) ∧ Turn w base M d (saveV S id (rdB w sl)).1 w' := by
  have HM := Lib.hid (smay_c id w)
  have HT := Lib.hid (Turn.same h.disk (Below.refl _ _))
  have hdi := h.disk
  have hslot := ofV_slot S id
  obtain ⟨⟨S2, e2⟩, hSv⟩ : ∃ v, saveV S id (rdB w sl) = v := ⟨_, rfl⟩
  rw [hSv]
  dsimp only
  unfold saveV at hSv
  by_cases hm : mayId id = true
  · have hm2 : 0 ≤ id ∧ id ≤ 1099511627776 := by unfold mayId at hm; simpa using hm
    have HO := Lib.hid (sof_c base s d M S N w h hok (by omega) id hm2.1 hm2.2 hbase)
    have hx := ofV_int S id
    rw [hm] at HM
    rw [if_pos hm] at hSv
    have HS := Lib.hid h
    have HOK := Lib.hid hok
    clear h hok hm
    generalize ofV S id = x at *
    obtain ⟨x1, x2, x3⟩ := x
    dsimp only at hslot hx hSv
    have hslot2 : In64 (4 * id + 1 - x1) := by unfold In64; omega
    obtain ⟨q, n, c⟩ := sl
    have HW := Lib.hid fun (W : World) (hb : Below w.heap.size w W) => (swrite_c base (x2 + 1) (by unfold In64; omega) (q, n, c) W (hs.on hb).1 hz)
    have HRD := Lib.hid fun (W : World) (hb : Below w.heap.size w W) => (hs.on hb).2
    generalize rdB w (q, n, c) = b at *
    clear hs
    go_enter Try.func18, Try.ntmps18
    go_upto_region 4 with first
      | (go_at_call 36; refine HM.out.mono ?_; rintro e_ w' ⟨rfl, rfl⟩)
      | (go_at_call 37; refine HO.out.mono ?_; rintro e_ w1 ⟨⟨sq, sn, sc⟩, rfl, -, -, g1⟩; dsimp only [slV] at *)
    obtain ⟨W2, hW⟩ : ∃ W2, W2 = w1.alloc (.cells #[.int .i64 x1, .int .i64 x2, .slice sq sn sc] 73) := ⟨_, rfl⟩
    rw [← hW]
    have C := Blk.fresh hW
    have g2 : Below w.heap.size w W2 := after g1 (by rw [hW]; exact bel_alloc _ _)
    have c1 := C.cell 1
    have HW2 := HW.out W2 g2
    rw [HRD.out W2 g2] at HW2
    have HW3 := Lib.hid HW2
    have HC := Lib.hid C
    have G2 := Lib.hid g2
    have hxor := xor_slot hm2.1 hm2.2 hslot
    generalize 4 * id + 1 - x1 = y at *
    have HSV := Lib.hid hSv
    clear hSv
    have hy : In64 y := hslot2
    clear hW HW HW2 hslot C g2 g1 HO HM HRD
    cases ho : writeL (x2 + 1) b with
    | none =>
      rw [ho] at HW3 HSV
      obtain ⟨rfl, rfl⟩ : S = S2 ∧ (1 : Int) = e2 := by simpa using HSV.out
      clear ho HSV
      go_upto_region 5 with (go_at_call 10; refine HW3.out.mono ?_; rintro e_ w3 ⟨s3, rfl, -, -, -, g3⟩; have G3 := Lib.hid (after G2.out g3); clear g3)
      go_wp2_with fail
      go_returns
      exact ⟨rfl, Turn.same hdi G3.out⟩
    | some rr =>
      rw [ho] at HW3 HSV
      clear ho
      go_upto_region 7 with (go_at_call 10; refine HW3.out.mono ?_; rintro e_ w3 ⟨⟨q3, n3, k3⟩, rfl, hg3, hr3, hz3, g3⟩; dsimp only [slV, Option.isSome, Option.getD] at *)
      have g23 := after G2.out g3
      have c0 := fun d os => ((HC.out.on g3).re d os).cell 0
      have b0 := fun d os => ((HS.out.blk.on g23).re d os).cell 0
      have H3 := Lib.hid (And.intro hg3 (And.intro hr3 hz3))
      have G3 := Lib.hid g23
      have HDI := Lib.hid (hdi.on g23)
      clear hg3 hr3 hz3 g3 g23 hdi c1 HC
      refine wp_sched [0, 0, 0, 0, 0, 0, 0, 0, 0, 3, 3] (fun _ _ _ => True) (by kernel_rfl) (by kernel_rfl) (fun _ _ _ _ h _ => h) ?_
      repeat (first | (refine wpQs_s ?_) | (refine wpQs_q (fun K hK => ?_); go_simp; first | (refine hK _ ?_; clear hK K) | (apply Exists.intro; refine ⟨fun _ => ?_, hK _ ?_⟩; (fail); clear hK K)) | (refine wpQs_f (fun K hK => ?_); go_simp; refine hK _ ?_; clear hK K))
      refine wpQs_nil ?_
      repeat (first | (refine wpLs_skip ?_) | (refine wpLs_one ?lsA (fun v_ => ?_); case lsA => (intro w_ hw_ hp_; (fail))))
      refine wpLs_nilB ?_
      simp only [tails]
      intro W4 h4 _
      clear c0 b0
      have HP := Lib.hid (put_c base d M S N W4 (HDI.out.on h4) HOK.out (by omega) y hy (q3, n3, k3) (H3.out.1.on h4).1 (by have := H3.out.2.2; dsimp only at this ⊢; omega) (Nat.le_trans hbase (after G3.out h4).size))
      rw [(H3.out.1.on h4).2, H3.out.2.1] at HP
      have HSS := Lib.hid (HS.out.on (after G3.out h4))
      have G4 := Lib.hid (after G3.out h4)
      have HOK2 := Lib.hid (HOK.out.put hy (b := rr) (by have := H3.out.1.len; rw [H3.out.2.1] at this; have := H3.out.2.2; dsimp only at *; omega))
      dsimp only [slV] at HP HSV
      clear h4
      obtain ⟨⟨S3, e3⟩, hP⟩ : ∃ v, S.put y rr = v := ⟨_, rfl⟩
      rw [hP] at HP HSV HOK2
      clear hP H3 HDI
      dsimp only at HP HSV HOK2
      by_cases he : e3 = 0
      · have hv := HSV.out
        rw [if_pos he] at hv
        subst he
        have HV := Lib.hid hv
        clear hv HSV
        go_upto_region 10 with (go_at_call 38; refine HP.out.mono ?_; rintro e_ w5 ⟨rfl, t5⟩)
        have k0 := (t5.blk HSS.out.disk HSS.out.blk (by decide)).cell 0
        have hb5 := (t5.out HSS.out.disk (Nat.le_trans hbase G4.out.size)).2.1
        obtain ⟨M5, d5, k2, k3⟩ := t5
        have HY := Lib.hid (sync_c base d M5 S3 (N + 1) w5 d5 HOK2.out (by omega) hb5)
        rw [HV.out] at HY
        dsimp only at HY
        have HK := Lib.hid (And.intro k2 k3)
        clear d5 k2 k3 hb5 HV
        go_wp2_with (go_at_call 39; refine HY.out.mono ?_; rintro e_ w6 ⟨rfl, t6⟩; have T6 := Lib.hid t6; clear t6)
        go_returns
        exact ⟨rfl, Turn.ahead G4.out (Turn.trans HK.out.1 HK.out.2 T6.out)⟩
      · have hv := HSV.out
        rw [if_neg he] at hv
        obtain ⟨rfl, rfl⟩ : S3 = S2 ∧ e3 = e2 := by simpa using hv
        clear hv HSV
        go_upto_region 9 with (go_at_call 38; refine HP.out.mono ?_; rintro e_ w5 ⟨rfl, t5⟩; have T5 := Lib.hid t5; clear t5)
        go_wp2_with fail
        go_returns
        exact ⟨rfl, Turn.ahead G4.out T5.out⟩
  · have hm' : mayId id = false := by simpa using hm
    rw [hm'] at HM
    rw [if_neg hm] at hSv
    obtain ⟨rfl, rfl⟩ : S = S2 ∧ (1 : Int) = e2 := by simpa using hSv
    clear hSv
    clear h hok hm hm' hdi
    go_enter Try.func18, Try.ntmps18
    go_wp2_with (go_at_call 36; refine HM.out.mono ?_; rintro e_ w' ⟨rfl, rfl⟩)
    go_returns
    exact ⟨rfl, HT.out⟩
end Go.Proofs.Ytkopenemoddbbaa
