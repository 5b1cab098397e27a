/- StoreVersions holds: for any bodies, any id. -/
import Derived.Test.YtkopenemoddbbaaBos
import Derived.Test.YtkopenemoddbbaaStX
namespace Go.Proofs.Ytkopenemoddbbaa
open Go.ChangeShapes Go.WideShapes Go.ChangeAt Go.RowKit
attribute [local go_sem] Oper.semAt_some

/-- The store behind so many saves. -/
def VI (w wr : World) (s d : Nat) (id : Int) (k : Nat) : Prop := ∃ S, SAt w wr s d S ∧ Calm S ∧ S.room = 100000 ∧ DOk S k 29 ∧ (mayId id = true → (ofV S id).2.1 = k)
theorem VI.below {w wr : World} {s d : Nat} {id : Int} {k : Nat} (h : VI w wr s d id k) : Below w.heap.size w wr := by
  obtain ⟨S, ⟨M, -, h2, -⟩, -⟩ := h
  exact h2
theorem vi_may {S : DS} {k : Nat} {id : Int} {b : Bs} (hc : Calm S) (hr : S.room = 100000) (hok : DOk S k 29) (hm : mayId id = true) (hv : (ofV S id).2.1 = k) (hk : k < 10) (hb : b.length ≤ 20) :
    ∃ S', saveV S id b = (S', 0) ∧ loadV S' id = (b, (k : Int) + 1, true) ∧ Calm S' ∧ S'.room = 100000 ∧ DOk S' (k + 1) 29 ∧ (ofV S' id).2.1 = ((k + 1 : Nat) : Int) := by
  obtain ⟨S', h1, h2, h3, -, -, h4, h5, -⟩ := save_calm hok hc hm (by rw [hv]; omega) (by omega) (by omega) (by rw [hr]; omega) (b := b)
  refine ⟨S', h1, ?_, h2, h3.trans hr, h4, by rw [h5, hv]; dsimp only; omega⟩
  rw [load_in hm, h5, hv]
  dsimp only
  rw [decide_eq_true (by omega)]
theorem make_big (l : Int) (n : Nat) (hl : l = n) (hn : n ≤ 1000000) (base : Nat) (W : World) : ∃ W', (Instr.makeSlice 22 (.int .i64 l) (.int .i64 l)).run Try.prog W = .ok (.slice (some ⟨W.heap.size, 0, none⟩) n n) W' ∧
    GoodS W' base (some ⟨W.heap.size, 0, none⟩, n, n) ∧ (rdB W' (some ⟨W.heap.size, 0, none⟩, n, n)).length = n ∧ Below W.heap.size W W' := by
  have h8 := inf8
  obtain ⟨i, hi, hp⟩ := Option.map_eq_some_iff.1 h8
  obtain ⟨hz, hs, hb⟩ : i.zero = some (.int .u8 0) ∧ i.size = 1 ∧ i.bytes = 1 := by simpa using hp
  have hr := run_make (P := Try.prog) (w := W) 22 5 i (.int .u8 0) Try.underlying22 hi hz .i64 .i64 l l (by omega) (Int.le_refl _) (by rw [hb]; omega) (by omega)
  subst hl
  simp only [Int.toNat_natCast, hs, Nat.mul_one] at hr
  have hB : Blk (W.alloc (.cells (madeCells (Value.int .u8 0).cells n) 5)) W.heap.size 5 (madeCells (Value.int .u8 0).cells n) := Blk.new' rfl
  have hD : Byt (W.alloc (.cells (madeCells (Value.int .u8 0).cells n) 5)) W.heap.size 0 n (fun _ => 0) := fun i hi => by
    rw [Nat.zero_add, hB.cell]
    simp [madeCells, hi, Value.cells, n8, Nat.mod_one]
  have hg : GoodS (W.alloc (.cells (madeCells (Value.int .u8 0).cells n) 5)) base (some ⟨W.heap.size, 0, none⟩, n, n) := ⟨Nat.le_refl _, Nat.le_trans hn (by decide), fun _ => ⟨W.heap.size, 0, _, rfl, hD, .inr ⟨_, hB⟩⟩⟩
  exact ⟨_, hr, hg, hg.len, bel_alloc _ _⟩
set_option maxRecDepth 100000 in
set_option maxHeartbeats 8000000 in
theorem storeVersions_w (q : Option Addr) (n cap : Nat) (F : Nat → SL) (hn : n ≤ cap) (hm : cap ≤ maxLen) (id : Int) (hi : In64 id) (w : World) (hb : Sls w q n F) (hg : ∀ i, i < n → GoodS w w.heap.size (F i)) :
    Calls Try.prog 4 #[.slice q n cap, .int .i64 id] w fun r w' => r = .returned (.bool true) ∧ Below w.heap.size w w' := by
  have HB := Lib.hid hb
  have HG := Lib.hid hg
  have hq := Lib.hid (fun g o (e : q = some ⟨g, o, none⟩) (h0 : 0 < n) => hb.lt e h0)
  clear hb hg hi hn hm
  go_enter Try.func4, Try.ntmps4
  go_upto_region 4 with (go_at_call 17; refine (snew_e 100000 w w (Below.refl _ _)).mono ?_; rintro e_ w1 ⟨s, d, rfl, A1, -⟩)
  obtain ⟨m, hm, hm6, hmn'⟩ : ∃ m, m = min n 10 ∧ m ≤ 10 ∧ m ≤ n := ⟨_, rfl, Nat.min_le_right _ _, Nat.min_le_left _ _⟩
  have hmx : ¬ m < n ∨ m = 10 := by omega
  have I1 : Hid (VI w w1 s d id 0) := Lib.hid ⟨_, A1, ⟨rfl, rfl⟩, by unfold newS mnI mxI; decide, (newS_ok 100000).mono (Nat.le_refl _) (by decide), fun _ => by rw [of_empty rfl]; rfl⟩
  clear hm A1
  by_cases hmay : mayId id = true
  · have h01 : 0 ≤ id ∧ id ≤ 1099511627776 := by unfold mayId at hmay; simpa using hmay
    obtain ⟨h0, h1⟩ := h01
    have HM := Lib.hid hmay
    clear hmay
    go_upto_region 6 with (fail)
    go_loopw [7] (fun i wr => ∃ k : Nat, k ≤ m ∧ i = .int .i64 k ∧ Hid (VI w wr s d id k)) (fun i _ => m - (intOf i).toNat)
    case atStart => exact ⟨0, Nat.zero_le _, rfl, I1⟩
    case round =>
      obtain ⟨k, hk, rfl, I⟩ := hrel
      clear I1
      by_cases hlt : k < m
      · have hl1 : (k : Int) < n := by omega
        have hl2 : (k : Int) < 10 := by omega
        have hB := I.out.below
        obtain ⟨S, hA, hc, hr, hok, hv⟩ := I.out
        obtain ⟨g, o, rfl, hcell⟩ := (HB.out.below hq.out hB) (by omega)
        have c0 := hcell k (by omega)
        have hG := ((HG.out k (by omega)).on hB).1
        have hcut := (hG.cut (Nat.min_le_left (F k).2.1 20)).1
        have hfew := few_c (F k).1 (F k).2.1 (F k).2.2 20 hG.cap wr
        have hm20 : min (F k).2.1 20 ≤ 20 := Nat.min_le_right _ _
        generalize F k = s1 at *
        obtain ⟨sq, sn, sc⟩ := s1
        dsimp only at hcut hfew hm20
        simp only [slV] at c0
        generalize min sn 20 = m20 at *
        obtain ⟨S', e1, e2, c2, r2, ok2, v2⟩ := vi_may hc hr hok HM.out (hv HM.out) (by omega) (b := rdB wr (sq, m20, sc)) (by rw [hcut.len]; exact hm20)
        have HS1 := Lib.hid (save_e hA (hok.mono (Nat.le_refl _) (by decide)) (by omega) hcut (by dsimp only; omega) rfl e1)
        have HL := Lib.hid fun W (hW : SAt w W s d S') => load_e hW (ok2.mono (Nat.le_refl _) (by decide)) (by omega) e2
        have HCU := Lib.hid hcut
        have HI := Lib.hid (fun W (hW : SAt w W s d S') => (⟨S', hW, c2, r2, ok2, fun _ => v2⟩ : VI w W s d id (k + 1)))
        have HF := Lib.hid hfew
        have hk0 : (0 : Int) ≤ (k : Int) := by omega
        clear hfew hcut hG hcell I hA hc hr hok hv c2 r2 ok2 v2 e1 e2 hB
        go_upto_region 10 with first
          | (go_at_call 9; refine HF.out.mono ?_; rintro e_ w2 ⟨rfl, rfl⟩)
          | (go_at_call 18; refine HS1.out.mono ?_; rintro e_ w2 ⟨rfl, A2, st⟩)
        have HL2 := Lib.hid (HL.out _ A2)
        have HC2 := Lib.hid (st.good HCU.out)
        clear A2 st HL HS1 HF
        go_upto_region 11 with (go_at_call 19; refine HL2.out.mono ?_; rintro e_ w3 ⟨q3, n3, c3, rfl, hg3, hr3, A3, hb3⟩)
        have hS := same_s hg3 (HC2.out.1.on hb3).1 (by rw [hr3, (HC2.out.1.on hb3).2, HC2.out.2])
        simp only [slV] at hS
        have HS := Lib.hid hS
        have HI3 := Lib.hid (HI.out _ A3)
        clear hS hg3 hr3 A3 hb3 HI HL2 HC2 c0
        go_wp2_with (go_at_call 12; refine HS.out.mono ?_; rintro e_ w' ⟨rfl, rfl⟩)
        exact ⟨⟨k + 1, hlt, by go_num, HI3⟩, next_less' hlt⟩
      · obtain rfl : k = m := by omega
        obtain ⟨S, hA, hc, hr, hok, hv⟩ := I.out
        by_cases hkn : k < n
        · have a1 : (k : Int) < n := by omega
          have a2 : ¬ (k : Int) < 10 := by omega
          obtain ⟨W2, hmk, hg2, hl2, hb2⟩ := make_big 65537 65537 rfl (by decide) w.heap.size wr
          have HS1 := Lib.hid (save_e (hA.on hb2) (hok.mono (Nat.le_refl _) (by decide)) (by omega) (id := 1) hg2 (show 65537 ≤ 1000000 by decide) rfl (save_long (by rw [hl2]; decide)))
          clear hg2 hl2 hb2 hA hc hr hok hv I
          go_wp2_with first
            | (go_at_call 18; refine HS1.out.mono ?_; rintro e_ w3 ⟨rfl, A3, -⟩; have HB3 := Lib.hid A3; clear A3)
            | (go_at_call 16; refine (slives_c _).mono ?_; rintro e_ wb ⟨rfl, hbb⟩; have HBB := Lib.hid hbb; clear hbb)
          go_returns
          obtain ⟨M, -, h2, -⟩ := HB3.out
          exact ⟨rfl, after h2 HBB.out⟩
        · have a1 : ¬ (k : Int) < n := by omega
          obtain ⟨W2, hmk, hg2, hl2, hb2⟩ := make_big 65537 65537 rfl (by decide) w.heap.size wr
          have HS1 := Lib.hid (save_e (hA.on hb2) (hok.mono (Nat.le_refl _) (by decide)) (by omega) (id := 1) hg2 (show 65537 ≤ 1000000 by decide) rfl (save_long (by rw [hl2]; decide)))
          clear hg2 hl2 hb2 hA hc hr hok hv I
          go_wp2_with first
            | (go_at_call 18; refine HS1.out.mono ?_; rintro e_ w3 ⟨rfl, A3, -⟩; have HB3 := Lib.hid A3; clear A3)
            | (go_at_call 16; refine (slives_c _).mono ?_; rintro e_ wb ⟨rfl, hbb⟩; have HBB := Lib.hid hbb; clear hbb)
          go_returns
          obtain ⟨M, -, h2, -⟩ := HB3.out
          exact ⟨rfl, after h2 HBB.out⟩
  · have HM : Hid (mayId id = false) := Lib.hid (by simpa using hmay)
    have hout : id < 0 ∨ 1099511627776 < id := by
      unfold mayId at hmay
      by_cases h : id < 0
      · exact .inl h
      · by_cases h2 : 1099511627776 < id
        · exact .inr h2
        · exact absurd (by simp; omega) hmay
    clear hmay
    by_cases hsg : 0 ≤ id
    · have hsb : decide (id ≤ 1099511627776) = false := by simp; omega
      clear hout
      go_upto_region 6 with (fail)
      go_loopw [7] (fun i wr => ∃ k : Nat, k ≤ m ∧ i = .int .i64 k ∧ Hid (VI w wr s d id k)) (fun i _ => m - (intOf i).toNat)
      case atStart => exact ⟨0, Nat.zero_le _, rfl, I1⟩
      case round =>
        obtain ⟨k, hk, rfl, I⟩ := hrel
        clear I1
        by_cases hlt : k < m
        · have hl1 : (k : Int) < n := by omega
          have hl2 : (k : Int) < 10 := by omega
          have hB := I.out.below
          obtain ⟨S, hA, hc, hr, hok, hv⟩ := I.out
          obtain ⟨g, o, rfl, hcell⟩ := (HB.out.below hq.out hB) (by omega)
          have c0 := hcell k (by omega)
          have hG := ((HG.out k (by omega)).on hB).1
          have hcut := (hG.cut (Nat.min_le_left (F k).2.1 20)).1
          have hfew := few_c (F k).1 (F k).2.1 (F k).2.2 20 hG.cap wr
          have hm20 : min (F k).2.1 20 ≤ 20 := Nat.min_le_right _ _
          generalize F k = s1 at *
          obtain ⟨sq, sn, sc⟩ := s1
          dsimp only at hcut hfew hm20
          simp only [slV] at c0
          generalize min sn 20 = m20 at *
          have HS1 := Lib.hid (save_e hA (hok.mono (Nat.le_refl _) (by decide)) (by omega) hcut (by dsimp only; omega) rfl (save_out HM.out))
          have HL := Lib.hid fun W (hW : SAt w W s d S) => load_e hW (hok.mono (Nat.le_refl _) (by decide)) (by omega) (load_out HM.out)
          have HI := Lib.hid (fun W (hW : SAt w W s d S) => (⟨S, hW, hc, hr, hok.mono (by omega) (Nat.le_refl _), fun h => by rw [HM.out] at h; cases h⟩ : VI w W s d id (k + 1)))
          have HF := Lib.hid hfew
          have hk0 : (0 : Int) ≤ (k : Int) := by omega
          clear hfew hcut hG hcell I hA hc hr hok hv hB
          go_upto_region 10 with first
            | (go_at_call 9; refine HF.out.mono ?_; rintro e_ w2 ⟨rfl, rfl⟩)
            | (go_at_call 18; refine HS1.out.mono ?_; rintro e_ w2 ⟨rfl, A2, -⟩)
          have HL2 := Lib.hid (HL.out _ A2)
          clear A2 HL HS1 HF
          go_upto_region 11 with (go_at_call 19; refine HL2.out.mono ?_; rintro e_ w3 ⟨q3, n3, c3, rfl, hg3, hr3, A3, hb3⟩)
          obtain rfl : n3 = 0 := by have := hg3.len; rw [hr3] at this; exact this.symm
          have HI3 := Lib.hid (HI.out _ A3)
          clear hg3 hr3 A3 hb3 HI HL2 c0
          go_wp2_with fail
          exact ⟨⟨k + 1, hlt, by go_num, HI3⟩, next_less' hlt⟩
        · obtain rfl : k = m := by omega
          obtain ⟨S, hA, hc, hr, hok, hv⟩ := I.out
          by_cases hkn : k < n
          · have a1 : (k : Int) < n := by omega
            have a2 : ¬ (k : Int) < 10 := by omega
            obtain ⟨W2, hmk, hg2, hl2, hb2⟩ := make_big 65537 65537 rfl (by decide) w.heap.size wr
            have HS1 := Lib.hid (save_e (hA.on hb2) (hok.mono (Nat.le_refl _) (by decide)) (by omega) (id := 1) hg2 (show 65537 ≤ 1000000 by decide) rfl (save_long (by rw [hl2]; decide)))
            clear hg2 hl2 hb2 hA hc hr hok hv I
            go_wp2_with first
              | (go_at_call 18; refine HS1.out.mono ?_; rintro e_ w3 ⟨rfl, A3, -⟩; have HB3 := Lib.hid A3; clear A3)
              | (go_at_call 16; refine (slives_c _).mono ?_; rintro e_ wb ⟨rfl, hbb⟩; have HBB := Lib.hid hbb; clear hbb)
            go_returns
            obtain ⟨M, -, h2, -⟩ := HB3.out
            exact ⟨rfl, after h2 HBB.out⟩
          · have a1 : ¬ (k : Int) < n := by omega
            obtain ⟨W2, hmk, hg2, hl2, hb2⟩ := make_big 65537 65537 rfl (by decide) w.heap.size wr
            have HS1 := Lib.hid (save_e (hA.on hb2) (hok.mono (Nat.le_refl _) (by decide)) (by omega) (id := 1) hg2 (show 65537 ≤ 1000000 by decide) rfl (save_long (by rw [hl2]; decide)))
            clear hg2 hl2 hb2 hA hc hr hok hv I
            go_wp2_with first
              | (go_at_call 18; refine HS1.out.mono ?_; rintro e_ w3 ⟨rfl, A3, -⟩; have HB3 := Lib.hid A3; clear A3)
              | (go_at_call 16; refine (slives_c _).mono ?_; rintro e_ wb ⟨rfl, hbb⟩; have HBB := Lib.hid hbb; clear hbb)
            go_returns
            obtain ⟨M, -, h2, -⟩ := HB3.out
            exact ⟨rfl, after h2 HBB.out⟩
    · have hsb : id < 0 := by omega
      clear hout
      go_upto_region 6 with (fail)
      go_loopw [7] (fun i wr => ∃ k : Nat, k ≤ m ∧ i = .int .i64 k ∧ Hid (VI w wr s d id k)) (fun i _ => m - (intOf i).toNat)
      case atStart => exact ⟨0, Nat.zero_le _, rfl, I1⟩
      case round =>
        obtain ⟨k, hk, rfl, I⟩ := hrel
        clear I1
        by_cases hlt : k < m
        · have hl1 : (k : Int) < n := by omega
          have hl2 : (k : Int) < 10 := by omega
          have hB := I.out.below
          obtain ⟨S, hA, hc, hr, hok, hv⟩ := I.out
          obtain ⟨g, o, rfl, hcell⟩ := (HB.out.below hq.out hB) (by omega)
          have c0 := hcell k (by omega)
          have hG := ((HG.out k (by omega)).on hB).1
          have hcut := (hG.cut (Nat.min_le_left (F k).2.1 20)).1
          have hfew := few_c (F k).1 (F k).2.1 (F k).2.2 20 hG.cap wr
          have hm20 : min (F k).2.1 20 ≤ 20 := Nat.min_le_right _ _
          generalize F k = s1 at *
          obtain ⟨sq, sn, sc⟩ := s1
          dsimp only at hcut hfew hm20
          simp only [slV] at c0
          generalize min sn 20 = m20 at *
          have HS1 := Lib.hid (save_e hA (hok.mono (Nat.le_refl _) (by decide)) (by omega) hcut (by dsimp only; omega) rfl (save_out HM.out))
          have HL := Lib.hid fun W (hW : SAt w W s d S) => load_e hW (hok.mono (Nat.le_refl _) (by decide)) (by omega) (load_out HM.out)
          have HI := Lib.hid (fun W (hW : SAt w W s d S) => (⟨S, hW, hc, hr, hok.mono (by omega) (Nat.le_refl _), fun h => by rw [HM.out] at h; cases h⟩ : VI w W s d id (k + 1)))
          have HF := Lib.hid hfew
          have hk0 : (0 : Int) ≤ (k : Int) := by omega
          clear hfew hcut hG hcell I hA hc hr hok hv hB
          go_upto_region 10 with first
            | (go_at_call 9; refine HF.out.mono ?_; rintro e_ w2 ⟨rfl, rfl⟩)
            | (go_at_call 18; refine HS1.out.mono ?_; rintro e_ w2 ⟨rfl, A2, -⟩)
          have HL2 := Lib.hid (HL.out _ A2)
          clear A2 HL HS1 HF
          go_upto_region 11 with (go_at_call 19; refine HL2.out.mono ?_; rintro e_ w3 ⟨q3, n3, c3, rfl, hg3, hr3, A3, hb3⟩)
          obtain rfl : n3 = 0 := by have := hg3.len; rw [hr3] at this; exact this.symm
          have HI3 := Lib.hid (HI.out _ A3)
          clear hg3 hr3 A3 hb3 HI HL2 c0
          go_wp2_with fail
          exact ⟨⟨k + 1, hlt, by go_num, HI3⟩, next_less' hlt⟩
        · obtain rfl : k = m := by omega
          obtain ⟨S, hA, hc, hr, hok, hv⟩ := I.out
          by_cases hkn : k < n
          · have a1 : (k : Int) < n := by omega
            have a2 : ¬ (k : Int) < 10 := by omega
            obtain ⟨W2, hmk, hg2, hl2, hb2⟩ := make_big 65537 65537 rfl (by decide) w.heap.size wr
            have HS1 := Lib.hid (save_e (hA.on hb2) (hok.mono (Nat.le_refl _) (by decide)) (by omega) (id := 1) hg2 (show 65537 ≤ 1000000 by decide) rfl (save_long (by rw [hl2]; decide)))
            clear hg2 hl2 hb2 hA hc hr hok hv I
            go_wp2_with first
              | (go_at_call 18; refine HS1.out.mono ?_; rintro e_ w3 ⟨rfl, A3, -⟩; have HB3 := Lib.hid A3; clear A3)
              | (go_at_call 16; refine (slives_c _).mono ?_; rintro e_ wb ⟨rfl, hbb⟩; have HBB := Lib.hid hbb; clear hbb)
            go_returns
            obtain ⟨M, -, h2, -⟩ := HB3.out
            exact ⟨rfl, after h2 HBB.out⟩
          · have a1 : ¬ (k : Int) < n := by omega
            obtain ⟨W2, hmk, hg2, hl2, hb2⟩ := make_big 65537 65537 rfl (by decide) w.heap.size wr
            have HS1 := Lib.hid (save_e (hA.on hb2) (hok.mono (Nat.le_refl _) (by decide)) (by omega) (id := 1) hg2 (show 65537 ≤ 1000000 by decide) rfl (save_long (by rw [hl2]; decide)))
            clear hg2 hl2 hb2 hA hc hr hok hv I
            go_wp2_with first
              | (go_at_call 18; refine HS1.out.mono ?_; rintro e_ w3 ⟨rfl, A3, -⟩; have HB3 := Lib.hid A3; clear A3)
              | (go_at_call 16; refine (slives_c _).mono ?_; rintro e_ wb ⟨rfl, hbb⟩; have HBB := Lib.hid hbb; clear hbb)
            go_returns
            obtain ⟨M, -, h2, -⟩ := HB3.out
            exact ⟨rfl, after h2 HBB.out⟩
set_option maxRecDepth 100000 in
theorem storeVersions_lifted (os : Os) (started : os.Started) (H : Type) (enc : TypeId × Value → H) :
    ReturnsInHanded {} Try.checked os 4 .any (Rows.storeVersionsSpec.pre6 enc Try.prog Try.f4 Rows.storeVersionsRow.domain false) (Rows.storeVersionsSpec.post enc Try.prog Try.f4 false true false false) := by
  refine returnsInHanded_of_change (C := Try.checked) own started (by kernel_rfl) Try.func4
    (ChangeSpec.witness6 (enc := enc) (C := Try.checked) false ⟨#[], #[.slice none 0 0, .int .i64 0], []⟩ 8 (by kernel_rfl) (by kernel_rfl) (by kernel_rfl) (by kernel_rfl)) ?_
  intro W base args ds gs before hval0 hW hcnd hsz
  have hval : ∀ (j : Nat) t v, Try.f4.params[j]? = some t → args[j]? = some v → Value.okWide Try.prog W .any base t v := hval0
  have hW' := hW
  obtain ⟨p, q, hA0, hV, rfl, hfz, hnd⟩ := hW
  have hA : DataW.TrodAll enc Try.prog W 0 (fun _ => true) true Try.f4.params.toList args.toList ds p := hA0
  rw [Try.params4] at hA hval
  obtain ⟨v0, vs0, d0, ds0, p_0, q_0, hargs, rfl, rfl, h0, r_0⟩ := trodAll_cons hA
  obtain ⟨v1, vs1, d1, ds1, p_1, q_1, rfl, rfl, rfl, h1, r_1⟩ := trodAll_cons r_0
  obtain ⟨rfl, rfl, rfl⟩ := trodAll_nil r_1
  obtain rfl : args = #[v0, v1] := by cases args; simp_all
  obtain ⟨rfl, rfl⟩ := trodVars_none hV
  obtain ⟨A0, n0, k0, l0, rfl, b0, c0, e0, f0⟩ := open_rows Try.underlying31 Try.underlying22 Try.underlying5 (by kernel_rfl) (by kernel_rfl) (hval 0 31 v0 rfl rfl) h0
  obtain ⟨a1, rfl, rfl, rfl, w1⟩ := open_int Try.underlying3 (hval 1 3 v1 rfl rfl) h1
  refine (storeVersions_w A0 n0 k0 l0 b0 c0 a1 (in64_of_wf w1) W e0 f0).mono fun e W' ⟨he, hb⟩ => ?_
  subst he
  exact ⟨_, rfl, law_post laidOut (by kernel_rfl) rfl (by kernel_rfl) Try.underlying4 hW' rfl rfl rfl hb⟩

/-- The statement. -/
theorem storeVersions_proved : Rows.StoreVersionsSaid :=
  OpenClaim.holds_of_wide 4 Try.f4 rfl rfl rfl rfl rfl rfl rfl ⟨rfl, rfl, rfl, rfl, rfl⟩ rfl rfl rfl rfl rfl (by kernel_rfl) Try.func4 (by kernel_rfl)
    (of_decide_eq_true (by kernel_rfl)) (by unfold Func.isWrapper; first | (rw [if_pos (by decide +kernel)]; kernel_rfl) | (rw [if_neg (by decide +kernel)]; exact ⟨rfl, rfl⟩))
    (fun os started H enc _ => storeVersions_lifted os started H enc)
end Go.Proofs.Ytkopenemoddbbaa
