/- DiskFails holds: told any number, any row of puts and syncs. -/
import Derived.Test.YtlmjggbpophnfaaBos
import Derived.Test.YtlmjggbpophnfaaDiskL
namespace Go.Proofs.Ytlmjggbpophnfaa
open Go.ChangeShapes Go.WideShapes Go.ChangeAt Go.RowKit Go.Maps
attribute [local go_sem] Oper.semAt_some

/-- How often it fails still. -/
def FW (n : Int) (S : DS) (k : Nat) : Prop := if n < 0 then (if k = 0 then S.waits = 1 ∧ S.fails = -n else S.waits = 0 ∧ S.fails = max (-n - ((k : Int) - 1)) 0) else S.waits = 0 ∧ S.fails = max (n - k) 0
/-- It fails then. -/
def fal (n : Int) (k : Nat) : Prop := (k : Int) < n ∨ (n < 0 ∧ 1 ≤ k ∧ (k : Int) ≤ -n)
theorem fw_step {n : Int} {S : DS} {k : Nat} (h : FW n S k) : (S.asked.2 = true ↔ fal n k) ∧ FW n S.asked.1 (k + 1) := by
  unfold FW fal at *
  unfold DS.asked
  by_cases hn : n < 0
  · rw [if_pos hn] at h ⊢
    by_cases hk : k = 0
    · subst hk
      rw [if_pos rfl] at h
      obtain ⟨h1, h2⟩ := h
      rw [if_pos (by omega)]
      refine ⟨⟨fun h => (by cases h), fun h => (by omega)⟩, ?_⟩
      rw [if_neg (by omega)]
      dsimp only
      omega
    · rw [if_neg hk] at h
      obtain ⟨h1, h2⟩ := h
      rw [if_neg (by omega)]
      by_cases h3 : 0 < S.fails
      · rw [if_pos h3]
        refine ⟨⟨fun _ => by omega, fun _ => rfl⟩, ?_⟩
        rw [if_neg (by omega)]
        dsimp only
        omega
      · rw [if_neg h3]
        refine ⟨⟨fun h => (by cases h), fun h => (by omega)⟩, ?_⟩
        rw [if_neg (by omega)]
        dsimp only
        omega
  · rw [if_neg hn] at h ⊢
    obtain ⟨h1, h2⟩ := h
    rw [if_neg (by omega)]
    by_cases h3 : 0 < S.fails
    · rw [if_pos h3]
      refine ⟨⟨fun _ => by omega, fun _ => rfl⟩, ?_⟩
      dsimp only
      omega
    · rw [if_neg h3]
      refine ⟨⟨fun h => (by cases h), fun h => (by omega)⟩, ?_⟩
      dsimp only
      omega
theorem fw_start {n : Int} (hn : -5 ≤ n) (hn2 : n ≤ 5) (R : Int) : FW n ((newS R).fail n) 0 := by
  unfold FW DS.fail
  by_cases h : n < 0
  · rw [if_pos h, if_pos rfl, if_pos h]
    dsimp only
    omega
  · rw [if_neg h, if_neg h]
    dsimp only
    omega
theorem fits_all {S : DS} {k : Nat} {key : Int} {b : Bs} (h : DOk S k 2) (hb : b.length ≤ 2) (hk : k < 12) (hr : S.room = 1000) : S.fits key b = true := by
  obtain ⟨-, -, n3, n4⟩ := h.now
  unfold DS.fits
  have h1 := lenB_le (M := 2) (l := putL S.now (key, b)) (fun p hp => by
    rcases mem_putL hp with rfl | hp
    · exact hb
    · exact n4 p hp)
  have h2 := len_putL (key, b) S.now
  have h3 : (putL S.now (key, b)).length * 2 ≤ 26 := by omega
  rw [decide_eq_true_iff, hr]
  omega
theorem put_fal {n : Int} {S : DS} {k : Nat} {key : Int} {b : Bs} (hw : FW n S k) (h : DOk S k 2) (hb : b.length ≤ 2) (hk : k < 12) (hr : S.room = 1000) :
    FW n (S.put key b).1 (k + 1) ∧ (S.put key b).1.room = 1000 ∧ (fal n k → (S.put key b).2 = 9 ∧ (S.put key b).1.l = S.l) ∧ (¬ fal n k → (S.put key b).2 = 0) := by
  obtain ⟨h1, h2⟩ := fw_step hw
  obtain ⟨-, e2, e3⟩ := asked_same S
  unfold DS.put
  by_cases hf : fal n k
  · rw [if_pos (h1.2 hf)]
    exact ⟨h2, e3.trans hr, fun _ => ⟨rfl, e2⟩, fun h => absurd hf h⟩
  · rw [if_neg (fun e => hf (h1.1 e)), if_pos (fits_all h hb hk hr)]
    exact ⟨h2, e3.trans hr, fun h => absurd h hf, fun _ => rfl⟩
theorem sync_fal {n : Int} {S : DS} {k : Nat} (hw : FW n S k) (hr : S.room = 1000) :
    FW n S.sync.1 (k + 1) ∧ S.sync.1.room = 1000 ∧ (fal n k → S.sync.2 = 9 ∧ S.sync.1.l = S.l) ∧ (¬ fal n k → S.sync.2 = 0) := by
  obtain ⟨h1, h2⟩ := fw_step hw
  obtain ⟨-, e2, e3⟩ := asked_same S
  unfold DS.sync
  by_cases hf : fal n k
  · rw [if_pos (h1.2 hf)]
    exact ⟨h2, e3.trans hr, fun _ => ⟨rfl, e2⟩, fun h => absurd hf h⟩
  · rw [if_neg (fun e => hf (h1.1 e))]
    exact ⟨h2, e3.trans hr, fun h => absurd h hf, fun _ => rfl⟩
/-- Ahead of a round. -/
def FI (w wr : World) (d : Nat) (n : Int) (k : Nat) : Prop := ∃ M S, DiskIs wr w.heap.size M d S ∧ DOk S k 2 ∧ FW n S k ∧ S.room = 1000 ∧ Below w.heap.size w wr ∧ w.heap.size ≤ wr.heap.size
/-- Behind the call: what it is, how much is under way. -/
def FM (w wr : World) (d : Nat) (n : Int) (k : Nat) (m : Nat) (e : Int) : Prop := ∃ M S, DiskIs wr w.heap.size M d S ∧ DOk S (k + 1) 2 ∧ FW n S (k + 1) ∧ S.room = 1000 ∧ Below w.heap.size w wr ∧ w.heap.size ≤ wr.heap.size ∧ (fal n k → e = 9 ∧ lenB S.l = m) ∧ (¬ fal n k → e = 0)
set_option maxRecDepth 100000 in
set_option maxHeartbeats 8000000 in
theorem diskFails_w (a : Int) (ha : In64 a) (q : Option Addr) (n cap : Nat) (F : Nat → Bool) (hn : n ≤ cap) (hm : cap ≤ maxLen) (w : World) (hb : Bos w q n F) :
    Calls Try.prog 7 #[.int .i64 a, .slice q n cap] w fun r w' => r = .returned (.bool true) ∧ Below w.heap.size w w' := by
  have x1 := arI_lo a (m := 11) (by decide)
  have x2 := arI_hi a (m := 11) (by decide)
  obtain ⟨x, hx⟩ : ∃ x, x = arI a 11 - 5 := ⟨_, rfl⟩
  have HA := Lib.hid (around_c a 11 ha.1 ha.2 (by decide))
  rw [show arI a 11 = x + 5 by omega] at HA x1 x2
  clear hx ha
  have y1 : -9223372036854775808 ≤ x + 5 - 5 := by omega
  have y2 : x + 5 - 5 ≤ 9223372036854775807 := by omega
  have HB := Lib.hid hb
  have HM := Lib.hid (And.intro hn hm)
  have hq := Lib.hid (fun g o (e : q = some ⟨g, o, none⟩) (h0 : 0 < n) => hb.lt e h0)
  clear hb hn hm
  go_enter Try.func7, Try.ntmps7
  go_upto_region 2 with (go_at_call 12; refine (HA.out _).mono ?_; rintro e_ w1 ⟨rfl, rfl⟩)
  have e0 : x + 5 - 5 = x := by omega
  try simp only [e0]
  clear y1 y2 e0
  go_upto_region 3 with (go_at_call 9; refine (new_c 1000 w.heap.size w (Nat.le_refl _)).mono ?_; rintro e_ w1 ⟨d, M, rfl, D1, -, h1⟩)
  have hx64 : In64 x := ⟨by omega, by omega⟩
  have b1 := h1.size
  have H1 := Lib.hid h1
  clear h1
  go_upto_region 6 with (go_at_call 22; refine (fail_c w.heap.size d M _ w1 D1 x hx64).mono ?_; rintro e_ w2 ⟨rfl, t2⟩)
  obtain ⟨h2, b2, M2, D2⟩ := t2.out D1 b1
  have I2 : Hid (FI w w2 d x 0) := Lib.hid ⟨M2, _, D2, ((newS_ok 1000).fail (by omega)).mono (Nat.le_refl _) (by decide), fw_start (by omega) (by omega) 1000, by unfold DS.fail; split <;> rfl, H1.out.trans h2, b2⟩
  clear t2 h2 D2 D1 b1 b2 H1
  go_upto_region 7 with (fail)
  go_loopw [6] (fun i wr => ∃ k : Nat, k ≤ n ∧ k ≤ 12 ∧ i = .int .i64 k ∧ Hid (FI w wr d x k)) (fun i _ => n - (intOf i).toNat)
  case atStart => exact ⟨0, Nat.zero_le _, Nat.zero_le _, rfl, I2⟩
  case round =>
    obtain ⟨k, hk, hk12, rfl, I⟩ := hrel
    clear I2 hk12
    have hdone : ¬ ((k : Int) < n) ∨ ((k : Int) < n ∧ ¬ ((k : Int) < 12)) ∨ (k < n ∧ k < 12) := by omega
    rcases hdone with h1 | ⟨h1, h2⟩ | ⟨hlt, hk12⟩
    · obtain ⟨M, S, D, -, -, -, hB, hb⟩ := I.out
      have HBB := Lib.hid hB
      clear hB D
      go_wp2_with (go_at_call 17; refine (lives8_c _).mono ?_; rintro e_ w3 ⟨rfl, h3⟩)
      go_returns
      exact ⟨rfl, after HBB.out h3⟩
    · obtain ⟨M, S, D, -, -, -, hB, hb⟩ := I.out
      have HBB := Lib.hid hB
      clear hB D
      go_wp2_with (go_at_call 17; refine (lives8_c _).mono ?_; rintro e_ w3 ⟨rfl, h3⟩)
      go_returns
      exact ⟨rfl, after HBB.out h3⟩
    · have h1 : (k : Int) < n := by omega
      have h2 : (k : Int) < 12 := by omega
      obtain ⟨M, S, D, hok, hfw, hr, hB, hb⟩ := I.out
      obtain ⟨g, o, rfl, hcell⟩ := (HB.out.below hq.out hB) (by omega)
      have c0 := hcell k hlt
      have HOK := Lib.hid hok
      have HFW := Lib.hid hfw
      have HR := Lib.hid hr
      have HBB := Lib.hid hB
      have hk0 : (0 : Int) ≤ (k : Int) := by omega
      have ik : In64 (k : Int) := ⟨by omega, by omega⟩
      clear hok hfw hr hB hcell I
      cases hF : F k with
      | true =>
        rw [hF] at c0
        clear hF
        go_upto_region 14 with first
          | (go_at_call 13; refine (left_c w.heap.size d M S k wr D (HOK.out.mono (Nat.le_refl _) (by decide)) (by omega)).mono ?_; rintro e_ w4 ⟨rfl, h4⟩; replace c0 := (h4.cell (cell_lt c0)).trans c0)
          | (go_at_call 10; refine (put_lit w.heap.size d M S k _ ((D.on h4).on (bel_alloc _ _)) (HOK.out.mono (Nat.le_refl _) (by decide)) (by omega) k ik w4.heap.size [1, 2] (Blk.new' rfl) (by decide) (Nat.le_trans (Nat.le_trans hb h4.size) (bel_alloc _ _).size)).mono ?_; rintro e_ w5 ⟨rfl, t5⟩)
        obtain ⟨h5, b5, M5, D5⟩ := t5.out ((D.on h4).on (bel_alloc _ _)) (Nat.le_trans (Nat.le_trans hb h4.size) (bel_alloc _ _).size)
        obtain ⟨p1, p2, p3, p4⟩ := put_fal (key := (k : Int)) (b := [1, 2]) HFW.out HOK.out (Nat.le_refl _) hk12 HR.out
        have HZ : Hid (FM w w5 d x k (lenB S.l) (S.put (k : Int) [1, 2]).2) := Lib.hid ⟨M5, _, D5, HOK.out.put ik (Nat.le_refl _), p1, p2, ((after HBB.out h4).trans (bel_alloc' (Nat.le_trans hb h4.size) _)).trans h5, b5, fun h => ⟨(p3 h).1, by rw [(p3 h).2]⟩, p4⟩
        clear p1 p2 p3 p4 h5 b5 D5 t5 h4 D hb c0 HOK HFW HR HBB HB
        generalize (S.put (k : Int) [1, 2]).2 = E at HZ ⊢
        generalize lenB S.l = m at HZ ⊢
        have h5 : ((k : Int) < x) ∨ (¬ (k : Int) < x ∧ x < 0 ∧ 1 ≤ (k : Int) ∧ (k : Int) ≤ -x) ∨ (¬ (k : Int) < x ∧ ¬ x < 0) ∨ (¬ (k : Int) < x ∧ x < 0 ∧ ¬ 1 ≤ (k : Int)) ∨ (¬ (k : Int) < x ∧ x < 0 ∧ 1 ≤ (k : Int) ∧ ¬ (k : Int) ≤ -x) := by omega
        rcases h5 with g1 | ⟨g1, g2, g3, g4⟩ | ⟨g1, g2⟩ | ⟨g1, g2, g3⟩ | ⟨g1, g2, g3, g4⟩
        · have hf : fal x k := by unfold fal; omega
          obtain ⟨M6, S6, D6, ok6, fw6, r6, B6, b6, u6, -⟩ := HZ.out
          obtain ⟨rfl, rfl⟩ := u6 hf
          have HK := Lib.hid fw6
          have HR6 := Lib.hid r6
          have HB6 := Lib.hid B6
          clear HZ fw6 r6 B6 u6 hf
          go_wp2_with (go_at_call 13; refine (left_c w.heap.size d M6 S6 (k + 1) w5 D6 (ok6.mono (Nat.le_refl _) (by decide)) (by omega)).mono ?_; rintro e_ w6 ⟨rfl, h6⟩)
          exact ⟨⟨k + 1, hlt, hk12, by go_num, Lib.hid ⟨M6, S6, D6.on h6, ok6, HK.out, HR6.out, after HB6.out h6, Nat.le_trans b6 h6.size⟩⟩, next_less' hlt⟩
        · have hf : fal x k := by unfold fal; omega
          obtain ⟨M6, S6, D6, ok6, fw6, r6, B6, b6, u6, -⟩ := HZ.out
          obtain ⟨rfl, rfl⟩ := u6 hf
          have HK := Lib.hid fw6
          have HR6 := Lib.hid r6
          have HB6 := Lib.hid B6
          clear HZ fw6 r6 B6 u6 hf
          go_wp2_with (go_at_call 13; refine (left_c w.heap.size d M6 S6 (k + 1) w5 D6 (ok6.mono (Nat.le_refl _) (by decide)) (by omega)).mono ?_; rintro e_ w6 ⟨rfl, h6⟩)
          exact ⟨⟨k + 1, hlt, hk12, by go_num, Lib.hid ⟨M6, S6, D6.on h6, ok6, HK.out, HR6.out, after HB6.out h6, Nat.le_trans b6 h6.size⟩⟩, next_less' hlt⟩
        · have hf : ¬ fal x k := by unfold fal; omega
          obtain ⟨M6, S6, D6, ok6, fw6, r6, B6, b6, -, u6⟩ := HZ.out
          obtain rfl := u6 hf
          have HK := Lib.hid fw6
          have HR6 := Lib.hid r6
          have HB6 := Lib.hid B6
          clear HZ fw6 r6 B6 u6 hf
          go_wp2_with fail
          exact ⟨⟨k + 1, hlt, hk12, by go_num, Lib.hid ⟨M6, S6, D6, ok6, HK.out, HR6.out, HB6.out, b6⟩⟩, next_less' hlt⟩
        · have hf : ¬ fal x k := by unfold fal; omega
          obtain ⟨M6, S6, D6, ok6, fw6, r6, B6, b6, -, u6⟩ := HZ.out
          obtain rfl := u6 hf
          have HK := Lib.hid fw6
          have HR6 := Lib.hid r6
          have HB6 := Lib.hid B6
          clear HZ fw6 r6 B6 u6 hf
          go_wp2_with fail
          exact ⟨⟨k + 1, hlt, hk12, by go_num, Lib.hid ⟨M6, S6, D6, ok6, HK.out, HR6.out, HB6.out, b6⟩⟩, next_less' hlt⟩
        · have hf : ¬ fal x k := by unfold fal; omega
          obtain ⟨M6, S6, D6, ok6, fw6, r6, B6, b6, -, u6⟩ := HZ.out
          obtain rfl := u6 hf
          have HK := Lib.hid fw6
          have HR6 := Lib.hid r6
          have HB6 := Lib.hid B6
          clear HZ fw6 r6 B6 u6 hf
          go_wp2_with fail
          exact ⟨⟨k + 1, hlt, hk12, by go_num, Lib.hid ⟨M6, S6, D6, ok6, HK.out, HR6.out, HB6.out, b6⟩⟩, next_less' hlt⟩
      | false =>
        rw [hF] at c0
        clear hF
        go_upto_region 14 with first
          | (go_at_call 13; refine (left_c w.heap.size d M S k wr D (HOK.out.mono (Nat.le_refl _) (by decide)) (by omega)).mono ?_; rintro e_ w4 ⟨rfl, h4⟩; replace c0 := (h4.cell (cell_lt c0)).trans c0)
          | (go_at_call 19; refine (sync_c w.heap.size d M S k w4 (D.on h4) (HOK.out.mono (Nat.le_refl _) (by decide)) (by omega) (Nat.le_trans hb h4.size)).mono ?_; rintro e_ w5 ⟨rfl, t5⟩)
        obtain ⟨h5, b5, M5, D5⟩ := t5.out (D.on h4) (Nat.le_trans hb h4.size)
        obtain ⟨p1, p2, p3, p4⟩ := sync_fal HFW.out HR.out
        have HZ : Hid (FM w w5 d x k (lenB S.l) S.sync.2) := Lib.hid ⟨M5, _, D5, HOK.out.sync.mono (Nat.le_succ _) (Nat.le_refl _), p1, p2, (after HBB.out h4).trans h5, b5, fun h => ⟨(p3 h).1, by rw [(p3 h).2]⟩, p4⟩
        clear p1 p2 p3 p4 h5 b5 D5 t5 h4 D hb c0 HOK HFW HR HBB HB
        generalize S.sync.2 = E at HZ ⊢
        generalize lenB S.l = m at HZ ⊢
        have h5 : ((k : Int) < x) ∨ (¬ (k : Int) < x ∧ x < 0 ∧ 1 ≤ (k : Int) ∧ (k : Int) ≤ -x) ∨ (¬ (k : Int) < x ∧ ¬ x < 0) ∨ (¬ (k : Int) < x ∧ x < 0 ∧ ¬ 1 ≤ (k : Int)) ∨ (¬ (k : Int) < x ∧ x < 0 ∧ 1 ≤ (k : Int) ∧ ¬ (k : Int) ≤ -x) := by omega
        rcases h5 with g1 | ⟨g1, g2, g3, g4⟩ | ⟨g1, g2⟩ | ⟨g1, g2, g3⟩ | ⟨g1, g2, g3, g4⟩
        · have hf : fal x k := by unfold fal; omega
          obtain ⟨M6, S6, D6, ok6, fw6, r6, B6, b6, u6, -⟩ := HZ.out
          obtain ⟨rfl, rfl⟩ := u6 hf
          have HK := Lib.hid fw6
          have HR6 := Lib.hid r6
          have HB6 := Lib.hid B6
          clear HZ fw6 r6 B6 u6 hf
          go_wp2_with (go_at_call 13; refine (left_c w.heap.size d M6 S6 (k + 1) w5 D6 (ok6.mono (Nat.le_refl _) (by decide)) (by omega)).mono ?_; rintro e_ w6 ⟨rfl, h6⟩)
          exact ⟨⟨k + 1, hlt, hk12, by go_num, Lib.hid ⟨M6, S6, D6.on h6, ok6, HK.out, HR6.out, after HB6.out h6, Nat.le_trans b6 h6.size⟩⟩, next_less' hlt⟩
        · have hf : fal x k := by unfold fal; omega
          obtain ⟨M6, S6, D6, ok6, fw6, r6, B6, b6, u6, -⟩ := HZ.out
          obtain ⟨rfl, rfl⟩ := u6 hf
          have HK := Lib.hid fw6
          have HR6 := Lib.hid r6
          have HB6 := Lib.hid B6
          clear HZ fw6 r6 B6 u6 hf
          go_wp2_with (go_at_call 13; refine (left_c w.heap.size d M6 S6 (k + 1) w5 D6 (ok6.mono (Nat.le_refl _) (by decide)) (by omega)).mono ?_; rintro e_ w6 ⟨rfl, h6⟩)
          exact ⟨⟨k + 1, hlt, hk12, by go_num, Lib.hid ⟨M6, S6, D6.on h6, ok6, HK.out, HR6.out, after HB6.out h6, Nat.le_trans b6 h6.size⟩⟩, next_less' hlt⟩
        · have hf : ¬ fal x k := by unfold fal; omega
          obtain ⟨M6, S6, D6, ok6, fw6, r6, B6, b6, -, u6⟩ := HZ.out
          obtain rfl := u6 hf
          have HK := Lib.hid fw6
          have HR6 := Lib.hid r6
          have HB6 := Lib.hid B6
          clear HZ fw6 r6 B6 u6 hf
          go_wp2_with fail
          exact ⟨⟨k + 1, hlt, hk12, by go_num, Lib.hid ⟨M6, S6, D6, ok6, HK.out, HR6.out, HB6.out, b6⟩⟩, next_less' hlt⟩
        · have hf : ¬ fal x k := by unfold fal; omega
          obtain ⟨M6, S6, D6, ok6, fw6, r6, B6, b6, -, u6⟩ := HZ.out
          obtain rfl := u6 hf
          have HK := Lib.hid fw6
          have HR6 := Lib.hid r6
          have HB6 := Lib.hid B6
          clear HZ fw6 r6 B6 u6 hf
          go_wp2_with fail
          exact ⟨⟨k + 1, hlt, hk12, by go_num, Lib.hid ⟨M6, S6, D6, ok6, HK.out, HR6.out, HB6.out, b6⟩⟩, next_less' hlt⟩
        · have hf : ¬ fal x k := by unfold fal; omega
          obtain ⟨M6, S6, D6, ok6, fw6, r6, B6, b6, -, u6⟩ := HZ.out
          obtain rfl := u6 hf
          have HK := Lib.hid fw6
          have HR6 := Lib.hid r6
          have HB6 := Lib.hid B6
          clear HZ fw6 r6 B6 u6 hf
          go_wp2_with fail
          exact ⟨⟨k + 1, hlt, hk12, by go_num, Lib.hid ⟨M6, S6, D6, ok6, HK.out, HR6.out, HB6.out, b6⟩⟩, next_less' hlt⟩
set_option maxRecDepth 100000 in
theorem diskFails_lifted (os : Os) (started : os.Started) (H : Type) (enc : TypeId × Value → H) :
    ReturnsInHanded {} Try.checked os 7 .any (Rows.diskFailsSpec.pre6 enc Try.prog Try.f7 Rows.diskFailsRow.domain false) (Rows.diskFailsSpec.post enc Try.prog Try.f7 false true false false) := by
  refine returnsInHanded_of_change (C := Try.checked) own started (by kernel_rfl) Try.func7
    (ChangeSpec.witness6 (enc := enc) (C := Try.checked) false ⟨#[], #[.int .i64 0, .slice none 0 0], []⟩ 8 (by kernel_rfl) (by kernel_rfl) (by kernel_rfl) (by kernel_rfl)) ?_
  intro W base args ds gs before hval0 hW hcnd hsz
  have hval : ∀ (j : Nat) t v, Try.f7.params[j]? = some t → args[j]? = some v → Value.okWide Try.prog W .any base t v := hval0
  have hW' := hW
  obtain ⟨p, q, hA0, hV, rfl, hfz, hnd⟩ := hW
  have hA : DataW.TrodAll enc Try.prog W 0 (fun _ => true) true Try.f7.params.toList args.toList ds p := hA0
  rw [Try.params7] at hA hval
  obtain ⟨v0, vs0, d0, ds0, p_0, q_0, hargs, rfl, rfl, h0, r_0⟩ := trodAll_cons hA
  obtain ⟨v1, vs1, d1, ds1, p_1, q_1, rfl, rfl, rfl, h1, r_1⟩ := trodAll_cons r_0
  obtain ⟨rfl, rfl, rfl⟩ := trodAll_nil r_1
  obtain rfl : args = #[v0, v1] := by cases args; simp_all
  obtain ⟨rfl, rfl⟩ := trodVars_none hV
  obtain ⟨a0, rfl, rfl, rfl, w0⟩ := open_int Try.underlying3 (hval 0 3 v0 rfl rfl) h0
  obtain ⟨A1, n1, k1, l1, rfl, b1, c1, e1⟩ := open_bools Try.underlying50 Try.underlying4 (by kernel_rfl) (hval 1 50 v1 rfl rfl) h1
  refine (diskFails_w a0 (in64_of_wf w0) A1 n1 k1 l1 b1 c1 W e1).mono fun e W' ⟨he, hb⟩ => ?_
  subst he
  exact ⟨_, rfl, law_post laidOut (by kernel_rfl) rfl (by kernel_rfl) Try.underlying4 hW' rfl rfl rfl hb⟩

/-- The statement. -/
theorem diskFails_proved : Rows.DiskFailsSaid :=
  OpenClaim.holds_of_wide 7 Try.f7 rfl rfl rfl rfl rfl rfl rfl ⟨rfl, rfl, rfl, rfl, rfl⟩ rfl rfl rfl rfl rfl (by kernel_rfl) Try.func7 (by kernel_rfl)
    (of_decide_eq_true (by kernel_rfl)) (by unfold Func.isWrapper; first | (rw [if_pos (by decide +kernel)]; kernel_rfl) | (rw [if_neg (by decide +kernel)]; exact ⟨rfl, rfl⟩))
    (fun os started H enc _ => diskFails_lifted os started H enc)
end Go.Proofs.Ytlmjggbpophnfaa
