/- DiskWhole holds: for any blobs, any number of bytes more. -/
import Derived.Test.YtlmjggbpophnfaaDiskC
namespace Go.Proofs.Ytlmjggbpophnfaa
open Go.ChangeShapes Go.WideShapes Go.ChangeAt Go.RowKit Go.Maps
attribute [local go_sem] Oper.semAt_some

theorem Turn.other {w w' : World} {base d d2 : Nat} {M M2 : Nat → Prop} {S S' S2 : DS} (h : Turn w base M d S' w') (h0 : DiskIs w base M d S) (h2 : DiskIs w base M2 d2 S2) (hd : ∀ b, M b → ¬ M2 b) :
    DiskIs w' base M2 d2 S2 ∧ ∃ M', DiskIs w' base M' d S' ∧ ∀ b, M' b → ¬ M2 b := by
  obtain ⟨M', h1, hM, hk⟩ := h
  refine ⟨h2.kept hk (fun b hb hm => hd b hm hb) (fun b hb hm => ?_), M', h1, fun b hb hm => ?_⟩
  · rcases hb with hb | ⟨cur, hb⟩
    · have := (h0.mine hm).1; omega
    · rcases (h0.mine hm).2.2 _ _ hb with e | e <;> revert e <;> decide
  · rcases hM b hb with h | h
    · exact hd b h hm
    · have := (h2.mine hm).2.1; omega
/-- Two disks that are alike. -/
def Two (wr : World) (base d1 d2 : Nat) (S : DS) : Prop := ∃ M1 M2, DiskIs wr base M1 d1 S ∧ DiskIs wr base M2 d2 S ∧ ∀ b, M1 b → ¬ M2 b
theorem Two.on {w w' : World} {base d1 d2 : Nat} {S : DS} (h : Two w base d1 d2 S) (hb : Below w.heap.size w w') : Two w' base d1 d2 S := by
  obtain ⟨M1, M2, h1, h2, h3⟩ := h
  exact ⟨M1, M2, h1.on hb, h2.on hb, h3⟩
/-- Between the two calls. -/
theorem Two.step {w w' w'' : World} {base d1 d2 : Nat} {M1 M2 : Nat → Prop} {S S' : DS} (h1 : DiskIs w base M1 d1 S) (h2 : DiskIs w base M2 d2 S) (hd : ∀ b, M1 b → ¬ M2 b) (hb : base ≤ w.heap.size) (t : Turn w base M1 d1 S' w') (t2 : Turn w' base M2 d2 S' w'') :
    Two w'' base d1 d2 S' ∧ Below base w w'' ∧ base ≤ w''.heap.size := by
  obtain ⟨h3, M1', h4, h5⟩ := t.other h1 h2 hd
  obtain ⟨h6, M2', h7, h8⟩ := t2.other h3 h4 (fun b hb hm => h5 b hm hb)
  have b1 := t.below h1 hb
  have s1 := Nat.le_trans hb b1.size
  have b2 := t2.below h3 s1
  exact ⟨⟨M1', M2', h6, h7, fun b hb hm => h8 b hm hb⟩, b1.trans b2, Nat.le_trans s1 b2.size⟩
theorem crash_sync {S : DS} {n : Int} (hw : S.waits = 0) (hf : S.fails = 0) (h : (lenB S.l : Int) ≤ n) : S.crash n = ({ S with safe := S.now, l := [] }, 0) := by
  unfold DS.crash
  have e : keepB S n = lenB S.l := by unfold keepB; omega
  rw [e, crash_all (Nat.le_refl _), Nat.sub_self]
  obtain ⟨r, f, wt, s, l⟩ := S
  dsimp only at hw hf
  subst hw hf
  rfl
/-- Ahead of a round. -/
def WI (w wr : World) (d1 d2 : Nat) (S : DS) (k : Nat) : Prop := Two wr w.heap.size d1 d2 S ∧ DOk S k 20 ∧ S.waits = 0 ∧ S.fails = 0 ∧ S.room = 10000 ∧ Below w.heap.size w wr ∧ w.heap.size ≤ wr.heap.size
set_option maxRecDepth 100000 in
set_option maxHeartbeats 8000000 in
theorem diskWhole_w (q : Option Addr) (n cap : Nat) (F : Nat → SL) (hn : n ≤ cap) (hm : cap ≤ maxLen) (a : Int) (ha : In64 a) (w : World) (hb : Sls w q n F) (hg : ∀ i, i < n → GoodS w w.heap.size (F i)) :
    Calls Try.prog 5 #[.slice q n cap, .int .i64 a] w fun r w' => r = .returned (.bool true) ∧ Below w.heap.size w w' := by
  have x1 := arI_lo a (m := 100) (by decide)
  have x2 := arI_hi a (m := 100) (by decide)
  have HA := Lib.hid (around_c a 100 ha.1 ha.2 (by decide))
  generalize arI a 100 = r at HA x1 x2
  clear ha
  have HB := Lib.hid hb
  have HG := Lib.hid hg
  have HM := Lib.hid (And.intro hn hm)
  clear hb hn hm hg
  go_enter Try.func5, Try.ntmps5
  go_upto_region 2 with (go_at_call 9; refine (new_c 10000 w.heap.size w (Nat.le_refl _)).mono ?_; rintro e_ w1 ⟨d1, M1, rfl, D1, -, h1⟩)
  have HH1 := Lib.hid h1
  have s1 := h1.size
  clear h1
  go_upto_region 6 with (go_at_call 9; refine (new_c 10000 w.heap.size w1 s1).mono ?_; rintro e_ w2 ⟨d2, M2, rfl, D2, n2, h2⟩)
  have I1 : Hid (WI w w2 d1 d2 (newS 10000) 0) := Lib.hid ⟨⟨M1, M2, D1.on h2, D2, fun b hb hm => by have := (D1.mine hb).2.1; have := n2 b hm; omega⟩, (newS_ok 10000).mono (Nat.le_refl _) (by decide), rfl, rfl, rfl, after HH1.out h2, Nat.le_trans s1 h2.size⟩
  clear D1 D2 n2 h2 HH1
  go_loopw [7] (fun i wr => ∃ (k : Nat) (S : DS), k ≤ n ∧ k ≤ 8 ∧ i = .int .i64 k ∧ Hid (WI w wr d1 d2 S k)) (fun i _ => n - (intOf i).toNat)
  case atStart => exact ⟨0, _, Nat.zero_le _, Nat.zero_le _, rfl, I1⟩
  case round =>
    obtain ⟨k, S, hk, hk12, rfl, I⟩ := hrel
    clear I1
    have hdone : ¬ ((k : Int) < n) ∨ ((k : Int) < n ∧ ¬ ((k : Int) < 8)) ∨ (k < n ∧ k < 8) := by omega
    rcases hdone with h1 | ⟨h1, h2⟩ | ⟨hlt, hk12⟩
    · obtain ⟨⟨M1, M2, D1, D2, hd⟩, hok, hw, hf, hr, hB, hb⟩ := I.out
      have hle : lenB S.l ≤ 160 := by
        have e := lenB_le (M := 20) fun p hp => hok.size p (List.mem_append.2 (.inr hp))
        have e2 := hok.many
        omega
      have i1 : -9223372036854775808 ≤ (lenB S.l : Int) + r := by omega
      have i2 : (lenB S.l : Int) + r ≤ 9223372036854775807 := by omega
      have hcr := fun W (D : DiskIs W w.heap.size M1 d1 S) => crash_c w.heap.size d1 M1 S k W D (hok.mono (Nat.le_refl _) (by decide)) (by omega) ((lenB S.l : Int) + r)
      rw [crash_sync hw hf (by omega)] at hcr
      have hsy := fun W (D : DiskIs W w.heap.size M2 d2 S) (hb : w.heap.size ≤ W.heap.size) => sync_c w.heap.size d2 M2 S k W D (hok.mono (Nat.le_refl _) (by decide)) (by omega) hb
      rw [dsync_ok hw hf] at hsy
      have hok' := hok.sync
      rw [dsync_ok hw hf] at hok'
      dsimp only at hcr hsy hok'
      generalize ({ S with safe := S.now, l := [] } : DS) = S' at hcr hsy hok'
      have HCR := Lib.hid hcr
      have HSY := Lib.hid hsy
      have HR := Lib.hid hok'
      have HLF := Lib.hid (left_c w.heap.size d1 M1 S k wr D1 (hok.mono (Nat.le_refl _) (by decide)) (by omega))
      have HBB := Lib.hid hB
      have HD1 := Lib.hid D1
      have HD2 := Lib.hid D2
      have HDD := Lib.hid hd
      clear hcr hsy hok' hB D1 D2 hd hok hw hf hr I
      go_upto_region 14 with first
        | (go_at_call 13; refine HLF.out.mono ?_; rintro e_ w3 ⟨rfl, h3⟩; have H3 := Lib.hid h3; clear h3)
        | (go_at_call 12; refine (HA.out _).mono ?_; rintro e_ w3 ⟨rfl, rfl⟩)
        | (go_at_call 14; refine (HCR.out _ (HD1.out.on H3.out)).mono ?_; rintro e_ w4 ⟨rfl, t4⟩; have HT4 := Lib.hid t4; clear t4; have HD4 := Lib.hid (HT4.out.other (HD1.out.on H3.out) (HD2.out.on H3.out) HDD.out).1; have s4 := Lib.hid (Nat.le_trans (Nat.le_trans hb H3.out.size) (HT4.out.below (HD1.out.on H3.out) (Nat.le_trans hb H3.out.size)).size))
        | (go_at_call 19; refine (HSY.out _ HD4.out s4.out).mono ?_; rintro e_ w5 ⟨rfl, t5⟩; have HT5 := Lib.hid t5; clear t5)
      obtain ⟨tw, hbw, bw⟩ := Two.step (HD1.out.on H3.out) (HD2.out.on H3.out) HDD.out (Nat.le_trans hb H3.out.size) HT4.out HT5.out
      have H5 := Lib.hid ((HBB.out.trans (H3.out.mono hb)).trans hbw)
      have TW := Lib.hid tw
      clear tw hbw HT4 HT5 HD4 s4 HSY HCR HLF HD1 HD2 HDD HBB
      go_loopw [9] (fun i wr => ∃ j : Nat, j ≤ 5 ∧ i = .int .i64 j ∧ Hid (Below w5.heap.size w5 wr)) (fun i _ => 5 - (intOf i).toNat)
      case atStart => exact ⟨0, Nat.zero_le _, rfl, Lib.hid (Below.refl _ _)⟩
      case round =>
        obtain ⟨j, hj, rfl, HW⟩ := hrel
        obtain ⟨M5, M6, D5, D6, -⟩ := TW.out.on HW.out
        by_cases hlt : j < 5
        · have h1 : (j : Int) < 5 := by omega
          have hg1 := get_c w.heap.size d1 M5 S' k wr D5 (HR.out.mono (Nat.le_refl _) (by decide)) (by omega) j ⟨by omega, by omega⟩
          have hg2 := fun W (hW : Below wr.heap.size wr W) => get_c w.heap.size d2 M6 S' k W (D6.on hW) (HR.out.mono (Nat.le_refl _) (by decide)) (by omega) j ⟨by omega, by omega⟩
          generalize (S'.get (j : Int)).isSome = bb at hg1 hg2
          generalize (S'.get (j : Int)).getD [] = vv at hg1 hg2
          have HG1 := Lib.hid hg1
          have HG2 := Lib.hid hg2
          clear hg1 hg2 D5 D6
          cases bb with
          | true =>
            go_upto_region 18 with first
              | (go_at_call 15; refine HG1.out.mono ?_; rintro e_ w6 ⟨⟨sq6, sn6, sc6⟩, rfl, hg6, hr6, h6⟩; simp only [slV]; first | (have HG3 := Lib.hid (HG2.out _ h6); have HG6 := Lib.hid (And.intro hg6 hr6); have H6 := Lib.hid h6; clear HG1 HG2 hg6 hr6 h6; have HG1 := HG3; clear HG3) | (have HG7 := Lib.hid (And.intro hg6 hr6); have H7 := Lib.hid h6; clear hg6 hr6 h6))
            have hsm := same_s (HG6.out.1.on H7.out).1 HG7.out.1 (by rw [(HG6.out.1.on H7.out).2, HG6.out.2, HG7.out.2])
            simp only [slV] at hsm
            have HSM := Lib.hid hsm
            clear hsm
            go_wp2_with (go_at_call 16; refine HSM.out.mono ?_; rintro e_ w7 ⟨rfl, rfl⟩)
            exact ⟨⟨j + 1, hlt, by go_num, Lib.hid (after (after HW.out H6.out) H7.out)⟩, next_less' hlt⟩
          | false =>
            go_upto_region 18 with first
              | (go_at_call 15; refine HG1.out.mono ?_; rintro e_ w6 ⟨⟨sq6, sn6, sc6⟩, rfl, hg6, hr6, h6⟩; simp only [slV]; first | (have HG3 := Lib.hid (HG2.out _ h6); have HG6 := Lib.hid (And.intro hg6 hr6); have H6 := Lib.hid h6; clear HG1 HG2 hg6 hr6 h6; have HG1 := HG3; clear HG3) | (have HG7 := Lib.hid (And.intro hg6 hr6); have H7 := Lib.hid h6; clear hg6 hr6 h6))
            have hsm := same_s (HG6.out.1.on H7.out).1 HG7.out.1 (by rw [(HG6.out.1.on H7.out).2, HG6.out.2, HG7.out.2])
            simp only [slV] at hsm
            have HSM := Lib.hid hsm
            clear hsm
            go_wp2_with (go_at_call 16; refine HSM.out.mono ?_; rintro e_ w7 ⟨rfl, rfl⟩)
            exact ⟨⟨j + 1, hlt, by go_num, Lib.hid (after (after HW.out H6.out) H7.out)⟩, next_less' hlt⟩
        · obtain rfl : j = 5 := by omega
          have h1 : ¬ ((5 : Nat) : Int) < 5 := by omega
          have hl1 := len_c w.heap.size d1 M5 S' k wr D5 (HR.out.mono (Nat.le_refl _) (by decide)) (by omega)
          have hl2 := fun W (hW : Below wr.heap.size wr W) => len_c w.heap.size d2 M6 S' k W (D6.on hW) (HR.out.mono (Nat.le_refl _) (by decide)) (by omega)
          generalize lenB S'.now = nn at hl1 hl2
          have HG1 := Lib.hid hl1
          have HG2 := Lib.hid hl2
          clear hl1 hl2 D5 D6
          go_wp2_with first
            | (go_at_call 18; refine HG1.out.mono ?_; rintro e_ w6 ⟨rfl, h6⟩; first | (have HG3 := Lib.hid (HG2.out _ h6); have H6 := Lib.hid h6; clear HG1 HG2 h6; have HG1 := HG3; clear HG3) | (have H7 := Lib.hid h6; clear h6))
            | (go_at_call 17; refine (lives8_c _).mono ?_; rintro e_ w8 ⟨rfl, h8⟩)
          go_returns
          exact ⟨rfl, after (after (after (H5.out.trans (HW.out.mono bw)) H6.out) H7.out) h8⟩
    · obtain ⟨⟨M1, M2, D1, D2, hd⟩, hok, hw, hf, hr, hB, hb⟩ := I.out
      have hle : lenB S.l ≤ 160 := by
        have e := lenB_le (M := 20) fun p hp => hok.size p (List.mem_append.2 (.inr hp))
        have e2 := hok.many
        omega
      have i1 : -9223372036854775808 ≤ (lenB S.l : Int) + r := by omega
      have i2 : (lenB S.l : Int) + r ≤ 9223372036854775807 := by omega
      have hcr := fun W (D : DiskIs W w.heap.size M1 d1 S) => crash_c w.heap.size d1 M1 S k W D (hok.mono (Nat.le_refl _) (by decide)) (by omega) ((lenB S.l : Int) + r)
      rw [crash_sync hw hf (by omega)] at hcr
      have hsy := fun W (D : DiskIs W w.heap.size M2 d2 S) (hb : w.heap.size ≤ W.heap.size) => sync_c w.heap.size d2 M2 S k W D (hok.mono (Nat.le_refl _) (by decide)) (by omega) hb
      rw [dsync_ok hw hf] at hsy
      have hok' := hok.sync
      rw [dsync_ok hw hf] at hok'
      dsimp only at hcr hsy hok'
      generalize ({ S with safe := S.now, l := [] } : DS) = S' at hcr hsy hok'
      have HCR := Lib.hid hcr
      have HSY := Lib.hid hsy
      have HR := Lib.hid hok'
      have HLF := Lib.hid (left_c w.heap.size d1 M1 S k wr D1 (hok.mono (Nat.le_refl _) (by decide)) (by omega))
      have HBB := Lib.hid hB
      have HD1 := Lib.hid D1
      have HD2 := Lib.hid D2
      have HDD := Lib.hid hd
      clear hcr hsy hok' hB D1 D2 hd hok hw hf hr I
      go_upto_region 14 with first
        | (go_at_call 13; refine HLF.out.mono ?_; rintro e_ w3 ⟨rfl, h3⟩; have H3 := Lib.hid h3; clear h3)
        | (go_at_call 12; refine (HA.out _).mono ?_; rintro e_ w3 ⟨rfl, rfl⟩)
        | (go_at_call 14; refine (HCR.out _ (HD1.out.on H3.out)).mono ?_; rintro e_ w4 ⟨rfl, t4⟩; have HT4 := Lib.hid t4; clear t4; have HD4 := Lib.hid (HT4.out.other (HD1.out.on H3.out) (HD2.out.on H3.out) HDD.out).1; have s4 := Lib.hid (Nat.le_trans (Nat.le_trans hb H3.out.size) (HT4.out.below (HD1.out.on H3.out) (Nat.le_trans hb H3.out.size)).size))
        | (go_at_call 19; refine (HSY.out _ HD4.out s4.out).mono ?_; rintro e_ w5 ⟨rfl, t5⟩; have HT5 := Lib.hid t5; clear t5)
      obtain ⟨tw, hbw, bw⟩ := Two.step (HD1.out.on H3.out) (HD2.out.on H3.out) HDD.out (Nat.le_trans hb H3.out.size) HT4.out HT5.out
      have H5 := Lib.hid ((HBB.out.trans (H3.out.mono hb)).trans hbw)
      have TW := Lib.hid tw
      clear tw hbw HT4 HT5 HD4 s4 HSY HCR HLF HD1 HD2 HDD HBB
      go_loopw [9] (fun i wr => ∃ j : Nat, j ≤ 5 ∧ i = .int .i64 j ∧ Hid (Below w5.heap.size w5 wr)) (fun i _ => 5 - (intOf i).toNat)
      case atStart => exact ⟨0, Nat.zero_le _, rfl, Lib.hid (Below.refl _ _)⟩
      case round =>
        obtain ⟨j, hj, rfl, HW⟩ := hrel
        obtain ⟨M5, M6, D5, D6, -⟩ := TW.out.on HW.out
        by_cases hlt : j < 5
        · have h1 : (j : Int) < 5 := by omega
          have hg1 := get_c w.heap.size d1 M5 S' k wr D5 (HR.out.mono (Nat.le_refl _) (by decide)) (by omega) j ⟨by omega, by omega⟩
          have hg2 := fun W (hW : Below wr.heap.size wr W) => get_c w.heap.size d2 M6 S' k W (D6.on hW) (HR.out.mono (Nat.le_refl _) (by decide)) (by omega) j ⟨by omega, by omega⟩
          generalize (S'.get (j : Int)).isSome = bb at hg1 hg2
          generalize (S'.get (j : Int)).getD [] = vv at hg1 hg2
          have HG1 := Lib.hid hg1
          have HG2 := Lib.hid hg2
          clear hg1 hg2 D5 D6
          cases bb with
          | true =>
            go_upto_region 18 with first
              | (go_at_call 15; refine HG1.out.mono ?_; rintro e_ w6 ⟨⟨sq6, sn6, sc6⟩, rfl, hg6, hr6, h6⟩; simp only [slV]; first | (have HG3 := Lib.hid (HG2.out _ h6); have HG6 := Lib.hid (And.intro hg6 hr6); have H6 := Lib.hid h6; clear HG1 HG2 hg6 hr6 h6; have HG1 := HG3; clear HG3) | (have HG7 := Lib.hid (And.intro hg6 hr6); have H7 := Lib.hid h6; clear hg6 hr6 h6))
            have hsm := same_s (HG6.out.1.on H7.out).1 HG7.out.1 (by rw [(HG6.out.1.on H7.out).2, HG6.out.2, HG7.out.2])
            simp only [slV] at hsm
            have HSM := Lib.hid hsm
            clear hsm
            go_wp2_with (go_at_call 16; refine HSM.out.mono ?_; rintro e_ w7 ⟨rfl, rfl⟩)
            exact ⟨⟨j + 1, hlt, by go_num, Lib.hid (after (after HW.out H6.out) H7.out)⟩, next_less' hlt⟩
          | false =>
            go_upto_region 18 with first
              | (go_at_call 15; refine HG1.out.mono ?_; rintro e_ w6 ⟨⟨sq6, sn6, sc6⟩, rfl, hg6, hr6, h6⟩; simp only [slV]; first | (have HG3 := Lib.hid (HG2.out _ h6); have HG6 := Lib.hid (And.intro hg6 hr6); have H6 := Lib.hid h6; clear HG1 HG2 hg6 hr6 h6; have HG1 := HG3; clear HG3) | (have HG7 := Lib.hid (And.intro hg6 hr6); have H7 := Lib.hid h6; clear hg6 hr6 h6))
            have hsm := same_s (HG6.out.1.on H7.out).1 HG7.out.1 (by rw [(HG6.out.1.on H7.out).2, HG6.out.2, HG7.out.2])
            simp only [slV] at hsm
            have HSM := Lib.hid hsm
            clear hsm
            go_wp2_with (go_at_call 16; refine HSM.out.mono ?_; rintro e_ w7 ⟨rfl, rfl⟩)
            exact ⟨⟨j + 1, hlt, by go_num, Lib.hid (after (after HW.out H6.out) H7.out)⟩, next_less' hlt⟩
        · obtain rfl : j = 5 := by omega
          have h1 : ¬ ((5 : Nat) : Int) < 5 := by omega
          have hl1 := len_c w.heap.size d1 M5 S' k wr D5 (HR.out.mono (Nat.le_refl _) (by decide)) (by omega)
          have hl2 := fun W (hW : Below wr.heap.size wr W) => len_c w.heap.size d2 M6 S' k W (D6.on hW) (HR.out.mono (Nat.le_refl _) (by decide)) (by omega)
          generalize lenB S'.now = nn at hl1 hl2
          have HG1 := Lib.hid hl1
          have HG2 := Lib.hid hl2
          clear hl1 hl2 D5 D6
          go_wp2_with first
            | (go_at_call 18; refine HG1.out.mono ?_; rintro e_ w6 ⟨rfl, h6⟩; first | (have HG3 := Lib.hid (HG2.out _ h6); have H6 := Lib.hid h6; clear HG1 HG2 h6; have HG1 := HG3; clear HG3) | (have H7 := Lib.hid h6; clear h6))
            | (go_at_call 17; refine (lives8_c _).mono ?_; rintro e_ w8 ⟨rfl, h8⟩)
          go_returns
          exact ⟨rfl, after (after (after (H5.out.trans (HW.out.mono bw)) H6.out) H7.out) h8⟩
    · have h1 : (k : Int) < n := by omega
      have h2 : (k : Int) < 8 := by omega
      have hk0 : (0 : Int) ≤ (k : Int) := by omega
      obtain ⟨⟨M1, M2, D1, D2, hd⟩, hok, hw, hf, hr, hB, hb⟩ := I.out
      obtain ⟨g, o, sq, sn, sc, no, rfl, c0, hno, hG, hfew⟩ := row_at HB.out HG.out hB hlt
      have hlen := hG.len
      dsimp only at hlen
      have hput := put_x D1 (hok.mono (Nat.le_refl _) (by decide)) (by omega) (k := ((k % 4 : Nat) : Int)) ⟨by omega, by omega⟩ hG (by dsimp only; omega) hb
      have e1 := dput_ok (key := ((k % 4 : Nat) : Int)) (b := rdB wr (sq, no, sc)) hw hf (fits_le hok (by rw [hlen]; exact hno) (by rw [hr]; omega))
      have hok' := hok.put (k := ((k % 4 : Nat) : Int)) (b := rdB wr (sq, no, sc)) ⟨by omega, by omega⟩ (by rw [hlen]; exact hno)
      rw [e1] at hput hok'
      dsimp only at hput hok'
      have hS' : (({ S with l := S.l ++ [(((k % 4 : Nat) : Int), rdB wr (sq, no, sc))] } : DS).waits = 0 ∧ ({ S with l := S.l ++ [(((k % 4 : Nat) : Int), rdB wr (sq, no, sc))] } : DS).fails = 0 ∧ ({ S with l := S.l ++ [(((k % 4 : Nat) : Int), rdB wr (sq, no, sc))] } : DS).room = 10000) := ⟨hw, hf, hr⟩
      generalize ({ S with l := S.l ++ [(((k % 4 : Nat) : Int), rdB wr (sq, no, sc))] } : DS) = S' at hput hok' e1 hS'
      have hput2 := fun wA M2 (t1 : Turn wr w.heap.size M1 d1 S' wA) (D2 : DiskIs wA w.heap.size M2 d2 S) => by
        have G2 := t1.good D1 hG
        have := put_x D2 (hok.mono (Nat.le_refl _) (by decide)) (by omega) (k := ((k % 4 : Nat) : Int)) ⟨by omega, by omega⟩ G2.1 (by dsimp only; omega) (Nat.le_trans hb (t1.below D1 hb).size)
        rw [G2.2, e1] at this
        dsimp only at this
        exact this
      have HP1 := Lib.hid hput
      have HP2 := Lib.hid hput2
      have HF := Lib.hid hfew
      have HR := Lib.hid hok'
      have HS' := Lib.hid hS'
      have HBB := Lib.hid hB
      have HD1 := Lib.hid D1
      have HD2 := Lib.hid D2
      have HDD := Lib.hid hd
      clear hput hput2 hfew hok' hS' hB D1 D2 hd hok hw hf hr hG hlen e1 I
      go_wp2_with first
        | (go_at_call 11; refine HF.out.mono ?_; rintro e_ w2 ⟨rfl, rfl⟩)
        | (go_at_call 10; refine (HP1.out _ (rem4 (by first | exact .inl rfl | exact .inr rfl))).mono ?_; rintro e_ w3 ⟨rfl, t3⟩; first | (obtain ⟨D4, -⟩ := t3.other HD1.out HD2.out HDD.out; have HP4 := Lib.hid (HP2.out _ _ t3 D4); have HT3 := Lib.hid t3; clear HP1 HP2 t3 D4; have HP1 := HP4; clear HP4) | (have HT5 := Lib.hid t3; clear t3))
      obtain ⟨tw, hbw, bw⟩ := Two.step HD1.out HD2.out HDD.out hb HT3.out HT5.out
      exact ⟨⟨k + 1, S', hlt, hk12, by go_num, Lib.hid ⟨tw, HR.out, HS'.out.1, HS'.out.2.1, HS'.out.2.2, HBB.out.trans hbw, bw⟩⟩, next_less' hlt⟩
set_option maxRecDepth 100000 in
theorem diskWhole_lifted (os : Os) (started : os.Started) (H : Type) (enc : TypeId × Value → H) :
    ReturnsInHanded {} Try.checked os 5 .any (Rows.diskWholeSpec.pre6 enc Try.prog Try.f5 Rows.diskWholeRow.domain false) (Rows.diskWholeSpec.post enc Try.prog Try.f5 false true false false) := by
  refine returnsInHanded_of_change (C := Try.checked) own started (by kernel_rfl) Try.func5
    (ChangeSpec.witness6 (enc := enc) (C := Try.checked) false ⟨#[], #[.slice none 0 0, .int .i64 0], []⟩ 8 (by kernel_rfl) (by kernel_rfl) (by kernel_rfl) (by kernel_rfl)) ?_
  intro W base args ds gs before hval0 hW hcnd hsz
  have hval : ∀ (j : Nat) t v, Try.f5.params[j]? = some t → args[j]? = some v → Value.okWide Try.prog W .any base t v := hval0
  have hW' := hW
  obtain ⟨p, q, hA0, hV, rfl, hfz, hnd⟩ := hW
  have hA : DataW.TrodAll enc Try.prog W 0 (fun _ => true) true Try.f5.params.toList args.toList ds p := hA0
  rw [Try.params5] at hA hval
  obtain ⟨v0, vs0, d0, ds0, p_0, q_0, hargs, rfl, rfl, h0, r_0⟩ := trodAll_cons hA
  obtain ⟨v1, vs1, d1, ds1, p_1, q_1, rfl, rfl, rfl, h1, r_1⟩ := trodAll_cons r_0
  obtain ⟨rfl, rfl, rfl⟩ := trodAll_nil r_1
  obtain rfl : args = #[v0, v1] := by cases args; simp_all
  obtain ⟨rfl, rfl⟩ := trodVars_none hV
  obtain ⟨A0, n0, k0, l0, rfl, b0, c0, e0, f0⟩ := open_rows Try.underlying22 Try.underlying27 Try.underlying5 (by kernel_rfl) (by kernel_rfl) (hval 0 22 v0 rfl rfl) h0
  obtain ⟨a1, rfl, rfl, rfl, w1⟩ := open_int Try.underlying3 (hval 1 3 v1 rfl rfl) h1
  refine (diskWhole_w A0 n0 k0 l0 b0 c0 a1 (in64_of_wf w1) W e0 f0).mono fun e W' ⟨he, hb⟩ => ?_
  subst he
  exact ⟨_, rfl, law_post laidOut (by kernel_rfl) rfl (by kernel_rfl) Try.underlying4 hW' rfl rfl rfl hb⟩

/-- The statement. -/
theorem diskWhole_proved : Rows.DiskWholeSaid :=
  OpenClaim.holds_of_wide 5 Try.f5 rfl rfl rfl rfl rfl rfl rfl ⟨rfl, rfl, rfl, rfl, rfl⟩ rfl rfl rfl rfl rfl (by kernel_rfl) Try.func5 (by kernel_rfl)
    (of_decide_eq_true (by kernel_rfl)) (by unfold Func.isWrapper; first | (rw [if_pos (by decide +kernel)]; kernel_rfl) | (rw [if_neg (by decide +kernel)]; exact ⟨rfl, rfl⟩))
    (fun os started H enc _ => diskWhole_lifted os started H enc)
end Go.Proofs.Ytlmjggbpophnfaa
