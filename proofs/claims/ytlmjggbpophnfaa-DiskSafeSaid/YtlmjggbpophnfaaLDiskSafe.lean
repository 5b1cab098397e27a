/- DiskSafe holds: for any deeds, any bytes, any crash. -/
import Derived.Test.YtlmjggbpophnfaaDoes3
import Derived.Test.YtlmjggbpophnfaaSafeC
namespace Go.Proofs.Ytlmjggbpophnfaa
open Go.ChangeShapes Go.WideShapes Go.ChangeAt Go.RowKit Go.Maps
attribute [local go_sem] Oper.semAt_some

set_option maxRecDepth 100000 in
set_option maxHeartbeats 8000000 in
theorem diskSafe_w (q : Option Addr) (n cap : Nat) (F : Nat → Deed) (hn : n ≤ cap) (hm : cap ≤ maxLen) (qb : Option Addr) (nb cb : Nat) (Fb : Nat → B8) (hnb : nb ≤ cb) (hmb : cb ≤ maxLen) (qo : Option Addr) (no co : Nat) (Fo : Nat → B8) (hno : no ≤ co) (hmo : co ≤ maxLen) (a : Int) (ha : In64 a) (w : World)
    (hD : Dds w q n F) (hF : ∀ i, i < n → In64 (F i).1 ∧ In64 (F i).2.1 ∧ In64 (F i).2.2.1 ∧ GoodS w w.heap.size (F i).2.2.2) (hb : Byq w qb nb Fb) (ho : Byq w qo no Fo) :
    Calls Try.prog 6 #[.slice q n cap, .slice qb nb cb, .slice qo no co, .int .i64 a] w fun r w' => r = .returned (.bool true) ∧ Below w.heap.size w w' := by
  have hmn := @run_mn Try.prog
  have gb : GoodS w w.heap.size (qb, nb, cb) := ⟨hnb, hmb, fun h0 => by obtain ⟨g, o, e, hB⟩ := hb h0; exact ⟨g, o, Fb, e, hB, .inl (hB.lt h0)⟩⟩
  have go : GoodS w w.heap.size (qo, no, co) := ⟨hno, hmo, fun h0 => by obtain ⟨g, o, e, hB⟩ := ho h0; exact ⟨g, o, Fo, e, hB, .inl (hB.lt h0)⟩⟩
  have x1 := arI_lo a (m := 30) (by decide)
  have x2 := arI_hi a (m := 30) (by decide)
  have HA := Lib.hid (around_c a 30 ha.1 ha.2 (by decide))
  obtain ⟨kp, hkp⟩ : ∃ kp : Nat, arI a 30 = kp := ⟨(arI a 30).toNat, by omega⟩
  rw [hkp] at HA x1 x2
  have HGB := Lib.hid (And.intro gb go)
  have HD := Lib.hid (And.intro hD hF)
  have HM := Lib.hid (And.intro hn hm)
  clear gb go hD hF hn hm hb ho hnb hmb hno hmo ha hkp
  go_enter Try.func6, Try.ntmps6
  go_upto_region 4 with (go_at_call 9; refine (new_c 1000000 w.heap.size w (Nat.le_refl _)).mono ?_; rintro e_ w1 ⟨d, M, rfl, D1, -, h1⟩)
  have HH1 := Lib.hid h1
  have HD1 := Lib.hid D1
  clear h1 D1
  go_upto_region 5 with (go_at_call 20; refine (rnew_c 1000000 w1).mono ?_; rintro e_ w2 ⟨rfl, h2⟩; simp only [dv, slV])
  generalize hV : World.alloc w2 _ = W2
  have X2 : Blk W2 w2.heap.size 42 (dv (newS 1000000) (none, 0, 0) (none, 0, 0)) := Blk.eqw hV (Blk.new' rfl)
  have h12 : Below w2.heap.size w2 W2 := by rw [← hV]; exact (Below.refl _ _).alloc (Nat.le_refl _) _
  have h02 := after h2 h12
  have I2 : Hid (SI w W2 d w2.heap.size 1000000 0) := Lib.hid ⟨M, newS 1000000, (none, 0, 0), (none, 0, 0), HD1.out.on h02, (newS_ok 1000000).mono (Nat.le_refl _) (by decide), rfl, X2, ⟨_, _, [], [], rfl, ⟨rfl, Nat.le_refl _, Nat.zero_le _, fun h => absurd h (by decide)⟩, ⟨rfl, Nat.le_refl _, Nat.zero_le _, fun h => absurd h (by decide)⟩, fun p hp => (by cases hp), fun p hp => (by cases hp), rfl, rfl⟩, after HH1.out h02, Nat.le_trans HH1.out.size h02.size, Nat.le_trans HH1.out.size h2.size⟩
  clear hV X2 h12 h02 h2 HH1 HD1
  generalize w2.heap.size = gr at I2 ⊢
  go_upto_region 6 with (fail)
  go_loopw [11] (fun i wr => ∃ k : Nat, k ≤ n ∧ k ≤ 30 ∧ i = .int .i64 k ∧ Hid (SI w wr d gr 1000000 k)) (fun i _ => n - (intOf i).toNat)
  case atStart => exact ⟨0, Nat.zero_le _, Nat.zero_le _, rfl, I2⟩
  case round =>
    obtain ⟨k, hk, hk12, rfl, I⟩ := hrel
    clear I2
    have hdone : ¬ ((k : Int) < n) ∨ ((k : Int) < n ∧ ¬ ((k : Int) < 30)) ∨ (k < n ∧ k < 30) := by omega
    rcases hdone with h1 | ⟨h1, h2⟩ | ⟨hlt, hk13⟩
    · obtain ⟨M, S, a, b, D, hok, hroom, -, -, hB, hb, -⟩ := I.out
      have gb := (HGB.out.1.cut (k := min nb 20) (Nat.min_le_left _ _)).1
      have go := (HGB.out.2.cut (k := min no 20) (Nat.min_le_left _ _)).1
      have HF1 := Lib.hid (fun W => few_c qb nb cb 20 HGB.out.1.cap W)
      have HF2 := Lib.hid (fun W => few_c qo no co 20 HGB.out.2.cap W)
      dsimp only at gb go
      have lb : min nb 20 ≤ 20 := Nat.min_le_right _ _
      have lo : min no 20 ≤ 20 := Nat.min_le_right _ _
      generalize min nb 20 = nb' at gb HF1 lb
      generalize min no 20 = no' at go HF2 lo
      have glb := gb.len
      have glo := go.len
      dsimp only at glb glo
      obtain ⟨Sf, S1, S2, S3, S4, ef, e1, e2, z2, e3, z3, e4, g1, g2, z4, of_, o1, o2, o3, o4⟩ := safe_all (B := rdB w (qb, nb', cb)) (O := rdB w (qo, no', co)) hok hroom hk12 (by rw [glb]; exact lb) (by rw [glo]; exact lo) kp
      have HE := Lib.hid (And.intro ef (And.intro e1 (And.intro e2 (And.intro e3 e4))))
      have HZ := Lib.hid (And.intro z2 (And.intro z3 z4))
      have HGT := Lib.hid (And.intro g1 g2)
      have big : ∀ {T : DS}, DOk T 40 20 → DOk T 40 1000000 := fun h => h.mono (Nat.le_refl _) (by decide)
      have HO := Lib.hid (And.intro (big of_) (And.intro (big o1) (And.intro (big o2) (And.intro (big o3) (big o4)))))
      have HGG := Lib.hid (And.intro gb go)
      have HLN := Lib.hid (And.intro glb glo)
      have HBB := Lib.hid hB
      have HD1 := Lib.hid D
      clear gb go glb glo ef e1 e2 e3 e4 z2 z3 z4 g1 g2 of_ o1 o2 o3 o4 big hB D I hok hroom
      have i0 : In64 0 := ⟨by decide, by decide⟩
      have i100 : In64 100 := ⟨by decide, by decide⟩
      have i101 : In64 101 := ⟨by decide, by decide⟩
      have HA0 : Hid (At w wr d S) := Lib.hid ⟨M, HD1.out, HBB.out, hb⟩
      clear HD1 HBB
      go_upto_region 18 with first
        | (go_at_call 11; refine (HF1.out _).mono ?_; rintro e_ w2 ⟨rfl, rfl⟩; clear HF1; have HF1 := HF2)
        | (go_at_call 22; refine (fail_e HA0.out i0 HE.out.1).mono ?_; rintro e_ w2 ⟨rfl, at2⟩; have HA2 := Lib.hid at2; clear at2)
        | (go_at_call 10; refine (put_e HA5.out HO.out.2.2.1 i101 HGG.out.2 (by dsimp only; omega) HE.out.2.2.2.1).mono ?_; rintro e_ w6 ⟨rfl, at6⟩; have HA6 := Lib.hid at6; clear at6)
        | (go_at_call 10; refine (put_e HA2.out HO.out.1 i100 HGG.out.1 (by dsimp only; omega) HE.out.2.1).mono ?_; rintro e_ w3 ⟨rfl, at3⟩; have HA3 := Lib.hid at3; clear at3)
        | (go_at_call 19; refine (sync_e HA3.out HO.out.2.1 HE.out.2.2.1).mono ?_; rintro e_ w4 ⟨rfl, at4⟩; have HA4 := Lib.hid at4; clear at4)
        | (go_at_call 13; refine (left_e HA6.out HO.out.2.2.2.1 (HZ.out.2.1.trans HLN.out.2)).mono ?_; rintro e_ w7 ⟨rfl, at7, -⟩; have HA7 := Lib.hid at7; clear at7)
        | (go_at_call 13; refine (left_e HA4.out HO.out.2.2.1 HZ.out.1).mono ?_; rintro e_ w5 ⟨rfl, at5, -⟩; have HA5 := Lib.hid at5; clear at5)
      obtain ⟨ny, hny⟩ : ∃ ny, ny = min kp no' := ⟨_, rfl⟩
      obtain ⟨ls, hls⟩ : ∃ ls, ls = no' - ny := ⟨_, rfl⟩
      have hE4 : S3.crash kp = (S4, (ls : Int)) := by rw [HE.out.2.2.2.2, HLN.out.2, ← hny, ← hls]
      have HE4 := Lib.hid hE4
      have HNY := Lib.hid (And.intro hny hls)
      clear hE4 hny hls
      go_upto_region 22 with first
        | (go_at_call 12; refine (HA.out _).mono ?_; rintro e_ w8 ⟨rfl, rfl⟩)
        | (go_at_call 14; refine (crash_e HA7.out HO.out.2.2.2.1 HE4.out).mono ?_; rintro e_ w9 ⟨rfl, at9⟩; have HA9 := Lib.hid at9; clear at9)
        | (go_at_call 15; refine (get_e HA10.out HO.out.2.2.2.2 i101 HGT.out.2).mono ?_; rintro e_ w11 ⟨⟨q2, n2, c2⟩, rfl, gg2, gr2, at11, h11⟩; simp only [slV]; have HA11 := Lib.hid at11; have HG2 := Lib.hid (And.intro gg2 (And.intro gr2 h11)); clear at11 gg2 gr2 h11)
        | (go_at_call 15; refine (get_e HA9.out HO.out.2.2.2.2 i100 HGT.out.1).mono ?_; rintro e_ w10 ⟨⟨q1, n1, c1⟩, rfl, gg1, gr1, at10, -⟩; simp only [slV]; have HA10 := Lib.hid at10; have HG1 := Lib.hid (And.intro gg1 gr1); clear at10 gg1 gr1)
      obtain ⟨hny, hls⟩ := HNY.out
      have hB11 : Below w.heap.size w w11 := by obtain ⟨_, _, h, _⟩ := HA11.out; exact h
      have hl2 := HG2.out.1.len
      rw [HG2.out.2.1, List.length_take, HLN.out.2, ← hny] at hl2
      dsimp only at hl2
      have gc := (HGG.out.2.on hB11).1.cut (k := ny) (by dsimp only; omega)
      have hs1 := same_s (HG1.out.1.on HG2.out.2.2).1 (HGG.out.1.on hB11).1 (by rw [(HG1.out.1.on HG2.out.2.2).2, HG1.out.2, (HGG.out.1.on hB11).2])
      have hs2 := same_s HG2.out.1 gc.1 (by rw [HG2.out.2.1, gc.2, (HGG.out.2.on hB11).2]; exact List.take_eq_take_iff.2 (by rw [HLN.out.2]; omega))
      simp only [slV] at hs1 hs2
      have HS1 := Lib.hid hs1
      have HS2 := Lib.hid hs2
      have hmin : mnI (kp : Int) (no' : Int) = (ny : Int) := by unfold mnI; omega
      have hmin2 : mnI (no' : Int) (kp : Int) = (ny : Int) := by unfold mnI; omega
      have hle : (ny : Int) ≤ cb ∨ True := .inr trivial
      have hcapo := HGG.out.2.cap
      dsimp only at hcapo
      have hnyc : (ny : Int) ≤ co := by omega
      have hny0 : (0 : Int) ≤ ny := by omega
      have hsub : (no' : Int) - (ny : Int) = (ls : Int) := by omega
      obtain rfl : n2 = ny := by omega
      clear hs1 hs2 gc hB11 hle hl2 hls hny HNY HE4
      go_wp2_with first
        | (go_at_call 16; refine HS1.out.mono ?_; rintro e_ w12 ⟨rfl, rfl⟩; clear HS1; have HS1 := HS2)
        | (go_at_call 13; refine (left_e HA11.out HO.out.2.2.2.2 HZ.out.2.2).mono ?_; rintro e_ w13 ⟨rfl, at13, -⟩; have HA13 := Lib.hid at13; clear at13)
        | (go_at_call 17; refine (lives8_c _).mono ?_; rintro e_ w14 ⟨rfl, h14⟩)
      go_returns
      obtain ⟨_, _, hB13, _⟩ := HA13.out
      exact ⟨rfl, after hB13 h14⟩
    · obtain ⟨M, S, a, b, D, hok, hroom, -, -, hB, hb, -⟩ := I.out
      have gb := (HGB.out.1.cut (k := min nb 20) (Nat.min_le_left _ _)).1
      have go := (HGB.out.2.cut (k := min no 20) (Nat.min_le_left _ _)).1
      have HF1 := Lib.hid (fun W => few_c qb nb cb 20 HGB.out.1.cap W)
      have HF2 := Lib.hid (fun W => few_c qo no co 20 HGB.out.2.cap W)
      dsimp only at gb go
      have lb : min nb 20 ≤ 20 := Nat.min_le_right _ _
      have lo : min no 20 ≤ 20 := Nat.min_le_right _ _
      generalize min nb 20 = nb' at gb HF1 lb
      generalize min no 20 = no' at go HF2 lo
      have glb := gb.len
      have glo := go.len
      dsimp only at glb glo
      obtain ⟨Sf, S1, S2, S3, S4, ef, e1, e2, z2, e3, z3, e4, g1, g2, z4, of_, o1, o2, o3, o4⟩ := safe_all (B := rdB w (qb, nb', cb)) (O := rdB w (qo, no', co)) hok hroom hk12 (by rw [glb]; exact lb) (by rw [glo]; exact lo) kp
      have HE := Lib.hid (And.intro ef (And.intro e1 (And.intro e2 (And.intro e3 e4))))
      have HZ := Lib.hid (And.intro z2 (And.intro z3 z4))
      have HGT := Lib.hid (And.intro g1 g2)
      have big : ∀ {T : DS}, DOk T 40 20 → DOk T 40 1000000 := fun h => h.mono (Nat.le_refl _) (by decide)
      have HO := Lib.hid (And.intro (big of_) (And.intro (big o1) (And.intro (big o2) (And.intro (big o3) (big o4)))))
      have HGG := Lib.hid (And.intro gb go)
      have HLN := Lib.hid (And.intro glb glo)
      have HBB := Lib.hid hB
      have HD1 := Lib.hid D
      clear gb go glb glo ef e1 e2 e3 e4 z2 z3 z4 g1 g2 of_ o1 o2 o3 o4 big hB D I hok hroom
      have i0 : In64 0 := ⟨by decide, by decide⟩
      have i100 : In64 100 := ⟨by decide, by decide⟩
      have i101 : In64 101 := ⟨by decide, by decide⟩
      have HA0 : Hid (At w wr d S) := Lib.hid ⟨M, HD1.out, HBB.out, hb⟩
      clear HD1 HBB
      go_upto_region 18 with first
        | (go_at_call 11; refine (HF1.out _).mono ?_; rintro e_ w2 ⟨rfl, rfl⟩; clear HF1; have HF1 := HF2)
        | (go_at_call 22; refine (fail_e HA0.out i0 HE.out.1).mono ?_; rintro e_ w2 ⟨rfl, at2⟩; have HA2 := Lib.hid at2; clear at2)
        | (go_at_call 10; refine (put_e HA5.out HO.out.2.2.1 i101 HGG.out.2 (by dsimp only; omega) HE.out.2.2.2.1).mono ?_; rintro e_ w6 ⟨rfl, at6⟩; have HA6 := Lib.hid at6; clear at6)
        | (go_at_call 10; refine (put_e HA2.out HO.out.1 i100 HGG.out.1 (by dsimp only; omega) HE.out.2.1).mono ?_; rintro e_ w3 ⟨rfl, at3⟩; have HA3 := Lib.hid at3; clear at3)
        | (go_at_call 19; refine (sync_e HA3.out HO.out.2.1 HE.out.2.2.1).mono ?_; rintro e_ w4 ⟨rfl, at4⟩; have HA4 := Lib.hid at4; clear at4)
        | (go_at_call 13; refine (left_e HA6.out HO.out.2.2.2.1 (HZ.out.2.1.trans HLN.out.2)).mono ?_; rintro e_ w7 ⟨rfl, at7, -⟩; have HA7 := Lib.hid at7; clear at7)
        | (go_at_call 13; refine (left_e HA4.out HO.out.2.2.1 HZ.out.1).mono ?_; rintro e_ w5 ⟨rfl, at5, -⟩; have HA5 := Lib.hid at5; clear at5)
      obtain ⟨ny, hny⟩ : ∃ ny, ny = min kp no' := ⟨_, rfl⟩
      obtain ⟨ls, hls⟩ : ∃ ls, ls = no' - ny := ⟨_, rfl⟩
      have hE4 : S3.crash kp = (S4, (ls : Int)) := by rw [HE.out.2.2.2.2, HLN.out.2, ← hny, ← hls]
      have HE4 := Lib.hid hE4
      have HNY := Lib.hid (And.intro hny hls)
      clear hE4 hny hls
      go_upto_region 22 with first
        | (go_at_call 12; refine (HA.out _).mono ?_; rintro e_ w8 ⟨rfl, rfl⟩)
        | (go_at_call 14; refine (crash_e HA7.out HO.out.2.2.2.1 HE4.out).mono ?_; rintro e_ w9 ⟨rfl, at9⟩; have HA9 := Lib.hid at9; clear at9)
        | (go_at_call 15; refine (get_e HA10.out HO.out.2.2.2.2 i101 HGT.out.2).mono ?_; rintro e_ w11 ⟨⟨q2, n2, c2⟩, rfl, gg2, gr2, at11, h11⟩; simp only [slV]; have HA11 := Lib.hid at11; have HG2 := Lib.hid (And.intro gg2 (And.intro gr2 h11)); clear at11 gg2 gr2 h11)
        | (go_at_call 15; refine (get_e HA9.out HO.out.2.2.2.2 i100 HGT.out.1).mono ?_; rintro e_ w10 ⟨⟨q1, n1, c1⟩, rfl, gg1, gr1, at10, -⟩; simp only [slV]; have HA10 := Lib.hid at10; have HG1 := Lib.hid (And.intro gg1 gr1); clear at10 gg1 gr1)
      obtain ⟨hny, hls⟩ := HNY.out
      have hB11 : Below w.heap.size w w11 := by obtain ⟨_, _, h, _⟩ := HA11.out; exact h
      have hl2 := HG2.out.1.len
      rw [HG2.out.2.1, List.length_take, HLN.out.2, ← hny] at hl2
      dsimp only at hl2
      have gc := (HGG.out.2.on hB11).1.cut (k := ny) (by dsimp only; omega)
      have hs1 := same_s (HG1.out.1.on HG2.out.2.2).1 (HGG.out.1.on hB11).1 (by rw [(HG1.out.1.on HG2.out.2.2).2, HG1.out.2, (HGG.out.1.on hB11).2])
      have hs2 := same_s HG2.out.1 gc.1 (by rw [HG2.out.2.1, gc.2, (HGG.out.2.on hB11).2]; exact List.take_eq_take_iff.2 (by rw [HLN.out.2]; omega))
      simp only [slV] at hs1 hs2
      have HS1 := Lib.hid hs1
      have HS2 := Lib.hid hs2
      have hmin : mnI (kp : Int) (no' : Int) = (ny : Int) := by unfold mnI; omega
      have hmin2 : mnI (no' : Int) (kp : Int) = (ny : Int) := by unfold mnI; omega
      have hle : (ny : Int) ≤ cb ∨ True := .inr trivial
      have hcapo := HGG.out.2.cap
      dsimp only at hcapo
      have hnyc : (ny : Int) ≤ co := by omega
      have hny0 : (0 : Int) ≤ ny := by omega
      have hsub : (no' : Int) - (ny : Int) = (ls : Int) := by omega
      obtain rfl : n2 = ny := by omega
      clear hs1 hs2 gc hB11 hle hl2 hls hny HNY HE4
      go_wp2_with first
        | (go_at_call 16; refine HS1.out.mono ?_; rintro e_ w12 ⟨rfl, rfl⟩; clear HS1; have HS1 := HS2)
        | (go_at_call 13; refine (left_e HA11.out HO.out.2.2.2.2 HZ.out.2.2).mono ?_; rintro e_ w13 ⟨rfl, at13, -⟩; have HA13 := Lib.hid at13; clear at13)
        | (go_at_call 17; refine (lives8_c _).mono ?_; rintro e_ w14 ⟨rfl, h14⟩)
      go_returns
      obtain ⟨_, _, hB13, _⟩ := HA13.out
      exact ⟨rfl, after hB13 h14⟩
    · have h1 : (k : Int) < n := by omega
      have h2 : (k : Int) < 30 := by omega
      have hk0 : (0 : Int) ≤ (k : Int) := by omega
      obtain ⟨M, S, a, b, D, hok, hroom, X, hr, hB, hb, hgr⟩ := I.out
      obtain ⟨g, o, rfl, hcell⟩ := HD.out.1.below hB (by omega)
      obtain ⟨c0, c1, c2, c3⟩ := hcell k hlt
      obtain ⟨gw, ow, ew, hcw⟩ := HD.out.1 (by omega)
      obtain ⟨f0, f1, f2, f3⟩ := HD.out.2 k hlt
      have hgs := (f3.on hB).1
      obtain ⟨L, hL⟩ := disk_list D
      have hgL : g ∉ L := fun hm => by
        have h1 := (D.mine ((hL g).2 hm)).1
        simp only [Option.some.injEq, Addr.mk.injEq] at ew
        have h2 := cell_lt (hcw k hlt).1
        dsimp only at h2
        omega
      have hrL := lst_blk D hL X (by decide)
      have hcall := fun W (hW : KeptD L wr W) (hD : DiskIs W w.heap.size M d S) => does_c w.heap.size d M S k W hD hok (by omega) _ (lst_ref D hL hW hr) (F k).1 (F k).2.1 (F k).2.2.1 f1 f2 (F k).2.2.2 (lst_good D hL hW hgs).1 (Nat.le_trans hb (Kept.size hW))
      obtain ⟨d0, d1, d2, d3, d4⟩ := spc5 X hrL
      have p0 := sp_cell c0 hgL
      have p1 := sp_cell c1 hgL
      have p2 := sp_cell c2 hgL
      have p3 := sp_cell c3 hgL
      obtain ⟨aq, an, ac⟩ := a
      obtain ⟨bq, bn, bc⟩ := b
      generalize F k = x at hcall p0 p1 p2 p3
      obtain ⟨xk, xe, xn, xq, xl, xc⟩ := x
      simp only [dv, slV] at d0 d1 d2 d3 d4 p0 p1 p2 p3 hcall
      have HCALL := Lib.hid hcall
      have HDD := Lib.hid D
      have HLL := Lib.hid hL
      have HXX := Lib.hid X
      have HBB := Lib.hid hB
      have HGR := Lib.hid (And.intro hrL hgr)
      have HRM := Lib.hid hroom
      clear hcall D X hr hB hrL hgr hcell c0 c1 c2 c3 ew hcw f0 f1 f2 f3 hgs hgL I hok hroom
      go_upto_region 8 with (fail)
      refine wp_inv [0, 0, 0, 0, 0, 0, 2, 2, 2, 2, 2, 2, 3] L (DsI w.heap.size d k M S wr.heap.size) (by kernel_rfl) (by kernel_rfl) (fun _ _ _ _ _ h k => h.below k) (fun _ => dsI_zero HDD.out) ?_
      iterate 6 (refine wpQs_q (fun K hK => ?_); go_simp; refine hK _ ?_; clear hK K)
      repeat (refine wpQs_s ?_)
      refine wpQs_nil ?_
      clear p0 p1 p2 p3 d0 d1 d2 d3 d4
      repeat (refine wpLsI_skip ?_)
      refine wpLsI_one rfl ?s6 (fun v6_ => ?_)
      case s6 =>
        intro S_ V_ w_ hw_ hV_ ha_ hn_ hI_
        have hd0 : DiskIs w_ w.heap.size M d S := by
          obtain ⟨_, _, _, _, _, _, _, hd, _⟩ := hI_
          exact hd hn_
        have hc := HCALL.out w_ hw_ hd0
        have HC := Lib.hid hc
        have HW_ := Lib.hid hw_
        have HI_ := Lib.hid hI_
        have HN_ := Lib.hid hn_
        clear hV_ ha_ hn_ hI_ hw_ hc hd0
        go_simp
        refine HC.out.mono ?_
        rintro e_ w5 ⟨v', S1, rfl, t5, hr5, hk5, hm5⟩
        refine ⟨_, rfl, ?_, HI_.out.call HN_.out (Kept.size HW_.out) t5 hr5 hk5 hm5 rfl⟩
        obtain ⟨_, _, _, t3⟩ := t5
        exact Kept.trans HW_.out (t3.mono fun b hb hm => hb ((HLL.out b).1 hm))
      refine wpLsI_one rfl ?s7 (fun v7_ => ?_)
      case s7 =>
        intro S_ V_ w_ hw_ hV_ ha_ hn_ hI_
        have h6 := ha_ 6 (by decide) rfl (by kernel_rfl)
        obtain ⟨a', b', S', e6⟩ := hI_.get6 h6
        have hv := (hV_ 6 (by decide) rfl).symm.trans e6
        have HF := Lib.hid (And.intro hw_ (hI_.move h6 e6.symm))
        clear hV_ ha_ hn_ hI_ hw_ h6 e6
        subst hv
        go_simp
        exact HF.out
      refine wpLsI_one rfl ?s8 (fun v8_ => ?_)
      case s8 =>
        intro S_ V_ w_ hw_ hV_ ha_ hn_ hI_
        have h7 := ha_ 7 (by decide) rfl (by kernel_rfl)
        obtain ⟨a', b', S', e7, hh⟩ := hI_.get7 h7
        have hv := (hV_ 7 (by decide) rfl).symm.trans e7
        have HF := Lib.hid (And.intro hw_ ((hh _).1 rfl))
        clear hV_ ha_ hn_ hI_ hw_ h7 e7 hh
        subst hv
        go_simp
        exact HF.out
      refine wpLsI_one rfl ?s9 (fun v9_ => ?_)
      case s9 =>
        intro S_ V_ w_ hw_ hV_ ha_ hn_ hI_
        have h7 := ha_ 7 (by decide) rfl (by kernel_rfl)
        obtain ⟨a', b', S', e7, hh⟩ := hI_.get7 h7
        have hv := (hV_ 7 (by decide) rfl).symm.trans e7
        have HF := Lib.hid (And.intro hw_ ((hh _).2 rfl))
        clear hV_ ha_ hn_ hI_ hw_ h7 e7 hh
        subst hv
        go_simp
        exact HF.out
      refine wpLsI_one rfl ?s10 (fun v10_ => ?_)
      case s10 =>
        intro S_ V_ w_ hw_ hV_ ha_ hn_ hI_
        have HF := Lib.hid (And.intro (hw_.on (bel_alloc w_ (.cells zeroD 42))) (hI_.new hn_ (Kept.size hw_) (Nat.le_trans hb (Kept.size hw_)) rfl))
        clear hV_ ha_ hn_ hI_ hw_
        go_simp
        exact HF.out
      refine wpLsI_one rfl ?s11 (fun v11_ => ?_)
      case s11 =>
        intro S_ V_ w_ hw_ hV_ ha_ hn_ hI_
        have HP := Lib.hid (And.intro hw_ (hI_.put (ha_ 8 (by decide) rfl (by kernel_rfl)) (ha_ 10 (by decide) rfl (by kernel_rfl)) hn_))
        have HV8 := Lib.hid (hV_ 8 (by decide) rfl)
        have HV10 := Lib.hid (hV_ 10 (by decide) rfl)
        clear hV_ ha_ hn_ hI_ hw_
        go_simp
        obtain ⟨hw_, ⟨aq', an', ac'⟩, ⟨bq', bn', bc'⟩, S', g', e8, e10, hg1, hg2, hB, hput⟩ := HP.out
        have hv8 := HV8.out.symm.trans e8
        have hv10 := HV10.out.symm.trans e10
        simp only [dv, slV] at hv8
        have hkd := ((((Kept.fresh (K := fun b => b ∉ L) hw_ (p := ⟨g', 0, none⟩) hg1 (.int .i64 S'.room)).fresh (p := ⟨g', 1, none⟩) hg1 (.int .i64 S'.fails)).fresh (p := ⟨g', 2, none⟩) hg1 (.int .i64 S'.waits)).fresh (p := ⟨g', 3, none⟩) hg1 (.slice aq' an' ac')).fresh (p := ⟨g', 4, none⟩) hg1 (.slice bq' bn' bc')
        have HF := Lib.hid (fun v => And.intro hkd (hput v _ (kept5 (.int .i64 S'.room) (.int .i64 S'.fails) (.int .i64 S'.waits) (.slice aq' an' ac') (.slice bq' bn' bc')) (Blk.st5 hB _ _ _ _ _)))
        obtain ⟨⟨c0, c1, c2, c3, c4⟩, f0, f1, f2, f3, f4⟩ := Blk.c5 (show Blk w_ g' 42 #[.int .i64 0, .int .i64 0, .int .i64 0, .slice none 0 0, .slice none 0 0] from hB)
        clear e8 e10 hput hB hg1 hg2 hkd hw_ HV8 HV10 HP
        subst hv8 hv10
        go_simp
        exact HF.out _
      repeat (refine wpLsI_skip ?_)
      refine wpLsI_nil fun V_ w2 hw_ hV_ hI_ => ?_
      have HP := Lib.hid (And.intro hw_ hI_)
      have HV9 := Lib.hid (hV_ 9 (by decide) rfl)
      have HV10 := Lib.hid (hV_ 10 (by decide) rfl)
      clear hV_ hI_ hw_
      simp only [tails]
      go_upto_region 9 with (fail)
      obtain ⟨hw_, ⟨aq', an', ac'⟩, ⟨bq', bn', bc'⟩, S', -, -, -, -, -, e6, -, -, e9, e10⟩ := HP.out
      obtain ⟨-, ⟨M', hD', -⟩, hr', hok', hroom'⟩ := e6 ⟨show (6 : Nat) < 13 by decide, rfl⟩
      have hv9 := HV9.out.symm.trans (e9 ⟨show (9 : Nat) < 13 by decide, rfl⟩)
      obtain ⟨g', hv10', hg1, hg2, -, hB'⟩ := e10 ⟨show (10 : Nat) < 13 by decide, rfl⟩
      have hv10 := HV10.out.symm.trans hv10'
      have hB2 : Blk w2 g' 42 #[.int .i64 S'.room, .int .i64 S'.fails, .int .i64 S'.waits, .slice aq' an' ac', .slice bq' bn' bc'] := hB' ⟨show (11 : Nat) < 13 by decide, rfl⟩
      have hX2 := Kept.blk hw_ HGR.out.1 HXX.out
      have hb2 : w.heap.size ≤ w2.heap.size := Nat.le_trans hb (Kept.size hw_)
      have hW2 : Below w.heap.size wr w2 := Kept.below hw_ hb fun b hlt hm => by have := (HDD.out.mine ((HLL.out b).2 hm)).1; omega
      have H2 := Lib.hid (HBB.out.trans hW2)
      have HD' := Lib.hid hD'
      have HR' := Lib.hid hr'
      have HO' := Lib.hid (And.intro hok' (hroom'.trans HRM.out))
      have HX2 := Lib.hid hX2
      obtain ⟨⟨c0, c1, c2, c3, c4⟩, -⟩ := hB2.c5
      obtain ⟨⟨y0, y1, y2, y3, y4⟩, f0, f1, f2, f3, f4⟩ := Blk.c5 hX2
      clear HP HV9 HV10 hw_ e6 e9 e10 hv10' hB' hg1 hg2 hD' hr' hok' hroom' hX2 hW2 hB2 HCALL HDD HLL HXX HBB HRM
      subst hv9 hv10
      go_wp2_with fail
      have hk5 := kept5 (w := w2) (g := gr) (.int .i64 S'.room) (.int .i64 S'.fails) (.int .i64 S'.waits) (.slice aq' an' ac') (.slice bq' bn' bc')
      refine ⟨⟨k + 1, hlt, hk13, by go_num, Lib.hid ⟨M', S', (aq', an', ac'), (bq', bn', bc'), HD'.out.kept hk5 (fun c hm e => ?_) (fun c hby e => ?_), HO'.out.1, HO'.out.2, HX2.out.st5 _ _ _ _ _, ?_, H2.out.trans (hk5.below (n := w.heap.size) hb2 (fun c hc e => by have := HGR.out.2; omega)), Nat.le_trans hb2 hk5.size, HGR.out.2⟩⟩, next_less' hlt⟩
      · subst e
        rcases (HD'.out.mine hm).2.2 _ _ HX2.out with e | e <;> revert e <;> decide
      · subst e
        exact not_by HX2.out (by decide) HGR.out.2 hby
      · obtain ⟨a1, b1, sl, ll, e, hra⟩ := HR'.out
        exact ⟨a1, b1, sl, ll, e, hra.off hk5 HX2.out (by decide) HGR.out.2⟩
set_option maxRecDepth 100000 in
theorem diskSafe_lifted (os : Os) (started : os.Started) (H : Type) (enc : TypeId × Value → H) :
    ReturnsInHanded {} Try.checked os 6 .any (Rows.diskSafeSpec.pre6 enc Try.prog Try.f6 Rows.diskSafeRow.domain false) (Rows.diskSafeSpec.post enc Try.prog Try.f6 false true false false) := by
  refine returnsInHanded_of_change (C := Try.checked) own started (by kernel_rfl) Try.func6
    (ChangeSpec.witness6 (enc := enc) (C := Try.checked) false ⟨#[], #[.slice none 0 0, .slice none 0 0, .slice none 0 0, .int .i64 0], []⟩ 8 (by kernel_rfl) (by kernel_rfl) (by kernel_rfl) (by kernel_rfl)) ?_
  intro W base args ds gs before hval0 hW hcnd hsz
  have hval : ∀ (j : Nat) t v, Try.f6.params[j]? = some t → args[j]? = some v → Value.okWide Try.prog W .any base t v := hval0
  have hW' := hW
  obtain ⟨p, q, hA0, hV, rfl, hfz, hnd⟩ := hW
  have hA : DataW.TrodAll enc Try.prog W 0 (fun _ => true) true Try.f6.params.toList args.toList ds p := hA0
  rw [Try.params6] at hA hval
  obtain ⟨v0, vs0, d0, ds0, p_0, q_0, hargs, rfl, rfl, h0, r_0⟩ := trodAll_cons hA
  obtain ⟨v1, vs1, d1, ds1, p_1, q_1, rfl, rfl, rfl, h1, r_1⟩ := trodAll_cons r_0
  obtain ⟨v2, vs2, d2, ds2, p_2, q_2, rfl, rfl, rfl, h2, r_2⟩ := trodAll_cons r_1
  obtain ⟨v3, vs3, d3, ds3, p_3, q_3, rfl, rfl, rfl, h3, r_3⟩ := trodAll_cons r_2
  obtain ⟨rfl, rfl, rfl⟩ := trodAll_nil r_3
  obtain rfl : args = #[v0, v1, v2, v3] := by cases args; simp_all
  obtain ⟨rfl, rfl⟩ := trodVars_none hV
  obtain ⟨A0, n0, k0, l0, rfl, b0, c0, e0, f0⟩ := open_deeds Try.underlying39 Try.underlying47 (by kernel_rfl) (by kernel_rfl) Try.underlying3 Try.underlying27 Try.underlying5 (by kernel_rfl) (hval 0 39 v0 rfl rfl) h0
  obtain ⟨A1, n1, k1, l1, rfl, b1, c1, e1⟩ := open_bytes Try.underlying27 Try.underlying5 (by kernel_rfl) (hval 1 27 v1 rfl rfl) h1
  obtain ⟨A2, n2, k2, l2, rfl, b2, c2, e2⟩ := open_bytes Try.underlying27 Try.underlying5 (by kernel_rfl) (hval 2 27 v2 rfl rfl) h2
  obtain ⟨a3, rfl, rfl, rfl, w3⟩ := open_int Try.underlying3 (hval 3 3 v3 rfl rfl) h3
  refine (diskSafe_w A0 n0 k0 l0 b0 c0 A1 n1 k1 l1 b1 c1 A2 n2 k2 l2 b2 c2 a3 (in64_of_wf w3) W e0 f0 e1 e2).mono fun e W' ⟨he, hb⟩ => ?_
  subst he
  exact ⟨_, rfl, law_post laidOut (by kernel_rfl) rfl (by kernel_rfl) Try.underlying4 hW' rfl rfl rfl hb⟩

/-- The statement. -/
theorem diskSafe_proved : Rows.DiskSafeSaid :=
  OpenClaim.holds_of_wide 6 Try.f6 rfl rfl rfl rfl rfl rfl rfl ⟨rfl, rfl, rfl, rfl, rfl⟩ rfl rfl rfl rfl rfl (by kernel_rfl) Try.func6 (by kernel_rfl)
    (of_decide_eq_true (by kernel_rfl)) (by unfold Func.isWrapper; first | (rw [if_pos (by decide +kernel)]; kernel_rfl) | (rw [if_neg (by decide +kernel)]; exact ⟨rfl, rfl⟩))
    (fun os started H enc _ => diskSafe_lifted os started H enc)
end Go.Proofs.Ytlmjggbpophnfaa
