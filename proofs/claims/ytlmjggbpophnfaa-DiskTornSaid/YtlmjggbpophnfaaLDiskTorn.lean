/- DiskTorn holds: for any blobs, any number of bytes that are kept. -/
import Derived.Test.YtlmjggbpophnfaaBos
import Derived.Test.YtlmjggbpophnfaaDiskL
import Derived.Test.YtlmjggbpophnfaaDiskQ
namespace Go.Proofs.Ytlmjggbpophnfaa
open Go.ChangeShapes Go.WideShapes Go.ChangeAt Go.RowKit Go.Maps
attribute [local go_sem] Oper.semAt_some

/-- The first 20 of a row. -/
def cutS (s : SL) : SL := (s.1, min s.2.1 20, s.2.2)
def rowR (w : World) (F : Nat → SL) (i : Nat) : Bs := rdB w (cutS (F i))
theorem cut_good {w : World} {base : Nat} {s : SL} (h : GoodS w base s) : GoodS w base (cutS s) := (h.cut (Nat.min_le_left _ _)).1
theorem rowR_len {w : World} {F : Nat → SL} {i : Nat} {base : Nat} (h : GoodS w base (F i)) : (rowR w F i).length = min (F i).2.1 20 := (cut_good h).len
/-- The disk behind the puts. -/
def TP (w wr : World) (d : Nat) (F : Nat → SL) (k : Nat) : Prop := ∃ M, DiskIs wr w.heap.size M d (tornS (rowR w F) k) ∧ Below w.heap.size w wr ∧ w.heap.size ≤ wr.heap.size
set_option maxRecDepth 100000 in
set_option maxHeartbeats 8000000 in
theorem diskTorn_w (q : Option Addr) (n cap : Nat) (F : Nat → SL) (hn : n ≤ cap) (hm : cap ≤ maxLen) (a : Int) (ha : In64 a) (w : World) (hb : Sls w q n F) (hg : ∀ i, i < n → GoodS w w.heap.size (F i)) :
    Calls Try.prog 3 #[.slice q n cap, .int .i64 a] w fun r w' => r = .returned (.bool true) ∧ Below w.heap.size w w' := by
  have hmn := @run_mn Try.prog
  have hmx := @run_mx Try.prog
  have x1 := arI_lo a (m := 130) (by decide)
  have x2 := arI_hi a (m := 130) (by decide)
  have HA := Lib.hid (around_c a 130 ha.1 ha.2 (by decide))
  obtain ⟨lf, hlf⟩ : ∃ lf : Nat, arI a 130 = lf := ⟨(arI a 130).toNat, by omega⟩
  rw [hlf] at HA x1 x2
  clear ha hlf
  have HB := Lib.hid hb
  have HG := Lib.hid hg
  have HM := Lib.hid (And.intro hn hm)
  have hq := Lib.hid (fun g o (e : q = some ⟨g, o, none⟩) (h0 : 0 < n) => hb.lt e h0)
  have HL := Lib.hid (fun i (h : i < n) => rowR_len (hg i h))
  clear hb hn hm hg
  have hmin : mnI (n : Int) 6 = ((min n 6 : Nat) : Int) := by unfold mnI; omega
  go_enter Try.func3, Try.ntmps3
  go_upto_region 4 with (go_at_call 9; refine (new_c 10000 w.heap.size w (Nat.le_refl _)).mono ?_; rintro e_ w1 ⟨d, M, rfl, D1, -, h1⟩)
  have I1 : Hid (TP w w1 d F 0) := Lib.hid ⟨M, D1, h1, h1.size⟩
  clear D1 h1
  go_upto_region 6 with (fail)
  obtain ⟨m, hm, hm6, hmn'⟩ : ∃ m, m = min n 6 ∧ m ≤ 6 ∧ m ≤ n := ⟨_, rfl, Nat.min_le_right _ _, Nat.min_le_left _ _⟩
  rw [← hm]
  clear hmin hm
  have HLm := Lib.hid (fun i (h : i < m) => Nat.le_trans (Nat.le_of_eq (HL.out i (Nat.lt_of_lt_of_le h hmn'))) (Nat.min_le_right _ 20))
  go_loopw [7] (fun i wr => ∃ k : Nat, k ≤ m ∧ i = .int .i64 k ∧ Hid (TP w wr d F k)) (fun i _ => m - (intOf i).toNat)
  case atStart => exact ⟨0, Nat.zero_le _, rfl, I1⟩
  case round =>
    obtain ⟨k, hk, rfl, I⟩ := hrel
    clear I1
    by_cases hlt : k < m
    · have h1 : (k : Int) < m := by omega
      obtain ⟨M, D, hB, hb⟩ := I.out
      obtain ⟨g, o, rfl, hcell⟩ := (HB.out.below hq.out hB) (by omega)
      have c0 := hcell k (by omega)
      have hG := ((HG.out k (by omega)).on hB)
      have hG2 := hG.1
      have hR : rdB wr (cutS (F k)) = rowR w F k := ((cut_good (HG.out k (by omega))).on hB).2
      have hok := torn_ok (R := rowR w F) (i := k) (by omega) (fun j hj => HLm.out j (by omega))
      have hput := put_c w.heap.size d M _ k wr D (hok.1.mono (Nat.le_refl _) (by decide)) (by omega) k ⟨by omega, by omega⟩ (cutS (F k)) (cut_good hG2) (by unfold cutS; dsimp only; omega) hb
      rw [hR, hok.2 _ (HLm.out k hlt) (by omega) rfl] at hput
      have hfew := few_c (F k).1 (F k).2.1 (F k).2.2 20 hG2.cap wr
      unfold cutS at hput
      generalize F k = s at c0 hput hfew
      obtain ⟨sq, sn, sc⟩ := s
      simp only [slV] at c0 hput hfew
      have HP := Lib.hid hput
      have HF := Lib.hid hfew
      have HBB := Lib.hid hB
      have hkn : (k : Int) < n := by omega
      have hk0 : (0 : Int) ≤ (k : Int) := by omega
      have HD := Lib.hid D
      clear hput hfew hB hok hR hG hG2 hcell I D
      go_wp2_with first
        | (go_at_call 11; refine HF.out.mono ?_; rintro e_ w2 ⟨rfl, rfl⟩)
        | (go_at_call 10; refine HP.out.mono ?_; rintro e_ w3 ⟨rfl, t3⟩; have HT := Lib.hid t3; clear t3)
      obtain ⟨h3, b3, M3, D3⟩ := HT.out.out HD.out hb
      exact ⟨⟨k + 1, hlt, by go_num, Lib.hid ⟨M3, D3, HBB.out.trans h3, b3⟩⟩, next_less' hlt⟩
    · obtain rfl : k = m := by omega
      have h1 : ¬ (k : Int) < k := by omega
      obtain ⟨M, D, hB, hb⟩ := I.out
      have hok := (torn_ok (R := rowR w F) (i := k) (by omega) (fun j hj => HLm.out j hj)).1
      have HOK := Lib.hid hok
      have HBB := Lib.hid hB
      have hle : lenB (tornS (rowR w F) k).l ≤ 120 := Nat.le_trans (lenB_le (M := 20) fun p hp => hok.size p (List.mem_append.2 (.inr hp))) (by show (rowsT _ _).length * 20 ≤ 120; rw [rowsT_len]; omega)
      have hall : ((tornS (rowR w F) k).crash lf).2 = mxI ((lenB (tornS (rowR w F) k).l : Int) - lf) 0 := by
        unfold DS.crash keepB mxI
        dsimp only
        omega
      have hcr : ((tornS (rowR w F) k).crash lf).1.safe = crashL [] (rowsT (rowR w F) k) lf := by
        show crashL [] (rowsT (rowR w F) k) (min (lf : Int).toNat (lenB (rowsT (rowR w F) k))) = _
        rw [crash_cap]; rfl
      have hcrl : ((tornS (rowR w F) k).crash lf).1.l = [] := rfl
      have HC := Lib.hid (fun W (D : DiskIs W w.heap.size M d (tornS (rowR w F) k)) => crash_c w.heap.size d M _ k W D (hok.mono (Nat.le_refl _) (by decide)) (by omega) lf)
      rw [hall] at HC
      have HOK2 := Lib.hid (hok.crash lf)
      have HCR := Lib.hid (And.intro hcr hcrl)
      clear hok hB I hall hcr hcrl
      generalize hS6 : ((tornS (rowR w F) k).crash lf).1 = S6 at HC HOK2 HCR
      clear hS6
      generalize hal : lenB (tornS (rowR w F) k).l = al at HC hle
      have k1 : -9223372036854775808 ≤ (al : Int) - lf := by omega
      have k2 : (al : Int) - lf ≤ 9223372036854775807 := by omega
      have HAL := Lib.hid hal
      clear hal
      go_upto_region 16 with first
        | (go_at_call 12; refine (HA.out _).mono ?_; rintro e_ w1 ⟨rfl, rfl⟩)
        | (go_at_call 13; refine (left_c w.heap.size d M _ k wr D (HOK.out.mono (Nat.le_refl _) (by decide)) (by omega)).mono ?_; rintro e_ w4 ⟨rfl, h4⟩; rw [HAL.out])
        | (go_at_call 14; refine (HC.out _ (D.on h4)).mono ?_; rintro e_ w5 ⟨rfl, t5⟩)
      obtain ⟨h5, b5, M5, D5⟩ := t5.out (D.on h4) (Nat.le_trans hb h4.size)
      have H5 := Lib.hid (((HBB.out.trans (h4.mono hb)).trans h5))
      have C0 : Hid (TornAt (rowR w F) k S6.now 0 false lf) := Lib.hid (by
        unfold DS.now
        rw [HCR.out.1, HCR.out.2]
        exact torn_start _ _ _ (by omega))
      have HD5 := Lib.hid D5
      clear t5 h4 h5 D5 D HBB HOK HC HCR
      go_loopw [8, 10, 11] (fun l t i wr => ∃ (j : Nat) (t' : Bool) (l' : Int), j ≤ k ∧ i = .int .i64 j ∧ t = .bool t' ∧ l = .int .i64 l' ∧ Hid (TornAt (rowR w F) k S6.now j t' l') ∧ Hid (Below w5.heap.size w5 wr)) (fun _ _ i _ => k - (intOf i).toNat)
      case atStart => exact ⟨0, false, lf, Nat.zero_le _, rfl, rfl, rfl, C0, Lib.hid (Below.refl _ _)⟩
      case round =>
        obtain ⟨j, t', l', hj, rfl, rfl, rfl, C, HW⟩ := hrel
        clear C0 h1
        by_cases hlt : j < k
        · have h1 : (j : Int) < k := by omega
          have hB := H5.out.trans (HW.out.mono b5)
          obtain ⟨g, o, rfl, hcell⟩ := (HB.out.below hq.out hB) (by omega)
          have c0 := hcell j (by omega)
          have hG := cut_good ((HG.out j (by omega)).on hB).1
          have hR : rdB wr (cutS (F j)) = rowR w F j := ((cut_good (HG.out j (by omega))).on hB).2
          have hRl := HL.out j (by omega)
          have hfew := few_c (F j).1 (F j).2.1 (F j).2.2 20 ((HG.out j (by omega)).on hB).1.cap wr
          have hget := get_c w.heap.size d M5 S6 k wr (HD5.out.on HW.out) (HOK2.out.mono (Nat.le_refl _) (by decide)) (by omega) j ⟨by omega, by omega⟩
          unfold DS.get at hget
          unfold cutS at hG hR
          generalize F j = s at c0 hfew hG hR hRl
          obtain ⟨sq, sn, sc⟩ := s
          simp only [slV] at c0 hfew
          dsimp only at hG hR hRl
          have hno20 : min sn 20 ≤ 20 := Nat.min_le_right _ _
          generalize min sn 20 = no at hfew hG hR hRl hno20
          have hcap := hG.cap
          dsimp only at hcap
          have HF := Lib.hid hfew
          have hkn : (j : Int) < n := by omega
          have hk0 : (0 : Int) ≤ (j : Int) := by omega
          clear hfew hcell
          rcases C.out with ⟨rfl, hno⟩ | ⟨rfl, k', s0, rfl, hk9, hC, hs, hks⟩
          · have hg : getL S6.now j = none := hno j (Int.le_refl _)
            rw [hg] at hget
            simp only [Option.isSome_none, Option.getD_none] at hget
            have HN := Lib.hid (show TornAt (rowR w F) k S6.now (j + 1) true l' from .inl ⟨rfl, fun i hi => hno i (by omega)⟩)
            have HGT := Lib.hid hget
            have HGG := Lib.hid hG
            clear C hno hg hget hR hRl hG hB
            have hmin : mnI (no : Int) 0 = 0 := by unfold mnI; omega
            go_upto_region 20 with first
              | (go_at_call 11; refine HF.out.mono ?_; rintro e_ w2 ⟨rfl, rfl⟩)
              | (go_at_call 15; refine HGT.out.mono ?_; rintro e_ w6 ⟨⟨sq', sn', sc'⟩, rfl, hg6, hr6, h6⟩; simp only [slV])
            have hl6 := hg6.len
            rw [hr6] at hl6
            obtain rfl : sn' = 0 := hl6.symm
            have hcut := ((HGG.out.on h6).1).cut (k := 0) (Nat.zero_le _)
            have hsm := same_s hg6 hcut.1 (by rw [hr6, hcut.2, List.take_zero])
            simp only [slV] at hsm
            have HS := Lib.hid hsm
            have H6 := Lib.hid h6
            clear hl6 hcut hsm hg6 hr6 h6
            go_wp2_with (go_at_call 16; refine HS.out.mono ?_; rintro e_ w7 ⟨rfl, rfl⟩)
            exact ⟨⟨j + 1, true, l', hlt, by go_num, rfl, rfl, HN, Lib.hid (after HW.out H6.out)⟩, next_less' hlt⟩
          · have hg : getL S6.now j = some ((rowR w F j).take k') := by rw [hC]; exact torn_get hlt hs
            rw [hg] at hget
            simp only [Option.isSome_some, Option.getD_some] at hget
            have hw1 : no ≤ k' → TornAt (rowR w F) k S6.now (j + 1) false ((k' : Int) - no) := fun h => by rw [hC, ← hRl]; exact torn_whole hlt hs hks (by omega) hk9
            have hw2 : k' < no → ∀ l, TornAt (rowR w F) k S6.now (j + 1) true l := fun h l => by rw [hC]; exact torn_part hlt hs hks (by omega) l
            have HN := Lib.hid (And.intro hw1 hw2)
            have HGT := Lib.hid hget
            have HGG := Lib.hid hG
            have HR := Lib.hid (And.intro hR hRl)
            clear C hg hget hR hRl hG hB hw1 hw2 hC hs hks
            go_upto_region 20 with first
              | (go_at_call 11; refine HF.out.mono ?_; rintro e_ w2 ⟨rfl, rfl⟩)
              | (go_at_call 15; refine HGT.out.mono ?_; rintro e_ w6 ⟨⟨sq', sn', sc'⟩, rfl, hg6, hr6, h6⟩; simp only [slV])
            have hl6 := hg6.len
            rw [hr6, List.length_take, HR.out.2] at hl6
            dsimp only at hl6
            have hnb : sn' ≤ no := by omega
            have hcut := ((HGG.out.on h6).1).cut (k := sn') hnb
            have hsm := same_s hg6 hcut.1 (by
              rw [hr6, hcut.2, ((HGG.out.on h6)).2, HR.out.1]
              exact List.take_eq_take_iff.2 (by rw [HR.out.2]; omega))
            simp only [slV] at hsm
            have HS := Lib.hid hsm
            have H6 := Lib.hid h6
            have hmin : mnI (no : Int) (sn' : Int) = (sn' : Int) := by unfold mnI; omega
            have hmin2 : mnI (no : Int) (k' : Int) = (sn' : Int) := by unfold mnI; omega
            have k1 : -9223372036854775808 ≤ (k' : Int) - sn' := by omega
            have k2 : (k' : Int) - sn' ≤ 9223372036854775807 := by omega
            clear hcut hsm hg6 hr6 h6
            by_cases hto : no ≤ k'
            · obtain rfl : sn' = no := by omega
              have HN1 := Lib.hid (HN.out.1 hto)
              clear hl6 HN
              go_wp2_with (go_at_call 16; refine HS.out.mono ?_; rintro e_ w7 ⟨rfl, rfl⟩)
              exact ⟨⟨j + 1, false, (k' : Int) - sn', hlt, by go_num, rfl, rfl, HN1, Lib.hid (after HW.out H6.out)⟩, next_less' hlt⟩
            · obtain rfl : sn' = k' := by omega
              have HN1 := Lib.hid (HN.out.2 (by omega) 0)
              have hto2 : (sn' : Int) < no := by omega
              clear hl6 HN
              go_wp2_with (go_at_call 16; refine HS.out.mono ?_; rintro e_ w7 ⟨rfl, rfl⟩)
              exact ⟨⟨j + 1, true, 0, hlt, by go_num, rfl, rfl, HN1, Lib.hid (after HW.out H6.out)⟩, next_less' hlt⟩
        · obtain rfl : j = k := by omega
          have h1 : ¬ (j : Int) < j := by omega
          go_wp2_with (go_at_call 17; refine (lives8_c _).mono ?_; rintro e_ w8 ⟨rfl, h8⟩)
          go_returns
          exact ⟨rfl, after (H5.out.trans (HW.out.mono b5)) h8⟩
set_option maxRecDepth 100000 in
theorem diskTorn_lifted (os : Os) (started : os.Started) (H : Type) (enc : TypeId × Value → H) :
    ReturnsInHanded {} Try.checked os 3 .any (Rows.diskTornSpec.pre6 enc Try.prog Try.f3 Rows.diskTornRow.domain false) (Rows.diskTornSpec.post enc Try.prog Try.f3 false true false false) := by
  refine returnsInHanded_of_change (C := Try.checked) own started (by kernel_rfl) Try.func3
    (ChangeSpec.witness6 (enc := enc) (C := Try.checked) false ⟨#[], #[.slice none 0 0, .int .i64 0], []⟩ 8 (by kernel_rfl) (by kernel_rfl) (by kernel_rfl) (by kernel_rfl)) ?_
  intro W base args ds gs before hval0 hW hcnd hsz
  have hval : ∀ (j : Nat) t v, Try.f3.params[j]? = some t → args[j]? = some v → Value.okWide Try.prog W .any base t v := hval0
  have hW' := hW
  obtain ⟨p, q, hA0, hV, rfl, hfz, hnd⟩ := hW
  have hA : DataW.TrodAll enc Try.prog W 0 (fun _ => true) true Try.f3.params.toList args.toList ds p := hA0
  rw [Try.params3] at hA hval
  obtain ⟨v0, vs0, d0, ds0, p_0, q_0, hargs, rfl, rfl, h0, r_0⟩ := trodAll_cons hA
  obtain ⟨v1, vs1, d1, ds1, p_1, q_1, rfl, rfl, rfl, h1, r_1⟩ := trodAll_cons r_0
  obtain ⟨rfl, rfl, rfl⟩ := trodAll_nil r_1
  obtain rfl : args = #[v0, v1] := by cases args; simp_all
  obtain ⟨rfl, rfl⟩ := trodVars_none hV
  obtain ⟨A0, n0, k0, l0, rfl, b0, c0, e0, f0⟩ := open_rows Try.underlying22 Try.underlying27 Try.underlying5 (by kernel_rfl) (by kernel_rfl) (hval 0 22 v0 rfl rfl) h0
  obtain ⟨a1, rfl, rfl, rfl, w1⟩ := open_int Try.underlying3 (hval 1 3 v1 rfl rfl) h1
  refine (diskTorn_w A0 n0 k0 l0 b0 c0 a1 (in64_of_wf w1) W e0 f0).mono fun e W' ⟨he, hb⟩ => ?_
  subst he
  exact ⟨_, rfl, law_post laidOut (by kernel_rfl) rfl (by kernel_rfl) Try.underlying4 hW' rfl rfl rfl hb⟩

/-- The statement. -/
theorem diskTorn_proved : Rows.DiskTornSaid :=
  OpenClaim.holds_of_wide 3 Try.f3 rfl rfl rfl rfl rfl rfl rfl ⟨rfl, rfl, rfl, rfl, rfl⟩ rfl rfl rfl rfl rfl (by kernel_rfl) Try.func3 (by kernel_rfl)
    (of_decide_eq_true (by kernel_rfl)) (by unfold Func.isWrapper; first | (rw [if_pos (by decide +kernel)]; kernel_rfl) | (rw [if_neg (by decide +kernel)]; exact ⟨rfl, rfl⟩))
    (fun os started H enc _ => diskTorn_lifted os started H enc)
end Go.Proofs.Ytlmjggbpophnfaa
