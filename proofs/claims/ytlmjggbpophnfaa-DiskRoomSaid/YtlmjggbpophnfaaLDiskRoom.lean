/- DiskRoom holds: for any room, any blobs. -/
import Derived.Test.YtlmjggbpophnfaaDiskC
namespace Go.Proofs.Ytlmjggbpophnfaa
open Go.ChangeShapes Go.WideShapes Go.ChangeAt Go.RowKit Go.Maps
attribute [local go_sem] Oper.semAt_some

/-- Ahead of a round. -/
def RI (w wr : World) (d : Nat) (r : Int) (k : Nat) : Prop := ∃ M S, DiskIs wr w.heap.size M d S ∧ DOk S k 20 ∧ S.waits = 0 ∧ S.fails = 0 ∧ S.room = r ∧ (lenB S.now : Int) ≤ r ∧ Below w.heap.size w wr ∧ w.heap.size ≤ wr.heap.size
theorem fits_is {S : DS} {N M : Nat} {key : Int} {b : Bs} (h : DOk S N M) : lenB (putL S.now (key, b)) + ((S.get key).getD []).length = lenB S.now + b.length := by
  have := lenB_put (key, b) h.now.1
  exact this
set_option maxRecDepth 100000 in
set_option maxHeartbeats 8000000 in
theorem diskRoom_w (a : Int) (ha : In64 a) (q : Option Addr) (n cap : Nat) (F : Nat → SL) (hn : n ≤ cap) (hm : cap ≤ maxLen) (w : World) (hb : Sls w q n F) (hg : ∀ i, i < n → GoodS w w.heap.size (F i)) :
    Calls Try.prog 4 #[.int .i64 a, .slice q n cap] w fun r w' => r = .returned (.bool true) ∧ Below w.heap.size w w' := by
  have x1 := arI_lo a (m := 61) (by decide)
  have x2 := arI_hi a (m := 61) (by decide)
  have HA := Lib.hid (around_c a 61 ha.1 ha.2 (by decide))
  generalize arI a 61 = r at HA x1 x2
  clear ha
  have HB := Lib.hid hb
  have HG := Lib.hid hg
  have HM := Lib.hid (And.intro hn hm)
  clear hb hn hm hg
  go_enter Try.func4, Try.ntmps4
  go_upto_region 6 with first
    | (go_at_call 12; refine (HA.out _).mono ?_; rintro e_ w1 ⟨rfl, rfl⟩)
    | (go_at_call 9; refine (new_c r w.heap.size w (Nat.le_refl _)).mono ?_; rintro e_ w1 ⟨d, M, rfl, D1, -, h1⟩)
  have I1 : Hid (RI w w1 d r 0) := Lib.hid ⟨M, _, D1, (newS_ok r).mono (Nat.le_refl _) (by decide), rfl, rfl, by unfold newS mnI mxI; dsimp only; omega, by show ((0 : Nat) : Int) ≤ r; omega, h1, h1.size⟩
  clear D1 h1
  go_loopw [6] (fun i wr => ∃ k : Nat, k ≤ n ∧ k ≤ 10 ∧ i = .int .i64 k ∧ Hid (RI w wr d r k)) (fun i _ => n - (intOf i).toNat)
  case atStart => exact ⟨0, Nat.zero_le _, Nat.zero_le _, rfl, I1⟩
  case round =>
    obtain ⟨k, hk, hk12, rfl, I⟩ := hrel
    clear I1 hk12
    have hdone : ¬ ((k : Int) < n) ∨ ((k : Int) < n ∧ ¬ ((k : Int) < 10)) ∨ (k < n ∧ k < 10) := by omega
    rcases hdone with h1 | ⟨h1, h2⟩ | ⟨hlt, hk12⟩
    · obtain ⟨M, S, D, -, -, -, -, -, hB, hb⟩ := I.out
      have HBB := Lib.hid hB
      clear hB D
      go_wp2_with (go_at_call 17; refine (lives8_c _).mono ?_; rintro e_ w3 ⟨rfl, h3⟩)
      go_returns
      exact ⟨rfl, after HBB.out h3⟩
    · obtain ⟨M, S, D, -, -, -, -, -, hB, hb⟩ := I.out
      have HBB := Lib.hid hB
      clear hB D
      go_wp2_with (go_at_call 17; refine (lives8_c _).mono ?_; rintro e_ w3 ⟨rfl, h3⟩)
      go_returns
      exact ⟨rfl, after HBB.out h3⟩
    · have h1 : (k : Int) < n := by omega
      have h2 : (k : Int) < 10 := by omega
      have hk0 : (0 : Int) ≤ (k : Int) := by omega
      obtain ⟨M, S, D, hok, hw, hf, hr, hle, hB, hb⟩ := I.out
      obtain ⟨g, o, sq, sn, sc, no, rfl, c0, hno, hG, hfew⟩ := row_at HB.out HG.out hB hlt
      have hlen := hG.len
      dsimp only at hlen
      have hcap := hG.cap
      dsimp only at hcap
      have hget := get_x D (hok.mono (Nat.le_refl _) (by decide)) (by omega) (k := ((k % 4 : Nat) : Int)) ⟨by omega, by omega⟩
      have hnl : lenB S.now ≤ 60 := by omega
      have his := fits_is (key := ((k % 4 : Nat) : Int)) (b := rdB wr (sq, no, sc)) hok
      rw [hlen] at his
      have HF := Lib.hid hfew
      have HGT := Lib.hid hget
      have HBB := Lib.hid hB
      have HGG := Lib.hid (And.intro hG hlen)
      have HOK := Lib.hid hok
      have HS := Lib.hid (And.intro hw (And.intro hf hr))
      have HIS := Lib.hid his
      have HLE := Lib.hid hle
      clear hfew hget hB hG hok hw hf hr hlen hle I
      go_upto_region 11 with first
        | (go_at_call 11; refine HF.out.mono ?_; rintro e_ w2 ⟨rfl, rfl⟩)
        | (go_at_call 15; refine (HGT.out _ (rem4 (by first | exact .inl rfl | exact .inr rfl))).mono ?_; rintro e_ w3 ⟨⟨sq', sn', sc'⟩, rfl, hg3, hr3, h3⟩; simp only [slV]; have HG3 := Lib.hid (And.intro hg3 hr3); clear hg3 hr3)
        | (go_at_call 18; refine (len_c w.heap.size d M S k w3 (D.on h3) (HOK.out.mono (Nat.le_refl _) (by decide)) (by omega)).mono ?_; rintro e_ w4 ⟨rfl, h4⟩)
      have h34 := after h3 h4
      have hg4 := (HG3.out.1.on h4).1
      have hr4 := (HG3.out.1.on h4).2.trans HG3.out.2
      have hl4 := hg4.len
      rw [hr4] at hl4
      dsimp only at hl4
      rw [hl4] at his
      have hn20 : sn' ≤ 60 := by
        have := lenB_put ((((k % 4 : Nat) : Int)), ([] : Bs)) HOK.out.now.1
        dsimp only at this
        have e : sizeAt S.now ((k % 4 : Nat) : Int) = sn' := hl4
        rw [e] at this
        simp only [List.length_nil] at this
        omega
      have D4 := D.on h34
      have G4 := HGG.out.1.on h34
      have hput := put_x D4 (HOK.out.mono (Nat.le_refl _) (by decide)) (by omega) (k := ((k % 4 : Nat) : Int)) ⟨by omega, by omega⟩ G4.1 (by dsimp only; omega) (Nat.le_trans hb h34.size)
      rw [G4.2] at hput
      dsimp only at hput
      have B4 := HBB.out.trans (h34.mono hb)
      have b4 := Nat.le_trans hb h34.size
      have HB4 := Lib.hid B4
      have HG4 := Lib.hid (And.intro hg4 hr4)
      have HL4 := Lib.hid hl4
      have HD4 := Lib.hid D4
      have HGG4 := Lib.hid (And.intro G4.1 G4.2)
      have ifit : -9223372036854775808 ≤ (lenB S.now : Int) - sn' ∧ (lenB S.now : Int) - sn' ≤ 9223372036854775807 ∧ -9223372036854775808 ≤ (lenB S.now : Int) - sn' + no ∧ (lenB S.now : Int) - sn' + no ≤ 9223372036854775807 := by omega
      obtain ⟨i1, i2, i3, i4⟩ := ifit
      have hgB := fun (h : S.fits ((k % 4 : Nat) : Int) (rdB wr (sq, no, sc)) = true) => dput_ok HS.out.1 HS.out.2.1 h
      have hgF := fun (h : S.fits ((k % 4 : Nat) : Int) (rdB wr (sq, no, sc)) = false) => dput_full HS.out.1 HS.out.2.1 h
      have HFT := Lib.hid (And.intro hgB hgF)
      clear hgB hgF B4 hg4 hr4 hl4 D4 G4 h34 h3 h4 HF HGT D HG3
      by_cases hfit : (lenB S.now : Int) - sn' + no ≤ r
      · have e1 : S.fits ((k % 4 : Nat) : Int) (rdB wr (sq, no, sc)) = true := by
          unfold DS.fits
          rw [decide_eq_true_iff, HS.out.2.2]
          omega
        rw [HFT.out.1 e1] at hput
        have hnow : (DS.now { S with l := S.l ++ [(((k % 4 : Nat) : Int), rdB wr (sq, no, sc))] }) = putL S.now (((k % 4 : Nat) : Int), rdB wr (sq, no, sc)) := nowL_snoc _ _ _
        have hok' : DOk { S with l := S.l ++ [(((k % 4 : Nat) : Int), rdB wr (sq, no, sc))] } (k + 1) 20 := by
          have := HOK.out.put (k := ((k % 4 : Nat) : Int)) (b := rdB wr (sq, no, sc)) ⟨by omega, by omega⟩ (by rw [HGG.out.2]; exact hno)
          rw [HFT.out.1 e1] at this
          exact this
        have hget' : DS.get { S with l := S.l ++ [(((k % 4 : Nat) : Int), rdB wr (sq, no, sc))] } ((k % 4 : Nat) : Int) = some (rdB wr (sq, no, sc)) := by
          unfold DS.get
          rw [hnow, getL_put _ _ HOK.out.now.1, if_pos rfl]
        have hle' : lenB (DS.now { S with l := S.l ++ [(((k % 4 : Nat) : Int), rdB wr (sq, no, sc))] }) + sn' = lenB S.now + no := by rw [hnow]; exact his
        have HS' := Lib.hid (show (({ S with l := S.l ++ [(((k % 4 : Nat) : Int), rdB wr (sq, no, sc))] } : DS).waits = 0 ∧ ({ S with l := S.l ++ [(((k % 4 : Nat) : Int), rdB wr (sq, no, sc))] } : DS).fails = 0 ∧ ({ S with l := S.l ++ [(((k % 4 : Nat) : Int), rdB wr (sq, no, sc))] } : DS).room = r) from HS.out)
        dsimp only at hput
        generalize ({ S with l := S.l ++ [(((k % 4 : Nat) : Int), rdB wr (sq, no, sc))] } : DS) = S' at hput hok' hget' hle' HS'
        have HP := Lib.hid hput
        clear hput hnow e1 HFT
        have hnl' : (lenB S'.now : Int) ≤ r := by omega
        have hnl2 : ¬ r < (lenB S'.now : Int) := by omega
        have HOK' := Lib.hid hok'
        have HGT' := Lib.hid hget'
        have HNL' := Lib.hid hnl'
        clear hok' hget' hle' his hnl'
        go_upto_region 13 with (go_at_call 10; refine (HP.out _ (rem4 (by first | exact .inl rfl | exact .inr rfl))).mono ?_; rintro e_ w5 ⟨rfl, t5⟩)
        obtain ⟨h5, b5, M5, D5⟩ := t5.out HD4.out b4
        have G5 := t5.good HD4.out HGG4.out.1
        have hget5 := get_x D5 (HOK'.out.mono (Nat.le_refl _) (by decide)) (by omega) (k := ((k % 4 : Nat) : Int)) ⟨by omega, by omega⟩
        rw [HGT'.out] at hget5
        simp only [Option.isSome_some, Option.getD_some] at hget5
        have HGT5 := Lib.hid hget5
        have HG5 := Lib.hid G5
        have HB5 := Lib.hid (HB4.out.trans h5)
        have HD5 := Lib.hid D5
        clear hget5 G5 h5 D5 t5 HD4 HB4
        go_upto_region 14 with (go_at_call 15; refine (HGT5.out _ (rem4 (by first | exact .inl rfl | exact .inr rfl))).mono ?_; rintro e_ w6 ⟨⟨sq6, sn6, sc6⟩, rfl, hg6, hr6, h6⟩; simp only [slV])
        have hsm := same_s hg6 (HG5.out.1.on h6).1 (by rw [hr6, (HG5.out.1.on h6).2, HG5.out.2, HGG4.out.2])
        simp only [slV] at hsm
        have HSM := Lib.hid hsm
        have H6 := Lib.hid h6
        have D6 := HD5.out.on h6
        have HLN := Lib.hid (len_c w.heap.size d M5 S' (k + 1) w6 D6 (HOK'.out.mono (Nat.le_refl _) (by decide)) (by omega))
        have HD6 := Lib.hid D6
        clear hg6 hr6 h6 hsm D6
        go_wp2_with first
          | (go_at_call 16; refine HSM.out.mono ?_; rintro e_ w7 ⟨rfl, rfl⟩)
          | (go_at_call 18; refine HLN.out.mono ?_; rintro e_ w8 ⟨rfl, h8⟩)
        exact ⟨⟨k + 1, hlt, hk12, by go_num, Lib.hid ⟨M5, S', HD6.out.on h8, HOK'.out, HS'.out.1, HS'.out.2.1, HS'.out.2.2, HNL'.out, after (after HB5.out H6.out) h8, Nat.le_trans b5 (after H6.out h8).size⟩⟩, next_less' hlt⟩
      · have e1 : S.fits ((k % 4 : Nat) : Int) (rdB wr (sq, no, sc)) = false := by
          unfold DS.fits
          rw [decide_eq_false_iff_not, HS.out.2.2]
          omega
        rw [HFT.out.2 e1] at hput
        dsimp only at hput
        have HP := Lib.hid hput
        clear hput e1 HFT his
        have hnl2 : ¬ r < (lenB S.now : Int) := by have := HLE.out; omega
        go_upto_region 13 with (go_at_call 10; refine (HP.out _ (rem4 (by first | exact .inl rfl | exact .inr rfl))).mono ?_; rintro e_ w5 ⟨rfl, t5⟩)
        obtain ⟨h5, b5, M5, D5⟩ := t5.out HD4.out b4
        have G5 := t5.good HD4.out HG4.out.1
        have hget5 := get_x D5 (HOK.out.mono (Nat.le_refl _) (by decide)) (by omega) (k := ((k % 4 : Nat) : Int)) ⟨by omega, by omega⟩
        have HGT5 := Lib.hid hget5
        have HG5 := Lib.hid G5
        have HB5 := Lib.hid (HB4.out.trans h5)
        have HD5 := Lib.hid D5
        clear hget5 G5 h5 D5 t5 HD4 HB4
        go_upto_region 14 with (go_at_call 15; refine (HGT5.out _ (rem4 (by first | exact .inl rfl | exact .inr rfl))).mono ?_; rintro e_ w6 ⟨⟨sq6, sn6, sc6⟩, rfl, hg6, hr6, h6⟩; simp only [slV])
        have hsm := fun W (hW : Below w6.heap.size w6 W) => same_s (hg6.on hW).1 (HG5.out.1.on (after h6 hW)).1 (by rw [(hg6.on hW).2, hr6, (HG5.out.1.on (after h6 hW)).2, HG5.out.2, HG4.out.2])
        simp only [slV] at hsm
        have HSM := Lib.hid hsm
        have H6 := Lib.hid h6
        have D6 := HD5.out.on h6
        have HLN := Lib.hid (fun W (hW : Below w6.heap.size w6 W) => len_c w.heap.size d M5 S k W (D6.on hW) (HOK.out.mono (Nat.le_refl _) (by decide)) (by omega))
        have HD6 := Lib.hid D6
        have H7 := Lib.hid (Below.refl w6.heap.size w6)
        clear hg6 hr6 h6 hsm D6
        go_wp2_with first
          | (go_at_call 16; refine (HSM.out _ H7.out).mono ?_; rintro e_ w7 ⟨rfl, rfl⟩)
          | (go_at_call 18; refine (HLN.out _ H7.out).mono ?_; rintro e_ w8 ⟨rfl, h8⟩; replace H7 := Lib.hid (after H7.out h8); clear h8)
        exact ⟨⟨k + 1, hlt, hk12, by go_num, Lib.hid ⟨M5, S, HD6.out.on H7.out, HOK.out.mono (Nat.le_succ _) (Nat.le_refl _), HS.out.1, HS.out.2.1, HS.out.2.2, HLE.out, after (after HB5.out H6.out) H7.out, Nat.le_trans b5 (after H6.out H7.out).size⟩⟩, next_less' hlt⟩
set_option maxRecDepth 100000 in
theorem diskRoom_lifted (os : Os) (started : os.Started) (H : Type) (enc : TypeId × Value → H) :
    ReturnsInHanded {} Try.checked os 4 .any (Rows.diskRoomSpec.pre6 enc Try.prog Try.f4 Rows.diskRoomRow.domain false) (Rows.diskRoomSpec.post enc Try.prog Try.f4 false true false false) := by
  refine returnsInHanded_of_change (C := Try.checked) own started (by kernel_rfl) Try.func4
    (ChangeSpec.witness6 (enc := enc) (C := Try.checked) false ⟨#[], #[.int .i64 0, .slice none 0 0], []⟩ 8 (by kernel_rfl) (by kernel_rfl) (by kernel_rfl) (by kernel_rfl)) ?_
  intro W base args ds gs before hval0 hW hcnd hsz
  have hval : ∀ (j : Nat) t v, Try.f4.params[j]? = some t → args[j]? = some v → Value.okWide Try.prog W .any base t v := hval0
  have hW' := hW
  obtain ⟨p, q, hA0, hV, rfl, hfz, hnd⟩ := hW
  have hA : DataW.TrodAll enc Try.prog W 0 (fun _ => true) true Try.f4.params.toList args.toList ds p := hA0
  rw [Try.params4] at hA hval
  obtain ⟨v0, vs0, d0, ds0, p_0, q_0, hargs, rfl, rfl, h0, r_0⟩ := trodAll_cons hA
  obtain ⟨v1, vs1, d1, ds1, p_1, q_1, rfl, rfl, rfl, h1, r_1⟩ := trodAll_cons r_0
  obtain ⟨rfl, rfl, rfl⟩ := trodAll_nil r_1
  obtain rfl : args = #[v0, v1] := by cases args; simp_all
  obtain ⟨rfl, rfl⟩ := trodVars_none hV
  obtain ⟨a0, rfl, rfl, rfl, w0⟩ := open_int Try.underlying3 (hval 0 3 v0 rfl rfl) h0
  obtain ⟨A1, n1, k1, l1, rfl, b1, c1, e1, f1⟩ := open_rows Try.underlying22 Try.underlying27 Try.underlying5 (by kernel_rfl) (by kernel_rfl) (hval 1 22 v1 rfl rfl) h1
  refine (diskRoom_w a0 (in64_of_wf w0) A1 n1 k1 l1 b1 c1 W e1 f1).mono fun e W' ⟨he, hb⟩ => ?_
  subst he
  exact ⟨_, rfl, law_post laidOut (by kernel_rfl) rfl (by kernel_rfl) Try.underlying4 hW' rfl rfl rfl hb⟩

/-- The statement. -/
theorem diskRoom_proved : Rows.DiskRoomSaid :=
  OpenClaim.holds_of_wide 4 Try.f4 rfl rfl rfl rfl rfl rfl rfl ⟨rfl, rfl, rfl, rfl, rfl⟩ rfl rfl rfl rfl rfl (by kernel_rfl) Try.func4 (by kernel_rfl)
    (of_decide_eq_true (by kernel_rfl)) (by unfold Func.isWrapper; first | (rw [if_pos (by decide +kernel)]; kernel_rfl) | (rw [if_neg (by decide +kernel)]; exact ⟨rfl, rfl⟩))
    (fun os started H enc _ => diskRoom_lifted os started H enc)
end Go.Proofs.Ytlmjggbpophnfaa
