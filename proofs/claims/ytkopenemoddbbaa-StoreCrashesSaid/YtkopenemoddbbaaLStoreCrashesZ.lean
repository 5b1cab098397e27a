/- StoreCrashes holds: for any deeds but spoiling. -/
import Derived.Test.YtkopenemoddbbaaMa8
import Derived.Deep.CutRange
namespace Go.Proofs.Ytkopenemoddbbaa
open Go.ChangeShapes Go.WideShapes Go.ChangeAt Go.RowKit Go.Maps
attribute [local go_sem] Oper.semAt_some

/-- Ahead of each deed. -/
def CrX (w W : World) (s d rb tb bb k : Nat) : Prop := ∃ S told bod a b sl ll Rw, Cr w W s d rb tb bb S told bod a b sl ll Rw ∧ CI S told bod k
theorem row_nil {w : World} : RowR w (none, 0, 0) [] := ⟨rfl, Nat.le_refl _, Nat.zero_le _, fun h => absurd h (by decide)⟩
set_option maxRecDepth 100000 in
set_option maxHeartbeats 16000000 in
theorem storeCrashes_w (q : Option Addr) (n cap : Nat) (F : Nat → Dee) (hn : n ≤ cap) (_ : cap ≤ maxLen) (w : World) (hD : Dd9 w q n F) (hF : ∀ i, i < n → In64 (F i).1 ∧ In64 (F i).2.1 ∧ In64 (F i).2.2.1 ∧ GoodS w w.heap.size (F i).2.2.2.2) :
    Calls Try.prog 7 #[.slice q n cap] w fun r w' => r = .returned (.bool true) ∧ Below w.heap.size w w' := by
  have hmn := @run_mn Try.prog
  have HD := Lib.hid (And.intro hD hF)
  have HM := Lib.hid hn
  clear hD hF hn
  go_enter Try.func7, Try.ntmps7
  go_upto_region 4 with (go_at_call 17; refine (snew_e 100000 w w (Below.refl _ _)).mono ?_; rintro e_ w1 ⟨s, d, rfl, A1, h1⟩)
  go_upto_region 5 with (go_at_call 21; refine (rnew_c 100000 w1).mono ?_; rintro e_ w2 ⟨rfl, h2⟩; simp only [dv, slV])
  go_upto_region 7 with (fail)
  generalize hV : World.alloc (World.alloc (World.alloc w2 _) _) _ = W2
  have I2 : Hid (CrX w W2 s d w2.heap.size (w2.heap.size + 1) (w2.heap.size + 1 + 1) 0) := Lib.hid (by
    have e1 : ∀ o : Obj, (w2.alloc o).heap.size = w2.heap.size + 1 := fun o => by simp
    have e2 : ∀ o o' : Obj, ((w2.alloc o).alloc o').heap.size = w2.heap.size + 1 + 1 := fun o o' => by simp
    have hs2 : w.heap.size ≤ w2.heap.size := Nat.le_trans (by obtain ⟨M, -, -, h⟩ := A1; exact h) h2.size
    have hB3 : Below w2.heap.size w2 W2 := by
      rw [← hV]
      exact ((bel_alloc w2 _).trans (bel_alloc' (by rw [e1]; omega) _)).trans (bel_alloc' (by rw [e2]; omega) _)
    refine ⟨newS 100000, fun _ => 0, fun _ => [], (none, 0, 0), (none, 0, 0), [], [], fun _ => (none, 0, 0), ⟨(A1.on h2).on hB3, ⟨row_nil, row_nil, fun p hp => (by cases hp), fun p hp => (by cases hp), rfl, rfl⟩, ?_, ?_, ?_, Rows4.zero _ _, hs2, by omega, by omega⟩, ci_zero⟩
    · rw [← hV]; exact ((Blk.new' rfl).alloc _).alloc _
    · rw [← hV]; exact (Blk.new' (e1 _).symm).alloc _
    · rw [← hV]; exact Blk.new' (e2 _ _).symm)
  clear hV A1 h1 h2
  generalize w2.heap.size = rb at I2 ⊢
  generalize rb + 1 + 1 = bb at I2 ⊢
  generalize rb + 1 = tb at I2 ⊢
  go_upto_region 8 with (fail)
  go_loopw [7] (fun i wr => ∃ k : Nat, k ≤ n ∧ k ≤ 40 ∧ i = .int .i64 k ∧ Hid (CrX w wr s d rb tb bb k)) (fun i _ => n - (intOf i).toNat)
  case atStart => exact ⟨0, Nat.zero_le _, Nat.zero_le _, rfl, I2⟩
  case round =>
    obtain ⟨k, hk, hk12, rfl, I⟩ := hrel
    clear I2
    have hdone : ¬ ((k : Int) < n) ∨ ((k : Int) < n ∧ ¬ ((k : Int) < 40)) ∨ (k < n ∧ k < 40) := by omega
    rcases hdone with h1 | ⟨h1, h2⟩ | ⟨hlt, hk13⟩
    · go_wp2_with (go_at_call 16; refine (slives_c _).mono ?_; rintro e_ w14 ⟨rfl, h14⟩; have H14 := Lib.hid h14; clear h14)
      go_returns
      obtain ⟨S, told, bod, a, b, sl, ll, Rw, hc, -⟩ := I.out
      exact ⟨rfl, after hc.below H14.out⟩
    · go_wp2_with (go_at_call 16; refine (slives_c _).mono ?_; rintro e_ w14 ⟨rfl, h14⟩; have H14 := Lib.hid h14; clear h14)
      go_returns
      obtain ⟨S, told, bod, a, b, sl, ll, Rw, hc, -⟩ := I.out
      exact ⟨rfl, after hc.below H14.out⟩
    · have h1 : (k : Int) < n := by omega
      have h2 : (k : Int) < 40 := by omega
      have hk0 : (0 : Int) ≤ (k : Int) := by omega
      have hkc : k < cap := by have := HM.out; omega
      obtain ⟨S, told, bod, a, b, sl, ll, Rw, hC, hI⟩ := I.out
      obtain ⟨g, o, rfl, hcell⟩ := HD.out.1.below hC.below (by omega)
      obtain ⟨c0, c1, c2, c3, c4⟩ := Dd9.at hcell hlt
      obtain ⟨f0, f1, f2, f3⟩ := HD.out.2 k hlt
      have HFF := Lib.hid (And.intro f1 (And.intro f2 f3))
      generalize F k = x at *
      obtain ⟨kind, id, nn, u, xq, xn, xc⟩ := x
      simp only [slV] at c4
      have HC := Lib.hid hC
      have HI := Lib.hid hI
      clear hC hI hcell f0 f1 f2 f3 I
      go_upto_region 11 with (fail)
      generalize hV : World.alloc wr _ = W1
      have X1 : Blk W1 wr.heap.size 51 #[.int .i64 kind, .int .i64 id, .int .i64 nn, .int .u8 (n8 u), .slice xq xn xc] := Blk.eqw hV (Blk.new' rfl)
      have hb1 : Below wr.heap.size wr W1 := by rw [← hV]; exact bel_alloc _ _
      have HB1 := Lib.hid hb1
      obtain ⟨xb, hxb⟩ : ∃ xb, xb = wr.heap.size := ⟨_, rfl⟩
      rw [← hxb] at X1 ⊢
      have HXB := Lib.hid hxb
      have x0 := X1.cell 0
      have xf0 := X1.frz 0
      have HX1 := Lib.hid X1
      obtain ⟨kd, hkd⟩ : ∃ kd, kd = if kind = 4 then (5 : Int) else kind := ⟨_, rfl⟩
      have hk4 : kd ≠ 4 := by rw [hkd]; split <;> omega
      have HKD := Lib.hid hkd
      have HK4 := Lib.hid hk4
      clear hV hb1 c0 c1 c2 c3 c4 hxb X1 hkd hk4
      go_upto_if 42 with (fail)
      go_cut [] from 26 to 149 (fun wx => Hid (Blk wx xb 51 #[.int .i64 kd, .int .i64 id, .int .i64 nn, .int .u8 (n8 u), .slice xq xn xc] ∧ Below wr.heap.size wr wx))
      case first =>
        by_cases h4 : kind = 4
        · go_wp2_with fail
          go_meet
          case rel =>
            have e : kd = 5 := by rw [HKD.out, if_pos h4]
            rw [e]
            exact Lib.hid ⟨HX1.out.set_ 0 _, HB1.out.setCell (p := ⟨xb, 0, none⟩) (by have := HXB.out; dsimp only; omega) _⟩
        · go_wp2_with fail
          go_meet
          case rel =>
            have e : kd = kind := by rw [HKD.out, if_neg h4]
            rw [e]
            exact Lib.hid ⟨HX1.out, HB1.out⟩
      case rest =>
        obtain ⟨X2, hb2⟩ := hcut.out
        have hC2 := HC.out.on hb2
        have HX2 := Lib.hid X2
        have HB2 := Lib.hid hb2
        have i0 := arI_lo id (m := 4) (by decide)
        have i1 := arI_hi id (m := 4) (by decide)
        have HA := Lib.hid (around_c id 4 HFF.out.1.1 HFF.out.1.2 (by decide))
        obtain ⟨m, hm⟩ : ∃ m : Nat, arI id 4 = m := ⟨(arI id 4).toNat, by omega⟩
        rw [hm] at HA
        have hm4 : m < 4 := by omega
        have HMI := Lib.hid (And.intro hm hm4)
        have hok29 := HI.out.ok.mono (Nat.le_refl k) (show 29 ≤ 1000000 by decide)
        have hid : mayId (m : Int) = true := by unfold mayId; simp; omega
        have HL := Lib.hid (load_e hC2.st hok29 (by omega) (load_in hid))
        have HC2 := Lib.hid hC2
        have HOK := Lib.hid hok29
        have hx1 := X2.cell 1
        have hm0 : (0 : Int) ≤ m := by omega
        clear hcut hb2 X2 hC2 hm hok29 HX1 HB1 i0 i1 x0 xf0
        go_upto_region 15 with first
          | (go_at_call 13; refine (HA.out _).mono ?_; rintro e_ w' ⟨rfl, rfl⟩)
          | (go_at_call 19; refine HL.out.mono ?_; rintro e_ w3 ⟨q3, n3, c3, rfl, -, -, -, hb3⟩)
        have hC3 := HC2.out.on hb3
        have X3 := HX2.out.on hb3
        have HX3 := Lib.hid X3
        have hgs := (HFF.out.2.2.on hC3.below)
        have hbody := (HFF.out.2.2.cut (k := min xn 20) (Nat.min_le_left _ _)).1.on hC3.below
        obtain ⟨B, hB⟩ : ∃ B, rdB w (xq, min xn 20, xc) = B := ⟨_, rfl⟩
        have hBl : B.length ≤ 20 := by
          rw [← hB, (HFF.out.2.2.cut (k := min xn 20) (Nat.min_le_left _ _)).1.len]
          exact Nat.min_le_right _ _
        obtain ⟨M, hst, hbel, hsz⟩ := hC3.st
        have hcall := sdoes_c w.heap.size s d M S k w3 hst HOK.out (by omega) _ ⟨a, b, sl, ll, rfl, hC3.ref⟩ kd id nn u HFF.out.1 HFF.out.2.1 (xq, xn, xc) hgs.1 hsz
        dsimp only at hcall
        rw [hbody.2, hB] at hcall
        obtain ⟨S', hS'⟩ : ∃ S', doV S kd id nn u B = S' := ⟨_, rfl⟩
        have hdo := HI.out.does (by omega) (kind := kd) (nn := nn) (x := u) HMI.out.1 hm4 HK4.out hBl
        rw [hS'] at hcall hdo
        have HDO := Lib.hid hdo
        have HTT := Lib.hid (fun (W' : World) (t : Turn w3 w.heap.size M d S' W') => SAt.turn hst hbel hsz t)
        have HBO := Lib.hid (And.intro hB (And.intro hbody hBl))
        have HC3 := Lib.hid hC3
        have hR3 := hC3.rblk
        have x0 := X3.cell 0
        have x1 := X3.cell 1
        have x2 := X3.cell 2
        have x3 := X3.cell 3
        have x4 := X3.cell 4
        obtain ⟨aq, an, ac⟩ := a
        obtain ⟨bq, bn, bc⟩ := b
        simp only [dv, slV] at hR3 hcall
        have HCALL := Lib.hid hcall
        obtain ⟨⟨r0, r1, r2, r3, r4⟩, -⟩ := hR3.c5
        clear hcall hdo hst hbel hsz hbody hgs hb3 X3 hC3 hB hS' hR3 hx1 HL HA HB2 HX2
        go_upto_region 16 with (go_at_call 22; refine HCALL.out.mono ?_; rintro e_ w4 ⟨v4, rfl, t4, ⟨⟨aq', an', ac'⟩, ⟨bq', bn', bc'⟩, sl', ll', rfl, hR4⟩⟩; simp only [dv, slV])
        generalize hV : World.alloc w4 _ = W5
        have T5 : Blk W5 w4.heap.size 46 #[.int .i64 S'.room, .int .i64 S'.fails, .int .i64 S'.waits, .slice aq' an' ac', .slice bq' bn' bc'] := Blk.eqw hV (Blk.new' rfl)
        have h5 : Below w4.heap.size w4 W5 := by rw [← hV]; exact bel_alloc _ _
        obtain ⟨hst4, hs4⟩ := HTT.out w4 t4
        have R5 := (hs4.blk HC3.out.rblk (by decide)).on h5
        have X5 := (hs4.blk HX3.out (by decide)).on h5
        have HW5 := Lib.hid (And.intro hst4 (And.intro hs4 (And.intro hR4 (And.intro h5 (And.intro R5 X5)))))
        obtain ⟨⟨t0, t1, t2, t3, t4'⟩, -⟩ := T5.c5
        simp only [dv, slV] at R5
        obtain ⟨⟨r0, r1, r2, r3, r4⟩, f0, f1, f2, f3, f4⟩ := R5.c5
        clear hV h5 hst4 hs4 hR4 t4 T5 R5 X5 HCALL HTT x0 x1 x2 x3 x4
        go_upto_region 19 with (fail)
        generalize hV : World.setCell (World.setCell (World.setCell (World.setCell (World.setCell W5 _ _) _ _) _ _) _ _) _ _ = W6
        have hk6 : Kept (fun x => x ≠ rb) W5 W6 := by rw [← hV]; exact kept5 _ _ _ _ _
        have R6 : Blk W6 rb 46 (dv S' (aq', an', ac') (bq', bn', bc')) := Blk.eqw hV (HW5.out.2.2.2.2.1.st5 _ _ _ _ _)
        have hC6 := HC3.out.deed HW5.out.2.1 HW5.out.1 HW5.out.2.2.1 HW5.out.2.2.2.1 hk6 R6
        have X6 := hk6.blk (fun e => by subst e; have := blk_one HW5.out.2.2.2.2.2 HW5.out.2.2.2.2.1; revert this; decide) HW5.out.2.2.2.2.2
        have HC6 := Lib.hid hC6
        have HX6 := Lib.hid X6
        have hid : mayId (m : Int) = true := by unfold mayId; simp; omega
        have hok6 : DOk S' (k + 1) 1000000 := by
          rcases HDO.out with h | h
          · exact h.2.ok.mono (Nat.le_refl _) (by decide)
          · exact h.2.ok.mono (Nat.le_refl _) (by decide)
        have HOK6 := Lib.hid hok6
        have HL6 := Lib.hid (load_e hC6.st hok6 (by omega) (load_in hid))
        clear hV hk6 R6 hC6 X6 HW5 HC3 HX3 HC2 t0 t1 t2 t3 t4' r0 r1 r2 r3 r4 f0 f1 f2 f3 f4 hok6 HC
        go_upto_region 20 with (go_at_call 19; refine HL6.out.mono ?_; rintro e_ w7 ⟨q7, n7, c7, rfl, -, -, -, hb7⟩)
        have HC7 := Lib.hid (HC6.out.on hb7)
        have X7 := HX6.out.on hb7
        have HX7 := Lib.hid X7
        have x0 := X7.cell 0
        clear X7 hb7 HL6 HC6 HX6
        have hwas := ofV_int S m
        have hnow := ofV_int S' m
        obtain ⟨was, hwe⟩ : ∃ was, (ofV S m).2.1 = was := ⟨_, rfl⟩
        obtain ⟨now, hne⟩ : ∃ now, (ofV S' m).2.1 = now := ⟨_, rfl⟩
        rw [hwe] at hwas ⊢
        rw [hne] at hnow ⊢
        rw [hwe, hne] at HDO
        have HWE := Lib.hid hwe
        clear hwe hne
        generalize decide (0 < was) = bw
        generalize decide (0 < now) = bn
        obtain ⟨cnd, hcnd⟩ : ∃ cnd : Bool, cnd = (decide (kd = 0) && decide (was < now)) := ⟨_, rfl⟩
        have HCN := Lib.hid hcnd
        clear hcnd
        go_cut [78] from 26 to 149 (fun v78 wx => v78 = .bool cnd ∧ wx = w7)
        case first =>
          by_cases hkz : kd = 0
          · by_cases hlt2 : was < now
            · have e : cnd = true := by rw [HCN.out, hkz]; simpa using hlt2
              subst e
              subst hkz
              go_wp2_with fail
              go_meet
              case rel => exact ⟨rfl, rfl⟩
            · have e : cnd = false := by rw [HCN.out, hkz]; simpa using hlt2
              subst e
              subst hkz
              go_wp2_with fail
              go_meet
              case rel => exact ⟨rfl, rfl⟩
          · have e : cnd = false := by rw [HCN.out]; simp [hkz]
            subst e
            go_wp2_with fail
            go_meet
            case rel => exact ⟨rfl, rfl⟩
        case rest =>
        obtain ⟨rfl, rfl⟩ := hcut
        go_upto_if 78 with (fail)
        go_cut [] from 26 to 149 (fun wx => Hid (∃ bod' Rw', Cr w wx s d rb tb bb S' told bod' (aq', an', ac') (bq', bn', bc') sl' ll' Rw' ∧ CI S' told bod' (k + 1)))
        case first =>
          rcases HDO.out with ⟨hno, hci⟩ | ⟨⟨hk0, hinc⟩, hci⟩
          · have HCI := Lib.hid hci
            have e : cnd = false := by
              rw [HCN.out]
              simpa using hno
            subst e
            clear hno hci
            go_wp2_with fail
            go_meet
            case rel => exact Lib.hid ⟨bod, Rw, HC7.out, HCI.out⟩
          · have HCI := Lib.hid hci
            have e : cnd = true := by rw [HCN.out, hk0, hinc]; simp; omega
            subst e
            subst hinc
            clear hci hk0
            go_upto_region 21 with (fail)
            have hgd := HI.out.good m hm4
            rw [HWE.out] at hgd
            obtain ⟨wn, rfl⟩ := Int.eq_ofNat_of_zero_le hwas.1
            have hwl : wn ≤ (bod m).length := by have := hgd.2.2.1; omega
            have hbl : (bod m).length ≤ 1000 := by have := HI.out.lens m hm4; omega
            obtain ⟨qm, cm, hRm, hlc, hcm⟩ := HC7.out.rows.len hm4
            have hb0 := c4_at HC7.out.bblk hm4
            rw [hRm] at hb0
            simp only [slV] at hb0
            have b0 := fun d os => cell_regrown hb0 d os
            have x4 := fun d os => (HX7.out.re d os).cell 4
            have hmnw : mnI ((bod m).length : Int) (wn : Int) = wn := by unfold mnI; omega
            have hsub : IntKind.i64.wrap (wn : Int) = wn := IntWalk.i64_in _ (by omega)
            have hwc : wn ≤ cm := by omega
            have hw0 : (0 : Int) ≤ (wn : Int) := by omega
            have hfw := few_c xq xn xc 20 HFF.out.2.2.cap
            have HFW := Lib.hid hfw
            have HRM := Lib.hid (And.intro hRm (And.intro hwl hbl))
            generalize hlm : (bod m).length = lm at *
            have HLM := Lib.hid hlm
            clear hgd hb0 hfw hRm hbl hlm
            have hm4' : (m : Int) < 4 := by omega
            refine wp_sched [1, 0, 0, 0, 0, 0, 0, 0, 0, 0, 0, 0, 0, 0, 0, 2, 3, 1, 3] (fun _ v w => ∃ b, v = .slice (some ⟨b, 0, none⟩) 1 1 ∧ Blk w b 22 #[.slice xq (min xn 20) xc]) (by kernel_rfl) (by kernel_rfl) (fun _ _ _ _ ⟨b, h1, h2⟩ h => ⟨b, h1, h2.on h⟩) ?_
            repeat (first | (refine wpQs_s ?_) | (refine wpQs_q (fun K hK => ?_); go_simp; first | (refine hK _ ?_; clear hK K) | (apply Exists.intro; refine ⟨fun _ => ?_, hK _ ?_⟩; (exact (HFW.out _).mono fun _ _ ⟨he, hw⟩ => ⟨he, by rw [← hw]; exact Below.refl _ _⟩); clear hK K)) | (refine wpQs_f (fun K hK => ?_); go_simp; refine hK _ ?_; clear hK K))
            refine wpQs_nil ?_
            repeat (first | (refine wpLs_skip ?_) | (refine wpLs_one ?lsA (fun v_ => ?_); case lsA => (intro w_ hw_ hp_; (go_simp; exact ⟨Kept.of_below (bel_alloc _ _), Blk.new' rfl⟩))))
            refine wpLs_nilB ?_
            simp only [tails]
            rintro W8 h8 ⟨-, bq8, rfl, hB8⟩
            have hC8 := HC7.out.on h8
            have hsl := (HFF.out.2.2.cut (k := min xn 20) (Nat.min_le_left _ _)).1.on hC8.below
            obtain ⟨⟨qr, nr, cr⟩, w9, hrun, hrows, hk9⟩ := hC8.rows.push hm4 (v := (wn : Int)) (by rw [HLM.out]; have := HRM.out.2.1; simpa using this) (by rw [HLM.out]; exact HRM.out.2.2) hsl.1 (hB8.cell 0) hC8.size
            obtain ⟨hC9, hB9⟩ := hC8.push hm4 hrows hk9
            rw [HRM.out.1] at hrun
            rw [hsl.2, HBO.out.1] at hC9
            have hc9 := c4_at hB9 hm4
            have hf9 := hB9.frz m
            rw [HRM.out.1] at hc9
            dsimp only at hrun
            rw [Int.toNat_natCast] at hrun
            have HC9 := Lib.hid hC9
            simp only [slV] at hrun hc9 HC9
            clear hC8 hsl hrows hk9 hC9 hB9 hB8 h8 b0 x4
            go_wp2_with (at_builtin; refine Lib.wpList_append_run _ rfl _ _ _ _ rfl _ _ rfl rfl _ _ hrun ?_)
            go_meet
            case rel => exact Lib.hid ⟨_, _, HC9.out, HCI.out⟩
        case rest =>
          obtain ⟨bod', Rw', hC, hCI⟩ := hcut.out
          have HCI := Lib.hid hCI
          have I4 : Hid (∃ tj : Told, Cr w wc s d rb tb bb S' tj bod' (aq', an', ac') (bq', bn', bc') sl' ll' Rw' ∧ ∀ i : Nat, i < 4 → tj i = if i < 0 ∧ lenB S'.l = 0 then (ofV S' i).2.1 else told i) := Lib.hid ⟨told, hC, fun i _ => by rw [if_neg (fun h => absurd h.1 (Nat.not_lt_zero _))]⟩
          clear hcut hC hCI HX7 HC7 HDO HWE HCN hwas hnow x0 HI HBO
          go_upto_region 23 with (fail)
          go_loopw [18] (fun jv wj => ∃ j : Nat, j ≤ 4 ∧ jv = .int .i64 j ∧ Hid (∃ tj : Told, Cr w wj s d rb tb bb S' tj bod' (aq', an', ac') (bq', bn', bc') sl' ll' Rw' ∧ ∀ i : Nat, i < 4 → tj i = if i < j ∧ lenB S'.l = 0 then (ofV S' i).2.1 else told i)) (fun jv _ => 4 - (intOf jv).toNat)
          case atStart => exact ⟨0, Nat.zero_le _, rfl, I4⟩
          case round =>
            obtain ⟨j, hj, rfl, J⟩ := hrel
            clear I4
            by_cases hj4 : j < 4
            · have hjl : (j : Int) < 4 := by omega
              have hj0 : (0 : Int) ≤ (j : Int) := by omega
              obtain ⟨tj, hC, htj⟩ := J.out
              have hid : mayId (j : Int) = true := by unfold mayId; simp; omega
              have hgd := HCI.out.good j hj4
              have htold : tj j = told j := by rw [htj j hj4, if_neg (fun h => absurd h.1 (Nat.lt_irrefl j))]
              have hvi := ofV_int S' j
              have HTJ := Lib.hid htj
              have HL := Lib.hid (load_e hC.st HOK6.out (by omega) (load_in hid))
              obtain ⟨V, hV⟩ : ∃ V, ofV S' j = V := ⟨_, rfl⟩
              rw [hV] at hgd HL hvi
              have HVV := Lib.hid hV
              obtain ⟨vs, v, vb⟩ := V
              dsimp only at hgd HL hvi
              have HC := Lib.hid hC
              have HGD := Lib.hid hgd
              have HTD := Lib.hid htold
              clear hC htj hid hgd htold hV J
              go_upto_region 26 with (go_at_call 19; refine HL.out.mono ?_; rintro e_ w8 ⟨q8, n8', c8, rfl, hg8, hr8, -, hb8⟩)
              have hC8 := HC.out.on hb8
              have hc0 := c4_at hC8.tblk hj4
              rw [HTD.out] at hc0
              obtain ⟨qj, cj, hRj, hlc, hcm⟩ := hC8.rows.len hj4
              have hc1 := c4_at hC8.bblk hj4
              rw [hRj] at hc1
              simp only [slV] at hc1
              have HC8 := Lib.hid hC8
              have HG8 := Lib.hid (And.intro hg8 hr8)
              have ht1 : told j ≤ v := HGD.out.1
              have ht2 : v ≤ ((bod' j).length : Int) := HGD.out.2.2.1
              have HRJ := Lib.hid hRj
              generalize hlj : (bod' j).length = lj at *
              generalize told j = tdj at *
              have HLJ := Lib.hid hlj
              clear hg8 hr8 hb8 hC8 hRj hlj HC HL
              by_cases hv0 : 0 < v
              · obtain ⟨p, hp⟩ : ∃ p : Nat, v = (p : Int) + 1 := ⟨(v - 1).toNat, by omega⟩
                subst hp
                obtain ⟨ge, hge, se, hce, hgg, hre⟩ := HC8.out.rows.at hj4 (HGD.out.2.2.2 hv0)
                rw [HRJ.out] at hge
                obtain rfl : qj = some ⟨ge, 0, none⟩ := hge
                have hpn : ((p : Int) + 1 - 1).toNat = p := by omega
                rw [hpn] at hce
                obtain ⟨qe, ne, ce⟩ := se
                have hS := same_s HG8.out.1 hgg (by rw [HG8.out.2, hre])
                simp only [slV] at hS hce
                have HS := Lib.hid hS
                have hpl : p < lj := by omega
                have hp0 : (0 : Int) ≤ (p : Int) := by omega
                have hpc : p < cj := by omega
                clear hS hgg hre hpn HRJ
                obtain ⟨ML, hdl, -, -⟩ := HC8.out.st
                have HLF := Lib.hid (left_c w.heap.size d ML S' (k + 1) w8 hdl.disk HOK6.out (by omega))
                have hsb := hdl.blk.cell 0
                clear hdl
                by_cases hl0 : lenB S'.l = 0
                · have hl0' : ((lenB S'.l : Nat) : Int) = 0 := by omega
                  have HL0 := Lib.hid hl0
                  rw [hl0'] at HLF
                  clear hl0 hl0'
                  go_upto_region 31 with first
                    | (go_at_call 12; refine HS.out.mono ?_; rintro e_ w' ⟨rfl, rfl⟩)
                    | (go_at_call 23; refine HLF.out.mono ?_; rintro e_ w9 ⟨rfl, hb9⟩)
                  have hC9 := HC8.out.on hb9
                  have hc9 := c4_at hC9.tblk hj4
                  have hf9 := hC9.tblk.frz j
                  have HC10 := Lib.hid (hC9.tell hj4 ((p : Int) + 1))
                  clear hC9 hb9 hc0 hc1
                  go_wp2_with fail
                  exact ⟨⟨j + 1, by omega, by go_num, Lib.hid ⟨_, HC10.out, fun i hi => by
                    by_cases e : i = j
                    · subst e
                      rw [if_pos rfl, if_pos ⟨Nat.lt_succ_self i, HL0.out⟩, HVV.out]
                    · rw [if_neg e, HTJ.out i hi]
                      by_cases e2 : i < j
                      · rw [if_pos ⟨e2, HL0.out⟩, if_pos ⟨by omega, HL0.out⟩]
                      · rw [if_neg (fun h => e2 h.1), if_neg (fun h => by have := h.1; omega)]⟩⟩, next_less' hj4⟩
                · have hl0' : ((lenB S'.l : Nat) : Int) ≠ 0 := by omega
                  have HL0 := Lib.hid hl0
                  generalize ((lenB S'.l : Nat) : Int) = lft at HLF hl0'
                  clear hl0
                  go_wp2_with first
                    | (go_at_call 12; refine HS.out.mono ?_; rintro e_ w' ⟨rfl, rfl⟩)
                    | (go_at_call 23; refine HLF.out.mono ?_; rintro e_ w9 ⟨rfl, hb9⟩; have HB9 := Lib.hid hb9; clear hb9)
                  exact ⟨⟨j + 1, by omega, by go_num, Lib.hid ⟨tj, HC8.out.on HB9.out, fun i hi => by
                    rw [HTJ.out i hi, if_neg (fun h => HL0.out h.2), if_neg (fun h => HL0.out h.2)]⟩⟩, next_less' hj4⟩
              · have hvz : v = 0 := by omega
                subst hvz
                have HS := Lib.hid (same_s (w := w8) (good_nil (base := 0)) (good_nil (base := 0)) rfl)
                obtain ⟨ML, hdl, -, -⟩ := HC8.out.st
                have HLF := Lib.hid (left_c w.heap.size d ML S' (k + 1) w8 hdl.disk HOK6.out (by omega))
                have hsb := hdl.blk.cell 0
                clear hdl
                by_cases hl0 : lenB S'.l = 0
                · have hl0' : ((lenB S'.l : Nat) : Int) = 0 := by omega
                  have HL0 := Lib.hid hl0
                  rw [hl0'] at HLF
                  clear hl0 hl0'
                  go_upto_region 31 with first
                    | (go_at_call 12; refine HS.out.mono ?_; rintro e_ w' ⟨rfl, rfl⟩)
                    | (go_at_call 23; refine HLF.out.mono ?_; rintro e_ w9 ⟨rfl, hb9⟩)
                  have hC9 := HC8.out.on hb9
                  have hc9 := c4_at hC9.tblk hj4
                  have hf9 := hC9.tblk.frz j
                  have HC10 := Lib.hid (hC9.tell hj4 0)
                  clear hC9 hb9 hc0 hc1
                  go_wp2_with fail
                  exact ⟨⟨j + 1, by omega, by go_num, Lib.hid ⟨_, HC10.out, fun i hi => by
                    by_cases e : i = j
                    · subst e
                      rw [if_pos rfl, if_pos ⟨Nat.lt_succ_self i, HL0.out⟩, HVV.out]
                    · rw [if_neg e, HTJ.out i hi]
                      by_cases e2 : i < j
                      · rw [if_pos ⟨e2, HL0.out⟩, if_pos ⟨by omega, HL0.out⟩]
                      · rw [if_neg (fun h => e2 h.1), if_neg (fun h => by have := h.1; omega)]⟩⟩, next_less' hj4⟩
                · have hl0' : ((lenB S'.l : Nat) : Int) ≠ 0 := by omega
                  have HL0 := Lib.hid hl0
                  generalize ((lenB S'.l : Nat) : Int) = lft at HLF hl0'
                  clear hl0
                  go_wp2_with first
                    | (go_at_call 12; refine HS.out.mono ?_; rintro e_ w' ⟨rfl, rfl⟩)
                    | (go_at_call 23; refine HLF.out.mono ?_; rintro e_ w9 ⟨rfl, hb9⟩; have HB9 := Lib.hid hb9; clear hb9)
                  exact ⟨⟨j + 1, by omega, by go_num, Lib.hid ⟨tj, HC8.out.on HB9.out, fun i hi => by
                    rw [HTJ.out i hi, if_neg (fun h => HL0.out h.2), if_neg (fun h => HL0.out h.2)]⟩⟩, next_less' hj4⟩
            · obtain rfl : j = 4 := by omega
              obtain ⟨tj, hC, htj⟩ := J.out
              have hci2 : CI S' tj bod' (k + 1) := CI.told' HCI.out (fun i hi => by
                have h := htj i hi
                by_cases e : lenB S'.l = 0
                · rw [if_pos e]; rw [if_pos (And.intro hi e)] at h; exact h
                · rw [if_neg e]; rw [if_neg (fun h => e h.2)] at h; exact h)
              have hF : ∃ S told bod a b sl ll Rw, Cr w wr s d rb tb bb S told bod a b sl ll Rw ∧ CI S told bod (k + 1) := ⟨S', tj, bod', (aq', an', ac'), (bq', bn', bc'), sl', ll', Rw', hC, hci2⟩
              have HF := Lib.hid hF
              clear hF hci2
              clear hC htj J
              go_wp2_with fail
              exact ⟨⟨k + 1, hlt, by omega, by go_num, HF⟩, next_less' hlt⟩
set_option maxRecDepth 100000 in
theorem storeCrashes_lifted (os : Os) (started : os.Started) (H : Type) (enc : TypeId × Value → H) :
    ReturnsInHanded {} Try.checked os 7 .any (Rows.storeCrashesSpec.pre6 enc Try.prog Try.f7 Rows.storeCrashesRow.domain false) (Rows.storeCrashesSpec.post enc Try.prog Try.f7 false true false false) := by
  refine returnsInHanded_of_change (C := Try.checked) own started (by kernel_rfl) Try.func7
    (ChangeSpec.witness6 (enc := enc) (C := Try.checked) false ⟨#[], #[.slice none 0 0], []⟩ 8 (by kernel_rfl) (by kernel_rfl) (by kernel_rfl) (by kernel_rfl)) ?_
  intro W base args ds gs before hval0 hW hcnd hsz
  have hval : ∀ (j : Nat) t v, Try.f7.params[j]? = some t → args[j]? = some v → Value.okWide Try.prog W .any base t v := hval0
  have hW' := hW
  obtain ⟨p, q, hA0, hV, rfl, hfz, hnd⟩ := hW
  have hA : DataW.TrodAll enc Try.prog W 0 (fun _ => true) true Try.f7.params.toList args.toList ds p := hA0
  rw [Try.params7] at hA hval
  obtain ⟨v0, vs0, d0, ds0, p_0, q_0, hargs, rfl, rfl, h0, r_0⟩ := trodAll_cons hA
  obtain ⟨rfl, rfl, rfl⟩ := trodAll_nil r_0
  obtain rfl : args = #[v0] := by cases args; simp_all
  obtain ⟨rfl, rfl⟩ := trodVars_none hV
  obtain ⟨A0, n0, k0, l0, rfl, b0, c0, e0, f0⟩ := open_dees Try.underlying43 Try.underlying51 (by kernel_rfl) (by kernel_rfl) Try.underlying3 Try.underlying5 Try.underlying22 Try.underlying5 (by kernel_rfl) (hval 0 43 v0 rfl rfl) h0
  refine (storeCrashes_w A0 n0 k0 l0 b0 c0 W e0 f0).mono fun e W' ⟨he, hb⟩ => ?_
  subst he
  exact ⟨_, rfl, law_post laidOut (by kernel_rfl) rfl (by kernel_rfl) Try.underlying4 hW' rfl rfl rfl hb⟩

/-- The statement. -/
theorem storeCrashes_proved : Rows.StoreCrashesSaid :=
  OpenClaim.holds_of_wide 7 Try.f7 rfl rfl rfl rfl rfl rfl rfl ⟨rfl, rfl, rfl, rfl, rfl⟩ rfl rfl rfl rfl rfl (by kernel_rfl) Try.func7 (by kernel_rfl)
    (of_decide_eq_true (by kernel_rfl)) (by unfold Func.isWrapper; first | (rw [if_pos (by decide +kernel)]; kernel_rfl) | (rw [if_neg (by decide +kernel)]; exact ⟨rfl, rfl⟩))
    (fun os started H enc _ => storeCrashes_lifted os started H enc)
end Go.Proofs.Ytkopenemoddbbaa
