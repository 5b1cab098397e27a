/- Texts that build one behind the other, laid together: RAx Mov Alo Mv1 Hit1 BodP Vec5 Bod1. -/
import Derived.Test.YtnokibdecnddlaaMa4
import Derived.Test.YtnokibdecnddlaaMa5
import Derived.Test.YtnokibdecnddlaaMa1
import Derived.Deep.Cut
/- The document's: how far a box goes along an axis. -/
namespace Go.Proofs.Ytnokibdecnddlaa
open Go.RowKit Go.Shelf
attribute [local go_sem] Oper.semAt_some

set_option maxRecDepth 100000 in
set_option maxHeartbeats 8000000 in
theorem rsaxis_c (q : Option Addr) (n cp : Nat) (F : Nat → Int) (els : Int) (a b c d e f axis dd M : Int) (hM : M ≤ 72000000000000) (hM0 : 0 ≤ M) (hB : Sm M a b c d e f) (w : World) (hq : Iq w q n F) :
    Calls Try.prog 106 #[.agg #[.slice q n cp, .int .i64 els], .agg #[.int .i64 a, .int .i64 b, .int .i64 c, .int .i64 d, .int .i64 e, .int .i64 f], .int .i64 axis, .int .i64 dd] w fun r w' =>
      r = .returned (axT (axisV (fun x => atG n F els x.1 x.2.1 x.2.2) a b c d e f axis dd)) ∧ Below w.heap.size w w' := by
  obtain ⟨W, hW⟩ : ∃ W, W = (w.alloc (.cells #[.slice q n cp, .int .i64 els] 24)).alloc (.cells #[.int .i64 a, .int .i64 b, .int .i64 c, .int .i64 d, .int .i64 e, .int .i64 f] 48) := ⟨_, rfl⟩
  have H : Below w.heap.size w W := by rw [hW]; go_grown
  have A : Blk W w.heap.size 24 #[.slice q n cp, .int .i64 els] := by rw [hW]; exact (Blk.new' rfl).alloc _
  have B : Blk W (w.heap.size + 1) 48 #[.int .i64 a, .int .i64 b, .int .i64 c, .int .i64 d, .int .i64 e, .int .i64 f] := by rw [hW]; exact Blk.new' (by simp)
  obtain ⟨N, hN⟩ : ∃ N, N = w.heap.size := ⟨_, rfl⟩
  rw [← hN] at A B
  have hmn := @run_mn Try.prog
  have hmx := @run_mx Try.prog
  have HQ := Lib.hid fun W (h : Below w.heap.size w W) => hq.on h
  clear hq
  go_enter Try.func106, Try.ntmps106
  go_upto_region 1 with (fail)
  rw [← hW, ← hN]
  have HN := Lib.hid hN
  clear hW hN
  by_cases hax : axis < 0 ∨ 3 ≤ axis
  · have hv : axisV (fun x => atG n F els x.1 x.2.1 x.2.2) a b c d e f axis dd = (0, false) := by unfold axisV; rw [if_pos hax]
    have HVV := Lib.hid hv
    clear hv
    rcases hax with hax | hax
    · go_wp2_with fail
      go_returns
      exact ⟨by rw [HVV.out]; rfl, H⟩
    · have h2 : 2 < axis := by omega
      have h3 : ¬ axis < 0 := by omega
      go_wp2_with fail
      go_returns
      exact ⟨by rw [HVV.out]; rfl, H⟩
  · have y1 : ¬ axis < 0 := by omega
    have y2 : ¬ 2 < axis := by omega
    have hv : axisV (fun x => atG n F els x.1 x.2.1 x.2.2) a b c d e f axis dd = axV (lyB (fun x => atG n F els x.1 x.2.1 x.2.2) a b c d e f axis) (axI a b c axis) (axI d e f axis) (farI dd) := by unfold axisV; rw [if_neg hax]
    have HVV := Lib.hid hv
    clear hv hax
    go_upto_region 4 with (fail)
    have hfe : mnI (mxI dd (-4194304)) 4194304 = farI dd := rfl
    rw [hfe]
    clear hfe hmn hmx
    obtain ⟨fb1, fb2⟩ := farI_bd dd
    generalize farI dd = df at HVV fb1 fb2 ⊢
    obtain ⟨b0, b1, b2, b3, b4, b5⟩ := B.c6.1
    go_upto_region 5 with (go_at_call 21; refine (raxis_c _ _ _ _ _).mono ?_; rintro e_ w1 ⟨rfl, h1⟩)
    replace A := A.on h1
    replace B := B.on h1
    replace H := after H h1
    clear b0 b1 b2 b3 b4 b5 h1
    obtain ⟨b0, b1, b2, b3, b4, b5⟩ := B.c6.1
    go_upto_region 7 with (go_at_call 21; refine (raxis_c _ _ _ _ _).mono ?_; rintro e_ w2 ⟨rfl, h1⟩)
    replace A := A.on h1
    replace B := B.on h1
    replace H := after H h1
    clear b0 b1 b2 b3 b4 b5 h1
    obtain ⟨l1, l2, l3⟩ := axI_sm (axis := axis) hB hM0
    generalize axI a b c axis = low at HVV l1 l2 ⊢
    generalize axI d e f axis = top at HVV l2 l3 ⊢
    have HSM := Lib.hid hB
    have HBD := Lib.hid (And.intro hM (And.intro hM0 (And.intro l1 (And.intro l2 (And.intro l3 (And.intro fb1 fb2))))))
    clear hB
    have hsee : ∀ k, -(M + 10000000) ≤ k * 65536 → k * 65536 ≤ M + 10000000 → ∀ W, Below w.heap.size w W → Calls Try.prog 18 #[.agg #[.slice q n cp, .int .i64 els], .agg #[.int .i64 (wiI a axis 0 (k * 65536)), .int .i64 (wiI b axis 1 (k * 65536)), .int .i64 (wiI c axis 2 (k * 65536)), .int .i64 (wiI d axis 0 (k * 65536 + 65536)), .int .i64 (wiI e axis 1 (k * 65536 + 65536)), .int .i64 (wiI f axis 2 (k * 65536 + 65536))]] W fun r w' =>
        r = .returned (.bool (lyB (fun x => atG n F els x.1 x.2.1 x.2.2) a b c d e f axis k)) ∧ Below W.heap.size W w' := fun k h1 h2 W hW => by
      have hsm := HSM.out.layer (axis := axis) (k := k) (by omega) h1 h2
      exact rfBlocked_c q n cp F els _ _ _ _ _ _ (hsm.box (by omega)) hsm.cells W (HQ.out W hW)
    generalize hbl : lyB (fun x => atG n F els x.1 x.2.1 x.2.2) a b c d e f axis = blk at hsee
    rw [hbl] at HVV
    have HSEE := Lib.hid hsee
    clear hsee hbl hM hM0 l1 l2 l3 fb1 fb2
    rcases (show 0 < df ∨ df < 0 ∨ df = 0 by omega) with hd | hd | hd
    · have e1 : ¬ df < 0 := by omega
      have e2 : (df == 0) = false := by simp; omega
      have e3 : df ≠ 0 := by omega
      go_loopw [12] (fun v wr => ∃ iv : Int, v = .int .i64 iv ∧ -1 ≤ iv ∧ iv ≤ 70 ∧ Hid (∀ k', k' < top / 65536 + iv → 0 ≤ k' * 65536 - top → k' * 65536 - top < df → blk k' = false) ∧ Blk wr N 24 #[.slice q n cp, .int .i64 els] ∧ Blk wr (N + 1) 48 #[.int .i64 a, .int .i64 b, .int .i64 c, .int .i64 d, .int .i64 e, .int .i64 f] ∧ Hid (Below w.heap.size w wr)) (fun v _ => (70 - intOf v).toNat)
      case atStart => exact ⟨-1, rfl, by omega, by omega, fun k' h1 h2 _ => by omega, A, B, H⟩
      case round =>
        clear A B H
        obtain ⟨iv, rfl, i1, i2, hsee, A, B, H⟩ := hrel
        obtain ⟨hM, hM0, l1, l2, l3, fb1, fb2⟩ := HBD.out
        by_cases hlt : iv < 70
        · have t1 : -9223372036854775808 ≤ top / 65536 + iv := by omega
          have t2 : top / 65536 + iv ≤ 9223372036854775807 := by omega
          have t3 : -9223372036854775808 ≤ (top / 65536 + iv) * 65536 := by omega
          have t4 : (top / 65536 + iv) * 65536 ≤ 9223372036854775807 := by omega
          have t5 : -9223372036854775808 ≤ (top / 65536 + iv) * 65536 - top := by omega
          have t6 : (top / 65536 + iv) * 65536 - top ≤ 9223372036854775807 := by omega
          have u1 : -9223372036854775808 ≤ low / 65536 - iv := by omega
          have u2 : low / 65536 - iv ≤ 9223372036854775807 := by omega
          have u3 : -9223372036854775808 ≤ low / 65536 - iv + 1 := by omega
          have u4 : low / 65536 - iv + 1 ≤ 9223372036854775807 := by omega
          have u5 : -9223372036854775808 ≤ (low / 65536 - iv + 1) * 65536 := by omega
          have u6 : (low / 65536 - iv + 1) * 65536 ≤ 9223372036854775807 := by omega
          have u7 : -9223372036854775808 ≤ (low / 65536 - iv + 1) * 65536 - low := by omega
          have u8 : (low / 65536 - iv + 1) * 65536 - low ≤ 9223372036854775807 := by omega
          go_upto_region 14 with (go_at_call 58; refine (rdiv_c _ _ (by omega) (by omega) (by decide) _).mono ?_; rintro e_ w3 ⟨rfl, rfl⟩)
          clear t1 t2 t3 t4 t5 t6 u1 u2 u3 u4 u5 u6 u7 u8
          obtain ⟨k, hk⟩ : ∃ k, k = top / 65536 + iv := ⟨_, rfl⟩
          rw [← hk]
          obtain ⟨way, hway⟩ : ∃ way, way = k * 65536 - top := ⟨_, rfl⟩
          rw [← hway]
          have k1 : -9223372036854775808 ≤ k * 65536 := by omega
          have k2 : k * 65536 ≤ 9223372036854775807 := by omega
          have k3 : -9223372036854775808 ≤ k * 65536 + 65536 := by omega
          have k4 : k * 65536 + 65536 ≤ 9223372036854775807 := by omega
          have k5 : -(M + 10000000) ≤ k * 65536 := by omega
          have k6 : k * 65536 ≤ M + 10000000 := by omega
          have hS := HSEE.out k k5 k6
          have HK := Lib.hid hk
          have HW := Lib.hid hway
          clear hk hway l1 l2 l3 fb1 fb2 hM hM0 k5 k6
          have i3 : -9223372036854775808 ≤ iv + 1 := by omega
          have i4 : iv + 1 ≤ 9223372036854775807 := by omega
          rcases (show way < 0 ∨ (¬ way < 0 ∧ df ≤ way) ∨ (¬ way < 0 ∧ ¬ df ≤ way) by omega) with h1 | ⟨h1, h2⟩ | ⟨h1, h2⟩
          · clear hS k1 k2 k3 k4
            go_wp2_with fail
            go_roundw
            case rel => exact ⟨iv + 1, rfl, by omega, by omega, fun k' h1 h2 h3 => (by
            by_cases e : k' = k
            · subst e; have := HW.out; omega
            · exact hsee.out k' (by have := HK.out; omega) h2 h3), A, B, H⟩
            case measure => simp [intOf]; omega
          · clear hS k1 k2 k3 k4
            go_wp2_with fail
            go_roundw
            case rel => exact ⟨iv + 1, rfl, by omega, by omega, fun k' h1 h2 h3 => (by
            by_cases e : k' = k
            · subst e; have := HW.out; omega
            · exact hsee.out k' (by have := HK.out; omega) h2 h3), A, B, H⟩
            case measure => simp [intOf]; omega
          · obtain ⟨b0, b1, b2, b3, b4, b5⟩ := B.c6.1
            go_upto_region 16 with (fail)
            generalize hV : World.alloc wr _ = W5
            have X : Blk W5 wr.heap.size _ _ := Blk.eqw hV (Blk.new' rfl)
            have h5 : Below wr.heap.size wr W5 := by rw [← hV]; exact (Below.refl _ _).alloc (Nat.le_refl _) _
            have hNl := A.lt
            have hBl := B.lt
            have hNw := H.out.size
            replace A := A.on h5
            replace B := B.on h5
            replace H := after H.out h5
            clear hV h5 b0 b1 b2 b3 b4 b5
            generalize wr.heap.size = g at X hNl hBl hNw ⊢
            obtain ⟨⟨x0, x1, x2, x3, x4, x5⟩, f0, f1, f2, f3, f4, f5⟩ := X.c6
            go_upto_region 17 with (go_at_call 50; refine (rwith_c _ _ _ _ _ _).mono ?_; rintro e_ w4 ⟨rfl, h5⟩; replace X := X.on h5; obtain ⟨⟨x0, x1, x2, x3, x4, x5⟩, f0, f1, f2, f3, f4, f5⟩ := X.c6)
            generalize hV : World.setCell (World.setCell (World.setCell w4 _ _) _ _) _ _ = W6
            have X2 : Blk W6 g 48 #[.int .i64 (wiI a axis 0 (k * 65536)), .int .i64 (wiI b axis 1 (k * 65536)), .int .i64 (wiI c axis 2 (k * 65536)), .int .i64 d, .int .i64 e, .int .i64 f] := Blk.eqw hV (((X.set_ 0 _).set_ 1 _).set_ 2 _)
            replace A := Blk.eqw hV ((((A.on h5).far (p := ⟨g, 0, none⟩) (by dsimp only; omega) _).far (p := ⟨g, 1, none⟩) (by dsimp only; omega) _).far (p := ⟨g, 2, none⟩) (by dsimp only; omega) _)
            replace B := Blk.eqw hV ((((B.on h5).far (p := ⟨g, 0, none⟩) (by dsimp only; omega) _).far (p := ⟨g, 1, none⟩) (by dsimp only; omega) _).far (p := ⟨g, 2, none⟩) (by dsimp only; omega) _)
            replace H : Below w.heap.size w W6 := by rw [← hV]; exact (((after H h5).setCell (p := ⟨g, 0, none⟩) hNw _).setCell (p := ⟨g, 1, none⟩) hNw _).setCell (p := ⟨g, 2, none⟩) hNw _
            clear hV h5 x0 x1 x2 x3 x4 x5 f0 f1 f2 f3 f4 f5 X
            obtain ⟨⟨x0, x1, x2, x3, x4, x5⟩, f0, f1, f2, f3, f4, f5⟩ := X2.c6
            go_upto_region 18 with (go_at_call 50; refine (rwith_c _ _ _ _ _ _).mono ?_; rintro e_ w5 ⟨rfl, h5⟩; replace X2 := X2.on h5; obtain ⟨⟨x0, x1, x2, x3, x4, x5⟩, f0, f1, f2, f3, f4, f5⟩ := X2.c6)
            generalize hV : World.setCell (World.setCell (World.setCell w5 _ _) _ _) _ _ = W7
            have X3 : Blk W7 g 48 #[.int .i64 (wiI a axis 0 (k * 65536)), .int .i64 (wiI b axis 1 (k * 65536)), .int .i64 (wiI c axis 2 (k * 65536)), .int .i64 (wiI d axis 0 (k * 65536 + 65536)), .int .i64 (wiI e axis 1 (k * 65536 + 65536)), .int .i64 (wiI f axis 2 (k * 65536 + 65536))] := Blk.eqw hV (((X2.set_ 3 _).set_ 4 _).set_ 5 _)
            replace A := Blk.eqw hV ((((A.on h5).far (p := ⟨g, 3, none⟩) (by dsimp only; omega) _).far (p := ⟨g, 4, none⟩) (by dsimp only; omega) _).far (p := ⟨g, 5, none⟩) (by dsimp only; omega) _)
            replace B := Blk.eqw hV ((((B.on h5).far (p := ⟨g, 3, none⟩) (by dsimp only; omega) _).far (p := ⟨g, 4, none⟩) (by dsimp only; omega) _).far (p := ⟨g, 5, none⟩) (by dsimp only; omega) _)
            replace H : Below w.heap.size w W7 := by rw [← hV]; exact (((after H h5).setCell (p := ⟨g, 3, none⟩) hNw _).setCell (p := ⟨g, 4, none⟩) hNw _).setCell (p := ⟨g, 5, none⟩) hNw _
            clear hV h5 x0 x1 x2 x3 x4 x5 f0 f1 f2 f3 f4 f5 X2 k1 k2 k3 k4
            obtain ⟨x0, x1, x2, x3, x4, x5⟩ := X3.c6.1
            have a0 := A.cell 0
            have a1 := A.cell 1
            replace hS := hS W7 H
            cases hb : blk k
            · rw [hb] at hS
              have HS := Lib.hid hS
              have HB := Lib.hid hb
              clear hS hb
              go_wp2_with (go_at_call 18; refine HS.out.mono ?_; rintro e_ w8 ⟨rfl, h8⟩)
              go_roundw
              case rel => exact ⟨iv + 1, rfl, by omega, by omega, fun k' h1 h2 h3 => (by
                by_cases e : k' = k
                · subst e; exact HB.out
                · exact hsee.out k' (by have := HK.out; omega) h2 h3), A.on h8, B.on h8, after H h8⟩
              case measure => simp [intOf]; omega
            · rw [hb] at hS
              have HS := Lib.hid hS
              have HB := Lib.hid hb
              clear hS hb
              go_wp2_with (go_at_call 18; refine HS.out.mono ?_; rintro e_ w8 ⟨rfl, h8⟩)
              go_returns
              refine ⟨?_, after H h8⟩
              have hkk := HK.out
              have hww := HW.out
              rw [HVV.out, axV_up_hit hd (by omega) (by omega) HB.out fun k' h3 h4 => hsee.out k' (by omega) h4 (by omega), hww]
              rfl
        · have i5 : iv = 70 := by omega
          subst i5
          go_wp2_with fail
          go_returns
          refine ⟨?_, H.out⟩
          rw [HVV.out, axV_up_none hd fun k' h1 h2 => hsee.out k' (by omega) h1 h2]
          rfl
    · have e1 : ¬ 0 < df := by omega
      have e2 : (df == 0) = false := by simp; omega
      have e3 : df ≠ 0 := by omega
      go_loopw [12] (fun v wr => ∃ iv : Int, v = .int .i64 iv ∧ -1 ≤ iv ∧ iv ≤ 70 ∧ Hid (∀ k', low / 65536 - iv < k' → (k' + 1) * 65536 - low ≤ 0 → df < (k' + 1) * 65536 - low → blk k' = false) ∧ Blk wr N 24 #[.slice q n cp, .int .i64 els] ∧ Blk wr (N + 1) 48 #[.int .i64 a, .int .i64 b, .int .i64 c, .int .i64 d, .int .i64 e, .int .i64 f] ∧ Hid (Below w.heap.size w wr)) (fun v _ => (70 - intOf v).toNat)
      case atStart => exact ⟨-1, rfl, by omega, by omega, fun k' h1 h2 _ => by omega, A, B, H⟩
      case round =>
        clear A B H
        obtain ⟨iv, rfl, i1, i2, hsee, A, B, H⟩ := hrel
        obtain ⟨hM, hM0, l1, l2, l3, fb1, fb2⟩ := HBD.out
        by_cases hlt : iv < 70
        · have t1 : -9223372036854775808 ≤ top / 65536 + iv := by omega
          have t2 : top / 65536 + iv ≤ 9223372036854775807 := by omega
          have t3 : -9223372036854775808 ≤ (top / 65536 + iv) * 65536 := by omega
          have t4 : (top / 65536 + iv) * 65536 ≤ 9223372036854775807 := by omega
          have t5 : -9223372036854775808 ≤ (top / 65536 + iv) * 65536 - top := by omega
          have t6 : (top / 65536 + iv) * 65536 - top ≤ 9223372036854775807 := by omega
          have u1 : -9223372036854775808 ≤ low / 65536 - iv := by omega
          have u2 : low / 65536 - iv ≤ 9223372036854775807 := by omega
          have u3 : -9223372036854775808 ≤ low / 65536 - iv + 1 := by omega
          have u4 : low / 65536 - iv + 1 ≤ 9223372036854775807 := by omega
          have u5 : -9223372036854775808 ≤ (low / 65536 - iv + 1) * 65536 := by omega
          have u6 : (low / 65536 - iv + 1) * 65536 ≤ 9223372036854775807 := by omega
          have u7 : -9223372036854775808 ≤ (low / 65536 - iv + 1) * 65536 - low := by omega
          have u8 : (low / 65536 - iv + 1) * 65536 - low ≤ 9223372036854775807 := by omega
          go_upto_region 14 with (go_at_call 58; refine (rdiv_c _ _ (by omega) (by omega) (by decide) _).mono ?_; rintro e_ w3 ⟨rfl, rfl⟩)
          clear t1 t2 t3 t4 t5 t6 u1 u2 u3 u4 u5 u6 u7 u8
          obtain ⟨k, hk⟩ : ∃ k, k = low / 65536 - iv := ⟨_, rfl⟩
          rw [← hk]
          obtain ⟨way, hway⟩ : ∃ way, way = (k + 1) * 65536 - low := ⟨_, rfl⟩
          rw [← hway]
          have k1 : -9223372036854775808 ≤ k * 65536 := by omega
          have k2 : k * 65536 ≤ 9223372036854775807 := by omega
          have k3 : -9223372036854775808 ≤ k * 65536 + 65536 := by omega
          have k4 : k * 65536 + 65536 ≤ 9223372036854775807 := by omega
          have k5 : -(M + 10000000) ≤ k * 65536 := by omega
          have k6 : k * 65536 ≤ M + 10000000 := by omega
          have hS := HSEE.out k k5 k6
          have HK := Lib.hid hk
          have HW := Lib.hid hway
          clear hk hway l1 l2 l3 fb1 fb2 hM hM0 k5 k6
          have i3 : -9223372036854775808 ≤ iv + 1 := by omega
          have i4 : iv + 1 ≤ 9223372036854775807 := by omega
          rcases (show 0 < way ∨ (¬ 0 < way ∧ way ≤ df) ∨ (¬ 0 < way ∧ ¬ way ≤ df) by omega) with h1 | ⟨h1, h2⟩ | ⟨h1, h2⟩
          · clear hS k1 k2 k3 k4
            go_wp2_with fail
            go_roundw
            case rel => exact ⟨iv + 1, rfl, by omega, by omega, fun k' h1 h2 h3 => (by
            by_cases e : k' = k
            · subst e; have := HW.out; omega
            · exact hsee.out k' (by have := HK.out; omega) h2 h3), A, B, H⟩
            case measure => simp [intOf]; omega
          · clear hS k1 k2 k3 k4
            go_wp2_with fail
            go_roundw
            case rel => exact ⟨iv + 1, rfl, by omega, by omega, fun k' h1 h2 h3 => (by
            by_cases e : k' = k
            · subst e; have := HW.out; omega
            · exact hsee.out k' (by have := HK.out; omega) h2 h3), A, B, H⟩
            case measure => simp [intOf]; omega
          · obtain ⟨b0, b1, b2, b3, b4, b5⟩ := B.c6.1
            go_upto_region 16 with (fail)
            generalize hV : World.alloc wr _ = W5
            have X : Blk W5 wr.heap.size _ _ := Blk.eqw hV (Blk.new' rfl)
            have h5 : Below wr.heap.size wr W5 := by rw [← hV]; exact (Below.refl _ _).alloc (Nat.le_refl _) _
            have hNl := A.lt
            have hBl := B.lt
            have hNw := H.out.size
            replace A := A.on h5
            replace B := B.on h5
            replace H := after H.out h5
            clear hV h5 b0 b1 b2 b3 b4 b5
            generalize wr.heap.size = g at X hNl hBl hNw ⊢
            obtain ⟨⟨x0, x1, x2, x3, x4, x5⟩, f0, f1, f2, f3, f4, f5⟩ := X.c6
            go_upto_region 17 with (go_at_call 50; refine (rwith_c _ _ _ _ _ _).mono ?_; rintro e_ w4 ⟨rfl, h5⟩; replace X := X.on h5; obtain ⟨⟨x0, x1, x2, x3, x4, x5⟩, f0, f1, f2, f3, f4, f5⟩ := X.c6)
            generalize hV : World.setCell (World.setCell (World.setCell w4 _ _) _ _) _ _ = W6
            have X2 : Blk W6 g 48 #[.int .i64 (wiI a axis 0 (k * 65536)), .int .i64 (wiI b axis 1 (k * 65536)), .int .i64 (wiI c axis 2 (k * 65536)), .int .i64 d, .int .i64 e, .int .i64 f] := Blk.eqw hV (((X.set_ 0 _).set_ 1 _).set_ 2 _)
            replace A := Blk.eqw hV ((((A.on h5).far (p := ⟨g, 0, none⟩) (by dsimp only; omega) _).far (p := ⟨g, 1, none⟩) (by dsimp only; omega) _).far (p := ⟨g, 2, none⟩) (by dsimp only; omega) _)
            replace B := Blk.eqw hV ((((B.on h5).far (p := ⟨g, 0, none⟩) (by dsimp only; omega) _).far (p := ⟨g, 1, none⟩) (by dsimp only; omega) _).far (p := ⟨g, 2, none⟩) (by dsimp only; omega) _)
            replace H : Below w.heap.size w W6 := by rw [← hV]; exact (((after H h5).setCell (p := ⟨g, 0, none⟩) hNw _).setCell (p := ⟨g, 1, none⟩) hNw _).setCell (p := ⟨g, 2, none⟩) hNw _
            clear hV h5 x0 x1 x2 x3 x4 x5 f0 f1 f2 f3 f4 f5 X
            obtain ⟨⟨x0, x1, x2, x3, x4, x5⟩, f0, f1, f2, f3, f4, f5⟩ := X2.c6
            go_upto_region 18 with (go_at_call 50; refine (rwith_c _ _ _ _ _ _).mono ?_; rintro e_ w5 ⟨rfl, h5⟩; replace X2 := X2.on h5; obtain ⟨⟨x0, x1, x2, x3, x4, x5⟩, f0, f1, f2, f3, f4, f5⟩ := X2.c6)
            generalize hV : World.setCell (World.setCell (World.setCell w5 _ _) _ _) _ _ = W7
            have X3 : Blk W7 g 48 #[.int .i64 (wiI a axis 0 (k * 65536)), .int .i64 (wiI b axis 1 (k * 65536)), .int .i64 (wiI c axis 2 (k * 65536)), .int .i64 (wiI d axis 0 (k * 65536 + 65536)), .int .i64 (wiI e axis 1 (k * 65536 + 65536)), .int .i64 (wiI f axis 2 (k * 65536 + 65536))] := Blk.eqw hV (((X2.set_ 3 _).set_ 4 _).set_ 5 _)
            replace A := Blk.eqw hV ((((A.on h5).far (p := ⟨g, 3, none⟩) (by dsimp only; omega) _).far (p := ⟨g, 4, none⟩) (by dsimp only; omega) _).far (p := ⟨g, 5, none⟩) (by dsimp only; omega) _)
            replace B := Blk.eqw hV ((((B.on h5).far (p := ⟨g, 3, none⟩) (by dsimp only; omega) _).far (p := ⟨g, 4, none⟩) (by dsimp only; omega) _).far (p := ⟨g, 5, none⟩) (by dsimp only; omega) _)
            replace H : Below w.heap.size w W7 := by rw [← hV]; exact (((after H h5).setCell (p := ⟨g, 3, none⟩) hNw _).setCell (p := ⟨g, 4, none⟩) hNw _).setCell (p := ⟨g, 5, none⟩) hNw _
            clear hV h5 x0 x1 x2 x3 x4 x5 f0 f1 f2 f3 f4 f5 X2 k1 k2 k3 k4
            obtain ⟨x0, x1, x2, x3, x4, x5⟩ := X3.c6.1
            have a0 := A.cell 0
            have a1 := A.cell 1
            replace hS := hS W7 H
            cases hb : blk k
            · rw [hb] at hS
              have HS := Lib.hid hS
              have HB := Lib.hid hb
              clear hS hb
              go_wp2_with (go_at_call 18; refine HS.out.mono ?_; rintro e_ w8 ⟨rfl, h8⟩)
              go_roundw
              case rel => exact ⟨iv + 1, rfl, by omega, by omega, fun k' h1 h2 h3 => (by
                by_cases e : k' = k
                · subst e; exact HB.out
                · exact hsee.out k' (by have := HK.out; omega) h2 h3), A.on h8, B.on h8, after H h8⟩
              case measure => simp [intOf]; omega
            · rw [hb] at hS
              have HS := Lib.hid hS
              have HB := Lib.hid hb
              clear hS hb
              go_wp2_with (go_at_call 18; refine HS.out.mono ?_; rintro e_ w8 ⟨rfl, h8⟩)
              go_returns
              refine ⟨?_, after H h8⟩
              have hkk := HK.out
              have hww := HW.out
              rw [HVV.out, axV_dn_hit hd (by omega) (by omega) HB.out fun k' h3 h4 => hsee.out k' (by omega) h4 (by omega), hww]
              rfl
        · have i5 : iv = 70 := by omega
          subst i5
          go_wp2_with fail
          go_returns
          refine ⟨?_, H.out⟩
          rw [HVV.out, axV_dn_none hd fun k' h1 h2 => hsee.out k' (by omega) h1 h2]
          rfl
    · subst hd
      have e1 : ¬ (0 : Int) < 0 := by decide
      go_loopw [12] (fun v wr => ∃ iv : Int, v = .int .i64 iv ∧ -1 ≤ iv ∧ iv ≤ 70 ∧ Hid (Below w.heap.size w wr)) (fun v _ => (70 - intOf v).toNat)
      case atStart => exact ⟨-1, rfl, by omega, by omega, H⟩
      case round =>
        clear A B H
        obtain ⟨iv, rfl, i1, i2, H⟩ := hrel
        obtain ⟨hM, hM0, l1, l2, l3, fb1, fb2⟩ := HBD.out
        by_cases hlt : iv < 70
        · have t1 : -9223372036854775808 ≤ top / 65536 + iv := by omega
          have t2 : top / 65536 + iv ≤ 9223372036854775807 := by omega
          have t3 : -9223372036854775808 ≤ (top / 65536 + iv) * 65536 := by omega
          have t4 : (top / 65536 + iv) * 65536 ≤ 9223372036854775807 := by omega
          have t5 : -9223372036854775808 ≤ (top / 65536 + iv) * 65536 - top := by omega
          have t6 : (top / 65536 + iv) * 65536 - top ≤ 9223372036854775807 := by omega
          go_wp2_with (go_at_call 58; refine (rdiv_c _ _ (by omega) (by omega) (by decide) _).mono ?_; rintro e_ w3 ⟨rfl, rfl⟩)
          go_roundw
          case rel => exact ⟨iv + 1, rfl, by omega, by omega, H⟩
          case measure => simp [intOf]; omega
        · have i5 : iv = 70 := by omega
          subst i5
          go_wp2_with fail
          go_returns
          refine ⟨?_, H.out⟩
          rw [HVV.out, axV_zero]
          rfl
end Go.Proofs.Ytnokibdecnddlaa

/- A box moved. -/
namespace Go.Proofs.Ytnokibdecnddlaa
open Go.RowKit Go.Shelf
attribute [local go_sem] Oper.semAt_some

set_option maxHeartbeats 2000000 in
theorem smove_c (a b c d e f x y z : Int) (w : World) : Calls Try.prog 110 #[.agg #[.int .i64 a, .int .i64 b, .int .i64 c, .int .i64 d, .int .i64 e, .int .i64 f], .agg #[.int .i64 x, .int .i64 y, .int .i64 z]] w fun r w' => r = .returned (.agg #[.int .i64 (addI a x), .int .i64 (addI b y), .int .i64 (addI c z), .int .i64 (addI d x), .int .i64 (addI e y), .int .i64 (addI f z)]) ∧ Below w.heap.size w w' := by
  have U : Blk (((w.alloc (.cells (bV6 a b c d e f) 48)).alloc (.cells #[.int .i64 x, .int .i64 y, .int .i64 z] 26)).alloc (.cells (bV6 0 0 0 0 0 0) 48)) w.heap.size 48 (bV6 a b c d e f) := ((Blk.new' rfl).alloc _).alloc _
  have V : Blk (((w.alloc (.cells (bV6 a b c d e f) 48)).alloc (.cells #[.int .i64 x, .int .i64 y, .int .i64 z] 26)).alloc (.cells (bV6 0 0 0 0 0 0) 48)) (w.heap.size + 1) 26 #[.int .i64 x, .int .i64 y, .int .i64 z] := (Blk.new' (by simp)).alloc _
  have R0 : Blk (((w.alloc (.cells (bV6 a b c d e f) 48)).alloc (.cells #[.int .i64 x, .int .i64 y, .int .i64 z] 26)).alloc (.cells (bV6 0 0 0 0 0 0) 48)) (w.heap.size + 1 + 1) 48 (bV6 0 0 0 0 0 0) := Blk.new' (by simp)
  obtain ⟨k0, k1, k2, k3, k4, k5⟩ := U.re6
  obtain ⟨l0, l1, l2⟩ := V.re3
  go_enter Try.func110, Try.ntmps110
  go_wp2_with fail
  refine wp_region_last_below 9 (by kernel_rfl) rfl (by kernel_rfl) ?_
  simp only [List.take_succ_cons, List.take_zero, List.drop_succ_cons, List.drop_zero]
  repeat (go_big_quiet_step (exact Calls.regrown_of (add_c _ _ _ _ _ _ _)))
  refine wpQuiet_nil ?_
  intro w' hw'
  obtain ⟨rg, rfl⟩ := hw'
  have R := R0.re rg.d rg.os
  obtain ⟨⟨r0, r1, r2, r3, r4, r5⟩, s0, s1, s2, s3, s4, s5⟩ := R.c6
  go_wp2_with fail
  have R2 := R.st6 (.int .i64 (addI a x)) (.int .i64 (addI b y)) (.int .i64 (addI c z)) (.int .i64 (addI d x)) (.int .i64 (addI e y)) (.int .i64 (addI f z))
  obtain ⟨⟨d0, d1, d2, d3, d4, d5⟩, -, -, -, -, -, -⟩ := R2.c6
  exact bodyPost_ret (v := .agg #[.int .i64 (addI a x), .int .i64 (addI b y), .int .i64 (addI c z), .int .i64 (addI d x), .int .i64 (addI e y), .int .i64 (addI f z)]) (by simp [results, Try.results110, go_sem, d0, d1, d2, d3, d4, d5]) rfl ⟨rfl, by (repeat' (first | (with_reducible exact Below.refl _ _) | (with_reducible assumption) | (with_reducible refine Below.alloc ?_ ?_ _) | (with_reducible refine Below.drew ?_) | (with_reducible refine Below.setCell ?_ ?_ _) | (with_reducible refine after ?_ (below_regrown _ _ _)) | (refine after ?_ (by with_reducible assumption)) | go_size))⟩
set_option maxHeartbeats 2000000 in
theorem srmove_c (a b c d e f x y z : Int) (w : World) : Calls Try.prog 107 #[.agg #[.int .i64 a, .int .i64 b, .int .i64 c, .int .i64 d, .int .i64 e, .int .i64 f], .agg #[.int .i64 x, .int .i64 y, .int .i64 z]] w fun r w' => r = .returned (.agg #[.int .i64 (addI a x), .int .i64 (addI b y), .int .i64 (addI c z), .int .i64 (addI d x), .int .i64 (addI e y), .int .i64 (addI f z)]) ∧ Below w.heap.size w w' := by
  have U : Blk (((w.alloc (.cells (bV6 a b c d e f) 48)).alloc (.cells #[.int .i64 x, .int .i64 y, .int .i64 z] 26)).alloc (.cells (bV6 0 0 0 0 0 0) 48)) w.heap.size 48 (bV6 a b c d e f) := ((Blk.new' rfl).alloc _).alloc _
  have V : Blk (((w.alloc (.cells (bV6 a b c d e f) 48)).alloc (.cells #[.int .i64 x, .int .i64 y, .int .i64 z] 26)).alloc (.cells (bV6 0 0 0 0 0 0) 48)) (w.heap.size + 1) 26 #[.int .i64 x, .int .i64 y, .int .i64 z] := (Blk.new' (by simp)).alloc _
  have R0 : Blk (((w.alloc (.cells (bV6 a b c d e f) 48)).alloc (.cells #[.int .i64 x, .int .i64 y, .int .i64 z] 26)).alloc (.cells (bV6 0 0 0 0 0 0) 48)) (w.heap.size + 1 + 1) 48 (bV6 0 0 0 0 0 0) := Blk.new' (by simp)
  obtain ⟨k0, k1, k2, k3, k4, k5⟩ := U.re6
  obtain ⟨l0, l1, l2⟩ := V.re3
  go_enter Try.func107, Try.ntmps107
  go_wp2_with fail
  refine wp_region_last_below 9 (by kernel_rfl) rfl (by kernel_rfl) ?_
  simp only [List.take_succ_cons, List.take_zero, List.drop_succ_cons, List.drop_zero]
  repeat (go_big_quiet_step (exact Calls.regrown_of (raddv_c _ _ _ _ _ _ _)))
  refine wpQuiet_nil ?_
  intro w' hw'
  obtain ⟨rg, rfl⟩ := hw'
  have R := R0.re rg.d rg.os
  obtain ⟨⟨r0, r1, r2, r3, r4, r5⟩, s0, s1, s2, s3, s4, s5⟩ := R.c6
  go_wp2_with fail
  have R2 := R.st6 (.int .i64 (addI a x)) (.int .i64 (addI b y)) (.int .i64 (addI c z)) (.int .i64 (addI d x)) (.int .i64 (addI e y)) (.int .i64 (addI f z))
  obtain ⟨⟨d0, d1, d2, d3, d4, d5⟩, -, -, -, -, -, -⟩ := R2.c6
  exact bodyPost_ret (v := .agg #[.int .i64 (addI a x), .int .i64 (addI b y), .int .i64 (addI c z), .int .i64 (addI d x), .int .i64 (addI e y), .int .i64 (addI f z)]) (by simp [results, Try.results107, go_sem, d0, d1, d2, d3, d4, d5]) rfl ⟨rfl, by (repeat' (first | (with_reducible exact Below.refl _ _) | (with_reducible assumption) | (with_reducible refine Below.alloc ?_ ?_ _) | (with_reducible refine Below.drew ?_) | (with_reducible refine Below.setCell ?_ ?_ _) | (with_reducible refine after ?_ (below_regrown _ _ _)) | (refine after ?_ (by with_reducible assumption)) | go_size))⟩
end Go.Proofs.Ytnokibdecnddlaa

/- A box that goes along an axis. -/
namespace Go.Proofs.Ytnokibdecnddlaa
open Go.RowKit Go.Shelf
attribute [local go_sem] Oper.semAt_some

def alT (p : B6 × Bool) : Value := .tuple #[.agg (ag6 p.1), .bool p.2]
set_option maxRecDepth 100000 in
set_option maxHeartbeats 4000000 in
theorem palong_c (V : FuncId) (lv : Array Value) (val : Cl → Int) (x : B6) (axis dd M : Int) (hM : M ≤ 72000000000000) (hM0 : 0 ≤ M) (hB : Sm6 M x) (w : World)
    (eV : ∀ args w, (callFunc V args).run Try.prog w = .ok (.enter V args) w) (hV : Tells Try.prog V lv val w) :
    Calls Try.prog 93 #[.func (.func V) #[] lv, .agg (ag6 x), .int .i64 axis, .int .i64 dd] w fun r w' => r = .returned (alT (al6 (val) x axis dd)) ∧ Below w.heap.size w w' := by
  have HC := Lib.hid fun W (h : Below w.heap.size w W) => saxis_c V lv val x.1 x.2.1 x.2.2.1 x.2.2.2.1 x.2.2.2.2.1 x.2.2.2.2.2 axis dd M hM hM0 hB W eV (hV.on h)
  have hal : al6 (val) x axis dd = (mv6 x axis (ax6 (val) x axis dd).1, (ax6 (val) x axis dd).2) := rfl
  rw [hal]
  unfold ax6 mv6
  obtain ⟨a, b, c, d, e, f⟩ := x
  simp only [ag6] at HC ⊢
  generalize axisV (val) a b c d e f axis dd = r at HC ⊢
  obtain ⟨n, hit⟩ := r
  simp only [axT] at HC ⊢
  clear hV eV hM hM0 hB hal
  obtain ⟨W0, hW0⟩ : ∃ W0, W0 = ((w).alloc (.cells #[.int .i64 a, .int .i64 b, .int .i64 c, .int .i64 d, .int .i64 e, .int .i64 f] 48)).alloc (.cells #[.int .i64 0, .int .i64 0, .int .i64 0, .int .i64 0, .int .i64 0, .int .i64 0] 48) := ⟨_, rfl⟩
  have U : Blk W0 (w.heap.size) 48 _ := Blk.eqw hW0.symm ((Blk.new' (by simp)).alloc _)
  have R0 : Blk W0 (w.heap.size + 1) 48 _ := Blk.eqw hW0.symm (Blk.new' (by simp))
  have H0 : Below w.heap.size w W0 := by rw [hW0]; go_grown
  have XA : True := trivial
  go_enter Try.func93, Try.ntmps93
  go_upto_region 1 with (fail)
  rw [← hW0]
  clear hW0
  obtain ⟨u0, u1, u2, u3, u4, u5⟩ := U.c6.1
  have XB : True := trivial
  go_upto_region 2 with (go_at_call 109; refine (HC.out _ H0).mono ?_; rintro e_ w1 ⟨rfl, h1⟩)
  replace U := U.on h1
  have R := R0.on h1
  replace H0 := after H0 h1
  clear u0 u1 u2 u3 u4 u5 h1 R0 HC
  obtain ⟨u0, u1, u2, u3, u4, u5⟩ := U.re6
  refine wp_sched [0, 0, 0, 0, 0, 0, 1, 3, 3] (fun _ _ _ => True) (by kernel_rfl) (by kernel_rfl) (fun _ _ _ _ h _ => h) ?_
  repeat (first | (refine wpQs_s ?_) | (refine wpQs_q (fun K hK => ?_); go_simp; first | (refine hK _ ?_; clear hK K) | (apply Exists.intro; refine ⟨fun _ => ?_, hK _ ?_⟩; (first | exact with_c _ _ _ _ _ _ | exact smove_c _ _ _ _ _ _ _ _ _ _); clear hK K)) | (refine wpQs_f (fun K hK => ?_); go_simp; refine hK _ ?_; clear hK K))
  refine wpQs_nil ?_
  repeat (first | (refine wpLs_skip ?_) | (refine wpLs_one ?lsA (fun v_ => ?_); case lsA => (intro w_ hw_ hp_; (fail))))
  refine wpLs_nilB ?_
  simp only [tails]
  intro W2 h2 _
  clear u0 u1 u2 u3 u4 u5
  replace R := R.on h2
  replace H0 := after H0 h2
  obtain ⟨⟨r0, r1, r2, r3, r4, r5⟩, s0, s1, s2, s3, s4, s5⟩ := R.c6
  go_wp2_with fail
  have R2 := R.st6 (.int .i64 (addI a (wiI 0 axis 0 n))) (.int .i64 (addI b (wiI 0 axis 1 n))) (.int .i64 (addI c (wiI 0 axis 2 n))) (.int .i64 (addI d (wiI 0 axis 0 n))) (.int .i64 (addI e (wiI 0 axis 1 n))) (.int .i64 (addI f (wiI 0 axis 2 n)))
  obtain ⟨⟨d0, d1, d2, d3, d4, d5⟩, -, -, -, -, -, -⟩ := R2.c6
  exact bodyPost_ret (v := alT ((addI a (wiI 0 axis 0 n), addI b (wiI 0 axis 1 n), addI c (wiI 0 axis 2 n), addI d (wiI 0 axis 0 n), addI e (wiI 0 axis 1 n), addI f (wiI 0 axis 2 n)), hit)) (by simp [results, Try.f93, go_sem, alT, d0, d1, d2, d3, d4, d5]) rfl ⟨rfl, by (repeat' (first | (with_reducible exact Below.refl _ _) | (with_reducible assumption) | (with_reducible refine Below.alloc ?_ ?_ _) | (with_reducible refine Below.drew ?_) | (with_reducible refine Below.setCell ?_ ?_ _) | (with_reducible refine after ?_ (below_regrown _ _ _)) | (refine after ?_ (by with_reducible assumption)) | go_size))⟩
set_option maxRecDepth 100000 in
set_option maxHeartbeats 4000000 in
theorem ralong_c (q : Option Addr) (n' cp : Nat) (F : Nat → Int) (els : Int) (x : B6) (axis dd M : Int) (hM : M ≤ 72000000000000) (hM0 : 0 ≤ M) (hB : Sm6 M x) (w : World)
    (hq : Iq w q n' F) :
    Calls Try.prog 82 #[.agg #[.slice q n' cp, .int .i64 els], .agg (ag6 x), .int .i64 axis, .int .i64 dd] w fun r w' => r = .returned (alT (al6 (fun c => atG n' F els c.1 c.2.1 c.2.2) x axis dd)) ∧ Below w.heap.size w w' := by
  have HC := Lib.hid fun W (h : Below w.heap.size w W) => rsaxis_c q n' cp F els x.1 x.2.1 x.2.2.1 x.2.2.2.1 x.2.2.2.2.1 x.2.2.2.2.2 axis dd M hM hM0 hB W (hq.on h)
  have hal : al6 (fun c => atG n' F els c.1 c.2.1 c.2.2) x axis dd = (mv6 x axis (ax6 (fun c => atG n' F els c.1 c.2.1 c.2.2) x axis dd).1, (ax6 (fun c => atG n' F els c.1 c.2.1 c.2.2) x axis dd).2) := rfl
  rw [hal]
  unfold ax6 mv6
  obtain ⟨a, b, c, d, e, f⟩ := x
  simp only [ag6] at HC ⊢
  generalize axisV (fun c => atG n' F els c.1 c.2.1 c.2.2) a b c d e f axis dd = r at HC ⊢
  obtain ⟨n, hit⟩ := r
  simp only [axT] at HC ⊢
  clear hq hM hM0 hB hal
  obtain ⟨W0, hW0⟩ : ∃ W0, W0 = ((w.alloc (.cells #[.slice q n' cp, .int .i64 els] 24)).alloc (.cells #[.int .i64 a, .int .i64 b, .int .i64 c, .int .i64 d, .int .i64 e, .int .i64 f] 48)).alloc (.cells #[.int .i64 0, .int .i64 0, .int .i64 0, .int .i64 0, .int .i64 0, .int .i64 0] 48) := ⟨_, rfl⟩
  have U : Blk W0 (w.heap.size + 1) 48 _ := Blk.eqw hW0.symm ((Blk.new' (by simp)).alloc _)
  have R0 : Blk W0 (w.heap.size + 1 + 1) 48 _ := Blk.eqw hW0.symm (Blk.new' (by simp))
  have H0 : Below w.heap.size w W0 := by rw [hW0]; go_grown
  have XA : Blk W0 w.heap.size 24 #[.slice q n' cp, .int .i64 els] := Blk.eqw hW0.symm (((Blk.new' rfl).alloc _).alloc _)
  go_enter Try.func82, Try.ntmps82
  go_upto_region 1 with (fail)
  rw [← hW0]
  clear hW0
  obtain ⟨u0, u1, u2, u3, u4, u5⟩ := U.c6.1
  obtain ⟨g0, g1⟩ : W0.cell? ⟨w.heap.size, 0, none⟩ = _ ∧ W0.cell? ⟨w.heap.size, 1, none⟩ = _ := ⟨XA.cell 0, XA.cell 1⟩
  go_upto_region 2 with (go_at_call 106; refine (HC.out _ H0).mono ?_; rintro e_ w1 ⟨rfl, h1⟩)
  replace U := U.on h1
  have R := R0.on h1
  replace H0 := after H0 h1
  clear u0 u1 u2 u3 u4 u5 h1 R0 HC
  obtain ⟨u0, u1, u2, u3, u4, u5⟩ := U.re6
  refine wp_sched [0, 0, 0, 0, 0, 0, 1, 3, 3] (fun _ _ _ => True) (by kernel_rfl) (by kernel_rfl) (fun _ _ _ _ h _ => h) ?_
  repeat (first | (refine wpQs_s ?_) | (refine wpQs_q (fun K hK => ?_); go_simp; first | (refine hK _ ?_; clear hK K) | (apply Exists.intro; refine ⟨fun _ => ?_, hK _ ?_⟩; (first | exact rwith_c _ _ _ _ _ _ | exact srmove_c _ _ _ _ _ _ _ _ _ _); clear hK K)) | (refine wpQs_f (fun K hK => ?_); go_simp; refine hK _ ?_; clear hK K))
  refine wpQs_nil ?_
  repeat (first | (refine wpLs_skip ?_) | (refine wpLs_one ?lsA (fun v_ => ?_); case lsA => (intro w_ hw_ hp_; (fail))))
  refine wpLs_nilB ?_
  simp only [tails]
  intro W2 h2 _
  clear u0 u1 u2 u3 u4 u5
  replace R := R.on h2
  replace H0 := after H0 h2
  obtain ⟨⟨r0, r1, r2, r3, r4, r5⟩, s0, s1, s2, s3, s4, s5⟩ := R.c6
  go_wp2_with fail
  have R2 := R.st6 (.int .i64 (addI a (wiI 0 axis 0 n))) (.int .i64 (addI b (wiI 0 axis 1 n))) (.int .i64 (addI c (wiI 0 axis 2 n))) (.int .i64 (addI d (wiI 0 axis 0 n))) (.int .i64 (addI e (wiI 0 axis 1 n))) (.int .i64 (addI f (wiI 0 axis 2 n)))
  obtain ⟨⟨d0, d1, d2, d3, d4, d5⟩, -, -, -, -, -, -⟩ := R2.c6
  exact bodyPost_ret (v := alT ((addI a (wiI 0 axis 0 n), addI b (wiI 0 axis 1 n), addI c (wiI 0 axis 2 n), addI d (wiI 0 axis 0 n), addI e (wiI 0 axis 1 n), addI f (wiI 0 axis 2 n)), hit)) (by simp [results, Try.f82, go_sem, alT, d0, d1, d2, d3, d4, d5]) rfl ⟨rfl, by (repeat' (first | (with_reducible exact Below.refl _ _) | (with_reducible assumption) | (with_reducible refine Below.alloc ?_ ?_ _) | (with_reducible refine Below.drew ?_) | (with_reducible refine Below.setCell ?_ ?_ _) | (with_reducible refine after ?_ (below_regrown _ _ _)) | (refine after ?_ (by with_reducible assumption)) | go_size))⟩
end Go.Proofs.Ytnokibdecnddlaa

/- A box that moves: along the three axes. -/
namespace Go.Proofs.Ytnokibdecnddlaa
open Go.RowKit Go.Shelf
attribute [local go_sem] Oper.semAt_some

theorem arr3_at (a b c : Int) (w : World) : (Instr.index 108 (.agg #[.int .i64 a, .int .i64 b, .int .i64 c]) (.int .i64 0)).run Try.prog w = .ok (.int .i64 a) w ∧ (Instr.index 108 (.agg #[.int .i64 a, .int .i64 b, .int .i64 c]) (.int .i64 1)).run Try.prog w = .ok (.int .i64 b) w ∧ (Instr.index 108 (.agg #[.int .i64 a, .int .i64 b, .int .i64 c]) (.int .i64 2)).run Try.prog w = .ok (.int .i64 c) w := by
  refine ⟨?_, ?_, ?_⟩ <;> simp [Instr.index, asIntOf, go_sem]
theorem sx6_far {w : World} {N g : Nat} {t : TypeId} {cs : Array Value} (V : Blk w g t cs) (h : g ≠ N) (v0 v1 v2 v3 v4 v5 : Value) : Blk ((((((w.setCell ⟨N, 0, none⟩ v0).setCell ⟨N, 1, none⟩ v1).setCell ⟨N, 2, none⟩ v2).setCell ⟨N, 3, none⟩ v3).setCell ⟨N, 4, none⟩ v4).setCell ⟨N, 5, none⟩ v5) g t cs :=
  (((((V.far (p := ⟨N, 0, none⟩) h _).far (p := ⟨N, 1, none⟩) h _).far (p := ⟨N, 2, none⟩) h _).far (p := ⟨N, 3, none⟩) h _).far (p := ⟨N, 4, none⟩) h _).far (p := ⟨N, 5, none⟩) h _
theorem sx6_below {w w0 : World} {N n : Nat} (H : Below n w0 w) (h : n ≤ N) (v0 v1 v2 v3 v4 v5 : Value) : Below n w0 ((((((w.setCell ⟨N, 0, none⟩ v0).setCell ⟨N, 1, none⟩ v1).setCell ⟨N, 2, none⟩ v2).setCell ⟨N, 3, none⟩ v3).setCell ⟨N, 4, none⟩ v4).setCell ⟨N, 5, none⟩ v5) :=
  (((((H.setCell (p := ⟨N, 0, none⟩) h _).setCell (p := ⟨N, 1, none⟩) h _).setCell (p := ⟨N, 2, none⟩) h _).setCell (p := ⟨N, 3, none⟩) h _).setCell (p := ⟨N, 4, none⟩) h _).setCell (p := ⟨N, 5, none⟩) h _
set_option maxRecDepth 100000 in
set_option maxHeartbeats 8000000 in
theorem pmove_c (V : FuncId) (lv : Array Value) (val : Cl → Int) (x : B6) (dx dy dz M : Int) (hM : M ≤ 71500000000000) (hM0 : 0 ≤ M) (hB : Sm6 M x) (w : World)
    (eV : ∀ args w, (callFunc V args).run Try.prog w = .ok (.enter V args) w) (hV : Tells Try.prog V lv val w) :
    Calls Try.prog 67 #[.func (.func V) #[] lv, .agg (ag6 x), .agg #[.int .i64 dx, .int .i64 dy, .int .i64 dz]] w fun r w' => r = .returned (moveT val x dx dy dz) ∧ Below w.heap.size w w' := by
  have s1 := al6_sm hB hM0 (by omega) val 1 dy
  have s2 := al6_sm (x := st1 val x dy) s1 (by omega) (by omega) val 0 dx
  have C1 := fun W (h : Below w.heap.size w W) => palong_c V lv val x 1 dy M (by omega) hM0 hB W eV (hV.on h)
  have C2 := fun W (h : Below w.heap.size w W) => palong_c V lv val (st1 val x dy) 0 dx (M + 10000000) (by omega) (by omega) s1 W eV (hV.on h)
  have C3 := fun W (h : Below w.heap.size w W) => palong_c V lv val (st2 val x dx dy) 2 dz (M + 10000000 + 10000000) (by omega) (by omega) s2 W eV (hV.on h)
  unfold moveT
  have e3 : st3 val x dx dy dz = (al6 val (st2 val x dx dy) 2 dz).1 := rfl
  have f3 : hz3 val x dx dy dz = (al6 val (st2 val x dx dy) 2 dz).2 := rfl
  have e2 : st2 val x dx dy = (al6 val (st1 val x dy) 0 dx).1 := rfl
  have f2 : hx2 val x dx dy = (al6 val (st1 val x dy) 0 dx).2 := rfl
  have e1 : st1 val x dy = (al6 val x 1 dy).1 := rfl
  have f1 : hy1 val x dy = (al6 val x 1 dy).2 := rfl
  rw [e3, f3, f2, f1]
  generalize al6 val (st2 val x dx dy) 2 dz = p3 at C3 ⊢
  rw [e2] at C3
  generalize al6 val (st1 val x dy) 0 dx = p2 at C2 C3 ⊢
  rw [e1] at C2
  generalize al6 val x 1 dy = p1 at C1 C2 ⊢
  obtain ⟨⟨a1, b1, c1, d1, g1, h1⟩, u1⟩ := p1
  obtain ⟨⟨a2, b2, c2, d2, g2, h2⟩, u2⟩ := p2
  obtain ⟨⟨a3, b3, c3, d3, g3, h3⟩, u3⟩ := p3
  obtain ⟨a, b, c, d, e, f⟩ := x
  simp only [alT, ag6] at C1 C2 C3 ⊢
  have HC1 := Lib.hid C1
  have HC2 := Lib.hid C2
  have HC3 := Lib.hid C3
  clear C1 C2 C3 s1 s2 hM hM0 hB eV hV e1 e2 e3 f1 f2 f3
  obtain ⟨W, hW⟩ : ∃ W, W = ((((w.alloc (.cells #[.int .i64 a, .int .i64 b, .int .i64 c, .int .i64 d, .int .i64 e, .int .i64 f] 48)).alloc (.cells #[.int .i64 dx, .int .i64 dy, .int .i64 dz] 26)).alloc (.cells #[.int .i64 0, .int .i64 0, .int .i64 0, .int .i64 0, .int .i64 0, .int .i64 0] 48)).alloc (.cells #[.bool false, .bool false, .bool false] 89)).alloc (.cells #[.bool false, .bool false, .bool false] 89) := ⟨_, rfl⟩
  have H : Below w.heap.size w W := by rw [hW]; go_grown
  obtain ⟨N, hN⟩ : ∃ N, N = w.heap.size := ⟨_, rfl⟩
  have U : Blk W N 48 _ := Blk.eqw hW.symm (by rw [hN]; exact ((((Blk.new' rfl).alloc _).alloc _).alloc _).alloc _)
  have D : Blk W (N + 1) 26 _ := Blk.eqw hW.symm (by rw [hN]; exact (((Blk.new' (by simp)).alloc _).alloc _).alloc _)
  have R0 : Blk W (N + 1 + 1) 48 _ := Blk.eqw hW.symm (by rw [hN]; exact ((Blk.new' (by simp)).alloc _).alloc _)
  have R1 : Blk W (N + 1 + 1 + 1) 89 _ := Blk.eqw hW.symm (by rw [hN]; exact (Blk.new' (by simp)).alloc _)
  have T0 : Blk W (N + 1 + 1 + 1 + 1) 89 _ := Blk.eqw hW.symm (by rw [hN]; exact Blk.new' (by simp))
  have ix0 := fun w => (arr3_at 1 0 2 w).1
  have ix1 := fun w => (arr3_at 1 0 2 w).2.1
  have ix2 := fun w => (arr3_at 1 0 2 w).2.2
  go_enter Try.func67, Try.ntmps67
  go_upto_region 2 with (fail)
  rw [← hW, ← hN]
  have HN := Lib.hid hN
  clear hW hN
  go_upto_region 3 with (fail)
  go_loopw [10, 12] (fun _ kv wr => ((kv = .int .i64 0 ∧ Blk wr N 48 #[.int .i64 a, .int .i64 b, .int .i64 c, .int .i64 d, .int .i64 e, .int .i64 f] ∧ Blk wr (N + 1 + 1 + 1 + 1) 89 #[.bool false, .bool false, .bool false]) ∨ (kv = .int .i64 1 ∧ Blk wr N 48 #[.int .i64 a1, .int .i64 b1, .int .i64 c1, .int .i64 d1, .int .i64 g1, .int .i64 h1] ∧ Blk wr (N + 1 + 1 + 1 + 1) 89 #[.bool false, .bool u1, .bool false]) ∨ (kv = .int .i64 2 ∧ Blk wr N 48 #[.int .i64 a2, .int .i64 b2, .int .i64 c2, .int .i64 d2, .int .i64 g2, .int .i64 h2] ∧ Blk wr (N + 1 + 1 + 1 + 1) 89 #[.bool u2, .bool u1, .bool false]) ∨ (kv = .int .i64 3 ∧ Blk wr N 48 #[.int .i64 a3, .int .i64 b3, .int .i64 c3, .int .i64 d3, .int .i64 g3, .int .i64 h3] ∧ Blk wr (N + 1 + 1 + 1 + 1) 89 #[.bool u2, .bool u1, .bool u3])) ∧ Blk wr (N + 1) 26 #[.int .i64 dx, .int .i64 dy, .int .i64 dz] ∧ Blk wr (N + 1 + 1) 48 #[.int .i64 0, .int .i64 0, .int .i64 0, .int .i64 0, .int .i64 0, .int .i64 0] ∧ Blk wr (N + 1 + 1 + 1) 89 #[.bool false, .bool false, .bool false] ∧ Hid (Below w.heap.size w wr)) (fun _ v _ => 3 - (intOf v).toNat)
  case atStart => exact ⟨.inl ⟨rfl, U, T0⟩, D, R0, R1, H⟩
  case round =>
    clear U T0 D R0 R1 H
    obtain ⟨hd, D, R0, R1, H⟩ := hrel
    have hNw : w.heap.size ≤ N := by rw [← HN.out]; exact Nat.le_refl _
    rcases hd with ⟨rfl, U, T0⟩ | ⟨rfl, U, T0⟩ | ⟨rfl, U, T0⟩ | ⟨rfl, U, T0⟩
    · have hc := fun x y => HC1.out (Go.Sort.grow (redrawn _ x) y) (after H.out (below_regrown _ x y))
      have CC := Lib.hid hc
      clear hc
      obtain ⟨u0, uu1, uu2, uu3, uu4, uu5⟩ := U.re6
      obtain ⟨v0, v1, v2⟩ := D.re3
      go_upto_region 5 with (fail)
      refine wp_sched [1, 1, 0, 0, 0, 0, 0, 0, 0, 0, 1, 3, 3, 3] (fun _ _ _ => True) (by kernel_rfl) (by kernel_rfl) (fun _ _ _ _ h _ => h) ?_
      repeat (first | (refine wpQs_s ?_) | (refine wpQs_q (fun K hK => ?_); go_simp; first | (refine hK _ ?_; clear hK K) | (apply Exists.intro; refine ⟨fun _ => ?_, hK _ ?_⟩; (first | exact CC.out _ _ | exact axis_e _ _ _ _ _ rfl _); clear hK K)) | (refine wpQs_f (fun K hK => ?_); go_simp; refine hK _ ?_; clear hK K))
      refine wpQs_nil ?_
      repeat (first | (refine wpLs_skip ?_) | (refine wpLs_one ?lsA (fun v_ => ?_); case lsA => (intro w_ hw_ hp_; (fail))))
      refine wpLs_nilB ?_
      simp only [tails]
      intro W5 k5 _
      clear u0 uu1 uu2 uu3 uu4 uu5 v0 v1 v2
      replace U := U.on k5
      replace T0 := T0.on k5
      have t1 := T0.cell 1
      have tf := T0.frz 1
      obtain ⟨⟨r0, r1, r2, r3, r4, r5⟩, z0, z1, z2, z3, z4, z5⟩ := U.c6
      go_wp2_with fail
      go_roundw
      case rel => exact ⟨.inr (.inl ⟨rfl, (U.st6 (.int .i64 a1) (.int .i64 b1) (.int .i64 c1) (.int .i64 d1) (.int .i64 g1) (.int .i64 h1)).far (p := ⟨N + 1 + 1 + 1 + 1, 1, none⟩) (by dsimp only; omega) _, (sx6_far T0 (by omega) (.int .i64 a1) (.int .i64 b1) (.int .i64 c1) (.int .i64 d1) (.int .i64 g1) (.int .i64 h1)).set_ 1 (.bool u1)⟩), (sx6_far (D.on k5) (by omega) (.int .i64 a1) (.int .i64 b1) (.int .i64 c1) (.int .i64 d1) (.int .i64 g1) (.int .i64 h1)).far (p := ⟨N + 1 + 1 + 1 + 1, 1, none⟩) (by dsimp only; omega) _, (sx6_far (R0.on k5) (by omega) (.int .i64 a1) (.int .i64 b1) (.int .i64 c1) (.int .i64 d1) (.int .i64 g1) (.int .i64 h1)).far (p := ⟨N + 1 + 1 + 1 + 1, 1, none⟩) (by dsimp only; omega) _, (sx6_far (R1.on k5) (by omega) (.int .i64 a1) (.int .i64 b1) (.int .i64 c1) (.int .i64 d1) (.int .i64 g1) (.int .i64 h1)).far (p := ⟨N + 1 + 1 + 1 + 1, 1, none⟩) (by dsimp only; omega) _, (sx6_below (after H.out k5) hNw (.int .i64 a1) (.int .i64 b1) (.int .i64 c1) (.int .i64 d1) (.int .i64 g1) (.int .i64 h1)).setCell (p := ⟨N + 1 + 1 + 1 + 1, 1, none⟩) (by dsimp only; omega) _⟩
      case measure => simp [intOf]
    · have hc := fun x y => HC2.out (Go.Sort.grow (redrawn _ x) y) (after H.out (below_regrown _ x y))
      have CC := Lib.hid hc
      clear hc
      obtain ⟨u0, uu1, uu2, uu3, uu4, uu5⟩ := U.re6
      obtain ⟨v0, v1, v2⟩ := D.re3
      go_upto_region 5 with (fail)
      refine wp_sched [1, 1, 0, 0, 0, 0, 0, 0, 0, 0, 1, 3, 3, 3] (fun _ _ _ => True) (by kernel_rfl) (by kernel_rfl) (fun _ _ _ _ h _ => h) ?_
      repeat (first | (refine wpQs_s ?_) | (refine wpQs_q (fun K hK => ?_); go_simp; first | (refine hK _ ?_; clear hK K) | (apply Exists.intro; refine ⟨fun _ => ?_, hK _ ?_⟩; (first | exact CC.out _ _ | exact axis_e _ _ _ _ _ rfl _); clear hK K)) | (refine wpQs_f (fun K hK => ?_); go_simp; refine hK _ ?_; clear hK K))
      refine wpQs_nil ?_
      repeat (first | (refine wpLs_skip ?_) | (refine wpLs_one ?lsA (fun v_ => ?_); case lsA => (intro w_ hw_ hp_; (fail))))
      refine wpLs_nilB ?_
      simp only [tails]
      intro W5 k5 _
      clear u0 uu1 uu2 uu3 uu4 uu5 v0 v1 v2
      replace U := U.on k5
      replace T0 := T0.on k5
      have t0 := T0.cell 0
      have tf := T0.frz 0
      obtain ⟨⟨r0, r1, r2, r3, r4, r5⟩, z0, z1, z2, z3, z4, z5⟩ := U.c6
      go_wp2_with fail
      go_roundw
      case rel => exact ⟨.inr (.inr (.inl ⟨rfl, (U.st6 (.int .i64 a2) (.int .i64 b2) (.int .i64 c2) (.int .i64 d2) (.int .i64 g2) (.int .i64 h2)).far (p := ⟨N + 1 + 1 + 1 + 1, 0, none⟩) (by dsimp only; omega) _, (sx6_far T0 (by omega) (.int .i64 a2) (.int .i64 b2) (.int .i64 c2) (.int .i64 d2) (.int .i64 g2) (.int .i64 h2)).set_ 0 (.bool u2)⟩)), (sx6_far (D.on k5) (by omega) (.int .i64 a2) (.int .i64 b2) (.int .i64 c2) (.int .i64 d2) (.int .i64 g2) (.int .i64 h2)).far (p := ⟨N + 1 + 1 + 1 + 1, 0, none⟩) (by dsimp only; omega) _, (sx6_far (R0.on k5) (by omega) (.int .i64 a2) (.int .i64 b2) (.int .i64 c2) (.int .i64 d2) (.int .i64 g2) (.int .i64 h2)).far (p := ⟨N + 1 + 1 + 1 + 1, 0, none⟩) (by dsimp only; omega) _, (sx6_far (R1.on k5) (by omega) (.int .i64 a2) (.int .i64 b2) (.int .i64 c2) (.int .i64 d2) (.int .i64 g2) (.int .i64 h2)).far (p := ⟨N + 1 + 1 + 1 + 1, 0, none⟩) (by dsimp only; omega) _, (sx6_below (after H.out k5) hNw (.int .i64 a2) (.int .i64 b2) (.int .i64 c2) (.int .i64 d2) (.int .i64 g2) (.int .i64 h2)).setCell (p := ⟨N + 1 + 1 + 1 + 1, 0, none⟩) (by dsimp only; omega) _⟩
      case measure => simp [intOf]
    · have hc := fun x y => HC3.out (Go.Sort.grow (redrawn _ x) y) (after H.out (below_regrown _ x y))
      have CC := Lib.hid hc
      clear hc
      obtain ⟨u0, uu1, uu2, uu3, uu4, uu5⟩ := U.re6
      obtain ⟨v0, v1, v2⟩ := D.re3
      go_upto_region 5 with (fail)
      refine wp_sched [1, 1, 0, 0, 0, 0, 0, 0, 0, 0, 1, 3, 3, 3] (fun _ _ _ => True) (by kernel_rfl) (by kernel_rfl) (fun _ _ _ _ h _ => h) ?_
      repeat (first | (refine wpQs_s ?_) | (refine wpQs_q (fun K hK => ?_); go_simp; first | (refine hK _ ?_; clear hK K) | (apply Exists.intro; refine ⟨fun _ => ?_, hK _ ?_⟩; (first | exact CC.out _ _ | exact axis_e _ _ _ _ _ rfl _); clear hK K)) | (refine wpQs_f (fun K hK => ?_); go_simp; refine hK _ ?_; clear hK K))
      refine wpQs_nil ?_
      repeat (first | (refine wpLs_skip ?_) | (refine wpLs_one ?lsA (fun v_ => ?_); case lsA => (intro w_ hw_ hp_; (fail))))
      refine wpLs_nilB ?_
      simp only [tails]
      intro W5 k5 _
      clear u0 uu1 uu2 uu3 uu4 uu5 v0 v1 v2
      replace U := U.on k5
      replace T0 := T0.on k5
      have t2 := T0.cell 2
      have tf := T0.frz 2
      obtain ⟨⟨r0, r1, r2, r3, r4, r5⟩, z0, z1, z2, z3, z4, z5⟩ := U.c6
      go_wp2_with fail
      go_roundw
      case rel => exact ⟨.inr (.inr (.inr ⟨rfl, (U.st6 (.int .i64 a3) (.int .i64 b3) (.int .i64 c3) (.int .i64 d3) (.int .i64 g3) (.int .i64 h3)).far (p := ⟨N + 1 + 1 + 1 + 1, 2, none⟩) (by dsimp only; omega) _, (sx6_far T0 (by omega) (.int .i64 a3) (.int .i64 b3) (.int .i64 c3) (.int .i64 d3) (.int .i64 g3) (.int .i64 h3)).set_ 2 (.bool u3)⟩)), (sx6_far (D.on k5) (by omega) (.int .i64 a3) (.int .i64 b3) (.int .i64 c3) (.int .i64 d3) (.int .i64 g3) (.int .i64 h3)).far (p := ⟨N + 1 + 1 + 1 + 1, 2, none⟩) (by dsimp only; omega) _, (sx6_far (R0.on k5) (by omega) (.int .i64 a3) (.int .i64 b3) (.int .i64 c3) (.int .i64 d3) (.int .i64 g3) (.int .i64 h3)).far (p := ⟨N + 1 + 1 + 1 + 1, 2, none⟩) (by dsimp only; omega) _, (sx6_far (R1.on k5) (by omega) (.int .i64 a3) (.int .i64 b3) (.int .i64 c3) (.int .i64 d3) (.int .i64 g3) (.int .i64 h3)).far (p := ⟨N + 1 + 1 + 1 + 1, 2, none⟩) (by dsimp only; omega) _, (sx6_below (after H.out k5) hNw (.int .i64 a3) (.int .i64 b3) (.int .i64 c3) (.int .i64 d3) (.int .i64 g3) (.int .i64 h3)).setCell (p := ⟨N + 1 + 1 + 1 + 1, 2, none⟩) (by dsimp only; omega) _⟩
      case measure => simp [intOf]
    · have x0 := fun f d os => (U.sp (D := [N + 1 + 1, N + 1 + 1 + 1]) (by simp; omega) f d os).c6.1
      have y0 := fun f d os => (T0.sp (D := [N + 1 + 1, N + 1 + 1 + 1]) (by simp; omega) f d os).c3
      go_upto_region 7 with (fail)
      refine wp_two [0, 0, 2, 2] 2 (N + 1 + 1) 48 (#[.int .i64 a3, .int .i64 b3, .int .i64 c3, .int .i64 d3, .int .i64 g3, .int .i64 h3]) 3 (N + 1 + 1 + 1) 89 (#[.bool u2, .bool u1, .bool u3]) (by omega) (by kernel_rfl) (by kernel_rfl) ?_
      repeat (first | (refine wpQs_s ?_) | (refine wpQs_q (fun K hK => ?_); go_simp; first | (refine hK _ ?_; clear hK K) | (apply Exists.intro; refine ⟨fun _ => ?_, hK _ ?_⟩; (fail); clear hK K)) | (refine wpQs_f (fun K hK => ?_); go_simp; refine hK _ ?_; clear hK K))
      refine wpQs_nil ?_
      repeat (refine wpLs_skip ?_)
      refine wpLs_one ?s1 (fun _ => ?_)
      case s1 =>
        intro w_ hw_ hp_
        have L2 := hp_.blk (by simp [Ds2]) R0
        obtain ⟨⟨q0, q1, q2, q3, q4, q5⟩, f0, f1, f2, f3, f4, f5⟩ := L2.c6
        go_simp
        exact two_fst (by decide) kept6 (L2.st6 _ _ _ _ _ _)
      refine wpLs_one ?s2 (fun _ => ?_)
      case s2 =>
        intro w_ hw_ hp_
        have T2 := hp_.blk (by simp [Ds2]) R1
        obtain ⟨q0, q1, q2, f0, f1, f2⟩ := T2.c3
        go_simp
        exact two_snd (by decide) kept3 (T2.st3 _ _ _)
      refine wpLs_nilD ?_
      simp only [tails]
      rintro w1 k1 ⟨⟨-, r1⟩, r2⟩
      obtain ⟨⟨m0, m1, m2, m3, m4, m5⟩, -, -, -, -, -, -⟩ := (r1.1 rfl).c6
      obtain ⟨j0, j1, j2, -, -, -⟩ := (r2.2 rfl).c3
      clear r1 r2 x0 y0
      go_wp2_with fail
      refine bodyPost_ret (v := .tuple #[.agg #[.int .i64 a3, .int .i64 b3, .int .i64 c3, .int .i64 d3, .int .i64 g3, .int .i64 h3], .agg #[.bool u2, .bool u1, .bool u3]]) (by simp [results, Try.f67, go_sem, m0, m1, m2, m3, m4, m5, j0, j1, j2]) rfl ⟨rfl, ?_⟩
      exact H.out.trans (k1.below H.out.size (fun b hb => by simp; omega))
end Go.Proofs.Ytnokibdecnddlaa

/- The hits: a speed stopped, any. -/
namespace Go.Proofs.Ytnokibdecnddlaa
open Go.RowKit Go.Shelf
attribute [local go_sem] Oper.semAt_some

def zb (b : Bool) (n : Int) : Int := if b then 0 else n
theorem arrb_at (a b c : Bool) (w : World) : (Instr.index 89 (.agg #[.bool a, .bool b, .bool c]) (.int .i64 0)).run Try.prog w = .ok (.bool a) w ∧ (Instr.index 89 (.agg #[.bool a, .bool b, .bool c]) (.int .i64 1)).run Try.prog w = .ok (.bool b) w ∧ (Instr.index 89 (.agg #[.bool a, .bool b, .bool c]) (.int .i64 2)).run Try.prog w = .ok (.bool c) w := by
  refine ⟨?_, ?_, ?_⟩ <;> simp [Instr.index, asIntOf, go_sem]
theorem with_v (x y z a m p q r : Int) (h1 : wiI x a 0 m = p) (h2 : wiI y a 1 m = q) (h3 : wiI z a 2 m = r) (w : World) : Calls Try.prog 62 #[.agg #[.int .i64 x, .int .i64 y, .int .i64 z], .int .i64 a, .int .i64 m] w fun e w' => e = .returned (.agg #[.int .i64 p, .int .i64 q, .int .i64 r]) ∧ Below w.heap.size w w' := by
  subst h1 h2 h3; exact with_c x y z a m w
set_option maxHeartbeats 4000000 in
theorem stop_c (h0 h1 h2 : Bool) (x y z : Int) (w : World) : Calls Try.prog 79 #[.agg #[.bool h0, .bool h1, .bool h2], .agg #[.int .i64 x, .int .i64 y, .int .i64 z]] w fun r w' => r = .returned (.agg #[.int .i64 (zb h0 x), .int .i64 (zb h1 y), .int .i64 (zb h2 z)]) ∧ Below w.heap.size w w' := by
  obtain ⟨W, hW⟩ : ∃ W, W = ((w.alloc (.cells #[.bool h0, .bool h1, .bool h2] 89)).alloc (.cells #[.int .i64 x, .int .i64 y, .int .i64 z] 26)).alloc (.cells #[.int .i64 0, .int .i64 0, .int .i64 0] 26) := ⟨_, rfl⟩
  have H : Below w.heap.size w W := by rw [hW]; go_grown
  obtain ⟨N, hN⟩ : ∃ N, N = w.heap.size := ⟨_, rfl⟩
  have A : Blk W N 89 _ := Blk.eqw hW.symm (by rw [hN]; exact ((Blk.new' rfl).alloc _).alloc _)
  have S : Blk W (N + 1) 26 _ := Blk.eqw hW.symm (by rw [hN]; exact (Blk.new' (by simp)).alloc _)
  have R : Blk W (N + 1 + 1) 26 _ := Blk.eqw hW.symm (by rw [hN]; exact Blk.new' (by simp))
  have ix0 := fun w => (arrb_at h0 h1 h2 w).1
  have ix1 := fun w => (arrb_at h0 h1 h2 w).2.1
  have ix2 := fun w => (arrb_at h0 h1 h2 w).2.2
  go_enter Try.func79, Try.ntmps79
  go_upto_region 1 with (fail)
  rw [← hW, ← hN]
  have HN := Lib.hid hN
  clear hW hN
  obtain ⟨a0, a1, a2, -, -, -⟩ := A.c3
  go_upto_region 2 with (fail)
  go_loopw [5, 6, 8] (fun _ _ kv wr => ((kv = .int .i64 0 ∧ Blk wr (N + 1) 26 #[.int .i64 x, .int .i64 y, .int .i64 z]) ∨ (kv = .int .i64 1 ∧ Blk wr (N + 1) 26 #[.int .i64 (zb h0 x), .int .i64 y, .int .i64 z]) ∨ (kv = .int .i64 2 ∧ Blk wr (N + 1) 26 #[.int .i64 (zb h0 x), .int .i64 (zb h1 y), .int .i64 z]) ∨ (kv = .int .i64 3 ∧ Blk wr (N + 1) 26 #[.int .i64 (zb h0 x), .int .i64 (zb h1 y), .int .i64 (zb h2 z)])) ∧ Blk wr (N + 1 + 1) 26 #[.int .i64 0, .int .i64 0, .int .i64 0] ∧ Hid (Below w.heap.size w wr)) (fun _ _ v _ => 3 - (intOf v).toNat)
  case atStart => exact ⟨.inl ⟨rfl, S⟩, R, H⟩
  case round =>
    clear A S R H a0 a1 a2
    obtain ⟨hd, R, H⟩ := hrel
    have hNw : w.heap.size ≤ N + 1 := by rw [← HN.out]; exact Nat.le_succ _
    rcases hd with ⟨rfl, S⟩ | ⟨rfl, S⟩ | ⟨rfl, S⟩ | ⟨rfl, S⟩
    · cases h0
      · go_wp2_with fail
        go_roundw
        case rel => exact ⟨.inr (.inl ⟨rfl, S⟩), R, H⟩
        case measure => simp [intOf]
      · obtain ⟨s0, s1, s2, t0, t1, t2⟩ := S.c3
        go_wp2_with (go_at_call 62; refine (with_v _ _ _ _ _ _ _ _ rfl rfl rfl _).mono ?_; rintro e_ w5 ⟨rfl, h5⟩; replace S := S.on h5; obtain ⟨s0, s1, s2, t0, t1, t2⟩ := S.c3)
        go_roundw
        case rel => exact ⟨.inr (.inl ⟨rfl, S.st3 _ _ _⟩), (((R.on h5).far (p := ⟨N + 1, 0, none⟩) (by dsimp only; omega) _).far (p := ⟨N + 1, 1, none⟩) (by dsimp only; omega) _).far (p := ⟨N + 1, 2, none⟩) (by dsimp only; omega) _, (((after H.out h5).setCell (p := ⟨N + 1, 0, none⟩) hNw _).setCell (p := ⟨N + 1, 1, none⟩) hNw _).setCell (p := ⟨N + 1, 2, none⟩) hNw _⟩
        case measure => simp [intOf]
    · cases h1
      · go_wp2_with fail
        go_roundw
        case rel => exact ⟨.inr (.inr (.inl ⟨rfl, S⟩)), R, H⟩
        case measure => simp [intOf]
      · obtain ⟨s0, s1, s2, t0, t1, t2⟩ := S.c3
        go_wp2_with (go_at_call 62; refine (with_v _ _ _ _ _ _ _ _ rfl rfl rfl _).mono ?_; rintro e_ w5 ⟨rfl, h5⟩; replace S := S.on h5; obtain ⟨s0, s1, s2, t0, t1, t2⟩ := S.c3)
        go_roundw
        case rel => exact ⟨.inr (.inr (.inl ⟨rfl, S.st3 _ _ _⟩)), (((R.on h5).far (p := ⟨N + 1, 0, none⟩) (by dsimp only; omega) _).far (p := ⟨N + 1, 1, none⟩) (by dsimp only; omega) _).far (p := ⟨N + 1, 2, none⟩) (by dsimp only; omega) _, (((after H.out h5).setCell (p := ⟨N + 1, 0, none⟩) hNw _).setCell (p := ⟨N + 1, 1, none⟩) hNw _).setCell (p := ⟨N + 1, 2, none⟩) hNw _⟩
        case measure => simp [intOf]
    · cases h2
      · go_wp2_with fail
        go_roundw
        case rel => exact ⟨.inr (.inr (.inr ⟨rfl, S⟩)), R, H⟩
        case measure => simp [intOf]
      · obtain ⟨s0, s1, s2, t0, t1, t2⟩ := S.c3
        go_wp2_with (go_at_call 62; refine (with_v _ _ _ _ _ _ _ _ rfl rfl rfl _).mono ?_; rintro e_ w5 ⟨rfl, h5⟩; replace S := S.on h5; obtain ⟨s0, s1, s2, t0, t1, t2⟩ := S.c3)
        go_roundw
        case rel => exact ⟨.inr (.inr (.inr ⟨rfl, S.st3 _ _ _⟩)), (((R.on h5).far (p := ⟨N + 1, 0, none⟩) (by dsimp only; omega) _).far (p := ⟨N + 1, 1, none⟩) (by dsimp only; omega) _).far (p := ⟨N + 1, 2, none⟩) (by dsimp only; omega) _, (((after H.out h5).setCell (p := ⟨N + 1, 0, none⟩) hNw _).setCell (p := ⟨N + 1, 1, none⟩) hNw _).setCell (p := ⟨N + 1, 2, none⟩) hNw _⟩
        case measure => simp [intOf]
    · obtain ⟨s0, s1, s2, -, -, -⟩ := S.c3
      obtain ⟨r0, r1, r2, f0, f1, f2⟩ := R.c3
      replace H := H.out
      have hw2 : w.heap.size ≤ N + 1 + 1 := by omega
      go_wp2_with fail
      have R2 := R.st3 (.int .i64 (zb h0 x)) (.int .i64 (zb h1 y)) (.int .i64 (zb h2 z))
      obtain ⟨d0, d1, d2, -, -, -⟩ := R2.c3
      exact bodyPost_ret (v := .agg #[.int .i64 (zb h0 x), .int .i64 (zb h1 y), .int .i64 (zb h2 z)]) (by simp [results, Try.results79, go_sem, d0, d1, d2]) rfl ⟨rfl, by (repeat' (first | (with_reducible exact Below.refl _ _) | (with_reducible assumption) | (with_reducible refine Below.alloc ?_ ?_ _) | (with_reducible refine Below.drew ?_) | (with_reducible refine Below.setCell ?_ ?_ _) | (with_reducible refine after ?_ (below_regrown _ _ _)) | (refine after ?_ (by with_reducible assumption)) | go_size))⟩
end Go.Proofs.Ytnokibdecnddlaa

/- Bodies: plain. No program in sight. -/
namespace Go.Proofs.Ytnokibdecnddlaa
open Go.RowKit

/-- foot, speed, width, height, stands -/
abbrev BD := Int × Int × Int × Int × Int × Int × Int × Int × Bool
abbrev bd9 (b : BD) : Array Value := #[.int .i64 b.1, .int .i64 b.2.1, .int .i64 b.2.2.1, .int .i64 b.2.2.2.1, .int .i64 b.2.2.2.2.1, .int .i64 b.2.2.2.2.2.1, .int .i64 b.2.2.2.2.2.2.1, .int .i64 b.2.2.2.2.2.2.2.1, .bool b.2.2.2.2.2.2.2.2]
def mn3 (x y z : Int) : Int := min (min x y) z
def mx3 (x y z : Int) : Int := max (max x y) z
theorem run_mn3 {P : Program} (ts : Array TypeId) (t : TypeId) (k : IntKind) (x y z : Int) (w : World) : (Builtin.min_ ts t #[.int k x, .int k y, .int k z]).run P w = .ok (.int k (mn3 x y z)) w := by
  have h : mn3 x y z = if z < (if y < x then y else x) then z else (if y < x then y else x) := by unfold mn3; split <;> split <;> omega
  rw [h]
  simp [Builtin.min_, Builtin.min2]
theorem run_mx3 {P : Program} (ts : Array TypeId) (t : TypeId) (k : IntKind) (x y z : Int) (w : World) : (Builtin.max_ ts t #[.int k x, .int k y, .int k z]).run P w = .ok (.int k (mx3 x y z)) w := by
  have h : mx3 x y z = if (if x < y then y else x) < z then z else (if x < y then y else x) := by unfold mx3; split <;> split <;> omega
  rw [h]
  simp [Builtin.max_, Builtin.max2]
/-- Are a way's numbers within one? -/
def inI (x y z m : Int) : Bool := decide (-m ≤ mn3 x y z) && decide (mx3 x y z ≤ m)
theorem inI_iff {x y z m : Int} : inI x y z m = true ↔ (-m ≤ x ∧ x ≤ m) ∧ (-m ≤ y ∧ y ≤ m) ∧ -m ≤ z ∧ z ≤ m := by
  unfold inI mn3 mx3
  rw [Bool.and_eq_true, decide_eq_true_eq, decide_eq_true_eq]
  omega
/-- May a body be? -/
def mayB (b : BD) : Bool := decide (2 ≤ b.2.2.2.2.2.2.1) && decide (b.2.2.2.2.2.2.1 ≤ 131072) && decide (1 ≤ b.2.2.2.2.2.2.2.1) && decide (b.2.2.2.2.2.2.2.1 ≤ 262144) && inI b.1 b.2.1 b.2.2.1 70368744177664 && inI b.2.2.2.1 b.2.2.2.2.1 b.2.2.2.2.2.1 262144
/-- The box of one of that foot. -/
def standI (x y z wd h : Int) : B6 := (subI x (max wd 0 / 2), cutI y, subI z (max wd 0 / 2), addI x (max wd 0 / 2), addI y (max h 0), addI z (max wd 0 / 2))
def boxB (b : BD) : B6 := standI b.1 b.2.1 b.2.2.1 b.2.2.2.2.2.2.1 b.2.2.2.2.2.2.2.1
def clI (n : Int) : Int := mnI (mxI n (-70368744177664)) 70368744177664
/-- A way along an axis that brings a foot not too far. -/
def fwI (x d : Int) : Int := subI (clI (addI x d)) x
def walkI (n : Int) : Int := mulI (mnI (mxI n (-65536)) 65536) 16384
def riseI (climbs wet stands jump : Bool) (n : Int) : Int :=
  if climbs then (if jump then 8192 else mxI (n - 4096) (-8192)) else if wet then (if jump then 6144 else mxI (n - 1024) (-8192)) else if jump && stands then 28672 else mxI (n - 4096) (-262144)
section
variable (val : Cl → Int)
def anyB (p : Int → Bool) (x : B6) : Bool := (cellsI x.1 x.2.1 x.2.2.1 x.2.2.2.1 x.2.2.2.2.1 x.2.2.2.2.2).any fun c => p (val c)
def walkB (b : BD) (ix iz : Int) : BD := (b.1, b.2.1, b.2.2.1, walkI ix, b.2.2.2.2.1, walkI iz, b.2.2.2.2.2.2.1, b.2.2.2.2.2.2.2.1, b.2.2.2.2.2.2.2.2)
def riseB (b : BD) (jump : Bool) : BD := (b.1, b.2.1, b.2.2.1, b.2.2.2.1, riseI (anyB val cliB (boxB b)) (anyB val wetB (boxB b)) (unB val (boxB b)) jump b.2.2.2.2.1, b.2.2.2.2.2.1, b.2.2.2.2.2.2.1, b.2.2.2.2.2.2.2.1, b.2.2.2.2.2.2.2.2)
/-- Where it comes to, and its hits. -/
def goV (b : BD) : B6 × Bool × Bool × Bool := stepV val (boxB b) (fwI b.1 b.2.2.2.1) (fwI b.2.1 b.2.2.2.2.1) (fwI b.2.2.1 b.2.2.2.2.2.1) 32768
def putB (b : BD) (o : B6) (r : B6 × Bool × Bool × Bool) (st : Bool) : BD := (addI b.1 (subI r.1.1 o.1), addI b.2.1 (subI r.1.2.1 o.2.1), addI b.2.2.1 (subI r.1.2.2.1 o.2.2.1), zb r.2.1 b.2.2.2.1, zb r.2.2.1 b.2.2.2.2.1, zb r.2.2.2 b.2.2.2.2.2.1, b.2.2.2.2.2.2.1, b.2.2.2.2.2.2.2.1, st)
def goB (b : BD) : BD := putB b (boxB b) (goV val b) (unB val (goV val b).1)
def stepB (b : BD) (ix iz : Int) (jump : Bool) : BD := goB val (riseB val (walkB b ix iz) jump)
end
theorem boxB_walk (b : BD) (ix iz : Int) : boxB (walkB b ix iz) = boxB b := by unfold boxB walkB; rfl
theorem boxB_rise (val : Cl → Int) (b : BD) (j : Bool) : boxB (riseB val b j) = boxB b := by unfold boxB riseB; rfl
/-- A body near: its numbers. -/
structure BOk (M : Int) (b : BD) : Prop where
  x : -M ≤ b.1 ∧ b.1 ≤ M
  y : -M ≤ b.2.1 ∧ b.2.1 ≤ M
  z : -M ≤ b.2.2.1 ∧ b.2.2.1 ≤ M
  sx : -262144 ≤ b.2.2.2.1 ∧ b.2.2.2.1 ≤ 262144
  sy : -262144 ≤ b.2.2.2.2.1 ∧ b.2.2.2.2.1 ≤ 262144
  sz : -262144 ≤ b.2.2.2.2.2.1 ∧ b.2.2.2.2.2.1 ≤ 262144
  wd : 2 ≤ b.2.2.2.2.2.2.1 ∧ b.2.2.2.2.2.2.1 ≤ 131072
  ht : 1 ≤ b.2.2.2.2.2.2.2.1 ∧ b.2.2.2.2.2.2.2.1 ≤ 262144
theorem BOk.box {M : Int} {b : BD} (h : BOk M b) (hM : M ≤ 71000000000000) : Sm6 (M + 65536) (boxB b) ∧ boxB b = (b.1 - b.2.2.2.2.2.2.1 / 2, b.2.1, b.2.2.1 - b.2.2.2.2.2.2.1 / 2, b.1 + b.2.2.2.2.2.2.1 / 2, b.2.1 + b.2.2.2.2.2.2.2.1, b.2.2.1 + b.2.2.2.2.2.2.1 / 2) := by
  obtain ⟨x, y, z, sx, sy, sz, wd, ht, st⟩ := b
  obtain ⟨⟨a1, a2⟩, ⟨b1, b2⟩, ⟨c1, c2⟩, -, -, -, ⟨w1, w2⟩, h1, h2⟩ := h
  dsimp only at *
  have e : boxB (x, y, z, sx, sy, sz, wd, ht, st) = (x - wd / 2, y, z - wd / 2, x + wd / 2, y + ht, z + wd / 2) := by
    unfold boxB standI addI subI cutI
    dsimp only
    simp only [Prod.mk.injEq]
    refine ⟨?_, ?_, ?_, ?_, ?_, ?_⟩ <;> omega
  refine ⟨?_, e⟩
  rw [e]
  constructor <;> dsimp only <;> omega
end Go.Proofs.Ytnokibdecnddlaa

/- The walks of the layer 2 (vec): the box that stands on a place. -/
namespace Go.Proofs.Ytnokibdecnddlaa
open Go.RowKit

set_option maxHeartbeats 2000000 in
theorem stand_aa (x y z wd h : Int) (_w1 : wd ≤ 9223372036854775807) (g1 : wd < 0) (g2 : h < 0) (w : World) : Calls Try.prog 56 #[.agg #[.int .i64 x, .int .i64 y, .int .i64 z], .int .i64 wd, .int .i64 h] w fun r w' => r = .returned (.agg #[.int .i64 (subI x (0)), .int .i64 (subI y 0), .int .i64 (subI z (0)), .int .i64 (addI x (0)), .int .i64 (addI y 0), .int .i64 (addI z (0))]) ∧ Below w.heap.size w w' := by
  have U : Blk (((w.alloc (.cells #[.int .i64 x, .int .i64 y, .int .i64 z] 26)).alloc (.cells (bxV 0 0 0 0 0 0) 48)).alloc (.cells #[.int .i64 (0), .int .i64 0, .int .i64 (0)] 26)) w.heap.size 26 #[.int .i64 x, .int .i64 y, .int .i64 z] := ((Blk.new' rfl).alloc _).alloc _
  have R0 : Blk (((w.alloc (.cells #[.int .i64 x, .int .i64 y, .int .i64 z] 26)).alloc (.cells (bxV 0 0 0 0 0 0) 48)).alloc (.cells #[.int .i64 (0), .int .i64 0, .int .i64 (0)] 26)) (w.heap.size + 1) 48 (bxV 0 0 0 0 0 0) := (Blk.new' (by simp)).alloc _
  have V : Blk (((w.alloc (.cells #[.int .i64 x, .int .i64 y, .int .i64 z] 26)).alloc (.cells (bxV 0 0 0 0 0 0) 48)).alloc (.cells #[.int .i64 (0), .int .i64 0, .int .i64 (0)] 26)) (w.heap.size + 1 + 1) 26 #[.int .i64 0, .int .i64 0, .int .i64 0] := Blk.new' (by simp)
  obtain ⟨k0, k1, k2⟩ := U.re3
  obtain ⟨l0, l1, l2⟩ := V.re3
  go_enter Try.func56, Try.ntmps56
  go_wp2_with fail
  refine wp_region_last_below 11 (by kernel_rfl) rfl (by kernel_rfl) ?_
  simp only [List.take_succ_cons, List.take_zero, List.drop_succ_cons, List.drop_zero]
  repeat (go_big_quiet_step (first | exact Calls.regrown_of (sub_c _ _ _ _ _ _ _) | exact Calls.regrown_of (add_c _ _ _ _ _ _ _)))
  refine wpQuiet_nil ?_
  intro w' hw'
  obtain ⟨rg, rfl⟩ := hw'
  have R := R0.re rg.d rg.os
  obtain ⟨⟨r0, r1, r2, r3, r4, r5⟩, s0, s1, s2, s3, s4, s5⟩ := R.c6
  go_wp2_with fail
  have R2 := R.st6 (.int .i64 (subI x (0))) (.int .i64 (subI y 0)) (.int .i64 (subI z (0))) (.int .i64 (addI x (0))) (.int .i64 (addI y 0)) (.int .i64 (addI z (0)))
  obtain ⟨⟨d0, d1, d2, d3, d4, d5⟩, -, -, -, -, -, -⟩ := R2.c6
  exact bodyPost_ret (v := .agg #[.int .i64 (subI x (0)), .int .i64 (subI y 0), .int .i64 (subI z (0)), .int .i64 (addI x (0)), .int .i64 (addI y 0), .int .i64 (addI z (0))]) (by simp [results, Try.results56, go_sem, d0, d1, d2, d3, d4, d5]) rfl ⟨rfl, by (repeat' (first | (with_reducible exact Below.refl _ _) | (with_reducible assumption) | (with_reducible refine Below.alloc ?_ ?_ _) | (with_reducible refine Below.drew ?_) | (with_reducible refine Below.setCell ?_ ?_ _) | (with_reducible refine after ?_ (below_regrown _ _ _)) | (refine after ?_ (by with_reducible assumption)) | go_size))⟩
set_option maxHeartbeats 2000000 in
theorem stand_ab (x y z wd h : Int) (_w1 : wd ≤ 9223372036854775807) (g1 : wd < 0) (g2 : 0 ≤ h) (w : World) : Calls Try.prog 56 #[.agg #[.int .i64 x, .int .i64 y, .int .i64 z], .int .i64 wd, .int .i64 h] w fun r w' => r = .returned (.agg #[.int .i64 (subI x (0)), .int .i64 (subI y 0), .int .i64 (subI z (0)), .int .i64 (addI x (0)), .int .i64 (addI y h), .int .i64 (addI z (0))]) ∧ Below w.heap.size w w' := by
  have U : Blk (((w.alloc (.cells #[.int .i64 x, .int .i64 y, .int .i64 z] 26)).alloc (.cells (bxV 0 0 0 0 0 0) 48)).alloc (.cells #[.int .i64 (0), .int .i64 0, .int .i64 (0)] 26)) w.heap.size 26 #[.int .i64 x, .int .i64 y, .int .i64 z] := ((Blk.new' rfl).alloc _).alloc _
  have R0 : Blk (((w.alloc (.cells #[.int .i64 x, .int .i64 y, .int .i64 z] 26)).alloc (.cells (bxV 0 0 0 0 0 0) 48)).alloc (.cells #[.int .i64 (0), .int .i64 0, .int .i64 (0)] 26)) (w.heap.size + 1) 48 (bxV 0 0 0 0 0 0) := (Blk.new' (by simp)).alloc _
  have V : Blk (((w.alloc (.cells #[.int .i64 x, .int .i64 y, .int .i64 z] 26)).alloc (.cells (bxV 0 0 0 0 0 0) 48)).alloc (.cells #[.int .i64 (0), .int .i64 0, .int .i64 (0)] 26)) (w.heap.size + 1 + 1) 26 #[.int .i64 0, .int .i64 0, .int .i64 0] := Blk.new' (by simp)
  obtain ⟨k0, k1, k2⟩ := U.re3
  obtain ⟨l0, l1, l2⟩ := V.re3
  go_enter Try.func56, Try.ntmps56
  go_wp2_with fail
  refine wp_region_last_below 11 (by kernel_rfl) rfl (by kernel_rfl) ?_
  simp only [List.take_succ_cons, List.take_zero, List.drop_succ_cons, List.drop_zero]
  repeat (go_big_quiet_step (first | exact Calls.regrown_of (sub_c _ _ _ _ _ _ _) | exact Calls.regrown_of (add_c _ _ _ _ _ _ _)))
  refine wpQuiet_nil ?_
  intro w' hw'
  obtain ⟨rg, rfl⟩ := hw'
  have R := R0.re rg.d rg.os
  obtain ⟨⟨r0, r1, r2, r3, r4, r5⟩, s0, s1, s2, s3, s4, s5⟩ := R.c6
  go_wp2_with fail
  have R2 := R.st6 (.int .i64 (subI x (0))) (.int .i64 (subI y 0)) (.int .i64 (subI z (0))) (.int .i64 (addI x (0))) (.int .i64 (addI y h)) (.int .i64 (addI z (0)))
  obtain ⟨⟨d0, d1, d2, d3, d4, d5⟩, -, -, -, -, -, -⟩ := R2.c6
  exact bodyPost_ret (v := .agg #[.int .i64 (subI x (0)), .int .i64 (subI y 0), .int .i64 (subI z (0)), .int .i64 (addI x (0)), .int .i64 (addI y h), .int .i64 (addI z (0))]) (by simp [results, Try.results56, go_sem, d0, d1, d2, d3, d4, d5]) rfl ⟨rfl, by (repeat' (first | (with_reducible exact Below.refl _ _) | (with_reducible assumption) | (with_reducible refine Below.alloc ?_ ?_ _) | (with_reducible refine Below.drew ?_) | (with_reducible refine Below.setCell ?_ ?_ _) | (with_reducible refine after ?_ (below_regrown _ _ _)) | (refine after ?_ (by with_reducible assumption)) | go_size))⟩
set_option maxHeartbeats 2000000 in
theorem stand_ba (x y z wd h : Int) (_w1 : wd ≤ 9223372036854775807) (g1 : 0 ≤ wd) (g2 : h < 0) (w : World) : Calls Try.prog 56 #[.agg #[.int .i64 x, .int .i64 y, .int .i64 z], .int .i64 wd, .int .i64 h] w fun r w' => r = .returned (.agg #[.int .i64 (subI x (wd / 2)), .int .i64 (subI y 0), .int .i64 (subI z (wd / 2)), .int .i64 (addI x (wd / 2)), .int .i64 (addI y 0), .int .i64 (addI z (wd / 2))]) ∧ Below w.heap.size w w' := by
  have U : Blk (((w.alloc (.cells #[.int .i64 x, .int .i64 y, .int .i64 z] 26)).alloc (.cells (bxV 0 0 0 0 0 0) 48)).alloc (.cells #[.int .i64 (wd / 2), .int .i64 0, .int .i64 (wd / 2)] 26)) w.heap.size 26 #[.int .i64 x, .int .i64 y, .int .i64 z] := ((Blk.new' rfl).alloc _).alloc _
  have R0 : Blk (((w.alloc (.cells #[.int .i64 x, .int .i64 y, .int .i64 z] 26)).alloc (.cells (bxV 0 0 0 0 0 0) 48)).alloc (.cells #[.int .i64 (wd / 2), .int .i64 0, .int .i64 (wd / 2)] 26)) (w.heap.size + 1) 48 (bxV 0 0 0 0 0 0) := (Blk.new' (by simp)).alloc _
  have V : Blk (((w.alloc (.cells #[.int .i64 x, .int .i64 y, .int .i64 z] 26)).alloc (.cells (bxV 0 0 0 0 0 0) 48)).alloc (.cells #[.int .i64 (wd / 2), .int .i64 0, .int .i64 (wd / 2)] 26)) (w.heap.size + 1 + 1) 26 #[.int .i64 (wd / 2), .int .i64 0, .int .i64 (wd / 2)] := Blk.new' (by simp)
  obtain ⟨k0, k1, k2⟩ := U.re3
  obtain ⟨l0, l1, l2⟩ := V.re3
  go_enter Try.func56, Try.ntmps56
  go_wp2_with fail
  refine wp_region_last_below 11 (by kernel_rfl) rfl (by kernel_rfl) ?_
  simp only [List.take_succ_cons, List.take_zero, List.drop_succ_cons, List.drop_zero]
  repeat (go_big_quiet_step (first | exact Calls.regrown_of (sub_c _ _ _ _ _ _ _) | exact Calls.regrown_of (add_c _ _ _ _ _ _ _)))
  refine wpQuiet_nil ?_
  intro w' hw'
  obtain ⟨rg, rfl⟩ := hw'
  have R := R0.re rg.d rg.os
  obtain ⟨⟨r0, r1, r2, r3, r4, r5⟩, s0, s1, s2, s3, s4, s5⟩ := R.c6
  go_wp2_with fail
  have R2 := R.st6 (.int .i64 (subI x (wd / 2))) (.int .i64 (subI y 0)) (.int .i64 (subI z (wd / 2))) (.int .i64 (addI x (wd / 2))) (.int .i64 (addI y 0)) (.int .i64 (addI z (wd / 2)))
  obtain ⟨⟨d0, d1, d2, d3, d4, d5⟩, -, -, -, -, -, -⟩ := R2.c6
  exact bodyPost_ret (v := .agg #[.int .i64 (subI x (wd / 2)), .int .i64 (subI y 0), .int .i64 (subI z (wd / 2)), .int .i64 (addI x (wd / 2)), .int .i64 (addI y 0), .int .i64 (addI z (wd / 2))]) (by simp [results, Try.results56, go_sem, d0, d1, d2, d3, d4, d5]) rfl ⟨rfl, by (repeat' (first | (with_reducible exact Below.refl _ _) | (with_reducible assumption) | (with_reducible refine Below.alloc ?_ ?_ _) | (with_reducible refine Below.drew ?_) | (with_reducible refine Below.setCell ?_ ?_ _) | (with_reducible refine after ?_ (below_regrown _ _ _)) | (refine after ?_ (by with_reducible assumption)) | go_size))⟩
set_option maxHeartbeats 2000000 in
theorem stand_bb (x y z wd h : Int) (_w1 : wd ≤ 9223372036854775807) (g1 : 0 ≤ wd) (g2 : 0 ≤ h) (w : World) : Calls Try.prog 56 #[.agg #[.int .i64 x, .int .i64 y, .int .i64 z], .int .i64 wd, .int .i64 h] w fun r w' => r = .returned (.agg #[.int .i64 (subI x (wd / 2)), .int .i64 (subI y 0), .int .i64 (subI z (wd / 2)), .int .i64 (addI x (wd / 2)), .int .i64 (addI y h), .int .i64 (addI z (wd / 2))]) ∧ Below w.heap.size w w' := by
  have U : Blk (((w.alloc (.cells #[.int .i64 x, .int .i64 y, .int .i64 z] 26)).alloc (.cells (bxV 0 0 0 0 0 0) 48)).alloc (.cells #[.int .i64 (wd / 2), .int .i64 0, .int .i64 (wd / 2)] 26)) w.heap.size 26 #[.int .i64 x, .int .i64 y, .int .i64 z] := ((Blk.new' rfl).alloc _).alloc _
  have R0 : Blk (((w.alloc (.cells #[.int .i64 x, .int .i64 y, .int .i64 z] 26)).alloc (.cells (bxV 0 0 0 0 0 0) 48)).alloc (.cells #[.int .i64 (wd / 2), .int .i64 0, .int .i64 (wd / 2)] 26)) (w.heap.size + 1) 48 (bxV 0 0 0 0 0 0) := (Blk.new' (by simp)).alloc _
  have V : Blk (((w.alloc (.cells #[.int .i64 x, .int .i64 y, .int .i64 z] 26)).alloc (.cells (bxV 0 0 0 0 0 0) 48)).alloc (.cells #[.int .i64 (wd / 2), .int .i64 0, .int .i64 (wd / 2)] 26)) (w.heap.size + 1 + 1) 26 #[.int .i64 (wd / 2), .int .i64 0, .int .i64 (wd / 2)] := Blk.new' (by simp)
  obtain ⟨k0, k1, k2⟩ := U.re3
  obtain ⟨l0, l1, l2⟩ := V.re3
  go_enter Try.func56, Try.ntmps56
  go_wp2_with fail
  refine wp_region_last_below 11 (by kernel_rfl) rfl (by kernel_rfl) ?_
  simp only [List.take_succ_cons, List.take_zero, List.drop_succ_cons, List.drop_zero]
  repeat (go_big_quiet_step (first | exact Calls.regrown_of (sub_c _ _ _ _ _ _ _) | exact Calls.regrown_of (add_c _ _ _ _ _ _ _)))
  refine wpQuiet_nil ?_
  intro w' hw'
  obtain ⟨rg, rfl⟩ := hw'
  have R := R0.re rg.d rg.os
  obtain ⟨⟨r0, r1, r2, r3, r4, r5⟩, s0, s1, s2, s3, s4, s5⟩ := R.c6
  go_wp2_with fail
  have R2 := R.st6 (.int .i64 (subI x (wd / 2))) (.int .i64 (subI y 0)) (.int .i64 (subI z (wd / 2))) (.int .i64 (addI x (wd / 2))) (.int .i64 (addI y h)) (.int .i64 (addI z (wd / 2)))
  obtain ⟨⟨d0, d1, d2, d3, d4, d5⟩, -, -, -, -, -, -⟩ := R2.c6
  exact bodyPost_ret (v := .agg #[.int .i64 (subI x (wd / 2)), .int .i64 (subI y 0), .int .i64 (subI z (wd / 2)), .int .i64 (addI x (wd / 2)), .int .i64 (addI y h), .int .i64 (addI z (wd / 2))]) (by simp [results, Try.results56, go_sem, d0, d1, d2, d3, d4, d5]) rfl ⟨rfl, by (repeat' (first | (with_reducible exact Below.refl _ _) | (with_reducible assumption) | (with_reducible refine Below.alloc ?_ ?_ _) | (with_reducible refine Below.drew ?_) | (with_reducible refine Below.setCell ?_ ?_ _) | (with_reducible refine after ?_ (below_regrown _ _ _)) | (refine after ?_ (by with_reducible assumption)) | go_size))⟩
theorem stand_c (x y z wd h : Int) (hw : wd ≤ 9223372036854775807) (w : World) : Calls Try.prog 56 #[.agg #[.int .i64 x, .int .i64 y, .int .i64 z], .int .i64 wd, .int .i64 h] w fun r w' => r = .returned (.agg #[.int .i64 (subI x (max wd 0 / 2)), .int .i64 (cutI y), .int .i64 (subI z (max wd 0 / 2)), .int .i64 (addI x (max wd 0 / 2)), .int .i64 (addI y (max h 0)), .int .i64 (addI z (max wd 0 / 2))]) ∧ Below w.heap.size w w' := by
  have e : cutI y = subI y 0 := by unfold subI; rw [show cutI 0 = 0 by decide, Int.sub_zero, cutI_cut]
  rw [e]
  rcases Int.lt_or_le wd 0 with g1 | g1 <;> rcases Int.lt_or_le h 0 with g2 | g2
  · rw [show max wd 0 = 0 by omega, show max h 0 = 0 by omega]; exact stand_aa x y z wd h hw g1 g2 w
  · rw [show max wd 0 = 0 by omega, show max h 0 = h by omega]; exact stand_ab x y z wd h hw g1 g2 w
  · rw [show max wd 0 = wd by omega, show max h 0 = 0 by omega]; exact stand_ba x y z wd h hw g1 g2 w
  · rw [show max wd 0 = wd by omega, show max h 0 = h by omega]; exact stand_bb x y z wd h hw g1 g2 w
end Go.Proofs.Ytnokibdecnddlaa

/- Bodies, the program's: may one be, its box, where it looks from, a way that is cut. -/
namespace Go.Proofs.Ytnokibdecnddlaa
open Go.RowKit
attribute [local go_sem] Oper.semAt_some

section
variable {w : World} {g : Nat} {t : TypeId} {a b c d e f k l m : Value}
theorem Blk.c9 (h : Blk w g t #[a, b, c, d, e, f, k, l, m]) : (w.cell? ⟨g, 0, none⟩ = some a ∧ w.cell? ⟨g, 1, none⟩ = some b ∧ w.cell? ⟨g, 2, none⟩ = some c ∧ w.cell? ⟨g, 3, none⟩ = some d ∧ w.cell? ⟨g, 4, none⟩ = some e ∧ w.cell? ⟨g, 5, none⟩ = some f ∧ w.cell? ⟨g, 6, none⟩ = some k ∧ w.cell? ⟨g, 7, none⟩ = some l ∧ w.cell? ⟨g, 8, none⟩ = some m) ∧
    w.frozen? ⟨g, 0, none⟩ = false ∧ w.frozen? ⟨g, 1, none⟩ = false ∧ w.frozen? ⟨g, 2, none⟩ = false ∧ w.frozen? ⟨g, 3, none⟩ = false ∧ w.frozen? ⟨g, 4, none⟩ = false ∧ w.frozen? ⟨g, 5, none⟩ = false ∧ w.frozen? ⟨g, 6, none⟩ = false ∧ w.frozen? ⟨g, 7, none⟩ = false ∧ w.frozen? ⟨g, 8, none⟩ = false :=
  ⟨⟨h.cell 0, h.cell 1, h.cell 2, h.cell 3, h.cell 4, h.cell 5, h.cell 6, h.cell 7, h.cell 8⟩, h.frz 0, h.frz 1, h.frz 2, h.frz 3, h.frz 4, h.frz 5, h.frz 6, h.frz 7, h.frz 8⟩
theorem Blk.st9 {a' b' c' d' e' f' k' l' m' : Value} (h : Blk w g t #[a', b', c', d', e', f', k', l', m']) (a b c d e f k l m : Value) : Blk (((((((((w.setCell ⟨g, 0, none⟩ a).setCell ⟨g, 1, none⟩ b).setCell ⟨g, 2, none⟩ c).setCell ⟨g, 3, none⟩ d).setCell ⟨g, 4, none⟩ e).setCell ⟨g, 5, none⟩ f).setCell ⟨g, 6, none⟩ k).setCell ⟨g, 7, none⟩ l).setCell ⟨g, 8, none⟩ m) g t #[a, b, c, d, e, f, k, l, m] := by
  have h0 : Blk _ g t #[a, b', c', d', e', f', k', l', m'] := h.set_ 0 a
  have h1 : Blk _ g t #[a, b, c', d', e', f', k', l', m'] := h0.set_ 1 b
  have h2 : Blk _ g t #[a, b, c, d', e', f', k', l', m'] := h1.set_ 2 c
  have h3 : Blk _ g t #[a, b, c, d, e', f', k', l', m'] := h2.set_ 3 d
  have h4 : Blk _ g t #[a, b, c, d, e, f', k', l', m'] := h3.set_ 4 e
  have h5 : Blk _ g t #[a, b, c, d, e, f, k', l', m'] := h4.set_ 5 f
  have h6 : Blk _ g t #[a, b, c, d, e, f, k, l', m'] := h5.set_ 6 k
  have h7 : Blk _ g t #[a, b, c, d, e, f, k, l, m'] := h6.set_ 7 l
  have h8 : Blk _ g t #[a, b, c, d, e, f, k, l, m] := h7.set_ 8 m
  exact h8
theorem sx9_far {N : Nat} {cs : Array Value} (V : Blk w g t cs) (h : g ≠ N) (a b c d e f k l m : Value) : Blk (((((((((w.setCell ⟨N, 0, none⟩ a).setCell ⟨N, 1, none⟩ b).setCell ⟨N, 2, none⟩ c).setCell ⟨N, 3, none⟩ d).setCell ⟨N, 4, none⟩ e).setCell ⟨N, 5, none⟩ f).setCell ⟨N, 6, none⟩ k).setCell ⟨N, 7, none⟩ l).setCell ⟨N, 8, none⟩ m) g t cs :=
  ((((((((V.far (p := ⟨N, 0, none⟩) h _).far (p := ⟨N, 1, none⟩) h _).far (p := ⟨N, 2, none⟩) h _).far (p := ⟨N, 3, none⟩) h _).far (p := ⟨N, 4, none⟩) h _).far (p := ⟨N, 5, none⟩) h _).far (p := ⟨N, 6, none⟩) h _).far (p := ⟨N, 7, none⟩) h _).far (p := ⟨N, 8, none⟩) h _
theorem sx9_below {w0 : World} {N n : Nat} (H : Below n w0 w) (h : n ≤ N) (a b c d e f k l m : Value) : Below n w0 (((((((((w.setCell ⟨N, 0, none⟩ a).setCell ⟨N, 1, none⟩ b).setCell ⟨N, 2, none⟩ c).setCell ⟨N, 3, none⟩ d).setCell ⟨N, 4, none⟩ e).setCell ⟨N, 5, none⟩ f).setCell ⟨N, 6, none⟩ k).setCell ⟨N, 7, none⟩ l).setCell ⟨N, 8, none⟩ m) :=
  ((((((((H.setCell (p := ⟨N, 0, none⟩) h _).setCell (p := ⟨N, 1, none⟩) h _).setCell (p := ⟨N, 2, none⟩) h _).setCell (p := ⟨N, 3, none⟩) h _).setCell (p := ⟨N, 4, none⟩) h _).setCell (p := ⟨N, 5, none⟩) h _).setCell (p := ⟨N, 6, none⟩) h _).setCell (p := ⟨N, 7, none⟩) h _).setCell (p := ⟨N, 8, none⟩) h _
end
theorem wi20_c (x y z m : Int) (hm : 0 ≤ m ∧ m ≤ 70368744177664) (w : World) : Calls Try.prog 54 #[.agg #[.int .i64 x, .int .i64 y, .int .i64 z], .int .i64 m] w fun r w' => r = .returned (.bool (inI x y z m)) ∧ Below w.heap.size w w' := by
  have hmn := @run_mn3 Try.prog
  have hmx := @run_mx3 Try.prog
  have q : -9223372036854775808 ≤ -m ∧ -m ≤ 9223372036854775807 := by omega
  obtain ⟨q1, q2⟩ := q
  clear hm
  unfold inI
  by_cases h1 : -m ≤ mn3 x y z
  · by_cases h2 : mx3 x y z ≤ m
    · go_enter Try.func54, Try.ntmps54
      go_wp2_with fail
      go_returns
      exact ⟨by simp [h1, h2], by (repeat' (first | (with_reducible exact Below.refl _ _) | (with_reducible assumption) | (with_reducible refine Below.alloc ?_ ?_ _) | (with_reducible refine Below.drew ?_) | (with_reducible refine Below.setCell ?_ ?_ _) | (with_reducible refine after ?_ (below_regrown _ _ _)) | (refine after ?_ (by with_reducible assumption)) | go_size))⟩
    · go_enter Try.func54, Try.ntmps54
      go_wp2_with fail
      go_returns
      exact ⟨by simp [h2], by (repeat' (first | (with_reducible exact Below.refl _ _) | (with_reducible assumption) | (with_reducible refine Below.alloc ?_ ?_ _) | (with_reducible refine Below.drew ?_) | (with_reducible refine Below.setCell ?_ ?_ _) | (with_reducible refine after ?_ (below_regrown _ _ _)) | (refine after ?_ (by with_reducible assumption)) | go_size))⟩
  · go_enter Try.func54, Try.ntmps54
    go_wp2_with fail
    go_returns
    exact ⟨by simp; omega, by (repeat' (first | (with_reducible exact Below.refl _ _) | (with_reducible assumption) | (with_reducible refine Below.alloc ?_ ?_ _) | (with_reducible refine Below.drew ?_) | (with_reducible refine Below.setCell ?_ ?_ _) | (with_reducible refine after ?_ (below_regrown _ _ _)) | (refine after ?_ (by with_reducible assumption)) | go_size))⟩
set_option maxRecDepth 100000 in
set_option maxHeartbeats 4000000 in
theorem bbox_c (b : BD) (hw : b.2.2.2.2.2.2.1 ≤ 9223372036854775807) (w : World) : Calls Try.prog 23 #[.agg (bd9 b)] w fun r w' => r = .returned (.agg (ag6 (boxB b))) ∧ Below w.heap.size w w' := by
  obtain ⟨x, y, z, sx, sy, sz, wd, ht, st⟩ := b
  dsimp only at hw
  have HS := Lib.hid (fun W => stand_c x y z wd ht hw W)
  clear hw
  simp only [boxB, standI, ag6, bd9]
  obtain ⟨W, hW⟩ : ∃ W, W = (w.alloc (.cells #[.int .i64 x, .int .i64 y, .int .i64 z, .int .i64 sx, .int .i64 sy, .int .i64 sz, .int .i64 wd, .int .i64 ht, .bool st] 35)).alloc (.cells #[.int .i64 0, .int .i64 0, .int .i64 0, .int .i64 0, .int .i64 0, .int .i64 0] 48) := ⟨_, rfl⟩
  have H : Below w.heap.size w W := by rw [hW]; go_grown
  have R0 : Blk W (w.heap.size + 1) 48 _ := Blk.eqw hW.symm (Blk.new' (by simp))
  have B0 : Blk W w.heap.size 35 _ := Blk.eqw hW.symm ((Blk.new' rfl).alloc _)
  go_enter Try.func23, Try.ntmps23
  go_upto_region 1 with (fail)
  rw [← hW]
  clear hW
  obtain ⟨⟨b0, b1, b2, b3, b4, b5, b6, b7, b8⟩, -⟩ := B0.c9
  go_wp2_with (go_at_call 56; refine (HS.out _).mono ?_; rintro e_ w1 ⟨rfl, h1⟩; have R := R0.on h1; obtain ⟨⟨r0, r1, r2, r3, r4, r5⟩, s0, s1, s2, s3, s4, s5⟩ := R.c6)
  have R2 := R.st6 (.int .i64 (subI x (max wd 0 / 2))) (.int .i64 (cutI y)) (.int .i64 (subI z (max wd 0 / 2))) (.int .i64 (addI x (max wd 0 / 2))) (.int .i64 (addI y (max ht 0))) (.int .i64 (addI z (max wd 0 / 2)))
  obtain ⟨⟨d0, d1, d2, d3, d4, d5⟩, -, -, -, -, -, -⟩ := R2.c6
  exact bodyPost_ret (v := .agg #[.int .i64 (subI x (max wd 0 / 2)), .int .i64 (cutI y), .int .i64 (subI z (max wd 0 / 2)), .int .i64 (addI x (max wd 0 / 2)), .int .i64 (addI y (max ht 0)), .int .i64 (addI z (max wd 0 / 2))]) (by simp [results, Try.results23, go_sem, d0, d1, d2, d3, d4, d5]) rfl ⟨rfl, by (repeat' (first | (with_reducible exact Below.refl _ _) | (with_reducible assumption) | (with_reducible refine Below.alloc ?_ ?_ _) | (with_reducible refine Below.drew ?_) | (with_reducible refine Below.setCell ?_ ?_ _) | (with_reducible refine after ?_ (below_regrown _ _ _)) | (refine after ?_ (by with_reducible assumption)) | go_size))⟩
/-- May a body be? -/
theorem inI_ways (x y z m : Int) : inI x y z m = true ∨ inI x y z m = false := by cases inI x y z m <;> simp
set_option maxRecDepth 100000 in
set_option maxHeartbeats 8000000 in
theorem bmay_c (b : BD) (w : World) : Calls Try.prog 20 #[.agg (bd9 b)] w fun r w' => r = .returned (.bool (mayB b)) ∧ Below w.heap.size w w' := by
  obtain ⟨x, y, z, sx, sy, sz, wd, ht, st⟩ := b
  have C1 := fun W => wi20_c x y z 70368744177664 ⟨by decide, by decide⟩ W
  have C2 := fun W => wi20_c sx sy sz 262144 ⟨by decide, by decide⟩ W
  unfold mayB
  dsimp only
  generalize inI x y z 70368744177664 = p1 at C1 ⊢
  generalize inI sx sy sz 262144 = p2 at C2 ⊢
  have D1 := Lib.hid C1
  have D2 := Lib.hid C2
  clear C1 C2
  obtain ⟨W, hW⟩ : ∃ W, W = w.alloc (.cells #[.int .i64 x, .int .i64 y, .int .i64 z, .int .i64 sx, .int .i64 sy, .int .i64 sz, .int .i64 wd, .int .i64 ht, .bool st] 35) := ⟨_, rfl⟩
  have H : Below w.heap.size w W := by rw [hW]; go_grown
  have B0 : Blk W w.heap.size 35 _ := Blk.eqw hW.symm (Blk.new' rfl)
  simp only [bd9]
  obtain ⟨⟨b0, b1, b2, b3, b4, b5, b6, b7, b8⟩, -⟩ := B0.c9
  by_cases h1 : 2 ≤ wd
  · by_cases h2 : wd ≤ 131072
    · by_cases h3 : 1 ≤ ht
      · by_cases h4 : ht ≤ 262144
        · have e : (decide (2 ≤ wd) && decide (wd ≤ 131072) && decide (1 ≤ ht) && decide (ht ≤ 262144) && p1 && p2) = (p1 && p2) := by simp [h1, h2, h3, h4]
          rw [e]
          cases p1
          · go_enter Try.func20, Try.ntmps20
            go_upto_region 1 with (fail)
            rw [← hW]
            clear hW
            go_wp2_with (go_at_call 54; refine (D1.out _).mono ?_; rintro e_ w1 ⟨rfl, k1⟩)
            go_returns
            exact ⟨by simp, after H k1⟩
          · go_enter Try.func20, Try.ntmps20
            go_upto_region 1 with (fail)
            rw [← hW]
            clear hW
            go_wp2_with (go_at_call 54; first | (refine (D1.out _).mono ?_; rintro e_ w1 ⟨rfl, k1⟩; clear D1; obtain ⟨⟨b0, b1, b2, b3, b4, b5, b6, b7, b8⟩, -⟩ := (B0.on k1).c9) | (refine (D2.out _).mono ?_; rintro e_ w2 ⟨rfl, k2⟩))
            go_returns
            exact ⟨by simp, after (after H k1) k2⟩
        · have e : (decide (2 ≤ wd) && decide (wd ≤ 131072) && decide (1 ≤ ht) && decide (ht ≤ 262144) && p1 && p2) = false := by simp [h4]
          rw [e]
          go_enter Try.func20, Try.ntmps20
          go_upto_region 1 with (fail)
          rw [← hW]
          clear hW D1 D2
          go_wp2_with fail
          go_returns
          exact ⟨by simp, H⟩
      · have e : (decide (2 ≤ wd) && decide (wd ≤ 131072) && decide (1 ≤ ht) && decide (ht ≤ 262144) && p1 && p2) = false := by simp [h3]
        rw [e]
        go_enter Try.func20, Try.ntmps20
        go_upto_region 1 with (fail)
        rw [← hW]
        clear hW D1 D2
        go_wp2_with fail
        go_returns
        exact ⟨by simp, H⟩
    · have e : (decide (2 ≤ wd) && decide (wd ≤ 131072) && decide (1 ≤ ht) && decide (ht ≤ 262144) && p1 && p2) = false := by simp [h2]
      rw [e]
      go_enter Try.func20, Try.ntmps20
      go_upto_region 1 with (fail)
      rw [← hW]
      clear hW D1 D2
      go_wp2_with fail
      go_returns
      exact ⟨by simp, H⟩
  · have e : (decide (2 ≤ wd) && decide (wd ≤ 131072) && decide (1 ≤ ht) && decide (ht ≤ 262144) && p1 && p2) = false := by simp [h1]
    rw [e]
    go_enter Try.func20, Try.ntmps20
    go_upto_region 1 with (fail)
    rw [← hW]
    clear hW D1 D2
    go_wp2_with fail
    go_returns
    exact ⟨by simp, H⟩
end Go.Proofs.Ytnokibdecnddlaa
