/- The document's: how far a box goes along an axis. -/
import Derived.Test.YtckjpiioipkfcaaSwP2
import Derived.Test.YtckjpiioipkfcaaLay2
import Derived.Test.YtckjpiioipkfcaaMeet3
import Derived.Test.YtckjpiioipkfcaaRef2
namespace Go.Proofs.Ytckjpiioipkfcaa
open Go.RowKit Go.Shelf
attribute [local go_sem] Oper.semAt_some

set_option maxRecDepth 100000 in
set_option maxHeartbeats 8000000 in
theorem rsaxis_c (q : Option Addr) (n cp : Nat) (F : Nat → Int) (els : Int) (a b c d e f axis dd M : Int) (hM : M ≤ 100000000000) (hM0 : 0 ≤ M) (hB : Sm M a b c d e f) (w : World) (hq : Iq w q n F) :
    Calls Try.prog 18 #[.agg #[.slice q n cp, .int .i64 els], .agg #[.int .i64 a, .int .i64 b, .int .i64 c, .int .i64 d, .int .i64 e, .int .i64 f], .int .i64 axis, .int .i64 dd] w fun r w' =>
      r = .returned (axT (axisV (fun x => atG n F els x.1 x.2.1 x.2.2) a b c d e f axis dd)) ∧ Below w.heap.size w w' := by
  obtain ⟨W, hW⟩ : ∃ W, W = (w.alloc (.cells #[.slice q n cp, .int .i64 els] 24)).alloc (.cells #[.int .i64 a, .int .i64 b, .int .i64 c, .int .i64 d, .int .i64 e, .int .i64 f] 28) := ⟨_, rfl⟩
  have H : Below w.heap.size w W := by rw [hW]; go_grown
  have A : Blk W w.heap.size 24 #[.slice q n cp, .int .i64 els] := by rw [hW]; exact (Blk.new' rfl).alloc _
  have B : Blk W (w.heap.size + 1) 28 #[.int .i64 a, .int .i64 b, .int .i64 c, .int .i64 d, .int .i64 e, .int .i64 f] := by rw [hW]; exact Blk.new' (by simp)
  obtain ⟨N, hN⟩ : ∃ N, N = w.heap.size := ⟨_, rfl⟩
  rw [← hN] at A B
  have hmn := @run_mn Try.prog
  have hmx := @run_mx Try.prog
  have HQ := Lib.hid fun W (h : Below w.heap.size w W) => hq.on h
  clear hq
  go_enter Try.func18, Try.ntmps18
  go_upto_region 1 with (fail)
  rw [← hW, ← hN]
  have HN := Lib.hid hN
  clear hW hN
  by_cases hax : axis < 0 ∨ 3 ≤ axis
  · have hv : axisV (fun x => atG n F els x.1 x.2.1 x.2.2) a b c d e f axis dd = (0, false) := by unfold axisV; rw [if_pos hax]
    have HVV := Lib.hid hv
    clear hv
    rcases hax with hax | hax
    · go_wp2_with fail
      go_returns
      exact ⟨by rw [HVV.out]; rfl, H⟩
    · have h2 : 2 < axis := by omega
      have h3 : ¬ axis < 0 := by omega
      go_wp2_with fail
      go_returns
      exact ⟨by rw [HVV.out]; rfl, H⟩
  · have y1 : ¬ axis < 0 := by omega
    have y2 : ¬ 2 < axis := by omega
    have hv : axisV (fun x => atG n F els x.1 x.2.1 x.2.2) a b c d e f axis dd = axV (lyB (fun x => atG n F els x.1 x.2.1 x.2.2) a b c d e f axis) (axI a b c axis) (axI d e f axis) (farI dd) := by unfold axisV; rw [if_neg hax]
    have HVV := Lib.hid hv
    clear hv hax
    go_upto_region 4 with (fail)
    have hfe : mnI (mxI dd (-4194304)) 4194304 = farI dd := rfl
    rw [hfe]
    clear hfe hmn hmx
    obtain ⟨fb1, fb2⟩ := farI_bd dd
    generalize farI dd = df at HVV fb1 fb2 ⊢
    obtain ⟨b0, b1, b2, b3, b4, b5⟩ := B.c6.1
    go_upto_region 5 with (go_at_call 22; refine (raxis_c _ _ _ _ _).mono ?_; rintro e_ w1 ⟨rfl, h1⟩)
    replace A := A.on h1
    replace B := B.on h1
    replace H := after H h1
    clear b0 b1 b2 b3 b4 b5 h1
    obtain ⟨b0, b1, b2, b3, b4, b5⟩ := B.c6.1
    go_upto_region 7 with (go_at_call 22; refine (raxis_c _ _ _ _ _).mono ?_; rintro e_ w2 ⟨rfl, h1⟩)
    replace A := A.on h1
    replace B := B.on h1
    replace H := after H h1
    clear b0 b1 b2 b3 b4 b5 h1
    obtain ⟨l1, l2, l3⟩ := axI_sm (axis := axis) hB hM0
    generalize axI a b c axis = low at HVV l1 l2 ⊢
    generalize axI d e f axis = top at HVV l2 l3 ⊢
    have HSM := Lib.hid hB
    have HBD := Lib.hid (And.intro hM (And.intro hM0 (And.intro l1 (And.intro l2 (And.intro l3 (And.intro fb1 fb2))))))
    clear hB
    have hsee : ∀ k, -(M + 10000000) ≤ k * 65536 → k * 65536 ≤ M + 10000000 → ∀ W, Below w.heap.size w W → Calls Try.prog 26 #[.agg #[.slice q n cp, .int .i64 els], .agg #[.int .i64 (wiI a axis 0 (k * 65536)), .int .i64 (wiI b axis 1 (k * 65536)), .int .i64 (wiI c axis 2 (k * 65536)), .int .i64 (wiI d axis 0 (k * 65536 + 65536)), .int .i64 (wiI e axis 1 (k * 65536 + 65536)), .int .i64 (wiI f axis 2 (k * 65536 + 65536))]] W fun r w' =>
        r = .returned (.bool (lyB (fun x => atG n F els x.1 x.2.1 x.2.2) a b c d e f axis k)) ∧ Below W.heap.size W w' := fun k h1 h2 W hW => by
      have hsm := HSM.out.layer (axis := axis) (k := k) (by omega) h1 h2
      exact rfBlocked_c q n cp F els _ _ _ _ _ _ (hsm.box (by omega)) hsm.cells W (HQ.out W hW)
    generalize hbl : lyB (fun x => atG n F els x.1 x.2.1 x.2.2) a b c d e f axis = blk at hsee
    rw [hbl] at HVV
    have HSEE := Lib.hid hsee
    clear hsee hbl hM hM0 l1 l2 l3 fb1 fb2
    rcases (show 0 < df ∨ df < 0 ∨ df = 0 by omega) with hd | hd | hd
    · have e1 : ¬ df < 0 := by omega
      have e2 : (df == 0) = false := by simp; omega
      have e3 : df ≠ 0 := by omega
      go_loopw [12] (fun v wr => ∃ iv : Int, v = .int .i64 iv ∧ -1 ≤ iv ∧ iv ≤ 70 ∧ Hid (∀ k', k' < top / 65536 + iv → 0 ≤ k' * 65536 - top → k' * 65536 - top < df → blk k' = false) ∧ Blk wr N 24 #[.slice q n cp, .int .i64 els] ∧ Blk wr (N + 1) 28 #[.int .i64 a, .int .i64 b, .int .i64 c, .int .i64 d, .int .i64 e, .int .i64 f] ∧ Hid (Below w.heap.size w wr)) (fun v _ => (70 - intOf v).toNat)
      case atStart => exact ⟨-1, rfl, by omega, by omega, fun k' h1 h2 _ => by omega, A, B, H⟩
      case round =>
        clear A B H
        obtain ⟨iv, rfl, i1, i2, hsee, A, B, H⟩ := hrel
        obtain ⟨hM, hM0, l1, l2, l3, fb1, fb2⟩ := HBD.out
        by_cases hlt : iv < 70
        · have t1 : -9223372036854775808 ≤ top / 65536 + iv := by omega
          have t2 : top / 65536 + iv ≤ 9223372036854775807 := by omega
          have t3 : -9223372036854775808 ≤ (top / 65536 + iv) * 65536 := by omega
          have t4 : (top / 65536 + iv) * 65536 ≤ 9223372036854775807 := by omega
          have t5 : -9223372036854775808 ≤ (top / 65536 + iv) * 65536 - top := by omega
          have t6 : (top / 65536 + iv) * 65536 - top ≤ 9223372036854775807 := by omega
          have u1 : -9223372036854775808 ≤ low / 65536 - iv := by omega
          have u2 : low / 65536 - iv ≤ 9223372036854775807 := by omega
          have u3 : -9223372036854775808 ≤ low / 65536 - iv + 1 := by omega
          have u4 : low / 65536 - iv + 1 ≤ 9223372036854775807 := by omega
          have u5 : -9223372036854775808 ≤ (low / 65536 - iv + 1) * 65536 := by omega
          have u6 : (low / 65536 - iv + 1) * 65536 ≤ 9223372036854775807 := by omega
          have u7 : -9223372036854775808 ≤ (low / 65536 - iv + 1) * 65536 - low := by omega
          have u8 : (low / 65536 - iv + 1) * 65536 - low ≤ 9223372036854775807 := by omega
          go_upto_region 14 with (go_at_call 32; refine (rdiv_c _ _ (by omega) (by omega) (by decide) _).mono ?_; rintro e_ w3 ⟨rfl, rfl⟩)
          clear t1 t2 t3 t4 t5 t6 u1 u2 u3 u4 u5 u6 u7 u8
          obtain ⟨k, hk⟩ : ∃ k, k = top / 65536 + iv := ⟨_, rfl⟩
          rw [← hk]
          obtain ⟨way, hway⟩ : ∃ way, way = k * 65536 - top := ⟨_, rfl⟩
          rw [← hway]
          have k1 : -9223372036854775808 ≤ k * 65536 := by omega
          have k2 : k * 65536 ≤ 9223372036854775807 := by omega
          have k3 : -9223372036854775808 ≤ k * 65536 + 65536 := by omega
          have k4 : k * 65536 + 65536 ≤ 9223372036854775807 := by omega
          have k5 : -(M + 10000000) ≤ k * 65536 := by omega
          have k6 : k * 65536 ≤ M + 10000000 := by omega
          have hS := HSEE.out k k5 k6
          have HK := Lib.hid hk
          have HW := Lib.hid hway
          clear hk hway l1 l2 l3 fb1 fb2 hM hM0 k5 k6
          have i3 : -9223372036854775808 ≤ iv + 1 := by omega
          have i4 : iv + 1 ≤ 9223372036854775807 := by omega
          rcases (show way < 0 ∨ (¬ way < 0 ∧ df ≤ way) ∨ (¬ way < 0 ∧ ¬ df ≤ way) by omega) with h1 | ⟨h1, h2⟩ | ⟨h1, h2⟩
          · clear hS k1 k2 k3 k4
            go_wp2_with fail
            go_roundw
            case rel => exact ⟨iv + 1, rfl, by omega, by omega, fun k' h1 h2 h3 => (by
            by_cases e : k' = k
            · subst e; have := HW.out; omega
            · exact hsee.out k' (by have := HK.out; omega) h2 h3), A, B, H⟩
            case measure => simp [intOf]; omega
          · clear hS k1 k2 k3 k4
            go_wp2_with fail
            go_roundw
            case rel => exact ⟨iv + 1, rfl, by omega, by omega, fun k' h1 h2 h3 => (by
            by_cases e : k' = k
            · subst e; have := HW.out; omega
            · exact hsee.out k' (by have := HK.out; omega) h2 h3), A, B, H⟩
            case measure => simp [intOf]; omega
          · obtain ⟨b0, b1, b2, b3, b4, b5⟩ := B.c6.1
            go_upto_region 16 with (fail)
            generalize hV : World.alloc wr _ = W5
            have X : Blk W5 wr.heap.size _ _ := Blk.eqw hV (Blk.new' rfl)
            have h5 : Below wr.heap.size wr W5 := by rw [← hV]; exact (Below.refl _ _).alloc (Nat.le_refl _) _
            have hNl := A.lt
            have hBl := B.lt
            have hNw := H.out.size
            replace A := A.on h5
            replace B := B.on h5
            replace H := after H.out h5
            clear hV h5 b0 b1 b2 b3 b4 b5
            generalize wr.heap.size = g at X hNl hBl hNw ⊢
            obtain ⟨⟨x0, x1, x2, x3, x4, x5⟩, f0, f1, f2, f3, f4, f5⟩ := X.c6
            go_upto_region 17 with (go_at_call 16; refine (rwith_c _ _ _ _ _ _).mono ?_; rintro e_ w4 ⟨rfl, h5⟩; replace X := X.on h5; obtain ⟨⟨x0, x1, x2, x3, x4, x5⟩, f0, f1, f2, f3, f4, f5⟩ := X.c6)
            generalize hV : World.setCell (World.setCell (World.setCell w4 _ _) _ _) _ _ = W6
            have X2 : Blk W6 g 28 #[.int .i64 (wiI a axis 0 (k * 65536)), .int .i64 (wiI b axis 1 (k * 65536)), .int .i64 (wiI c axis 2 (k * 65536)), .int .i64 d, .int .i64 e, .int .i64 f] := Blk.eqw hV (((X.set_ 0 _).set_ 1 _).set_ 2 _)
            replace A := Blk.eqw hV ((((A.on h5).far (p := ⟨g, 0, none⟩) (by dsimp only; omega) _).far (p := ⟨g, 1, none⟩) (by dsimp only; omega) _).far (p := ⟨g, 2, none⟩) (by dsimp only; omega) _)
            replace B := Blk.eqw hV ((((B.on h5).far (p := ⟨g, 0, none⟩) (by dsimp only; omega) _).far (p := ⟨g, 1, none⟩) (by dsimp only; omega) _).far (p := ⟨g, 2, none⟩) (by dsimp only; omega) _)
            replace H : Below w.heap.size w W6 := by rw [← hV]; exact (((after H h5).setCell (p := ⟨g, 0, none⟩) hNw _).setCell (p := ⟨g, 1, none⟩) hNw _).setCell (p := ⟨g, 2, none⟩) hNw _
            clear hV h5 x0 x1 x2 x3 x4 x5 f0 f1 f2 f3 f4 f5 X
            obtain ⟨⟨x0, x1, x2, x3, x4, x5⟩, f0, f1, f2, f3, f4, f5⟩ := X2.c6
            go_upto_region 18 with (go_at_call 16; refine (rwith_c _ _ _ _ _ _).mono ?_; rintro e_ w5 ⟨rfl, h5⟩; replace X2 := X2.on h5; obtain ⟨⟨x0, x1, x2, x3, x4, x5⟩, f0, f1, f2, f3, f4, f5⟩ := X2.c6)
            generalize hV : World.setCell (World.setCell (World.setCell w5 _ _) _ _) _ _ = W7
            have X3 : Blk W7 g 28 #[.int .i64 (wiI a axis 0 (k * 65536)), .int .i64 (wiI b axis 1 (k * 65536)), .int .i64 (wiI c axis 2 (k * 65536)), .int .i64 (wiI d axis 0 (k * 65536 + 65536)), .int .i64 (wiI e axis 1 (k * 65536 + 65536)), .int .i64 (wiI f axis 2 (k * 65536 + 65536))] := Blk.eqw hV (((X2.set_ 3 _).set_ 4 _).set_ 5 _)
            replace A := Blk.eqw hV ((((A.on h5).far (p := ⟨g, 3, none⟩) (by dsimp only; omega) _).far (p := ⟨g, 4, none⟩) (by dsimp only; omega) _).far (p := ⟨g, 5, none⟩) (by dsimp only; omega) _)
            replace B := Blk.eqw hV ((((B.on h5).far (p := ⟨g, 3, none⟩) (by dsimp only; omega) _).far (p := ⟨g, 4, none⟩) (by dsimp only; omega) _).far (p := ⟨g, 5, none⟩) (by dsimp only; omega) _)
            replace H : Below w.heap.size w W7 := by rw [← hV]; exact (((after H h5).setCell (p := ⟨g, 3, none⟩) hNw _).setCell (p := ⟨g, 4, none⟩) hNw _).setCell (p := ⟨g, 5, none⟩) hNw _
            clear hV h5 x0 x1 x2 x3 x4 x5 f0 f1 f2 f3 f4 f5 X2 k1 k2 k3 k4
            obtain ⟨x0, x1, x2, x3, x4, x5⟩ := X3.c6.1
            have a0 := A.cell 0
            have a1 := A.cell 1
            replace hS := hS W7 H
            cases hb : blk k
            · rw [hb] at hS
              have HS := Lib.hid hS
              have HB := Lib.hid hb
              clear hS hb
              go_wp2_with (go_at_call 26; refine HS.out.mono ?_; rintro e_ w8 ⟨rfl, h8⟩)
              go_roundw
              case rel => exact ⟨iv + 1, rfl, by omega, by omega, fun k' h1 h2 h3 => (by
                by_cases e : k' = k
                · subst e; exact HB.out
                · exact hsee.out k' (by have := HK.out; omega) h2 h3), A.on h8, B.on h8, after H h8⟩
              case measure => simp [intOf]; omega
            · rw [hb] at hS
              have HS := Lib.hid hS
              have HB := Lib.hid hb
              clear hS hb
              go_wp2_with (go_at_call 26; refine HS.out.mono ?_; rintro e_ w8 ⟨rfl, h8⟩)
              go_returns
              refine ⟨?_, after H h8⟩
              have hkk := HK.out
              have hww := HW.out
              rw [HVV.out, axV_up_hit hd (by omega) (by omega) HB.out fun k' h3 h4 => hsee.out k' (by omega) h4 (by omega), hww]
              rfl
        · have i5 : iv = 70 := by omega
          subst i5
          go_wp2_with fail
          go_returns
          refine ⟨?_, H.out⟩
          rw [HVV.out, axV_up_none hd fun k' h1 h2 => hsee.out k' (by omega) h1 h2]
          rfl
    · have e1 : ¬ 0 < df := by omega
      have e2 : (df == 0) = false := by simp; omega
      have e3 : df ≠ 0 := by omega
      go_loopw [12] (fun v wr => ∃ iv : Int, v = .int .i64 iv ∧ -1 ≤ iv ∧ iv ≤ 70 ∧ Hid (∀ k', low / 65536 - iv < k' → (k' + 1) * 65536 - low ≤ 0 → df < (k' + 1) * 65536 - low → blk k' = false) ∧ Blk wr N 24 #[.slice q n cp, .int .i64 els] ∧ Blk wr (N + 1) 28 #[.int .i64 a, .int .i64 b, .int .i64 c, .int .i64 d, .int .i64 e, .int .i64 f] ∧ Hid (Below w.heap.size w wr)) (fun v _ => (70 - intOf v).toNat)
      case atStart => exact ⟨-1, rfl, by omega, by omega, fun k' h1 h2 _ => by omega, A, B, H⟩
      case round =>
        clear A B H
        obtain ⟨iv, rfl, i1, i2, hsee, A, B, H⟩ := hrel
        obtain ⟨hM, hM0, l1, l2, l3, fb1, fb2⟩ := HBD.out
        by_cases hlt : iv < 70
        · have t1 : -9223372036854775808 ≤ top / 65536 + iv := by omega
          have t2 : top / 65536 + iv ≤ 9223372036854775807 := by omega
          have t3 : -9223372036854775808 ≤ (top / 65536 + iv) * 65536 := by omega
          have t4 : (top / 65536 + iv) * 65536 ≤ 9223372036854775807 := by omega
          have t5 : -9223372036854775808 ≤ (top / 65536 + iv) * 65536 - top := by omega
          have t6 : (top / 65536 + iv) * 65536 - top ≤ 9223372036854775807 := by omega
          have u1 : -9223372036854775808 ≤ low / 65536 - iv := by omega
          have u2 : low / 65536 - iv ≤ 9223372036854775807 := by omega
          have u3 : -9223372036854775808 ≤ low / 65536 - iv + 1 := by omega
          have u4 : low / 65536 - iv + 1 ≤ 9223372036854775807 := by omega
          have u5 : -9223372036854775808 ≤ (low / 65536 - iv + 1) * 65536 := by omega
          have u6 : (low / 65536 - iv + 1) * 65536 ≤ 9223372036854775807 := by omega
          have u7 : -9223372036854775808 ≤ (low / 65536 - iv + 1) * 65536 - low := by omega
          have u8 : (low / 65536 - iv + 1) * 65536 - low ≤ 9223372036854775807 := by omega
          go_upto_region 14 with (go_at_call 32; refine (rdiv_c _ _ (by omega) (by omega) (by decide) _).mono ?_; rintro e_ w3 ⟨rfl, rfl⟩)
          clear t1 t2 t3 t4 t5 t6 u1 u2 u3 u4 u5 u6 u7 u8
          obtain ⟨k, hk⟩ : ∃ k, k = low / 65536 - iv := ⟨_, rfl⟩
          rw [← hk]
          obtain ⟨way, hway⟩ : ∃ way, way = (k + 1) * 65536 - low := ⟨_, rfl⟩
          rw [← hway]
          have k1 : -9223372036854775808 ≤ k * 65536 := by omega
          have k2 : k * 65536 ≤ 9223372036854775807 := by omega
          have k3 : -9223372036854775808 ≤ k * 65536 + 65536 := by omega
          have k4 : k * 65536 + 65536 ≤ 9223372036854775807 := by omega
          have k5 : -(M + 10000000) ≤ k * 65536 := by omega
          have k6 : k * 65536 ≤ M + 10000000 := by omega
          have hS := HSEE.out k k5 k6
          have HK := Lib.hid hk
          have HW := Lib.hid hway
          clear hk hway l1 l2 l3 fb1 fb2 hM hM0 k5 k6
          have i3 : -9223372036854775808 ≤ iv + 1 := by omega
          have i4 : iv + 1 ≤ 9223372036854775807 := by omega
          rcases (show 0 < way ∨ (¬ 0 < way ∧ way ≤ df) ∨ (¬ 0 < way ∧ ¬ way ≤ df) by omega) with h1 | ⟨h1, h2⟩ | ⟨h1, h2⟩
          · clear hS k1 k2 k3 k4
            go_wp2_with fail
            go_roundw
            case rel => exact ⟨iv + 1, rfl, by omega, by omega, fun k' h1 h2 h3 => (by
            by_cases e : k' = k
            · subst e; have := HW.out; omega
            · exact hsee.out k' (by have := HK.out; omega) h2 h3), A, B, H⟩
            case measure => simp [intOf]; omega
          · clear hS k1 k2 k3 k4
            go_wp2_with fail
            go_roundw
            case rel => exact ⟨iv + 1, rfl, by omega, by omega, fun k' h1 h2 h3 => (by
            by_cases e : k' = k
            · subst e; have := HW.out; omega
            · exact hsee.out k' (by have := HK.out; omega) h2 h3), A, B, H⟩
            case measure => simp [intOf]; omega
          · obtain ⟨b0, b1, b2, b3, b4, b5⟩ := B.c6.1
            go_upto_region 16 with (fail)
            generalize hV : World.alloc wr _ = W5
            have X : Blk W5 wr.heap.size _ _ := Blk.eqw hV (Blk.new' rfl)
            have h5 : Below wr.heap.size wr W5 := by rw [← hV]; exact (Below.refl _ _).alloc (Nat.le_refl _) _
            have hNl := A.lt
            have hBl := B.lt
            have hNw := H.out.size
            replace A := A.on h5
            replace B := B.on h5
            replace H := after H.out h5
            clear hV h5 b0 b1 b2 b3 b4 b5
            generalize wr.heap.size = g at X hNl hBl hNw ⊢
            obtain ⟨⟨x0, x1, x2, x3, x4, x5⟩, f0, f1, f2, f3, f4, f5⟩ := X.c6
            go_upto_region 17 with (go_at_call 16; refine (rwith_c _ _ _ _ _ _).mono ?_; rintro e_ w4 ⟨rfl, h5⟩; replace X := X.on h5; obtain ⟨⟨x0, x1, x2, x3, x4, x5⟩, f0, f1, f2, f3, f4, f5⟩ := X.c6)
            generalize hV : World.setCell (World.setCell (World.setCell w4 _ _) _ _) _ _ = W6
            have X2 : Blk W6 g 28 #[.int .i64 (wiI a axis 0 (k * 65536)), .int .i64 (wiI b axis 1 (k * 65536)), .int .i64 (wiI c axis 2 (k * 65536)), .int .i64 d, .int .i64 e, .int .i64 f] := Blk.eqw hV (((X.set_ 0 _).set_ 1 _).set_ 2 _)
            replace A := Blk.eqw hV ((((A.on h5).far (p := ⟨g, 0, none⟩) (by dsimp only; omega) _).far (p := ⟨g, 1, none⟩) (by dsimp only; omega) _).far (p := ⟨g, 2, none⟩) (by dsimp only; omega) _)
            replace B := Blk.eqw hV ((((B.on h5).far (p := ⟨g, 0, none⟩) (by dsimp only; omega) _).far (p := ⟨g, 1, none⟩) (by dsimp only; omega) _).far (p := ⟨g, 2, none⟩) (by dsimp only; omega) _)
            replace H : Below w.heap.size w W6 := by rw [← hV]; exact (((after H h5).setCell (p := ⟨g, 0, none⟩) hNw _).setCell (p := ⟨g, 1, none⟩) hNw _).setCell (p := ⟨g, 2, none⟩) hNw _
            clear hV h5 x0 x1 x2 x3 x4 x5 f0 f1 f2 f3 f4 f5 X
            obtain ⟨⟨x0, x1, x2, x3, x4, x5⟩, f0, f1, f2, f3, f4, f5⟩ := X2.c6
            go_upto_region 18 with (go_at_call 16; refine (rwith_c _ _ _ _ _ _).mono ?_; rintro e_ w5 ⟨rfl, h5⟩; replace X2 := X2.on h5; obtain ⟨⟨x0, x1, x2, x3, x4, x5⟩, f0, f1, f2, f3, f4, f5⟩ := X2.c6)
            generalize hV : World.setCell (World.setCell (World.setCell w5 _ _) _ _) _ _ = W7
            have X3 : Blk W7 g 28 #[.int .i64 (wiI a axis 0 (k * 65536)), .int .i64 (wiI b axis 1 (k * 65536)), .int .i64 (wiI c axis 2 (k * 65536)), .int .i64 (wiI d axis 0 (k * 65536 + 65536)), .int .i64 (wiI e axis 1 (k * 65536 + 65536)), .int .i64 (wiI f axis 2 (k * 65536 + 65536))] := Blk.eqw hV (((X2.set_ 3 _).set_ 4 _).set_ 5 _)
            replace A := Blk.eqw hV ((((A.on h5).far (p := ⟨g, 3, none⟩) (by dsimp only; omega) _).far (p := ⟨g, 4, none⟩) (by dsimp only; omega) _).far (p := ⟨g, 5, none⟩) (by dsimp only; omega) _)
            replace B := Blk.eqw hV ((((B.on h5).far (p := ⟨g, 3, none⟩) (by dsimp only; omega) _).far (p := ⟨g, 4, none⟩) (by dsimp only; omega) _).far (p := ⟨g, 5, none⟩) (by dsimp only; omega) _)
            replace H : Below w.heap.size w W7 := by rw [← hV]; exact (((after H h5).setCell (p := ⟨g, 3, none⟩) hNw _).setCell (p := ⟨g, 4, none⟩) hNw _).setCell (p := ⟨g, 5, none⟩) hNw _
            clear hV h5 x0 x1 x2 x3 x4 x5 f0 f1 f2 f3 f4 f5 X2 k1 k2 k3 k4
            obtain ⟨x0, x1, x2, x3, x4, x5⟩ := X3.c6.1
            have a0 := A.cell 0
            have a1 := A.cell 1
            replace hS := hS W7 H
            cases hb : blk k
            · rw [hb] at hS
              have HS := Lib.hid hS
              have HB := Lib.hid hb
              clear hS hb
              go_wp2_with (go_at_call 26; refine HS.out.mono ?_; rintro e_ w8 ⟨rfl, h8⟩)
              go_roundw
              case rel => exact ⟨iv + 1, rfl, by omega, by omega, fun k' h1 h2 h3 => (by
                by_cases e : k' = k
                · subst e; exact HB.out
                · exact hsee.out k' (by have := HK.out; omega) h2 h3), A.on h8, B.on h8, after H h8⟩
              case measure => simp [intOf]; omega
            · rw [hb] at hS
              have HS := Lib.hid hS
              have HB := Lib.hid hb
              clear hS hb
              go_wp2_with (go_at_call 26; refine HS.out.mono ?_; rintro e_ w8 ⟨rfl, h8⟩)
              go_returns
              refine ⟨?_, after H h8⟩
              have hkk := HK.out
              have hww := HW.out
              rw [HVV.out, axV_dn_hit hd (by omega) (by omega) HB.out fun k' h3 h4 => hsee.out k' (by omega) h4 (by omega), hww]
              rfl
        · have i5 : iv = 70 := by omega
          subst i5
          go_wp2_with fail
          go_returns
          refine ⟨?_, H.out⟩
          rw [HVV.out, axV_dn_none hd fun k' h1 h2 => hsee.out k' (by omega) h1 h2]
          rfl
    · subst hd
      have e1 : ¬ (0 : Int) < 0 := by decide
      go_loopw [12] (fun v wr => ∃ iv : Int, v = .int .i64 iv ∧ -1 ≤ iv ∧ iv ≤ 70 ∧ Hid (Below w.heap.size w wr)) (fun v _ => (70 - intOf v).toNat)
      case atStart => exact ⟨-1, rfl, by omega, by omega, H⟩
      case round =>
        clear A B H
        obtain ⟨iv, rfl, i1, i2, H⟩ := hrel
        obtain ⟨hM, hM0, l1, l2, l3, fb1, fb2⟩ := HBD.out
        by_cases hlt : iv < 70
        · have t1 : -9223372036854775808 ≤ top / 65536 + iv := by omega
          have t2 : top / 65536 + iv ≤ 9223372036854775807 := by omega
          have t3 : -9223372036854775808 ≤ (top / 65536 + iv) * 65536 := by omega
          have t4 : (top / 65536 + iv) * 65536 ≤ 9223372036854775807 := by omega
          have t5 : -9223372036854775808 ≤ (top / 65536 + iv) * 65536 - top := by omega
          have t6 : (top / 65536 + iv) * 65536 - top ≤ 9223372036854775807 := by omega
          go_wp2_with (go_at_call 32; refine (rdiv_c _ _ (by omega) (by omega) (by decide) _).mono ?_; rintro e_ w3 ⟨rfl, rfl⟩)
          go_roundw
          case rel => exact ⟨iv + 1, rfl, by omega, by omega, H⟩
          case measure => simp [intOf]; omega
        · have i5 : iv = 70 := by omega
          subst i5
          go_wp2_with fail
          go_returns
          refine ⟨?_, H.out⟩
          rw [HVV.out, axV_zero]
          rfl
end Go.Proofs.Ytckjpiioipkfcaa
