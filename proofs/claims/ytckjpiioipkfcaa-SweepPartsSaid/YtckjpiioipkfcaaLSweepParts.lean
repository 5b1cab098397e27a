/- SweepParts holds: any small world, any box, any axis, any two ways to one side. -/
import Derived.Test.YtckjpiioipkfcaaNear2
import Derived.Test.YtckjpiioipkfcaaSmall
import Derived.Test.YtckjpiioipkfcaaSwP4
namespace Go.Proofs.Ytckjpiioipkfcaa
open Go.ChangeShapes Go.WideShapes Go.ChangeAt Go.RowKit Go.Shelf
attribute [local go_sem] Oper.semAt_some

set_option maxRecDepth 100000 in
set_option maxHeartbeats 8000000 in
theorem sweepParts_c (q : Option Addr) (n c : Nat) (F : Nat → Int) (els : Int) (_ : n ≤ c) (hm : c ≤ maxLen) (hF : ∀ i, i < n → In64 (F i)) (he : In64 els) (pa pb pc pd pe pf : Int) (ha : In64 pa) (hb : In64 pb) (hc : In64 pc) (hd : In64 pd) (hee : In64 pe) (hf : In64 pf) (axis : Int) (hax : In64 axis) (d0 : Int) (hd0 : In64 d0) (e0 : Int) (he0 : In64 e0) (back : Bool) (w : World) (hq : Iq w q n F) :
    Calls Try.prog 3 #[.agg #[.slice q n c, .int .i64 els], .agg #[.int .i64 pa, .int .i64 pb, .int .i64 pc, .int .i64 pd, .int .i64 pe, .int .i64 pf], .int .i64 axis, .int .i64 d0, .int .i64 e0, .bool back] w fun e w' => e = .returned (.bool true) ∧ Below w.heap.size w w' := by
  have HGd := Lib.hid (fun W (h : Below w.heap.size w W) => rgood13_c q n c F els hm W (hq.on h) hF he)
  have HNr := Lib.hid (fun halves W => nearx_c pa pb pc pd pe pf halves ha hb hc hd hee hf W)
  have HAr := Lib.hid (fun (n m : Int) (hn : In64 n) (hm : 0 < m) W => around_c n m hn.1 hn.2 hm W)
  have HDD := Lib.hid (And.intro hax (And.intro hd0 he0))
  clear hm hF he ha hb hc hd hee hf hq hax hd0 he0
  obtain ⟨W0, hW0⟩ : ∃ W0, W0 = (w.alloc (.cells #[.slice q n c, .int .i64 els] 24)).alloc (.cells #[.int .i64 pa, .int .i64 pb, .int .i64 pc, .int .i64 pd, .int .i64 pe, .int .i64 pf] 28) := ⟨_, rfl⟩
  have A0 : Blk W0 w.heap.size 24 #[.slice q n c, .int .i64 els] := by rw [hW0]; exact (Blk.new' rfl).alloc _
  have B0 : Blk W0 (w.heap.size + 1) 28 #[.int .i64 pa, .int .i64 pb, .int .i64 pc, .int .i64 pd, .int .i64 pe, .int .i64 pf] := by rw [hW0]; exact Blk.new' (by simp)
  have H0 : Below w.heap.size w W0 := by rw [hW0]; go_grown
  go_enter Try.func3, Try.ntmps3
  go_upto_region 1 with (fail)
  rw [← hW0]
  clear hW0
  have a0 := A0.cell 0
  have a1 := A0.cell 1
  go_upto_region 2 with (go_at_call 9; refine (HGd.out _ H0).mono ?_; rintro e_ w1 ⟨q2, c2, rfl, R, k1, k2, h1⟩)
  generalize hV : World.alloc w1 _ = W1
  have G : Blk W1 w1.heap.size _ _ := Blk.eqw hV (Blk.new' rfl)
  have h2 : Below w1.heap.size w1 W1 := by rw [← hV]; exact (Below.refl _ _).alloc (Nat.le_refl _) _
  have I := iq_of_rd (R.on h2)
  rw [show (goodL n F).length = min n 216 by simp [goodL]] at I
  replace B0 := (B0.on h1).on h2
  replace H0 := after (after H0 h1) h2
  clear hV h1 h2 k1 k2 R a0 a1 A0
  generalize min n 216 = m at G I ⊢
  generalize w1.heap.size = g at G ⊢
  generalize (fun i => (goodL n F).getD i 0) = F2 at I
  generalize arI els 3 - 1 = els2 at G ⊢
  have g0 := G.cell 0
  have g1 := G.cell 1
  go_upto_region 3 with (go_at_call 10; refine (view_c _ _ _).mono ?_; rintro e_ w2 ⟨rfl, rfl⟩)
  generalize hV : World.alloc W1 _ = W2
  have V2 : Blk W2 W1.heap.size _ _ := Blk.eqw hV (Blk.new' rfl)
  have h2 : Below W1.heap.size W1 W2 := by rw [← hV]; exact (Below.refl _ _).alloc (Nat.le_refl _) _
  replace I := I.on h2
  replace G := G.on h2
  replace B0 := B0.on h2
  replace H0 := after H0 h2
  have T0 := view_tells V2 I
  clear hV h2 V2 g0 g1
  generalize W1.heap.size = g2 at T0 ⊢
  obtain ⟨b0, b1, b2, b3, b4, b5⟩ := B0.c6.1
  go_upto_region 4 with (go_at_call 11; refine (HNr.out _ _).mono ?_; rintro e_ w3 ⟨⟨a, b, c', d, e, f⟩, rfl, hsm, h3⟩)
  simp only [ag6]
  generalize hV : World.alloc w3 _ = W3
  have X : Blk W3 w3.heap.size _ _ := Blk.eqw hV (Blk.new' rfl)
  have h2 : Below w3.heap.size w3 W3 := by rw [← hV]; exact (Below.refl _ _).alloc (Nat.le_refl _) _
  replace I := (I.on h3).on h2
  replace G := (G.on h3).on h2
  replace H0 := after (after H0 h3) h2
  replace T0 := (T0.on h3).on h2
  clear hV h2 h3 b0 b1 b2 b3 b4 b5 B0
  generalize w3.heap.size = gx at X ⊢
  have HSM := Lib.hid (show Sm6 600000 (a, b, c', d, e, f) from hsm)
  have I' := I
  have hP : ∀ (y : B6), Sm6 20000000 y → ∀ ax k W, Below W3.heap.size W3 W → Calls Try.prog 13 #[.func (.func 30) #[] #[.pointer (some ⟨g2, 0, none⟩)], .agg (ag6 y), .int .i64 ax, .int .i64 k] W fun r w' => r = .returned (.tuple #[.int .i64 (ax6 (fun x => atG m F2 els2 x.1 x.2.1 x.2.2) y ax k).1, .bool (ax6 (fun x => atG m F2 els2 x.1 x.2.1 x.2.2) y ax k).2]) ∧ Below W.heap.size W w' :=
    fun y hy ax k W h => saxis_c 30 _ _ _ _ _ _ _ _ ax k 20000000 (by omega) (by omega) hy W view_en (T0.on h)
  have hpp := fun ax dd ee (h1 : 0 ≤ ax ∧ ax < 3) h2 h3 h4 h5 h6 => parts6 (fun x => atG m F2 els2 x.1 x.2.1 x.2.2) HSM.out (by omega) (by omega) (axis := ax) (d := dd) (e := ee) h1 h2 h3 h4 h5 h6
  have hmv := fun ax nn h1 h2 => mv6_sm HSM.out (by omega) (by omega) (axis := ax) (n := nn) h1 h2
  have hfar : ∀ (y : B6) ax k, -4194304 ≤ (ax6 (fun x => atG m F2 els2 x.1 x.2.1 x.2.2) y ax k).1 ∧ (ax6 (fun x => atG m F2 els2 x.1 x.2.1 x.2.2) y ax k).1 ≤ 4194304 := fun y ax k => axisV_far _ _ _ _ _ _ _ _ _
  generalize ax6 (fun x => atG m F2 els2 x.1 x.2.1 x.2.2) = axv at hP hpp hfar
  have HFAR := Lib.hid hfar
  have HP := Lib.hid hP
  have HPP := Lib.hid hpp
  have HMV := Lib.hid hmv
  have H3 := Lib.hid H0
  clear hP hpp hmv hfar I I' T0 HGd HNr hsm H0
  have K := Below.refl W3.heap.size W3
  have hkx := Lib.hid (And.intro (arI_lo axis (m := 3) (by omega)) (arI_hi axis (m := 3) (by omega)))
  have hkd := Lib.hid (And.intro (arI_lo d0 (m := 196609) (by omega)) (arI_hi d0 (m := 196609) (by omega)))
  have hke := Lib.hid (And.intro (arI_lo e0 (m := 196609) (by omega)) (arI_hi e0 (m := 196609) (by omega)))
  go_upto_region 5 with (go_at_call 12; refine (HAr.out axis 3 HDD.out.1 (by omega) _).mono ?_; rintro e_ w4 ⟨rfl, rfl⟩)
  go_upto_region 6 with (go_at_call 12; refine (HAr.out d0 196609 HDD.out.2.1 (by omega) _).mono ?_; rintro e_ w4 ⟨rfl, rfl⟩)
  go_upto_region 7 with (go_at_call 12; refine (HAr.out e0 196609 HDD.out.2.2 (by omega) _).mono ?_; rintro e_ w4 ⟨rfl, rfl⟩)
  generalize arI axis 3 = ax at hkx ⊢
  generalize arI d0 196609 = d1 at hkd ⊢
  generalize arI e0 196609 = e1 at hke ⊢
  have q1 := hkd.out
  have q2 := hke.out
  have q3 : -9223372036854775808 ≤ -d1 := by omega
  have q4 : -d1 ≤ 9223372036854775807 := by omega
  have q5 : -9223372036854775808 ≤ -e1 := by omega
  have q6 : -e1 ≤ 9223372036854775807 := by omega
  obtain ⟨sd, hsd⟩ : ∃ sd, sd = if back then -d1 else d1 := ⟨_, rfl⟩
  obtain ⟨se, hse⟩ : ∃ se, se = if back then -e1 else e1 := ⟨_, rfl⟩
  cases back
  · have hs : (0 ≤ d1 ∧ 0 ≤ e1) ∨ (d1 ≤ 0 ∧ e1 ≤ 0) := by omega
    have hpp := HPP.out ax (d1) (e1) hkx.out hs (by omega) (by omega) (by omega) (by omega)
    have b1 : -200000 ≤ d1 := by omega
    have b2 : d1 ≤ 200000 := by omega
    have b3 : -200000 ≤ e1 := by omega
    have b4 : e1 ≤ 200000 := by omega
    go_upto_region 10 with (fail)
    generalize hgd : d1 = dd at hpp b1 b2 hs ⊢
    generalize hge : e1 = ee at hpp b3 b4 hs ⊢
    clear hsd hse q1 q2 q3 q4 q5 q6 hkd hke hgd hge hs
    have c1 : -9223372036854775808 ≤ dd + ee := by omega
    have c2 : dd + ee ≤ 9223372036854775807 := by omega
    have hsm2 : Sm6 20000000 (a, b, c', d, e, f) := by
      obtain ⟨h3, h4, h5, h6, h7, h8, h9, h10, h11, h12, h13, h14⟩ := HSM.out
      dsimp only at *
      constructor <;> dsimp only <;> omega
    have p1 := fun W h => HP.out _ hsm2 ax dd W h
    have p2 := fun W h => HP.out _ hsm2 ax (dd + ee) W h
    rcases hpp with ⟨r1, r2⟩ | ⟨r1, r2, r3⟩
    · rw [r2] at p2
      obtain ⟨⟨nn, hh⟩, hp⟩ : ∃ p, p = axv (a, b, c', d, e, f) ax dd := ⟨_, rfl⟩
      rw [← hp] at p1 p2 r1
      have r4 : hh = true := r1
      subst r4
      clear hp r1
      dsimp only [ag6] at p1 p2
      have P1 := Lib.hid p1
      have P2 := Lib.hid p2
      clear p1 p2 r2 hsm2 HP HPP
      obtain ⟨x0, x1, x2, x3, x4, x5⟩ := X.c6.1
      go_upto_region 12 with (go_at_call 13; refine (P1.out _ K).mono ?_; rintro e_ w5 ⟨rfl, h5⟩)
      replace X := X.on h5
      have K2 := after K h5
      clear x0 x1 x2 x3 x4 x5 h5
      obtain ⟨x0, x1, x2, x3, x4, x5⟩ := X.c6.1
      go_wp2_with first
        | (go_at_call 13; refine (P2.out _ K2).mono ?_; rintro e_ w7 ⟨rfl, h7⟩)
        | (go_at_call 14; refine (slives_c _).mono ?_; rintro e_ w8 ⟨rfl, h8⟩)
      go_returns
      exact ⟨rfl, after (after (after H3.out K2) h7) h8⟩
    · rw [r1] at p1
      have hmv := HMV.out ax dd (by omega) (by omega)
      have hmv2 : Sm6 20000000 (mv6 (a, b, c', d, e, f) ax dd) := by
        obtain ⟨h3, h4, h5, h6, h7, h8, h9, h10, h11, h12, h13, h14⟩ := hmv
        constructor <;> omega
      have p3 := fun W h => HP.out _ hmv2 ax ee W h
      have r7 := HFAR.out (mv6 (a, b, c', d, e, f) ax dd) ax ee
      generalize axv (a, b, c', d, e, f) ax (dd + ee) = pz at p2 r2 r3
      generalize axv (mv6 (a, b, c', d, e, f) ax dd) ax ee = py at p3 r2 r3 r7
      obtain ⟨n2, h2⟩ := pz
      obtain ⟨n3, h3⟩ := py
      dsimp only at r2 r3 r7
      subst r3
      have c3 : -9223372036854775808 ≤ dd + n3 := by omega
      have c4 : dd + n3 ≤ 9223372036854775807 := by omega
      clear r7
      dsimp only [ag6, mv6] at p1 p2 p3
      have P1 := Lib.hid p1
      have P2 := Lib.hid p2
      have P3 := Lib.hid p3
      have R2 := Lib.hid r2
      clear p1 p2 p3 r1 r2 hsm2 hmv hmv2 HP HPP
      obtain ⟨x0, x1, x2, x3, x4, x5⟩ := X.c6.1
      go_upto_region 14 with (go_at_call 13; refine (P1.out _ K).mono ?_; rintro e_ w5 ⟨rfl, h5⟩)
      replace X := X.on h5
      have K2 := after K h5
      clear x0 x1 x2 x3 x4 x5 h5
      obtain ⟨x0, x1, x2, x3, x4, x5⟩ := X.re6
      have hsz := K2.size
      refine wp_sched [0, 0, 0, 0, 0, 0, 2, 3] (fun _ v w => ∃ b9, v = .pointer (some ⟨b9, 0, none⟩) ∧ Blk w b9 28 #[.int .i64 0, .int .i64 0, .int .i64 0, .int .i64 0, .int .i64 0, .int .i64 0] ∧ w5.heap.size ≤ b9) (by kernel_rfl) (by kernel_rfl) (fun _ _ _ _ ⟨b, h1, h2, h3⟩ h => ⟨b, h1, h2.on h, h3⟩) ?_
      repeat (first | (refine wpQs_s ?_) | (refine wpQs_q (fun K hK => ?_); go_simp; first | (refine hK _ ?_; clear hK K) | (apply Exists.intro; refine ⟨fun _ => ?_, hK _ ?_⟩; (first | exact rwith_c _ _ _ _ _ _ | exact srmove_c _ _ _ _ _ _ _ _ _ _); clear hK K)) | (refine wpQs_f (fun K hK => ?_); go_simp; refine hK _ ?_; clear hK K))
      refine wpQs_nil ?_
      repeat (first | (refine wpLs_skip ?_) | (refine wpLs_one ?lsA (fun v_ => ?_); case lsA => (intro w_ hw_ hp_; (go_simp; exact ⟨Kept.of_below ((Below.refl _ _).alloc (Nat.le_refl _) _), Blk.new' rfl, (msd_kept hw_).size⟩))))
      refine wpLs_nilB ?_
      simp only [tails]
      rintro W6 h6 ⟨-, b9, rfl, hB, hb9⟩
      have hxg := X.lt
      replace X := X.on h6
      have K3 := after K2 h6
      clear x0 x1 x2 x3 x4 x5
      obtain ⟨⟨y0, y1, y2, y3, y4, y5⟩, f0, f1, f2, f3, f4, f5⟩ := hB.c6
      go_upto_region 15 with (fail)
      generalize hV : World.setCell (World.setCell (World.setCell (World.setCell (World.setCell (World.setCell W6 _ _) _ _) _ _) _ _) _ _) _ _ = W7
      have Y : Blk W7 b9 28 #[.int .i64 (addI a (wiI 0 ax 0 dd)), .int .i64 (addI b (wiI 0 ax 1 dd)), .int .i64 (addI c' (wiI 0 ax 2 dd)), .int .i64 (addI d (wiI 0 ax 0 dd)), .int .i64 (addI e (wiI 0 ax 1 dd)), .int .i64 (addI f (wiI 0 ax 2 dd))] := Blk.eqw hV ((((((hB.set_ 0 _).set_ 1 _).set_ 2 _).set_ 3 _).set_ 4 _).set_ 5 _)
      have ne : gx ≠ b9 := by omega
      have le : W3.heap.size ≤ b9 := Nat.le_trans hsz hb9
      replace X := Blk.eqw hV ((((((X.far (p := ⟨b9, 0, none⟩) ne _).far (p := ⟨b9, 1, none⟩) ne _).far (p := ⟨b9, 2, none⟩) ne _).far (p := ⟨b9, 3, none⟩) ne _).far (p := ⟨b9, 4, none⟩) ne _).far (p := ⟨b9, 5, none⟩) ne _)
      have K4 : Below W3.heap.size W3 W7 := by rw [← hV]; exact (((((K3.setCell (p := ⟨b9, 0, none⟩) le _).setCell (p := ⟨b9, 1, none⟩) le _).setCell (p := ⟨b9, 2, none⟩) le _).setCell (p := ⟨b9, 3, none⟩) le _).setCell (p := ⟨b9, 4, none⟩) le _).setCell (p := ⟨b9, 5, none⟩) le _
      clear hV K3 hB y0 y1 y2 y3 y4 y5 f0 f1 f2 f3 f4 f5 K h6 hxg
      obtain ⟨y0, y1, y2, y3, y4, y5⟩ := Y.c6.1
      go_upto_region 16 with (go_at_call 13; refine (P3.out _ K4).mono ?_; rintro e_ w7 ⟨rfl, h7⟩)
      replace X := X.on h7
      have K5 := after K4 h7
      clear y0 y1 y2 y3 y4 y5 Y h7 K4
      obtain ⟨x0, x1, x2, x3, x4, x5⟩ := X.c6.1
      have e5 : dd + n3 = n2 := R2.out
      go_wp2_with first
        | (go_at_call 13; refine (P2.out _ K5).mono ?_; rintro e_ w8 ⟨rfl, h8⟩)
        | (go_at_call 14; refine (slives_c _).mono ?_; rintro e_ w9 ⟨rfl, h9⟩)
      go_returns
      exact ⟨rfl, after (after (after H3.out K5) h8) h9⟩
  · have hs : (0 ≤ -d1 ∧ 0 ≤ -e1) ∨ (-d1 ≤ 0 ∧ -e1 ≤ 0) := by omega
    have hpp := HPP.out ax (-d1) (-e1) hkx.out hs (by omega) (by omega) (by omega) (by omega)
    have b1 : -200000 ≤ -d1 := by omega
    have b2 : -d1 ≤ 200000 := by omega
    have b3 : -200000 ≤ -e1 := by omega
    have b4 : -e1 ≤ 200000 := by omega
    go_upto_region 10 with (fail)
    generalize hgd : -d1 = dd at hpp b1 b2 hs ⊢
    generalize hge : -e1 = ee at hpp b3 b4 hs ⊢
    clear hsd hse q1 q2 q3 q4 q5 q6 hkd hke hgd hge hs
    have c1 : -9223372036854775808 ≤ dd + ee := by omega
    have c2 : dd + ee ≤ 9223372036854775807 := by omega
    have hsm2 : Sm6 20000000 (a, b, c', d, e, f) := by
      obtain ⟨h3, h4, h5, h6, h7, h8, h9, h10, h11, h12, h13, h14⟩ := HSM.out
      dsimp only at *
      constructor <;> dsimp only <;> omega
    have p1 := fun W h => HP.out _ hsm2 ax dd W h
    have p2 := fun W h => HP.out _ hsm2 ax (dd + ee) W h
    rcases hpp with ⟨r1, r2⟩ | ⟨r1, r2, r3⟩
    · rw [r2] at p2
      obtain ⟨⟨nn, hh⟩, hp⟩ : ∃ p, p = axv (a, b, c', d, e, f) ax dd := ⟨_, rfl⟩
      rw [← hp] at p1 p2 r1
      have r4 : hh = true := r1
      subst r4
      clear hp r1
      dsimp only [ag6] at p1 p2
      have P1 := Lib.hid p1
      have P2 := Lib.hid p2
      clear p1 p2 r2 hsm2 HP HPP
      obtain ⟨x0, x1, x2, x3, x4, x5⟩ := X.c6.1
      go_upto_region 12 with (go_at_call 13; refine (P1.out _ K).mono ?_; rintro e_ w5 ⟨rfl, h5⟩)
      replace X := X.on h5
      have K2 := after K h5
      clear x0 x1 x2 x3 x4 x5 h5
      obtain ⟨x0, x1, x2, x3, x4, x5⟩ := X.c6.1
      go_wp2_with first
        | (go_at_call 13; refine (P2.out _ K2).mono ?_; rintro e_ w7 ⟨rfl, h7⟩)
        | (go_at_call 14; refine (slives_c _).mono ?_; rintro e_ w8 ⟨rfl, h8⟩)
      go_returns
      exact ⟨rfl, after (after (after H3.out K2) h7) h8⟩
    · rw [r1] at p1
      have hmv := HMV.out ax dd (by omega) (by omega)
      have hmv2 : Sm6 20000000 (mv6 (a, b, c', d, e, f) ax dd) := by
        obtain ⟨h3, h4, h5, h6, h7, h8, h9, h10, h11, h12, h13, h14⟩ := hmv
        constructor <;> omega
      have p3 := fun W h => HP.out _ hmv2 ax ee W h
      have r7 := HFAR.out (mv6 (a, b, c', d, e, f) ax dd) ax ee
      generalize axv (a, b, c', d, e, f) ax (dd + ee) = pz at p2 r2 r3
      generalize axv (mv6 (a, b, c', d, e, f) ax dd) ax ee = py at p3 r2 r3 r7
      obtain ⟨n2, h2⟩ := pz
      obtain ⟨n3, h3⟩ := py
      dsimp only at r2 r3 r7
      subst r3
      have c3 : -9223372036854775808 ≤ dd + n3 := by omega
      have c4 : dd + n3 ≤ 9223372036854775807 := by omega
      clear r7
      dsimp only [ag6, mv6] at p1 p2 p3
      have P1 := Lib.hid p1
      have P2 := Lib.hid p2
      have P3 := Lib.hid p3
      have R2 := Lib.hid r2
      clear p1 p2 p3 r1 r2 hsm2 hmv hmv2 HP HPP
      obtain ⟨x0, x1, x2, x3, x4, x5⟩ := X.c6.1
      go_upto_region 14 with (go_at_call 13; refine (P1.out _ K).mono ?_; rintro e_ w5 ⟨rfl, h5⟩)
      replace X := X.on h5
      have K2 := after K h5
      clear x0 x1 x2 x3 x4 x5 h5
      obtain ⟨x0, x1, x2, x3, x4, x5⟩ := X.re6
      have hsz := K2.size
      refine wp_sched [0, 0, 0, 0, 0, 0, 2, 3] (fun _ v w => ∃ b9, v = .pointer (some ⟨b9, 0, none⟩) ∧ Blk w b9 28 #[.int .i64 0, .int .i64 0, .int .i64 0, .int .i64 0, .int .i64 0, .int .i64 0] ∧ w5.heap.size ≤ b9) (by kernel_rfl) (by kernel_rfl) (fun _ _ _ _ ⟨b, h1, h2, h3⟩ h => ⟨b, h1, h2.on h, h3⟩) ?_
      repeat (first | (refine wpQs_s ?_) | (refine wpQs_q (fun K hK => ?_); go_simp; first | (refine hK _ ?_; clear hK K) | (apply Exists.intro; refine ⟨fun _ => ?_, hK _ ?_⟩; (first | exact rwith_c _ _ _ _ _ _ | exact srmove_c _ _ _ _ _ _ _ _ _ _); clear hK K)) | (refine wpQs_f (fun K hK => ?_); go_simp; refine hK _ ?_; clear hK K))
      refine wpQs_nil ?_
      repeat (first | (refine wpLs_skip ?_) | (refine wpLs_one ?lsA (fun v_ => ?_); case lsA => (intro w_ hw_ hp_; (go_simp; exact ⟨Kept.of_below ((Below.refl _ _).alloc (Nat.le_refl _) _), Blk.new' rfl, (msd_kept hw_).size⟩))))
      refine wpLs_nilB ?_
      simp only [tails]
      rintro W6 h6 ⟨-, b9, rfl, hB, hb9⟩
      have hxg := X.lt
      replace X := X.on h6
      have K3 := after K2 h6
      clear x0 x1 x2 x3 x4 x5
      obtain ⟨⟨y0, y1, y2, y3, y4, y5⟩, f0, f1, f2, f3, f4, f5⟩ := hB.c6
      go_upto_region 15 with (fail)
      generalize hV : World.setCell (World.setCell (World.setCell (World.setCell (World.setCell (World.setCell W6 _ _) _ _) _ _) _ _) _ _) _ _ = W7
      have Y : Blk W7 b9 28 #[.int .i64 (addI a (wiI 0 ax 0 dd)), .int .i64 (addI b (wiI 0 ax 1 dd)), .int .i64 (addI c' (wiI 0 ax 2 dd)), .int .i64 (addI d (wiI 0 ax 0 dd)), .int .i64 (addI e (wiI 0 ax 1 dd)), .int .i64 (addI f (wiI 0 ax 2 dd))] := Blk.eqw hV ((((((hB.set_ 0 _).set_ 1 _).set_ 2 _).set_ 3 _).set_ 4 _).set_ 5 _)
      have ne : gx ≠ b9 := by omega
      have le : W3.heap.size ≤ b9 := Nat.le_trans hsz hb9
      replace X := Blk.eqw hV ((((((X.far (p := ⟨b9, 0, none⟩) ne _).far (p := ⟨b9, 1, none⟩) ne _).far (p := ⟨b9, 2, none⟩) ne _).far (p := ⟨b9, 3, none⟩) ne _).far (p := ⟨b9, 4, none⟩) ne _).far (p := ⟨b9, 5, none⟩) ne _)
      have K4 : Below W3.heap.size W3 W7 := by rw [← hV]; exact (((((K3.setCell (p := ⟨b9, 0, none⟩) le _).setCell (p := ⟨b9, 1, none⟩) le _).setCell (p := ⟨b9, 2, none⟩) le _).setCell (p := ⟨b9, 3, none⟩) le _).setCell (p := ⟨b9, 4, none⟩) le _).setCell (p := ⟨b9, 5, none⟩) le _
      clear hV K3 hB y0 y1 y2 y3 y4 y5 f0 f1 f2 f3 f4 f5 K h6 hxg
      obtain ⟨y0, y1, y2, y3, y4, y5⟩ := Y.c6.1
      go_upto_region 16 with (go_at_call 13; refine (P3.out _ K4).mono ?_; rintro e_ w7 ⟨rfl, h7⟩)
      replace X := X.on h7
      have K5 := after K4 h7
      clear y0 y1 y2 y3 y4 y5 Y h7 K4
      obtain ⟨x0, x1, x2, x3, x4, x5⟩ := X.c6.1
      have e5 : dd + n3 = n2 := R2.out
      go_wp2_with first
        | (go_at_call 13; refine (P2.out _ K5).mono ?_; rintro e_ w8 ⟨rfl, h8⟩)
        | (go_at_call 14; refine (slives_c _).mono ?_; rintro e_ w9 ⟨rfl, h9⟩)
      go_returns
      exact ⟨rfl, after (after (after H3.out K5) h8) h9⟩

set_option maxRecDepth 100000 in
theorem sweepParts_lifted (os : Os) (started : os.Started) (H : Type) (enc : TypeId × Value → H) :
    ReturnsInHanded {} Try.checked os 3 .any (Rows.sweepPartsSpec.pre6 enc Try.prog Try.f3 Rows.sweepPartsRow.domain false) (Rows.sweepPartsSpec.post enc Try.prog Try.f3 false true false false) := by
  refine returnsInHanded_of_change (C := Try.checked) own started (by kernel_rfl) Try.func3
    (ChangeSpec.witness6 (enc := enc) (C := Try.checked) false ⟨#[], #[.agg #[.slice none 0 0, .int .i64 0], .agg #[.int .i64 0, .int .i64 0, .int .i64 0, .int .i64 0, .int .i64 0, .int .i64 0], .int .i64 0, .int .i64 0, .int .i64 0, .bool false], []⟩ 8 (by kernel_rfl) (by kernel_rfl) (by kernel_rfl) (by kernel_rfl)) ?_
  intro W base args ds gs before hval0 hW hcnd hsz
  have hval : ∀ (j : Nat) t v, Try.f3.params[j]? = some t → args[j]? = some v → Value.okWide Try.prog W .any base t v := hval0
  have hW' := hW
  obtain ⟨p, q, hA0, hV, rfl, hfz, hnd⟩ := hW
  have hA : DataW.TrodAll enc Try.prog W 0 (fun _ => true) true Try.f3.params.toList args.toList ds p := hA0
  rw [Try.params3] at hA hval
  obtain ⟨v0, vs0, d0, ds0, p_0, q_0, hargs, rfl, rfl, h0, r_0⟩ := trodAll_cons hA
  obtain ⟨v1, vs1, d1, ds1, p_1, q_1, rfl, rfl, rfl, h1, r_1⟩ := trodAll_cons r_0
  obtain ⟨v2, vs2, d2, ds2, p_2, q_2, rfl, rfl, rfl, h2, r_2⟩ := trodAll_cons r_1
  obtain ⟨v3, vs3, d3, ds3, p_3, q_3, rfl, rfl, rfl, h3, r_3⟩ := trodAll_cons r_2
  obtain ⟨v4, vs4, d4, ds4, p_4, q_4, rfl, rfl, rfl, h4, r_4⟩ := trodAll_cons r_3
  obtain ⟨v5, vs5, d5, ds5, p_5, q_5, rfl, rfl, rfl, h5, r_5⟩ := trodAll_cons r_4
  obtain ⟨rfl, rfl, rfl⟩ := trodAll_nil r_5
  obtain rfl : args = #[v0, v1, v2, v3, v4, v5] := by cases args; simp_all
  obtain ⟨rfl, rfl⟩ := trodVars_none hV
  obtain ⟨gq0, gn0, gc0, gF0, ge0, rfl, gl0, gm0, gi0, gw0, gv0⟩ := open_world Try.underlying24 Try.underlying22 (by kernel_rfl) (by kernel_rfl) Try.underlying3 (hval 0 24 v0 rfl rfl) h0
  obtain ⟨p1, q1, r1, s1, t1, u1, rfl, wp1, wq1, wr1, ws1, wt1, wu1⟩ := open_box Try.underlying28 Try.underlying26 (by kernel_rfl) (by kernel_rfl) (by kernel_rfl) Try.underlying3 (hval 1 28 v1 rfl rfl) h1
  obtain ⟨a2, rfl, rfl, rfl, w2⟩ := open_int Try.underlying3 (hval 2 3 v2 rfl rfl) h2
  obtain ⟨a3, rfl, rfl, rfl, w3⟩ := open_int Try.underlying3 (hval 3 3 v3 rfl rfl) h3
  obtain ⟨a4, rfl, rfl, rfl, w4⟩ := open_int Try.underlying3 (hval 4 3 v4 rfl rfl) h4
  obtain ⟨a5, rfl, rfl, rfl⟩ := open_bool Try.underlying4 (hval 5 4 v5 rfl rfl) h5
  refine (sweepParts_c gq0 gn0 gc0 gF0 ge0 gl0 gm0 gw0 gv0 p1 q1 r1 s1 t1 u1 wp1 wq1 wr1 ws1 wt1 wu1 a2 (in64_of_wf w2) a3 (in64_of_wf w3) a4 (in64_of_wf w4) a5 W gi0).mono fun e W' ⟨he, hb⟩ => ?_
  subst he
  exact ⟨_, rfl, law_post laidOut (by kernel_rfl) rfl (by kernel_rfl) Try.underlying4 hW' rfl rfl rfl hb⟩

/-- The statement. -/
theorem sweepParts_proved : Rows.SweepPartsSaid :=
  OpenClaim.holds_of_wide 3 Try.f3 rfl rfl rfl rfl rfl rfl rfl ⟨rfl, rfl, rfl, rfl, rfl⟩ rfl rfl rfl rfl rfl (by kernel_rfl) Try.func3 (by kernel_rfl)
    (of_decide_eq_true (by kernel_rfl)) (by unfold Func.isWrapper; first | (rw [if_pos (by decide +kernel)]; kernel_rfl) | (rw [if_neg (by decide +kernel)]; exact ⟨rfl, rfl⟩))
    (fun os started H enc _ => sweepParts_lifted os started H enc)
end Go.Proofs.Ytckjpiioipkfcaa
