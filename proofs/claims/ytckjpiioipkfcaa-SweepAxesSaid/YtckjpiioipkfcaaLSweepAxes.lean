/- SweepAxes holds: any small world, any box, any axis, any way. -/
import Derived.Test.YtckjpiioipkfcaaNear2
import Derived.Test.YtckjpiioipkfcaaSmall
namespace Go.Proofs.Ytckjpiioipkfcaa
open Go.ChangeShapes Go.WideShapes Go.ChangeAt Go.RowKit Go.Shelf
attribute [local go_sem] Oper.semAt_some

theorem vfield0 (x y z : Int) (w : World) : (Instr.field 26 (.agg #[.int .i64 x, .int .i64 y, .int .i64 z]) 0).run Try.prog w = .ok (.int .i64 x) w := by
  simp [Instr.field, asAgg, go_sem, Try.underlying26]
theorem four_at {w : World} {g : Nat} {a b c d : Int} (h : Blk w g 3 #[.int .i64 a, .int .i64 b, .int .i64 c, .int .i64 d]) {i : Nat} (hi : i < 4) : ∃ e, w.cell? ⟨g, i, none⟩ = some (.int .i64 e) := by
  rcases (show i = 0 ∨ i = 1 ∨ i = 2 ∨ i = 3 by omega) with rfl | rfl | rfl | rfl
  · exact ⟨a, h.cell 0⟩
  · exact ⟨b, h.cell 1⟩
  · exact ⟨c, h.cell 2⟩
  · exact ⟨d, h.cell 3⟩
theorem two_at {w : World} {g : Nat} {a b : Int} (h : Blk w g 3 #[.int .i64 a, .int .i64 b]) {i : Nat} (hi : i < 2) : ∃ e, w.cell? ⟨g, i, none⟩ = some (.int .i64 e) := by
  rcases (show i = 0 ∨ i = 1 by omega) with rfl | rfl
  · exact ⟨a, h.cell 0⟩
  · exact ⟨b, h.cell 1⟩
theorem nextk {i : Nat} (h : i < 4) : (0 : Int) ≤ i ∧ (i : Int) < 4 ∧ -9223372036854775808 ≤ (i : Int) + 1 ∧ (i : Int) + 1 ≤ 9223372036854775807 := by omega
theorem nextk2 {i : Nat} (h : i < 2) : (0 : Int) ≤ i ∧ (i : Int) < 2 ∧ -9223372036854775808 ≤ (i : Int) + 1 ∧ (i : Int) + 1 ≤ 9223372036854775807 := by omega
set_option maxRecDepth 100000 in
set_option maxHeartbeats 8000000 in
theorem sweepAxes_c (q : Option Addr) (n c : Nat) (F : Nat → Int) (els : Int) (_ : n ≤ c) (hm : c ≤ maxLen) (hF : ∀ i, i < n → In64 (F i)) (he : In64 els) (pa pb pc pd pe pf : Int) (ha : In64 pa) (hb : In64 pb) (hc : In64 pc) (hd : In64 pd) (hee : In64 pe) (hf : In64 pf) (axis : Int) (hax : In64 axis) (dd : Int) (hdd : In64 dd) (w : World) (hq : Iq w q n F) :
    Calls Try.prog 4 #[.agg #[.slice q n c, .int .i64 els], .agg #[.int .i64 pa, .int .i64 pb, .int .i64 pc, .int .i64 pd, .int .i64 pe, .int .i64 pf], .int .i64 axis, .int .i64 dd] w fun e w' => e = .returned (.bool true) ∧ Below w.heap.size w w' := by
  have HGd := Lib.hid (fun W (h : Below w.heap.size w W) => rgood13_c q n c F els hm W (hq.on h) hF he)
  have HNr := Lib.hid (fun halves W => nearx_c pa pb pc pd pe pf halves ha hb hc hd hee hf W)
  have HWy := Lib.hid (fun (n : Int) (hn : In64 n) W => way_c n 0 0 hn ⟨by decide, by decide⟩ ⟨by decide, by decide⟩ W)
  have HDD := Lib.hid (And.intro hax hdd)
  obtain ⟨wm1, wm2⟩ := wayI_bd axis
  clear hm hF he ha hb hc hd hee hf hq hax hdd
  obtain ⟨W0, hW0⟩ : ∃ W0, W0 = (w.alloc (.cells #[.slice q n c, .int .i64 els] 24)).alloc (.cells #[.int .i64 pa, .int .i64 pb, .int .i64 pc, .int .i64 pd, .int .i64 pe, .int .i64 pf] 28) := ⟨_, rfl⟩
  have A0 : Blk W0 w.heap.size 24 #[.slice q n c, .int .i64 els] := by rw [hW0]; exact (Blk.new' rfl).alloc _
  have B0 : Blk W0 (w.heap.size + 1) 28 #[.int .i64 pa, .int .i64 pb, .int .i64 pc, .int .i64 pd, .int .i64 pe, .int .i64 pf] := by rw [hW0]; exact Blk.new' (by simp)
  have H0 : Below w.heap.size w W0 := by rw [hW0]; go_grown
  have hfd := vfield0
  go_enter Try.func4, Try.ntmps4
  go_upto_region 1 with (fail)
  rw [← hW0]
  clear hW0
  have a0 := A0.cell 0
  have a1 := A0.cell 1
  go_upto_region 2 with (go_at_call 9; refine (HGd.out _ H0).mono ?_; rintro e_ w1 ⟨q2, c2, rfl, R, k1, k2, h1⟩)
  generalize hV : World.alloc w1 _ = W1
  have G : Blk W1 w1.heap.size _ _ := Blk.eqw hV (Blk.new' rfl)
  have h2 : Below w1.heap.size w1 W1 := by rw [← hV]; exact (Below.refl _ _).alloc (Nat.le_refl _) _
  have I := iq_of_rd (R.on h2)
  rw [show (goodL n F).length = min n 216 by simp [goodL]] at I
  replace B0 := (B0.on h1).on h2
  replace H0 := after (after H0 h1) h2
  clear hV h1 h2 k1 k2 R a0 a1 A0
  generalize min n 216 = m at G I ⊢
  generalize w1.heap.size = g at G ⊢
  generalize (fun i => (goodL n F).getD i 0) = F2 at I
  generalize arI els 3 - 1 = els2 at G ⊢
  have g0 := G.cell 0
  have g1 := G.cell 1
  go_upto_region 3 with (go_at_call 10; refine (view_c _ _ _).mono ?_; rintro e_ w2 ⟨rfl, rfl⟩)
  generalize hV : World.alloc W1 _ = W2
  have V2 : Blk W2 W1.heap.size _ _ := Blk.eqw hV (Blk.new' rfl)
  have h2 : Below W1.heap.size W1 W2 := by rw [← hV]; exact (Below.refl _ _).alloc (Nat.le_refl _) _
  replace I := I.on h2
  replace G := G.on h2
  replace B0 := B0.on h2
  replace H0 := after H0 h2
  have T0 := view_tells V2 I
  clear hV h2 V2 g0 g1
  generalize W1.heap.size = g2 at T0 ⊢
  obtain ⟨b0, b1, b2, b3, b4, b5⟩ := B0.c6.1
  go_upto_region 4 with (go_at_call 11; refine (HNr.out _ _).mono ?_; rintro e_ w3 ⟨⟨a, b, c', d, e, f⟩, rfl, hsm, h3⟩)
  simp only [ag6]
  generalize hV : World.alloc w3 _ = W3
  have X : Blk W3 w3.heap.size _ _ := Blk.eqw hV (Blk.new' rfl)
  have h2 : Below w3.heap.size w3 W3 := by rw [← hV]; exact (Below.refl _ _).alloc (Nat.le_refl _) _
  replace I := (I.on h3).on h2
  replace G := (G.on h3).on h2
  replace H0 := after (after H0 h3) h2
  replace T0 := (T0.on h3).on h2
  clear hV h2 h3 b0 b1 b2 b3 b4 b5 B0
  generalize w3.heap.size = gx at X ⊢
  have HSM := Lib.hid hsm
  have hP : ∀ ax k W, Below W3.heap.size W3 W → Calls Try.prog 13 #[.func (.func 30) #[] #[.pointer (some ⟨g2, 0, none⟩)], .agg #[.int .i64 a, .int .i64 b, .int .i64 c', .int .i64 d, .int .i64 e, .int .i64 f], .int .i64 ax, .int .i64 k] W fun r w' => r = .returned (.tuple #[.int .i64 (axisV (fun x => atG m F2 els2 x.1 x.2.1 x.2.2) a b c' d e f ax k).1, .bool (axisV (fun x => atG m F2 els2 x.1 x.2.1 x.2.2) a b c' d e f ax k).2]) ∧ Below W.heap.size W w' :=
    fun ax k W h => saxis_c 30 _ _ a b c' d e f ax k 600000 (by omega) (by omega) HSM.out W view_en (T0.on h)
  have hR : ∀ ax k W, Below W3.heap.size W3 W → Calls Try.prog 18 #[.agg #[.slice q2 m c2, .int .i64 els2], .agg #[.int .i64 a, .int .i64 b, .int .i64 c', .int .i64 d, .int .i64 e, .int .i64 f], .int .i64 ax, .int .i64 k] W fun r w' => r = .returned (.tuple #[.int .i64 (axisV (fun x => atG m F2 els2 x.1 x.2.1 x.2.2) a b c' d e f ax k).1, .bool (axisV (fun x => atG m F2 els2 x.1 x.2.1 x.2.2) a b c' d e f ax k).2]) ∧ Below W.heap.size W w' :=
    fun ax k W h => rsaxis_c q2 m c2 F2 els2 a b c' d e f ax k 600000 (by omega) (by omega) HSM.out W (I.on h)
  have hD : ∀ mo, -1000000000 ≤ mo → mo ≤ 1000000000 → ∀ W, Below W3.heap.size W3 W → Calls Try.prog 19 #[.func (.func 30) #[] #[.pointer (some ⟨g2, 0, none⟩)], .agg #[.int .i64 a, .int .i64 b, .int .i64 c', .int .i64 d, .int .i64 e, .int .i64 f], .int .i64 mo] W fun r w' => r = .returned (.int .i64 (-(axisV (fun x => atG m F2 els2 x.1 x.2.1 x.2.2) a b c' d e f 1 (-mxI mo 0)).1)) ∧ Below W.heap.size W w' :=
    fun mo h1 h2 W h => drop_c 30 _ _ a b c' d e f mo 600000 (by omega) (by omega) HSM.out h1 h2 W view_en (T0.on h)
  have hfar := fun ax k => axisV_far (fun x => atG m F2 els2 x.1 x.2.1 x.2.2) a b c' d e f ax k
  generalize axisV (fun x => atG m F2 els2 x.1 x.2.1 x.2.2) a b c' d e f = axv at hP hR hD hfar
  have HP := Lib.hid hP
  have HR := Lib.hid hR
  have HD := Lib.hid hD
  have HFAR := Lib.hid hfar
  have H3 := Lib.hid H0
  clear hP hR hD hfar I T0 HGd HNr hsm H0
  go_upto_region 5 with (fail)
  generalize hV : World.alloc W3 _ = W4
  have S : Blk W4 W3.heap.size 3 #[.int .i64 axis, .int .i64 0, .int .i64 1, .int .i64 2] := Blk.eqw hV (Blk.new' rfl)
  have K : Below W3.heap.size W3 W4 := by rw [← hV]; exact (Below.refl _ _).alloc (Nat.le_refl _) _
  replace G := G.on K
  replace X := X.on K
  clear hV
  generalize W3.heap.size = gs at S ⊢
  go_upto_region 6 with (fail)
  go_loopw [13] (fun iv wr => ∃ (i : Nat), iv = .int .i64 (i : Nat) ∧ Hid (i ≤ 4) ∧ Blk wr g 24 #[.slice q2 m c2, .int .i64 els2] ∧ Blk wr gx 28 #[.int .i64 a, .int .i64 b, .int .i64 c', .int .i64 d, .int .i64 e, .int .i64 f] ∧ Blk wr gs 3 #[.int .i64 axis, .int .i64 0, .int .i64 1, .int .i64 2] ∧ Hid (Below W3.heap.size W3 wr)) (fun v _ => 4 - (intOf v).toNat)
  case atStart => exact ⟨0, rfl, Lib.hid (by decide), G, X, S, K⟩
  case round =>
    clear G X S K
    obtain ⟨i, rfl, hi, G, X, S, K⟩ := hrel
    by_cases hlt : i < 4
    · obtain ⟨n1, n2, n3, n4⟩ := nextk hlt
      have hy := HWy.out dd HDD.out.2
      go_upto_region 9 with (go_at_call 17; refine (hy _).mono ?_; rintro e_ w5 ⟨rfl, h5⟩)
      generalize hV : World.alloc w5 _ = W5
      have D : Blk W5 w5.heap.size 3 #[.int .i64 dd, .int .i64 (wayI dd)] := Blk.eqw hV (Blk.new' rfl)
      have h6 : Below w5.heap.size w5 W5 := by rw [← hV]; exact (Below.refl _ _).alloc (Nat.le_refl _) _
      replace G := (G.on h5).on h6
      replace X := (X.on h5).on h6
      replace S := (S.on h5).on h6
      have K2 := after (after K.out h5) h6
      clear hV h5 h6 K hy
      generalize w5.heap.size = gd at D ⊢
      have HN4 := Lib.hid (And.intro n3 n4)
      go_upto_region 10 with (fail)
      go_loopw [15] (fun kv wr => ∃ (k : Nat), kv = .int .i64 (k : Nat) ∧ Hid (k ≤ 2) ∧ Blk wr g 24 #[.slice q2 m c2, .int .i64 els2] ∧ Blk wr gx 28 #[.int .i64 a, .int .i64 b, .int .i64 c', .int .i64 d, .int .i64 e, .int .i64 f] ∧ Blk wr gs 3 #[.int .i64 axis, .int .i64 0, .int .i64 1, .int .i64 2] ∧ Blk wr gd 3 #[.int .i64 dd, .int .i64 (wayI dd)] ∧ Hid (Below W3.heap.size W3 wr)) (fun v _ => 2 - (intOf v).toNat)
      case atStart => exact ⟨0, rfl, Lib.hid (by decide), G, X, S, D, K2⟩
      case round =>
        clear G X S D K2
        obtain ⟨k, rfl, hk, G, X, S, D, K⟩ := hrel
        by_cases hlk : k < 2
        · obtain ⟨m1, m2, m3, m4⟩ := nextk2 hlk
          obtain ⟨ei, hei⟩ := four_at S hlt
          obtain ⟨dk, hdk⟩ := two_at D hlk
          have hP := fun x y => HP.out ei dk (Go.Sort.grow (redrawn _ x) y) (after K.out (below_regrown _ x y))
          have PP := Lib.hid hP
          clear hP
          have ce := fun x y => cell_regrown hei x y
          have cd := fun x y => cell_regrown hdk x y
          obtain ⟨x0, x1, x2, x3, x4, x5⟩ := X.re6
          go_upto_region 12 with (fail)
          refine wp_sched [0, 0, 0, 0, 0, 0, 0, 0, 0, 0, 0, 0, 0, 0, 0, 0] (fun _ _ _ => True) (by kernel_rfl) (by kernel_rfl) (fun _ _ _ _ h _ => h) ?_
          repeat (first | (refine wpQs_s ?_) | (refine wpQs_q (fun K hK => ?_); go_simp; first | (refine hK _ ?_; clear hK K) | (apply Exists.intro; refine ⟨fun _ => ?_, hK _ ?_⟩; (exact PP.out _ _); clear hK K)) | (refine wpQs_f (fun K hK => ?_); go_simp; refine hK _ ?_; clear hK K))
          refine wpQs_nil ?_
          repeat (first | (refine wpLs_skip ?_) | (refine wpLs_one ?lsA (fun v_ => ?_); case lsA => (intro w_ hw_ hp_; (fail))))
          refine wpLs_nilB ?_
          simp only [tails]
          intro W7 h7 _
          clear x0 x1 x2 x3 x4 x5 ce cd
          replace G := G.on h7
          replace X := X.on h7
          replace S := S.on h7
          replace D := D.on h7
          have K7 := after K.out h7
          have ce := fun x y => cell_regrown (show W7.cell? _ = some (.int .i64 ei) from (cell_below h7 (cell_lt hei)).trans hei) x y
          have cd := fun x y => cell_regrown (show W7.cell? _ = some (.int .i64 dk) from (cell_below h7 (cell_lt hdk)).trans hdk) x y
          have hR := fun x y => HR.out ei dk (Go.Sort.grow (redrawn W7 x) y) (after K7 (below_regrown _ x y))
          have RR := Lib.hid hR
          clear hR hei hdk
          obtain ⟨x0, x1, x2, x3, x4, x5⟩ := X.re6
          have g0 := fun x y => (G.re x y).cell 0
          have g1 := fun x y => (G.re x y).cell 1
          go_upto_region 13 with (fail)
          refine wp_sched [0, 0, 0, 0, 0, 0, 0, 0, 0, 0, 0, 0, 0, 0, 0, 0] (fun _ _ _ => True) (by kernel_rfl) (by kernel_rfl) (fun _ _ _ _ h _ => h) ?_
          repeat (first | (refine wpQs_s ?_) | (refine wpQs_q (fun K hK => ?_); go_simp; first | (refine hK _ ?_; clear hK K) | (apply Exists.intro; refine ⟨fun _ => ?_, hK _ ?_⟩; (exact RR.out _ _); clear hK K)) | (refine wpQs_f (fun K hK => ?_); go_simp; refine hK _ ?_; clear hK K))
          refine wpQs_nil ?_
          repeat (first | (refine wpLs_skip ?_) | (refine wpLs_one ?lsA (fun v_ => ?_); case lsA => (intro w_ hw_ hp_; (fail))))
          refine wpLs_nilB ?_
          simp only [tails]
          intro W8 h8 _
          clear x0 x1 x2 x3 x4 x5 ce cd g0 g1
          go_wp2_with fail
          go_roundw
          case rel => exact ⟨k + 1, rfl, hlk, G.on h8, X.on h8, S.on h8, D.on h8, after K7 h8⟩
          case measure => simp [intOf]; omega
        · have hlk' : ¬ (k : Int) < 2 := by omega
          obtain ⟨n3, n4⟩ := HN4.out
          go_wp2_with fail
          go_roundw
          case rel => exact ⟨i + 1, rfl, hlt, G, X, S, K⟩
          case measure => simp [intOf]; omega
    · have hlt' : ¬ (i : Int) < 4 := by omega
      have hy := HWy.out axis HDD.out.1
      go_upto_region 17 with (go_at_call 17; refine (hy _).mono ?_; rintro e_ w5 ⟨rfl, h5⟩)
      replace G := G.on h5
      replace X := X.on h5
      have K2 := after K.out h5
      clear hy h5 K S
      generalize wayI axis = mo at wm1 wm2 ⊢
      have hm1 : -9223372036854775808 ≤ -mxI mo 0 := by unfold mxI; omega
      have hm2 : -mxI mo 0 ≤ 9223372036854775807 := by unfold mxI; omega
      have hdr := fun W h => HD.out mo (by omega) (by omega) W h
      have HDR := Lib.hid hdr
      have hmx := @run_mx Try.prog
      obtain ⟨f1, f2⟩ := HFAR.out 1 (-mxI mo 0)
      have hrr := Lib.hid fun W h => HR.out 1 (-mxI mo 0) W h
      have hrf : ∀ W, Below W3.heap.size W3 W → Calls Try.prog 18 _ W _ := fun W h => hrr.out W h
      clear hdr
      generalize axv 1 (-mxI mo 0) = rr at HDR hrf f1 f2
      obtain ⟨nn, hh⟩ := rr
      dsimp only at HDR hrf f1 f2
      have HRF := Lib.hid hrf
      have f3 : -9223372036854775808 ≤ -nn := by omega
      have f4 : -nn ≤ 9223372036854775807 := by omega
      clear hrf hrr
      obtain ⟨x0, x1, x2, x3, x4, x5⟩ := X.c6.1
      have g0 := G.cell 0
      have g1 := G.cell 1
      go_upto_region 18 with (go_at_call 18; refine (HRF.out _ K2).mono ?_; rintro e_ w6 ⟨rfl, h6⟩)
      replace X := X.on h6
      have K3 := after K2 h6
      clear x0 x1 x2 x3 x4 x5 g0 g1 h6
      obtain ⟨x0, x1, x2, x3, x4, x5⟩ := X.c6.1
      go_wp2_with first
        | (go_at_call 19; refine (HDR.out _ K3).mono ?_; rintro e_ w7 ⟨rfl, h7⟩)
        | (go_at_call 14; refine (slives_c _).mono ?_; rintro e_ w8 ⟨rfl, h8⟩)
      go_returns
      exact ⟨rfl, after (after (after H3.out K3) h7) h8⟩

set_option maxRecDepth 100000 in
theorem sweepAxes_lifted (os : Os) (started : os.Started) (H : Type) (enc : TypeId × Value → H) :
    ReturnsInHanded {} Try.checked os 4 .any (Rows.sweepAxesSpec.pre6 enc Try.prog Try.f4 Rows.sweepAxesRow.domain false) (Rows.sweepAxesSpec.post enc Try.prog Try.f4 false true false false) := by
  refine returnsInHanded_of_change (C := Try.checked) own started (by kernel_rfl) Try.func4
    (ChangeSpec.witness6 (enc := enc) (C := Try.checked) false ⟨#[], #[.agg #[.slice none 0 0, .int .i64 0], .agg #[.int .i64 0, .int .i64 0, .int .i64 0, .int .i64 0, .int .i64 0, .int .i64 0], .int .i64 0, .int .i64 0], []⟩ 8 (by kernel_rfl) (by kernel_rfl) (by kernel_rfl) (by kernel_rfl)) ?_
  intro W base args ds gs before hval0 hW hcnd hsz
  have hval : ∀ (j : Nat) t v, Try.f4.params[j]? = some t → args[j]? = some v → Value.okWide Try.prog W .any base t v := hval0
  have hW' := hW
  obtain ⟨p, q, hA0, hV, rfl, hfz, hnd⟩ := hW
  have hA : DataW.TrodAll enc Try.prog W 0 (fun _ => true) true Try.f4.params.toList args.toList ds p := hA0
  rw [Try.params4] at hA hval
  obtain ⟨v0, vs0, d0, ds0, p_0, q_0, hargs, rfl, rfl, h0, r_0⟩ := trodAll_cons hA
  obtain ⟨v1, vs1, d1, ds1, p_1, q_1, rfl, rfl, rfl, h1, r_1⟩ := trodAll_cons r_0
  obtain ⟨v2, vs2, d2, ds2, p_2, q_2, rfl, rfl, rfl, h2, r_2⟩ := trodAll_cons r_1
  obtain ⟨v3, vs3, d3, ds3, p_3, q_3, rfl, rfl, rfl, h3, r_3⟩ := trodAll_cons r_2
  obtain ⟨rfl, rfl, rfl⟩ := trodAll_nil r_3
  obtain rfl : args = #[v0, v1, v2, v3] := by cases args; simp_all
  obtain ⟨rfl, rfl⟩ := trodVars_none hV
  obtain ⟨gq0, gn0, gc0, gF0, ge0, rfl, gl0, gm0, gi0, gw0, gv0⟩ := open_world Try.underlying24 Try.underlying22 (by kernel_rfl) (by kernel_rfl) Try.underlying3 (hval 0 24 v0 rfl rfl) h0
  obtain ⟨p1, q1, r1, s1, t1, u1, rfl, wp1, wq1, wr1, ws1, wt1, wu1⟩ := open_box Try.underlying28 Try.underlying26 (by kernel_rfl) (by kernel_rfl) (by kernel_rfl) Try.underlying3 (hval 1 28 v1 rfl rfl) h1
  obtain ⟨a2, rfl, rfl, rfl, w2⟩ := open_int Try.underlying3 (hval 2 3 v2 rfl rfl) h2
  obtain ⟨a3, rfl, rfl, rfl, w3⟩ := open_int Try.underlying3 (hval 3 3 v3 rfl rfl) h3
  refine (sweepAxes_c gq0 gn0 gc0 gF0 ge0 gl0 gm0 gw0 gv0 p1 q1 r1 s1 t1 u1 wp1 wq1 wr1 ws1 wt1 wu1 a2 (in64_of_wf w2) a3 (in64_of_wf w3) W gi0).mono fun e W' ⟨he, hb⟩ => ?_
  subst he
  exact ⟨_, rfl, law_post laidOut (by kernel_rfl) rfl (by kernel_rfl) Try.underlying4 hW' rfl rfl rfl hb⟩

/-- The statement. -/
theorem sweepAxes_proved : Rows.SweepAxesSaid :=
  OpenClaim.holds_of_wide 4 Try.f4 rfl rfl rfl rfl rfl rfl rfl ⟨rfl, rfl, rfl, rfl, rfl⟩ rfl rfl rfl rfl rfl (by kernel_rfl) Try.func4 (by kernel_rfl)
    (of_decide_eq_true (by kernel_rfl)) (by unfold Func.isWrapper; first | (rw [if_pos (by decide +kernel)]; kernel_rfl) | (rw [if_neg (by decide +kernel)]; exact ⟨rfl, rfl⟩))
    (fun os started H enc _ => sweepAxes_lifted os started H enc)
end Go.Proofs.Ytckjpiioipkfcaa
