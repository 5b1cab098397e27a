/- BodyPushes holds: any two bodies. -/
import Derived.Test.YtnokibdecnddlaaMa11
import Derived.Test.YtnokibdecnddlaaMa8
import Derived.Test.YtnokibdecnddlaaMa9
namespace Go.Proofs.Ytnokibdecnddlaa
open Go.ChangeShapes Go.WideShapes Go.ChangeAt Go.RowKit
attribute [local go_sem] Oper.semAt_some

set_option maxRecDepth 100000 in
set_option maxHeartbeats 16000000 in
theorem bodyPushes_c (a : BD) (ha : Bd64 a) (b : BD) (hb : Bd64 b) (w : World) : Calls Try.prog 9 #[.agg (bd9 a), .agg (bd9 b)] w fun r w' => r = .returned (.bool true) ∧ Below w.heap.size w w' := by
  obtain ⟨i1, i2, i3, i4, i5, i6, i7, i8⟩ := ha
  have GA := fun W => rgood20_c a i1 i2 i3 i4 i5 i6 i7 i8 W
  clear i1 i2 i3 i4 i5 i6 i7 i8
  obtain ⟨i1, i2, i3, i4, i5, i6, i7, i8⟩ := hb
  have GB := fun W => rgood20_c b i1 i2 i3 i4 i5 i6 i7 i8 W
  clear i1 i2 i3 i4 i5 i6 i7 i8
  have oa := (goodB_ok a).mono (M' := 10000000) (by decide)
  have ob := (goodB_ok b).mono (M' := 10000000) (by decide)
  generalize goodB a = a' at GA oa
  generalize goodB b = b' at GB ob
  have PP := fun W => bpush_c a' b' oa ob W
  have RP := fun W => rpush_c a' b' oa ob W
  have sy := push_say oa ob (by decide) (by decide)
  have BA := fun W => rbbox_c a' (by have := oa.wd; omega) W
  have BB := fun W => rbbox_c b' (by have := ob.wd; omega) W
  have CO := fun W => rover_c (boxB a').1 (boxB a').2.1 (boxB a').2.2.1 (boxB a').2.2.2.1 (boxB a').2.2.2.2.1 (boxB a').2.2.2.2.2 (boxB b').1 (boxB b').2.1 (boxB b').2.2.1 (boxB b').2.2.2.1 (boxB b').2.2.2.2.1 (boxB b').2.2.2.2.2 W
  have fO : meetB (boxB a') (boxB b') = overI (boxB a').1 (boxB a').2.1 (boxB a').2.2.1 (boxB a').2.2.2.1 (boxB a').2.2.2.2.1 (boxB a').2.2.2.2.2 (boxB b').1 (boxB b').2.1 (boxB b').2.2.1 (boxB b').2.2.2.1 (boxB b').2.2.2.2.1 (boxB b').2.2.2.2.2 := by unfold meetB; rfl
  rw [← fO] at CO
  clear fO oa ob
  generalize meetB (boxB a') (boxB b') = pm at CO sy
  generalize pushV a' b' = pv at PP RP sy
  generalize boxB a' = X at *
  generalize boxB b' = Y at *
  obtain ⟨x, y, z, sx, sy_, sz, wd, ht, st⟩ := a
  obtain ⟨x1, y1, z1, sx1, sy1, sz1, wd1, ht1, st1⟩ := b
  obtain ⟨x2, y2, z2, sx2, sy2, sz2, wd2, ht2, st2⟩ := a'
  obtain ⟨x3, y3, z3, sx3, sy3, sz3, wd3, ht3, st3⟩ := b'
  obtain ⟨p1, p2, p3, p4, p5, p6⟩ := X
  obtain ⟨q1, q2, q3, q4, q5, q6⟩ := Y
  obtain ⟨⟨d1, d2, d3⟩, e1, e2, e3⟩ := pv
  simp only [bd9, ag6, vg3] at *
  have CA := fun W => raddv_c d1 d2 d3 e1 e2 e3 W
  have CZ := fun W => rsubv_c d1 d2 d3 d1 d2 d3 W
  obtain ⟨s1, s2, s3, s4, s5, s6⟩ := sy
  dsimp only at s1 s2 s3 s4 s5 s6
  have hs : ∀ n : Int, subI n n = 0 := fun n => by unfold subI cutI; omega
  rw [s2, s3, s4] at CA
  rw [hs, hs, hs] at CZ
  subst s1
  have hq : veqC d1 0 d3 0 0 0 = !pm := by
    cases pm
    · have := s5 rfl
      simp only [Prod.mk.injEq] at this
      obtain ⟨h1, -, h3⟩ := this
      rw [h1, h3]; rfl
    · cases e : veqC d1 0 d3 0 0 0
      · rfl
      · rw [veqC_iff] at e
        rcases s6 rfl with h | h
        · exact absurd e.1 h
        · exact absurd e.2.2 h
  clear s2 s3 s4 s5 s6 hs
  have D1 := Lib.hid GA
  have D2 := Lib.hid GB
  have D3 := Lib.hid PP
  have D4 := Lib.hid RP
  have D5 := Lib.hid BA
  have D6 := Lib.hid BB
  have D7 := Lib.hid CO
  have D8 := Lib.hid CA
  have D9 := Lib.hid CZ
  clear GA GB PP RP BA BB CO CA CZ
  obtain ⟨N, hN⟩ : ∃ N, N = w.heap.size := ⟨_, rfl⟩
  obtain ⟨W, hW⟩ : ∃ W, W = (w.alloc (.cells #[.int .i64 x, .int .i64 y, .int .i64 z, .int .i64 sx, .int .i64 sy_, .int .i64 sz, .int .i64 wd, .int .i64 ht, .bool st] 28)).alloc (.cells #[.int .i64 x1, .int .i64 y1, .int .i64 z1, .int .i64 sx1, .int .i64 sy1, .int .i64 sz1, .int .i64 wd1, .int .i64 ht1, .bool st1] 28) := ⟨_, rfl⟩
  have H : Below w.heap.size w W := by rw [hW]; go_grown
  have A : Blk W N 28 _ := Blk.eqw hW.symm ((Blk.new' hN).alloc _)
  have B : Blk W (N + 1) 28 _ := Blk.eqw hW.symm (Blk.new' (by rw [hN]; simp))
  go_enter Try.func9, Try.ntmps9
  go_upto_region 1 with (fail)
  rw [← hW, ← hN]
  clear hW hN
  obtain ⟨⟨b0, b1, b2, b3, b4, b5, b6, b7, b8⟩, -⟩ := A.c9
  go_upto_region 2 with (go_at_call 13; refine (D1.out _).mono ?_; rintro e_ w1 ⟨rfl, k1⟩)
  generalize hV : World.alloc w1 _ = W1
  have G1 : Blk W1 w1.heap.size 28 #[.int .i64 x2, .int .i64 y2, .int .i64 z2, .int .i64 sx2, .int .i64 sy2, .int .i64 sz2, .int .i64 wd2, .int .i64 ht2, .bool st2] := Blk.eqw hV (Blk.new' rfl)
  have hk : Below W.heap.size W W1 := by rw [← hV]; exact after k1 ((Below.refl _ _).alloc (Nat.le_refl _) _)
  replace B := B.on hk
  replace H := after H hk
  clear hV k1 hk b0 b1 b2 b3 b4 b5 b6 b7 b8 D1 A
  generalize w1.heap.size = ga at G1 ⊢
  obtain ⟨⟨b0, b1, b2, b3, b4, b5, b6, b7, b8⟩, -⟩ := B.c9
  go_upto_region 3 with (go_at_call 13; refine (D2.out _).mono ?_; rintro e_ w2 ⟨rfl, k2⟩)
  generalize hV : World.alloc w2 _ = W2
  have G2 : Blk W2 w2.heap.size 28 #[.int .i64 x3, .int .i64 y3, .int .i64 z3, .int .i64 sx3, .int .i64 sy3, .int .i64 sz3, .int .i64 wd3, .int .i64 ht3, .bool st3] := Blk.eqw hV (Blk.new' rfl)
  have hk : Below W1.heap.size W1 W2 := by rw [← hV]; exact after k2 ((Below.refl _ _).alloc (Nat.le_refl _) _)
  replace G1 := G1.on hk
  replace H := after H hk
  clear hV k2 hk b0 b1 b2 b3 b4 b5 b6 b7 b8 D2 B
  generalize w2.heap.size = gb at G2 ⊢
  obtain ⟨⟨b0, b1, b2, b3, b4, b5, b6, b7, b8⟩, -⟩ := G1.c9
  obtain ⟨⟨c0, c1, c2, c3, c4, c5, c6, c7, c8⟩, -⟩ := G2.c9
  go_upto_region 4 with (go_at_call 27; refine (D3.out _).mono ?_; rintro e_ w3 ⟨rfl, k3⟩)
  generalize hV : World.alloc (World.alloc w3 _) _ = W3
  have P1 : Blk W3 w3.heap.size 26 #[.int .i64 d1, .int .i64 0, .int .i64 d3] := Blk.eqw hV ((Blk.new' rfl).alloc _)
  have P2 : Blk W3 (w3.heap.size + 1) 26 #[.int .i64 e1, .int .i64 e2, .int .i64 e3] := Blk.eqw hV (Blk.new' (by simp))
  have hk : Below W2.heap.size W2 W3 := by rw [← hV]; exact after k3 (((Below.refl _ _).alloc (Nat.le_refl _) _).alloc (by simp) _)
  replace G1 := G1.on hk
  replace G2 := G2.on hk
  replace H := after H hk
  clear hV k3 hk b0 b1 b2 b3 b4 b5 b6 b7 b8 c0 c1 c2 c3 c4 c5 c6 c7 c8 D3
  generalize w3.heap.size = gp at P1 P2 ⊢
  obtain ⟨⟨b0, b1, b2, b3, b4, b5, b6, b7, b8⟩, -⟩ := G1.c9
  obtain ⟨⟨c0, c1, c2, c3, c4, c5, c6, c7, c8⟩, -⟩ := G2.c9
  go_upto_region 5 with (go_at_call 28; refine (D4.out _).mono ?_; rintro e_ w4 ⟨rfl, k3⟩)
  generalize hV : World.alloc (World.alloc w4 _) _ = W4
  have Q1 : Blk W4 w4.heap.size 26 #[.int .i64 d1, .int .i64 0, .int .i64 d3] := Blk.eqw hV ((Blk.new' rfl).alloc _)
  have Q2 : Blk W4 (w4.heap.size + 1) 26 #[.int .i64 e1, .int .i64 e2, .int .i64 e3] := Blk.eqw hV (Blk.new' (by simp))
  have hk : Below W3.heap.size W3 W4 := by rw [← hV]; exact after k3 (((Below.refl _ _).alloc (Nat.le_refl _) _).alloc (by simp) _)
  replace G1 := G1.on hk
  replace G2 := G2.on hk
  replace P1 := P1.on hk
  replace P2 := P2.on hk
  replace H := after H hk
  clear hV k3 hk b0 b1 b2 b3 b4 b5 b6 b7 b8 c0 c1 c2 c3 c4 c5 c6 c7 c8 D4
  generalize w4.heap.size = gq at Q1 Q2 ⊢
  obtain ⟨b0, b1, b2, -, -, -⟩ := P1.c3
  go_upto_region 6 with (go_at_call 29; refine (D9.out _).mono ?_; rintro e_ w5 ⟨rfl, k3⟩)
  generalize hV : World.alloc w5 _ = W5
  have Z : Blk W5 w5.heap.size 26 #[.int .i64 0, .int .i64 0, .int .i64 0] := Blk.eqw hV (Blk.new' rfl)
  have hk : Below W4.heap.size W4 W5 := by rw [← hV]; exact after k3 ((Below.refl _ _).alloc (Nat.le_refl _) _)
  replace G1 := G1.on hk
  replace G2 := G2.on hk
  replace P1 := P1.on hk
  replace P2 := P2.on hk
  replace Q1 := Q1.on hk
  replace Q2 := Q2.on hk
  have HH := Lib.hid (after H hk)
  clear hV k3 hk b0 b1 b2 D9 H
  generalize w5.heap.size = gz at Z ⊢
  have b0 := fun d os => (G1.re d os).cell 0
  have b1 := fun d os => (G1.re d os).cell 1
  have b2 := fun d os => (G1.re d os).cell 2
  have b3 := fun d os => (G1.re d os).cell 3
  have b4 := fun d os => (G1.re d os).cell 4
  have b5 := fun d os => (G1.re d os).cell 5
  have b6 := fun d os => (G1.re d os).cell 6
  have b7 := fun d os => (G1.re d os).cell 7
  have b8 := fun d os => (G1.re d os).cell 8
  have c0 := fun d os => (G2.re d os).cell 0
  have c1 := fun d os => (G2.re d os).cell 1
  have c2 := fun d os => (G2.re d os).cell 2
  have c3 := fun d os => (G2.re d os).cell 3
  have c4 := fun d os => (G2.re d os).cell 4
  have c5 := fun d os => (G2.re d os).cell 5
  have c6 := fun d os => (G2.re d os).cell 6
  have c7 := fun d os => (G2.re d os).cell 7
  have c8 := fun d os => (G2.re d os).cell 8
  simp only [List.getElem?_toArray, List.getElem?_cons_zero, List.getElem?_cons_succ] at b0 b1 b2 b3 b4 b5 b6 b7 b8 c0 c1 c2 c3 c4 c5 c6 c7 c8
  obtain ⟨u00, u01, u02⟩ := P1.re3
  obtain ⟨u10, u11, u12⟩ := P2.re3
  obtain ⟨u20, u21, u22⟩ := Q1.re3
  obtain ⟨u30, u31, u32⟩ := Q2.re3
  obtain ⟨u40, u41, u42⟩ := Z.re3
  clear G1 G2 P1 P2 Q1 Q2 Z
  have ve := vecC_eq
  have vg := vecC_guard
  have v1 := veqC_self d1 0 d3
  have v2 := veqC_self e1 e2 e3
  have v3 := veqC_self 0 0 0
  cases pm
  all_goals
    simp only [Bool.not_false, Bool.not_true] at hq
    refine wp_region_quiet_below (by kernel_rfl) (by kernel_rfl) ?_
    repeat (go_big_quiet_step (first | (with_reducible exact Calls.regrown_of (D8.out _)) | (with_reducible exact Calls.regrown_of (D5.out _)) | (with_reducible exact Calls.regrown_of (D6.out _)) | (with_reducible exact Calls.regrown_of (D7.out _)) | (with_reducible exact Calls.regrown_of (blives_c _))))
    refine wpQuiet_nil ?_
    intro w' hw'
    obtain ⟨rg, rfl⟩ := hw'
    clear b0 b1 b2 b3 b4 b5 b6 b7 b8 c0 c1 c2 c3 c4 c5 c6 c7 c8 u00 u01 u02 u10 u11 u12 u20 u21 u22 u30 u31 u32 u40 u41 u42
    go_wp2_with fail
    go_returns
    exact ⟨rfl, after HH.out (below_regrown _ _ _)⟩
set_option maxRecDepth 100000 in
theorem bodyPushes_lifted (os : Os) (started : os.Started) (H : Type) (enc : TypeId × Value → H) :
    ReturnsInHanded {} Try.checked os 9 .any (Rows.bodyPushesSpec.pre6 enc Try.prog Try.f9 Rows.bodyPushesRow.domain false) (Rows.bodyPushesSpec.post enc Try.prog Try.f9 false true false false) := by
  refine returnsInHanded_of_change (C := Try.checked) own started (by kernel_rfl) Try.func9
    (ChangeSpec.witness6 (enc := enc) (C := Try.checked) false ⟨#[], #[.agg #[.int .i64 0, .int .i64 0, .int .i64 0, .int .i64 0, .int .i64 0, .int .i64 0, .int .i64 0, .int .i64 0, .bool false], .agg #[.int .i64 0, .int .i64 0, .int .i64 0, .int .i64 0, .int .i64 0, .int .i64 0, .int .i64 0, .int .i64 0, .bool false]], []⟩ 8 (by kernel_rfl) (by kernel_rfl) (by kernel_rfl) (by kernel_rfl)) ?_
  intro W base args ds gs before hval0 hW hcnd hsz
  have hval : ∀ (j : Nat) t v, Try.f9.params[j]? = some t → args[j]? = some v → Value.okWide Try.prog W .any base t v := hval0
  have hW' := hW
  obtain ⟨p, q, hA0, hV, rfl, hfz, hnd⟩ := hW
  have hA : DataW.TrodAll enc Try.prog W 0 (fun _ => true) true Try.f9.params.toList args.toList ds p := hA0
  rw [Try.params9] at hA hval
  obtain ⟨v0, vs0, d0, ds0, p_0, q_0, hargs, rfl, rfl, h0, r_0⟩ := trodAll_cons hA
  obtain ⟨v1, vs1, d1, ds1, p_1, q_1, rfl, rfl, rfl, h1, r_1⟩ := trodAll_cons r_0
  obtain ⟨rfl, rfl, rfl⟩ := trodAll_nil r_1
  obtain rfl : args = #[v0, v1] := by cases args; simp_all
  obtain ⟨rfl, rfl⟩ := trodVars_none hV
  obtain ⟨b0, rfl, wb0⟩ := open_bd Try.underlying28 Try.underlying26 (by kernel_rfl) (by kernel_rfl) (by kernel_rfl) Try.underlying3 Try.underlying4 (hval 0 28 v0 rfl rfl) h0
  obtain ⟨b1, rfl, wb1⟩ := open_bd Try.underlying28 Try.underlying26 (by kernel_rfl) (by kernel_rfl) (by kernel_rfl) Try.underlying3 Try.underlying4 (hval 1 28 v1 rfl rfl) h1
  refine (bodyPushes_c b0 wb0 b1 wb1 W).mono fun e W' ⟨he, hb⟩ => ?_
  subst he
  exact ⟨_, rfl, law_post laidOut (by kernel_rfl) rfl (by kernel_rfl) Try.underlying4 hW' rfl rfl rfl hb⟩

/-- The statement. -/
theorem bodyPushes_proved : Rows.BodyPushesSaid :=
  OpenClaim.holds_of_wide 9 Try.f9 rfl rfl rfl rfl rfl rfl rfl ⟨rfl, rfl, rfl, rfl, rfl⟩ rfl rfl rfl rfl rfl (by kernel_rfl) Try.func9 (by kernel_rfl)
    (of_decide_eq_true (by kernel_rfl)) (by unfold Func.isWrapper; first | (rw [if_pos (by decide +kernel)]; kernel_rfl) | (rw [if_neg (by decide +kernel)]; exact ⟨rfl, rfl⟩))
    (fun os started H enc _ => bodyPushes_lifted os started H enc)
end Go.Proofs.Ytnokibdecnddlaa
