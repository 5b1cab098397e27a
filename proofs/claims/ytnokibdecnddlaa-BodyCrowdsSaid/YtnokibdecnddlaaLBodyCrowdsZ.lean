/- BodyCrowds holds: any small world, any bodies, any move. -/
import Derived.Test.YtnokibdecnddlaaMa12
import Derived.Test.YtnokibdecnddlaaMa8
import Derived.Test.YtnokibdecnddlaaMa10
namespace Go.Proofs.Ytnokibdecnddlaa
open Go.ChangeShapes Go.WideShapes Go.ChangeAt Go.RowKit Go.Shelf
attribute [local go_sem] Oper.semAt_some

theorem bdB_neq (x y z sx sy sz wd ht : Int) (st : Bool) (w : World) : (binOp .neq 28 (.agg #[.int .i64 x, .int .i64 y, .int .i64 z, .int .i64 sx, .int .i64 sy, .int .i64 sz, .int .i64 wd, .int .i64 ht, .bool st]) (.agg #[.int .i64 x, .int .i64 y, .int .i64 z, .int .i64 sx, .int .i64 sy, .int .i64 sz, .int .i64 wd, .int .i64 ht, .bool st])).run Try.prog w = .ok (.bool false) w := by
  rw [run_neq_struct]
  simp [go_sem]
theorem bdB_guard : Try.prog.eqGuardType Try.prog.depth 28 = false := by kernel_rfl
theorem bdD_neq (x y z sx sy sz wd ht : Int) (st : Bool) (w : World) : (binOp .neq 35 (.agg #[.int .i64 x, .int .i64 y, .int .i64 z, .int .i64 sx, .int .i64 sy, .int .i64 sz, .int .i64 wd, .int .i64 ht, .bool st]) (.agg #[.int .i64 x, .int .i64 y, .int .i64 z, .int .i64 sx, .int .i64 sy, .int .i64 sz, .int .i64 wd, .int .i64 ht, .bool st])).run Try.prog w = .ok (.bool false) w := by
  rw [run_neq_struct]
  simp [go_sem]
theorem bdD_guard : Try.prog.eqGuardType Try.prog.depth 35 = false := by kernel_rfl
theorem TwoR.row1 {w : World} {K : Nat} {t1 t2 : TypeId} {q : Option Addr} {n c : Nat} {v2 : Value} {l1 l2 : List BD} (h : TwoR w K t1 t2 (.slice q n c) v2 l1 l2) (hl : 0 < l1.length) : ∃ g, q = some ⟨g, 0, none⟩ ∧ Rwb w g t1 l1 := by
  obtain ⟨q', c', e0, -, -, e2⟩ := BRow.of h.1
  obtain ⟨g, e1, -, R⟩ := e2 hl
  injection e0 with e3
  exact ⟨g, e3.trans e1, R⟩
theorem TwoR.step {w w5 : World} {K : Nat} {t1 t2 : TypeId} {v1 v2 : Value} {l1 l2 : List BD} {P : Program} {ts ty : TypeId} {z : Value} {x : BD} {cs : Array Value} (h : TwoR w K t1 t2 v1 v2 l1 l2) (ht : P.underlying ts = some (.slice t1)) (hi : (P.info? t1).map (fun i => (i.zero, i.size, i.bytes)) = some (some z, 9, 72)) (hz : z.cells.size = 9)
    (hx : cs.toList = enBd x) (h47 : l1.length ≤ 1000) (hbase : K ≤ w.heap.size) (k : Below w.heap.size w w5) :
    ∃ W6 g cap, (Builtin.append_ #[ts, ts] ty #[v1, .slice (some ⟨w5.heap.size, 0, none⟩) 1 1]).run P (w5.alloc (.cells cs t1)) = .ok (.slice (some ⟨g, 0, none⟩) (l1.length + 1) cap) W6 ∧ TwoR W6 K t1 t2 (.slice (some ⟨g, 0, none⟩) (l1.length + 1) cap) v2 (l1 ++ [x]) l2 ∧ Below K w W6 ∧ Rwb W6 g t1 (l1 ++ [x]) ∧ l1.length + 1 ≤ cap := by
  have hA : Below w5.heap.size w5 (w5.alloc (.cells cs t1)) := (Below.refl _ _).alloc (Nat.le_refl _) _
  have hB : Blk (w5.alloc (.cells cs t1)) w5.heap.size t1 cs := Blk.new' rfl
  have kA := after k hA
  obtain ⟨v', w', h1, h2, h3, g, cap, rfl⟩ := (h.on kA).push (P := P) (ty := ty) (x := x) (b := w5.heap.size) ht hi hz (fun j u hu => by rw [hB.cell j, ← hu, ← hx, Array.getElem?_toList]) h47 (Nat.le_trans hbase kA.size)
  obtain ⟨qq, cc, e0, e1, -, e2⟩ := BRow.of h2.1
  obtain ⟨gg, e3, -, R⟩ := e2 (by simp)
  injection e0 with e4 e5 e6
  rw [← e4] at e3
  injection e3 with e3
  injection e3 with e3
  subst e3
  rw [List.length_append, ← e6] at e1
  exact ⟨w', g, cap, h1, h2, (kA.mono hbase).trans h3, R, e1⟩
set_option maxRecDepth 100000 in
set_option maxHeartbeats 16000000 in
theorem bodyCrowds_c (q : Option Addr) (n c : Nat) (F : Nat → Int) (els : Int) (_ : n ≤ c) (hm : c ≤ maxLen) (hF : ∀ i, i < n → In64 (F i)) (he : In64 els) (ql : Option Addr) (nl cl : Nat) (FL : Nat → BD) (hnl : nl ≤ cl) (hml : cl ≤ maxLen) (vx vy vz : Int) (_ : In64 vx) (_ : In64 vy) (_ : In64 vz) (w : World) (hq : Iq w q n F) (hql : Rws 9 enBd w ql nl FL) (hFL : ∀ i, i < nl → Bd64 (FL i)) :
    Calls Try.prog 10 #[.agg #[.slice q n c, .int .i64 els], .slice ql nl cl, .agg #[.int .i64 vx, .int .i64 vy, .int .i64 vz]] w fun r w' => r = .returned (.bool true) ∧ Below w.heap.size w w' := by
  have HM := Lib.hid (And.intro hnl hml)
  have HQ := Lib.hid hql
  have HG0 := Lib.hid (fun i (hi : i < nl) W => (by obtain ⟨i1, i2, i3, i4, i5, i6, i7, i8⟩ := hFL i hi; exact rgood20_c (FL i) i1 i2 i3 i4 i5 i6 i7 i8 W))
  have HGd := Lib.hid (fun W (h : Below w.heap.size w W) => rgood13_c q n c F els hm W (hq.on h) hF he)
  clear hnl hml hql hm hF he hq hFL
  obtain ⟨N, hN⟩ : ∃ N, N = w.heap.size := ⟨_, rfl⟩
  obtain ⟨W, hW⟩ : ∃ W, W = (w.alloc (.cells #[.slice q n c, .int .i64 els] 24)).alloc (.cells #[.int .i64 vx, .int .i64 vy, .int .i64 vz] 26) := ⟨_, rfl⟩
  have H : Below w.heap.size w W := by rw [hW]; go_grown
  have A : Blk W N 24 _ := Blk.eqw hW.symm ((Blk.new' hN).alloc _)
  have B : Blk W (N + 1) 26 _ := Blk.eqw hW.symm (Blk.new' (by rw [hN]; simp))
  go_enter Try.func10, Try.ntmps10
  go_upto_region 1 with (fail)
  rw [← hW, ← hN]
  have HN := Lib.hid hN
  clear hW hN
  have a0 := A.cell 0
  have a1 := A.cell 1
  simp only [List.getElem?_toArray, List.getElem?_cons_zero, List.getElem?_cons_succ] at a0 a1
  go_upto_region 2 with (go_at_call 11; refine (HGd.out _ H).mono ?_; rintro e_ w1 ⟨q2, c2, rfl, R, k1, k2, h1⟩)
  generalize hV : World.alloc w1 _ = W1
  have G : Blk W1 w1.heap.size _ _ := Blk.eqw hV (Blk.new' rfl)
  have h2 : Below w1.heap.size w1 W1 := by rw [← hV]; exact (Below.refl _ _).alloc (Nat.le_refl _) _
  have I := iq_of_rd (R.on h2)
  rw [show (goodL n F).length = min n 216 by simp [goodL]] at I
  replace B := (B.on h1).on h2
  replace H := after (after H h1) h2
  clear hV h1 h2 k1 k2 R a0 a1 A HGd
  generalize min n 216 = m at G I ⊢
  generalize w1.heap.size = g at G ⊢
  generalize (fun i => (goodL n F).getD i 0) = F2 at I
  generalize arI els 3 - 1 = els2 at G ⊢
  have g0 := G.cell 0
  have g1 := G.cell 1
  simp only [List.getElem?_toArray, List.getElem?_cons_zero, List.getElem?_cons_succ] at g0 g1
  go_upto_region 3 with (go_at_call 12; refine (view_c _ _ _).mono ?_; rintro e_ w2 ⟨rfl, rfl⟩)
  generalize hV : World.alloc W1 _ = W2
  have T0 := view_tells (Blk.eqw hV (Blk.new' rfl)) (I.on (by rw [← hV]; exact (Below.refl _ _).alloc (Nat.le_refl _) _))
  have h2 : Below W1.heap.size W1 W2 := by rw [← hV]; exact (Below.refl _ _).alloc (Nat.le_refl _) _
  replace I := I.on h2
  replace G := G.on h2
  replace B := B.on h2
  have H2 := Lib.hid (after H h2)
  have HIT := Lib.hid (And.intro I (And.intro G T0))
  have HBV := Lib.hid B
  clear hV h2 g0 g1 I G T0 H B
  generalize W1.heap.size = g2 at HIT ⊢
  obtain ⟨val, hval⟩ : ∃ val : Cl → Int, val = fun x => atG m F2 els2 x.1 x.2.1 x.2.2 := ⟨_, rfl⟩
  have HVAL := Lib.hid hval
  have HIT2 := Lib.hid HIT.out.2.2
  rw [← hval] at HIT2
  clear hval
  have hbk := fun (b : BD) (M : Int) (h : BOk M b) (hM0 : 0 ≤ M) (hM : M ≤ 70000000000000) W (hw : Below W2.heap.size W2 W) => rfBlocked_c q2 m c2 F2 els2 (boxB b).1 (boxB b).2.1 (boxB b).2.2.1 (boxB b).2.2.2.1 (boxB b).2.2.2.2.1 (boxB b).2.2.2.2.2 ((h.box (by omega)).1.box (by omega) (by omega)).1 ((h.box (by omega)).1.box (by omega) (by omega)).2 W (HIT.out.1.on hw)
  have hbv : ∀ b : BD, ((cellsI (boxB b).1 (boxB b).2.1 (boxB b).2.2.1 (boxB b).2.2.2.1 (boxB b).2.2.2.2.1 (boxB b).2.2.2.2.2).any fun x => solB (atG m F2 els2 x.1 x.2.1 x.2.2)) = blk6 val (boxB b) := fun b => by rw [HVAL.out]; unfold blk6; rfl
  simp only [hbv] at hbk
  have HBK := Lib.hid hbk
  clear hbk hbv
  obtain ⟨K, hK⟩ : ∃ K, K = W2.heap.size := ⟨_, rfl⟩
  have HKW := Lib.hid hK
  clear hK
  go_upto_region 6 with (fail)
  go_loopw [9, 10, 11] (fun va vr iv wr => ∃ i : Nat, i ≤ nl ∧ i ≤ 5 ∧ iv = .int .i64 i ∧ Hid (TwoR wr K 35 28 va vr (goodN FL i) (goodN FL i)) ∧ Hid (Below W2.heap.size W2 wr)) (fun _ _ iv _ => 5 - (intOf iv).toNat)
  case atStart => exact ⟨0, Nat.zero_le _, Nat.zero_le _, rfl, Lib.hid TwoR.nil, Lib.hid (Below.refl _ _)⟩
  case round =>
    obtain ⟨i, hi, hi5, rfl, HR, KK⟩ := hrel
    have hdone : ¬ ((i : Int) < nl) ∨ ((i : Int) < nl ∧ ¬ ((i : Int) < 5)) ∨ (i < nl ∧ i < 5) := by omega
    rcases hdone with h1 | ⟨h1, h2⟩ | ⟨hlt, hlt5⟩
    · have hA := goodN_ok val FL i
      have hLn := goodN_len FL i
      have hOX := outB_ok hA (by decide) (by decide) (by rw [hLn]; omega) (i := i) (by rw [hLn]; exact Nat.le_refl _)
      rw [hLn] at hOX
      have hOl := hOX.len
      rw [hLn] at hOl
      obtain ⟨⟨qa, ca, rfl, hca, hra⟩, ⟨qr, cr, rfl, hcr, hrr⟩⟩ := And.intro HR.out.form1 HR.out.sym.form1
      rw [hLn] at hca hcr ⊢
      have HC1 := Lib.hid (bcrowd_c 38 #[.pointer (some ⟨g2, 0, none⟩)] val qa i ca (goodN FL i) hLn hca hi5 hA wr hra view_en (HIT2.out.on KK.out))
      have HC2 := Lib.hid (fun w5 (k : Below wr.heap.size wr w5) => rcrowd_c q2 m c2 F2 els2 qr i cr (goodN FL i) hLn hcr hi5 (by rw [← HVAL.out]; exact hA) w5 (hrr.on k) (HIT.out.1.on (after KK.out k)))
      rw [← HVAL.out] at HC2
      have HOX := Lib.hid hOX
      have HOL := Lib.hid hOl
      clear hA hOX hOl hra hrr
      go_upto_region 11 with (go_at_call 32; refine HC1.out.mono ?_; rintro e_ w8 ⟨vx_, rfl, BX, k8⟩)
      obtain ⟨qx, cx, rfl, hcx, -, hx⟩ := BX
      rw [HOL.out] at hcx hx ⊢
      have hG8 := HIT.out.2.1.on (after KK.out k8)
      have g0 := hG8.cell 0
      have g1 := hG8.cell 1
      simp only [List.getElem?_toArray, List.getElem?_cons_zero, List.getElem?_cons_succ] at g0 g1
      have K8 := Lib.hid k8
      have HX := Lib.hid hx
      clear k8 hx hG8 HC1
      go_upto_region 12 with (go_at_call 33; refine (HC2.out _ K8.out).mono ?_; rintro e_ w9 ⟨vy_, rfl, BY, k9⟩)
      obtain ⟨qy, cy, rfl, hcy, -, hy⟩ := BY
      rw [HOL.out] at hcy hy ⊢
      have K9 := Lib.hid (after (after KK.out K8.out) k9)
      have HX9 := Lib.hid (fun h => (by obtain ⟨b, e, -, R⟩ := HX.out h; exact ⟨b, e, R.on k9⟩ : ∃ b, qx = some ⟨b, 0, none⟩ ∧ Rwb w9 b 35 (outB val i (goodN FL i) i)))
      have HY9 := Lib.hid (fun h => (by obtain ⟨b, e, -, R⟩ := hy h; exact ⟨b, e, R⟩ : ∃ b, qy = some ⟨b, 0, none⟩ ∧ Rwb w9 b 28 (outB val i (goodN FL i) i)))
      have HT9 := Lib.hid (HR.out.on (after K8.out k9))
      clear k9 K8 HX hy HR KK g0 g1 HC2
      go_upto_region 15 with (fail)
      go_loopw [14] (fun kv wr => ∃ k : Nat, k ≤ i ∧ kv = .int .i64 k ∧ Hid (Below w9.heap.size w9 wr)) (fun kv _ => i - (intOf kv).toNat)
      case atStart => exact ⟨0, Nat.zero_le _, rfl, Lib.hid (Below.refl _ _)⟩
      case round =>
        obtain ⟨k, hk, rfl, KR⟩ := hrel
        by_cases hki : k < i
        · have h1 : (k : Int) < (i : Int) := by omega
          have hk0 : (0 : Int) ≤ (k : Int) := by omega
          have q1_ : (k : Int) + 1 ≤ 9223372036854775807 := by omega
          have q2_ : -9223372036854775808 ≤ (k : Int) + 1 := by omega
          have hkx : k < cx := by omega
          have hky : k < cy := by omega
          have hka : k < ca := by omega
          have hkr : k < cr := by omega
          obtain ⟨bx, rfl, RX⟩ := HX9.out (by omega)
          obtain ⟨by_, rfl, RY⟩ := HY9.out (by omega)
          obtain ⟨ba, rfl, RA⟩ := HT9.out.row1 (by rw [hLn]; omega)
          obtain ⟨br, rfl, RR⟩ := HT9.out.sym.row1 (by rw [hLn]; omega)
          obtain ⟨c, ec, -, oc⟩ := HOX.out.at (i := k) (by rw [hLn]; exact hki)
          have eg := goodN_at FL hki
          have og := (goodB_ok (FL k)).mono (M' := 10000000) (by decide)
          have hfree := HOX.out.free k _ _ eg ec
          generalize goodB (FL k) = b at eg og hfree
          replace oc := oc.mono (M' := 10000000) (by omega)
          have HBO := Lib.hid (And.intro og oc)
          have NU := fun W (hw : Below W2.heap.size W2 W) => bnudge_c 38 #[.pointer (some ⟨g2, 0, none⟩)] val b (cutI vx, cutI vy, cutI vz) 10000000 (by decide) (by decide) HBO.out.1 W view_en (HIT2.out.on hw)
          have RN := fun W (hw : Below W2.heap.size W2 W) => rnudge_c q2 m c2 F2 els2 b (cutI vx, cutI vy, cutI vz) 10000000 (by decide) (by decide) HBO.out.1 (by dsimp only; unfold cutI; omega) W (HIT.out.1.on hw)
          rw [← HVAL.out] at RN
          have CB := fun W => rbbox_c b (by have := HBO.out.1.wd; omega) W
          have CC := fun W => rbbox_c c (by have := HBO.out.2.wd; omega) W
          have BB := fun W hw => HBK.out b 10000000 HBO.out.1 (by decide) (by decide) W hw
          have BC := fun W hw => HBK.out c 10000000 HBO.out.2 (by decide) (by decide) W hw
          generalize blk6 val (boxB b) = pb at BB hfree
          generalize blk6 val (boxB c) = pc at BC hfree
          generalize boxB b = B6_ at CB BB
          generalize boxB c = C6_ at CC BC
          obtain ⟨o1, o2, o3, o4, o5, o6⟩ := B6_
          obtain ⟨p1, p2, p3, p4, p5, p6⟩ := C6_
          simp only [ag6] at CB CC BB BC
          have HBB := Lib.hid BB
          have HBC := Lib.hid BC
          have HFR := Lib.hid hfree
          clear og oc hfree BB BC
          generalize nudB val b (cutI vx, cutI vy, cutI vz) = d at NU RN
          obtain ⟨x, y, z, sx, sy, sz, wd, ht, st⟩ := b
          obtain ⟨x1, y1, z1, sx1, sy1, sz1, wd1, ht1, st1⟩ := c
          obtain ⟨x2, y2, z2, sx2, sy2, sz2, wd2, ht2, st2⟩ := d
          simp only [bd9, vg3] at NU RN CB CC
          have HNU := Lib.hid NU
          have HRN := Lib.hid RN
          have HCB := Lib.hid CB
          have HCC := Lib.hid CC
          have HEC := Lib.hid (And.intro eg ec)
          clear NU RN CB CC eg ec
          have HRX := Lib.hid (RX.on KR.out)
          have HRY := Lib.hid (RY.on KR.out)
          have HRA := Lib.hid (RA.on KR.out)
          have HRR := Lib.hid (RR.on KR.out)
          clear RX RY RA RR
          have bn1 := bdB_neq x1 y1 z1 sx1 sy1 sz1 wd1 ht1 st1
          have bn2 := bdD_neq x y z sx sy sz wd ht st
          have bg1 := bdB_guard
          have bg2 := bdD_guard
          obtain ⟨x0_, x1_, x2_, x3_, x4_, x5_, x6_, x7_, x8_⟩ := HRX.out.cells HEC.out.2
          replace x0_ := cell_regrown x0_
          replace x1_ := cell_regrown x1_
          replace x2_ := cell_regrown x2_
          replace x3_ := cell_regrown x3_
          replace x4_ := cell_regrown x4_
          replace x5_ := cell_regrown x5_
          replace x6_ := cell_regrown x6_
          replace x7_ := cell_regrown x7_
          replace x8_ := cell_regrown x8_
          obtain ⟨y0_, y1_, y2_, y3_, y4_, y5_, y6_, y7_, y8_⟩ := HRY.out.cells HEC.out.2
          replace y0_ := cell_regrown y0_
          replace y1_ := cell_regrown y1_
          replace y2_ := cell_regrown y2_
          replace y3_ := cell_regrown y3_
          replace y4_ := cell_regrown y4_
          replace y5_ := cell_regrown y5_
          replace y6_ := cell_regrown y6_
          replace y7_ := cell_regrown y7_
          replace y8_ := cell_regrown y8_
          obtain ⟨a0_, a1_, a2_, a3_, a4_, a5_, a6_, a7_, a8_⟩ := HRA.out.cells HEC.out.1
          replace a0_ := cell_regrown a0_
          replace a1_ := cell_regrown a1_
          replace a2_ := cell_regrown a2_
          replace a3_ := cell_regrown a3_
          replace a4_ := cell_regrown a4_
          replace a5_ := cell_regrown a5_
          replace a6_ := cell_regrown a6_
          replace a7_ := cell_regrown a7_
          replace a8_ := cell_regrown a8_
          obtain ⟨r0_, r1_, r2_, r3_, r4_, r5_, r6_, r7_, r8_⟩ := HRR.out.cells HEC.out.1
          replace r0_ := cell_regrown r0_
          replace r1_ := cell_regrown r1_
          replace r2_ := cell_regrown r2_
          replace r3_ := cell_regrown r3_
          replace r4_ := cell_regrown r4_
          replace r5_ := cell_regrown r5_
          replace r6_ := cell_regrown r6_
          replace r7_ := cell_regrown r7_
          replace r8_ := cell_regrown r8_
          go_upto_region 17 with (fail)
          refine wp_region_quiet_below (by kernel_rfl) (by kernel_rfl) ?_
          repeat (go_big_quiet_step (fail))
          refine wpQuiet_nil ?_
          intro w' hw'
          obtain ⟨rg, rfl⟩ := hw'
          clear x0_ x1_ x2_ x3_ x4_ x5_ x6_ x7_ x8_ y0_ y1_ y2_ y3_ y4_ y5_ y6_ y7_ y8_ a0_ a1_ a2_ a3_ a4_ a5_ a6_ a7_ a8_ r0_ r1_ r2_ r3_ r4_ r5_ r6_ r7_ r8_ bn1 bn2 bg1 bg2
          go_upto_region 18 with (fail)
          obtain ⟨W5, hW5⟩ : ∃ W5, W5 = Go.Sort.grow (redrawn wr rg.d) rg.os := ⟨_, rfl⟩
          have hb5 : Below wr.heap.size wr W5 := by rw [hW5]; exact below_regrown _ _ _
          rw [← hW5]
          have HRA5 := Lib.hid (HRA.out.on hb5)
          have HRR5 := Lib.hid (HRR.out.on hb5)
          have HRY5 := Lib.hid (HRY.out.on hb5)
          have K5 := Lib.hid (after KR.out hb5)
          clear hW5 hb5 HRA HRR HRY HRX KR
          go_upto_region 19 with (fail)
          have hD5 := HBV.out.on (after K9.out K5.out)
          have v0 := fun d os => (hD5.re d os).cell 0
          have v1 := fun d os => (hD5.re d os).cell 1
          have v2 := fun d os => (hD5.re d os).cell 2
          simp only [List.getElem?_toArray, List.getElem?_cons_zero, List.getElem?_cons_succ] at v0 v1 v2
          obtain ⟨a0_, a1_, a2_, a3_, a4_, a5_, a6_, a7_, a8_⟩ := HRA5.out.cells HEC.out.1
          replace a0_ := cell_regrown a0_
          replace a1_ := cell_regrown a1_
          replace a2_ := cell_regrown a2_
          replace a3_ := cell_regrown a3_
          replace a4_ := cell_regrown a4_
          replace a5_ := cell_regrown a5_
          replace a6_ := cell_regrown a6_
          replace a7_ := cell_regrown a7_
          replace a8_ := cell_regrown a8_
          refine wp_region_float (t := 35) (z := #[.int .i64 0, .int .i64 0, .int .i64 0, .int .i64 0, .int .i64 0, .int .i64 0, .int .i64 0, .int .i64 0, .bool false]) 8 15 (by kernel_rfl) rfl (by kernel_rfl) rfl (fun _ _ => by kernel_rfl) ?_
          simp only [List.take_succ_cons, List.take_zero, List.drop_succ_cons, List.drop_zero]
          repeat (refine wpRel_step (fun K hK => ?_); go_simp; first | (refine hK _ ?_; clear hK K) | (apply Exists.intro; refine ⟨fun _ => ?_, hK _ ?_⟩; (first | (exact Calls.regrown_of (rcutv_c _ _ _ _)) | ((with_reducible refine Calls.mono (HNU.out _ (after (after K9.out K5.out) (below_regrown _ _ _))) ?_); exact fun _ _ h => h) | ((with_reducible refine Calls.mono (rcutv_c _ _ _ _) ?_); exact fun _ _ h => h)); clear hK K))
          refine wpRel_nil ?_
          intro b W hb hB hle
          clear a0_ a1_ a2_ a3_ a4_ a5_ a6_ a7_ a8_ v0 v1 v2 hD5 HNU
          obtain ⟨⟨b0, b1, b2, b3, b4, b5, b6, b7, b8⟩, f0, f1, f2, f3, f4, f5, f6, f7, f8⟩ := hB.c9
          simp only [Act.put]
          go_upto_region 20 with (fail)
          generalize hV : World.setCell (World.setCell (World.setCell (World.setCell (World.setCell (World.setCell (World.setCell (World.setCell (World.setCell W _ _) _ _) _ _) _ _) _ _) _ _) _ _) _ _) _ _ = W6
          have Y : Blk W6 b 35 #[.int .i64 x2, .int .i64 y2, .int .i64 z2, .int .i64 sx2, .int .i64 sy2, .int .i64 sz2, .int .i64 wd2, .int .i64 ht2, .bool st2] := Blk.eqw hV (hB.st9 _ _ _ _ _ _ _ _ _)
          have hb6 : Below W5.heap.size W5 W6 := by rw [← hV]; exact sx9_below hb hle _ _ _ _ _ _ _ _ _
          have HRR6 := Lib.hid (HRR5.out.on hb6)
          have HRY6 := Lib.hid (HRY5.out.on hb6)
          have K6 := Lib.hid (after K5.out hb6)
          clear hV hB hb hle hb6 HRR5 HRY5 HRA5 K5 b0 b1 b2 b3 b4 b5 b6 b7 b8 f0 f1 f2 f3 f4 f5 f6 f7 f8
          have hD6 := HBV.out.on (after K9.out K6.out)
          have v0 := fun d os => (hD6.re d os).cell 0
          have v1 := fun d os => (hD6.re d os).cell 1
          have v2 := fun d os => (hD6.re d os).cell 2
          have hG6 := HIT.out.2.1.on (after K9.out K6.out)
          have g0 := fun d os => (hG6.re d os).cell 0
          have g1 := fun d os => (hG6.re d os).cell 1
          have n0_ := fun d os => (Y.re d os).cell 0
          have n1_ := fun d os => (Y.re d os).cell 1
          have n2_ := fun d os => (Y.re d os).cell 2
          have n3_ := fun d os => (Y.re d os).cell 3
          have n4_ := fun d os => (Y.re d os).cell 4
          have n5_ := fun d os => (Y.re d os).cell 5
          have n6_ := fun d os => (Y.re d os).cell 6
          have n7_ := fun d os => (Y.re d os).cell 7
          have n8_ := fun d os => (Y.re d os).cell 8
          simp only [List.getElem?_toArray, List.getElem?_cons_zero, List.getElem?_cons_succ] at v0 v1 v2 g0 g1 n0_ n1_ n2_ n3_ n4_ n5_ n6_ n7_ n8_
          obtain ⟨r0_, r1_, r2_, r3_, r4_, r5_, r6_, r7_, r8_⟩ := HRR6.out.cells HEC.out.1
          replace r0_ := cell_regrown r0_
          replace r1_ := cell_regrown r1_
          replace r2_ := cell_regrown r2_
          replace r3_ := cell_regrown r3_
          replace r4_ := cell_regrown r4_
          replace r5_ := cell_regrown r5_
          replace r6_ := cell_regrown r6_
          replace r7_ := cell_regrown r7_
          replace r8_ := cell_regrown r8_
          have bn3 := bdB_neq x2 y2 z2 sx2 sy2 sz2 wd2 ht2 st2
          have bg1 := bdB_guard
          refine wp_region_quiet_below (by kernel_rfl) (by kernel_rfl) ?_
          repeat (go_big_quiet_step (first | (with_reducible exact Calls.regrown_of (rcutv_c _ _ _ _)) | (with_reducible exact Calls.regrown_of (HRN.out _ (after (after K9.out K6.out) (below_regrown _ _ _))))))
          refine wpQuiet_nil ?_
          intro w' hw'
          obtain ⟨rg, rfl⟩ := hw'
          clear v0 v1 v2 g0 g1 n0_ n1_ n2_ n3_ n4_ n5_ n6_ n7_ n8_ r0_ r1_ r2_ r3_ r4_ r5_ r6_ r7_ r8_ bn3 bg1 hD6 hG6 HRN Y
          go_upto_region 21 with (fail)
          obtain ⟨W7, hW7⟩ : ∃ W7, W7 = Go.Sort.grow (redrawn W6 rg.d) rg.os := ⟨_, rfl⟩
          have hb7 : Below W6.heap.size W6 W7 := by rw [hW7]; exact below_regrown _ _ _
          rw [← hW7]
          have HRR7 := Lib.hid (HRR6.out.on hb7)
          have HRY7 := Lib.hid (HRY6.out.on hb7)
          have K7 := Lib.hid (after K6.out hb7)
          clear hW7 hb7 HRR6 HRY6 K6
          go_upto_region 22 with (fail)
          have hG7 := HIT.out.2.1.on (after K9.out K7.out)
          have g0 := fun d os => (hG7.re d os).cell 0
          have g1 := fun d os => (hG7.re d os).cell 1
          simp only [List.getElem?_toArray, List.getElem?_cons_zero, List.getElem?_cons_succ] at g0 g1
          obtain ⟨r0_, r1_, r2_, r3_, r4_, r5_, r6_, r7_, r8_⟩ := HRR7.out.cells HEC.out.1
          replace r0_ := cell_regrown r0_
          replace r1_ := cell_regrown r1_
          replace r2_ := cell_regrown r2_
          replace r3_ := cell_regrown r3_
          replace r4_ := cell_regrown r4_
          replace r5_ := cell_regrown r5_
          replace r6_ := cell_regrown r6_
          replace r7_ := cell_regrown r7_
          replace r8_ := cell_regrown r8_
          obtain ⟨y0_, y1_, y2_, y3_, y4_, y5_, y6_, y7_, y8_⟩ := HRY7.out.cells HEC.out.2
          replace y0_ := cell_regrown y0_
          replace y1_ := cell_regrown y1_
          replace y2_ := cell_regrown y2_
          replace y3_ := cell_regrown y3_
          replace y4_ := cell_regrown y4_
          replace y5_ := cell_regrown y5_
          replace y6_ := cell_regrown y6_
          replace y7_ := cell_regrown y7_
          replace y8_ := cell_regrown y8_
          cases pb
          · obtain rfl := HFR.out rfl
            refine wp_region_quiet_below (by kernel_rfl) (by kernel_rfl) ?_
            repeat (go_big_quiet_step (first | (with_reducible exact Calls.regrown_of (HCB.out _)) | (with_reducible exact Calls.regrown_of (HCC.out _)) | (with_reducible exact Calls.regrown_of (HBB.out _ (after (after K9.out K7.out) (below_regrown _ _ _)))) | (with_reducible exact Calls.regrown_of (HBC.out _ (after (after K9.out K7.out) (below_regrown _ _ _))))))
            refine wpQuiet_nil ?_
            intro w' hw'
            obtain ⟨rg, rfl⟩ := hw'
            clear r0_ r1_ r2_ r3_ r4_ r5_ r6_ r7_ r8_ y0_ y1_ y2_ y3_ y4_ y5_ y6_ y7_ y8_ g0 g1 hG7
            go_wp2_with fail
            exact ⟨⟨k + 1, by omega, by go_num, Lib.hid (after K7.out (below_regrown _ _ _))⟩, next_less' hki⟩
          · skip
            refine wp_region_quiet_below (by kernel_rfl) (by kernel_rfl) ?_
            repeat (go_big_quiet_step (first | (with_reducible exact Calls.regrown_of (HCB.out _)) | (with_reducible exact Calls.regrown_of (HCC.out _)) | (with_reducible exact Calls.regrown_of (HBB.out _ (after (after K9.out K7.out) (below_regrown _ _ _)))) | (with_reducible exact Calls.regrown_of (HBC.out _ (after (after K9.out K7.out) (below_regrown _ _ _))))))
            refine wpQuiet_nil ?_
            intro w' hw'
            obtain ⟨rg, rfl⟩ := hw'
            clear r0_ r1_ r2_ r3_ r4_ r5_ r6_ r7_ r8_ y0_ y1_ y2_ y3_ y4_ y5_ y6_ y7_ y8_ g0 g1 hG7
            go_wp2_with fail
            exact ⟨⟨k + 1, by omega, by go_num, Lib.hid (after K7.out (below_regrown _ _ _))⟩, next_less' hki⟩
        · obtain rfl : k = i := by omega
          have h1 : ¬ ((k : Int) < (k : Int)) := by omega
          go_wp2_with (go_at_call 16; refine (blives_c _).mono ?_; rintro e_ w10 ⟨rfl, k10⟩)
          go_returns
          exact ⟨rfl, after (after H2.out (after K9.out KR.out)) k10⟩
    · have hA := goodN_ok val FL i
      have hLn := goodN_len FL i
      have hOX := outB_ok hA (by decide) (by decide) (by rw [hLn]; omega) (i := i) (by rw [hLn]; exact Nat.le_refl _)
      rw [hLn] at hOX
      have hOl := hOX.len
      rw [hLn] at hOl
      obtain ⟨⟨qa, ca, rfl, hca, hra⟩, ⟨qr, cr, rfl, hcr, hrr⟩⟩ := And.intro HR.out.form1 HR.out.sym.form1
      rw [hLn] at hca hcr ⊢
      have HC1 := Lib.hid (bcrowd_c 38 #[.pointer (some ⟨g2, 0, none⟩)] val qa i ca (goodN FL i) hLn hca hi5 hA wr hra view_en (HIT2.out.on KK.out))
      have HC2 := Lib.hid (fun w5 (k : Below wr.heap.size wr w5) => rcrowd_c q2 m c2 F2 els2 qr i cr (goodN FL i) hLn hcr hi5 (by rw [← HVAL.out]; exact hA) w5 (hrr.on k) (HIT.out.1.on (after KK.out k)))
      rw [← HVAL.out] at HC2
      have HOX := Lib.hid hOX
      have HOL := Lib.hid hOl
      clear hA hOX hOl hra hrr
      go_upto_region 11 with (go_at_call 32; refine HC1.out.mono ?_; rintro e_ w8 ⟨vx_, rfl, BX, k8⟩)
      obtain ⟨qx, cx, rfl, hcx, -, hx⟩ := BX
      rw [HOL.out] at hcx hx ⊢
      have hG8 := HIT.out.2.1.on (after KK.out k8)
      have g0 := hG8.cell 0
      have g1 := hG8.cell 1
      simp only [List.getElem?_toArray, List.getElem?_cons_zero, List.getElem?_cons_succ] at g0 g1
      have K8 := Lib.hid k8
      have HX := Lib.hid hx
      clear k8 hx hG8 HC1
      go_upto_region 12 with (go_at_call 33; refine (HC2.out _ K8.out).mono ?_; rintro e_ w9 ⟨vy_, rfl, BY, k9⟩)
      obtain ⟨qy, cy, rfl, hcy, -, hy⟩ := BY
      rw [HOL.out] at hcy hy ⊢
      have K9 := Lib.hid (after (after KK.out K8.out) k9)
      have HX9 := Lib.hid (fun h => (by obtain ⟨b, e, -, R⟩ := HX.out h; exact ⟨b, e, R.on k9⟩ : ∃ b, qx = some ⟨b, 0, none⟩ ∧ Rwb w9 b 35 (outB val i (goodN FL i) i)))
      have HY9 := Lib.hid (fun h => (by obtain ⟨b, e, -, R⟩ := hy h; exact ⟨b, e, R⟩ : ∃ b, qy = some ⟨b, 0, none⟩ ∧ Rwb w9 b 28 (outB val i (goodN FL i) i)))
      have HT9 := Lib.hid (HR.out.on (after K8.out k9))
      clear k9 K8 HX hy HR KK g0 g1 HC2
      go_upto_region 15 with (fail)
      go_loopw [14] (fun kv wr => ∃ k : Nat, k ≤ i ∧ kv = .int .i64 k ∧ Hid (Below w9.heap.size w9 wr)) (fun kv _ => i - (intOf kv).toNat)
      case atStart => exact ⟨0, Nat.zero_le _, rfl, Lib.hid (Below.refl _ _)⟩
      case round =>
        obtain ⟨k, hk, rfl, KR⟩ := hrel
        by_cases hki : k < i
        · have h1 : (k : Int) < (i : Int) := by omega
          have hk0 : (0 : Int) ≤ (k : Int) := by omega
          have q1_ : (k : Int) + 1 ≤ 9223372036854775807 := by omega
          have q2_ : -9223372036854775808 ≤ (k : Int) + 1 := by omega
          have hkx : k < cx := by omega
          have hky : k < cy := by omega
          have hka : k < ca := by omega
          have hkr : k < cr := by omega
          obtain ⟨bx, rfl, RX⟩ := HX9.out (by omega)
          obtain ⟨by_, rfl, RY⟩ := HY9.out (by omega)
          obtain ⟨ba, rfl, RA⟩ := HT9.out.row1 (by rw [hLn]; omega)
          obtain ⟨br, rfl, RR⟩ := HT9.out.sym.row1 (by rw [hLn]; omega)
          obtain ⟨c, ec, -, oc⟩ := HOX.out.at (i := k) (by rw [hLn]; exact hki)
          have eg := goodN_at FL hki
          have og := (goodB_ok (FL k)).mono (M' := 10000000) (by decide)
          have hfree := HOX.out.free k _ _ eg ec
          generalize goodB (FL k) = b at eg og hfree
          replace oc := oc.mono (M' := 10000000) (by omega)
          have HBO := Lib.hid (And.intro og oc)
          have NU := fun W (hw : Below W2.heap.size W2 W) => bnudge_c 38 #[.pointer (some ⟨g2, 0, none⟩)] val b (cutI vx, cutI vy, cutI vz) 10000000 (by decide) (by decide) HBO.out.1 W view_en (HIT2.out.on hw)
          have RN := fun W (hw : Below W2.heap.size W2 W) => rnudge_c q2 m c2 F2 els2 b (cutI vx, cutI vy, cutI vz) 10000000 (by decide) (by decide) HBO.out.1 (by dsimp only; unfold cutI; omega) W (HIT.out.1.on hw)
          rw [← HVAL.out] at RN
          have CB := fun W => rbbox_c b (by have := HBO.out.1.wd; omega) W
          have CC := fun W => rbbox_c c (by have := HBO.out.2.wd; omega) W
          have BB := fun W hw => HBK.out b 10000000 HBO.out.1 (by decide) (by decide) W hw
          have BC := fun W hw => HBK.out c 10000000 HBO.out.2 (by decide) (by decide) W hw
          generalize blk6 val (boxB b) = pb at BB hfree
          generalize blk6 val (boxB c) = pc at BC hfree
          generalize boxB b = B6_ at CB BB
          generalize boxB c = C6_ at CC BC
          obtain ⟨o1, o2, o3, o4, o5, o6⟩ := B6_
          obtain ⟨p1, p2, p3, p4, p5, p6⟩ := C6_
          simp only [ag6] at CB CC BB BC
          have HBB := Lib.hid BB
          have HBC := Lib.hid BC
          have HFR := Lib.hid hfree
          clear og oc hfree BB BC
          generalize nudB val b (cutI vx, cutI vy, cutI vz) = d at NU RN
          obtain ⟨x, y, z, sx, sy, sz, wd, ht, st⟩ := b
          obtain ⟨x1, y1, z1, sx1, sy1, sz1, wd1, ht1, st1⟩ := c
          obtain ⟨x2, y2, z2, sx2, sy2, sz2, wd2, ht2, st2⟩ := d
          simp only [bd9, vg3] at NU RN CB CC
          have HNU := Lib.hid NU
          have HRN := Lib.hid RN
          have HCB := Lib.hid CB
          have HCC := Lib.hid CC
          have HEC := Lib.hid (And.intro eg ec)
          clear NU RN CB CC eg ec
          have HRX := Lib.hid (RX.on KR.out)
          have HRY := Lib.hid (RY.on KR.out)
          have HRA := Lib.hid (RA.on KR.out)
          have HRR := Lib.hid (RR.on KR.out)
          clear RX RY RA RR
          have bn1 := bdB_neq x1 y1 z1 sx1 sy1 sz1 wd1 ht1 st1
          have bn2 := bdD_neq x y z sx sy sz wd ht st
          have bg1 := bdB_guard
          have bg2 := bdD_guard
          obtain ⟨x0_, x1_, x2_, x3_, x4_, x5_, x6_, x7_, x8_⟩ := HRX.out.cells HEC.out.2
          replace x0_ := cell_regrown x0_
          replace x1_ := cell_regrown x1_
          replace x2_ := cell_regrown x2_
          replace x3_ := cell_regrown x3_
          replace x4_ := cell_regrown x4_
          replace x5_ := cell_regrown x5_
          replace x6_ := cell_regrown x6_
          replace x7_ := cell_regrown x7_
          replace x8_ := cell_regrown x8_
          obtain ⟨y0_, y1_, y2_, y3_, y4_, y5_, y6_, y7_, y8_⟩ := HRY.out.cells HEC.out.2
          replace y0_ := cell_regrown y0_
          replace y1_ := cell_regrown y1_
          replace y2_ := cell_regrown y2_
          replace y3_ := cell_regrown y3_
          replace y4_ := cell_regrown y4_
          replace y5_ := cell_regrown y5_
          replace y6_ := cell_regrown y6_
          replace y7_ := cell_regrown y7_
          replace y8_ := cell_regrown y8_
          obtain ⟨a0_, a1_, a2_, a3_, a4_, a5_, a6_, a7_, a8_⟩ := HRA.out.cells HEC.out.1
          replace a0_ := cell_regrown a0_
          replace a1_ := cell_regrown a1_
          replace a2_ := cell_regrown a2_
          replace a3_ := cell_regrown a3_
          replace a4_ := cell_regrown a4_
          replace a5_ := cell_regrown a5_
          replace a6_ := cell_regrown a6_
          replace a7_ := cell_regrown a7_
          replace a8_ := cell_regrown a8_
          obtain ⟨r0_, r1_, r2_, r3_, r4_, r5_, r6_, r7_, r8_⟩ := HRR.out.cells HEC.out.1
          replace r0_ := cell_regrown r0_
          replace r1_ := cell_regrown r1_
          replace r2_ := cell_regrown r2_
          replace r3_ := cell_regrown r3_
          replace r4_ := cell_regrown r4_
          replace r5_ := cell_regrown r5_
          replace r6_ := cell_regrown r6_
          replace r7_ := cell_regrown r7_
          replace r8_ := cell_regrown r8_
          go_upto_region 17 with (fail)
          refine wp_region_quiet_below (by kernel_rfl) (by kernel_rfl) ?_
          repeat (go_big_quiet_step (fail))
          refine wpQuiet_nil ?_
          intro w' hw'
          obtain ⟨rg, rfl⟩ := hw'
          clear x0_ x1_ x2_ x3_ x4_ x5_ x6_ x7_ x8_ y0_ y1_ y2_ y3_ y4_ y5_ y6_ y7_ y8_ a0_ a1_ a2_ a3_ a4_ a5_ a6_ a7_ a8_ r0_ r1_ r2_ r3_ r4_ r5_ r6_ r7_ r8_ bn1 bn2 bg1 bg2
          go_upto_region 18 with (fail)
          obtain ⟨W5, hW5⟩ : ∃ W5, W5 = Go.Sort.grow (redrawn wr rg.d) rg.os := ⟨_, rfl⟩
          have hb5 : Below wr.heap.size wr W5 := by rw [hW5]; exact below_regrown _ _ _
          rw [← hW5]
          have HRA5 := Lib.hid (HRA.out.on hb5)
          have HRR5 := Lib.hid (HRR.out.on hb5)
          have HRY5 := Lib.hid (HRY.out.on hb5)
          have K5 := Lib.hid (after KR.out hb5)
          clear hW5 hb5 HRA HRR HRY HRX KR
          go_upto_region 19 with (fail)
          have hD5 := HBV.out.on (after K9.out K5.out)
          have v0 := fun d os => (hD5.re d os).cell 0
          have v1 := fun d os => (hD5.re d os).cell 1
          have v2 := fun d os => (hD5.re d os).cell 2
          simp only [List.getElem?_toArray, List.getElem?_cons_zero, List.getElem?_cons_succ] at v0 v1 v2
          obtain ⟨a0_, a1_, a2_, a3_, a4_, a5_, a6_, a7_, a8_⟩ := HRA5.out.cells HEC.out.1
          replace a0_ := cell_regrown a0_
          replace a1_ := cell_regrown a1_
          replace a2_ := cell_regrown a2_
          replace a3_ := cell_regrown a3_
          replace a4_ := cell_regrown a4_
          replace a5_ := cell_regrown a5_
          replace a6_ := cell_regrown a6_
          replace a7_ := cell_regrown a7_
          replace a8_ := cell_regrown a8_
          refine wp_region_float (t := 35) (z := #[.int .i64 0, .int .i64 0, .int .i64 0, .int .i64 0, .int .i64 0, .int .i64 0, .int .i64 0, .int .i64 0, .bool false]) 8 15 (by kernel_rfl) rfl (by kernel_rfl) rfl (fun _ _ => by kernel_rfl) ?_
          simp only [List.take_succ_cons, List.take_zero, List.drop_succ_cons, List.drop_zero]
          repeat (refine wpRel_step (fun K hK => ?_); go_simp; first | (refine hK _ ?_; clear hK K) | (apply Exists.intro; refine ⟨fun _ => ?_, hK _ ?_⟩; (first | (exact Calls.regrown_of (rcutv_c _ _ _ _)) | ((with_reducible refine Calls.mono (HNU.out _ (after (after K9.out K5.out) (below_regrown _ _ _))) ?_); exact fun _ _ h => h) | ((with_reducible refine Calls.mono (rcutv_c _ _ _ _) ?_); exact fun _ _ h => h)); clear hK K))
          refine wpRel_nil ?_
          intro b W hb hB hle
          clear a0_ a1_ a2_ a3_ a4_ a5_ a6_ a7_ a8_ v0 v1 v2 hD5 HNU
          obtain ⟨⟨b0, b1, b2, b3, b4, b5, b6, b7, b8⟩, f0, f1, f2, f3, f4, f5, f6, f7, f8⟩ := hB.c9
          simp only [Act.put]
          go_upto_region 20 with (fail)
          generalize hV : World.setCell (World.setCell (World.setCell (World.setCell (World.setCell (World.setCell (World.setCell (World.setCell (World.setCell W _ _) _ _) _ _) _ _) _ _) _ _) _ _) _ _) _ _ = W6
          have Y : Blk W6 b 35 #[.int .i64 x2, .int .i64 y2, .int .i64 z2, .int .i64 sx2, .int .i64 sy2, .int .i64 sz2, .int .i64 wd2, .int .i64 ht2, .bool st2] := Blk.eqw hV (hB.st9 _ _ _ _ _ _ _ _ _)
          have hb6 : Below W5.heap.size W5 W6 := by rw [← hV]; exact sx9_below hb hle _ _ _ _ _ _ _ _ _
          have HRR6 := Lib.hid (HRR5.out.on hb6)
          have HRY6 := Lib.hid (HRY5.out.on hb6)
          have K6 := Lib.hid (after K5.out hb6)
          clear hV hB hb hle hb6 HRR5 HRY5 HRA5 K5 b0 b1 b2 b3 b4 b5 b6 b7 b8 f0 f1 f2 f3 f4 f5 f6 f7 f8
          have hD6 := HBV.out.on (after K9.out K6.out)
          have v0 := fun d os => (hD6.re d os).cell 0
          have v1 := fun d os => (hD6.re d os).cell 1
          have v2 := fun d os => (hD6.re d os).cell 2
          have hG6 := HIT.out.2.1.on (after K9.out K6.out)
          have g0 := fun d os => (hG6.re d os).cell 0
          have g1 := fun d os => (hG6.re d os).cell 1
          have n0_ := fun d os => (Y.re d os).cell 0
          have n1_ := fun d os => (Y.re d os).cell 1
          have n2_ := fun d os => (Y.re d os).cell 2
          have n3_ := fun d os => (Y.re d os).cell 3
          have n4_ := fun d os => (Y.re d os).cell 4
          have n5_ := fun d os => (Y.re d os).cell 5
          have n6_ := fun d os => (Y.re d os).cell 6
          have n7_ := fun d os => (Y.re d os).cell 7
          have n8_ := fun d os => (Y.re d os).cell 8
          simp only [List.getElem?_toArray, List.getElem?_cons_zero, List.getElem?_cons_succ] at v0 v1 v2 g0 g1 n0_ n1_ n2_ n3_ n4_ n5_ n6_ n7_ n8_
          obtain ⟨r0_, r1_, r2_, r3_, r4_, r5_, r6_, r7_, r8_⟩ := HRR6.out.cells HEC.out.1
          replace r0_ := cell_regrown r0_
          replace r1_ := cell_regrown r1_
          replace r2_ := cell_regrown r2_
          replace r3_ := cell_regrown r3_
          replace r4_ := cell_regrown r4_
          replace r5_ := cell_regrown r5_
          replace r6_ := cell_regrown r6_
          replace r7_ := cell_regrown r7_
          replace r8_ := cell_regrown r8_
          have bn3 := bdB_neq x2 y2 z2 sx2 sy2 sz2 wd2 ht2 st2
          have bg1 := bdB_guard
          refine wp_region_quiet_below (by kernel_rfl) (by kernel_rfl) ?_
          repeat (go_big_quiet_step (first | (with_reducible exact Calls.regrown_of (rcutv_c _ _ _ _)) | (with_reducible exact Calls.regrown_of (HRN.out _ (after (after K9.out K6.out) (below_regrown _ _ _))))))
          refine wpQuiet_nil ?_
          intro w' hw'
          obtain ⟨rg, rfl⟩ := hw'
          clear v0 v1 v2 g0 g1 n0_ n1_ n2_ n3_ n4_ n5_ n6_ n7_ n8_ r0_ r1_ r2_ r3_ r4_ r5_ r6_ r7_ r8_ bn3 bg1 hD6 hG6 HRN Y
          go_upto_region 21 with (fail)
          obtain ⟨W7, hW7⟩ : ∃ W7, W7 = Go.Sort.grow (redrawn W6 rg.d) rg.os := ⟨_, rfl⟩
          have hb7 : Below W6.heap.size W6 W7 := by rw [hW7]; exact below_regrown _ _ _
          rw [← hW7]
          have HRR7 := Lib.hid (HRR6.out.on hb7)
          have HRY7 := Lib.hid (HRY6.out.on hb7)
          have K7 := Lib.hid (after K6.out hb7)
          clear hW7 hb7 HRR6 HRY6 K6
          go_upto_region 22 with (fail)
          have hG7 := HIT.out.2.1.on (after K9.out K7.out)
          have g0 := fun d os => (hG7.re d os).cell 0
          have g1 := fun d os => (hG7.re d os).cell 1
          simp only [List.getElem?_toArray, List.getElem?_cons_zero, List.getElem?_cons_succ] at g0 g1
          obtain ⟨r0_, r1_, r2_, r3_, r4_, r5_, r6_, r7_, r8_⟩ := HRR7.out.cells HEC.out.1
          replace r0_ := cell_regrown r0_
          replace r1_ := cell_regrown r1_
          replace r2_ := cell_regrown r2_
          replace r3_ := cell_regrown r3_
          replace r4_ := cell_regrown r4_
          replace r5_ := cell_regrown r5_
          replace r6_ := cell_regrown r6_
          replace r7_ := cell_regrown r7_
          replace r8_ := cell_regrown r8_
          obtain ⟨y0_, y1_, y2_, y3_, y4_, y5_, y6_, y7_, y8_⟩ := HRY7.out.cells HEC.out.2
          replace y0_ := cell_regrown y0_
          replace y1_ := cell_regrown y1_
          replace y2_ := cell_regrown y2_
          replace y3_ := cell_regrown y3_
          replace y4_ := cell_regrown y4_
          replace y5_ := cell_regrown y5_
          replace y6_ := cell_regrown y6_
          replace y7_ := cell_regrown y7_
          replace y8_ := cell_regrown y8_
          cases pb
          · obtain rfl := HFR.out rfl
            refine wp_region_quiet_below (by kernel_rfl) (by kernel_rfl) ?_
            repeat (go_big_quiet_step (first | (with_reducible exact Calls.regrown_of (HCB.out _)) | (with_reducible exact Calls.regrown_of (HCC.out _)) | (with_reducible exact Calls.regrown_of (HBB.out _ (after (after K9.out K7.out) (below_regrown _ _ _)))) | (with_reducible exact Calls.regrown_of (HBC.out _ (after (after K9.out K7.out) (below_regrown _ _ _))))))
            refine wpQuiet_nil ?_
            intro w' hw'
            obtain ⟨rg, rfl⟩ := hw'
            clear r0_ r1_ r2_ r3_ r4_ r5_ r6_ r7_ r8_ y0_ y1_ y2_ y3_ y4_ y5_ y6_ y7_ y8_ g0 g1 hG7
            go_wp2_with fail
            exact ⟨⟨k + 1, by omega, by go_num, Lib.hid (after K7.out (below_regrown _ _ _))⟩, next_less' hki⟩
          · skip
            refine wp_region_quiet_below (by kernel_rfl) (by kernel_rfl) ?_
            repeat (go_big_quiet_step (first | (with_reducible exact Calls.regrown_of (HCB.out _)) | (with_reducible exact Calls.regrown_of (HCC.out _)) | (with_reducible exact Calls.regrown_of (HBB.out _ (after (after K9.out K7.out) (below_regrown _ _ _)))) | (with_reducible exact Calls.regrown_of (HBC.out _ (after (after K9.out K7.out) (below_regrown _ _ _))))))
            refine wpQuiet_nil ?_
            intro w' hw'
            obtain ⟨rg, rfl⟩ := hw'
            clear r0_ r1_ r2_ r3_ r4_ r5_ r6_ r7_ r8_ y0_ y1_ y2_ y3_ y4_ y5_ y6_ y7_ y8_ g0 g1 hG7
            go_wp2_with fail
            exact ⟨⟨k + 1, by omega, by go_num, Lib.hid (after K7.out (below_regrown _ _ _))⟩, next_less' hki⟩
        · obtain rfl : k = i := by omega
          have h1 : ¬ ((k : Int) < (k : Int)) := by omega
          go_wp2_with (go_at_call 16; refine (blives_c _).mono ?_; rintro e_ w10 ⟨rfl, k10⟩)
          go_returns
          exact ⟨rfl, after (after H2.out (after K9.out KR.out)) k10⟩
    · have h1 : (i : Int) < nl := by omega
      have h2 : (i : Int) < 5 := by omega
      have hi0 : (0 : Int) ≤ (i : Int) := by omega
      have q1_ : (i : Int) + 1 ≤ 9223372036854775807 := by omega
      have q2_ : -9223372036854775808 ≤ (i : Int) + 1 := by omega
      rcases hfb : FL i with ⟨x, y, z, sx, sy, sz, wd, ht, st⟩
      rcases hgb : goodB (FL i) with ⟨x2, y2, z2, sx2, sy2, sz2, wd2, ht2, st2⟩
      have CG := HG0.out i hlt
      obtain ⟨gl, o, rfl, hcell⟩ := HQ.out (by omega)
      have hcw := fun j u hu => wcell (hcell i hlt j u hu) (after H2.out KK.out)
      rw [hgb] at CG
      rw [hfb] at CG hcw
      have HGB := Lib.hid (show goodB (FL i) = (x2, y2, z2, sx2, sy2, sz2, wd2, ht2, st2) from hgb)
      simp only [bd9] at CG
      have HCG := Lib.hid CG
      have hcl : i < cl := by have := HM.out.1; omega
      have c0 : wr.cell? ⟨gl, o + i * 9, none⟩ = some (.int .i64 x) := hcw 0 _ rfl
      have c1 : wr.cell? ⟨gl, o + i * 9 + 1, none⟩ = some (.int .i64 y) := hcw 1 _ rfl
      have c2_ : wr.cell? ⟨gl, o + i * 9 + 2, none⟩ = some (.int .i64 z) := hcw 2 _ rfl
      have c3 : wr.cell? ⟨gl, o + i * 9 + 3, none⟩ = some (.int .i64 sx) := hcw 3 _ rfl
      have c4 : wr.cell? ⟨gl, o + i * 9 + 4, none⟩ = some (.int .i64 sy) := hcw 4 _ rfl
      have c5 : wr.cell? ⟨gl, o + i * 9 + 5, none⟩ = some (.int .i64 sz) := hcw 5 _ rfl
      have c6 : wr.cell? ⟨gl, o + i * 9 + 6, none⟩ = some (.int .i64 wd) := hcw 6 _ rfl
      have c7 : wr.cell? ⟨gl, o + i * 9 + 7, none⟩ = some (.int .i64 ht) := hcw 7 _ rfl
      have c8 : wr.cell? ⟨gl, o + i * 9 + 8, none⟩ = some (.bool st) := hcw 8 _ rfl
      clear hcw hcell hfb hgb CG
      have HS1 := Lib.hid (fun w5 (k : Below wr.heap.size wr w5) => HR.out.sym.step (P := Try.prog) (w5 := w5) (ts := 65) (ty := 65) (cs := #[.int .i64 x2, .int .i64 y2, .int .i64 z2, .int .i64 sx2, .int .i64 sy2, .int .i64 sz2, .int .i64 wd2, .int .i64 ht2, .bool st2]) (x := (x2, y2, z2, sx2, sy2, sz2, wd2, ht2, st2)) Try.underlying65 infRb rfl rfl (by rw [goodN_len]; omega) (by have := KK.out.size; have := HKW.out; omega) k)
      go_upto_region 9 with (first | (go_at_call 13; refine (HCG.out _).mono ?_; rintro e_ w5 ⟨rfl, k5⟩; have K5 := Lib.hid k5; clear k5) | (obtain ⟨W6, gr, cr, hrun, T6, k6, R6, hcr⟩ := HS1.out w5 K5.out; rw [goodN_len] at hrun; at_builtin; refine Lib.wpList_append_run _ rfl _ _ _ _ rfl _ _ rfl rfl _ _ hrun ?_))
      rw [goodN_len] at T6 hcr
      have hat : (goodN FL i ++ [(x2, y2, z2, sx2, sy2, sz2, wd2, ht2, st2)])[i]? = some (x2, y2, z2, sx2, sy2, sz2, wd2, ht2, st2) := by rw [List.getElem?_append_right (by rw [goodN_len]; exact Nat.le_refl _), goodN_len]; simp
      obtain ⟨d0, d1, d2, d3, d4, d5, d6, d7, d8⟩ := R6.cells hat
      have hic : i < cr := by omega
      have h3 : (i : Int) < ((i + 1 : Nat) : Int) := by omega
      have h4 : (i : Int) < (i : Int) + 1 := by omega
      have hK6 := (show K ≤ W6.heap.size from by have := KK.out.size; have := HKW.out; have := k6.size; omega)
      obtain ⟨W7, ga, ca, hrun2, T7, k7, -, -⟩ := T6.sym.step (P := Try.prog) (w5 := W6) (ts := 66) (ty := 66) (cs := #[.int .i64 x2, .int .i64 y2, .int .i64 z2, .int .i64 sx2, .int .i64 sy2, .int .i64 sz2, .int .i64 wd2, .int .i64 ht2, .bool st2]) (x := (x2, y2, z2, sx2, sy2, sz2, wd2, ht2, st2)) Try.underlying66 infBd rfl rfl (by rw [goodN_len]; omega) hK6 (Below.refl _ _)
      rw [goodN_len] at hrun2 T7
      have E := goodN_succ FL i
      rw [HGB.out] at E
      rw [← E] at T7
      have HT7 := Lib.hid T7
      have K7 : Hid (Below W2.heap.size W2 W7) := Lib.hid (KK.out.trans (by rw [← HKW.out]; exact k6.trans k7))
      clear T7 T6 R6 hat E hcr hrun hK6 k6 k7 HGB HS1 K5 HCG c0 c1 c2_ c3 c4 c5 c6 c7 c8
      go_wp2_with (at_builtin; refine Lib.wpList_append_run _ rfl _ _ _ _ rfl _ _ rfl rfl _ _ hrun2 ?_)
      exact ⟨⟨i + 1, by omega, by omega, by go_num, HT7, K7⟩, next_less' hlt5⟩
set_option maxRecDepth 100000 in
theorem bodyCrowds_lifted (os : Os) (started : os.Started) (H : Type) (enc : TypeId × Value → H) :
    ReturnsInHanded {} Try.checked os 10 .any (Rows.bodyCrowdsSpec.pre6 enc Try.prog Try.f10 Rows.bodyCrowdsRow.domain false) (Rows.bodyCrowdsSpec.post enc Try.prog Try.f10 false true false false) := by
  refine returnsInHanded_of_change (C := Try.checked) own started (by kernel_rfl) Try.func10
    (ChangeSpec.witness6 (enc := enc) (C := Try.checked) false ⟨#[], #[.agg #[.slice none 0 0, .int .i64 0], .slice none 0 0, .agg #[.int .i64 0, .int .i64 0, .int .i64 0]], []⟩ 8 (by kernel_rfl) (by kernel_rfl) (by kernel_rfl) (by kernel_rfl)) ?_
  intro W base args ds gs before hval0 hW hcnd hsz
  have hval : ∀ (j : Nat) t v, Try.f10.params[j]? = some t → args[j]? = some v → Value.okWide Try.prog W .any base t v := hval0
  have hW' := hW
  obtain ⟨p, q, hA0, hV, rfl, hfz, hnd⟩ := hW
  have hA : DataW.TrodAll enc Try.prog W 0 (fun _ => true) true Try.f10.params.toList args.toList ds p := hA0
  rw [Try.params10] at hA hval
  obtain ⟨v0, vs0, d0, ds0, p_0, q_0, hargs, rfl, rfl, h0, r_0⟩ := trodAll_cons hA
  obtain ⟨v1, vs1, d1, ds1, p_1, q_1, rfl, rfl, rfl, h1, r_1⟩ := trodAll_cons r_0
  obtain ⟨v2, vs2, d2, ds2, p_2, q_2, rfl, rfl, rfl, h2, r_2⟩ := trodAll_cons r_1
  obtain ⟨rfl, rfl, rfl⟩ := trodAll_nil r_2
  obtain rfl : args = #[v0, v1, v2] := by cases args; simp_all
  obtain ⟨rfl, rfl⟩ := trodVars_none hV
  obtain ⟨gq0, gn0, gc0, gF0, ge0, rfl, gl0, gm0, gi0, gw0, gv0⟩ := open_world Try.underlying24 Try.underlying22 (by kernel_rfl) (by kernel_rfl) Try.underlying3 (hval 0 24 v0 rfl rfl) h0
  obtain ⟨A1, n1, k1, l1, rfl, b1, c1, e1, f1⟩ := open_bds Try.underlying65 Try.underlying28 Try.underlying26 (by kernel_rfl) (by kernel_rfl) (by kernel_rfl) Try.underlying3 Try.underlying4 (hval 1 65 v1 rfl rfl) h1
  obtain ⟨x2, y2, z2, rfl, wx2, wy2, wz2⟩ := open_vec Try.underlying26 (by kernel_rfl) (by kernel_rfl) Try.underlying3 (hval 2 26 v2 rfl rfl) h2
  refine (bodyCrowds_c gq0 gn0 gc0 gF0 ge0 gl0 gm0 gw0 gv0 A1 n1 k1 l1 b1 c1 x2 y2 z2 wx2 wy2 wz2 W gi0 e1 f1).mono fun e W' ⟨he, hb⟩ => ?_
  subst he
  exact ⟨_, rfl, law_post laidOut (by kernel_rfl) rfl (by kernel_rfl) Try.underlying4 hW' rfl rfl rfl hb⟩

/-- The statement. -/
theorem bodyCrowds_proved : Rows.BodyCrowdsSaid :=
  OpenClaim.holds_of_wide 10 Try.f10 rfl rfl rfl rfl rfl rfl rfl ⟨rfl, rfl, rfl, rfl, rfl⟩ rfl rfl rfl rfl rfl (by kernel_rfl) Try.func10 (by kernel_rfl)
    (of_decide_eq_true (by kernel_rfl)) (by unfold Func.isWrapper; first | (rw [if_pos (by decide +kernel)]; kernel_rfl) | (rw [if_neg (by decide +kernel)]; exact ⟨rfl, rfl⟩))
    (fun os started H enc _ => bodyCrowds_lifted os started H enc)
end Go.Proofs.Ytnokibdecnddlaa
