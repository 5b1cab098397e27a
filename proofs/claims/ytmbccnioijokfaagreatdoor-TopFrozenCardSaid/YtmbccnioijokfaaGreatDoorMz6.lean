/- Texts that build one behind the other, laid together: Bod7 Went Stp1 Bod8 Bod9 Opn2 Shelf. -/
import Derived.Test.YtmbccnioijokfaaGreatDoorMz5
import Derived.Test.YtmbccnioijokfaaGreatDoorMz4
import Derived.Test.YtmbccnioijokfaaGreatDoorMz2
import Derived.Shelf.Strings.Builder1
import Derived.Shelf.Strings.Builder2
import Derived.Shelf.Strings.OnBuilder
import Derived.Shelf.Small.Wraps
import Derived.Shelf.Strings.BuilderF
import Derived.Shelf.Strings.BuilderK
import Derived.Shelf.Strconv.Itoa0
import Derived.Shelf.Strconv.Itoa1
import Derived.Shelf.LaysM
import Derived.Shelf.Strconv.Itoa2
import Derived.Shelf.Strconv.Itoa3
import Derived.Shelf.Strings.Search1
import Derived.Shelf.Strings.Search2
import Derived.Shelf.Strings.Search3
import Derived.Shelf.Strings.Count
import Derived.Shelf.Strings.Shaped
import Derived.Shelf.Strings.Prefix
import Derived.Shelf.Strings.Split
import Derived.Shelf.Strings.SplitShaped
import Derived.Shelf.Unicode.DecodeSlow
import Derived.Shelf.Strings.FieldsFuncAny
import Derived.Ground.Names2Prog
import Derived.Shelf.Slices.SearchI
import Derived.Test.YtmbccnioijokfaaGreatDoorProg
namespace Go.Proofs.YtmbccnioijokfaaGreatDoor
open Go.RowKit Go.Shelf
attribute [local go_sem] Oper.semAt_some
set_option maxRecDepth 100000 in
set_option maxHeartbeats 8000000 in
theorem brise1_c (jump less least x y z sx sy sz wd ht ix iz : Int) (st j : Bool) (N M g : Nat) (h1 : 0 ≤ less ∧ less ≤ 10000) (h2 : 0 ≤ least ∧ least ≤ 300000) (h3 : -300000 ≤ sy ∧ sy ≤ 300000) (w : World)
    (B : Blk w N 40 #[.int .i64 x, .int .i64 y, .int .i64 z, .int .i64 sx, .int .i64 sy, .int .i64 sz, .int .i64 wd, .int .i64 ht, .bool st]) (D : Blk w M 81 #[.int .i64 ix, .int .i64 iz, .bool j]) (P : Blk w g 319 #[.pointer (some ⟨N, 4, none⟩)]) (hMN : M ≠ N) (hgN : g ≠ N) :
    Calls Tryz.prog 265 #[.int .i64 jump, .int .i64 less, .int .i64 least, .pointer (some ⟨g, 0, none⟩), .pointer (some ⟨M, 0, none⟩)] w fun r w' => r = .returned (.tuple #[]) ∧ Kept (fun b => b ≠ N) w w' ∧
      Blk w' N 40 #[.int .i64 x, .int .i64 y, .int .i64 z, .int .i64 sx, .int .i64 (if j = true then jump else mxI (sy - less) (-least)), .int .i64 sz, .int .i64 wd, .int .i64 ht, .bool st] := by
  have hmx := @run_mx Tryz.prog
  have e1 : IntKind.i64.wrap (sy - less) = sy - less := IntWalk.i64_in _ (by omega)
  have e2 : IntKind.i64.wrap (-least) = -least := IntWalk.i64_in _ (by omega)
  have HB := Lib.hid B
  have HD := Lib.hid D
  have HP := Lib.hid P
  have HX := Lib.hid (And.intro hMN hgN)
  clear B D P hMN hgN h1 h2 h3
  have p0 := fun d os => (HP.out.re d os).cell 0
  have b4 := fun d os => (HB.out.re d os).cell 4
  simp only [List.getElem?_toArray, List.getElem?_cons_zero, List.getElem?_cons_succ] at p0 b4
  go_enter Tryz.func265, Tryz.ntmps265
  go_upto_region 0 with (fail)
  refine wp_region_last_below 10 (by kernel_rfl) rfl (by kernel_rfl) ?_
  simp only [List.take_succ_cons, List.take_zero, List.drop_succ_cons, List.drop_zero]
  repeat (go_big_quiet_step (fail))
  refine wpQuiet_nil ?_
  intro w' hw'
  obtain ⟨rg, rfl⟩ := hw'
  clear p0 b4 hmx
  obtain ⟨W1, hW1⟩ : ∃ W1, W1 = Go.Sort.grow (redrawn w rg.d) rg.os := ⟨_, rfl⟩
  have hb1 : Below w.heap.size w W1 := by rw [hW1]; exact below_regrown _ _ _
  rw [← hW1]
  clear hW1
  have b4 := (HB.out.on hb1).cell 4
  have f4 := (HB.out.on hb1).frz 4
  simp only [List.getElem?_toArray, List.getElem?_cons_zero, List.getElem?_cons_succ] at b4
  go_upto_region 1 with (fail)
  generalize hV : World.setCell W1 _ _ = W2
  have B2 : Blk W2 N 40 #[.int .i64 x, .int .i64 y, .int .i64 z, .int .i64 sx, .int .i64 (mxI (sy - less) (-least)), .int .i64 sz, .int .i64 wd, .int .i64 ht, .bool st] := Blk.eqw hV ((HB.out.on hb1).set_ 4 _)
  have K2 : Kept (fun b => b ≠ N) w W2 := by rw [← hV]; exact ((Kept.of_below hb1).mono fun _ _ => trivial).setCell (by simp) _
  have d2 := (K2.blk HX.out.1 HD.out).cell 2
  have p0 := (K2.blk HX.out.2 HP.out).cell 0
  have b4 := B2.cell 4
  have f4 := B2.frz 4
  simp only [List.getElem?_toArray, List.getElem?_cons_zero, List.getElem?_cons_succ] at d2 p0 b4
  have HB2 := Lib.hid B2
  have HK2 := Lib.hid K2
  clear hV B2 K2 hb1
  cases j
  · go_wp2_with fail
    go_returns
    exact ⟨rfl, HK2.out, HB2.out⟩
  · go_wp2_with fail
    go_returns
    exact ⟨rfl, HK2.out.setCell (by simp) _, HB2.out.set_ 4 _⟩
set_option maxRecDepth 100000 in
set_option maxHeartbeats 8000000 in
theorem brises_c (V : FuncId) (lv : Value) (val : Cl → Int) (b : BD) (ix iz : Int) (j : Bool) (M : Int) (hM : M ≤ 71000000000000) (hM0 : 0 ≤ M) (hB : BOk M b) (w : World)
    (eV : ∀ args w, (callFunc V args).run Tryz.prog w = .ok (.enter V args) w) (hV : Tells Tryz.prog V lv val w) :
    Calls Tryz.prog 197 #[.agg (bd9 b), .func (.func V) #[lv] #[], .agg #[.int .i64 ix, .int .i64 iz, .bool j]] w fun r w' => r = .returned (.agg (bd9 (riseB val b j))) ∧ Below w.heap.size w w' := by
  obtain ⟨hS, -⟩ := hB.box hM
  have hbox := hS.box (by omega) (by omega)
  have hund := hS.under (by omega) (by omega)
  have hbd := hS.bd
  have hsy := hB.sy
  have CB := fun W => bbox_c b (by have := hB.wd; omega) W
  have CC := fun W (h : Below w.heap.size w W) => pmClimbs_c V lv val (boxB b).1 (boxB b).2.1 (boxB b).2.2.1 (boxB b).2.2.2.1 (boxB b).2.2.2.2.1 (boxB b).2.2.2.2.2 hbox.1 W eV (hV.on h)
  have CW := fun W (h : Below w.heap.size w W) => pmWet_c V lv val (boxB b).1 (boxB b).2.1 (boxB b).2.2.1 (boxB b).2.2.2.1 (boxB b).2.2.2.2.1 (boxB b).2.2.2.2.2 hbox.1 W eV (hV.on h)
  have CS := fun W (h : Below w.heap.size w W) => pmStands_c V lv val (boxB b).1 (boxB b).2.1 (boxB b).2.2.1 (boxB b).2.2.2.1 (boxB b).2.2.2.2.1 (boxB b).2.2.2.2.2 (by omega) (by omega) hund.1 W eV (hV.on h)
  clear hS hbox hund hbd hV eV hM hM0 hB
  unfold riseB
  have fC : anyB val cliB (boxB b) = (cellsI (boxB b).1 (boxB b).2.1 (boxB b).2.2.1 (boxB b).2.2.2.1 (boxB b).2.2.2.2.1 (boxB b).2.2.2.2.2).any fun c => cliB (val c) := by unfold anyB; rfl
  have fW : anyB val wetB (boxB b) = (cellsI (boxB b).1 (boxB b).2.1 (boxB b).2.2.1 (boxB b).2.2.2.1 (boxB b).2.2.2.2.1 (boxB b).2.2.2.2.2).any fun c => wetB (val c) := by unfold anyB; rfl
  have fS : unB val (boxB b) = (cellsI (boxB b).1 (cutI ((boxB b).2.1 - 1)) (boxB b).2.2.1 (boxB b).2.2.2.1 (boxB b).2.1 (boxB b).2.2.2.2.2).any fun c => solB (val c) := by unfold unB; rfl
  rw [← fC] at CC
  rw [← fW] at CW
  rw [← fS] at CS
  clear fC fW fS
  generalize anyB val cliB (boxB b) = pc at CC ⊢
  generalize anyB val wetB (boxB b) = pw at CW ⊢
  generalize unB val (boxB b) = ps at CS ⊢
  generalize boxB b = bx at CB CC CW CS
  obtain ⟨x, y, z, sx, sy, sz, wd, ht, st⟩ := b
  obtain ⟨y1, y2, y3, y4, y5, y6⟩ := bx
  simp only [bd9, ag6] at *
  have HCB := Lib.hid CB
  have HCC := Lib.hid CC
  have HCW := Lib.hid CW
  have HCS := Lib.hid CS
  clear CB CC CW CS
  obtain ⟨N, hN⟩ : ∃ N, N = w.heap.size := ⟨_, rfl⟩
  obtain ⟨W, hW⟩ : ∃ W, W = ((w.alloc (.cells #[.int .i64 x, .int .i64 y, .int .i64 z, .int .i64 sx, .int .i64 sy, .int .i64 sz, .int .i64 wd, .int .i64 ht, .bool st] 40)).alloc (.cells #[.int .i64 ix, .int .i64 iz, .bool j] 81)).alloc (.cells #[.int .i64 0, .int .i64 0, .int .i64 0, .int .i64 0, .int .i64 0, .int .i64 0, .int .i64 0, .int .i64 0, .bool false] 40) := ⟨_, rfl⟩
  have H : Below w.heap.size w W := by rw [hW]; go_grown
  have B : Blk W N 40 _ := Blk.eqw hW.symm (by rw [hN]; exact ((Blk.new' rfl).alloc _).alloc _)
  have D : Blk W (N + 1) 81 _ := Blk.eqw hW.symm (by rw [hN]; exact (Blk.new' (by simp)).alloc _)
  have R : Blk W (N + 1 + 1) 40 _ := Blk.eqw hW.symm (by rw [hN]; exact Blk.new' (by simp))
  go_enter Tryz.func197, Tryz.ntmps197
  go_upto_region 1 with (fail)
  rw [← hW, ← hN]
  have HN := Lib.hid hN
  clear hW hN
  obtain ⟨⟨b0, b1, b2, b3, b4, b5, b6, b7, b8⟩, -⟩ := B.c9
  go_upto_region 2 with (go_at_call 139; refine (HCB.out _).mono ?_; rintro e_ w1 ⟨rfl, k1⟩)
  generalize hV : World.alloc (World.alloc w1 _) _ = W1
  have X : Blk W1 w1.heap.size 210 #[.int .i64 y1, .int .i64 y2, .int .i64 y3, .int .i64 y4, .int .i64 y5, .int .i64 y6] := Blk.eqw hV ((Blk.new' rfl).alloc _)
  have P : Blk W1 (w1.heap.size + 1) 319 #[.pointer (some ⟨N, 4, none⟩)] := Blk.eqw hV (Blk.new' (by simp))
  have hk : Below W.heap.size W W1 := by rw [← hV]; exact after k1 (((Below.refl _ _).alloc (Nat.le_refl _) _).alloc (by simp) _)
  have hgN := Nat.lt_of_lt_of_le R.lt k1.size
  replace B := B.on hk
  replace D := D.on hk
  replace R := R.on hk
  replace H := after H hk
  clear hV k1 hk b0 b1 b2 b3 b4 b5 b6 b7 b8 HCB
  generalize w1.heap.size = g at X P hgN ⊢
  have hn1 : N + 1 ≠ N := by omega
  have hn2 : N + 1 + 1 ≠ N := by omega
  have hn3 : g ≠ N := by omega
  have hn5 : g ≠ N + 1 := by omega
  have hn6 : g + 1 ≠ N + 1 := by omega
  have hn4 : g + 1 ≠ N := by omega
  have hNw : w.heap.size ≤ N + 1 + 1 := by have := HN.out; omega
  obtain ⟨hs1, hs2⟩ := hsy
  have HSY := Lib.hid (show -300000 ≤ sy ∧ sy ≤ 300000 by omega)
  clear hs1 hs2 hgN
  obtain ⟨⟨x0, x1, x2, x3, x4, x5⟩, -⟩ := X.c6
  cases pc
  · cases pw
    · go_upto_region 3 with first
        | (go_at_call 266; refine (HCC.out _ H).mono ?_; rintro e_ w2 ⟨rfl, k2⟩; replace B := B.on k2; replace D := D.on k2; replace R := R.on k2; replace X := X.on k2; replace P := P.on k2; replace H := after H k2; obtain ⟨⟨x0, x1, x2, x3, x4, x5⟩, -⟩ := X.c6; clear k2)
        | (go_at_call 267; refine (HCW.out _ H).mono ?_; rintro e_ w3 ⟨rfl, k3⟩; replace B := B.on k3; replace D := D.on k3; replace R := R.on k3; replace X := X.on k3; replace P := P.on k3; replace H := after H k3; obtain ⟨⟨x0, x1, x2, x3, x4, x5⟩, -⟩ := X.c6; clear k3)
      have d2 := D.cell 2
      have f2 := D.frz 2
      simp only [List.getElem?_toArray, List.getElem?_cons_zero, List.getElem?_cons_succ] at d2
      cases j
      · go_upto_region 4 with (go_at_call 140; refine (HCS.out _ H).mono ?_; rintro e_ w4 ⟨rfl, k4⟩; replace B := B.on k4; replace D := D.on k4; replace R := R.on k4; replace X := X.on k4; replace P := P.on k4; replace H := after H k4; have f2 := D.frz 2; have d2 := D.cell 2; clear k4)
        generalize hV : World.setCell _ _ _ = W5
        replace B := Blk.eqw hV (B.far (p := ⟨N + 1, 2, none⟩) (by dsimp only; omega) _)
        replace R := Blk.eqw hV (R.far (p := ⟨N + 1, 2, none⟩) (by dsimp only; omega) _)
        replace P := Blk.eqw hV (P.far (p := ⟨N + 1, 2, none⟩) (by dsimp only; omega) _)
        replace D : Blk W5 (N + 1) 81 #[.int .i64 ix, .int .i64 iz, .bool false] := Blk.eqw hV (D.set_ 2 _)
        replace H : Below w.heap.size w W5 := by rw [← hV]; exact H.setCell (p := ⟨N + 1, 2, none⟩) (by have := HN.out; dsimp only; omega) _
        clear hV d2 f2
        have hcl := brise1_c 28672 4096 262144 x y z sx sy sz wd ht ix iz st false N (N + 1) (g + 1) ⟨by decide, by decide⟩ ⟨by decide, by decide⟩ HSY.out _ B D P hn1 hn4
        have HCL := Lib.hid hcl
        clear hcl x0 x1 x2 x3 x4 x5 HCC HCW HCS
        go_upto_region 9 with (go_at_call 265; refine HCL.out.mono ?_; rintro e_ w6 ⟨rfl, k6, B6⟩; have HK5 := Lib.hid k6; have HB5 := Lib.hid (show Blk w6 N 40 #[.int .i64 x, .int .i64 y, .int .i64 z, .int .i64 sx, .int .i64 (riseI false false ps false sy), .int .i64 sz, .int .i64 wd, .int .i64 ht, .bool st] from B6); clear k6 B6)
        clear HCL
        have K5 := HK5.out
        replace H := H.trans (K5.below (n := w.heap.size) H.size (fun b hb e => by have := HN.out; omega))
        obtain ⟨⟨b0, b1, b2, b3, b4, b5, b6, b7, b8⟩, -⟩ := HB5.out.c9
        have R5 := K5.blk hn2 R
        obtain ⟨⟨r0, r1, r2, r3, r4, r5, r6, r7, r8⟩, f0, f1, f2, f3, f4, f5, f6, f7, f8⟩ := R5.c9
        clear HK5 K5 B D X P HB5 R
        go_wp2_with fail
        have R2_ := R5.st9 (.int .i64 (x)) (.int .i64 (y)) (.int .i64 (z)) (.int .i64 (sx)) (.int .i64 (riseI false false ps false sy)) (.int .i64 (sz)) (.int .i64 (wd)) (.int .i64 (ht)) (.bool (st))
        obtain ⟨⟨d0, d1, d2, d3, d4, d5, d6, d7, d8⟩, -⟩ := R2_.c9
        exact bodyPost_ret (v := .agg #[.int .i64 (x), .int .i64 (y), .int .i64 (z), .int .i64 (sx), .int .i64 (riseI false false ps false sy), .int .i64 (sz), .int .i64 (wd), .int .i64 (ht), .bool (st)]) (by simp [results, Tryz.results197, go_sem, d0, d1, d2, d3, d4, d5, d6, d7, d8]) rfl ⟨rfl, sx9_below H hNw _ _ _ _ _ _ _ _ _⟩
      · go_upto_region 4 with (go_at_call 140; refine (HCS.out _ H).mono ?_; rintro e_ w4 ⟨rfl, k4⟩; replace B := B.on k4; replace D := D.on k4; replace R := R.on k4; replace X := X.on k4; replace P := P.on k4; replace H := after H k4; have f2 := D.frz 2; have d2 := D.cell 2; clear k4)
        generalize hV : World.setCell _ _ _ = W5
        replace B := Blk.eqw hV (B.far (p := ⟨N + 1, 2, none⟩) (by dsimp only; omega) _)
        replace R := Blk.eqw hV (R.far (p := ⟨N + 1, 2, none⟩) (by dsimp only; omega) _)
        replace P := Blk.eqw hV (P.far (p := ⟨N + 1, 2, none⟩) (by dsimp only; omega) _)
        replace D : Blk W5 (N + 1) 81 #[.int .i64 ix, .int .i64 iz, .bool ps] := Blk.eqw hV (D.set_ 2 _)
        replace H : Below w.heap.size w W5 := by rw [← hV]; exact H.setCell (p := ⟨N + 1, 2, none⟩) (by have := HN.out; dsimp only; omega) _
        clear hV d2 f2
        have hcl := brise1_c 28672 4096 262144 x y z sx sy sz wd ht ix iz st ps N (N + 1) (g + 1) ⟨by decide, by decide⟩ ⟨by decide, by decide⟩ HSY.out _ B D P hn1 hn4
        have HCL := Lib.hid hcl
        clear hcl x0 x1 x2 x3 x4 x5 HCC HCW HCS
        go_upto_region 9 with (go_at_call 265; refine HCL.out.mono ?_; rintro e_ w6 ⟨rfl, k6, B6⟩; have HK5 := Lib.hid k6; have HB5 := Lib.hid (show Blk w6 N 40 #[.int .i64 x, .int .i64 y, .int .i64 z, .int .i64 sx, .int .i64 (riseI false false ps true sy), .int .i64 sz, .int .i64 wd, .int .i64 ht, .bool st] from B6); clear k6 B6)
        clear HCL
        have K5 := HK5.out
        replace H := H.trans (K5.below (n := w.heap.size) H.size (fun b hb e => by have := HN.out; omega))
        obtain ⟨⟨b0, b1, b2, b3, b4, b5, b6, b7, b8⟩, -⟩ := HB5.out.c9
        have R5 := K5.blk hn2 R
        obtain ⟨⟨r0, r1, r2, r3, r4, r5, r6, r7, r8⟩, f0, f1, f2, f3, f4, f5, f6, f7, f8⟩ := R5.c9
        clear HK5 K5 B D X P HB5 R
        go_wp2_with fail
        have R2_ := R5.st9 (.int .i64 (x)) (.int .i64 (y)) (.int .i64 (z)) (.int .i64 (sx)) (.int .i64 (riseI false false ps true sy)) (.int .i64 (sz)) (.int .i64 (wd)) (.int .i64 (ht)) (.bool (st))
        obtain ⟨⟨d0, d1, d2, d3, d4, d5, d6, d7, d8⟩, -⟩ := R2_.c9
        exact bodyPost_ret (v := .agg #[.int .i64 (x), .int .i64 (y), .int .i64 (z), .int .i64 (sx), .int .i64 (riseI false false ps true sy), .int .i64 (sz), .int .i64 (wd), .int .i64 (ht), .bool (st)]) (by simp [results, Tryz.results197, go_sem, d0, d1, d2, d3, d4, d5, d6, d7, d8]) rfl ⟨rfl, sx9_below H hNw _ _ _ _ _ _ _ _ _⟩
    · go_upto_region 8 with first
        | (go_at_call 266; refine (HCC.out _ H).mono ?_; rintro e_ w2 ⟨rfl, k2⟩; replace B := B.on k2; replace D := D.on k2; replace R := R.on k2; replace X := X.on k2; replace P := P.on k2; replace H := after H k2; obtain ⟨⟨x0, x1, x2, x3, x4, x5⟩, -⟩ := X.c6; clear k2)
        | (go_at_call 267; refine (HCW.out _ H).mono ?_; rintro e_ w3 ⟨rfl, k3⟩; replace B := B.on k3; replace D := D.on k3; replace R := R.on k3; replace X := X.on k3; replace P := P.on k3; replace H := after H k3; obtain ⟨⟨x0, x1, x2, x3, x4, x5⟩, -⟩ := X.c6; clear k3)
      have hcl := brise1_c 6144 1024 8192 x y z sx sy sz wd ht ix iz st j N (N + 1) (g + 1) ⟨by decide, by decide⟩ ⟨by decide, by decide⟩ HSY.out _ B D P hn1 hn4
      have HCL := Lib.hid hcl
      clear hcl x0 x1 x2 x3 x4 x5 HCC HCW HCS
      go_upto_region 9 with (go_at_call 265; refine HCL.out.mono ?_; rintro e_ w6 ⟨rfl, k6, B6⟩; have HK5 := Lib.hid k6; have HB5 := Lib.hid (show Blk w6 N 40 #[.int .i64 x, .int .i64 y, .int .i64 z, .int .i64 sx, .int .i64 (riseI false true ps j sy), .int .i64 sz, .int .i64 wd, .int .i64 ht, .bool st] from B6); clear k6 B6)
      clear HCL
      have K5 := HK5.out
      replace H := H.trans (K5.below (n := w.heap.size) H.size (fun b hb e => by have := HN.out; omega))
      obtain ⟨⟨b0, b1, b2, b3, b4, b5, b6, b7, b8⟩, -⟩ := HB5.out.c9
      have R5 := K5.blk hn2 R
      obtain ⟨⟨r0, r1, r2, r3, r4, r5, r6, r7, r8⟩, f0, f1, f2, f3, f4, f5, f6, f7, f8⟩ := R5.c9
      clear HK5 K5 B D X P HB5 R
      go_wp2_with fail
      have R2_ := R5.st9 (.int .i64 (x)) (.int .i64 (y)) (.int .i64 (z)) (.int .i64 (sx)) (.int .i64 (riseI false true ps j sy)) (.int .i64 (sz)) (.int .i64 (wd)) (.int .i64 (ht)) (.bool (st))
      obtain ⟨⟨d0, d1, d2, d3, d4, d5, d6, d7, d8⟩, -⟩ := R2_.c9
      exact bodyPost_ret (v := .agg #[.int .i64 (x), .int .i64 (y), .int .i64 (z), .int .i64 (sx), .int .i64 (riseI false true ps j sy), .int .i64 (sz), .int .i64 (wd), .int .i64 (ht), .bool (st)]) (by simp [results, Tryz.results197, go_sem, d0, d1, d2, d3, d4, d5, d6, d7, d8]) rfl ⟨rfl, sx9_below H hNw _ _ _ _ _ _ _ _ _⟩
  · go_upto_region 6 with (go_at_call 266; refine (HCC.out _ H).mono ?_; rintro e_ w2 ⟨rfl, k2⟩; replace B := B.on k2; replace D := D.on k2; replace R := R.on k2; replace X := X.on k2; replace P := P.on k2; replace H := after H k2; obtain ⟨⟨x0, x1, x2, x3, x4, x5⟩, -⟩ := X.c6; clear k2)
    have hcl := brise1_c 8192 4096 8192 x y z sx sy sz wd ht ix iz st j N (N + 1) (g + 1) ⟨by decide, by decide⟩ ⟨by decide, by decide⟩ HSY.out _ B D P hn1 hn4
    have HCL := Lib.hid hcl
    clear hcl x0 x1 x2 x3 x4 x5 HCC HCW HCS
    go_upto_region 9 with (go_at_call 265; refine HCL.out.mono ?_; rintro e_ w6 ⟨rfl, k6, B6⟩; have HK5 := Lib.hid k6; have HB5 := Lib.hid (show Blk w6 N 40 #[.int .i64 x, .int .i64 y, .int .i64 z, .int .i64 sx, .int .i64 (riseI true pw ps j sy), .int .i64 sz, .int .i64 wd, .int .i64 ht, .bool st] from B6); clear k6 B6)
    clear HCL
    have K5 := HK5.out
    replace H := H.trans (K5.below (n := w.heap.size) H.size (fun b hb e => by have := HN.out; omega))
    obtain ⟨⟨b0, b1, b2, b3, b4, b5, b6, b7, b8⟩, -⟩ := HB5.out.c9
    have R5 := K5.blk hn2 R
    obtain ⟨⟨r0, r1, r2, r3, r4, r5, r6, r7, r8⟩, f0, f1, f2, f3, f4, f5, f6, f7, f8⟩ := R5.c9
    clear HK5 K5 B D X P HB5 R
    go_wp2_with fail
    have R2_ := R5.st9 (.int .i64 (x)) (.int .i64 (y)) (.int .i64 (z)) (.int .i64 (sx)) (.int .i64 (riseI true pw ps j sy)) (.int .i64 (sz)) (.int .i64 (wd)) (.int .i64 (ht)) (.bool (st))
    obtain ⟨⟨d0, d1, d2, d3, d4, d5, d6, d7, d8⟩, -⟩ := R2_.c9
    exact bodyPost_ret (v := .agg #[.int .i64 (x), .int .i64 (y), .int .i64 (z), .int .i64 (sx), .int .i64 (riseI true pw ps j sy), .int .i64 (sz), .int .i64 (wd), .int .i64 (ht), .bool (st)]) (by simp [results, Tryz.results197, go_sem, d0, d1, d2, d3, d4, d5, d6, d7, d8]) rfl ⟨rfl, sx9_below H hNw _ _ _ _ _ _ _ _ _⟩
end Go.Proofs.YtmbccnioijokfaaGreatDoor

namespace Go.Proofs.YtmbccnioijokfaaGreatDoor
open Go.RowKit Go.Shelf
attribute [local go_sem] Oper.semAt_some
set_option maxRecDepth 100000 in
set_option maxHeartbeats 2000000 in
theorem pwent_c (x y : B6) (h : -100000000000000 ≤ x.1 ∧ x.1 ≤ 100000000000000) (h2 : -100000000000000 ≤ x.2.2.1 ∧ x.2.2.1 ≤ 100000000000000) (k : -100000000000000 ≤ y.1 ∧ y.1 ≤ 100000000000000) (k2 : -100000000000000 ≤ y.2.2.1 ∧ y.2.2.1 ≤ 100000000000000) (w : World) :
    Calls Tryz.prog 315 #[.agg (ag6 x), .agg (ag6 y)] w fun r w' => r = .returned (.int .i64 (wentI x y)) ∧ Below w.heap.size w w' := by
  obtain ⟨a, b, c, d, e, f⟩ := x
  obtain ⟨a', b', c', d', e', f'⟩ := y
  dsimp only at h h2 k k2
  simp only [ag6, wentI]
  have hmx := @run_mx Tryz.prog
  have U : Blk ((w.alloc (.cells #[.int .i64 a, .int .i64 b, .int .i64 c, .int .i64 d, .int .i64 e, .int .i64 f] 210)).alloc (.cells #[.int .i64 a', .int .i64 b', .int .i64 c', .int .i64 d', .int .i64 e', .int .i64 f'] 210)) w.heap.size 210 #[.int .i64 a, .int .i64 b, .int .i64 c, .int .i64 d, .int .i64 e, .int .i64 f] := (Blk.new' rfl).alloc _
  have D : Blk ((w.alloc (.cells #[.int .i64 a, .int .i64 b, .int .i64 c, .int .i64 d, .int .i64 e, .int .i64 f] 210)).alloc (.cells #[.int .i64 a', .int .i64 b', .int .i64 c', .int .i64 d', .int .i64 e', .int .i64 f'] 210)) (w.heap.size + 1) 210 #[.int .i64 a', .int .i64 b', .int .i64 c', .int .i64 d', .int .i64 e', .int .i64 f'] := Blk.new' (by simp)
  obtain ⟨u0, u1, u2, u3, u4, u5⟩ := U.re6
  obtain ⟨d0, d1, d2, d3, d4, d5⟩ := D.re6
  have r1 : -9223372036854775808 ≤ a' - a ∧ a' - a ≤ 9223372036854775807 := by omega
  have r2 : -9223372036854775808 ≤ c' - c ∧ c' - c ≤ 9223372036854775807 := by omega
  obtain ⟨r1, s1⟩ := r1
  obtain ⟨r2, s2⟩ := r2
  have e1 : IntKind.i64.wrap (a' - a) = a' - a := IntWalk.i64_in _ ⟨r1, s1⟩
  have e2 : IntKind.i64.wrap (c' - c) = c' - c := IntWalk.i64_in _ ⟨r2, s2⟩
  have m1 : -(a' - a) = a - a' := by omega
  have m2 : -(c' - c) = c - c' := by omega
  have b1 : -200000000000000 ≤ mxI (a' - a) (a - a') ∧ mxI (a' - a) (a - a') ≤ 200000000000000 := by unfold mxI; omega
  have b2 : -200000000000000 ≤ mxI (c' - c) (c - c') ∧ mxI (c' - c) (c - c') ≤ 200000000000000 := by unfold mxI; omega
  obtain ⟨b1, b3⟩ := b1
  obtain ⟨b2, b4⟩ := b2
  go_enter Tryz.func315, Tryz.ntmps315
  go_wp2_with fail
  refine wp_region_quiet_below (by kernel_rfl) (by kernel_rfl) ?_
  repeat (go_big_quiet_step (fail))
  refine wpQuiet_nil ?_
  intro w' hw'
  obtain ⟨rg, rfl⟩ := hw'
  clear u0 u1 u2 u3 u4 u5 d0 d1 d2 d3 d4 d5
  go_wp2_with fail
  go_returns
  refine ⟨rfl, ?_⟩
  (repeat' (first | (with_reducible exact Below.refl _ _) | (with_reducible assumption) | (with_reducible refine Below.alloc ?_ ?_ _) | (with_reducible refine Below.drew ?_) | (with_reducible refine Below.setCell ?_ ?_ _) | (with_reducible refine after ?_ (below_regrown _ _ _)) | (refine after ?_ (by with_reducible assumption)) | go_size))
end Go.Proofs.YtmbccnioijokfaaGreatDoor

namespace Go.Proofs.YtmbccnioijokfaaGreatDoor
open Go.RowKit Go.Shelf
attribute [local go_sem] Oper.semAt_some
set_option maxRecDepth 100000 in
set_option maxHeartbeats 8000000 in
theorem pstep_c (V : FuncId) (lv : Value) (val : Cl → Int) (x : B6) (dx dy dz up M : Int) (hM : M ≤ 71500000000000) (hM0 : 0 ≤ M) (hB : Sm6 M x) (w : World)
    (eV : ∀ args w, (callFunc V args).run Tryz.prog w = .ok (.enter V args) w) (hV : Tells Tryz.prog V lv val w) :
    Calls Tryz.prog 268 #[.func (.func V) #[lv] #[], .agg (ag6 x), .agg #[.int .i64 dx, .int .i64 dy, .int .i64 dz], .int .i64 up] w fun r w' => r = .returned (bhT (stepV val x dx dy dz up)) ∧ Below w.heap.size w w' := by
  have t0 := hB.bd
  have tH := (hi1_sm (val := val) (up := up) hB hM0 (by omega)).bd
  have tC := (oC_sm (val := val) (up := up) (dx := dx) (dz := dz) hB hM0 (by omega)).bd
  have tY := (st3_sm (val := val) (dx := dx) (dy := dy) (dz := dz) hB hM0 (by omega)).bd
  have C0 := fun W (h : Below w.heap.size w W) => pmove_c V lv val x dx dy dz M hM hM0 hB W eV (hV.on h)
  have CS := fun W (h : Below w.heap.size w W) => pmStands_c V lv val x.1 x.2.1 x.2.2.1 x.2.2.2.1 x.2.2.2.2.1 x.2.2.2.2.2 (by omega) (by omega) (hB.under hM0 (by omega)).1 W eV (hV.on h)
  have C1 := fun W (h : Below w.heap.size w W) => palong_c V lv val x 1 (mnI up 65536) M (by omega) hM0 hB W eV (hV.on h)
  have C2 := fun W (h : Below w.heap.size w W) => palong_c V lv val (hi1 val x up).1 0 dx (M + 10000000) (by omega) (by omega) (hi1_sm hB hM0 (by omega)) W eV (hV.on h)
  have C3 := fun W (h : Below w.heap.size w W) => palong_c V lv val (oA val x dx up).1 2 dz (M + 20000000) (by omega) (by omega) (oA_sm hB hM0 (by omega)) W eV (hV.on h)
  have C4 := fun W (h : Below w.heap.size w W) => palong_c V lv val (oB val x dx dz up).1 1 (-rise val x up) (M + 30000000) (by omega) (by omega) (oB_sm hB hM0 (by omega)) W eV (hV.on h)
  have CW1 := fun W => pwent_c x (oC val x dx dz up).1 (by omega) (by omega) (by omega) (by omega) W
  have CW2 := fun W => pwent_c x (st3 val x dx dy dz) (by omega) (by omega) (by omega) (by omega) W
  have q1 : -9223372036854775808 ≤ (hi1 val x up).1.2.1 - x.2.1 ∧ (hi1 val x up).1.2.1 - x.2.1 ≤ 9223372036854775807 := by omega
  have q2 : -9223372036854775808 ≤ -((hi1 val x up).1.2.1 - x.2.1) ∧ -((hi1 val x up).1.2.1 - x.2.1) ≤ 9223372036854775807 := by omega
  clear t0 tH tC tY hM hM0 hB hV eV
  have fC : oC val x dx dz up = al6 val (oB val x dx dz up).1 1 (-rise val x up) := rfl
  have fB : oB val x dx dz up = al6 val (oA val x dx up).1 2 dz := rfl
  have fA : oA val x dx up = al6 val (hi1 val x up).1 0 dx := rfl
  have fH : hi1 val x up = al6 val x 1 (mnI up 65536) := rfl
  have fR : rise val x up = (hi1 val x up).1.2.1 - x.2.1 := rfl
  rw [← fC] at C4
  rw [← fB] at C3
  rw [← fA] at C2
  rw [← fH] at C1
  rw [fR] at C4
  have fS : unB val x = (cellsI x.1 (cutI (x.2.1 - 1)) x.2.2.1 x.2.2.2.1 x.2.1 x.2.2.2.2.2).any fun c => solB (val c) := rfl
  rw [← fS] at CS
  unfold moveT at C0
  unfold stepV
  clear fC fB fA fH fR fS
  generalize hi1 val x up = H at C1 C2 q1 q2 C4
  generalize oA val x dx up = A at C2 C3 ⊢
  generalize oB val x dx dz up = B at C3 C4 ⊢
  generalize oC val x dx dz up = C at C4 CW1 ⊢
  generalize st3 val x dx dy dz = y at C0 CW2 ⊢
  generalize hx2 val x dx dy = u0 at C0 ⊢
  generalize hy1 val x dy = u1 at C0 ⊢
  generalize hz3 val x dx dy dz = u2 at C0 ⊢
  generalize unB val x = st at CS ⊢
  generalize wentI x C.1 = n1 at CW1 ⊢
  generalize wentI x y = n2 at CW2 ⊢
  obtain ⟨r, hr⟩ : ∃ r, r = stepOf y C.1 u0 u1 u2 A.2 B.2 st up n1 n2 := ⟨_, rfl⟩
  rw [← hr]
  obtain ⟨a, b, c, d, e, f⟩ := x
  obtain ⟨y1, y2, y3, y4, y5, y6⟩ := y
  obtain ⟨⟨h1, h2, h3, h4, h5, h6⟩, sh⟩ := H
  obtain ⟨⟨a1, a2, a3, a4, a5, a6⟩, sa⟩ := A
  obtain ⟨⟨b1, b2, b3, b4, b5, b6⟩, sb⟩ := B
  obtain ⟨⟨c1, c2, c3, c4, c5, c6⟩, sc⟩ := C
  simp only [alT, ag6, ah3, bhT] at *
  obtain ⟨q1, q3⟩ := q1
  obtain ⟨q2, q4⟩ := q2
  have HR := Lib.hid hr
  clear hr
  have HC0 := Lib.hid C0
  have HC1 := Lib.hid C1
  have HC2 := Lib.hid C2
  have HC3 := Lib.hid C3
  have HC4 := Lib.hid C4
  have HCS := Lib.hid CS
  have HW1 := Lib.hid CW1
  have HW2 := Lib.hid CW2
  clear C0 C1 C2 C3 C4 CS CW1 CW2
  obtain ⟨W, hW⟩ : ∃ W, W = (((w.alloc (.cells #[.int .i64 a, .int .i64 b, .int .i64 c, .int .i64 d, .int .i64 e, .int .i64 f] 210)).alloc (.cells #[.int .i64 dx, .int .i64 dy, .int .i64 dz] 38)).alloc (.cells #[.int .i64 0, .int .i64 0, .int .i64 0, .int .i64 0, .int .i64 0, .int .i64 0] 210)).alloc (.cells #[.bool false, .bool false, .bool false] 322) := ⟨_, rfl⟩
  have H : Below w.heap.size w W := by rw [hW]; go_grown
  have hs : W.heap.size = w.heap.size + 4 := by rw [hW]; simp
  obtain ⟨N, hN⟩ : ∃ N, N = w.heap.size := ⟨_, rfl⟩
  rw [← hN] at hs
  have HS := Lib.hid hs
  clear hs
  have U : Blk W N 210 _ := Blk.eqw hW.symm (by rw [hN]; exact (((Blk.new' rfl).alloc _).alloc _).alloc _)
  have D : Blk W (N + 1) 38 _ := Blk.eqw hW.symm (by rw [hN]; exact ((Blk.new' (by simp)).alloc _).alloc _)
  have R0 : Blk W (N + 1 + 1) 210 _ := Blk.eqw hW.symm (by rw [hN]; exact (Blk.new' (by simp)).alloc _)
  have R1 : Blk W (N + 1 + 1 + 1) 322 _ := Blk.eqw hW.symm (by rw [hN]; exact Blk.new' (by simp))
  go_enter Tryz.func268, Tryz.ntmps268
  go_upto_region 1 with (fail)
  rw [← hW, ← hN]
  have HN := Lib.hid hN
  clear hW hN
  obtain ⟨u0', uu1, uu2, uu3, uu4, uu5⟩ := U.c6.1
  obtain ⟨v0, v1, v2, -, -, -⟩ := D.c3
  go_upto_region 2 with (go_at_call 272; refine (HC0.out _ H).mono ?_; rintro e_ w1 ⟨rfl, k1⟩)
  generalize hV : World.alloc (World.alloc w1 _) _ = Y1
  have hy : Below w1.heap.size w1 Y1 := by rw [← hV]; go_grown
  have P : Blk Y1 w1.heap.size 210 #[.int .i64 y1, .int .i64 y2, .int .i64 y3, .int .i64 y4, .int .i64 y5, .int .i64 y6] := Blk.eqw hV ((Blk.new' rfl).alloc _)
  have Q : Blk Y1 (w1.heap.size + 1) 322 #[.bool u0, .bool u1, .bool u2] := Blk.eqw hV (Blk.new' (by simp))
  have hgp : N + 4 ≤ w1.heap.size := by rw [← HS.out]; exact k1.size
  have HY := Lib.hid (after k1 hy)
  replace U := U.on k1
  replace D := D.on k1
  replace R0 := R0.on k1
  replace R1 := R1.on k1
  replace U := U.on hy
  replace D := D.on hy
  replace R0 := R0.on hy
  replace R1 := R1.on hy
  replace H := after (after H k1) hy
  clear hV hy k1 u0' uu1 uu2 uu3 uu4 uu5 v0 v1 v2
  generalize w1.heap.size = gp at P Q hgp ⊢
  have HH := Lib.hid H
  clear H HC0
  have ways : (u0 = false ∧ u2 = false) ∨ (u0 = false ∧ u2 = true ∧ up ≤ 0) ∨ (u0 = true ∧ up ≤ 0) ∨ (u0 = false ∧ u2 = true ∧ 0 < up ∧ st = false) ∨ (u0 = true ∧ 0 < up ∧ st = false) ∨ (u0 = false ∧ u2 = true ∧ 0 < up ∧ st = true) ∨ (u0 = true ∧ 0 < up ∧ st = true) := by
    cases u0 <;> cases u2 <;> cases st <;> simp <;> omega
  obtain ⟨u0', uu1, uu2, uu3, uu4, uu5⟩ := U.c6.1
  rcases ways with ⟨rfl, rfl⟩ | ⟨rfl, rfl, hu⟩ | ⟨rfl, hu⟩ | ⟨rfl, rfl, hu, rfl⟩ | ⟨rfl, hu, rfl⟩ | ⟨rfl, rfl, hu, rfl⟩ | ⟨rfl, hu, rfl⟩
  · obtain rfl : r = ((y1, y2, y3, y4, y5, y6), false, u1, false) := by rw [HR.out, stepOf_no (.inl ⟨rfl, rfl⟩)]
    obtain ⟨t0, t1, t2, -, -, -⟩ := Q.c3
    have x0 := fun f d os => (P.sp (D := [N + 1 + 1, N + 1 + 1 + 1]) (by simp; omega) f d os).c6.1
    have y0 := fun f d os => (Q.sp (D := [N + 1 + 1, N + 1 + 1 + 1]) (by simp; omega) f d os).c3
    go_upto_region 3 with (fail)
    have B1 := R0
    have B2 := R1
    refine wp_two [0, 0, 2, 2] 2 (N + 1 + 1) (210) (#[.int .i64 y1, .int .i64 y2, .int .i64 y3, .int .i64 y4, .int .i64 y5, .int .i64 y6]) 3 (N + 1 + 1 + 1) (322) (#[.bool false, .bool u1, .bool false]) (by omega) (by kernel_rfl) (by kernel_rfl) ?_
    repeat (first | (refine wpQs_s ?_) | (refine wpQs_q (fun K hK => ?_); go_simp; first | (refine hK _ ?_; clear hK K) | (apply Exists.intro; refine ⟨fun _ => ?_, hK _ ?_⟩; (fail); clear hK K)))
    refine wpQs_nil ?_
    repeat (refine wpLs_skip ?_)
    refine wpLs_one ?s1 (fun vs1_ => ?_)
    case s1 =>
      intro w_ hw_ hp_
      have L2 := hp_.blk (by simp [Ds2]) B1
      obtain ⟨⟨q0, q1, q2, q3, q4, q5⟩, f0, f1, f2, f3, f4, f5⟩ := L2.c6
      go_simp
      exact two_fst (by decide) kept6 (L2.st6 _ _ _ _ _ _)
    refine wpLs_one ?s2 (fun vs2_ => ?_)
    case s2 =>
      intro w_ hw_ hp_
      have T2 := hp_.blk (by simp [Ds2]) B2
      obtain ⟨q0, q1, q2, f0, f1, f2⟩ := T2.c3
      go_simp
      exact two_snd (by decide) kept3 (T2.st3 _ _ _)
    refine wpLs_nilD ?_
    simp only [tails]
    rintro w_ k_ ⟨⟨-, r1⟩, r2⟩
    obtain ⟨⟨m0, m1, m2, m3, m4, m5⟩, -, -, -, -, -, -⟩ := (r1.1 rfl).c6
    obtain ⟨j0, j1, j2, -, -, -⟩ := (r2.2 rfl).c3
    clear r1 r2 x0 y0 B1 B2
    simp only [wpList, Exit.then]
    rename_i hKret
    refine hKret _ _ (wp_ret ?_)
    try simp only [Exit.then]
    refine bodyPost_ret (v := .tuple #[.agg #[.int .i64 y1, .int .i64 y2, .int .i64 y3, .int .i64 y4, .int .i64 y5, .int .i64 y6], .agg #[.bool false, .bool u1, .bool false]]) (by simp [results, Tryz.f268, go_sem, m0, m1, m2, m3, m4, m5, j0, j1, j2]) rfl ⟨rfl, ?_⟩
    have hN_ := HN.out
    exact (HH.out).trans (k_.below (HH.out).size (fun b hb => by simp; omega))
  · obtain rfl : r = ((y1, y2, y3, y4, y5, y6), false, u1, true) := by rw [HR.out, stepOf_no (.inr (.inl hu))]
    obtain ⟨t0, t1, t2, -, -, -⟩ := Q.c3
    have hu1 : ¬ 0 < up := by omega
    have x0 := fun f d os => (P.sp (D := [N + 1 + 1, N + 1 + 1 + 1]) (by simp; omega) f d os).c6.1
    have y0 := fun f d os => (Q.sp (D := [N + 1 + 1, N + 1 + 1 + 1]) (by simp; omega) f d os).c3
    go_upto_region 3 with (fail)
    have B1 := R0
    have B2 := R1
    refine wp_two [0, 0, 2, 2] 2 (N + 1 + 1) (210) (#[.int .i64 y1, .int .i64 y2, .int .i64 y3, .int .i64 y4, .int .i64 y5, .int .i64 y6]) 3 (N + 1 + 1 + 1) (322) (#[.bool false, .bool u1, .bool true]) (by omega) (by kernel_rfl) (by kernel_rfl) ?_
    repeat (first | (refine wpQs_s ?_) | (refine wpQs_q (fun K hK => ?_); go_simp; first | (refine hK _ ?_; clear hK K) | (apply Exists.intro; refine ⟨fun _ => ?_, hK _ ?_⟩; (fail); clear hK K)))
    refine wpQs_nil ?_
    repeat (refine wpLs_skip ?_)
    refine wpLs_one ?s1 (fun vs1_ => ?_)
    case s1 =>
      intro w_ hw_ hp_
      have L2 := hp_.blk (by simp [Ds2]) B1
      obtain ⟨⟨q0, q1, q2, q3, q4, q5⟩, f0, f1, f2, f3, f4, f5⟩ := L2.c6
      go_simp
      exact two_fst (by decide) kept6 (L2.st6 _ _ _ _ _ _)
    refine wpLs_one ?s2 (fun vs2_ => ?_)
    case s2 =>
      intro w_ hw_ hp_
      have T2 := hp_.blk (by simp [Ds2]) B2
      obtain ⟨q0, q1, q2, f0, f1, f2⟩ := T2.c3
      go_simp
      exact two_snd (by decide) kept3 (T2.st3 _ _ _)
    refine wpLs_nilD ?_
    simp only [tails]
    rintro w_ k_ ⟨⟨-, r1⟩, r2⟩
    obtain ⟨⟨m0, m1, m2, m3, m4, m5⟩, -, -, -, -, -, -⟩ := (r1.1 rfl).c6
    obtain ⟨j0, j1, j2, -, -, -⟩ := (r2.2 rfl).c3
    clear r1 r2 x0 y0 B1 B2
    simp only [wpList, Exit.then]
    rename_i hKret
    refine hKret _ _ (wp_ret ?_)
    try simp only [Exit.then]
    refine bodyPost_ret (v := .tuple #[.agg #[.int .i64 y1, .int .i64 y2, .int .i64 y3, .int .i64 y4, .int .i64 y5, .int .i64 y6], .agg #[.bool false, .bool u1, .bool true]]) (by simp [results, Tryz.f268, go_sem, m0, m1, m2, m3, m4, m5, j0, j1, j2]) rfl ⟨rfl, ?_⟩
    have hN_ := HN.out
    exact (HH.out).trans (k_.below (HH.out).size (fun b hb => by simp; omega))
  · obtain rfl : r = ((y1, y2, y3, y4, y5, y6), true, u1, u2) := by rw [HR.out, stepOf_no (.inr (.inl hu))]
    obtain ⟨t0, t1, t2, -, -, -⟩ := Q.c3
    have hu1 : ¬ 0 < up := by omega
    have x0 := fun f d os => (P.sp (D := [N + 1 + 1, N + 1 + 1 + 1]) (by simp; omega) f d os).c6.1
    have y0 := fun f d os => (Q.sp (D := [N + 1 + 1, N + 1 + 1 + 1]) (by simp; omega) f d os).c3
    go_upto_region 3 with (fail)
    have B1 := R0
    have B2 := R1
    refine wp_two [0, 0, 2, 2] 2 (N + 1 + 1) (210) (#[.int .i64 y1, .int .i64 y2, .int .i64 y3, .int .i64 y4, .int .i64 y5, .int .i64 y6]) 3 (N + 1 + 1 + 1) (322) (#[.bool true, .bool u1, .bool u2]) (by omega) (by kernel_rfl) (by kernel_rfl) ?_
    repeat (first | (refine wpQs_s ?_) | (refine wpQs_q (fun K hK => ?_); go_simp; first | (refine hK _ ?_; clear hK K) | (apply Exists.intro; refine ⟨fun _ => ?_, hK _ ?_⟩; (fail); clear hK K)))
    refine wpQs_nil ?_
    repeat (refine wpLs_skip ?_)
    refine wpLs_one ?s1 (fun vs1_ => ?_)
    case s1 =>
      intro w_ hw_ hp_
      have L2 := hp_.blk (by simp [Ds2]) B1
      obtain ⟨⟨q0, q1, q2, q3, q4, q5⟩, f0, f1, f2, f3, f4, f5⟩ := L2.c6
      go_simp
      exact two_fst (by decide) kept6 (L2.st6 _ _ _ _ _ _)
    refine wpLs_one ?s2 (fun vs2_ => ?_)
    case s2 =>
      intro w_ hw_ hp_
      have T2 := hp_.blk (by simp [Ds2]) B2
      obtain ⟨q0, q1, q2, f0, f1, f2⟩ := T2.c3
      go_simp
      exact two_snd (by decide) kept3 (T2.st3 _ _ _)
    refine wpLs_nilD ?_
    simp only [tails]
    rintro w_ k_ ⟨⟨-, r1⟩, r2⟩
    obtain ⟨⟨m0, m1, m2, m3, m4, m5⟩, -, -, -, -, -, -⟩ := (r1.1 rfl).c6
    obtain ⟨j0, j1, j2, -, -, -⟩ := (r2.2 rfl).c3
    clear r1 r2 x0 y0 B1 B2
    simp only [wpList, Exit.then]
    rename_i hKret
    refine hKret _ _ (wp_ret ?_)
    try simp only [Exit.then]
    refine bodyPost_ret (v := .tuple #[.agg #[.int .i64 y1, .int .i64 y2, .int .i64 y3, .int .i64 y4, .int .i64 y5, .int .i64 y6], .agg #[.bool true, .bool u1, .bool u2]]) (by simp [results, Tryz.f268, go_sem, m0, m1, m2, m3, m4, m5, j0, j1, j2]) rfl ⟨rfl, ?_⟩
    have hN_ := HN.out
    exact (HH.out).trans (k_.below (HH.out).size (fun b hb => by simp; omega))
  · obtain rfl : r = ((y1, y2, y3, y4, y5, y6), false, u1, true) := by rw [HR.out, stepOf_no (.inr (.inr (.inl rfl)))]
    obtain ⟨t0, t1, t2, -, -, -⟩ := Q.c3
    have hu1 : decide (up ≤ 0) = false := by simpa using hu
    go_upto_region 3 with (go_at_call 140; refine (HCS.out _ HH.out).mono ?_; rintro e_ w2 ⟨rfl, k2⟩)
    clear t0 t1 t2 u0' uu1 uu2 uu3 uu4 uu5
    replace P := P.on k2
    replace Q := Q.on k2
    replace R0 := R0.on k2
    replace R1 := R1.on k2
    replace HH := Lib.hid (after HH.out k2)
    have x0 := fun f d os => (P.sp (D := [N + 1 + 1, N + 1 + 1 + 1]) (by simp; omega) f d os).c6.1
    have y0 := fun f d os => (Q.sp (D := [N + 1 + 1, N + 1 + 1 + 1]) (by simp; omega) f d os).c3
    go_upto_region 3 with (fail)
    have B1 := R0
    have B2 := R1
    refine wp_two [0, 0, 2, 2] 2 (N + 1 + 1) (210) (#[.int .i64 y1, .int .i64 y2, .int .i64 y3, .int .i64 y4, .int .i64 y5, .int .i64 y6]) 3 (N + 1 + 1 + 1) (322) (#[.bool false, .bool u1, .bool true]) (by omega) (by kernel_rfl) (by kernel_rfl) ?_
    repeat (first | (refine wpQs_s ?_) | (refine wpQs_q (fun K hK => ?_); go_simp; first | (refine hK _ ?_; clear hK K) | (apply Exists.intro; refine ⟨fun _ => ?_, hK _ ?_⟩; (fail); clear hK K)))
    refine wpQs_nil ?_
    repeat (refine wpLs_skip ?_)
    refine wpLs_one ?s1 (fun vs1_ => ?_)
    case s1 =>
      intro w_ hw_ hp_
      have L2 := hp_.blk (by simp [Ds2]) B1
      obtain ⟨⟨q0, q1, q2, q3, q4, q5⟩, f0, f1, f2, f3, f4, f5⟩ := L2.c6
      go_simp
      exact two_fst (by decide) kept6 (L2.st6 _ _ _ _ _ _)
    refine wpLs_one ?s2 (fun vs2_ => ?_)
    case s2 =>
      intro w_ hw_ hp_
      have T2 := hp_.blk (by simp [Ds2]) B2
      obtain ⟨q0, q1, q2, f0, f1, f2⟩ := T2.c3
      go_simp
      exact two_snd (by decide) kept3 (T2.st3 _ _ _)
    refine wpLs_nilD ?_
    simp only [tails]
    rintro w_ k_ ⟨⟨-, r1⟩, r2⟩
    obtain ⟨⟨m0, m1, m2, m3, m4, m5⟩, -, -, -, -, -, -⟩ := (r1.1 rfl).c6
    obtain ⟨j0, j1, j2, -, -, -⟩ := (r2.2 rfl).c3
    clear r1 r2 x0 y0 B1 B2
    simp only [wpList, Exit.then]
    rename_i hKret
    refine hKret _ _ (wp_ret ?_)
    try simp only [Exit.then]
    refine bodyPost_ret (v := .tuple #[.agg #[.int .i64 y1, .int .i64 y2, .int .i64 y3, .int .i64 y4, .int .i64 y5, .int .i64 y6], .agg #[.bool false, .bool u1, .bool true]]) (by simp [results, Tryz.f268, go_sem, m0, m1, m2, m3, m4, m5, j0, j1, j2]) rfl ⟨rfl, ?_⟩
    have hN_ := HN.out
    exact (HH.out).trans (k_.below (HH.out).size (fun b hb => by simp; omega))
  · obtain rfl : r = ((y1, y2, y3, y4, y5, y6), true, u1, u2) := by rw [HR.out, stepOf_no (.inr (.inr (.inl rfl)))]
    obtain ⟨t0, t1, t2, -, -, -⟩ := Q.c3
    have hu1 : decide (up ≤ 0) = false := by simpa using hu
    go_upto_region 3 with (go_at_call 140; refine (HCS.out _ HH.out).mono ?_; rintro e_ w2 ⟨rfl, k2⟩)
    clear t0 t1 t2 u0' uu1 uu2 uu3 uu4 uu5
    replace P := P.on k2
    replace Q := Q.on k2
    replace R0 := R0.on k2
    replace R1 := R1.on k2
    replace HH := Lib.hid (after HH.out k2)
    have x0 := fun f d os => (P.sp (D := [N + 1 + 1, N + 1 + 1 + 1]) (by simp; omega) f d os).c6.1
    have y0 := fun f d os => (Q.sp (D := [N + 1 + 1, N + 1 + 1 + 1]) (by simp; omega) f d os).c3
    go_upto_region 3 with (fail)
    have B1 := R0
    have B2 := R1
    refine wp_two [0, 0, 2, 2] 2 (N + 1 + 1) (210) (#[.int .i64 y1, .int .i64 y2, .int .i64 y3, .int .i64 y4, .int .i64 y5, .int .i64 y6]) 3 (N + 1 + 1 + 1) (322) (#[.bool true, .bool u1, .bool u2]) (by omega) (by kernel_rfl) (by kernel_rfl) ?_
    repeat (first | (refine wpQs_s ?_) | (refine wpQs_q (fun K hK => ?_); go_simp; first | (refine hK _ ?_; clear hK K) | (apply Exists.intro; refine ⟨fun _ => ?_, hK _ ?_⟩; (fail); clear hK K)))
    refine wpQs_nil ?_
    repeat (refine wpLs_skip ?_)
    refine wpLs_one ?s1 (fun vs1_ => ?_)
    case s1 =>
      intro w_ hw_ hp_
      have L2 := hp_.blk (by simp [Ds2]) B1
      obtain ⟨⟨q0, q1, q2, q3, q4, q5⟩, f0, f1, f2, f3, f4, f5⟩ := L2.c6
      go_simp
      exact two_fst (by decide) kept6 (L2.st6 _ _ _ _ _ _)
    refine wpLs_one ?s2 (fun vs2_ => ?_)
    case s2 =>
      intro w_ hw_ hp_
      have T2 := hp_.blk (by simp [Ds2]) B2
      obtain ⟨q0, q1, q2, f0, f1, f2⟩ := T2.c3
      go_simp
      exact two_snd (by decide) kept3 (T2.st3 _ _ _)
    refine wpLs_nilD ?_
    simp only [tails]
    rintro w_ k_ ⟨⟨-, r1⟩, r2⟩
    obtain ⟨⟨m0, m1, m2, m3, m4, m5⟩, -, -, -, -, -, -⟩ := (r1.1 rfl).c6
    obtain ⟨j0, j1, j2, -, -, -⟩ := (r2.2 rfl).c3
    clear r1 r2 x0 y0 B1 B2
    simp only [wpList, Exit.then]
    rename_i hKret
    refine hKret _ _ (wp_ret ?_)
    try simp only [Exit.then]
    refine bodyPost_ret (v := .tuple #[.agg #[.int .i64 y1, .int .i64 y2, .int .i64 y3, .int .i64 y4, .int .i64 y5, .int .i64 y6], .agg #[.bool true, .bool u1, .bool u2]]) (by simp [results, Tryz.f268, go_sem, m0, m1, m2, m3, m4, m5, j0, j1, j2]) rfl ⟨rfl, ?_⟩
    have hN_ := HN.out
    exact (HH.out).trans (k_.below (HH.out).size (fun b hb => by simp; omega))
  · obtain ⟨t0, t1, t2, -, -, -⟩ := Q.c3
    have hu1 : decide (up ≤ 0) = false := by simpa using hu
    obtain ⟨v0, v1, v2, -, -, -⟩ := D.c3
    have hmn := @run_mn Tryz.prog
    go_upto_region 5 with (first | (go_at_call 140; refine (HCS.out _ HH.out).mono ?_; rintro e_ w2 ⟨rfl, k2⟩; replace HH := Lib.hid (after HH.out k2); replace U := U.on k2; replace D := D.on k2; replace P := P.on k2; replace Q := Q.on k2; replace R0 := R0.on k2; replace R1 := R1.on k2; clear t0 t1 t2 u0' uu1 uu2 uu3 uu4 uu5 v0 v1 v2; obtain ⟨t0, t1, t2, -, -, -⟩ := Q.c3; obtain ⟨u0', uu1, uu2, uu3, uu4, uu5⟩ := U.c6.1; obtain ⟨v0, v1, v2, -, -, -⟩ := D.c3) | (go_at_call 314; refine (HC1.out _ HH.out).mono ?_; rintro e_ w3 ⟨rfl, k3⟩))
    generalize hV : World.alloc w3 _ = Y3
    have hy : Below w3.heap.size w3 Y3 := by rw [← hV]; go_grown
    have Hb : Blk Y3 w3.heap.size 210 #[.int .i64 h1, .int .i64 h2, .int .i64 h3, .int .i64 h4, .int .i64 h5, .int .i64 h6] := Blk.eqw hV (Blk.new' rfl)
    have hg3 : gp + 2 ≤ w3.heap.size := by have := k3.size; have := Q.lt; omega
    replace U := U.on k3
    replace D := D.on k3
    replace P := P.on k3
    replace Q := Q.on k3
    replace R0 := R0.on k3
    replace R1 := R1.on k3
    replace U := U.on hy
    replace D := D.on hy
    replace P := P.on hy
    replace Q := Q.on hy
    replace R0 := R0.on hy
    replace R1 := R1.on hy
    replace HH := Lib.hid (after (after HH.out k3) hy)
    clear hV hy k3 t0 t1 t2 u0' uu1 uu2 uu3 uu4 uu5 v0 v1 v2
    generalize w3.heap.size = g3 at Hb hg3 ⊢
    obtain ⟨x0, x1, x2, x3, x4, x5⟩ := Hb.c6.1
    obtain ⟨u0', uu1, uu2, uu3, uu4, uu5⟩ := U.c6.1
    obtain ⟨v0, v1, v2, -, -, -⟩ := D.c3
    have hg4 : g3 < Y3.heap.size := Hb.lt
    have hg5 : N < Y3.heap.size := U.lt
    have hg6 : N + 1 < Y3.heap.size := D.lt
    go_upto_region 8 with (fail)
    generalize hV : World.alloc (World.alloc Y3 _) _ = Y4
    have hy : Below Y3.heap.size Y3 Y4 := by rw [← hV]; go_grown
    have Ow : Blk Y4 Y3.heap.size 322 #[.bool false, .bool true, .bool false] := Blk.eqw hV ((Blk.new' rfl).alloc _)
    have Ou : Blk Y4 (Y3.heap.size + 1) 210 #[.int .i64 h1, .int .i64 h2, .int .i64 h3, .int .i64 h4, .int .i64 h5, .int .i64 h6] := Blk.eqw hV (Blk.new' (by simp))
    clear hg5 hg6
    replace U := U.on hy
    replace D := D.on hy
    replace P := P.on hy
    replace Q := Q.on hy
    replace R0 := R0.on hy
    replace R1 := R1.on hy
    replace HH := Lib.hid (after HH.out hy)
    clear hV hy x0 x1 x2 x3 x4 x5 u0' uu1 uu2 uu3 uu4 uu5 v0 v1 v2 Hb
    generalize Y3.heap.size = g4 at Ow Ou hg4 ⊢
    obtain ⟨u0', uu1, uu2, uu3, uu4, uu5⟩ := U.c6.1
    obtain ⟨v0, v1, v2, -, -, -⟩ := D.c3
    obtain ⟨x0, x1, x2, x3, x4, x5⟩ := Ou.c6.1
    go_upto_region 9 with (go_at_call 314; refine (HC2.out _ HH.out).mono ?_; rintro e_ w5 ⟨rfl, k5⟩; replace U := U.on k5; replace D := D.on k5; replace P := P.on k5; replace Q := Q.on k5; replace R0 := R0.on k5; replace R1 := R1.on k5; replace Ow := Ow.on k5; replace Ou := Ou.on k5; obtain ⟨⟨z0, z1, z2, z3, z4, z5⟩, zf0, zf1, zf2, zf3, zf4, zf5⟩ := Ou.c6; obtain ⟨s0, s1, s2, sf0, sf1, sf2⟩ := Ow.c3)
    generalize hV : World.setCell (World.setCell _ _ _) _ _ = Y5
    have hk : Kept (fun c => c ≠ g4 ∧ c ≠ g4 + 1) w5 Y5 := by rw [← hV]; exact (kept6.mono (fun b h => h.2)).setCell (p := ⟨g4, 0, none⟩) (fun h => h.1 rfl) _
    have Ou2 : Blk Y5 (g4 + 1) 210 #[.int .i64 a1, .int .i64 a2, .int .i64 a3, .int .i64 a4, .int .i64 a5, .int .i64 a6] := Blk.eqw hV ((Ou.st6 (.int .i64 a1) (.int .i64 a2) (.int .i64 a3) (.int .i64 a4) (.int .i64 a5) (.int .i64 a6)).far (p := ⟨g4, 0, none⟩) (by dsimp only; omega) _)
    have Ow2 : Blk Y5 g4 322 #[.bool sa, .bool true, .bool false] := Blk.eqw hV ((sx6_far Ow (show g4 ≠ g4 + 1 by omega) (.int .i64 a1) (.int .i64 a2) (.int .i64 a3) (.int .i64 a4) (.int .i64 a5) (.int .i64 a6)).set_ 0 (.bool sa))
    have HB := Lib.hid (show Below w.heap.size w Y5 by
      have h1 := after HH.out k5
      have h2 := HN.out
      rw [← hV]
      exact (sx6_below h1 (by omega) _ _ _ _ _ _).setCell (p := ⟨g4, 0, none⟩) (by dsimp only; omega) _)
    replace U := hk.blk (by omega) U
    replace D := hk.blk (by omega) D
    replace P := hk.blk (by omega) P
    replace Q := hk.blk (by omega) Q
    replace R0 := hk.blk (by omega) R0
    replace R1 := hk.blk (by omega) R1
    clear hV hk k5 HH z0 z1 z2 z3 z4 z5 zf0 zf1 zf2 zf3 zf4 zf5 s0 s1 s2 sf0 sf1 sf2 x0 x1 x2 x3 x4 x5 u0' uu1 uu2 uu3 uu4 uu5 v0 v1 v2 Ou Ow
    have HH := HB
    have Ou := Ou2
    have Ow := Ow2
    clear HB Ou2 Ow2
    obtain ⟨u0', uu1, uu2, uu3, uu4, uu5⟩ := U.c6.1
    obtain ⟨v0, v1, v2, -, -, -⟩ := D.c3
    obtain ⟨x0, x1, x2, x3, x4, x5⟩ := Ou.c6.1
    go_upto_region 10 with (go_at_call 314; refine (HC3.out _ HH.out).mono ?_; rintro e_ w6 ⟨rfl, k5⟩; replace U := U.on k5; replace D := D.on k5; replace P := P.on k5; replace Q := Q.on k5; replace R0 := R0.on k5; replace R1 := R1.on k5; replace Ow := Ow.on k5; replace Ou := Ou.on k5; obtain ⟨⟨z0, z1, z2, z3, z4, z5⟩, zf0, zf1, zf2, zf3, zf4, zf5⟩ := Ou.c6; obtain ⟨s0, s1, s2, sf0, sf1, sf2⟩ := Ow.c3)
    generalize hV : World.setCell (World.setCell _ _ _) _ _ = Y6
    have hk : Kept (fun c => c ≠ g4 ∧ c ≠ g4 + 1) w6 Y6 := by rw [← hV]; exact (kept6.mono (fun b h => h.2)).setCell (p := ⟨g4, 2, none⟩) (fun h => h.1 rfl) _
    have Ou2 : Blk Y6 (g4 + 1) 210 #[.int .i64 b1, .int .i64 b2, .int .i64 b3, .int .i64 b4, .int .i64 b5, .int .i64 b6] := Blk.eqw hV ((Ou.st6 (.int .i64 b1) (.int .i64 b2) (.int .i64 b3) (.int .i64 b4) (.int .i64 b5) (.int .i64 b6)).far (p := ⟨g4, 2, none⟩) (by dsimp only; omega) _)
    have Ow2 : Blk Y6 g4 322 #[.bool sa, .bool true, .bool sb] := Blk.eqw hV ((sx6_far Ow (show g4 ≠ g4 + 1 by omega) (.int .i64 b1) (.int .i64 b2) (.int .i64 b3) (.int .i64 b4) (.int .i64 b5) (.int .i64 b6)).set_ 2 (.bool sb))
    have HB := Lib.hid (show Below w.heap.size w Y6 by
      have h1 := after HH.out k5
      have h2 := HN.out
      rw [← hV]
      exact (sx6_below h1 (by omega) _ _ _ _ _ _).setCell (p := ⟨g4, 2, none⟩) (by dsimp only; omega) _)
    replace U := hk.blk (by omega) U
    replace D := hk.blk (by omega) D
    replace P := hk.blk (by omega) P
    replace Q := hk.blk (by omega) Q
    replace R0 := hk.blk (by omega) R0
    replace R1 := hk.blk (by omega) R1
    clear hV hk k5 HH z0 z1 z2 z3 z4 z5 zf0 zf1 zf2 zf3 zf4 zf5 s0 s1 s2 sf0 sf1 sf2 x0 x1 x2 x3 x4 x5 u0' uu1 uu2 uu3 uu4 uu5 v0 v1 v2 Ou Ow
    have HH := HB
    have Ou := Ou2
    have Ow := Ow2
    clear HB Ou2 Ow2
    obtain ⟨u0', uu1, uu2, uu3, uu4, uu5⟩ := U.c6.1
    obtain ⟨v0, v1, v2, -, -, -⟩ := D.c3
    obtain ⟨x0, x1, x2, x3, x4, x5⟩ := Ou.c6.1
    go_upto_region 11 with (go_at_call 314; refine (HC4.out _ HH.out).mono ?_; rintro e_ w7 ⟨rfl, k5⟩; replace U := U.on k5; replace D := D.on k5; replace P := P.on k5; replace Q := Q.on k5; replace R0 := R0.on k5; replace R1 := R1.on k5; replace Ow := Ow.on k5; replace Ou := Ou.on k5; obtain ⟨⟨z0, z1, z2, z3, z4, z5⟩, zf0, zf1, zf2, zf3, zf4, zf5⟩ := Ou.c6; obtain ⟨s0, s1, s2, sf0, sf1, sf2⟩ := Ow.c3)
    generalize hV : World.setCell (World.setCell _ _ _) _ _ = Y7
    have hk : Kept (fun c => c ≠ g4 ∧ c ≠ g4 + 1) w7 Y7 := by rw [← hV]; exact kept6.mono (fun b h => h.2)
    have Ou2 : Blk Y7 (g4 + 1) 210 #[.int .i64 c1, .int .i64 c2, .int .i64 c3, .int .i64 c4, .int .i64 c5, .int .i64 c6] := Blk.eqw hV (Ou.st6 (.int .i64 c1) (.int .i64 c2) (.int .i64 c3) (.int .i64 c4) (.int .i64 c5) (.int .i64 c6))
    have Ow2 : Blk Y7 g4 322 #[.bool sa, .bool true, .bool sb] := Blk.eqw hV (sx6_far Ow (show g4 ≠ g4 + 1 by omega) (.int .i64 c1) (.int .i64 c2) (.int .i64 c3) (.int .i64 c4) (.int .i64 c5) (.int .i64 c6))
    have HB := Lib.hid (show Below w.heap.size w Y7 by
      have h1 := after HH.out k5
      have h2 := HN.out
      rw [← hV]
      exact sx6_below h1 (by omega) _ _ _ _ _ _)
    replace U := hk.blk (by omega) U
    replace D := hk.blk (by omega) D
    replace P := hk.blk (by omega) P
    replace Q := hk.blk (by omega) Q
    replace R0 := hk.blk (by omega) R0
    replace R1 := hk.blk (by omega) R1
    clear hV hk k5 HH z0 z1 z2 z3 z4 z5 zf0 zf1 zf2 zf3 zf4 zf5 s0 s1 s2 sf0 sf1 sf2 x0 x1 x2 x3 x4 x5 u0' uu1 uu2 uu3 uu4 uu5 v0 v1 v2 Ou Ow
    have HH := HB
    have Ou := Ou2
    have Ow := Ow2
    clear HB Ou2 Ow2
    obtain ⟨u0', uu1, uu2, uu3, uu4, uu5⟩ := U.c6.1
    obtain ⟨v0, v1, v2, -, -, -⟩ := D.c3
    obtain ⟨x0, x1, x2, x3, x4, x5⟩ := Ou.c6.1
    clear v0 v1 v2 x0 x1 x2 x3 x4 x5 u0' uu1 uu2 uu3 uu4 uu5
    obtain ⟨x0, x1, x2, x3, x4, x5⟩ := Ou.re6
    obtain ⟨v0, v1, v2, v3, v4, v5⟩ := P.re6
    obtain ⟨u0', uu1, uu2, uu3, uu4, uu5⟩ := U.re6
    refine wp_region_quiet_below (by kernel_rfl) (by kernel_rfl) ?_
    repeat (go_big_quiet_step (first | (with_reducible exact Calls.regrown_of (HW1.out _)) | (with_reducible exact Calls.regrown_of (HW2.out _))))
    refine wpQuiet_nil ?_
    intro w' hw'
    obtain ⟨rg, rfl⟩ := hw'
    clear v0 v1 v2 v3 v4 v5 x0 x1 x2 x3 x4 x5 u0' uu1 uu2 uu3 uu4 uu5
    obtain ⟨Y8, hY8⟩ : ∃ Y8, Y8 = Go.Sort.grow (redrawn Y7 rg.d) rg.os := ⟨_, rfl⟩
    rw [← hY8]
    have hy : Below Y7.heap.size Y7 Y8 := by rw [hY8]; exact below_regrown _ _ _
    replace P := P.on hy
    replace Q := Q.on hy
    replace R0 := R0.on hy
    replace R1 := R1.on hy
    replace Ou := Ou.on hy
    replace Ow := Ow.on hy
    replace HH := Lib.hid (after HH.out hy)
    clear hY8 hy U D
    rcases (show n1 ≤ n2 ∨ n2 < n1 by omega) with hn | hn
    · obtain rfl : r = ((y1, y2, y3, y4, y5, y6), false, u1, true) := by rw [HR.out, stepOf_no (.inr (.inr (.inr hn)))]
      have x0 := fun f d os => (P.sp (D := [N + 1 + 1, N + 1 + 1 + 1]) (by simp; omega) f d os).c6.1
      have y0 := fun f d os => (Q.sp (D := [N + 1 + 1, N + 1 + 1 + 1]) (by simp; omega) f d os).c3
      go_upto_region 12 with (fail)
      have B1 := R0
      have B2 := R1
      refine wp_two [0, 0, 2, 2] 2 (N + 1 + 1) (210) (#[.int .i64 y1, .int .i64 y2, .int .i64 y3, .int .i64 y4, .int .i64 y5, .int .i64 y6]) 3 (N + 1 + 1 + 1) (322) (#[.bool false, .bool u1, .bool true]) (by omega) (by kernel_rfl) (by kernel_rfl) ?_
      repeat (first | (refine wpQs_s ?_) | (refine wpQs_q (fun K hK => ?_); go_simp; first | (refine hK _ ?_; clear hK K) | (apply Exists.intro; refine ⟨fun _ => ?_, hK _ ?_⟩; (fail); clear hK K)))
      refine wpQs_nil ?_
      repeat (refine wpLs_skip ?_)
      refine wpLs_one ?s1 (fun vs1_ => ?_)
      case s1 =>
        intro w_ hw_ hp_
        have L2 := hp_.blk (by simp [Ds2]) B1
        obtain ⟨⟨q0, q1, q2, q3, q4, q5⟩, f0, f1, f2, f3, f4, f5⟩ := L2.c6
        go_simp
        exact two_fst (by decide) kept6 (L2.st6 _ _ _ _ _ _)
      refine wpLs_one ?s2 (fun vs2_ => ?_)
      case s2 =>
        intro w_ hw_ hp_
        have T2 := hp_.blk (by simp [Ds2]) B2
        obtain ⟨q0, q1, q2, f0, f1, f2⟩ := T2.c3
        go_simp
        exact two_snd (by decide) kept3 (T2.st3 _ _ _)
      refine wpLs_nilD ?_
      simp only [tails]
      rintro w_ k_ ⟨⟨-, r1⟩, r2⟩
      obtain ⟨⟨m0, m1, m2, m3, m4, m5⟩, -, -, -, -, -, -⟩ := (r1.1 rfl).c6
      obtain ⟨j0, j1, j2, -, -, -⟩ := (r2.2 rfl).c3
      clear r1 r2 x0 y0 B1 B2
      simp only [wpList, Exit.then]
      rename_i hKret
      refine hKret _ _ (wp_ret ?_)
      try simp only [Exit.then]
      refine bodyPost_ret (v := .tuple #[.agg #[.int .i64 y1, .int .i64 y2, .int .i64 y3, .int .i64 y4, .int .i64 y5, .int .i64 y6], .agg #[.bool false, .bool u1, .bool true]]) (by simp [results, Tryz.f268, go_sem, m0, m1, m2, m3, m4, m5, j0, j1, j2]) rfl ⟨rfl, ?_⟩
      have hN_ := HN.out
      exact (HH.out).trans (k_.below (HH.out).size (fun b hb => by simp; omega))
    · obtain rfl : r = ((c1, c2, c3, c4, c5, c6), sa, true, sb) := by rw [HR.out, stepOf_yes (.inr rfl) hu hn]
      have hn2 : decide (n1 ≤ n2) = false := by simpa using hn
      have x0 := fun f d os => (Ou.sp (D := [N + 1 + 1, N + 1 + 1 + 1]) (by simp; omega) f d os).c6.1
      have y0 := fun f d os => (Ow.sp (D := [N + 1 + 1, N + 1 + 1 + 1]) (by simp; omega) f d os).c3
      go_upto_region 13 with (fail)
      have B1 := R0
      have B2 := R1
      refine wp_two [0, 0, 2, 2] 2 (N + 1 + 1) (210) (#[.int .i64 c1, .int .i64 c2, .int .i64 c3, .int .i64 c4, .int .i64 c5, .int .i64 c6]) 3 (N + 1 + 1 + 1) (322) (#[.bool sa, .bool true, .bool sb]) (by omega) (by kernel_rfl) (by kernel_rfl) ?_
      repeat (first | (refine wpQs_s ?_) | (refine wpQs_q (fun K hK => ?_); go_simp; first | (refine hK _ ?_; clear hK K) | (apply Exists.intro; refine ⟨fun _ => ?_, hK _ ?_⟩; (fail); clear hK K)))
      refine wpQs_nil ?_
      repeat (refine wpLs_skip ?_)
      refine wpLs_one ?s1 (fun vs1_ => ?_)
      case s1 =>
        intro w_ hw_ hp_
        have L2 := hp_.blk (by simp [Ds2]) B1
        obtain ⟨⟨q0, q1, q2, q3, q4, q5⟩, f0, f1, f2, f3, f4, f5⟩ := L2.c6
        go_simp
        exact two_fst (by decide) kept6 (L2.st6 _ _ _ _ _ _)
      refine wpLs_one ?s2 (fun vs2_ => ?_)
      case s2 =>
        intro w_ hw_ hp_
        have T2 := hp_.blk (by simp [Ds2]) B2
        obtain ⟨q0, q1, q2, f0, f1, f2⟩ := T2.c3
        go_simp
        exact two_snd (by decide) kept3 (T2.st3 _ _ _)
      refine wpLs_nilD ?_
      simp only [tails]
      rintro w_ k_ ⟨⟨-, r1⟩, r2⟩
      obtain ⟨⟨m0, m1, m2, m3, m4, m5⟩, -, -, -, -, -, -⟩ := (r1.1 rfl).c6
      obtain ⟨j0, j1, j2, -, -, -⟩ := (r2.2 rfl).c3
      clear r1 r2 x0 y0 B1 B2
      simp only [wpList, Exit.then]
      rename_i hKret
      refine hKret _ _ (wp_ret ?_)
      try simp only [Exit.then]
      refine bodyPost_ret (v := .tuple #[.agg #[.int .i64 c1, .int .i64 c2, .int .i64 c3, .int .i64 c4, .int .i64 c5, .int .i64 c6], .agg #[.bool sa, .bool true, .bool sb]]) (by simp [results, Tryz.f268, go_sem, m0, m1, m2, m3, m4, m5, j0, j1, j2]) rfl ⟨rfl, ?_⟩
      have hN_ := HN.out
      exact (HH.out).trans (k_.below (HH.out).size (fun b hb => by simp; omega))
  · obtain ⟨t0, t1, t2, -, -, -⟩ := Q.c3
    have hu1 : decide (up ≤ 0) = false := by simpa using hu
    obtain ⟨v0, v1, v2, -, -, -⟩ := D.c3
    have hmn := @run_mn Tryz.prog
    go_upto_region 5 with (first | (go_at_call 140; refine (HCS.out _ HH.out).mono ?_; rintro e_ w2 ⟨rfl, k2⟩; replace HH := Lib.hid (after HH.out k2); replace U := U.on k2; replace D := D.on k2; replace P := P.on k2; replace Q := Q.on k2; replace R0 := R0.on k2; replace R1 := R1.on k2; clear t0 t1 t2 u0' uu1 uu2 uu3 uu4 uu5 v0 v1 v2; obtain ⟨t0, t1, t2, -, -, -⟩ := Q.c3; obtain ⟨u0', uu1, uu2, uu3, uu4, uu5⟩ := U.c6.1; obtain ⟨v0, v1, v2, -, -, -⟩ := D.c3) | (go_at_call 314; refine (HC1.out _ HH.out).mono ?_; rintro e_ w3 ⟨rfl, k3⟩))
    generalize hV : World.alloc w3 _ = Y3
    have hy : Below w3.heap.size w3 Y3 := by rw [← hV]; go_grown
    have Hb : Blk Y3 w3.heap.size 210 #[.int .i64 h1, .int .i64 h2, .int .i64 h3, .int .i64 h4, .int .i64 h5, .int .i64 h6] := Blk.eqw hV (Blk.new' rfl)
    have hg3 : gp + 2 ≤ w3.heap.size := by have := k3.size; have := Q.lt; omega
    replace U := U.on k3
    replace D := D.on k3
    replace P := P.on k3
    replace Q := Q.on k3
    replace R0 := R0.on k3
    replace R1 := R1.on k3
    replace U := U.on hy
    replace D := D.on hy
    replace P := P.on hy
    replace Q := Q.on hy
    replace R0 := R0.on hy
    replace R1 := R1.on hy
    replace HH := Lib.hid (after (after HH.out k3) hy)
    clear hV hy k3 t0 t1 t2 u0' uu1 uu2 uu3 uu4 uu5 v0 v1 v2
    generalize w3.heap.size = g3 at Hb hg3 ⊢
    obtain ⟨x0, x1, x2, x3, x4, x5⟩ := Hb.c6.1
    obtain ⟨u0', uu1, uu2, uu3, uu4, uu5⟩ := U.c6.1
    obtain ⟨v0, v1, v2, -, -, -⟩ := D.c3
    have hg4 : g3 < Y3.heap.size := Hb.lt
    have hg5 : N < Y3.heap.size := U.lt
    have hg6 : N + 1 < Y3.heap.size := D.lt
    go_upto_region 8 with (fail)
    generalize hV : World.alloc (World.alloc Y3 _) _ = Y4
    have hy : Below Y3.heap.size Y3 Y4 := by rw [← hV]; go_grown
    have Ow : Blk Y4 Y3.heap.size 322 #[.bool false, .bool true, .bool false] := Blk.eqw hV ((Blk.new' rfl).alloc _)
    have Ou : Blk Y4 (Y3.heap.size + 1) 210 #[.int .i64 h1, .int .i64 h2, .int .i64 h3, .int .i64 h4, .int .i64 h5, .int .i64 h6] := Blk.eqw hV (Blk.new' (by simp))
    clear hg5 hg6
    replace U := U.on hy
    replace D := D.on hy
    replace P := P.on hy
    replace Q := Q.on hy
    replace R0 := R0.on hy
    replace R1 := R1.on hy
    replace HH := Lib.hid (after HH.out hy)
    clear hV hy x0 x1 x2 x3 x4 x5 u0' uu1 uu2 uu3 uu4 uu5 v0 v1 v2 Hb
    generalize Y3.heap.size = g4 at Ow Ou hg4 ⊢
    obtain ⟨u0', uu1, uu2, uu3, uu4, uu5⟩ := U.c6.1
    obtain ⟨v0, v1, v2, -, -, -⟩ := D.c3
    obtain ⟨x0, x1, x2, x3, x4, x5⟩ := Ou.c6.1
    go_upto_region 9 with (go_at_call 314; refine (HC2.out _ HH.out).mono ?_; rintro e_ w5 ⟨rfl, k5⟩; replace U := U.on k5; replace D := D.on k5; replace P := P.on k5; replace Q := Q.on k5; replace R0 := R0.on k5; replace R1 := R1.on k5; replace Ow := Ow.on k5; replace Ou := Ou.on k5; obtain ⟨⟨z0, z1, z2, z3, z4, z5⟩, zf0, zf1, zf2, zf3, zf4, zf5⟩ := Ou.c6; obtain ⟨s0, s1, s2, sf0, sf1, sf2⟩ := Ow.c3)
    generalize hV : World.setCell (World.setCell _ _ _) _ _ = Y5
    have hk : Kept (fun c => c ≠ g4 ∧ c ≠ g4 + 1) w5 Y5 := by rw [← hV]; exact (kept6.mono (fun b h => h.2)).setCell (p := ⟨g4, 0, none⟩) (fun h => h.1 rfl) _
    have Ou2 : Blk Y5 (g4 + 1) 210 #[.int .i64 a1, .int .i64 a2, .int .i64 a3, .int .i64 a4, .int .i64 a5, .int .i64 a6] := Blk.eqw hV ((Ou.st6 (.int .i64 a1) (.int .i64 a2) (.int .i64 a3) (.int .i64 a4) (.int .i64 a5) (.int .i64 a6)).far (p := ⟨g4, 0, none⟩) (by dsimp only; omega) _)
    have Ow2 : Blk Y5 g4 322 #[.bool sa, .bool true, .bool false] := Blk.eqw hV ((sx6_far Ow (show g4 ≠ g4 + 1 by omega) (.int .i64 a1) (.int .i64 a2) (.int .i64 a3) (.int .i64 a4) (.int .i64 a5) (.int .i64 a6)).set_ 0 (.bool sa))
    have HB := Lib.hid (show Below w.heap.size w Y5 by
      have h1 := after HH.out k5
      have h2 := HN.out
      rw [← hV]
      exact (sx6_below h1 (by omega) _ _ _ _ _ _).setCell (p := ⟨g4, 0, none⟩) (by dsimp only; omega) _)
    replace U := hk.blk (by omega) U
    replace D := hk.blk (by omega) D
    replace P := hk.blk (by omega) P
    replace Q := hk.blk (by omega) Q
    replace R0 := hk.blk (by omega) R0
    replace R1 := hk.blk (by omega) R1
    clear hV hk k5 HH z0 z1 z2 z3 z4 z5 zf0 zf1 zf2 zf3 zf4 zf5 s0 s1 s2 sf0 sf1 sf2 x0 x1 x2 x3 x4 x5 u0' uu1 uu2 uu3 uu4 uu5 v0 v1 v2 Ou Ow
    have HH := HB
    have Ou := Ou2
    have Ow := Ow2
    clear HB Ou2 Ow2
    obtain ⟨u0', uu1, uu2, uu3, uu4, uu5⟩ := U.c6.1
    obtain ⟨v0, v1, v2, -, -, -⟩ := D.c3
    obtain ⟨x0, x1, x2, x3, x4, x5⟩ := Ou.c6.1
    go_upto_region 10 with (go_at_call 314; refine (HC3.out _ HH.out).mono ?_; rintro e_ w6 ⟨rfl, k5⟩; replace U := U.on k5; replace D := D.on k5; replace P := P.on k5; replace Q := Q.on k5; replace R0 := R0.on k5; replace R1 := R1.on k5; replace Ow := Ow.on k5; replace Ou := Ou.on k5; obtain ⟨⟨z0, z1, z2, z3, z4, z5⟩, zf0, zf1, zf2, zf3, zf4, zf5⟩ := Ou.c6; obtain ⟨s0, s1, s2, sf0, sf1, sf2⟩ := Ow.c3)
    generalize hV : World.setCell (World.setCell _ _ _) _ _ = Y6
    have hk : Kept (fun c => c ≠ g4 ∧ c ≠ g4 + 1) w6 Y6 := by rw [← hV]; exact (kept6.mono (fun b h => h.2)).setCell (p := ⟨g4, 2, none⟩) (fun h => h.1 rfl) _
    have Ou2 : Blk Y6 (g4 + 1) 210 #[.int .i64 b1, .int .i64 b2, .int .i64 b3, .int .i64 b4, .int .i64 b5, .int .i64 b6] := Blk.eqw hV ((Ou.st6 (.int .i64 b1) (.int .i64 b2) (.int .i64 b3) (.int .i64 b4) (.int .i64 b5) (.int .i64 b6)).far (p := ⟨g4, 2, none⟩) (by dsimp only; omega) _)
    have Ow2 : Blk Y6 g4 322 #[.bool sa, .bool true, .bool sb] := Blk.eqw hV ((sx6_far Ow (show g4 ≠ g4 + 1 by omega) (.int .i64 b1) (.int .i64 b2) (.int .i64 b3) (.int .i64 b4) (.int .i64 b5) (.int .i64 b6)).set_ 2 (.bool sb))
    have HB := Lib.hid (show Below w.heap.size w Y6 by
      have h1 := after HH.out k5
      have h2 := HN.out
      rw [← hV]
      exact (sx6_below h1 (by omega) _ _ _ _ _ _).setCell (p := ⟨g4, 2, none⟩) (by dsimp only; omega) _)
    replace U := hk.blk (by omega) U
    replace D := hk.blk (by omega) D
    replace P := hk.blk (by omega) P
    replace Q := hk.blk (by omega) Q
    replace R0 := hk.blk (by omega) R0
    replace R1 := hk.blk (by omega) R1
    clear hV hk k5 HH z0 z1 z2 z3 z4 z5 zf0 zf1 zf2 zf3 zf4 zf5 s0 s1 s2 sf0 sf1 sf2 x0 x1 x2 x3 x4 x5 u0' uu1 uu2 uu3 uu4 uu5 v0 v1 v2 Ou Ow
    have HH := HB
    have Ou := Ou2
    have Ow := Ow2
    clear HB Ou2 Ow2
    obtain ⟨u0', uu1, uu2, uu3, uu4, uu5⟩ := U.c6.1
    obtain ⟨v0, v1, v2, -, -, -⟩ := D.c3
    obtain ⟨x0, x1, x2, x3, x4, x5⟩ := Ou.c6.1
    go_upto_region 11 with (go_at_call 314; refine (HC4.out _ HH.out).mono ?_; rintro e_ w7 ⟨rfl, k5⟩; replace U := U.on k5; replace D := D.on k5; replace P := P.on k5; replace Q := Q.on k5; replace R0 := R0.on k5; replace R1 := R1.on k5; replace Ow := Ow.on k5; replace Ou := Ou.on k5; obtain ⟨⟨z0, z1, z2, z3, z4, z5⟩, zf0, zf1, zf2, zf3, zf4, zf5⟩ := Ou.c6; obtain ⟨s0, s1, s2, sf0, sf1, sf2⟩ := Ow.c3)
    generalize hV : World.setCell (World.setCell _ _ _) _ _ = Y7
    have hk : Kept (fun c => c ≠ g4 ∧ c ≠ g4 + 1) w7 Y7 := by rw [← hV]; exact kept6.mono (fun b h => h.2)
    have Ou2 : Blk Y7 (g4 + 1) 210 #[.int .i64 c1, .int .i64 c2, .int .i64 c3, .int .i64 c4, .int .i64 c5, .int .i64 c6] := Blk.eqw hV (Ou.st6 (.int .i64 c1) (.int .i64 c2) (.int .i64 c3) (.int .i64 c4) (.int .i64 c5) (.int .i64 c6))
    have Ow2 : Blk Y7 g4 322 #[.bool sa, .bool true, .bool sb] := Blk.eqw hV (sx6_far Ow (show g4 ≠ g4 + 1 by omega) (.int .i64 c1) (.int .i64 c2) (.int .i64 c3) (.int .i64 c4) (.int .i64 c5) (.int .i64 c6))
    have HB := Lib.hid (show Below w.heap.size w Y7 by
      have h1 := after HH.out k5
      have h2 := HN.out
      rw [← hV]
      exact sx6_below h1 (by omega) _ _ _ _ _ _)
    replace U := hk.blk (by omega) U
    replace D := hk.blk (by omega) D
    replace P := hk.blk (by omega) P
    replace Q := hk.blk (by omega) Q
    replace R0 := hk.blk (by omega) R0
    replace R1 := hk.blk (by omega) R1
    clear hV hk k5 HH z0 z1 z2 z3 z4 z5 zf0 zf1 zf2 zf3 zf4 zf5 s0 s1 s2 sf0 sf1 sf2 x0 x1 x2 x3 x4 x5 u0' uu1 uu2 uu3 uu4 uu5 v0 v1 v2 Ou Ow
    have HH := HB
    have Ou := Ou2
    have Ow := Ow2
    clear HB Ou2 Ow2
    obtain ⟨u0', uu1, uu2, uu3, uu4, uu5⟩ := U.c6.1
    obtain ⟨v0, v1, v2, -, -, -⟩ := D.c3
    obtain ⟨x0, x1, x2, x3, x4, x5⟩ := Ou.c6.1
    clear v0 v1 v2 x0 x1 x2 x3 x4 x5 u0' uu1 uu2 uu3 uu4 uu5
    obtain ⟨x0, x1, x2, x3, x4, x5⟩ := Ou.re6
    obtain ⟨v0, v1, v2, v3, v4, v5⟩ := P.re6
    obtain ⟨u0', uu1, uu2, uu3, uu4, uu5⟩ := U.re6
    refine wp_region_quiet_below (by kernel_rfl) (by kernel_rfl) ?_
    repeat (go_big_quiet_step (first | (with_reducible exact Calls.regrown_of (HW1.out _)) | (with_reducible exact Calls.regrown_of (HW2.out _))))
    refine wpQuiet_nil ?_
    intro w' hw'
    obtain ⟨rg, rfl⟩ := hw'
    clear v0 v1 v2 v3 v4 v5 x0 x1 x2 x3 x4 x5 u0' uu1 uu2 uu3 uu4 uu5
    obtain ⟨Y8, hY8⟩ : ∃ Y8, Y8 = Go.Sort.grow (redrawn Y7 rg.d) rg.os := ⟨_, rfl⟩
    rw [← hY8]
    have hy : Below Y7.heap.size Y7 Y8 := by rw [hY8]; exact below_regrown _ _ _
    replace P := P.on hy
    replace Q := Q.on hy
    replace R0 := R0.on hy
    replace R1 := R1.on hy
    replace Ou := Ou.on hy
    replace Ow := Ow.on hy
    replace HH := Lib.hid (after HH.out hy)
    clear hY8 hy U D
    rcases (show n1 ≤ n2 ∨ n2 < n1 by omega) with hn | hn
    · obtain rfl : r = ((y1, y2, y3, y4, y5, y6), true, u1, u2) := by rw [HR.out, stepOf_no (.inr (.inr (.inr hn)))]
      have x0 := fun f d os => (P.sp (D := [N + 1 + 1, N + 1 + 1 + 1]) (by simp; omega) f d os).c6.1
      have y0 := fun f d os => (Q.sp (D := [N + 1 + 1, N + 1 + 1 + 1]) (by simp; omega) f d os).c3
      go_upto_region 12 with (fail)
      have B1 := R0
      have B2 := R1
      refine wp_two [0, 0, 2, 2] 2 (N + 1 + 1) (210) (#[.int .i64 y1, .int .i64 y2, .int .i64 y3, .int .i64 y4, .int .i64 y5, .int .i64 y6]) 3 (N + 1 + 1 + 1) (322) (#[.bool true, .bool u1, .bool u2]) (by omega) (by kernel_rfl) (by kernel_rfl) ?_
      repeat (first | (refine wpQs_s ?_) | (refine wpQs_q (fun K hK => ?_); go_simp; first | (refine hK _ ?_; clear hK K) | (apply Exists.intro; refine ⟨fun _ => ?_, hK _ ?_⟩; (fail); clear hK K)))
      refine wpQs_nil ?_
      repeat (refine wpLs_skip ?_)
      refine wpLs_one ?s1 (fun vs1_ => ?_)
      case s1 =>
        intro w_ hw_ hp_
        have L2 := hp_.blk (by simp [Ds2]) B1
        obtain ⟨⟨q0, q1, q2, q3, q4, q5⟩, f0, f1, f2, f3, f4, f5⟩ := L2.c6
        go_simp
        exact two_fst (by decide) kept6 (L2.st6 _ _ _ _ _ _)
      refine wpLs_one ?s2 (fun vs2_ => ?_)
      case s2 =>
        intro w_ hw_ hp_
        have T2 := hp_.blk (by simp [Ds2]) B2
        obtain ⟨q0, q1, q2, f0, f1, f2⟩ := T2.c3
        go_simp
        exact two_snd (by decide) kept3 (T2.st3 _ _ _)
      refine wpLs_nilD ?_
      simp only [tails]
      rintro w_ k_ ⟨⟨-, r1⟩, r2⟩
      obtain ⟨⟨m0, m1, m2, m3, m4, m5⟩, -, -, -, -, -, -⟩ := (r1.1 rfl).c6
      obtain ⟨j0, j1, j2, -, -, -⟩ := (r2.2 rfl).c3
      clear r1 r2 x0 y0 B1 B2
      simp only [wpList, Exit.then]
      rename_i hKret
      refine hKret _ _ (wp_ret ?_)
      try simp only [Exit.then]
      refine bodyPost_ret (v := .tuple #[.agg #[.int .i64 y1, .int .i64 y2, .int .i64 y3, .int .i64 y4, .int .i64 y5, .int .i64 y6], .agg #[.bool true, .bool u1, .bool u2]]) (by simp [results, Tryz.f268, go_sem, m0, m1, m2, m3, m4, m5, j0, j1, j2]) rfl ⟨rfl, ?_⟩
      have hN_ := HN.out
      exact (HH.out).trans (k_.below (HH.out).size (fun b hb => by simp; omega))
    · obtain rfl : r = ((c1, c2, c3, c4, c5, c6), sa, true, sb) := by rw [HR.out, stepOf_yes (.inl rfl) hu hn]
      have hn2 : decide (n1 ≤ n2) = false := by simpa using hn
      have x0 := fun f d os => (Ou.sp (D := [N + 1 + 1, N + 1 + 1 + 1]) (by simp; omega) f d os).c6.1
      have y0 := fun f d os => (Ow.sp (D := [N + 1 + 1, N + 1 + 1 + 1]) (by simp; omega) f d os).c3
      go_upto_region 13 with (fail)
      have B1 := R0
      have B2 := R1
      refine wp_two [0, 0, 2, 2] 2 (N + 1 + 1) (210) (#[.int .i64 c1, .int .i64 c2, .int .i64 c3, .int .i64 c4, .int .i64 c5, .int .i64 c6]) 3 (N + 1 + 1 + 1) (322) (#[.bool sa, .bool true, .bool sb]) (by omega) (by kernel_rfl) (by kernel_rfl) ?_
      repeat (first | (refine wpQs_s ?_) | (refine wpQs_q (fun K hK => ?_); go_simp; first | (refine hK _ ?_; clear hK K) | (apply Exists.intro; refine ⟨fun _ => ?_, hK _ ?_⟩; (fail); clear hK K)))
      refine wpQs_nil ?_
      repeat (refine wpLs_skip ?_)
      refine wpLs_one ?s1 (fun vs1_ => ?_)
      case s1 =>
        intro w_ hw_ hp_
        have L2 := hp_.blk (by simp [Ds2]) B1
        obtain ⟨⟨q0, q1, q2, q3, q4, q5⟩, f0, f1, f2, f3, f4, f5⟩ := L2.c6
        go_simp
        exact two_fst (by decide) kept6 (L2.st6 _ _ _ _ _ _)
      refine wpLs_one ?s2 (fun vs2_ => ?_)
      case s2 =>
        intro w_ hw_ hp_
        have T2 := hp_.blk (by simp [Ds2]) B2
        obtain ⟨q0, q1, q2, f0, f1, f2⟩ := T2.c3
        go_simp
        exact two_snd (by decide) kept3 (T2.st3 _ _ _)
      refine wpLs_nilD ?_
      simp only [tails]
      rintro w_ k_ ⟨⟨-, r1⟩, r2⟩
      obtain ⟨⟨m0, m1, m2, m3, m4, m5⟩, -, -, -, -, -, -⟩ := (r1.1 rfl).c6
      obtain ⟨j0, j1, j2, -, -, -⟩ := (r2.2 rfl).c3
      clear r1 r2 x0 y0 B1 B2
      simp only [wpList, Exit.then]
      rename_i hKret
      refine hKret _ _ (wp_ret ?_)
      try simp only [Exit.then]
      refine bodyPost_ret (v := .tuple #[.agg #[.int .i64 c1, .int .i64 c2, .int .i64 c3, .int .i64 c4, .int .i64 c5, .int .i64 c6], .agg #[.bool sa, .bool true, .bool sb]]) (by simp [results, Tryz.f268, go_sem, m0, m1, m2, m3, m4, m5, j0, j1, j2]) rfl ⟨rfl, ?_⟩
      have hN_ := HN.out
      exact (HH.out).trans (k_.below (HH.out).size (fun b hb => by simp; omega))
end Go.Proofs.YtmbccnioijokfaaGreatDoor

namespace Go.Proofs.YtmbccnioijokfaaGreatDoor
open Go.RowKit Go.Shelf
attribute [local go_sem] Oper.semAt_some
set_option maxRecDepth 100000 in
set_option maxHeartbeats 8000000 in
theorem bgoes_c (V : FuncId) (lv : Value) (val : Cl → Int) (b : BD) (ix iz : Int) (j : Bool) (M : Int) (hM : M ≤ 71000000000000) (hM0 : 0 ≤ M) (hB : BOk M b) (w : World)
    (eV : ∀ args w, (callFunc V args).run Tryz.prog w = .ok (.enter V args) w) (hV : Tells Tryz.prog V lv val w) :
    Calls Tryz.prog 198 #[.agg (bd9 b), .func (.func V) #[lv] #[], .agg #[.int .i64 ix, .int .i64 iz, .bool j]] w fun r w' => r = .returned (.agg (bd9 (goB val b))) ∧ Below w.heap.size w w' := by
  obtain ⟨hS, -⟩ := hB.box hM
  have CB := fun W => bbox_c b (by have := hB.wd; omega) W
  have CU := fun W => bcut_c b b.2.2.2.1 b.2.2.2.2.1 b.2.2.2.2.2.1 W
  have C1 := fun W (h : Below w.heap.size w W) => pstep_c V lv val (boxB b) (fwI b.1 b.2.2.2.1) (fwI b.2.1 b.2.2.2.2.1) (fwI b.2.2.1 b.2.2.2.2.2.1) 32768 (M + 65536) (by omega) (by omega) hS W eV (hV.on h)
  have fG : goV val b = stepV val (boxB b) (fwI b.1 b.2.2.2.1) (fwI b.2.1 b.2.2.2.2.1) (fwI b.2.2.1 b.2.2.2.2.2.1) 32768 := by unfold goV; rfl
  have hG : Sm6 (M + 65536 + 40000000) (goV val b).1 := by rw [fG]; exact stepV_sm hS (by omega) (by omega)
  rw [← fG] at C1
  have hun := hG.under (by omega) (by omega)
  have hbd := hG.bd
  have CS := fun W (h : Below w.heap.size w W) => pmStands_c V lv val (goV val b).1.1 (goV val b).1.2.1 (goV val b).1.2.2.1 (goV val b).1.2.2.2.1 (goV val b).1.2.2.2.2.1 (goV val b).1.2.2.2.2.2 (by omega) (by omega) hun.1 W eV (hV.on h)
  have fS : unB val (goV val b).1 = (cellsI (goV val b).1.1 (cutI ((goV val b).1.2.1 - 1)) (goV val b).1.2.2.1 (goV val b).1.2.2.2.1 (goV val b).1.2.1 (goV val b).1.2.2.2.2.2).any fun c => solB (val c) := by unfold unB; rfl
  rw [← fS] at CS
  have HN9 := Lib.hid eV
  clear fG hG hun hbd fS hS hM hM0 hB eV hV HN9
  unfold goB putB
  generalize unB val (goV val b).1 = ps at CS ⊢
  generalize goV val b = r at C1 CS ⊢
  generalize boxB b = bx at CB C1 ⊢
  obtain ⟨x, y, z, sx, sy, sz, wd, ht, st⟩ := b
  obtain ⟨o1, o2, o3, o4, o5, o6⟩ := bx
  obtain ⟨⟨y1, y2, y3, y4, y5, y6⟩, t1, t2, t3⟩ := r
  simp only [bd9, ag6, ah3, bhT] at *
  generalize fwI x sx = f1 at CU C1
  generalize fwI y sy = f2 at CU C1
  generalize fwI z sz = f3 at CU C1
  have HSB := Lib.hid (fun W => sub_c y1 y2 y3 o1 o2 o3 W)
  have HAD := Lib.hid (fun W => add_c x y z (subI y1 o1) (subI y2 o2) (subI y3 o3) W)
  have HSP := Lib.hid (fun W => stop_c t1 t2 t3 sx sy sz W)
  generalize subI y1 o1 = u1 at HSB HAD ⊢
  generalize subI y2 o2 = u2 at HSB HAD ⊢
  generalize subI y3 o3 = u3 at HSB HAD ⊢
  generalize addI x u1 = v1 at HAD ⊢
  generalize addI y u2 = v2 at HAD ⊢
  generalize addI z u3 = v3 at HAD ⊢
  generalize zb t1 sx = s1 at HSP ⊢
  generalize zb t2 sy = s2 at HSP ⊢
  generalize zb t3 sz = s3 at HSP ⊢
  have HCB := Lib.hid CB
  have HCU := Lib.hid CU
  have HC1 := Lib.hid C1
  have HCS := Lib.hid CS
  clear CB CU C1 CS
  obtain ⟨N, hN⟩ : ∃ N, N = w.heap.size := ⟨_, rfl⟩
  obtain ⟨W, hW⟩ : ∃ W, W = ((w.alloc (.cells #[.int .i64 x, .int .i64 y, .int .i64 z, .int .i64 sx, .int .i64 sy, .int .i64 sz, .int .i64 wd, .int .i64 ht, .bool st] 40)).alloc (.cells #[.int .i64 ix, .int .i64 iz, .bool j] 81)).alloc (.cells #[.int .i64 0, .int .i64 0, .int .i64 0, .int .i64 0, .int .i64 0, .int .i64 0, .int .i64 0, .int .i64 0, .bool false] 40) := ⟨_, rfl⟩
  have H : Below w.heap.size w W := by rw [hW]; go_grown
  have B : Blk W N 40 _ := Blk.eqw hW.symm (by rw [hN]; exact ((Blk.new' rfl).alloc _).alloc _)
  have R : Blk W (N + 1 + 1) 40 _ := Blk.eqw hW.symm (by rw [hN]; exact Blk.new' (by simp))
  go_enter Tryz.func198, Tryz.ntmps198
  go_upto_region 1 with (fail)
  rw [← hW, ← hN]
  have HN := Lib.hid hN
  clear hW hN
  obtain ⟨⟨b0, b1, b2, b3, b4, b5, b6, b7, b8⟩, -⟩ := B.c9
  go_upto_region 2 with (go_at_call 139; refine (HCB.out _).mono ?_; rintro e_ w1 ⟨rfl, k1⟩)
  generalize hV : World.alloc w1 _ = W1
  have X : Blk W1 w1.heap.size 210 #[.int .i64 o1, .int .i64 o2, .int .i64 o3, .int .i64 o4, .int .i64 o5, .int .i64 o6] := Blk.eqw hV (Blk.new' rfl)
  have hk : Below W.heap.size W W1 := by rw [← hV]; exact after k1 ((Below.refl _ _).alloc (Nat.le_refl _) _)
  have hgN := Nat.lt_of_lt_of_le R.lt k1.size
  replace B := B.on hk
  replace R := R.on hk
  replace H := Lib.hid (after H hk)
  clear hV k1 hk b0 b1 b2 b3 b4 b5 b6 b7 b8 HCB
  generalize w1.heap.size = g at X hgN ⊢
  have b0 := fun d os => (B.re d os).cell 0
  have b1 := fun d os => (B.re d os).cell 1
  have b2 := fun d os => (B.re d os).cell 2
  have b3 := fun d os => (B.re d os).cell 3
  have b4 := fun d os => (B.re d os).cell 4
  have b5 := fun d os => (B.re d os).cell 5
  have b6 := fun d os => (B.re d os).cell 6
  have b7 := fun d os => (B.re d os).cell 7
  have b8 := fun d os => (B.re d os).cell 8
  simp only [List.getElem?_toArray, List.getElem?_cons_zero, List.getElem?_cons_succ] at b0 b1 b2 b3 b4 b5 b6 b7 b8
  obtain ⟨x0, x1, x2, x3, x4, x5⟩ := X.re6
  have HBK := Lib.hid (And.intro B (And.intro R X))
  have HGN := Lib.hid hgN
  clear B R X hgN
  have HU_ := Lib.hid (show Bears W1.heap.size [⟨10, 12, 210, #[.int .i64 0, .int .i64 0, .int .i64 0, .int .i64 0, .int .i64 0, .int .i64 0], #[.int .i64 y1, .int .i64 y2, .int .i64 y3, .int .i64 y4, .int .i64 y5, .int .i64 y6]⟩, ⟨11, 13, 322, #[.bool false, .bool false, .bool false], #[.bool t1, .bool t2, .bool t3]⟩] (relsU [(6, fun v _ => v = .tuple #[.agg #[.int .i64 y1, .int .i64 y2, .int .i64 y3, .int .i64 y4, .int .i64 y5, .int .i64 y6], .agg #[.bool t1, .bool t2, .bool t3]]), (7, fun v _ => v = .tuple #[.agg #[.int .i64 y1, .int .i64 y2, .int .i64 y3, .int .i64 y4, .int .i64 y5, .int .i64 y6], .agg #[.bool t1, .bool t2, .bool t3]]), (8, fun v _ => v = .agg #[.int .i64 y1, .int .i64 y2, .int .i64 y3, .int .i64 y4, .int .i64 y5, .int .i64 y6]), (9, fun v _ => v = .agg #[.bool t1, .bool t2, .bool t3])]) from (bears_val (bears_val (bears_val (bears_val bears_nil)))))
  have HO_ := Lib.hid (show OkB [⟨10, 12, 210, #[.int .i64 0, .int .i64 0, .int .i64 0, .int .i64 0, .int .i64 0, .int .i64 0], #[.int .i64 y1, .int .i64 y2, .int .i64 y3, .int .i64 y4, .int .i64 y5, .int .i64 y6]⟩, ⟨11, 13, 322, #[.bool false, .bool false, .bool false], #[.bool t1, .bool t2, .bool t3]⟩] from ⟨by simp, by simp⟩)
  refine wp_many [0, 0, 0, 0, 0, 0, 2, 2, 2, 2, 2, 2, 2, 2] _ _ (by kernel_rfl) (by kernel_rfl) HU_.out ?_
  repeat (first | (refine wpQs_s ?_) | (refine wpQs_q (fun K hK => ?_); go_simp; first | (refine hK _ ?_; clear hK K) | (apply Exists.intro; refine ⟨fun _ => ?_, hK _ ?_⟩; (exact HCU.out _); clear hK K)) | (refine wpQs_f (fun K hK => ?_); go_simp; refine hK _ ?_; clear hK K))
  refine wpQs_nil ?_
  refine wpLsI_skip ?_
  refine wpLsI_skip ?_
  refine wpLsI_skip ?_
  refine wpLsI_skip ?_
  refine wpLsI_skip ?_
  refine wpLsI_skip ?_
  refine wpLsI_one rfl ?s6_ (fun v6_ => ?_)
  case s6_ =>
    intro S_ V_ w_ hw_ hV_ ha_ hn_ hI_
    have HW_ := Lib.hid hw_
    have HI_ := Lib.hid hI_
    have Hn_ := Lib.hid hn_
    clear hV_ ha_ hw_ hI_ hn_
    go_simp
    refine (HC1.out _ (after H.out HW_.out.none)).mono ?_
    rintro e_ w9 ⟨rfl, h9⟩
    exact ⟨_, rfl, HW_.out.on h9, HI_.out.l (by simp) HU_.out h9 rfl⟩
  refine wpLsI_one rfl ?s7_ (fun v7_ => ?_)
  case s7_ =>
    intro S_ V_ w_ hw_ hV_ ha_ hn_ hI_
    have F_ := Lib.hid (show v6_ = .tuple #[.agg #[.int .i64 y1, .int .i64 y2, .int .i64 y3, .int .i64 y4, .int .i64 y5, .int .i64 y6], .agg #[.bool t1, .bool t2, .bool t3]] from (hI_.of (ha_ 6 (by decide) rfl (by kernel_rfl)) (hV_ 6 (by decide) rfl)))
    have HW_ := Lib.hid hw_
    have HI_ := Lib.hid hI_
    have Hn_ := Lib.hid hn_
    clear hV_ ha_ hw_ hI_ hn_
    go_simp
    have h8_ := F_.out
    subst h8_
    clear F_
    go_simp
    exact ⟨HW_.out, HI_.out.l (by simp) HU_.out (Below.refl _ _) rfl⟩
  refine wpLsI_one rfl ?s8_ (fun v8_ => ?_)
  case s8_ =>
    intro S_ V_ w_ hw_ hV_ ha_ hn_ hI_
    have F_ := Lib.hid (show v7_ = .tuple #[.agg #[.int .i64 y1, .int .i64 y2, .int .i64 y3, .int .i64 y4, .int .i64 y5, .int .i64 y6], .agg #[.bool t1, .bool t2, .bool t3]] from (hI_.of (ha_ 7 (by decide) rfl (by kernel_rfl)) (hV_ 7 (by decide) rfl)))
    have HW_ := Lib.hid hw_
    have HI_ := Lib.hid hI_
    have Hn_ := Lib.hid hn_
    clear hV_ ha_ hw_ hI_ hn_
    go_simp
    have h8_ := F_.out
    subst h8_
    clear F_
    go_simp
    exact ⟨HW_.out, HI_.out.l (by simp) HU_.out (Below.refl _ _) rfl⟩
  refine wpLsI_one rfl ?s9_ (fun v9_ => ?_)
  case s9_ =>
    intro S_ V_ w_ hw_ hV_ ha_ hn_ hI_
    have F_ := Lib.hid (show v7_ = .tuple #[.agg #[.int .i64 y1, .int .i64 y2, .int .i64 y3, .int .i64 y4, .int .i64 y5, .int .i64 y6], .agg #[.bool t1, .bool t2, .bool t3]] from (hI_.of (ha_ 7 (by decide) rfl (by kernel_rfl)) (hV_ 7 (by decide) rfl)))
    have HW_ := Lib.hid hw_
    have HI_ := Lib.hid hI_
    have Hn_ := Lib.hid hn_
    clear hV_ ha_ hw_ hI_ hn_
    go_simp
    have h8_ := F_.out
    subst h8_
    clear F_
    go_simp
    exact ⟨HW_.out, HI_.out.l (by simp) HU_.out (Below.refl _ _) rfl⟩
  refine wpLsI_one rfl ?s10_ (fun v10_ => ?_)
  case s10_ =>
    intro S_ V_ w_ hw_ hV_ ha_ hn_ hI_
    have HW_ := Lib.hid hw_
    have HI_ := Lib.hid hI_
    have Hn_ := Lib.hid hn_
    clear hV_ ha_ hw_ hI_ hn_
    go_simp
    exact ⟨HW_.out.on ((Below.refl _ _).alloc (Nat.le_refl _) _), HI_.out.new (List.mem_cons_self) HO_.out HU_.out (fun _ _ => trivial) HW_.out.none.size Hn_.out⟩
  refine wpLsI_one rfl ?s11_ (fun v11_ => ?_)
  case s11_ =>
    intro S_ V_ w_ hw_ hV_ ha_ hn_ hI_
    have HW_ := Lib.hid hw_
    have HI_ := Lib.hid hI_
    have Hn_ := Lib.hid hn_
    clear hV_ ha_ hw_ hI_ hn_
    go_simp
    exact ⟨HW_.out.on ((Below.refl _ _).alloc (Nat.le_refl _) _), HI_.out.new (List.mem_cons_of_mem _ (List.mem_cons_self)) HO_.out HU_.out (fun _ _ => trivial) HW_.out.none.size Hn_.out⟩
  refine wpLsI_one rfl ?s12_ (fun v12_ => ?_)
  case s12_ =>
    intro S_ V_ w_ hw_ hV_ ha_ hn_ hI_
    have F_ := Lib.hid (show v8_ = .agg #[.int .i64 y1, .int .i64 y2, .int .i64 y3, .int .i64 y4, .int .i64 y5, .int .i64 y6] from (hI_.of (ha_ 8 (by decide) rfl (by kernel_rfl)) (hV_ 8 (by decide) rfl)))
    have HS_ := Lib.hid (show S_ 10 from ha_ 10 (by decide) rfl (by kernel_rfl))
    have HVV_ := Lib.hid (show V_ 10 = v10_ from hV_ 10 (by decide) rfl)
    have hx_ := Lib.hid (show ∃ b, V_ 10 = .pointer (some ⟨b, 0, none⟩) ∧ W1.heap.size ≤ b ∧ Blk w_ b 210 #[.int .i64 0, .int .i64 0, .int .i64 0, .int .i64 0, .int .i64 0, .int .i64 0] from hI_.slot (List.mem_cons_self) HS_.out hn_)
    have HW_ := Lib.hid hw_
    have HI_ := Lib.hid hI_
    have Hn_ := Lib.hid hn_
    clear hV_ ha_ hw_ hI_ hn_
    go_simp
    refine hx_.out.elim fun b_ hy_ => ?_
    have E_ := hy_.1
    have HN_ := Lib.hid hy_.2.1
    have hb_ := hy_.2.2
    have h8_ := F_.out
    rw [HVV_.out] at E_
    subst h8_ E_
    clear hx_ hy_ F_
    obtain ⟨⟨k0_, k1_, k2_, k3_, k4_, k5_⟩, f0_, f1_, f2_, f3_, f4_, f5_⟩ := hb_.c6
    have Hb_ := Lib.hid hb_
    clear hb_
    go_simp
    exact ⟨HW_.out.new_set HN_.out kept6, HI_.out.set (List.mem_cons_self) HO_.out HU_.out (fun _ _ => trivial) Hn_.out HS_.out HVV_.out kept6 (Hb_.out.st6 _ _ _ _ _ _)⟩
  refine wpLsI_one rfl ?s13_ (fun v13_ => ?_)
  case s13_ =>
    intro S_ V_ w_ hw_ hV_ ha_ hn_ hI_
    have F_ := Lib.hid (show v9_ = .agg #[.bool t1, .bool t2, .bool t3] from (hI_.of (ha_ 9 (by decide) rfl (by kernel_rfl)) (hV_ 9 (by decide) rfl)))
    have HS_ := Lib.hid (show S_ 11 from ha_ 11 (by decide) rfl (by kernel_rfl))
    have HVV_ := Lib.hid (show V_ 11 = v11_ from hV_ 11 (by decide) rfl)
    have hx_ := Lib.hid (show ∃ b, V_ 11 = .pointer (some ⟨b, 0, none⟩) ∧ W1.heap.size ≤ b ∧ Blk w_ b 322 #[.bool false, .bool false, .bool false] from hI_.slot (List.mem_cons_of_mem _ (List.mem_cons_self)) HS_.out hn_)
    have HW_ := Lib.hid hw_
    have HI_ := Lib.hid hI_
    have Hn_ := Lib.hid hn_
    clear hV_ ha_ hw_ hI_ hn_
    go_simp
    refine hx_.out.elim fun b_ hy_ => ?_
    have E_ := hy_.1
    have HN_ := Lib.hid hy_.2.1
    have hb_ := hy_.2.2
    have h8_ := F_.out
    rw [HVV_.out] at E_
    subst h8_ E_
    clear hx_ hy_ F_
    obtain ⟨k0_, k1_, k2_, f0_, f1_, f2_⟩ := hb_.c3
    have Hb_ := Lib.hid hb_
    clear hb_
    go_simp
    exact ⟨HW_.out.new_set HN_.out kept3, HI_.out.set (List.mem_cons_of_mem _ (List.mem_cons_self)) HO_.out HU_.out (fun _ _ => trivial) Hn_.out HS_.out HVV_.out kept3 (Hb_.out.st3 _ _ _)⟩
  refine wpLsI_nil fun V_ W2 hw_ hV_ hI_ => ?_
  obtain ⟨g0_W2, E10_, N0_W2, X0_W2⟩ : ∃ b, v10_ = .pointer (some ⟨b, 0, none⟩) ∧ W1.heap.size ≤ b ∧ Blk W2 b 210 #[.int .i64 y1, .int .i64 y2, .int .i64 y3, .int .i64 y4, .int .i64 y5, .int .i64 y6] := by rw [← show V_ 10 = v10_ from hV_ 10 (by decide) rfl]; exact hI_.done (List.mem_cons_self) ⟨show 10 < 14 by decide, rfl⟩ ⟨show 12 < 14 by decide, rfl⟩
  obtain ⟨g1_W2, E11_, N1_W2, X1_W2⟩ : ∃ b, v11_ = .pointer (some ⟨b, 0, none⟩) ∧ W1.heap.size ≤ b ∧ Blk W2 b 322 #[.bool t1, .bool t2, .bool t3] := by rw [← show V_ 11 = v11_ from hV_ 11 (by decide) rfl]; exact hI_.done (List.mem_cons_of_mem _ (List.mem_cons_self)) ⟨show 11 < 14 by decide, rfl⟩ ⟨show 13 < 14 by decide, rfl⟩
  subst E10_ E11_
  have h_W2 := hw_.none
  clear hV_ hI_ hw_ HU_ HO_
  simp only [tails]
  clear b0 b1 b2 b3 b4 b5 b6 b7 b8 x0 x1 x2 x3 x4 x5 HCU HC1
  obtain ⟨B, R, X⟩ := HBK.out
  have n1 : g0_W2 ≠ N := by have h7 := HGN.out; have h8 := X.lt; omega
  have n2 : g1_W2 ≠ N := by have h7 := HGN.out; have h8 := X.lt; omega
  have n3 : g ≠ N := by have h7 := HGN.out; omega
  have n4 : N + 1 + 1 ≠ N := by omega
  have HX := Lib.hid (And.intro (B.on h_W2) (And.intro (R.on h_W2) (And.intro (X.on h_W2) (And.intro X0_W2 X1_W2))))
  replace H := Lib.hid (after H.out h_W2)
  clear HBK HGN B R X X0_W2 X1_W2 N0_W2 N1_W2 h_W2
  go_simp
  go_upto_region 3 with (fail)
  obtain ⟨B, R, X, Y, T⟩ := HX.out
  have b0 := fun d os => (B.re d os).cell 0
  have b1 := fun d os => (B.re d os).cell 1
  have b2 := fun d os => (B.re d os).cell 2
  have x0 := fun d os => (X.re d os).cell 0
  have x1 := fun d os => (X.re d os).cell 1
  have x2 := fun d os => (X.re d os).cell 2
  have y0 := fun d os => (Y.re d os).cell 0
  have y1 := fun d os => (Y.re d os).cell 1
  have y2 := fun d os => (Y.re d os).cell 2
  simp only [List.getElem?_toArray, List.getElem?_cons_zero, List.getElem?_cons_succ] at b0 b1 b2 x0 x1 x2 y0 y1 y2
  refine wp_region_last_below 9 (by kernel_rfl) rfl (by kernel_rfl) ?_
  simp only [List.take_succ_cons, List.take_zero, List.drop_succ_cons, List.drop_zero]
  repeat (go_big_quiet_step (first | (with_reducible exact Calls.regrown_of (HSB.out _)) | (with_reducible exact Calls.regrown_of (HAD.out _))))
  refine wpQuiet_nil ?_
  intro w' hw'
  obtain ⟨rg, rfl⟩ := hw'
  clear b0 b1 b2 x0 x1 x2 y0 y1 y2 X HSB HAD HX
  obtain ⟨W3, hW3⟩ : ∃ W3, W3 = Go.Sort.grow (redrawn W2 rg.d) rg.os := ⟨_, rfl⟩
  have hb3 : Below W2.heap.size W2 W3 := by rw [hW3]; exact below_regrown _ _ _
  rw [← hW3]
  replace B := B.on hb3
  replace R := R.on hb3
  replace Y := Y.on hb3
  replace T := T.on hb3
  replace H := after H.out hb3
  clear hW3 hb3
  obtain ⟨⟨b0, b1, b2, b3, b4, b5, b6, b7, b8⟩, f0, f1, f2, f3, f4, f5, f6, f7, f8⟩ := B.c9
  go_upto_region 4 with (fail)
  generalize hV_ : (World.setCell (World.setCell (World.setCell W3 _ _) _ _) _ _) = W4
  replace B : Blk W4 (N) 40 #[.int .i64 v1, .int .i64 v2, .int .i64 v3, .int .i64 sx, .int .i64 sy, .int .i64 sz, .int .i64 wd, .int .i64 ht, .bool st] := Blk.eqw hV_ (((B.set_ 0 _).set_ 1 _).set_ 2 _)
  replace R := Blk.eqw hV_ (((R.far (p := ⟨N, 0, none⟩) (by dsimp only; omega) _).far (p := ⟨N, 1, none⟩) (by dsimp only; omega) _).far (p := ⟨N, 2, none⟩) (by dsimp only; omega) _)
  replace Y := Blk.eqw hV_ (((Y.far (p := ⟨N, 0, none⟩) (by dsimp only; omega) _).far (p := ⟨N, 1, none⟩) (by dsimp only; omega) _).far (p := ⟨N, 2, none⟩) (by dsimp only; omega) _)
  replace T := Blk.eqw hV_ (((T.far (p := ⟨N, 0, none⟩) (by dsimp only; omega) _).far (p := ⟨N, 1, none⟩) (by dsimp only; omega) _).far (p := ⟨N, 2, none⟩) (by dsimp only; omega) _)
  replace H : Below w.heap.size w W4 := by rw [← hV_]; exact (((H.setCell (p := ⟨N, 0, none⟩) (by have := HN.out; dsimp only; omega) _).setCell (p := ⟨N, 1, none⟩) (by have := HN.out; dsimp only; omega) _).setCell (p := ⟨N, 2, none⟩) (by have := HN.out; dsimp only; omega) _)
  clear hV_
  clear b0 b1 b2 b3 b4 b5 b6 b7 b8 f0 f1 f2 f3 f4 f5 f6 f7 f8
  obtain ⟨⟨b0, b1, b2, b3, b4, b5, b6, b7, b8⟩, -⟩ := B.c9
  obtain ⟨q0, q1, q2, -, -, -⟩ := T.c3
  go_upto_region 5 with (go_at_call 270; refine (HSP.out _).mono ?_; rintro e_ w5 ⟨rfl, h5⟩; clear b0 b1 b2 b3 b4 b5 b6 b7 b8 q0 q1 q2; replace B := B.on h5; replace R := R.on h5; replace Y := Y.on h5; replace T := T.on h5; replace H := after H h5; clear h5; obtain ⟨⟨b0, b1, b2, b3, b4, b5, b6, b7, b8⟩, f0, f1, f2, f3, f4, f5, f6, f7, f8⟩ := B.c9)
  generalize hV_ : (World.setCell (World.setCell (World.setCell w5 _ _) _ _) _ _) = W5
  replace B : Blk W5 (N) 40 #[.int .i64 v1, .int .i64 v2, .int .i64 v3, .int .i64 s1, .int .i64 s2, .int .i64 s3, .int .i64 wd, .int .i64 ht, .bool st] := Blk.eqw hV_ (((B.set_ 3 _).set_ 4 _).set_ 5 _)
  replace R := Blk.eqw hV_ (((R.far (p := ⟨N, 3, none⟩) (by dsimp only; omega) _).far (p := ⟨N, 4, none⟩) (by dsimp only; omega) _).far (p := ⟨N, 5, none⟩) (by dsimp only; omega) _)
  replace Y := Blk.eqw hV_ (((Y.far (p := ⟨N, 3, none⟩) (by dsimp only; omega) _).far (p := ⟨N, 4, none⟩) (by dsimp only; omega) _).far (p := ⟨N, 5, none⟩) (by dsimp only; omega) _)
  replace H : Below w.heap.size w W5 := by rw [← hV_]; exact (((H.setCell (p := ⟨N, 3, none⟩) (by have := HN.out; dsimp only; omega) _).setCell (p := ⟨N, 4, none⟩) (by have := HN.out; dsimp only; omega) _).setCell (p := ⟨N, 5, none⟩) (by have := HN.out; dsimp only; omega) _)
  clear hV_
  clear b0 b1 b2 b3 b4 b5 b6 b7 b8 f0 f1 f2 f3 f4 f5 f6 f7 f8 T HSP
  obtain ⟨⟨y0, y1, y2, y3, y4, y5⟩, -⟩ := Y.c6
  go_upto_region 6 with (go_at_call 140; refine (HCS.out _ H).mono ?_; rintro e_ w6 ⟨rfl, h6⟩; clear y0 y1 y2 y3 y4 y5; replace B := B.on h6; replace R := R.on h6; replace H := after H h6; clear h6; obtain ⟨⟨b0, b1, b2, b3, b4, b5, b6, b7, b8⟩, f0, f1, f2, f3, f4, f5, f6, f7, f8⟩ := B.c9)
  generalize hV_ : (World.setCell w6 _ _) = W6
  replace B : Blk W6 (N) 40 #[.int .i64 v1, .int .i64 v2, .int .i64 v3, .int .i64 s1, .int .i64 s2, .int .i64 s3, .int .i64 wd, .int .i64 ht, .bool ps] := Blk.eqw hV_ (B.set_ 8 _)
  replace R := Blk.eqw hV_ (R.far (p := ⟨N, 8, none⟩) (by dsimp only; omega) _)
  replace H : Below w.heap.size w W6 := by rw [← hV_]; exact (H.setCell (p := ⟨N, 8, none⟩) (by have := HN.out; dsimp only; omega) _)
  clear hV_
  clear b0 b1 b2 b3 b4 b5 b6 b7 b8 f0 f1 f2 f3 f4 f5 f6 f7 f8 Y HCS
  obtain ⟨⟨b0, b1, b2, b3, b4, b5, b6, b7, b8⟩, -⟩ := B.c9
  obtain ⟨⟨r0, r1, r2, r3, r4, r5, r6, r7, r8⟩, f0, f1, f2, f3, f4, f5, f6, f7, f8⟩ := R.c9
  have hNw : w.heap.size ≤ N + 1 + 1 := by have := HN.out; omega
  go_wp2_with fail
  have R2_ := R.st9 (.int .i64 (v1)) (.int .i64 (v2)) (.int .i64 (v3)) (.int .i64 (s1)) (.int .i64 (s2)) (.int .i64 (s3)) (.int .i64 (wd)) (.int .i64 (ht)) (.bool (ps))
  obtain ⟨⟨d0, d1, d2, d3, d4, d5, d6, d7, d8⟩, -⟩ := R2_.c9
  exact bodyPost_ret (v := .agg #[.int .i64 (v1), .int .i64 (v2), .int .i64 (v3), .int .i64 (s1), .int .i64 (s2), .int .i64 (s3), .int .i64 (wd), .int .i64 (ht), .bool (ps)]) (by simp [results, Tryz.results198, go_sem, d0, d1, d2, d3, d4, d5, d6, d7, d8]) rfl ⟨rfl, sx9_below H hNw _ _ _ _ _ _ _ _ _⟩
end Go.Proofs.YtmbccnioijokfaaGreatDoor

namespace Go.Proofs.YtmbccnioijokfaaGreatDoor
open Go.RowKit Go.Shelf
attribute [local go_sem] Oper.semAt_some
theorem arrf_at (a b c : Value) (w : World) : (Instr.index 269 (.agg #[a, b, c]) (.int .i64 0)).run Tryz.prog w = .ok a w ∧ (Instr.index 269 (.agg #[a, b, c]) (.int .i64 1)).run Tryz.prog w = .ok b w ∧ (Instr.index 269 (.agg #[a, b, c]) (.int .i64 2)).run Tryz.prog w = .ok c w := by
  refine ⟨?_, ?_, ?_⟩ <;> simp [Instr.index, asIntOf, go_sem]
set_option maxRecDepth 100000 in
set_option maxHeartbeats 8000000 in
theorem bstep_c (V : FuncId) (lv : Value) (val : Cl → Int) (b : BD) (ix iz : Int) (j : Bool) (M : Int) (hM : M ≤ 71000000000000) (hM0 : 0 ≤ M) (hB : BOk M b) (w : World)
    (eV : ∀ args w, (callFunc V args).run Tryz.prog w = .ok (.enter V args) w) (hV : Tells Tryz.prog V lv val w) :
    Calls Tryz.prog 150 #[.agg (bd9 b), .func (.func V) #[lv] #[], .agg #[.int .i64 ix, .int .i64 iz, .bool j]] w fun r w' => r = .returned (.agg (bd9 (stepB val b ix iz j))) ∧ Below w.heap.size w w' := by
  have C1 := fun W => bwalks_c b (.func (.func V) #[lv] #[]) ix iz j W
  have C2 := fun W (h : Below w.heap.size w W) => brises_c V lv val (walkB b ix iz) ix iz j M hM hM0 (hB.walk ix iz) W eV (hV.on h)
  have C3 := fun W (h : Below w.heap.size w W) => bgoes_c V lv val (riseB val (walkB b ix iz) j) ix iz j M hM hM0 ((hB.walk ix iz).rise val j) W eV (hV.on h)
  unfold stepB
  generalize goB val (riseB val (walkB b ix iz) j) = q3 at C3 ⊢
  generalize riseB val (walkB b ix iz) j = q2 at C2 C3
  generalize walkB b ix iz = q1 at C1 C2
  clear hM hM0 hB eV hV
  obtain ⟨x, y, z, sx, sy, sz, wd, ht, st⟩ := b
  obtain ⟨x1, y1, z1, sx1, sy1, sz1, wd1, ht1, st1⟩ := q1
  obtain ⟨x2, y2, z2, sx2, sy2, sz2, wd2, ht2, st2⟩ := q2
  obtain ⟨x3, y3, z3, sx3, sy3, sz3, wd3, ht3, st3⟩ := q3
  simp only [bd9] at *
  have HC1 := Lib.hid C1
  have HC2 := Lib.hid C2
  have HC3 := Lib.hid C3
  clear C1 C2 C3
  have ix0 := fun w => (arrf_at (.func (.func 196) #[] #[]) (.func (.func 197) #[] #[]) (.func (.func 198) #[] #[]) w).1
  have ix1 := fun w => (arrf_at (.func (.func 196) #[] #[]) (.func (.func 197) #[] #[]) (.func (.func 198) #[] #[]) w).2.1
  have ix2 := fun w => (arrf_at (.func (.func 196) #[] #[]) (.func (.func 197) #[] #[]) (.func (.func 198) #[] #[]) w).2.2
  obtain ⟨N, hN⟩ : ∃ N, N = w.heap.size := ⟨_, rfl⟩
  obtain ⟨W, hW⟩ : ∃ W, W = ((w.alloc (.cells #[.int .i64 x, .int .i64 y, .int .i64 z, .int .i64 sx, .int .i64 sy, .int .i64 sz, .int .i64 wd, .int .i64 ht, .bool st] 40)).alloc (.cells #[.int .i64 ix, .int .i64 iz, .bool j] 81)).alloc (.cells #[.int .i64 0, .int .i64 0, .int .i64 0, .int .i64 0, .int .i64 0, .int .i64 0, .int .i64 0, .int .i64 0, .bool false] 40) := ⟨_, rfl⟩
  have H : Below w.heap.size w W := by rw [hW]; go_grown
  have B : Blk W N 40 _ := Blk.eqw hW.symm (by rw [hN]; exact ((Blk.new' rfl).alloc _).alloc _)
  have D : Blk W (N + 1) 81 _ := Blk.eqw hW.symm (by rw [hN]; exact (Blk.new' (by simp)).alloc _)
  have R : Blk W (N + 1 + 1) 40 _ := Blk.eqw hW.symm (by rw [hN]; exact Blk.new' (by simp))
  go_enter Tryz.func150, Tryz.ntmps150
  go_upto_region 1 with (fail)
  rw [← hW, ← hN]
  have HN := Lib.hid hN
  clear hW hN
  go_upto_region 2 with (fail)
  go_loopw [8, 10] (fun _ kv wr => ((kv = .int .i64 0 ∧ Blk wr N 40 #[.int .i64 x, .int .i64 y, .int .i64 z, .int .i64 sx, .int .i64 sy, .int .i64 sz, .int .i64 wd, .int .i64 ht, .bool st]) ∨ (kv = .int .i64 1 ∧ Blk wr N 40 #[.int .i64 x1, .int .i64 y1, .int .i64 z1, .int .i64 sx1, .int .i64 sy1, .int .i64 sz1, .int .i64 wd1, .int .i64 ht1, .bool st1]) ∨ (kv = .int .i64 2 ∧ Blk wr N 40 #[.int .i64 x2, .int .i64 y2, .int .i64 z2, .int .i64 sx2, .int .i64 sy2, .int .i64 sz2, .int .i64 wd2, .int .i64 ht2, .bool st2]) ∨ (kv = .int .i64 3 ∧ Blk wr N 40 #[.int .i64 x3, .int .i64 y3, .int .i64 z3, .int .i64 sx3, .int .i64 sy3, .int .i64 sz3, .int .i64 wd3, .int .i64 ht3, .bool st3])) ∧
    Blk wr (N + 1) 81 #[.int .i64 ix, .int .i64 iz, .bool j] ∧ Blk wr (N + 1 + 1) 40 #[.int .i64 0, .int .i64 0, .int .i64 0, .int .i64 0, .int .i64 0, .int .i64 0, .int .i64 0, .int .i64 0, .bool false] ∧ Hid (Below w.heap.size w wr)) (fun _ kv _ => 3 - (intOf kv).toNat)
  case atStart => exact ⟨.inl ⟨rfl, B⟩, D, R, Lib.hid H⟩
  case round =>
    clear B D R H
    obtain ⟨hd, D, R, H⟩ := hrel
    have hNw : w.heap.size ≤ N := by rw [← HN.out]; exact Nat.le_refl _
    have n1 : N + 1 ≠ N := by omega
    have n2 : N + 1 + 1 ≠ N := by omega
    rcases hd with ⟨rfl, B⟩ | ⟨rfl, B⟩ | ⟨rfl, B⟩ | ⟨rfl, B⟩
    · obtain ⟨⟨b0, b1, b2, b3, b4, b5, b6, b7, b8⟩, -⟩ := B.c9
      obtain ⟨d0, d1, d2, -, -, -⟩ := D.c3
      go_wp2_with (go_at_call 196; refine (HC1.out _).mono ?_; rintro e_ w5 ⟨rfl, h5⟩; clear b0 b1 b2 b3 b4 b5 b6 b7 b8 d0 d1 d2; replace B := B.on h5; obtain ⟨⟨b0, b1, b2, b3, b4, b5, b6, b7, b8⟩, f0, f1, f2, f3, f4, f5, f6, f7, f8⟩ := B.c9)
      have B2 := B.st9 (.int .i64 x1) (.int .i64 y1) (.int .i64 z1) (.int .i64 sx1) (.int .i64 sy1) (.int .i64 sz1) (.int .i64 wd1) (.int .i64 ht1) (.bool st1)
      go_roundw
      case rel => exact ⟨.inr (.inl ⟨rfl, B2⟩), sx9_far (D.on h5) n1 _ _ _ _ _ _ _ _ _, sx9_far (R.on h5) n2 _ _ _ _ _ _ _ _ _, Lib.hid (sx9_below (after H.out h5) hNw _ _ _ _ _ _ _ _ _)⟩
      case measure => simp [intOf]
    · obtain ⟨⟨b0, b1, b2, b3, b4, b5, b6, b7, b8⟩, -⟩ := B.c9
      obtain ⟨d0, d1, d2, -, -, -⟩ := D.c3
      go_wp2_with (go_at_call 197; refine (HC2.out _ H.out).mono ?_; rintro e_ w5 ⟨rfl, h5⟩; clear b0 b1 b2 b3 b4 b5 b6 b7 b8 d0 d1 d2; replace B := B.on h5; obtain ⟨⟨b0, b1, b2, b3, b4, b5, b6, b7, b8⟩, f0, f1, f2, f3, f4, f5, f6, f7, f8⟩ := B.c9)
      have B2 := B.st9 (.int .i64 x2) (.int .i64 y2) (.int .i64 z2) (.int .i64 sx2) (.int .i64 sy2) (.int .i64 sz2) (.int .i64 wd2) (.int .i64 ht2) (.bool st2)
      go_roundw
      case rel => exact ⟨.inr (.inr (.inl ⟨rfl, B2⟩)), sx9_far (D.on h5) n1 _ _ _ _ _ _ _ _ _, sx9_far (R.on h5) n2 _ _ _ _ _ _ _ _ _, Lib.hid (sx9_below (after H.out h5) hNw _ _ _ _ _ _ _ _ _)⟩
      case measure => simp [intOf]
    · obtain ⟨⟨b0, b1, b2, b3, b4, b5, b6, b7, b8⟩, -⟩ := B.c9
      obtain ⟨d0, d1, d2, -, -, -⟩ := D.c3
      go_wp2_with (go_at_call 198; refine (HC3.out _ H.out).mono ?_; rintro e_ w5 ⟨rfl, h5⟩; clear b0 b1 b2 b3 b4 b5 b6 b7 b8 d0 d1 d2; replace B := B.on h5; obtain ⟨⟨b0, b1, b2, b3, b4, b5, b6, b7, b8⟩, f0, f1, f2, f3, f4, f5, f6, f7, f8⟩ := B.c9)
      have B2 := B.st9 (.int .i64 x3) (.int .i64 y3) (.int .i64 z3) (.int .i64 sx3) (.int .i64 sy3) (.int .i64 sz3) (.int .i64 wd3) (.int .i64 ht3) (.bool st3)
      go_roundw
      case rel => exact ⟨.inr (.inr (.inr ⟨rfl, B2⟩)), sx9_far (D.on h5) n1 _ _ _ _ _ _ _ _ _, sx9_far (R.on h5) n2 _ _ _ _ _ _ _ _ _, Lib.hid (sx9_below (after H.out h5) hNw _ _ _ _ _ _ _ _ _)⟩
      case measure => simp [intOf]
    · obtain ⟨⟨b0, b1, b2, b3, b4, b5, b6, b7, b8⟩, -⟩ := B.c9
      obtain ⟨⟨r0, r1, r2, r3, r4, r5, r6, r7, r8⟩, f0, f1, f2, f3, f4, f5, f6, f7, f8⟩ := R.c9
      replace H := H.out
      have hNw : w.heap.size ≤ N + 1 + 1 := by omega
      go_wp2_with fail
      have R2_ := R.st9 (.int .i64 (x3)) (.int .i64 (y3)) (.int .i64 (z3)) (.int .i64 (sx3)) (.int .i64 (sy3)) (.int .i64 (sz3)) (.int .i64 (wd3)) (.int .i64 (ht3)) (.bool (st3))
      obtain ⟨⟨d0, d1, d2, d3, d4, d5, d6, d7, d8⟩, -⟩ := R2_.c9
      exact bodyPost_ret (v := .agg #[.int .i64 (x3), .int .i64 (y3), .int .i64 (z3), .int .i64 (sx3), .int .i64 (sy3), .int .i64 (sz3), .int .i64 (wd3), .int .i64 (ht3), .bool (st3)]) (by simp [results, Tryz.results150, go_sem, d0, d1, d2, d3, d4, d5, d6, d7, d8]) rfl ⟨rfl, sx9_below H hNw _ _ _ _ _ _ _ _ _⟩
end Go.Proofs.YtmbccnioijokfaaGreatDoor

namespace Go.Proofs.YtmbccnioijokfaaGreatDoor
open Go.RowKit
theorem Rws.in3 {w : World} {q : Option Addr} {n : Nat} {F : Nat → InD} (h : Rws 3 enIn w q n F) {k : Nat} (hk : k < n) {a b : Int} {c : Bool} (e : F k = (a, b, c)) : ∃ g o, q = some ⟨g, o, none⟩ ∧ w.cell? ⟨g, o + k * 3, none⟩ = some (.int .i64 a) ∧ w.cell? ⟨g, o + k * 3 + 1, none⟩ = some (.int .i64 b) ∧ w.cell? ⟨g, o + k * 3 + 2, none⟩ = some (.bool c) := by
  obtain ⟨g, o, hq, h1⟩ := h (by omega)
  have h2 := h1 k hk
  rw [e] at h2
  exact ⟨g, o, hq, h2 0 _ rfl, h2 1 _ rfl, h2 2 _ rfl⟩
end Go.Proofs.YtmbccnioijokfaaGreatDoor

namespace Go.Proofs
open Go.Shelf
def Tryz.lays169_ren : Go.Shelf.Ren := ⟨fun | 169 => 66 | n => n, fun | 70 => 100 | 9 => 9 | 0 => 0 | 72 => 102 | 37 => 51 | 127 => 169 | 3 => 3 | 5 => 5 | n => n, fun | n => n⟩
theorem Tryz.lays169 : Go.Proofs.Lays.n169 Tryz.prog Tryz.lays169_ren := {
  mixed := by kernel_rfl
  f169 := Tryz.func66.trans (congrArg some (by kernel_rfl))
  t0 := Tryz.underlying0
  a0 := Tryz.isAgg0
  z0 := Tryz.sizeOf0
  v0 := Tryz.zeroValue0
  t3 := Tryz.underlying3
  a3 := Tryz.isAgg3
  z3 := Tryz.sizeOf3
  v3 := Tryz.zeroValue3
  t9 := Tryz.underlying9
  a9 := Tryz.isAgg9
  z9 := Tryz.sizeOf9
  v9 := Tryz.zeroValue9
  t37 := Tryz.underlying51
  a37 := Tryz.isAgg51
  z37 := Tryz.sizeOf51
  v37 := Tryz.zeroValue51
  t70 := Tryz.underlying100
  a70 := Tryz.isAgg100
  z70 := Tryz.sizeOf100
  v70 := Tryz.zeroValue100
  t72 := Tryz.underlying102
  a72 := Tryz.isAgg102
  z72 := Tryz.sizeOf102
  v72 := Tryz.zeroValue102
  t127 := Tryz.underlying169
  a127 := Tryz.isAgg169
  z127 := Tryz.sizeOf169
  v127 := Tryz.zeroValue169 }
theorem Tryz.Builder_Extra_169 : Builder.Extra Tryz.prog Tryz.lays169_ren := {
  sizeBuilder := by kernel_rfl
  liesBuilder := by kernel_rfl
  t5 := Tryz.underlying5
  a5 := Tryz.isAgg5
  z5 := Tryz.sizeOf5
  v5 := Tryz.zeroValue5
  infoByte := by kernel_rfl
  cellsByte := by kernel_rfl
  sizeByte := by kernel_rfl
  neB5 := by decide }
def Tryz.lays156_ren : Go.Shelf.Ren := ⟨fun | 156 => 117 | 165 => 164 | 166 => 65 | 169 => 66 | 240 => 107 | 241 => 212 | 276 => 157 | 277 => 288 | n => n, fun | 31 => 48 | 9 => 9 | 3 => 3 | 4 => 4 | 0 => 0 | 20 => 20 | 72 => 102 | 76 => 106 | 70 => 100 | 37 => 51 | 75 => 105 | 127 => 169 | 164 => 224 | 5 => 5 | 80 => 63 | n => n, fun | n => n⟩
theorem Tryz.lays156 : Go.Proofs.Lays.n156 Tryz.prog Tryz.lays156_ren := {
  mixed := by kernel_rfl
  f156 := Tryz.func117.trans (congrArg some (by kernel_rfl))
  f165 := Tryz.func164.trans (congrArg some (by kernel_rfl))
  f166 := Tryz.func65.trans (congrArg some (by kernel_rfl))
  f169 := Tryz.func66.trans (congrArg some (by kernel_rfl))
  f240 := Tryz.func107.trans (congrArg some (by kernel_rfl))
  f241 := Tryz.func212.trans (congrArg some (by kernel_rfl))
  f276 := Tryz.func157.trans (congrArg some (by kernel_rfl))
  f277 := Tryz.func288.trans (congrArg some (by kernel_rfl))
  t0 := Tryz.underlying0
  a0 := Tryz.isAgg0
  z0 := Tryz.sizeOf0
  v0 := Tryz.zeroValue0
  t3 := Tryz.underlying3
  a3 := Tryz.isAgg3
  z3 := Tryz.sizeOf3
  v3 := Tryz.zeroValue3
  t4 := Tryz.underlying4
  a4 := Tryz.isAgg4
  z4 := Tryz.sizeOf4
  v4 := Tryz.zeroValue4
  t9 := Tryz.underlying9
  a9 := Tryz.isAgg9
  z9 := Tryz.sizeOf9
  v9 := Tryz.zeroValue9
  t20 := Tryz.underlying20
  a20 := Tryz.isAgg20
  z20 := Tryz.sizeOf20
  v20 := Tryz.zeroValue20
  t31 := Tryz.underlying48
  a31 := Tryz.isAgg48
  z31 := Tryz.sizeOf48
  v31 := Tryz.zeroValue48
  t37 := Tryz.underlying51
  a37 := Tryz.isAgg51
  z37 := Tryz.sizeOf51
  v37 := Tryz.zeroValue51
  t70 := Tryz.underlying100
  a70 := Tryz.isAgg100
  z70 := Tryz.sizeOf100
  v70 := Tryz.zeroValue100
  t72 := Tryz.underlying102
  a72 := Tryz.isAgg102
  z72 := Tryz.sizeOf102
  v72 := Tryz.zeroValue102
  t75 := Tryz.underlying105
  a75 := Tryz.isAgg105
  z75 := Tryz.sizeOf105
  v75 := Tryz.zeroValue105
  t76 := Tryz.underlying106
  a76 := Tryz.isAgg106
  z76 := Tryz.sizeOf106
  v76 := Tryz.zeroValue106
  t127 := Tryz.underlying169
  a127 := Tryz.isAgg169
  z127 := Tryz.sizeOf169
  v127 := Tryz.zeroValue169
  t164 := Tryz.underlying224
  a164 := Tryz.isAgg224
  z164 := Tryz.sizeOf224
  v164 := Tryz.zeroValue224 }
theorem Tryz.Builder_Extra_156 : Builder.Extra Tryz.prog Tryz.lays156_ren := {
  sizeBuilder := by kernel_rfl
  liesBuilder := by kernel_rfl
  t5 := Tryz.underlying5
  a5 := Tryz.isAgg5
  z5 := Tryz.sizeOf5
  v5 := Tryz.zeroValue5
  infoByte := by kernel_rfl
  cellsByte := by kernel_rfl
  sizeByte := by kernel_rfl
  neB5 := by decide }
open Go.RowKit in
theorem Tryz.strings_Join (bk o c : Nat) (xs : List ByteArray) (sep : ByteArray) (w : World) (hcells : ∀ (j : Nat) x, xs[j]? = some x → w.cell? ⟨bk, o + j, none⟩ = some (.string x)) (hbk : bk < w.heap.size) (hN : xs.length ≤ 140737488355328) (hcap : xs.length ≤ c) (hlen : (Lib.join (xs.map (·.data.toList)) sep.data.toList).length ≤ 140737488355328) :
    Calls Tryz.prog 117 #[.slice (some ⟨bk, o, none⟩) xs.length c, .string sep] w fun e w' => e = .returned (.string ⟨(Lib.join (xs.map (·.data.toList)) sep.data.toList).toArray⟩) ∧ Below w.heap.size w w' := Any.strings_Join Tryz.lays156 Tryz.Builder_Extra_156 bk o c xs sep w hcells hbk hN hcap hlen
def Tryz.lays103_ren : Go.Shelf.Ren := ⟨fun | 103 => 162 | 210 => 210 | 206 => 283 | n => n, fun | 9 => 9 | 4 => 4 | 24 => 228 | 3 => 3 | n => n, fun | n => n⟩
theorem Tryz.lays103 : Go.Proofs.Lays.n103 Tryz.prog Tryz.lays103_ren := {
  mixed := by kernel_rfl
  f103 := Tryz.func162.trans (congrArg some (by kernel_rfl))
  f206 := Tryz.func283.trans (congrArg some (by kernel_rfl))
  f210 := Tryz.func210.trans (congrArg some (by kernel_rfl))
  t3 := Tryz.underlying3
  a3 := Tryz.isAgg3
  z3 := Tryz.sizeOf3
  v3 := Tryz.zeroValue3
  t4 := Tryz.underlying4
  a4 := Tryz.isAgg4
  z4 := Tryz.sizeOf4
  v4 := Tryz.zeroValue4
  t9 := Tryz.underlying9
  a9 := Tryz.isAgg9
  z9 := Tryz.sizeOf9
  v9 := Tryz.zeroValue9
  t24 := Tryz.underlying228
  a24 := Tryz.isAgg228
  z24 := Tryz.sizeOf228
  v24 := Tryz.zeroValue228 }
open Go.RowKit in
theorem Tryz.strings_CutPrefix (s p : ByteArray) (w : World) :
    Calls Tryz.prog 162 #[.string s, .string p] w fun e w' => e = .returned (.tuple #[.string ⟨(Lib.trimPrefix s.data.toList p.data.toList).toArray⟩, .bool (Lib.hasPrefix s.data.toList p.data.toList)]) ∧ w' = w := Any.strings_CutPrefix Tryz.lays103 s p w
open Go.RowKit in
theorem Tryz.Builder_String_k (B b : Nat) (l : List UInt8) (w : World) (h : Lib.IsBuilderF 102 5 B b (Lib.byteCells l) w) (h0 : l ≠ []) :
    Calls Tryz.prog 66 #[.pointer (some ⟨b, 0, none⟩)] w fun e w' => e = .returned (.string ⟨l.toArray⟩) ∧ (Lib.IsBuilderF 102 5 B b (Lib.byteCells l) w' ∧ Below B w w' ∧ Lib.OthersKept 5 (some b) w w') := Any.Builder_String_k Tryz.lays169 Tryz.Builder_Extra_169 B b l w h h0
def Tryz.laysM246_ren : Go.Shelf.Ren := ⟨fun | 246 => 211 | 283 => 284 | 284 => 285 | 285 => 286 | 286 => 287 | 129 => 323 | 317 => 322 | 318 => 324 | 319 => 325 | 320 => 326 | 337 => 346 | 338 => 347 | n => n, fun | 2 => 2 | 3 => 3 | 9 => 9 | 4 => 4 | 171 => 330 | 0 => 0 | 53 => 331 | 37 => 51 | 5 => 5 | 173 => 334 | 212 => 371 | 51 => 367 | 20 => 20 | 213 => 372 | 46 => 90 | 232 => 403 | 233 => 404 | n => n, fun | 17 => 3 | 18 => 4 | 19 => 5 | n => n⟩
def Tryz.laysM243_ren : Go.Shelf.Ren := ⟨fun | 243 => 163 | 246 => 211 | 283 => 284 | 284 => 285 | 285 => 286 | 286 => 287 | 129 => 323 | 317 => 322 | 318 => 324 | 319 => 325 | 320 => 326 | 337 => 346 | 338 => 347 | n => n, fun | 3 => 3 | 9 => 9 | 2 => 2 | 4 => 4 | 171 => 330 | 0 => 0 | 53 => 331 | 37 => 51 | 5 => 5 | 173 => 334 | 212 => 371 | 51 => 367 | 20 => 20 | 213 => 372 | 46 => 90 | 232 => 403 | 233 => 404 | n => n, fun | 17 => 3 | 18 => 4 | 19 => 5 | n => n⟩
def Tryz.laysM171_ren : Go.Shelf.Ren := ⟨fun | 171 => 115 | 243 => 163 | 246 => 211 | 283 => 284 | 284 => 285 | 285 => 286 | 286 => 287 | 129 => 323 | 317 => 322 | 318 => 324 | 319 => 325 | 320 => 326 | 337 => 346 | 338 => 347 | n => n, fun | 3 => 3 | 9 => 9 | 2 => 2 | 4 => 4 | 171 => 330 | 0 => 0 | 53 => 331 | 37 => 51 | 5 => 5 | 173 => 334 | 212 => 371 | 51 => 367 | 20 => 20 | 213 => 372 | 46 => 90 | 232 => 403 | 233 => 404 | n => n, fun | 17 => 3 | 18 => 4 | 19 => 5 | n => n⟩
theorem Tryz.laysM171 : Go.Proofs.LaysM.n171 Tryz.prog Tryz.laysM171_ren := {
  mixed := by kernel_rfl
  f129 := Tryz.func323.trans (congrArg some (by kernel_rfl))
  f171 := Tryz.func115.trans (congrArg some (by kernel_rfl))
  f243 := Tryz.func163.trans (congrArg some (by kernel_rfl))
  f246 := Tryz.func211.trans (congrArg some (by kernel_rfl))
  f283 := Tryz.func284.trans (congrArg some (by kernel_rfl))
  f284 := Tryz.func285.trans (congrArg some (by kernel_rfl))
  f285 := Tryz.func286.trans (congrArg some (by kernel_rfl))
  f286 := Tryz.func287.trans (congrArg some (by kernel_rfl))
  f317 := Tryz.func322.trans (congrArg some (by kernel_rfl))
  f318 := Tryz.func324.trans (congrArg some (by kernel_rfl))
  f319 := Tryz.func325.trans (congrArg some (by kernel_rfl))
  f320 := Tryz.func326.trans (congrArg some (by kernel_rfl))
  f337 := Tryz.func346.trans (congrArg some (by kernel_rfl))
  f338 := Tryz.func347.trans (congrArg some (by kernel_rfl))
  t0 := Tryz.underlying0
  a0 := Tryz.isAgg0
  z0 := Tryz.sizeOf0
  v0 := Tryz.zeroValue0
  t2 := Tryz.underlying2
  a2 := Tryz.isAgg2
  z2 := Tryz.sizeOf2
  v2 := Tryz.zeroValue2
  t3 := Tryz.underlying3
  a3 := Tryz.isAgg3
  z3 := Tryz.sizeOf3
  v3 := Tryz.zeroValue3
  t4 := Tryz.underlying4
  a4 := Tryz.isAgg4
  z4 := Tryz.sizeOf4
  v4 := Tryz.zeroValue4
  t5 := Tryz.underlying5
  a5 := Tryz.isAgg5
  z5 := Tryz.sizeOf5
  v5 := Tryz.zeroValue5
  t9 := Tryz.underlying9
  a9 := Tryz.isAgg9
  z9 := Tryz.sizeOf9
  v9 := Tryz.zeroValue9
  t20 := Tryz.underlying20
  a20 := Tryz.isAgg20
  z20 := Tryz.sizeOf20
  v20 := Tryz.zeroValue20
  t37 := Tryz.underlying51
  a37 := Tryz.isAgg51
  z37 := Tryz.sizeOf51
  v37 := Tryz.zeroValue51
  t46 := Tryz.underlying90
  a46 := Tryz.isAgg90
  z46 := Tryz.sizeOf90
  v46 := Tryz.zeroValue90
  t51 := Tryz.underlying367
  a51 := Tryz.isAgg367
  z51 := Tryz.sizeOf367
  v51 := Tryz.zeroValue367
  t53 := Tryz.underlying331
  a53 := Tryz.isAgg331
  z53 := Tryz.sizeOf331
  v53 := Tryz.zeroValue331
  t171 := Tryz.underlying330
  a171 := Tryz.isAgg330
  z171 := Tryz.sizeOf330
  v171 := Tryz.zeroValue330
  t173 := Tryz.underlying334
  a173 := Tryz.isAgg334
  z173 := Tryz.sizeOf334
  v173 := Tryz.zeroValue334
  t212 := Tryz.underlying371
  a212 := Tryz.isAgg371
  z212 := Tryz.sizeOf371
  v212 := Tryz.zeroValue371
  t213 := Tryz.underlying372
  a213 := Tryz.isAgg372
  z213 := Tryz.sizeOf372
  t232 := Tryz.underlying403
  a232 := Tryz.isAgg403
  z232 := Tryz.sizeOf403
  v232 := Tryz.zeroValue403
  t233 := Tryz.underlying404
  a233 := Tryz.isAgg404
  z233 := Tryz.sizeOf404
  v233 := Tryz.zeroValue404
  g17 := by kernel_rfl
  g18 := by kernel_rfl
  g19 := by kernel_rfl
  i0 := by kernel_rfl
  i2 := by kernel_rfl
  i3 := by kernel_rfl
  i4 := by kernel_rfl
  i5 := by kernel_rfl
  i9 := by kernel_rfl
  i20 := by kernel_rfl
  i37 := by kernel_rfl
  i46 := by kernel_rfl
  i51 := by kernel_rfl
  i53 := by kernel_rfl
  i171 := by kernel_rfl
  i173 := by kernel_rfl
  i212 := by kernel_rfl
  i232 := by kernel_rfl
  i233 := by kernel_rfl
  m17 := by kernel_rfl
  m18 := by kernel_rfl
  m19 := by kernel_rfl }
open Go.RowKit Go.Sort Go.Lib in
theorem Tryz.strconv_Itoa (n : Int) (h0 : -9223372036854775808 ≤ n) (h1 : n ≤ 9223372036854775807) (w : World) (htab : Lib.TabIs Tryz.prog w "internal/strconv.uint64pow10" .u64 Lib.pow10Tab) :
    Calls Tryz.prog 115 #[.int .i64 n] w fun e w' => e = .returned (.string ⟨(Lib.itoa n).toArray⟩) ∧ ∃ k os, w' = grow (w.drewN k) os := Any.strconv_Itoa Tryz.laysM171 n h0 h1 w htab
def Tryz.lays171_ren : Go.Shelf.Ren := ⟨fun | 171 => 115 | 243 => 163 | 246 => 211 | 283 => 284 | 284 => 285 | 285 => 286 | 286 => 287 | 129 => 323 | 317 => 322 | 318 => 324 | 319 => 325 | 320 => 326 | 337 => 346 | 338 => 347 | n => n, fun | 3 => 3 | 9 => 9 | 2 => 2 | 4 => 4 | 171 => 330 | 0 => 0 | 53 => 331 | 37 => 51 | 5 => 5 | 173 => 334 | 212 => 371 | 51 => 367 | 20 => 20 | 213 => 372 | 46 => 90 | 232 => 403 | 233 => 404 | n => n, fun | 17 => 3 | 18 => 4 | 19 => 5 | n => n⟩
theorem Tryz.lays171 : Go.Proofs.Lays.n171 Tryz.prog Tryz.lays171_ren := {
  mixed := by kernel_rfl
  f129 := Tryz.func323.trans (congrArg some (by kernel_rfl))
  f171 := Tryz.func115.trans (congrArg some (by kernel_rfl))
  f243 := Tryz.func163.trans (congrArg some (by kernel_rfl))
  f246 := Tryz.func211.trans (congrArg some (by kernel_rfl))
  f283 := Tryz.func284.trans (congrArg some (by kernel_rfl))
  f284 := Tryz.func285.trans (congrArg some (by kernel_rfl))
  f285 := Tryz.func286.trans (congrArg some (by kernel_rfl))
  f286 := Tryz.func287.trans (congrArg some (by kernel_rfl))
  f317 := Tryz.func322.trans (congrArg some (by kernel_rfl))
  f318 := Tryz.func324.trans (congrArg some (by kernel_rfl))
  f319 := Tryz.func325.trans (congrArg some (by kernel_rfl))
  f320 := Tryz.func326.trans (congrArg some (by kernel_rfl))
  f337 := Tryz.func346.trans (congrArg some (by kernel_rfl))
  f338 := Tryz.func347.trans (congrArg some (by kernel_rfl))
  t0 := Tryz.underlying0
  a0 := Tryz.isAgg0
  z0 := Tryz.sizeOf0
  v0 := Tryz.zeroValue0
  t2 := Tryz.underlying2
  a2 := Tryz.isAgg2
  z2 := Tryz.sizeOf2
  v2 := Tryz.zeroValue2
  t3 := Tryz.underlying3
  a3 := Tryz.isAgg3
  z3 := Tryz.sizeOf3
  v3 := Tryz.zeroValue3
  t4 := Tryz.underlying4
  a4 := Tryz.isAgg4
  z4 := Tryz.sizeOf4
  v4 := Tryz.zeroValue4
  t5 := Tryz.underlying5
  a5 := Tryz.isAgg5
  z5 := Tryz.sizeOf5
  v5 := Tryz.zeroValue5
  t9 := Tryz.underlying9
  a9 := Tryz.isAgg9
  z9 := Tryz.sizeOf9
  v9 := Tryz.zeroValue9
  t20 := Tryz.underlying20
  a20 := Tryz.isAgg20
  z20 := Tryz.sizeOf20
  v20 := Tryz.zeroValue20
  t37 := Tryz.underlying51
  a37 := Tryz.isAgg51
  z37 := Tryz.sizeOf51
  v37 := Tryz.zeroValue51
  t46 := Tryz.underlying90
  a46 := Tryz.isAgg90
  z46 := Tryz.sizeOf90
  v46 := Tryz.zeroValue90
  t51 := Tryz.underlying367
  a51 := Tryz.isAgg367
  z51 := Tryz.sizeOf367
  v51 := Tryz.zeroValue367
  t53 := Tryz.underlying331
  a53 := Tryz.isAgg331
  z53 := Tryz.sizeOf331
  v53 := Tryz.zeroValue331
  t171 := Tryz.underlying330
  a171 := Tryz.isAgg330
  z171 := Tryz.sizeOf330
  v171 := Tryz.zeroValue330
  t173 := Tryz.underlying334
  a173 := Tryz.isAgg334
  z173 := Tryz.sizeOf334
  v173 := Tryz.zeroValue334
  t212 := Tryz.underlying371
  a212 := Tryz.isAgg371
  z212 := Tryz.sizeOf371
  v212 := Tryz.zeroValue371
  t213 := Tryz.underlying372
  a213 := Tryz.isAgg372
  z213 := Tryz.sizeOf372
  t232 := Tryz.underlying403
  a232 := Tryz.isAgg403
  z232 := Tryz.sizeOf403
  v232 := Tryz.zeroValue403
  t233 := Tryz.underlying404
  a233 := Tryz.isAgg404
  z233 := Tryz.sizeOf404
  v233 := Tryz.zeroValue404
  g17 := by kernel_rfl
  g18 := by kernel_rfl
  g19 := by kernel_rfl }
open Go.RowKit Go.Sort Go.Lib in
theorem Tryz.strconv_Itoa_small (i : Nat) (hi : i < 100) (w : World) :
    Calls Tryz.prog 115 #[.int .i64 i] w fun e w' => e = .returned (.string ⟨(Lib.decDigits i).toArray⟩) ∧ w' = w := Any.strconv_Itoa_small Tryz.lays171 i hi w
def Tryz.lays221_ren : Go.Shelf.Ren := ⟨fun | 221 => 106 | 268 => 154 | 138 => 155 | 143 => 156 | 195 => 204 | 197 => 205 | 218 => 206 | 219 => 207 | 260 => 277 | 217 => 278 | 225 => 279 | 224 => 280 | 267 => 281 | 266 => 320 | 314 => 321 | n => n, fun | 9 => 9 | 3 => 3 | 31 => 48 | 4 => 4 | 0 => 0 | 105 => 276 | 21 => 21 | 5 => 5 | 46 => 90 | 119 => 363 | 139 => 366 | 138 => 365 | 146 => 368 | 51 => 367 | n => n, fun | 1 => 0 | 3 => 1 | 4 => 2 | n => n⟩
def Tryz.lays146_ren : Go.Shelf.Ren := ⟨fun | 146 => 64 | 221 => 106 | 268 => 154 | 138 => 155 | 143 => 156 | 195 => 204 | 197 => 205 | 218 => 206 | 219 => 207 | 260 => 277 | 217 => 278 | 225 => 279 | 224 => 280 | 267 => 281 | 266 => 320 | 314 => 321 | n => n, fun | 9 => 9 | 31 => 48 | 3 => 3 | 4 => 4 | 0 => 0 | 105 => 276 | 21 => 21 | 5 => 5 | 46 => 90 | 119 => 363 | 139 => 366 | 138 => 365 | 146 => 368 | 51 => 367 | n => n, fun | 1 => 0 | 3 => 1 | 4 => 2 | n => n⟩
theorem Tryz.lays146 : Go.Proofs.Lays.n146 Tryz.prog Tryz.lays146_ren := {
  mixed := by kernel_rfl
  f138 := Tryz.func155.trans (congrArg some (by kernel_rfl))
  f143 := Tryz.func156.trans (congrArg some (by kernel_rfl))
  f146 := Tryz.func64.trans (congrArg some (by kernel_rfl))
  f195 := Tryz.func204.trans (congrArg some (by kernel_rfl))
  f197 := Tryz.func205.trans (congrArg some (by kernel_rfl))
  f217 := Tryz.func278.trans (congrArg some (by kernel_rfl))
  f218 := Tryz.func206.trans (congrArg some (by kernel_rfl))
  f219 := Tryz.func207.trans (congrArg some (by kernel_rfl))
  f221 := Tryz.func106.trans (congrArg some (by kernel_rfl))
  f224 := Tryz.func280.trans (congrArg some (by kernel_rfl))
  f225 := Tryz.func279.trans (congrArg some (by kernel_rfl))
  f260 := Tryz.func277.trans (congrArg some (by kernel_rfl))
  f266 := Tryz.func320.trans (congrArg some (by kernel_rfl))
  f267 := Tryz.func281.trans (congrArg some (by kernel_rfl))
  f268 := Tryz.func154.trans (congrArg some (by kernel_rfl))
  f314 := Tryz.func321.trans (congrArg some (by kernel_rfl))
  t0 := Tryz.underlying0
  a0 := Tryz.isAgg0
  z0 := Tryz.sizeOf0
  v0 := Tryz.zeroValue0
  t3 := Tryz.underlying3
  a3 := Tryz.isAgg3
  z3 := Tryz.sizeOf3
  v3 := Tryz.zeroValue3
  t4 := Tryz.underlying4
  a4 := Tryz.isAgg4
  z4 := Tryz.sizeOf4
  v4 := Tryz.zeroValue4
  t5 := Tryz.underlying5
  a5 := Tryz.isAgg5
  z5 := Tryz.sizeOf5
  v5 := Tryz.zeroValue5
  t9 := Tryz.underlying9
  a9 := Tryz.isAgg9
  z9 := Tryz.sizeOf9
  v9 := Tryz.zeroValue9
  t21 := Tryz.underlying21
  a21 := Tryz.isAgg21
  z21 := Tryz.sizeOf21
  v21 := Tryz.zeroValue21
  t31 := Tryz.underlying48
  a31 := Tryz.isAgg48
  z31 := Tryz.sizeOf48
  v31 := Tryz.zeroValue48
  t46 := Tryz.underlying90
  a46 := Tryz.isAgg90
  z46 := Tryz.sizeOf90
  v46 := Tryz.zeroValue90
  t51 := Tryz.underlying367
  a51 := Tryz.isAgg367
  z51 := Tryz.sizeOf367
  v51 := Tryz.zeroValue367
  t105 := Tryz.underlying276
  a105 := Tryz.isAgg276
  z105 := Tryz.sizeOf276
  v105 := Tryz.zeroValue276
  t119 := Tryz.underlying363
  a119 := Tryz.isAgg363
  z119 := Tryz.sizeOf363
  t138 := Tryz.underlying365
  a138 := Tryz.isAgg365
  z138 := Tryz.sizeOf365
  v138 := Tryz.zeroValue365
  t139 := Tryz.underlying366
  a139 := Tryz.isAgg366
  z139 := Tryz.sizeOf366
  v139 := Tryz.zeroValue366
  t146 := Tryz.underlying368
  a146 := Tryz.isAgg368
  z146 := Tryz.sizeOf368
  v146 := Tryz.zeroValue368
  g1 := by kernel_rfl
  g3 := by kernel_rfl
  g4 := by kernel_rfl }
open Go.RowKit Go.Lib in
theorem Tryz.strings_Split (s sep : ByteArray) (m : Int) (w : World) (hs : s.size < 4294967281) (hm : w.cell? ⟨0, 0, none⟩ = some (.int .i64 m)) (h1 : 1 ≤ sep.size) :
    Calls Tryz.prog 64 #[.string s, .string sep] w fun e w' =>
      e = .returned (.slice (some ⟨w.heap.size, 0, none⟩) (Lib.countB s sep + 1) (Lib.countB s sep + 1)) ∧ w' = w.alloc (.cells ((Lib.splitB sep 0 (Lib.countB s sep) s).map Value.string).toArray 9) := Any.strings_Split Tryz.lays146 (by kernel_rfl) s sep m w hs hm h1
def Tryz.laysM146_ren : Go.Shelf.Ren := ⟨fun | 146 => 64 | 221 => 106 | 268 => 154 | 138 => 155 | 143 => 156 | 195 => 204 | 197 => 205 | 218 => 206 | 219 => 207 | 260 => 277 | 217 => 278 | 225 => 279 | 224 => 280 | 267 => 281 | 266 => 320 | 314 => 321 | n => n, fun | 9 => 9 | 31 => 48 | 3 => 3 | 4 => 4 | 0 => 0 | 105 => 276 | 21 => 21 | 5 => 5 | 46 => 90 | 119 => 363 | 139 => 366 | 138 => 365 | 146 => 368 | 51 => 367 | n => n, fun | 1 => 0 | 3 => 1 | 4 => 2 | n => n⟩
theorem Tryz.laysM146 : Go.Proofs.LaysM.n146 Tryz.prog Tryz.laysM146_ren := {
  mixed := by kernel_rfl
  f138 := Tryz.func155.trans (congrArg some (by kernel_rfl))
  f143 := Tryz.func156.trans (congrArg some (by kernel_rfl))
  f146 := Tryz.func64.trans (congrArg some (by kernel_rfl))
  f195 := Tryz.func204.trans (congrArg some (by kernel_rfl))
  f197 := Tryz.func205.trans (congrArg some (by kernel_rfl))
  f217 := Tryz.func278.trans (congrArg some (by kernel_rfl))
  f218 := Tryz.func206.trans (congrArg some (by kernel_rfl))
  f219 := Tryz.func207.trans (congrArg some (by kernel_rfl))
  f221 := Tryz.func106.trans (congrArg some (by kernel_rfl))
  f224 := Tryz.func280.trans (congrArg some (by kernel_rfl))
  f225 := Tryz.func279.trans (congrArg some (by kernel_rfl))
  f260 := Tryz.func277.trans (congrArg some (by kernel_rfl))
  f266 := Tryz.func320.trans (congrArg some (by kernel_rfl))
  f267 := Tryz.func281.trans (congrArg some (by kernel_rfl))
  f268 := Tryz.func154.trans (congrArg some (by kernel_rfl))
  f314 := Tryz.func321.trans (congrArg some (by kernel_rfl))
  t0 := Tryz.underlying0
  a0 := Tryz.isAgg0
  z0 := Tryz.sizeOf0
  v0 := Tryz.zeroValue0
  t3 := Tryz.underlying3
  a3 := Tryz.isAgg3
  z3 := Tryz.sizeOf3
  v3 := Tryz.zeroValue3
  t4 := Tryz.underlying4
  a4 := Tryz.isAgg4
  z4 := Tryz.sizeOf4
  v4 := Tryz.zeroValue4
  t5 := Tryz.underlying5
  a5 := Tryz.isAgg5
  z5 := Tryz.sizeOf5
  v5 := Tryz.zeroValue5
  t9 := Tryz.underlying9
  a9 := Tryz.isAgg9
  z9 := Tryz.sizeOf9
  v9 := Tryz.zeroValue9
  t21 := Tryz.underlying21
  a21 := Tryz.isAgg21
  z21 := Tryz.sizeOf21
  v21 := Tryz.zeroValue21
  t31 := Tryz.underlying48
  a31 := Tryz.isAgg48
  z31 := Tryz.sizeOf48
  v31 := Tryz.zeroValue48
  t46 := Tryz.underlying90
  a46 := Tryz.isAgg90
  z46 := Tryz.sizeOf90
  v46 := Tryz.zeroValue90
  t51 := Tryz.underlying367
  a51 := Tryz.isAgg367
  z51 := Tryz.sizeOf367
  v51 := Tryz.zeroValue367
  t105 := Tryz.underlying276
  a105 := Tryz.isAgg276
  z105 := Tryz.sizeOf276
  v105 := Tryz.zeroValue276
  t119 := Tryz.underlying363
  a119 := Tryz.isAgg363
  z119 := Tryz.sizeOf363
  t138 := Tryz.underlying365
  a138 := Tryz.isAgg365
  z138 := Tryz.sizeOf365
  v138 := Tryz.zeroValue365
  t139 := Tryz.underlying366
  a139 := Tryz.isAgg366
  z139 := Tryz.sizeOf366
  v139 := Tryz.zeroValue366
  t146 := Tryz.underlying368
  a146 := Tryz.isAgg368
  z146 := Tryz.sizeOf368
  v146 := Tryz.zeroValue368
  g1 := by kernel_rfl
  g3 := by kernel_rfl
  g4 := by kernel_rfl
  i0 := by kernel_rfl
  i3 := by kernel_rfl
  i4 := by kernel_rfl
  i5 := by kernel_rfl
  i9 := by kernel_rfl
  i21 := by kernel_rfl
  i31 := by kernel_rfl
  i46 := by kernel_rfl
  i51 := by kernel_rfl
  i105 := by kernel_rfl
  i138 := by kernel_rfl
  i139 := by kernel_rfl
  i146 := by kernel_rfl
  m1 := by kernel_rfl
  s1_3 := fun w h => Go.Proofs.cell_of_shapedOpen_int (zero := #[.int .i64 0]) (t := 3) h (of_decide_eq_true (by kernel_rfl)) (by kernel_rfl) rfl (by kernel_rfl) (by kernel_rfl) Tryz.underlying3
  m3 := by kernel_rfl
  m4 := by kernel_rfl }
def Tryz.lays229_ren : Go.Shelf.Ren := ⟨fun | 229 => 38 | n => n, fun | 9 => 9 | 40 => 97 | 31 => 48 | 152 => 117 | 3 => 3 | 0 => 0 | 4 => 4 | 21 => 21 | 154 => 119 | n => n, fun | n => n⟩
theorem Tryz.lays229 : Go.Proofs.Lays.n229 Tryz.prog Tryz.lays229_ren := {
  mixed := by kernel_rfl
  f229 := Tryz.func38.trans (congrArg some (by kernel_rfl))
  t0 := Tryz.underlying0
  a0 := Tryz.isAgg0
  z0 := Tryz.sizeOf0
  v0 := Tryz.zeroValue0
  t3 := Tryz.underlying3
  a3 := Tryz.isAgg3
  z3 := Tryz.sizeOf3
  v3 := Tryz.zeroValue3
  t4 := Tryz.underlying4
  a4 := Tryz.isAgg4
  z4 := Tryz.sizeOf4
  v4 := Tryz.zeroValue4
  t9 := Tryz.underlying9
  a9 := Tryz.isAgg9
  z9 := Tryz.sizeOf9
  v9 := Tryz.zeroValue9
  t21 := Tryz.underlying21
  a21 := Tryz.isAgg21
  z21 := Tryz.sizeOf21
  v21 := Tryz.zeroValue21
  t31 := Tryz.underlying48
  a31 := Tryz.isAgg48
  z31 := Tryz.sizeOf48
  v31 := Tryz.zeroValue48
  t40 := Tryz.underlying97
  a40 := Tryz.isAgg97
  z40 := Tryz.sizeOf97
  v40 := Tryz.zeroValue97
  t152 := Tryz.underlying117
  a152 := Tryz.isAgg117
  z152 := Tryz.sizeOf117
  v152 := Tryz.zeroValue117
  t154 := Tryz.underlying119
  a154 := Tryz.isAgg119
  z154 := Tryz.sizeOf119
  v154 := Tryz.zeroValue119 }
open Go.RowKit Go.Lib in
theorem Tryz.strings_FieldsFunc_runes (g : Nat) (lb : Array Value) (eg : ∀ args w, (callFunc g args).run Tryz.prog w = .ok (.enter g args) w) (p : Nat → Bool) (s : ByteArray) (w : World) (hs : s.size ≤ 4294967296) (hp : PredAtRunes Tryz.prog g lb p w) :
    Calls Tryz.prog 38 #[.string s, .func (.func g) #[] lb] w fun e w' => ∃ A, e = .returned (.slice (some ⟨A, 0, none⟩) (Lib.goFieldsP p s).length (Lib.goFieldsP p s).length) ∧ w.heap.size ≤ A ∧
      w'.ownsRow w.heap.size 9 1 (.slice (some ⟨A, 0, none⟩) (Lib.goFieldsP p s).length (Lib.goFieldsP p s).length) (Lib.goFieldsP p s).length ((Lib.goFieldsP p s).map Value.string) ∧ Below w.heap.size w w' := Any.strings_FieldsFunc_runes Tryz.lays229 g lb eg p s w hs hp (by kernel_rfl) (by kernel_rfl)
end Go.Proofs

