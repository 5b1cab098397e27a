/- Texts that build one behind the other, laid together: Bod9 RoomP Opn2 Shelf BlkT BlkT2 RunT4 ChkT ChkT2 TbP TbW TbF TbT. -/
import Derived.Test.YtmbccnioijokfaaGreatDoorMw6
import Derived.Shelf.Strings.Builder1
import Derived.Shelf.Strings.Builder2
import Derived.Shelf.Strings.OnBuilder
import Derived.Shelf.Small.Wraps
import Derived.Shelf.Strings.BuilderF
import Derived.Shelf.Strings.BuilderK
import Derived.Shelf.Strconv.Itoa0
import Derived.Shelf.Strconv.Itoa1
import Derived.Shelf.LaysM
import Derived.Shelf.Strconv.Itoa2
import Derived.Shelf.Strconv.Itoa3
import Derived.Shelf.Strings.Search1
import Derived.Shelf.Strings.Search2
import Derived.Shelf.Strings.Search3
import Derived.Shelf.Strings.Count
import Derived.Shelf.Strings.Shaped
import Derived.Shelf.Strings.Prefix
import Derived.Shelf.Strings.Split
import Derived.Shelf.Strings.SplitShaped
import Derived.Shelf.Unicode.DecodeSlow
import Derived.Shelf.Strings.FieldsFuncAny
import Derived.Ground.Names2Prog
import Derived.Shelf.Slices.SearchI
import Derived.Test.YtmbccnioijokfaaGreatDoorProg
import Derived.Test.YtmbccnioijokfaaGreatDoorMw3
import Derived.Test.YtmbccnioijokfaaGreatDoorMw4
import Derived.Test.YtmbccnioijokfaaGreatDoorMw1
import Derived.Test.YtmbccnioijokfaaGreatDoorMw5
import Derived.Test.YtmbccnioijokfaaGreatDoorMw2
namespace Go.Proofs.YtmbccnioijokfaaGreatDoor
open Go.RowKit Go.Shelf
attribute [local go_sem] Oper.semAt_some
theorem arrf_at (a b c : Value) (w : World) : (Instr.index 269 (.agg #[a, b, c]) (.int .i64 0)).run Tryz.prog w = .ok a w ∧ (Instr.index 269 (.agg #[a, b, c]) (.int .i64 1)).run Tryz.prog w = .ok b w ∧ (Instr.index 269 (.agg #[a, b, c]) (.int .i64 2)).run Tryz.prog w = .ok c w := by
  refine ⟨?_, ?_, ?_⟩ <;> simp [Instr.index, asIntOf, go_sem]
set_option maxRecDepth 100000 in
set_option maxHeartbeats 8000000 in
theorem bstep_c (V : FuncId) (lv : Value) (val : Cl → Int) (b : BD) (ix iz : Int) (j : Bool) (M : Int) (hM : M ≤ 71000000000000) (hM0 : 0 ≤ M) (hB : BOk M b) (w : World)
    (eV : ∀ args w, (callFunc V args).run Tryz.prog w = .ok (.enter V args) w) (hV : Tells Tryz.prog V lv val w) :
    Calls Tryz.prog 150 #[.agg (bd9 b), .func (.func V) #[lv] #[], .agg #[.int .i64 ix, .int .i64 iz, .bool j]] w fun r w' => r = .returned (.agg (bd9 (stepB val b ix iz j))) ∧ Below w.heap.size w w' := by
  have C1 := fun W => bwalks_c b (.func (.func V) #[lv] #[]) ix iz j W
  have C2 := fun W (h : Below w.heap.size w W) => brises_c V lv val (walkB b ix iz) ix iz j M hM hM0 (hB.walk ix iz) W eV (hV.on h)
  have C3 := fun W (h : Below w.heap.size w W) => bgoes_c V lv val (riseB val (walkB b ix iz) j) ix iz j M hM hM0 ((hB.walk ix iz).rise val j) W eV (hV.on h)
  unfold stepB
  generalize goB val (riseB val (walkB b ix iz) j) = q3 at C3 ⊢
  generalize riseB val (walkB b ix iz) j = q2 at C2 C3
  generalize walkB b ix iz = q1 at C1 C2
  clear hM hM0 hB eV hV
  obtain ⟨x, y, z, sx, sy, sz, wd, ht, st⟩ := b
  obtain ⟨x1, y1, z1, sx1, sy1, sz1, wd1, ht1, st1⟩ := q1
  obtain ⟨x2, y2, z2, sx2, sy2, sz2, wd2, ht2, st2⟩ := q2
  obtain ⟨x3, y3, z3, sx3, sy3, sz3, wd3, ht3, st3⟩ := q3
  simp only [bd9] at *
  have HC1 := Lib.hid C1
  have HC2 := Lib.hid C2
  have HC3 := Lib.hid C3
  clear C1 C2 C3
  have ix0 := fun w => (arrf_at (.func (.func 196) #[] #[]) (.func (.func 197) #[] #[]) (.func (.func 198) #[] #[]) w).1
  have ix1 := fun w => (arrf_at (.func (.func 196) #[] #[]) (.func (.func 197) #[] #[]) (.func (.func 198) #[] #[]) w).2.1
  have ix2 := fun w => (arrf_at (.func (.func 196) #[] #[]) (.func (.func 197) #[] #[]) (.func (.func 198) #[] #[]) w).2.2
  obtain ⟨N, hN⟩ : ∃ N, N = w.heap.size := ⟨_, rfl⟩
  obtain ⟨W, hW⟩ : ∃ W, W = ((w.alloc (.cells #[.int .i64 x, .int .i64 y, .int .i64 z, .int .i64 sx, .int .i64 sy, .int .i64 sz, .int .i64 wd, .int .i64 ht, .bool st] 40)).alloc (.cells #[.int .i64 ix, .int .i64 iz, .bool j] 81)).alloc (.cells #[.int .i64 0, .int .i64 0, .int .i64 0, .int .i64 0, .int .i64 0, .int .i64 0, .int .i64 0, .int .i64 0, .bool false] 40) := ⟨_, rfl⟩
  have H : Below w.heap.size w W := by rw [hW]; go_grown
  have B : Blk W N 40 _ := Blk.eqw hW.symm (by rw [hN]; exact ((Blk.new' rfl).alloc _).alloc _)
  have D : Blk W (N + 1) 81 _ := Blk.eqw hW.symm (by rw [hN]; exact (Blk.new' (by simp)).alloc _)
  have R : Blk W (N + 1 + 1) 40 _ := Blk.eqw hW.symm (by rw [hN]; exact Blk.new' (by simp))
  go_enter Tryz.func150, Tryz.ntmps150
  go_upto_region 1 with (fail)
  rw [← hW, ← hN]
  have HN := Lib.hid hN
  clear hW hN
  go_upto_region 2 with (fail)
  go_loopw [8, 10] (fun _ kv wr => ((kv = .int .i64 0 ∧ Blk wr N 40 #[.int .i64 x, .int .i64 y, .int .i64 z, .int .i64 sx, .int .i64 sy, .int .i64 sz, .int .i64 wd, .int .i64 ht, .bool st]) ∨ (kv = .int .i64 1 ∧ Blk wr N 40 #[.int .i64 x1, .int .i64 y1, .int .i64 z1, .int .i64 sx1, .int .i64 sy1, .int .i64 sz1, .int .i64 wd1, .int .i64 ht1, .bool st1]) ∨ (kv = .int .i64 2 ∧ Blk wr N 40 #[.int .i64 x2, .int .i64 y2, .int .i64 z2, .int .i64 sx2, .int .i64 sy2, .int .i64 sz2, .int .i64 wd2, .int .i64 ht2, .bool st2]) ∨ (kv = .int .i64 3 ∧ Blk wr N 40 #[.int .i64 x3, .int .i64 y3, .int .i64 z3, .int .i64 sx3, .int .i64 sy3, .int .i64 sz3, .int .i64 wd3, .int .i64 ht3, .bool st3])) ∧
    Blk wr (N + 1) 81 #[.int .i64 ix, .int .i64 iz, .bool j] ∧ Blk wr (N + 1 + 1) 40 #[.int .i64 0, .int .i64 0, .int .i64 0, .int .i64 0, .int .i64 0, .int .i64 0, .int .i64 0, .int .i64 0, .bool false] ∧ Hid (Below w.heap.size w wr)) (fun _ kv _ => 3 - (intOf kv).toNat)
  case atStart => exact ⟨.inl ⟨rfl, B⟩, D, R, Lib.hid H⟩
  case round =>
    clear B D R H
    obtain ⟨hd, D, R, H⟩ := hrel
    have hNw : w.heap.size ≤ N := by rw [← HN.out]; exact Nat.le_refl _
    have n1 : N + 1 ≠ N := by omega
    have n2 : N + 1 + 1 ≠ N := by omega
    rcases hd with ⟨rfl, B⟩ | ⟨rfl, B⟩ | ⟨rfl, B⟩ | ⟨rfl, B⟩
    · obtain ⟨⟨b0, b1, b2, b3, b4, b5, b6, b7, b8⟩, -⟩ := B.c9
      obtain ⟨d0, d1, d2, -, -, -⟩ := D.c3
      go_wp2_with (go_at_call 196; refine (HC1.out _).mono ?_; rintro e_ w5 ⟨rfl, h5⟩; clear b0 b1 b2 b3 b4 b5 b6 b7 b8 d0 d1 d2; replace B := B.on h5; obtain ⟨⟨b0, b1, b2, b3, b4, b5, b6, b7, b8⟩, f0, f1, f2, f3, f4, f5, f6, f7, f8⟩ := B.c9)
      have B2 := B.st9 (.int .i64 x1) (.int .i64 y1) (.int .i64 z1) (.int .i64 sx1) (.int .i64 sy1) (.int .i64 sz1) (.int .i64 wd1) (.int .i64 ht1) (.bool st1)
      go_roundw
      case rel => exact ⟨.inr (.inl ⟨rfl, B2⟩), sx9_far (D.on h5) n1 _ _ _ _ _ _ _ _ _, sx9_far (R.on h5) n2 _ _ _ _ _ _ _ _ _, Lib.hid (sx9_below (after H.out h5) hNw _ _ _ _ _ _ _ _ _)⟩
      case measure => simp [intOf]
    · obtain ⟨⟨b0, b1, b2, b3, b4, b5, b6, b7, b8⟩, -⟩ := B.c9
      obtain ⟨d0, d1, d2, -, -, -⟩ := D.c3
      go_wp2_with (go_at_call 197; refine (HC2.out _ H.out).mono ?_; rintro e_ w5 ⟨rfl, h5⟩; clear b0 b1 b2 b3 b4 b5 b6 b7 b8 d0 d1 d2; replace B := B.on h5; obtain ⟨⟨b0, b1, b2, b3, b4, b5, b6, b7, b8⟩, f0, f1, f2, f3, f4, f5, f6, f7, f8⟩ := B.c9)
      have B2 := B.st9 (.int .i64 x2) (.int .i64 y2) (.int .i64 z2) (.int .i64 sx2) (.int .i64 sy2) (.int .i64 sz2) (.int .i64 wd2) (.int .i64 ht2) (.bool st2)
      go_roundw
      case rel => exact ⟨.inr (.inr (.inl ⟨rfl, B2⟩)), sx9_far (D.on h5) n1 _ _ _ _ _ _ _ _ _, sx9_far (R.on h5) n2 _ _ _ _ _ _ _ _ _, Lib.hid (sx9_below (after H.out h5) hNw _ _ _ _ _ _ _ _ _)⟩
      case measure => simp [intOf]
    · obtain ⟨⟨b0, b1, b2, b3, b4, b5, b6, b7, b8⟩, -⟩ := B.c9
      obtain ⟨d0, d1, d2, -, -, -⟩ := D.c3
      go_wp2_with (go_at_call 198; refine (HC3.out _ H.out).mono ?_; rintro e_ w5 ⟨rfl, h5⟩; clear b0 b1 b2 b3 b4 b5 b6 b7 b8 d0 d1 d2; replace B := B.on h5; obtain ⟨⟨b0, b1, b2, b3, b4, b5, b6, b7, b8⟩, f0, f1, f2, f3, f4, f5, f6, f7, f8⟩ := B.c9)
      have B2 := B.st9 (.int .i64 x3) (.int .i64 y3) (.int .i64 z3) (.int .i64 sx3) (.int .i64 sy3) (.int .i64 sz3) (.int .i64 wd3) (.int .i64 ht3) (.bool st3)
      go_roundw
      case rel => exact ⟨.inr (.inr (.inr ⟨rfl, B2⟩)), sx9_far (D.on h5) n1 _ _ _ _ _ _ _ _ _, sx9_far (R.on h5) n2 _ _ _ _ _ _ _ _ _, Lib.hid (sx9_below (after H.out h5) hNw _ _ _ _ _ _ _ _ _)⟩
      case measure => simp [intOf]
    · obtain ⟨⟨b0, b1, b2, b3, b4, b5, b6, b7, b8⟩, -⟩ := B.c9
      obtain ⟨⟨r0, r1, r2, r3, r4, r5, r6, r7, r8⟩, f0, f1, f2, f3, f4, f5, f6, f7, f8⟩ := R.c9
      replace H := H.out
      have hNw : w.heap.size ≤ N + 1 + 1 := by omega
      go_wp2_with fail
      have R2_ := R.st9 (.int .i64 (x3)) (.int .i64 (y3)) (.int .i64 (z3)) (.int .i64 (sx3)) (.int .i64 (sy3)) (.int .i64 (sz3)) (.int .i64 (wd3)) (.int .i64 (ht3)) (.bool (st3))
      obtain ⟨⟨d0, d1, d2, d3, d4, d5, d6, d7, d8⟩, -⟩ := R2_.c9
      exact bodyPost_ret (v := .agg #[.int .i64 (x3), .int .i64 (y3), .int .i64 (z3), .int .i64 (sx3), .int .i64 (sy3), .int .i64 (sz3), .int .i64 (wd3), .int .i64 (ht3), .bool (st3)]) (by simp [results, Tryz.results150, go_sem, d0, d1, d2, d3, d4, d5, d6, d7, d8]) rfl ⟨rfl, sx9_below H hNw _ _ _ _ _ _ _ _ _⟩
end Go.Proofs.YtmbccnioijokfaaGreatDoor

namespace Go.Proofs.YtmbccnioijokfaaGreatDoor
structure RoomX (x : B6) : Prop where
  x0 : 327680 ≤ x.1
  y0 : 1376256 ≤ x.2.1
  z0 : 327680 ≤ x.2.2.1
  x1 : x.2.2.2.1 ≤ 393216
  y1 : x.2.2.2.2.1 ≤ 1572864
  z1 : x.2.2.2.2.2 ≤ 393216
  xx : x.1 < x.2.2.2.1
  yy : x.2.1 < x.2.2.2.2.1
  zz : x.2.2.1 < x.2.2.2.2.2
def Walls (val : Cl → Int) : Prop := ∀ x y z : Int, (4 ≤ x ∧ x ≤ 6) → (20 ≤ y ∧ y ≤ 24) → (4 ≤ z ∧ z ≤ 6) → (y = 20 ∨ y = 24 ∨ x ≠ 5 ∨ z ≠ 5) → solB (val (x, y, z)) = true
section
variable {val : Cl → Int} {x : B6}
theorem RoomX.sm (h : RoomX x) : Sm6 2000000 x := by
  obtain ⟨h1, h2, h3, h4, h5, h6, h7, h8, h9⟩ := h
  exact ⟨by omega, by omega, by omega, by omega, by omega, by omega, by omega, by omega, by omega, by omega, by omega, by omega⟩
theorem ly_true {a b c d e f axis k : Int} (y : Cl) (hy : solB (val y) = true) (h0 : inAx (wiI a axis 0 (k * 65536)) (wiI d axis 0 (k * 65536 + 65536)) y.1) (h1 : inAx (wiI b axis 1 (k * 65536)) (wiI e axis 1 (k * 65536 + 65536)) y.2.1) (h2 : inAx (wiI c axis 2 (k * 65536)) (wiI f axis 2 (k * 65536 + 65536)) y.2.2) : lyB val a b c d e f axis k = true := by
  cases hl : lyB val a b c d e f axis k with
  | true => rfl
  | false =>
    have := lyB_false.1 hl y h0 h1 h2
    rw [hy] at this
    cases this
theorem in_roomX {lo hi : Int} (h1 : 327680 ≤ lo) (h2 : hi ≤ 393216) (h : lo < hi) : inAx lo hi 5 := (inAx_iff (by omega) (by omega) (by omega)).2 (.inl ⟨h, by omega, by omega⟩)
theorem in_room {lo hi : Int} (h1 : 1376256 ≤ lo) (h2 : hi ≤ 1572864) (h : lo < hi) : ∃ k, 21 ≤ k ∧ k ≤ 23 ∧ inAx lo hi k := ⟨lo / 65536, by omega, by omega, (inAx_iff (by omega) (by omega) (by omega)).2 (.inl ⟨h, by omega, by omega⟩)⟩
theorem RoomX.al (h : RoomX x) (hw : Walls val) {axis : Int} (d : Int) (ha : axis = 0 ∨ axis = 1 ∨ axis = 2) : RoomX (al6 val x axis d).1 := by
  obtain ⟨f1, f2⟩ := axisV_far val x.1 x.2.1 x.2.2.1 x.2.2.2.1 x.2.2.2.2.1 x.2.2.2.2.2 axis d
  have e : (al6 val x axis d).1 = sh6 x (if axis = 0 then (ax6 val x axis d).1 else 0) (if axis = 1 then (ax6 val x axis d).1 else 0) (if axis = 2 then (ax6 val x axis d).1 else 0) := by
    unfold al6 ax6
    exact mv_sh h.sm (by decide) ha (by omega) (by omega)
  rw [e]
  have hm : (ax6 val x axis d).1 = (axV (lyB val x.1 x.2.1 x.2.2.1 x.2.2.2.1 x.2.2.2.2.1 x.2.2.2.2.2 axis) (axI x.1 x.2.1 x.2.2.1 axis) (axI x.2.2.2.1 x.2.2.2.2.1 x.2.2.2.2.2 axis) (farI d)).1 := by
    unfold ax6 axisV
    rw [if_neg (by omega)]
  have near := fun k => axV_near (blk := lyB val x.1 x.2.1 x.2.2.1 x.2.2.2.1 x.2.2.2.2.1 x.2.2.2.2.2 axis) (low := axI x.1 x.2.1 x.2.2.1 axis) (top := axI x.2.2.2.1 x.2.2.2.2.1 x.2.2.2.2.2 axis) (d := farI d) (m := (ax6 val x axis d).1) (k := k) (by rw [hm]; omega)
  generalize (ax6 val x axis d).1 = m at *
  clear hm e f1 f2
  obtain ⟨h1, h2, h3, h4, h5, h6, h7, h8, h9⟩ := h
  obtain ⟨a, b, c, d1, e1, g1⟩ := x
  dsimp only at *
  have i0 := in_roomX h1 h4 h7
  have i2 := in_roomX h3 h6 h9
  obtain ⟨ky, k1, k2, i1⟩ := in_room h2 h5 h8
  rcases ha with rfl | rfl | rfl
  · have l6 : lyB val a b c d1 e1 g1 0 6 = true := ly_true (6, ky, 5) (hw 6 ky 5 (by omega) (by omega) (by omega) (by omega)) (by rw [wi_c (by omega) (by omega), wi_c (by omega) (by omega), if_pos rfl, if_pos rfl]; exact inAx_cell (by omega) (by omega)) (by rw [wi_c (by omega) (by omega), wi_c (by omega) (by omega), if_neg (by decide), if_neg (by decide)]; exact i1) (by rw [wi_c (by omega) (by omega), wi_c (by omega) (by omega), if_neg (by decide), if_neg (by decide)]; exact i2)
    have l4 : lyB val a b c d1 e1 g1 0 4 = true := ly_true (4, ky, 5) (hw 4 ky 5 (by omega) (by omega) (by omega) (by omega)) (by rw [wi_c (by omega) (by omega), wi_c (by omega) (by omega), if_pos rfl, if_pos rfl]; exact inAx_cell (by omega) (by omega)) (by rw [wi_c (by omega) (by omega), wi_c (by omega) (by omega), if_neg (by decide), if_neg (by decide)]; exact i1) (by rw [wi_c (by omega) (by omega), wi_c (by omega) (by omega), if_neg (by decide), if_neg (by decide)]; exact i2)
    have n6 : ¬ (0 ≤ 6 * 65536 - d1 ∧ 6 * 65536 - d1 < m) := fun hn => by have := (near 6).1 hn; rw [l6] at this; cases this
    have n4 : ¬ ((4 + 1) * 65536 - a ≤ 0 ∧ m < (4 + 1) * 65536 - a) := fun hn => by have := (near 4).2 hn; rw [l4] at this; cases this
    unfold sh6
    constructor <;> simp only [if_true, show ¬ ((0 : Int) = 1) by decide, show ¬ ((0 : Int) = 2) by decide, if_false] <;> omega
  · have l6 : lyB val a b c d1 e1 g1 1 24 = true := ly_true (5, 24, 5) (hw 5 24 5 (by omega) (by omega) (by omega) (by omega)) (by rw [wi_c (by omega) (by omega), wi_c (by omega) (by omega), if_neg (by decide), if_neg (by decide)]; exact i0) (by rw [wi_c (by omega) (by omega), wi_c (by omega) (by omega), if_pos rfl, if_pos rfl]; exact inAx_cell (by omega) (by omega)) (by rw [wi_c (by omega) (by omega), wi_c (by omega) (by omega), if_neg (by decide), if_neg (by decide)]; exact i2)
    have l4 : lyB val a b c d1 e1 g1 1 20 = true := ly_true (5, 20, 5) (hw 5 20 5 (by omega) (by omega) (by omega) (by omega)) (by rw [wi_c (by omega) (by omega), wi_c (by omega) (by omega), if_neg (by decide), if_neg (by decide)]; exact i0) (by rw [wi_c (by omega) (by omega), wi_c (by omega) (by omega), if_pos rfl, if_pos rfl]; exact inAx_cell (by omega) (by omega)) (by rw [wi_c (by omega) (by omega), wi_c (by omega) (by omega), if_neg (by decide), if_neg (by decide)]; exact i2)
    have n6 : ¬ (0 ≤ 24 * 65536 - e1 ∧ 24 * 65536 - e1 < m) := fun hn => by have := (near 24).1 (by simpa [axI] using hn); rw [l6] at this; cases this
    have n4 : ¬ ((20 + 1) * 65536 - b ≤ 0 ∧ m < (20 + 1) * 65536 - b) := fun hn => by have := (near 20).2 (by simpa [axI] using hn); rw [l4] at this; cases this
    unfold sh6
    constructor <;> simp only [if_true, show ¬ ((1 : Int) = 0) by decide, show ¬ ((1 : Int) = 2) by decide, if_false] <;> omega
  · have l6 : lyB val a b c d1 e1 g1 2 6 = true := ly_true (5, ky, 6) (hw 5 ky 6 (by omega) (by omega) (by omega) (by omega)) (by rw [wi_c (by omega) (by omega), wi_c (by omega) (by omega), if_neg (by decide), if_neg (by decide)]; exact i0) (by rw [wi_c (by omega) (by omega), wi_c (by omega) (by omega), if_neg (by decide), if_neg (by decide)]; exact i1) (by rw [wi_c (by omega) (by omega), wi_c (by omega) (by omega), if_pos rfl, if_pos rfl]; exact inAx_cell (by omega) (by omega))
    have l4 : lyB val a b c d1 e1 g1 2 4 = true := ly_true (5, ky, 4) (hw 5 ky 4 (by omega) (by omega) (by omega) (by omega)) (by rw [wi_c (by omega) (by omega), wi_c (by omega) (by omega), if_neg (by decide), if_neg (by decide)]; exact i0) (by rw [wi_c (by omega) (by omega), wi_c (by omega) (by omega), if_neg (by decide), if_neg (by decide)]; exact i1) (by rw [wi_c (by omega) (by omega), wi_c (by omega) (by omega), if_pos rfl, if_pos rfl]; exact inAx_cell (by omega) (by omega))
    have n6 : ¬ (0 ≤ 6 * 65536 - g1 ∧ 6 * 65536 - g1 < m) := fun hn => by have := (near 6).1 (by simpa [axI] using hn); rw [l6] at this; cases this
    have n4 : ¬ ((4 + 1) * 65536 - c ≤ 0 ∧ m < (4 + 1) * 65536 - c) := fun hn => by have := (near 4).2 (by simpa [axI] using hn); rw [l4] at this; cases this
    unfold sh6
    constructor <;> simp only [if_true, show ¬ ((2 : Int) = 0) by decide, show ¬ ((2 : Int) = 1) by decide, if_false] <;> omega
theorem RoomX.step (h : RoomX x) (hw : Walls val) (dx dy dz up : Int) : RoomX (stepV val x dx dy dz up).1 := by
  unfold stepV stepOf
  split
  · have k1 : RoomX (hi1 val x up).1 := h.al hw _ (by decide)
    have k2 : RoomX (oA val x dx up).1 := k1.al hw _ (by decide)
    have k3 : RoomX (oB val x dx dz up).1 := k2.al hw _ (by decide)
    exact k3.al hw _ (by decide)
  · have k1 : RoomX (st1 val x dy) := h.al hw _ (by decide)
    have k2 : RoomX (st2 val x dx dy) := k1.al hw _ (by decide)
    exact k2.al hw _ (by decide)
end
structure RoomB (b : BD) : Prop where
  ok : BOk 2000000 b
  box : RoomX (boxB b)
  wd : b.2.2.2.2.2.2.1 = 40000
  ht : b.2.2.2.2.2.2.2.1 = 100000
theorem RoomB.step {val : Cl → Int} {b : BD} (h : RoomB b) (hw : Walls val) (ix iz : Int) (j : Bool) : RoomB (stepB val b ix iz j) := by
  have hf := step_free val h.ok (by decide) (by decide) ix iz j
  have hs := h.ok.step (by decide) (by decide) val ix iz j
  have h2 := (h.ok.walk ix iz).rise val j
  have hbx : boxB (riseB val (walkB b ix iz) j) = boxB b := by rw [boxB_rise, boxB_walk]
  obtain ⟨p, q, r, e1, e2, -, -, -⟩ := goB_say val h2 (by decide) (by decide)
  have e : stepB val b ix iz j = goB val (riseB val (walkB b ix iz) j) := by unfold stepB; rfl
  have c1 : (riseB val (walkB b ix iz) j).1 = b.1 := by unfold riseB walkB; rfl
  have c2 : (riseB val (walkB b ix iz) j).2.1 = b.2.1 := by unfold riseB walkB; rfl
  have c3 : (riseB val (walkB b ix iz) j).2.2.1 = b.2.2.1 := by unfold riseB walkB; rfl
  have k1 : (stepB val b ix iz j).1 = b.1 + p := by rw [e, e2]; dsimp only; rw [c1]
  have k2 : (stepB val b ix iz j).2.1 = b.2.1 + q := by rw [e, e2]; dsimp only; rw [c2]
  have k3 : (stepB val b ix iz j).2.2.1 = b.2.2.1 + r := by rw [e, e2]; dsimp only; rw [c3]
  have hbox : boxB (stepB val b ix iz j) = (goV val (riseB val (walkB b ix iz) j)).1 := by
    rw [e1, hbx]
    exact box_shift (h.ok.mono (M' := 2262144) (by decide)) hs (by decide) k1 k2 k3 hf.wd hf.ht
  have hR : RoomX (boxB (stepB val b ix iz j)) := by
    rw [hbox]
    unfold goV
    exact RoomX.step (by rw [hbx]; exact h.box) hw _ _ _ _
  have hwd : (stepB val b ix iz j).2.2.2.2.2.2.1 = 40000 := hf.wd.trans h.wd
  have hht : (stepB val b ix iz j).2.2.2.2.2.2.2.1 = 100000 := hf.ht.trans h.ht
  refine ⟨?_, hR, hwd, hht⟩
  have hb := (hs.box (by decide)).2
  rw [hb] at hR
  obtain ⟨g1, g2, g3, g4, g5, g6, g7, g8, g9⟩ := hR
  dsimp only at g1 g2 g3 g4 g5 g6 g7 g8 g9
  rw [hwd] at g1 g3 g4 g6
  rw [hht] at g5
  exact ⟨by omega, by omega, by omega, hs.sx, hs.sy, hs.sz, hs.wd, hs.ht⟩
theorem RoomB.foot {b : BD} (h : RoomB b) : lowI b.1 = 5 ∧ lowI b.2.2.1 = 5 ∧ 21 ≤ lowI b.2.1 ∧ lowI b.2.1 ≤ 22 ∧ (327680 ≤ b.1 ∧ b.1 ≤ 393216) ∧ (1376256 ≤ b.2.1 ∧ b.2.1 ≤ 1572864) ∧ (327680 ≤ b.2.2.1 ∧ b.2.2.1 ≤ 393216) := by
  have hb := (h.ok.box (by decide)).2
  have hR := h.box
  rw [hb] at hR
  obtain ⟨g1, g2, g3, g4, g5, g6, g7, g8, g9⟩ := hR
  have hw := h.wd
  have hh := h.ht
  dsimp only at g1 g2 g3 g4 g5 g6 g7 g8 g9
  rw [hw] at g1 g3 g4 g6
  rw [hh] at g5
  unfold lowI
  rw [cutI_id (by omega) (by omega), cutI_id (by omega) (by omega), cutI_id (by omega) (by omega)]
  refine ⟨?_, ?_, ?_, ?_, ?_, ?_, ?_⟩ <;> omega
end Go.Proofs.YtmbccnioijokfaaGreatDoor

namespace Go.Proofs.YtmbccnioijokfaaGreatDoor
open Go.RowKit
theorem Rws.in3 {w : World} {q : Option Addr} {n : Nat} {F : Nat → InD} (h : Rws 3 enIn w q n F) {k : Nat} (hk : k < n) {a b : Int} {c : Bool} (e : F k = (a, b, c)) : ∃ g o, q = some ⟨g, o, none⟩ ∧ w.cell? ⟨g, o + k * 3, none⟩ = some (.int .i64 a) ∧ w.cell? ⟨g, o + k * 3 + 1, none⟩ = some (.int .i64 b) ∧ w.cell? ⟨g, o + k * 3 + 2, none⟩ = some (.bool c) := by
  obtain ⟨g, o, hq, h1⟩ := h (by omega)
  have h2 := h1 k hk
  rw [e] at h2
  exact ⟨g, o, hq, h2 0 _ rfl, h2 1 _ rfl, h2 2 _ rfl⟩
end Go.Proofs.YtmbccnioijokfaaGreatDoor

namespace Go.Proofs
open Go.Shelf
def Tryz.lays169_ren : Go.Shelf.Ren := ⟨fun | 169 => 66 | n => n, fun | 70 => 100 | 9 => 9 | 0 => 0 | 72 => 102 | 37 => 51 | 127 => 169 | 3 => 3 | 5 => 5 | n => n, fun | n => n⟩
theorem Tryz.lays169 : Go.Proofs.Lays.n169 Tryz.prog Tryz.lays169_ren := {
  mixed := by kernel_rfl
  f169 := Tryz.func66.trans (congrArg some (by kernel_rfl))
  t0 := Tryz.underlying0
  a0 := Tryz.isAgg0
  z0 := Tryz.sizeOf0
  v0 := Tryz.zeroValue0
  t3 := Tryz.underlying3
  a3 := Tryz.isAgg3
  z3 := Tryz.sizeOf3
  v3 := Tryz.zeroValue3
  t9 := Tryz.underlying9
  a9 := Tryz.isAgg9
  z9 := Tryz.sizeOf9
  v9 := Tryz.zeroValue9
  t37 := Tryz.underlying51
  a37 := Tryz.isAgg51
  z37 := Tryz.sizeOf51
  v37 := Tryz.zeroValue51
  t70 := Tryz.underlying100
  a70 := Tryz.isAgg100
  z70 := Tryz.sizeOf100
  v70 := Tryz.zeroValue100
  t72 := Tryz.underlying102
  a72 := Tryz.isAgg102
  z72 := Tryz.sizeOf102
  v72 := Tryz.zeroValue102
  t127 := Tryz.underlying169
  a127 := Tryz.isAgg169
  z127 := Tryz.sizeOf169
  v127 := Tryz.zeroValue169 }
theorem Tryz.Builder_Extra_169 : Builder.Extra Tryz.prog Tryz.lays169_ren := {
  sizeBuilder := by kernel_rfl
  liesBuilder := by kernel_rfl
  t5 := Tryz.underlying5
  a5 := Tryz.isAgg5
  z5 := Tryz.sizeOf5
  v5 := Tryz.zeroValue5
  infoByte := by kernel_rfl
  cellsByte := by kernel_rfl
  sizeByte := by kernel_rfl
  neB5 := by decide }
def Tryz.lays156_ren : Go.Shelf.Ren := ⟨fun | 156 => 117 | 165 => 164 | 166 => 65 | 169 => 66 | 240 => 107 | 241 => 212 | 276 => 157 | 277 => 288 | n => n, fun | 31 => 48 | 9 => 9 | 3 => 3 | 4 => 4 | 0 => 0 | 20 => 20 | 72 => 102 | 76 => 106 | 70 => 100 | 37 => 51 | 75 => 105 | 127 => 169 | 164 => 224 | 5 => 5 | 80 => 63 | n => n, fun | n => n⟩
theorem Tryz.lays156 : Go.Proofs.Lays.n156 Tryz.prog Tryz.lays156_ren := {
  mixed := by kernel_rfl
  f156 := Tryz.func117.trans (congrArg some (by kernel_rfl))
  f165 := Tryz.func164.trans (congrArg some (by kernel_rfl))
  f166 := Tryz.func65.trans (congrArg some (by kernel_rfl))
  f169 := Tryz.func66.trans (congrArg some (by kernel_rfl))
  f240 := Tryz.func107.trans (congrArg some (by kernel_rfl))
  f241 := Tryz.func212.trans (congrArg some (by kernel_rfl))
  f276 := Tryz.func157.trans (congrArg some (by kernel_rfl))
  f277 := Tryz.func288.trans (congrArg some (by kernel_rfl))
  t0 := Tryz.underlying0
  a0 := Tryz.isAgg0
  z0 := Tryz.sizeOf0
  v0 := Tryz.zeroValue0
  t3 := Tryz.underlying3
  a3 := Tryz.isAgg3
  z3 := Tryz.sizeOf3
  v3 := Tryz.zeroValue3
  t4 := Tryz.underlying4
  a4 := Tryz.isAgg4
  z4 := Tryz.sizeOf4
  v4 := Tryz.zeroValue4
  t9 := Tryz.underlying9
  a9 := Tryz.isAgg9
  z9 := Tryz.sizeOf9
  v9 := Tryz.zeroValue9
  t20 := Tryz.underlying20
  a20 := Tryz.isAgg20
  z20 := Tryz.sizeOf20
  v20 := Tryz.zeroValue20
  t31 := Tryz.underlying48
  a31 := Tryz.isAgg48
  z31 := Tryz.sizeOf48
  v31 := Tryz.zeroValue48
  t37 := Tryz.underlying51
  a37 := Tryz.isAgg51
  z37 := Tryz.sizeOf51
  v37 := Tryz.zeroValue51
  t70 := Tryz.underlying100
  a70 := Tryz.isAgg100
  z70 := Tryz.sizeOf100
  v70 := Tryz.zeroValue100
  t72 := Tryz.underlying102
  a72 := Tryz.isAgg102
  z72 := Tryz.sizeOf102
  v72 := Tryz.zeroValue102
  t75 := Tryz.underlying105
  a75 := Tryz.isAgg105
  z75 := Tryz.sizeOf105
  v75 := Tryz.zeroValue105
  t76 := Tryz.underlying106
  a76 := Tryz.isAgg106
  z76 := Tryz.sizeOf106
  v76 := Tryz.zeroValue106
  t127 := Tryz.underlying169
  a127 := Tryz.isAgg169
  z127 := Tryz.sizeOf169
  v127 := Tryz.zeroValue169
  t164 := Tryz.underlying224
  a164 := Tryz.isAgg224
  z164 := Tryz.sizeOf224
  v164 := Tryz.zeroValue224 }
theorem Tryz.Builder_Extra_156 : Builder.Extra Tryz.prog Tryz.lays156_ren := {
  sizeBuilder := by kernel_rfl
  liesBuilder := by kernel_rfl
  t5 := Tryz.underlying5
  a5 := Tryz.isAgg5
  z5 := Tryz.sizeOf5
  v5 := Tryz.zeroValue5
  infoByte := by kernel_rfl
  cellsByte := by kernel_rfl
  sizeByte := by kernel_rfl
  neB5 := by decide }
open Go.RowKit in
theorem Tryz.strings_Join (bk o c : Nat) (xs : List ByteArray) (sep : ByteArray) (w : World) (hcells : ∀ (j : Nat) x, xs[j]? = some x → w.cell? ⟨bk, o + j, none⟩ = some (.string x)) (hbk : bk < w.heap.size) (hN : xs.length ≤ 140737488355328) (hcap : xs.length ≤ c) (hlen : (Lib.join (xs.map (·.data.toList)) sep.data.toList).length ≤ 140737488355328) :
    Calls Tryz.prog 117 #[.slice (some ⟨bk, o, none⟩) xs.length c, .string sep] w fun e w' => e = .returned (.string ⟨(Lib.join (xs.map (·.data.toList)) sep.data.toList).toArray⟩) ∧ Below w.heap.size w w' := Any.strings_Join Tryz.lays156 Tryz.Builder_Extra_156 bk o c xs sep w hcells hbk hN hcap hlen
def Tryz.lays103_ren : Go.Shelf.Ren := ⟨fun | 103 => 162 | 210 => 210 | 206 => 283 | n => n, fun | 9 => 9 | 4 => 4 | 24 => 228 | 3 => 3 | n => n, fun | n => n⟩
theorem Tryz.lays103 : Go.Proofs.Lays.n103 Tryz.prog Tryz.lays103_ren := {
  mixed := by kernel_rfl
  f103 := Tryz.func162.trans (congrArg some (by kernel_rfl))
  f206 := Tryz.func283.trans (congrArg some (by kernel_rfl))
  f210 := Tryz.func210.trans (congrArg some (by kernel_rfl))
  t3 := Tryz.underlying3
  a3 := Tryz.isAgg3
  z3 := Tryz.sizeOf3
  v3 := Tryz.zeroValue3
  t4 := Tryz.underlying4
  a4 := Tryz.isAgg4
  z4 := Tryz.sizeOf4
  v4 := Tryz.zeroValue4
  t9 := Tryz.underlying9
  a9 := Tryz.isAgg9
  z9 := Tryz.sizeOf9
  v9 := Tryz.zeroValue9
  t24 := Tryz.underlying228
  a24 := Tryz.isAgg228
  z24 := Tryz.sizeOf228
  v24 := Tryz.zeroValue228 }
open Go.RowKit in
theorem Tryz.strings_CutPrefix (s p : ByteArray) (w : World) :
    Calls Tryz.prog 162 #[.string s, .string p] w fun e w' => e = .returned (.tuple #[.string ⟨(Lib.trimPrefix s.data.toList p.data.toList).toArray⟩, .bool (Lib.hasPrefix s.data.toList p.data.toList)]) ∧ w' = w := Any.strings_CutPrefix Tryz.lays103 s p w
open Go.RowKit in
theorem Tryz.Builder_String_k (B b : Nat) (l : List UInt8) (w : World) (h : Lib.IsBuilderF 102 5 B b (Lib.byteCells l) w) (h0 : l ≠ []) :
    Calls Tryz.prog 66 #[.pointer (some ⟨b, 0, none⟩)] w fun e w' => e = .returned (.string ⟨l.toArray⟩) ∧ (Lib.IsBuilderF 102 5 B b (Lib.byteCells l) w' ∧ Below B w w' ∧ Lib.OthersKept 5 (some b) w w') := Any.Builder_String_k Tryz.lays169 Tryz.Builder_Extra_169 B b l w h h0
def Tryz.laysM246_ren : Go.Shelf.Ren := ⟨fun | 246 => 211 | 283 => 284 | 284 => 285 | 285 => 286 | 286 => 287 | 129 => 323 | 317 => 322 | 318 => 324 | 319 => 325 | 320 => 326 | 337 => 346 | 338 => 347 | n => n, fun | 2 => 2 | 3 => 3 | 9 => 9 | 4 => 4 | 171 => 330 | 0 => 0 | 53 => 331 | 37 => 51 | 5 => 5 | 173 => 334 | 212 => 371 | 51 => 367 | 20 => 20 | 213 => 372 | 46 => 90 | 232 => 403 | 233 => 404 | n => n, fun | 17 => 3 | 18 => 4 | 19 => 5 | n => n⟩
def Tryz.laysM243_ren : Go.Shelf.Ren := ⟨fun | 243 => 163 | 246 => 211 | 283 => 284 | 284 => 285 | 285 => 286 | 286 => 287 | 129 => 323 | 317 => 322 | 318 => 324 | 319 => 325 | 320 => 326 | 337 => 346 | 338 => 347 | n => n, fun | 3 => 3 | 9 => 9 | 2 => 2 | 4 => 4 | 171 => 330 | 0 => 0 | 53 => 331 | 37 => 51 | 5 => 5 | 173 => 334 | 212 => 371 | 51 => 367 | 20 => 20 | 213 => 372 | 46 => 90 | 232 => 403 | 233 => 404 | n => n, fun | 17 => 3 | 18 => 4 | 19 => 5 | n => n⟩
def Tryz.laysM171_ren : Go.Shelf.Ren := ⟨fun | 171 => 115 | 243 => 163 | 246 => 211 | 283 => 284 | 284 => 285 | 285 => 286 | 286 => 287 | 129 => 323 | 317 => 322 | 318 => 324 | 319 => 325 | 320 => 326 | 337 => 346 | 338 => 347 | n => n, fun | 3 => 3 | 9 => 9 | 2 => 2 | 4 => 4 | 171 => 330 | 0 => 0 | 53 => 331 | 37 => 51 | 5 => 5 | 173 => 334 | 212 => 371 | 51 => 367 | 20 => 20 | 213 => 372 | 46 => 90 | 232 => 403 | 233 => 404 | n => n, fun | 17 => 3 | 18 => 4 | 19 => 5 | n => n⟩
theorem Tryz.laysM171 : Go.Proofs.LaysM.n171 Tryz.prog Tryz.laysM171_ren := {
  mixed := by kernel_rfl
  f129 := Tryz.func323.trans (congrArg some (by kernel_rfl))
  f171 := Tryz.func115.trans (congrArg some (by kernel_rfl))
  f243 := Tryz.func163.trans (congrArg some (by kernel_rfl))
  f246 := Tryz.func211.trans (congrArg some (by kernel_rfl))
  f283 := Tryz.func284.trans (congrArg some (by kernel_rfl))
  f284 := Tryz.func285.trans (congrArg some (by kernel_rfl))
  f285 := Tryz.func286.trans (congrArg some (by kernel_rfl))
  f286 := Tryz.func287.trans (congrArg some (by kernel_rfl))
  f317 := Tryz.func322.trans (congrArg some (by kernel_rfl))
  f318 := Tryz.func324.trans (congrArg some (by kernel_rfl))
  f319 := Tryz.func325.trans (congrArg some (by kernel_rfl))
  f320 := Tryz.func326.trans (congrArg some (by kernel_rfl))
  f337 := Tryz.func346.trans (congrArg some (by kernel_rfl))
  f338 := Tryz.func347.trans (congrArg some (by kernel_rfl))
  t0 := Tryz.underlying0
  a0 := Tryz.isAgg0
  z0 := Tryz.sizeOf0
  v0 := Tryz.zeroValue0
  t2 := Tryz.underlying2
  a2 := Tryz.isAgg2
  z2 := Tryz.sizeOf2
  v2 := Tryz.zeroValue2
  t3 := Tryz.underlying3
  a3 := Tryz.isAgg3
  z3 := Tryz.sizeOf3
  v3 := Tryz.zeroValue3
  t4 := Tryz.underlying4
  a4 := Tryz.isAgg4
  z4 := Tryz.sizeOf4
  v4 := Tryz.zeroValue4
  t5 := Tryz.underlying5
  a5 := Tryz.isAgg5
  z5 := Tryz.sizeOf5
  v5 := Tryz.zeroValue5
  t9 := Tryz.underlying9
  a9 := Tryz.isAgg9
  z9 := Tryz.sizeOf9
  v9 := Tryz.zeroValue9
  t20 := Tryz.underlying20
  a20 := Tryz.isAgg20
  z20 := Tryz.sizeOf20
  v20 := Tryz.zeroValue20
  t37 := Tryz.underlying51
  a37 := Tryz.isAgg51
  z37 := Tryz.sizeOf51
  v37 := Tryz.zeroValue51
  t46 := Tryz.underlying90
  a46 := Tryz.isAgg90
  z46 := Tryz.sizeOf90
  v46 := Tryz.zeroValue90
  t51 := Tryz.underlying367
  a51 := Tryz.isAgg367
  z51 := Tryz.sizeOf367
  v51 := Tryz.zeroValue367
  t53 := Tryz.underlying331
  a53 := Tryz.isAgg331
  z53 := Tryz.sizeOf331
  v53 := Tryz.zeroValue331
  t171 := Tryz.underlying330
  a171 := Tryz.isAgg330
  z171 := Tryz.sizeOf330
  v171 := Tryz.zeroValue330
  t173 := Tryz.underlying334
  a173 := Tryz.isAgg334
  z173 := Tryz.sizeOf334
  v173 := Tryz.zeroValue334
  t212 := Tryz.underlying371
  a212 := Tryz.isAgg371
  z212 := Tryz.sizeOf371
  v212 := Tryz.zeroValue371
  t213 := Tryz.underlying372
  a213 := Tryz.isAgg372
  z213 := Tryz.sizeOf372
  t232 := Tryz.underlying403
  a232 := Tryz.isAgg403
  z232 := Tryz.sizeOf403
  v232 := Tryz.zeroValue403
  t233 := Tryz.underlying404
  a233 := Tryz.isAgg404
  z233 := Tryz.sizeOf404
  v233 := Tryz.zeroValue404
  g17 := by kernel_rfl
  g18 := by kernel_rfl
  g19 := by kernel_rfl
  i0 := by kernel_rfl
  i2 := by kernel_rfl
  i3 := by kernel_rfl
  i4 := by kernel_rfl
  i5 := by kernel_rfl
  i9 := by kernel_rfl
  i20 := by kernel_rfl
  i37 := by kernel_rfl
  i46 := by kernel_rfl
  i51 := by kernel_rfl
  i53 := by kernel_rfl
  i171 := by kernel_rfl
  i173 := by kernel_rfl
  i212 := by kernel_rfl
  i232 := by kernel_rfl
  i233 := by kernel_rfl
  m17 := by kernel_rfl
  m18 := by kernel_rfl
  m19 := by kernel_rfl }
open Go.RowKit Go.Sort Go.Lib in
theorem Tryz.strconv_Itoa (n : Int) (h0 : -9223372036854775808 ≤ n) (h1 : n ≤ 9223372036854775807) (w : World) (htab : Lib.TabIs Tryz.prog w "internal/strconv.uint64pow10" .u64 Lib.pow10Tab) :
    Calls Tryz.prog 115 #[.int .i64 n] w fun e w' => e = .returned (.string ⟨(Lib.itoa n).toArray⟩) ∧ ∃ k os, w' = grow (w.drewN k) os := Any.strconv_Itoa Tryz.laysM171 n h0 h1 w htab
def Tryz.lays171_ren : Go.Shelf.Ren := ⟨fun | 171 => 115 | 243 => 163 | 246 => 211 | 283 => 284 | 284 => 285 | 285 => 286 | 286 => 287 | 129 => 323 | 317 => 322 | 318 => 324 | 319 => 325 | 320 => 326 | 337 => 346 | 338 => 347 | n => n, fun | 3 => 3 | 9 => 9 | 2 => 2 | 4 => 4 | 171 => 330 | 0 => 0 | 53 => 331 | 37 => 51 | 5 => 5 | 173 => 334 | 212 => 371 | 51 => 367 | 20 => 20 | 213 => 372 | 46 => 90 | 232 => 403 | 233 => 404 | n => n, fun | 17 => 3 | 18 => 4 | 19 => 5 | n => n⟩
theorem Tryz.lays171 : Go.Proofs.Lays.n171 Tryz.prog Tryz.lays171_ren := {
  mixed := by kernel_rfl
  f129 := Tryz.func323.trans (congrArg some (by kernel_rfl))
  f171 := Tryz.func115.trans (congrArg some (by kernel_rfl))
  f243 := Tryz.func163.trans (congrArg some (by kernel_rfl))
  f246 := Tryz.func211.trans (congrArg some (by kernel_rfl))
  f283 := Tryz.func284.trans (congrArg some (by kernel_rfl))
  f284 := Tryz.func285.trans (congrArg some (by kernel_rfl))
  f285 := Tryz.func286.trans (congrArg some (by kernel_rfl))
  f286 := Tryz.func287.trans (congrArg some (by kernel_rfl))
  f317 := Tryz.func322.trans (congrArg some (by kernel_rfl))
  f318 := Tryz.func324.trans (congrArg some (by kernel_rfl))
  f319 := Tryz.func325.trans (congrArg some (by kernel_rfl))
  f320 := Tryz.func326.trans (congrArg some (by kernel_rfl))
  f337 := Tryz.func346.trans (congrArg some (by kernel_rfl))
  f338 := Tryz.func347.trans (congrArg some (by kernel_rfl))
  t0 := Tryz.underlying0
  a0 := Tryz.isAgg0
  z0 := Tryz.sizeOf0
  v0 := Tryz.zeroValue0
  t2 := Tryz.underlying2
  a2 := Tryz.isAgg2
  z2 := Tryz.sizeOf2
  v2 := Tryz.zeroValue2
  t3 := Tryz.underlying3
  a3 := Tryz.isAgg3
  z3 := Tryz.sizeOf3
  v3 := Tryz.zeroValue3
  t4 := Tryz.underlying4
  a4 := Tryz.isAgg4
  z4 := Tryz.sizeOf4
  v4 := Tryz.zeroValue4
  t5 := Tryz.underlying5
  a5 := Tryz.isAgg5
  z5 := Tryz.sizeOf5
  v5 := Tryz.zeroValue5
  t9 := Tryz.underlying9
  a9 := Tryz.isAgg9
  z9 := Tryz.sizeOf9
  v9 := Tryz.zeroValue9
  t20 := Tryz.underlying20
  a20 := Tryz.isAgg20
  z20 := Tryz.sizeOf20
  v20 := Tryz.zeroValue20
  t37 := Tryz.underlying51
  a37 := Tryz.isAgg51
  z37 := Tryz.sizeOf51
  v37 := Tryz.zeroValue51
  t46 := Tryz.underlying90
  a46 := Tryz.isAgg90
  z46 := Tryz.sizeOf90
  v46 := Tryz.zeroValue90
  t51 := Tryz.underlying367
  a51 := Tryz.isAgg367
  z51 := Tryz.sizeOf367
  v51 := Tryz.zeroValue367
  t53 := Tryz.underlying331
  a53 := Tryz.isAgg331
  z53 := Tryz.sizeOf331
  v53 := Tryz.zeroValue331
  t171 := Tryz.underlying330
  a171 := Tryz.isAgg330
  z171 := Tryz.sizeOf330
  v171 := Tryz.zeroValue330
  t173 := Tryz.underlying334
  a173 := Tryz.isAgg334
  z173 := Tryz.sizeOf334
  v173 := Tryz.zeroValue334
  t212 := Tryz.underlying371
  a212 := Tryz.isAgg371
  z212 := Tryz.sizeOf371
  v212 := Tryz.zeroValue371
  t213 := Tryz.underlying372
  a213 := Tryz.isAgg372
  z213 := Tryz.sizeOf372
  t232 := Tryz.underlying403
  a232 := Tryz.isAgg403
  z232 := Tryz.sizeOf403
  v232 := Tryz.zeroValue403
  t233 := Tryz.underlying404
  a233 := Tryz.isAgg404
  z233 := Tryz.sizeOf404
  v233 := Tryz.zeroValue404
  g17 := by kernel_rfl
  g18 := by kernel_rfl
  g19 := by kernel_rfl }
open Go.RowKit Go.Sort Go.Lib in
theorem Tryz.strconv_Itoa_small (i : Nat) (hi : i < 100) (w : World) :
    Calls Tryz.prog 115 #[.int .i64 i] w fun e w' => e = .returned (.string ⟨(Lib.decDigits i).toArray⟩) ∧ w' = w := Any.strconv_Itoa_small Tryz.lays171 i hi w
def Tryz.lays221_ren : Go.Shelf.Ren := ⟨fun | 221 => 106 | 268 => 154 | 138 => 155 | 143 => 156 | 195 => 204 | 197 => 205 | 218 => 206 | 219 => 207 | 260 => 277 | 217 => 278 | 225 => 279 | 224 => 280 | 267 => 281 | 266 => 320 | 314 => 321 | n => n, fun | 9 => 9 | 3 => 3 | 31 => 48 | 4 => 4 | 0 => 0 | 105 => 276 | 21 => 21 | 5 => 5 | 46 => 90 | 119 => 363 | 139 => 366 | 138 => 365 | 146 => 368 | 51 => 367 | n => n, fun | 1 => 0 | 3 => 1 | 4 => 2 | n => n⟩
def Tryz.lays146_ren : Go.Shelf.Ren := ⟨fun | 146 => 64 | 221 => 106 | 268 => 154 | 138 => 155 | 143 => 156 | 195 => 204 | 197 => 205 | 218 => 206 | 219 => 207 | 260 => 277 | 217 => 278 | 225 => 279 | 224 => 280 | 267 => 281 | 266 => 320 | 314 => 321 | n => n, fun | 9 => 9 | 31 => 48 | 3 => 3 | 4 => 4 | 0 => 0 | 105 => 276 | 21 => 21 | 5 => 5 | 46 => 90 | 119 => 363 | 139 => 366 | 138 => 365 | 146 => 368 | 51 => 367 | n => n, fun | 1 => 0 | 3 => 1 | 4 => 2 | n => n⟩
theorem Tryz.lays146 : Go.Proofs.Lays.n146 Tryz.prog Tryz.lays146_ren := {
  mixed := by kernel_rfl
  f138 := Tryz.func155.trans (congrArg some (by kernel_rfl))
  f143 := Tryz.func156.trans (congrArg some (by kernel_rfl))
  f146 := Tryz.func64.trans (congrArg some (by kernel_rfl))
  f195 := Tryz.func204.trans (congrArg some (by kernel_rfl))
  f197 := Tryz.func205.trans (congrArg some (by kernel_rfl))
  f217 := Tryz.func278.trans (congrArg some (by kernel_rfl))
  f218 := Tryz.func206.trans (congrArg some (by kernel_rfl))
  f219 := Tryz.func207.trans (congrArg some (by kernel_rfl))
  f221 := Tryz.func106.trans (congrArg some (by kernel_rfl))
  f224 := Tryz.func280.trans (congrArg some (by kernel_rfl))
  f225 := Tryz.func279.trans (congrArg some (by kernel_rfl))
  f260 := Tryz.func277.trans (congrArg some (by kernel_rfl))
  f266 := Tryz.func320.trans (congrArg some (by kernel_rfl))
  f267 := Tryz.func281.trans (congrArg some (by kernel_rfl))
  f268 := Tryz.func154.trans (congrArg some (by kernel_rfl))
  f314 := Tryz.func321.trans (congrArg some (by kernel_rfl))
  t0 := Tryz.underlying0
  a0 := Tryz.isAgg0
  z0 := Tryz.sizeOf0
  v0 := Tryz.zeroValue0
  t3 := Tryz.underlying3
  a3 := Tryz.isAgg3
  z3 := Tryz.sizeOf3
  v3 := Tryz.zeroValue3
  t4 := Tryz.underlying4
  a4 := Tryz.isAgg4
  z4 := Tryz.sizeOf4
  v4 := Tryz.zeroValue4
  t5 := Tryz.underlying5
  a5 := Tryz.isAgg5
  z5 := Tryz.sizeOf5
  v5 := Tryz.zeroValue5
  t9 := Tryz.underlying9
  a9 := Tryz.isAgg9
  z9 := Tryz.sizeOf9
  v9 := Tryz.zeroValue9
  t21 := Tryz.underlying21
  a21 := Tryz.isAgg21
  z21 := Tryz.sizeOf21
  v21 := Tryz.zeroValue21
  t31 := Tryz.underlying48
  a31 := Tryz.isAgg48
  z31 := Tryz.sizeOf48
  v31 := Tryz.zeroValue48
  t46 := Tryz.underlying90
  a46 := Tryz.isAgg90
  z46 := Tryz.sizeOf90
  v46 := Tryz.zeroValue90
  t51 := Tryz.underlying367
  a51 := Tryz.isAgg367
  z51 := Tryz.sizeOf367
  v51 := Tryz.zeroValue367
  t105 := Tryz.underlying276
  a105 := Tryz.isAgg276
  z105 := Tryz.sizeOf276
  v105 := Tryz.zeroValue276
  t119 := Tryz.underlying363
  a119 := Tryz.isAgg363
  z119 := Tryz.sizeOf363
  t138 := Tryz.underlying365
  a138 := Tryz.isAgg365
  z138 := Tryz.sizeOf365
  v138 := Tryz.zeroValue365
  t139 := Tryz.underlying366
  a139 := Tryz.isAgg366
  z139 := Tryz.sizeOf366
  v139 := Tryz.zeroValue366
  t146 := Tryz.underlying368
  a146 := Tryz.isAgg368
  z146 := Tryz.sizeOf368
  v146 := Tryz.zeroValue368
  g1 := by kernel_rfl
  g3 := by kernel_rfl
  g4 := by kernel_rfl }
open Go.RowKit Go.Lib in
theorem Tryz.strings_Split (s sep : ByteArray) (m : Int) (w : World) (hs : s.size < 4294967281) (hm : w.cell? ⟨0, 0, none⟩ = some (.int .i64 m)) (h1 : 1 ≤ sep.size) :
    Calls Tryz.prog 64 #[.string s, .string sep] w fun e w' =>
      e = .returned (.slice (some ⟨w.heap.size, 0, none⟩) (Lib.countB s sep + 1) (Lib.countB s sep + 1)) ∧ w' = w.alloc (.cells ((Lib.splitB sep 0 (Lib.countB s sep) s).map Value.string).toArray 9) := Any.strings_Split Tryz.lays146 (by kernel_rfl) s sep m w hs hm h1
def Tryz.laysM146_ren : Go.Shelf.Ren := ⟨fun | 146 => 64 | 221 => 106 | 268 => 154 | 138 => 155 | 143 => 156 | 195 => 204 | 197 => 205 | 218 => 206 | 219 => 207 | 260 => 277 | 217 => 278 | 225 => 279 | 224 => 280 | 267 => 281 | 266 => 320 | 314 => 321 | n => n, fun | 9 => 9 | 31 => 48 | 3 => 3 | 4 => 4 | 0 => 0 | 105 => 276 | 21 => 21 | 5 => 5 | 46 => 90 | 119 => 363 | 139 => 366 | 138 => 365 | 146 => 368 | 51 => 367 | n => n, fun | 1 => 0 | 3 => 1 | 4 => 2 | n => n⟩
theorem Tryz.laysM146 : Go.Proofs.LaysM.n146 Tryz.prog Tryz.laysM146_ren := {
  mixed := by kernel_rfl
  f138 := Tryz.func155.trans (congrArg some (by kernel_rfl))
  f143 := Tryz.func156.trans (congrArg some (by kernel_rfl))
  f146 := Tryz.func64.trans (congrArg some (by kernel_rfl))
  f195 := Tryz.func204.trans (congrArg some (by kernel_rfl))
  f197 := Tryz.func205.trans (congrArg some (by kernel_rfl))
  f217 := Tryz.func278.trans (congrArg some (by kernel_rfl))
  f218 := Tryz.func206.trans (congrArg some (by kernel_rfl))
  f219 := Tryz.func207.trans (congrArg some (by kernel_rfl))
  f221 := Tryz.func106.trans (congrArg some (by kernel_rfl))
  f224 := Tryz.func280.trans (congrArg some (by kernel_rfl))
  f225 := Tryz.func279.trans (congrArg some (by kernel_rfl))
  f260 := Tryz.func277.trans (congrArg some (by kernel_rfl))
  f266 := Tryz.func320.trans (congrArg some (by kernel_rfl))
  f267 := Tryz.func281.trans (congrArg some (by kernel_rfl))
  f268 := Tryz.func154.trans (congrArg some (by kernel_rfl))
  f314 := Tryz.func321.trans (congrArg some (by kernel_rfl))
  t0 := Tryz.underlying0
  a0 := Tryz.isAgg0
  z0 := Tryz.sizeOf0
  v0 := Tryz.zeroValue0
  t3 := Tryz.underlying3
  a3 := Tryz.isAgg3
  z3 := Tryz.sizeOf3
  v3 := Tryz.zeroValue3
  t4 := Tryz.underlying4
  a4 := Tryz.isAgg4
  z4 := Tryz.sizeOf4
  v4 := Tryz.zeroValue4
  t5 := Tryz.underlying5
  a5 := Tryz.isAgg5
  z5 := Tryz.sizeOf5
  v5 := Tryz.zeroValue5
  t9 := Tryz.underlying9
  a9 := Tryz.isAgg9
  z9 := Tryz.sizeOf9
  v9 := Tryz.zeroValue9
  t21 := Tryz.underlying21
  a21 := Tryz.isAgg21
  z21 := Tryz.sizeOf21
  v21 := Tryz.zeroValue21
  t31 := Tryz.underlying48
  a31 := Tryz.isAgg48
  z31 := Tryz.sizeOf48
  v31 := Tryz.zeroValue48
  t46 := Tryz.underlying90
  a46 := Tryz.isAgg90
  z46 := Tryz.sizeOf90
  v46 := Tryz.zeroValue90
  t51 := Tryz.underlying367
  a51 := Tryz.isAgg367
  z51 := Tryz.sizeOf367
  v51 := Tryz.zeroValue367
  t105 := Tryz.underlying276
  a105 := Tryz.isAgg276
  z105 := Tryz.sizeOf276
  v105 := Tryz.zeroValue276
  t119 := Tryz.underlying363
  a119 := Tryz.isAgg363
  z119 := Tryz.sizeOf363
  t138 := Tryz.underlying365
  a138 := Tryz.isAgg365
  z138 := Tryz.sizeOf365
  v138 := Tryz.zeroValue365
  t139 := Tryz.underlying366
  a139 := Tryz.isAgg366
  z139 := Tryz.sizeOf366
  v139 := Tryz.zeroValue366
  t146 := Tryz.underlying368
  a146 := Tryz.isAgg368
  z146 := Tryz.sizeOf368
  v146 := Tryz.zeroValue368
  g1 := by kernel_rfl
  g3 := by kernel_rfl
  g4 := by kernel_rfl
  i0 := by kernel_rfl
  i3 := by kernel_rfl
  i4 := by kernel_rfl
  i5 := by kernel_rfl
  i9 := by kernel_rfl
  i21 := by kernel_rfl
  i31 := by kernel_rfl
  i46 := by kernel_rfl
  i51 := by kernel_rfl
  i105 := by kernel_rfl
  i138 := by kernel_rfl
  i139 := by kernel_rfl
  i146 := by kernel_rfl
  m1 := by kernel_rfl
  s1_3 := fun w h => Go.Proofs.cell_of_shapedOpen_int (zero := #[.int .i64 0]) (t := 3) h (of_decide_eq_true (by kernel_rfl)) (by kernel_rfl) rfl (by kernel_rfl) (by kernel_rfl) Tryz.underlying3
  m3 := by kernel_rfl
  m4 := by kernel_rfl }
def Tryz.lays229_ren : Go.Shelf.Ren := ⟨fun | 229 => 38 | n => n, fun | 9 => 9 | 40 => 97 | 31 => 48 | 152 => 117 | 3 => 3 | 0 => 0 | 4 => 4 | 21 => 21 | 154 => 119 | n => n, fun | n => n⟩
theorem Tryz.lays229 : Go.Proofs.Lays.n229 Tryz.prog Tryz.lays229_ren := {
  mixed := by kernel_rfl
  f229 := Tryz.func38.trans (congrArg some (by kernel_rfl))
  t0 := Tryz.underlying0
  a0 := Tryz.isAgg0
  z0 := Tryz.sizeOf0
  v0 := Tryz.zeroValue0
  t3 := Tryz.underlying3
  a3 := Tryz.isAgg3
  z3 := Tryz.sizeOf3
  v3 := Tryz.zeroValue3
  t4 := Tryz.underlying4
  a4 := Tryz.isAgg4
  z4 := Tryz.sizeOf4
  v4 := Tryz.zeroValue4
  t9 := Tryz.underlying9
  a9 := Tryz.isAgg9
  z9 := Tryz.sizeOf9
  v9 := Tryz.zeroValue9
  t21 := Tryz.underlying21
  a21 := Tryz.isAgg21
  z21 := Tryz.sizeOf21
  v21 := Tryz.zeroValue21
  t31 := Tryz.underlying48
  a31 := Tryz.isAgg48
  z31 := Tryz.sizeOf48
  v31 := Tryz.zeroValue48
  t40 := Tryz.underlying97
  a40 := Tryz.isAgg97
  z40 := Tryz.sizeOf97
  v40 := Tryz.zeroValue97
  t152 := Tryz.underlying117
  a152 := Tryz.isAgg117
  z152 := Tryz.sizeOf117
  v152 := Tryz.zeroValue117
  t154 := Tryz.underlying119
  a154 := Tryz.isAgg119
  z154 := Tryz.sizeOf119
  v154 := Tryz.zeroValue119 }
open Go.RowKit Go.Lib in
theorem Tryz.strings_FieldsFunc_runes (g : Nat) (lb : Array Value) (eg : ∀ args w, (callFunc g args).run Tryz.prog w = .ok (.enter g args) w) (p : Nat → Bool) (s : ByteArray) (w : World) (hs : s.size ≤ 4294967296) (hp : PredAtRunes Tryz.prog g lb p w) :
    Calls Tryz.prog 38 #[.string s, .func (.func g) #[] lb] w fun e w' => ∃ A, e = .returned (.slice (some ⟨A, 0, none⟩) (Lib.goFieldsP p s).length (Lib.goFieldsP p s).length) ∧ w.heap.size ≤ A ∧
      w'.ownsRow w.heap.size 9 1 (.slice (some ⟨A, 0, none⟩) (Lib.goFieldsP p s).length (Lib.goFieldsP p s).length) (Lib.goFieldsP p s).length ((Lib.goFieldsP p s).map Value.string) ∧ Below w.heap.size w w' := Any.strings_FieldsFunc_runes Tryz.lays229 g lb eg p s w hs hp (by kernel_rfl) (by kernel_rfl)
end Go.Proofs

namespace Go.Proofs.YtmbccnioijokfaaGreatDoor
open Go.RowKit
attribute [local go_sem] Oper.semAt_some
def nmA : Array Value := #[.string ⟨#[97, 105, 114]⟩, .string ⟨#[115, 116, 111, 110, 101]⟩, .string ⟨#[100, 105, 114, 116]⟩, .string ⟨#[115, 97, 110, 100]⟩, .string ⟨#[108, 97, 100, 100, 101, 114]⟩, .string ⟨#[103, 108, 97, 115, 115]⟩, .string ⟨#[]⟩, .string ⟨#[]⟩, .string ⟨#[119, 97, 116, 101, 114, 48]⟩, .string ⟨#[119, 97, 116, 101, 114, 49]⟩, .string ⟨#[119, 97, 116, 101, 114, 50]⟩, .string ⟨#[119, 97, 116, 101, 114, 51]⟩, .string ⟨#[119, 97, 116, 101, 114, 52]⟩, .string ⟨#[119, 97, 116, 101, 114, 53]⟩, .string ⟨#[119, 97, 116, 101, 114, 54]⟩, .string ⟨#[119, 97, 116, 101, 114, 55]⟩]
def nmL : List (List UInt8) := [[97, 105, 114], [115, 116, 111, 110, 101], [100, 105, 114, 116], [115, 97, 110, 100], [108, 97, 100, 100, 101, 114], [103, 108, 97, 115, 115], [], [], [119, 97, 116, 101, 114, 48], [119, 97, 116, 101, 114, 49], [119, 97, 116, 101, 114, 50], [119, 97, 116, 101, 114, 51], [119, 97, 116, 101, 114, 52], [119, 97, 116, 101, 114, 53], [119, 97, 116, 101, 114, 54], [119, 97, 116, 101, 114, 55]]
def nmK : Nat → Array Value
  | 0 => #[.string ⟨#[97, 105, 114]⟩, .string ⟨#[115, 116, 111, 110, 101]⟩, .string ⟨#[100, 105, 114, 116]⟩, .string ⟨#[115, 97, 110, 100]⟩, .string ⟨#[108, 97, 100, 100, 101, 114]⟩, .string ⟨#[103, 108, 97, 115, 115]⟩, .string ⟨#[]⟩, .string ⟨#[]⟩, .string ⟨#[]⟩, .string ⟨#[]⟩, .string ⟨#[]⟩, .string ⟨#[]⟩, .string ⟨#[]⟩, .string ⟨#[]⟩, .string ⟨#[]⟩, .string ⟨#[]⟩]
  | 1 => #[.string ⟨#[97, 105, 114]⟩, .string ⟨#[115, 116, 111, 110, 101]⟩, .string ⟨#[100, 105, 114, 116]⟩, .string ⟨#[115, 97, 110, 100]⟩, .string ⟨#[108, 97, 100, 100, 101, 114]⟩, .string ⟨#[103, 108, 97, 115, 115]⟩, .string ⟨#[]⟩, .string ⟨#[]⟩, .string ⟨#[119, 97, 116, 101, 114, 48]⟩, .string ⟨#[]⟩, .string ⟨#[]⟩, .string ⟨#[]⟩, .string ⟨#[]⟩, .string ⟨#[]⟩, .string ⟨#[]⟩, .string ⟨#[]⟩]
  | 2 => #[.string ⟨#[97, 105, 114]⟩, .string ⟨#[115, 116, 111, 110, 101]⟩, .string ⟨#[100, 105, 114, 116]⟩, .string ⟨#[115, 97, 110, 100]⟩, .string ⟨#[108, 97, 100, 100, 101, 114]⟩, .string ⟨#[103, 108, 97, 115, 115]⟩, .string ⟨#[]⟩, .string ⟨#[]⟩, .string ⟨#[119, 97, 116, 101, 114, 48]⟩, .string ⟨#[119, 97, 116, 101, 114, 49]⟩, .string ⟨#[]⟩, .string ⟨#[]⟩, .string ⟨#[]⟩, .string ⟨#[]⟩, .string ⟨#[]⟩, .string ⟨#[]⟩]
  | 3 => #[.string ⟨#[97, 105, 114]⟩, .string ⟨#[115, 116, 111, 110, 101]⟩, .string ⟨#[100, 105, 114, 116]⟩, .string ⟨#[115, 97, 110, 100]⟩, .string ⟨#[108, 97, 100, 100, 101, 114]⟩, .string ⟨#[103, 108, 97, 115, 115]⟩, .string ⟨#[]⟩, .string ⟨#[]⟩, .string ⟨#[119, 97, 116, 101, 114, 48]⟩, .string ⟨#[119, 97, 116, 101, 114, 49]⟩, .string ⟨#[119, 97, 116, 101, 114, 50]⟩, .string ⟨#[]⟩, .string ⟨#[]⟩, .string ⟨#[]⟩, .string ⟨#[]⟩, .string ⟨#[]⟩]
  | 4 => #[.string ⟨#[97, 105, 114]⟩, .string ⟨#[115, 116, 111, 110, 101]⟩, .string ⟨#[100, 105, 114, 116]⟩, .string ⟨#[115, 97, 110, 100]⟩, .string ⟨#[108, 97, 100, 100, 101, 114]⟩, .string ⟨#[103, 108, 97, 115, 115]⟩, .string ⟨#[]⟩, .string ⟨#[]⟩, .string ⟨#[119, 97, 116, 101, 114, 48]⟩, .string ⟨#[119, 97, 116, 101, 114, 49]⟩, .string ⟨#[119, 97, 116, 101, 114, 50]⟩, .string ⟨#[119, 97, 116, 101, 114, 51]⟩, .string ⟨#[]⟩, .string ⟨#[]⟩, .string ⟨#[]⟩, .string ⟨#[]⟩]
  | 5 => #[.string ⟨#[97, 105, 114]⟩, .string ⟨#[115, 116, 111, 110, 101]⟩, .string ⟨#[100, 105, 114, 116]⟩, .string ⟨#[115, 97, 110, 100]⟩, .string ⟨#[108, 97, 100, 100, 101, 114]⟩, .string ⟨#[103, 108, 97, 115, 115]⟩, .string ⟨#[]⟩, .string ⟨#[]⟩, .string ⟨#[119, 97, 116, 101, 114, 48]⟩, .string ⟨#[119, 97, 116, 101, 114, 49]⟩, .string ⟨#[119, 97, 116, 101, 114, 50]⟩, .string ⟨#[119, 97, 116, 101, 114, 51]⟩, .string ⟨#[119, 97, 116, 101, 114, 52]⟩, .string ⟨#[]⟩, .string ⟨#[]⟩, .string ⟨#[]⟩]
  | 6 => #[.string ⟨#[97, 105, 114]⟩, .string ⟨#[115, 116, 111, 110, 101]⟩, .string ⟨#[100, 105, 114, 116]⟩, .string ⟨#[115, 97, 110, 100]⟩, .string ⟨#[108, 97, 100, 100, 101, 114]⟩, .string ⟨#[103, 108, 97, 115, 115]⟩, .string ⟨#[]⟩, .string ⟨#[]⟩, .string ⟨#[119, 97, 116, 101, 114, 48]⟩, .string ⟨#[119, 97, 116, 101, 114, 49]⟩, .string ⟨#[119, 97, 116, 101, 114, 50]⟩, .string ⟨#[119, 97, 116, 101, 114, 51]⟩, .string ⟨#[119, 97, 116, 101, 114, 52]⟩, .string ⟨#[119, 97, 116, 101, 114, 53]⟩, .string ⟨#[]⟩, .string ⟨#[]⟩]
  | 7 => #[.string ⟨#[97, 105, 114]⟩, .string ⟨#[115, 116, 111, 110, 101]⟩, .string ⟨#[100, 105, 114, 116]⟩, .string ⟨#[115, 97, 110, 100]⟩, .string ⟨#[108, 97, 100, 100, 101, 114]⟩, .string ⟨#[103, 108, 97, 115, 115]⟩, .string ⟨#[]⟩, .string ⟨#[]⟩, .string ⟨#[119, 97, 116, 101, 114, 48]⟩, .string ⟨#[119, 97, 116, 101, 114, 49]⟩, .string ⟨#[119, 97, 116, 101, 114, 50]⟩, .string ⟨#[119, 97, 116, 101, 114, 51]⟩, .string ⟨#[119, 97, 116, 101, 114, 52]⟩, .string ⟨#[119, 97, 116, 101, 114, 53]⟩, .string ⟨#[119, 97, 116, 101, 114, 54]⟩, .string ⟨#[]⟩]
  | _ => nmA
theorem itoa_d (n : Int) (k : Nat) (hk : k < 100) (hn : n = k) (l : Array UInt8) (hl : (Lib.decDigits k).toArray = l) (w : World) : Calls Tryz.prog 115 #[.int .i64 n] w fun e w' => e = .returned (.string ⟨l⟩) ∧ w = w' := by
  subst hn hl
  exact (Tryz.strconv_Itoa_small k hk w).mono fun _ _ ⟨h1, h2⟩ => ⟨h1, h2.symm⟩
set_option maxRecDepth 100000 in
set_option maxHeartbeats 4000000 in
theorem names_c (w : World) : Calls Tryz.prog 147 #[] w fun r w' => r = .returned (.agg nmA) ∧ Below w.heap.size w w' := by
  obtain ⟨W0, hW⟩ : ∃ W0, W0 = ((w.alloc (.cells #[.string ⟨#[]⟩, .string ⟨#[]⟩, .string ⟨#[]⟩, .string ⟨#[]⟩, .string ⟨#[]⟩, .string ⟨#[]⟩, .string ⟨#[]⟩, .string ⟨#[]⟩, .string ⟨#[]⟩, .string ⟨#[]⟩, .string ⟨#[]⟩, .string ⟨#[]⟩, .string ⟨#[]⟩, .string ⟨#[]⟩, .string ⟨#[]⟩, .string ⟨#[]⟩] 214)).alloc (.cells #[.string ⟨#[97, 105, 114]⟩, .string ⟨#[115, 116, 111, 110, 101]⟩, .string ⟨#[100, 105, 114, 116]⟩, .string ⟨#[115, 97, 110, 100]⟩, .string ⟨#[108, 97, 100, 100, 101, 114]⟩, .string ⟨#[103, 108, 97, 115, 115]⟩, .string ⟨#[]⟩, .string ⟨#[]⟩, .string ⟨#[]⟩, .string ⟨#[]⟩, .string ⟨#[]⟩, .string ⟨#[]⟩, .string ⟨#[]⟩, .string ⟨#[]⟩, .string ⟨#[]⟩, .string ⟨#[]⟩] 214)) := ⟨_, rfl⟩
  have H : Below w.heap.size w W0 := by rw [hW]; go_grown
  have R : Blk W0 w.heap.size 214 #[.string ⟨#[]⟩, .string ⟨#[]⟩, .string ⟨#[]⟩, .string ⟨#[]⟩, .string ⟨#[]⟩, .string ⟨#[]⟩, .string ⟨#[]⟩, .string ⟨#[]⟩, .string ⟨#[]⟩, .string ⟨#[]⟩, .string ⟨#[]⟩, .string ⟨#[]⟩, .string ⟨#[]⟩, .string ⟨#[]⟩, .string ⟨#[]⟩, .string ⟨#[]⟩] := by rw [hW]; exact (Blk.new' rfl).alloc _
  have B0 : Blk W0 (w.heap.size + 1) 214 #[.string ⟨#[97, 105, 114]⟩, .string ⟨#[115, 116, 111, 110, 101]⟩, .string ⟨#[100, 105, 114, 116]⟩, .string ⟨#[115, 97, 110, 100]⟩, .string ⟨#[108, 97, 100, 100, 101, 114]⟩, .string ⟨#[103, 108, 97, 115, 115]⟩, .string ⟨#[]⟩, .string ⟨#[]⟩, .string ⟨#[]⟩, .string ⟨#[]⟩, .string ⟨#[]⟩, .string ⟨#[]⟩, .string ⟨#[]⟩, .string ⟨#[]⟩, .string ⟨#[]⟩, .string ⟨#[]⟩] := by rw [hW]; exact Blk.new' (by simp)
  have HG := Lib.hid (show w.heap.size < w.heap.size + 1 by omega)
  go_enter Tryz.func147, Tryz.ntmps147
  go_upto_region 2 with (fail)
  rw [← hW]
  clear hW
  generalize hg : w.heap.size + 1 = g at *
  clear hg
  go_wp2_with fail
  go_loopw [4] (fun iv wr => ∃ k : Nat, k ≤ 8 ∧ iv = .int .i64 k ∧ Blk wr g 214 (nmK k) ∧ Below w.heap.size w wr ∧ Blk wr w.heap.size 214 #[.string ⟨#[]⟩, .string ⟨#[]⟩, .string ⟨#[]⟩, .string ⟨#[]⟩, .string ⟨#[]⟩, .string ⟨#[]⟩, .string ⟨#[]⟩, .string ⟨#[]⟩, .string ⟨#[]⟩, .string ⟨#[]⟩, .string ⟨#[]⟩, .string ⟨#[]⟩, .string ⟨#[]⟩, .string ⟨#[]⟩, .string ⟨#[]⟩, .string ⟨#[]⟩]) (fun iv _ => 8 - (intOf iv).toNat)
  case atStart => exact ⟨0, by omega, rfl, B0, H, R⟩
  case round =>
    obtain ⟨k, hk, hiv, hB0, h2, h3⟩ := hrel
    clear B0 H R
    rcases (by omega : k = 0 ∨ k = 1 ∨ k = 2 ∨ k = 3 ∨ k = 4 ∨ k = 5 ∨ k = 6 ∨ k = 7 ∨ k = 8) with rfl | rfl | rfl | rfl | rfl | rfl | rfl | rfl | rfl
    · obtain rfl : _ = Value.int .i64 0 := hiv
      have hB : Blk wr g 214 #[.string ⟨#[97, 105, 114]⟩, .string ⟨#[115, 116, 111, 110, 101]⟩, .string ⟨#[100, 105, 114, 116]⟩, .string ⟨#[115, 97, 110, 100]⟩, .string ⟨#[108, 97, 100, 100, 101, 114]⟩, .string ⟨#[103, 108, 97, 115, 115]⟩, .string ⟨#[]⟩, .string ⟨#[]⟩, .string ⟨#[]⟩, .string ⟨#[]⟩, .string ⟨#[]⟩, .string ⟨#[]⟩, .string ⟨#[]⟩, .string ⟨#[]⟩, .string ⟨#[]⟩, .string ⟨#[]⟩] := hB0
      clear hB0
      have c8 := hB.cell 8
      have f8 := hB.frz 8
      go_wp2_with (go_at_call 115; refine (itoa_d 0 0 (by decide) rfl #[48] (by simp [Lib.decDigits]; done) _).mono ?_; rintro e_ w_ ⟨rfl, rfl⟩)
      go_roundw
      case rel => exact ⟨1, by omega, rfl, hB.set_ 8 (.string ⟨#[119, 97, 116, 101, 114, 48]⟩), h2.setCell (p := ⟨g, 8, none⟩) (by have := HG.out; dsimp only; omega) _, Blk.far h3 (p := ⟨g, 8, none⟩) (by have := HG.out; dsimp only; omega) _⟩
      case measure => simp [intOf]
    · obtain rfl : _ = Value.int .i64 1 := hiv
      have hB : Blk wr g 214 #[.string ⟨#[97, 105, 114]⟩, .string ⟨#[115, 116, 111, 110, 101]⟩, .string ⟨#[100, 105, 114, 116]⟩, .string ⟨#[115, 97, 110, 100]⟩, .string ⟨#[108, 97, 100, 100, 101, 114]⟩, .string ⟨#[103, 108, 97, 115, 115]⟩, .string ⟨#[]⟩, .string ⟨#[]⟩, .string ⟨#[119, 97, 116, 101, 114, 48]⟩, .string ⟨#[]⟩, .string ⟨#[]⟩, .string ⟨#[]⟩, .string ⟨#[]⟩, .string ⟨#[]⟩, .string ⟨#[]⟩, .string ⟨#[]⟩] := hB0
      clear hB0
      have c9 := hB.cell 9
      have f9 := hB.frz 9
      go_wp2_with (go_at_call 115; refine (itoa_d 1 1 (by decide) rfl #[49] (by simp [Lib.decDigits]; done) _).mono ?_; rintro e_ w_ ⟨rfl, rfl⟩)
      go_roundw
      case rel => exact ⟨2, by omega, rfl, hB.set_ 9 (.string ⟨#[119, 97, 116, 101, 114, 49]⟩), h2.setCell (p := ⟨g, 9, none⟩) (by have := HG.out; dsimp only; omega) _, Blk.far h3 (p := ⟨g, 9, none⟩) (by have := HG.out; dsimp only; omega) _⟩
      case measure => simp [intOf]
    · obtain rfl : _ = Value.int .i64 2 := hiv
      have hB : Blk wr g 214 #[.string ⟨#[97, 105, 114]⟩, .string ⟨#[115, 116, 111, 110, 101]⟩, .string ⟨#[100, 105, 114, 116]⟩, .string ⟨#[115, 97, 110, 100]⟩, .string ⟨#[108, 97, 100, 100, 101, 114]⟩, .string ⟨#[103, 108, 97, 115, 115]⟩, .string ⟨#[]⟩, .string ⟨#[]⟩, .string ⟨#[119, 97, 116, 101, 114, 48]⟩, .string ⟨#[119, 97, 116, 101, 114, 49]⟩, .string ⟨#[]⟩, .string ⟨#[]⟩, .string ⟨#[]⟩, .string ⟨#[]⟩, .string ⟨#[]⟩, .string ⟨#[]⟩] := hB0
      clear hB0
      have c10 := hB.cell 10
      have f10 := hB.frz 10
      go_wp2_with (go_at_call 115; refine (itoa_d 2 2 (by decide) rfl #[50] (by simp [Lib.decDigits]; done) _).mono ?_; rintro e_ w_ ⟨rfl, rfl⟩)
      go_roundw
      case rel => exact ⟨3, by omega, rfl, hB.set_ 10 (.string ⟨#[119, 97, 116, 101, 114, 50]⟩), h2.setCell (p := ⟨g, 10, none⟩) (by have := HG.out; dsimp only; omega) _, Blk.far h3 (p := ⟨g, 10, none⟩) (by have := HG.out; dsimp only; omega) _⟩
      case measure => simp [intOf]
    · obtain rfl : _ = Value.int .i64 3 := hiv
      have hB : Blk wr g 214 #[.string ⟨#[97, 105, 114]⟩, .string ⟨#[115, 116, 111, 110, 101]⟩, .string ⟨#[100, 105, 114, 116]⟩, .string ⟨#[115, 97, 110, 100]⟩, .string ⟨#[108, 97, 100, 100, 101, 114]⟩, .string ⟨#[103, 108, 97, 115, 115]⟩, .string ⟨#[]⟩, .string ⟨#[]⟩, .string ⟨#[119, 97, 116, 101, 114, 48]⟩, .string ⟨#[119, 97, 116, 101, 114, 49]⟩, .string ⟨#[119, 97, 116, 101, 114, 50]⟩, .string ⟨#[]⟩, .string ⟨#[]⟩, .string ⟨#[]⟩, .string ⟨#[]⟩, .string ⟨#[]⟩] := hB0
      clear hB0
      have c11 := hB.cell 11
      have f11 := hB.frz 11
      go_wp2_with (go_at_call 115; refine (itoa_d 3 3 (by decide) rfl #[51] (by simp [Lib.decDigits]; done) _).mono ?_; rintro e_ w_ ⟨rfl, rfl⟩)
      go_roundw
      case rel => exact ⟨4, by omega, rfl, hB.set_ 11 (.string ⟨#[119, 97, 116, 101, 114, 51]⟩), h2.setCell (p := ⟨g, 11, none⟩) (by have := HG.out; dsimp only; omega) _, Blk.far h3 (p := ⟨g, 11, none⟩) (by have := HG.out; dsimp only; omega) _⟩
      case measure => simp [intOf]
    · obtain rfl : _ = Value.int .i64 4 := hiv
      have hB : Blk wr g 214 #[.string ⟨#[97, 105, 114]⟩, .string ⟨#[115, 116, 111, 110, 101]⟩, .string ⟨#[100, 105, 114, 116]⟩, .string ⟨#[115, 97, 110, 100]⟩, .string ⟨#[108, 97, 100, 100, 101, 114]⟩, .string ⟨#[103, 108, 97, 115, 115]⟩, .string ⟨#[]⟩, .string ⟨#[]⟩, .string ⟨#[119, 97, 116, 101, 114, 48]⟩, .string ⟨#[119, 97, 116, 101, 114, 49]⟩, .string ⟨#[119, 97, 116, 101, 114, 50]⟩, .string ⟨#[119, 97, 116, 101, 114, 51]⟩, .string ⟨#[]⟩, .string ⟨#[]⟩, .string ⟨#[]⟩, .string ⟨#[]⟩] := hB0
      clear hB0
      have c12 := hB.cell 12
      have f12 := hB.frz 12
      go_wp2_with (go_at_call 115; refine (itoa_d 4 4 (by decide) rfl #[52] (by simp [Lib.decDigits]; done) _).mono ?_; rintro e_ w_ ⟨rfl, rfl⟩)
      go_roundw
      case rel => exact ⟨5, by omega, rfl, hB.set_ 12 (.string ⟨#[119, 97, 116, 101, 114, 52]⟩), h2.setCell (p := ⟨g, 12, none⟩) (by have := HG.out; dsimp only; omega) _, Blk.far h3 (p := ⟨g, 12, none⟩) (by have := HG.out; dsimp only; omega) _⟩
      case measure => simp [intOf]
    · obtain rfl : _ = Value.int .i64 5 := hiv
      have hB : Blk wr g 214 #[.string ⟨#[97, 105, 114]⟩, .string ⟨#[115, 116, 111, 110, 101]⟩, .string ⟨#[100, 105, 114, 116]⟩, .string ⟨#[115, 97, 110, 100]⟩, .string ⟨#[108, 97, 100, 100, 101, 114]⟩, .string ⟨#[103, 108, 97, 115, 115]⟩, .string ⟨#[]⟩, .string ⟨#[]⟩, .string ⟨#[119, 97, 116, 101, 114, 48]⟩, .string ⟨#[119, 97, 116, 101, 114, 49]⟩, .string ⟨#[119, 97, 116, 101, 114, 50]⟩, .string ⟨#[119, 97, 116, 101, 114, 51]⟩, .string ⟨#[119, 97, 116, 101, 114, 52]⟩, .string ⟨#[]⟩, .string ⟨#[]⟩, .string ⟨#[]⟩] := hB0
      clear hB0
      have c13 := hB.cell 13
      have f13 := hB.frz 13
      go_wp2_with (go_at_call 115; refine (itoa_d 5 5 (by decide) rfl #[53] (by simp [Lib.decDigits]; done) _).mono ?_; rintro e_ w_ ⟨rfl, rfl⟩)
      go_roundw
      case rel => exact ⟨6, by omega, rfl, hB.set_ 13 (.string ⟨#[119, 97, 116, 101, 114, 53]⟩), h2.setCell (p := ⟨g, 13, none⟩) (by have := HG.out; dsimp only; omega) _, Blk.far h3 (p := ⟨g, 13, none⟩) (by have := HG.out; dsimp only; omega) _⟩
      case measure => simp [intOf]
    · obtain rfl : _ = Value.int .i64 6 := hiv
      have hB : Blk wr g 214 #[.string ⟨#[97, 105, 114]⟩, .string ⟨#[115, 116, 111, 110, 101]⟩, .string ⟨#[100, 105, 114, 116]⟩, .string ⟨#[115, 97, 110, 100]⟩, .string ⟨#[108, 97, 100, 100, 101, 114]⟩, .string ⟨#[103, 108, 97, 115, 115]⟩, .string ⟨#[]⟩, .string ⟨#[]⟩, .string ⟨#[119, 97, 116, 101, 114, 48]⟩, .string ⟨#[119, 97, 116, 101, 114, 49]⟩, .string ⟨#[119, 97, 116, 101, 114, 50]⟩, .string ⟨#[119, 97, 116, 101, 114, 51]⟩, .string ⟨#[119, 97, 116, 101, 114, 52]⟩, .string ⟨#[119, 97, 116, 101, 114, 53]⟩, .string ⟨#[]⟩, .string ⟨#[]⟩] := hB0
      clear hB0
      have c14 := hB.cell 14
      have f14 := hB.frz 14
      go_wp2_with (go_at_call 115; refine (itoa_d 6 6 (by decide) rfl #[54] (by simp [Lib.decDigits]; done) _).mono ?_; rintro e_ w_ ⟨rfl, rfl⟩)
      go_roundw
      case rel => exact ⟨7, by omega, rfl, hB.set_ 14 (.string ⟨#[119, 97, 116, 101, 114, 54]⟩), h2.setCell (p := ⟨g, 14, none⟩) (by have := HG.out; dsimp only; omega) _, Blk.far h3 (p := ⟨g, 14, none⟩) (by have := HG.out; dsimp only; omega) _⟩
      case measure => simp [intOf]
    · obtain rfl : _ = Value.int .i64 7 := hiv
      have hB : Blk wr g 214 #[.string ⟨#[97, 105, 114]⟩, .string ⟨#[115, 116, 111, 110, 101]⟩, .string ⟨#[100, 105, 114, 116]⟩, .string ⟨#[115, 97, 110, 100]⟩, .string ⟨#[108, 97, 100, 100, 101, 114]⟩, .string ⟨#[103, 108, 97, 115, 115]⟩, .string ⟨#[]⟩, .string ⟨#[]⟩, .string ⟨#[119, 97, 116, 101, 114, 48]⟩, .string ⟨#[119, 97, 116, 101, 114, 49]⟩, .string ⟨#[119, 97, 116, 101, 114, 50]⟩, .string ⟨#[119, 97, 116, 101, 114, 51]⟩, .string ⟨#[119, 97, 116, 101, 114, 52]⟩, .string ⟨#[119, 97, 116, 101, 114, 53]⟩, .string ⟨#[119, 97, 116, 101, 114, 54]⟩, .string ⟨#[]⟩] := hB0
      clear hB0
      have c15 := hB.cell 15
      have f15 := hB.frz 15
      go_wp2_with (go_at_call 115; refine (itoa_d 7 7 (by decide) rfl #[55] (by simp [Lib.decDigits]; done) _).mono ?_; rintro e_ w_ ⟨rfl, rfl⟩)
      go_roundw
      case rel => exact ⟨8, by omega, rfl, hB.set_ 15 (.string ⟨#[119, 97, 116, 101, 114, 55]⟩), h2.setCell (p := ⟨g, 15, none⟩) (by have := HG.out; dsimp only; omega) _, Blk.far h3 (p := ⟨g, 15, none⟩) (by have := HG.out; dsimp only; omega) _⟩
      case measure => simp [intOf]
    · obtain rfl : _ = Value.int .i64 8 := hiv
      have hB : Blk wr g 214 nmA := hB0
      clear hB0
      unfold nmA at hB
      have c0 := hB.cell 0
      have c1 := hB.cell 1
      have c2 := hB.cell 2
      have c3 := hB.cell 3
      have c4 := hB.cell 4
      have c5 := hB.cell 5
      have c6 := hB.cell 6
      have c7 := hB.cell 7
      have c8 := hB.cell 8
      have c9 := hB.cell 9
      have c10 := hB.cell 10
      have c11 := hB.cell 11
      have c12 := hB.cell 12
      have c13 := hB.cell 13
      have c14 := hB.cell 14
      have c15 := hB.cell 15
      have r0 := h3.cell 0
      have f0 := h3.frz 0
      have r1 := h3.cell 1
      have f1 := h3.frz 1
      have r2 := h3.cell 2
      have f2 := h3.frz 2
      have r3 := h3.cell 3
      have f3 := h3.frz 3
      have r4 := h3.cell 4
      have f4 := h3.frz 4
      have r5 := h3.cell 5
      have f5 := h3.frz 5
      have r6 := h3.cell 6
      have f6 := h3.frz 6
      have r7 := h3.cell 7
      have f7 := h3.frz 7
      have r8 := h3.cell 8
      have f8 := h3.frz 8
      have r9 := h3.cell 9
      have f9 := h3.frz 9
      have r10 := h3.cell 10
      have f10 := h3.frz 10
      have r11 := h3.cell 11
      have f11 := h3.frz 11
      have r12 := h3.cell 12
      have f12 := h3.frz 12
      have r13 := h3.cell 13
      have f13 := h3.frz 13
      have r14 := h3.cell 14
      have f14 := h3.frz 14
      have r15 := h3.cell 15
      have f15 := h3.frz 15
      simp only [List.getElem?_toArray, List.getElem?_cons_zero, List.getElem?_cons_succ] at c0 r0 c1 r1 c2 r2 c3 r3 c4 r4 c5 r5 c6 r6 c7 r7 c8 r8 c9 r9 c10 r10 c11 r11 c12 r12 c13 r13 c14 r14 c15 r15
      clear hB
      go_wp2_with fail
      have R2 := ((((((((((((((((h3.set_ 0 (.string ⟨#[97, 105, 114]⟩)).set_ 1 (.string ⟨#[115, 116, 111, 110, 101]⟩)).set_ 2 (.string ⟨#[100, 105, 114, 116]⟩)).set_ 3 (.string ⟨#[115, 97, 110, 100]⟩)).set_ 4 (.string ⟨#[108, 97, 100, 100, 101, 114]⟩)).set_ 5 (.string ⟨#[103, 108, 97, 115, 115]⟩)).set_ 6 (.string ⟨#[]⟩)).set_ 7 (.string ⟨#[]⟩)).set_ 8 (.string ⟨#[119, 97, 116, 101, 114, 48]⟩)).set_ 9 (.string ⟨#[119, 97, 116, 101, 114, 49]⟩)).set_ 10 (.string ⟨#[119, 97, 116, 101, 114, 50]⟩)).set_ 11 (.string ⟨#[119, 97, 116, 101, 114, 51]⟩)).set_ 12 (.string ⟨#[119, 97, 116, 101, 114, 52]⟩)).set_ 13 (.string ⟨#[119, 97, 116, 101, 114, 53]⟩)).set_ 14 (.string ⟨#[119, 97, 116, 101, 114, 54]⟩)).set_ 15 (.string ⟨#[119, 97, 116, 101, 114, 55]⟩))
      have d0 := R2.cell 0
      have d1 := R2.cell 1
      have d2 := R2.cell 2
      have d3 := R2.cell 3
      have d4 := R2.cell 4
      have d5 := R2.cell 5
      have d6 := R2.cell 6
      have d7 := R2.cell 7
      have d8 := R2.cell 8
      have d9 := R2.cell 9
      have d10 := R2.cell 10
      have d11 := R2.cell 11
      have d12 := R2.cell 12
      have d13 := R2.cell 13
      have d14 := R2.cell 14
      have d15 := R2.cell 15
      simp only [List.setIfInBounds_toArray, List.set_cons_zero, List.set_cons_succ, List.getElem?_toArray, List.getElem?_cons_zero, List.getElem?_cons_succ] at d0 d1 d2 d3 d4 d5 d6 d7 d8 d9 d10 d11 d12 d13 d14 d15
      refine bodyPost_ret (v := .agg nmA) (by simp [nmA, results, Tryz.results147, go_sem, d0, d1, d2, d3, d4, d5, d6, d7, d8, d9, d10, d11, d12, d13, d14, d15]) rfl ⟨rfl, ?_⟩
      have h0 := HG.out
      repeat (refine Below.setCell ?_ (by dsimp only; omega) _)
      exact h2
end Go.Proofs.YtmbccnioijokfaaGreatDoor

namespace Go.Proofs.YtmbccnioijokfaaGreatDoor
open Go.RowKit
attribute [local go_sem] Oper.semAt_some
def blkN (b : Int) : List UInt8 := if 0 ≤ b then (nmL[b.toNat]?).getD [] else []
def mayK (b : Int) : Bool := !(blkN b).isEmpty
theorem nmi0 (w : World) : (Instr.index 214 (.agg nmA) (.int .i64 0)).run Tryz.prog w = .ok (.string ⟨#[97, 105, 114]⟩) w := by kernel_rfl
theorem nmi1 (w : World) : (Instr.index 214 (.agg nmA) (.int .i64 1)).run Tryz.prog w = .ok (.string ⟨#[115, 116, 111, 110, 101]⟩) w := by kernel_rfl
theorem nmi2 (w : World) : (Instr.index 214 (.agg nmA) (.int .i64 2)).run Tryz.prog w = .ok (.string ⟨#[100, 105, 114, 116]⟩) w := by kernel_rfl
theorem nmi3 (w : World) : (Instr.index 214 (.agg nmA) (.int .i64 3)).run Tryz.prog w = .ok (.string ⟨#[115, 97, 110, 100]⟩) w := by kernel_rfl
theorem nmi4 (w : World) : (Instr.index 214 (.agg nmA) (.int .i64 4)).run Tryz.prog w = .ok (.string ⟨#[108, 97, 100, 100, 101, 114]⟩) w := by kernel_rfl
theorem nmi5 (w : World) : (Instr.index 214 (.agg nmA) (.int .i64 5)).run Tryz.prog w = .ok (.string ⟨#[103, 108, 97, 115, 115]⟩) w := by kernel_rfl
theorem nmi6 (w : World) : (Instr.index 214 (.agg nmA) (.int .i64 6)).run Tryz.prog w = .ok (.string ⟨#[]⟩) w := by kernel_rfl
theorem nmi7 (w : World) : (Instr.index 214 (.agg nmA) (.int .i64 7)).run Tryz.prog w = .ok (.string ⟨#[]⟩) w := by kernel_rfl
theorem nmi8 (w : World) : (Instr.index 214 (.agg nmA) (.int .i64 8)).run Tryz.prog w = .ok (.string ⟨#[119, 97, 116, 101, 114, 48]⟩) w := by kernel_rfl
theorem nmi9 (w : World) : (Instr.index 214 (.agg nmA) (.int .i64 9)).run Tryz.prog w = .ok (.string ⟨#[119, 97, 116, 101, 114, 49]⟩) w := by kernel_rfl
theorem nmi10 (w : World) : (Instr.index 214 (.agg nmA) (.int .i64 10)).run Tryz.prog w = .ok (.string ⟨#[119, 97, 116, 101, 114, 50]⟩) w := by kernel_rfl
theorem nmi11 (w : World) : (Instr.index 214 (.agg nmA) (.int .i64 11)).run Tryz.prog w = .ok (.string ⟨#[119, 97, 116, 101, 114, 51]⟩) w := by kernel_rfl
theorem nmi12 (w : World) : (Instr.index 214 (.agg nmA) (.int .i64 12)).run Tryz.prog w = .ok (.string ⟨#[119, 97, 116, 101, 114, 52]⟩) w := by kernel_rfl
theorem nmi13 (w : World) : (Instr.index 214 (.agg nmA) (.int .i64 13)).run Tryz.prog w = .ok (.string ⟨#[119, 97, 116, 101, 114, 53]⟩) w := by kernel_rfl
theorem nmi14 (w : World) : (Instr.index 214 (.agg nmA) (.int .i64 14)).run Tryz.prog w = .ok (.string ⟨#[119, 97, 116, 101, 114, 54]⟩) w := by kernel_rfl
theorem nmi15 (w : World) : (Instr.index 214 (.agg nmA) (.int .i64 15)).run Tryz.prog w = .ok (.string ⟨#[119, 97, 116, 101, 114, 55]⟩) w := by kernel_rfl
theorem nm_index (b : Int) (h0 : 0 ≤ b) (h1 : b < 16) (w : World) : (Instr.index 214 (.agg nmA) (.int .i64 b)).run Tryz.prog w = .ok (.string ⟨(blkN b).toArray⟩) w := by
  rcases (by omega : b = 0 ∨ b = 1 ∨ b = 2 ∨ b = 3 ∨ b = 4 ∨ b = 5 ∨ b = 6 ∨ b = 7 ∨ b = 8 ∨ b = 9 ∨ b = 10 ∨ b = 11 ∨ b = 12 ∨ b = 13 ∨ b = 14 ∨ b = 15) with rfl | rfl | rfl | rfl | rfl | rfl | rfl | rfl | rfl | rfl | rfl | rfl | rfl | rfl | rfl | rfl
  · exact nmi0 w
  · exact nmi1 w
  · exact nmi2 w
  · exact nmi3 w
  · exact nmi4 w
  · exact nmi5 w
  · exact nmi6 w
  · exact nmi7 w
  · exact nmi8 w
  · exact nmi9 w
  · exact nmi10 w
  · exact nmi11 w
  · exact nmi12 w
  · exact nmi13 w
  · exact nmi14 w
  · exact nmi15 w
theorem blkN_out {b : Int} (h : b < 0 ∨ 16 ≤ b) : blkN b = [] := by
  unfold blkN
  split
  · rw [List.getElem?_eq_none (by show nmL.length ≤ _; rw [show nmL.length = 16 from rfl]; omega)]; rfl
  · rfl
set_option maxRecDepth 100000 in
set_option maxHeartbeats 1000000 in
theorem bname_c (b : Int) (w : World) : Calls Tryz.prog 101 #[.int .i64 b] w fun r w' => r = .returned (.string ⟨(blkN b).toArray⟩) ∧ Below w.heap.size w w' := by
  by_cases h0 : b < 0
  · rw [blkN_out (.inl h0)]
    go_enter Tryz.func101, Tryz.ntmps101
    go_wp2_with fail
    go_returns
    exact ⟨rfl, Below.refl _ _⟩
  · by_cases h1 : 16 ≤ b
    · rw [blkN_out (.inr h1)]
      go_enter Tryz.func101, Tryz.ntmps101
      go_wp2_with fail
      go_returns
      exact ⟨rfl, Below.refl _ _⟩
    · have hx := nm_index b (by omega) (by omega)
      have h0' : 0 ≤ b := by omega
      have h1' : b < 16 := by omega
      generalize blkN b = l at *
      go_enter Tryz.func101, Tryz.ntmps101
      go_wp2_with (go_at_call 147; refine (names_c _).mono ?_; rintro e_ w1 ⟨rfl, g1⟩; have G1 := Lib.hid g1; clear g1)
      go_returns
      exact ⟨rfl, G1.out⟩
set_option maxRecDepth 100000 in
set_option maxHeartbeats 1000000 in
theorem bmayk_c (b : Int) (w : World) : Calls Tryz.prog 142 #[.int .i64 b] w fun r w' => r = .returned (.bool (mayK b)) ∧ Below w.heap.size w w' := by
  unfold mayK
  have HN := Lib.hid (bname_c b w)
  generalize blkN b = l at *
  cases l with
  | nil =>
    go_enter Tryz.func142, Tryz.ntmps142
    go_wp2_with (go_at_call 101; refine HN.out.mono ?_; rintro e_ w1 ⟨rfl, g1⟩; have G1 := Lib.hid g1; clear g1)
    go_returns
    exact ⟨rfl, G1.out⟩
  | cons a l =>
    go_enter Tryz.func142, Tryz.ntmps142
    go_wp2_with (go_at_call 101; refine HN.out.mono ?_; rintro e_ w1 ⟨rfl, g1⟩; have G1 := Lib.hid g1; clear g1)
    go_returns
    exact ⟨rfl, G1.out⟩
def fallB (n : Int) : Bool := n == 3
theorem falls_c (n : Int) (w : World) : Calls Tryz.prog 275 #[.int .i64 n] w fun r w' => r = .returned (.bool (fallB n)) ∧ w = w' := by
  go_enter Tryz.func275, Tryz.ntmps275
  go_wp2_with fail
  go_returns
  exact ⟨ret_b rfl, rfl⟩
theorem blkN_one : ∀ k : Nat, k < 16 → ∀ n : Nat, n < 16 → blkN (k : Int) = blkN (n : Int) → (!(blkN (n : Int)).isEmpty) = true → k = n := by decide
set_option maxRecDepth 100000 in
set_option maxHeartbeats 1000000 in
theorem bparse_c (b : Int) (hb : mayK b = true) (w : World) : Calls Tryz.prog 141 #[.string ⟨(blkN b).toArray⟩] w fun r w' => r = .returned (.tuple #[.int .i64 b, .bool true]) ∧ Below w.heap.size w w' := by
  have hb0 : 0 ≤ b ∧ b < 16 := by
    refine Classical.byContradiction fun h => ?_
    unfold mayK at hb
    rw [blkN_out (by omega)] at hb
    cases hb
  obtain ⟨n, rfl⟩ := Int.eq_ofNat_of_zero_le hb0.1
  have hn : n < 16 := by omega
  have HB := Lib.hid hb
  clear hb hb0
  go_enter Tryz.func141, Tryz.ntmps141
  go_wp2_with (go_at_call 147; refine (names_c _).mono ?_; rintro e_ w1 ⟨rfl, g1⟩; have G1 := Lib.hid g1; clear g1)
  go_loopw [7] (fun iv wr => ∃ k : Nat, k ≤ n ∧ iv = .int .i64 k ∧ wr = w1) (fun iv _ => n - (intOf iv).toNat)
  case atStart => exact ⟨0, Nat.zero_le _, rfl, rfl⟩
  case round =>
    obtain ⟨k, hk, rfl, rfl⟩ := hrel
    have hi := nm_index (k : Int) (by omega) (by omega)
    have h16 : (k : Int) < 16 := by omega
    have he : (!(blkN (n : Int)).isEmpty) = true := HB.out
    by_cases hkn : k = n
    · subst hkn
      go_wp2_with fail
      go_returns
      exact ⟨rfl, G1.out⟩
    · have hne : ¬ blkN (k : Int) = blkN (n : Int) := fun h => hkn (blkN_one k (by omega) n hn h he)
      go_wp2_with fail
      go_roundw
      case rel => exact ⟨k + 1, by omega, by go_num, trivial⟩
      case measure => simp [intOf]; omega
end Go.Proofs.YtmbccnioijokfaaGreatDoor

namespace Go.Proofs.YtmbccnioijokfaaGreatDoor
open Go.RowKit
attribute [local go_sem] Oper.semAt_some
abbrev RowQ := Option Addr × Nat × List Rn
abbrev rowV (r : RowQ) : Value := .slice r.1 r.2.2.length r.2.1
def joinR (l : List RowQ) : List Rn := l.foldl (fun o r => pushes o r.2.2) []
theorem joinR_snoc (l : List RowQ) (r : RowQ) : joinR (l ++ [r]) = pushes (joinR l) r.2.2 := by simp [joinR]
structure JoinOk (w : World) (rs : List RowQ) : Prop where
  rd : ∀ r ∈ rs, Rd w r.1 2 encR r.2.2
  pos : ∀ r ∈ rs, ∀ x ∈ r.2.2, 1 ≤ x.1
  len : lenR (joinR rs) ≤ 1000000
theorem joinR_pos (rs : List RowQ) : ∀ x ∈ joinR rs, 1 ≤ x.1 := by
  have key : ∀ (l : List RowQ) (o : List Rn), (∀ x ∈ o, 1 ≤ x.1) → ∀ x ∈ l.foldl (fun o r => pushes o r.2.2) o, 1 ≤ x.1 := by
    intro l
    induction l with
    | nil => exact fun o h => h
    | cons r l ih => exact fun o h => ih _ (pushes_pos h _)
  exact key rs [] no_runs
theorem lenR_mono {l m : List Rn} (h : ∀ x ∈ m, 1 ≤ x.1) : lenR l ≤ lenR (pushes l m) := by
  rw [lenR_pushes m fun r hr => by have := h r hr; omega]
  have := lenR_pos h
  omega
theorem joinR_le {rs : List RowQ} (h : ∀ r ∈ rs, ∀ x ∈ r.2.2, 1 ≤ x.1) (k : Nat) : lenR (joinR (rs.take k)) ≤ lenR (joinR rs) := by
  have key : ∀ (l : List RowQ) (o : List Rn), (∀ r ∈ l, ∀ x ∈ r.2.2, 1 ≤ x.1) → lenR o ≤ lenR (l.foldl (fun o r => pushes o r.2.2) o) := by
    intro l
    induction l with
    | nil => exact fun o _ => Int.le_refl _
    | cons r l ih => exact fun o h => Int.le_trans (lenR_mono (h r List.mem_cons_self)) (ih _ fun s hs => h s (List.mem_cons_of_mem _ hs))
  have e : joinR rs = (rs.drop k).foldl (fun o r => pushes o r.2.2) (joinR (rs.take k)) := by
    unfold joinR
    rw [← List.foldl_append, List.take_append_drop]
  rw [e]
  exact key _ _ fun r hr => h r (List.mem_of_mem_drop hr)
set_option maxRecDepth 100000 in
set_option maxHeartbeats 4000000 in
theorem runjoin_c (w : World) (g o c : Nat) (rs : List RowQ) (h : JoinOk w rs) (hc : ∀ i r, rs[i]? = some r → w.cell? ⟨g, o + i, none⟩ = some (rowV r)) (hg : g < w.heap.size) (hl : rs.length ≤ 1000) :
    Calls Tryz.prog 359 #[.slice (some ⟨g, o, none⟩) rs.length c] w fun r w' => RowR w (joinR rs) r w' := by
  have HJ := Lib.hid h
  have HC := Lib.hid hc
  have HM := Lib.hid (show rs.length ≤ maxLen by unfold maxLen; omega)
  clear h hc hl
  go_enter Tryz.func359, Tryz.ntmps359
  go_upto_region 3 with (fail)
  go_loopw [3, 10] (fun v i wr => ∃ (k : Nat), k ≤ rs.length ∧ i = .int .i64 k ∧ Hid (Owns wr w.heap.size 235 2 encR v (joinR (rs.take k))) ∧ Hid (Below w.heap.size w wr)) (fun _ i _ => rs.length - (intOf i).toNat)
  case atStart => exact ⟨0, Nat.zero_le _, rfl, Owns.nil, Below.refl _ _⟩
  case round =>
    obtain ⟨k, hk, rfl, hO, hb⟩ := hrel
    by_cases hlt : k < rs.length
    · obtain ⟨p, hp⟩ := lt_at hlt
      have hpc := (hb.out.cell (p := ⟨g, o + k, none⟩) hg).trans (HC.out k p hp)
      have hps := joinR_pos (rs.take k)
      have hle := joinR_le HJ.out.pos (k + 1)
      have hsn : joinR (rs.take (k + 1)) = pushes (joinR (rs.take k)) p.2.2 := by rw [take_at hp, joinR_snoc]
      have hll := HJ.out.len
      have hrd := HJ.out.rd p (List.mem_of_getElem? hp)
      have hpp := HJ.out.pos p (List.mem_of_getElem? hp)
      rw [hsn] at hle
      have HSN := Lib.hid hsn
      obtain ⟨n2, n3, n5, n6⟩ := nextx hlt HM.out
      obtain ⟨wo, hwo⟩ : ∃ wo : World, wo = wr := ⟨_, rfl⟩
      subst hwo
      obtain ⟨q, cp, R⟩ := p
      dsimp only [rowV] at hpc hle hrd hpp HSN
      have hbig : lenR (joinR (rs.take k)) + lenR R ≤ 1000000 := by
        rw [lenR_pushes R fun r hr => by have := hpp r hr; omega] at hle
        omega
      have HRD := Lib.hid hrd
      have HPP := Lib.hid hpp
      have HPS := Lib.hid hps
      have hln := lenR_pos hpp
      have HRM := Lib.hid (show R.length ≤ maxLen by have := lenR_pos hps; unfold maxLen; omega)
      clear hp hsn hle hll hrd hpp hps hln
      generalize joinR (rs.take k) = xs at *
      go_upto_region 6 with (fail)
      go_loopw [3, 16] (fun v i wr => ∃ (j : Nat), j ≤ R.length ∧ i = .int .i64 j ∧ Hid (Owns wr w.heap.size 235 2 encR v (pushes xs (R.take j))) ∧ Hid (Below w.heap.size w wr)) (fun _ i _ => R.length - (intOf i).toNat)
      case atStart => exact ⟨0, Nat.zero_le _, rfl, hO, hb⟩
      case round =>
        obtain ⟨j, hj, rfl, hO2, hb2⟩ := hrel
        by_cases hlj : j < R.length
        · obtain ⟨p, hp⟩ := lt_at hlj
          obtain ⟨g2, o2, rfl, h1⟩ := (HRD.out.on hb2.out) (by omega)
          have r0 : wr.cell? ⟨g2, o2 + j * 2, none⟩ = some (.int .i64 p.1) := h1 j p hp 0 _ rfl
          have r1 : wr.cell? ⟨g2, o2 + j * 2 + 1, none⟩ = some (.int .i64 p.2) := h1 j p hp 1 _ rfl
          have hp0 := HPP.out p (List.mem_of_getElem? hp)
          have hl1 := lenR_take (l := R) (fun r hr => by have := HPP.out r hr; omega) (j + 1)
          rw [lenR_succ hp] at hl1
          have hl2 : lenR (pushes xs (R.take j)) = lenR xs + lenR (R.take j) := lenR_pushes _ fun r hr => by have := HPP.out r (List.mem_of_mem_take hr); omega
          have hl3 := (lenR_take (l := R) (fun r hr => by have := HPP.out r hr; omega) j).1
          have hps : ∀ x ∈ pushes xs (R.take j), 1 ≤ x.1 := pushes_pos HPS.out _
          have hl4 := lenR_pos hps
          have hl5 : 0 ≤ lenR xs := by have := lenR_pos HPS.out; omega
          have hnx : pushes xs (R.take (j + 1)) = pushR (pushes xs (R.take j)) p := by rw [take_at hp, pushes_snoc]
          obtain ⟨m2, m3, m5, m6⟩ := nextx hlj HRM.out
          obtain ⟨W1, hW1⟩ : ∃ W1, W1 = wr.alloc (.cells #[.int .i64 p.1, .int .i64 p.2] 235) := ⟨_, rfl⟩
          have H1 : Below wr.heap.size wr W1 := by rw [hW1]; exact bel_alloc _ _
          have X : Blk W1 wr.heap.size 235 #[.int .i64 p.1, .int .i64 p.2] := by rw [hW1]; exact Blk.new' rfl
          have hB1 := after hb2.out H1
          have HP := Lib.hid (rpush_c W1 w.heap.size _ _ p (hO2.out.on H1) hps (by omega) (by omega) hB1.size (by omega))
          have HNX := Lib.hid hnx
          have HO1 := Lib.hid (hO2.out.on H1)
          have HB1 := Lib.hid hB1
          clear hp h1 hp0 hl1 hl2 hl3 hps hl4 hl5 hnx H1 hB1 hbig
          go_upto_region 8 with (fail)
          rw [← hW1]
          clear hW1 r0 r1
          obtain ⟨y0, y1, -, -⟩ := X.pair
          go_wp2_with (go_at_call 221; refine HP.out.mono ?_; intro r w1 h; obtain ⟨v', rfl, h2, h3⟩ := h.below HO1.out HB1.out HB1.out.size; have H2 := Lib.hid h2; have H3 := Lib.hid h3; clear h2 h3 h)
          exact ⟨⟨j + 1, hlj, by go_num, by rw [HNX.out]; exact H2, H3⟩, by simp [intOf]; omega⟩
        · obtain rfl : j = R.length := by omega
          have hO3 := hO2.out
          rw [List.take_length, ← HSN.out] at hO3
          have HO3 := Lib.hid hO3
          have hk1 : ¬ ((R.length : Int) < (R.length : Int)) := by omega
          clear hO3
          go_wp2_with fail
          exact ⟨⟨k + 1, hlt, by go_num, HO3, hb2⟩, by simp [intOf]; omega⟩
    · obtain rfl : k = rs.length := by omega
      have hO3 := hO.out
      rw [List.take_length] at hO3
      have HO3 := Lib.hid hO3
      have hk1 : ¬ ((rs.length : Int) < (rs.length : Int)) := by omega
      clear hO3 hO
      go_wp2_with fail
      go_returns
      exact ⟨_, rfl, HO3.out, hb.out⟩
theorem Owns.low {w : World} {base B size : Nat} {e : TypeId} {α : Type} {enc : α → List Value} {v : Value} {xs : List α} (h : Owns w base e size enc v xs) (hb : B ≤ base) : Owns w B e size enc v xs := by
  refine ⟨h.1, ?_⟩
  rcases h.2 with h0 | ⟨g, cap, cur, hv, hbg, r⟩
  · exact .inl h0
  · exact .inr ⟨g, cap, cur, hv, Nat.le_trans hb hbg, r⟩
theorem RowR.row {w w' : World} {xs : List Rn} {r : Ending} (h : RowR w xs r w') : ∃ q c, r = .returned (.slice q xs.length c) ∧ Rd w' q 2 encR xs ∧ Below w.heap.size w w' := by
  obtain ⟨v, rfl, h2, h3⟩ := h
  obtain ⟨q, c, rfl, -, -, h4, -⟩ := h2.form lenRn
  exact ⟨q, c, rfl, h4, h3⟩
theorem lenR_fill (R : List Rn) {frm til b : Int} (hn : ∀ r ∈ R, 1 ≤ r.1) (h0 : 0 ≤ frm) (h1 : frm ≤ til) (h2 : til ≤ lenR R) (hc : CanR R) : lenR (fillR R frm til b) = lenR R := by
  rw [lenR_cells (fun r hr => by have := (fillR_can R frm til b).pos r hr; omega), fillR_cells hc, lenR_cells (fun r hr => by have := hn r hr; omega)]
  rw [lenR_cells (fun r hr => by have := hn r hr; omega)] at h2
  simp
  omega
set_option maxRecDepth 100000 in
set_option maxHeartbeats 4000000 in
theorem runfill_c (w : World) (q : Option Addr) (c : Nat) (R : List Rn) (frm til b : Int) (hR : Rd w q 2 encR R) (hn : CanR R) (hm : lenR R ≤ 100000) (hf : 0 ≤ frm) (hft : frm < til) (ht : til ≤ lenR R) (hb : mayK b = true) :
    Calls Tryz.prog 354 #[.slice q R.length c, .int .i64 frm, .int .i64 til, .int .i64 b] w fun r w' => RowR w (fillR R frm til b) r w' := by
  have hpos := hn.pos
  have hln := lenR_pos hpos
  have HL := Lib.hid (rlen_c w q c R hR (fun r hr => by have := hpos r hr; omega) (by omega) (by unfold maxLen; omega))
  have HC := Lib.hid fun (W : World) (h : Below w.heap.size w W) frm til => runcut_c W q c R frm til (hR.on h) hpos (by omega)
  have HMK := Lib.hid fun (W : World) n b (h : 0 ≤ n ∧ n ≤ 1000000) => runmake_c n b h W
  have HMY := Lib.hid fun (W : World) => bmayk_c b W
  rw [hb] at HMY
  have HF := Lib.hid (lenR_fill R (b := b) hpos hf (by omega) ht hn)
  have hmn := @run_mn Tryz.prog
  have hmx := @run_mx Tryz.prog
  generalize hN : lenR R = N at *
  have e1 : mnI (mxI frm 0) N = frm := by unfold mnI mxI; omega
  have e2 : mnI (mxI til 0) N = til := by unfold mnI mxI; omega
  clear hR hn hpos hb
  go_enter Tryz.func354, Tryz.ntmps354
  go_wp2_with fail
  refine HL.out.mono ?_; rintro e_ w1 ⟨rfl, g1⟩
  have G1 := Lib.hid g1
  have HMY1 := HMY.out w1
  have HMY2 := Lib.hid HMY1
  clear HL g1 HMY1 HMY
  go_wp2_with fail
  refine HMY2.out.mono ?_; rintro e_ w2 ⟨rfl, g2⟩
  have G2 := Lib.hid (after G1.out g2)
  have HN := Lib.hid hN
  clear HMY2 G1 g2 hN
  go_wp2_with fail
  clear hmn hmx e1 e2
  refine (HC.out w2 G2.out 0 frm (by omega) (by omega)).mono ?_; intro e_ w3 h
  obtain ⟨q1, c1, rfl, h1, g3⟩ := h.row
  have H1 := Lib.hid h1
  have G3 := Lib.hid (after G2.out g3)
  clear G2 g3 h h1
  go_wp2_with fail
  refine (HMK.out w3 (til - frm) b (by omega)).mono ?_; intro e_ w4 h
  obtain ⟨q2, c2, rfl, h2, g4⟩ := h.row
  have H1b := Lib.hid (H1.out.on g4)
  have H2 := Lib.hid h2
  have G4 := Lib.hid (after G3.out g4)
  clear G3 g4 h h2 H1
  go_wp2_with fail
  refine (HC.out w4 G4.out til N (by omega) (by omega)).mono ?_; intro e_ w5 h
  obtain ⟨q3, c3, rfl, h3, g5⟩ := h.row
  have H1 := Lib.hid (H1b.out.on g5)
  have H2b := Lib.hid (H2.out.on g5)
  have H3 := Lib.hid h3
  have G5 := Lib.hid (after G4.out g5)
  clear G4 g5 h h3 H1b H2
  go_wp2_with fail
  have HJ : JoinOk (w5.alloc (.cells #[.slice q1 (cutR R 0 frm 0 []).length c1, .slice q2 (pushR [] (til - frm, b)).length c2, .slice q3 (cutR R til N 0 []).length c3] 184)) [(q1, c1, cutR R 0 frm 0 []), (q2, c2, pushR [] (til - frm, b)), (q3, c3, cutR R til N 0 [])] := by
    refine ⟨?_, ?_, ?_⟩
    · intro r hr
      simp only [List.mem_cons, List.mem_nil_iff, or_false] at hr
      rcases hr with rfl | rfl | rfl
      · exact H1.out.on (bel_alloc _ _)
      · exact H2b.out.on (bel_alloc _ _)
      · exact H3.out.on (bel_alloc _ _)
    · intro r hr
      simp only [List.mem_cons, List.mem_nil_iff, or_false] at hr
      rcases hr with rfl | rfl | rfl
      · exact (cutR_can canR_nil).pos
      · exact pushR_pos no_runs _
      · exact (cutR_can canR_nil).pos
    · show lenR (pushes (pushes (pushes [] (cutR R 0 frm 0 [])) (pushR [] (til - frm, b))) (cutR R til N 0 [])) ≤ _
      have := HF.out
      unfold fillR at this
      rw [HN.out] at this
      omega
  have hj := runjoin_c _ w5.heap.size 0 3 _ HJ (fun i r hi => by
    rw [Nat.zero_add, (Blk.new w5 184 _).cell i]
    match i, hi with
    | 0, hi => obtain rfl := Option.some.inj hi; rfl
    | 1, hi => obtain rfl := Option.some.inj hi; rfl
    | 2, hi => obtain rfl := Option.some.inj hi; rfl
    | i + 3, hi => cases hi) (by simp) (by simp)
  refine hj.mono ?_
  rintro e_ w6 ⟨v6, rfl, h6, g6⟩
  have h7 : Below w.heap.size w w6 := after (after G5.out (bel_alloc _ _)) g6
  have H7 := Lib.hid h7
  have H6 := Lib.hid (show Owns w6 w.heap.size 235 2 encR v6 (fillR R frm til b) from by
    have h8 : joinR [(q1, c1, cutR R 0 frm 0 []), (q2, c2, pushR [] (til - frm, b)), (q3, c3, cutR R til N 0 [])] = fillR R frm til b := by
      unfold fillR
      rw [HN.out]
      rfl
    rw [h8] at h6
    exact h6.low (after G5.out (bel_alloc _ _)).size)
  clear h6 g6 h7 HJ hj
  go_wp2_with fail
  go_returns
  exact ⟨_, rfl, H6.out, H7.out⟩
set_option maxRecDepth 100000 in
set_option maxHeartbeats 4000000 in
theorem runset_c (w : World) (q : Option Addr) (c : Nat) (R : List Rn) (i : Nat) (b : Int) (hR : Rd w q 2 encR R) (hn : CanR R) (hm : lenR R ≤ 100000) (hi : (i : Int) < lenR R) (hb : mayK b = true) :
    Calls Tryz.prog 339 #[.slice q R.length c, .int .i64 i, .int .i64 b] w fun r w' => RowR w (fillR R i (i + 1) b) r w' := by
  have hpos := hn.pos
  have hln := lenR_pos hpos
  have HL := Lib.hid (rlen_c w q c R hR (fun r hr => by have := hpos r hr; omega) (by omega) (by unfold maxLen; omega))
  have HC := Lib.hid fun (W : World) (h : Below w.heap.size w W) => runfill_c W q c R i (i + 1) b (hR.on h) hn hm (by omega) (by omega) (by omega) hb
  have hi0 : (0 : Int) ≤ i := by omega
  have hi1 : -9223372036854775808 ≤ (i : Int) + 1 ∧ (i : Int) + 1 ≤ 9223372036854775807 := by omega
  generalize lenR R = N at *
  clear hR hn hpos hb
  go_enter Tryz.func339, Tryz.ntmps339
  go_wp2_with fail
  refine HL.out.mono ?_; rintro e_ w1 ⟨rfl, g1⟩
  have HC1 := HC.out w1 g1
  have HC2 := Lib.hid HC1
  have G1 := Lib.hid g1
  clear HL g1 HC HC1
  go_wp2_with fail
  refine HC2.out.mono ?_
  rintro e_ w2 ⟨v, rfl, h2, g2⟩
  have H2 := Lib.hid (h2.low G1.out.size)
  have G2 := Lib.hid (after G1.out g2)
  clear h2 g2
  go_wp2_with fail
  go_returns
  exact ⟨_, rfl, H2.out, G2.out⟩
end Go.Proofs.YtmbccnioijokfaaGreatDoor

namespace Go.Proofs.YtmbccnioijokfaaGreatDoor
open Go.RowKit
attribute [local go_sem] Oper.semAt_some
def posB (a b a' b' : Int) : Bool := decide (a = a') && decide (b = b')
theorem posB_self (a b : Int) : posB a b a b = true := by simp [posB]
theorem posB_iff {a b a' b' : Int} : posB a b a' b' = true ↔ a = a' ∧ b = b' := by simp [posB]
theorem pos_guard : Tryz.prog.eqGuardType Tryz.prog.depth 123 = false := by kernel_rfl
theorem pos_eq (a b a' b' : Int) (w : World) : (binOp .eql 123 (.agg #[.int .i64 a, .int .i64 b]) (.agg #[.int .i64 a', .int .i64 b'])).run Tryz.prog w = .ok (.bool (posB a b a' b')) w := by
  rw [run_eql_struct]
  unfold posB
  simp [go_sem]
  by_cases h1 : a = a' <;> by_cases h2 : b = b' <;> simp [h1, h2]
structure CellsOk (cs : List Int) : Prop where
  len : cs.length = 8192
  may : ∀ b ∈ cs, mayK b = true
def ChA (c : Nat) (x z : Int) (cs : List Int) : Asn := fun w M => ∃ v R, Blk w c 186 #[.int .i64 x, .int .i64 z, v] ∧ Owns w 0 235 2 encR v R ∧ CanR R ∧ cellsR R = cs ∧ CellsOk cs ∧ ∀ b, M b ↔ b = c ∨ v.ownBlock = some b
theorem own_at {w : World} {base size : Nat} {e : TypeId} {α : Type} {enc : α → List Value} {v : Value} {xs : List α} (h : Owns w base e size enc v xs) {b : Nat} (hb : v.ownBlock = some b) : base ≤ b ∧ ∃ cur, Blk w b e cur := by
  rcases h.2 with ⟨rfl, _⟩ | ⟨g, cap, cur, rfl, hb', hg, _⟩
  · cases hb
  · simp [Value.ownBlock] at hb
    subst hb
    exact ⟨hb', cur, hg⟩
theorem Owns.keep {w w' : World} {base size : Nat} {e : TypeId} {α : Type} {enc : α → List Value} {v : Value} {xs : List α} {K : Nat → Prop} (h : Owns w base e size enc v xs) (hk : Kept K w w') (hK : ∀ b, v.ownBlock = some b → K b) : Owns w' base e size enc v xs := by
  refine ⟨h.1, ?_⟩
  rcases h.2 with h0 | ⟨g, cap, cur, hv, hbg, hg, r⟩
  · exact .inl h0
  · exact .inr ⟨g, cap, cur, hv, hbg, (hk.block g (Array.getElem?_eq_some_iff.1 hg).1 (hK g (by rw [hv]; rfl))).trans hg, r⟩
theorem one_type {w : World} {g : Nat} {t t' : TypeId} {cs cs' : Array Value} (h : Blk w g t cs) (h' : Blk w g t' cs') : t = t' := by
  unfold Blk at h h'
  rw [h] at h'
  simp only [Option.some.injEq, Obj.cells.injEq] at h'
  exact h'.2.1
theorem chA_fit (c : Nat) (x z : Int) (cs : List Int) : Asn.Fit 5 (ChA c x z cs) where
  lt := fun ⟨v, R, h1, h2, _, _, _, hM⟩ b hb => by
    rcases (hM b).1 hb with rfl | hb
    · exact h1.lt
    · exact (h2.block b hb).2
  nob := fun ⟨v, R, h1, h2, _, _, _, hM⟩ b hb cs' hB => by
    rcases (hM b).1 hb with rfl | hb
    · exact absurd (one_type h1 hB) (by decide)
    · obtain ⟨-, cur, h3⟩ := own_at h2 hb
      exact absurd (one_type h3 hB) (by decide)
  kept := fun ⟨v, R, h1, h2, h3, h4, h5, hM⟩ hk k1 _ => ⟨v, R, hk.blk (k1 _ ((hM _).2 (.inl rfl))) h1, h2.keep hk (fun b hb => k1 b ((hM b).2 (.inr hb))), h3, h4, h5, hM⟩
theorem lenR_of {R : List Rn} {cs : List Int} (h : CanR R) (e : cellsR R = cs) (ok : CellsOk cs) : lenR R = 8192 := by
  rw [lenR_cells (fun r hr => by have := h.pos r hr; omega), e, ok.len]; rfl
theorem idxI_bd {x y z : Int} (h : 0 ≤ y ∧ y < 32) : 0 ≤ idxI x y z ∧ idxI x y z < 8192 := by unfold idxI; omega
def chB (cs : List Int) (x y z : Int) : Int := (cs[(idxI x y z).toNat]?).getD (-1)
set_option maxRecDepth 100000 in
set_option maxHeartbeats 1000000 in
theorem cplace_c (x z : Int) (w : World) : Calls Tryz.prog 120 #[.agg #[.int .i64 x, .int .i64 z]] w fun r w' => r = .returned (.agg #[.int .i64 x, .int .i64 z]) ∧ Below w.heap.size w w' := by
  obtain ⟨W, hW⟩ : ∃ W, W = (w.alloc (.cells #[.int .i64 x, .int .i64 z] 183)).alloc (.cells #[.int .i64 0, .int .i64 0] 123) := ⟨_, rfl⟩
  have H : Below w.heap.size w W := by rw [hW]; go_grown
  have U : Blk W w.heap.size 183 #[.int .i64 x, .int .i64 z] := by rw [hW]; exact (Blk.new' rfl).alloc _
  have R : Blk W (w.heap.size + 1) 123 #[.int .i64 0, .int .i64 0] := by rw [hW]; exact Blk.new' (by simp)
  obtain ⟨u0, u1, -, -⟩ := U.pair
  obtain ⟨r0, r1, f0, f1⟩ := R.pair
  have HR := Lib.hid (show w.heap.size ≤ w.heap.size + 1 by omega)
  go_enter Tryz.func120, Tryz.ntmps120
  go_upto_region 1 with (fail)
  rw [← hW]
  clear hW
  generalize w.heap.size + 1 = g at *
  go_wp2_with fail
  have R2 := R.stp (.int .i64 x) (.int .i64 z)
  obtain ⟨d0, d1, -, -⟩ := R2.pair
  refine bodyPost_ret (v := .agg #[.int .i64 x, .int .i64 z]) (by simp [results, Tryz.results120, go_sem, d0, d1]) rfl ⟨rfl, ?_⟩
  have h0 := HR.out
  repeat (refine Below.setCell ?_ (by dsimp only; omega) _)
  exact H
theorem idxT_no {x y z : Int} (h : inY y = false) : idxT x y z = .tuple #[.int .i64 0, .bool false] := by unfold idxT; rw [h]; rfl
theorem idxT_yes {x y z : Int} (h : inY y = true) : idxT x y z = .tuple #[.int .i64 (idxI x y z), .bool true] := by unfold idxT; rw [h]; rfl
set_option maxRecDepth 100000 in
set_option maxHeartbeats 1000000 in
theorem cpindex_c (x y z px pz : Int) (hx : In64 x) (hz : In64 z) (h1 : x / 16 = px) (h2 : z / 16 = pz) (w : World) : Calls Tryz.prog 159 #[.agg #[.int .i64 px, .int .i64 pz], .agg #[.int .i64 x, .int .i64 y, .int .i64 z]] w fun r w' => r = .returned (idxT x y z) ∧ Below w.heap.size w w' := by
  have pe := pos_eq
  have pg := pos_guard
  have ps := posB_self px pz
  obtain ⟨W, hW⟩ : ∃ W, W = (w.alloc (.cells #[.int .i64 px, .int .i64 pz] 183)).alloc (.cells #[.int .i64 x, .int .i64 y, .int .i64 z] 43) := ⟨_, rfl⟩
  have H : Below w.heap.size w W := by rw [hW]; go_grown
  have U : Blk W w.heap.size 183 #[.int .i64 px, .int .i64 pz] := by rw [hW]; exact (Blk.new' rfl).alloc _
  have C : Blk W (w.heap.size + 1) 43 #[.int .i64 x, .int .i64 y, .int .i64 z] := by rw [hW]; exact Blk.new' (by simp)
  have HI := Lib.hid (cindex_c x y z hx hz W)
  have HC := Lib.hid fun W => cchunk_c x y z hx hz W
  rw [h1, h2] at HC
  have HH := Lib.hid H
  obtain ⟨c0, c1, c2, -, -, -⟩ := C.c3
  clear h1 h2 hx hz H
  cases hy : inY y
  · have hyv := Lib.hid (idxT_no (x := x) (z := z) hy)
    rw [hyv.out] at HI ⊢
    clear hy
    go_enter Tryz.func159, Tryz.ntmps159
    go_upto_region 1 with (fail)
    rw [← hW]
    clear hW
    go_upto_region 2 with (go_at_call 208; refine HI.out.mono ?_; rintro e_ w1 ⟨rfl, g1⟩; have G1 := Lib.hid g1; clear g1)
    refine wp_region_quiet_below (by kernel_rfl) (by kernel_rfl) ?_
    repeat (go_big_quiet_step (fail))
    refine wpQuiet_nil ?_
    intro w' hw'
    obtain ⟨rg, rfl⟩ := hw'
    go_wp2_with fail
    go_returns
    exact ⟨rfl, after (after HH.out G1.out) (below_regrown w1 _ _)⟩
  · have hyv := Lib.hid (idxT_yes (x := x) (z := z) hy)
    rw [hyv.out] at HI ⊢
    generalize idxI x y z = i at *
    clear hy
    go_enter Tryz.func159, Tryz.ntmps159
    go_upto_region 1 with (fail)
    rw [← hW]
    clear hW
    go_upto_region 2 with (go_at_call 208; refine HI.out.mono ?_; rintro e_ w1 ⟨rfl, g1⟩; have G1 := Lib.hid g1; have y0 := (C.on g1).re3; have y1 := (U.on g1).rep; clear g1)
    obtain ⟨z0, z1, z2⟩ := y0
    obtain ⟨k0, k1⟩ := y1
    clear c0 c1 c2
    refine wp_region_quiet_below (by kernel_rfl) (by kernel_rfl) ?_
    repeat (go_big_quiet_step (exact Calls.regrown_of (HC.out _)))
    refine wpQuiet_nil ?_
    intro w' hw'
    obtain ⟨rg, rfl⟩ := hw'
    go_wp2_with fail
    go_returns
    exact ⟨rfl, after (after HH.out G1.out) (below_regrown w1 _ _)⟩
def atT (cs : List Int) (x y z : Int) : Value := if inY y then .tuple #[.int .i64 (chB cs x y z), .bool true] else .tuple #[.int .i64 0, .bool false]
theorem atT_no {cs : List Int} {x y z : Int} (h : inY y = false) : atT cs x y z = .tuple #[.int .i64 0, .bool false] := by unfold atT; rw [h]; rfl
theorem atT_yes {cs : List Int} {x y z : Int} (h : inY y = true) : atT cs x y z = .tuple #[.int .i64 (chB cs x y z), .bool true] := by unfold atT; rw [h]; rfl
theorem inY_iff {y : Int} : inY y = true ↔ 0 ≤ y ∧ y < 32 := by simp [inY]
set_option maxRecDepth 100000 in
set_option maxHeartbeats 2000000 in
theorem chat_c (c : Nat) (x y z px pz : Int) (cs : List Int) (w : World) (M : Nat → Prop) (h : ChA c px pz cs w M) (hx : In64 x) (hz : In64 z) (h1 : x / 16 = px) (h2 : z / 16 = pz) :
    Calls Tryz.prog 109 #[.pointer (some ⟨c, 0, none⟩), .agg #[.int .i64 x, .int .i64 y, .int .i64 z]] w fun r w' => r = .returned (atT cs x y z) ∧ Below w.heap.size w w' := by
  obtain ⟨v, R, hB, hO, hc, he, ok, -⟩ := h
  obtain ⟨W, hW⟩ : ∃ W, W = w.alloc (.cells #[.int .i64 x, .int .i64 y, .int .i64 z] 43) := ⟨_, rfl⟩
  have H : Below w.heap.size w W := by rw [hW]; exact (Below.refl _ _).alloc (Nat.le_refl _) _
  have C : Blk W w.heap.size 43 #[.int .i64 x, .int .i64 y, .int .i64 z] := by rw [hW]; exact Blk.new' rfl
  obtain ⟨z0, z1, z2⟩ := C.re3
  have hB1 := hB.on H
  obtain ⟨q, cap, rfl, -, -, hrd, -⟩ := hO.form lenRn
  have k0 := fun d os => (hB1.re d os).cell 0
  have k1 := fun d os => (hB1.re d os).cell 1
  have HI := Lib.hid fun W => cpindex_c x y z px pz hx hz h1 h2 W
  have HL := lenR_of hc he ok
  have HA := Lib.hid fun W (hW : Below w.heap.size w W) (i : Int) (hi : 0 ≤ i ∧ i < 8192) => rat_c W q cap R i (hrd.on hW) (fun r hr => by have := hc.pos r hr; omega) (by omega) (by have := lenR_pos hc.pos; unfold maxLen; omega) (by omega)
  have HE := Lib.hid he
  have HCP := Lib.hid hc.pos
  have HH := Lib.hid H
  have HB1 := Lib.hid hB1
  clear hB hO hc he ok hrd h1 h2 hx hz H C hB1 HL
  cases hy : inY y
  · have hyv := Lib.hid (idxT_no (x := x) (z := z) hy)
    have hav := Lib.hid (atT_no (cs := cs) (x := x) (z := z) hy)
    rw [hyv.out] at HI
    rw [hav.out]
    clear hy HA
    go_enter Tryz.func109, Tryz.ntmps109
    go_upto_region 1 with (fail)
    rw [← hW]
    clear hW
    refine wp_region_quiet_below (by kernel_rfl) (by kernel_rfl) ?_
    repeat (go_big_quiet_step (exact Calls.regrown_of (HI.out _)))
    refine wpQuiet_nil ?_
    intro w' hw'
    obtain ⟨rg, rfl⟩ := hw'
    go_wp2_with fail
    go_returns
    exact ⟨rfl, after HH.out (below_regrown W _ _)⟩
  · have hyv := Lib.hid (idxT_yes (x := x) (z := z) hy)
    have hav := Lib.hid (atT_yes (cs := cs) (x := x) (z := z) hy)
    have hbd := idxI_bd (x := x) (z := z) (inY_iff.1 hy)
    rw [hyv.out] at HI
    rw [hav.out]
    obtain ⟨G, hG⟩ : ∃ G, chB cs x y z = G := ⟨_, rfl⟩
    rw [hG]
    have HG := Lib.hid (show atR R (idxI x y z) = G from by
      rw [← hG, ← HE.out]
      unfold chB
      have := atR_cells (l := R) (fun r hr => by have := HCP.out r hr; omega) (idxI x y z).toNat
      rw [← this, Int.toNat_of_nonneg hbd.1])
    generalize idxI x y z = i at *
    clear hy hG
    go_enter Tryz.func109, Tryz.ntmps109
    go_upto_region 1 with (fail)
    rw [← hW]
    clear hW
    refine wp_region_quiet_below (by kernel_rfl) (by kernel_rfl) ?_
    repeat (go_big_quiet_step (exact Calls.regrown_of (HI.out _)))
    refine wpQuiet_nil ?_
    intro w' hw'
    obtain ⟨rg, rfl⟩ := hw'
    obtain ⟨W2, hW2⟩ : ∃ W2, W2 = Go.Sort.grow (redrawn W rg.d) rg.os := ⟨_, rfl⟩
    have h2 : Below W.heap.size W W2 := by rw [hW2]; exact below_regrown _ _ _
    rw [← hW2]
    clear hW2 z0 z1 z2 k0 k1
    have k2 := (HB1.out.on h2).cell 2
    have HA2 := Lib.hid (HA.out W2 (after HH.out h2) i hbd)
    rw [HG.out] at HA2
    have H2 := Lib.hid (after HH.out h2)
    clear HA h2
    go_wp2_with (go_at_call 160; refine HA2.out.mono ?_; rintro e_ w1 ⟨rfl, g1⟩; have G1 := Lib.hid g1; clear g1)
    go_returns
    exact ⟨rfl, after H2.out G1.out⟩
end Go.Proofs.YtmbccnioijokfaaGreatDoor

namespace Go.Proofs.YtmbccnioijokfaaGreatDoor
open Go.RowKit
attribute [local go_sem] Oper.semAt_some
theorem setR_ok {R : List Rn} {cs : List Int} {i : Nat} {b : Int} (hc : CanR R) (he : cellsR R = cs) (ok : CellsOk cs) (hi : i < 8192) (hb : mayK b = true) :
    CanR (fillR R i (i + 1) b) ∧ cellsR (fillR R i (i + 1) b) = cs.set i b ∧ CellsOk (cs.set i b) := by
  refine ⟨fillR_can _ _ _ _, by rw [setR_cells hc (by rw [he, ok.len]; exact hi), he], by rw [List.length_set, ok.len], fun x hx => ?_⟩
  rcases List.mem_or_eq_of_mem_set hx with h | rfl
  · exact ok.may x h
  · exact hb
set_option maxRecDepth 100000 in
set_option maxHeartbeats 2000000 in
theorem chset_c (c : Nat) (x y z px pz b : Int) (cs : List Int) (w : World) (M : Nat → Prop) (h : ChA c px pz cs w M) (hx : In64 x) (hz : In64 z) (h1 : x / 16 = px) (h2 : z / 16 = pz) (hy : inY y = true) (hb : mayK b = true) :
    Calls Tryz.prog 305 #[.pointer (some ⟨c, 0, none⟩), .agg #[.int .i64 x, .int .i64 y, .int .i64 z], .int .i64 b] w fun r w' => r = .returned (.int .i64 0) ∧ Aft (ChA c px pz (cs.set (idxI x y z).toNat b)) w M w' := by
  have FIT := chA_fit c px pz cs
  have h0 := h
  obtain ⟨v, R, hB, hO, hc, he, ok, hM⟩ := h
  obtain ⟨W, hW⟩ : ∃ W, W = w.alloc (.cells #[.int .i64 x, .int .i64 y, .int .i64 z] 43) := ⟨_, rfl⟩
  have H : Below w.heap.size w W := by rw [hW]; exact (Below.refl _ _).alloc (Nat.le_refl _) _
  have C : Blk W w.heap.size 43 #[.int .i64 x, .int .i64 y, .int .i64 z] := by rw [hW]; exact Blk.new' rfl
  obtain ⟨z0, z1, z2⟩ := C.re3
  have hB1 := hB.on H
  obtain ⟨q, cap, rfl, -, -, hrd, -⟩ := hO.form lenRn
  have k0 := fun d os => (hB1.re d os).cell 0
  have k1 := fun d os => (hB1.re d os).cell 1
  have HI := Lib.hid fun W => cpindex_c x y z px pz hx hz h1 h2 W
  have HL := lenR_of hc he ok
  have hbd := idxI_bd (x := x) (z := z) (inY_iff.1 hy)
  obtain ⟨i, hi⟩ := Int.eq_ofNat_of_zero_le hbd.1
  have hi2 : i < 8192 := by omega
  have HSET := Lib.hid fun W (hW : Below w.heap.size w W) => runset_c W q cap R i b (hrd.on hW) hc (by omega) (by omega) hb
  have HOK := Lib.hid (setR_ok hc he ok hi2 hb)
  have HM := Lib.hid fun W => bmayk_c b W
  rw [hb] at HM
  have hyv := Lib.hid (idxT_yes (x := x) (z := z) hy)
  rw [hyv.out, hi] at HI
  rw [hi, Int.toNat_natCast]
  have HH := Lib.hid H
  have HB1 := Lib.hid hB1
  have HBL := Lib.hid hB.lt
  have HMM := Lib.hid hM
  generalize hR2 : fillR R (i : Int) ((i : Int) + 1) b = R2 at HSET HOK
  clear hB hO hc he ok hrd h1 h2 hx hz H C hB1 HL hyv hbd hi hy hb hM h0 FIT hR2
  go_enter Tryz.func305, Tryz.ntmps305
  go_upto_region 1 with (fail)
  rw [← hW]
  clear hW
  refine wp_region_quiet_below (by kernel_rfl) (by kernel_rfl) ?_
  repeat (go_big_quiet_step (exact Calls.regrown_of (HI.out _)))
  refine wpQuiet_nil ?_
  intro w' hw'
  obtain ⟨rg, rfl⟩ := hw'
  obtain ⟨W2, hW2⟩ : ∃ W2, W2 = Go.Sort.grow (redrawn W rg.d) rg.os := ⟨_, rfl⟩
  have h2 : Below W.heap.size W W2 := by rw [hW2]; exact below_regrown _ _ _
  rw [← hW2]
  have H2 := Lib.hid (after HH.out h2)
  have HM2 := Lib.hid (HM.out W2)
  have HB2 := Lib.hid (HB1.out.on h2)
  clear hW2 z0 z1 z2 k0 k1 h2 HM HB1
  go_upto_region 6 with (go_at_call 142; refine HM2.out.mono ?_; rintro e_ w3 ⟨rfl, g3⟩; have G3 := Lib.hid g3; clear g3)
  have k2 := (HB2.out.on G3.out).cell 2
  have HS3 := Lib.hid (HSET.out w3 (after H2.out G3.out))
  go_wp2_with fail
  refine HS3.out.mono ?_
  rintro e_ w4 ⟨v4, rfl, o4, g4⟩
  obtain ⟨q4, c4, rfl, -⟩ := o4.form lenRn
  have hB4 := (HB2.out.on G3.out).on g4
  have f2 := hB4.frz 2
  have k4 := hB4.cell 2
  have HB4 := Lib.hid hB4
  have O4 := Lib.hid o4
  have G4 := Lib.hid (after (after H2.out G3.out) g4)
  have hs3 := Lib.hid (after H2.out G3.out).size
  clear hB4 o4 g4 k2
  go_wp2_with fail
  go_returns
  refine ⟨rfl, fun b => b = c ∨ Value.ownBlock (.slice q4 R2.length c4) = some b, ⟨_, R2, HB4.out.set_ 2 _, ?_, HOK.out.1, HOK.out.2.1, HOK.out.2.2, fun _ => Iff.rfl⟩, ?_, ?_⟩
  · refine (Owns.lowB (B := 0) O4.out (Nat.zero_le _)).keep (K := fun b => b ≠ c) ((Kept.refl _ _).setCell (p := ⟨c, 2, none⟩) (by simp) _) fun b hb e => ?_
    have h5 := (own_at O4.out hb).1
    have := hs3.out
    have := HBL.out
    omega
  · intro b hb
    rcases hb with rfl | hb
    · exact .inl ((HMM.out _).2 (.inl rfl))
    · have h5 := (own_at O4.out hb).1
      have := hs3.out
      exact .inr (by omega)
  · exact ((Kept.of_below G4.out).mono fun _ _ => trivial).setCell (p := ⟨c, 2, none⟩) (fun h => h ((HMM.out _).2 (.inl rfl))) _
theorem ofB_may (y g : Int) : mayK (ofB y g) = true := by
  unfold ofB
  split
  · decide
  · split
    · decide
    · split
      · decide
      · split
        · decide
        · split <;> decide
theorem genL_ok (s px pz : Int) : CellsOk (genL s px pz) where
  len := by simp [genL]
  may := fun b hb => by
    obtain ⟨i, -, rfl⟩ := List.mem_map.1 hb
    exact ofB_may _ _
def NewCh (w : World) (x z : Int) (cs : List Int) (r : Ending) (w' : World) : Prop := ∃ c M, r = .returned (.pointer (some ⟨c, 0, none⟩)) ∧ ChA c x z cs w' M ∧ (∀ b, M b → w.heap.size ≤ b) ∧ Below w.heap.size w w'
def RowOf (xs : List Rn) (base : Nat) (v : Value) (w : World) : Prop := ∃ q c, v = .slice q xs.length c ∧ Owns w base 235 2 encR v xs
set_option maxRecDepth 100000 in
set_option maxHeartbeats 2000000 in
theorem chmake_c (s px pz : Int) (hx : -1000000000 ≤ px ∧ px ≤ 1000000000) (hz : -1000000000 ≤ pz ∧ pz ≤ 1000000000) (w : World) :
    Calls Tryz.prog 84 #[.int .i64 s, .agg #[.int .i64 px, .int .i64 pz]] w fun r w' => NewCh w px pz (genL s px pz) r w' := by
  have hok := genL_ok s px pz
  have HC := Lib.hid fun W => gchunk_c s px pz hx hz W
  generalize genL s px pz = cs at hok HC ⊢
  obtain ⟨W, hW⟩ : ∃ W, W = w.alloc (.cells #[.int .i64 px, .int .i64 pz] 123) := ⟨_, rfl⟩
  have H : Below w.heap.size w W := by rw [hW]; exact (Below.refl _ _).alloc (Nat.le_refl _) _
  have U : Blk W w.heap.size 123 #[.int .i64 px, .int .i64 pz] := by rw [hW]; exact Blk.new' rfl
  obtain ⟨u0, u1⟩ := U.rep
  have HH := Lib.hid H
  have HOK := Lib.hid hok
  clear H U hok
  go_enter Tryz.func84, Tryz.ntmps84
  go_upto_region 1 with (fail)
  rw [← hW]
  clear hW
  refine wp_sched [0, 0, 0, 0, 2, 3, 3, 3] (fun _ v w' => RowOf (ofR (cs)) w.heap.size v w') (by kernel_rfl) (by kernel_rfl) (fun _ _ _ _ ⟨q, c, h1, h2⟩ h => ⟨q, c, h1, h2.on h⟩) ?_
  repeat (first | (refine wpQs_s ?_) | (refine wpQs_q (fun K hK => ?_); go_simp; first | (refine hK _ ?_; clear hK K) | (apply Exists.intro; refine ⟨fun _ => ?_, hK _ ?_⟩; (fail); clear hK K)) | (refine wpQs_f (fun K hK => ?_); go_simp; refine hK _ ?_; clear hK K))
  refine wpQs_nil ?_
  repeat (first | (refine wpLs_skip ?_) | (refine wpLs_one ?lsA (fun v_ => ?_); case lsA => (intro w_ hw_ hp_; (go_simp; refine (HC.out _).mono ?_; rintro e_ w9 ⟨v, rfl, h1, h2⟩; obtain ⟨q, c, rfl, -⟩ := h1.form lenRn; exact ⟨_, rfl, Kept.of_below h2, q, c, rfl, h1.lowB (by have := (msd_kept hw_).size; have := HH.out.size; omega)⟩))))
  refine wpLs_nilB ?_
  simp only [tails]
  rintro W1 h1 ⟨-, hq⟩
  have HR := Lib.hid (And.intro (ofR_can (cs)) (ofR_cells (cs)))
  generalize ofR (cs) = R at hq HR
  obtain ⟨q, c, rfl, hO⟩ := hq
  clear u0 u1
  have HO := Lib.hid hO
  have H1 := Lib.hid (after HH.out h1)
  clear hO h1
  have HF : Hid (∀ w2, w2 = W1.alloc (.cells #[.int .i64 px, .int .i64 pz, .slice q R.length c] 186) → ChA W1.heap.size px pz (cs) w2 (fun b => b = W1.heap.size ∨ Value.ownBlock (.slice q R.length c) = some b)) := Lib.hid fun w2 hw2 => ⟨_, R, Blk.fresh hw2, (Owns.lowB (B := 0) HO.out (Nat.zero_le _)).on (by rw [hw2]; exact (Below.refl _ _).alloc (Nat.le_refl _) _), HR.out.1, HR.out.2, HOK.out, fun _ => Iff.rfl⟩
  clear HR
  go_wp2_with fail
  go_returns
  refine ⟨W1.heap.size, _, rfl, HF.out _ rfl, ?_, H1.out.alloc H1.out.size _⟩
  intro b hb
  rcases hb with rfl | hb
  · exact H1.out.size
  · exact (own_at HO.out hb).1
set_option maxRecDepth 100000 in
set_option maxHeartbeats 1000000 in
theorem cread0_c (q : Option Addr) (c : Nat) (w : World) : Calls Tryz.prog 124 #[.slice q 0 c, .int .i64 8192] w fun r w' => r = .returned (.tuple #[.slice none 0 0, .int .i64 3]) ∧ w = w' := by
  go_enter Tryz.func124, Tryz.ntmps124
  go_wp2_with fail
  go_step3
  go_wp2_with fail
  go_step3
  go_wp2_with fail
  refine wp_loop_rounds 1 ?_
  rw [rounds_succ]
  go_wp2_with fail
  rw [Exit.noGoto_ret]
  go_returns
  exact ⟨rfl, rfl⟩
set_option maxRecDepth 100000 in
set_option maxHeartbeats 1000000 in
theorem chread0_c (px pz : Int) (q : Option Addr) (c : Nat) (w : World) : Calls Tryz.prog 83 #[.agg #[.int .i64 px, .int .i64 pz], .slice q 0 c] w fun r w' => r = .returned (.tuple #[.pointer none, .int .i64 3]) ∧ Below w.heap.size w w' := by
  go_enter Tryz.func83, Tryz.ntmps83
  go_wp2_with (go_at_call 124; refine (cread0_c _ _ _).mono ?_; rintro e_ w1 ⟨rfl, rfl⟩)
  go_returns
  exact ⟨rfl, (Below.refl _ _).alloc (Nat.le_refl _) _⟩
end Go.Proofs.YtmbccnioijokfaaGreatDoor

namespace Go.Proofs.YtmbccnioijokfaaGreatDoor
structure TI where
  x : Int
  z : Int
  cs : List Int
  dirty : Bool
  pins : Int
structure TS where
  seed : Int
  lim : Int
  l : List TI
  d : DS
def TI.is (p : Int × Int) (i : TI) : Bool := posB i.x i.z p.1 p.2
def findI (p : Int × Int) : List TI → Nat → Int
  | [], _ => -1
  | i :: l, k => if i.is p then k else findI p l (k + 1)
def TS.find (T : TS) (p : Int × Int) : Int := findI p T.l 0
def chkOf (x z : Int) : Int × Int := (x / 16, z / 16)
def TI.at (i : TI) (x y z : Int) : Int := if y < 0 then 1 else if inY y then chB i.cs x y z else 0
def TS.at (T : TS) (x y z : Int) : Int := match T.l.find? (TI.is (chkOf x z)) with
  | some i => i.at x y z
  | none => -1
theorem findI_none {p : Int × Int} {l : List TI} (h : ∀ i ∈ l, i.is p = false) (k : Nat) : findI p l k = -1 := by
  induction l generalizing k with
  | nil => rfl
  | cons i l ih =>
    unfold findI
    rw [if_neg (by rw [h i List.mem_cons_self]; decide), ih fun j hj => h j (List.mem_cons_of_mem _ hj)]
theorem findI_at {p : Int × Int} {l : List TI} {n : Nat} {i : TI} (hi : l[n]? = some i) (hp : i.is p = true) (hb : ∀ j y, j < n → l[j]? = some y → y.is p = false) (k : Nat) : findI p l k = ((k + n : Nat) : Int) := by
  induction l generalizing n k with
  | nil => cases hi
  | cons a l ih =>
    unfold findI
    cases n with
    | zero =>
      obtain rfl : a = i := by simpa using hi
      rw [if_pos hp]; rfl
    | succ n =>
      rw [if_neg (by rw [hb 0 a (by omega) rfl]; decide), ih (by simpa using hi) (fun j y hj hy => hb (j + 1) y (by omega) (by simpa using hy))]
      congr 1
      omega
theorem find_ways (T : TS) (p : Int × Int) : (T.find p = -1 ∧ T.l.find? (TI.is p) = none) ∨ ∃ (n : Nat) (i : TI), T.find p = n ∧ T.l[n]? = some i ∧ i.is p = true ∧ T.l.find? (TI.is p) = some i := by
  unfold TS.find
  have key : ∀ (l : List TI) (k : Nat), (findI p l k = -1 ∧ l.find? (TI.is p) = none) ∨ ∃ (n : Nat) (i : TI), findI p l k = ((k + n : Nat) : Int) ∧ l[n]? = some i ∧ i.is p = true ∧ l.find? (TI.is p) = some i := by
    intro l
    induction l with
    | nil => intro k; exact .inl ⟨rfl, rfl⟩
    | cons a l ih =>
      intro k
      unfold findI
      cases ha : a.is p
      · rw [if_neg (by decide), List.find?_cons_of_neg (by rw [ha]; decide)]
        rcases ih (k + 1) with h | ⟨n, i, h1, h2, h3, h4⟩
        · exact .inl h
        · exact .inr ⟨n + 1, i, by rw [h1]; congr 1; omega, by simpa using h2, h3, h4⟩
      · rw [if_pos rfl, List.find?_cons_of_pos ha]
        exact .inr ⟨0, a, rfl, rfl, ha, rfl⟩
  rcases key T.l 0 with h | ⟨n, i, h1, h2, h3, h4⟩
  · exact .inl h
  · exact .inr ⟨n, i, by rw [h1]; simp, h2, h3, h4⟩
def TI.set (i : TI) (x y z b : Int) : TI := { i with cs := i.cs.set (idxI x y z).toNat b, dirty := i.dirty || (chB i.cs x y z != b) }
end Go.Proofs.YtmbccnioijokfaaGreatDoor

namespace Go.Proofs.YtmbccnioijokfaaGreatDoor
open Go.RowKit
attribute [local go_sem] Oper.semAt_some
def ItA (a : Nat) (i : TI) : Asn := fun w M => ∃ c Mc, Blk w a 142 #[.pointer (some ⟨c, 0, none⟩), .bool i.dirty, .int .i64 i.pins] ∧ ChA c i.x i.z i.cs w Mc ∧ ∀ b, M b ↔ b = a ∨ Mc b
def ItT (t : TypeId) : Prop := t = 142 ∨ t = 186 ∨ t = 235
section
variable {w w' : World} {M M' : Nat → Prop} {a c : Nat} {i : TI}
theorem ChA.type {x z : Int} {cs : List Int} (h : ChA c x z cs w M) {b : Nat} (hb : M b) : ∃ t cur, Blk w b t cur ∧ (t = 186 ∨ t = 235) := by
  obtain ⟨v, R, h1, h2, -, -, -, hM⟩ := h
  rcases (hM b).1 hb with rfl | hb
  · exact ⟨_, _, h1, .inl rfl⟩
  · obtain ⟨-, cur, h3⟩ := own_at h2 hb
    exact ⟨_, _, h3, .inr rfl⟩
theorem ItA.type (h : ItA a i w M) {b : Nat} (hb : M b) : ∃ t cur, Blk w b t cur ∧ ItT t := by
  obtain ⟨c, Mc, h1, h2, hM⟩ := h
  rcases (hM b).1 hb with rfl | hb
  · exact ⟨_, _, h1, .inl rfl⟩
  · obtain ⟨t, cur, h3, h4⟩ := h2.type hb
    exact ⟨t, cur, h3, .inr h4⟩
theorem itA_fit (a : Nat) (i : TI) : Asn.Fit 5 (ItA a i) where
  lt := fun h b hb => by
    obtain ⟨t, cur, h1, -⟩ := h.type hb
    exact h1.lt
  nob := fun h b hb cs hB => by
    obtain ⟨t, cur, h1, h2⟩ := h.type hb
    obtain rfl := one_type h1 hB
    rcases h2 with h | h | h <;> revert h <;> decide
  kept := fun ⟨c, Mc, h1, h2, hM⟩ hk k1 k2 => ⟨c, Mc, hk.blk (k1 _ ((hM _).2 (.inl rfl))) h1, (chA_fit c i.x i.z i.cs).kept h2 hk (fun b hb => k1 b ((hM b).2 (.inr hb))) k2, hM⟩
end
def ItsA : List (Nat × TI) → Asn
  | [] => fun _ M => ∀ b, ¬ M b
  | p :: L => Both (ItA p.1 p.2) (ItsA L)
section
variable {w w' : World} {M M' : Nat → Prop} {L L' : List (Nat × TI)} {a : Nat} {i : TI}
theorem itsA_fit : ∀ L : List (Nat × TI), Asn.Fit 5 (ItsA L)
  | [] => { lt := fun h b hb => absurd hb (h b), nob := fun h b hb => absurd hb (h b), kept := fun h _ _ _ => h }
  | p :: L => both_fit (itA_fit p.1 p.2) (itsA_fit L)
theorem both_assoc {P Q R : Asn} (h : Both P (Both Q R) w M) : Both Q (Both P R) w M := by
  obtain ⟨A, B, h1, ⟨C, D, h2, h3, hd, hB⟩, hd2, hM⟩ := h
  refine ⟨C, fun b => A b ∨ D b, h2, ⟨A, D, h1, h3, fun b ha hD => hd2 b ha ((hB b).2 (.inr hD)), fun _ => Iff.rfl⟩, fun b hC hAD => ?_, fun b => ?_⟩
  · rcases hAD with h | h
    · exact hd2 b h ((hB b).2 (.inl hC))
    · exact hd b hC h
  · rw [hM, hB]
    constructor
    · rintro (h | h | h)
      · exact .inr (.inl h)
      · exact .inl h
      · exact .inr (.inr h)
    · rintro (h | h | h)
      · exact .inr (.inl h)
      · exact .inl h
      · exact .inr (.inr h)
theorem both_mono {P Q Q' : Asn} (h : Both P Q w M) (k : ∀ M, Q w M → Q' w M) : Both P Q' w M := by
  obtain ⟨A, B, h1, h2, h3⟩ := h
  exact ⟨A, B, h1, k B h2, h3⟩
theorem its_perm (hp : L.Perm L') : ∀ M, ItsA L w M → ItsA L' w M := by
  induction hp with
  | nil => exact fun _ h => h
  | cons p _ ih => exact fun _ h => both_mono h ih
  | swap p q L => exact fun _ h => both_assoc h
  | trans _ _ ih1 ih2 => exact fun M h => ih2 M (ih1 M h)
theorem its_type : ∀ {L : List (Nat × TI)} {M : Nat → Prop}, ItsA L w M → ∀ {b : Nat}, M b → ∃ t cur, Blk w b t cur ∧ ItT t
  | [], _, h, b, hb => absurd hb (h b)
  | p :: L, _, ⟨A, B, h1, h2, _, hM⟩, b, hb => by
    rcases (hM b).1 hb with h | h
    · exact h1.type h
    · exact its_type h2 h
theorem its_mem : ∀ {L : List (Nat × TI)} {M : Nat → Prop}, ItsA L w M → ∀ {p : Nat × TI}, p ∈ L → ∃ M', ItA p.1 p.2 w M' ∧ ∀ b, M' b → M b
  | [], _, _, p, hp => by cases hp
  | q :: L, _, ⟨A, B, h1, h2, _, hM⟩, p, hp => by
    rcases List.mem_cons.1 hp with rfl | hp
    · exact ⟨A, h1, fun b hb => (hM b).2 (.inl hb)⟩
    · obtain ⟨M', h3, h4⟩ := its_mem h2 hp
      exact ⟨M', h3, fun b hb => (hM b).2 (.inr (h4 b hb))⟩
end
abbrev encA (a : Nat) : List Value := [.pointer (some ⟨a, 0, none⟩)]
theorem lenA (a : Nat) : (encA a).length = 1 := rfl
structure TbAt (w : World) (t s d : Nat) (v : Value) (L : List (Nat × TI)) (Ms Mi : Nat → Prop) (T : TS) : Prop where
  blk : Blk w t 135 #[.pointer (some ⟨s, 0, none⟩), .int .i64 T.seed, .int .i64 T.lim, v]
  st : StoreIs w 0 Ms s d T.d
  row : Owns w 0 128 1 encA v (L.map (·.1))
  its : ItsA L w Mi
  l : L.map (·.2) = T.l
def TbM (t s : Nat) (v : Value) (Ms Mi : Nat → Prop) (b : Nat) : Prop := b = t ∨ b = s ∨ Ms b ∨ v.ownBlock = some b ∨ Mi b
def TbA (t : Nat) (T : TS) : Asn := fun w M => ∃ s d v L Ms Mi, TbAt w t s d v L Ms Mi T ∧ ∀ b, M b ↔ TbM t s v Ms Mi b
def TbT (t : TypeId) : Prop := t = 135 ∨ t = 151 ∨ t = 200 ∨ t = 293 ∨ t = 128 ∨ ItT t
section
variable {w w' : World} {t s d : Nat} {v : Value} {L : List (Nat × TI)} {Ms Mi M K : Nat → Prop} {T : TS}
theorem TbAt.type (h : TbAt w t s d v L Ms Mi T) {b : Nat} (hb : TbM t s v Ms Mi b) : b < w.heap.size ∧ ∀ ty cs, Blk w b ty cs → TbT ty := by
  rcases hb with rfl | rfl | hb | hb | hb
  · exact ⟨h.blk.lt, fun ty cs hB => .inl (one_type hB h.blk)⟩
  · exact ⟨h.st.blk.lt, fun ty cs hB => .inr (.inl (one_type hB h.st.blk))⟩
  · obtain ⟨-, h1, h2⟩ := h.st.disk.mine hb
    refine ⟨h1, fun ty cs hB => ?_⟩
    rcases h2 ty cs hB with h | h
    · exact .inr (.inr (.inl h))
    · exact .inr (.inr (.inr (.inl h)))
  · obtain ⟨-, cur, h1⟩ := own_at h.row hb
    exact ⟨h1.lt, fun ty cs hB => .inr (.inr (.inr (.inr (.inl (one_type hB h1)))))⟩
  · obtain ⟨t', cur, h1, h2⟩ := its_type h.its hb
    exact ⟨h1.lt, fun ty cs hB => .inr (.inr (.inr (.inr (.inr (by rw [one_type hB h1]; exact h2)))))⟩
theorem TbAt.kept (h : TbAt w t s d v L Ms Mi T) (hk : Kept K w w') (k1 : ∀ b, TbM t s v Ms Mi b → K b) (k2 : ∀ b cs, Blk w b 5 cs → K b) : TbAt w' t s d v L Ms Mi T where
  blk := hk.blk (k1 _ (.inl rfl)) h.blk
  st := ⟨hk.blk (k1 _ (.inr (.inl rfl))) h.st.blk, h.st.disk.kept hk (fun b hb => k1 b (.inr (.inr (.inl hb)))) (fun b hb => by
    rcases hb with hb | ⟨cur, hb⟩
    · omega
    · exact k2 b cur hb), Nat.zero_le _⟩
  row := h.row.keep hk fun b hb => k1 b (.inr (.inr (.inr (.inl hb))))
  its := (itsA_fit L).kept h.its hk (fun b hb => k1 b (.inr (.inr (.inr (.inr hb))))) k2
  l := h.l
theorem TbAt.on (h : TbAt w t s d v L Ms Mi T) (hb : Below w.heap.size w w') : TbAt w' t s d v L Ms Mi T := h.kept ((Kept.of_below hb).mono (K' := fun _ => True) fun _ _ => trivial) (fun _ _ => trivial) (fun _ _ _ => trivial)
theorem tbA_fit (t : Nat) (T : TS) : Asn.Fit 5 (TbA t T) where
  lt := fun ⟨s, d, v, L, Ms, Mi, h, hM⟩ b hb => (h.type ((hM b).1 hb)).1
  nob := fun ⟨s, d, v, L, Ms, Mi, h, hM⟩ b hb cs hB => by
    rcases (h.type ((hM b).1 hb)).2 _ _ hB with h | h | h | h | h | h | h | h <;> revert h <;> decide
  kept := fun ⟨s, d, v, L, Ms, Mi, h, hM⟩ hk k1 k2 => ⟨s, d, v, L, Ms, Mi, h.kept hk (fun b hb => k1 b ((hM b).2 hb)) k2, hM⟩
theorem TbA.type (h : TbA t T w M) {b : Nat} (hb : M b) : b < w.heap.size ∧ ∀ ty cs, Blk w b ty cs → TbT ty := by
  obtain ⟨s, d, v, L, Ms, Mi, h, hM⟩ := h
  exact h.type ((hM b).1 hb)
end
end Go.Proofs.YtmbccnioijokfaaGreatDoor

namespace Go.Proofs.YtmbccnioijokfaaGreatDoor
open Go.RowKit
attribute [local go_sem] Oper.semAt_some
set_option maxRecDepth 100000 in
set_option maxHeartbeats 2000000 in
theorem find1_c (a g : Nat) (i : TI) (px pz : Int) (w : World) (M : Nat → Prop) (h : ItA a i w M) (hg : Blk w g 123 #[.int .i64 px, .int .i64 pz]) :
    Calls Tryz.prog 119 #[.pointer (some ⟨a, 0, none⟩), .pointer (some ⟨g, 0, none⟩)] w fun r w' => r = .returned (.bool (i.is (px, pz))) ∧ Below w.heap.size w w' := by
  obtain ⟨c, Mc, hB, ⟨v, R, hC, -⟩, -⟩ := h
  have pe := pos_eq
  have pg := pos_guard
  have k0 := fun d os => (hB.re d os).cell 0
  have c0 := fun d os => (hC.re d os).cell 0
  have c1 := fun d os => (hC.re d os).cell 1
  obtain ⟨p0, p1⟩ := hg.rep
  have HP := Lib.hid fun W => cplace_c i.x i.z W
  clear hB hC hg
  unfold TI.is
  go_enter Tryz.func119, Tryz.ntmps119
  go_upto_region 1 with (fail)
  refine wp_region_quiet_below (by kernel_rfl) (by kernel_rfl) ?_
  repeat (go_big_quiet_step (exact Calls.regrown_of (HP.out _)))
  refine wpQuiet_nil ?_
  intro w' hw'
  obtain ⟨rg, rfl⟩ := hw'
  go_wp2_with fail
  go_returns
  exact ⟨rfl, below_regrown w _ _⟩
theorem rd_ptr {w : World} {q : Option Addr} {aa : List Nat} (h : Rd w q 1 encA aa) : Rd w q 1 enc1 (aa.map fun a => Value.pointer (some ⟨a, 0, none⟩)) := fun hn => by
  obtain ⟨g, o, hq, h1⟩ := h (by simpa using hn)
  refine ⟨g, o, hq, fun i v hv j u hu => ?_⟩
  rw [List.getElem?_map] at hv
  cases ha : aa[i]? with
  | none => rw [ha] at hv; cases hv
  | some a =>
    rw [ha] at hv
    obtain rfl : Value.pointer (some ⟨a, 0, none⟩) = v := by simpa using hv
    exact h1 i a ha j u hu
theorem find_first {T : TS} {p : Int × Int} {k : Int} (h : FirstIs (fun j => ((T.l[j]?).map (TI.is p)).getD false) T.l.length k) : k = T.find p := by
  unfold TS.find
  rcases h with ⟨rfl, h⟩ | ⟨m, hm, rfl, h1, h2⟩
  · refine (findI_none (fun i hi => ?_) 0).symm
    obtain ⟨j, hj⟩ := List.getElem?_of_mem hi
    have := h j (List.getElem?_eq_some_iff.1 hj).1
    dsimp only at this
    rw [hj] at this
    exact this
  · obtain ⟨i, hi⟩ : ∃ i, T.l[m]? = some i := ⟨_, List.getElem?_eq_getElem hm⟩
    dsimp only at h1
    rw [hi] at h1
    have := findI_at hi h1 (fun j y hj hy => by have := h2 j hj; dsimp only at this; rw [hy] at this; exact this) 0
    rw [this]; simp
set_option maxRecDepth 100000 in
set_option maxHeartbeats 2000000 in
theorem tfind_c (t s d : Nat) (v : Value) (L : List (Nat × TI)) (Ms Mi : Nat → Prop) (T : TS) (px pz : Int) (w : World) (h : TbAt w t s d v L Ms Mi T) (hn : T.l.length ≤ 1000) :
    Calls Tryz.prog 79 #[.pointer (some ⟨t, 0, none⟩), .agg #[.int .i64 px, .int .i64 pz]] w fun r w' => r = .returned (.int .i64 (T.find (px, pz))) ∧ Below w.heap.size w w' := by
  have hmf : ∀ (fn : Fn) (first cap : Array Value) (w : World), (Instr.makeFunc fn first cap).run Tryz.prog w = .ok (.func fn first cap) w := fun _ _ _ _ => rfl
  obtain ⟨W, hW⟩ : ∃ W, W = w.alloc (.cells #[.int .i64 px, .int .i64 pz] 123) := ⟨_, rfl⟩
  have H : Below w.heap.size w W := by rw [hW]; exact (Below.refl _ _).alloc (Nat.le_refl _) _
  have X : Blk W w.heap.size 123 #[.int .i64 px, .int .i64 pz] := by rw [hW]; exact Blk.new' rfl
  have h1 := h.on H
  have hll : L.length = T.l.length := by rw [← h.l, List.length_map]
  obtain ⟨q, cap, hv, -, -, hrd, -⟩ := h1.row.form lenA
  have hlen : ((L.map (·.1)).map fun a => Value.pointer (some ⟨a, 0, none⟩)).length = T.l.length := by simp [hll]
  have HF := Lib.hid (tidxf_c q cap _ (by rw [hlen]; omega) 119 #[.pointer (some ⟨w.heap.size, 0, none⟩)] (fun j => ((T.l[j]?).map (TI.is (px, pz))).getD false) W (rd_ptr hrd) (enters_of Tryz.func119 (by kernel_rfl) rfl) (fun k u hu W2 h2 => by
    rw [List.getElem?_map, List.getElem?_map] at hu
    cases hk : L[k]? with
    | none => rw [hk] at hu; cases hu
    | some p =>
      rw [hk] at hu
      obtain rfl : Value.pointer (some ⟨p.1, 0, none⟩) = u := by simpa using hu
      have hti : T.l[k]? = some p.2 := by rw [← h.l, List.getElem?_map, hk]; rfl
      obtain ⟨M', h3, -⟩ := its_mem (h1.on h2).its (List.mem_of_getElem? hk)
      dsimp only
      rw [hti]
      exact find1_c p.1 w.heap.size p.2 px pz W2 M' h3 (X.on h2)))
  rw [hlen] at HF
  have hB := h1.blk
  rw [hv] at hB
  rw [show (L.map (·.1)).length = T.l.length by simp [hll]] at hB
  have t3 := hB.cell 3
  have HH := Lib.hid H
  clear h1 hll hlen hv hrd hB X H h hn
  go_enter Tryz.func79, Tryz.ntmps79
  go_upto_region 1 with (fail)
  rw [← hW]
  clear hW
  go_wp2_with (go_at_call 118; refine HF.out.mono ?_; rintro e_ w1 ⟨k, rfl, hk, g1⟩; have HK := Lib.hid hk; have G1 := Lib.hid g1; clear hk g1)
  go_returns
  exact ⟨ret_i (find_first HK.out), after HH.out G1.out⟩
theorem atI_neg {i : TI} {x y z : Int} (h : y < 0) : i.at x y z = 1 := by unfold TI.at; rw [if_pos h]
theorem atI_no {i : TI} {x y z : Int} (h : ¬ y < 0) (h2 : inY y = false) : i.at x y z = 0 := by unfold TI.at; rw [if_neg h, h2]; rfl
theorem atI_yes {i : TI} {x y z : Int} (h : ¬ y < 0) (h2 : inY y = true) : i.at x y z = chB i.cs x y z := by unfold TI.at; rw [if_neg h, h2]; rfl
set_option maxRecDepth 100000 in
set_option maxHeartbeats 4000000 in
theorem tat_c (t s d : Nat) (v : Value) (L : List (Nat × TI)) (Ms Mi : Nat → Prop) (T : TS) (x y z : Int) (hx : In64 x) (hz : In64 z) (w : World) (h : TbAt w t s d v L Ms Mi T) (hn : T.l.length ≤ 1000) :
    Calls Tryz.prog 67 #[.pointer (some ⟨t, 0, none⟩), .agg #[.int .i64 x, .int .i64 y, .int .i64 z]] w fun r w' => r = .returned (.int .i64 (T.at x y z)) ∧ Below w.heap.size w w' := by
  obtain ⟨W, hW⟩ : ∃ W, W = w.alloc (.cells #[.int .i64 x, .int .i64 y, .int .i64 z] 43) := ⟨_, rfl⟩
  have H : Below w.heap.size w W := by rw [hW]; exact (Below.refl _ _).alloc (Nat.le_refl _) _
  have C : Blk W w.heap.size 43 #[.int .i64 x, .int .i64 y, .int .i64 z] := by rw [hW]; exact Blk.new' rfl
  have h1 := h.on H
  have HC := Lib.hid (cchunk_c x y z hx hz W)
  have HF := Lib.hid fun W2 (h2 : Below W.heap.size W W2) => tfind_c t s d v L Ms Mi T (x / 16) (z / 16) W2 (h1.on h2) hn
  have hway := find_ways T (chkOf x z)
  have HX := Lib.hid (And.intro hx hz)
  have HT := Lib.hid h1
  have HH := Lib.hid H
  have HCC := Lib.hid C
  obtain ⟨c0, c1, c2, -, -, -⟩ := C.c3
  unfold TS.at
  have hcc : T.find (x / 16, z / 16) = T.find (chkOf x z) := rfl
  rw [hcc] at HF
  clear h hn h1 H C hx hz hcc
  rcases hway with ⟨e1, e2⟩ | ⟨n, i, e1, e2, e3, e4⟩
  · rw [e2]
    rw [e1] at HF
    clear e1 e2
    dsimp only
    go_enter Tryz.func67, Tryz.ntmps67
    go_upto_region 1 with (fail)
    rw [← hW]
    clear hW
    go_wp2_with first
      | (go_at_call 108; refine HC.out.mono ?_; rintro e_ w1 ⟨rfl, g1⟩; have G1 := Lib.hid g1; have HF2 := Lib.hid (HF.out w1 g1); clear g1)
      | (go_at_call 79; refine HF2.out.mono ?_; rintro e_ w2 ⟨rfl, g2⟩; have G2 := Lib.hid g2; clear g2)
    go_returns
    exact ⟨rfl, after (after HH.out G1.out) G2.out⟩
  · rw [e4]
    rw [e1] at HF
    dsimp only
    have hii : i.x = x / 16 ∧ i.z = z / 16 := posB_iff.1 e3
    by_cases hy : y < 0
    · have hv := Lib.hid (atI_neg (i := i) (x := x) (z := z) hy)
      rw [hv.out]
      clear e1 e2 e3 e4 hii
      have hn0 : (0 : Int) ≤ n := by omega
      go_enter Tryz.func67, Tryz.ntmps67
      go_upto_region 1 with (fail)
      rw [← hW]
      clear hW
      go_upto_region 4 with first
        | (go_at_call 108; refine HC.out.mono ?_; rintro e_ w1 ⟨rfl, g1⟩; have G1 := Lib.hid g1; have HF2 := Lib.hid (HF.out w1 g1); clear g1)
        | (go_at_call 79; refine HF2.out.mono ?_; rintro e_ w2 ⟨rfl, g2⟩; have G2 := Lib.hid (after G1.out g2); clear g2)
      clear c0 c1 c2
      obtain ⟨c0, c1, c2, -, -, -⟩ := (HCC.out.on G2.out).c3
      go_wp2_with fail
      go_returns
      exact ⟨rfl, after HH.out G2.out⟩
    · obtain ⟨pr, hpr⟩ : ∃ pr, L[n]? = some pr := by
        have hl := HT.out.l
        rw [← hl, List.getElem?_map] at e2
        cases hp : L[n]? with
        | none => rw [hp] at e2; cases e2
        | some pr => exact ⟨pr, rfl⟩
      have hpi : pr.2 = i := by
        have hl := HT.out.l
        rw [← hl, List.getElem?_map, hpr] at e2
        simpa using e2
      obtain ⟨Mi', hit, -⟩ := its_mem HT.out.its (List.mem_of_getElem? hpr)
      rw [hpi] at hit
      obtain ⟨c, Mc, hIB, hCh, -⟩ := hit
      obtain ⟨q, cap, hv, hc1, -, hrd, hq1, hq2⟩ := HT.out.row.form lenA
      have hnl : n < (L.map (·.1)).length := by rw [List.length_map]; exact (List.getElem?_eq_some_iff.1 hpr).1
      obtain ⟨g, rfl⟩ := hq2 (by omega)
      have r0 : W.cell? ⟨g, n, none⟩ = some (.pointer (some ⟨pr.1, 0, none⟩)) := by
        have := hrd.at (i := n) (x := pr.1) (by rw [List.getElem?_map, hpr]; rfl) (j := 0) rfl
        simpa using this
      have hB := HT.out.blk
      rw [hv] at hB
      have HCA := Lib.hid fun W2 (h2 : Below W.heap.size W W2) => chat_c c x y z (x / 16) (z / 16) i.cs W2 Mc (by rw [← hii.1, ← hii.2]; exact (chA_fit _ _ _ _).on hCh h2) HX.out.1 HX.out.2 rfl rfl
      generalize (L.map (·.1)).length = ln at *
      have HTB := Lib.hid hB
      have HIB := Lib.hid hIB
      have HR0 := Lib.hid r0
      have hn0 : (0 : Int) ≤ n := by omega
      have hn1 : (n : Int) < (ln : Int) := by omega
      have hy0 : 0 ≤ y := by omega
      clear e1 e2 e3 e4 hii hpr hpi hCh hv hc1 hrd hq1 hq2 hnl hB hIB HT r0
      have tac_true : inY y = true → Calls Tryz.prog 67 #[.pointer (some ⟨t, 0, none⟩), .agg #[.int .i64 x, .int .i64 y, .int .i64 z]] w fun r w' => r = .returned (.int .i64 (i.at x y z)) ∧ Below w.heap.size w w' := by
        intro hyc
        have hvv := Lib.hid (atI_yes (i := i) (x := x) (z := z) hy hyc)
        rw [hvv.out]
        first | rw [show atT i.cs x y z = _ from atT_yes hyc] at HCA | rw [show atT i.cs x y z = _ from atT_no hyc] at HCA
        clear hyc hvv hy
        generalize chB i.cs x y z = bb at *
        go_enter Tryz.func67, Tryz.ntmps67
        go_upto_region 1 with (fail)
        rw [← hW]
        clear hW
        go_upto_region 4 with first
          | (go_at_call 108; refine HC.out.mono ?_; rintro e_ w1 ⟨rfl, g1⟩; have G1 := Lib.hid g1; have HF2 := Lib.hid (HF.out w1 g1); clear g1)
          | (go_at_call 79; refine HF2.out.mono ?_; rintro e_ w2 ⟨rfl, g2⟩; have G2 := Lib.hid (after G1.out g2); clear g2)
        clear c0 c1 c2
        obtain ⟨c0, c1, c2, -, -, -⟩ := (HCC.out.on G2.out).c3
        go_upto_region 6 with (fail)
        clear c0 c1 c2
        obtain ⟨c0, c1, c2⟩ := (HCC.out.on G2.out).re3
        have b3 := fun d os => ((HTB.out.on G2.out).re d os).cell 3
        have i0 := fun d os => ((HIB.out.on G2.out).re d os).cell 0
        have r0 := fun d os => cell_regrown ((G2.out.cell (p := ⟨g, n, none⟩) (cell_lt HR0.out)).trans HR0.out) d os
        have HCB := Lib.hid fun d os => HCA.out (Go.Sort.grow (redrawn w2 d) os) (after G2.out (below_regrown _ _ _))
        refine wp_region_quiet_below (by kernel_rfl) (by kernel_rfl) ?_
        repeat (go_big_quiet_step (exact Calls.regrown_of (HCB.out _ _)))
        refine wpQuiet_nil ?_
        intro w' hw'
        obtain ⟨rg, rfl⟩ := hw'
        go_wp2_with fail
        go_returns
        exact ⟨rfl, after (after HH.out G2.out) (below_regrown _ _ _)⟩
      have tac_false : inY y = false → Calls Tryz.prog 67 #[.pointer (some ⟨t, 0, none⟩), .agg #[.int .i64 x, .int .i64 y, .int .i64 z]] w fun r w' => r = .returned (.int .i64 (i.at x y z)) ∧ Below w.heap.size w w' := by
        intro hyc
        have hvv := Lib.hid (atI_no (i := i) (x := x) (z := z) hy hyc)
        rw [hvv.out]
        first | rw [show atT i.cs x y z = _ from atT_yes hyc] at HCA | rw [show atT i.cs x y z = _ from atT_no hyc] at HCA
        clear hyc hvv hy
        generalize chB i.cs x y z = bb at *
        go_enter Tryz.func67, Tryz.ntmps67
        go_upto_region 1 with (fail)
        rw [← hW]
        clear hW
        go_upto_region 4 with first
          | (go_at_call 108; refine HC.out.mono ?_; rintro e_ w1 ⟨rfl, g1⟩; have G1 := Lib.hid g1; have HF2 := Lib.hid (HF.out w1 g1); clear g1)
          | (go_at_call 79; refine HF2.out.mono ?_; rintro e_ w2 ⟨rfl, g2⟩; have G2 := Lib.hid (after G1.out g2); clear g2)
        clear c0 c1 c2
        obtain ⟨c0, c1, c2, -, -, -⟩ := (HCC.out.on G2.out).c3
        go_upto_region 6 with (fail)
        clear c0 c1 c2
        obtain ⟨c0, c1, c2⟩ := (HCC.out.on G2.out).re3
        have b3 := fun d os => ((HTB.out.on G2.out).re d os).cell 3
        have i0 := fun d os => ((HIB.out.on G2.out).re d os).cell 0
        have r0 := fun d os => cell_regrown ((G2.out.cell (p := ⟨g, n, none⟩) (cell_lt HR0.out)).trans HR0.out) d os
        have HCB := Lib.hid fun d os => HCA.out (Go.Sort.grow (redrawn w2 d) os) (after G2.out (below_regrown _ _ _))
        refine wp_region_quiet_below (by kernel_rfl) (by kernel_rfl) ?_
        repeat (go_big_quiet_step (exact Calls.regrown_of (HCB.out _ _)))
        refine wpQuiet_nil ?_
        intro w' hw'
        obtain ⟨rg, rfl⟩ := hw'
        go_wp2_with fail
        go_returns
        exact ⟨rfl, after (after HH.out G2.out) (below_regrown _ _ _)⟩
      cases hyc : inY y
      · exact tac_false hyc
      · exact tac_true hyc
end Go.Proofs.YtmbccnioijokfaaGreatDoor

namespace Go.Proofs.YtmbccnioijokfaaGreatDoor
open Go.RowKit
attribute [local go_sem] Oper.semAt_some
def CutA (B0 g0 : Nat) (xs : List Nat) (v : Value) (w : World) : Prop := ∃ q c, v = .slice q xs.length c ∧ (Owns w B0 128 1 encA v xs ∨ (c = xs.length ∧ q = some ⟨g0, 0, none⟩ ∧ Rd w q 1 encA xs))
theorem CutA.on {B0 g0 : Nat} {xs : List Nat} {v : Value} {w w' : World} (h : CutA B0 g0 xs v w) (hb : Below w.heap.size w w') : CutA B0 g0 xs v w' := by
  obtain ⟨q, c, h1, h2⟩ := h
  exact ⟨q, c, h1, h2.imp (fun h => h.on hb) fun h => ⟨h.1, h.2.1, h.2.2.on hb⟩⟩
theorem infP : (Tryz.prog.info? 128).map (fun i => (i.zero, i.size, i.bytes)) = some (some (.pointer none), 1, 8) := by kernel_rfl
theorem run_cut {w : World} {g n c : Nat} {xs : List Nat} (hn : n < xs.length) (hx : Rd w (some ⟨g, 0, none⟩) 1 encA xs) (hc : xs.length ≤ c) (hm : xs.length ≤ 1000) :
    ∃ v' w', (Builtin.append_ #[133, 133] 133 #[.slice (some ⟨g, 0, none⟩) n n, .slice (if c - (n + 1) = 0 then some ⟨g, 0, none⟩ else some ⟨g, n + 1, none⟩) (xs.length - (n + 1)) (c - (n + 1))]).run Tryz.prog w = .ok v' w' ∧ CutA w.heap.size g (xs.eraseIdx n) v' w' ∧ Below w.heap.size w w' := by
  have e : xs.eraseIdx n = xs.take n ++ xs.drop (n + 1) := List.eraseIdx_eq_take_drop_succ xs n
  have l1 : (xs.take n).length = n := by rw [List.length_take]; omega
  have l2 : (xs.drop (n + 1)).length = xs.length - (n + 1) := List.length_drop
  have one : ∀ x : Nat, ∀ u ∈ encA x, u.oneCell' = true := fun x u hu => by simp at hu; rw [hu]; rfl
  by_cases hl : xs.length = n + 1
  · have hd : xs.drop (n + 1) = [] := List.drop_eq_nil_of_le (by omega)
    obtain ⟨i, hi, hz, hs, hby⟩ := info_parts infP
    have hsrc : ∀ q2 c2, Src Tryz.prog i.size 133 (.slice (some q2) 0 c2) 0 [] w := fun q2 c2 => Src.ofSlice w Tryz.underlying133 q2 0 c2 [] (by simp) (by simp) (by simp)
    rw [show xs.length - (n + 1) = 0 by omega]
    have hr : ∀ q2 : Addr, (Builtin.append_ #[133, 133] 133 #[.slice (some ⟨g, 0, none⟩) n n, .slice (some q2) 0 (c - (n + 1))]).run Tryz.prog w = .ok (.slice (some ⟨g, 0, none⟩) n n) w := fun q2 => run_append_nothing w 133 133 133 128 i Tryz.underlying133 hi (some ⟨g, 0, none⟩) n n (Nat.le_refl _) _ (hsrc q2 _)
    refine ⟨.slice (some ⟨g, 0, none⟩) n n, w, by split <;> exact hr _, ⟨some ⟨g, 0, none⟩, n, by rw [e, hd, List.append_nil, l1], .inr ⟨by rw [e, hd, List.append_nil, l1], rfl, ?_⟩⟩, Below.refl _ _⟩
    rw [e, hd, List.append_nil]
    exact hx.take n
  · rw [if_neg (by omega)]
    have hy : Rd w (some ⟨g, n + 1, none⟩) 1 encA (xs.drop (n + 1)) := by have := hx.drop (n + 1); rwa [Nat.zero_add, Nat.mul_one] at this
    obtain ⟨cap, w', h1, h2, h3⟩ := run_fresh (P := Tryz.prog) (w := w) (e := 128) (size := 1) (enc := encA) (xs := xs.take n) (ys := xs.drop (n + 1)) (q := some ⟨g, 0, none⟩) (q2 := some ⟨g, n + 1, none⟩) (c := n) (c2 := c - (n + 1)) (ts := 133) (ty := 133) (z := .pointer none) (bytes := 8) Tryz.underlying133 infP rfl (by decide) lenA (fun x _ => one x) (fun x _ => one x) (hx.take n) hy (by omega) (by omega)
    rw [l1, l2] at h1 h2
    rw [← e] at h2
    exact ⟨_, w', h1, ⟨_, cap, by rw [e, List.length_append, l1, l2], .inl h2⟩, h3⟩
end Go.Proofs.YtmbccnioijokfaaGreatDoor

