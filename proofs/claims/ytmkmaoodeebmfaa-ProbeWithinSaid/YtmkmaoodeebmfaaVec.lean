/- The walks of the layer 2 (vec): ways. -/
import Derived.Test.YtmkmaoodeebmfaaFix2
namespace Go.Proofs.Ytmkmaoodeebmfaa
open Go.RowKit

set_option maxRecDepth 100000 in
set_option maxHeartbeats 400000 in
theorem parts_c (b : Nat) (w : World) : Calls Try.prog 77 #[.pointer (some ⟨b, 0, none⟩)] w fun e w' => e = .returned (.agg #[.pointer (some ⟨b, 0, none⟩), .pointer (some ⟨b, 1, none⟩), .pointer (some ⟨b, 2, none⟩)]) ∧ Below w.heap.size w w' := by
  go_enter Try.func77, Try.ntmps77
  go_wp2
  go_region
  all_goals go_wp2
  all_goals go_returns
  all_goals exact ⟨rfl, by go_grown⟩
theorem idx0 (a b c : Option Addr) (w : World) : (Instr.index 89 (.agg #[.pointer a, .pointer b, .pointer c]) (.int .i64 0)).run Try.prog w = .ok (.pointer a) w := by kernel_rfl
theorem idx1 (a b c : Option Addr) (w : World) : (Instr.index 89 (.agg #[.pointer a, .pointer b, .pointer c]) (.int .i64 1)).run Try.prog w = .ok (.pointer b) w := by kernel_rfl
theorem idx2 (a b c : Option Addr) (w : World) : (Instr.index 89 (.agg #[.pointer a, .pointer b, .pointer c]) (.int .i64 2)).run Try.prog w = .ok (.pointer c) w := by kernel_rfl
theorem axI_0 (x y z : Int) : axI x y z 0 = x := rfl
theorem axI_1 (x y z : Int) : axI x y z 1 = y := rfl
theorem axI_2 (x y z : Int) : axI x y z 2 = z := rfl
theorem axI_no {x y z a : Int} (h : a < 0 ∨ 2 < a) : axI x y z a = 0 := by unfold axI; rw [if_neg (by omega), if_neg (by omega), if_neg (by omega)]
set_option maxRecDepth 100000 in
set_option maxHeartbeats 1000000 in
theorem axis_c (x y z a : Int) (w : World) : Calls Try.prog 69 #[.agg #[.int .i64 x, .int .i64 y, .int .i64 z], .int .i64 a] w fun e w' => e = .returned (.int .i64 (axI x y z a)) ∧ Below w.heap.size w w' := by
  by_cases h : a < 0
  · go_enter Try.func69, Try.ntmps69
    go_wp2_with fail
    go_returns
    exact ⟨ret_i (axI_no (.inl (by omega))).symm, by go_grown⟩
  by_cases h2 : 2 < a
  · go_enter Try.func69, Try.ntmps69
    go_wp2_with fail
    go_returns
    exact ⟨ret_i (axI_no (.inr (by omega))).symm, by go_grown⟩
  have h0 : a = 0 ∨ a = 1 ∨ a = 2 := by omega
  clear h h2
  have i0 := idx0
  have i1 := idx1
  have i2 := idx2
  rcases h0 with rfl | rfl | rfl
  all_goals
    go_enter Try.func69, Try.ntmps69
    go_wp2_with fail
    refine (parts_c _ _).mono ?_; rintro e w1 ⟨rfl, hb⟩; obtain ⟨hc, hf⟩ := bcell hb
    go_wp2_with fail
    go_returns
    exact ⟨ret_i rfl, by (repeat' (first | (with_reducible exact Below.refl _ _) | (with_reducible assumption) | (with_reducible refine Below.alloc ?_ ?_ _) | (with_reducible refine Below.drew ?_) | (with_reducible refine Below.setCell ?_ ?_ _) | (with_reducible refine after ?_ (below_regrown _ _ _)) | (refine after ?_ (by with_reducible assumption)) | go_size))⟩
theorem axis_e (x y z a v : Int) (h : axI x y z a = v) (w : World) : Calls Try.prog 69 #[.agg #[.int .i64 x, .int .i64 y, .int .i64 z], .int .i64 a] w fun e w' => e = .returned (.int .i64 v) ∧ Below w.heap.size w w' := by
  rw [← h]; exact axis_c x y z a w
set_option maxRecDepth 100000 in
set_option maxHeartbeats 2000000 in
theorem each_c (g : FuncId) (caps : Array Value) (f : Int → Int → Int) (x y z : Int) (w : World) (he : ∀ args w, (callFunc g args).run Try.prog w = .ok (.enter g args) w)
    (hC : ∀ (i n : Int) W, Below w.heap.size w W → Calls Try.prog g (#[.int .i64 i, .int .i64 n] ++ caps) W fun e W' => e = .returned (.int .i64 (f i n)) ∧ Below W.heap.size W W') :
    Calls Try.prog 63 #[.agg #[.int .i64 x, .int .i64 y, .int .i64 z], .func (.func g) #[] caps] w fun e w' => e = .returned (.agg #[.int .i64 (f 0 x), .int .i64 (f 1 y), .int .i64 (f 2 z)]) ∧ Below w.heap.size w w' := by
  have i0 := idx0
  have i1 := idx1
  have i2 := idx2
  have HC := Lib.hid hC
  clear hC
  go_enter Try.func63, Try.ntmps63
  go_wp2_with fail
  have B0 : Blk ((w.alloc (.cells #[.int .i64 x, .int .i64 y, .int .i64 z] 26)).alloc (.cells #[.int .i64 0, .int .i64 0, .int .i64 0] 26)) w.heap.size 26 #[.int .i64 x, .int .i64 y, .int .i64 z] := (Blk.new' rfl).alloc _
  have C0 : Blk ((w.alloc (.cells #[.int .i64 x, .int .i64 y, .int .i64 z] 26)).alloc (.cells #[.int .i64 0, .int .i64 0, .int .i64 0] 26)) (w.heap.size + 1) 26 #[.int .i64 0, .int .i64 0, .int .i64 0] := Blk.new' (by simp)
  have H0 : Below w.heap.size w ((w.alloc (.cells #[.int .i64 x, .int .i64 y, .int .i64 z] 26)).alloc (.cells #[.int .i64 0, .int .i64 0, .int .i64 0] 26)) := by go_grown
  refine (parts_c _ _).mono ?_; rintro e w1 ⟨rfl, hb⟩
  have B1 := B0.on hb
  have C1 := C0.on hb
  have H1 := after H0 hb
  clear hb B0 C0 H0
  obtain ⟨b0, b1, b2, b3, b4, b5⟩ := B1.c3
  go_wp2_with fail
  refine wp_loop_rounds 4 ?_
  rw [rounds_succ]
  go_wp2_with fail
  refine (HC.out 0 x _ H1).mono ?_; rintro e w2 ⟨rfl, hb⟩
  have B2 := B1.on hb
  have C2 := C1.on hb
  have H2 := after H1 hb
  clear hb b0 b1 b2 b3 b4 b5 B1 C1 H1
  obtain ⟨b0, b1, b2, b3, b4, b5⟩ := B2.c3
  have B3 := B2.set_ 0 (.int .i64 (f 0 x))
  have C3 := C2.far (p := ⟨w.heap.size, 0, none⟩) (by simp) (.int .i64 (f 0 x))
  have H3 := H2.setCell (p := ⟨w.heap.size, 0, none⟩) (Nat.le_refl _) (.int .i64 (f 0 x))
  go_wp2_with fail
  rw [rounds_succ]
  clear b0 b1 b2 b3 b4 b5
  obtain ⟨b0, b1, b2, b3, b4, b5⟩ := B3.c3
  go_wp2_with fail
  refine (HC.out 1 y _ H3).mono ?_; rintro e w4 ⟨rfl, hb⟩
  have B4 := B3.on hb
  have C4 := C3.on hb
  have H4 := after H3 hb
  clear hb b0 b1 b2 b3 b4 b5 B3 C3 H3 B2 C2 H2
  obtain ⟨b0, b1, b2, b3, b4, b5⟩ := B4.c3
  have B5 := B4.set_ 1 (.int .i64 (f 1 y))
  have C5 := C4.far (p := ⟨w.heap.size, 1, none⟩) (by simp) (.int .i64 (f 1 y))
  have H5 := H4.setCell (p := ⟨w.heap.size, 1, none⟩) (Nat.le_refl _) (.int .i64 (f 1 y))
  go_wp2_with fail
  rw [rounds_succ]
  clear b0 b1 b2 b3 b4 b5
  obtain ⟨b0, b1, b2, b3, b4, b5⟩ := B5.c3
  go_wp2_with fail
  refine (HC.out 2 z _ H5).mono ?_; rintro e w6 ⟨rfl, hb⟩
  have B6 := B5.on hb
  have C6 := C5.on hb
  have H6 := after H5 hb
  clear hb b0 b1 b2 b3 b4 b5 B5 C5 H5 B4 C4 H4
  obtain ⟨b0, b1, b2, b3, b4, b5⟩ := B6.c3
  obtain ⟨c0, c1, c2, c3, c4, c5⟩ := C6.c3
  have B7 := B6.set_ 2 (.int .i64 (f 2 z))
  have C7 := C6.far (p := ⟨w.heap.size, 2, none⟩) (by simp) (.int .i64 (f 2 z))
  have H7 := H6.setCell (p := ⟨w.heap.size, 2, none⟩) (Nat.le_refl _) (.int .i64 (f 2 z))
  go_wp2_with fail
  rw [rounds_succ]
  clear b0 b1 b2 b3 b4 b5 c0 c1 c2 c3 c4 c5
  obtain ⟨b0, b1, b2, b3, b4, b5⟩ := B7.c3
  obtain ⟨c0, c1, c2, c3, c4, c5⟩ := C7.c3
  have C8 := ((C7.set_ 0 (.int .i64 (f 0 x))).set_ 1 (.int .i64 (f 1 y))).set_ 2 (.int .i64 (f 2 z))
  go_wp2_with fail
  obtain ⟨d0, d1, d2, -, -, -⟩ := C8.c3
  exact bodyPost_ret (v := .agg #[.int .i64 (f 0 x), .int .i64 (f 1 y), .int .i64 (f 2 z)]) (by simp [results, Try.results63, go_sem, d0, d1, d2]) rfl ⟨rfl, by (repeat' (first | (with_reducible exact Below.refl _ _) | (with_reducible assumption) | (with_reducible refine Below.alloc ?_ ?_ _) | (with_reducible refine Below.drew ?_) | (with_reducible refine Below.setCell ?_ ?_ _) | (with_reducible refine after ?_ (below_regrown _ _ _)) | (refine after ?_ (by with_reducible assumption)) | go_size))⟩
end Go.Proofs.Ytmkmaoodeebmfaa
