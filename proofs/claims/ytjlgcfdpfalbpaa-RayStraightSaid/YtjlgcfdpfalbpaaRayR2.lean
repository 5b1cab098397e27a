/- The document's neighbours of a cell: all six. -/
import Derived.Test.YtjlgcfdpfalbpaaRayR1
namespace Go.Proofs.Ytjlgcfdpfalbpaa
open Go.RowKit Go.Shelf
attribute [local go_sem] Oper.semAt_some

theorem far3_ {w : World} {g G t : Nat} {cs : Array Value} (h : Blk w g t cs) (hne : g ≠ G) {i j k : Nat} (u v x : Value) : Blk (((w.setCell ⟨G, i, none⟩ u).setCell ⟨G, j, none⟩ v).setCell ⟨G, k, none⟩ x) g t cs := ((h.far (p := ⟨G, i, none⟩) hne u).far (p := ⟨G, j, none⟩) hne v).far (p := ⟨G, k, none⟩) hne x
theorem bel3_ {w0 w : World} {n G : Nat} (h : Below n w0 w) (hn : n ≤ G) {i j k : Nat} (u v x : Value) : Below n w0 (((w.setCell ⟨G, i, none⟩ u).setCell ⟨G, j, none⟩ v).setCell ⟨G, k, none⟩ x) := ((h.setCell (p := ⟨G, i, none⟩) hn u).setCell (p := ⟨G, j, none⟩) hn v).setCell (p := ⟨G, k, none⟩) hn x
set_option maxRecDepth 100000 in
set_option maxHeartbeats 16000000 in
theorem rnear_c (x y z : Int) (w : World) : Calls Try.prog 19 #[.agg #[.int .i64 x, .int .i64 y, .int .i64 z]] w fun r w' => r = .returned (.agg (nearA x y z)) ∧ Below w.heap.size w w' := by
  obtain ⟨W, hW⟩ : ∃ W, W = ((w.alloc (.cells #[.int .i64 x, .int .i64 y, .int .i64 z] 29)).alloc (.cells #[.int .i64 0, .int .i64 0, .int .i64 0, .int .i64 0, .int .i64 0, .int .i64 0, .int .i64 0, .int .i64 0, .int .i64 0, .int .i64 0, .int .i64 0, .int .i64 0, .int .i64 0, .int .i64 0, .int .i64 0, .int .i64 0, .int .i64 0, .int .i64 0] 47)).alloc (.cells #[.int .i64 0, .int .i64 0, .int .i64 0, .int .i64 0, .int .i64 0, .int .i64 0, .int .i64 0, .int .i64 0, .int .i64 0, .int .i64 0, .int .i64 0, .int .i64 0, .int .i64 0, .int .i64 0, .int .i64 0, .int .i64 0, .int .i64 0, .int .i64 0] 47) := ⟨_, rfl⟩
  have H : Below w.heap.size w W := by rw [hW]; go_grown
  obtain ⟨N, hN⟩ : ∃ N, N = w.heap.size := ⟨_, rfl⟩
  have A : Blk W N 29 #[.int .i64 x, .int .i64 y, .int .i64 z] := Blk.eqw hW.symm (by rw [hN]; exact ((Blk.new' rfl).alloc _).alloc _)
  have R : Blk W (N + 1) 47 #[.int .i64 0, .int .i64 0, .int .i64 0, .int .i64 0, .int .i64 0, .int .i64 0, .int .i64 0, .int .i64 0, .int .i64 0, .int .i64 0, .int .i64 0, .int .i64 0, .int .i64 0, .int .i64 0, .int .i64 0, .int .i64 0, .int .i64 0, .int .i64 0] := Blk.eqw hW.symm (by rw [hN]; exact (Blk.new' (by simp)).alloc _)
  have L : Blk W (N + 1 + 1) 47 #[.int .i64 0, .int .i64 0, .int .i64 0, .int .i64 0, .int .i64 0, .int .i64 0, .int .i64 0, .int .i64 0, .int .i64 0, .int .i64 0, .int .i64 0, .int .i64 0, .int .i64 0, .int .i64 0, .int .i64 0, .int .i64 0, .int .i64 0, .int .i64 0] := Blk.eqw hW.symm (by rw [hN]; exact Blk.new' (by simp))
  have hs : W.heap.size = N + 3 := by rw [hW, hN]; simp
  obtain ⟨bx1, bx2⟩ := ccI_bd x
  obtain ⟨by1, by2⟩ := ccI_bd y
  obtain ⟨bz1, bz2⟩ := ccI_bd z
  have hct := Lib.hid fun a b c w => rccut_c a b c w
  go_enter Try.func19, Try.ntmps19
  go_upto_region 2 with (fail)
  rw [← hW, ← hN]
  have HN := Lib.hid hN
  have HS := Lib.hid (show N + 3 ≤ W.heap.size from Nat.le_of_eq hs.symm)
  clear hW hN hs
  have HK := Lib.hid H
  clear H
  go_upto_region 3 with (fail)
  go_loopw [4] (fun v wr => ((v = .int .i64 0 ∧ Blk wr (N + 1 + 1) 47 #[.int .i64 (0), .int .i64 (0), .int .i64 (0), .int .i64 (0), .int .i64 (0), .int .i64 (0), .int .i64 (0), .int .i64 (0), .int .i64 (0), .int .i64 (0), .int .i64 (0), .int .i64 (0), .int .i64 (0), .int .i64 (0), .int .i64 (0), .int .i64 (0), .int .i64 (0), .int .i64 (0)]) ∨ (v = .int .i64 1 ∧ Blk wr (N + 1 + 1) 47 #[.int .i64 (ccI (ccI x + -1)), .int .i64 (ccI (ccI y)), .int .i64 (ccI (ccI z)), .int .i64 (0), .int .i64 (0), .int .i64 (0), .int .i64 (0), .int .i64 (0), .int .i64 (0), .int .i64 (0), .int .i64 (0), .int .i64 (0), .int .i64 (0), .int .i64 (0), .int .i64 (0), .int .i64 (0), .int .i64 (0), .int .i64 (0)]) ∨ (v = .int .i64 2 ∧ Blk wr (N + 1 + 1) 47 #[.int .i64 (ccI (ccI x + -1)), .int .i64 (ccI (ccI y)), .int .i64 (ccI (ccI z)), .int .i64 (ccI (ccI x + 1)), .int .i64 (ccI (ccI y)), .int .i64 (ccI (ccI z)), .int .i64 (0), .int .i64 (0), .int .i64 (0), .int .i64 (0), .int .i64 (0), .int .i64 (0), .int .i64 (0), .int .i64 (0), .int .i64 (0), .int .i64 (0), .int .i64 (0), .int .i64 (0)]) ∨ (v = .int .i64 3 ∧ Blk wr (N + 1 + 1) 47 #[.int .i64 (ccI (ccI x + -1)), .int .i64 (ccI (ccI y)), .int .i64 (ccI (ccI z)), .int .i64 (ccI (ccI x + 1)), .int .i64 (ccI (ccI y)), .int .i64 (ccI (ccI z)), .int .i64 (ccI (ccI x)), .int .i64 (ccI (ccI y + -1)), .int .i64 (ccI (ccI z)), .int .i64 (0), .int .i64 (0), .int .i64 (0), .int .i64 (0), .int .i64 (0), .int .i64 (0), .int .i64 (0), .int .i64 (0), .int .i64 (0)]) ∨ (v = .int .i64 4 ∧ Blk wr (N + 1 + 1) 47 #[.int .i64 (ccI (ccI x + -1)), .int .i64 (ccI (ccI y)), .int .i64 (ccI (ccI z)), .int .i64 (ccI (ccI x + 1)), .int .i64 (ccI (ccI y)), .int .i64 (ccI (ccI z)), .int .i64 (ccI (ccI x)), .int .i64 (ccI (ccI y + -1)), .int .i64 (ccI (ccI z)), .int .i64 (ccI (ccI x)), .int .i64 (ccI (ccI y + 1)), .int .i64 (ccI (ccI z)), .int .i64 (0), .int .i64 (0), .int .i64 (0), .int .i64 (0), .int .i64 (0), .int .i64 (0)]) ∨ (v = .int .i64 5 ∧ Blk wr (N + 1 + 1) 47 #[.int .i64 (ccI (ccI x + -1)), .int .i64 (ccI (ccI y)), .int .i64 (ccI (ccI z)), .int .i64 (ccI (ccI x + 1)), .int .i64 (ccI (ccI y)), .int .i64 (ccI (ccI z)), .int .i64 (ccI (ccI x)), .int .i64 (ccI (ccI y + -1)), .int .i64 (ccI (ccI z)), .int .i64 (ccI (ccI x)), .int .i64 (ccI (ccI y + 1)), .int .i64 (ccI (ccI z)), .int .i64 (ccI (ccI x)), .int .i64 (ccI (ccI y)), .int .i64 (ccI (ccI z + -1)), .int .i64 (0), .int .i64 (0), .int .i64 (0)]) ∨ (v = .int .i64 6 ∧ Blk wr (N + 1 + 1) 47 #[.int .i64 (ccI (ccI x + -1)), .int .i64 (ccI (ccI y)), .int .i64 (ccI (ccI z)), .int .i64 (ccI (ccI x + 1)), .int .i64 (ccI (ccI y)), .int .i64 (ccI (ccI z)), .int .i64 (ccI (ccI x)), .int .i64 (ccI (ccI y + -1)), .int .i64 (ccI (ccI z)), .int .i64 (ccI (ccI x)), .int .i64 (ccI (ccI y + 1)), .int .i64 (ccI (ccI z)), .int .i64 (ccI (ccI x)), .int .i64 (ccI (ccI y)), .int .i64 (ccI (ccI z + -1)), .int .i64 (ccI (ccI x)), .int .i64 (ccI (ccI y)), .int .i64 (ccI (ccI z + 1))])) ∧ Blk wr N 29 #[.int .i64 x, .int .i64 y, .int .i64 z] ∧ Blk wr (N + 1) 47 #[.int .i64 0, .int .i64 0, .int .i64 0, .int .i64 0, .int .i64 0, .int .i64 0, .int .i64 0, .int .i64 0, .int .i64 0, .int .i64 0, .int .i64 0, .int .i64 0, .int .i64 0, .int .i64 0, .int .i64 0, .int .i64 0, .int .i64 0, .int .i64 0] ∧ Hid (Below w.heap.size w wr) ∧ Hid (N + 3 ≤ wr.heap.size)) (fun v _ => (6 - intOf v).toNat)
  case atStart => exact ⟨.inl ⟨rfl, L⟩, A, R, HK, HS⟩
  case round =>
    clear A R HK L HS
    obtain ⟨hrel, A, R, HK, HS⟩ := hrel
    rcases hrel with ⟨rfl, L⟩ | ⟨rfl, L⟩ | ⟨rfl, L⟩ | ⟨rfl, L⟩ | ⟨rfl, L⟩ | ⟨rfl, L⟩ | ⟨rfl, L⟩
    · obtain ⟨a0, a1, a2, -, -, -⟩ := A.c3
      go_upto_region 6 with (go_at_call 18; refine (hct.out _ _ _ _).mono ?_; rintro e_ w1 ⟨rfl, k1⟩)
      have hs1 := Nat.le_trans HS.out k1.size
      generalize hg : w1.heap.size = g at hs1 ⊢
      generalize hV : World.alloc w1 _ = w2
      have D : Blk w2 g 29 #[.int .i64 (ccI x), .int .i64 (ccI y), .int .i64 (ccI z)] := Blk.eqw hV (Blk.new' hg.symm)
      have k2 : Below wr.heap.size wr w2 := by rw [← hV]; exact k1.alloc k1.size _
      replace A := A.on k2
      replace R := R.on k2
      replace L := L.on k2
      have HK2 := Lib.hid (after HK.out k2)
      have HS2 := Lib.hid (show N + 3 ≤ w2.heap.size from Nat.le_trans HS.out k2.size)
      have HG := Lib.hid hs1
      clear hV hg k1 k2 HK HS a0 a1 a2 hs1
      obtain ⟨d0, d1, d2, f0, f1, f2⟩ := D.c3
      go_wp2_with fail
      refine (hct.out _ _ _ _).mono ?_
      rintro e_ w3 ⟨rfl, k3⟩
      replace D := (D.set_ 0 _).on k3
      have hg3 := HG.out
      have HK3 := Lib.hid (after' (HK2.out.setCell (p := ⟨g, 0, none⟩) (by have := HN.out; dsimp only; omega) _) (by have := HN.out; have := HS2.out; simp <;> omega) k3)
      have HS3 := Lib.hid (show N + 3 ≤ w3.heap.size from Nat.le_trans HS2.out (by simpa using k3.size))
      replace A := (A.far (p := ⟨g, 0, none⟩) (by dsimp only; omega) _).on k3
      replace R := (R.far (p := ⟨g, 0, none⟩) (by dsimp only; omega) _).on k3
      replace L := (L.far (p := ⟨g, 0, none⟩) (by dsimp only; omega) _).on k3
      clear k3
      have l0 : w3.cell? ⟨N + 1 + 1, 0, none⟩ = some (.int .i64 0) := L.cell 0
      have l1 : w3.cell? ⟨N + 1 + 1, 1, none⟩ = some (.int .i64 0) := L.cell 1
      have l2 : w3.cell? ⟨N + 1 + 1, 2, none⟩ = some (.int .i64 0) := L.cell 2
      have m0 := L.frz 0
      have m1 := L.frz 1
      have m2 := L.frz 2
      go_wp2_with fail
      have hne : N ≠ N + 1 + 1 := by omega
      have hne2 : N + 1 ≠ N + 1 + 1 := by omega
      go_roundw
      case rel => exact ⟨.inr (.inl ⟨rfl, ((L.set_ 0 _).set_ 1 _).set_ 2 _⟩), far3_ A hne _ _ _, far3_ R hne2 _ _ _, Lib.hid (bel3_ HK3.out (by have := HN.out; omega) _ _ _), Lib.hid (by have := HS3.out; simp; omega)⟩
      case measure => simp [intOf]
    · obtain ⟨a0, a1, a2, -, -, -⟩ := A.c3
      go_upto_region 6 with (go_at_call 18; refine (hct.out _ _ _ _).mono ?_; rintro e_ w1 ⟨rfl, k1⟩)
      have hs1 := Nat.le_trans HS.out k1.size
      generalize hg : w1.heap.size = g at hs1 ⊢
      generalize hV : World.alloc w1 _ = w2
      have D : Blk w2 g 29 #[.int .i64 (ccI x), .int .i64 (ccI y), .int .i64 (ccI z)] := Blk.eqw hV (Blk.new' hg.symm)
      have k2 : Below wr.heap.size wr w2 := by rw [← hV]; exact k1.alloc k1.size _
      replace A := A.on k2
      replace R := R.on k2
      replace L := L.on k2
      have HK2 := Lib.hid (after HK.out k2)
      have HS2 := Lib.hid (show N + 3 ≤ w2.heap.size from Nat.le_trans HS.out k2.size)
      have HG := Lib.hid hs1
      clear hV hg k1 k2 HK HS a0 a1 a2 hs1
      obtain ⟨d0, d1, d2, f0, f1, f2⟩ := D.c3
      go_wp2_with fail
      refine (hct.out _ _ _ _).mono ?_
      rintro e_ w3 ⟨rfl, k3⟩
      replace D := (D.set_ 0 _).on k3
      have hg3 := HG.out
      have HK3 := Lib.hid (after' (HK2.out.setCell (p := ⟨g, 0, none⟩) (by have := HN.out; dsimp only; omega) _) (by have := HN.out; have := HS2.out; simp <;> omega) k3)
      have HS3 := Lib.hid (show N + 3 ≤ w3.heap.size from Nat.le_trans HS2.out (by simpa using k3.size))
      replace A := (A.far (p := ⟨g, 0, none⟩) (by dsimp only; omega) _).on k3
      replace R := (R.far (p := ⟨g, 0, none⟩) (by dsimp only; omega) _).on k3
      replace L := (L.far (p := ⟨g, 0, none⟩) (by dsimp only; omega) _).on k3
      clear k3
      have l0 : w3.cell? ⟨N + 1 + 1, 3, none⟩ = some (.int .i64 0) := L.cell 3
      have l1 : w3.cell? ⟨N + 1 + 1, 4, none⟩ = some (.int .i64 0) := L.cell 4
      have l2 : w3.cell? ⟨N + 1 + 1, 5, none⟩ = some (.int .i64 0) := L.cell 5
      have m0 := L.frz 3
      have m1 := L.frz 4
      have m2 := L.frz 5
      go_wp2_with fail
      have hne : N ≠ N + 1 + 1 := by omega
      have hne2 : N + 1 ≠ N + 1 + 1 := by omega
      go_roundw
      case rel => exact ⟨.inr (.inr (.inl ⟨rfl, ((L.set_ 3 _).set_ 4 _).set_ 5 _⟩)), far3_ A hne _ _ _, far3_ R hne2 _ _ _, Lib.hid (bel3_ HK3.out (by have := HN.out; omega) _ _ _), Lib.hid (by have := HS3.out; simp; omega)⟩
      case measure => simp [intOf]
    · obtain ⟨a0, a1, a2, -, -, -⟩ := A.c3
      go_upto_region 6 with (go_at_call 18; refine (hct.out _ _ _ _).mono ?_; rintro e_ w1 ⟨rfl, k1⟩)
      have hs1 := Nat.le_trans HS.out k1.size
      generalize hg : w1.heap.size = g at hs1 ⊢
      generalize hV : World.alloc w1 _ = w2
      have D : Blk w2 g 29 #[.int .i64 (ccI x), .int .i64 (ccI y), .int .i64 (ccI z)] := Blk.eqw hV (Blk.new' hg.symm)
      have k2 : Below wr.heap.size wr w2 := by rw [← hV]; exact k1.alloc k1.size _
      replace A := A.on k2
      replace R := R.on k2
      replace L := L.on k2
      have HK2 := Lib.hid (after HK.out k2)
      have HS2 := Lib.hid (show N + 3 ≤ w2.heap.size from Nat.le_trans HS.out k2.size)
      have HG := Lib.hid hs1
      clear hV hg k1 k2 HK HS a0 a1 a2 hs1
      obtain ⟨d0, d1, d2, f0, f1, f2⟩ := D.c3
      go_wp2_with fail
      refine (hct.out _ _ _ _).mono ?_
      rintro e_ w3 ⟨rfl, k3⟩
      replace D := (D.set_ 1 _).on k3
      have hg3 := HG.out
      have HK3 := Lib.hid (after' (HK2.out.setCell (p := ⟨g, 1, none⟩) (by have := HN.out; dsimp only; omega) _) (by have := HN.out; have := HS2.out; simp <;> omega) k3)
      have HS3 := Lib.hid (show N + 3 ≤ w3.heap.size from Nat.le_trans HS2.out (by simpa using k3.size))
      replace A := (A.far (p := ⟨g, 1, none⟩) (by dsimp only; omega) _).on k3
      replace R := (R.far (p := ⟨g, 1, none⟩) (by dsimp only; omega) _).on k3
      replace L := (L.far (p := ⟨g, 1, none⟩) (by dsimp only; omega) _).on k3
      clear k3
      have l0 : w3.cell? ⟨N + 1 + 1, 6, none⟩ = some (.int .i64 0) := L.cell 6
      have l1 : w3.cell? ⟨N + 1 + 1, 7, none⟩ = some (.int .i64 0) := L.cell 7
      have l2 : w3.cell? ⟨N + 1 + 1, 8, none⟩ = some (.int .i64 0) := L.cell 8
      have m0 := L.frz 6
      have m1 := L.frz 7
      have m2 := L.frz 8
      go_wp2_with fail
      have hne : N ≠ N + 1 + 1 := by omega
      have hne2 : N + 1 ≠ N + 1 + 1 := by omega
      go_roundw
      case rel => exact ⟨.inr (.inr (.inr (.inl ⟨rfl, ((L.set_ 6 _).set_ 7 _).set_ 8 _⟩))), far3_ A hne _ _ _, far3_ R hne2 _ _ _, Lib.hid (bel3_ HK3.out (by have := HN.out; omega) _ _ _), Lib.hid (by have := HS3.out; simp; omega)⟩
      case measure => simp [intOf]
    · obtain ⟨a0, a1, a2, -, -, -⟩ := A.c3
      go_upto_region 6 with (go_at_call 18; refine (hct.out _ _ _ _).mono ?_; rintro e_ w1 ⟨rfl, k1⟩)
      have hs1 := Nat.le_trans HS.out k1.size
      generalize hg : w1.heap.size = g at hs1 ⊢
      generalize hV : World.alloc w1 _ = w2
      have D : Blk w2 g 29 #[.int .i64 (ccI x), .int .i64 (ccI y), .int .i64 (ccI z)] := Blk.eqw hV (Blk.new' hg.symm)
      have k2 : Below wr.heap.size wr w2 := by rw [← hV]; exact k1.alloc k1.size _
      replace A := A.on k2
      replace R := R.on k2
      replace L := L.on k2
      have HK2 := Lib.hid (after HK.out k2)
      have HS2 := Lib.hid (show N + 3 ≤ w2.heap.size from Nat.le_trans HS.out k2.size)
      have HG := Lib.hid hs1
      clear hV hg k1 k2 HK HS a0 a1 a2 hs1
      obtain ⟨d0, d1, d2, f0, f1, f2⟩ := D.c3
      go_wp2_with fail
      refine (hct.out _ _ _ _).mono ?_
      rintro e_ w3 ⟨rfl, k3⟩
      replace D := (D.set_ 1 _).on k3
      have hg3 := HG.out
      have HK3 := Lib.hid (after' (HK2.out.setCell (p := ⟨g, 1, none⟩) (by have := HN.out; dsimp only; omega) _) (by have := HN.out; have := HS2.out; simp <;> omega) k3)
      have HS3 := Lib.hid (show N + 3 ≤ w3.heap.size from Nat.le_trans HS2.out (by simpa using k3.size))
      replace A := (A.far (p := ⟨g, 1, none⟩) (by dsimp only; omega) _).on k3
      replace R := (R.far (p := ⟨g, 1, none⟩) (by dsimp only; omega) _).on k3
      replace L := (L.far (p := ⟨g, 1, none⟩) (by dsimp only; omega) _).on k3
      clear k3
      have l0 : w3.cell? ⟨N + 1 + 1, 9, none⟩ = some (.int .i64 0) := L.cell 9
      have l1 : w3.cell? ⟨N + 1 + 1, 10, none⟩ = some (.int .i64 0) := L.cell 10
      have l2 : w3.cell? ⟨N + 1 + 1, 11, none⟩ = some (.int .i64 0) := L.cell 11
      have m0 := L.frz 9
      have m1 := L.frz 10
      have m2 := L.frz 11
      go_wp2_with fail
      have hne : N ≠ N + 1 + 1 := by omega
      have hne2 : N + 1 ≠ N + 1 + 1 := by omega
      go_roundw
      case rel => exact ⟨.inr (.inr (.inr (.inr (.inl ⟨rfl, ((L.set_ 9 _).set_ 10 _).set_ 11 _⟩)))), far3_ A hne _ _ _, far3_ R hne2 _ _ _, Lib.hid (bel3_ HK3.out (by have := HN.out; omega) _ _ _), Lib.hid (by have := HS3.out; simp; omega)⟩
      case measure => simp [intOf]
    · obtain ⟨a0, a1, a2, -, -, -⟩ := A.c3
      go_upto_region 6 with (go_at_call 18; refine (hct.out _ _ _ _).mono ?_; rintro e_ w1 ⟨rfl, k1⟩)
      have hs1 := Nat.le_trans HS.out k1.size
      generalize hg : w1.heap.size = g at hs1 ⊢
      generalize hV : World.alloc w1 _ = w2
      have D : Blk w2 g 29 #[.int .i64 (ccI x), .int .i64 (ccI y), .int .i64 (ccI z)] := Blk.eqw hV (Blk.new' hg.symm)
      have k2 : Below wr.heap.size wr w2 := by rw [← hV]; exact k1.alloc k1.size _
      replace A := A.on k2
      replace R := R.on k2
      replace L := L.on k2
      have HK2 := Lib.hid (after HK.out k2)
      have HS2 := Lib.hid (show N + 3 ≤ w2.heap.size from Nat.le_trans HS.out k2.size)
      have HG := Lib.hid hs1
      clear hV hg k1 k2 HK HS a0 a1 a2 hs1
      obtain ⟨d0, d1, d2, f0, f1, f2⟩ := D.c3
      go_wp2_with fail
      refine (hct.out _ _ _ _).mono ?_
      rintro e_ w3 ⟨rfl, k3⟩
      replace D := (D.set_ 2 _).on k3
      have hg3 := HG.out
      have HK3 := Lib.hid (after' (HK2.out.setCell (p := ⟨g, 2, none⟩) (by have := HN.out; dsimp only; omega) _) (by have := HN.out; have := HS2.out; simp <;> omega) k3)
      have HS3 := Lib.hid (show N + 3 ≤ w3.heap.size from Nat.le_trans HS2.out (by simpa using k3.size))
      replace A := (A.far (p := ⟨g, 2, none⟩) (by dsimp only; omega) _).on k3
      replace R := (R.far (p := ⟨g, 2, none⟩) (by dsimp only; omega) _).on k3
      replace L := (L.far (p := ⟨g, 2, none⟩) (by dsimp only; omega) _).on k3
      clear k3
      have l0 : w3.cell? ⟨N + 1 + 1, 12, none⟩ = some (.int .i64 0) := L.cell 12
      have l1 : w3.cell? ⟨N + 1 + 1, 13, none⟩ = some (.int .i64 0) := L.cell 13
      have l2 : w3.cell? ⟨N + 1 + 1, 14, none⟩ = some (.int .i64 0) := L.cell 14
      have m0 := L.frz 12
      have m1 := L.frz 13
      have m2 := L.frz 14
      go_wp2_with fail
      have hne : N ≠ N + 1 + 1 := by omega
      have hne2 : N + 1 ≠ N + 1 + 1 := by omega
      go_roundw
      case rel => exact ⟨.inr (.inr (.inr (.inr (.inr (.inl ⟨rfl, ((L.set_ 12 _).set_ 13 _).set_ 14 _⟩))))), far3_ A hne _ _ _, far3_ R hne2 _ _ _, Lib.hid (bel3_ HK3.out (by have := HN.out; omega) _ _ _), Lib.hid (by have := HS3.out; simp; omega)⟩
      case measure => simp [intOf]
    · obtain ⟨a0, a1, a2, -, -, -⟩ := A.c3
      go_upto_region 6 with (go_at_call 18; refine (hct.out _ _ _ _).mono ?_; rintro e_ w1 ⟨rfl, k1⟩)
      have hs1 := Nat.le_trans HS.out k1.size
      generalize hg : w1.heap.size = g at hs1 ⊢
      generalize hV : World.alloc w1 _ = w2
      have D : Blk w2 g 29 #[.int .i64 (ccI x), .int .i64 (ccI y), .int .i64 (ccI z)] := Blk.eqw hV (Blk.new' hg.symm)
      have k2 : Below wr.heap.size wr w2 := by rw [← hV]; exact k1.alloc k1.size _
      replace A := A.on k2
      replace R := R.on k2
      replace L := L.on k2
      have HK2 := Lib.hid (after HK.out k2)
      have HS2 := Lib.hid (show N + 3 ≤ w2.heap.size from Nat.le_trans HS.out k2.size)
      have HG := Lib.hid hs1
      clear hV hg k1 k2 HK HS a0 a1 a2 hs1
      obtain ⟨d0, d1, d2, f0, f1, f2⟩ := D.c3
      go_wp2_with fail
      refine (hct.out _ _ _ _).mono ?_
      rintro e_ w3 ⟨rfl, k3⟩
      replace D := (D.set_ 2 _).on k3
      have hg3 := HG.out
      have HK3 := Lib.hid (after' (HK2.out.setCell (p := ⟨g, 2, none⟩) (by have := HN.out; dsimp only; omega) _) (by have := HN.out; have := HS2.out; simp <;> omega) k3)
      have HS3 := Lib.hid (show N + 3 ≤ w3.heap.size from Nat.le_trans HS2.out (by simpa using k3.size))
      replace A := (A.far (p := ⟨g, 2, none⟩) (by dsimp only; omega) _).on k3
      replace R := (R.far (p := ⟨g, 2, none⟩) (by dsimp only; omega) _).on k3
      replace L := (L.far (p := ⟨g, 2, none⟩) (by dsimp only; omega) _).on k3
      clear k3
      have l0 : w3.cell? ⟨N + 1 + 1, 15, none⟩ = some (.int .i64 0) := L.cell 15
      have l1 : w3.cell? ⟨N + 1 + 1, 16, none⟩ = some (.int .i64 0) := L.cell 16
      have l2 : w3.cell? ⟨N + 1 + 1, 17, none⟩ = some (.int .i64 0) := L.cell 17
      have m0 := L.frz 15
      have m1 := L.frz 16
      have m2 := L.frz 17
      go_wp2_with fail
      have hne : N ≠ N + 1 + 1 := by omega
      have hne2 : N + 1 ≠ N + 1 + 1 := by omega
      go_roundw
      case rel => exact ⟨.inr (.inr (.inr (.inr (.inr (.inr (⟨rfl, ((L.set_ 15 _).set_ 16 _).set_ 17 _⟩)))))), far3_ A hne _ _ _, far3_ R hne2 _ _ _, Lib.hid (bel3_ HK3.out (by have := HN.out; omega) _ _ _), Lib.hid (by have := HS3.out; simp; omega)⟩
      case measure => simp [intOf]
    · have HO := Lib.hid (show (nearA x y z).all (·.oneCell') = true by simp [Value.oneCell'])
      have HK2 := HK.out
      go_upto_region 14 with (fail)
      refine wp_region_lit ?_
      refine wpList_load_row rfl 47 _ rfl (N + 1 + 1) rfl 47 (nearA x y z) (0, 0) _ L Try.underlying47 rfl (by kernel_rfl) ?_
      refine wpList_store_rowTo rfl 47 _ _ rfl rfl (N + 1) (nearA x y z) rfl rfl 47 _ R (by kernel_rfl) rfl HO.out ?_
      go_wp2_with fail
      have X := R.row (nearA x y z)
      refine bodyPost_ret (v := .agg (nearA x y z)) (results_cell_row rfl _ _ (N + 1) 47 (nearA x y z) (0, 0) _ rfl X Try.underlying47 rfl (by kernel_rfl)) rfl ⟨rfl, ?_⟩
      have h2 := HN.out
      exact below_row HK2 (by omega) _
end Go.Proofs.Ytjlgcfdpfalbpaa
