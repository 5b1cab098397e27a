/- RayBeside holds: the cell by whose side a ray came is the neighbour of that face: any cell, any face. -/
import Derived.Test.YtjlgcfdpfalbpaaRayLv
import Derived.Test.YtjlgcfdpfalbpaaRayR2
import Derived.Test.YtjlgcfdpfalbpaaSelfs
namespace Go.Proofs.Ytjlgcfdpfalbpaa
open Go.ChangeShapes Go.WideShapes Go.ChangeAt Go.RowKit
attribute [local go_sem] Oper.semAt_some

set_option maxRecDepth 100000 in
set_option maxHeartbeats 16000000 in
theorem rayBeside_c (x y z : Int) (_ : In64 x) (_ : In64 y) (_ : In64 z) (face : Int) (_ : In64 face) (w : World) :
    Calls Try.prog 4 #[.agg #[.int .i64 x, .int .i64 y, .int .i64 z], .int .i64 face] w fun e w' => e = .returned (.bool true) ∧ Below w.heap.size w w' := by
  have hcu := Lib.hid fun w => rccut_c x y z w
  have X : Blk (w.alloc (.cells #[.int .i64 x, .int .i64 y, .int .i64 z] 29)) w.heap.size 29 #[.int .i64 x, .int .i64 y, .int .i64 z] := Blk.new' rfl
  have H : Below w.heap.size w (w.alloc (.cells #[.int .i64 x, .int .i64 y, .int .i64 z] 29)) := by go_grown
  go_enter Try.func4, Try.ntmps4
  go_upto_region 1 with (fail)
  generalize hV : World.alloc w _ = w1
  rw [hV] at X H
  generalize hN : w.heap.size = N at X ⊢
  have HN := Lib.hid hN
  clear hV hN
  obtain ⟨x0, x1, x2, -, -, -⟩ := X.c3
  go_upto_region 2 with (go_at_call 18; refine (hcu.out _).mono ?_; rintro e_ w2 ⟨rfl, k2⟩)
  clear x0 x1 x2 hcu X
  generalize ccI x = cx
  generalize ccI y = cy
  generalize ccI z = cz
  generalize hV : World.alloc w2 _ = w3
  have D : Blk w3 w2.heap.size 29 #[.int .i64 cx, .int .i64 cy, .int .i64 cz] := Blk.eqw hV (Blk.new' rfl)
  have k3 : Below w1.heap.size w1 w3 := by rw [← hV]; exact k2.alloc k2.size _
  have HD := Lib.hid D.lt
  generalize w2.heap.size = gd at D HD ⊢
  replace H := after H k3
  clear hV k2 k3
  have hne := Lib.hid fun w => rnear_c cx cy cz w
  obtain ⟨d0, d1, d2, -, -, -⟩ := D.c3
  go_upto_region 3 with (go_at_call 19; refine (hne.out _).mono ?_; rintro e_ w4 ⟨rfl, k4⟩)
  clear d0 d1 d2 hne
  generalize hV : World.alloc w4 _ = w5
  have L : Blk w5 w4.heap.size 47 (nearA cx cy cz) := Blk.eqw hV (Blk.new' rfl)
  have k5 : Below w3.heap.size w3 w5 := by rw [← hV]; exact k4.alloc k4.size _
  have HL := Lib.hid L.lt
  generalize w4.heap.size = gl at L HL ⊢
  replace D := D.on k5
  have HK := Lib.hid (after H k5)
  clear hV k4 k5 H HD HL
  have hbs := Lib.hid fun f w => beside_c cx cy cz 0 f 0 w
  go_upto_region 4 with (fail)
  go_loopw [7] (fun v wr => ∃ k : Int, -1 ≤ k ∧ k ≤ 8 ∧ v = .int .i64 k ∧ Blk wr gd 29 #[.int .i64 cx, .int .i64 cy, .int .i64 cz] ∧ Blk wr gl 47 (nearA cx cy cz) ∧ Hid (Below w.heap.size w wr)) (fun v _ => (8 - intOf v).toNat)
  case atStart => exact ⟨-1, by omega, by omega, rfl, D, L, HK⟩
  case round =>
    clear D L HK
    obtain ⟨k, hk1, hk2, rfl, D, L, HK⟩ := hrel
    by_cases hlt : k < 8
    · have hk9 : k + 1 ≤ 9223372036854775807 := by omega
      have hk8 : -9223372036854775808 ≤ k + 1 := by omega
      obtain ⟨d0, d1, d2, -, -, -⟩ := D.c3
      by_cases h7 : k = 7
      · subst h7
        go_upto_region 9 with (fail)
        rcases (show face < 0 ∨ 6 ≤ face ∨ face = 0 ∨ face = 1 ∨ face = 2 ∨ face = 3 ∨ face = 4 ∨ face = 5 by omega) with hf | hf | hf | hf | hf | hf | hf | hf
        · have hv : besV cx cy cz face = .tuple #[.agg #[.int .i64 0, .int .i64 0, .int .i64 0], .bool false] := if_neg (by omega)
          have hq := Lib.hid fun w => (show Calls Try.prog 14 #[.agg #[.int .i64 cx, .int .i64 cy, .int .i64 cz, .int .i64 0, .int .i64 face, .int .i64 0]] w fun r w' => r = .returned (.tuple #[.agg #[.int .i64 0, .int .i64 0, .int .i64 0], .bool false]) ∧ Below w.heap.size w w' from by rw [← hv]; exact hbs.out _ w)
          have se := cell_ne_self 0 0 0
          clear hv
          have hg : decide ((0 : Int) ≤ face) = false := by simpa using hf
          have hg2 : ¬ (0 : Int) ≤ face := by omega
          go_upto_region 10 with (go_at_call 14; refine (hq.out _).mono ?_; rintro e_ w6 ⟨rfl, k6⟩)
          generalize hV : World.alloc w6 _ = w7
          have E : Blk w7 w6.heap.size 29 #[.int .i64 (0), .int .i64 (0), .int .i64 (0)] := Blk.eqw hV (Blk.new' rfl)
          have k7 : Below wr.heap.size wr w7 := by rw [← hV]; exact k6.alloc k6.size _
          clear d0 d1 d2 hV k6 hq
          generalize w6.heap.size = ge at E ⊢
          replace D := D.on k7
          replace L := L.on k7
          replace HK := Lib.hid (after HK.out k7)
          clear k7
          go_upto_region 11 with (fail)
          generalize hV : World.alloc w7 _ = w8
          have G : Blk w8 w7.heap.size 29 #[.int .i64 0, .int .i64 0, .int .i64 0] := Blk.eqw hV (Blk.new' rfl)
          have k8 : Below w7.heap.size w7 w8 := by rw [← hV]; exact (Below.refl _ _).alloc (Nat.le_refl _) _
          have hlg : gl < w7.heap.size := L.lt
          have hdg : gd < w7.heap.size := D.lt
          have heg : ge < w7.heap.size := E.lt
          have hwg := HK.out.size
          clear hV
          generalize w7.heap.size = gg at G k8 hlg hdg heg hwg ⊢
          replace D := D.below k8 hdg
          replace L := L.below k8 hlg
          replace E := E.below k8 heg
          replace HK := Lib.hid (HK.out.trans (k8.mono hwg))
          clear k8
          obtain ⟨e0, e1, e2, -, -, -⟩ := E.c3
          obtain ⟨g0, g1, g2, s0, s1, s2⟩ := G.c3
          go_wp2_with fail
          go_roundw
          case rel => exact ⟨8, by omega, by omega, rfl, D, L, HK⟩
          case measure => simp [intOf]
        · have hv : besV cx cy cz face = .tuple #[.agg #[.int .i64 0, .int .i64 0, .int .i64 0], .bool false] := if_neg (by omega)
          have hq := Lib.hid fun w => (show Calls Try.prog 14 #[.agg #[.int .i64 cx, .int .i64 cy, .int .i64 cz, .int .i64 0, .int .i64 face, .int .i64 0]] w fun r w' => r = .returned (.tuple #[.agg #[.int .i64 0, .int .i64 0, .int .i64 0], .bool false]) ∧ Below w.heap.size w w' from by rw [← hv]; exact hbs.out _ w)
          have se := cell_ne_self 0 0 0
          clear hv
          have hg : decide ((0 : Int) ≤ face) = true := by simp; omega
          have hg2 : (0 : Int) ≤ face := by omega
          have hg3 : decide (face < 6) = false := by simpa using hf
          have hg4 : ¬ face < 6 := by omega
          go_upto_region 10 with (go_at_call 14; refine (hq.out _).mono ?_; rintro e_ w6 ⟨rfl, k6⟩)
          generalize hV : World.alloc w6 _ = w7
          have E : Blk w7 w6.heap.size 29 #[.int .i64 (0), .int .i64 (0), .int .i64 (0)] := Blk.eqw hV (Blk.new' rfl)
          have k7 : Below wr.heap.size wr w7 := by rw [← hV]; exact k6.alloc k6.size _
          clear d0 d1 d2 hV k6 hq
          generalize w6.heap.size = ge at E ⊢
          replace D := D.on k7
          replace L := L.on k7
          replace HK := Lib.hid (after HK.out k7)
          clear k7
          go_upto_region 11 with (fail)
          generalize hV : World.alloc w7 _ = w8
          have G : Blk w8 w7.heap.size 29 #[.int .i64 0, .int .i64 0, .int .i64 0] := Blk.eqw hV (Blk.new' rfl)
          have k8 : Below w7.heap.size w7 w8 := by rw [← hV]; exact (Below.refl _ _).alloc (Nat.le_refl _) _
          have hlg : gl < w7.heap.size := L.lt
          have hdg : gd < w7.heap.size := D.lt
          have heg : ge < w7.heap.size := E.lt
          have hwg := HK.out.size
          clear hV
          generalize w7.heap.size = gg at G k8 hlg hdg heg hwg ⊢
          replace D := D.below k8 hdg
          replace L := L.below k8 hlg
          replace E := E.below k8 heg
          replace HK := Lib.hid (HK.out.trans (k8.mono hwg))
          clear k8
          obtain ⟨e0, e1, e2, -, -, -⟩ := E.c3
          obtain ⟨g0, g1, g2, s0, s1, s2⟩ := G.c3
          go_wp2_with fail
          go_roundw
          case rel => exact ⟨8, by omega, by omega, rfl, D, L, HK⟩
          case measure => simp [intOf]
        · subst hf
          have hq := Lib.hid fun w => (show Calls Try.prog 14 #[.agg #[.int .i64 cx, .int .i64 cy, .int .i64 cz, .int .i64 0, .int .i64 0, .int .i64 0]] w fun r w' => r = .returned (.tuple #[.agg #[.int .i64 (ccI (ccI cx + -1)), .int .i64 (ccI (ccI cy)), .int .i64 (ccI (ccI cz))], .bool true]) ∧ Below w.heap.size w w' from hbs.out 0 w)
          have se := cell_ne_self (ccI (ccI cx + -1)) (ccI (ccI cy)) (ccI (ccI cz))
          have n0 : ∀ w' : World, Blk w' gl 47 (nearA cx cy cz) → w'.cell? ⟨gl, 0, none⟩ = some (.int .i64 (ccI (ccI cx + -1))) ∧ w'.cell? ⟨gl, 1, none⟩ = some (.int .i64 (ccI (ccI cy))) ∧ w'.cell? ⟨gl, 2, none⟩ = some (.int .i64 (ccI (ccI cz))) := fun w' h => ⟨h.cell 0, h.cell 1, h.cell 2⟩
          have HN0 := Lib.hid n0
          clear n0
          go_upto_region 10 with (go_at_call 14; refine (hq.out _).mono ?_; rintro e_ w6 ⟨rfl, k6⟩)
          generalize hV : World.alloc w6 _ = w7
          have E : Blk w7 w6.heap.size 29 #[.int .i64 (ccI (ccI cx + -1)), .int .i64 (ccI (ccI cy)), .int .i64 (ccI (ccI cz))] := Blk.eqw hV (Blk.new' rfl)
          have k7 : Below wr.heap.size wr w7 := by rw [← hV]; exact k6.alloc k6.size _
          clear d0 d1 d2 hV k6 hq
          generalize w6.heap.size = ge at E ⊢
          replace D := D.on k7
          replace L := L.on k7
          replace HK := Lib.hid (after HK.out k7)
          clear k7
          go_upto_region 11 with (fail)
          generalize hV : World.alloc w7 _ = w8
          have G : Blk w8 w7.heap.size 29 #[.int .i64 0, .int .i64 0, .int .i64 0] := Blk.eqw hV (Blk.new' rfl)
          have k8 : Below w7.heap.size w7 w8 := by rw [← hV]; exact (Below.refl _ _).alloc (Nat.le_refl _) _
          have hlg : gl < w7.heap.size := L.lt
          have hdg : gd < w7.heap.size := D.lt
          have heg : ge < w7.heap.size := E.lt
          have hwg := HK.out.size
          clear hV
          generalize w7.heap.size = gg at G k8 hlg hdg heg hwg ⊢
          replace D := D.below k8 hdg
          replace L := L.below k8 hlg
          replace E := E.below k8 heg
          replace HK := Lib.hid (HK.out.trans (k8.mono hwg))
          clear k8
          obtain ⟨e0, e1, e2, -, -, -⟩ := E.c3
          obtain ⟨g0, g1, g2, s0, s1, s2⟩ := G.c3
          obtain ⟨n0, n1, n2⟩ := HN0.out _ L
          have hgl : gl ≠ gg := by omega
          have hgd : gd ≠ gg := by omega
          have hge : ge ≠ gg := by omega
          go_wp2_with fail
          go_roundw
          case rel => exact ⟨8, by omega, by omega, rfl, far3_ D hgd _ _ _, far3_ L hgl _ _ _, Lib.hid (bel3_ HK.out hwg _ _ _)⟩
          case measure => simp [intOf]
        · subst hf
          have hq := Lib.hid fun w => (show Calls Try.prog 14 #[.agg #[.int .i64 cx, .int .i64 cy, .int .i64 cz, .int .i64 0, .int .i64 1, .int .i64 0]] w fun r w' => r = .returned (.tuple #[.agg #[.int .i64 (ccI (ccI cx + 1)), .int .i64 (ccI (ccI cy)), .int .i64 (ccI (ccI cz))], .bool true]) ∧ Below w.heap.size w w' from hbs.out 1 w)
          have se := cell_ne_self (ccI (ccI cx + 1)) (ccI (ccI cy)) (ccI (ccI cz))
          have n0 : ∀ w' : World, Blk w' gl 47 (nearA cx cy cz) → w'.cell? ⟨gl, 3, none⟩ = some (.int .i64 (ccI (ccI cx + 1))) ∧ w'.cell? ⟨gl, 4, none⟩ = some (.int .i64 (ccI (ccI cy))) ∧ w'.cell? ⟨gl, 5, none⟩ = some (.int .i64 (ccI (ccI cz))) := fun w' h => ⟨h.cell 3, h.cell 4, h.cell 5⟩
          have HN0 := Lib.hid n0
          clear n0
          go_upto_region 10 with (go_at_call 14; refine (hq.out _).mono ?_; rintro e_ w6 ⟨rfl, k6⟩)
          generalize hV : World.alloc w6 _ = w7
          have E : Blk w7 w6.heap.size 29 #[.int .i64 (ccI (ccI cx + 1)), .int .i64 (ccI (ccI cy)), .int .i64 (ccI (ccI cz))] := Blk.eqw hV (Blk.new' rfl)
          have k7 : Below wr.heap.size wr w7 := by rw [← hV]; exact k6.alloc k6.size _
          clear d0 d1 d2 hV k6 hq
          generalize w6.heap.size = ge at E ⊢
          replace D := D.on k7
          replace L := L.on k7
          replace HK := Lib.hid (after HK.out k7)
          clear k7
          go_upto_region 11 with (fail)
          generalize hV : World.alloc w7 _ = w8
          have G : Blk w8 w7.heap.size 29 #[.int .i64 0, .int .i64 0, .int .i64 0] := Blk.eqw hV (Blk.new' rfl)
          have k8 : Below w7.heap.size w7 w8 := by rw [← hV]; exact (Below.refl _ _).alloc (Nat.le_refl _) _
          have hlg : gl < w7.heap.size := L.lt
          have hdg : gd < w7.heap.size := D.lt
          have heg : ge < w7.heap.size := E.lt
          have hwg := HK.out.size
          clear hV
          generalize w7.heap.size = gg at G k8 hlg hdg heg hwg ⊢
          replace D := D.below k8 hdg
          replace L := L.below k8 hlg
          replace E := E.below k8 heg
          replace HK := Lib.hid (HK.out.trans (k8.mono hwg))
          clear k8
          obtain ⟨e0, e1, e2, -, -, -⟩ := E.c3
          obtain ⟨g0, g1, g2, s0, s1, s2⟩ := G.c3
          obtain ⟨n0, n1, n2⟩ := HN0.out _ L
          have hgl : gl ≠ gg := by omega
          have hgd : gd ≠ gg := by omega
          have hge : ge ≠ gg := by omega
          go_wp2_with fail
          go_roundw
          case rel => exact ⟨8, by omega, by omega, rfl, far3_ D hgd _ _ _, far3_ L hgl _ _ _, Lib.hid (bel3_ HK.out hwg _ _ _)⟩
          case measure => simp [intOf]
        · subst hf
          have hq := Lib.hid fun w => (show Calls Try.prog 14 #[.agg #[.int .i64 cx, .int .i64 cy, .int .i64 cz, .int .i64 0, .int .i64 2, .int .i64 0]] w fun r w' => r = .returned (.tuple #[.agg #[.int .i64 (ccI (ccI cx)), .int .i64 (ccI (ccI cy + -1)), .int .i64 (ccI (ccI cz))], .bool true]) ∧ Below w.heap.size w w' from hbs.out 2 w)
          have se := cell_ne_self (ccI (ccI cx)) (ccI (ccI cy + -1)) (ccI (ccI cz))
          have n0 : ∀ w' : World, Blk w' gl 47 (nearA cx cy cz) → w'.cell? ⟨gl, 6, none⟩ = some (.int .i64 (ccI (ccI cx))) ∧ w'.cell? ⟨gl, 7, none⟩ = some (.int .i64 (ccI (ccI cy + -1))) ∧ w'.cell? ⟨gl, 8, none⟩ = some (.int .i64 (ccI (ccI cz))) := fun w' h => ⟨h.cell 6, h.cell 7, h.cell 8⟩
          have HN0 := Lib.hid n0
          clear n0
          go_upto_region 10 with (go_at_call 14; refine (hq.out _).mono ?_; rintro e_ w6 ⟨rfl, k6⟩)
          generalize hV : World.alloc w6 _ = w7
          have E : Blk w7 w6.heap.size 29 #[.int .i64 (ccI (ccI cx)), .int .i64 (ccI (ccI cy + -1)), .int .i64 (ccI (ccI cz))] := Blk.eqw hV (Blk.new' rfl)
          have k7 : Below wr.heap.size wr w7 := by rw [← hV]; exact k6.alloc k6.size _
          clear d0 d1 d2 hV k6 hq
          generalize w6.heap.size = ge at E ⊢
          replace D := D.on k7
          replace L := L.on k7
          replace HK := Lib.hid (after HK.out k7)
          clear k7
          go_upto_region 11 with (fail)
          generalize hV : World.alloc w7 _ = w8
          have G : Blk w8 w7.heap.size 29 #[.int .i64 0, .int .i64 0, .int .i64 0] := Blk.eqw hV (Blk.new' rfl)
          have k8 : Below w7.heap.size w7 w8 := by rw [← hV]; exact (Below.refl _ _).alloc (Nat.le_refl _) _
          have hlg : gl < w7.heap.size := L.lt
          have hdg : gd < w7.heap.size := D.lt
          have heg : ge < w7.heap.size := E.lt
          have hwg := HK.out.size
          clear hV
          generalize w7.heap.size = gg at G k8 hlg hdg heg hwg ⊢
          replace D := D.below k8 hdg
          replace L := L.below k8 hlg
          replace E := E.below k8 heg
          replace HK := Lib.hid (HK.out.trans (k8.mono hwg))
          clear k8
          obtain ⟨e0, e1, e2, -, -, -⟩ := E.c3
          obtain ⟨g0, g1, g2, s0, s1, s2⟩ := G.c3
          obtain ⟨n0, n1, n2⟩ := HN0.out _ L
          have hgl : gl ≠ gg := by omega
          have hgd : gd ≠ gg := by omega
          have hge : ge ≠ gg := by omega
          go_wp2_with fail
          go_roundw
          case rel => exact ⟨8, by omega, by omega, rfl, far3_ D hgd _ _ _, far3_ L hgl _ _ _, Lib.hid (bel3_ HK.out hwg _ _ _)⟩
          case measure => simp [intOf]
        · subst hf
          have hq := Lib.hid fun w => (show Calls Try.prog 14 #[.agg #[.int .i64 cx, .int .i64 cy, .int .i64 cz, .int .i64 0, .int .i64 3, .int .i64 0]] w fun r w' => r = .returned (.tuple #[.agg #[.int .i64 (ccI (ccI cx)), .int .i64 (ccI (ccI cy + 1)), .int .i64 (ccI (ccI cz))], .bool true]) ∧ Below w.heap.size w w' from hbs.out 3 w)
          have se := cell_ne_self (ccI (ccI cx)) (ccI (ccI cy + 1)) (ccI (ccI cz))
          have n0 : ∀ w' : World, Blk w' gl 47 (nearA cx cy cz) → w'.cell? ⟨gl, 9, none⟩ = some (.int .i64 (ccI (ccI cx))) ∧ w'.cell? ⟨gl, 10, none⟩ = some (.int .i64 (ccI (ccI cy + 1))) ∧ w'.cell? ⟨gl, 11, none⟩ = some (.int .i64 (ccI (ccI cz))) := fun w' h => ⟨h.cell 9, h.cell 10, h.cell 11⟩
          have HN0 := Lib.hid n0
          clear n0
          go_upto_region 10 with (go_at_call 14; refine (hq.out _).mono ?_; rintro e_ w6 ⟨rfl, k6⟩)
          generalize hV : World.alloc w6 _ = w7
          have E : Blk w7 w6.heap.size 29 #[.int .i64 (ccI (ccI cx)), .int .i64 (ccI (ccI cy + 1)), .int .i64 (ccI (ccI cz))] := Blk.eqw hV (Blk.new' rfl)
          have k7 : Below wr.heap.size wr w7 := by rw [← hV]; exact k6.alloc k6.size _
          clear d0 d1 d2 hV k6 hq
          generalize w6.heap.size = ge at E ⊢
          replace D := D.on k7
          replace L := L.on k7
          replace HK := Lib.hid (after HK.out k7)
          clear k7
          go_upto_region 11 with (fail)
          generalize hV : World.alloc w7 _ = w8
          have G : Blk w8 w7.heap.size 29 #[.int .i64 0, .int .i64 0, .int .i64 0] := Blk.eqw hV (Blk.new' rfl)
          have k8 : Below w7.heap.size w7 w8 := by rw [← hV]; exact (Below.refl _ _).alloc (Nat.le_refl _) _
          have hlg : gl < w7.heap.size := L.lt
          have hdg : gd < w7.heap.size := D.lt
          have heg : ge < w7.heap.size := E.lt
          have hwg := HK.out.size
          clear hV
          generalize w7.heap.size = gg at G k8 hlg hdg heg hwg ⊢
          replace D := D.below k8 hdg
          replace L := L.below k8 hlg
          replace E := E.below k8 heg
          replace HK := Lib.hid (HK.out.trans (k8.mono hwg))
          clear k8
          obtain ⟨e0, e1, e2, -, -, -⟩ := E.c3
          obtain ⟨g0, g1, g2, s0, s1, s2⟩ := G.c3
          obtain ⟨n0, n1, n2⟩ := HN0.out _ L
          have hgl : gl ≠ gg := by omega
          have hgd : gd ≠ gg := by omega
          have hge : ge ≠ gg := by omega
          go_wp2_with fail
          go_roundw
          case rel => exact ⟨8, by omega, by omega, rfl, far3_ D hgd _ _ _, far3_ L hgl _ _ _, Lib.hid (bel3_ HK.out hwg _ _ _)⟩
          case measure => simp [intOf]
        · subst hf
          have hq := Lib.hid fun w => (show Calls Try.prog 14 #[.agg #[.int .i64 cx, .int .i64 cy, .int .i64 cz, .int .i64 0, .int .i64 4, .int .i64 0]] w fun r w' => r = .returned (.tuple #[.agg #[.int .i64 (ccI (ccI cx)), .int .i64 (ccI (ccI cy)), .int .i64 (ccI (ccI cz + -1))], .bool true]) ∧ Below w.heap.size w w' from hbs.out 4 w)
          have se := cell_ne_self (ccI (ccI cx)) (ccI (ccI cy)) (ccI (ccI cz + -1))
          have n0 : ∀ w' : World, Blk w' gl 47 (nearA cx cy cz) → w'.cell? ⟨gl, 12, none⟩ = some (.int .i64 (ccI (ccI cx))) ∧ w'.cell? ⟨gl, 13, none⟩ = some (.int .i64 (ccI (ccI cy))) ∧ w'.cell? ⟨gl, 14, none⟩ = some (.int .i64 (ccI (ccI cz + -1))) := fun w' h => ⟨h.cell 12, h.cell 13, h.cell 14⟩
          have HN0 := Lib.hid n0
          clear n0
          go_upto_region 10 with (go_at_call 14; refine (hq.out _).mono ?_; rintro e_ w6 ⟨rfl, k6⟩)
          generalize hV : World.alloc w6 _ = w7
          have E : Blk w7 w6.heap.size 29 #[.int .i64 (ccI (ccI cx)), .int .i64 (ccI (ccI cy)), .int .i64 (ccI (ccI cz + -1))] := Blk.eqw hV (Blk.new' rfl)
          have k7 : Below wr.heap.size wr w7 := by rw [← hV]; exact k6.alloc k6.size _
          clear d0 d1 d2 hV k6 hq
          generalize w6.heap.size = ge at E ⊢
          replace D := D.on k7
          replace L := L.on k7
          replace HK := Lib.hid (after HK.out k7)
          clear k7
          go_upto_region 11 with (fail)
          generalize hV : World.alloc w7 _ = w8
          have G : Blk w8 w7.heap.size 29 #[.int .i64 0, .int .i64 0, .int .i64 0] := Blk.eqw hV (Blk.new' rfl)
          have k8 : Below w7.heap.size w7 w8 := by rw [← hV]; exact (Below.refl _ _).alloc (Nat.le_refl _) _
          have hlg : gl < w7.heap.size := L.lt
          have hdg : gd < w7.heap.size := D.lt
          have heg : ge < w7.heap.size := E.lt
          have hwg := HK.out.size
          clear hV
          generalize w7.heap.size = gg at G k8 hlg hdg heg hwg ⊢
          replace D := D.below k8 hdg
          replace L := L.below k8 hlg
          replace E := E.below k8 heg
          replace HK := Lib.hid (HK.out.trans (k8.mono hwg))
          clear k8
          obtain ⟨e0, e1, e2, -, -, -⟩ := E.c3
          obtain ⟨g0, g1, g2, s0, s1, s2⟩ := G.c3
          obtain ⟨n0, n1, n2⟩ := HN0.out _ L
          have hgl : gl ≠ gg := by omega
          have hgd : gd ≠ gg := by omega
          have hge : ge ≠ gg := by omega
          go_wp2_with fail
          go_roundw
          case rel => exact ⟨8, by omega, by omega, rfl, far3_ D hgd _ _ _, far3_ L hgl _ _ _, Lib.hid (bel3_ HK.out hwg _ _ _)⟩
          case measure => simp [intOf]
        · subst hf
          have hq := Lib.hid fun w => (show Calls Try.prog 14 #[.agg #[.int .i64 cx, .int .i64 cy, .int .i64 cz, .int .i64 0, .int .i64 5, .int .i64 0]] w fun r w' => r = .returned (.tuple #[.agg #[.int .i64 (ccI (ccI cx)), .int .i64 (ccI (ccI cy)), .int .i64 (ccI (ccI cz + 1))], .bool true]) ∧ Below w.heap.size w w' from hbs.out 5 w)
          have se := cell_ne_self (ccI (ccI cx)) (ccI (ccI cy)) (ccI (ccI cz + 1))
          have n0 : ∀ w' : World, Blk w' gl 47 (nearA cx cy cz) → w'.cell? ⟨gl, 15, none⟩ = some (.int .i64 (ccI (ccI cx))) ∧ w'.cell? ⟨gl, 16, none⟩ = some (.int .i64 (ccI (ccI cy))) ∧ w'.cell? ⟨gl, 17, none⟩ = some (.int .i64 (ccI (ccI cz + 1))) := fun w' h => ⟨h.cell 15, h.cell 16, h.cell 17⟩
          have HN0 := Lib.hid n0
          clear n0
          go_upto_region 10 with (go_at_call 14; refine (hq.out _).mono ?_; rintro e_ w6 ⟨rfl, k6⟩)
          generalize hV : World.alloc w6 _ = w7
          have E : Blk w7 w6.heap.size 29 #[.int .i64 (ccI (ccI cx)), .int .i64 (ccI (ccI cy)), .int .i64 (ccI (ccI cz + 1))] := Blk.eqw hV (Blk.new' rfl)
          have k7 : Below wr.heap.size wr w7 := by rw [← hV]; exact k6.alloc k6.size _
          clear d0 d1 d2 hV k6 hq
          generalize w6.heap.size = ge at E ⊢
          replace D := D.on k7
          replace L := L.on k7
          replace HK := Lib.hid (after HK.out k7)
          clear k7
          go_upto_region 11 with (fail)
          generalize hV : World.alloc w7 _ = w8
          have G : Blk w8 w7.heap.size 29 #[.int .i64 0, .int .i64 0, .int .i64 0] := Blk.eqw hV (Blk.new' rfl)
          have k8 : Below w7.heap.size w7 w8 := by rw [← hV]; exact (Below.refl _ _).alloc (Nat.le_refl _) _
          have hlg : gl < w7.heap.size := L.lt
          have hdg : gd < w7.heap.size := D.lt
          have heg : ge < w7.heap.size := E.lt
          have hwg := HK.out.size
          clear hV
          generalize w7.heap.size = gg at G k8 hlg hdg heg hwg ⊢
          replace D := D.below k8 hdg
          replace L := L.below k8 hlg
          replace E := E.below k8 heg
          replace HK := Lib.hid (HK.out.trans (k8.mono hwg))
          clear k8
          obtain ⟨e0, e1, e2, -, -, -⟩ := E.c3
          obtain ⟨g0, g1, g2, s0, s1, s2⟩ := G.c3
          obtain ⟨n0, n1, n2⟩ := HN0.out _ L
          have hgl : gl ≠ gg := by omega
          have hgd : gd ≠ gg := by omega
          have hge : ge ≠ gg := by omega
          go_wp2_with fail
          go_roundw
          case rel => exact ⟨8, by omega, by omega, rfl, far3_ D hgd _ _ _, far3_ L hgl _ _ _, Lib.hid (bel3_ HK.out hwg _ _ _)⟩
          case measure => simp [intOf]
      · have h7b : (k == 7) = false := by simpa using h7
        clear h7
        go_upto_region 9 with (fail)
        rcases (show k < 0 ∨ 6 ≤ k ∨ k = 0 ∨ k = 1 ∨ k = 2 ∨ k = 3 ∨ k = 4 ∨ k = 5 by omega) with hf | hf | hf | hf | hf | hf | hf | hf
        · have hv : besV cx cy cz k = .tuple #[.agg #[.int .i64 0, .int .i64 0, .int .i64 0], .bool false] := if_neg (by omega)
          have hq := Lib.hid fun w => (show Calls Try.prog 14 #[.agg #[.int .i64 cx, .int .i64 cy, .int .i64 cz, .int .i64 0, .int .i64 k, .int .i64 0]] w fun r w' => r = .returned (.tuple #[.agg #[.int .i64 0, .int .i64 0, .int .i64 0], .bool false]) ∧ Below w.heap.size w w' from by rw [← hv]; exact hbs.out _ w)
          have se := cell_ne_self 0 0 0
          clear hv
          have hg : decide ((0 : Int) ≤ k) = false := by simpa using hf
          have hg2 : ¬ (0 : Int) ≤ k := by omega
          go_upto_region 10 with (go_at_call 14; refine (hq.out _).mono ?_; rintro e_ w6 ⟨rfl, k6⟩)
          generalize hV : World.alloc w6 _ = w7
          have E : Blk w7 w6.heap.size 29 #[.int .i64 (0), .int .i64 (0), .int .i64 (0)] := Blk.eqw hV (Blk.new' rfl)
          have k7 : Below wr.heap.size wr w7 := by rw [← hV]; exact k6.alloc k6.size _
          clear d0 d1 d2 hV k6 hq
          generalize w6.heap.size = ge at E ⊢
          replace D := D.on k7
          replace L := L.on k7
          replace HK := Lib.hid (after HK.out k7)
          clear k7
          go_upto_region 11 with (fail)
          generalize hV : World.alloc w7 _ = w8
          have G : Blk w8 w7.heap.size 29 #[.int .i64 0, .int .i64 0, .int .i64 0] := Blk.eqw hV (Blk.new' rfl)
          have k8 : Below w7.heap.size w7 w8 := by rw [← hV]; exact (Below.refl _ _).alloc (Nat.le_refl _) _
          have hlg : gl < w7.heap.size := L.lt
          have hdg : gd < w7.heap.size := D.lt
          have heg : ge < w7.heap.size := E.lt
          have hwg := HK.out.size
          clear hV
          generalize w7.heap.size = gg at G k8 hlg hdg heg hwg ⊢
          replace D := D.below k8 hdg
          replace L := L.below k8 hlg
          replace E := E.below k8 heg
          replace HK := Lib.hid (HK.out.trans (k8.mono hwg))
          clear k8
          obtain ⟨e0, e1, e2, -, -, -⟩ := E.c3
          obtain ⟨g0, g1, g2, s0, s1, s2⟩ := G.c3
          go_wp2_with fail
          go_roundw
          case rel => exact ⟨k + 1, by omega, by omega, rfl, D, L, HK⟩
          case measure => simp [intOf]; omega
        · have hv : besV cx cy cz k = .tuple #[.agg #[.int .i64 0, .int .i64 0, .int .i64 0], .bool false] := if_neg (by omega)
          have hq := Lib.hid fun w => (show Calls Try.prog 14 #[.agg #[.int .i64 cx, .int .i64 cy, .int .i64 cz, .int .i64 0, .int .i64 k, .int .i64 0]] w fun r w' => r = .returned (.tuple #[.agg #[.int .i64 0, .int .i64 0, .int .i64 0], .bool false]) ∧ Below w.heap.size w w' from by rw [← hv]; exact hbs.out _ w)
          have se := cell_ne_self 0 0 0
          clear hv
          have hg : decide ((0 : Int) ≤ k) = true := by simp; omega
          have hg2 : (0 : Int) ≤ k := by omega
          have hg3 : decide (k < 6) = false := by simpa using hf
          have hg4 : ¬ k < 6 := by omega
          go_upto_region 10 with (go_at_call 14; refine (hq.out _).mono ?_; rintro e_ w6 ⟨rfl, k6⟩)
          generalize hV : World.alloc w6 _ = w7
          have E : Blk w7 w6.heap.size 29 #[.int .i64 (0), .int .i64 (0), .int .i64 (0)] := Blk.eqw hV (Blk.new' rfl)
          have k7 : Below wr.heap.size wr w7 := by rw [← hV]; exact k6.alloc k6.size _
          clear d0 d1 d2 hV k6 hq
          generalize w6.heap.size = ge at E ⊢
          replace D := D.on k7
          replace L := L.on k7
          replace HK := Lib.hid (after HK.out k7)
          clear k7
          go_upto_region 11 with (fail)
          generalize hV : World.alloc w7 _ = w8
          have G : Blk w8 w7.heap.size 29 #[.int .i64 0, .int .i64 0, .int .i64 0] := Blk.eqw hV (Blk.new' rfl)
          have k8 : Below w7.heap.size w7 w8 := by rw [← hV]; exact (Below.refl _ _).alloc (Nat.le_refl _) _
          have hlg : gl < w7.heap.size := L.lt
          have hdg : gd < w7.heap.size := D.lt
          have heg : ge < w7.heap.size := E.lt
          have hwg := HK.out.size
          clear hV
          generalize w7.heap.size = gg at G k8 hlg hdg heg hwg ⊢
          replace D := D.below k8 hdg
          replace L := L.below k8 hlg
          replace E := E.below k8 heg
          replace HK := Lib.hid (HK.out.trans (k8.mono hwg))
          clear k8
          obtain ⟨e0, e1, e2, -, -, -⟩ := E.c3
          obtain ⟨g0, g1, g2, s0, s1, s2⟩ := G.c3
          go_wp2_with fail
          go_roundw
          case rel => exact ⟨k + 1, by omega, by omega, rfl, D, L, HK⟩
          case measure => simp [intOf]; omega
        · subst hf
          have hq := Lib.hid fun w => (show Calls Try.prog 14 #[.agg #[.int .i64 cx, .int .i64 cy, .int .i64 cz, .int .i64 0, .int .i64 0, .int .i64 0]] w fun r w' => r = .returned (.tuple #[.agg #[.int .i64 (ccI (ccI cx + -1)), .int .i64 (ccI (ccI cy)), .int .i64 (ccI (ccI cz))], .bool true]) ∧ Below w.heap.size w w' from hbs.out 0 w)
          have se := cell_ne_self (ccI (ccI cx + -1)) (ccI (ccI cy)) (ccI (ccI cz))
          have n0 : ∀ w' : World, Blk w' gl 47 (nearA cx cy cz) → w'.cell? ⟨gl, 0, none⟩ = some (.int .i64 (ccI (ccI cx + -1))) ∧ w'.cell? ⟨gl, 1, none⟩ = some (.int .i64 (ccI (ccI cy))) ∧ w'.cell? ⟨gl, 2, none⟩ = some (.int .i64 (ccI (ccI cz))) := fun w' h => ⟨h.cell 0, h.cell 1, h.cell 2⟩
          have HN0 := Lib.hid n0
          clear n0
          go_upto_region 10 with (go_at_call 14; refine (hq.out _).mono ?_; rintro e_ w6 ⟨rfl, k6⟩)
          generalize hV : World.alloc w6 _ = w7
          have E : Blk w7 w6.heap.size 29 #[.int .i64 (ccI (ccI cx + -1)), .int .i64 (ccI (ccI cy)), .int .i64 (ccI (ccI cz))] := Blk.eqw hV (Blk.new' rfl)
          have k7 : Below wr.heap.size wr w7 := by rw [← hV]; exact k6.alloc k6.size _
          clear d0 d1 d2 hV k6 hq
          generalize w6.heap.size = ge at E ⊢
          replace D := D.on k7
          replace L := L.on k7
          replace HK := Lib.hid (after HK.out k7)
          clear k7
          go_upto_region 11 with (fail)
          generalize hV : World.alloc w7 _ = w8
          have G : Blk w8 w7.heap.size 29 #[.int .i64 0, .int .i64 0, .int .i64 0] := Blk.eqw hV (Blk.new' rfl)
          have k8 : Below w7.heap.size w7 w8 := by rw [← hV]; exact (Below.refl _ _).alloc (Nat.le_refl _) _
          have hlg : gl < w7.heap.size := L.lt
          have hdg : gd < w7.heap.size := D.lt
          have heg : ge < w7.heap.size := E.lt
          have hwg := HK.out.size
          clear hV
          generalize w7.heap.size = gg at G k8 hlg hdg heg hwg ⊢
          replace D := D.below k8 hdg
          replace L := L.below k8 hlg
          replace E := E.below k8 heg
          replace HK := Lib.hid (HK.out.trans (k8.mono hwg))
          clear k8
          obtain ⟨e0, e1, e2, -, -, -⟩ := E.c3
          obtain ⟨g0, g1, g2, s0, s1, s2⟩ := G.c3
          obtain ⟨n0, n1, n2⟩ := HN0.out _ L
          have hgl : gl ≠ gg := by omega
          have hgd : gd ≠ gg := by omega
          have hge : ge ≠ gg := by omega
          go_wp2_with fail
          go_roundw
          case rel => exact ⟨1, by omega, by omega, rfl, far3_ D hgd _ _ _, far3_ L hgl _ _ _, Lib.hid (bel3_ HK.out hwg _ _ _)⟩
          case measure => simp [intOf]
        · subst hf
          have hq := Lib.hid fun w => (show Calls Try.prog 14 #[.agg #[.int .i64 cx, .int .i64 cy, .int .i64 cz, .int .i64 0, .int .i64 1, .int .i64 0]] w fun r w' => r = .returned (.tuple #[.agg #[.int .i64 (ccI (ccI cx + 1)), .int .i64 (ccI (ccI cy)), .int .i64 (ccI (ccI cz))], .bool true]) ∧ Below w.heap.size w w' from hbs.out 1 w)
          have se := cell_ne_self (ccI (ccI cx + 1)) (ccI (ccI cy)) (ccI (ccI cz))
          have n0 : ∀ w' : World, Blk w' gl 47 (nearA cx cy cz) → w'.cell? ⟨gl, 3, none⟩ = some (.int .i64 (ccI (ccI cx + 1))) ∧ w'.cell? ⟨gl, 4, none⟩ = some (.int .i64 (ccI (ccI cy))) ∧ w'.cell? ⟨gl, 5, none⟩ = some (.int .i64 (ccI (ccI cz))) := fun w' h => ⟨h.cell 3, h.cell 4, h.cell 5⟩
          have HN0 := Lib.hid n0
          clear n0
          go_upto_region 10 with (go_at_call 14; refine (hq.out _).mono ?_; rintro e_ w6 ⟨rfl, k6⟩)
          generalize hV : World.alloc w6 _ = w7
          have E : Blk w7 w6.heap.size 29 #[.int .i64 (ccI (ccI cx + 1)), .int .i64 (ccI (ccI cy)), .int .i64 (ccI (ccI cz))] := Blk.eqw hV (Blk.new' rfl)
          have k7 : Below wr.heap.size wr w7 := by rw [← hV]; exact k6.alloc k6.size _
          clear d0 d1 d2 hV k6 hq
          generalize w6.heap.size = ge at E ⊢
          replace D := D.on k7
          replace L := L.on k7
          replace HK := Lib.hid (after HK.out k7)
          clear k7
          go_upto_region 11 with (fail)
          generalize hV : World.alloc w7 _ = w8
          have G : Blk w8 w7.heap.size 29 #[.int .i64 0, .int .i64 0, .int .i64 0] := Blk.eqw hV (Blk.new' rfl)
          have k8 : Below w7.heap.size w7 w8 := by rw [← hV]; exact (Below.refl _ _).alloc (Nat.le_refl _) _
          have hlg : gl < w7.heap.size := L.lt
          have hdg : gd < w7.heap.size := D.lt
          have heg : ge < w7.heap.size := E.lt
          have hwg := HK.out.size
          clear hV
          generalize w7.heap.size = gg at G k8 hlg hdg heg hwg ⊢
          replace D := D.below k8 hdg
          replace L := L.below k8 hlg
          replace E := E.below k8 heg
          replace HK := Lib.hid (HK.out.trans (k8.mono hwg))
          clear k8
          obtain ⟨e0, e1, e2, -, -, -⟩ := E.c3
          obtain ⟨g0, g1, g2, s0, s1, s2⟩ := G.c3
          obtain ⟨n0, n1, n2⟩ := HN0.out _ L
          have hgl : gl ≠ gg := by omega
          have hgd : gd ≠ gg := by omega
          have hge : ge ≠ gg := by omega
          go_wp2_with fail
          go_roundw
          case rel => exact ⟨2, by omega, by omega, rfl, far3_ D hgd _ _ _, far3_ L hgl _ _ _, Lib.hid (bel3_ HK.out hwg _ _ _)⟩
          case measure => simp [intOf]
        · subst hf
          have hq := Lib.hid fun w => (show Calls Try.prog 14 #[.agg #[.int .i64 cx, .int .i64 cy, .int .i64 cz, .int .i64 0, .int .i64 2, .int .i64 0]] w fun r w' => r = .returned (.tuple #[.agg #[.int .i64 (ccI (ccI cx)), .int .i64 (ccI (ccI cy + -1)), .int .i64 (ccI (ccI cz))], .bool true]) ∧ Below w.heap.size w w' from hbs.out 2 w)
          have se := cell_ne_self (ccI (ccI cx)) (ccI (ccI cy + -1)) (ccI (ccI cz))
          have n0 : ∀ w' : World, Blk w' gl 47 (nearA cx cy cz) → w'.cell? ⟨gl, 6, none⟩ = some (.int .i64 (ccI (ccI cx))) ∧ w'.cell? ⟨gl, 7, none⟩ = some (.int .i64 (ccI (ccI cy + -1))) ∧ w'.cell? ⟨gl, 8, none⟩ = some (.int .i64 (ccI (ccI cz))) := fun w' h => ⟨h.cell 6, h.cell 7, h.cell 8⟩
          have HN0 := Lib.hid n0
          clear n0
          go_upto_region 10 with (go_at_call 14; refine (hq.out _).mono ?_; rintro e_ w6 ⟨rfl, k6⟩)
          generalize hV : World.alloc w6 _ = w7
          have E : Blk w7 w6.heap.size 29 #[.int .i64 (ccI (ccI cx)), .int .i64 (ccI (ccI cy + -1)), .int .i64 (ccI (ccI cz))] := Blk.eqw hV (Blk.new' rfl)
          have k7 : Below wr.heap.size wr w7 := by rw [← hV]; exact k6.alloc k6.size _
          clear d0 d1 d2 hV k6 hq
          generalize w6.heap.size = ge at E ⊢
          replace D := D.on k7
          replace L := L.on k7
          replace HK := Lib.hid (after HK.out k7)
          clear k7
          go_upto_region 11 with (fail)
          generalize hV : World.alloc w7 _ = w8
          have G : Blk w8 w7.heap.size 29 #[.int .i64 0, .int .i64 0, .int .i64 0] := Blk.eqw hV (Blk.new' rfl)
          have k8 : Below w7.heap.size w7 w8 := by rw [← hV]; exact (Below.refl _ _).alloc (Nat.le_refl _) _
          have hlg : gl < w7.heap.size := L.lt
          have hdg : gd < w7.heap.size := D.lt
          have heg : ge < w7.heap.size := E.lt
          have hwg := HK.out.size
          clear hV
          generalize w7.heap.size = gg at G k8 hlg hdg heg hwg ⊢
          replace D := D.below k8 hdg
          replace L := L.below k8 hlg
          replace E := E.below k8 heg
          replace HK := Lib.hid (HK.out.trans (k8.mono hwg))
          clear k8
          obtain ⟨e0, e1, e2, -, -, -⟩ := E.c3
          obtain ⟨g0, g1, g2, s0, s1, s2⟩ := G.c3
          obtain ⟨n0, n1, n2⟩ := HN0.out _ L
          have hgl : gl ≠ gg := by omega
          have hgd : gd ≠ gg := by omega
          have hge : ge ≠ gg := by omega
          go_wp2_with fail
          go_roundw
          case rel => exact ⟨3, by omega, by omega, rfl, far3_ D hgd _ _ _, far3_ L hgl _ _ _, Lib.hid (bel3_ HK.out hwg _ _ _)⟩
          case measure => simp [intOf]
        · subst hf
          have hq := Lib.hid fun w => (show Calls Try.prog 14 #[.agg #[.int .i64 cx, .int .i64 cy, .int .i64 cz, .int .i64 0, .int .i64 3, .int .i64 0]] w fun r w' => r = .returned (.tuple #[.agg #[.int .i64 (ccI (ccI cx)), .int .i64 (ccI (ccI cy + 1)), .int .i64 (ccI (ccI cz))], .bool true]) ∧ Below w.heap.size w w' from hbs.out 3 w)
          have se := cell_ne_self (ccI (ccI cx)) (ccI (ccI cy + 1)) (ccI (ccI cz))
          have n0 : ∀ w' : World, Blk w' gl 47 (nearA cx cy cz) → w'.cell? ⟨gl, 9, none⟩ = some (.int .i64 (ccI (ccI cx))) ∧ w'.cell? ⟨gl, 10, none⟩ = some (.int .i64 (ccI (ccI cy + 1))) ∧ w'.cell? ⟨gl, 11, none⟩ = some (.int .i64 (ccI (ccI cz))) := fun w' h => ⟨h.cell 9, h.cell 10, h.cell 11⟩
          have HN0 := Lib.hid n0
          clear n0
          go_upto_region 10 with (go_at_call 14; refine (hq.out _).mono ?_; rintro e_ w6 ⟨rfl, k6⟩)
          generalize hV : World.alloc w6 _ = w7
          have E : Blk w7 w6.heap.size 29 #[.int .i64 (ccI (ccI cx)), .int .i64 (ccI (ccI cy + 1)), .int .i64 (ccI (ccI cz))] := Blk.eqw hV (Blk.new' rfl)
          have k7 : Below wr.heap.size wr w7 := by rw [← hV]; exact k6.alloc k6.size _
          clear d0 d1 d2 hV k6 hq
          generalize w6.heap.size = ge at E ⊢
          replace D := D.on k7
          replace L := L.on k7
          replace HK := Lib.hid (after HK.out k7)
          clear k7
          go_upto_region 11 with (fail)
          generalize hV : World.alloc w7 _ = w8
          have G : Blk w8 w7.heap.size 29 #[.int .i64 0, .int .i64 0, .int .i64 0] := Blk.eqw hV (Blk.new' rfl)
          have k8 : Below w7.heap.size w7 w8 := by rw [← hV]; exact (Below.refl _ _).alloc (Nat.le_refl _) _
          have hlg : gl < w7.heap.size := L.lt
          have hdg : gd < w7.heap.size := D.lt
          have heg : ge < w7.heap.size := E.lt
          have hwg := HK.out.size
          clear hV
          generalize w7.heap.size = gg at G k8 hlg hdg heg hwg ⊢
          replace D := D.below k8 hdg
          replace L := L.below k8 hlg
          replace E := E.below k8 heg
          replace HK := Lib.hid (HK.out.trans (k8.mono hwg))
          clear k8
          obtain ⟨e0, e1, e2, -, -, -⟩ := E.c3
          obtain ⟨g0, g1, g2, s0, s1, s2⟩ := G.c3
          obtain ⟨n0, n1, n2⟩ := HN0.out _ L
          have hgl : gl ≠ gg := by omega
          have hgd : gd ≠ gg := by omega
          have hge : ge ≠ gg := by omega
          go_wp2_with fail
          go_roundw
          case rel => exact ⟨4, by omega, by omega, rfl, far3_ D hgd _ _ _, far3_ L hgl _ _ _, Lib.hid (bel3_ HK.out hwg _ _ _)⟩
          case measure => simp [intOf]
        · subst hf
          have hq := Lib.hid fun w => (show Calls Try.prog 14 #[.agg #[.int .i64 cx, .int .i64 cy, .int .i64 cz, .int .i64 0, .int .i64 4, .int .i64 0]] w fun r w' => r = .returned (.tuple #[.agg #[.int .i64 (ccI (ccI cx)), .int .i64 (ccI (ccI cy)), .int .i64 (ccI (ccI cz + -1))], .bool true]) ∧ Below w.heap.size w w' from hbs.out 4 w)
          have se := cell_ne_self (ccI (ccI cx)) (ccI (ccI cy)) (ccI (ccI cz + -1))
          have n0 : ∀ w' : World, Blk w' gl 47 (nearA cx cy cz) → w'.cell? ⟨gl, 12, none⟩ = some (.int .i64 (ccI (ccI cx))) ∧ w'.cell? ⟨gl, 13, none⟩ = some (.int .i64 (ccI (ccI cy))) ∧ w'.cell? ⟨gl, 14, none⟩ = some (.int .i64 (ccI (ccI cz + -1))) := fun w' h => ⟨h.cell 12, h.cell 13, h.cell 14⟩
          have HN0 := Lib.hid n0
          clear n0
          go_upto_region 10 with (go_at_call 14; refine (hq.out _).mono ?_; rintro e_ w6 ⟨rfl, k6⟩)
          generalize hV : World.alloc w6 _ = w7
          have E : Blk w7 w6.heap.size 29 #[.int .i64 (ccI (ccI cx)), .int .i64 (ccI (ccI cy)), .int .i64 (ccI (ccI cz + -1))] := Blk.eqw hV (Blk.new' rfl)
          have k7 : Below wr.heap.size wr w7 := by rw [← hV]; exact k6.alloc k6.size _
          clear d0 d1 d2 hV k6 hq
          generalize w6.heap.size = ge at E ⊢
          replace D := D.on k7
          replace L := L.on k7
          replace HK := Lib.hid (after HK.out k7)
          clear k7
          go_upto_region 11 with (fail)
          generalize hV : World.alloc w7 _ = w8
          have G : Blk w8 w7.heap.size 29 #[.int .i64 0, .int .i64 0, .int .i64 0] := Blk.eqw hV (Blk.new' rfl)
          have k8 : Below w7.heap.size w7 w8 := by rw [← hV]; exact (Below.refl _ _).alloc (Nat.le_refl _) _
          have hlg : gl < w7.heap.size := L.lt
          have hdg : gd < w7.heap.size := D.lt
          have heg : ge < w7.heap.size := E.lt
          have hwg := HK.out.size
          clear hV
          generalize w7.heap.size = gg at G k8 hlg hdg heg hwg ⊢
          replace D := D.below k8 hdg
          replace L := L.below k8 hlg
          replace E := E.below k8 heg
          replace HK := Lib.hid (HK.out.trans (k8.mono hwg))
          clear k8
          obtain ⟨e0, e1, e2, -, -, -⟩ := E.c3
          obtain ⟨g0, g1, g2, s0, s1, s2⟩ := G.c3
          obtain ⟨n0, n1, n2⟩ := HN0.out _ L
          have hgl : gl ≠ gg := by omega
          have hgd : gd ≠ gg := by omega
          have hge : ge ≠ gg := by omega
          go_wp2_with fail
          go_roundw
          case rel => exact ⟨5, by omega, by omega, rfl, far3_ D hgd _ _ _, far3_ L hgl _ _ _, Lib.hid (bel3_ HK.out hwg _ _ _)⟩
          case measure => simp [intOf]
        · subst hf
          have hq := Lib.hid fun w => (show Calls Try.prog 14 #[.agg #[.int .i64 cx, .int .i64 cy, .int .i64 cz, .int .i64 0, .int .i64 5, .int .i64 0]] w fun r w' => r = .returned (.tuple #[.agg #[.int .i64 (ccI (ccI cx)), .int .i64 (ccI (ccI cy)), .int .i64 (ccI (ccI cz + 1))], .bool true]) ∧ Below w.heap.size w w' from hbs.out 5 w)
          have se := cell_ne_self (ccI (ccI cx)) (ccI (ccI cy)) (ccI (ccI cz + 1))
          have n0 : ∀ w' : World, Blk w' gl 47 (nearA cx cy cz) → w'.cell? ⟨gl, 15, none⟩ = some (.int .i64 (ccI (ccI cx))) ∧ w'.cell? ⟨gl, 16, none⟩ = some (.int .i64 (ccI (ccI cy))) ∧ w'.cell? ⟨gl, 17, none⟩ = some (.int .i64 (ccI (ccI cz + 1))) := fun w' h => ⟨h.cell 15, h.cell 16, h.cell 17⟩
          have HN0 := Lib.hid n0
          clear n0
          go_upto_region 10 with (go_at_call 14; refine (hq.out _).mono ?_; rintro e_ w6 ⟨rfl, k6⟩)
          generalize hV : World.alloc w6 _ = w7
          have E : Blk w7 w6.heap.size 29 #[.int .i64 (ccI (ccI cx)), .int .i64 (ccI (ccI cy)), .int .i64 (ccI (ccI cz + 1))] := Blk.eqw hV (Blk.new' rfl)
          have k7 : Below wr.heap.size wr w7 := by rw [← hV]; exact k6.alloc k6.size _
          clear d0 d1 d2 hV k6 hq
          generalize w6.heap.size = ge at E ⊢
          replace D := D.on k7
          replace L := L.on k7
          replace HK := Lib.hid (after HK.out k7)
          clear k7
          go_upto_region 11 with (fail)
          generalize hV : World.alloc w7 _ = w8
          have G : Blk w8 w7.heap.size 29 #[.int .i64 0, .int .i64 0, .int .i64 0] := Blk.eqw hV (Blk.new' rfl)
          have k8 : Below w7.heap.size w7 w8 := by rw [← hV]; exact (Below.refl _ _).alloc (Nat.le_refl _) _
          have hlg : gl < w7.heap.size := L.lt
          have hdg : gd < w7.heap.size := D.lt
          have heg : ge < w7.heap.size := E.lt
          have hwg := HK.out.size
          clear hV
          generalize w7.heap.size = gg at G k8 hlg hdg heg hwg ⊢
          replace D := D.below k8 hdg
          replace L := L.below k8 hlg
          replace E := E.below k8 heg
          replace HK := Lib.hid (HK.out.trans (k8.mono hwg))
          clear k8
          obtain ⟨e0, e1, e2, -, -, -⟩ := E.c3
          obtain ⟨g0, g1, g2, s0, s1, s2⟩ := G.c3
          obtain ⟨n0, n1, n2⟩ := HN0.out _ L
          have hgl : gl ≠ gg := by omega
          have hgd : gd ≠ gg := by omega
          have hge : ge ≠ gg := by omega
          go_wp2_with fail
          go_roundw
          case rel => exact ⟨6, by omega, by omega, rfl, far3_ D hgd _ _ _, far3_ L hgl _ _ _, Lib.hid (bel3_ HK.out hwg _ _ _)⟩
          case measure => simp [intOf]
    · have hl := Lib.hid fun w => rlives_c w
      go_wp2_with (go_at_call 15; refine (hl.out _).mono ?_; rintro e_ w6 ⟨rfl, k6⟩)
      go_returns
      exact ⟨rfl, after HK.out k6⟩
set_option maxRecDepth 100000 in
theorem rayBeside_lifted (os : Os) (started : os.Started) (H : Type) (enc : TypeId × Value → H) :
    ReturnsInHanded {} Try.checked os 4 .any (Rows.rayBesideSpec.pre6 enc Try.prog Try.f4 Rows.rayBesideRow.domain false) (Rows.rayBesideSpec.post enc Try.prog Try.f4 false true false false) := by
  refine returnsInHanded_of_change (C := Try.checked) own started (by kernel_rfl) Try.func4
    (ChangeSpec.witness6 (enc := enc) (C := Try.checked) false ⟨#[], #[.agg #[.int .i64 0, .int .i64 0, .int .i64 0], .int .i64 0], []⟩ 8 (by kernel_rfl) (by kernel_rfl) (by kernel_rfl) (by kernel_rfl)) ?_
  intro W base args ds gs before hval0 hW hcnd hsz
  have hval : ∀ (j : Nat) t v, Try.f4.params[j]? = some t → args[j]? = some v → Value.okWide Try.prog W .any base t v := hval0
  have hW' := hW
  obtain ⟨p, q, hA0, hV, rfl, hfz, hnd⟩ := hW
  have hA : DataW.TrodAll enc Try.prog W 0 (fun _ => true) true Try.f4.params.toList args.toList ds p := hA0
  rw [Try.params4] at hA hval
  obtain ⟨v0, vs0, d0, ds0, p_0, q_0, hargs, rfl, rfl, h0, r_0⟩ := trodAll_cons hA
  obtain ⟨v1, vs1, d1, ds1, p_1, q_1, rfl, rfl, rfl, h1, r_1⟩ := trodAll_cons r_0
  obtain ⟨rfl, rfl, rfl⟩ := trodAll_nil r_1
  obtain rfl : args = #[v0, v1] := by cases args; simp_all
  obtain ⟨rfl, rfl⟩ := trodVars_none hV
  obtain ⟨x0, y0, z0, rfl, wx0, wy0, wz0⟩ := open_vec Try.underlying29 (by kernel_rfl) (by kernel_rfl) Try.underlying3 (hval 0 29 v0 rfl rfl) h0
  obtain ⟨a1, rfl, rfl, rfl, w1⟩ := open_int Try.underlying3 (hval 1 3 v1 rfl rfl) h1
  refine (rayBeside_c x0 y0 z0 wx0 wy0 wz0 a1 (in64_of_wf w1) W).mono fun e W' ⟨he, hb⟩ => ?_
  subst he
  exact ⟨_, rfl, law_post laidOut (by kernel_rfl) rfl (by kernel_rfl) Try.underlying4 hW' rfl rfl rfl hb⟩

/-- The statement. -/
theorem rayBeside_proved : Rows.RayBesideSaid :=
  OpenClaim.holds_of_wide 4 Try.f4 rfl rfl rfl rfl rfl rfl rfl ⟨rfl, rfl, rfl, rfl, rfl⟩ rfl rfl rfl rfl rfl (by kernel_rfl) Try.func4 (by kernel_rfl)
    (of_decide_eq_true (by kernel_rfl)) (by unfold Func.isWrapper; first | (rw [if_pos (by decide +kernel)]; kernel_rfl) | (rw [if_neg (by decide +kernel)]; exact ⟨rfl, rfl⟩))
    (fun os started H enc _ => rayBeside_lifted os started H enc)
end Go.Proofs.Ytjlgcfdpfalbpaa
