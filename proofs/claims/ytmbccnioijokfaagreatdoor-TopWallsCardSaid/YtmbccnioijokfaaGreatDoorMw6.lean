/- Texts that build one behind the other, laid together: Bod1 BodP2 BodP4 BodQ CrwP Opn CrwR Crw1 Bod5 Bod6 Bod7 Went Stp1 Bod8. -/
import Derived.Test.YtmbccnioijokfaaGreatDoorMw5
import Derived.Test.YtmbccnioijokfaaGreatDoorMw3
import Derived.Deep.Cut
import Derived.Test.YtmbccnioijokfaaGreatDoorMw2
import Derived.Test.YtmbccnioijokfaaGreatDoorMw1
import Derived.Deep.Slices
namespace Go.Proofs.YtmbccnioijokfaaGreatDoor
open Go.RowKit
attribute [local go_sem] Oper.semAt_some
section
variable {w : World} {g : Nat} {t : TypeId} {a b c d e f k l m : Value}
theorem Blk.c9 (h : Blk w g t #[a, b, c, d, e, f, k, l, m]) : (w.cell? ⟨g, 0, none⟩ = some a ∧ w.cell? ⟨g, 1, none⟩ = some b ∧ w.cell? ⟨g, 2, none⟩ = some c ∧ w.cell? ⟨g, 3, none⟩ = some d ∧ w.cell? ⟨g, 4, none⟩ = some e ∧ w.cell? ⟨g, 5, none⟩ = some f ∧ w.cell? ⟨g, 6, none⟩ = some k ∧ w.cell? ⟨g, 7, none⟩ = some l ∧ w.cell? ⟨g, 8, none⟩ = some m) ∧
    w.frozen? ⟨g, 0, none⟩ = false ∧ w.frozen? ⟨g, 1, none⟩ = false ∧ w.frozen? ⟨g, 2, none⟩ = false ∧ w.frozen? ⟨g, 3, none⟩ = false ∧ w.frozen? ⟨g, 4, none⟩ = false ∧ w.frozen? ⟨g, 5, none⟩ = false ∧ w.frozen? ⟨g, 6, none⟩ = false ∧ w.frozen? ⟨g, 7, none⟩ = false ∧ w.frozen? ⟨g, 8, none⟩ = false :=
  ⟨⟨h.cell 0, h.cell 1, h.cell 2, h.cell 3, h.cell 4, h.cell 5, h.cell 6, h.cell 7, h.cell 8⟩, h.frz 0, h.frz 1, h.frz 2, h.frz 3, h.frz 4, h.frz 5, h.frz 6, h.frz 7, h.frz 8⟩
theorem Blk.st9 {a' b' c' d' e' f' k' l' m' : Value} (h : Blk w g t #[a', b', c', d', e', f', k', l', m']) (a b c d e f k l m : Value) : Blk (((((((((w.setCell ⟨g, 0, none⟩ a).setCell ⟨g, 1, none⟩ b).setCell ⟨g, 2, none⟩ c).setCell ⟨g, 3, none⟩ d).setCell ⟨g, 4, none⟩ e).setCell ⟨g, 5, none⟩ f).setCell ⟨g, 6, none⟩ k).setCell ⟨g, 7, none⟩ l).setCell ⟨g, 8, none⟩ m) g t #[a, b, c, d, e, f, k, l, m] := by
  have h0 : Blk _ g t #[a, b', c', d', e', f', k', l', m'] := h.set_ 0 a
  have h1 : Blk _ g t #[a, b, c', d', e', f', k', l', m'] := h0.set_ 1 b
  have h2 : Blk _ g t #[a, b, c, d', e', f', k', l', m'] := h1.set_ 2 c
  have h3 : Blk _ g t #[a, b, c, d, e', f', k', l', m'] := h2.set_ 3 d
  have h4 : Blk _ g t #[a, b, c, d, e, f', k', l', m'] := h3.set_ 4 e
  have h5 : Blk _ g t #[a, b, c, d, e, f, k', l', m'] := h4.set_ 5 f
  have h6 : Blk _ g t #[a, b, c, d, e, f, k, l', m'] := h5.set_ 6 k
  have h7 : Blk _ g t #[a, b, c, d, e, f, k, l, m'] := h6.set_ 7 l
  have h8 : Blk _ g t #[a, b, c, d, e, f, k, l, m] := h7.set_ 8 m
  exact h8
theorem sx9_far {N : Nat} {cs : Array Value} (V : Blk w g t cs) (h : g ≠ N) (a b c d e f k l m : Value) : Blk (((((((((w.setCell ⟨N, 0, none⟩ a).setCell ⟨N, 1, none⟩ b).setCell ⟨N, 2, none⟩ c).setCell ⟨N, 3, none⟩ d).setCell ⟨N, 4, none⟩ e).setCell ⟨N, 5, none⟩ f).setCell ⟨N, 6, none⟩ k).setCell ⟨N, 7, none⟩ l).setCell ⟨N, 8, none⟩ m) g t cs :=
  ((((((((V.far (p := ⟨N, 0, none⟩) h _).far (p := ⟨N, 1, none⟩) h _).far (p := ⟨N, 2, none⟩) h _).far (p := ⟨N, 3, none⟩) h _).far (p := ⟨N, 4, none⟩) h _).far (p := ⟨N, 5, none⟩) h _).far (p := ⟨N, 6, none⟩) h _).far (p := ⟨N, 7, none⟩) h _).far (p := ⟨N, 8, none⟩) h _
theorem sx9_below {w0 : World} {N n : Nat} (H : Below n w0 w) (h : n ≤ N) (a b c d e f k l m : Value) : Below n w0 (((((((((w.setCell ⟨N, 0, none⟩ a).setCell ⟨N, 1, none⟩ b).setCell ⟨N, 2, none⟩ c).setCell ⟨N, 3, none⟩ d).setCell ⟨N, 4, none⟩ e).setCell ⟨N, 5, none⟩ f).setCell ⟨N, 6, none⟩ k).setCell ⟨N, 7, none⟩ l).setCell ⟨N, 8, none⟩ m) :=
  ((((((((H.setCell (p := ⟨N, 0, none⟩) h _).setCell (p := ⟨N, 1, none⟩) h _).setCell (p := ⟨N, 2, none⟩) h _).setCell (p := ⟨N, 3, none⟩) h _).setCell (p := ⟨N, 4, none⟩) h _).setCell (p := ⟨N, 5, none⟩) h _).setCell (p := ⟨N, 6, none⟩) h _).setCell (p := ⟨N, 7, none⟩) h _).setCell (p := ⟨N, 8, none⟩) h _
end
theorem wi20_c (x y z m : Int) (hm : 0 ≤ m ∧ m ≤ 70368744177664) (w : World) : Calls Tryz.prog 180 #[.agg #[.int .i64 x, .int .i64 y, .int .i64 z], .int .i64 m] w fun r w' => r = .returned (.bool (inI x y z m)) ∧ Below w.heap.size w w' := by
  have hmn := @run_mn3 Tryz.prog
  have hmx := @run_mx3 Tryz.prog
  have q : -9223372036854775808 ≤ -m ∧ -m ≤ 9223372036854775807 := by omega
  obtain ⟨q1, q2⟩ := q
  clear hm
  unfold inI
  by_cases h1 : -m ≤ mn3 x y z
  · by_cases h2 : mx3 x y z ≤ m
    · go_enter Tryz.func180, Tryz.ntmps180
      go_wp2_with fail
      go_returns
      exact ⟨by simp [h1, h2], by (repeat' (first | (with_reducible exact Below.refl _ _) | (with_reducible assumption) | (with_reducible refine Below.alloc ?_ ?_ _) | (with_reducible refine Below.drew ?_) | (with_reducible refine Below.setCell ?_ ?_ _) | (with_reducible refine after ?_ (below_regrown _ _ _)) | (refine after ?_ (by with_reducible assumption)) | go_size))⟩
    · go_enter Tryz.func180, Tryz.ntmps180
      go_wp2_with fail
      go_returns
      exact ⟨by simp [h2], by (repeat' (first | (with_reducible exact Below.refl _ _) | (with_reducible assumption) | (with_reducible refine Below.alloc ?_ ?_ _) | (with_reducible refine Below.drew ?_) | (with_reducible refine Below.setCell ?_ ?_ _) | (with_reducible refine after ?_ (below_regrown _ _ _)) | (refine after ?_ (by with_reducible assumption)) | go_size))⟩
  · go_enter Tryz.func180, Tryz.ntmps180
    go_wp2_with fail
    go_returns
    exact ⟨by simp; omega, by (repeat' (first | (with_reducible exact Below.refl _ _) | (with_reducible assumption) | (with_reducible refine Below.alloc ?_ ?_ _) | (with_reducible refine Below.drew ?_) | (with_reducible refine Below.setCell ?_ ?_ _) | (with_reducible refine after ?_ (below_regrown _ _ _)) | (refine after ?_ (by with_reducible assumption)) | go_size))⟩
set_option maxRecDepth 100000 in
set_option maxHeartbeats 4000000 in
theorem bbox_c (b : BD) (hw : b.2.2.2.2.2.2.1 ≤ 9223372036854775807) (w : World) : Calls Tryz.prog 139 #[.agg (bd9 b)] w fun r w' => r = .returned (.agg (ag6 (boxB b))) ∧ Below w.heap.size w w' := by
  obtain ⟨x, y, z, sx, sy, sz, wd, ht, st⟩ := b
  dsimp only at hw
  have HS := Lib.hid (fun W => stand_c x y z wd ht hw W)
  clear hw
  simp only [boxB, standI, ag6, bd9]
  obtain ⟨W, hW⟩ : ∃ W, W = (w.alloc (.cells #[.int .i64 x, .int .i64 y, .int .i64 z, .int .i64 sx, .int .i64 sy, .int .i64 sz, .int .i64 wd, .int .i64 ht, .bool st] 40)).alloc (.cells #[.int .i64 0, .int .i64 0, .int .i64 0, .int .i64 0, .int .i64 0, .int .i64 0] 210) := ⟨_, rfl⟩
  have H : Below w.heap.size w W := by rw [hW]; go_grown
  have R0 : Blk W (w.heap.size + 1) 210 _ := Blk.eqw hW.symm (Blk.new' (by simp))
  have B0 : Blk W w.heap.size 40 _ := Blk.eqw hW.symm ((Blk.new' rfl).alloc _)
  go_enter Tryz.func139, Tryz.ntmps139
  go_upto_region 1 with (fail)
  rw [← hW]
  clear hW
  obtain ⟨⟨b0, b1, b2, b3, b4, b5, b6, b7, b8⟩, -⟩ := B0.c9
  go_wp2_with (go_at_call 184; refine (HS.out _).mono ?_; rintro e_ w1 ⟨rfl, h1⟩; have R := R0.on h1; obtain ⟨⟨r0, r1, r2, r3, r4, r5⟩, s0, s1, s2, s3, s4, s5⟩ := R.c6)
  have R2 := R.st6 (.int .i64 (subI x (max wd 0 / 2))) (.int .i64 (cutI y)) (.int .i64 (subI z (max wd 0 / 2))) (.int .i64 (addI x (max wd 0 / 2))) (.int .i64 (addI y (max ht 0))) (.int .i64 (addI z (max wd 0 / 2)))
  obtain ⟨⟨d0, d1, d2, d3, d4, d5⟩, -, -, -, -, -, -⟩ := R2.c6
  exact bodyPost_ret (v := .agg #[.int .i64 (subI x (max wd 0 / 2)), .int .i64 (cutI y), .int .i64 (subI z (max wd 0 / 2)), .int .i64 (addI x (max wd 0 / 2)), .int .i64 (addI y (max ht 0)), .int .i64 (addI z (max wd 0 / 2))]) (by simp [results, Tryz.results139, go_sem, d0, d1, d2, d3, d4, d5]) rfl ⟨rfl, by (repeat' (first | (with_reducible exact Below.refl _ _) | (with_reducible assumption) | (with_reducible refine Below.alloc ?_ ?_ _) | (with_reducible refine Below.drew ?_) | (with_reducible refine Below.setCell ?_ ?_ _) | (with_reducible refine after ?_ (below_regrown _ _ _)) | (refine after ?_ (by with_reducible assumption)) | go_size))⟩
set_option maxRecDepth 100000 in
set_option maxHeartbeats 8000000 in
theorem bmay_c (b : BD) (w : World) : Calls Tryz.prog 135 #[.agg (bd9 b)] w fun r w' => r = .returned (.bool (mayB b)) ∧ Below w.heap.size w w' := by
  obtain ⟨x, y, z, sx, sy, sz, wd, ht, st⟩ := b
  have C1 := fun W => wi20_c x y z 70368744177664 ⟨by decide, by decide⟩ W
  have C2 := fun W => wi20_c sx sy sz 262144 ⟨by decide, by decide⟩ W
  unfold mayB
  dsimp only
  generalize inI x y z 70368744177664 = p1 at C1 ⊢
  generalize inI sx sy sz 262144 = p2 at C2 ⊢
  have D1 := Lib.hid C1
  have D2 := Lib.hid C2
  clear C1 C2
  obtain ⟨W, hW⟩ : ∃ W, W = w.alloc (.cells #[.int .i64 x, .int .i64 y, .int .i64 z, .int .i64 sx, .int .i64 sy, .int .i64 sz, .int .i64 wd, .int .i64 ht, .bool st] 40) := ⟨_, rfl⟩
  have H : Below w.heap.size w W := by rw [hW]; go_grown
  have B0 : Blk W w.heap.size 40 _ := Blk.eqw hW.symm (Blk.new' rfl)
  simp only [bd9]
  obtain ⟨⟨b0, b1, b2, b3, b4, b5, b6, b7, b8⟩, -⟩ := B0.c9
  by_cases h1 : 2 ≤ wd
  · by_cases h2 : wd ≤ 131072
    · by_cases h3 : 1 ≤ ht
      · by_cases h4 : ht ≤ 262144
        · have e : (decide (2 ≤ wd) && decide (wd ≤ 131072) && decide (1 ≤ ht) && decide (ht ≤ 262144) && p1 && p2) = (p1 && p2) := by simp [h1, h2, h3, h4]
          rw [e]
          cases p1
          · go_enter Tryz.func135, Tryz.ntmps135
            go_upto_region 1 with (fail)
            rw [← hW]
            clear hW
            go_wp2_with (go_at_call 180; refine (D1.out _).mono ?_; rintro e_ w1 ⟨rfl, k1⟩)
            go_returns
            exact ⟨by simp, after H k1⟩
          · go_enter Tryz.func135, Tryz.ntmps135
            go_upto_region 1 with (fail)
            rw [← hW]
            clear hW
            go_wp2_with (go_at_call 180; first | (refine (D1.out _).mono ?_; rintro e_ w1 ⟨rfl, k1⟩; clear D1; obtain ⟨⟨b0, b1, b2, b3, b4, b5, b6, b7, b8⟩, -⟩ := (B0.on k1).c9) | (refine (D2.out _).mono ?_; rintro e_ w2 ⟨rfl, k2⟩))
            go_returns
            exact ⟨by simp, after (after H k1) k2⟩
        · have e : (decide (2 ≤ wd) && decide (wd ≤ 131072) && decide (1 ≤ ht) && decide (ht ≤ 262144) && p1 && p2) = false := by simp [h4]
          rw [e]
          go_enter Tryz.func135, Tryz.ntmps135
          go_upto_region 1 with (fail)
          rw [← hW]
          clear hW D1 D2
          go_wp2_with fail
          go_returns
          exact ⟨by simp, H⟩
      · have e : (decide (2 ≤ wd) && decide (wd ≤ 131072) && decide (1 ≤ ht) && decide (ht ≤ 262144) && p1 && p2) = false := by simp [h3]
        rw [e]
        go_enter Tryz.func135, Tryz.ntmps135
        go_upto_region 1 with (fail)
        rw [← hW]
        clear hW D1 D2
        go_wp2_with fail
        go_returns
        exact ⟨by simp, H⟩
    · have e : (decide (2 ≤ wd) && decide (wd ≤ 131072) && decide (1 ≤ ht) && decide (ht ≤ 262144) && p1 && p2) = false := by simp [h2]
      rw [e]
      go_enter Tryz.func135, Tryz.ntmps135
      go_upto_region 1 with (fail)
      rw [← hW]
      clear hW D1 D2
      go_wp2_with fail
      go_returns
      exact ⟨by simp, H⟩
  · have e : (decide (2 ≤ wd) && decide (wd ≤ 131072) && decide (1 ≤ ht) && decide (ht ≤ 262144) && p1 && p2) = false := by simp [h1]
    rw [e]
    go_enter Tryz.func135, Tryz.ntmps135
    go_upto_region 1 with (fail)
    rw [← hW]
    clear hW D1 D2
    go_wp2_with fail
    go_returns
    exact ⟨by simp, H⟩
end Go.Proofs.YtmbccnioijokfaaGreatDoor

namespace Go.Proofs.YtmbccnioijokfaaGreatDoor
def sh6 (x : B6) (p q r : Int) : B6 := (x.1 + p, x.2.1 + q, x.2.2.1 + r, x.2.2.2.1 + p, x.2.2.2.2.1 + q, x.2.2.2.2.2 + r)
section
variable {val : Cl → Int} {M : Int} {x : B6}
theorem sh6_sh (x : B6) (p q r p' q' r' : Int) : sh6 (sh6 x p q r) p' q' r' = sh6 x (p + p') (q + q') (r + r') := by
  unfold sh6
  simp only [Prod.mk.injEq]
  refine ⟨?_, ?_, ?_, ?_, ?_, ?_⟩ <;> omega
theorem mv_sh (h : Sm6 M x) (hM : M ≤ 74000000000000) {axis n : Int} (ha : axis = 0 ∨ axis = 1 ∨ axis = 2) (h1 : -10000000 ≤ n) (h2 : n ≤ 10000000) :
    mv6 x axis n = sh6 x (if axis = 0 then n else 0) (if axis = 1 then n else 0) (if axis = 2 then n else 0) := by
  obtain ⟨a1, b1, c1, a2, b2, c2, d1, d2, d3, e1, e2, e3⟩ := h
  unfold mv6 sh6
  rw [wi0 h1 h2, wi0 h1 h2, wi0 h1 h2]
  rcases ha with rfl | rfl | rfl
  · simp only [if_true, show ¬ ((1 : Int) = 0) by decide, show ¬ ((0 : Int) = 1) by decide, show ¬ ((2 : Int) = 0) by decide, show ¬ ((0 : Int) = 2) by decide, if_false]
    rw [addI_in (by omega) (by omega) h1 h2, addI_in (by omega) (by omega) (by omega) (by omega), addI_in (by omega) (by omega) (by omega) (by omega), addI_in (by omega) (by omega) h1 h2, addI_in (by omega) (by omega) (by omega) (by omega), addI_in (by omega) (by omega) (by omega) (by omega)]
  · simp only [if_true, show ¬ ((1 : Int) = 0) by decide, show ¬ ((0 : Int) = 1) by decide, show ¬ ((2 : Int) = 1) by decide, show ¬ ((1 : Int) = 2) by decide, if_false]
    rw [addI_in (by omega) (by omega) (by omega) (by omega), addI_in (by omega) (by omega) h1 h2, addI_in (by omega) (by omega) (by omega) (by omega), addI_in (by omega) (by omega) (by omega) (by omega), addI_in (by omega) (by omega) h1 h2, addI_in (by omega) (by omega) (by omega) (by omega)]
  · simp only [if_true, show ¬ ((1 : Int) = 2) by decide, show ¬ ((0 : Int) = 2) by decide, show ¬ ((2 : Int) = 1) by decide, show ¬ ((2 : Int) = 0) by decide, if_false]
    rw [addI_in (by omega) (by omega) (by omega) (by omega), addI_in (by omega) (by omega) (by omega) (by omega), addI_in (by omega) (by omega) h1 h2, addI_in (by omega) (by omega) (by omega) (by omega), addI_in (by omega) (by omega) (by omega) (by omega), addI_in (by omega) (by omega) h1 h2]
theorem sh_sm (h : Sm6 M x) {p q r K : Int} (hp : -K ≤ p ∧ p ≤ K) (hq : -K ≤ q ∧ q ≤ K) (hr : -K ≤ r ∧ r ≤ K) : Sm6 (M + K) (sh6 x p q r) := by
  obtain ⟨a1, b1, c1, a2, b2, c2, d1, d2, d3, e1, e2, e3⟩ := h
  unfold sh6
  constructor <;> dsimp only <;> omega
def Btw (n d : Int) : Prop := (0 ≤ n ∧ n ≤ d) ∨ (d ≤ n ∧ n ≤ 0)
theorem al_sh (val : Cl → Int) (h : Sm6 M x) (hM : M ≤ 74000000000000) {axis d : Int} (ha : axis = 0 ∨ axis = 1 ∨ axis = 2) (h1 : -4194304 ≤ d) (h2 : d ≤ 4194304) :
    ∃ n hit, al6 val x axis d = (sh6 x (if axis = 0 then n else 0) (if axis = 1 then n else 0) (if axis = 2 then n else 0), hit) ∧ Btw n d ∧ (hit = false → n = d) := by
  obtain ⟨h3, h4⟩ := ax6_say val x (i := axis) (by omega) h1 h2
  refine ⟨(ax6 val x axis d).1, (ax6 val x axis d).2, ?_, ?_, h4⟩
  · unfold al6
    rw [mv_sh h hM ha (by omega) (by omega)]
  · unfold Btw
    rcases h3 with ⟨a, b, c⟩ | ⟨a, b, c⟩
    · exact .inl ⟨b, c⟩
    · exact .inr ⟨b, c⟩
theorem Btw.bd {n d K : Int} (h : Btw n d) (h1 : -K ≤ d) (h2 : d ≤ K) : -K ≤ n ∧ n ≤ K := by unfold Btw at h; omega
theorem st3_sh (val : Cl → Int) (h : Sm6 M x) (hM : M ≤ 73000000000000) {dx dy dz : Int} (hx : -4194304 ≤ dx ∧ dx ≤ 4194304) (hy : -4194304 ≤ dy ∧ dy ≤ 4194304) (hz : -4194304 ≤ dz ∧ dz ≤ 4194304) :
    ∃ p q r, st3 val x dx dy dz = sh6 x p q r ∧ Btw p dx ∧ Btw q dy ∧ Btw r dz := by
  obtain ⟨q, t1, e1, b1, -⟩ := al_sh val h (by omega) (axis := 1) (by decide) hy.1 hy.2
  have s1 : Sm6 (M + 4194304) (sh6 x 0 q 0) := sh_sm h (by omega) (b1.bd hy.1 hy.2) (by omega)
  have e1' : st1 val x dy = sh6 x 0 q 0 := by unfold st1; rw [e1]; rfl
  obtain ⟨p, t2, e2, b2, -⟩ := al_sh val s1 (by omega) (axis := 0) (by decide) hx.1 hx.2
  have e2' : st2 val x dx dy = sh6 x p q 0 := by
    unfold st2; rw [e1', e2]
    show sh6 (sh6 x 0 q 0) p 0 0 = _
    rw [sh6_sh, Int.zero_add, Int.add_zero, Int.add_zero]
  have s2 : Sm6 (M + 4194304) (sh6 x p q 0) := sh_sm h (b2.bd hx.1 hx.2) (b1.bd hy.1 hy.2) (by omega)
  obtain ⟨r, t3, e3, b3, -⟩ := al_sh val s2 (by omega) (axis := 2) (by decide) hz.1 hz.2
  refine ⟨p, q, r, ?_, b2, b1, b3⟩
  unfold st3; rw [e2', e3]
  show sh6 (sh6 x p q 0) 0 0 r = _
  rw [sh6_sh, Int.zero_add, Int.add_zero, Int.add_zero]
theorem stepV_sh (val : Cl → Int) (h : Sm6 M x) (hM : M ≤ 73000000000000) {dx dy dz up : Int} (hx : -4194304 ≤ dx ∧ dx ≤ 4194304) (hy : -4194304 ≤ dy ∧ dy ≤ 4194304) (hz : -4194304 ≤ dz ∧ dz ≤ 4194304) (hu : 0 ≤ up ∧ up ≤ 65536) :
    ∃ p q r, (stepV val x dx dy dz up).1 = sh6 x p q r ∧ Btw p dx ∧ (Btw q dy ∨ (0 ≤ q ∧ q ≤ up)) ∧ Btw r dz := by
  unfold stepV stepOf
  split
  · have hm : mnI up 65536 = up := by unfold mnI; omega
    obtain ⟨q, t1, e1, b1, -⟩ := al_sh val h (by omega) (axis := 1) (d := up) (by decide) (by omega) (by omega)
    have hq : 0 ≤ q ∧ q ≤ up := by unfold Btw at b1; omega
    have s1 : Sm6 (M + 4194304) (sh6 x 0 q 0) := sh_sm h (by omega) (by omega) (by omega)
    have e1' : (hi1 val x up).1 = sh6 x 0 q 0 := by unfold hi1; rw [hm, e1]; rfl
    have hr : rise val x up = q := by
      unfold rise; rw [e1']; unfold sh6; dsimp only; omega
    obtain ⟨p, t2, e2, b2, -⟩ := al_sh val s1 (by omega) (axis := 0) (by decide) hx.1 hx.2
    have e2' : (oA val x dx up).1 = sh6 x p q 0 := by
      unfold oA; rw [e1', e2]
      show sh6 (sh6 x 0 q 0) p 0 0 = _
      rw [sh6_sh, Int.zero_add, Int.add_zero, Int.add_zero]
    have s2 : Sm6 (M + 4194304) (sh6 x p q 0) := sh_sm h (b2.bd hx.1 hx.2) (by omega) (by omega)
    obtain ⟨r, t3, e3, b3, -⟩ := al_sh val s2 (by omega) (axis := 2) (by decide) hz.1 hz.2
    have e3' : (oB val x dx dz up).1 = sh6 x p q r := by
      unfold oB; rw [e2', e3]
      show sh6 (sh6 x p q 0) 0 0 r = _
      rw [sh6_sh, Int.zero_add, Int.add_zero, Int.add_zero]
    have s3 : Sm6 (M + 4194304) (sh6 x p q r) := sh_sm h (b2.bd hx.1 hx.2) (by omega) (b3.bd hz.1 hz.2)
    obtain ⟨s, t4, e4, b4, -⟩ := al_sh val s3 (by omega) (axis := 1) (d := -q) (by decide) (by omega) (by omega)
    refine ⟨p, q + s, r, ?_, b2, .inr ?_, b3⟩
    · show (oC val x dx dz up).1 = _
      unfold oC; rw [e3', hr, e4]
      show sh6 (sh6 x p q r) 0 s 0 = _
      rw [sh6_sh, Int.add_zero, Int.add_zero]
    · unfold Btw at b4; omega
  · obtain ⟨p, q, r, e, b1, b2, b3⟩ := st3_sh val h hM hx hy hz
    exact ⟨p, q, r, e, b1, .inl b2, b3⟩
theorem fw_id {n d : Int} (h1 : -70000000000000 ≤ n) (h2 : n ≤ 70000000000000) (h3 : -4194304 ≤ d) (h4 : d ≤ 4194304) : fwI n d = d := by
  unfold fwI clI mnI mxI subI
  rw [addI_in (by omega) (by omega) (by omega) (by omega)]
  unfold cutI
  omega
theorem zb_bd {h : Bool} {n K : Int} (h1 : -K ≤ n ∧ n ≤ K) : -K ≤ zb h n ∧ zb h n ≤ K := by unfold zb; split <;> omega
theorem walk_bd (n : Int) : -16384 ≤ walkI n ∧ walkI n ≤ 16384 := by
  unfold walkI mnI mxI
  rw [mulI_p (p := cutI (min (max n (-65536)) 65536) * 16384) (by rw [cutI_id (n := 16384) (by decide) (by decide)])]
  unfold cutI
  omega
theorem rise_bd (c w s j : Bool) {n : Int} (h : -262144 ≤ n ∧ n ≤ 262144) : -262144 ≤ riseI c w s j n ∧ riseI c w s j n ≤ 262144 := by
  unfold riseI mxI
  split
  · split <;> omega
  · split
    · split <;> omega
    · split <;> omega
theorem goB_say (val : Cl → Int) {b : BD} (h : BOk M b) (hM0 : 0 ≤ M) (hM : M ≤ 70000000000000) :
    ∃ p q r, (goV val b).1 = sh6 (boxB b) p q r ∧ goB val b = (b.1 + p, b.2.1 + q, b.2.2.1 + r, zb (goV val b).2.1 b.2.2.2.1, zb (goV val b).2.2.1 b.2.2.2.2.1, zb (goV val b).2.2.2 b.2.2.2.2.2.1, b.2.2.2.2.2.2.1, b.2.2.2.2.2.2.2.1, unB val (goV val b).1) ∧
      Btw p b.2.2.2.1 ∧ (Btw q b.2.2.2.2.1 ∨ (0 ≤ q ∧ q ≤ 32768)) ∧ Btw r b.2.2.2.2.2.1 := by
  obtain ⟨hS, -⟩ := h.box (by omega)
  obtain ⟨hx, hy, hz, sx, sy, sz, hw, hh⟩ := id h
  have e : goV val b = stepV val (boxB b) b.2.2.2.1 b.2.2.2.2.1 b.2.2.2.2.2.1 32768 := by
    unfold goV
    rw [fw_id (by omega) (by omega) (by omega) (by omega), fw_id (by omega) (by omega) (by omega) (by omega), fw_id (by omega) (by omega) (by omega) (by omega)]
  obtain ⟨p, q, r, e1, b1, b2, b3⟩ := stepV_sh val hS (by omega) (dx := b.2.2.2.1) (dy := b.2.2.2.2.1) (dz := b.2.2.2.2.2.1) (up := 32768) (by omega) (by omega) (by omega) (by omega)
  rw [← e] at e1
  have p1 := b1.bd sx.1 sx.2
  have r1 := b3.bd sz.1 sz.2
  have q1 : -262144 ≤ q ∧ q ≤ 262144 := by
    rcases b2 with b2 | b2
    · exact b2.bd sy.1 sy.2
    · omega
  have s := hS
  obtain ⟨a1, c1, d1, a2, c2, d2, -, -, -, -, -, -⟩ := s
  refine ⟨p, q, r, e1, ?_, b1, b2, b3⟩
  unfold goB putB
  rw [e1]
  unfold sh6
  dsimp only
  have key : ∀ {a o n : Int}, -70000000000000 ≤ a → a ≤ 70000000000000 → -71000000000000 ≤ o → o ≤ 71000000000000 → -262144 ≤ n → n ≤ 262144 → addI a (subI (o + n) o) = a + n := fun {a o n} g1 g2 g3 g4 g5 g6 => by
    have : subI (o + n) o = n := by unfold subI cutI; omega
    rw [this, addI_in (by omega) (by omega) (by omega) (by omega)]
  rw [key (by omega) (by omega) (by omega) (by omega) p1.1 p1.2, key (by omega) (by omega) (by omega) (by omega) q1.1 q1.2, key (by omega) (by omega) (by omega) (by omega) r1.1 r1.2]
theorem BOk.walk {b : BD} (h : BOk M b) (ix iz : Int) : BOk M (walkB b ix iz) := by
  obtain ⟨hx, hy, hz, sx, sy, sz, hw, hh⟩ := h
  have w1 := walk_bd ix
  have w2 := walk_bd iz
  exact ⟨hx, hy, hz, by dsimp only [walkB]; omega, sy, by dsimp only [walkB]; omega, hw, hh⟩
theorem BOk.rise {b : BD} (h : BOk M b) (val : Cl → Int) (j : Bool) : BOk M (riseB val b j) := by
  obtain ⟨hx, hy, hz, sx, sy, sz, hw, hh⟩ := h
  exact ⟨hx, hy, hz, sx, rise_bd _ _ _ _ sy, sz, hw, hh⟩
theorem BOk.mono {M' : Int} {b : BD} (h : BOk M b) (hm : M ≤ M') : BOk M' b := by
  obtain ⟨hx, hy, hz, sx, sy, sz, hw, hh⟩ := h
  exact ⟨by omega, by omega, by omega, sx, sy, sz, hw, hh⟩
theorem BOk.go {b : BD} (h : BOk M b) (hM0 : 0 ≤ M) (hM : M ≤ 70000000000000) (val : Cl → Int) : BOk (M + 262144) (goB val b) := by
  obtain ⟨p, q, r, -, e, b1, b2, b3⟩ := goB_say val h hM0 hM
  obtain ⟨hx, hy, hz, sx, sy, sz, hw, hh⟩ := h
  have p1 := b1.bd sx.1 sx.2
  have r1 := b3.bd sz.1 sz.2
  have q1 : -262144 ≤ q ∧ q ≤ 262144 := by
    rcases b2 with b2 | b2
    · exact b2.bd sy.1 sy.2
    · omega
  rw [e]
  exact ⟨by dsimp only; omega, by dsimp only; omega, by dsimp only; omega, zb_bd sx, zb_bd sy, zb_bd sz, hw, hh⟩
theorem BOk.step {b : BD} (h : BOk M b) (hM0 : 0 ≤ M) (hM : M ≤ 70000000000000) (val : Cl → Int) (ix iz : Int) (j : Bool) : BOk (M + 262144) (stepB val b ix iz j) := ((h.walk ix iz).rise val j).go hM0 hM val
end
end Go.Proofs.YtmbccnioijokfaaGreatDoor

namespace Go.Proofs.YtmbccnioijokfaaGreatDoor
structure StFree (val : Cl → Int) (b s : BD) : Prop where
  wd : s.2.2.2.2.2.2.1 = b.2.2.2.2.2.2.1
  ht : s.2.2.2.2.2.2.2.1 = b.2.2.2.2.2.2.2.1
  x : -16384 ≤ s.1 - b.1 ∧ s.1 - b.1 ≤ 32768
  y : -262144 ≤ s.2.1 - b.2.1 ∧ s.2.1 - b.2.1 ≤ 262144
  z : -16384 ≤ s.2.2.1 - b.2.2.1 ∧ s.2.2.1 - b.2.2.1 ≤ 32768
  free : blk6 val (boxB b) = false → blk6 val (boxB s) = false
theorem box_shift {M : Int} {b s : BD} {p q r : Int} (h : BOk M b) (hs : BOk M s) (hM : M ≤ 71000000000000) (e1 : s.1 = b.1 + p) (e2 : s.2.1 = b.2.1 + q) (e3 : s.2.2.1 = b.2.2.1 + r) (e4 : s.2.2.2.2.2.2.1 = b.2.2.2.2.2.2.1) (e5 : s.2.2.2.2.2.2.2.1 = b.2.2.2.2.2.2.2.1) : boxB s = sh6 (boxB b) p q r := by
  have hb := (h.box hM).2
  have hs' := (hs.box hM).2
  obtain ⟨x, y, z, sx, sy, sz, wd, ht, st⟩ := b
  obtain ⟨x', y', z', sx', sy', sz', wd', ht', st'⟩ := s
  dsimp only at e1 e2 e3 e4 e5 hb hs'
  subst e1 e2 e3 e4 e5
  rw [hb, hs']
  unfold sh6
  dsimp only
  simp only [Prod.mk.injEq]
  refine ⟨?_, ?_, ?_, ?_, ?_, ?_⟩ <;> first | trivial | omega
theorem step_free (val : Cl → Int) {M : Int} {b : BD} (h : BOk M b) (hM0 : 0 ≤ M) (hM : M ≤ 70000000000000) (ix iz : Int) (j : Bool) : StFree val b (stepB val b ix iz j) := by
  have h2 := (h.walk ix iz).rise val j
  have hbx : boxB (riseB val (walkB b ix iz) j) = boxB b := by rw [boxB_rise, boxB_walk]
  have hst := h.step hM0 hM val ix iz j
  obtain ⟨p, q, r, e1, e2, b1, b2, b3⟩ := goB_say val h2 hM0 hM
  have c1 : (riseB val (walkB b ix iz) j).1 = b.1 := by unfold riseB walkB; rfl
  have c2 : (riseB val (walkB b ix iz) j).2.1 = b.2.1 := by unfold riseB walkB; rfl
  have c3 : (riseB val (walkB b ix iz) j).2.2.1 = b.2.2.1 := by unfold riseB walkB; rfl
  have c4 : (riseB val (walkB b ix iz) j).2.2.2.2.2.2.1 = b.2.2.2.2.2.2.1 := by unfold riseB walkB; rfl
  have c5 : (riseB val (walkB b ix iz) j).2.2.2.2.2.2.2.1 = b.2.2.2.2.2.2.2.1 := by unfold riseB walkB; rfl
  have c6 : (riseB val (walkB b ix iz) j).2.2.2.1 = walkI ix := by unfold riseB walkB; rfl
  have c7 : (riseB val (walkB b ix iz) j).2.2.2.2.2.1 = walkI iz := by unfold riseB walkB; rfl
  have w1 := walk_bd ix
  have w2 := walk_bd iz
  have sy := h2.sy
  rw [c6] at b1
  rw [c7] at b3
  have e : stepB val b ix iz j = goB val (riseB val (walkB b ix iz) j) := by unfold stepB; rfl
  have k1 : (stepB val b ix iz j).1 = b.1 + p := by rw [e, e2]; dsimp only; rw [c1]
  have k2 : (stepB val b ix iz j).2.1 = b.2.1 + q := by rw [e, e2]; dsimp only; rw [c2]
  have k3 : (stepB val b ix iz j).2.2.1 = b.2.2.1 + r := by rw [e, e2]; dsimp only; rw [c3]
  have k4 : (stepB val b ix iz j).2.2.2.2.2.2.1 = b.2.2.2.2.2.2.1 := by rw [e, e2]; dsimp only; rw [c4]
  have k5 : (stepB val b ix iz j).2.2.2.2.2.2.2.1 = b.2.2.2.2.2.2.2.1 := by rw [e, e2]; dsimp only; rw [c5]
  have p1 := b1.bd w1.1 w1.2
  have r1 := b3.bd w2.1 w2.2
  have q1 : -262144 ≤ q ∧ q ≤ 262144 := by
    rcases b2 with b2 | b2
    · exact b2.bd sy.1 sy.2
    · omega
  refine ⟨k4, k5, by rw [k1]; omega, by rw [k2]; omega, by rw [k3]; omega, fun hf => ?_⟩
  rw [box_shift (h.mono (M' := M + 262144) (by omega)) hst (by omega) k1 k2 k3 k4 k5, ← hbx, ← e1]
  obtain ⟨hS, -⟩ := h2.box (by omega)
  unfold goV
  exact free_stepV hS (by omega) (by omega) (by rw [hbx]; exact hf)
end Go.Proofs.YtmbccnioijokfaaGreatDoor

namespace Go.Proofs.YtmbccnioijokfaaGreatDoor
abbrev V3 := Int × Int × Int
section
variable {M : Int} {a b : BD}
end
end Go.Proofs.YtmbccnioijokfaaGreatDoor

namespace Go.Proofs.YtmbccnioijokfaaGreatDoor
section
variable {val : Cl → Int} {M : Int} {l : List BD}
structure AllOk (val : Cl → Int) (M : Int) (l0 l : List BD) : Prop where
  len : l.length = l0.length
  ok : ∀ (i : Nat) (b : BD), l[i]? = some b → BOk M b
  free : ∀ (i : Nat) (a b : BD), l0[i]? = some a → l[i]? = some b → blk6 val (boxB a) = false → blk6 val (boxB b) = false
theorem AllOk.mono {M' : Int} {l0 : List BD} (h : AllOk val M l0 l) (hm : M ≤ M') : AllOk val M' l0 l := ⟨h.len, fun i b hi => (h.ok i b hi).mono hm, h.free⟩
end
end Go.Proofs.YtmbccnioijokfaaGreatDoor

namespace Go.Proofs.YtmbccnioijokfaaGreatDoor
open Go.ChangeShapes Go.WideShapes Go.ChangeAt Go.RowKit
def Rws {α : Type} (K : Nat) (enc : α → List Value) (w : World) (q : Option Addr) (n : Nat) (F : Nat → α) : Prop := 0 < n → ∃ g o, q = some ⟨g, o, none⟩ ∧ ∀ i, i < n → ∀ j u, (enc (F i))[j]? = some u → w.cell? ⟨g, o + i * K + j, none⟩ = some u
theorem Rws.on {α : Type} {K : Nat} {enc : α → List Value} {w w' : World} {q : Option Addr} {n : Nat} {F : Nat → α} (h : Rws K enc w q n F) (hb : Below w.heap.size w w') : Rws K enc w' q n F := fun hn => by
  obtain ⟨g, o, e, h1⟩ := h hn
  exact ⟨g, o, e, fun i hi j u hu => by rw [cell_below hb (cell_lt (h1 i hi j u hu))]; exact h1 i hi j u hu⟩
section
variable {H : Type} {enc : TypeId × Value → H} {P : Program}
theorem open_rws {α : Type} [Inhabited α] {K : Nat} (en : α → List Value) (ok : α → Prop) {w : World} {r : Reach} {b0 base : Nat} {spare : Nat → Bool} {held : Bool} {ts t : TypeId} {v : Value} {d : DataW H} {p : List MemPlace} (hts : P.underlying ts = some (.slice t)) (hC : P.cellsOf t = K)
    (hlen : ∀ a, (en a).length = K) (hK : ∃ k, K = k + 1 ∧ ∀ w (a : Addr) x, World.cell? w a = (en x)[0]? → a.spot = none)
    (hrd : ∀ fuel cs x, cs.length = K → DataW.trod enc P w base spare held fuel t cs = some x → ∃ a, cs = en a ∧ ok a)
    (hv : Value.okWide P w r b0 ts v) (h : DataW.Trod enc P w base spare held ts v d p) :
    ∃ q n cap F, v = .slice q n cap ∧ n ≤ cap ∧ cap ≤ maxLen ∧ Rws K en w q n F ∧ ∀ i, i < n → ok (F i) := by
  obtain ⟨a1, len1, cap1, rfl⟩ := okWide_slice hts hv
  obtain ⟨fuel, h⟩ := h
  rcases Go.Deep.open_slice hts h with ⟨hcs, _⟩ | ⟨a, len, cap, m, k, D, Pl, hcs, _, hl, hm, hmm, _, hel⟩
  · simp [Value.cells] at hcs
    obtain ⟨rfl, rfl, rfl⟩ := hcs
    exact ⟨_, _, _, fun _ => default, rfl, Nat.le_refl _, by decide, fun h => by omega, fun i hi => by omega⟩
  · simp [Value.cells] at hcs
    obtain ⟨rfl, rfl, rfl⟩ := hcs
    by_cases hn : len1 = 0
    · subst hn; exact ⟨_, _, _, fun _ => default, rfl, hl, hm, fun h => by omega, fun i hi => by omega⟩
    have hlm : len1 ≤ m := by rw [hmm]; split <;> omega
    obtain ⟨g, o, sp⟩ := a
    rw [hC] at hel
    have hex : ∀ i, i < len1 → ∃ x, ok x ∧ ∀ j u, (en x)[j]? = some u → w.cell? ((Addr.mk g o sp).add (i * K + j)) = some u := by
      intro i hi'
      obtain ⟨cs', hc, ht'⟩ := hel i (by omega)
      obtain ⟨_, hcl, hat⟩ := World.cells?_some hc
      obtain ⟨x, e, hx⟩ := hrd _ _ _ hcl ht'
      refine ⟨x, hx, fun j u hu => ?_⟩
      have hj : j < K := by
        have := (List.getElem?_eq_some_iff.1 hu).1
        rw [hlen] at this; exact this
      have h1 := hat j hj
      rw [Go.Deep.add_add] at h1
      rw [h1, e]
      exact hu
    obtain ⟨F, hF⟩ : ∃ F : Nat → α, ∀ i, i < len1 → ok (F i) ∧ ∀ j u, (en (F i))[j]? = some u → w.cell? ((Addr.mk g o sp).add (i * K + j)) = some u := by
      refine ⟨fun i => if h : i < len1 then Classical.choose (hex i h) else default, fun i hi => ?_⟩
      have e : (if h : i < len1 then Classical.choose (hex i h) else default) = Classical.choose (hex i hi) := dif_pos hi
      dsimp only
      rw [e]
      exact Classical.choose_spec (hex i hi)
    have hsp : sp = none := by
      obtain ⟨k', hk', hs⟩ := hK
      obtain ⟨u, hu⟩ : ∃ u, (en (F 0))[0]? = some u := ⟨_, List.getElem?_eq_getElem (by rw [hlen]; omega)⟩
      have := (hF 0 (by omega)).2 0 u hu
      have h3 := hs w _ (F 0) (this.trans hu.symm)
      simpa [Addr.add] using h3
    subst hsp
    have had : ∀ k, (Addr.mk g o none).add k = ⟨g, o + k, none⟩ := fun k => by
      unfold Addr.add
      by_cases hk : k = 0 <;> simp [hk]
    refine ⟨_, len1, cap1, F, rfl, hl, hm, fun _ => ⟨g, o, rfl, fun i hi j u hu => ?_⟩, fun i hi => (hF i hi).1⟩
    have := (hF i hi).2 j u hu
    rwa [had, ← Nat.add_assoc] at this
def bdFields (P : Program) (f0 f1 f2 f3 f4 : Field) (tv ti tb : TypeId) : Bool :=
  ((f0.offset == 0 && f1.offset == 3) && (f2.offset == 6 && (f3.offset == 7 && f4.offset == 8))) && (((f0.type == tv && f1.type == tv) && (f2.type == ti && (f3.type == ti && f4.type == tb))) && (P.cellsOf tv == 3 && (P.cellsOf ti == 1 && P.cellsOf tb == 1)))
def Bd64 (b : BD) : Prop := In64 b.1 ∧ In64 b.2.1 ∧ In64 b.2.2.1 ∧ In64 b.2.2.2.1 ∧ In64 b.2.2.2.2.1 ∧ In64 b.2.2.2.2.2.1 ∧ In64 b.2.2.2.2.2.2.1 ∧ In64 b.2.2.2.2.2.2.2.1
theorem trod_bd {w : World} {base fuel : Nat} {spare : Nat → Bool} {held : Bool} {t tv ti tb : TypeId} {g0 g1 g2 g3 g4 f0 f1 f2 : Field} {cs : List Value} {x : DataW H × List MemPlace} (hb : P.underlying t = some (.struct #[g0, g1, g2, g3, g4]))
    (hs : P.underlying tv = some (.struct #[f0, f1, f2])) (hg : bdFields P g0 g1 g2 g3 g4 tv ti tb = true) (hf : vecFields P f0 f1 f2 ti = true) (hi : P.underlying ti = some (.int .i64)) (htb : P.underlying tb = some .bool) (hl : cs.length = 9) (h : DataW.trod enc P w base spare held fuel t cs = some x) :
    ∃ b : BD, cs = (bd9 b).toList ∧ Bd64 b := by
  simp only [bdFields, Bool.and_eq_true, beq_iff_eq] at hg
  obtain ⟨⟨⟨o0, o1⟩, o2, o3, o4⟩, ⟨⟨t0, t1⟩, t2, t3, t4⟩, c1, c2, c3⟩ := hg
  obtain ⟨xs, n, _, _, _, hxl, hgg⟩ := DataW.trod_struct hb h
  match cs, hl with
  | [v0, v1, v2, v3, v4, v5, v6, v7, v8], _ =>
    match xs, hxl with
    | [y0, y1, y2, y3, y4], _ =>
      have k0 := hgg 0 g0 rfl
      have k1 := hgg 1 g1 rfl
      have k2 := hgg 2 g2 rfl
      have k3 := hgg 3 g3 rfl
      have k4 := hgg 4 g4 rfl
      rw [o0, t0, c1] at k0
      rw [o1, t1, c1] at k1
      rw [o2, t2, c2] at k2
      rw [o3, t3, c2] at k3
      rw [o4, t4, c3] at k4
      obtain ⟨a, b, c, e0, wa, wb, wc⟩ := trod_vec (x := y0) hs hf hi rfl k0
      obtain ⟨d, e, f, e1, wd, we, wf⟩ := trod_vec (x := y1) hs hf hi rfl k1
      obtain ⟨m, e2, _, wm⟩ := DataW.trod_int (x := y2) hi k2
      obtain ⟨l, e3, _, wl⟩ := DataW.trod_int (x := y3) hi k3
      obtain ⟨s, e4, _⟩ := DataW.trod_bool (x := y4) htb k4
      simp at e0 e1 e2 e3 e4
      obtain ⟨rfl, rfl, rfl⟩ := e0
      obtain ⟨rfl, rfl, rfl⟩ := e1
      subst e2 e3 e4
      exact ⟨(a, b, c, d, e, f, m, l, s), rfl, wa, wb, wc, wd, we, wf, in64_of_wf wm, in64_of_wf wl⟩
abbrev InD := Int × Int × Bool
def enIn (a : InD) : List Value := [.int .i64 a.1, .int .i64 a.2.1, .bool a.2.2]
def enBd (b : BD) : List Value := (bd9 b).toList
def inFields (P : Program) (f0 f1 f2 : Field) (ti tb : TypeId) : Bool :=
  (f0.offset == 0 && (f1.offset == 1 && f2.offset == 2)) && ((f0.type == ti && (f1.type == ti && f2.type == tb)) && (P.cellsOf ti == 1 && P.cellsOf tb == 1))
theorem trod_in {w : World} {base fuel : Nat} {spare : Nat → Bool} {held : Bool} {t ti tb : TypeId} {f0 f1 f2 : Field} {cs : List Value} {x : DataW H × List MemPlace} (hs : P.underlying t = some (.struct #[f0, f1, f2]))
    (hf : inFields P f0 f1 f2 ti tb = true) (hi : P.underlying ti = some (.int .i64)) (htb : P.underlying tb = some .bool) (hl : cs.length = 3) (h : DataW.trod enc P w base spare held fuel t cs = some x) :
    ∃ a : InD, cs = enIn a ∧ In64 a.1 ∧ In64 a.2.1 := by
  simp only [inFields, Bool.and_eq_true, beq_iff_eq] at hf
  obtain ⟨⟨o0, o1, o2⟩, ⟨t0, t1, t2⟩, c1, c2⟩ := hf
  obtain ⟨xs, n, _, _, _, hxl, hg⟩ := DataW.trod_struct hs h
  match cs, hl with
  | [v0, v1, v2], _ =>
    match xs, hxl with
    | [y0, y1, y2], _ =>
      have g0 := hg 0 f0 rfl
      have g1 := hg 1 f1 rfl
      have g2 := hg 2 f2 rfl
      rw [o0, t0, c1] at g0
      rw [o1, t1, c1] at g1
      rw [o2, t2, c2] at g2
      obtain ⟨a, ha, _, wa⟩ := DataW.trod_int (x := y0) hi g0
      obtain ⟨b, hb, _, wb⟩ := DataW.trod_int (x := y1) hi g1
      obtain ⟨c, hc', _⟩ := DataW.trod_bool (x := y2) htb g2
      simp at ha hb hc'
      subst ha hb hc'
      exact ⟨(a, b, c), rfl, in64_of_wf wa, in64_of_wf wb⟩
theorem spot_int {w : World} {a : Addr} {k : IntKind} {n : Int} (h : World.cell? w a = some (.int k n)) : a.spot = none := cell_spot h
theorem open_ins {w : World} {r : Reach} {b0 base : Nat} {spare : Nat → Bool} {held : Bool} {ts t ti tb : TypeId} {f0 f1 f2 : Field} {v : Value} {d : DataW H} {p : List MemPlace} (hts : P.underlying ts = some (.slice t)) (hs : P.underlying t = some (.struct #[f0, f1, f2]))
    (hf : inFields P f0 f1 f2 ti tb = true) (hC : P.cellsOf t = 3) (hi : P.underlying ti = some (.int .i64)) (htb : P.underlying tb = some .bool) (hv : Value.okWide P w r b0 ts v) (h : DataW.Trod enc P w base spare held ts v d p) :
    ∃ q n cap F, v = .slice q n cap ∧ n ≤ cap ∧ cap ≤ maxLen ∧ Rws 3 enIn w q n F ∧ ∀ i, i < n → In64 (F i).1 ∧ In64 (F i).2.1 :=
  open_rws enIn (fun a => In64 a.1 ∧ In64 a.2.1) hts hC (fun _ => rfl) ⟨2, rfl, fun _ _ _ h => spot_int h⟩ (fun _ _ _ hl ht => trod_in hs hf hi htb hl ht) hv h
end
end Go.Proofs.YtmbccnioijokfaaGreatDoor

namespace Go.Proofs.YtmbccnioijokfaaGreatDoor
open Go.RowKit
def Rwb (w : World) (g : Nat) (t : TypeId) (l : List BD) : Prop := ∃ cur : Array Value, Blk w g t cur ∧ ∀ (i : Nat) (b : BD), l[i]? = some b → ∀ (j : Nat) (u : Value), (enBd b)[j]? = some u → cur[i * 9 + j]? = some u
section
variable {w w' : World} {g : Nat} {t : TypeId} {l : List BD} {i : Nat} {b : BD}
end
def BRow (w : World) (n : Nat) (t : TypeId) (v : Value) (l : List BD) : Prop := ∃ q cap, v = .slice q l.length cap ∧ l.length ≤ cap ∧ cap ≤ maxLen ∧ (0 < l.length → ∃ g, q = some ⟨g, 0, none⟩ ∧ n ≤ g ∧ Rwb w g t l)
theorem BRow.of {w : World} {n : Nat} {t : TypeId} {v : Value} {l : List BD} (h : Owns w n t 9 enBd v l) : BRow w n t v l := by
  obtain ⟨q, cap, hv, h1, h2, -, -, -⟩ := Owns.form (size := 9) (enc := enBd) (fun _ => rfl) h
  refine ⟨q, cap, hv, h1, h2, fun hn => ?_⟩
  rcases h.2 with ⟨-, h0⟩ | ⟨g, cap', cur, hv', hb, hg, hc, hm, hs, ht⟩
  · omega
  · rw [hv] at hv'
    injection hv' with e1 e2 e3
    refine ⟨g, e1, hb, cur, hg, fun i b hi j u hu => ?_⟩
    have h3 := flat_at (size := 9) (enc := enBd) (fun _ => rfl) l i b hi j u hu
    rw [← ht] at h3
    have h4 := (List.getElem?_eq_some_iff.1 h3).1
    rw [List.length_take] at h4
    rw [List.getElem?_take_of_lt (by omega)] at h3
    simpa using h3
end Go.Proofs.YtmbccnioijokfaaGreatDoor

namespace Go.Proofs.YtmbccnioijokfaaGreatDoor
open Go.RowKit
attribute [local go_sem] Oper.semAt_some
theorem infBd : (Tryz.prog.info? 40).map (fun i => (i.zero, i.size, i.bytes)) = some (some (.agg #[.int .i64 0, .int .i64 0, .int .i64 0, .int .i64 0, .int .i64 0, .int .i64 0, .int .i64 0, .int .i64 0, .bool false]), 9, 72) := by kernel_rfl
theorem oneB (b : BD) : ∀ u ∈ enBd b, u.oneCell' = true := by
  obtain ⟨x, y, z, sx, sy, sz, wd, ht, st⟩ := b
  simp [enBd, Value.oneCell']
theorem owns_empty {w : World} {t : TypeId} : Owns (w.alloc (.cells #[] t)) w.heap.size t 9 enBd (.slice (some ⟨w.heap.size, 0, none⟩) 0 0) [] := by
  refine ⟨by simp, .inr ⟨w.heap.size, 0, #[], rfl, Nat.le_refl _, Blk.new' rfl, by simp, by decide, by simp, by simp⟩⟩
theorem rd_bd {w : World} {q : Option Addr} {l : List BD} {n : Nat} (h : Rd w q 9 enBd l) (hq : q = none) (hl : l.length = n) : n = 0 ∧ l = [] := by
  have hn : ¬ 0 < l.length := fun hn => by
    obtain ⟨g, o, e, -⟩ := h hn
    rw [hq] at e
    cases e
  have h0 : l.length = 0 := by omega
  exact ⟨by omega, List.length_eq_zero_iff.1 h0⟩
set_option maxRecDepth 100000 in
set_option maxHeartbeats 8000000 in
theorem clone_bd (q : Option Addr) (n c : Nat) (l : List BD) (hl : l.length = n) (hc : n ≤ c) (hn : n ≤ 1000000) (w : World) (h : Rd w q 9 enBd l) :
    Calls Tryz.prog 199 #[.slice q n c] w fun r w' => ∃ v, r = .returned v ∧ Owns w' w.heap.size 40 9 enBd v l ∧ Below w.heap.size w w' := by
  have hnl : ∀ (w : World) (a : Option Addr) (n c n' c' : Nat), (binOp .eql 218 (.slice a n c) (.slice none n' c')).run Tryz.prog w = .ok (.bool a.isNone) w := fun w a n c n' c' => Lib.run_eql_slice_nil w _ _ a n c n' c' Tryz.underlying218
  cases hq : q with
  | none =>
    obtain ⟨rfl, rfl⟩ := rd_bd h hq hl
    subst hq
    go_enter Tryz.func199, Tryz.ntmps199
    go_wp2_with fail
    go_returns
    exact ⟨_, rfl, Owns.nil, Below.refl _ _⟩
  | some a =>
    rw [hq] at h
    have hB : Below w.heap.size w (w.alloc (.cells #[] 40)) := (Below.refl _ _).alloc (Nat.le_refl _) _
    obtain ⟨v1, w5, hrun1, O1, hb1⟩ := run_rows (P := Tryz.prog) (ts := 218) (ty := 218) (enc := enBd) (w := w.alloc (.cells #[] 40)) (base := w.heap.size) (xs := ([] : List BD)) (ys := l) (q := some a) (m := n) (c := c) (v := .slice (some ⟨w.heap.size, 0, none⟩) 0 0) Tryz.underlying218 infBd rfl (by decide) (by decide) (fun _ => rfl) (fun b _ => oneB b) owns_empty hl hc (h.on hB) (by simp; omega) hB.size
    rw [List.nil_append] at O1
    have HO := Lib.hid (And.intro O1 (hB.trans hb1))
    clear O1 hb1 hB h hl hc hn hq
    go_enter Tryz.func199, Tryz.ntmps199
    go_wp2_with (at_builtin; refine Lib.wpList_append_run _ rfl _ _ _ _ rfl _ _ rfl rfl _ _ hrun1 ?_)
    go_returns
    exact ⟨_, rfl, HO.out.1, HO.out.2⟩
end Go.Proofs.YtmbccnioijokfaaGreatDoor

namespace Go.Proofs.YtmbccnioijokfaaGreatDoor
open Go.RowKit
attribute [local go_sem] Oper.semAt_some
theorem bcut1_c (n : Int) (w : World) : Calls Tryz.prog 316 #[.int .i64 n] w fun r w' => r = .returned (.int .i64 (clI n)) ∧ Below w.heap.size w w' := by
  have hmn := @run_mn Tryz.prog
  have hmx := @run_mx Tryz.prog
  go_enter Tryz.func316, Tryz.ntmps316
  go_wp2_with fail
  go_returns
  exact ⟨rfl, Below.refl _ _⟩
set_option maxRecDepth 100000 in
set_option maxHeartbeats 8000000 in
theorem bcut_c (b : BD) (dx dy dz : Int) (w : World) : Calls Tryz.prog 269 #[.agg (bd9 b), .agg #[.int .i64 dx, .int .i64 dy, .int .i64 dz]] w fun r w' => r = .returned (.agg #[.int .i64 (fwI b.1 dx), .int .i64 (fwI b.2.1 dy), .int .i64 (fwI b.2.2.1 dz)]) ∧ Below w.heap.size w w' := by
  obtain ⟨x, y, z, sx, sy, sz, wd, ht, st⟩ := b
  unfold fwI
  simp only [bd9]
  have HA := Lib.hid (fun W => add_c x y z dx dy dz W)
  have HS := Lib.hid (fun W => sub_c (clI (addI x dx)) (clI (addI y dy)) (clI (addI z dz)) x y z W)
  generalize addI x dx = a1 at HA HS ⊢
  generalize addI y dy = a2 at HA HS ⊢
  generalize addI z dz = a3 at HA HS ⊢
  obtain ⟨N, hN⟩ : ∃ N, N = w.heap.size := ⟨_, rfl⟩
  obtain ⟨W, hW⟩ : ∃ W, W = ((w.alloc (.cells #[.int .i64 x, .int .i64 y, .int .i64 z, .int .i64 sx, .int .i64 sy, .int .i64 sz, .int .i64 wd, .int .i64 ht, .bool st] 40)).alloc (.cells #[.int .i64 dx, .int .i64 dy, .int .i64 dz] 38)).alloc (.cells #[.int .i64 0, .int .i64 0, .int .i64 0] 38) := ⟨_, rfl⟩
  have H : Below w.heap.size w W := by rw [hW]; go_grown
  have B : Blk W N 40 _ := Blk.eqw hW.symm (by rw [hN]; exact ((Blk.new' rfl).alloc _).alloc _)
  have D : Blk W (N + 1) 38 _ := Blk.eqw hW.symm (by rw [hN]; exact (Blk.new' (by simp)).alloc _)
  have R : Blk W (N + 1 + 1) 38 _ := Blk.eqw hW.symm (by rw [hN]; exact Blk.new' (by simp))
  go_enter Tryz.func269, Tryz.ntmps269
  go_upto_region 1 with (fail)
  rw [← hW, ← hN]
  have HN := Lib.hid hN
  clear hW hN
  have b0 := B.cell 0
  have b1 := B.cell 1
  have b2 := B.cell 2
  simp at b0 b1 b2
  obtain ⟨d0, d1, d2, -, -, -⟩ := D.c3
  go_upto_region 2 with (go_at_call 195; refine (HA.out _).mono ?_; rintro e_ w1 ⟨rfl, k1⟩)
  generalize hV : World.alloc w1 _ = W1
  have T : Blk W1 w1.heap.size 38 #[.int .i64 a1, .int .i64 a2, .int .i64 a3] := Blk.eqw hV (Blk.new' rfl)
  have h1 : Below w1.heap.size w1 W1 := by rw [← hV]; exact (Below.refl _ _).alloc (Nat.le_refl _) _
  have k2 := after k1 h1
  have HB := Lib.hid (B.on k2)
  have HR := Lib.hid (R.on k2)
  have HH := Lib.hid (after H k2)
  have HT := Lib.hid T
  generalize w1.heap.size = g at HT ⊢
  clear hV h1 k1 k2 B D R H b0 b1 b2 d0 d1 d2 T HA
  have b0 := fun d os => (HB.out.re d os).cell 0
  have b1 := fun d os => (HB.out.re d os).cell 1
  have b2 := fun d os => (HB.out.re d os).cell 2
  simp at b0 b1 b2
  have t0 := fun d os => (HT.out.re d os).cell 0
  have t1 := fun d os => (HT.out.re d os).cell 1
  have t2 := fun d os => (HT.out.re d os).cell 2
  simp at t0 t1 t2
  go_upto_region 3 with (fail)
  refine wp_region_last_below 16 (by kernel_rfl) rfl (by kernel_rfl) ?_
  simp only [List.take_succ_cons, List.take_zero, List.drop_succ_cons, List.drop_zero]
  repeat (go_big_quiet_step (first | (with_reducible exact Calls.regrown_of (bcut1_c _ _)) | (with_reducible exact Calls.regrown_of (HS.out _))))
  refine wpQuiet_nil ?_
  intro w' hw'
  obtain ⟨rg, rfl⟩ := hw'
  clear b0 b1 b2 t0 t1 t2
  have R := HR.out.re rg.d rg.os
  obtain ⟨r0, r1, r2, s0, s1, s2⟩ := R.c3
  have H := HH.out
  have hNw : w.heap.size ≤ N + 1 + 1 := by have := HN.out; omega
  go_wp2_with fail
  have R2 := R.st3 (.int .i64 (subI (clI a1) x)) (.int .i64 (subI (clI a2) y)) (.int .i64 (subI (clI a3) z))
  obtain ⟨d0, d1, d2, -, -, -⟩ := R2.c3
  exact bodyPost_ret (v := .agg #[.int .i64 (subI (clI a1) x), .int .i64 (subI (clI a2) y), .int .i64 (subI (clI a3) z)]) (by simp [results, Tryz.results269, go_sem, d0, d1, d2]) rfl ⟨rfl, by (repeat' (first | (with_reducible exact Below.refl _ _) | (with_reducible assumption) | (with_reducible refine Below.alloc ?_ ?_ _) | (with_reducible refine Below.drew ?_) | (with_reducible refine Below.setCell ?_ ?_ _) | (with_reducible refine after ?_ (below_regrown _ _ _)) | (refine after ?_ (by with_reducible assumption)) | go_size))⟩
theorem bwalk1_c (n : Int) (w : World) : Calls Tryz.prog 263 #[.int .i64 n] w fun r w' => r = .returned (.int .i64 (walkI n)) ∧ Below w.heap.size w w' := by
  have hmn := @run_mn Tryz.prog
  have hmx := @run_mx Tryz.prog
  unfold walkI
  go_enter Tryz.func263, Tryz.ntmps263
  go_wp2_with (go_at_call 264; refine (fmul_c _ _ _).mono ?_; rintro e_ w1 ⟨rfl, k1⟩)
  go_returns
  exact ⟨rfl, k1⟩
end Go.Proofs.YtmbccnioijokfaaGreatDoor

namespace Go.Proofs.YtmbccnioijokfaaGreatDoor
open Go.RowKit
attribute [local go_sem] Oper.semAt_some
def WkI (N : Nat) (t : TypeId) (x y z sy wd ht a c : Int) (st : Bool) : InvT := fun S _ w => ∃ p q : Int, Blk w N t #[.int .i64 x, .int .i64 y, .int .i64 z, .int .i64 p, .int .i64 sy, .int .i64 q, .int .i64 wd, .int .i64 ht, .bool st] ∧ (S 10 → p = a) ∧ (S 13 → q = c)
section
variable {N : Nat} {t : TypeId} {x y z sy wd ht a c : Int} {st : Bool} {S : Nat → Prop} {V : Nat → Value} {w w' : World}
theorem wkI_zero {p q : Int} (h : Blk w N t #[.int .i64 x, .int .i64 y, .int .i64 z, .int .i64 p, .int .i64 sy, .int .i64 q, .int .i64 wd, .int .i64 ht, .bool st]) : WkI N t x y z sy wd ht a c st (fun _ => False) V w := ⟨p, q, h, fun h => h.elim, fun h => h.elim⟩
theorem WkI.below (h : WkI N t x y z sy wd ht a c st S V w) (k : Below w.heap.size w w') : WkI N t x y z sy wd ht a c st S V w' := by
  obtain ⟨p, q, h1, h2⟩ := h
  exact ⟨p, q, h1.on k, h2⟩
theorem WkI.one {p q : Int} {v : Value} (h : Blk w N t #[.int .i64 x, .int .i64 y, .int .i64 z, .int .i64 p, .int .i64 sy, .int .i64 q, .int .i64 wd, .int .i64 ht, .bool st]) (hq : S 13 → q = c) :
    WkI N t x y z sy wd ht a c st (andOf S 10) (upd V 10 v) (w.setCell ⟨N, 3, none⟩ (.int .i64 a)) := ⟨a, q, h.set_ 3 _, fun _ => rfl, fun e => hq (e.resolve_left (by decide))⟩
theorem WkI.two {p q : Int} {v : Value} (h : Blk w N t #[.int .i64 x, .int .i64 y, .int .i64 z, .int .i64 p, .int .i64 sy, .int .i64 q, .int .i64 wd, .int .i64 ht, .bool st]) (hp : S 10 → p = a) :
    WkI N t x y z sy wd ht a c st (andOf S 13) (upd V 13 v) (w.setCell ⟨N, 5, none⟩ (.int .i64 c)) := ⟨p, c, h.set_ 5 _, fun e => hp (e.resolve_left (by decide)), fun _ => rfl⟩
end
theorem kept_one {w : World} {N i : Nat} (u : Value) : Kept (fun c => c ≠ N) w (w.setCell ⟨N, i, none⟩ u) := (Kept.refl _ _).setCell (by simp) _
set_option maxRecDepth 100000 in
set_option maxHeartbeats 8000000 in
theorem bwalks_c (b : BD) (V : Value) (ix iz : Int) (j : Bool) (w : World) : Calls Tryz.prog 196 #[.agg (bd9 b), V, .agg #[.int .i64 ix, .int .i64 iz, .bool j]] w fun r w' => r = .returned (.agg (bd9 (walkB b ix iz))) ∧ Below w.heap.size w w' := by
  obtain ⟨x, y, z, sx, sy, sz, wd, ht, st⟩ := b
  unfold walkB
  simp only [bd9]
  have HX := Lib.hid (fun W => bwalk1_c ix W)
  have HZ := Lib.hid (fun W => bwalk1_c iz W)
  generalize walkI ix = a at HX ⊢
  generalize walkI iz = c at HZ ⊢
  obtain ⟨N, hN⟩ : ∃ N, N = w.heap.size := ⟨_, rfl⟩
  obtain ⟨W, hW⟩ : ∃ W, W = ((w.alloc (.cells #[.int .i64 x, .int .i64 y, .int .i64 z, .int .i64 sx, .int .i64 sy, .int .i64 sz, .int .i64 wd, .int .i64 ht, .bool st] 40)).alloc (.cells #[.int .i64 ix, .int .i64 iz, .bool j] 81)).alloc (.cells #[.int .i64 0, .int .i64 0, .int .i64 0, .int .i64 0, .int .i64 0, .int .i64 0, .int .i64 0, .int .i64 0, .bool false] 40) := ⟨_, rfl⟩
  have H : Below w.heap.size w W := by rw [hW]; go_grown
  have B : Blk W N 40 _ := Blk.eqw hW.symm (by rw [hN]; exact ((Blk.new' rfl).alloc _).alloc _)
  have D : Blk W (N + 1) 81 _ := Blk.eqw hW.symm (by rw [hN]; exact (Blk.new' (by simp)).alloc _)
  have R : Blk W (N + 1 + 1) 40 _ := Blk.eqw hW.symm (by rw [hN]; exact Blk.new' (by simp))
  have d0 := fun f d os => (D.sp (D := [N]) (by simp) f d os).cell 0
  have d1 := fun f d os => (D.sp (D := [N]) (by simp) f d os).cell 1
  simp only [List.getElem?_toArray, List.getElem?_cons_zero, List.getElem?_cons_succ] at d0 d1
  go_enter Tryz.func196, Tryz.ntmps196
  go_upto_region 2 with (fail)
  rw [← hW, ← hN]
  have HN := Lib.hid hN
  clear hW hN
  refine wp_inv [0, 0, 0, 0, 0, 0, 0, 0, 1, 1, 2, 1, 1, 2] [N] (WkI N 40 x y z sy wd ht a c st) (by kernel_rfl) (by kernel_rfl) (fun _ _ _ _ _ h k => h.below k) (fun _ => wkI_zero B) ?_
  repeat (first | (refine wpQs_s ?_) | (refine wpQs_q (fun K hK => ?_); go_simp; first | (refine hK _ ?_; clear hK K) | (apply Exists.intro; refine ⟨fun _ => ?_, hK _ ?_⟩; (first | ((with_reducible refine Calls.mono (HX.out _) ?_); exact fun _ _ h => h) | ((with_reducible refine Calls.mono (HZ.out _) ?_); exact fun _ _ h => h)); clear hK K)) | (refine wpQs_f (fun K hK => ?_); go_simp; refine hK _ ?_; clear hK K))
  refine wpQs_nil ?_
  repeat (refine wpLsI_skip ?_)
  refine wpLsI_one rfl ?s10 (fun v10_ => ?_)
  case s10 =>
    intro S_ V_ w_ hw_ hV_ ha_ hn_ hI_
    obtain ⟨p, q, hb, hp, hq⟩ := hI_
    have HF := Lib.hid (fun v => And.intro (keptD_set (b := N) hw_ (by simp) (kept_one (i := 3) (.int .i64 a))) (WkI.one (a := a) (c := c) (V := V_) (v := v) hb hq))
    have c3 := hb.cell 3
    have f3 := hb.frz 3
    clear hV_ ha_ hn_ hw_ hp hq hb
    go_simp
    exact HF.out _
  repeat (refine wpLsI_skip ?_)
  refine wpLsI_one rfl ?s13 (fun v13_ => ?_)
  case s13 =>
    intro S_ V_ w_ hw_ hV_ ha_ hn_ hI_
    obtain ⟨p, q, hb, hp, hq⟩ := hI_
    have HF := Lib.hid (fun v => And.intro (keptD_set (b := N) hw_ (by simp) (kept_one (i := 5) (.int .i64 c))) (WkI.two (a := a) (c := c) (V := V_) (v := v) hb hp))
    have c3 := hb.cell 5
    have f3 := hb.frz 5
    clear hV_ ha_ hn_ hw_ hp hq hb
    go_simp
    exact HF.out _
  refine wpLsI_nil fun V_ w2 hw_ hV_ hI_ => ?_
  obtain ⟨p, q, B2, hp, hq⟩ := hI_
  obtain rfl := hp ⟨show (10 : Nat) < 14 by decide, rfl⟩
  obtain rfl := hq ⟨show (13 : Nat) < 14 by decide, rfl⟩
  have R2 := hw_.blk (by simp; omega) R
  have H2 := H.trans (hw_.below (n := w.heap.size) H.size (fun b hb h => by have := HN.out; simp at h; omega))
  clear hV_ hw_ d0 d1 R H B D hp hq HX HZ
  simp only [tails]
  obtain ⟨⟨b0, b1, b2, b3, b4, b5, b6, b7, b8⟩, -⟩ := B2.c9
  obtain ⟨⟨r0, r1, r2, r3, r4, r5, r6, r7, r8⟩, f0, f1, f2, f3, f4, f5, f6, f7, f8⟩ := R2.c9
  have hNw : w.heap.size ≤ N + 1 + 1 := by have := HN.out; omega
  go_wp2_with fail
  have R2_ := R2.st9 (.int .i64 (x)) (.int .i64 (y)) (.int .i64 (z)) (.int .i64 (p)) (.int .i64 (sy)) (.int .i64 (q)) (.int .i64 (wd)) (.int .i64 (ht)) (.bool (st))
  obtain ⟨⟨d0, d1, d2, d3, d4, d5, d6, d7, d8⟩, -⟩ := R2_.c9
  exact bodyPost_ret (v := .agg #[.int .i64 (x), .int .i64 (y), .int .i64 (z), .int .i64 (p), .int .i64 (sy), .int .i64 (q), .int .i64 (wd), .int .i64 (ht), .bool (st)]) (by simp [results, Tryz.results196, go_sem, d0, d1, d2, d3, d4, d5, d6, d7, d8]) rfl ⟨rfl, sx9_below H2 hNw _ _ _ _ _ _ _ _ _⟩
end Go.Proofs.YtmbccnioijokfaaGreatDoor

namespace Go.Proofs.YtmbccnioijokfaaGreatDoor
open Go.RowKit Go.Shelf
attribute [local go_sem] Oper.semAt_some
set_option maxRecDepth 100000 in
set_option maxHeartbeats 8000000 in
theorem brise1_c (jump less least x y z sx sy sz wd ht ix iz : Int) (st j : Bool) (N M g : Nat) (h1 : 0 ≤ less ∧ less ≤ 10000) (h2 : 0 ≤ least ∧ least ≤ 300000) (h3 : -300000 ≤ sy ∧ sy ≤ 300000) (w : World)
    (B : Blk w N 40 #[.int .i64 x, .int .i64 y, .int .i64 z, .int .i64 sx, .int .i64 sy, .int .i64 sz, .int .i64 wd, .int .i64 ht, .bool st]) (D : Blk w M 81 #[.int .i64 ix, .int .i64 iz, .bool j]) (P : Blk w g 319 #[.pointer (some ⟨N, 4, none⟩)]) (hMN : M ≠ N) (hgN : g ≠ N) :
    Calls Tryz.prog 265 #[.int .i64 jump, .int .i64 less, .int .i64 least, .pointer (some ⟨g, 0, none⟩), .pointer (some ⟨M, 0, none⟩)] w fun r w' => r = .returned (.tuple #[]) ∧ Kept (fun b => b ≠ N) w w' ∧
      Blk w' N 40 #[.int .i64 x, .int .i64 y, .int .i64 z, .int .i64 sx, .int .i64 (if j = true then jump else mxI (sy - less) (-least)), .int .i64 sz, .int .i64 wd, .int .i64 ht, .bool st] := by
  have hmx := @run_mx Tryz.prog
  have e1 : IntKind.i64.wrap (sy - less) = sy - less := IntWalk.i64_in _ (by omega)
  have e2 : IntKind.i64.wrap (-least) = -least := IntWalk.i64_in _ (by omega)
  have HB := Lib.hid B
  have HD := Lib.hid D
  have HP := Lib.hid P
  have HX := Lib.hid (And.intro hMN hgN)
  clear B D P hMN hgN h1 h2 h3
  have p0 := fun d os => (HP.out.re d os).cell 0
  have b4 := fun d os => (HB.out.re d os).cell 4
  simp only [List.getElem?_toArray, List.getElem?_cons_zero, List.getElem?_cons_succ] at p0 b4
  go_enter Tryz.func265, Tryz.ntmps265
  go_upto_region 0 with (fail)
  refine wp_region_last_below 10 (by kernel_rfl) rfl (by kernel_rfl) ?_
  simp only [List.take_succ_cons, List.take_zero, List.drop_succ_cons, List.drop_zero]
  repeat (go_big_quiet_step (fail))
  refine wpQuiet_nil ?_
  intro w' hw'
  obtain ⟨rg, rfl⟩ := hw'
  clear p0 b4 hmx
  obtain ⟨W1, hW1⟩ : ∃ W1, W1 = Go.Sort.grow (redrawn w rg.d) rg.os := ⟨_, rfl⟩
  have hb1 : Below w.heap.size w W1 := by rw [hW1]; exact below_regrown _ _ _
  rw [← hW1]
  clear hW1
  have b4 := (HB.out.on hb1).cell 4
  have f4 := (HB.out.on hb1).frz 4
  simp only [List.getElem?_toArray, List.getElem?_cons_zero, List.getElem?_cons_succ] at b4
  go_upto_region 1 with (fail)
  generalize hV : World.setCell W1 _ _ = W2
  have B2 : Blk W2 N 40 #[.int .i64 x, .int .i64 y, .int .i64 z, .int .i64 sx, .int .i64 (mxI (sy - less) (-least)), .int .i64 sz, .int .i64 wd, .int .i64 ht, .bool st] := Blk.eqw hV ((HB.out.on hb1).set_ 4 _)
  have K2 : Kept (fun b => b ≠ N) w W2 := by rw [← hV]; exact ((Kept.of_below hb1).mono fun _ _ => trivial).setCell (by simp) _
  have d2 := (K2.blk HX.out.1 HD.out).cell 2
  have p0 := (K2.blk HX.out.2 HP.out).cell 0
  have b4 := B2.cell 4
  have f4 := B2.frz 4
  simp only [List.getElem?_toArray, List.getElem?_cons_zero, List.getElem?_cons_succ] at d2 p0 b4
  have HB2 := Lib.hid B2
  have HK2 := Lib.hid K2
  clear hV B2 K2 hb1
  cases j
  · go_wp2_with fail
    go_returns
    exact ⟨rfl, HK2.out, HB2.out⟩
  · go_wp2_with fail
    go_returns
    exact ⟨rfl, HK2.out.setCell (by simp) _, HB2.out.set_ 4 _⟩
set_option maxRecDepth 100000 in
set_option maxHeartbeats 8000000 in
theorem brises_c (V : FuncId) (lv : Value) (val : Cl → Int) (b : BD) (ix iz : Int) (j : Bool) (M : Int) (hM : M ≤ 71000000000000) (hM0 : 0 ≤ M) (hB : BOk M b) (w : World)
    (eV : ∀ args w, (callFunc V args).run Tryz.prog w = .ok (.enter V args) w) (hV : Tells Tryz.prog V lv val w) :
    Calls Tryz.prog 197 #[.agg (bd9 b), .func (.func V) #[lv] #[], .agg #[.int .i64 ix, .int .i64 iz, .bool j]] w fun r w' => r = .returned (.agg (bd9 (riseB val b j))) ∧ Below w.heap.size w w' := by
  obtain ⟨hS, -⟩ := hB.box hM
  have hbox := hS.box (by omega) (by omega)
  have hund := hS.under (by omega) (by omega)
  have hbd := hS.bd
  have hsy := hB.sy
  have CB := fun W => bbox_c b (by have := hB.wd; omega) W
  have CC := fun W (h : Below w.heap.size w W) => pmClimbs_c V lv val (boxB b).1 (boxB b).2.1 (boxB b).2.2.1 (boxB b).2.2.2.1 (boxB b).2.2.2.2.1 (boxB b).2.2.2.2.2 hbox.1 W eV (hV.on h)
  have CW := fun W (h : Below w.heap.size w W) => pmWet_c V lv val (boxB b).1 (boxB b).2.1 (boxB b).2.2.1 (boxB b).2.2.2.1 (boxB b).2.2.2.2.1 (boxB b).2.2.2.2.2 hbox.1 W eV (hV.on h)
  have CS := fun W (h : Below w.heap.size w W) => pmStands_c V lv val (boxB b).1 (boxB b).2.1 (boxB b).2.2.1 (boxB b).2.2.2.1 (boxB b).2.2.2.2.1 (boxB b).2.2.2.2.2 (by omega) (by omega) hund.1 W eV (hV.on h)
  clear hS hbox hund hbd hV eV hM hM0 hB
  unfold riseB
  have fC : anyB val cliB (boxB b) = (cellsI (boxB b).1 (boxB b).2.1 (boxB b).2.2.1 (boxB b).2.2.2.1 (boxB b).2.2.2.2.1 (boxB b).2.2.2.2.2).any fun c => cliB (val c) := by unfold anyB; rfl
  have fW : anyB val wetB (boxB b) = (cellsI (boxB b).1 (boxB b).2.1 (boxB b).2.2.1 (boxB b).2.2.2.1 (boxB b).2.2.2.2.1 (boxB b).2.2.2.2.2).any fun c => wetB (val c) := by unfold anyB; rfl
  have fS : unB val (boxB b) = (cellsI (boxB b).1 (cutI ((boxB b).2.1 - 1)) (boxB b).2.2.1 (boxB b).2.2.2.1 (boxB b).2.1 (boxB b).2.2.2.2.2).any fun c => solB (val c) := by unfold unB; rfl
  rw [← fC] at CC
  rw [← fW] at CW
  rw [← fS] at CS
  clear fC fW fS
  generalize anyB val cliB (boxB b) = pc at CC ⊢
  generalize anyB val wetB (boxB b) = pw at CW ⊢
  generalize unB val (boxB b) = ps at CS ⊢
  generalize boxB b = bx at CB CC CW CS
  obtain ⟨x, y, z, sx, sy, sz, wd, ht, st⟩ := b
  obtain ⟨y1, y2, y3, y4, y5, y6⟩ := bx
  simp only [bd9, ag6] at *
  have HCB := Lib.hid CB
  have HCC := Lib.hid CC
  have HCW := Lib.hid CW
  have HCS := Lib.hid CS
  clear CB CC CW CS
  obtain ⟨N, hN⟩ : ∃ N, N = w.heap.size := ⟨_, rfl⟩
  obtain ⟨W, hW⟩ : ∃ W, W = ((w.alloc (.cells #[.int .i64 x, .int .i64 y, .int .i64 z, .int .i64 sx, .int .i64 sy, .int .i64 sz, .int .i64 wd, .int .i64 ht, .bool st] 40)).alloc (.cells #[.int .i64 ix, .int .i64 iz, .bool j] 81)).alloc (.cells #[.int .i64 0, .int .i64 0, .int .i64 0, .int .i64 0, .int .i64 0, .int .i64 0, .int .i64 0, .int .i64 0, .bool false] 40) := ⟨_, rfl⟩
  have H : Below w.heap.size w W := by rw [hW]; go_grown
  have B : Blk W N 40 _ := Blk.eqw hW.symm (by rw [hN]; exact ((Blk.new' rfl).alloc _).alloc _)
  have D : Blk W (N + 1) 81 _ := Blk.eqw hW.symm (by rw [hN]; exact (Blk.new' (by simp)).alloc _)
  have R : Blk W (N + 1 + 1) 40 _ := Blk.eqw hW.symm (by rw [hN]; exact Blk.new' (by simp))
  go_enter Tryz.func197, Tryz.ntmps197
  go_upto_region 1 with (fail)
  rw [← hW, ← hN]
  have HN := Lib.hid hN
  clear hW hN
  obtain ⟨⟨b0, b1, b2, b3, b4, b5, b6, b7, b8⟩, -⟩ := B.c9
  go_upto_region 2 with (go_at_call 139; refine (HCB.out _).mono ?_; rintro e_ w1 ⟨rfl, k1⟩)
  generalize hV : World.alloc (World.alloc w1 _) _ = W1
  have X : Blk W1 w1.heap.size 210 #[.int .i64 y1, .int .i64 y2, .int .i64 y3, .int .i64 y4, .int .i64 y5, .int .i64 y6] := Blk.eqw hV ((Blk.new' rfl).alloc _)
  have P : Blk W1 (w1.heap.size + 1) 319 #[.pointer (some ⟨N, 4, none⟩)] := Blk.eqw hV (Blk.new' (by simp))
  have hk : Below W.heap.size W W1 := by rw [← hV]; exact after k1 (((Below.refl _ _).alloc (Nat.le_refl _) _).alloc (by simp) _)
  have hgN := Nat.lt_of_lt_of_le R.lt k1.size
  replace B := B.on hk
  replace D := D.on hk
  replace R := R.on hk
  replace H := after H hk
  clear hV k1 hk b0 b1 b2 b3 b4 b5 b6 b7 b8 HCB
  generalize w1.heap.size = g at X P hgN ⊢
  have hn1 : N + 1 ≠ N := by omega
  have hn2 : N + 1 + 1 ≠ N := by omega
  have hn3 : g ≠ N := by omega
  have hn5 : g ≠ N + 1 := by omega
  have hn6 : g + 1 ≠ N + 1 := by omega
  have hn4 : g + 1 ≠ N := by omega
  have hNw : w.heap.size ≤ N + 1 + 1 := by have := HN.out; omega
  obtain ⟨hs1, hs2⟩ := hsy
  have HSY := Lib.hid (show -300000 ≤ sy ∧ sy ≤ 300000 by omega)
  clear hs1 hs2 hgN
  obtain ⟨⟨x0, x1, x2, x3, x4, x5⟩, -⟩ := X.c6
  cases pc
  · cases pw
    · go_upto_region 3 with first
        | (go_at_call 266; refine (HCC.out _ H).mono ?_; rintro e_ w2 ⟨rfl, k2⟩; replace B := B.on k2; replace D := D.on k2; replace R := R.on k2; replace X := X.on k2; replace P := P.on k2; replace H := after H k2; obtain ⟨⟨x0, x1, x2, x3, x4, x5⟩, -⟩ := X.c6; clear k2)
        | (go_at_call 267; refine (HCW.out _ H).mono ?_; rintro e_ w3 ⟨rfl, k3⟩; replace B := B.on k3; replace D := D.on k3; replace R := R.on k3; replace X := X.on k3; replace P := P.on k3; replace H := after H k3; obtain ⟨⟨x0, x1, x2, x3, x4, x5⟩, -⟩ := X.c6; clear k3)
      have d2 := D.cell 2
      have f2 := D.frz 2
      simp only [List.getElem?_toArray, List.getElem?_cons_zero, List.getElem?_cons_succ] at d2
      cases j
      · go_upto_region 4 with (go_at_call 140; refine (HCS.out _ H).mono ?_; rintro e_ w4 ⟨rfl, k4⟩; replace B := B.on k4; replace D := D.on k4; replace R := R.on k4; replace X := X.on k4; replace P := P.on k4; replace H := after H k4; have f2 := D.frz 2; have d2 := D.cell 2; clear k4)
        generalize hV : World.setCell _ _ _ = W5
        replace B := Blk.eqw hV (B.far (p := ⟨N + 1, 2, none⟩) (by dsimp only; omega) _)
        replace R := Blk.eqw hV (R.far (p := ⟨N + 1, 2, none⟩) (by dsimp only; omega) _)
        replace P := Blk.eqw hV (P.far (p := ⟨N + 1, 2, none⟩) (by dsimp only; omega) _)
        replace D : Blk W5 (N + 1) 81 #[.int .i64 ix, .int .i64 iz, .bool false] := Blk.eqw hV (D.set_ 2 _)
        replace H : Below w.heap.size w W5 := by rw [← hV]; exact H.setCell (p := ⟨N + 1, 2, none⟩) (by have := HN.out; dsimp only; omega) _
        clear hV d2 f2
        have hcl := brise1_c 28672 4096 262144 x y z sx sy sz wd ht ix iz st false N (N + 1) (g + 1) ⟨by decide, by decide⟩ ⟨by decide, by decide⟩ HSY.out _ B D P hn1 hn4
        have HCL := Lib.hid hcl
        clear hcl x0 x1 x2 x3 x4 x5 HCC HCW HCS
        go_upto_region 9 with (go_at_call 265; refine HCL.out.mono ?_; rintro e_ w6 ⟨rfl, k6, B6⟩; have HK5 := Lib.hid k6; have HB5 := Lib.hid (show Blk w6 N 40 #[.int .i64 x, .int .i64 y, .int .i64 z, .int .i64 sx, .int .i64 (riseI false false ps false sy), .int .i64 sz, .int .i64 wd, .int .i64 ht, .bool st] from B6); clear k6 B6)
        clear HCL
        have K5 := HK5.out
        replace H := H.trans (K5.below (n := w.heap.size) H.size (fun b hb e => by have := HN.out; omega))
        obtain ⟨⟨b0, b1, b2, b3, b4, b5, b6, b7, b8⟩, -⟩ := HB5.out.c9
        have R5 := K5.blk hn2 R
        obtain ⟨⟨r0, r1, r2, r3, r4, r5, r6, r7, r8⟩, f0, f1, f2, f3, f4, f5, f6, f7, f8⟩ := R5.c9
        clear HK5 K5 B D X P HB5 R
        go_wp2_with fail
        have R2_ := R5.st9 (.int .i64 (x)) (.int .i64 (y)) (.int .i64 (z)) (.int .i64 (sx)) (.int .i64 (riseI false false ps false sy)) (.int .i64 (sz)) (.int .i64 (wd)) (.int .i64 (ht)) (.bool (st))
        obtain ⟨⟨d0, d1, d2, d3, d4, d5, d6, d7, d8⟩, -⟩ := R2_.c9
        exact bodyPost_ret (v := .agg #[.int .i64 (x), .int .i64 (y), .int .i64 (z), .int .i64 (sx), .int .i64 (riseI false false ps false sy), .int .i64 (sz), .int .i64 (wd), .int .i64 (ht), .bool (st)]) (by simp [results, Tryz.results197, go_sem, d0, d1, d2, d3, d4, d5, d6, d7, d8]) rfl ⟨rfl, sx9_below H hNw _ _ _ _ _ _ _ _ _⟩
      · go_upto_region 4 with (go_at_call 140; refine (HCS.out _ H).mono ?_; rintro e_ w4 ⟨rfl, k4⟩; replace B := B.on k4; replace D := D.on k4; replace R := R.on k4; replace X := X.on k4; replace P := P.on k4; replace H := after H k4; have f2 := D.frz 2; have d2 := D.cell 2; clear k4)
        generalize hV : World.setCell _ _ _ = W5
        replace B := Blk.eqw hV (B.far (p := ⟨N + 1, 2, none⟩) (by dsimp only; omega) _)
        replace R := Blk.eqw hV (R.far (p := ⟨N + 1, 2, none⟩) (by dsimp only; omega) _)
        replace P := Blk.eqw hV (P.far (p := ⟨N + 1, 2, none⟩) (by dsimp only; omega) _)
        replace D : Blk W5 (N + 1) 81 #[.int .i64 ix, .int .i64 iz, .bool ps] := Blk.eqw hV (D.set_ 2 _)
        replace H : Below w.heap.size w W5 := by rw [← hV]; exact H.setCell (p := ⟨N + 1, 2, none⟩) (by have := HN.out; dsimp only; omega) _
        clear hV d2 f2
        have hcl := brise1_c 28672 4096 262144 x y z sx sy sz wd ht ix iz st ps N (N + 1) (g + 1) ⟨by decide, by decide⟩ ⟨by decide, by decide⟩ HSY.out _ B D P hn1 hn4
        have HCL := Lib.hid hcl
        clear hcl x0 x1 x2 x3 x4 x5 HCC HCW HCS
        go_upto_region 9 with (go_at_call 265; refine HCL.out.mono ?_; rintro e_ w6 ⟨rfl, k6, B6⟩; have HK5 := Lib.hid k6; have HB5 := Lib.hid (show Blk w6 N 40 #[.int .i64 x, .int .i64 y, .int .i64 z, .int .i64 sx, .int .i64 (riseI false false ps true sy), .int .i64 sz, .int .i64 wd, .int .i64 ht, .bool st] from B6); clear k6 B6)
        clear HCL
        have K5 := HK5.out
        replace H := H.trans (K5.below (n := w.heap.size) H.size (fun b hb e => by have := HN.out; omega))
        obtain ⟨⟨b0, b1, b2, b3, b4, b5, b6, b7, b8⟩, -⟩ := HB5.out.c9
        have R5 := K5.blk hn2 R
        obtain ⟨⟨r0, r1, r2, r3, r4, r5, r6, r7, r8⟩, f0, f1, f2, f3, f4, f5, f6, f7, f8⟩ := R5.c9
        clear HK5 K5 B D X P HB5 R
        go_wp2_with fail
        have R2_ := R5.st9 (.int .i64 (x)) (.int .i64 (y)) (.int .i64 (z)) (.int .i64 (sx)) (.int .i64 (riseI false false ps true sy)) (.int .i64 (sz)) (.int .i64 (wd)) (.int .i64 (ht)) (.bool (st))
        obtain ⟨⟨d0, d1, d2, d3, d4, d5, d6, d7, d8⟩, -⟩ := R2_.c9
        exact bodyPost_ret (v := .agg #[.int .i64 (x), .int .i64 (y), .int .i64 (z), .int .i64 (sx), .int .i64 (riseI false false ps true sy), .int .i64 (sz), .int .i64 (wd), .int .i64 (ht), .bool (st)]) (by simp [results, Tryz.results197, go_sem, d0, d1, d2, d3, d4, d5, d6, d7, d8]) rfl ⟨rfl, sx9_below H hNw _ _ _ _ _ _ _ _ _⟩
    · go_upto_region 8 with first
        | (go_at_call 266; refine (HCC.out _ H).mono ?_; rintro e_ w2 ⟨rfl, k2⟩; replace B := B.on k2; replace D := D.on k2; replace R := R.on k2; replace X := X.on k2; replace P := P.on k2; replace H := after H k2; obtain ⟨⟨x0, x1, x2, x3, x4, x5⟩, -⟩ := X.c6; clear k2)
        | (go_at_call 267; refine (HCW.out _ H).mono ?_; rintro e_ w3 ⟨rfl, k3⟩; replace B := B.on k3; replace D := D.on k3; replace R := R.on k3; replace X := X.on k3; replace P := P.on k3; replace H := after H k3; obtain ⟨⟨x0, x1, x2, x3, x4, x5⟩, -⟩ := X.c6; clear k3)
      have hcl := brise1_c 6144 1024 8192 x y z sx sy sz wd ht ix iz st j N (N + 1) (g + 1) ⟨by decide, by decide⟩ ⟨by decide, by decide⟩ HSY.out _ B D P hn1 hn4
      have HCL := Lib.hid hcl
      clear hcl x0 x1 x2 x3 x4 x5 HCC HCW HCS
      go_upto_region 9 with (go_at_call 265; refine HCL.out.mono ?_; rintro e_ w6 ⟨rfl, k6, B6⟩; have HK5 := Lib.hid k6; have HB5 := Lib.hid (show Blk w6 N 40 #[.int .i64 x, .int .i64 y, .int .i64 z, .int .i64 sx, .int .i64 (riseI false true ps j sy), .int .i64 sz, .int .i64 wd, .int .i64 ht, .bool st] from B6); clear k6 B6)
      clear HCL
      have K5 := HK5.out
      replace H := H.trans (K5.below (n := w.heap.size) H.size (fun b hb e => by have := HN.out; omega))
      obtain ⟨⟨b0, b1, b2, b3, b4, b5, b6, b7, b8⟩, -⟩ := HB5.out.c9
      have R5 := K5.blk hn2 R
      obtain ⟨⟨r0, r1, r2, r3, r4, r5, r6, r7, r8⟩, f0, f1, f2, f3, f4, f5, f6, f7, f8⟩ := R5.c9
      clear HK5 K5 B D X P HB5 R
      go_wp2_with fail
      have R2_ := R5.st9 (.int .i64 (x)) (.int .i64 (y)) (.int .i64 (z)) (.int .i64 (sx)) (.int .i64 (riseI false true ps j sy)) (.int .i64 (sz)) (.int .i64 (wd)) (.int .i64 (ht)) (.bool (st))
      obtain ⟨⟨d0, d1, d2, d3, d4, d5, d6, d7, d8⟩, -⟩ := R2_.c9
      exact bodyPost_ret (v := .agg #[.int .i64 (x), .int .i64 (y), .int .i64 (z), .int .i64 (sx), .int .i64 (riseI false true ps j sy), .int .i64 (sz), .int .i64 (wd), .int .i64 (ht), .bool (st)]) (by simp [results, Tryz.results197, go_sem, d0, d1, d2, d3, d4, d5, d6, d7, d8]) rfl ⟨rfl, sx9_below H hNw _ _ _ _ _ _ _ _ _⟩
  · go_upto_region 6 with (go_at_call 266; refine (HCC.out _ H).mono ?_; rintro e_ w2 ⟨rfl, k2⟩; replace B := B.on k2; replace D := D.on k2; replace R := R.on k2; replace X := X.on k2; replace P := P.on k2; replace H := after H k2; obtain ⟨⟨x0, x1, x2, x3, x4, x5⟩, -⟩ := X.c6; clear k2)
    have hcl := brise1_c 8192 4096 8192 x y z sx sy sz wd ht ix iz st j N (N + 1) (g + 1) ⟨by decide, by decide⟩ ⟨by decide, by decide⟩ HSY.out _ B D P hn1 hn4
    have HCL := Lib.hid hcl
    clear hcl x0 x1 x2 x3 x4 x5 HCC HCW HCS
    go_upto_region 9 with (go_at_call 265; refine HCL.out.mono ?_; rintro e_ w6 ⟨rfl, k6, B6⟩; have HK5 := Lib.hid k6; have HB5 := Lib.hid (show Blk w6 N 40 #[.int .i64 x, .int .i64 y, .int .i64 z, .int .i64 sx, .int .i64 (riseI true pw ps j sy), .int .i64 sz, .int .i64 wd, .int .i64 ht, .bool st] from B6); clear k6 B6)
    clear HCL
    have K5 := HK5.out
    replace H := H.trans (K5.below (n := w.heap.size) H.size (fun b hb e => by have := HN.out; omega))
    obtain ⟨⟨b0, b1, b2, b3, b4, b5, b6, b7, b8⟩, -⟩ := HB5.out.c9
    have R5 := K5.blk hn2 R
    obtain ⟨⟨r0, r1, r2, r3, r4, r5, r6, r7, r8⟩, f0, f1, f2, f3, f4, f5, f6, f7, f8⟩ := R5.c9
    clear HK5 K5 B D X P HB5 R
    go_wp2_with fail
    have R2_ := R5.st9 (.int .i64 (x)) (.int .i64 (y)) (.int .i64 (z)) (.int .i64 (sx)) (.int .i64 (riseI true pw ps j sy)) (.int .i64 (sz)) (.int .i64 (wd)) (.int .i64 (ht)) (.bool (st))
    obtain ⟨⟨d0, d1, d2, d3, d4, d5, d6, d7, d8⟩, -⟩ := R2_.c9
    exact bodyPost_ret (v := .agg #[.int .i64 (x), .int .i64 (y), .int .i64 (z), .int .i64 (sx), .int .i64 (riseI true pw ps j sy), .int .i64 (sz), .int .i64 (wd), .int .i64 (ht), .bool (st)]) (by simp [results, Tryz.results197, go_sem, d0, d1, d2, d3, d4, d5, d6, d7, d8]) rfl ⟨rfl, sx9_below H hNw _ _ _ _ _ _ _ _ _⟩
end Go.Proofs.YtmbccnioijokfaaGreatDoor

namespace Go.Proofs.YtmbccnioijokfaaGreatDoor
open Go.RowKit Go.Shelf
attribute [local go_sem] Oper.semAt_some
set_option maxRecDepth 100000 in
set_option maxHeartbeats 2000000 in
theorem pwent_c (x y : B6) (h : -100000000000000 ≤ x.1 ∧ x.1 ≤ 100000000000000) (h2 : -100000000000000 ≤ x.2.2.1 ∧ x.2.2.1 ≤ 100000000000000) (k : -100000000000000 ≤ y.1 ∧ y.1 ≤ 100000000000000) (k2 : -100000000000000 ≤ y.2.2.1 ∧ y.2.2.1 ≤ 100000000000000) (w : World) :
    Calls Tryz.prog 315 #[.agg (ag6 x), .agg (ag6 y)] w fun r w' => r = .returned (.int .i64 (wentI x y)) ∧ Below w.heap.size w w' := by
  obtain ⟨a, b, c, d, e, f⟩ := x
  obtain ⟨a', b', c', d', e', f'⟩ := y
  dsimp only at h h2 k k2
  simp only [ag6, wentI]
  have hmx := @run_mx Tryz.prog
  have U : Blk ((w.alloc (.cells #[.int .i64 a, .int .i64 b, .int .i64 c, .int .i64 d, .int .i64 e, .int .i64 f] 210)).alloc (.cells #[.int .i64 a', .int .i64 b', .int .i64 c', .int .i64 d', .int .i64 e', .int .i64 f'] 210)) w.heap.size 210 #[.int .i64 a, .int .i64 b, .int .i64 c, .int .i64 d, .int .i64 e, .int .i64 f] := (Blk.new' rfl).alloc _
  have D : Blk ((w.alloc (.cells #[.int .i64 a, .int .i64 b, .int .i64 c, .int .i64 d, .int .i64 e, .int .i64 f] 210)).alloc (.cells #[.int .i64 a', .int .i64 b', .int .i64 c', .int .i64 d', .int .i64 e', .int .i64 f'] 210)) (w.heap.size + 1) 210 #[.int .i64 a', .int .i64 b', .int .i64 c', .int .i64 d', .int .i64 e', .int .i64 f'] := Blk.new' (by simp)
  obtain ⟨u0, u1, u2, u3, u4, u5⟩ := U.re6
  obtain ⟨d0, d1, d2, d3, d4, d5⟩ := D.re6
  have r1 : -9223372036854775808 ≤ a' - a ∧ a' - a ≤ 9223372036854775807 := by omega
  have r2 : -9223372036854775808 ≤ c' - c ∧ c' - c ≤ 9223372036854775807 := by omega
  obtain ⟨r1, s1⟩ := r1
  obtain ⟨r2, s2⟩ := r2
  have e1 : IntKind.i64.wrap (a' - a) = a' - a := IntWalk.i64_in _ ⟨r1, s1⟩
  have e2 : IntKind.i64.wrap (c' - c) = c' - c := IntWalk.i64_in _ ⟨r2, s2⟩
  have m1 : -(a' - a) = a - a' := by omega
  have m2 : -(c' - c) = c - c' := by omega
  have b1 : -200000000000000 ≤ mxI (a' - a) (a - a') ∧ mxI (a' - a) (a - a') ≤ 200000000000000 := by unfold mxI; omega
  have b2 : -200000000000000 ≤ mxI (c' - c) (c - c') ∧ mxI (c' - c) (c - c') ≤ 200000000000000 := by unfold mxI; omega
  obtain ⟨b1, b3⟩ := b1
  obtain ⟨b2, b4⟩ := b2
  go_enter Tryz.func315, Tryz.ntmps315
  go_wp2_with fail
  refine wp_region_quiet_below (by kernel_rfl) (by kernel_rfl) ?_
  repeat (go_big_quiet_step (fail))
  refine wpQuiet_nil ?_
  intro w' hw'
  obtain ⟨rg, rfl⟩ := hw'
  clear u0 u1 u2 u3 u4 u5 d0 d1 d2 d3 d4 d5
  go_wp2_with fail
  go_returns
  refine ⟨rfl, ?_⟩
  (repeat' (first | (with_reducible exact Below.refl _ _) | (with_reducible assumption) | (with_reducible refine Below.alloc ?_ ?_ _) | (with_reducible refine Below.drew ?_) | (with_reducible refine Below.setCell ?_ ?_ _) | (with_reducible refine after ?_ (below_regrown _ _ _)) | (refine after ?_ (by with_reducible assumption)) | go_size))
end Go.Proofs.YtmbccnioijokfaaGreatDoor

namespace Go.Proofs.YtmbccnioijokfaaGreatDoor
open Go.RowKit Go.Shelf
attribute [local go_sem] Oper.semAt_some
set_option maxRecDepth 100000 in
set_option maxHeartbeats 8000000 in
theorem pstep_c (V : FuncId) (lv : Value) (val : Cl → Int) (x : B6) (dx dy dz up M : Int) (hM : M ≤ 71500000000000) (hM0 : 0 ≤ M) (hB : Sm6 M x) (w : World)
    (eV : ∀ args w, (callFunc V args).run Tryz.prog w = .ok (.enter V args) w) (hV : Tells Tryz.prog V lv val w) :
    Calls Tryz.prog 268 #[.func (.func V) #[lv] #[], .agg (ag6 x), .agg #[.int .i64 dx, .int .i64 dy, .int .i64 dz], .int .i64 up] w fun r w' => r = .returned (bhT (stepV val x dx dy dz up)) ∧ Below w.heap.size w w' := by
  have t0 := hB.bd
  have tH := (hi1_sm (val := val) (up := up) hB hM0 (by omega)).bd
  have tC := (oC_sm (val := val) (up := up) (dx := dx) (dz := dz) hB hM0 (by omega)).bd
  have tY := (st3_sm (val := val) (dx := dx) (dy := dy) (dz := dz) hB hM0 (by omega)).bd
  have C0 := fun W (h : Below w.heap.size w W) => pmove_c V lv val x dx dy dz M hM hM0 hB W eV (hV.on h)
  have CS := fun W (h : Below w.heap.size w W) => pmStands_c V lv val x.1 x.2.1 x.2.2.1 x.2.2.2.1 x.2.2.2.2.1 x.2.2.2.2.2 (by omega) (by omega) (hB.under hM0 (by omega)).1 W eV (hV.on h)
  have C1 := fun W (h : Below w.heap.size w W) => palong_c V lv val x 1 (mnI up 65536) M (by omega) hM0 hB W eV (hV.on h)
  have C2 := fun W (h : Below w.heap.size w W) => palong_c V lv val (hi1 val x up).1 0 dx (M + 10000000) (by omega) (by omega) (hi1_sm hB hM0 (by omega)) W eV (hV.on h)
  have C3 := fun W (h : Below w.heap.size w W) => palong_c V lv val (oA val x dx up).1 2 dz (M + 20000000) (by omega) (by omega) (oA_sm hB hM0 (by omega)) W eV (hV.on h)
  have C4 := fun W (h : Below w.heap.size w W) => palong_c V lv val (oB val x dx dz up).1 1 (-rise val x up) (M + 30000000) (by omega) (by omega) (oB_sm hB hM0 (by omega)) W eV (hV.on h)
  have CW1 := fun W => pwent_c x (oC val x dx dz up).1 (by omega) (by omega) (by omega) (by omega) W
  have CW2 := fun W => pwent_c x (st3 val x dx dy dz) (by omega) (by omega) (by omega) (by omega) W
  have q1 : -9223372036854775808 ≤ (hi1 val x up).1.2.1 - x.2.1 ∧ (hi1 val x up).1.2.1 - x.2.1 ≤ 9223372036854775807 := by omega
  have q2 : -9223372036854775808 ≤ -((hi1 val x up).1.2.1 - x.2.1) ∧ -((hi1 val x up).1.2.1 - x.2.1) ≤ 9223372036854775807 := by omega
  clear t0 tH tC tY hM hM0 hB hV eV
  have fC : oC val x dx dz up = al6 val (oB val x dx dz up).1 1 (-rise val x up) := rfl
  have fB : oB val x dx dz up = al6 val (oA val x dx up).1 2 dz := rfl
  have fA : oA val x dx up = al6 val (hi1 val x up).1 0 dx := rfl
  have fH : hi1 val x up = al6 val x 1 (mnI up 65536) := rfl
  have fR : rise val x up = (hi1 val x up).1.2.1 - x.2.1 := rfl
  rw [← fC] at C4
  rw [← fB] at C3
  rw [← fA] at C2
  rw [← fH] at C1
  rw [fR] at C4
  have fS : unB val x = (cellsI x.1 (cutI (x.2.1 - 1)) x.2.2.1 x.2.2.2.1 x.2.1 x.2.2.2.2.2).any fun c => solB (val c) := rfl
  rw [← fS] at CS
  unfold moveT at C0
  unfold stepV
  clear fC fB fA fH fR fS
  generalize hi1 val x up = H at C1 C2 q1 q2 C4
  generalize oA val x dx up = A at C2 C3 ⊢
  generalize oB val x dx dz up = B at C3 C4 ⊢
  generalize oC val x dx dz up = C at C4 CW1 ⊢
  generalize st3 val x dx dy dz = y at C0 CW2 ⊢
  generalize hx2 val x dx dy = u0 at C0 ⊢
  generalize hy1 val x dy = u1 at C0 ⊢
  generalize hz3 val x dx dy dz = u2 at C0 ⊢
  generalize unB val x = st at CS ⊢
  generalize wentI x C.1 = n1 at CW1 ⊢
  generalize wentI x y = n2 at CW2 ⊢
  obtain ⟨r, hr⟩ : ∃ r, r = stepOf y C.1 u0 u1 u2 A.2 B.2 st up n1 n2 := ⟨_, rfl⟩
  rw [← hr]
  obtain ⟨a, b, c, d, e, f⟩ := x
  obtain ⟨y1, y2, y3, y4, y5, y6⟩ := y
  obtain ⟨⟨h1, h2, h3, h4, h5, h6⟩, sh⟩ := H
  obtain ⟨⟨a1, a2, a3, a4, a5, a6⟩, sa⟩ := A
  obtain ⟨⟨b1, b2, b3, b4, b5, b6⟩, sb⟩ := B
  obtain ⟨⟨c1, c2, c3, c4, c5, c6⟩, sc⟩ := C
  simp only [alT, ag6, ah3, bhT] at *
  obtain ⟨q1, q3⟩ := q1
  obtain ⟨q2, q4⟩ := q2
  have HR := Lib.hid hr
  clear hr
  have HC0 := Lib.hid C0
  have HC1 := Lib.hid C1
  have HC2 := Lib.hid C2
  have HC3 := Lib.hid C3
  have HC4 := Lib.hid C4
  have HCS := Lib.hid CS
  have HW1 := Lib.hid CW1
  have HW2 := Lib.hid CW2
  clear C0 C1 C2 C3 C4 CS CW1 CW2
  obtain ⟨W, hW⟩ : ∃ W, W = (((w.alloc (.cells #[.int .i64 a, .int .i64 b, .int .i64 c, .int .i64 d, .int .i64 e, .int .i64 f] 210)).alloc (.cells #[.int .i64 dx, .int .i64 dy, .int .i64 dz] 38)).alloc (.cells #[.int .i64 0, .int .i64 0, .int .i64 0, .int .i64 0, .int .i64 0, .int .i64 0] 210)).alloc (.cells #[.bool false, .bool false, .bool false] 322) := ⟨_, rfl⟩
  have H : Below w.heap.size w W := by rw [hW]; go_grown
  have hs : W.heap.size = w.heap.size + 4 := by rw [hW]; simp
  obtain ⟨N, hN⟩ : ∃ N, N = w.heap.size := ⟨_, rfl⟩
  rw [← hN] at hs
  have HS := Lib.hid hs
  clear hs
  have U : Blk W N 210 _ := Blk.eqw hW.symm (by rw [hN]; exact (((Blk.new' rfl).alloc _).alloc _).alloc _)
  have D : Blk W (N + 1) 38 _ := Blk.eqw hW.symm (by rw [hN]; exact ((Blk.new' (by simp)).alloc _).alloc _)
  have R0 : Blk W (N + 1 + 1) 210 _ := Blk.eqw hW.symm (by rw [hN]; exact (Blk.new' (by simp)).alloc _)
  have R1 : Blk W (N + 1 + 1 + 1) 322 _ := Blk.eqw hW.symm (by rw [hN]; exact Blk.new' (by simp))
  go_enter Tryz.func268, Tryz.ntmps268
  go_upto_region 1 with (fail)
  rw [← hW, ← hN]
  have HN := Lib.hid hN
  clear hW hN
  obtain ⟨u0', uu1, uu2, uu3, uu4, uu5⟩ := U.c6.1
  obtain ⟨v0, v1, v2, -, -, -⟩ := D.c3
  go_upto_region 2 with (go_at_call 272; refine (HC0.out _ H).mono ?_; rintro e_ w1 ⟨rfl, k1⟩)
  generalize hV : World.alloc (World.alloc w1 _) _ = Y1
  have hy : Below w1.heap.size w1 Y1 := by rw [← hV]; go_grown
  have P : Blk Y1 w1.heap.size 210 #[.int .i64 y1, .int .i64 y2, .int .i64 y3, .int .i64 y4, .int .i64 y5, .int .i64 y6] := Blk.eqw hV ((Blk.new' rfl).alloc _)
  have Q : Blk Y1 (w1.heap.size + 1) 322 #[.bool u0, .bool u1, .bool u2] := Blk.eqw hV (Blk.new' (by simp))
  have hgp : N + 4 ≤ w1.heap.size := by rw [← HS.out]; exact k1.size
  have HY := Lib.hid (after k1 hy)
  replace U := U.on k1
  replace D := D.on k1
  replace R0 := R0.on k1
  replace R1 := R1.on k1
  replace U := U.on hy
  replace D := D.on hy
  replace R0 := R0.on hy
  replace R1 := R1.on hy
  replace H := after (after H k1) hy
  clear hV hy k1 u0' uu1 uu2 uu3 uu4 uu5 v0 v1 v2
  generalize w1.heap.size = gp at P Q hgp ⊢
  have HH := Lib.hid H
  clear H HC0
  have ways : (u0 = false ∧ u2 = false) ∨ (u0 = false ∧ u2 = true ∧ up ≤ 0) ∨ (u0 = true ∧ up ≤ 0) ∨ (u0 = false ∧ u2 = true ∧ 0 < up ∧ st = false) ∨ (u0 = true ∧ 0 < up ∧ st = false) ∨ (u0 = false ∧ u2 = true ∧ 0 < up ∧ st = true) ∨ (u0 = true ∧ 0 < up ∧ st = true) := by
    cases u0 <;> cases u2 <;> cases st <;> simp <;> omega
  obtain ⟨u0', uu1, uu2, uu3, uu4, uu5⟩ := U.c6.1
  rcases ways with ⟨rfl, rfl⟩ | ⟨rfl, rfl, hu⟩ | ⟨rfl, hu⟩ | ⟨rfl, rfl, hu, rfl⟩ | ⟨rfl, hu, rfl⟩ | ⟨rfl, rfl, hu, rfl⟩ | ⟨rfl, hu, rfl⟩
  · obtain rfl : r = ((y1, y2, y3, y4, y5, y6), false, u1, false) := by rw [HR.out, stepOf_no (.inl ⟨rfl, rfl⟩)]
    obtain ⟨t0, t1, t2, -, -, -⟩ := Q.c3
    have x0 := fun f d os => (P.sp (D := [N + 1 + 1, N + 1 + 1 + 1]) (by simp; omega) f d os).c6.1
    have y0 := fun f d os => (Q.sp (D := [N + 1 + 1, N + 1 + 1 + 1]) (by simp; omega) f d os).c3
    go_upto_region 3 with (fail)
    have B1 := R0
    have B2 := R1
    refine wp_two [0, 0, 2, 2] 2 (N + 1 + 1) (210) (#[.int .i64 y1, .int .i64 y2, .int .i64 y3, .int .i64 y4, .int .i64 y5, .int .i64 y6]) 3 (N + 1 + 1 + 1) (322) (#[.bool false, .bool u1, .bool false]) (by omega) (by kernel_rfl) (by kernel_rfl) ?_
    repeat (first | (refine wpQs_s ?_) | (refine wpQs_q (fun K hK => ?_); go_simp; first | (refine hK _ ?_; clear hK K) | (apply Exists.intro; refine ⟨fun _ => ?_, hK _ ?_⟩; (fail); clear hK K)))
    refine wpQs_nil ?_
    repeat (refine wpLs_skip ?_)
    refine wpLs_one ?s1 (fun vs1_ => ?_)
    case s1 =>
      intro w_ hw_ hp_
      have L2 := hp_.blk (by simp [Ds2]) B1
      obtain ⟨⟨q0, q1, q2, q3, q4, q5⟩, f0, f1, f2, f3, f4, f5⟩ := L2.c6
      go_simp
      exact two_fst (by decide) kept6 (L2.st6 _ _ _ _ _ _)
    refine wpLs_one ?s2 (fun vs2_ => ?_)
    case s2 =>
      intro w_ hw_ hp_
      have T2 := hp_.blk (by simp [Ds2]) B2
      obtain ⟨q0, q1, q2, f0, f1, f2⟩ := T2.c3
      go_simp
      exact two_snd (by decide) kept3 (T2.st3 _ _ _)
    refine wpLs_nilD ?_
    simp only [tails]
    rintro w_ k_ ⟨⟨-, r1⟩, r2⟩
    obtain ⟨⟨m0, m1, m2, m3, m4, m5⟩, -, -, -, -, -, -⟩ := (r1.1 rfl).c6
    obtain ⟨j0, j1, j2, -, -, -⟩ := (r2.2 rfl).c3
    clear r1 r2 x0 y0 B1 B2
    simp only [wpList, Exit.then]
    rename_i hKret
    refine hKret _ _ (wp_ret ?_)
    try simp only [Exit.then]
    refine bodyPost_ret (v := .tuple #[.agg #[.int .i64 y1, .int .i64 y2, .int .i64 y3, .int .i64 y4, .int .i64 y5, .int .i64 y6], .agg #[.bool false, .bool u1, .bool false]]) (by simp [results, Tryz.f268, go_sem, m0, m1, m2, m3, m4, m5, j0, j1, j2]) rfl ⟨rfl, ?_⟩
    have hN_ := HN.out
    exact (HH.out).trans (k_.below (HH.out).size (fun b hb => by simp; omega))
  · obtain rfl : r = ((y1, y2, y3, y4, y5, y6), false, u1, true) := by rw [HR.out, stepOf_no (.inr (.inl hu))]
    obtain ⟨t0, t1, t2, -, -, -⟩ := Q.c3
    have hu1 : ¬ 0 < up := by omega
    have x0 := fun f d os => (P.sp (D := [N + 1 + 1, N + 1 + 1 + 1]) (by simp; omega) f d os).c6.1
    have y0 := fun f d os => (Q.sp (D := [N + 1 + 1, N + 1 + 1 + 1]) (by simp; omega) f d os).c3
    go_upto_region 3 with (fail)
    have B1 := R0
    have B2 := R1
    refine wp_two [0, 0, 2, 2] 2 (N + 1 + 1) (210) (#[.int .i64 y1, .int .i64 y2, .int .i64 y3, .int .i64 y4, .int .i64 y5, .int .i64 y6]) 3 (N + 1 + 1 + 1) (322) (#[.bool false, .bool u1, .bool true]) (by omega) (by kernel_rfl) (by kernel_rfl) ?_
    repeat (first | (refine wpQs_s ?_) | (refine wpQs_q (fun K hK => ?_); go_simp; first | (refine hK _ ?_; clear hK K) | (apply Exists.intro; refine ⟨fun _ => ?_, hK _ ?_⟩; (fail); clear hK K)))
    refine wpQs_nil ?_
    repeat (refine wpLs_skip ?_)
    refine wpLs_one ?s1 (fun vs1_ => ?_)
    case s1 =>
      intro w_ hw_ hp_
      have L2 := hp_.blk (by simp [Ds2]) B1
      obtain ⟨⟨q0, q1, q2, q3, q4, q5⟩, f0, f1, f2, f3, f4, f5⟩ := L2.c6
      go_simp
      exact two_fst (by decide) kept6 (L2.st6 _ _ _ _ _ _)
    refine wpLs_one ?s2 (fun vs2_ => ?_)
    case s2 =>
      intro w_ hw_ hp_
      have T2 := hp_.blk (by simp [Ds2]) B2
      obtain ⟨q0, q1, q2, f0, f1, f2⟩ := T2.c3
      go_simp
      exact two_snd (by decide) kept3 (T2.st3 _ _ _)
    refine wpLs_nilD ?_
    simp only [tails]
    rintro w_ k_ ⟨⟨-, r1⟩, r2⟩
    obtain ⟨⟨m0, m1, m2, m3, m4, m5⟩, -, -, -, -, -, -⟩ := (r1.1 rfl).c6
    obtain ⟨j0, j1, j2, -, -, -⟩ := (r2.2 rfl).c3
    clear r1 r2 x0 y0 B1 B2
    simp only [wpList, Exit.then]
    rename_i hKret
    refine hKret _ _ (wp_ret ?_)
    try simp only [Exit.then]
    refine bodyPost_ret (v := .tuple #[.agg #[.int .i64 y1, .int .i64 y2, .int .i64 y3, .int .i64 y4, .int .i64 y5, .int .i64 y6], .agg #[.bool false, .bool u1, .bool true]]) (by simp [results, Tryz.f268, go_sem, m0, m1, m2, m3, m4, m5, j0, j1, j2]) rfl ⟨rfl, ?_⟩
    have hN_ := HN.out
    exact (HH.out).trans (k_.below (HH.out).size (fun b hb => by simp; omega))
  · obtain rfl : r = ((y1, y2, y3, y4, y5, y6), true, u1, u2) := by rw [HR.out, stepOf_no (.inr (.inl hu))]
    obtain ⟨t0, t1, t2, -, -, -⟩ := Q.c3
    have hu1 : ¬ 0 < up := by omega
    have x0 := fun f d os => (P.sp (D := [N + 1 + 1, N + 1 + 1 + 1]) (by simp; omega) f d os).c6.1
    have y0 := fun f d os => (Q.sp (D := [N + 1 + 1, N + 1 + 1 + 1]) (by simp; omega) f d os).c3
    go_upto_region 3 with (fail)
    have B1 := R0
    have B2 := R1
    refine wp_two [0, 0, 2, 2] 2 (N + 1 + 1) (210) (#[.int .i64 y1, .int .i64 y2, .int .i64 y3, .int .i64 y4, .int .i64 y5, .int .i64 y6]) 3 (N + 1 + 1 + 1) (322) (#[.bool true, .bool u1, .bool u2]) (by omega) (by kernel_rfl) (by kernel_rfl) ?_
    repeat (first | (refine wpQs_s ?_) | (refine wpQs_q (fun K hK => ?_); go_simp; first | (refine hK _ ?_; clear hK K) | (apply Exists.intro; refine ⟨fun _ => ?_, hK _ ?_⟩; (fail); clear hK K)))
    refine wpQs_nil ?_
    repeat (refine wpLs_skip ?_)
    refine wpLs_one ?s1 (fun vs1_ => ?_)
    case s1 =>
      intro w_ hw_ hp_
      have L2 := hp_.blk (by simp [Ds2]) B1
      obtain ⟨⟨q0, q1, q2, q3, q4, q5⟩, f0, f1, f2, f3, f4, f5⟩ := L2.c6
      go_simp
      exact two_fst (by decide) kept6 (L2.st6 _ _ _ _ _ _)
    refine wpLs_one ?s2 (fun vs2_ => ?_)
    case s2 =>
      intro w_ hw_ hp_
      have T2 := hp_.blk (by simp [Ds2]) B2
      obtain ⟨q0, q1, q2, f0, f1, f2⟩ := T2.c3
      go_simp
      exact two_snd (by decide) kept3 (T2.st3 _ _ _)
    refine wpLs_nilD ?_
    simp only [tails]
    rintro w_ k_ ⟨⟨-, r1⟩, r2⟩
    obtain ⟨⟨m0, m1, m2, m3, m4, m5⟩, -, -, -, -, -, -⟩ := (r1.1 rfl).c6
    obtain ⟨j0, j1, j2, -, -, -⟩ := (r2.2 rfl).c3
    clear r1 r2 x0 y0 B1 B2
    simp only [wpList, Exit.then]
    rename_i hKret
    refine hKret _ _ (wp_ret ?_)
    try simp only [Exit.then]
    refine bodyPost_ret (v := .tuple #[.agg #[.int .i64 y1, .int .i64 y2, .int .i64 y3, .int .i64 y4, .int .i64 y5, .int .i64 y6], .agg #[.bool true, .bool u1, .bool u2]]) (by simp [results, Tryz.f268, go_sem, m0, m1, m2, m3, m4, m5, j0, j1, j2]) rfl ⟨rfl, ?_⟩
    have hN_ := HN.out
    exact (HH.out).trans (k_.below (HH.out).size (fun b hb => by simp; omega))
  · obtain rfl : r = ((y1, y2, y3, y4, y5, y6), false, u1, true) := by rw [HR.out, stepOf_no (.inr (.inr (.inl rfl)))]
    obtain ⟨t0, t1, t2, -, -, -⟩ := Q.c3
    have hu1 : decide (up ≤ 0) = false := by simpa using hu
    go_upto_region 3 with (go_at_call 140; refine (HCS.out _ HH.out).mono ?_; rintro e_ w2 ⟨rfl, k2⟩)
    clear t0 t1 t2 u0' uu1 uu2 uu3 uu4 uu5
    replace P := P.on k2
    replace Q := Q.on k2
    replace R0 := R0.on k2
    replace R1 := R1.on k2
    replace HH := Lib.hid (after HH.out k2)
    have x0 := fun f d os => (P.sp (D := [N + 1 + 1, N + 1 + 1 + 1]) (by simp; omega) f d os).c6.1
    have y0 := fun f d os => (Q.sp (D := [N + 1 + 1, N + 1 + 1 + 1]) (by simp; omega) f d os).c3
    go_upto_region 3 with (fail)
    have B1 := R0
    have B2 := R1
    refine wp_two [0, 0, 2, 2] 2 (N + 1 + 1) (210) (#[.int .i64 y1, .int .i64 y2, .int .i64 y3, .int .i64 y4, .int .i64 y5, .int .i64 y6]) 3 (N + 1 + 1 + 1) (322) (#[.bool false, .bool u1, .bool true]) (by omega) (by kernel_rfl) (by kernel_rfl) ?_
    repeat (first | (refine wpQs_s ?_) | (refine wpQs_q (fun K hK => ?_); go_simp; first | (refine hK _ ?_; clear hK K) | (apply Exists.intro; refine ⟨fun _ => ?_, hK _ ?_⟩; (fail); clear hK K)))
    refine wpQs_nil ?_
    repeat (refine wpLs_skip ?_)
    refine wpLs_one ?s1 (fun vs1_ => ?_)
    case s1 =>
      intro w_ hw_ hp_
      have L2 := hp_.blk (by simp [Ds2]) B1
      obtain ⟨⟨q0, q1, q2, q3, q4, q5⟩, f0, f1, f2, f3, f4, f5⟩ := L2.c6
      go_simp
      exact two_fst (by decide) kept6 (L2.st6 _ _ _ _ _ _)
    refine wpLs_one ?s2 (fun vs2_ => ?_)
    case s2 =>
      intro w_ hw_ hp_
      have T2 := hp_.blk (by simp [Ds2]) B2
      obtain ⟨q0, q1, q2, f0, f1, f2⟩ := T2.c3
      go_simp
      exact two_snd (by decide) kept3 (T2.st3 _ _ _)
    refine wpLs_nilD ?_
    simp only [tails]
    rintro w_ k_ ⟨⟨-, r1⟩, r2⟩
    obtain ⟨⟨m0, m1, m2, m3, m4, m5⟩, -, -, -, -, -, -⟩ := (r1.1 rfl).c6
    obtain ⟨j0, j1, j2, -, -, -⟩ := (r2.2 rfl).c3
    clear r1 r2 x0 y0 B1 B2
    simp only [wpList, Exit.then]
    rename_i hKret
    refine hKret _ _ (wp_ret ?_)
    try simp only [Exit.then]
    refine bodyPost_ret (v := .tuple #[.agg #[.int .i64 y1, .int .i64 y2, .int .i64 y3, .int .i64 y4, .int .i64 y5, .int .i64 y6], .agg #[.bool false, .bool u1, .bool true]]) (by simp [results, Tryz.f268, go_sem, m0, m1, m2, m3, m4, m5, j0, j1, j2]) rfl ⟨rfl, ?_⟩
    have hN_ := HN.out
    exact (HH.out).trans (k_.below (HH.out).size (fun b hb => by simp; omega))
  · obtain rfl : r = ((y1, y2, y3, y4, y5, y6), true, u1, u2) := by rw [HR.out, stepOf_no (.inr (.inr (.inl rfl)))]
    obtain ⟨t0, t1, t2, -, -, -⟩ := Q.c3
    have hu1 : decide (up ≤ 0) = false := by simpa using hu
    go_upto_region 3 with (go_at_call 140; refine (HCS.out _ HH.out).mono ?_; rintro e_ w2 ⟨rfl, k2⟩)
    clear t0 t1 t2 u0' uu1 uu2 uu3 uu4 uu5
    replace P := P.on k2
    replace Q := Q.on k2
    replace R0 := R0.on k2
    replace R1 := R1.on k2
    replace HH := Lib.hid (after HH.out k2)
    have x0 := fun f d os => (P.sp (D := [N + 1 + 1, N + 1 + 1 + 1]) (by simp; omega) f d os).c6.1
    have y0 := fun f d os => (Q.sp (D := [N + 1 + 1, N + 1 + 1 + 1]) (by simp; omega) f d os).c3
    go_upto_region 3 with (fail)
    have B1 := R0
    have B2 := R1
    refine wp_two [0, 0, 2, 2] 2 (N + 1 + 1) (210) (#[.int .i64 y1, .int .i64 y2, .int .i64 y3, .int .i64 y4, .int .i64 y5, .int .i64 y6]) 3 (N + 1 + 1 + 1) (322) (#[.bool true, .bool u1, .bool u2]) (by omega) (by kernel_rfl) (by kernel_rfl) ?_
    repeat (first | (refine wpQs_s ?_) | (refine wpQs_q (fun K hK => ?_); go_simp; first | (refine hK _ ?_; clear hK K) | (apply Exists.intro; refine ⟨fun _ => ?_, hK _ ?_⟩; (fail); clear hK K)))
    refine wpQs_nil ?_
    repeat (refine wpLs_skip ?_)
    refine wpLs_one ?s1 (fun vs1_ => ?_)
    case s1 =>
      intro w_ hw_ hp_
      have L2 := hp_.blk (by simp [Ds2]) B1
      obtain ⟨⟨q0, q1, q2, q3, q4, q5⟩, f0, f1, f2, f3, f4, f5⟩ := L2.c6
      go_simp
      exact two_fst (by decide) kept6 (L2.st6 _ _ _ _ _ _)
    refine wpLs_one ?s2 (fun vs2_ => ?_)
    case s2 =>
      intro w_ hw_ hp_
      have T2 := hp_.blk (by simp [Ds2]) B2
      obtain ⟨q0, q1, q2, f0, f1, f2⟩ := T2.c3
      go_simp
      exact two_snd (by decide) kept3 (T2.st3 _ _ _)
    refine wpLs_nilD ?_
    simp only [tails]
    rintro w_ k_ ⟨⟨-, r1⟩, r2⟩
    obtain ⟨⟨m0, m1, m2, m3, m4, m5⟩, -, -, -, -, -, -⟩ := (r1.1 rfl).c6
    obtain ⟨j0, j1, j2, -, -, -⟩ := (r2.2 rfl).c3
    clear r1 r2 x0 y0 B1 B2
    simp only [wpList, Exit.then]
    rename_i hKret
    refine hKret _ _ (wp_ret ?_)
    try simp only [Exit.then]
    refine bodyPost_ret (v := .tuple #[.agg #[.int .i64 y1, .int .i64 y2, .int .i64 y3, .int .i64 y4, .int .i64 y5, .int .i64 y6], .agg #[.bool true, .bool u1, .bool u2]]) (by simp [results, Tryz.f268, go_sem, m0, m1, m2, m3, m4, m5, j0, j1, j2]) rfl ⟨rfl, ?_⟩
    have hN_ := HN.out
    exact (HH.out).trans (k_.below (HH.out).size (fun b hb => by simp; omega))
  · obtain ⟨t0, t1, t2, -, -, -⟩ := Q.c3
    have hu1 : decide (up ≤ 0) = false := by simpa using hu
    obtain ⟨v0, v1, v2, -, -, -⟩ := D.c3
    have hmn := @run_mn Tryz.prog
    go_upto_region 5 with (first | (go_at_call 140; refine (HCS.out _ HH.out).mono ?_; rintro e_ w2 ⟨rfl, k2⟩; replace HH := Lib.hid (after HH.out k2); replace U := U.on k2; replace D := D.on k2; replace P := P.on k2; replace Q := Q.on k2; replace R0 := R0.on k2; replace R1 := R1.on k2; clear t0 t1 t2 u0' uu1 uu2 uu3 uu4 uu5 v0 v1 v2; obtain ⟨t0, t1, t2, -, -, -⟩ := Q.c3; obtain ⟨u0', uu1, uu2, uu3, uu4, uu5⟩ := U.c6.1; obtain ⟨v0, v1, v2, -, -, -⟩ := D.c3) | (go_at_call 314; refine (HC1.out _ HH.out).mono ?_; rintro e_ w3 ⟨rfl, k3⟩))
    generalize hV : World.alloc w3 _ = Y3
    have hy : Below w3.heap.size w3 Y3 := by rw [← hV]; go_grown
    have Hb : Blk Y3 w3.heap.size 210 #[.int .i64 h1, .int .i64 h2, .int .i64 h3, .int .i64 h4, .int .i64 h5, .int .i64 h6] := Blk.eqw hV (Blk.new' rfl)
    have hg3 : gp + 2 ≤ w3.heap.size := by have := k3.size; have := Q.lt; omega
    replace U := U.on k3
    replace D := D.on k3
    replace P := P.on k3
    replace Q := Q.on k3
    replace R0 := R0.on k3
    replace R1 := R1.on k3
    replace U := U.on hy
    replace D := D.on hy
    replace P := P.on hy
    replace Q := Q.on hy
    replace R0 := R0.on hy
    replace R1 := R1.on hy
    replace HH := Lib.hid (after (after HH.out k3) hy)
    clear hV hy k3 t0 t1 t2 u0' uu1 uu2 uu3 uu4 uu5 v0 v1 v2
    generalize w3.heap.size = g3 at Hb hg3 ⊢
    obtain ⟨x0, x1, x2, x3, x4, x5⟩ := Hb.c6.1
    obtain ⟨u0', uu1, uu2, uu3, uu4, uu5⟩ := U.c6.1
    obtain ⟨v0, v1, v2, -, -, -⟩ := D.c3
    have hg4 : g3 < Y3.heap.size := Hb.lt
    have hg5 : N < Y3.heap.size := U.lt
    have hg6 : N + 1 < Y3.heap.size := D.lt
    go_upto_region 8 with (fail)
    generalize hV : World.alloc (World.alloc Y3 _) _ = Y4
    have hy : Below Y3.heap.size Y3 Y4 := by rw [← hV]; go_grown
    have Ow : Blk Y4 Y3.heap.size 322 #[.bool false, .bool true, .bool false] := Blk.eqw hV ((Blk.new' rfl).alloc _)
    have Ou : Blk Y4 (Y3.heap.size + 1) 210 #[.int .i64 h1, .int .i64 h2, .int .i64 h3, .int .i64 h4, .int .i64 h5, .int .i64 h6] := Blk.eqw hV (Blk.new' (by simp))
    clear hg5 hg6
    replace U := U.on hy
    replace D := D.on hy
    replace P := P.on hy
    replace Q := Q.on hy
    replace R0 := R0.on hy
    replace R1 := R1.on hy
    replace HH := Lib.hid (after HH.out hy)
    clear hV hy x0 x1 x2 x3 x4 x5 u0' uu1 uu2 uu3 uu4 uu5 v0 v1 v2 Hb
    generalize Y3.heap.size = g4 at Ow Ou hg4 ⊢
    obtain ⟨u0', uu1, uu2, uu3, uu4, uu5⟩ := U.c6.1
    obtain ⟨v0, v1, v2, -, -, -⟩ := D.c3
    obtain ⟨x0, x1, x2, x3, x4, x5⟩ := Ou.c6.1
    go_upto_region 9 with (go_at_call 314; refine (HC2.out _ HH.out).mono ?_; rintro e_ w5 ⟨rfl, k5⟩; replace U := U.on k5; replace D := D.on k5; replace P := P.on k5; replace Q := Q.on k5; replace R0 := R0.on k5; replace R1 := R1.on k5; replace Ow := Ow.on k5; replace Ou := Ou.on k5; obtain ⟨⟨z0, z1, z2, z3, z4, z5⟩, zf0, zf1, zf2, zf3, zf4, zf5⟩ := Ou.c6; obtain ⟨s0, s1, s2, sf0, sf1, sf2⟩ := Ow.c3)
    generalize hV : World.setCell (World.setCell _ _ _) _ _ = Y5
    have hk : Kept (fun c => c ≠ g4 ∧ c ≠ g4 + 1) w5 Y5 := by rw [← hV]; exact (kept6.mono (fun b h => h.2)).setCell (p := ⟨g4, 0, none⟩) (fun h => h.1 rfl) _
    have Ou2 : Blk Y5 (g4 + 1) 210 #[.int .i64 a1, .int .i64 a2, .int .i64 a3, .int .i64 a4, .int .i64 a5, .int .i64 a6] := Blk.eqw hV ((Ou.st6 (.int .i64 a1) (.int .i64 a2) (.int .i64 a3) (.int .i64 a4) (.int .i64 a5) (.int .i64 a6)).far (p := ⟨g4, 0, none⟩) (by dsimp only; omega) _)
    have Ow2 : Blk Y5 g4 322 #[.bool sa, .bool true, .bool false] := Blk.eqw hV ((sx6_far Ow (show g4 ≠ g4 + 1 by omega) (.int .i64 a1) (.int .i64 a2) (.int .i64 a3) (.int .i64 a4) (.int .i64 a5) (.int .i64 a6)).set_ 0 (.bool sa))
    have HB := Lib.hid (show Below w.heap.size w Y5 by
      have h1 := after HH.out k5
      have h2 := HN.out
      rw [← hV]
      exact (sx6_below h1 (by omega) _ _ _ _ _ _).setCell (p := ⟨g4, 0, none⟩) (by dsimp only; omega) _)
    replace U := hk.blk (by omega) U
    replace D := hk.blk (by omega) D
    replace P := hk.blk (by omega) P
    replace Q := hk.blk (by omega) Q
    replace R0 := hk.blk (by omega) R0
    replace R1 := hk.blk (by omega) R1
    clear hV hk k5 HH z0 z1 z2 z3 z4 z5 zf0 zf1 zf2 zf3 zf4 zf5 s0 s1 s2 sf0 sf1 sf2 x0 x1 x2 x3 x4 x5 u0' uu1 uu2 uu3 uu4 uu5 v0 v1 v2 Ou Ow
    have HH := HB
    have Ou := Ou2
    have Ow := Ow2
    clear HB Ou2 Ow2
    obtain ⟨u0', uu1, uu2, uu3, uu4, uu5⟩ := U.c6.1
    obtain ⟨v0, v1, v2, -, -, -⟩ := D.c3
    obtain ⟨x0, x1, x2, x3, x4, x5⟩ := Ou.c6.1
    go_upto_region 10 with (go_at_call 314; refine (HC3.out _ HH.out).mono ?_; rintro e_ w6 ⟨rfl, k5⟩; replace U := U.on k5; replace D := D.on k5; replace P := P.on k5; replace Q := Q.on k5; replace R0 := R0.on k5; replace R1 := R1.on k5; replace Ow := Ow.on k5; replace Ou := Ou.on k5; obtain ⟨⟨z0, z1, z2, z3, z4, z5⟩, zf0, zf1, zf2, zf3, zf4, zf5⟩ := Ou.c6; obtain ⟨s0, s1, s2, sf0, sf1, sf2⟩ := Ow.c3)
    generalize hV : World.setCell (World.setCell _ _ _) _ _ = Y6
    have hk : Kept (fun c => c ≠ g4 ∧ c ≠ g4 + 1) w6 Y6 := by rw [← hV]; exact (kept6.mono (fun b h => h.2)).setCell (p := ⟨g4, 2, none⟩) (fun h => h.1 rfl) _
    have Ou2 : Blk Y6 (g4 + 1) 210 #[.int .i64 b1, .int .i64 b2, .int .i64 b3, .int .i64 b4, .int .i64 b5, .int .i64 b6] := Blk.eqw hV ((Ou.st6 (.int .i64 b1) (.int .i64 b2) (.int .i64 b3) (.int .i64 b4) (.int .i64 b5) (.int .i64 b6)).far (p := ⟨g4, 2, none⟩) (by dsimp only; omega) _)
    have Ow2 : Blk Y6 g4 322 #[.bool sa, .bool true, .bool sb] := Blk.eqw hV ((sx6_far Ow (show g4 ≠ g4 + 1 by omega) (.int .i64 b1) (.int .i64 b2) (.int .i64 b3) (.int .i64 b4) (.int .i64 b5) (.int .i64 b6)).set_ 2 (.bool sb))
    have HB := Lib.hid (show Below w.heap.size w Y6 by
      have h1 := after HH.out k5
      have h2 := HN.out
      rw [← hV]
      exact (sx6_below h1 (by omega) _ _ _ _ _ _).setCell (p := ⟨g4, 2, none⟩) (by dsimp only; omega) _)
    replace U := hk.blk (by omega) U
    replace D := hk.blk (by omega) D
    replace P := hk.blk (by omega) P
    replace Q := hk.blk (by omega) Q
    replace R0 := hk.blk (by omega) R0
    replace R1 := hk.blk (by omega) R1
    clear hV hk k5 HH z0 z1 z2 z3 z4 z5 zf0 zf1 zf2 zf3 zf4 zf5 s0 s1 s2 sf0 sf1 sf2 x0 x1 x2 x3 x4 x5 u0' uu1 uu2 uu3 uu4 uu5 v0 v1 v2 Ou Ow
    have HH := HB
    have Ou := Ou2
    have Ow := Ow2
    clear HB Ou2 Ow2
    obtain ⟨u0', uu1, uu2, uu3, uu4, uu5⟩ := U.c6.1
    obtain ⟨v0, v1, v2, -, -, -⟩ := D.c3
    obtain ⟨x0, x1, x2, x3, x4, x5⟩ := Ou.c6.1
    go_upto_region 11 with (go_at_call 314; refine (HC4.out _ HH.out).mono ?_; rintro e_ w7 ⟨rfl, k5⟩; replace U := U.on k5; replace D := D.on k5; replace P := P.on k5; replace Q := Q.on k5; replace R0 := R0.on k5; replace R1 := R1.on k5; replace Ow := Ow.on k5; replace Ou := Ou.on k5; obtain ⟨⟨z0, z1, z2, z3, z4, z5⟩, zf0, zf1, zf2, zf3, zf4, zf5⟩ := Ou.c6; obtain ⟨s0, s1, s2, sf0, sf1, sf2⟩ := Ow.c3)
    generalize hV : World.setCell (World.setCell _ _ _) _ _ = Y7
    have hk : Kept (fun c => c ≠ g4 ∧ c ≠ g4 + 1) w7 Y7 := by rw [← hV]; exact kept6.mono (fun b h => h.2)
    have Ou2 : Blk Y7 (g4 + 1) 210 #[.int .i64 c1, .int .i64 c2, .int .i64 c3, .int .i64 c4, .int .i64 c5, .int .i64 c6] := Blk.eqw hV (Ou.st6 (.int .i64 c1) (.int .i64 c2) (.int .i64 c3) (.int .i64 c4) (.int .i64 c5) (.int .i64 c6))
    have Ow2 : Blk Y7 g4 322 #[.bool sa, .bool true, .bool sb] := Blk.eqw hV (sx6_far Ow (show g4 ≠ g4 + 1 by omega) (.int .i64 c1) (.int .i64 c2) (.int .i64 c3) (.int .i64 c4) (.int .i64 c5) (.int .i64 c6))
    have HB := Lib.hid (show Below w.heap.size w Y7 by
      have h1 := after HH.out k5
      have h2 := HN.out
      rw [← hV]
      exact sx6_below h1 (by omega) _ _ _ _ _ _)
    replace U := hk.blk (by omega) U
    replace D := hk.blk (by omega) D
    replace P := hk.blk (by omega) P
    replace Q := hk.blk (by omega) Q
    replace R0 := hk.blk (by omega) R0
    replace R1 := hk.blk (by omega) R1
    clear hV hk k5 HH z0 z1 z2 z3 z4 z5 zf0 zf1 zf2 zf3 zf4 zf5 s0 s1 s2 sf0 sf1 sf2 x0 x1 x2 x3 x4 x5 u0' uu1 uu2 uu3 uu4 uu5 v0 v1 v2 Ou Ow
    have HH := HB
    have Ou := Ou2
    have Ow := Ow2
    clear HB Ou2 Ow2
    obtain ⟨u0', uu1, uu2, uu3, uu4, uu5⟩ := U.c6.1
    obtain ⟨v0, v1, v2, -, -, -⟩ := D.c3
    obtain ⟨x0, x1, x2, x3, x4, x5⟩ := Ou.c6.1
    clear v0 v1 v2 x0 x1 x2 x3 x4 x5 u0' uu1 uu2 uu3 uu4 uu5
    obtain ⟨x0, x1, x2, x3, x4, x5⟩ := Ou.re6
    obtain ⟨v0, v1, v2, v3, v4, v5⟩ := P.re6
    obtain ⟨u0', uu1, uu2, uu3, uu4, uu5⟩ := U.re6
    refine wp_region_quiet_below (by kernel_rfl) (by kernel_rfl) ?_
    repeat (go_big_quiet_step (first | (with_reducible exact Calls.regrown_of (HW1.out _)) | (with_reducible exact Calls.regrown_of (HW2.out _))))
    refine wpQuiet_nil ?_
    intro w' hw'
    obtain ⟨rg, rfl⟩ := hw'
    clear v0 v1 v2 v3 v4 v5 x0 x1 x2 x3 x4 x5 u0' uu1 uu2 uu3 uu4 uu5
    obtain ⟨Y8, hY8⟩ : ∃ Y8, Y8 = Go.Sort.grow (redrawn Y7 rg.d) rg.os := ⟨_, rfl⟩
    rw [← hY8]
    have hy : Below Y7.heap.size Y7 Y8 := by rw [hY8]; exact below_regrown _ _ _
    replace P := P.on hy
    replace Q := Q.on hy
    replace R0 := R0.on hy
    replace R1 := R1.on hy
    replace Ou := Ou.on hy
    replace Ow := Ow.on hy
    replace HH := Lib.hid (after HH.out hy)
    clear hY8 hy U D
    rcases (show n1 ≤ n2 ∨ n2 < n1 by omega) with hn | hn
    · obtain rfl : r = ((y1, y2, y3, y4, y5, y6), false, u1, true) := by rw [HR.out, stepOf_no (.inr (.inr (.inr hn)))]
      have x0 := fun f d os => (P.sp (D := [N + 1 + 1, N + 1 + 1 + 1]) (by simp; omega) f d os).c6.1
      have y0 := fun f d os => (Q.sp (D := [N + 1 + 1, N + 1 + 1 + 1]) (by simp; omega) f d os).c3
      go_upto_region 12 with (fail)
      have B1 := R0
      have B2 := R1
      refine wp_two [0, 0, 2, 2] 2 (N + 1 + 1) (210) (#[.int .i64 y1, .int .i64 y2, .int .i64 y3, .int .i64 y4, .int .i64 y5, .int .i64 y6]) 3 (N + 1 + 1 + 1) (322) (#[.bool false, .bool u1, .bool true]) (by omega) (by kernel_rfl) (by kernel_rfl) ?_
      repeat (first | (refine wpQs_s ?_) | (refine wpQs_q (fun K hK => ?_); go_simp; first | (refine hK _ ?_; clear hK K) | (apply Exists.intro; refine ⟨fun _ => ?_, hK _ ?_⟩; (fail); clear hK K)))
      refine wpQs_nil ?_
      repeat (refine wpLs_skip ?_)
      refine wpLs_one ?s1 (fun vs1_ => ?_)
      case s1 =>
        intro w_ hw_ hp_
        have L2 := hp_.blk (by simp [Ds2]) B1
        obtain ⟨⟨q0, q1, q2, q3, q4, q5⟩, f0, f1, f2, f3, f4, f5⟩ := L2.c6
        go_simp
        exact two_fst (by decide) kept6 (L2.st6 _ _ _ _ _ _)
      refine wpLs_one ?s2 (fun vs2_ => ?_)
      case s2 =>
        intro w_ hw_ hp_
        have T2 := hp_.blk (by simp [Ds2]) B2
        obtain ⟨q0, q1, q2, f0, f1, f2⟩ := T2.c3
        go_simp
        exact two_snd (by decide) kept3 (T2.st3 _ _ _)
      refine wpLs_nilD ?_
      simp only [tails]
      rintro w_ k_ ⟨⟨-, r1⟩, r2⟩
      obtain ⟨⟨m0, m1, m2, m3, m4, m5⟩, -, -, -, -, -, -⟩ := (r1.1 rfl).c6
      obtain ⟨j0, j1, j2, -, -, -⟩ := (r2.2 rfl).c3
      clear r1 r2 x0 y0 B1 B2
      simp only [wpList, Exit.then]
      rename_i hKret
      refine hKret _ _ (wp_ret ?_)
      try simp only [Exit.then]
      refine bodyPost_ret (v := .tuple #[.agg #[.int .i64 y1, .int .i64 y2, .int .i64 y3, .int .i64 y4, .int .i64 y5, .int .i64 y6], .agg #[.bool false, .bool u1, .bool true]]) (by simp [results, Tryz.f268, go_sem, m0, m1, m2, m3, m4, m5, j0, j1, j2]) rfl ⟨rfl, ?_⟩
      have hN_ := HN.out
      exact (HH.out).trans (k_.below (HH.out).size (fun b hb => by simp; omega))
    · obtain rfl : r = ((c1, c2, c3, c4, c5, c6), sa, true, sb) := by rw [HR.out, stepOf_yes (.inr rfl) hu hn]
      have hn2 : decide (n1 ≤ n2) = false := by simpa using hn
      have x0 := fun f d os => (Ou.sp (D := [N + 1 + 1, N + 1 + 1 + 1]) (by simp; omega) f d os).c6.1
      have y0 := fun f d os => (Ow.sp (D := [N + 1 + 1, N + 1 + 1 + 1]) (by simp; omega) f d os).c3
      go_upto_region 13 with (fail)
      have B1 := R0
      have B2 := R1
      refine wp_two [0, 0, 2, 2] 2 (N + 1 + 1) (210) (#[.int .i64 c1, .int .i64 c2, .int .i64 c3, .int .i64 c4, .int .i64 c5, .int .i64 c6]) 3 (N + 1 + 1 + 1) (322) (#[.bool sa, .bool true, .bool sb]) (by omega) (by kernel_rfl) (by kernel_rfl) ?_
      repeat (first | (refine wpQs_s ?_) | (refine wpQs_q (fun K hK => ?_); go_simp; first | (refine hK _ ?_; clear hK K) | (apply Exists.intro; refine ⟨fun _ => ?_, hK _ ?_⟩; (fail); clear hK K)))
      refine wpQs_nil ?_
      repeat (refine wpLs_skip ?_)
      refine wpLs_one ?s1 (fun vs1_ => ?_)
      case s1 =>
        intro w_ hw_ hp_
        have L2 := hp_.blk (by simp [Ds2]) B1
        obtain ⟨⟨q0, q1, q2, q3, q4, q5⟩, f0, f1, f2, f3, f4, f5⟩ := L2.c6
        go_simp
        exact two_fst (by decide) kept6 (L2.st6 _ _ _ _ _ _)
      refine wpLs_one ?s2 (fun vs2_ => ?_)
      case s2 =>
        intro w_ hw_ hp_
        have T2 := hp_.blk (by simp [Ds2]) B2
        obtain ⟨q0, q1, q2, f0, f1, f2⟩ := T2.c3
        go_simp
        exact two_snd (by decide) kept3 (T2.st3 _ _ _)
      refine wpLs_nilD ?_
      simp only [tails]
      rintro w_ k_ ⟨⟨-, r1⟩, r2⟩
      obtain ⟨⟨m0, m1, m2, m3, m4, m5⟩, -, -, -, -, -, -⟩ := (r1.1 rfl).c6
      obtain ⟨j0, j1, j2, -, -, -⟩ := (r2.2 rfl).c3
      clear r1 r2 x0 y0 B1 B2
      simp only [wpList, Exit.then]
      rename_i hKret
      refine hKret _ _ (wp_ret ?_)
      try simp only [Exit.then]
      refine bodyPost_ret (v := .tuple #[.agg #[.int .i64 c1, .int .i64 c2, .int .i64 c3, .int .i64 c4, .int .i64 c5, .int .i64 c6], .agg #[.bool sa, .bool true, .bool sb]]) (by simp [results, Tryz.f268, go_sem, m0, m1, m2, m3, m4, m5, j0, j1, j2]) rfl ⟨rfl, ?_⟩
      have hN_ := HN.out
      exact (HH.out).trans (k_.below (HH.out).size (fun b hb => by simp; omega))
  · obtain ⟨t0, t1, t2, -, -, -⟩ := Q.c3
    have hu1 : decide (up ≤ 0) = false := by simpa using hu
    obtain ⟨v0, v1, v2, -, -, -⟩ := D.c3
    have hmn := @run_mn Tryz.prog
    go_upto_region 5 with (first | (go_at_call 140; refine (HCS.out _ HH.out).mono ?_; rintro e_ w2 ⟨rfl, k2⟩; replace HH := Lib.hid (after HH.out k2); replace U := U.on k2; replace D := D.on k2; replace P := P.on k2; replace Q := Q.on k2; replace R0 := R0.on k2; replace R1 := R1.on k2; clear t0 t1 t2 u0' uu1 uu2 uu3 uu4 uu5 v0 v1 v2; obtain ⟨t0, t1, t2, -, -, -⟩ := Q.c3; obtain ⟨u0', uu1, uu2, uu3, uu4, uu5⟩ := U.c6.1; obtain ⟨v0, v1, v2, -, -, -⟩ := D.c3) | (go_at_call 314; refine (HC1.out _ HH.out).mono ?_; rintro e_ w3 ⟨rfl, k3⟩))
    generalize hV : World.alloc w3 _ = Y3
    have hy : Below w3.heap.size w3 Y3 := by rw [← hV]; go_grown
    have Hb : Blk Y3 w3.heap.size 210 #[.int .i64 h1, .int .i64 h2, .int .i64 h3, .int .i64 h4, .int .i64 h5, .int .i64 h6] := Blk.eqw hV (Blk.new' rfl)
    have hg3 : gp + 2 ≤ w3.heap.size := by have := k3.size; have := Q.lt; omega
    replace U := U.on k3
    replace D := D.on k3
    replace P := P.on k3
    replace Q := Q.on k3
    replace R0 := R0.on k3
    replace R1 := R1.on k3
    replace U := U.on hy
    replace D := D.on hy
    replace P := P.on hy
    replace Q := Q.on hy
    replace R0 := R0.on hy
    replace R1 := R1.on hy
    replace HH := Lib.hid (after (after HH.out k3) hy)
    clear hV hy k3 t0 t1 t2 u0' uu1 uu2 uu3 uu4 uu5 v0 v1 v2
    generalize w3.heap.size = g3 at Hb hg3 ⊢
    obtain ⟨x0, x1, x2, x3, x4, x5⟩ := Hb.c6.1
    obtain ⟨u0', uu1, uu2, uu3, uu4, uu5⟩ := U.c6.1
    obtain ⟨v0, v1, v2, -, -, -⟩ := D.c3
    have hg4 : g3 < Y3.heap.size := Hb.lt
    have hg5 : N < Y3.heap.size := U.lt
    have hg6 : N + 1 < Y3.heap.size := D.lt
    go_upto_region 8 with (fail)
    generalize hV : World.alloc (World.alloc Y3 _) _ = Y4
    have hy : Below Y3.heap.size Y3 Y4 := by rw [← hV]; go_grown
    have Ow : Blk Y4 Y3.heap.size 322 #[.bool false, .bool true, .bool false] := Blk.eqw hV ((Blk.new' rfl).alloc _)
    have Ou : Blk Y4 (Y3.heap.size + 1) 210 #[.int .i64 h1, .int .i64 h2, .int .i64 h3, .int .i64 h4, .int .i64 h5, .int .i64 h6] := Blk.eqw hV (Blk.new' (by simp))
    clear hg5 hg6
    replace U := U.on hy
    replace D := D.on hy
    replace P := P.on hy
    replace Q := Q.on hy
    replace R0 := R0.on hy
    replace R1 := R1.on hy
    replace HH := Lib.hid (after HH.out hy)
    clear hV hy x0 x1 x2 x3 x4 x5 u0' uu1 uu2 uu3 uu4 uu5 v0 v1 v2 Hb
    generalize Y3.heap.size = g4 at Ow Ou hg4 ⊢
    obtain ⟨u0', uu1, uu2, uu3, uu4, uu5⟩ := U.c6.1
    obtain ⟨v0, v1, v2, -, -, -⟩ := D.c3
    obtain ⟨x0, x1, x2, x3, x4, x5⟩ := Ou.c6.1
    go_upto_region 9 with (go_at_call 314; refine (HC2.out _ HH.out).mono ?_; rintro e_ w5 ⟨rfl, k5⟩; replace U := U.on k5; replace D := D.on k5; replace P := P.on k5; replace Q := Q.on k5; replace R0 := R0.on k5; replace R1 := R1.on k5; replace Ow := Ow.on k5; replace Ou := Ou.on k5; obtain ⟨⟨z0, z1, z2, z3, z4, z5⟩, zf0, zf1, zf2, zf3, zf4, zf5⟩ := Ou.c6; obtain ⟨s0, s1, s2, sf0, sf1, sf2⟩ := Ow.c3)
    generalize hV : World.setCell (World.setCell _ _ _) _ _ = Y5
    have hk : Kept (fun c => c ≠ g4 ∧ c ≠ g4 + 1) w5 Y5 := by rw [← hV]; exact (kept6.mono (fun b h => h.2)).setCell (p := ⟨g4, 0, none⟩) (fun h => h.1 rfl) _
    have Ou2 : Blk Y5 (g4 + 1) 210 #[.int .i64 a1, .int .i64 a2, .int .i64 a3, .int .i64 a4, .int .i64 a5, .int .i64 a6] := Blk.eqw hV ((Ou.st6 (.int .i64 a1) (.int .i64 a2) (.int .i64 a3) (.int .i64 a4) (.int .i64 a5) (.int .i64 a6)).far (p := ⟨g4, 0, none⟩) (by dsimp only; omega) _)
    have Ow2 : Blk Y5 g4 322 #[.bool sa, .bool true, .bool false] := Blk.eqw hV ((sx6_far Ow (show g4 ≠ g4 + 1 by omega) (.int .i64 a1) (.int .i64 a2) (.int .i64 a3) (.int .i64 a4) (.int .i64 a5) (.int .i64 a6)).set_ 0 (.bool sa))
    have HB := Lib.hid (show Below w.heap.size w Y5 by
      have h1 := after HH.out k5
      have h2 := HN.out
      rw [← hV]
      exact (sx6_below h1 (by omega) _ _ _ _ _ _).setCell (p := ⟨g4, 0, none⟩) (by dsimp only; omega) _)
    replace U := hk.blk (by omega) U
    replace D := hk.blk (by omega) D
    replace P := hk.blk (by omega) P
    replace Q := hk.blk (by omega) Q
    replace R0 := hk.blk (by omega) R0
    replace R1 := hk.blk (by omega) R1
    clear hV hk k5 HH z0 z1 z2 z3 z4 z5 zf0 zf1 zf2 zf3 zf4 zf5 s0 s1 s2 sf0 sf1 sf2 x0 x1 x2 x3 x4 x5 u0' uu1 uu2 uu3 uu4 uu5 v0 v1 v2 Ou Ow
    have HH := HB
    have Ou := Ou2
    have Ow := Ow2
    clear HB Ou2 Ow2
    obtain ⟨u0', uu1, uu2, uu3, uu4, uu5⟩ := U.c6.1
    obtain ⟨v0, v1, v2, -, -, -⟩ := D.c3
    obtain ⟨x0, x1, x2, x3, x4, x5⟩ := Ou.c6.1
    go_upto_region 10 with (go_at_call 314; refine (HC3.out _ HH.out).mono ?_; rintro e_ w6 ⟨rfl, k5⟩; replace U := U.on k5; replace D := D.on k5; replace P := P.on k5; replace Q := Q.on k5; replace R0 := R0.on k5; replace R1 := R1.on k5; replace Ow := Ow.on k5; replace Ou := Ou.on k5; obtain ⟨⟨z0, z1, z2, z3, z4, z5⟩, zf0, zf1, zf2, zf3, zf4, zf5⟩ := Ou.c6; obtain ⟨s0, s1, s2, sf0, sf1, sf2⟩ := Ow.c3)
    generalize hV : World.setCell (World.setCell _ _ _) _ _ = Y6
    have hk : Kept (fun c => c ≠ g4 ∧ c ≠ g4 + 1) w6 Y6 := by rw [← hV]; exact (kept6.mono (fun b h => h.2)).setCell (p := ⟨g4, 2, none⟩) (fun h => h.1 rfl) _
    have Ou2 : Blk Y6 (g4 + 1) 210 #[.int .i64 b1, .int .i64 b2, .int .i64 b3, .int .i64 b4, .int .i64 b5, .int .i64 b6] := Blk.eqw hV ((Ou.st6 (.int .i64 b1) (.int .i64 b2) (.int .i64 b3) (.int .i64 b4) (.int .i64 b5) (.int .i64 b6)).far (p := ⟨g4, 2, none⟩) (by dsimp only; omega) _)
    have Ow2 : Blk Y6 g4 322 #[.bool sa, .bool true, .bool sb] := Blk.eqw hV ((sx6_far Ow (show g4 ≠ g4 + 1 by omega) (.int .i64 b1) (.int .i64 b2) (.int .i64 b3) (.int .i64 b4) (.int .i64 b5) (.int .i64 b6)).set_ 2 (.bool sb))
    have HB := Lib.hid (show Below w.heap.size w Y6 by
      have h1 := after HH.out k5
      have h2 := HN.out
      rw [← hV]
      exact (sx6_below h1 (by omega) _ _ _ _ _ _).setCell (p := ⟨g4, 2, none⟩) (by dsimp only; omega) _)
    replace U := hk.blk (by omega) U
    replace D := hk.blk (by omega) D
    replace P := hk.blk (by omega) P
    replace Q := hk.blk (by omega) Q
    replace R0 := hk.blk (by omega) R0
    replace R1 := hk.blk (by omega) R1
    clear hV hk k5 HH z0 z1 z2 z3 z4 z5 zf0 zf1 zf2 zf3 zf4 zf5 s0 s1 s2 sf0 sf1 sf2 x0 x1 x2 x3 x4 x5 u0' uu1 uu2 uu3 uu4 uu5 v0 v1 v2 Ou Ow
    have HH := HB
    have Ou := Ou2
    have Ow := Ow2
    clear HB Ou2 Ow2
    obtain ⟨u0', uu1, uu2, uu3, uu4, uu5⟩ := U.c6.1
    obtain ⟨v0, v1, v2, -, -, -⟩ := D.c3
    obtain ⟨x0, x1, x2, x3, x4, x5⟩ := Ou.c6.1
    go_upto_region 11 with (go_at_call 314; refine (HC4.out _ HH.out).mono ?_; rintro e_ w7 ⟨rfl, k5⟩; replace U := U.on k5; replace D := D.on k5; replace P := P.on k5; replace Q := Q.on k5; replace R0 := R0.on k5; replace R1 := R1.on k5; replace Ow := Ow.on k5; replace Ou := Ou.on k5; obtain ⟨⟨z0, z1, z2, z3, z4, z5⟩, zf0, zf1, zf2, zf3, zf4, zf5⟩ := Ou.c6; obtain ⟨s0, s1, s2, sf0, sf1, sf2⟩ := Ow.c3)
    generalize hV : World.setCell (World.setCell _ _ _) _ _ = Y7
    have hk : Kept (fun c => c ≠ g4 ∧ c ≠ g4 + 1) w7 Y7 := by rw [← hV]; exact kept6.mono (fun b h => h.2)
    have Ou2 : Blk Y7 (g4 + 1) 210 #[.int .i64 c1, .int .i64 c2, .int .i64 c3, .int .i64 c4, .int .i64 c5, .int .i64 c6] := Blk.eqw hV (Ou.st6 (.int .i64 c1) (.int .i64 c2) (.int .i64 c3) (.int .i64 c4) (.int .i64 c5) (.int .i64 c6))
    have Ow2 : Blk Y7 g4 322 #[.bool sa, .bool true, .bool sb] := Blk.eqw hV (sx6_far Ow (show g4 ≠ g4 + 1 by omega) (.int .i64 c1) (.int .i64 c2) (.int .i64 c3) (.int .i64 c4) (.int .i64 c5) (.int .i64 c6))
    have HB := Lib.hid (show Below w.heap.size w Y7 by
      have h1 := after HH.out k5
      have h2 := HN.out
      rw [← hV]
      exact sx6_below h1 (by omega) _ _ _ _ _ _)
    replace U := hk.blk (by omega) U
    replace D := hk.blk (by omega) D
    replace P := hk.blk (by omega) P
    replace Q := hk.blk (by omega) Q
    replace R0 := hk.blk (by omega) R0
    replace R1 := hk.blk (by omega) R1
    clear hV hk k5 HH z0 z1 z2 z3 z4 z5 zf0 zf1 zf2 zf3 zf4 zf5 s0 s1 s2 sf0 sf1 sf2 x0 x1 x2 x3 x4 x5 u0' uu1 uu2 uu3 uu4 uu5 v0 v1 v2 Ou Ow
    have HH := HB
    have Ou := Ou2
    have Ow := Ow2
    clear HB Ou2 Ow2
    obtain ⟨u0', uu1, uu2, uu3, uu4, uu5⟩ := U.c6.1
    obtain ⟨v0, v1, v2, -, -, -⟩ := D.c3
    obtain ⟨x0, x1, x2, x3, x4, x5⟩ := Ou.c6.1
    clear v0 v1 v2 x0 x1 x2 x3 x4 x5 u0' uu1 uu2 uu3 uu4 uu5
    obtain ⟨x0, x1, x2, x3, x4, x5⟩ := Ou.re6
    obtain ⟨v0, v1, v2, v3, v4, v5⟩ := P.re6
    obtain ⟨u0', uu1, uu2, uu3, uu4, uu5⟩ := U.re6
    refine wp_region_quiet_below (by kernel_rfl) (by kernel_rfl) ?_
    repeat (go_big_quiet_step (first | (with_reducible exact Calls.regrown_of (HW1.out _)) | (with_reducible exact Calls.regrown_of (HW2.out _))))
    refine wpQuiet_nil ?_
    intro w' hw'
    obtain ⟨rg, rfl⟩ := hw'
    clear v0 v1 v2 v3 v4 v5 x0 x1 x2 x3 x4 x5 u0' uu1 uu2 uu3 uu4 uu5
    obtain ⟨Y8, hY8⟩ : ∃ Y8, Y8 = Go.Sort.grow (redrawn Y7 rg.d) rg.os := ⟨_, rfl⟩
    rw [← hY8]
    have hy : Below Y7.heap.size Y7 Y8 := by rw [hY8]; exact below_regrown _ _ _
    replace P := P.on hy
    replace Q := Q.on hy
    replace R0 := R0.on hy
    replace R1 := R1.on hy
    replace Ou := Ou.on hy
    replace Ow := Ow.on hy
    replace HH := Lib.hid (after HH.out hy)
    clear hY8 hy U D
    rcases (show n1 ≤ n2 ∨ n2 < n1 by omega) with hn | hn
    · obtain rfl : r = ((y1, y2, y3, y4, y5, y6), true, u1, u2) := by rw [HR.out, stepOf_no (.inr (.inr (.inr hn)))]
      have x0 := fun f d os => (P.sp (D := [N + 1 + 1, N + 1 + 1 + 1]) (by simp; omega) f d os).c6.1
      have y0 := fun f d os => (Q.sp (D := [N + 1 + 1, N + 1 + 1 + 1]) (by simp; omega) f d os).c3
      go_upto_region 12 with (fail)
      have B1 := R0
      have B2 := R1
      refine wp_two [0, 0, 2, 2] 2 (N + 1 + 1) (210) (#[.int .i64 y1, .int .i64 y2, .int .i64 y3, .int .i64 y4, .int .i64 y5, .int .i64 y6]) 3 (N + 1 + 1 + 1) (322) (#[.bool true, .bool u1, .bool u2]) (by omega) (by kernel_rfl) (by kernel_rfl) ?_
      repeat (first | (refine wpQs_s ?_) | (refine wpQs_q (fun K hK => ?_); go_simp; first | (refine hK _ ?_; clear hK K) | (apply Exists.intro; refine ⟨fun _ => ?_, hK _ ?_⟩; (fail); clear hK K)))
      refine wpQs_nil ?_
      repeat (refine wpLs_skip ?_)
      refine wpLs_one ?s1 (fun vs1_ => ?_)
      case s1 =>
        intro w_ hw_ hp_
        have L2 := hp_.blk (by simp [Ds2]) B1
        obtain ⟨⟨q0, q1, q2, q3, q4, q5⟩, f0, f1, f2, f3, f4, f5⟩ := L2.c6
        go_simp
        exact two_fst (by decide) kept6 (L2.st6 _ _ _ _ _ _)
      refine wpLs_one ?s2 (fun vs2_ => ?_)
      case s2 =>
        intro w_ hw_ hp_
        have T2 := hp_.blk (by simp [Ds2]) B2
        obtain ⟨q0, q1, q2, f0, f1, f2⟩ := T2.c3
        go_simp
        exact two_snd (by decide) kept3 (T2.st3 _ _ _)
      refine wpLs_nilD ?_
      simp only [tails]
      rintro w_ k_ ⟨⟨-, r1⟩, r2⟩
      obtain ⟨⟨m0, m1, m2, m3, m4, m5⟩, -, -, -, -, -, -⟩ := (r1.1 rfl).c6
      obtain ⟨j0, j1, j2, -, -, -⟩ := (r2.2 rfl).c3
      clear r1 r2 x0 y0 B1 B2
      simp only [wpList, Exit.then]
      rename_i hKret
      refine hKret _ _ (wp_ret ?_)
      try simp only [Exit.then]
      refine bodyPost_ret (v := .tuple #[.agg #[.int .i64 y1, .int .i64 y2, .int .i64 y3, .int .i64 y4, .int .i64 y5, .int .i64 y6], .agg #[.bool true, .bool u1, .bool u2]]) (by simp [results, Tryz.f268, go_sem, m0, m1, m2, m3, m4, m5, j0, j1, j2]) rfl ⟨rfl, ?_⟩
      have hN_ := HN.out
      exact (HH.out).trans (k_.below (HH.out).size (fun b hb => by simp; omega))
    · obtain rfl : r = ((c1, c2, c3, c4, c5, c6), sa, true, sb) := by rw [HR.out, stepOf_yes (.inl rfl) hu hn]
      have hn2 : decide (n1 ≤ n2) = false := by simpa using hn
      have x0 := fun f d os => (Ou.sp (D := [N + 1 + 1, N + 1 + 1 + 1]) (by simp; omega) f d os).c6.1
      have y0 := fun f d os => (Ow.sp (D := [N + 1 + 1, N + 1 + 1 + 1]) (by simp; omega) f d os).c3
      go_upto_region 13 with (fail)
      have B1 := R0
      have B2 := R1
      refine wp_two [0, 0, 2, 2] 2 (N + 1 + 1) (210) (#[.int .i64 c1, .int .i64 c2, .int .i64 c3, .int .i64 c4, .int .i64 c5, .int .i64 c6]) 3 (N + 1 + 1 + 1) (322) (#[.bool sa, .bool true, .bool sb]) (by omega) (by kernel_rfl) (by kernel_rfl) ?_
      repeat (first | (refine wpQs_s ?_) | (refine wpQs_q (fun K hK => ?_); go_simp; first | (refine hK _ ?_; clear hK K) | (apply Exists.intro; refine ⟨fun _ => ?_, hK _ ?_⟩; (fail); clear hK K)))
      refine wpQs_nil ?_
      repeat (refine wpLs_skip ?_)
      refine wpLs_one ?s1 (fun vs1_ => ?_)
      case s1 =>
        intro w_ hw_ hp_
        have L2 := hp_.blk (by simp [Ds2]) B1
        obtain ⟨⟨q0, q1, q2, q3, q4, q5⟩, f0, f1, f2, f3, f4, f5⟩ := L2.c6
        go_simp
        exact two_fst (by decide) kept6 (L2.st6 _ _ _ _ _ _)
      refine wpLs_one ?s2 (fun vs2_ => ?_)
      case s2 =>
        intro w_ hw_ hp_
        have T2 := hp_.blk (by simp [Ds2]) B2
        obtain ⟨q0, q1, q2, f0, f1, f2⟩ := T2.c3
        go_simp
        exact two_snd (by decide) kept3 (T2.st3 _ _ _)
      refine wpLs_nilD ?_
      simp only [tails]
      rintro w_ k_ ⟨⟨-, r1⟩, r2⟩
      obtain ⟨⟨m0, m1, m2, m3, m4, m5⟩, -, -, -, -, -, -⟩ := (r1.1 rfl).c6
      obtain ⟨j0, j1, j2, -, -, -⟩ := (r2.2 rfl).c3
      clear r1 r2 x0 y0 B1 B2
      simp only [wpList, Exit.then]
      rename_i hKret
      refine hKret _ _ (wp_ret ?_)
      try simp only [Exit.then]
      refine bodyPost_ret (v := .tuple #[.agg #[.int .i64 c1, .int .i64 c2, .int .i64 c3, .int .i64 c4, .int .i64 c5, .int .i64 c6], .agg #[.bool sa, .bool true, .bool sb]]) (by simp [results, Tryz.f268, go_sem, m0, m1, m2, m3, m4, m5, j0, j1, j2]) rfl ⟨rfl, ?_⟩
      have hN_ := HN.out
      exact (HH.out).trans (k_.below (HH.out).size (fun b hb => by simp; omega))
end Go.Proofs.YtmbccnioijokfaaGreatDoor

namespace Go.Proofs.YtmbccnioijokfaaGreatDoor
open Go.RowKit Go.Shelf
attribute [local go_sem] Oper.semAt_some
set_option maxRecDepth 100000 in
set_option maxHeartbeats 8000000 in
theorem bgoes_c (V : FuncId) (lv : Value) (val : Cl → Int) (b : BD) (ix iz : Int) (j : Bool) (M : Int) (hM : M ≤ 71000000000000) (hM0 : 0 ≤ M) (hB : BOk M b) (w : World)
    (eV : ∀ args w, (callFunc V args).run Tryz.prog w = .ok (.enter V args) w) (hV : Tells Tryz.prog V lv val w) :
    Calls Tryz.prog 198 #[.agg (bd9 b), .func (.func V) #[lv] #[], .agg #[.int .i64 ix, .int .i64 iz, .bool j]] w fun r w' => r = .returned (.agg (bd9 (goB val b))) ∧ Below w.heap.size w w' := by
  obtain ⟨hS, -⟩ := hB.box hM
  have CB := fun W => bbox_c b (by have := hB.wd; omega) W
  have CU := fun W => bcut_c b b.2.2.2.1 b.2.2.2.2.1 b.2.2.2.2.2.1 W
  have C1 := fun W (h : Below w.heap.size w W) => pstep_c V lv val (boxB b) (fwI b.1 b.2.2.2.1) (fwI b.2.1 b.2.2.2.2.1) (fwI b.2.2.1 b.2.2.2.2.2.1) 32768 (M + 65536) (by omega) (by omega) hS W eV (hV.on h)
  have fG : goV val b = stepV val (boxB b) (fwI b.1 b.2.2.2.1) (fwI b.2.1 b.2.2.2.2.1) (fwI b.2.2.1 b.2.2.2.2.2.1) 32768 := by unfold goV; rfl
  have hG : Sm6 (M + 65536 + 40000000) (goV val b).1 := by rw [fG]; exact stepV_sm hS (by omega) (by omega)
  rw [← fG] at C1
  have hun := hG.under (by omega) (by omega)
  have hbd := hG.bd
  have CS := fun W (h : Below w.heap.size w W) => pmStands_c V lv val (goV val b).1.1 (goV val b).1.2.1 (goV val b).1.2.2.1 (goV val b).1.2.2.2.1 (goV val b).1.2.2.2.2.1 (goV val b).1.2.2.2.2.2 (by omega) (by omega) hun.1 W eV (hV.on h)
  have fS : unB val (goV val b).1 = (cellsI (goV val b).1.1 (cutI ((goV val b).1.2.1 - 1)) (goV val b).1.2.2.1 (goV val b).1.2.2.2.1 (goV val b).1.2.1 (goV val b).1.2.2.2.2.2).any fun c => solB (val c) := by unfold unB; rfl
  rw [← fS] at CS
  have HN9 := Lib.hid eV
  clear fG hG hun hbd fS hS hM hM0 hB eV hV HN9
  unfold goB putB
  generalize unB val (goV val b).1 = ps at CS ⊢
  generalize goV val b = r at C1 CS ⊢
  generalize boxB b = bx at CB C1 ⊢
  obtain ⟨x, y, z, sx, sy, sz, wd, ht, st⟩ := b
  obtain ⟨o1, o2, o3, o4, o5, o6⟩ := bx
  obtain ⟨⟨y1, y2, y3, y4, y5, y6⟩, t1, t2, t3⟩ := r
  simp only [bd9, ag6, ah3, bhT] at *
  generalize fwI x sx = f1 at CU C1
  generalize fwI y sy = f2 at CU C1
  generalize fwI z sz = f3 at CU C1
  have HSB := Lib.hid (fun W => sub_c y1 y2 y3 o1 o2 o3 W)
  have HAD := Lib.hid (fun W => add_c x y z (subI y1 o1) (subI y2 o2) (subI y3 o3) W)
  have HSP := Lib.hid (fun W => stop_c t1 t2 t3 sx sy sz W)
  generalize subI y1 o1 = u1 at HSB HAD ⊢
  generalize subI y2 o2 = u2 at HSB HAD ⊢
  generalize subI y3 o3 = u3 at HSB HAD ⊢
  generalize addI x u1 = v1 at HAD ⊢
  generalize addI y u2 = v2 at HAD ⊢
  generalize addI z u3 = v3 at HAD ⊢
  generalize zb t1 sx = s1 at HSP ⊢
  generalize zb t2 sy = s2 at HSP ⊢
  generalize zb t3 sz = s3 at HSP ⊢
  have HCB := Lib.hid CB
  have HCU := Lib.hid CU
  have HC1 := Lib.hid C1
  have HCS := Lib.hid CS
  clear CB CU C1 CS
  obtain ⟨N, hN⟩ : ∃ N, N = w.heap.size := ⟨_, rfl⟩
  obtain ⟨W, hW⟩ : ∃ W, W = ((w.alloc (.cells #[.int .i64 x, .int .i64 y, .int .i64 z, .int .i64 sx, .int .i64 sy, .int .i64 sz, .int .i64 wd, .int .i64 ht, .bool st] 40)).alloc (.cells #[.int .i64 ix, .int .i64 iz, .bool j] 81)).alloc (.cells #[.int .i64 0, .int .i64 0, .int .i64 0, .int .i64 0, .int .i64 0, .int .i64 0, .int .i64 0, .int .i64 0, .bool false] 40) := ⟨_, rfl⟩
  have H : Below w.heap.size w W := by rw [hW]; go_grown
  have B : Blk W N 40 _ := Blk.eqw hW.symm (by rw [hN]; exact ((Blk.new' rfl).alloc _).alloc _)
  have R : Blk W (N + 1 + 1) 40 _ := Blk.eqw hW.symm (by rw [hN]; exact Blk.new' (by simp))
  go_enter Tryz.func198, Tryz.ntmps198
  go_upto_region 1 with (fail)
  rw [← hW, ← hN]
  have HN := Lib.hid hN
  clear hW hN
  obtain ⟨⟨b0, b1, b2, b3, b4, b5, b6, b7, b8⟩, -⟩ := B.c9
  go_upto_region 2 with (go_at_call 139; refine (HCB.out _).mono ?_; rintro e_ w1 ⟨rfl, k1⟩)
  generalize hV : World.alloc w1 _ = W1
  have X : Blk W1 w1.heap.size 210 #[.int .i64 o1, .int .i64 o2, .int .i64 o3, .int .i64 o4, .int .i64 o5, .int .i64 o6] := Blk.eqw hV (Blk.new' rfl)
  have hk : Below W.heap.size W W1 := by rw [← hV]; exact after k1 ((Below.refl _ _).alloc (Nat.le_refl _) _)
  have hgN := Nat.lt_of_lt_of_le R.lt k1.size
  replace B := B.on hk
  replace R := R.on hk
  replace H := Lib.hid (after H hk)
  clear hV k1 hk b0 b1 b2 b3 b4 b5 b6 b7 b8 HCB
  generalize w1.heap.size = g at X hgN ⊢
  have b0 := fun d os => (B.re d os).cell 0
  have b1 := fun d os => (B.re d os).cell 1
  have b2 := fun d os => (B.re d os).cell 2
  have b3 := fun d os => (B.re d os).cell 3
  have b4 := fun d os => (B.re d os).cell 4
  have b5 := fun d os => (B.re d os).cell 5
  have b6 := fun d os => (B.re d os).cell 6
  have b7 := fun d os => (B.re d os).cell 7
  have b8 := fun d os => (B.re d os).cell 8
  simp only [List.getElem?_toArray, List.getElem?_cons_zero, List.getElem?_cons_succ] at b0 b1 b2 b3 b4 b5 b6 b7 b8
  obtain ⟨x0, x1, x2, x3, x4, x5⟩ := X.re6
  have HBK := Lib.hid (And.intro B (And.intro R X))
  have HGN := Lib.hid hgN
  clear B R X hgN
  have HU_ := Lib.hid (show Bears W1.heap.size [⟨10, 12, 210, #[.int .i64 0, .int .i64 0, .int .i64 0, .int .i64 0, .int .i64 0, .int .i64 0], #[.int .i64 y1, .int .i64 y2, .int .i64 y3, .int .i64 y4, .int .i64 y5, .int .i64 y6]⟩, ⟨11, 13, 322, #[.bool false, .bool false, .bool false], #[.bool t1, .bool t2, .bool t3]⟩] (relsU [(6, fun v _ => v = .tuple #[.agg #[.int .i64 y1, .int .i64 y2, .int .i64 y3, .int .i64 y4, .int .i64 y5, .int .i64 y6], .agg #[.bool t1, .bool t2, .bool t3]]), (7, fun v _ => v = .tuple #[.agg #[.int .i64 y1, .int .i64 y2, .int .i64 y3, .int .i64 y4, .int .i64 y5, .int .i64 y6], .agg #[.bool t1, .bool t2, .bool t3]]), (8, fun v _ => v = .agg #[.int .i64 y1, .int .i64 y2, .int .i64 y3, .int .i64 y4, .int .i64 y5, .int .i64 y6]), (9, fun v _ => v = .agg #[.bool t1, .bool t2, .bool t3])]) from (bears_val (bears_val (bears_val (bears_val bears_nil)))))
  have HO_ := Lib.hid (show OkB [⟨10, 12, 210, #[.int .i64 0, .int .i64 0, .int .i64 0, .int .i64 0, .int .i64 0, .int .i64 0], #[.int .i64 y1, .int .i64 y2, .int .i64 y3, .int .i64 y4, .int .i64 y5, .int .i64 y6]⟩, ⟨11, 13, 322, #[.bool false, .bool false, .bool false], #[.bool t1, .bool t2, .bool t3]⟩] from ⟨by simp, by simp⟩)
  refine wp_many [0, 0, 0, 0, 0, 0, 2, 2, 2, 2, 2, 2, 2, 2] _ _ (by kernel_rfl) (by kernel_rfl) HU_.out ?_
  repeat (first | (refine wpQs_s ?_) | (refine wpQs_q (fun K hK => ?_); go_simp; first | (refine hK _ ?_; clear hK K) | (apply Exists.intro; refine ⟨fun _ => ?_, hK _ ?_⟩; (exact HCU.out _); clear hK K)) | (refine wpQs_f (fun K hK => ?_); go_simp; refine hK _ ?_; clear hK K))
  refine wpQs_nil ?_
  refine wpLsI_skip ?_
  refine wpLsI_skip ?_
  refine wpLsI_skip ?_
  refine wpLsI_skip ?_
  refine wpLsI_skip ?_
  refine wpLsI_skip ?_
  refine wpLsI_one rfl ?s6_ (fun v6_ => ?_)
  case s6_ =>
    intro S_ V_ w_ hw_ hV_ ha_ hn_ hI_
    have HW_ := Lib.hid hw_
    have HI_ := Lib.hid hI_
    have Hn_ := Lib.hid hn_
    clear hV_ ha_ hw_ hI_ hn_
    go_simp
    refine (HC1.out _ (after H.out HW_.out.none)).mono ?_
    rintro e_ w9 ⟨rfl, h9⟩
    exact ⟨_, rfl, HW_.out.on h9, HI_.out.l (by simp) HU_.out h9 rfl⟩
  refine wpLsI_one rfl ?s7_ (fun v7_ => ?_)
  case s7_ =>
    intro S_ V_ w_ hw_ hV_ ha_ hn_ hI_
    have F_ := Lib.hid (show v6_ = .tuple #[.agg #[.int .i64 y1, .int .i64 y2, .int .i64 y3, .int .i64 y4, .int .i64 y5, .int .i64 y6], .agg #[.bool t1, .bool t2, .bool t3]] from (hI_.of (ha_ 6 (by decide) rfl (by kernel_rfl)) (hV_ 6 (by decide) rfl)))
    have HW_ := Lib.hid hw_
    have HI_ := Lib.hid hI_
    have Hn_ := Lib.hid hn_
    clear hV_ ha_ hw_ hI_ hn_
    go_simp
    have h8_ := F_.out
    subst h8_
    clear F_
    go_simp
    exact ⟨HW_.out, HI_.out.l (by simp) HU_.out (Below.refl _ _) rfl⟩
  refine wpLsI_one rfl ?s8_ (fun v8_ => ?_)
  case s8_ =>
    intro S_ V_ w_ hw_ hV_ ha_ hn_ hI_
    have F_ := Lib.hid (show v7_ = .tuple #[.agg #[.int .i64 y1, .int .i64 y2, .int .i64 y3, .int .i64 y4, .int .i64 y5, .int .i64 y6], .agg #[.bool t1, .bool t2, .bool t3]] from (hI_.of (ha_ 7 (by decide) rfl (by kernel_rfl)) (hV_ 7 (by decide) rfl)))
    have HW_ := Lib.hid hw_
    have HI_ := Lib.hid hI_
    have Hn_ := Lib.hid hn_
    clear hV_ ha_ hw_ hI_ hn_
    go_simp
    have h8_ := F_.out
    subst h8_
    clear F_
    go_simp
    exact ⟨HW_.out, HI_.out.l (by simp) HU_.out (Below.refl _ _) rfl⟩
  refine wpLsI_one rfl ?s9_ (fun v9_ => ?_)
  case s9_ =>
    intro S_ V_ w_ hw_ hV_ ha_ hn_ hI_
    have F_ := Lib.hid (show v7_ = .tuple #[.agg #[.int .i64 y1, .int .i64 y2, .int .i64 y3, .int .i64 y4, .int .i64 y5, .int .i64 y6], .agg #[.bool t1, .bool t2, .bool t3]] from (hI_.of (ha_ 7 (by decide) rfl (by kernel_rfl)) (hV_ 7 (by decide) rfl)))
    have HW_ := Lib.hid hw_
    have HI_ := Lib.hid hI_
    have Hn_ := Lib.hid hn_
    clear hV_ ha_ hw_ hI_ hn_
    go_simp
    have h8_ := F_.out
    subst h8_
    clear F_
    go_simp
    exact ⟨HW_.out, HI_.out.l (by simp) HU_.out (Below.refl _ _) rfl⟩
  refine wpLsI_one rfl ?s10_ (fun v10_ => ?_)
  case s10_ =>
    intro S_ V_ w_ hw_ hV_ ha_ hn_ hI_
    have HW_ := Lib.hid hw_
    have HI_ := Lib.hid hI_
    have Hn_ := Lib.hid hn_
    clear hV_ ha_ hw_ hI_ hn_
    go_simp
    exact ⟨HW_.out.on ((Below.refl _ _).alloc (Nat.le_refl _) _), HI_.out.new (List.mem_cons_self) HO_.out HU_.out (fun _ _ => trivial) HW_.out.none.size Hn_.out⟩
  refine wpLsI_one rfl ?s11_ (fun v11_ => ?_)
  case s11_ =>
    intro S_ V_ w_ hw_ hV_ ha_ hn_ hI_
    have HW_ := Lib.hid hw_
    have HI_ := Lib.hid hI_
    have Hn_ := Lib.hid hn_
    clear hV_ ha_ hw_ hI_ hn_
    go_simp
    exact ⟨HW_.out.on ((Below.refl _ _).alloc (Nat.le_refl _) _), HI_.out.new (List.mem_cons_of_mem _ (List.mem_cons_self)) HO_.out HU_.out (fun _ _ => trivial) HW_.out.none.size Hn_.out⟩
  refine wpLsI_one rfl ?s12_ (fun v12_ => ?_)
  case s12_ =>
    intro S_ V_ w_ hw_ hV_ ha_ hn_ hI_
    have F_ := Lib.hid (show v8_ = .agg #[.int .i64 y1, .int .i64 y2, .int .i64 y3, .int .i64 y4, .int .i64 y5, .int .i64 y6] from (hI_.of (ha_ 8 (by decide) rfl (by kernel_rfl)) (hV_ 8 (by decide) rfl)))
    have HS_ := Lib.hid (show S_ 10 from ha_ 10 (by decide) rfl (by kernel_rfl))
    have HVV_ := Lib.hid (show V_ 10 = v10_ from hV_ 10 (by decide) rfl)
    have hx_ := Lib.hid (show ∃ b, V_ 10 = .pointer (some ⟨b, 0, none⟩) ∧ W1.heap.size ≤ b ∧ Blk w_ b 210 #[.int .i64 0, .int .i64 0, .int .i64 0, .int .i64 0, .int .i64 0, .int .i64 0] from hI_.slot (List.mem_cons_self) HS_.out hn_)
    have HW_ := Lib.hid hw_
    have HI_ := Lib.hid hI_
    have Hn_ := Lib.hid hn_
    clear hV_ ha_ hw_ hI_ hn_
    go_simp
    refine hx_.out.elim fun b_ hy_ => ?_
    have E_ := hy_.1
    have HN_ := Lib.hid hy_.2.1
    have hb_ := hy_.2.2
    have h8_ := F_.out
    rw [HVV_.out] at E_
    subst h8_ E_
    clear hx_ hy_ F_
    obtain ⟨⟨k0_, k1_, k2_, k3_, k4_, k5_⟩, f0_, f1_, f2_, f3_, f4_, f5_⟩ := hb_.c6
    have Hb_ := Lib.hid hb_
    clear hb_
    go_simp
    exact ⟨HW_.out.new_set HN_.out kept6, HI_.out.set (List.mem_cons_self) HO_.out HU_.out (fun _ _ => trivial) Hn_.out HS_.out HVV_.out kept6 (Hb_.out.st6 _ _ _ _ _ _)⟩
  refine wpLsI_one rfl ?s13_ (fun v13_ => ?_)
  case s13_ =>
    intro S_ V_ w_ hw_ hV_ ha_ hn_ hI_
    have F_ := Lib.hid (show v9_ = .agg #[.bool t1, .bool t2, .bool t3] from (hI_.of (ha_ 9 (by decide) rfl (by kernel_rfl)) (hV_ 9 (by decide) rfl)))
    have HS_ := Lib.hid (show S_ 11 from ha_ 11 (by decide) rfl (by kernel_rfl))
    have HVV_ := Lib.hid (show V_ 11 = v11_ from hV_ 11 (by decide) rfl)
    have hx_ := Lib.hid (show ∃ b, V_ 11 = .pointer (some ⟨b, 0, none⟩) ∧ W1.heap.size ≤ b ∧ Blk w_ b 322 #[.bool false, .bool false, .bool false] from hI_.slot (List.mem_cons_of_mem _ (List.mem_cons_self)) HS_.out hn_)
    have HW_ := Lib.hid hw_
    have HI_ := Lib.hid hI_
    have Hn_ := Lib.hid hn_
    clear hV_ ha_ hw_ hI_ hn_
    go_simp
    refine hx_.out.elim fun b_ hy_ => ?_
    have E_ := hy_.1
    have HN_ := Lib.hid hy_.2.1
    have hb_ := hy_.2.2
    have h8_ := F_.out
    rw [HVV_.out] at E_
    subst h8_ E_
    clear hx_ hy_ F_
    obtain ⟨k0_, k1_, k2_, f0_, f1_, f2_⟩ := hb_.c3
    have Hb_ := Lib.hid hb_
    clear hb_
    go_simp
    exact ⟨HW_.out.new_set HN_.out kept3, HI_.out.set (List.mem_cons_of_mem _ (List.mem_cons_self)) HO_.out HU_.out (fun _ _ => trivial) Hn_.out HS_.out HVV_.out kept3 (Hb_.out.st3 _ _ _)⟩
  refine wpLsI_nil fun V_ W2 hw_ hV_ hI_ => ?_
  obtain ⟨g0_W2, E10_, N0_W2, X0_W2⟩ : ∃ b, v10_ = .pointer (some ⟨b, 0, none⟩) ∧ W1.heap.size ≤ b ∧ Blk W2 b 210 #[.int .i64 y1, .int .i64 y2, .int .i64 y3, .int .i64 y4, .int .i64 y5, .int .i64 y6] := by rw [← show V_ 10 = v10_ from hV_ 10 (by decide) rfl]; exact hI_.done (List.mem_cons_self) ⟨show 10 < 14 by decide, rfl⟩ ⟨show 12 < 14 by decide, rfl⟩
  obtain ⟨g1_W2, E11_, N1_W2, X1_W2⟩ : ∃ b, v11_ = .pointer (some ⟨b, 0, none⟩) ∧ W1.heap.size ≤ b ∧ Blk W2 b 322 #[.bool t1, .bool t2, .bool t3] := by rw [← show V_ 11 = v11_ from hV_ 11 (by decide) rfl]; exact hI_.done (List.mem_cons_of_mem _ (List.mem_cons_self)) ⟨show 11 < 14 by decide, rfl⟩ ⟨show 13 < 14 by decide, rfl⟩
  subst E10_ E11_
  have h_W2 := hw_.none
  clear hV_ hI_ hw_ HU_ HO_
  simp only [tails]
  clear b0 b1 b2 b3 b4 b5 b6 b7 b8 x0 x1 x2 x3 x4 x5 HCU HC1
  obtain ⟨B, R, X⟩ := HBK.out
  have n1 : g0_W2 ≠ N := by have h7 := HGN.out; have h8 := X.lt; omega
  have n2 : g1_W2 ≠ N := by have h7 := HGN.out; have h8 := X.lt; omega
  have n3 : g ≠ N := by have h7 := HGN.out; omega
  have n4 : N + 1 + 1 ≠ N := by omega
  have HX := Lib.hid (And.intro (B.on h_W2) (And.intro (R.on h_W2) (And.intro (X.on h_W2) (And.intro X0_W2 X1_W2))))
  replace H := Lib.hid (after H.out h_W2)
  clear HBK HGN B R X X0_W2 X1_W2 N0_W2 N1_W2 h_W2
  go_simp
  go_upto_region 3 with (fail)
  obtain ⟨B, R, X, Y, T⟩ := HX.out
  have b0 := fun d os => (B.re d os).cell 0
  have b1 := fun d os => (B.re d os).cell 1
  have b2 := fun d os => (B.re d os).cell 2
  have x0 := fun d os => (X.re d os).cell 0
  have x1 := fun d os => (X.re d os).cell 1
  have x2 := fun d os => (X.re d os).cell 2
  have y0 := fun d os => (Y.re d os).cell 0
  have y1 := fun d os => (Y.re d os).cell 1
  have y2 := fun d os => (Y.re d os).cell 2
  simp only [List.getElem?_toArray, List.getElem?_cons_zero, List.getElem?_cons_succ] at b0 b1 b2 x0 x1 x2 y0 y1 y2
  refine wp_region_last_below 9 (by kernel_rfl) rfl (by kernel_rfl) ?_
  simp only [List.take_succ_cons, List.take_zero, List.drop_succ_cons, List.drop_zero]
  repeat (go_big_quiet_step (first | (with_reducible exact Calls.regrown_of (HSB.out _)) | (with_reducible exact Calls.regrown_of (HAD.out _))))
  refine wpQuiet_nil ?_
  intro w' hw'
  obtain ⟨rg, rfl⟩ := hw'
  clear b0 b1 b2 x0 x1 x2 y0 y1 y2 X HSB HAD HX
  obtain ⟨W3, hW3⟩ : ∃ W3, W3 = Go.Sort.grow (redrawn W2 rg.d) rg.os := ⟨_, rfl⟩
  have hb3 : Below W2.heap.size W2 W3 := by rw [hW3]; exact below_regrown _ _ _
  rw [← hW3]
  replace B := B.on hb3
  replace R := R.on hb3
  replace Y := Y.on hb3
  replace T := T.on hb3
  replace H := after H.out hb3
  clear hW3 hb3
  obtain ⟨⟨b0, b1, b2, b3, b4, b5, b6, b7, b8⟩, f0, f1, f2, f3, f4, f5, f6, f7, f8⟩ := B.c9
  go_upto_region 4 with (fail)
  generalize hV_ : (World.setCell (World.setCell (World.setCell W3 _ _) _ _) _ _) = W4
  replace B : Blk W4 (N) 40 #[.int .i64 v1, .int .i64 v2, .int .i64 v3, .int .i64 sx, .int .i64 sy, .int .i64 sz, .int .i64 wd, .int .i64 ht, .bool st] := Blk.eqw hV_ (((B.set_ 0 _).set_ 1 _).set_ 2 _)
  replace R := Blk.eqw hV_ (((R.far (p := ⟨N, 0, none⟩) (by dsimp only; omega) _).far (p := ⟨N, 1, none⟩) (by dsimp only; omega) _).far (p := ⟨N, 2, none⟩) (by dsimp only; omega) _)
  replace Y := Blk.eqw hV_ (((Y.far (p := ⟨N, 0, none⟩) (by dsimp only; omega) _).far (p := ⟨N, 1, none⟩) (by dsimp only; omega) _).far (p := ⟨N, 2, none⟩) (by dsimp only; omega) _)
  replace T := Blk.eqw hV_ (((T.far (p := ⟨N, 0, none⟩) (by dsimp only; omega) _).far (p := ⟨N, 1, none⟩) (by dsimp only; omega) _).far (p := ⟨N, 2, none⟩) (by dsimp only; omega) _)
  replace H : Below w.heap.size w W4 := by rw [← hV_]; exact (((H.setCell (p := ⟨N, 0, none⟩) (by have := HN.out; dsimp only; omega) _).setCell (p := ⟨N, 1, none⟩) (by have := HN.out; dsimp only; omega) _).setCell (p := ⟨N, 2, none⟩) (by have := HN.out; dsimp only; omega) _)
  clear hV_
  clear b0 b1 b2 b3 b4 b5 b6 b7 b8 f0 f1 f2 f3 f4 f5 f6 f7 f8
  obtain ⟨⟨b0, b1, b2, b3, b4, b5, b6, b7, b8⟩, -⟩ := B.c9
  obtain ⟨q0, q1, q2, -, -, -⟩ := T.c3
  go_upto_region 5 with (go_at_call 270; refine (HSP.out _).mono ?_; rintro e_ w5 ⟨rfl, h5⟩; clear b0 b1 b2 b3 b4 b5 b6 b7 b8 q0 q1 q2; replace B := B.on h5; replace R := R.on h5; replace Y := Y.on h5; replace T := T.on h5; replace H := after H h5; clear h5; obtain ⟨⟨b0, b1, b2, b3, b4, b5, b6, b7, b8⟩, f0, f1, f2, f3, f4, f5, f6, f7, f8⟩ := B.c9)
  generalize hV_ : (World.setCell (World.setCell (World.setCell w5 _ _) _ _) _ _) = W5
  replace B : Blk W5 (N) 40 #[.int .i64 v1, .int .i64 v2, .int .i64 v3, .int .i64 s1, .int .i64 s2, .int .i64 s3, .int .i64 wd, .int .i64 ht, .bool st] := Blk.eqw hV_ (((B.set_ 3 _).set_ 4 _).set_ 5 _)
  replace R := Blk.eqw hV_ (((R.far (p := ⟨N, 3, none⟩) (by dsimp only; omega) _).far (p := ⟨N, 4, none⟩) (by dsimp only; omega) _).far (p := ⟨N, 5, none⟩) (by dsimp only; omega) _)
  replace Y := Blk.eqw hV_ (((Y.far (p := ⟨N, 3, none⟩) (by dsimp only; omega) _).far (p := ⟨N, 4, none⟩) (by dsimp only; omega) _).far (p := ⟨N, 5, none⟩) (by dsimp only; omega) _)
  replace H : Below w.heap.size w W5 := by rw [← hV_]; exact (((H.setCell (p := ⟨N, 3, none⟩) (by have := HN.out; dsimp only; omega) _).setCell (p := ⟨N, 4, none⟩) (by have := HN.out; dsimp only; omega) _).setCell (p := ⟨N, 5, none⟩) (by have := HN.out; dsimp only; omega) _)
  clear hV_
  clear b0 b1 b2 b3 b4 b5 b6 b7 b8 f0 f1 f2 f3 f4 f5 f6 f7 f8 T HSP
  obtain ⟨⟨y0, y1, y2, y3, y4, y5⟩, -⟩ := Y.c6
  go_upto_region 6 with (go_at_call 140; refine (HCS.out _ H).mono ?_; rintro e_ w6 ⟨rfl, h6⟩; clear y0 y1 y2 y3 y4 y5; replace B := B.on h6; replace R := R.on h6; replace H := after H h6; clear h6; obtain ⟨⟨b0, b1, b2, b3, b4, b5, b6, b7, b8⟩, f0, f1, f2, f3, f4, f5, f6, f7, f8⟩ := B.c9)
  generalize hV_ : (World.setCell w6 _ _) = W6
  replace B : Blk W6 (N) 40 #[.int .i64 v1, .int .i64 v2, .int .i64 v3, .int .i64 s1, .int .i64 s2, .int .i64 s3, .int .i64 wd, .int .i64 ht, .bool ps] := Blk.eqw hV_ (B.set_ 8 _)
  replace R := Blk.eqw hV_ (R.far (p := ⟨N, 8, none⟩) (by dsimp only; omega) _)
  replace H : Below w.heap.size w W6 := by rw [← hV_]; exact (H.setCell (p := ⟨N, 8, none⟩) (by have := HN.out; dsimp only; omega) _)
  clear hV_
  clear b0 b1 b2 b3 b4 b5 b6 b7 b8 f0 f1 f2 f3 f4 f5 f6 f7 f8 Y HCS
  obtain ⟨⟨b0, b1, b2, b3, b4, b5, b6, b7, b8⟩, -⟩ := B.c9
  obtain ⟨⟨r0, r1, r2, r3, r4, r5, r6, r7, r8⟩, f0, f1, f2, f3, f4, f5, f6, f7, f8⟩ := R.c9
  have hNw : w.heap.size ≤ N + 1 + 1 := by have := HN.out; omega
  go_wp2_with fail
  have R2_ := R.st9 (.int .i64 (v1)) (.int .i64 (v2)) (.int .i64 (v3)) (.int .i64 (s1)) (.int .i64 (s2)) (.int .i64 (s3)) (.int .i64 (wd)) (.int .i64 (ht)) (.bool (ps))
  obtain ⟨⟨d0, d1, d2, d3, d4, d5, d6, d7, d8⟩, -⟩ := R2_.c9
  exact bodyPost_ret (v := .agg #[.int .i64 (v1), .int .i64 (v2), .int .i64 (v3), .int .i64 (s1), .int .i64 (s2), .int .i64 (s3), .int .i64 (wd), .int .i64 (ht), .bool (ps)]) (by simp [results, Tryz.results198, go_sem, d0, d1, d2, d3, d4, d5, d6, d7, d8]) rfl ⟨rfl, sx9_below H hNw _ _ _ _ _ _ _ _ _⟩
end Go.Proofs.YtmbccnioijokfaaGreatDoor

