/- How a ray crosses along the axes. -/
import Derived.Test.YtjlgcfdpfalbpaaRayP
import Derived.Test.YtjlgcfdpfalbpaaSets
import Derived.Test.YtjlgcfdpfalbpaaSched2
import Derived.Test.YtjlgcfdpfalbpaaBase2
import Derived.Deep.Cut
namespace Go.Proofs.Ytjlgcfdpfalbpaa
open Go.RowKit Go.Shelf
attribute [local go_sem] Oper.semAt_some

def sdL (n w : Int) : Int := if 0 < w then 65536 - cutI n % 65536 else cutI n % 65536
def sdS (w : Int) : Int := if 0 < w then w else -w
abbrev sdA (x y z a b c : Int) : Array Value := #[.int .i64 (sdL x a), .int .i64 (sdS a), .int .i64 (sdL y b), .int .i64 (sdS b), .int .i64 (sdL z c), .int .i64 (sdS c)]
theorem far2_ {w : World} {g G t : Nat} {cs : Array Value} (h : Blk w g t cs) (hne : g ≠ G) {i j : Nat} (u v : Value) : Blk ((w.setCell ⟨G, i, none⟩ u).setCell ⟨G, j, none⟩ v) g t cs := (h.far (p := ⟨G, i, none⟩) hne u).far (p := ⟨G, j, none⟩) hne v
theorem far4_ {w : World} {g G t : Nat} {cs : Array Value} (h : Blk w g t cs) (hne : g ≠ G) {i j k l : Nat} (u v x y : Value) : Blk ((((w.setCell ⟨G, i, none⟩ u).setCell ⟨G, j, none⟩ v).setCell ⟨G, k, none⟩ x).setCell ⟨G, l, none⟩ y) g t cs := far2_ (far2_ h hne u v) hne x y
theorem bel2_ {w0 w : World} {n G : Nat} (h : Below n w0 w) (hn : n ≤ G) {i j : Nat} (u v : Value) : Below n w0 ((w.setCell ⟨G, i, none⟩ u).setCell ⟨G, j, none⟩ v) := (h.setCell (p := ⟨G, i, none⟩) hn u).setCell (p := ⟨G, j, none⟩) hn v
theorem bel4_ {w0 w : World} {n G : Nat} (h : Below n w0 w) (hn : n ≤ G) {i j k l : Nat} (u v x y : Value) : Below n w0 ((((w.setCell ⟨G, i, none⟩ u).setCell ⟨G, j, none⟩ v).setCell ⟨G, k, none⟩ x).setCell ⟨G, l, none⟩ y) := bel2_ (bel2_ h hn u v) hn x y
set_option maxRecDepth 100000 in
set_option maxHeartbeats 8000000 in
theorem sides_c (x y z a b c : Int) (ha : -2000000 ≤ a ∧ a ≤ 2000000) (hb : -2000000 ≤ b ∧ b ≤ 2000000) (hc : -2000000 ≤ c ∧ c ≤ 2000000) (w : World) :
    Calls Try.prog 42 #[.agg #[.int .i64 x, .int .i64 y, .int .i64 z], .agg #[.int .i64 a, .int .i64 b, .int .i64 c]] w fun r w' => r = .returned (.agg (sdA x y z a b c)) ∧ Below w.heap.size w w' := by
  obtain ⟨W, hW⟩ : ∃ W, W = ((w.alloc (.cells #[.int .i64 x, .int .i64 y, .int .i64 z] 26)).alloc (.cells #[.int .i64 a, .int .i64 b, .int .i64 c] 26)).alloc (.cells #[.int .i64 0, .int .i64 0, .int .i64 0, .int .i64 0, .int .i64 0, .int .i64 0] 75) := ⟨_, rfl⟩
  have H : Below w.heap.size w W := by rw [hW]; go_grown
  obtain ⟨N, hN⟩ : ∃ N, N = w.heap.size := ⟨_, rfl⟩
  have A : Blk W N 26 _ := Blk.eqw hW.symm (by rw [hN]; exact ((Blk.new' rfl).alloc _).alloc _)
  have B : Blk W (N + 1) 26 _ := Blk.eqw hW.symm (by rw [hN]; exact (Blk.new' (by simp)).alloc _)
  have R : Blk W (N + 1 + 1) 75 _ := Blk.eqw hW.symm (by rw [hN]; exact Blk.new' (by simp))
  have hs : W.heap.size = N + 1 + 1 + 1 := by rw [hW, hN]; simp
  go_enter Try.func42, Try.ntmps42
  go_upto_region 1 with (fail)
  rw [← hW, ← hN]
  have HN := Lib.hid hN
  clear hW hN
  go_upto_region 2 with (fail)
  generalize hV : World.alloc W _ = W1
  have L : Blk W1 (N + 1 + 1 + 1) 75 _ := Blk.eqw hV (by rw [← hs]; exact Blk.new' rfl)
  have hy : Below W.heap.size W W1 := by rw [← hV]; go_grown
  replace A := A.on hy
  replace B := B.on hy
  replace R := R.on hy
  have HK := Lib.hid (after H hy)
  clear hV hy hs H
  go_upto_region 3 with (fail)
  go_loopw [9] (fun v wr => ((v = .int .i64 0 ∧ Blk wr (N + 1 + 1 + 1) 75 #[.int .i64 0, .int .i64 0, .int .i64 0, .int .i64 0, .int .i64 0, .int .i64 0]) ∨ (v = .int .i64 1 ∧ Blk wr (N + 1 + 1 + 1) 75 #[.int .i64 (sdL x a), .int .i64 (sdS a), .int .i64 0, .int .i64 0, .int .i64 0, .int .i64 0]) ∨ (v = .int .i64 2 ∧ Blk wr (N + 1 + 1 + 1) 75 #[.int .i64 (sdL x a), .int .i64 (sdS a), .int .i64 (sdL y b), .int .i64 (sdS b), .int .i64 0, .int .i64 0]) ∨ (v = .int .i64 3 ∧ Blk wr (N + 1 + 1 + 1) 75 #[.int .i64 (sdL x a), .int .i64 (sdS a), .int .i64 (sdL y b), .int .i64 (sdS b), .int .i64 (sdL z c), .int .i64 (sdS c)])) ∧ Blk wr N 26 #[.int .i64 x, .int .i64 y, .int .i64 z] ∧ Blk wr (N + 1) 26 #[.int .i64 a, .int .i64 b, .int .i64 c] ∧ Blk wr (N + 1 + 1) 75 #[.int .i64 0, .int .i64 0, .int .i64 0, .int .i64 0, .int .i64 0, .int .i64 0] ∧ Hid (Below w.heap.size w wr)) (fun v _ => (3 - intOf v).toNat)
  case atStart => exact ⟨.inl ⟨rfl, L⟩, A, B, R, HK⟩
  case round =>
    clear A B R HK L
    obtain ⟨hrel, A, B, R, HK⟩ := hrel
    rcases hrel with ⟨rfl, L⟩ | ⟨rfl, L⟩ | ⟨rfl, L⟩ | ⟨rfl, L⟩
    · have PX := Lib.hid fun W => axis_e x y z 0 x rfl W
      have PY := Lib.hid fun W => axis_e a b c 0 a rfl W
      obtain ⟨k0, k1, k2⟩ := A.re3
      obtain ⟨d0, d1, d2⟩ := B.re3
      go_upto_region  5 with (fail)
      refine wp_sched [0, 0, 0, 0, 0, 0, 0, 0] (fun _ _ _ => True) (by kernel_rfl) (by kernel_rfl) (fun _ _ _ _ h _ => h) ?_
      repeat (first | (refine wpQs_s ?_) | (refine wpQs_q (fun K hK => ?_); go_simp; first | (refine hK _ ?_; clear hK K) | (apply Exists.intro; refine ⟨fun _ => ?_, hK _ ?_⟩; (first | ((with_reducible refine Calls.mono (PX.out _) ?_); exact fun _ _ h => h) | ((with_reducible refine Calls.mono (PY.out _) ?_); exact fun _ _ h => h)); clear hK K)) | (refine wpQs_f (fun K hK => ?_); go_simp; refine hK _ ?_; clear hK K))
      refine wpQs_nil ?_
      repeat (first | (refine wpLs_skip ?_) | (refine wpLs_one ?lsA (fun v_ => ?_); case lsA => (intro w_ hw_ hp_; (fail))))
      refine wpLs_nilB ?_
      simp only [tails]
      intro W2 h2 _
      clear k0 k1 k2 d0 d1 d2
      replace A := A.on h2
      replace B := B.on h2
      replace R := R.on h2
      replace L := L.on h2
      have HK2 := Lib.hid (after HK.out h2)
      have hg : w.heap.size ≤ N + 1 + 1 + 1 := by have := HN.out; omega
      clear h2 HK
      have q1 : -9223372036854775808 ≤ -a ∧ -a ≤ 9223372036854775807 := by omega
      have q3 : -9223372036854775808 ≤ 65536 - cutI x % 65536 ∧ 65536 - cutI x % 65536 ≤ 9223372036854775807 := by omega
      obtain ⟨q1, q2⟩ := q1
      obtain ⟨q3, q4⟩ := q3
      obtain ⟨⟨l0, l1, l2, l3, l4, l5⟩, f0, f1, f2, f3, f4, f5⟩ := L.c6
      by_cases hp : 0 < a
      · have e1 : sdL x a = 65536 - cutI x % 65536 := if_pos hp
        have e2 : sdS a = a := if_pos hp
        have E := Lib.hid (And.intro e1 e2)
        clear e1 e2
        go_wp2_with (go_at_call 62; refine (frac_c _ _).mono ?_; rintro e_ w3 ⟨rfl, rfl⟩)
        go_roundw
        case rel => exact ⟨.inr (.inl ⟨rfl, by rw [E.out.1, E.out.2]; exact (((L.set_ 0 _).set_ 1 _).set_ 0 _).set_ 1 _⟩), far4_ A (by omega) _ _ _ _, far4_ B (by omega) _ _ _ _, far4_ R (by omega) _ _ _ _, Lib.hid (bel4_ HK2.out hg _ _ _ _)⟩
        case measure => simp [intOf]
      · have e1 : sdL x a = cutI x % 65536 := if_neg hp
        have e2 : sdS a = -a := if_neg hp
        have E := Lib.hid (And.intro e1 e2)
        clear e1 e2
        go_wp2_with (go_at_call 62; refine (frac_c _ _).mono ?_; rintro e_ w3 ⟨rfl, rfl⟩)
        go_roundw
        case rel => exact ⟨.inr (.inl ⟨rfl, by rw [E.out.1, E.out.2]; exact (L.set_ 0 _).set_ 1 _⟩), far2_ A (by omega) _ _, far2_ B (by omega) _ _, far2_ R (by omega) _ _, Lib.hid (bel2_ HK2.out hg _ _)⟩
        case measure => simp [intOf]
    · have PX := Lib.hid fun W => axis_e x y z 1 y rfl W
      have PY := Lib.hid fun W => axis_e a b c 1 b rfl W
      obtain ⟨k0, k1, k2⟩ := A.re3
      obtain ⟨d0, d1, d2⟩ := B.re3
      go_upto_region  5 with (fail)
      refine wp_sched [0, 0, 0, 0, 0, 0, 0, 0] (fun _ _ _ => True) (by kernel_rfl) (by kernel_rfl) (fun _ _ _ _ h _ => h) ?_
      repeat (first | (refine wpQs_s ?_) | (refine wpQs_q (fun K hK => ?_); go_simp; first | (refine hK _ ?_; clear hK K) | (apply Exists.intro; refine ⟨fun _ => ?_, hK _ ?_⟩; (first | ((with_reducible refine Calls.mono (PX.out _) ?_); exact fun _ _ h => h) | ((with_reducible refine Calls.mono (PY.out _) ?_); exact fun _ _ h => h)); clear hK K)) | (refine wpQs_f (fun K hK => ?_); go_simp; refine hK _ ?_; clear hK K))
      refine wpQs_nil ?_
      repeat (first | (refine wpLs_skip ?_) | (refine wpLs_one ?lsA (fun v_ => ?_); case lsA => (intro w_ hw_ hp_; (fail))))
      refine wpLs_nilB ?_
      simp only [tails]
      intro W2 h2 _
      clear k0 k1 k2 d0 d1 d2
      replace A := A.on h2
      replace B := B.on h2
      replace R := R.on h2
      replace L := L.on h2
      have HK2 := Lib.hid (after HK.out h2)
      have hg : w.heap.size ≤ N + 1 + 1 + 1 := by have := HN.out; omega
      clear h2 HK
      have q1 : -9223372036854775808 ≤ -b ∧ -b ≤ 9223372036854775807 := by omega
      have q3 : -9223372036854775808 ≤ 65536 - cutI y % 65536 ∧ 65536 - cutI y % 65536 ≤ 9223372036854775807 := by omega
      obtain ⟨q1, q2⟩ := q1
      obtain ⟨q3, q4⟩ := q3
      obtain ⟨⟨l0, l1, l2, l3, l4, l5⟩, f0, f1, f2, f3, f4, f5⟩ := L.c6
      by_cases hp : 0 < b
      · have e1 : sdL y b = 65536 - cutI y % 65536 := if_pos hp
        have e2 : sdS b = b := if_pos hp
        have E := Lib.hid (And.intro e1 e2)
        clear e1 e2
        go_wp2_with (go_at_call 62; refine (frac_c _ _).mono ?_; rintro e_ w3 ⟨rfl, rfl⟩)
        go_roundw
        case rel => exact ⟨.inr (.inr (.inl ⟨rfl, by rw [E.out.1, E.out.2]; exact (((L.set_ 2 _).set_ 3 _).set_ 2 _).set_ 3 _⟩)), far4_ A (by omega) _ _ _ _, far4_ B (by omega) _ _ _ _, far4_ R (by omega) _ _ _ _, Lib.hid (bel4_ HK2.out hg _ _ _ _)⟩
        case measure => simp [intOf]
      · have e1 : sdL y b = cutI y % 65536 := if_neg hp
        have e2 : sdS b = -b := if_neg hp
        have E := Lib.hid (And.intro e1 e2)
        clear e1 e2
        go_wp2_with (go_at_call 62; refine (frac_c _ _).mono ?_; rintro e_ w3 ⟨rfl, rfl⟩)
        go_roundw
        case rel => exact ⟨.inr (.inr (.inl ⟨rfl, by rw [E.out.1, E.out.2]; exact (L.set_ 2 _).set_ 3 _⟩)), far2_ A (by omega) _ _, far2_ B (by omega) _ _, far2_ R (by omega) _ _, Lib.hid (bel2_ HK2.out hg _ _)⟩
        case measure => simp [intOf]
    · have PX := Lib.hid fun W => axis_e x y z 2 z rfl W
      have PY := Lib.hid fun W => axis_e a b c 2 c rfl W
      obtain ⟨k0, k1, k2⟩ := A.re3
      obtain ⟨d0, d1, d2⟩ := B.re3
      go_upto_region  5 with (fail)
      refine wp_sched [0, 0, 0, 0, 0, 0, 0, 0] (fun _ _ _ => True) (by kernel_rfl) (by kernel_rfl) (fun _ _ _ _ h _ => h) ?_
      repeat (first | (refine wpQs_s ?_) | (refine wpQs_q (fun K hK => ?_); go_simp; first | (refine hK _ ?_; clear hK K) | (apply Exists.intro; refine ⟨fun _ => ?_, hK _ ?_⟩; (first | ((with_reducible refine Calls.mono (PX.out _) ?_); exact fun _ _ h => h) | ((with_reducible refine Calls.mono (PY.out _) ?_); exact fun _ _ h => h)); clear hK K)) | (refine wpQs_f (fun K hK => ?_); go_simp; refine hK _ ?_; clear hK K))
      refine wpQs_nil ?_
      repeat (first | (refine wpLs_skip ?_) | (refine wpLs_one ?lsA (fun v_ => ?_); case lsA => (intro w_ hw_ hp_; (fail))))
      refine wpLs_nilB ?_
      simp only [tails]
      intro W2 h2 _
      clear k0 k1 k2 d0 d1 d2
      replace A := A.on h2
      replace B := B.on h2
      replace R := R.on h2
      replace L := L.on h2
      have HK2 := Lib.hid (after HK.out h2)
      have hg : w.heap.size ≤ N + 1 + 1 + 1 := by have := HN.out; omega
      clear h2 HK
      have q1 : -9223372036854775808 ≤ -c ∧ -c ≤ 9223372036854775807 := by omega
      have q3 : -9223372036854775808 ≤ 65536 - cutI z % 65536 ∧ 65536 - cutI z % 65536 ≤ 9223372036854775807 := by omega
      obtain ⟨q1, q2⟩ := q1
      obtain ⟨q3, q4⟩ := q3
      obtain ⟨⟨l0, l1, l2, l3, l4, l5⟩, f0, f1, f2, f3, f4, f5⟩ := L.c6
      by_cases hp : 0 < c
      · have e1 : sdL z c = 65536 - cutI z % 65536 := if_pos hp
        have e2 : sdS c = c := if_pos hp
        have E := Lib.hid (And.intro e1 e2)
        clear e1 e2
        go_wp2_with (go_at_call 62; refine (frac_c _ _).mono ?_; rintro e_ w3 ⟨rfl, rfl⟩)
        go_roundw
        case rel => exact ⟨.inr (.inr (.inr ⟨rfl, by rw [E.out.1, E.out.2]; exact (((L.set_ 4 _).set_ 5 _).set_ 4 _).set_ 5 _⟩)), far4_ A (by omega) _ _ _ _, far4_ B (by omega) _ _ _ _, far4_ R (by omega) _ _ _ _, Lib.hid (bel4_ HK2.out hg _ _ _ _)⟩
        case measure => simp [intOf]
      · have e1 : sdL z c = cutI z % 65536 := if_neg hp
        have e2 : sdS c = -c := if_neg hp
        have E := Lib.hid (And.intro e1 e2)
        clear e1 e2
        go_wp2_with (go_at_call 62; refine (frac_c _ _).mono ?_; rintro e_ w3 ⟨rfl, rfl⟩)
        go_roundw
        case rel => exact ⟨.inr (.inr (.inr ⟨rfl, by rw [E.out.1, E.out.2]; exact (L.set_ 4 _).set_ 5 _⟩)), far2_ A (by omega) _ _, far2_ B (by omega) _ _, far2_ R (by omega) _ _, Lib.hid (bel2_ HK2.out hg _ _)⟩
        case measure => simp [intOf]
    · obtain ⟨⟨l0, l1, l2, l3, l4, l5⟩, -, -, -, -, -, -⟩ := L.c6
      obtain ⟨⟨r0, r1, r2, r3, r4, r5⟩, s0, s1, s2, s3, s4, s5⟩ := R.c6
      have hg : w.heap.size ≤ N + 1 + 1 := by have := HN.out; omega
      have HK2 := HK.out
      go_wp2_with fail
      have R2 := R.st6 (.int .i64 (sdL x a)) (.int .i64 (sdS a)) (.int .i64 (sdL y b)) (.int .i64 (sdS b)) (.int .i64 (sdL z c)) (.int .i64 (sdS c))
      obtain ⟨⟨d0, d1, d2, d3, d4, d5⟩, -, -, -, -, -, -⟩ := R2.c6
      exact bodyPost_ret (v := .agg (sdA x y z a b c)) (by simp [results, Try.results42, go_sem, d0, d1, d2, d3, d4, d5]) rfl ⟨rfl, bel4_ (bel2_ HK2 hg _ _) hg _ _ _ _⟩
end Go.Proofs.Ytjlgcfdpfalbpaa
