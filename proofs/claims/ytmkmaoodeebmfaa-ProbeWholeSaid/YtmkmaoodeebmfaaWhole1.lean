/- The box of one cell. -/
import Derived.Test.YtmkmaoodeebmfaaEach
import Derived.Test.YtmkmaoodeebmfaaMeet4
import Derived.Test.YtmkmaoodeebmfaaRef2
namespace Go.Proofs.Ytmkmaoodeebmfaa
open Go.RowKit Go.Shelf
attribute [local go_sem] Oper.semAt_some

theorem rowL_one (n : Int) : rowL n n = [n] := by rw [rowL_cons (Int.le_refl _), rowL_nil (by omega)]
theorem boxL_one (X Y Z : Int) : boxL X X Y Y Z Z = [(X, Y, Z)] := by
  unfold boxL rest1
  rw [rowL_one, rowL_one, rowL_one]
  simp
theorem low_one {n : Int} (h1 : -100 ≤ n) (h2 : n ≤ 100) : lowI (n * 65536) = n := by unfold lowI cutI; omega
theorem top_one {n : Int} (h1 : -100 ≤ n) (h2 : n ≤ 100) : topI (n * 65536) (n * 65536 + 65536) = n := by
  unfold topI lowI cutI
  split <;> omega
theorem thin_one (n : Int) : thinI (n * 65536) (n * 65536 + 65536) = false := by
  have : (n * 65536 == n * 65536 + 65536) = false := by simp; omega
  unfold thinI; rw [this]; rfl
theorem cells_one {X Y Z : Int} (x1 : -100 ≤ X) (x2 : X ≤ 100) (y1 : -100 ≤ Y) (y2 : Y ≤ 100) (z1 : -100 ≤ Z) (z2 : Z ≤ 100) :
    cellsI (X * 65536) (Y * 65536) (Z * 65536) (X * 65536 + 65536) (Y * 65536 + 65536) (Z * 65536 + 65536) = [(X, Y, Z)] := by
  have hi : isI (X * 65536) (Y * 65536) (Z * 65536) (X * 65536 + 65536) (Y * 65536 + 65536) (Z * 65536 + 65536) = true := by
    unfold isI; rw [thin_one, thin_one, thin_one]; rfl
  unfold cellsI
  rw [hi, if_pos rfl, low_one x1 x2, low_one y1 y2, low_one z1 z2, top_one x1 x2, top_one y1 y2, top_one z1 z2, boxL_one]
theorem cells_under {X Y Z : Int} (x1 : -100 ≤ X) (x2 : X ≤ 100) (y1 : -99 ≤ Y) (y2 : Y ≤ 100) (z1 : -100 ≤ Z) (z2 : Z ≤ 100) :
    cellsI (X * 65536) (cutI (Y * 65536 - 1)) (Z * 65536) (X * 65536 + 65536) (Y * 65536) (Z * 65536 + 65536) = [(X, Y - 1, Z)] := by
  have hc : cutI (Y * 65536 - 1) = Y * 65536 - 1 := cutI_id (by omega) (by omega)
  have ht : thinI (Y * 65536 - 1) (Y * 65536) = false := by
    have : (Y * 65536 - 1 == Y * 65536) = false := by simp; omega
    unfold thinI; rw [this]; rfl
  have hi : isI (X * 65536) (Y * 65536 - 1) (Z * 65536) (X * 65536 + 65536) (Y * 65536) (Z * 65536 + 65536) = true := by
    unfold isI; rw [thin_one, ht, thin_one]; rfl
  have hl : lowI (Y * 65536 - 1) = Y - 1 := by unfold lowI cutI; omega
  have htp : topI (Y * 65536 - 1) (Y * 65536) = Y - 1 := by unfold topI lowI cutI; split <;> omega
  unfold cellsI
  rw [hc, hi, if_pos rfl, low_one x1 x2, hl, low_one z1 z2, top_one x1 x2, htp, top_one z1 z2, boxL_one]
set_option maxHeartbeats 2000000 in
theorem rccut_c (x y z : Int) (h1 : -100 ≤ x) (h2 : x ≤ 100) (h3 : -100 ≤ y) (h4 : y ≤ 100) (h5 : -100 ≤ z) (h6 : z ≤ 100) (w : World) : Calls Try.prog 57 #[.agg #[.int .i64 x, .int .i64 y, .int .i64 z]] w fun r w' => r = .returned (.agg #[.int .i64 x, .int .i64 y, .int .i64 z]) ∧ Below w.heap.size w w' := by
  have U : Blk ((w.alloc (.cells #[.int .i64 x, .int .i64 y, .int .i64 z] 40)).alloc (.cells #[.int .i64 0, .int .i64 0, .int .i64 0] 40)) w.heap.size 40 #[.int .i64 x, .int .i64 y, .int .i64 z] := (Blk.new' rfl).alloc _
  have R : Blk ((w.alloc (.cells #[.int .i64 x, .int .i64 y, .int .i64 z] 40)).alloc (.cells #[.int .i64 0, .int .i64 0, .int .i64 0] 40)) (w.heap.size + 1) 40 #[.int .i64 0, .int .i64 0, .int .i64 0] := Blk.new' (by simp)
  have m : ∀ n : Int, -100 ≤ n → n ≤ 100 → mxI n (-2147483648) = n ∧ mnI n 2147483648 = n := fun n g1 g2 => by unfold mxI mnI; omega
  obtain ⟨mx1, mx2⟩ := m x h1 h2
  obtain ⟨my1, my2⟩ := m y h3 h4
  obtain ⟨mz1, mz2⟩ := m z h5 h6
  have hmn := @run_mn Try.prog
  have hmx := @run_mx Try.prog
  clear m h1 h2 h3 h4 h5 h6
  obtain ⟨k0, k1, k2, -, -, -⟩ := U.c3
  obtain ⟨r0, r1, r2, s0, s1, s2⟩ := R.c3
  go_enter Try.func57, Try.ntmps57
  go_wp2_with fail
  exact bodyPost_ret (v := .agg #[.int .i64 x, .int .i64 y, .int .i64 z]) (by simp [results, Try.results57, go_sem]) rfl ⟨rfl, by (repeat' (first | (with_reducible exact Below.refl _ _) | (with_reducible assumption) | (with_reducible refine Below.alloc ?_ ?_ _) | (with_reducible refine Below.drew ?_) | (with_reducible refine Below.setCell ?_ ?_ _) | (with_reducible refine after ?_ (below_regrown _ _ _)) | (refine after ?_ (by with_reducible assumption)) | go_size))⟩
set_option maxHeartbeats 4000000 in
theorem rbox_c (x y z : Int) (h1 : -100 ≤ x) (h2 : x ≤ 100) (h3 : -100 ≤ y) (h4 : y ≤ 100) (h5 : -100 ≤ z) (h6 : z ≤ 100) (w : World) : Calls Try.prog 35 #[.agg #[.int .i64 x, .int .i64 y, .int .i64 z]] w fun r w' => r = .returned (.agg #[.int .i64 (x * 65536), .int .i64 (y * 65536), .int .i64 (z * 65536), .int .i64 (x * 65536 + 65536), .int .i64 (y * 65536 + 65536), .int .i64 (z * 65536 + 65536)]) ∧ Below w.heap.size w w' := by
  have hcut := Lib.hid fun W => rccut_c x y z h1 h2 h3 h4 h5 h6 W
  have U : Blk ((w.alloc (.cells #[.int .i64 x, .int .i64 y, .int .i64 z] 40)).alloc (.cells #[.int .i64 0, .int .i64 0, .int .i64 0, .int .i64 0, .int .i64 0, .int .i64 0] 28)) w.heap.size 40 #[.int .i64 x, .int .i64 y, .int .i64 z] := (Blk.new' rfl).alloc _
  have R : Blk ((w.alloc (.cells #[.int .i64 x, .int .i64 y, .int .i64 z] 40)).alloc (.cells #[.int .i64 0, .int .i64 0, .int .i64 0, .int .i64 0, .int .i64 0, .int .i64 0] 28)) (w.heap.size + 1) 28 #[.int .i64 0, .int .i64 0, .int .i64 0, .int .i64 0, .int .i64 0, .int .i64 0] := Blk.new' (by simp)
  have H : Below w.heap.size w ((w.alloc (.cells #[.int .i64 x, .int .i64 y, .int .i64 z] 40)).alloc (.cells #[.int .i64 0, .int .i64 0, .int .i64 0, .int .i64 0, .int .i64 0, .int .i64 0] 28)) := by go_grown
  go_enter Try.func35, Try.ntmps35
  go_upto_region 1 with (fail)
  generalize World.alloc (World.alloc w _) _ = W0 at U R H ⊢
  obtain ⟨k0, k1, k2, -, -, -⟩ := U.c3
  go_upto_region 2 with (go_at_call 57; refine (hcut.out _).mono ?_; rintro e_ w1 ⟨rfl, g1⟩)
  generalize hV : World.alloc w1 _ = W1
  have hy : Below w1.heap.size w1 W1 := by rw [← hV]; exact (Below.refl _ _).alloc (Nat.le_refl _) _
  have D : Blk W1 w1.heap.size 40 #[.int .i64 x, .int .i64 y, .int .i64 z] := Blk.eqw hV (Blk.new' rfl)
  replace R := (R.on g1).on hy
  replace H := after (after H g1) hy
  clear hV hy g1 k0 k1 k2 U
  generalize w1.heap.size = gd at D ⊢
  obtain ⟨k0, k1, k2, -, -, -⟩ := D.c3
  have e1 : -9223372036854775808 ≤ x * 65536 := by omega
  have e2 : x * 65536 ≤ 9223372036854775807 := by omega
  have e3 : -9223372036854775808 ≤ y * 65536 := by omega
  have e4 : y * 65536 ≤ 9223372036854775807 := by omega
  have e5 : -9223372036854775808 ≤ z * 65536 := by omega
  have e6 : z * 65536 ≤ 9223372036854775807 := by omega
  go_upto_region 3 with (fail)
  generalize hV : World.alloc W1 _ = W2
  have hy : Below W1.heap.size W1 W2 := by rw [← hV]; exact (Below.refl _ _).alloc (Nat.le_refl _) _
  have M : Blk W2 W1.heap.size 26 #[.int .i64 (x * 65536), .int .i64 (y * 65536), .int .i64 (z * 65536)] := Blk.eqw hV (Blk.new' rfl)
  replace R := R.on hy
  replace H := after H hy
  clear hV hy k0 k1 k2 D e1 e2 e3 e4 e5 e6
  generalize W1.heap.size = gm at M ⊢
  have ax : addI (x * 65536) 65536 = x * 65536 + 65536 := by unfold addI cutI; omega
  have ay : addI (y * 65536) 65536 = y * 65536 + 65536 := by unfold addI cutI; omega
  have az : addI (z * 65536) 65536 = z * 65536 + 65536 := by unfold addI cutI; omega
  have HA := Lib.hid fun W => raddv_c (x * 65536) (y * 65536) (z * 65536) 65536 65536 65536 W
  rw [ax, ay, az] at HA
  clear ax ay az h1 h2 h3 h4 h5 h6 hcut
  obtain ⟨k0, k1, k2⟩ := M.re3
  refine wp_sched [0, 0, 0, 0, 0, 3] (fun _ _ _ => True) (by kernel_rfl) (by kernel_rfl) (fun _ _ _ _ h _ => h) ?_
  repeat (first | (refine wpQs_s ?_) | (refine wpQs_q (fun K hK => ?_); go_simp; first | (refine hK _ ?_; clear hK K) | (apply Exists.intro; refine ⟨fun _ => ?_, hK _ ?_⟩; (exact HA.out _); clear hK K)) | (refine wpQs_f (fun K hK => ?_); go_simp; refine hK _ ?_; clear hK K))
  refine wpQs_nil ?_
  repeat (first | (refine wpLs_skip ?_) | (refine wpLs_one ?lsA (fun v_ => ?_); case lsA => (intro w_ hw_ hp_; (fail))))
  refine wpLs_nilB ?_
  simp only [tails]
  intro W5 k5 _
  clear k0 k1 k2
  replace R := R.on k5
  replace H := after H k5
  obtain ⟨⟨r0, r1, r2, r3, r4, r5⟩, s0, s1, s2, s3, s4, s5⟩ := R.c6
  go_wp2_with fail
  have R2 := R.st6 (.int .i64 (x * 65536)) (.int .i64 (y * 65536)) (.int .i64 (z * 65536)) (.int .i64 (x * 65536 + 65536)) (.int .i64 (y * 65536 + 65536)) (.int .i64 (z * 65536 + 65536))
  obtain ⟨⟨d0, d1, d2, d3, d4, d5⟩, -, -, -, -, -, -⟩ := R2.c6
  exact bodyPost_ret (v := .agg #[.int .i64 (x * 65536), .int .i64 (y * 65536), .int .i64 (z * 65536), .int .i64 (x * 65536 + 65536), .int .i64 (y * 65536 + 65536), .int .i64 (z * 65536 + 65536)]) (by simp [results, Try.results35, go_sem, d0, d1, d2, d3, d4, d5]) rfl ⟨rfl, by (repeat' (first | (with_reducible exact Below.refl _ _) | (with_reducible assumption) | (with_reducible refine Below.alloc ?_ ?_ _) | (with_reducible refine Below.drew ?_) | (with_reducible refine Below.setCell ?_ ?_ _) | (with_reducible refine after ?_ (below_regrown _ _ _)) | (refine after ?_ (by with_reducible assumption)) | go_size))⟩
end Go.Proofs.Ytmkmaoodeebmfaa
