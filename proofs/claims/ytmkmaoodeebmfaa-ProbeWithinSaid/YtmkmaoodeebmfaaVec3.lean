/- The walks of the layer 2 (vec): boxes. -/
import Derived.Test.YtmkmaoodeebmfaaVec2
namespace Go.Proofs.Ytmkmaoodeebmfaa
open Go.RowKit

set_option maxRecDepth 100000 in
set_option maxHeartbeats 2000000 in
theorem all_c (g : FuncId) (caps : Array Value) (p : Int → Bool) (w : World) (he : ∀ args w, (callFunc g args).run Try.prog w = .ok (.enter g args) w)
    (hC : ∀ (i : Int) W, Below w.heap.size w W → Calls Try.prog g (#[.int .i64 i] ++ caps) W fun e W' => e = .returned (.bool (p i)) ∧ Below W.heap.size W W') :
    Calls Try.prog 67 #[.func (.func g) #[] caps] w fun e w' => e = .returned (.bool (p 0 && p 1 && p 2)) ∧ Below w.heap.size w w' := by
  have HC := Lib.hid hC
  have C : ∀ (i : Int) (b : Bool) W, p i = b → Below w.heap.size w W → Calls Try.prog g (#[.int .i64 i] ++ caps) W fun e W' => e = .returned (.bool b) ∧ Below W.heap.size W W' := by
    intro i b W h hb
    rw [← h]; exact hC i W hb
  have HC := Lib.hid C
  clear hC C
  cases h0 : p 0
  · have H0 := Lib.hid h0
    clear h0
    go_enter Try.func67, Try.ntmps67
    go_wp2_with fail
    refine wp_loop_rounds 1 ?_
    rw [rounds_succ]
    go_wp2_with fail
    refine (HC.out 0 false _ H0.out (Below.refl _ _)).mono ?_; rintro e w1 ⟨rfl, hb⟩
    go_wp2_with fail
    go_returns
    exact ⟨ret_b rfl, hb⟩
  cases h1 : p 1
  · have H0 := Lib.hid h0
    have H1 := Lib.hid h1
    clear h0 h1
    go_enter Try.func67, Try.ntmps67
    go_wp2_with fail
    refine wp_loop_rounds 2 ?_
    rw [rounds_succ]
    go_wp2_with fail
    refine (HC.out 0 true _ H0.out (Below.refl _ _)).mono ?_; rintro e w1 ⟨rfl, hb⟩
    go_wp2_with fail
    rw [rounds_succ]
    go_wp2_with fail
    refine (HC.out 1 false _ H1.out hb).mono ?_; rintro e w1 ⟨rfl, hb2⟩
    go_wp2_with fail
    go_returns
    exact ⟨ret_b rfl, after hb hb2⟩
  · have H0 := Lib.hid h0
    have H1 := Lib.hid h1
    clear h0 h1
    cases h2 : p 2
    all_goals
      have H2 := Lib.hid h2
      clear h2
      go_enter Try.func67, Try.ntmps67
      go_wp2_with fail
      refine wp_loop_rounds 4 ?_
      rw [rounds_succ]
      go_wp2_with fail
      refine (HC.out 0 true _ H0.out (Below.refl _ _)).mono ?_; rintro e w1 ⟨rfl, hb⟩
      go_wp2_with fail
      rw [rounds_succ]
      go_wp2_with fail
      refine (HC.out 1 true _ H1.out hb).mono ?_; rintro e w1 ⟨rfl, hb2⟩
      have hb3 := after hb hb2
      go_wp2_with fail
      rw [rounds_succ]
      go_wp2_with fail
      refine (HC.out 2 _ _ H2.out hb3).mono ?_; rintro e w1 ⟨rfl, hb4⟩
      go_wp2_with fail
      try rw [rounds_succ]
      go_wp2_with fail
      go_returns
      exact ⟨ret_b rfl, after hb3 hb4⟩
/-- Two boxes overlap along an axis. -/
def ovI (a b c d : Int) : Bool := decide (a < d) && decide (c < b)
set_option maxRecDepth 100000 in
set_option maxHeartbeats 2000000 in
theorem over1_c (i a b c d e f a' b' c' d' e' f' : Int) (w : World) (u v : Nat) (hu : Blk w u 28 #[.int .i64 a, .int .i64 b, .int .i64 c, .int .i64 d, .int .i64 e, .int .i64 f]) (hv : Blk w v 28 #[.int .i64 a', .int .i64 b', .int .i64 c', .int .i64 d', .int .i64 e', .int .i64 f']) :
    Calls Try.prog 68 #[.int .i64 i, .pointer (some ⟨u, 0, none⟩), .pointer (some ⟨v, 0, none⟩)] w fun r w' => r = .returned (.bool (ovI (axI a b c i) (axI d e f i) (axI a' b' c' i) (axI d' e' f' i))) ∧ Below w.heap.size w w' := by
  obtain ⟨k0, k1, k2, k3, k4, k5⟩ := hu.re6
  obtain ⟨l0, l1, l2, l3, l4, l5⟩ := hv.re6
  by_cases h : axI a b c i < axI d' e' f' i
  · go_enter Try.func68, Try.ntmps68
    go_wp2_with fail
    refine wp_region_quiet_below (by kernel_rfl) (by kernel_rfl) ?_
    repeat (go_big_quiet_step (exact Calls.regrown_of (axis_c _ _ _ _ _)))
    refine wpQuiet_nil ?_
    intro w' hw'
    obtain ⟨rg, rfl⟩ := hw'
    go_wp2_with fail
    go_returns
    exact ⟨ret_b (by unfold ovI; simp [h]), by (repeat' (first | (with_reducible exact Below.refl _ _) | (with_reducible assumption) | (with_reducible refine Below.alloc ?_ ?_ _) | (with_reducible refine Below.drew ?_) | (with_reducible refine Below.setCell ?_ ?_ _) | (with_reducible refine after ?_ (below_regrown _ _ _)) | (refine after ?_ (by with_reducible assumption)) | go_size))⟩
  · have t : decide (axI a b c i < axI d' e' f' i) = false := by simp; omega
    go_enter Try.func68, Try.ntmps68
    go_wp2_with fail
    refine wp_region_quiet_below (by kernel_rfl) (by kernel_rfl) ?_
    repeat (go_big_quiet_step (exact Calls.regrown_of (axis_c _ _ _ _ _)))
    refine wpQuiet_nil ?_
    intro w' hw'
    obtain ⟨rg, rfl⟩ := hw'
    go_wp2_with fail
    go_returns
    exact ⟨ret_b (by unfold ovI; rw [t]; rfl), by (repeat' (first | (with_reducible exact Below.refl _ _) | (with_reducible assumption) | (with_reducible refine Below.alloc ?_ ?_ _) | (with_reducible refine Below.drew ?_) | (with_reducible refine Below.setCell ?_ ?_ _) | (with_reducible refine after ?_ (below_regrown _ _ _)) | (refine after ?_ (by with_reducible assumption)) | go_size))⟩
/-- The values of a box. -/
abbrev bxV (a b c d e f : Int) : Array Value := #[.int .i64 a, .int .i64 b, .int .i64 c, .int .i64 d, .int .i64 e, .int .i64 f]
def overI (a b c d e f a' b' c' d' e' f' : Int) : Bool := ovI a d a' d' && ovI b e b' e' && ovI c f c' f'
set_option maxRecDepth 100000 in
set_option maxHeartbeats 1000000 in
theorem over_c (a b c d e f a' b' c' d' e' f' : Int) (w : World) : Calls Try.prog 54 #[.agg #[.int .i64 a, .int .i64 b, .int .i64 c, .int .i64 d, .int .i64 e, .int .i64 f], .agg #[.int .i64 a', .int .i64 b', .int .i64 c', .int .i64 d', .int .i64 e', .int .i64 f']] w fun r w' => r = .returned (.bool (overI a b c d e f a' b' c' d' e' f')) ∧ Below w.heap.size w w' := by
  have he := enters_of Try.func68 (by kernel_rfl) rfl
  have hmf : ∀ (fn : Fn) (first cap : Array Value) (w : World), (Instr.makeFunc fn first cap).run Try.prog w = .ok (.func fn first cap) w := fun _ _ _ _ => rfl
  go_enter Try.func54, Try.ntmps54
  go_wp2_with fail
  have U : Blk ((w.alloc (.cells (bxV a b c d e f) 28)).alloc (.cells (bxV a' b' c' d' e' f') 28)) w.heap.size 28 (bxV a b c d e f) := (Blk.new' rfl).alloc _
  have V : Blk ((w.alloc (.cells (bxV a b c d e f) 28)).alloc (.cells (bxV a' b' c' d' e' f') 28)) (w.heap.size + 1) 28 (bxV a' b' c' d' e' f') := Blk.new' (by simp)
  refine (all_c 68 _ (fun i => ovI (axI a b c i) (axI d e f i) (axI a' b' c' i) (axI d' e' f' i)) _ he ?_).mono ?_
  · intro i W hW
    exact over1_c i a b c d e f a' b' c' d' e' f' W _ _ (U.on hW) (V.on hW)
  rintro e w1 ⟨rfl, hb⟩
  clear U V
  go_wp2_with fail
  go_returns
  exact ⟨ret_b rfl, by (repeat' (first | (with_reducible exact Below.refl _ _) | (with_reducible assumption) | (with_reducible refine Below.alloc ?_ ?_ _) | (with_reducible refine Below.drew ?_) | (with_reducible refine Below.setCell ?_ ?_ _) | (with_reducible refine after ?_ (below_regrown _ _ _)) | (refine after ?_ (by with_reducible assumption)) | go_size))⟩
