/- Texts that build one behind the other, laid together: BodQ BodQ2 Psh1 Ref2c Psh2. -/
import Derived.Test.YtnokibdecnddlaaMa8
import Derived.Test.YtnokibdecnddlaaMa1
import Derived.Test.YtnokibdecnddlaaMa6
import Derived.Test.YtnokibdecnddlaaMa7
/- Bodies that push one another: plain. No program in sight. -/
namespace Go.Proofs.Ytnokibdecnddlaa

/-- How much two boxes overlap along an axis. -/
def ovB (x y : B6) (i : Int) : Int := mnI (axI x.2.2.2.1 x.2.2.2.2.1 x.2.2.2.2.2 i) (axI y.2.2.2.1 y.2.2.2.2.1 y.2.2.2.2.2 i) - mxI (axI x.1 x.2.1 x.2.2.1 i) (axI y.1 y.2.1 y.2.2.1 i)
def meetB (x y : B6) : Bool := overI x.1 x.2.1 x.2.2.1 x.2.2.2.1 x.2.2.2.2.1 x.2.2.2.2.2 y.1 y.2.1 y.2.2.1 y.2.2.2.1 y.2.2.2.2.1 y.2.2.2.2.2
/-- The axis, and how far. -/
def pushK (x y : B6) : Int := if ovB x y 2 < ovB x y 0 then 2 else 0
def pushM (x y : B6) : Int := mnI (ovB x y (pushK x y)) 4096
def pushN (a b : BD) (x y : B6) : Int := if axI a.1 a.2.1 a.2.2.1 (pushK x y) ≤ axI b.1 b.2.1 b.2.2.1 (pushK x y) then -(pushM x y) else pushM x y
abbrev V3 := Int × Int × Int
abbrev vg3 (v : V3) : Array Value := #[.int .i64 v.1, .int .i64 v.2.1, .int .i64 v.2.2]
def oneV (k n : Int) : V3 := (wiI 0 k 0 n, wiI 0 k 1 n, wiI 0 k 2 n)
/-- By which ways two push one another. -/
def pushV (a b : BD) : V3 × V3 := if meetB (boxB a) (boxB b) = true then (oneV (pushK (boxB a) (boxB b)) (pushN a b (boxB a) (boxB b)), oneV (pushK (boxB a) (boxB b)) (-(pushN a b (boxB a) (boxB b)))) else ((0, 0, 0), (0, 0, 0))
theorem pushK_ways (x y : B6) : (ovB x y 2 < ovB x y 0 ∧ pushK x y = 2) ∨ (¬ ovB x y 2 < ovB x y 0 ∧ pushK x y = 0) := by
  unfold pushK
  by_cases h : ovB x y 2 < ovB x y 0
  · left; rw [if_pos h]; exact ⟨h, rfl⟩
  · right; rw [if_neg h]; exact ⟨h, rfl⟩
section
variable {M : Int} {a b : BD}
theorem ov_bd (ha : BOk M a) (hb : BOk M b) (hM0 : 0 ≤ M) (hM : M ≤ 1000000000) (i : Int) (hi : i = 0 ∨ i = 2) : -3000000000 ≤ ovB (boxB a) (boxB b) i ∧ ovB (boxB a) (boxB b) i ≤ 3000000000 ∧ (meetB (boxB a) (boxB b) = true → 1 ≤ ovB (boxB a) (boxB b) i) ∧
    (-3000000000 ≤ mxI (axI (boxB a).1 (boxB a).2.1 (boxB a).2.2.1 i) (axI (boxB b).1 (boxB b).2.1 (boxB b).2.2.1 i)) := by
  rw [(ha.box (by omega)).2, (hb.box (by omega)).2]
  obtain ⟨x1, y1, z1, -, -, -, w1, h1⟩ := ha
  obtain ⟨x2, y2, z2, -, -, -, w2, h2⟩ := hb
  unfold ovB meetB overI ovI mnI mxI
  dsimp only
  simp only [Bool.and_eq_true, decide_eq_true_eq]
  rcases hi with rfl | rfl
  · simp only [axI, if_true]
    refine ⟨by omega, by omega, fun h => by omega, by omega⟩
  · simp only [axI, show ¬ ((2 : Int) = 0) by decide, show ¬ ((2 : Int) = 1) by decide, if_false, if_true]
    refine ⟨by omega, by omega, fun h => by omega, by omega⟩
theorem pushN_bd (ha : BOk M a) (hb : BOk M b) (hM0 : 0 ≤ M) (hM : M ≤ 1000000000) (h : meetB (boxB a) (boxB b) = true) :
    -4096 ≤ pushN a b (boxB a) (boxB b) ∧ pushN a b (boxB a) (boxB b) ≤ 4096 ∧ pushN a b (boxB a) (boxB b) ≠ 0 := by
  have k : pushK (boxB a) (boxB b) = 0 ∨ pushK (boxB a) (boxB b) = 2 := by rcases pushK_ways (boxB a) (boxB b) with ⟨-, e⟩ | ⟨-, e⟩ <;> omega
  obtain ⟨h1, h2, h3, -⟩ := ov_bd ha hb hM0 hM _ k
  have h4 := h3 h
  unfold pushN pushM mnI
  split <;> omega
/-- Which way it is, by cases. -/
theorem pushV_ways (ha : BOk M a) (hb : BOk M b) (hM0 : 0 ≤ M) (hM : M ≤ 1000000000) : (meetB (boxB a) (boxB b) = false ∧ pushV a b = ((0, 0, 0), (0, 0, 0))) ∨
    (meetB (boxB a) (boxB b) = true ∧ (1 ≤ ovB (boxB a) (boxB b) 0 ∧ 1 ≤ ovB (boxB a) (boxB b) 2) ∧
      ((ovB (boxB a) (boxB b) 2 < ovB (boxB a) (boxB b) 0 ∧ a.2.2.1 ≤ b.2.2.1 ∧ pushV a b = (oneV 2 (-(mnI (ovB (boxB a) (boxB b) 2) 4096)), oneV 2 (mnI (ovB (boxB a) (boxB b) 2) 4096))) ∨
      (ovB (boxB a) (boxB b) 2 < ovB (boxB a) (boxB b) 0 ∧ ¬ a.2.2.1 ≤ b.2.2.1 ∧ pushV a b = (oneV 2 (mnI (ovB (boxB a) (boxB b) 2) 4096), oneV 2 (-(mnI (ovB (boxB a) (boxB b) 2) 4096)))) ∨
      (¬ ovB (boxB a) (boxB b) 2 < ovB (boxB a) (boxB b) 0 ∧ a.1 ≤ b.1 ∧ pushV a b = (oneV 0 (-(mnI (ovB (boxB a) (boxB b) 0) 4096)), oneV 0 (mnI (ovB (boxB a) (boxB b) 0) 4096))) ∨
      (¬ ovB (boxB a) (boxB b) 2 < ovB (boxB a) (boxB b) 0 ∧ ¬ a.1 ≤ b.1 ∧ pushV a b = (oneV 0 (mnI (ovB (boxB a) (boxB b) 0) 4096), oneV 0 (-(mnI (ovB (boxB a) (boxB b) 0) 4096)))))) := by
  unfold pushV
  cases hm : meetB (boxB a) (boxB b)
  · exact .inl ⟨rfl, rfl⟩
  · right
    refine ⟨rfl, ⟨(ov_bd ha hb hM0 hM 0 (by decide)).2.2.1 hm, (ov_bd ha hb hM0 hM 2 (by decide)).2.2.1 hm⟩, ?_⟩
    rw [if_pos rfl]
    unfold pushN pushM
    rcases pushK_ways (boxB a) (boxB b) with ⟨h, e⟩ | ⟨h, e⟩
    · rw [e]
      have e1 : axI a.1 a.2.1 a.2.2.1 2 = a.2.2.1 := rfl
      have e2 : axI b.1 b.2.1 b.2.2.1 2 = b.2.2.1 := rfl
      rw [e1, e2]
      by_cases hz : a.2.2.1 ≤ b.2.2.1
      · rw [if_pos hz, Int.neg_neg]; exact .inl ⟨h, hz, rfl⟩
      · rw [if_neg hz]; exact .inr (.inl ⟨h, hz, rfl⟩)
    · rw [e]
      have e1 : axI a.1 a.2.1 a.2.2.1 0 = a.1 := rfl
      have e2 : axI b.1 b.2.1 b.2.2.1 0 = b.1 := rfl
      rw [e1, e2]
      by_cases hz : a.1 ≤ b.1
      · rw [if_pos hz, Int.neg_neg]; exact .inr (.inr (.inl ⟨h, hz, rfl⟩))
      · rw [if_neg hz]; exact .inr (.inr (.inr ⟨h, hz, rfl⟩))
end
end Go.Proofs.Ytnokibdecnddlaa

/- What is told of a push. Plain. No program in sight. -/
namespace Go.Proofs.Ytnokibdecnddlaa

theorem wi_small {a i n : Int} (h1 : -4096 ≤ n) (h2 : n ≤ 4096) : wiI 0 a i n = if a = i then n else 0 := by
  unfold wiI cutI
  by_cases h : a = i
  · rw [if_pos h, if_pos h.symm]; omega
  · rw [if_neg h, if_neg (fun e => h e.symm)]
structure PushSay (pm : Bool) (d e : V3) : Prop where
  y : d.2.1 = 0
  ax : addI d.1 e.1 = 0
  ay : addI d.2.1 e.2.1 = 0
  az : addI d.2.2 e.2.2 = 0
  none : pm = false → d = (0, 0, 0)
  some : pm = true → d.1 ≠ 0 ∨ d.2.2 ≠ 0
theorem say_of {k n : Int} (hk : k = 0 ∨ k = 2) (h1 : -4096 ≤ n) (h2 : n ≤ 4096) (h0 : n ≠ 0) : PushSay true (oneV k n) (oneV k (-n)) := by
  unfold oneV
  rw [wi_small h1 h2, wi_small h1 h2, wi_small h1 h2, wi_small (by omega) (by omega), wi_small (by omega) (by omega), wi_small (by omega) (by omega)]
  rcases hk with rfl | rfl
  · refine ⟨rfl, ?_, rfl, rfl, fun h => (by cases h), fun _ => .inl h0⟩
    show addI n (-n) = 0
    unfold addI cutI; omega
  · refine ⟨rfl, rfl, rfl, ?_, fun h => (by cases h), fun _ => .inr h0⟩
    show addI n (-n) = 0
    unfold addI cutI; omega
theorem push_say {M : Int} {a b : BD} (ha : BOk M a) (hb : BOk M b) (hM0 : 0 ≤ M) (hM : M ≤ 1000000000) : PushSay (meetB (boxB a) (boxB b)) (pushV a b).1 (pushV a b).2 := by
  rcases pushV_ways ha hb hM0 hM with ⟨h, e⟩ | ⟨h, ⟨o0, o2⟩, hw⟩
  · rw [h, e]
    exact ⟨rfl, rfl, rfl, rfl, fun _ => rfl, fun h => by cases h⟩
  · rw [h]
    have m0 : 1 ≤ mnI (ovB (boxB a) (boxB b) 0) 4096 ∧ mnI (ovB (boxB a) (boxB b) 0) 4096 ≤ 4096 := by unfold mnI; omega
    have m2 : 1 ≤ mnI (ovB (boxB a) (boxB b) 2) 4096 ∧ mnI (ovB (boxB a) (boxB b) 2) 4096 ≤ 4096 := by unfold mnI; omega
    rcases hw with ⟨-, -, e⟩ | ⟨-, -, e⟩ | ⟨-, -, e⟩ | ⟨-, -, e⟩ <;> rw [e]
    · have := say_of (k := 2) (n := -(mnI (ovB (boxB a) (boxB b) 2) 4096)) (by decide) (by omega) (by omega) (by omega)
      rwa [Int.neg_neg] at this
    · exact say_of (by decide) (by omega) (by omega) (by omega)
    · have := say_of (k := 0) (n := -(mnI (ovB (boxB a) (boxB b) 0) 4096)) (by decide) (by omega) (by omega) (by omega)
      rwa [Int.neg_neg] at this
    · exact say_of (by decide) (by omega) (by omega) (by omega)
end Go.Proofs.Ytnokibdecnddlaa

/- Bodies that push one another: the program's. -/
namespace Go.Proofs.Ytnokibdecnddlaa
open Go.RowKit
attribute [local go_sem] Oper.semAt_some

theorem axis_v (x y z a p : Int) (h : axI x y z a = p) (w : World) : Calls Try.prog 61 #[.agg #[.int .i64 x, .int .i64 y, .int .i64 z], .int .i64 a] w fun e w' => e = .returned (.int .i64 p) ∧ Below w.heap.size w w' := by
  subst h; exact axis_c x y z a w
set_option maxRecDepth 100000 in
set_option maxHeartbeats 8000000 in
theorem bpush1_c (x y : B6) (i : Int) (hi : -9223372036854775808 ≤ ovB x y i ∧ ovB x y i ≤ 9223372036854775807) (u v : Nat) (w : World) (hu : Blk w u 48 (ag6 x)) (hv : Blk w v 48 (ag6 y)) :
    Calls Try.prog 60 #[.int .i64 i, .pointer (some ⟨u, 0, none⟩), .pointer (some ⟨v, 0, none⟩)] w fun r w' => r = .returned (.int .i64 (ovB x y i)) ∧ Below w.heap.size w w' := by
  obtain ⟨a, b, c, d, e, f⟩ := x
  obtain ⟨a', b', c', d', e', f'⟩ := y
  unfold ovB at *
  simp only [ag6] at *
  have hmn := @run_mn Try.prog
  have hmx := @run_mx Try.prog
  have h0 : IntKind.i64.wrap (mnI (axI d e f i) (axI d' e' f' i) - mxI (axI a b c i) (axI a' b' c' i)) = mnI (axI d e f i) (axI d' e' f' i) - mxI (axI a b c i) (axI a' b' c' i) := IntWalk.i64_in _ hi
  obtain ⟨k0, k1, k2, k3, k4, k5⟩ := hu.re6
  obtain ⟨l0, l1, l2, l3, l4, l5⟩ := hv.re6
  have H1 := Lib.hid (fun W => axis_c d e f i W)
  have H2 := Lib.hid (fun W => axis_c d' e' f' i W)
  have H3 := Lib.hid (fun W => axis_c a b c i W)
  have H4 := Lib.hid (fun W => axis_c a' b' c' i W)
  generalize axI d e f i = p1 at *
  generalize axI d' e' f' i = p2 at *
  generalize axI a b c i = p3 at *
  generalize axI a' b' c' i = p4 at *
  obtain ⟨h1, h2⟩ := hi
  clear hu hv
  go_enter Try.func60, Try.ntmps60
  go_upto_region 1 with (fail)
  refine wp_region_quiet_below (by kernel_rfl) (by kernel_rfl) ?_
  repeat (go_big_quiet_step (first | (with_reducible exact Calls.regrown_of (H1.out _)) | (with_reducible exact Calls.regrown_of (H2.out _)) | (with_reducible exact Calls.regrown_of (H3.out _)) | (with_reducible exact Calls.regrown_of (H4.out _))))
  refine wpQuiet_nil ?_
  intro w' hw'
  obtain ⟨rg, rfl⟩ := hw'
  go_wp2_with fail
  go_returns
  exact ⟨rfl, below_regrown _ _ _⟩
set_option maxRecDepth 100000 in
set_option maxHeartbeats 8000000 in
theorem bpush_c (a b : BD) (ha : BOk 10000000 a) (hb : BOk 10000000 b) (w : World) :
    Calls Try.prog 27 #[.agg (bd9 a), .agg (bd9 b)] w fun r w' => r = .returned (.tuple #[.agg (vg3 (pushV a b).1), .agg (vg3 (pushV a b).2)]) ∧ Below w.heap.size w w' := by
  have CA := fun W => bbox_c a (by have := ha.wd; omega) W
  have CB := fun W => bbox_c b (by have := hb.wd; omega) W
  have o0 := ov_bd ha hb (by decide) (by decide) 0 (by decide)
  have o2 := ov_bd ha hb (by decide) (by decide) 2 (by decide)
  have hw := pushV_ways ha hb (by decide) (by decide)
  have CO := fun W => over_c (boxB a).1 (boxB a).2.1 (boxB a).2.2.1 (boxB a).2.2.2.1 (boxB a).2.2.2.2.1 (boxB a).2.2.2.2.2 (boxB b).1 (boxB b).2.1 (boxB b).2.2.1 (boxB b).2.2.2.1 (boxB b).2.2.2.2.1 (boxB b).2.2.2.2.2 W
  have fO : meetB (boxB a) (boxB b) = overI (boxB a).1 (boxB a).2.1 (boxB a).2.2.1 (boxB a).2.2.2.1 (boxB a).2.2.2.2.1 (boxB a).2.2.2.2.2 (boxB b).1 (boxB b).2.1 (boxB b).2.2.1 (boxB b).2.2.2.1 (boxB b).2.2.2.2.1 (boxB b).2.2.2.2.2 := by unfold meetB; rfl
  rw [← fO] at CO
  have CP := fun i (hi : -9223372036854775808 ≤ ovB (boxB a) (boxB b) i ∧ ovB (boxB a) (boxB b) i ≤ 9223372036854775807) u v W hu hv => bpush1_c (boxB a) (boxB b) i hi u v W hu hv
  have C0 := fun u v W hu hv => CP 0 ⟨by omega, by omega⟩ u v W hu hv
  have C2 := fun u v W hu hv => CP 2 ⟨by omega, by omega⟩ u v W hu hv
  clear CP fO
  replace o0 := And.intro o0.1 o0.2.1
  replace o2 := And.intro o2.1 o2.2.1
  generalize meetB (boxB a) (boxB b) = pm at CO hw
  generalize ovB (boxB a) (boxB b) 0 = v0 at *
  generalize ovB (boxB a) (boxB b) 2 = v2 at *
  generalize pushV a b = pv at hw ⊢
  generalize boxB a = X at *
  generalize boxB b = Y at *
  clear ha hb
  obtain ⟨x, y, z, sx, sy, sz, wd, ht, st⟩ := a
  obtain ⟨x', y', z', sx', sy', sz', wd', ht', st'⟩ := b
  obtain ⟨p1, p2, p3, p4, p5, p6⟩ := X
  obtain ⟨q1, q2, q3, q4, q5, q6⟩ := Y
  simp only [bd9, ag6] at *
  have HA := Lib.hid CA
  have HB := Lib.hid CB
  have HO := Lib.hid CO
  have H0 := Lib.hid C0
  have H2 := Lib.hid C2
  have HW := Lib.hid hw
  have HV := Lib.hid (And.intro o0 o2)
  have hmn := @run_mn Try.prog
  have hmf : ∀ (fn : Fn) (first cap : Array Value) (w : World), (Instr.makeFunc fn first cap).run Try.prog w = .ok (.func fn first cap) w := fun _ _ _ _ => rfl
  clear CA CB CO C0 C2 hw o0 o2
  obtain ⟨N, hN⟩ : ∃ N, N = w.heap.size := ⟨_, rfl⟩
  obtain ⟨W, hW⟩ : ∃ W, W = (((w.alloc (.cells #[.int .i64 x, .int .i64 y, .int .i64 z, .int .i64 sx, .int .i64 sy, .int .i64 sz, .int .i64 wd, .int .i64 ht, .bool st] 35)).alloc (.cells #[.int .i64 x', .int .i64 y', .int .i64 z', .int .i64 sx', .int .i64 sy', .int .i64 sz', .int .i64 wd', .int .i64 ht', .bool st'] 35)).alloc (.cells #[.int .i64 0, .int .i64 0, .int .i64 0] 26)).alloc (.cells #[.int .i64 0, .int .i64 0, .int .i64 0] 26) := ⟨_, rfl⟩
  have H : Below w.heap.size w W := by rw [hW]; go_grown
  have A : Blk W N 35 _ := Blk.eqw hW.symm (by rw [hN]; exact (((Blk.new' rfl).alloc _).alloc _).alloc _)
  have B : Blk W (N + 1) 35 _ := Blk.eqw hW.symm (by rw [hN]; exact ((Blk.new' (by simp)).alloc _).alloc _)
  have R0 : Blk W (N + 1 + 1) 26 _ := Blk.eqw hW.symm (by rw [hN]; exact (Blk.new' (by simp)).alloc _)
  have R1 : Blk W (N + 1 + 1 + 1) 26 _ := Blk.eqw hW.symm (by rw [hN]; exact Blk.new' (by simp))
  go_enter Try.func27, Try.ntmps27
  go_upto_region 1 with (fail)
  rw [← hW, ← hN]
  have HN := Lib.hid hN
  clear hW hN
  have a0 := fun d os => (A.re d os).cell 0
  have a1 := fun d os => (A.re d os).cell 1
  have a2 := fun d os => (A.re d os).cell 2
  have a3 := fun d os => (A.re d os).cell 3
  have a4 := fun d os => (A.re d os).cell 4
  have a5 := fun d os => (A.re d os).cell 5
  have a6 := fun d os => (A.re d os).cell 6
  have a7 := fun d os => (A.re d os).cell 7
  have a8 := fun d os => (A.re d os).cell 8
  have b0 := fun d os => (B.re d os).cell 0
  have b1 := fun d os => (B.re d os).cell 1
  have b2 := fun d os => (B.re d os).cell 2
  have b3 := fun d os => (B.re d os).cell 3
  have b4 := fun d os => (B.re d os).cell 4
  have b5 := fun d os => (B.re d os).cell 5
  have b6 := fun d os => (B.re d os).cell 6
  have b7 := fun d os => (B.re d os).cell 7
  have b8 := fun d os => (B.re d os).cell 8
  simp only [List.getElem?_toArray, List.getElem?_cons_zero, List.getElem?_cons_succ] at a0 a1 a2 a3 a4 a5 a6 a7 a8 b0 b1 b2 b3 b4 b5 b6 b7 b8
  have HK := Lib.hid (And.intro A (And.intro B (And.intro R0 R1)))
  have HH := Lib.hid H
  clear A B R0 R1 H
  have HU_ := Lib.hid (show Bears W.heap.size [⟨4, 6, 48, #[.int .i64 0, .int .i64 0, .int .i64 0, .int .i64 0, .int .i64 0, .int .i64 0], #[.int .i64 p1, .int .i64 p2, .int .i64 p3, .int .i64 p4, .int .i64 p5, .int .i64 p6]⟩, ⟨5, 7, 48, #[.int .i64 0, .int .i64 0, .int .i64 0, .int .i64 0, .int .i64 0, .int .i64 0], #[.int .i64 q1, .int .i64 q2, .int .i64 q3, .int .i64 q4, .int .i64 q5, .int .i64 q6]⟩] (relsU []) from bears_nil)
  have HO_ := Lib.hid (show OkB [⟨4, 6, 48, #[.int .i64 0, .int .i64 0, .int .i64 0, .int .i64 0, .int .i64 0, .int .i64 0], #[.int .i64 p1, .int .i64 p2, .int .i64 p3, .int .i64 p4, .int .i64 p5, .int .i64 p6]⟩, ⟨5, 7, 48, #[.int .i64 0, .int .i64 0, .int .i64 0, .int .i64 0, .int .i64 0, .int .i64 0], #[.int .i64 q1, .int .i64 q2, .int .i64 q3, .int .i64 q4, .int .i64 q5, .int .i64 q6]⟩] from ⟨by simp, by simp⟩)
  refine wp_many [0, 0, 0, 0, 2, 2, 2, 2] _ _ (by kernel_rfl) (by kernel_rfl) HU_.out ?_
  repeat (first | (refine wpQs_s ?_) | (refine wpQs_q (fun K hK => ?_); go_simp; first | (refine hK _ ?_; clear hK K) | (apply Exists.intro; refine ⟨fun _ => ?_, hK _ ?_⟩; (first | ((with_reducible refine Calls.mono (HA.out _) ?_); exact fun _ _ h => h) | ((with_reducible refine Calls.mono (HB.out _) ?_); exact fun _ _ h => h)); clear hK K)) | (refine wpQs_f (fun K hK => ?_); go_simp; refine hK _ ?_; clear hK K))
  refine wpQs_nil ?_
  refine wpLsI_skip ?_
  refine wpLsI_skip ?_
  refine wpLsI_skip ?_
  refine wpLsI_skip ?_
  refine wpLsI_one rfl ?s4_ (fun v4_ => ?_)
  case s4_ =>
    intro S_ V_ w_ hw_ hV_ ha_ hn_ hI_
    have HW_ := Lib.hid hw_
    have HI_ := Lib.hid hI_
    have Hn_ := Lib.hid hn_
    clear hV_ ha_ hw_ hI_ hn_
    go_simp
    exact ⟨HW_.out.on ((Below.refl _ _).alloc (Nat.le_refl _) _), HI_.out.new (List.mem_cons_self) HO_.out HU_.out (fun _ _ => trivial) HW_.out.none.size Hn_.out⟩
  refine wpLsI_one rfl ?s5_ (fun v5_ => ?_)
  case s5_ =>
    intro S_ V_ w_ hw_ hV_ ha_ hn_ hI_
    have HW_ := Lib.hid hw_
    have HI_ := Lib.hid hI_
    have Hn_ := Lib.hid hn_
    clear hV_ ha_ hw_ hI_ hn_
    go_simp
    exact ⟨HW_.out.on ((Below.refl _ _).alloc (Nat.le_refl _) _), HI_.out.new (List.mem_cons_of_mem _ (List.mem_cons_self)) HO_.out HU_.out (fun _ _ => trivial) HW_.out.none.size Hn_.out⟩
  refine wpLsI_one rfl ?s6_ (fun v6_ => ?_)
  case s6_ =>
    intro S_ V_ w_ hw_ hV_ ha_ hn_ hI_
    have HS_ := Lib.hid (show S_ 4 from ha_ 4 (by decide) rfl (by kernel_rfl))
    have HVV_ := Lib.hid (show V_ 4 = v4_ from hV_ 4 (by decide) rfl)
    have hx_ := Lib.hid (show ∃ b, V_ 4 = .pointer (some ⟨b, 0, none⟩) ∧ W.heap.size ≤ b ∧ Blk w_ b 48 #[.int .i64 0, .int .i64 0, .int .i64 0, .int .i64 0, .int .i64 0, .int .i64 0] from hI_.slot (List.mem_cons_self) HS_.out hn_)
    have HW_ := Lib.hid hw_
    have HI_ := Lib.hid hI_
    have Hn_ := Lib.hid hn_
    clear hV_ ha_ hw_ hI_ hn_
    go_simp
    refine hx_.out.elim fun b_ hy_ => ?_
    have E_ := hy_.1
    have HN_ := Lib.hid hy_.2.1
    have hb_ := hy_.2.2
    rw [HVV_.out] at E_
    subst E_
    clear hx_ hy_
    obtain ⟨⟨k0_, k1_, k2_, k3_, k4_, k5_⟩, f0_, f1_, f2_, f3_, f4_, f5_⟩ := hb_.c6
    have Hb_ := Lib.hid hb_
    clear hb_
    go_simp
    exact ⟨HW_.out.new_set HN_.out kept6, HI_.out.set (List.mem_cons_self) HO_.out HU_.out (fun _ _ => trivial) Hn_.out HS_.out HVV_.out kept6 (Hb_.out.st6 _ _ _ _ _ _)⟩
  refine wpLsI_one rfl ?s7_ (fun v7_ => ?_)
  case s7_ =>
    intro S_ V_ w_ hw_ hV_ ha_ hn_ hI_
    have HS_ := Lib.hid (show S_ 5 from ha_ 5 (by decide) rfl (by kernel_rfl))
    have HVV_ := Lib.hid (show V_ 5 = v5_ from hV_ 5 (by decide) rfl)
    have hx_ := Lib.hid (show ∃ b, V_ 5 = .pointer (some ⟨b, 0, none⟩) ∧ W.heap.size ≤ b ∧ Blk w_ b 48 #[.int .i64 0, .int .i64 0, .int .i64 0, .int .i64 0, .int .i64 0, .int .i64 0] from hI_.slot (List.mem_cons_of_mem _ (List.mem_cons_self)) HS_.out hn_)
    have HW_ := Lib.hid hw_
    have HI_ := Lib.hid hI_
    have Hn_ := Lib.hid hn_
    clear hV_ ha_ hw_ hI_ hn_
    go_simp
    refine hx_.out.elim fun b_ hy_ => ?_
    have E_ := hy_.1
    have HN_ := Lib.hid hy_.2.1
    have hb_ := hy_.2.2
    rw [HVV_.out] at E_
    subst E_
    clear hx_ hy_
    obtain ⟨⟨k0_, k1_, k2_, k3_, k4_, k5_⟩, f0_, f1_, f2_, f3_, f4_, f5_⟩ := hb_.c6
    have Hb_ := Lib.hid hb_
    clear hb_
    go_simp
    exact ⟨HW_.out.new_set HN_.out kept6, HI_.out.set (List.mem_cons_of_mem _ (List.mem_cons_self)) HO_.out HU_.out (fun _ _ => trivial) Hn_.out HS_.out HVV_.out kept6 (Hb_.out.st6 _ _ _ _ _ _)⟩
  refine wpLsI_nil fun V_ W2 hw_ hV_ hI_ => ?_
  obtain ⟨g0_W2, E4_, N0_W2, X0_W2⟩ : ∃ b, v4_ = .pointer (some ⟨b, 0, none⟩) ∧ W.heap.size ≤ b ∧ Blk W2 b 48 #[.int .i64 p1, .int .i64 p2, .int .i64 p3, .int .i64 p4, .int .i64 p5, .int .i64 p6] := by rw [← show V_ 4 = v4_ from hV_ 4 (by decide) rfl]; exact hI_.done (List.mem_cons_self) ⟨show 4 < 8 by decide, rfl⟩ ⟨show 6 < 8 by decide, rfl⟩
  obtain ⟨g1_W2, E5_, N1_W2, X1_W2⟩ : ∃ b, v5_ = .pointer (some ⟨b, 0, none⟩) ∧ W.heap.size ≤ b ∧ Blk W2 b 48 #[.int .i64 q1, .int .i64 q2, .int .i64 q3, .int .i64 q4, .int .i64 q5, .int .i64 q6] := by rw [← show V_ 5 = v5_ from hV_ 5 (by decide) rfl]; exact hI_.done (List.mem_cons_of_mem _ (List.mem_cons_self)) ⟨show 5 < 8 by decide, rfl⟩ ⟨show 7 < 8 by decide, rfl⟩
  subst E4_ E5_
  have h_W2 := hw_.none
  clear hV_ hI_ hw_ HU_ HO_
  simp only [tails]
  clear a0 a1 a2 a3 a4 a5 a6 a7 a8 b0 b1 b2 b3 b4 b5 b6 b7 b8 HA HB
  obtain ⟨A, B, R0, R1⟩ := HK.out
  have n1 := R1.lt
  replace A := A.on h_W2
  replace B := B.on h_W2
  replace R0 := R0.on h_W2
  replace R1 := R1.on h_W2
  have H := after HH.out h_W2
  have n2 : N + 1 + 1 + 1 < g0_W2 := by omega
  have n3 : N + 1 + 1 + 1 < g1_W2 := by omega
  clear HK HH h_W2 N0_W2 N1_W2 n1
  go_simp
  obtain ⟨⟨c0, c1, c2, c3, c4, c5⟩, -⟩ := X0_W2.c6
  obtain ⟨⟨d0, d1, d2, d3, d4, d5⟩, -⟩ := X1_W2.c6
  have n4 : N + 1 + 1 ≠ N + 1 + 1 + 1 := by omega
  have hNw : w.heap.size ≤ N + 1 + 1 := by have := HN.out; omega
  have hNw2 : w.heap.size ≤ N + 1 + 1 + 1 := by omega
  rcases HW.out with ⟨rfl, rfl⟩ | ⟨rfl, hov, hway⟩
  · clear HW
    go_upto_region 3 with (go_at_call 59; refine (HO.out _).mono ?_; rintro e_ w3 ⟨rfl, h3⟩; clear c0 c1 c2 c3 c4 c5 d0 d1 d2 d3 d4 d5; replace R0 := R0.on h3; replace R1 := R1.on h3; replace H := after H h3; clear h3)
    obtain ⟨r0, r1, r2, f0, f1, f2⟩ := R0.c3
    obtain ⟨t0, t1, t2, g0, g1, g2⟩ := R1.c3
    go_wp2_with fail
    generalize hV : World.setCell (World.setCell (World.setCell (World.setCell (World.setCell (World.setCell w3 _ _) _ _) _ _) _ _) _ _) _ _ = WF
    have S0 : Blk WF (N + 1 + 1) 26 #[.int .i64 (0), .int .i64 (0), .int .i64 (0)] := Blk.eqw hV ((((R0.st3 _ _ _).far (p := ⟨N + 1 + 1 + 1, 0, none⟩) n4 _).far (p := ⟨N + 1 + 1 + 1, 1, none⟩) n4 _).far (p := ⟨N + 1 + 1 + 1, 2, none⟩) n4 _)
    have S1 : Blk WF (N + 1 + 1 + 1) 26 #[.int .i64 (0), .int .i64 (0), .int .i64 (0)] := Blk.eqw hV ((((R1.far (p := ⟨N + 1 + 1, 0, none⟩) (Ne.symm n4) _).far (p := ⟨N + 1 + 1, 1, none⟩) (Ne.symm n4) _).far (p := ⟨N + 1 + 1, 2, none⟩) (Ne.symm n4) _).st3 _ _ _)
    have HF : Below w.heap.size w WF := by rw [← hV]; exact ((((((H.setCell (p := ⟨N + 1 + 1, 0, none⟩) hNw _).setCell (p := ⟨N + 1 + 1, 1, none⟩) hNw _).setCell (p := ⟨N + 1 + 1, 2, none⟩) hNw _).setCell (p := ⟨N + 1 + 1 + 1, 0, none⟩) hNw2 _).setCell (p := ⟨N + 1 + 1 + 1, 1, none⟩) hNw2 _).setCell (p := ⟨N + 1 + 1 + 1, 2, none⟩) hNw2 _)
    obtain ⟨m0, m1, m2, -, -, -⟩ := S0.c3
    obtain ⟨j0, j1, j2, -, -, -⟩ := S1.c3
    exact bodyPost_ret (v := .tuple #[.agg #[.int .i64 (0), .int .i64 (0), .int .i64 (0)], .agg #[.int .i64 (0), .int .i64 (0), .int .i64 (0)]]) (by simp [results, Try.f27, go_sem, m0, m1, m2, j0, j1, j2]) rfl ⟨rfl, HF⟩
  · clear HW
    go_upto_region 6 with (go_at_call 59; refine (HO.out _).mono ?_; rintro e_ w3 ⟨rfl, h3⟩; clear c0 c1 c2 c3 c4 c5 d0 d1 d2 d3 d4 d5; replace A := A.on h3; replace B := B.on h3; replace R0 := R0.on h3; replace R1 := R1.on h3; replace X0_W2 := X0_W2.on h3; replace X1_W2 := X1_W2.on h3; replace H := after H h3; clear h3)
    obtain ⟨hv0, hv2⟩ := hov
    rcases hway with ⟨hk, hz, rfl⟩ | ⟨hk, hz, rfl⟩ | ⟨hk, hz, rfl⟩ | ⟨hk, hz, rfl⟩
    · obtain ⟨m, hm⟩ : ∃ m, mnI v2 4096 = m := ⟨_, rfl⟩
      have hmb : 1 ≤ m ∧ m ≤ 4096 := by rw [← hm]; unfold mnI; omega
      have HMM := Lib.hid hm
      have HMB := Lib.hid hmb
      have q1 : -9223372036854775808 ≤ -m ∧ -m ≤ 9223372036854775807 := by omega
      have q2 : -9223372036854775808 ≤ -(-m) ∧ -(-m) ≤ 9223372036854775807 := by omega
      obtain ⟨q3, q4⟩ := q1
      obtain ⟨q5, q6⟩ := q2
      clear hmb hv0 hv2
      go_upto_region 9 with (go_at_call 60; (first | (with_reducible refine Calls.mono (H0.out _ _ _ X0_W2 X1_W2) ?_) | (with_reducible refine Calls.mono (H2.out _ _ _ X0_W2 X1_W2) ?_)); rintro e_ w4 ⟨rfl, h4⟩; replace A := A.on h4; replace B := B.on h4; replace R0 := R0.on h4; replace R1 := R1.on h4; replace X0_W2 := X0_W2.on h4; replace X1_W2 := X1_W2.on h4; replace H := after H h4; clear h4)
      clear hk hm
      have a0 := fun d os => (A.re d os).cell 0
      have a1 := fun d os => (A.re d os).cell 1
      have a2 := fun d os => (A.re d os).cell 2
      have b0 := fun d os => (B.re d os).cell 0
      have b1 := fun d os => (B.re d os).cell 1
      have b2 := fun d os => (B.re d os).cell 2
      simp only [List.getElem?_toArray, List.getElem?_cons_zero, List.getElem?_cons_succ] at a0 a1 a2 b0 b1 b2
      have HX1 := Lib.hid (fun W => axis_v x y z 2 z rfl W)
      have HX2 := Lib.hid (fun W => axis_v x' y' z' 2 z' rfl W)
      refine wp_region_quiet_below (by kernel_rfl) (by kernel_rfl) ?_
      repeat (go_big_quiet_step (first | (with_reducible exact Calls.regrown_of (HX1.out _)) | (with_reducible exact Calls.regrown_of (HX2.out _))))
      refine wpQuiet_nil ?_
      intro w' hw'
      obtain ⟨rg, rfl⟩ := hw'
      clear a0 a1 a2 b0 b1 b2 HX1 HX2
      obtain ⟨W5, hW5⟩ : ∃ W5, W5 = Go.Sort.grow (redrawn w4 rg.d) rg.os := ⟨_, rfl⟩
      rw [← hW5]
      have hb5 := below_regrown w4 rg.d rg.os
      rw [← hW5] at hb5
      replace R0 := R0.on hb5
      replace R1 := R1.on hb5
      replace H := after H hb5
      clear hW5 hb5
      have hneg : -(-m) = m := Int.neg_neg m
      go_upto_region 11 with (fail)
      have HW1 := Lib.hid (fun W => with_c 0 0 0 2 (-m) W)
      have HW2 := Lib.hid (fun W => with_c 0 0 0 2 (m) W)
      go_wp2_with first
        | (go_at_call 62; (with_reducible refine Calls.mono (HW1.out _) ?_); rintro e_ w6 ⟨rfl, h6⟩; replace R0 := R0.on h6; replace R1 := R1.on h6; replace H := after H h6; clear h6 HW1)
        | (go_at_call 62; (with_reducible refine Calls.mono (HW2.out _) ?_); rintro e_ w7 ⟨rfl, h7⟩; replace R0 := R0.on h7; replace R1 := R1.on h7; replace H := after H h7; clear h7; obtain ⟨r0, r1, r2, f0, f1, f2⟩ := R0.c3; obtain ⟨t0, t1, t2, g0, g1, g2⟩ := R1.c3)
      generalize hV : World.setCell (World.setCell (World.setCell (World.setCell (World.setCell (World.setCell w7 _ _) _ _) _ _) _ _) _ _) _ _ = WF
      have S0 : Blk WF (N + 1 + 1) 26 #[.int .i64 (wiI 0 2 0 (-m)), .int .i64 (wiI 0 2 1 (-m)), .int .i64 (wiI 0 2 2 (-m))] := Blk.eqw hV ((((R0.st3 _ _ _).far (p := ⟨N + 1 + 1 + 1, 0, none⟩) n4 _).far (p := ⟨N + 1 + 1 + 1, 1, none⟩) n4 _).far (p := ⟨N + 1 + 1 + 1, 2, none⟩) n4 _)
      have S1 : Blk WF (N + 1 + 1 + 1) 26 #[.int .i64 (wiI 0 2 0 (m)), .int .i64 (wiI 0 2 1 (m)), .int .i64 (wiI 0 2 2 (m))] := Blk.eqw hV ((((R1.far (p := ⟨N + 1 + 1, 0, none⟩) (Ne.symm n4) _).far (p := ⟨N + 1 + 1, 1, none⟩) (Ne.symm n4) _).far (p := ⟨N + 1 + 1, 2, none⟩) (Ne.symm n4) _).st3 _ _ _)
      have HF : Below w.heap.size w WF := by rw [← hV]; exact ((((((H.setCell (p := ⟨N + 1 + 1, 0, none⟩) hNw _).setCell (p := ⟨N + 1 + 1, 1, none⟩) hNw _).setCell (p := ⟨N + 1 + 1, 2, none⟩) hNw _).setCell (p := ⟨N + 1 + 1 + 1, 0, none⟩) hNw2 _).setCell (p := ⟨N + 1 + 1 + 1, 1, none⟩) hNw2 _).setCell (p := ⟨N + 1 + 1 + 1, 2, none⟩) hNw2 _)
      obtain ⟨m0, m1, m2, -, -, -⟩ := S0.c3
      obtain ⟨j0, j1, j2, -, -, -⟩ := S1.c3
      exact bodyPost_ret (v := .tuple #[.agg #[.int .i64 (wiI 0 2 0 (-m)), .int .i64 (wiI 0 2 1 (-m)), .int .i64 (wiI 0 2 2 (-m))], .agg #[.int .i64 (wiI 0 2 0 (m)), .int .i64 (wiI 0 2 1 (m)), .int .i64 (wiI 0 2 2 (m))]]) (by simp [results, Try.f27, go_sem, m0, m1, m2, j0, j1, j2]) rfl ⟨by rw [HMM.out]; rfl, HF⟩
    · obtain ⟨m, hm⟩ : ∃ m, mnI v2 4096 = m := ⟨_, rfl⟩
      have hmb : 1 ≤ m ∧ m ≤ 4096 := by rw [← hm]; unfold mnI; omega
      have HMM := Lib.hid hm
      have HMB := Lib.hid hmb
      have q1 : -9223372036854775808 ≤ -m ∧ -m ≤ 9223372036854775807 := by omega
      have q2 : -9223372036854775808 ≤ -(-m) ∧ -(-m) ≤ 9223372036854775807 := by omega
      obtain ⟨q3, q4⟩ := q1
      obtain ⟨q5, q6⟩ := q2
      clear hmb hv0 hv2
      go_upto_region 9 with (go_at_call 60; (first | (with_reducible refine Calls.mono (H0.out _ _ _ X0_W2 X1_W2) ?_) | (with_reducible refine Calls.mono (H2.out _ _ _ X0_W2 X1_W2) ?_)); rintro e_ w4 ⟨rfl, h4⟩; replace A := A.on h4; replace B := B.on h4; replace R0 := R0.on h4; replace R1 := R1.on h4; replace X0_W2 := X0_W2.on h4; replace X1_W2 := X1_W2.on h4; replace H := after H h4; clear h4)
      clear hk hm
      have a0 := fun d os => (A.re d os).cell 0
      have a1 := fun d os => (A.re d os).cell 1
      have a2 := fun d os => (A.re d os).cell 2
      have b0 := fun d os => (B.re d os).cell 0
      have b1 := fun d os => (B.re d os).cell 1
      have b2 := fun d os => (B.re d os).cell 2
      simp only [List.getElem?_toArray, List.getElem?_cons_zero, List.getElem?_cons_succ] at a0 a1 a2 b0 b1 b2
      have HX1 := Lib.hid (fun W => axis_v x y z 2 z rfl W)
      have HX2 := Lib.hid (fun W => axis_v x' y' z' 2 z' rfl W)
      refine wp_region_quiet_below (by kernel_rfl) (by kernel_rfl) ?_
      repeat (go_big_quiet_step (first | (with_reducible exact Calls.regrown_of (HX1.out _)) | (with_reducible exact Calls.regrown_of (HX2.out _))))
      refine wpQuiet_nil ?_
      intro w' hw'
      obtain ⟨rg, rfl⟩ := hw'
      clear a0 a1 a2 b0 b1 b2 HX1 HX2
      obtain ⟨W5, hW5⟩ : ∃ W5, W5 = Go.Sort.grow (redrawn w4 rg.d) rg.os := ⟨_, rfl⟩
      rw [← hW5]
      have hb5 := below_regrown w4 rg.d rg.os
      rw [← hW5] at hb5
      replace R0 := R0.on hb5
      replace R1 := R1.on hb5
      replace H := after H hb5
      clear hW5 hb5
      have hneg : -(-m) = m := Int.neg_neg m
      go_upto_region 11 with (fail)
      have HW1 := Lib.hid (fun W => with_c 0 0 0 2 (m) W)
      have HW2 := Lib.hid (fun W => with_c 0 0 0 2 (-m) W)
      go_wp2_with first
        | (go_at_call 62; (with_reducible refine Calls.mono (HW1.out _) ?_); rintro e_ w6 ⟨rfl, h6⟩; replace R0 := R0.on h6; replace R1 := R1.on h6; replace H := after H h6; clear h6 HW1)
        | (go_at_call 62; (with_reducible refine Calls.mono (HW2.out _) ?_); rintro e_ w7 ⟨rfl, h7⟩; replace R0 := R0.on h7; replace R1 := R1.on h7; replace H := after H h7; clear h7; obtain ⟨r0, r1, r2, f0, f1, f2⟩ := R0.c3; obtain ⟨t0, t1, t2, g0, g1, g2⟩ := R1.c3)
      generalize hV : World.setCell (World.setCell (World.setCell (World.setCell (World.setCell (World.setCell w7 _ _) _ _) _ _) _ _) _ _) _ _ = WF
      have S0 : Blk WF (N + 1 + 1) 26 #[.int .i64 (wiI 0 2 0 (m)), .int .i64 (wiI 0 2 1 (m)), .int .i64 (wiI 0 2 2 (m))] := Blk.eqw hV ((((R0.st3 _ _ _).far (p := ⟨N + 1 + 1 + 1, 0, none⟩) n4 _).far (p := ⟨N + 1 + 1 + 1, 1, none⟩) n4 _).far (p := ⟨N + 1 + 1 + 1, 2, none⟩) n4 _)
      have S1 : Blk WF (N + 1 + 1 + 1) 26 #[.int .i64 (wiI 0 2 0 (-m)), .int .i64 (wiI 0 2 1 (-m)), .int .i64 (wiI 0 2 2 (-m))] := Blk.eqw hV ((((R1.far (p := ⟨N + 1 + 1, 0, none⟩) (Ne.symm n4) _).far (p := ⟨N + 1 + 1, 1, none⟩) (Ne.symm n4) _).far (p := ⟨N + 1 + 1, 2, none⟩) (Ne.symm n4) _).st3 _ _ _)
      have HF : Below w.heap.size w WF := by rw [← hV]; exact ((((((H.setCell (p := ⟨N + 1 + 1, 0, none⟩) hNw _).setCell (p := ⟨N + 1 + 1, 1, none⟩) hNw _).setCell (p := ⟨N + 1 + 1, 2, none⟩) hNw _).setCell (p := ⟨N + 1 + 1 + 1, 0, none⟩) hNw2 _).setCell (p := ⟨N + 1 + 1 + 1, 1, none⟩) hNw2 _).setCell (p := ⟨N + 1 + 1 + 1, 2, none⟩) hNw2 _)
      obtain ⟨m0, m1, m2, -, -, -⟩ := S0.c3
      obtain ⟨j0, j1, j2, -, -, -⟩ := S1.c3
      exact bodyPost_ret (v := .tuple #[.agg #[.int .i64 (wiI 0 2 0 (m)), .int .i64 (wiI 0 2 1 (m)), .int .i64 (wiI 0 2 2 (m))], .agg #[.int .i64 (wiI 0 2 0 (-m)), .int .i64 (wiI 0 2 1 (-m)), .int .i64 (wiI 0 2 2 (-m))]]) (by simp [results, Try.f27, go_sem, m0, m1, m2, j0, j1, j2]) rfl ⟨by rw [HMM.out]; rfl, HF⟩
    · obtain ⟨m, hm⟩ : ∃ m, mnI v0 4096 = m := ⟨_, rfl⟩
      have hmb : 1 ≤ m ∧ m ≤ 4096 := by rw [← hm]; unfold mnI; omega
      have HMM := Lib.hid hm
      have HMB := Lib.hid hmb
      have q1 : -9223372036854775808 ≤ -m ∧ -m ≤ 9223372036854775807 := by omega
      have q2 : -9223372036854775808 ≤ -(-m) ∧ -(-m) ≤ 9223372036854775807 := by omega
      obtain ⟨q3, q4⟩ := q1
      obtain ⟨q5, q6⟩ := q2
      clear hmb hv0 hv2
      go_upto_region 9 with (go_at_call 60; (first | (with_reducible refine Calls.mono (H0.out _ _ _ X0_W2 X1_W2) ?_) | (with_reducible refine Calls.mono (H2.out _ _ _ X0_W2 X1_W2) ?_)); rintro e_ w4 ⟨rfl, h4⟩; replace A := A.on h4; replace B := B.on h4; replace R0 := R0.on h4; replace R1 := R1.on h4; replace X0_W2 := X0_W2.on h4; replace X1_W2 := X1_W2.on h4; replace H := after H h4; clear h4)
      clear hk hm
      have a0 := fun d os => (A.re d os).cell 0
      have a1 := fun d os => (A.re d os).cell 1
      have a2 := fun d os => (A.re d os).cell 2
      have b0 := fun d os => (B.re d os).cell 0
      have b1 := fun d os => (B.re d os).cell 1
      have b2 := fun d os => (B.re d os).cell 2
      simp only [List.getElem?_toArray, List.getElem?_cons_zero, List.getElem?_cons_succ] at a0 a1 a2 b0 b1 b2
      have HX1 := Lib.hid (fun W => axis_v x y z 0 x rfl W)
      have HX2 := Lib.hid (fun W => axis_v x' y' z' 0 x' rfl W)
      refine wp_region_quiet_below (by kernel_rfl) (by kernel_rfl) ?_
      repeat (go_big_quiet_step (first | (with_reducible exact Calls.regrown_of (HX1.out _)) | (with_reducible exact Calls.regrown_of (HX2.out _))))
      refine wpQuiet_nil ?_
      intro w' hw'
      obtain ⟨rg, rfl⟩ := hw'
      clear a0 a1 a2 b0 b1 b2 HX1 HX2
      obtain ⟨W5, hW5⟩ : ∃ W5, W5 = Go.Sort.grow (redrawn w4 rg.d) rg.os := ⟨_, rfl⟩
      rw [← hW5]
      have hb5 := below_regrown w4 rg.d rg.os
      rw [← hW5] at hb5
      replace R0 := R0.on hb5
      replace R1 := R1.on hb5
      replace H := after H hb5
      clear hW5 hb5
      have hneg : -(-m) = m := Int.neg_neg m
      go_upto_region 11 with (fail)
      have HW1 := Lib.hid (fun W => with_c 0 0 0 0 (-m) W)
      have HW2 := Lib.hid (fun W => with_c 0 0 0 0 (m) W)
      go_wp2_with first
        | (go_at_call 62; (with_reducible refine Calls.mono (HW1.out _) ?_); rintro e_ w6 ⟨rfl, h6⟩; replace R0 := R0.on h6; replace R1 := R1.on h6; replace H := after H h6; clear h6 HW1)
        | (go_at_call 62; (with_reducible refine Calls.mono (HW2.out _) ?_); rintro e_ w7 ⟨rfl, h7⟩; replace R0 := R0.on h7; replace R1 := R1.on h7; replace H := after H h7; clear h7; obtain ⟨r0, r1, r2, f0, f1, f2⟩ := R0.c3; obtain ⟨t0, t1, t2, g0, g1, g2⟩ := R1.c3)
      generalize hV : World.setCell (World.setCell (World.setCell (World.setCell (World.setCell (World.setCell w7 _ _) _ _) _ _) _ _) _ _) _ _ = WF
      have S0 : Blk WF (N + 1 + 1) 26 #[.int .i64 (wiI 0 0 0 (-m)), .int .i64 (wiI 0 0 1 (-m)), .int .i64 (wiI 0 0 2 (-m))] := Blk.eqw hV ((((R0.st3 _ _ _).far (p := ⟨N + 1 + 1 + 1, 0, none⟩) n4 _).far (p := ⟨N + 1 + 1 + 1, 1, none⟩) n4 _).far (p := ⟨N + 1 + 1 + 1, 2, none⟩) n4 _)
      have S1 : Blk WF (N + 1 + 1 + 1) 26 #[.int .i64 (wiI 0 0 0 (m)), .int .i64 (wiI 0 0 1 (m)), .int .i64 (wiI 0 0 2 (m))] := Blk.eqw hV ((((R1.far (p := ⟨N + 1 + 1, 0, none⟩) (Ne.symm n4) _).far (p := ⟨N + 1 + 1, 1, none⟩) (Ne.symm n4) _).far (p := ⟨N + 1 + 1, 2, none⟩) (Ne.symm n4) _).st3 _ _ _)
      have HF : Below w.heap.size w WF := by rw [← hV]; exact ((((((H.setCell (p := ⟨N + 1 + 1, 0, none⟩) hNw _).setCell (p := ⟨N + 1 + 1, 1, none⟩) hNw _).setCell (p := ⟨N + 1 + 1, 2, none⟩) hNw _).setCell (p := ⟨N + 1 + 1 + 1, 0, none⟩) hNw2 _).setCell (p := ⟨N + 1 + 1 + 1, 1, none⟩) hNw2 _).setCell (p := ⟨N + 1 + 1 + 1, 2, none⟩) hNw2 _)
      obtain ⟨m0, m1, m2, -, -, -⟩ := S0.c3
      obtain ⟨j0, j1, j2, -, -, -⟩ := S1.c3
      exact bodyPost_ret (v := .tuple #[.agg #[.int .i64 (wiI 0 0 0 (-m)), .int .i64 (wiI 0 0 1 (-m)), .int .i64 (wiI 0 0 2 (-m))], .agg #[.int .i64 (wiI 0 0 0 (m)), .int .i64 (wiI 0 0 1 (m)), .int .i64 (wiI 0 0 2 (m))]]) (by simp [results, Try.f27, go_sem, m0, m1, m2, j0, j1, j2]) rfl ⟨by rw [HMM.out]; rfl, HF⟩
    · obtain ⟨m, hm⟩ : ∃ m, mnI v0 4096 = m := ⟨_, rfl⟩
      have hmb : 1 ≤ m ∧ m ≤ 4096 := by rw [← hm]; unfold mnI; omega
      have HMM := Lib.hid hm
      have HMB := Lib.hid hmb
      have q1 : -9223372036854775808 ≤ -m ∧ -m ≤ 9223372036854775807 := by omega
      have q2 : -9223372036854775808 ≤ -(-m) ∧ -(-m) ≤ 9223372036854775807 := by omega
      obtain ⟨q3, q4⟩ := q1
      obtain ⟨q5, q6⟩ := q2
      clear hmb hv0 hv2
      go_upto_region 9 with (go_at_call 60; (first | (with_reducible refine Calls.mono (H0.out _ _ _ X0_W2 X1_W2) ?_) | (with_reducible refine Calls.mono (H2.out _ _ _ X0_W2 X1_W2) ?_)); rintro e_ w4 ⟨rfl, h4⟩; replace A := A.on h4; replace B := B.on h4; replace R0 := R0.on h4; replace R1 := R1.on h4; replace X0_W2 := X0_W2.on h4; replace X1_W2 := X1_W2.on h4; replace H := after H h4; clear h4)
      clear hk hm
      have a0 := fun d os => (A.re d os).cell 0
      have a1 := fun d os => (A.re d os).cell 1
      have a2 := fun d os => (A.re d os).cell 2
      have b0 := fun d os => (B.re d os).cell 0
      have b1 := fun d os => (B.re d os).cell 1
      have b2 := fun d os => (B.re d os).cell 2
      simp only [List.getElem?_toArray, List.getElem?_cons_zero, List.getElem?_cons_succ] at a0 a1 a2 b0 b1 b2
      have HX1 := Lib.hid (fun W => axis_v x y z 0 x rfl W)
      have HX2 := Lib.hid (fun W => axis_v x' y' z' 0 x' rfl W)
      refine wp_region_quiet_below (by kernel_rfl) (by kernel_rfl) ?_
      repeat (go_big_quiet_step (first | (with_reducible exact Calls.regrown_of (HX1.out _)) | (with_reducible exact Calls.regrown_of (HX2.out _))))
      refine wpQuiet_nil ?_
      intro w' hw'
      obtain ⟨rg, rfl⟩ := hw'
      clear a0 a1 a2 b0 b1 b2 HX1 HX2
      obtain ⟨W5, hW5⟩ : ∃ W5, W5 = Go.Sort.grow (redrawn w4 rg.d) rg.os := ⟨_, rfl⟩
      rw [← hW5]
      have hb5 := below_regrown w4 rg.d rg.os
      rw [← hW5] at hb5
      replace R0 := R0.on hb5
      replace R1 := R1.on hb5
      replace H := after H hb5
      clear hW5 hb5
      have hneg : -(-m) = m := Int.neg_neg m
      go_upto_region 11 with (fail)
      have HW1 := Lib.hid (fun W => with_c 0 0 0 0 (m) W)
      have HW2 := Lib.hid (fun W => with_c 0 0 0 0 (-m) W)
      go_wp2_with first
        | (go_at_call 62; (with_reducible refine Calls.mono (HW1.out _) ?_); rintro e_ w6 ⟨rfl, h6⟩; replace R0 := R0.on h6; replace R1 := R1.on h6; replace H := after H h6; clear h6 HW1)
        | (go_at_call 62; (with_reducible refine Calls.mono (HW2.out _) ?_); rintro e_ w7 ⟨rfl, h7⟩; replace R0 := R0.on h7; replace R1 := R1.on h7; replace H := after H h7; clear h7; obtain ⟨r0, r1, r2, f0, f1, f2⟩ := R0.c3; obtain ⟨t0, t1, t2, g0, g1, g2⟩ := R1.c3)
      generalize hV : World.setCell (World.setCell (World.setCell (World.setCell (World.setCell (World.setCell w7 _ _) _ _) _ _) _ _) _ _) _ _ = WF
      have S0 : Blk WF (N + 1 + 1) 26 #[.int .i64 (wiI 0 0 0 (m)), .int .i64 (wiI 0 0 1 (m)), .int .i64 (wiI 0 0 2 (m))] := Blk.eqw hV ((((R0.st3 _ _ _).far (p := ⟨N + 1 + 1 + 1, 0, none⟩) n4 _).far (p := ⟨N + 1 + 1 + 1, 1, none⟩) n4 _).far (p := ⟨N + 1 + 1 + 1, 2, none⟩) n4 _)
      have S1 : Blk WF (N + 1 + 1 + 1) 26 #[.int .i64 (wiI 0 0 0 (-m)), .int .i64 (wiI 0 0 1 (-m)), .int .i64 (wiI 0 0 2 (-m))] := Blk.eqw hV ((((R1.far (p := ⟨N + 1 + 1, 0, none⟩) (Ne.symm n4) _).far (p := ⟨N + 1 + 1, 1, none⟩) (Ne.symm n4) _).far (p := ⟨N + 1 + 1, 2, none⟩) (Ne.symm n4) _).st3 _ _ _)
      have HF : Below w.heap.size w WF := by rw [← hV]; exact ((((((H.setCell (p := ⟨N + 1 + 1, 0, none⟩) hNw _).setCell (p := ⟨N + 1 + 1, 1, none⟩) hNw _).setCell (p := ⟨N + 1 + 1, 2, none⟩) hNw _).setCell (p := ⟨N + 1 + 1 + 1, 0, none⟩) hNw2 _).setCell (p := ⟨N + 1 + 1 + 1, 1, none⟩) hNw2 _).setCell (p := ⟨N + 1 + 1 + 1, 2, none⟩) hNw2 _)
      obtain ⟨m0, m1, m2, -, -, -⟩ := S0.c3
      obtain ⟨j0, j1, j2, -, -, -⟩ := S1.c3
      exact bodyPost_ret (v := .tuple #[.agg #[.int .i64 (wiI 0 0 0 (m)), .int .i64 (wiI 0 0 1 (m)), .int .i64 (wiI 0 0 2 (m))], .agg #[.int .i64 (wiI 0 0 0 (-m)), .int .i64 (wiI 0 0 1 (-m)), .int .i64 (wiI 0 0 2 (-m))]]) (by simp [results, Try.f27, go_sem, m0, m1, m2, j0, j1, j2]) rfl ⟨by rw [HMM.out]; rfl, HF⟩
end Go.Proofs.Ytnokibdecnddlaa

/- The walks of the reference of the layer 2: what is told of boxes. -/
namespace Go.Proofs.Ytnokibdecnddlaa
open Go.RowKit

set_option maxHeartbeats 2000000 in
theorem rover_c (a b c d e f a' b' c' d' e' f' : Int) (w : World) : Calls Try.prog 31 #[.agg #[.int .i64 a, .int .i64 b, .int .i64 c, .int .i64 d, .int .i64 e, .int .i64 f], .agg #[.int .i64 a', .int .i64 b', .int .i64 c', .int .i64 d', .int .i64 e', .int .i64 f']] w fun r w' => r = .returned (.bool (overI a b c d e f a' b' c' d' e' f')) ∧ Below w.heap.size w w' := by
  go_enter Try.func31, Try.ntmps31
  go_wp2_with fail
  all_goals
    go_returns
    exact ⟨ret_b (by unfold overI ovI; rw [Bool.eq_iff_iff]; simp <;> omega), by go_grown⟩
end Go.Proofs.Ytnokibdecnddlaa

/- Bodies that push one another: the document's. -/
namespace Go.Proofs.Ytnokibdecnddlaa
open Go.RowKit
attribute [local go_sem] Oper.semAt_some

set_option maxRecDepth 100000 in
set_option maxHeartbeats 8000000 in
theorem rover20_c (x y : B6) (i : Int) (hi : -9223372036854775808 ≤ ovB x y i ∧ ovB x y i ≤ 9223372036854775807) (w : World) :
    Calls Try.prog 63 #[.agg (ag6 x), .agg (ag6 y), .int .i64 i] w fun r w' => r = .returned (.int .i64 (ovB x y i)) ∧ Below w.heap.size w w' := by
  obtain ⟨a, b, c, d, e, f⟩ := x
  obtain ⟨a', b', c', d', e', f'⟩ := y
  unfold ovB at *
  simp only [ag6] at *
  have hmn := @run_mn Try.prog
  have hmx := @run_mx Try.prog
  have h0 : IntKind.i64.wrap (mnI (axI d e f i) (axI d' e' f' i) - mxI (axI a b c i) (axI a' b' c' i)) = mnI (axI d e f i) (axI d' e' f' i) - mxI (axI a b c i) (axI a' b' c' i) := IntWalk.i64_in _ hi
  have H1 := Lib.hid (fun W => raxis_c d e f i W)
  have H2 := Lib.hid (fun W => raxis_c d' e' f' i W)
  have H3 := Lib.hid (fun W => raxis_c a b c i W)
  have H4 := Lib.hid (fun W => raxis_c a' b' c' i W)
  generalize axI d e f i = p1 at *
  generalize axI d' e' f' i = p2 at *
  generalize axI a b c i = p3 at *
  generalize axI a' b' c' i = p4 at *
  obtain ⟨h1, h2⟩ := hi
  obtain ⟨W, hW⟩ : ∃ W, W = (w.alloc (.cells #[.int .i64 a, .int .i64 b, .int .i64 c, .int .i64 d, .int .i64 e, .int .i64 f] 48)).alloc (.cells #[.int .i64 a', .int .i64 b', .int .i64 c', .int .i64 d', .int .i64 e', .int .i64 f'] 48) := ⟨_, rfl⟩
  have H : Below w.heap.size w W := by rw [hW]; go_grown
  have U : Blk W w.heap.size 48 _ := Blk.eqw hW.symm ((Blk.new' rfl).alloc _)
  have V : Blk W (w.heap.size + 1) 48 _ := Blk.eqw hW.symm (Blk.new' (by simp))
  obtain ⟨k0, k1, k2, k3, k4, k5⟩ := U.re6
  obtain ⟨l0, l1, l2, l3, l4, l5⟩ := V.re6
  go_enter Try.func63, Try.ntmps63
  go_upto_region 1 with (fail)
  rw [← hW]
  clear hW U V
  refine wp_region_quiet_below (by kernel_rfl) (by kernel_rfl) ?_
  repeat (go_big_quiet_step (first | (with_reducible exact Calls.regrown_of (H1.out _)) | (with_reducible exact Calls.regrown_of (H2.out _)) | (with_reducible exact Calls.regrown_of (H3.out _)) | (with_reducible exact Calls.regrown_of (H4.out _))))
  refine wpQuiet_nil ?_
  intro w' hw'
  obtain ⟨rg, rfl⟩ := hw'
  go_wp2_with fail
  go_returns
  exact ⟨rfl, after H (below_regrown _ _ _)⟩
set_option maxRecDepth 100000 in
set_option maxHeartbeats 8000000 in
theorem rpush_c (a b : BD) (ha : BOk 10000000 a) (hb : BOk 10000000 b) (w : World) :
    Calls Try.prog 28 #[.agg (bd9 a), .agg (bd9 b)] w fun r w' => r = .returned (.tuple #[.agg (vg3 (pushV a b).1), .agg (vg3 (pushV a b).2)]) ∧ Below w.heap.size w w' := by
  have CA := fun W => rbbox_c a (by have := ha.wd; omega) W
  have CB := fun W => rbbox_c b (by have := hb.wd; omega) W
  have o0 := ov_bd ha hb (by decide) (by decide) 0 (by decide)
  have o2 := ov_bd ha hb (by decide) (by decide) 2 (by decide)
  have hw := pushV_ways ha hb (by decide) (by decide)
  have CO := fun W => rover_c (boxB a).1 (boxB a).2.1 (boxB a).2.2.1 (boxB a).2.2.2.1 (boxB a).2.2.2.2.1 (boxB a).2.2.2.2.2 (boxB b).1 (boxB b).2.1 (boxB b).2.2.1 (boxB b).2.2.2.1 (boxB b).2.2.2.2.1 (boxB b).2.2.2.2.2 W
  have fO : meetB (boxB a) (boxB b) = overI (boxB a).1 (boxB a).2.1 (boxB a).2.2.1 (boxB a).2.2.2.1 (boxB a).2.2.2.2.1 (boxB a).2.2.2.2.2 (boxB b).1 (boxB b).2.1 (boxB b).2.2.1 (boxB b).2.2.2.1 (boxB b).2.2.2.2.1 (boxB b).2.2.2.2.2 := by unfold meetB; rfl
  rw [← fO] at CO
  have CP := fun i (hi : -9223372036854775808 ≤ ovB (boxB a) (boxB b) i ∧ ovB (boxB a) (boxB b) i ≤ 9223372036854775807) W => rover20_c (boxB a) (boxB b) i hi W
  have C0 := fun W => CP 0 ⟨by omega, by omega⟩ W
  have C2 := fun W => CP 2 ⟨by omega, by omega⟩ W
  clear CP fO
  replace o0 := And.intro o0.1 o0.2.1
  replace o2 := And.intro o2.1 o2.2.1
  generalize meetB (boxB a) (boxB b) = pm at CO hw
  generalize ovB (boxB a) (boxB b) 0 = v0 at *
  generalize ovB (boxB a) (boxB b) 2 = v2 at *
  generalize pushV a b = pv at hw ⊢
  generalize boxB a = X at *
  generalize boxB b = Y at *
  clear ha hb
  obtain ⟨x, y, z, sx, sy, sz, wd, ht, st⟩ := a
  obtain ⟨x', y', z', sx', sy', sz', wd', ht', st'⟩ := b
  obtain ⟨p1, p2, p3, p4, p5, p6⟩ := X
  obtain ⟨q1, q2, q3, q4, q5, q6⟩ := Y
  simp only [bd9, ag6] at *
  have HA := Lib.hid CA
  have HB := Lib.hid CB
  have HO := Lib.hid CO
  have H0 := Lib.hid C0
  have H2 := Lib.hid C2
  have HW := Lib.hid hw
  have HV := Lib.hid (And.intro o0 o2)
  have hmn := @run_mn Try.prog
  clear CA CB CO C0 C2 hw o0 o2
  obtain ⟨N, hN⟩ : ∃ N, N = w.heap.size := ⟨_, rfl⟩
  obtain ⟨W, hW⟩ : ∃ W, W = (((w.alloc (.cells #[.int .i64 x, .int .i64 y, .int .i64 z, .int .i64 sx, .int .i64 sy, .int .i64 sz, .int .i64 wd, .int .i64 ht, .bool st] 28)).alloc (.cells #[.int .i64 x', .int .i64 y', .int .i64 z', .int .i64 sx', .int .i64 sy', .int .i64 sz', .int .i64 wd', .int .i64 ht', .bool st'] 28)).alloc (.cells #[.int .i64 0, .int .i64 0, .int .i64 0] 26)).alloc (.cells #[.int .i64 0, .int .i64 0, .int .i64 0] 26) := ⟨_, rfl⟩
  have H : Below w.heap.size w W := by rw [hW]; go_grown
  have A : Blk W N 28 _ := Blk.eqw hW.symm (by rw [hN]; exact (((Blk.new' rfl).alloc _).alloc _).alloc _)
  have B : Blk W (N + 1) 28 _ := Blk.eqw hW.symm (by rw [hN]; exact ((Blk.new' (by simp)).alloc _).alloc _)
  have R0 : Blk W (N + 1 + 1) 26 _ := Blk.eqw hW.symm (by rw [hN]; exact (Blk.new' (by simp)).alloc _)
  have R1 : Blk W (N + 1 + 1 + 1) 26 _ := Blk.eqw hW.symm (by rw [hN]; exact Blk.new' (by simp))
  go_enter Try.func28, Try.ntmps28
  go_upto_region 1 with (fail)
  rw [← hW, ← hN]
  have HN := Lib.hid hN
  clear hW hN
  obtain ⟨⟨a0, a1, a2, a3, a4, a5, a6, a7, a8⟩, -⟩ := A.c9
  go_upto_region 2 with (go_at_call 19; refine (HA.out _).mono ?_; rintro e_ w1 ⟨rfl, k1⟩)
  generalize hV : World.alloc w1 _ = W1
  have X : Blk W1 w1.heap.size 48 #[.int .i64 p1, .int .i64 p2, .int .i64 p3, .int .i64 p4, .int .i64 p5, .int .i64 p6] := Blk.eqw hV (Blk.new' rfl)
  have hk : Below W.heap.size W W1 := by rw [← hV]; exact after k1 ((Below.refl _ _).alloc (Nat.le_refl _) _)
  replace A := A.on hk
  replace B := B.on hk
  replace R0 := R0.on hk
  replace R1 := R1.on hk
  replace H := after H hk
  clear hV k1 hk a0 a1 a2 a3 a4 a5 a6 a7 a8 HA
  generalize w1.heap.size = gx at X ⊢
  obtain ⟨⟨a0, a1, a2, a3, a4, a5, a6, a7, a8⟩, -⟩ := B.c9
  go_upto_region 3 with (go_at_call 19; refine (HB.out _).mono ?_; rintro e_ w2 ⟨rfl, k2⟩)
  generalize hV : World.alloc w2 _ = W2
  have Y : Blk W2 w2.heap.size 48 #[.int .i64 q1, .int .i64 q2, .int .i64 q3, .int .i64 q4, .int .i64 q5, .int .i64 q6] := Blk.eqw hV (Blk.new' rfl)
  have hk : Below W1.heap.size W1 W2 := by rw [← hV]; exact after k2 ((Below.refl _ _).alloc (Nat.le_refl _) _)
  replace A := A.on hk
  replace B := B.on hk
  replace R0 := R0.on hk
  replace R1 := R1.on hk
  replace X := X.on hk
  replace H := after H hk
  clear hV k2 hk a0 a1 a2 a3 a4 a5 a6 a7 a8 HB
  generalize w2.heap.size = gy at Y ⊢
  obtain ⟨⟨c0, c1, c2, c3, c4, c5⟩, -⟩ := X.c6
  obtain ⟨⟨d0, d1, d2, d3, d4, d5⟩, -⟩ := Y.c6
  have n4 : N + 1 + 1 ≠ N + 1 + 1 + 1 := by omega
  have hNw : w.heap.size ≤ N + 1 + 1 := by have := HN.out; omega
  have hNw2 : w.heap.size ≤ N + 1 + 1 + 1 := by omega
  go_upto_region 4 with (go_at_call 31; refine (HO.out _).mono ?_; rintro e_ w3 ⟨rfl, h3⟩; clear c0 c1 c2 c3 c4 c5 d0 d1 d2 d3 d4 d5; replace A := A.on h3; replace B := B.on h3; replace R0 := R0.on h3; replace R1 := R1.on h3; replace X := X.on h3; replace Y := Y.on h3; replace H := after H h3; clear h3)
  rcases HW.out with ⟨rfl, rfl⟩ | ⟨rfl, hov, hway⟩
  · clear HW
    obtain ⟨r0, r1, r2, f0, f1, f2⟩ := R0.c3
    obtain ⟨t0, t1, t2, g0, g1, g2⟩ := R1.c3
    go_wp2_with fail
    generalize hV : World.setCell (World.setCell (World.setCell (World.setCell (World.setCell (World.setCell w3 _ _) _ _) _ _) _ _) _ _) _ _ = WF
    have S0 : Blk WF (N + 1 + 1) 26 #[.int .i64 (0), .int .i64 (0), .int .i64 (0)] := Blk.eqw hV ((((R0.st3 _ _ _).far (p := ⟨N + 1 + 1 + 1, 0, none⟩) n4 _).far (p := ⟨N + 1 + 1 + 1, 1, none⟩) n4 _).far (p := ⟨N + 1 + 1 + 1, 2, none⟩) n4 _)
    have S1 : Blk WF (N + 1 + 1 + 1) 26 #[.int .i64 (0), .int .i64 (0), .int .i64 (0)] := Blk.eqw hV ((((R1.far (p := ⟨N + 1 + 1, 0, none⟩) (Ne.symm n4) _).far (p := ⟨N + 1 + 1, 1, none⟩) (Ne.symm n4) _).far (p := ⟨N + 1 + 1, 2, none⟩) (Ne.symm n4) _).st3 _ _ _)
    have HF : Below w.heap.size w WF := by rw [← hV]; exact ((((((H.setCell (p := ⟨N + 1 + 1, 0, none⟩) hNw _).setCell (p := ⟨N + 1 + 1, 1, none⟩) hNw _).setCell (p := ⟨N + 1 + 1, 2, none⟩) hNw _).setCell (p := ⟨N + 1 + 1 + 1, 0, none⟩) hNw2 _).setCell (p := ⟨N + 1 + 1 + 1, 1, none⟩) hNw2 _).setCell (p := ⟨N + 1 + 1 + 1, 2, none⟩) hNw2 _)
    obtain ⟨m0, m1, m2, -, -, -⟩ := S0.c3
    obtain ⟨j0, j1, j2, -, -, -⟩ := S1.c3
    exact bodyPost_ret (v := .tuple #[.agg #[.int .i64 (0), .int .i64 (0), .int .i64 (0)], .agg #[.int .i64 (0), .int .i64 (0), .int .i64 (0)]]) (by simp [results, Try.f28, go_sem, m0, m1, m2, j0, j1, j2]) rfl ⟨rfl, HF⟩
  · clear HW
    obtain ⟨hv0, hv2⟩ := hov
    obtain ⟨c0, c1, c2, c3, c4, c5⟩ := X.re6
    obtain ⟨d0, d1, d2, d3, d4, d5⟩ := Y.re6
    go_upto_region 7 with (fail)
    refine wp_region_quiet_below (by kernel_rfl) (by kernel_rfl) ?_
    repeat (go_big_quiet_step (first | (with_reducible exact Calls.regrown_of (H0.out _)) | (with_reducible exact Calls.regrown_of (H2.out _))))
    refine wpQuiet_nil ?_
    intro w' hw'
    obtain ⟨rg, rfl⟩ := hw'
    obtain ⟨W4, hW4⟩ : ∃ W4, W4 = Go.Sort.grow (redrawn w3 rg.d) rg.os := ⟨_, rfl⟩
    rw [← hW4]
    have hb4 := below_regrown w3 rg.d rg.os
    rw [← hW4] at hb4
    replace A := A.on hb4
    replace B := B.on hb4
    replace R0 := R0.on hb4
    replace R1 := R1.on hb4
    replace X := X.on hb4
    replace Y := Y.on hb4
    replace H := after H hb4
    clear hW4 hb4 c0 c1 c2 c3 c4 c5 d0 d1 d2 d3 d4 d5
    obtain ⟨⟨c0, c1, c2, c3, c4, c5⟩, -⟩ := X.c6
    obtain ⟨⟨d0, d1, d2, d3, d4, d5⟩, -⟩ := Y.c6
    rcases hway with ⟨hk, hz, rfl⟩ | ⟨hk, hz, rfl⟩ | ⟨hk, hz, rfl⟩ | ⟨hk, hz, rfl⟩
    · obtain ⟨m, hm⟩ : ∃ m, mnI v2 4096 = m := ⟨_, rfl⟩
      have hmb : 1 ≤ m ∧ m ≤ 4096 := by rw [← hm]; unfold mnI; omega
      have HMM := Lib.hid hm
      have q1 : -9223372036854775808 ≤ -m ∧ -m ≤ 9223372036854775807 := by omega
      have q2 : -9223372036854775808 ≤ -(-m) ∧ -(-m) ≤ 9223372036854775807 := by omega
      obtain ⟨q3, q4⟩ := q1
      obtain ⟨q5, q6⟩ := q2
      have hz2 : ¬ z' < z := by omega
      clear hmb hv0 hv2
      go_upto_region 10 with (go_at_call 63; (first | (with_reducible refine Calls.mono (H0.out _) ?_) | (with_reducible refine Calls.mono (H2.out _) ?_)); rintro e_ w4 ⟨rfl, h4⟩; replace A := A.on h4; replace B := B.on h4; replace R0 := R0.on h4; replace R1 := R1.on h4; replace H := after H h4; clear h4)
      clear hk hm c0 c1 c2 c3 c4 c5 d0 d1 d2 d3 d4 d5
      have a0 := fun d os => (A.re d os).cell 0
      have a1 := fun d os => (A.re d os).cell 1
      have a2 := fun d os => (A.re d os).cell 2
      have b0 := fun d os => (B.re d os).cell 0
      have b1 := fun d os => (B.re d os).cell 1
      have b2 := fun d os => (B.re d os).cell 2
      simp only [List.getElem?_toArray, List.getElem?_cons_zero, List.getElem?_cons_succ] at a0 a1 a2 b0 b1 b2
      have HX1 := Lib.hid (fun W => raxis_v x y z 2 z rfl W)
      have HX2 := Lib.hid (fun W => raxis_v x' y' z' 2 z' rfl W)
      refine wp_region_quiet_below (by kernel_rfl) (by kernel_rfl) ?_
      repeat (go_big_quiet_step (first | (with_reducible exact Calls.regrown_of (HX1.out _)) | (with_reducible exact Calls.regrown_of (HX2.out _))))
      refine wpQuiet_nil ?_
      intro w' hw'
      obtain ⟨rg, rfl⟩ := hw'
      clear a0 a1 a2 b0 b1 b2 HX1 HX2
      obtain ⟨W5, hW5⟩ : ∃ W5, W5 = Go.Sort.grow (redrawn w4 rg.d) rg.os := ⟨_, rfl⟩
      rw [← hW5]
      have hb5 := below_regrown w4 rg.d rg.os
      rw [← hW5] at hb5
      replace R0 := R0.on hb5
      replace R1 := R1.on hb5
      replace H := after H hb5
      clear hW5 hb5
      have hneg : -(-m) = m := Int.neg_neg m
      go_upto_region 12 with (fail)
      have HW1 := Lib.hid (fun W => rwith_c 0 0 0 2 (-m) W)
      have HW2 := Lib.hid (fun W => rwith_c 0 0 0 2 (m) W)
      go_wp2_with first
        | (go_at_call 50; (with_reducible refine Calls.mono (HW1.out _) ?_); rintro e_ w6 ⟨rfl, h6⟩; replace R0 := R0.on h6; replace R1 := R1.on h6; replace H := after H h6; clear h6 HW1)
        | (go_at_call 50; (with_reducible refine Calls.mono (HW2.out _) ?_); rintro e_ w7 ⟨rfl, h7⟩; replace R0 := R0.on h7; replace R1 := R1.on h7; replace H := after H h7; clear h7; obtain ⟨r0, r1, r2, f0, f1, f2⟩ := R0.c3; obtain ⟨t0, t1, t2, g0, g1, g2⟩ := R1.c3)
      generalize hV : World.setCell (World.setCell (World.setCell (World.setCell (World.setCell (World.setCell w7 _ _) _ _) _ _) _ _) _ _) _ _ = WF
      have S0 : Blk WF (N + 1 + 1) 26 #[.int .i64 (wiI 0 2 0 (-m)), .int .i64 (wiI 0 2 1 (-m)), .int .i64 (wiI 0 2 2 (-m))] := Blk.eqw hV ((((R0.st3 _ _ _).far (p := ⟨N + 1 + 1 + 1, 0, none⟩) n4 _).far (p := ⟨N + 1 + 1 + 1, 1, none⟩) n4 _).far (p := ⟨N + 1 + 1 + 1, 2, none⟩) n4 _)
      have S1 : Blk WF (N + 1 + 1 + 1) 26 #[.int .i64 (wiI 0 2 0 (m)), .int .i64 (wiI 0 2 1 (m)), .int .i64 (wiI 0 2 2 (m))] := Blk.eqw hV ((((R1.far (p := ⟨N + 1 + 1, 0, none⟩) (Ne.symm n4) _).far (p := ⟨N + 1 + 1, 1, none⟩) (Ne.symm n4) _).far (p := ⟨N + 1 + 1, 2, none⟩) (Ne.symm n4) _).st3 _ _ _)
      have HF : Below w.heap.size w WF := by rw [← hV]; exact ((((((H.setCell (p := ⟨N + 1 + 1, 0, none⟩) hNw _).setCell (p := ⟨N + 1 + 1, 1, none⟩) hNw _).setCell (p := ⟨N + 1 + 1, 2, none⟩) hNw _).setCell (p := ⟨N + 1 + 1 + 1, 0, none⟩) hNw2 _).setCell (p := ⟨N + 1 + 1 + 1, 1, none⟩) hNw2 _).setCell (p := ⟨N + 1 + 1 + 1, 2, none⟩) hNw2 _)
      obtain ⟨m0, m1, m2, -, -, -⟩ := S0.c3
      obtain ⟨j0, j1, j2, -, -, -⟩ := S1.c3
      exact bodyPost_ret (v := .tuple #[.agg #[.int .i64 (wiI 0 2 0 (-m)), .int .i64 (wiI 0 2 1 (-m)), .int .i64 (wiI 0 2 2 (-m))], .agg #[.int .i64 (wiI 0 2 0 (m)), .int .i64 (wiI 0 2 1 (m)), .int .i64 (wiI 0 2 2 (m))]]) (by simp [results, Try.f28, go_sem, m0, m1, m2, j0, j1, j2]) rfl ⟨by rw [HMM.out]; rfl, HF⟩
    · obtain ⟨m, hm⟩ : ∃ m, mnI v2 4096 = m := ⟨_, rfl⟩
      have hmb : 1 ≤ m ∧ m ≤ 4096 := by rw [← hm]; unfold mnI; omega
      have HMM := Lib.hid hm
      have q1 : -9223372036854775808 ≤ -m ∧ -m ≤ 9223372036854775807 := by omega
      have q2 : -9223372036854775808 ≤ -(-m) ∧ -(-m) ≤ 9223372036854775807 := by omega
      obtain ⟨q3, q4⟩ := q1
      obtain ⟨q5, q6⟩ := q2
      have hz2 : z' < z := by omega
      clear hmb hv0 hv2
      go_upto_region 10 with (go_at_call 63; (first | (with_reducible refine Calls.mono (H0.out _) ?_) | (with_reducible refine Calls.mono (H2.out _) ?_)); rintro e_ w4 ⟨rfl, h4⟩; replace A := A.on h4; replace B := B.on h4; replace R0 := R0.on h4; replace R1 := R1.on h4; replace H := after H h4; clear h4)
      clear hk hm c0 c1 c2 c3 c4 c5 d0 d1 d2 d3 d4 d5
      have a0 := fun d os => (A.re d os).cell 0
      have a1 := fun d os => (A.re d os).cell 1
      have a2 := fun d os => (A.re d os).cell 2
      have b0 := fun d os => (B.re d os).cell 0
      have b1 := fun d os => (B.re d os).cell 1
      have b2 := fun d os => (B.re d os).cell 2
      simp only [List.getElem?_toArray, List.getElem?_cons_zero, List.getElem?_cons_succ] at a0 a1 a2 b0 b1 b2
      have HX1 := Lib.hid (fun W => raxis_v x y z 2 z rfl W)
      have HX2 := Lib.hid (fun W => raxis_v x' y' z' 2 z' rfl W)
      refine wp_region_quiet_below (by kernel_rfl) (by kernel_rfl) ?_
      repeat (go_big_quiet_step (first | (with_reducible exact Calls.regrown_of (HX1.out _)) | (with_reducible exact Calls.regrown_of (HX2.out _))))
      refine wpQuiet_nil ?_
      intro w' hw'
      obtain ⟨rg, rfl⟩ := hw'
      clear a0 a1 a2 b0 b1 b2 HX1 HX2
      obtain ⟨W5, hW5⟩ : ∃ W5, W5 = Go.Sort.grow (redrawn w4 rg.d) rg.os := ⟨_, rfl⟩
      rw [← hW5]
      have hb5 := below_regrown w4 rg.d rg.os
      rw [← hW5] at hb5
      replace R0 := R0.on hb5
      replace R1 := R1.on hb5
      replace H := after H hb5
      clear hW5 hb5
      have hneg : -(-m) = m := Int.neg_neg m
      go_upto_region 12 with (fail)
      have HW1 := Lib.hid (fun W => rwith_c 0 0 0 2 (m) W)
      have HW2 := Lib.hid (fun W => rwith_c 0 0 0 2 (-m) W)
      go_wp2_with first
        | (go_at_call 50; (with_reducible refine Calls.mono (HW1.out _) ?_); rintro e_ w6 ⟨rfl, h6⟩; replace R0 := R0.on h6; replace R1 := R1.on h6; replace H := after H h6; clear h6 HW1)
        | (go_at_call 50; (with_reducible refine Calls.mono (HW2.out _) ?_); rintro e_ w7 ⟨rfl, h7⟩; replace R0 := R0.on h7; replace R1 := R1.on h7; replace H := after H h7; clear h7; obtain ⟨r0, r1, r2, f0, f1, f2⟩ := R0.c3; obtain ⟨t0, t1, t2, g0, g1, g2⟩ := R1.c3)
      generalize hV : World.setCell (World.setCell (World.setCell (World.setCell (World.setCell (World.setCell w7 _ _) _ _) _ _) _ _) _ _) _ _ = WF
      have S0 : Blk WF (N + 1 + 1) 26 #[.int .i64 (wiI 0 2 0 (m)), .int .i64 (wiI 0 2 1 (m)), .int .i64 (wiI 0 2 2 (m))] := Blk.eqw hV ((((R0.st3 _ _ _).far (p := ⟨N + 1 + 1 + 1, 0, none⟩) n4 _).far (p := ⟨N + 1 + 1 + 1, 1, none⟩) n4 _).far (p := ⟨N + 1 + 1 + 1, 2, none⟩) n4 _)
      have S1 : Blk WF (N + 1 + 1 + 1) 26 #[.int .i64 (wiI 0 2 0 (-m)), .int .i64 (wiI 0 2 1 (-m)), .int .i64 (wiI 0 2 2 (-m))] := Blk.eqw hV ((((R1.far (p := ⟨N + 1 + 1, 0, none⟩) (Ne.symm n4) _).far (p := ⟨N + 1 + 1, 1, none⟩) (Ne.symm n4) _).far (p := ⟨N + 1 + 1, 2, none⟩) (Ne.symm n4) _).st3 _ _ _)
      have HF : Below w.heap.size w WF := by rw [← hV]; exact ((((((H.setCell (p := ⟨N + 1 + 1, 0, none⟩) hNw _).setCell (p := ⟨N + 1 + 1, 1, none⟩) hNw _).setCell (p := ⟨N + 1 + 1, 2, none⟩) hNw _).setCell (p := ⟨N + 1 + 1 + 1, 0, none⟩) hNw2 _).setCell (p := ⟨N + 1 + 1 + 1, 1, none⟩) hNw2 _).setCell (p := ⟨N + 1 + 1 + 1, 2, none⟩) hNw2 _)
      obtain ⟨m0, m1, m2, -, -, -⟩ := S0.c3
      obtain ⟨j0, j1, j2, -, -, -⟩ := S1.c3
      exact bodyPost_ret (v := .tuple #[.agg #[.int .i64 (wiI 0 2 0 (m)), .int .i64 (wiI 0 2 1 (m)), .int .i64 (wiI 0 2 2 (m))], .agg #[.int .i64 (wiI 0 2 0 (-m)), .int .i64 (wiI 0 2 1 (-m)), .int .i64 (wiI 0 2 2 (-m))]]) (by simp [results, Try.f28, go_sem, m0, m1, m2, j0, j1, j2]) rfl ⟨by rw [HMM.out]; rfl, HF⟩
    · obtain ⟨m, hm⟩ : ∃ m, mnI v0 4096 = m := ⟨_, rfl⟩
      have hmb : 1 ≤ m ∧ m ≤ 4096 := by rw [← hm]; unfold mnI; omega
      have HMM := Lib.hid hm
      have q1 : -9223372036854775808 ≤ -m ∧ -m ≤ 9223372036854775807 := by omega
      have q2 : -9223372036854775808 ≤ -(-m) ∧ -(-m) ≤ 9223372036854775807 := by omega
      obtain ⟨q3, q4⟩ := q1
      obtain ⟨q5, q6⟩ := q2
      have hz2 : ¬ x' < x := by omega
      clear hmb hv0 hv2
      go_upto_region 10 with (go_at_call 63; (first | (with_reducible refine Calls.mono (H0.out _) ?_) | (with_reducible refine Calls.mono (H2.out _) ?_)); rintro e_ w4 ⟨rfl, h4⟩; replace A := A.on h4; replace B := B.on h4; replace R0 := R0.on h4; replace R1 := R1.on h4; replace H := after H h4; clear h4)
      clear hk hm c0 c1 c2 c3 c4 c5 d0 d1 d2 d3 d4 d5
      have a0 := fun d os => (A.re d os).cell 0
      have a1 := fun d os => (A.re d os).cell 1
      have a2 := fun d os => (A.re d os).cell 2
      have b0 := fun d os => (B.re d os).cell 0
      have b1 := fun d os => (B.re d os).cell 1
      have b2 := fun d os => (B.re d os).cell 2
      simp only [List.getElem?_toArray, List.getElem?_cons_zero, List.getElem?_cons_succ] at a0 a1 a2 b0 b1 b2
      have HX1 := Lib.hid (fun W => raxis_v x y z 0 x rfl W)
      have HX2 := Lib.hid (fun W => raxis_v x' y' z' 0 x' rfl W)
      refine wp_region_quiet_below (by kernel_rfl) (by kernel_rfl) ?_
      repeat (go_big_quiet_step (first | (with_reducible exact Calls.regrown_of (HX1.out _)) | (with_reducible exact Calls.regrown_of (HX2.out _))))
      refine wpQuiet_nil ?_
      intro w' hw'
      obtain ⟨rg, rfl⟩ := hw'
      clear a0 a1 a2 b0 b1 b2 HX1 HX2
      obtain ⟨W5, hW5⟩ : ∃ W5, W5 = Go.Sort.grow (redrawn w4 rg.d) rg.os := ⟨_, rfl⟩
      rw [← hW5]
      have hb5 := below_regrown w4 rg.d rg.os
      rw [← hW5] at hb5
      replace R0 := R0.on hb5
      replace R1 := R1.on hb5
      replace H := after H hb5
      clear hW5 hb5
      have hneg : -(-m) = m := Int.neg_neg m
      go_upto_region 12 with (fail)
      have HW1 := Lib.hid (fun W => rwith_c 0 0 0 0 (-m) W)
      have HW2 := Lib.hid (fun W => rwith_c 0 0 0 0 (m) W)
      go_wp2_with first
        | (go_at_call 50; (with_reducible refine Calls.mono (HW1.out _) ?_); rintro e_ w6 ⟨rfl, h6⟩; replace R0 := R0.on h6; replace R1 := R1.on h6; replace H := after H h6; clear h6 HW1)
        | (go_at_call 50; (with_reducible refine Calls.mono (HW2.out _) ?_); rintro e_ w7 ⟨rfl, h7⟩; replace R0 := R0.on h7; replace R1 := R1.on h7; replace H := after H h7; clear h7; obtain ⟨r0, r1, r2, f0, f1, f2⟩ := R0.c3; obtain ⟨t0, t1, t2, g0, g1, g2⟩ := R1.c3)
      generalize hV : World.setCell (World.setCell (World.setCell (World.setCell (World.setCell (World.setCell w7 _ _) _ _) _ _) _ _) _ _) _ _ = WF
      have S0 : Blk WF (N + 1 + 1) 26 #[.int .i64 (wiI 0 0 0 (-m)), .int .i64 (wiI 0 0 1 (-m)), .int .i64 (wiI 0 0 2 (-m))] := Blk.eqw hV ((((R0.st3 _ _ _).far (p := ⟨N + 1 + 1 + 1, 0, none⟩) n4 _).far (p := ⟨N + 1 + 1 + 1, 1, none⟩) n4 _).far (p := ⟨N + 1 + 1 + 1, 2, none⟩) n4 _)
      have S1 : Blk WF (N + 1 + 1 + 1) 26 #[.int .i64 (wiI 0 0 0 (m)), .int .i64 (wiI 0 0 1 (m)), .int .i64 (wiI 0 0 2 (m))] := Blk.eqw hV ((((R1.far (p := ⟨N + 1 + 1, 0, none⟩) (Ne.symm n4) _).far (p := ⟨N + 1 + 1, 1, none⟩) (Ne.symm n4) _).far (p := ⟨N + 1 + 1, 2, none⟩) (Ne.symm n4) _).st3 _ _ _)
      have HF : Below w.heap.size w WF := by rw [← hV]; exact ((((((H.setCell (p := ⟨N + 1 + 1, 0, none⟩) hNw _).setCell (p := ⟨N + 1 + 1, 1, none⟩) hNw _).setCell (p := ⟨N + 1 + 1, 2, none⟩) hNw _).setCell (p := ⟨N + 1 + 1 + 1, 0, none⟩) hNw2 _).setCell (p := ⟨N + 1 + 1 + 1, 1, none⟩) hNw2 _).setCell (p := ⟨N + 1 + 1 + 1, 2, none⟩) hNw2 _)
      obtain ⟨m0, m1, m2, -, -, -⟩ := S0.c3
      obtain ⟨j0, j1, j2, -, -, -⟩ := S1.c3
      exact bodyPost_ret (v := .tuple #[.agg #[.int .i64 (wiI 0 0 0 (-m)), .int .i64 (wiI 0 0 1 (-m)), .int .i64 (wiI 0 0 2 (-m))], .agg #[.int .i64 (wiI 0 0 0 (m)), .int .i64 (wiI 0 0 1 (m)), .int .i64 (wiI 0 0 2 (m))]]) (by simp [results, Try.f28, go_sem, m0, m1, m2, j0, j1, j2]) rfl ⟨by rw [HMM.out]; rfl, HF⟩
    · obtain ⟨m, hm⟩ : ∃ m, mnI v0 4096 = m := ⟨_, rfl⟩
      have hmb : 1 ≤ m ∧ m ≤ 4096 := by rw [← hm]; unfold mnI; omega
      have HMM := Lib.hid hm
      have q1 : -9223372036854775808 ≤ -m ∧ -m ≤ 9223372036854775807 := by omega
      have q2 : -9223372036854775808 ≤ -(-m) ∧ -(-m) ≤ 9223372036854775807 := by omega
      obtain ⟨q3, q4⟩ := q1
      obtain ⟨q5, q6⟩ := q2
      have hz2 : x' < x := by omega
      clear hmb hv0 hv2
      go_upto_region 10 with (go_at_call 63; (first | (with_reducible refine Calls.mono (H0.out _) ?_) | (with_reducible refine Calls.mono (H2.out _) ?_)); rintro e_ w4 ⟨rfl, h4⟩; replace A := A.on h4; replace B := B.on h4; replace R0 := R0.on h4; replace R1 := R1.on h4; replace H := after H h4; clear h4)
      clear hk hm c0 c1 c2 c3 c4 c5 d0 d1 d2 d3 d4 d5
      have a0 := fun d os => (A.re d os).cell 0
      have a1 := fun d os => (A.re d os).cell 1
      have a2 := fun d os => (A.re d os).cell 2
      have b0 := fun d os => (B.re d os).cell 0
      have b1 := fun d os => (B.re d os).cell 1
      have b2 := fun d os => (B.re d os).cell 2
      simp only [List.getElem?_toArray, List.getElem?_cons_zero, List.getElem?_cons_succ] at a0 a1 a2 b0 b1 b2
      have HX1 := Lib.hid (fun W => raxis_v x y z 0 x rfl W)
      have HX2 := Lib.hid (fun W => raxis_v x' y' z' 0 x' rfl W)
      refine wp_region_quiet_below (by kernel_rfl) (by kernel_rfl) ?_
      repeat (go_big_quiet_step (first | (with_reducible exact Calls.regrown_of (HX1.out _)) | (with_reducible exact Calls.regrown_of (HX2.out _))))
      refine wpQuiet_nil ?_
      intro w' hw'
      obtain ⟨rg, rfl⟩ := hw'
      clear a0 a1 a2 b0 b1 b2 HX1 HX2
      obtain ⟨W5, hW5⟩ : ∃ W5, W5 = Go.Sort.grow (redrawn w4 rg.d) rg.os := ⟨_, rfl⟩
      rw [← hW5]
      have hb5 := below_regrown w4 rg.d rg.os
      rw [← hW5] at hb5
      replace R0 := R0.on hb5
      replace R1 := R1.on hb5
      replace H := after H hb5
      clear hW5 hb5
      have hneg : -(-m) = m := Int.neg_neg m
      go_upto_region 12 with (fail)
      have HW1 := Lib.hid (fun W => rwith_c 0 0 0 0 (m) W)
      have HW2 := Lib.hid (fun W => rwith_c 0 0 0 0 (-m) W)
      go_wp2_with first
        | (go_at_call 50; (with_reducible refine Calls.mono (HW1.out _) ?_); rintro e_ w6 ⟨rfl, h6⟩; replace R0 := R0.on h6; replace R1 := R1.on h6; replace H := after H h6; clear h6 HW1)
        | (go_at_call 50; (with_reducible refine Calls.mono (HW2.out _) ?_); rintro e_ w7 ⟨rfl, h7⟩; replace R0 := R0.on h7; replace R1 := R1.on h7; replace H := after H h7; clear h7; obtain ⟨r0, r1, r2, f0, f1, f2⟩ := R0.c3; obtain ⟨t0, t1, t2, g0, g1, g2⟩ := R1.c3)
      generalize hV : World.setCell (World.setCell (World.setCell (World.setCell (World.setCell (World.setCell w7 _ _) _ _) _ _) _ _) _ _) _ _ = WF
      have S0 : Blk WF (N + 1 + 1) 26 #[.int .i64 (wiI 0 0 0 (m)), .int .i64 (wiI 0 0 1 (m)), .int .i64 (wiI 0 0 2 (m))] := Blk.eqw hV ((((R0.st3 _ _ _).far (p := ⟨N + 1 + 1 + 1, 0, none⟩) n4 _).far (p := ⟨N + 1 + 1 + 1, 1, none⟩) n4 _).far (p := ⟨N + 1 + 1 + 1, 2, none⟩) n4 _)
      have S1 : Blk WF (N + 1 + 1 + 1) 26 #[.int .i64 (wiI 0 0 0 (-m)), .int .i64 (wiI 0 0 1 (-m)), .int .i64 (wiI 0 0 2 (-m))] := Blk.eqw hV ((((R1.far (p := ⟨N + 1 + 1, 0, none⟩) (Ne.symm n4) _).far (p := ⟨N + 1 + 1, 1, none⟩) (Ne.symm n4) _).far (p := ⟨N + 1 + 1, 2, none⟩) (Ne.symm n4) _).st3 _ _ _)
      have HF : Below w.heap.size w WF := by rw [← hV]; exact ((((((H.setCell (p := ⟨N + 1 + 1, 0, none⟩) hNw _).setCell (p := ⟨N + 1 + 1, 1, none⟩) hNw _).setCell (p := ⟨N + 1 + 1, 2, none⟩) hNw _).setCell (p := ⟨N + 1 + 1 + 1, 0, none⟩) hNw2 _).setCell (p := ⟨N + 1 + 1 + 1, 1, none⟩) hNw2 _).setCell (p := ⟨N + 1 + 1 + 1, 2, none⟩) hNw2 _)
      obtain ⟨m0, m1, m2, -, -, -⟩ := S0.c3
      obtain ⟨j0, j1, j2, -, -, -⟩ := S1.c3
      exact bodyPost_ret (v := .tuple #[.agg #[.int .i64 (wiI 0 0 0 (m)), .int .i64 (wiI 0 0 1 (m)), .int .i64 (wiI 0 0 2 (m))], .agg #[.int .i64 (wiI 0 0 0 (-m)), .int .i64 (wiI 0 0 1 (-m)), .int .i64 (wiI 0 0 2 (-m))]]) (by simp [results, Try.f28, go_sem, m0, m1, m2, j0, j1, j2]) rfl ⟨by rw [HMM.out]; rfl, HF⟩
end Go.Proofs.Ytnokibdecnddlaa
