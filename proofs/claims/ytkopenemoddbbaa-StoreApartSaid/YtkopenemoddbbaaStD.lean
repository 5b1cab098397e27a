/- A number's bytes, and the number of bytes: the walks. -/
import Derived.Test.YtkopenemoddbbaaStP
namespace Go.Proofs.Ytkopenemoddbbaa
open Go.RowKit
attribute [local go_sem] Oper.semAt_some

/-- One more byte behind an owned row. -/
theorem push_b {w : World} {base n : Nat} {F : Nat → B8} {v : Value} (hown : w.ownsRow base 5 1 v n (bl F n)) (y : Int) (hx : n8 (F n) = y) (hn : n ≤ 1000000) (hbase : base ≤ w.heap.size) :
    ∃ q c w', (Builtin.append_ #[22, 22] 22 #[v, .slice (some ⟨w.heap.size, 0, none⟩) 1 1]).run Try.prog (w.alloc (.cells #[.int .u8 y] 5)) = .ok (.slice q (n + 1) c) w' ∧ w'.ownsRow base 5 1 (.slice q (n + 1) c) (n + 1) (bl F (n + 1)) ∧ Below base w w' := by
  subst hx
  have hb : Below w.heap.size w (w.alloc (.cells #[.int .u8 (n8 (F n))] 5)) := bel_alloc _ _
  have hB : Byq (w.alloc (.cells #[.int .u8 (n8 (F n))] 5)) (some ⟨w.heap.size, 0, none⟩) 1 (fun _ => F n) := Byq.of fun i hi => by
    obtain rfl : i = 0 := by omega
    exact (Blk.new' rfl : Blk _ w.heap.size 5 #[.int .u8 (n8 (F n))]).cell 0
  obtain ⟨v', w', h1, h2, h3⟩ := run_app (P := Try.prog) (base := base) (ty := 22) Try.underlying22 inf8 (own_on hown hb) (Nat.le_refl 1) hB (by omega) (Nat.le_trans hbase hb.size)
  rw [bl_cong (F := cat F n fun _ => F n) (G := F)] at h2
  · obtain ⟨q, c, rfl, -, -, -⟩ := own_byq h2
    exact ⟨q, c, w', h1, h2, (hb.mono hbase).trans h3⟩
  · intro i hi
    unfold cat
    by_cases h : i < n
    · rw [if_pos h]
    · obtain rfl : i = n := by omega
      rw [if_neg h]
theorem dig_at (n : Int) (m j : Nat) (k : Nat) (F : Nat → B8) : cat F k (digF n m) (k + j) = digF n m j := by
  unfold cat
  rw [if_neg (by omega), Nat.add_sub_cancel_left]
theorem n8_dig {n : Int} {m j : Nat} {e : Int} (h : (256 : Int) ^ (m - 1 - j) = e) : n8 (digF n m j) = n / e % 256 := by
  unfold digF
  rw [n8_ofInt, h]
set_option maxRecDepth 100000 in
set_option maxHeartbeats 4000000 in
theorem sput4_c (base : Nat) (v : Value) (k : Nat) (F : Nat → B8) (n : Int) (_ : 0 ≤ n) (_ : n ≤ 1099511627776) (hk : k ≤ 1000) (w : World) (hown : w.ownsRow base 5 1 v k (bl (cat F k (digF n 4)) k)) (hb : base ≤ w.heap.size) :
    Calls Try.prog 25 #[v, .int .i64 n, .int .i64 4] w fun r w' => ∃ v', r = .returned v' ∧ w'.ownsRow base 5 1 v' (k + 4) (bl (cat F k (digF n 4)) (k + 4)) ∧ Below base w w' := by
  obtain ⟨q0, c0, rfl, -, -, -⟩ := own_byq hown
  obtain ⟨q1, c1, w1, hr1, ho1, hb1⟩ := push_b hown (n / 16777216 % 256) (by rw [show n8 (cat F k (digF n 4) (k)) = n8 (digF n 4 0) from congrArg n8 (dig_at n 4 0 k F), n8_dig (e := 16777216) (by decide)]) (by omega) hb
  have g1 : Below base w w1 := hb1
  have k1 := Nat.le_trans hb g1.size
  obtain ⟨q2, c2, w2, hr2, ho2, hb2⟩ := push_b ho1 (n / 65536 % 256) (by rw [show n8 (cat F k (digF n 4) (k + 1)) = n8 (digF n 4 1) from congrArg n8 (dig_at n 4 1 k F), n8_dig (e := 65536) (by decide)]) (by omega) k1
  have g2 : Below base w w2 := g1.trans hb2
  have k2 := Nat.le_trans hb g2.size
  obtain ⟨q3, c3, w3, hr3, ho3, hb3⟩ := push_b ho2 (n / 256 % 256) (by rw [show n8 (cat F k (digF n 4) (k + 1 + 1)) = n8 (digF n 4 2) from congrArg n8 (dig_at n 4 2 k F), n8_dig (e := 256) (by decide)]) (by omega) k2
  have g3 : Below base w w3 := g2.trans hb3
  have k3 := Nat.le_trans hb g3.size
  obtain ⟨q4, c4, w4, hr4, ho4, hb4⟩ := push_b ho3 (n % 256) (by rw [show n8 (cat F k (digF n 4) (k + 1 + 1 + 1)) = n8 (digF n 4 3) from congrArg n8 (dig_at n 4 3 k F), n8_dig (e := 1) (by decide), Int.ediv_one]) (by omega) k3
  have g4 : Below base w w4 := g3.trans hb4
  have k4 := Nat.le_trans hb g4.size
  have HO := Lib.hid (And.intro ho4 g4)
  clear hown hb ho1 g1 ho2 g2 ho3 g3 ho4 g4 hb1 k1 hb2 k2 hb3 k3 hb4 k4
  go_enter Try.func25, Try.ntmps25
  go_upto_region 2 with (fail)
  refine wp_loop_rounds 5 ?_
  rw [rounds_succ]
  go_wp2_with (at_builtin; refine Lib.wpList_append_run _ rfl _ _ _ _ rfl _ _ rfl rfl _ _ hr1 ?_)
  rw [rounds_succ]
  go_wp2_with (at_builtin; refine Lib.wpList_append_run _ rfl _ _ _ _ rfl _ _ rfl rfl _ _ hr2 ?_)
  rw [rounds_succ]
  go_wp2_with (at_builtin; refine Lib.wpList_append_run _ rfl _ _ _ _ rfl _ _ rfl rfl _ _ hr3 ?_)
  rw [rounds_succ]
  go_wp2_with (at_builtin; refine Lib.wpList_append_run _ rfl _ _ _ _ rfl _ _ rfl rfl _ _ hr4 ?_)
  rw [rounds_succ]
  go_wp2_with fail
  go_returns
  exact ⟨_, rfl, HO.out⟩
set_option maxRecDepth 100000 in
set_option maxHeartbeats 4000000 in
theorem sput3_c (base : Nat) (v : Value) (k : Nat) (F : Nat → B8) (n : Int) (_ : 0 ≤ n) (_ : n ≤ 1099511627776) (hk : k ≤ 1000) (w : World) (hown : w.ownsRow base 5 1 v k (bl (cat F k (digF n 3)) k)) (hb : base ≤ w.heap.size) :
    Calls Try.prog 25 #[v, .int .i64 n, .int .i64 3] w fun r w' => ∃ v', r = .returned v' ∧ w'.ownsRow base 5 1 v' (k + 3) (bl (cat F k (digF n 3)) (k + 3)) ∧ Below base w w' := by
  obtain ⟨q0, c0, rfl, -, -, -⟩ := own_byq hown
  obtain ⟨q1, c1, w1, hr1, ho1, hb1⟩ := push_b hown (n / 65536 % 256) (by rw [show n8 (cat F k (digF n 3) (k)) = n8 (digF n 3 0) from congrArg n8 (dig_at n 3 0 k F), n8_dig (e := 65536) (by decide)]) (by omega) hb
  have g1 : Below base w w1 := hb1
  have k1 := Nat.le_trans hb g1.size
  obtain ⟨q2, c2, w2, hr2, ho2, hb2⟩ := push_b ho1 (n / 256 % 256) (by rw [show n8 (cat F k (digF n 3) (k + 1)) = n8 (digF n 3 1) from congrArg n8 (dig_at n 3 1 k F), n8_dig (e := 256) (by decide)]) (by omega) k1
  have g2 : Below base w w2 := g1.trans hb2
  have k2 := Nat.le_trans hb g2.size
  obtain ⟨q3, c3, w3, hr3, ho3, hb3⟩ := push_b ho2 (n % 256) (by rw [show n8 (cat F k (digF n 3) (k + 1 + 1)) = n8 (digF n 3 2) from congrArg n8 (dig_at n 3 2 k F), n8_dig (e := 1) (by decide), Int.ediv_one]) (by omega) k2
  have g3 : Below base w w3 := g2.trans hb3
  have k3 := Nat.le_trans hb g3.size
  have HO := Lib.hid (And.intro ho3 g3)
  clear hown hb ho1 g1 ho2 g2 ho3 g3 hb1 k1 hb2 k2 hb3 k3
  go_enter Try.func25, Try.ntmps25
  go_upto_region 2 with (fail)
  refine wp_loop_rounds 4 ?_
  rw [rounds_succ]
  go_wp2_with (at_builtin; refine Lib.wpList_append_run _ rfl _ _ _ _ rfl _ _ rfl rfl _ _ hr1 ?_)
  rw [rounds_succ]
  go_wp2_with (at_builtin; refine Lib.wpList_append_run _ rfl _ _ _ _ rfl _ _ rfl rfl _ _ hr2 ?_)
  rw [rounds_succ]
  go_wp2_with (at_builtin; refine Lib.wpList_append_run _ rfl _ _ _ _ rfl _ _ rfl rfl _ _ hr3 ?_)
  rw [rounds_succ]
  go_wp2_with fail
  go_returns
  exact ⟨_, rfl, HO.out⟩
/-! ### the number of bytes -/
theorem num_hi (F : Nat → B8) (k n : Nat) (h : n ≤ 3) : numF F k n ≤ 100000000 := by
  have h0 := n8_lt (F (k + 0))
  have h1 := n8_lt (F (k + 1))
  have h2 := n8_lt (F (k + 2))
  match n, h with
  | 0, _ => simp [numF]
  | 1, _ => simp only [numF]; omega
  | 2, _ => simp only [numF]; omega
  | 3, _ => simp only [numF]; omega
theorem shl_or (n : Int) (h0 : 0 ≤ n) (h1 : n ≤ 1000000000000) (x : B8) : bits .or .i64 (n * 256) (n8 x) = n * 256 + n8 x := by
  obtain ⟨N, rfl⟩ := Int.eq_ofNat_of_zero_le h0
  have hx : x.toNat < 2 ^ 8 := x.isLt
  have e : (2 ^ 8 * N ||| x.toNat) = 2 ^ 8 * N + x.toNat := (Nat.two_pow_add_eq_or_of_lt hx N).symm
  show IntKind.i64.wrap ((BitVec.ofInt 64 ((N : Int) * 256) ||| BitVec.ofInt 64 (x.toNat : Int)).toNat : Int) = (N : Int) * 256 + (x.toNat : Int)
  have e1 : (BitVec.ofInt 64 ((N : Int) * 256)).toNat = 2 ^ 8 * N := by rw [BitVec.toNat_ofInt]; omega
  have e2 : (BitVec.ofInt 64 (x.toNat : Int)).toNat = x.toNat := by rw [BitVec.toNat_ofInt]; omega
  rw [BitVec.toNat_or, e1, e2, e, IntKind.wrap_i64]
  omega
set_option maxRecDepth 100000 in
set_option maxHeartbeats 4000000 in
theorem stake_c (q : Option Addr) (n c : Nat) (F : Nat → B8) (hn : n ≤ 4) (hc : n ≤ c) (w : World) (hq : Byq w q n F) :
    Calls Try.prog 31 #[.slice q n c] w fun r w' => r = .returned (.int .i64 (numF F 0 n)) ∧ w = w' := by
  go_enter Try.func31, Try.ntmps31
  go_upto_region 3 with (fail)
  go_loopw [3, 8] (fun nv iv wr => ∃ k : Nat, k ≤ n ∧ iv = .int .i64 k ∧ nv = .int .i64 (numF F 0 k) ∧ wr = w) (fun _ iv _ => n - (intOf iv).toNat)
  case atStart => exact ⟨0, Nat.zero_le _, rfl, rfl, rfl⟩
  case round =>
    obtain ⟨k, hk, rfl, rfl, rfl⟩ := hrel
    by_cases hlt : k < n
    · obtain ⟨g, o, rfl, hB⟩ := hq (by omega)
      have hx := hB k hlt
      have hk0 : (0 : Int) ≤ k := by omega
      have hk1 : (k : Int) < n := by omega
      have hkc : k < c := by omega
      have hlo := num_lo F 0 k
      have hhi : numF F 0 k ≤ 100000000 := num_hi F 0 k (by omega)
      have x8 := n8_lt (F k)
      have hor := shl_or (numF F 0 k) hlo (by omega) (F k)
      have hnum : numF F 0 (k + 1) = numF F 0 k * 256 + n8 (F k) := by simp only [numF, Nat.zero_add]
      have HN := Lib.hid hnum
      clear hnum
      go_wp2_with fail
      exact ⟨⟨k + 1, hlt, by go_num, by rw [HN.out], trivial⟩, next_less' hlt⟩
    · obtain rfl : k = n := by omega
      have hk1 : ¬ ((k : Int) < (k : Int)) := by omega
      go_wp2_with fail
      go_returns
      exact ⟨rfl, rfl⟩
set_option maxRecDepth 100000 in
set_option maxHeartbeats 4000000 in
theorem rnum_c (q : Option Addr) (n c : Nat) (F : Nat → B8) (hn : n ≤ 4) (hc : n ≤ c) (w : World) (hq : Byq w q n F) :
    Calls Try.prog 33 #[.slice q n c] w fun r w' => r = .returned (.int .i64 (numF F 0 n)) ∧ w = w' := by
  go_enter Try.func33, Try.ntmps33
  go_upto_region 3 with (fail)
  go_loopw [3, 4] (fun nv iv wr => ∃ k : Nat, k ≤ n ∧ iv = .int .i64 k ∧ nv = .int .i64 (numF F 0 k) ∧ wr = w) (fun _ iv _ => n - (intOf iv).toNat)
  case atStart => exact ⟨0, Nat.zero_le _, rfl, rfl, rfl⟩
  case round =>
    obtain ⟨k, hk, rfl, rfl, rfl⟩ := hrel
    by_cases hlt : k < n
    · obtain ⟨g, o, rfl, hB⟩ := hq (by omega)
      have hx := hB k hlt
      have hk0 : (0 : Int) ≤ k := by omega
      have hk1 : (k : Int) < n := by omega
      have hkc : k < c := by omega
      have hlo := num_lo F 0 k
      have hhi : numF F 0 k ≤ 100000000 := num_hi F 0 k (by omega)
      have x8 := n8_lt (F k)
      have hnum : numF F 0 (k + 1) = numF F 0 k * 256 + n8 (F k) := by simp only [numF, Nat.zero_add]
      have HN := Lib.hid hnum
      clear hnum
      go_wp2_with fail
      exact ⟨⟨k + 1, hlt, by go_num, by rw [HN.out], trivial⟩, next_less' hlt⟩
    · obtain rfl : k = n := by omega
      have hk1 : ¬ ((k : Int) < (k : Int)) := by omega
      go_wp2_with fail
      go_returns
      exact ⟨rfl, rfl⟩
set_option maxRecDepth 100000 in
set_option maxHeartbeats 4000000 in
theorem rdig4_c (n : Int) (_ : 0 ≤ n) (_ : n ≤ 1099511627776) (w : World) :
    Calls Try.prog 28 #[.int .i64 n, .int .i64 4] w fun r w' => ∃ v', r = .returned v' ∧ w'.ownsRow w.heap.size 5 1 v' 4 (bl (digF n 4) 4) ∧ Below w.heap.size w w' := by
  have ho0 : w.ownsRow w.heap.size 5 1 (.slice none 0 0) 0 (bl (digF n 4) 0) := own_nil
  obtain ⟨q1, c1, w1, hr1, ho1, hb1⟩ := push_b ho0 (n / 16777216 % 256) (by rw [n8_dig (e := 16777216) (by decide)]) (by omega) (Nat.le_refl _)
  have g1 : Below w.heap.size w w1 := hb1
  have k1 := g1.size
  obtain ⟨q2, c2, w2, hr2, ho2, hb2⟩ := push_b ho1 (n / 65536 % 256) (by rw [n8_dig (e := 65536) (by decide)]) (by omega) k1
  have g2 : Below w.heap.size w w2 := g1.trans hb2
  have k2 := g2.size
  obtain ⟨q3, c3, w3, hr3, ho3, hb3⟩ := push_b ho2 (n / 256 % 256) (by rw [n8_dig (e := 256) (by decide)]) (by omega) k2
  have g3 : Below w.heap.size w w3 := g2.trans hb3
  have k3 := g3.size
  obtain ⟨q4, c4, w4, hr4, ho4, hb4⟩ := push_b ho3 (n % 256) (by rw [n8_dig (e := 1) (by decide), Int.ediv_one]) (by omega) k3
  have g4 : Below w.heap.size w w4 := g3.trans hb4
  have k4 := g4.size
  have HO := Lib.hid (And.intro ho4 g4)
  clear ho0 ho1 g1 hb1 k1 ho2 g2 hb2 k2 ho3 g3 hb3 k3 ho4 g4 hb4 k4
  go_enter Try.func28, Try.ntmps28
  go_upto_region 4 with (fail)
  refine wp_loop_rounds 4 ?_
  rw [rounds_succ]
  go_wp2_with fail
  rw [rounds_succ]
  go_wp2_with fail
  rw [rounds_succ]
  go_wp2_with fail
  rw [rounds_succ]
  go_upto_region 8 with (fail)
  refine wp_loop_rounds 5 ?_
  rw [rounds_succ]
  go_wp2_with (at_builtin; refine Lib.wpList_append_run _ rfl _ _ _ _ rfl _ _ rfl rfl _ _ hr1 ?_)
  rw [rounds_succ]
  go_wp2_with (at_builtin; refine Lib.wpList_append_run _ rfl _ _ _ _ rfl _ _ rfl rfl _ _ hr2 ?_)
  rw [rounds_succ]
  go_wp2_with (at_builtin; refine Lib.wpList_append_run _ rfl _ _ _ _ rfl _ _ rfl rfl _ _ hr3 ?_)
  rw [rounds_succ]
  go_wp2_with (at_builtin; refine Lib.wpList_append_run _ rfl _ _ _ _ rfl _ _ rfl rfl _ _ hr4 ?_)
  rw [rounds_succ]
  go_wp2_with fail
  go_returns
  exact ⟨_, rfl, HO.out⟩
set_option maxRecDepth 100000 in
set_option maxHeartbeats 4000000 in
theorem rdig3_c (n : Int) (_ : 0 ≤ n) (_ : n ≤ 1099511627776) (w : World) :
    Calls Try.prog 28 #[.int .i64 n, .int .i64 3] w fun r w' => ∃ v', r = .returned v' ∧ w'.ownsRow w.heap.size 5 1 v' 3 (bl (digF n 3) 3) ∧ Below w.heap.size w w' := by
  have ho0 : w.ownsRow w.heap.size 5 1 (.slice none 0 0) 0 (bl (digF n 3) 0) := own_nil
  obtain ⟨q1, c1, w1, hr1, ho1, hb1⟩ := push_b ho0 (n / 65536 % 256) (by rw [n8_dig (e := 65536) (by decide)]) (by omega) (Nat.le_refl _)
  have g1 : Below w.heap.size w w1 := hb1
  have k1 := g1.size
  obtain ⟨q2, c2, w2, hr2, ho2, hb2⟩ := push_b ho1 (n / 256 % 256) (by rw [n8_dig (e := 256) (by decide)]) (by omega) k1
  have g2 : Below w.heap.size w w2 := g1.trans hb2
  have k2 := g2.size
  obtain ⟨q3, c3, w3, hr3, ho3, hb3⟩ := push_b ho2 (n % 256) (by rw [n8_dig (e := 1) (by decide), Int.ediv_one]) (by omega) k2
  have g3 : Below w.heap.size w w3 := g2.trans hb3
  have k3 := g3.size
  have HO := Lib.hid (And.intro ho3 g3)
  clear ho0 ho1 g1 hb1 k1 ho2 g2 hb2 k2 ho3 g3 hb3 k3
  go_enter Try.func28, Try.ntmps28
  go_upto_region 4 with (fail)
  refine wp_loop_rounds 3 ?_
  rw [rounds_succ]
  go_wp2_with fail
  rw [rounds_succ]
  go_wp2_with fail
  rw [rounds_succ]
  go_upto_region 8 with (fail)
  refine wp_loop_rounds 4 ?_
  rw [rounds_succ]
  go_wp2_with (at_builtin; refine Lib.wpList_append_run _ rfl _ _ _ _ rfl _ _ rfl rfl _ _ hr1 ?_)
  rw [rounds_succ]
  go_wp2_with (at_builtin; refine Lib.wpList_append_run _ rfl _ _ _ _ rfl _ _ rfl rfl _ _ hr2 ?_)
  rw [rounds_succ]
  go_wp2_with (at_builtin; refine Lib.wpList_append_run _ rfl _ _ _ _ rfl _ _ rfl rfl _ _ hr3 ?_)
  rw [rounds_succ]
  go_wp2_with fail
  go_returns
  exact ⟨_, rfl, HO.out⟩
end Go.Proofs.Ytkopenemoddbbaa
