/- Texts that build one behind the other, laid together: StD StW StR StS StT StQ StA StX StG StH. -/
import Derived.Test.YtkopenemoddbbaaMa4
import Derived.Laws.BitsAllLaws
/- A number's bytes, and the number of bytes: the walks. -/
namespace Go.Proofs.Ytkopenemoddbbaa
open Go.RowKit
attribute [local go_sem] Oper.semAt_some

/-- One more byte behind an owned row. -/
theorem push_b {w : World} {base n : Nat} {F : Nat → B8} {v : Value} (hown : w.ownsRow base 5 1 v n (bl F n)) (y : Int) (hx : n8 (F n) = y) (hn : n ≤ 1000000) (hbase : base ≤ w.heap.size) :
    ∃ q c w', (Builtin.append_ #[22, 22] 22 #[v, .slice (some ⟨w.heap.size, 0, none⟩) 1 1]).run Try.prog (w.alloc (.cells #[.int .u8 y] 5)) = .ok (.slice q (n + 1) c) w' ∧ w'.ownsRow base 5 1 (.slice q (n + 1) c) (n + 1) (bl F (n + 1)) ∧ Below base w w' := by
  subst hx
  have hb : Below w.heap.size w (w.alloc (.cells #[.int .u8 (n8 (F n))] 5)) := bel_alloc _ _
  have hB : Byq (w.alloc (.cells #[.int .u8 (n8 (F n))] 5)) (some ⟨w.heap.size, 0, none⟩) 1 (fun _ => F n) := Byq.of fun i hi => by
    obtain rfl : i = 0 := by omega
    exact (Blk.new' rfl : Blk _ w.heap.size 5 #[.int .u8 (n8 (F n))]).cell 0
  obtain ⟨v', w', h1, h2, h3⟩ := run_app (P := Try.prog) (base := base) (ty := 22) Try.underlying22 inf8 (own_on hown hb) (Nat.le_refl 1) hB (by omega) (Nat.le_trans hbase hb.size)
  rw [bl_cong (F := cat F n fun _ => F n) (G := F)] at h2
  · obtain ⟨q, c, rfl, -, -, -⟩ := own_byq h2
    exact ⟨q, c, w', h1, h2, (hb.mono hbase).trans h3⟩
  · intro i hi
    unfold cat
    by_cases h : i < n
    · rw [if_pos h]
    · obtain rfl : i = n := by omega
      rw [if_neg h]
theorem dig_at (n : Int) (m j : Nat) (k : Nat) (F : Nat → B8) : cat F k (digF n m) (k + j) = digF n m j := by
  unfold cat
  rw [if_neg (by omega), Nat.add_sub_cancel_left]
theorem n8_dig {n : Int} {m j : Nat} {e : Int} (h : (256 : Int) ^ (m - 1 - j) = e) : n8 (digF n m j) = n / e % 256 := by
  unfold digF
  rw [n8_ofInt, h]
set_option maxRecDepth 100000 in
set_option maxHeartbeats 4000000 in
theorem sput4_c (base : Nat) (v : Value) (k : Nat) (F : Nat → B8) (n : Int) (_ : 0 ≤ n) (_ : n ≤ 1099511627776) (hk : k ≤ 1000) (w : World) (hown : w.ownsRow base 5 1 v k (bl (cat F k (digF n 4)) k)) (hb : base ≤ w.heap.size) :
    Calls Try.prog 25 #[v, .int .i64 n, .int .i64 4] w fun r w' => ∃ v', r = .returned v' ∧ w'.ownsRow base 5 1 v' (k + 4) (bl (cat F k (digF n 4)) (k + 4)) ∧ Below base w w' := by
  obtain ⟨q0, c0, rfl, -, -, -⟩ := own_byq hown
  obtain ⟨q1, c1, w1, hr1, ho1, hb1⟩ := push_b hown (n / 16777216 % 256) (by rw [show n8 (cat F k (digF n 4) (k)) = n8 (digF n 4 0) from congrArg n8 (dig_at n 4 0 k F), n8_dig (e := 16777216) (by decide)]) (by omega) hb
  have g1 : Below base w w1 := hb1
  have k1 := Nat.le_trans hb g1.size
  obtain ⟨q2, c2, w2, hr2, ho2, hb2⟩ := push_b ho1 (n / 65536 % 256) (by rw [show n8 (cat F k (digF n 4) (k + 1)) = n8 (digF n 4 1) from congrArg n8 (dig_at n 4 1 k F), n8_dig (e := 65536) (by decide)]) (by omega) k1
  have g2 : Below base w w2 := g1.trans hb2
  have k2 := Nat.le_trans hb g2.size
  obtain ⟨q3, c3, w3, hr3, ho3, hb3⟩ := push_b ho2 (n / 256 % 256) (by rw [show n8 (cat F k (digF n 4) (k + 1 + 1)) = n8 (digF n 4 2) from congrArg n8 (dig_at n 4 2 k F), n8_dig (e := 256) (by decide)]) (by omega) k2
  have g3 : Below base w w3 := g2.trans hb3
  have k3 := Nat.le_trans hb g3.size
  obtain ⟨q4, c4, w4, hr4, ho4, hb4⟩ := push_b ho3 (n % 256) (by rw [show n8 (cat F k (digF n 4) (k + 1 + 1 + 1)) = n8 (digF n 4 3) from congrArg n8 (dig_at n 4 3 k F), n8_dig (e := 1) (by decide), Int.ediv_one]) (by omega) k3
  have g4 : Below base w w4 := g3.trans hb4
  have k4 := Nat.le_trans hb g4.size
  have HO := Lib.hid (And.intro ho4 g4)
  clear hown hb ho1 g1 ho2 g2 ho3 g3 ho4 g4 hb1 k1 hb2 k2 hb3 k3 hb4 k4
  go_enter Try.func25, Try.ntmps25
  go_upto_region 2 with (fail)
  refine wp_loop_rounds 5 ?_
  rw [rounds_succ]
  go_wp2_with (at_builtin; refine Lib.wpList_append_run _ rfl _ _ _ _ rfl _ _ rfl rfl _ _ hr1 ?_)
  rw [rounds_succ]
  go_wp2_with (at_builtin; refine Lib.wpList_append_run _ rfl _ _ _ _ rfl _ _ rfl rfl _ _ hr2 ?_)
  rw [rounds_succ]
  go_wp2_with (at_builtin; refine Lib.wpList_append_run _ rfl _ _ _ _ rfl _ _ rfl rfl _ _ hr3 ?_)
  rw [rounds_succ]
  go_wp2_with (at_builtin; refine Lib.wpList_append_run _ rfl _ _ _ _ rfl _ _ rfl rfl _ _ hr4 ?_)
  rw [rounds_succ]
  go_wp2_with fail
  go_returns
  exact ⟨_, rfl, HO.out⟩
set_option maxRecDepth 100000 in
set_option maxHeartbeats 4000000 in
theorem sput3_c (base : Nat) (v : Value) (k : Nat) (F : Nat → B8) (n : Int) (_ : 0 ≤ n) (_ : n ≤ 1099511627776) (hk : k ≤ 1000) (w : World) (hown : w.ownsRow base 5 1 v k (bl (cat F k (digF n 3)) k)) (hb : base ≤ w.heap.size) :
    Calls Try.prog 25 #[v, .int .i64 n, .int .i64 3] w fun r w' => ∃ v', r = .returned v' ∧ w'.ownsRow base 5 1 v' (k + 3) (bl (cat F k (digF n 3)) (k + 3)) ∧ Below base w w' := by
  obtain ⟨q0, c0, rfl, -, -, -⟩ := own_byq hown
  obtain ⟨q1, c1, w1, hr1, ho1, hb1⟩ := push_b hown (n / 65536 % 256) (by rw [show n8 (cat F k (digF n 3) (k)) = n8 (digF n 3 0) from congrArg n8 (dig_at n 3 0 k F), n8_dig (e := 65536) (by decide)]) (by omega) hb
  have g1 : Below base w w1 := hb1
  have k1 := Nat.le_trans hb g1.size
  obtain ⟨q2, c2, w2, hr2, ho2, hb2⟩ := push_b ho1 (n / 256 % 256) (by rw [show n8 (cat F k (digF n 3) (k + 1)) = n8 (digF n 3 1) from congrArg n8 (dig_at n 3 1 k F), n8_dig (e := 256) (by decide)]) (by omega) k1
  have g2 : Below base w w2 := g1.trans hb2
  have k2 := Nat.le_trans hb g2.size
  obtain ⟨q3, c3, w3, hr3, ho3, hb3⟩ := push_b ho2 (n % 256) (by rw [show n8 (cat F k (digF n 3) (k + 1 + 1)) = n8 (digF n 3 2) from congrArg n8 (dig_at n 3 2 k F), n8_dig (e := 1) (by decide), Int.ediv_one]) (by omega) k2
  have g3 : Below base w w3 := g2.trans hb3
  have k3 := Nat.le_trans hb g3.size
  have HO := Lib.hid (And.intro ho3 g3)
  clear hown hb ho1 g1 ho2 g2 ho3 g3 hb1 k1 hb2 k2 hb3 k3
  go_enter Try.func25, Try.ntmps25
  go_upto_region 2 with (fail)
  refine wp_loop_rounds 4 ?_
  rw [rounds_succ]
  go_wp2_with (at_builtin; refine Lib.wpList_append_run _ rfl _ _ _ _ rfl _ _ rfl rfl _ _ hr1 ?_)
  rw [rounds_succ]
  go_wp2_with (at_builtin; refine Lib.wpList_append_run _ rfl _ _ _ _ rfl _ _ rfl rfl _ _ hr2 ?_)
  rw [rounds_succ]
  go_wp2_with (at_builtin; refine Lib.wpList_append_run _ rfl _ _ _ _ rfl _ _ rfl rfl _ _ hr3 ?_)
  rw [rounds_succ]
  go_wp2_with fail
  go_returns
  exact ⟨_, rfl, HO.out⟩
/-! ### the number of bytes -/
theorem num_hi (F : Nat → B8) (k n : Nat) (h : n ≤ 3) : numF F k n ≤ 100000000 := by
  have h0 := n8_lt (F (k + 0))
  have h1 := n8_lt (F (k + 1))
  have h2 := n8_lt (F (k + 2))
  match n, h with
  | 0, _ => simp [numF]
  | 1, _ => simp only [numF]; omega
  | 2, _ => simp only [numF]; omega
  | 3, _ => simp only [numF]; omega
theorem shl_or (n : Int) (h0 : 0 ≤ n) (h1 : n ≤ 1000000000000) (x : B8) : bits .or .i64 (n * 256) (n8 x) = n * 256 + n8 x := by
  obtain ⟨N, rfl⟩ := Int.eq_ofNat_of_zero_le h0
  have hx : x.toNat < 2 ^ 8 := x.isLt
  have e : (2 ^ 8 * N ||| x.toNat) = 2 ^ 8 * N + x.toNat := (Nat.two_pow_add_eq_or_of_lt hx N).symm
  show IntKind.i64.wrap ((BitVec.ofInt 64 ((N : Int) * 256) ||| BitVec.ofInt 64 (x.toNat : Int)).toNat : Int) = (N : Int) * 256 + (x.toNat : Int)
  have e1 : (BitVec.ofInt 64 ((N : Int) * 256)).toNat = 2 ^ 8 * N := by rw [BitVec.toNat_ofInt]; omega
  have e2 : (BitVec.ofInt 64 (x.toNat : Int)).toNat = x.toNat := by rw [BitVec.toNat_ofInt]; omega
  rw [BitVec.toNat_or, e1, e2, e, IntKind.wrap_i64]
  omega
set_option maxRecDepth 100000 in
set_option maxHeartbeats 4000000 in
theorem stake_c (q : Option Addr) (n c : Nat) (F : Nat → B8) (hn : n ≤ 4) (hc : n ≤ c) (w : World) (hq : Byq w q n F) :
    Calls Try.prog 31 #[.slice q n c] w fun r w' => r = .returned (.int .i64 (numF F 0 n)) ∧ w = w' := by
  go_enter Try.func31, Try.ntmps31
  go_upto_region 3 with (fail)
  go_loopw [3, 8] (fun nv iv wr => ∃ k : Nat, k ≤ n ∧ iv = .int .i64 k ∧ nv = .int .i64 (numF F 0 k) ∧ wr = w) (fun _ iv _ => n - (intOf iv).toNat)
  case atStart => exact ⟨0, Nat.zero_le _, rfl, rfl, rfl⟩
  case round =>
    obtain ⟨k, hk, rfl, rfl, rfl⟩ := hrel
    by_cases hlt : k < n
    · obtain ⟨g, o, rfl, hB⟩ := hq (by omega)
      have hx := hB k hlt
      have hk0 : (0 : Int) ≤ k := by omega
      have hk1 : (k : Int) < n := by omega
      have hkc : k < c := by omega
      have hlo := num_lo F 0 k
      have hhi : numF F 0 k ≤ 100000000 := num_hi F 0 k (by omega)
      have x8 := n8_lt (F k)
      have hor := shl_or (numF F 0 k) hlo (by omega) (F k)
      have hnum : numF F 0 (k + 1) = numF F 0 k * 256 + n8 (F k) := by simp only [numF, Nat.zero_add]
      have HN := Lib.hid hnum
      clear hnum
      go_wp2_with fail
      exact ⟨⟨k + 1, hlt, by go_num, by rw [HN.out], trivial⟩, next_less' hlt⟩
    · obtain rfl : k = n := by omega
      have hk1 : ¬ ((k : Int) < (k : Int)) := by omega
      go_wp2_with fail
      go_returns
      exact ⟨rfl, rfl⟩
set_option maxRecDepth 100000 in
set_option maxHeartbeats 4000000 in
theorem rnum_c (q : Option Addr) (n c : Nat) (F : Nat → B8) (hn : n ≤ 4) (hc : n ≤ c) (w : World) (hq : Byq w q n F) :
    Calls Try.prog 33 #[.slice q n c] w fun r w' => r = .returned (.int .i64 (numF F 0 n)) ∧ w = w' := by
  go_enter Try.func33, Try.ntmps33
  go_upto_region 3 with (fail)
  go_loopw [3, 4] (fun nv iv wr => ∃ k : Nat, k ≤ n ∧ iv = .int .i64 k ∧ nv = .int .i64 (numF F 0 k) ∧ wr = w) (fun _ iv _ => n - (intOf iv).toNat)
  case atStart => exact ⟨0, Nat.zero_le _, rfl, rfl, rfl⟩
  case round =>
    obtain ⟨k, hk, rfl, rfl, rfl⟩ := hrel
    by_cases hlt : k < n
    · obtain ⟨g, o, rfl, hB⟩ := hq (by omega)
      have hx := hB k hlt
      have hk0 : (0 : Int) ≤ k := by omega
      have hk1 : (k : Int) < n := by omega
      have hkc : k < c := by omega
      have hlo := num_lo F 0 k
      have hhi : numF F 0 k ≤ 100000000 := num_hi F 0 k (by omega)
      have x8 := n8_lt (F k)
      have hnum : numF F 0 (k + 1) = numF F 0 k * 256 + n8 (F k) := by simp only [numF, Nat.zero_add]
      have HN := Lib.hid hnum
      clear hnum
      go_wp2_with fail
      exact ⟨⟨k + 1, hlt, by go_num, by rw [HN.out], trivial⟩, next_less' hlt⟩
    · obtain rfl : k = n := by omega
      have hk1 : ¬ ((k : Int) < (k : Int)) := by omega
      go_wp2_with fail
      go_returns
      exact ⟨rfl, rfl⟩
set_option maxRecDepth 100000 in
set_option maxHeartbeats 4000000 in
theorem rdig4_c (n : Int) (_ : 0 ≤ n) (_ : n ≤ 1099511627776) (w : World) :
    Calls Try.prog 28 #[.int .i64 n, .int .i64 4] w fun r w' => ∃ v', r = .returned v' ∧ w'.ownsRow w.heap.size 5 1 v' 4 (bl (digF n 4) 4) ∧ Below w.heap.size w w' := by
  have ho0 : w.ownsRow w.heap.size 5 1 (.slice none 0 0) 0 (bl (digF n 4) 0) := own_nil
  obtain ⟨q1, c1, w1, hr1, ho1, hb1⟩ := push_b ho0 (n / 16777216 % 256) (by rw [n8_dig (e := 16777216) (by decide)]) (by omega) (Nat.le_refl _)
  have g1 : Below w.heap.size w w1 := hb1
  have k1 := g1.size
  obtain ⟨q2, c2, w2, hr2, ho2, hb2⟩ := push_b ho1 (n / 65536 % 256) (by rw [n8_dig (e := 65536) (by decide)]) (by omega) k1
  have g2 : Below w.heap.size w w2 := g1.trans hb2
  have k2 := g2.size
  obtain ⟨q3, c3, w3, hr3, ho3, hb3⟩ := push_b ho2 (n / 256 % 256) (by rw [n8_dig (e := 256) (by decide)]) (by omega) k2
  have g3 : Below w.heap.size w w3 := g2.trans hb3
  have k3 := g3.size
  obtain ⟨q4, c4, w4, hr4, ho4, hb4⟩ := push_b ho3 (n % 256) (by rw [n8_dig (e := 1) (by decide), Int.ediv_one]) (by omega) k3
  have g4 : Below w.heap.size w w4 := g3.trans hb4
  have k4 := g4.size
  have HO := Lib.hid (And.intro ho4 g4)
  clear ho0 ho1 g1 hb1 k1 ho2 g2 hb2 k2 ho3 g3 hb3 k3 ho4 g4 hb4 k4
  go_enter Try.func28, Try.ntmps28
  go_upto_region 4 with (fail)
  refine wp_loop_rounds 4 ?_
  rw [rounds_succ]
  go_wp2_with fail
  rw [rounds_succ]
  go_wp2_with fail
  rw [rounds_succ]
  go_wp2_with fail
  rw [rounds_succ]
  go_upto_region 8 with (fail)
  refine wp_loop_rounds 5 ?_
  rw [rounds_succ]
  go_wp2_with (at_builtin; refine Lib.wpList_append_run _ rfl _ _ _ _ rfl _ _ rfl rfl _ _ hr1 ?_)
  rw [rounds_succ]
  go_wp2_with (at_builtin; refine Lib.wpList_append_run _ rfl _ _ _ _ rfl _ _ rfl rfl _ _ hr2 ?_)
  rw [rounds_succ]
  go_wp2_with (at_builtin; refine Lib.wpList_append_run _ rfl _ _ _ _ rfl _ _ rfl rfl _ _ hr3 ?_)
  rw [rounds_succ]
  go_wp2_with (at_builtin; refine Lib.wpList_append_run _ rfl _ _ _ _ rfl _ _ rfl rfl _ _ hr4 ?_)
  rw [rounds_succ]
  go_wp2_with fail
  go_returns
  exact ⟨_, rfl, HO.out⟩
set_option maxRecDepth 100000 in
set_option maxHeartbeats 4000000 in
theorem rdig3_c (n : Int) (_ : 0 ≤ n) (_ : n ≤ 1099511627776) (w : World) :
    Calls Try.prog 28 #[.int .i64 n, .int .i64 3] w fun r w' => ∃ v', r = .returned v' ∧ w'.ownsRow w.heap.size 5 1 v' 3 (bl (digF n 3) 3) ∧ Below w.heap.size w w' := by
  have ho0 : w.ownsRow w.heap.size 5 1 (.slice none 0 0) 0 (bl (digF n 3) 0) := own_nil
  obtain ⟨q1, c1, w1, hr1, ho1, hb1⟩ := push_b ho0 (n / 65536 % 256) (by rw [n8_dig (e := 65536) (by decide)]) (by omega) (Nat.le_refl _)
  have g1 : Below w.heap.size w w1 := hb1
  have k1 := g1.size
  obtain ⟨q2, c2, w2, hr2, ho2, hb2⟩ := push_b ho1 (n / 256 % 256) (by rw [n8_dig (e := 256) (by decide)]) (by omega) k1
  have g2 : Below w.heap.size w w2 := g1.trans hb2
  have k2 := g2.size
  obtain ⟨q3, c3, w3, hr3, ho3, hb3⟩ := push_b ho2 (n % 256) (by rw [n8_dig (e := 1) (by decide), Int.ediv_one]) (by omega) k2
  have g3 : Below w.heap.size w w3 := g2.trans hb3
  have k3 := g3.size
  have HO := Lib.hid (And.intro ho3 g3)
  clear ho0 ho1 g1 hb1 k1 ho2 g2 hb2 k2 ho3 g3 hb3 k3
  go_enter Try.func28, Try.ntmps28
  go_upto_region 4 with (fail)
  refine wp_loop_rounds 3 ?_
  rw [rounds_succ]
  go_wp2_with fail
  rw [rounds_succ]
  go_wp2_with fail
  rw [rounds_succ]
  go_upto_region 8 with (fail)
  refine wp_loop_rounds 4 ?_
  rw [rounds_succ]
  go_wp2_with (at_builtin; refine Lib.wpList_append_run _ rfl _ _ _ _ rfl _ _ rfl rfl _ _ hr1 ?_)
  rw [rounds_succ]
  go_wp2_with (at_builtin; refine Lib.wpList_append_run _ rfl _ _ _ _ rfl _ _ rfl rfl _ _ hr2 ?_)
  rw [rounds_succ]
  go_wp2_with (at_builtin; refine Lib.wpList_append_run _ rfl _ _ _ _ rfl _ _ rfl rfl _ _ hr3 ?_)
  rw [rounds_succ]
  go_wp2_with fail
  go_returns
  exact ⟨_, rfl, HO.out⟩
end Go.Proofs.Ytkopenemoddbbaa

/- A record's bytes: the walks. -/
namespace Go.Proofs.Ytkopenemoddbbaa
open Go.RowKit
attribute [local go_sem] Oper.semAt_some

theorem good_nil {w : World} {base : Nat} : GoodS w base (none, 0, 0) := ⟨Nat.le_refl _, Nat.zero_le _, fun h => absurd h (Nat.lt_irrefl 0)⟩
theorem rd_nil {w : World} : rdB w (none, 0, 0) = [] := rfl
/-- May such a record be? -/
def mayW (v : Int) (n : Nat) : Bool := decide (1 ≤ v) && decide (v ≤ 1073741824) && decide (n ≤ 65536)
def writeL (v : Int) (b : Bs) : Option Bs := if mayW v b.length then some (recB v b) else none
def WriteR (base : Nat) (o : Option Bs) (r : Ending) (w w' : World) : Prop := ∃ s : SL, r = .returned (.tuple #[slV s, .int .i64 (if o.isSome then 0 else 1)]) ∧ GoodS w' base s ∧ rdB w' s = o.getD [] ∧ s.2.1 ≤ 65545 ∧ Below w.heap.size w w'
theorem write_ok {base : Nat} {v : Int} {b : Bs} {w w' : World} {x : Value} {n : Nat} (hb : b.length = n) (hm : n ≤ 65536) (h : w'.ownsRow w.heap.size 5 1 x (7 + n + 2) (bl (putF (cat (headF v n) 7 (fb b)) (7 + n)) (7 + n + 2))) (hw : Below w.heap.size w w') (ho : writeL v b = some (recB v b)) : WriteR base (writeL v b) (.returned (.tuple #[x, .int .i64 0])) w w' := by
  obtain ⟨s, rfl, h1, h2, h3⟩ := GoodS.own (base := base) h
  rw [ho]
  refine ⟨s, rfl, h2, h3.trans ?_, by omega, hw⟩
  subst hb
  rfl
theorem head_row {w : World} {B : Nat} {v n : Int} {x : Value} (h : w.ownsRow B 5 1 x 4 (bl (digF v 4) 4)) : w.ownsRow B 5 1 x 4 (bl (cat (digF v 4) 4 (digF n 3)) 4) := by
  rw [bl_cong (G := digF v 4) fun i hi => by unfold cat; rw [if_pos hi]]
  exact h
set_option maxRecDepth 100000 in
set_option maxHeartbeats 4000000 in
theorem swrite_c (base : Nat) (v : Int) (hv : In64 v) (s : SL) (w : World) (hs : GoodS w base s) (hz : s.2.1 ≤ 1000000) :
    Calls Try.prog 10 #[.int .i64 v, slV s] w fun r w' => WriteR base (writeL v (rdB w s)) r w w' := by
  have hl := hs.len
  have hq := hs.byq
  have hcap := hs.cap
  have hmost := hs.most
  unfold In64 at hv
  generalize hb : rdB w s = b at hl hq ⊢
  replace hq : Byq w s.1 s.2.1 (fb b) := hq
  clear hs hb
  obtain ⟨q, n, c⟩ := s
  dsimp only at hl hq hcap hmost hz
  simp only [slV]
  by_cases h1 : 1 ≤ v
  · by_cases h2 : v ≤ 1073741824
    · by_cases h3 : n ≤ 65536
      · have ho : writeL v b = some (recB v b) := by unfold writeL mayW; rw [if_pos (by rw [hl]; simp [h1, h2, h3])]
        have HO := Lib.hid ho
        have HL := Lib.hid hl
        have h4 : ¬ v < 1 := by omega
        have h5 : ¬ 1073741824 < v := by omega
        have h6 : ¬ (65536 : Int) < n := by omega
        have P1 := Lib.hid (sput4_c w.heap.size (.slice none 0 0) 0 (digF v 4) v (by omega) (by omega) (by decide) w own_nil (Nat.le_refl _))
        have HQ := Lib.hid hq
        clear ho hl hq
        go_enter Try.func10, Try.ntmps10
        go_upto_region 4 with first
          | (go_at_call 25; refine P1.out.mono ?_; rintro e_ w1 ⟨x1, rfl, o1, g1⟩; rw [cat_0] at o1; have P2 := Lib.hid (sput3_c w.heap.size x1 4 (digF v 4) n (by omega) (by omega) (by decide) w1 (head_row o1) g1.size); clear P1 o1)
          | (go_at_call 25; refine P2.out.mono ?_; rintro e_ w2 ⟨x2, rfl, o2, g2⟩)
        obtain ⟨q2, c2, rfl, k1, k2, hb2⟩ := own_byq o2
        have g12 := g1.trans g2
        have hb3 : Byq w2 q n (fb b) := HQ.out.on g12
        have HC := Lib.hid (concat2_c q2 7 c2 (headF v n) k1 q n c (fb b) hcap (by omega) (by omega) w2.heap.size (w2.alloc (.cells #[.slice q2 7 c2, .slice q n c] 22)) (Blk.new' rfl) (hb2.on (bel_alloc _ _)) (hb3.on (bel_alloc _ _)))
        have G12 := Lib.hid (g12.trans (bel_alloc' g12.size (.cells #[.slice q2 7 c2, .slice q n c] 22)))
        clear o2 g1 g2 g12 hb2 hb3 P2
        go_wp2_with first
          | (go_at_call 27; refine HC.out.mono ?_; rintro e_ w3 ⟨x3, rfl, o3, g3⟩; obtain ⟨q3, c3, rfl, k3, k4, hb3⟩ := own_byq o3; have HP := Lib.hid (ckput_c q3 (7 + n) c3 _ k3 k4 (by omega) w3 hb3); have G3 := Lib.hid (after G12.out g3); clear o3 hb3 g3 HC)
          | (go_at_call 26; refine HP.out.mono ?_; rintro e_ w4 ⟨x4, rfl, o4, g4⟩)
        go_returns
        exact write_ok HL.out h3 (own_low o4 G3.out.size) (after G3.out g4) HO.out
      · have ho : writeL v b = none := by unfold writeL mayW; rw [if_neg (by rw [hl]; simp [h3])]
        have HO := Lib.hid ho
        have h4 : ¬ v < 1 := by omega
        have h5 : ¬ 1073741824 < v := by omega
        have h6 : (65536 : Int) < n := by omega
        clear ho hl hq
        go_enter Try.func10, Try.ntmps10
        go_wp2_with fail
        go_returns
        rw [HO.out]
        exact ⟨(none, 0, 0), rfl, good_nil, rfl, Nat.zero_le _, Below.refl _ _⟩
    · have ho : writeL v b = none := by unfold writeL mayW; rw [if_neg (by simp [h2])]
      have HO := Lib.hid ho
      have h4 : ¬ v < 1 := by omega
      have h5 : 1073741824 < v := by omega
      clear ho hl hq
      go_enter Try.func10, Try.ntmps10
      go_wp2_with fail
      go_returns
      rw [HO.out]
      exact ⟨(none, 0, 0), rfl, good_nil, rfl, Nat.zero_le _, Below.refl _ _⟩
  · have ho : writeL v b = none := by unfold writeL mayW; rw [if_neg (by simp [h1])]
    have HO := Lib.hid ho
    have h4 : v < 1 := by omega
    clear ho hl hq
    go_enter Try.func10, Try.ntmps10
    go_wp2_with fail
    go_returns
    rw [HO.out]
    exact ⟨(none, 0, 0), rfl, good_nil, rfl, Nat.zero_le _, Below.refl _ _⟩
set_option maxRecDepth 100000 in
set_option maxHeartbeats 4000000 in
theorem rwrite_c (base : Nat) (v : Int) (hv : In64 v) (s : SL) (w : World) (hs : GoodS w base s) (hz : s.2.1 ≤ 1000000) :
    Calls Try.prog 11 #[.int .i64 v, slV s] w fun r w' => WriteR base (writeL v (rdB w s)) r w w' := by
  have hl := hs.len
  have hq := hs.byq
  have hcap := hs.cap
  have hmost := hs.most
  unfold In64 at hv
  generalize hb : rdB w s = b at hl hq ⊢
  replace hq : Byq w s.1 s.2.1 (fb b) := hq
  clear hs hb
  obtain ⟨q, n, c⟩ := s
  dsimp only at hl hq hcap hmost hz
  simp only [slV]
  by_cases h1 : 1 ≤ v
  · by_cases h2 : v ≤ 1073741824
    · by_cases h3 : n ≤ 65536
      · have ho : writeL v b = some (recB v b) := by unfold writeL mayW; rw [if_pos (by rw [hl]; simp [h1, h2, h3])]
        have HO := Lib.hid ho
        have HL := Lib.hid hl
        have h4 : ¬ v < 1 := by omega
        have h5 : ¬ 1073741824 < v := by omega
        have h6 : ¬ (65536 : Int) < n := by omega
        have P1 := Lib.hid (rdig4_c v (by omega) (by omega) w)
        have HQ := Lib.hid hq
        clear ho hl hq
        go_enter Try.func11, Try.ntmps11
        go_upto_region 4 with (go_at_call 28; refine P1.out.mono ?_; rintro e_ w1 ⟨x1, rfl, o1, g1⟩)
        obtain ⟨q1, c1, rfl, -, -, -⟩ := own_byq o1
        have P2 := Lib.hid (rdig3_c n (by omega) (by omega) w1)
        have G1 := Lib.hid g1
        have O1 := Lib.hid o1
        clear g1 o1 P1
        go_upto_region 5 with first
          | (go_at_call 28; refine P2.out.mono ?_; rintro e_ w2 ⟨x2, rfl, o2, g2⟩; obtain ⟨q2, c2, rfl, k1, k2, hb2⟩ := own_byq o2; obtain ⟨x3, w3, hr3, o3, g3⟩ := run_app (P := Try.prog) (ty := 22) Try.underlying22 inf8 (own_on O1.out g2) k1 hb2 (by decide) (Nat.le_trans G1.out.size g2.size); obtain ⟨q3, c3, rfl, -, -, -⟩ := own_byq o3; have G2 := Lib.hid ((after G1.out g2).trans g3); have O3 := Lib.hid o3; clear o3 g2 g3 o2 hb2 O1 G1 P2)
          | (at_builtin; refine Lib.wpList_append_run _ rfl _ _ _ _ rfl _ _ rfl rfl _ _ hr3 ?_)
        obtain ⟨x4, w4, hr4, o4, g4⟩ := run_app (P := Try.prog) (ty := 22) Try.underlying22 inf8 O3.out hcap (HQ.out.on G2.out) (by omega) G2.out.size
        obtain ⟨q4, c4, rfl, k3, k4, hb4⟩ := own_byq o4
        have G4 := Lib.hid (G2.out.trans g4)
        have HP := Lib.hid (ckrput_c q4 (7 + n) c4 _ k3 k4 (by omega) w4 hb4)
        clear o4 hb4 g4 O3 G2 HQ
        go_wp2_with first
          | (at_builtin; refine Lib.wpList_append_run _ rfl _ _ _ _ rfl _ _ rfl rfl _ _ hr4 ?_)
          | (go_at_call 29; refine HP.out.mono ?_; rintro e_ w5 ⟨x5, rfl, o5, g5⟩)
        go_returns
        exact write_ok HL.out h3 (own_low o5 G4.out.size) (after G4.out g5) HO.out
      · have ho : writeL v b = none := by unfold writeL mayW; rw [if_neg (by rw [hl]; simp [h3])]
        have HO := Lib.hid ho
        have h4 : ¬ v < 1 := by omega
        have h5 : ¬ 1073741824 < v := by omega
        have h6 : (65536 : Int) < n := by omega
        clear ho hl hq
        go_enter Try.func11, Try.ntmps11
        go_wp2_with fail
        go_returns
        rw [HO.out]
        exact ⟨(none, 0, 0), rfl, good_nil, rfl, Nat.zero_le _, Below.refl _ _⟩
    · have ho : writeL v b = none := by unfold writeL mayW; rw [if_neg (by simp [h2])]
      have HO := Lib.hid ho
      have h4 : ¬ v < 1 := by omega
      have h5 : 1073741824 < v := by omega
      clear ho hl hq
      go_enter Try.func11, Try.ntmps11
      go_wp2_with fail
      go_returns
      rw [HO.out]
      exact ⟨(none, 0, 0), rfl, good_nil, rfl, Nat.zero_le _, Below.refl _ _⟩
  · have ho : writeL v b = none := by unfold writeL mayW; rw [if_neg (by simp [h1])]
    have HO := Lib.hid ho
    have h4 : v < 1 := by omega
    clear ho hl hq
    go_enter Try.func11, Try.ntmps11
    go_wp2_with fail
    go_returns
    rw [HO.out]
    exact ⟨(none, 0, 0), rfl, good_nil, rfl, Nat.zero_le _, Below.refl _ _⟩
end Go.Proofs.Ytkopenemoddbbaa

/- The record of bytes: the walks. -/
namespace Go.Proofs.Ytkopenemoddbbaa
open Go.RowKit
attribute [local go_sem] Oper.semAt_some

def ReadR (base : Nat) (x : Int × Bs × Int) (r : Ending) (w w' : World) : Prop := ∃ s : SL, r = .returned (.tuple #[.int .i64 x.1, slV s, .int .i64 x.2.2]) ∧ GoodS w' base s ∧ rdB w' s = x.2.1 ∧ Below w.heap.size w w'
theorem read_none {base : Nat} {x : Int × Bs × Int} {e : Int} {w w' : World} (hx : x = (0, [], e)) (hw : Below w.heap.size w w') : ReadR base x (.returned (.tuple #[.int .i64 0, .slice none 0 0, .int .i64 e])) w w' := by
  subst hx
  exact ⟨(none, 0, 0), rfl, good_nil, rfl, hw⟩
theorem num_at {w : World} {g o n k j : Nat} {F : Nat → B8} (hB : Byt w g o n F) (h : k + j ≤ n) : Byq w (some ⟨g, o + k, none⟩) j (fun i => F (k + i)) := Byq.of fun i hi => by
  have := hB (k + i) (by omega)
  rwa [← Nat.add_assoc] at this
theorem num_sh (F : Nat → B8) (k n : Nat) : numF (fun i => F (k + i)) 0 n = numF F k n := num_cong fun i _ => by simp
theorem bs_take (b : Bs) {k : Nat} (h : k ≤ b.length) : bsOf (fb b) k = b.take k := by rw [← bsOf_take (fb b) h, bsOf_self']
theorem read_at {w w1 w2 : World} {base g m c1 : Nat} {b : Bs} {q : Option Addr} {cur : Array Value} (hC : Blk w1 g 5 cur) (hB : Byt w1 g 0 (m + 7) (fb b)) (k1 : m + 7 ≤ c1) (k2 : c1 ≤ maxLen) (hm : b.length = m + 9) (hq : 0 < m → q = some ⟨g, 7, none⟩) (hr : readL b = (numF (fb b) 0 4, (b.take (b.length - 2)).drop 7, 0)) (G1 : Below w.heap.size w w1) (G2 : Below w1.heap.size w1 w2) :
    ReadR base (readL b) (.returned (.tuple #[.int .i64 (numF (fb b) 0 4), .slice q m (c1 - 7), .int .i64 0])) w w2 := by
  rw [hr]
  have hg : GoodS w1 base (some ⟨g, 0, none⟩, m + 7, c1) := ⟨k1, k2, fun _ => ⟨g, 0, _, rfl, hB, .inr ⟨cur, hC⟩⟩⟩
  obtain ⟨h1, h2⟩ := hg.drop (k := 7) (Nat.le_add_left 7 m) q fun h => by rw [Nat.zero_add]; exact hq (by omega)
  rw [Nat.add_sub_cancel] at h1 h2
  obtain ⟨h3, h4⟩ := h1.on G2
  refine ⟨(q, m, c1 - 7), rfl, h3, ?_, after G1 G2⟩
  rw [h4, h2, rdB_of hB, bs_take b (by omega), hm]
  rfl
set_option maxRecDepth 100000 in
set_option maxHeartbeats 4000000 in
theorem sread_c (base : Nat) (s : SL) (w : World) (hs : GoodS w base s) (hz : s.2.1 ≤ 1000000) :
    Calls Try.prog 14 #[slV s] w fun r w' => ReadR base (readL (rdB w s)) r w w' := by
  have hl := hs.len
  have hq := hs.byq
  have hcap := hs.cap
  have hmost := hs.most
  generalize hb : rdB w s = b at hl hq ⊢
  replace hq : Byq w s.1 s.2.1 (fb b) := hq
  clear hs hb
  obtain ⟨q, n, c⟩ := s
  dsimp only at hl hq hcap hmost hz
  subst hl
  simp only [slV]
  by_cases h2 : okF (fb b) b.length
  · have h20 := h2.1
    have HT := Lib.hid (take_ok q b.length c (fb b) hcap hmost hz w hq h2)
    by_cases h9 : b.length < 9
    · have HR := Lib.hid (read_low h2 h9)
      have e7 : ((b.length - 2 : Nat) : Int) < 7 := by omega
      clear hq h2
      go_enter Try.func14, Try.ntmps14
      go_wp2_with (go_at_call 30; refine HT.out.mono ?_; rintro e_ w1 ⟨x1, rfl, o1, g1⟩; obtain ⟨q1, c1, rfl, -, -, -⟩ := own_byq o1; have G1 := Lib.hid g1; clear g1 o1)
      go_returns
      exact read_none HR.out G1.out
    · have hlen : (b.length - 2) = (b.length - 9) + 7 := by omega
      rw [hlen] at HT
      have H2 := Lib.hid (And.intro h2 h9)
      have HB9 := Lib.hid (show b.length = (b.length - 9) + 9 by omega)
      clear hq h2 h20 h9 hlen
      go_enter Try.func14, Try.ntmps14
      go_upto_region 6 with (go_at_call 30; refine HT.out.mono ?_; rintro e_ w1 ⟨x1, rfl, o1, g1⟩; obtain ⟨g, c1, cur, rfl, hbg, hC, k1, k2, k3, hB⟩ := own_form o1 (Nat.succ_pos _); clear o1 k3)
      generalize hm : b.length - 9 = m at *
      have hm9 : b.length = m + 9 := by have := HB9.out; omega
      have e7 : ¬ ((m : Int) + 7 < 7) := by omega
      have hN4 : ∀ d os, Calls Try.prog 31 #[.slice (some ⟨g, 0, none⟩) 4 c1] (Go.Sort.grow (redrawn w1 d) os) fun r w' => r = .returned (.int .i64 (numF (fb b) 0 4)) ∧ (Go.Sort.grow (redrawn w1 d) os) = w' := fun d os => stake_c _ 4 c1 (fb b) (by decide) (by omega) _ (Byq.of ((hB.re d os).le (by omega)))
      have hN3 : ∀ d os, Calls Try.prog 31 #[.slice (some ⟨g, 4, none⟩) 3 (c1 - 4)] (Go.Sort.grow (redrawn w1 d) os) fun r w' => r = .returned (.int .i64 (numF (fb b) 4 3)) ∧ (Go.Sort.grow (redrawn w1 d) os) = w' := fun d os => by
        rw [← num_sh]
        have := num_at (k := 4) (j := 3) (hB.re d os) (by omega)
        rw [Nat.zero_add] at this
        exact stake_c _ 3 (c1 - 4) _ (by decide) (by omega) _ this
      have HN4 := Lib.hid fun d os => calls_bel (hN4 d os)
      have HN3 := Lib.hid fun d os => calls_bel (hN3 d os)
      clear hN4 hN3
      have kc4 : 4 ≤ c1 := by omega
      have kc7 : 7 ≤ c1 := by omega
      refine wp_region_quiet_below (by kernel_rfl) (by kernel_rfl) ?_
      repeat (go_big_quiet_step (first | (with_reducible exact Calls.regrown_of (HN4.out _ _)) | (with_reducible exact Calls.regrown_of (HN3.out _ _))))
      refine wpQuiet_nil ?_
      intro w' hw'
      obtain ⟨rg, rfl⟩ := hw'
      generalize hq7 : (if c1 = 7 then (some ⟨g, 0, none⟩ : Option Addr) else some ⟨g, 7, none⟩) = q7
      have HQ7 := Lib.hid (show 0 < m → q7 = some ⟨g, 7, none⟩ from fun _ => by rw [← hq7, if_neg (by omega)])
      clear hq7
      have n40 := num_lo (fb b) 0 4
      have n41 := num4 (fb b) 0
      have n30 := num_lo (fb b) 4 3
      have n31 := num3 (fb b) 4
      clear HN4 HN3
      obtain ⟨V, hV⟩ : ∃ V, V = numF (fb b) 0 4 := ⟨_, rfl⟩
      obtain ⟨U, hU⟩ : ∃ U, U = numF (fb b) 4 3 := ⟨_, rfl⟩
      rw [← hV] at n40 n41 ⊢
      rw [← hU] at n30 n31 ⊢
      have G12 := Lib.hid (And.intro g1 (below_regrown w1 _ _ : Below w1.heap.size w1 (Go.Sort.grow (redrawn w1 rg.d) rg.os)))
      have HX := Lib.hid (And.intro hC hB)
      have HK := Lib.hid (And.intro k1 k2)
      have HV := Lib.hid hV
      have HU := Lib.hid hU
      have HM := Lib.hid hm9
      have HB8 := Lib.hid (show b.length - 9 = m from by omega)
      clear hC hB k1 k2 hV hU hm9 g1 hm HB9
      by_cases a1 : V < 1
      · have HR := Lib.hid (read_form H2.out.1 H2.out.2 (.inl (HV.out ▸ a1)))
        go_wp2_with fail
        go_returns
        exact read_none HR.out (after G12.out.1 G12.out.2)
      · by_cases a2 : 1073741824 < V
        · have HR := Lib.hid (read_form H2.out.1 H2.out.2 (.inr (.inl (HV.out ▸ a2))))
          go_wp2_with fail
          go_returns
          exact read_none HR.out (after G12.out.1 G12.out.2)
        · by_cases a3 : 65536 < U
          · have HR := Lib.hid (read_form H2.out.1 H2.out.2 (.inr (.inr (.inl (HU.out ▸ a3)))))
            go_wp2_with fail
            go_returns
            exact read_none HR.out (after G12.out.1 G12.out.2)
          · by_cases a4 : U = (m : Int)
            · have HR := Lib.hid (read_good H2.out.1 H2.out.2 (by rw [← HV.out, ← HU.out]; have := HM.out; omega))
              subst a4
              go_wp2_with fail
              go_returns
              rw [HV.out]
              exact read_at HX.out.1 HX.out.2 HK.out.1 HK.out.2 HM.out HQ7.out HR.out G12.out.1 G12.out.2
            · have HR := Lib.hid (read_form H2.out.1 H2.out.2 (.inr (.inr (.inr (by rw [← HU.out]; have := HM.out; omega)))))
              go_wp2_with fail
              go_returns
              exact read_none HR.out (after G12.out.1 G12.out.2)
  · have HR := Lib.hid (show readL b = (0, [], if b.length < 2 then 3 else 4) by
      split
      · rename_i h; exact read_short h
      · rename_i h; exact read_sum h h2)
    have HT := Lib.hid (take_no q b.length c (fb b) hcap hmost w hq h2 _ rfl)
    obtain ⟨E, hEe⟩ : ∃ E, E = (if b.length < 2 then (3 : Int) else 4) := ⟨_, rfl⟩
    rw [← hEe] at HR HT
    have hE : E ≠ 0 := by rw [hEe]; split <;> decide
    clear hEe
    clear hq h2
    go_enter Try.func14, Try.ntmps14
    go_wp2_with (go_at_call 30; refine HT.out.mono ?_; rintro e_ w1 ⟨rfl, g1⟩; have G1 := Lib.hid g1; clear g1)
    go_returns
    exact read_none HR.out G1.out
theorem rread_at {w w1 : World} {base g o m c : Nat} {b : Bs} {q : Option Addr} (hg : GoodS w base (some ⟨g, o, none⟩, b.length, c)) (hb : rdB w (some ⟨g, o, none⟩, b.length, c) = b) (hm : b.length = m + 9) (hq : 0 < m → q = some ⟨g, o + 7, none⟩) (hr : readL b = (numF (fb b) 0 4, (b.take (b.length - 2)).drop 7, 0)) (G1 : Below w.heap.size w w1) :
    ReadR base (readL b) (.returned (.tuple #[.int .i64 (numF (fb b) 0 4), .slice q m (c - 7), .int .i64 0])) w w1 := by
  rw [hr]
  obtain ⟨h1, h2⟩ := hg.cut (k := m + 7) (show m + 7 ≤ b.length by omega)
  obtain ⟨h3, h4⟩ := h1.drop (k := 7) (Nat.le_add_left 7 m) q fun h => hq (by omega)
  rw [Nat.add_sub_cancel] at h3 h4
  obtain ⟨h5, h6⟩ := h3.on G1
  refine ⟨(q, m, c - 7), rfl, h5, ?_, G1⟩
  rw [h6, h4, h2, hb, hm]
  rfl
set_option maxRecDepth 100000 in
set_option maxHeartbeats 4000000 in
theorem rread_c (base : Nat) (s : SL) (w : World) (hs : GoodS w base s) (hz : s.2.1 ≤ 1000000) :
    Calls Try.prog 15 #[slV s] w fun r w' => ReadR base (readL (rdB w s)) r w w' := by
  have hl := hs.len
  have hq := hs.byq
  have hcap := hs.cap
  have hmost := hs.most
  have HS := Lib.hid hs
  obtain ⟨b, hb⟩ : ∃ b, rdB w s = b := ⟨_, rfl⟩
  rw [hb] at hl hq ⊢
  have HB := Lib.hid hb
  replace hq : Byq w s.1 s.2.1 (fb b) := hq
  clear hs hb
  obtain ⟨q, n, c⟩ := s
  dsimp only at hl hq hcap hmost hz
  subst hl
  simp only [slV]
  by_cases h2 : okF (fb b) b.length
  · have h20 := h2.1
    have HT := Lib.hid (rtake_ok q b.length c (fb b) hcap hmost hz w hq h2)
    by_cases h9 : b.length < 9
    · have HR := Lib.hid (read_low h2 h9)
      have e7 : ((b.length - 2 : Nat) : Int) < 7 := by omega
      clear hq h2
      go_enter Try.func15, Try.ntmps15
      go_wp2_with (go_at_call 32; refine HT.out.mono ?_; rintro e_ w1 ⟨rfl, g1⟩; have G1 := Lib.hid g1; clear g1)
      go_returns
      exact read_none HR.out G1.out
    · have hlen : (b.length - 2) = (b.length - 9) + 7 := by omega
      rw [hlen] at HT
      have H2 := Lib.hid (And.intro h2 h9)
      have HB9 := Lib.hid (show b.length = (b.length - 9) + 9 by omega)
      obtain ⟨g, o, rfl, hB⟩ := hq (by omega)
      have HBT := Lib.hid hB
      clear hq h2 h20 h9 hlen hB
      go_enter Try.func15, Try.ntmps15
      go_upto_region 6 with (go_at_call 32; refine HT.out.mono ?_; rintro e_ w1 ⟨rfl, g1⟩)
      generalize hm : b.length - 9 = m at *
      have hm9 : b.length = m + 9 := by have := HB9.out; omega
      have e7 : ¬ ((m : Int) + 7 < 7) := by omega
      have hB : Byt w1 g o b.length (fb b) := HBT.out.on g1
      have hN4 : Calls Try.prog 33 #[.slice (some ⟨g, o, none⟩) 4 c] w1 fun r w' => r = .returned (.int .i64 (numF (fb b) 0 4)) ∧ w1 = w' := rnum_c _ 4 c (fb b) (by decide) (by omega) _ (Byq.of (hB.le (by omega)))
      have hN3 : Calls Try.prog 33 #[.slice (some ⟨g, o + 4, none⟩) 3 (c - 4)] w1 fun r w' => r = .returned (.int .i64 (numF (fb b) 4 3)) ∧ w1 = w' := by
        rw [← num_sh]
        exact rnum_c _ 3 (c - 4) _ (by decide) (by omega) _ (num_at (k := 4) (j := 3) hB (by omega))
      have HN4 := Lib.hid hN4
      have HN3 := Lib.hid hN3
      have kc4 : 4 ≤ c := by omega
      have kc7 : 7 ≤ c := by omega
      have n40 := num_lo (fb b) 0 4
      have n41 := num4 (fb b) 0
      have n30 := num_lo (fb b) 4 3
      have n31 := num3 (fb b) 4
      have HQ7 := Lib.hid (show 7 < c from by omega)
      clear hN4 hN3
      obtain ⟨V, hV⟩ : ∃ V, V = numF (fb b) 0 4 := ⟨_, rfl⟩
      obtain ⟨U, hU⟩ : ∃ U, U = numF (fb b) 4 3 := ⟨_, rfl⟩
      rw [← hV] at n40 n41 HN4
      rw [← hU] at n30 n31 HN3
      have G1 := Lib.hid g1
      have HV := Lib.hid hV
      have HU := Lib.hid hU
      have HM := Lib.hid hm9
      have HC := Lib.hid (And.intro hcap hmost)
      clear hV hU hm9 g1 hm HB9 hB HBT hcap hmost HT
      have e72 : (m : Int) + 7 - 7 = m := by omega
      go_upto_region 7 with (go_at_call 33; refine HN4.out.mono ?_; rintro e_ w' ⟨rfl, rfl⟩)
      clear HN4
      go_upto_region 8 with (go_at_call 33; refine HN3.out.mono ?_; rintro e_ w' ⟨rfl, rfl⟩)
      clear HN3
      by_cases a1 : V < 1
      · have HR := Lib.hid (read_form H2.out.1 H2.out.2 (.inl (HV.out ▸ a1)))
        go_wp2_with fail
        go_returns
        exact read_none HR.out G1.out
      · by_cases a2 : 1073741824 < V
        · have HR := Lib.hid (read_form H2.out.1 H2.out.2 (.inr (.inl (HV.out ▸ a2))))
          go_wp2_with fail
          go_returns
          exact read_none HR.out G1.out
        · by_cases a3 : 65536 < U
          · have HR := Lib.hid (read_form H2.out.1 H2.out.2 (.inr (.inr (.inl (HU.out ▸ a3)))))
            go_wp2_with fail
            go_returns
            exact read_none HR.out G1.out
          · by_cases a4 : U = (m : Int)
            · have HR := Lib.hid (read_good H2.out.1 H2.out.2 (by rw [← HV.out, ← HU.out]; have := HM.out; omega))
              subst a4
              go_upto_region 10 with (fail)
              refine wp_region_quiet_below (by kernel_rfl) (by kernel_rfl) ?_
              repeat (go_big_quiet_step (fail))
              refine wpQuiet_nil ?_
              intro w' hw'
              obtain ⟨rg, rfl⟩ := hw'
              generalize hq7 : (if c = 7 then (some ⟨g, o, none⟩ : Option Addr) else some ⟨g, o + 7, none⟩) = q7
              have HQ := Lib.hid (show 0 < m → q7 = some ⟨g, o + 7, none⟩ from fun _ => by rw [← hq7, if_neg (by have := HQ7.out; omega)])
              clear hq7
              go_wp2_with fail
              go_returns
              rw [HV.out]
              exact rread_at HS.out HB.out HM.out HQ.out HR.out (after G1.out (below_regrown w1 _ _))
            · have HR := Lib.hid (read_form H2.out.1 H2.out.2 (.inr (.inr (.inr (by rw [← HU.out]; have := HM.out; omega)))))
              have a4' : (U != wrap64 (m : Int)) = true := by rw [IntWalk.wrap64_in _ (by have := HM.out; omega)]; simpa using a4
              go_wp2_with fail
              go_returns
              exact read_none HR.out G1.out
  · have HR := Lib.hid (show readL b = (0, [], if b.length < 2 then 3 else 4) by
      split
      · rename_i h; exact read_short h
      · rename_i h; exact read_sum h h2)
    have HT := Lib.hid (rtake_no q b.length c (fb b) hcap hmost hz w hq h2 _ rfl)
    obtain ⟨E, hEe⟩ : ∃ E, E = (if b.length < 2 then (3 : Int) else 4) := ⟨_, rfl⟩
    rw [← hEe] at HR HT
    have hE : E ≠ 0 := by rw [hEe]; split <;> decide
    clear hEe
    clear hq h2
    go_enter Try.func15, Try.ntmps15
    go_wp2_with (go_at_call 32; refine HT.out.mono ?_; rintro e_ w1 ⟨rfl, g1⟩; have G1 := Lib.hid g1; clear g1)
    go_returns
    exact read_none HR.out G1.out
end Go.Proofs.Ytkopenemoddbbaa

/- An id's record: the walk of the program. -/
namespace Go.Proofs.Ytkopenemoddbbaa
open Go.RowKit
attribute [local go_sem] Oper.semAt_some

/-- The record of a slot. -/
noncomputable def recAt (S : DS) (k : Int) : Int × Bs × Int := readL ((S.get k).getD [])
/-- An id's record: its slot, its version, its body. -/
noncomputable def ofV (S : DS) (id : Int) : Int × Int × Bs :=
  if (recAt S (2 * id)).2.2 = 0 then
    if (recAt S (2 * id + 1)).2.2 = 0 ∧ (recAt S (2 * id)).1 < (recAt S (2 * id + 1)).1 then (2 * id + 1, (recAt S (2 * id + 1)).1, (recAt S (2 * id + 1)).2.1)
    else (2 * id, (recAt S (2 * id)).1, (recAt S (2 * id)).2.1)
  else if (recAt S (2 * id + 1)).2.2 = 0 then (2 * id + 1, (recAt S (2 * id + 1)).1, (recAt S (2 * id + 1)).2.1)
  else (2 * id + 1, 0, [])
structure StoreIs (w : World) (base : Nat) (M : Nat → Prop) (s d : Nat) (S : DS) : Prop where
  blk : Blk w s 59 #[.pointer (some ⟨d, 0, none⟩)]
  disk : DiskIs w base M d S
  based : base ≤ s
theorem StoreIs.on {w w' : World} {base : Nat} {M : Nat → Prop} {s d : Nat} {S : DS} (h : StoreIs w base M s d S) (hb : Below w.heap.size w w') : StoreIs w' base M s d S := ⟨h.blk.on hb, h.disk.on hb, h.based⟩
theorem get_size {S : DS} {N M : Nat} (h : DOk S N M) (k : Int) : ((S.get k).getD []).length ≤ M := by
  unfold DS.get
  cases hg : getL S.now k with
  | none => simp
  | some b =>
    unfold getL at hg
    cases hf : S.now.find? fun p => p.1 == k with
    | none => rw [hf] at hg; cases hg
    | some p =>
      rw [hf] at hg
      obtain rfl : p.2 = b := by simpa using hg
      exact h.now.2.2.2 p (List.mem_of_find?_eq_some hf)
/-- The best of the first k slots. -/
noncomputable def bestS (S : DS) (id : Int) : Nat → Int × Int × Bs
  | 0 => (2 * id + 1, 0, [])
  | k + 1 => if (recAt S (2 * id + k)).2.2 = 0 ∧ (bestS S id k).2.1 < (recAt S (2 * id + k)).1 then (2 * id + k, (recAt S (2 * id + k)).1, (recAt S (2 * id + k)).2.1) else bestS S id k
theorem recAt_pos {S : DS} {k : Int} (h : (recAt S k).2.2 = 0) : 1 ≤ (recAt S k).1 ∧ (recAt S k).1 ≤ 1073741824 := by
  unfold recAt at *
  rcases read_cases ((S.get k).getD []) with ⟨h1, -⟩ | ⟨-, h1, h2, -⟩
  · omega
  · exact ⟨h1, h2⟩
theorem recAt_no {S : DS} {k : Int} (h : (recAt S k).2.2 ≠ 0) : (recAt S k).1 = 0 ∧ (recAt S k).2.1 = [] := by
  unfold recAt at *
  rcases read_cases ((S.get k).getD []) with ⟨-, h1⟩ | ⟨h1, -⟩
  · exact h1
  · exact absurd h1 h
theorem recAt_int (S : DS) (k : Int) : 0 ≤ (recAt S k).1 ∧ (recAt S k).1 ≤ 1073741824 := by
  by_cases h : (recAt S k).2.2 = 0
  · have := recAt_pos h; omega
  · have := (recAt_no h).1; omega
theorem bestS_succ (S : DS) (id : Int) (k : Nat) : bestS S id (k + 1) = if (recAt S (2 * id + k)).2.2 = 0 ∧ (bestS S id k).2.1 < (recAt S (2 * id + k)).1 then (2 * id + k, (recAt S (2 * id + k)).1, (recAt S (2 * id + k)).2.1) else bestS S id k := rfl
theorem bestS_two (S : DS) (id : Int) : bestS S id 2 = ofV S id := by
  have p1 : (recAt S (2 * id)).2.2 = 0 → 1 ≤ (recAt S (2 * id)).1 := fun h => (recAt_pos h).1
  have p2 : (recAt S (2 * id + 1)).2.2 = 0 → 1 ≤ (recAt S (2 * id + 1)).1 := fun h => (recAt_pos h).1
  unfold ofV
  simp only [bestS, Int.natCast_zero, Int.add_zero, Int.natCast_one]
  by_cases h1 : (recAt S (2 * id)).2.2 = 0
  · have := p1 h1
    rw [if_pos (show (recAt S (2 * id)).2.2 = 0 ∧ 0 < (recAt S (2 * id)).1 from ⟨h1, by omega⟩), if_pos h1]
  · rw [if_neg (show ¬ ((recAt S (2 * id)).2.2 = 0 ∧ 0 < (recAt S (2 * id)).1) from fun h => h1 h.1), if_neg h1]
    by_cases h2 : (recAt S (2 * id + 1)).2.2 = 0
    · have := p2 h2
      rw [if_pos ⟨h2, by dsimp only; omega⟩, if_pos h2]
    · rw [if_neg (fun h => h2 h.1), if_neg h2]
theorem bestS_int (S : DS) (id : Int) : ∀ k, 0 ≤ (bestS S id k).2.1 ∧ (bestS S id k).2.1 ≤ 1073741824
  | 0 => by simp [bestS]
  | k + 1 => by
    unfold bestS
    split
    · exact recAt_int S _
    · exact bestS_int S id k
theorem idx20 (a b : Int) (w : World) : (Instr.index 105 (.agg #[.int .i64 a, .int .i64 b]) (.int .i64 0)).run Try.prog w = .ok (.int .i64 a) w := by kernel_rfl
theorem idx21 (a b : Int) (w : World) : (Instr.index 105 (.agg #[.int .i64 a, .int .i64 b]) (.int .i64 1)).run Try.prog w = .ok (.int .i64 b) w := by kernel_rfl
def RecR (base : Nat) (x : Int × Int × Bs) (r : Ending) (w w' : World) : Prop := ∃ sl : SL, r = .returned (.agg #[.int .i64 x.1, .int .i64 x.2.1, slV sl]) ∧ GoodS w' base sl ∧ rdB w' sl = x.2.2 ∧ Below w.heap.size w w'
/-- The best so far, in memory. -/
def BestI (w : World) (base r t : Nat) (b : Int × Int × Bs) (wr : World) : Prop := Below w.heap.size w wr ∧ Blk wr r 73 #[.int .i64 0, .int .i64 0, .slice none 0 0] ∧ ∃ sl : SL, Blk wr t 73 #[.int .i64 b.1, .int .i64 b.2.1, slV sl] ∧ GoodS wr base sl ∧ rdB wr sl = b.2.2
theorem BestI.on {w wr wr' : World} {base r t : Nat} {b : Int × Int × Bs} (h : BestI w base r t b wr) (g : Below wr.heap.size wr wr') : BestI w base r t b wr' := by
  obtain ⟨h1, h2, sl, h3, h4, h5⟩ := h
  exact ⟨after h1 g, h2.on g, sl, h3.on g, (h4.on g).1, (h4.on g).2.trans h5⟩
theorem good_rec {W : World} {r base : Nat} {cs : Array Value} {sl : SL} (hB : Blk W r 73 cs) (hs : GoodS W base sl) (hb0 : base ≤ r) (u v x : Value) : GoodS (((W.setCell ⟨r, 0, none⟩ u).setCell ⟨r, 1, none⟩ v).setCell ⟨r, 2, none⟩ x) base sl ∧ rdB (((W.setCell ⟨r, 0, none⟩ u).setCell ⟨r, 1, none⟩ v).setCell ⟨r, 2, none⟩ x) sl = rdB W sl := by
  have hk : Kept (fun b => b ≠ r) W (((W.setCell ⟨r, 0, none⟩ u).setCell ⟨r, 1, none⟩ v).setCell ⟨r, 2, none⟩ x) := (((Kept.refl _ W).setCell (by simp) _).setCell (by simp) _).setCell (by simp) _
  refine hs.kept hk fun b hb e => ?_
  subst e
  rcases hb with hb | ⟨cur, hb⟩
  · omega
  · have := blk_one hb hB
    revert this
    decide
theorem BestI.put {w wr : World} {base r t : Nat} {b b' : Int × Int × Bs} {sl : SL} (h : BestI w base r t b wr) (hrt : r ≠ t) (hbt : base ≤ t) (hwt : w.heap.size ≤ t) (hs : GoodS wr base sl) (hr : rdB wr sl = b'.2.2) : BestI w base r t b' (((wr.setCell ⟨t, 0, none⟩ (.int .i64 b'.1)).setCell ⟨t, 1, none⟩ (.int .i64 b'.2.1)).setCell ⟨t, 2, none⟩ (slV sl)) := by
  obtain ⟨g1, h2, sl0, h3, -, -⟩ := h
  obtain ⟨k1, k2⟩ := good_rec h3 hs hbt (.int .i64 b'.1) (.int .i64 b'.2.1) (slV sl)
  exact ⟨far_below3 (Below.refl _ _) g1 hwt rfl, ((h2.far (p := ⟨t, 0, none⟩) hrt _).far (p := ⟨t, 1, none⟩) hrt _).far (p := ⟨t, 2, none⟩) hrt _, sl, h3.st3 _ _ _, k1, k2.trans hr⟩
set_option maxRecDepth 100000 in
set_option maxHeartbeats 4000000 in
theorem sof_c (base s d : Nat) (M : Nat → Prop) (S : DS) (N : Nat) (w : World) (h : StoreIs w base M s d S) (hok : DOk S N 1000000) (hN : N ≤ 100000) (id : Int) (h0 : 0 ≤ id) (h1 : id ≤ 1099511627776) (hbase : base ≤ w.heap.size) :
    Calls Try.prog 37 #[.pointer (some ⟨s, 0, none⟩), .int .i64 id] w fun r w' => RecR base (ofV S id) r w w' := by
  rw [← bestS_two]
  have HS := Lib.hid h
  have hB := h.blk
  have HG := Lib.hid fun (k : Int) (hk : In64 k) (W : World) (hb : Below w.heap.size w W) => get_c base d M S N W (h.disk.on hb) hok hN k hk
  have HZ := Lib.hid fun k => get_size hok k
  clear h hok hN
  have i20 := idx20 (2 * id) (2 * id + 1)
  have i21 := idx21 (2 * id) (2 * id + 1)
  go_enter Try.func37, Try.ntmps37
  go_upto_region 3 with (fail)
  obtain ⟨W0, hW0⟩ : ∃ W0, W0 = (w.alloc (.cells #[.int .i64 0, .int .i64 0, .slice none 0 0] 73)).alloc (.cells #[.int .i64 (2 * id + 1), .int .i64 0, .slice none 0 0] 73) := ⟨_, rfl⟩
  rw [← hW0]
  have HI0 : BestI w base w.heap.size (w.heap.size + 1) (bestS S id 0) W0 := by
    subst hW0
    have hs1 : (w.alloc (.cells #[.int .i64 0, .int .i64 0, .slice none 0 0] 73)).heap.size = w.heap.size + 1 := by simp
    refine ⟨(bel_alloc w _).trans (bel_alloc' (by rw [hs1]; omega) _), (Blk.new' rfl).on (bel_alloc _ _), (none, 0, 0), ?_, good_nil, rfl⟩
    rw [← hs1]
    exact Blk.new' rfl
  have HI := Lib.hid HI0
  have HT := Lib.hid (show w.heap.size ≠ w.heap.size + 1 ∧ base ≤ w.heap.size + 1 ∧ w.heap.size ≤ w.heap.size + 1 ∧ base ≤ w.heap.size from ⟨by omega, by omega, by omega, hbase⟩)
  generalize w.heap.size + 1 = t at *
  clear hW0 HI0 hbase
  go_loopw [23] (fun iv wr => ∃ k : Nat, k ≤ 2 ∧ iv = .int .i64 k ∧ BestI w base w.heap.size t (bestS S id k) wr) (fun iv _ => 2 - (intOf iv).toNat)
  case atStart => exact ⟨0, by omega, rfl, HI.out⟩
  case round =>
    obtain ⟨k, hk, hiv, hI⟩ := hrel
    rcases (by omega : k = 0 ∨ k = 1 ∨ k = 2) with rfl | rfl | rfl
    · obtain rfl : _ = Value.int .i64 0 := hiv
      have hn : (bestS S id (0 + 1)) = if (recAt S (2 * id)).2.2 = 0 ∧ (bestS S id 0).2.1 < (recAt S (2 * id)).1 then (2 * id, (recAt S (2 * id)).1, (recAt S (2 * id)).2.1) else bestS S id 0 := by rw [bestS_succ, show (2 * id + ((0 : Nat) : Int)) = 2 * id by omega]
      have HNx := Lib.hid hn
      have HI1 := Lib.hid hI
      have hBs : wr.cell? ⟨s, 0, none⟩ = some (.pointer (some ⟨d, 0, none⟩)) := (HS.out.blk.on HI1.out.1).cell 0
      clear hn hI
      generalize bestS S id 0 = b at *
      go_upto_region 6 with (go_at_call 40; refine (HG.out (2 * id) (by unfold In64; omega) _ HI1.out.1).mono ?_; rintro e_ w1 ⟨s1, rfl, hs1, hr1, gb1⟩)
      have HQ := Lib.hid (sread_c base s1 w1 hs1 (by rw [← hs1.len, hr1]; exact HZ.out _))
      rw [hr1] at HQ
      rw [show readL ((S.get (2 * id)).getD []) = recAt S (2 * id) from rfl] at HQ
      have HI2 := Lib.hid (HI1.out.on gb1)
      generalize recAt S (2 * id) = x at *
      obtain ⟨v, bd, e⟩ := x
      go_upto_region 7 with (go_at_call 14; refine HQ.out.mono ?_; rintro e_ w2 ⟨s2, rfl, hs2, hr2, gb2⟩)
      have HI := Lib.hid (HI2.out.on gb2)
      clear HI1 HI2 gb1 gb2 hs1 hr1 HQ
      obtain ⟨b1, b2, b3⟩ := b
      have HIc := HI.out
      obtain ⟨-, Br, sl, Bt, -, -⟩ := HIc
      obtain ⟨t0, t1, t2, f0, f1, f2⟩ := Bt.c3
      obtain ⟨qs, ns, cs⟩ := s2
      obtain ⟨ql, nl, cl⟩ := sl
      simp only [slV] at t2 ⊢
      have HS2 := Lib.hid (And.intro hs2 hr2)
      clear hs2 hr2 Br Bt
      by_cases he : e = 0
      · by_cases hv : b2 < v
        · have HE := Lib.hid (show bestS S id 1 = (2 * id, v, bd) from by rw [HNx.out, if_pos ⟨he, hv⟩])
          go_wp2_with fail
          have HP := HI.out.put (b' := (2 * id, v, bd)) (sl := (qs, ns, cs)) HT.out.1 HT.out.2.1 HT.out.2.2.1 HS2.out.1 HS2.out.2
          refine ⟨⟨1, by omega, rfl, ?_⟩, by decide⟩
          rw [HE.out]
          exact HP
        · have HE := Lib.hid (show bestS S id 1 = (b1, b2, b3) from by rw [HNx.out, if_neg (fun h => hv h.2)])
          go_wp2_with fail
          exact ⟨⟨1, by omega, rfl, by rw [HE.out]; exact HI.out⟩, by decide⟩
      · have HE := Lib.hid (show bestS S id 1 = (b1, b2, b3) from by rw [HNx.out, if_neg (fun h => he h.1)])
        go_wp2_with fail
        exact ⟨⟨1, by omega, rfl, by rw [HE.out]; exact HI.out⟩, by decide⟩
    · obtain rfl : _ = Value.int .i64 1 := hiv
      have hn : (bestS S id (1 + 1)) = if (recAt S (2 * id + 1)).2.2 = 0 ∧ (bestS S id 1).2.1 < (recAt S (2 * id + 1)).1 then (2 * id + 1, (recAt S (2 * id + 1)).1, (recAt S (2 * id + 1)).2.1) else bestS S id 1 := by rw [bestS_succ]; rfl
      have HNx := Lib.hid hn
      have HI1 := Lib.hid hI
      have hBs : wr.cell? ⟨s, 0, none⟩ = some (.pointer (some ⟨d, 0, none⟩)) := (HS.out.blk.on HI1.out.1).cell 0
      clear hn hI
      generalize bestS S id 1 = b at *
      go_upto_region 6 with (go_at_call 40; refine (HG.out (2 * id + 1) (by unfold In64; omega) _ HI1.out.1).mono ?_; rintro e_ w1 ⟨s1, rfl, hs1, hr1, gb1⟩)
      have HQ := Lib.hid (sread_c base s1 w1 hs1 (by rw [← hs1.len, hr1]; exact HZ.out _))
      rw [hr1] at HQ
      rw [show readL ((S.get (2 * id + 1)).getD []) = recAt S (2 * id + 1) from rfl] at HQ
      have HI2 := Lib.hid (HI1.out.on gb1)
      generalize recAt S (2 * id + 1) = x at *
      obtain ⟨v, bd, e⟩ := x
      go_upto_region 7 with (go_at_call 14; refine HQ.out.mono ?_; rintro e_ w2 ⟨s2, rfl, hs2, hr2, gb2⟩)
      have HI := Lib.hid (HI2.out.on gb2)
      clear HI1 HI2 gb1 gb2 hs1 hr1 HQ
      obtain ⟨b1, b2, b3⟩ := b
      have HIc := HI.out
      obtain ⟨-, Br, sl, Bt, -, -⟩ := HIc
      obtain ⟨t0, t1, t2, f0, f1, f2⟩ := Bt.c3
      obtain ⟨qs, ns, cs⟩ := s2
      obtain ⟨ql, nl, cl⟩ := sl
      simp only [slV] at t2 ⊢
      have HS2 := Lib.hid (And.intro hs2 hr2)
      clear hs2 hr2 Br Bt
      by_cases he : e = 0
      · by_cases hv : b2 < v
        · have HE := Lib.hid (show bestS S id 2 = (2 * id + 1, v, bd) from by rw [HNx.out, if_pos ⟨he, hv⟩])
          go_wp2_with fail
          have HP := HI.out.put (b' := (2 * id + 1, v, bd)) (sl := (qs, ns, cs)) HT.out.1 HT.out.2.1 HT.out.2.2.1 HS2.out.1 HS2.out.2
          refine ⟨⟨2, by omega, rfl, ?_⟩, by decide⟩
          rw [HE.out]
          exact HP
        · have HE := Lib.hid (show bestS S id 2 = (b1, b2, b3) from by rw [HNx.out, if_neg (fun h => hv h.2)])
          go_wp2_with fail
          exact ⟨⟨2, by omega, rfl, by rw [HE.out]; exact HI.out⟩, by decide⟩
      · have HE := Lib.hid (show bestS S id 2 = (b1, b2, b3) from by rw [HNx.out, if_neg (fun h => he h.1)])
        go_wp2_with fail
        exact ⟨⟨2, by omega, rfl, by rw [HE.out]; exact HI.out⟩, by decide⟩
    · obtain rfl : _ = Value.int .i64 2 := hiv
      obtain ⟨⟨b1, b2, b3⟩, hb⟩ : ∃ b, bestS S id 2 = b := ⟨_, rfl⟩
      rw [hb] at hI
      have HB := Lib.hid hb
      clear hb
      have HI := Lib.hid hI
      obtain ⟨-, Br, ⟨ql, nl, cl⟩, Bt, hg, hr⟩ := hI
      have HGR := Lib.hid (And.intro hg hr)
      simp only [slV] at Bt
      have HBr := Lib.hid Br
      obtain ⟨t0, t1, t2, f0, f1, f2⟩ := Bt.c3
      obtain ⟨r0, r1, r2, q0, q1, q2⟩ := Br.c3
      clear Br Bt hg hr
      go_wp2_with fail
      have R2 := HBr.out.st3 (.int .i64 b1) (.int .i64 b2) (.slice ql nl cl)
      obtain ⟨d0, d1, d2, -, -, -⟩ := R2.c3
      have hg := good_rec HBr.out HGR.out.1 HT.out.2.2.2 (.int .i64 b1) (.int .i64 b2) (.slice ql nl cl)
      refine bodyPost_ret (v := .agg #[.int .i64 b1, .int .i64 b2, .slice ql nl cl]) (by simp [results, Try.results37, go_sem, d0, d1, d2]) rfl ?_
      rw [HB.out]
      exact ⟨(ql, nl, cl), rfl, hg.1, hg.2.trans HGR.out.2, far_below3 (Below.refl _ _) HI.out.1 (Nat.le_refl _) rfl⟩
end Go.Proofs.Ytkopenemoddbbaa

/- Load, Save: the walks of the program. -/
namespace Go.Proofs.Ytkopenemoddbbaa
open Go.RowKit
attribute [local go_sem] Oper.semAt_some

theorem xor_one_n (N : Nat) : 2 * N ^^^ 1 = 2 * N + 1 := by
  have h := Nat.xor_div_two (a := 2 * N) (b := 1)
  have h2 := Nat.xor_mod_two_pow (a := 2 * N) (b := 1) (n := 1)
  rw [show 2 * N / 2 = N by omega, show 1 / 2 = 0 by decide, Nat.xor_zero] at h
  rw [Nat.pow_one, show 2 * N % 2 = 0 by omega, show 1 % 2 = 1 by decide, Nat.zero_xor] at h2
  omega
theorem xor_one_m (N : Nat) : (2 * N + 1) ^^^ 1 = 2 * N := by
  rw [← xor_one_n N, Nat.xor_assoc, Nat.xor_self, Nat.xor_zero]
/-- The other slot. -/
theorem xor_slot {id x : Int} (h0 : 0 ≤ id) (h1 : id ≤ 1099511627776) (hx : x = 2 * id ∨ x = 2 * id + 1) : bits .xor .i64 x 1 = 4 * id + 1 - x := by
  obtain ⟨N, rfl⟩ := Int.eq_ofNat_of_zero_le h0
  have key : ∀ a b : Nat, (a : Int) < 4398046511104 → (b : Int) < 4398046511104 → a ^^^ 1 = b → bits .xor .i64 (a : Int) 1 = b := fun a b ha hb e => by
    show IntKind.i64.wrap ((BitVec.ofInt 64 (a : Int) ^^^ BitVec.ofInt 64 1).toNat : Int) = (b : Int)
    have e1 : (BitVec.ofInt 64 (a : Int)).toNat = a := by rw [BitVec.toNat_ofInt]; omega
    have e2 : (BitVec.ofInt 64 1).toNat = 1 := by decide
    rw [BitVec.toNat_xor, e1, e2, e, IntKind.wrap_i64]
    omega
  rcases hx with rfl | rfl
  · have := key (2 * N) (2 * N + 1) (by omega) (by omega) (xor_one_n N)
    rw [show (2 * (N : Int)) = ((2 * N : Nat) : Int) by omega, this]; omega
  · have := key (2 * N + 1) (2 * N) (by omega) (by omega) (xor_one_m N)
    rw [show (2 * (N : Int) + 1) = ((2 * N + 1 : Nat) : Int) by omega, this]; omega
theorem ofV_slot (S : DS) (id : Int) : (ofV S id).1 = 2 * id ∨ (ofV S id).1 = 2 * id + 1 := by
  unfold ofV
  split
  · split
    · exact .inr rfl
    · exact .inl rfl
  · split <;> exact .inr rfl
theorem ofV_int (S : DS) (id : Int) : 0 ≤ (ofV S id).2.1 ∧ (ofV S id).2.1 ≤ 1073741824 := by
  rw [← bestS_two]; exact bestS_int S id 2
/-- May an id be? -/
def mayId (id : Int) : Bool := decide (0 ≤ id) && decide (id ≤ 1099511627776)
theorem smay_c (id : Int) (w : World) : Calls Try.prog 36 #[.int .i64 id] w fun r w' => r = .returned (.bool (mayId id)) ∧ w = w' := by
  unfold mayId
  go_enter Try.func36, Try.ntmps36
  by_cases h1 : 0 ≤ id
  · by_cases h2 : id ≤ 1099511627776
    · go_wp2_with fail
      go_returns
      simp [h1, h2]
    · have h2' : 1099511627776 < id := by omega
      go_wp2_with fail
      go_returns
      simp [h2]
  · have h1' : id < 0 := by omega
    go_wp2_with fail
    go_returns
    simp
    omega
noncomputable def loadV (S : DS) (id : Int) : Bs × Int × Bool := if mayId id then ((ofV S id).2.2, (ofV S id).2.1, decide (0 < (ofV S id).2.1)) else ([], 0, false)
def LoadR (base : Nat) (x : Bs × Int × Bool) (r : Ending) (w w' : World) : Prop := ∃ sl : SL, r = .returned (.tuple #[slV sl, .int .i64 x.2.1, .bool x.2.2]) ∧ GoodS w' base sl ∧ rdB w' sl = x.1 ∧ Below w.heap.size w w'
set_option maxRecDepth 100000 in
set_option maxHeartbeats 4000000 in
theorem sload_c (base s d : Nat) (M : Nat → Prop) (S : DS) (N : Nat) (w : World) (h : StoreIs w base M s d S) (hok : DOk S N 1000000) (hN : N ≤ 100000) (id : Int) (hbase : base ≤ w.heap.size) :
    Calls Try.prog 19 #[.pointer (some ⟨s, 0, none⟩), .int .i64 id] w fun r w' => LoadR base (loadV S id) r w w' := by
  have HM := Lib.hid (smay_c id w)
  unfold loadV
  by_cases hm : mayId id = true
  · have hm2 : 0 ≤ id ∧ id ≤ 1099511627776 := by unfold mayId at hm; simpa using hm
    have HO := Lib.hid (sof_c base s d M S N w h hok hN id hm2.1 hm2.2 hbase)
    have HX := Lib.hid (ofV_int S id)
    rw [hm] at HM
    rw [if_pos hm]
    clear h hok hN hm
    generalize ofV S id = x at *
    obtain ⟨x1, x2, x3⟩ := x
    go_enter Try.func19, Try.ntmps19
    go_upto_region 4 with first
      | (go_at_call 36; refine HM.out.mono ?_; rintro e_ w' ⟨rfl, rfl⟩)
      | (go_at_call 37; refine HO.out.mono ?_; rintro e_ w1 ⟨⟨q, n, c⟩, rfl, hg, hr, g1⟩; dsimp only [slV] at *)
    obtain ⟨W2, hW⟩ : ∃ W2, W2 = w1.alloc (.cells #[.int .i64 x1, .int .i64 x2, .slice q n c] 73) := ⟨_, rfl⟩
    rw [← hW]
    have C := Blk.fresh hW
    have g2 : Below w1.heap.size w1 W2 := by rw [hW]; exact bel_alloc _ _
    have c0 := fun d os => (C.re d os).cell 1
    have c2 := fun d os => (C.re d os).cell 2
    have HG := Lib.hid (And.intro hg hr)
    have HB := Lib.hid (And.intro g1 g2)
    clear hg hr g1 g2 C hW
    refine wp_region_quiet_below (by kernel_rfl) (by kernel_rfl) ?_
    repeat (go_big_quiet_step (fail))
    refine wpQuiet_nil ?_
    intro w' hw'
    obtain ⟨rg, rfl⟩ := hw'
    clear c0 c2
    go_wp2_with fail
    go_returns
    obtain ⟨h1, h2⟩ := HG.out.1.on (after HB.out.2 (below_regrown W2 _ _))
    exact ⟨(q, n, c), rfl, h1, h2.trans HG.out.2, after (after HB.out.1 HB.out.2) (below_regrown W2 _ _)⟩
  · have hm' : mayId id = false := by simpa using hm
    rw [hm'] at HM
    rw [if_neg hm]
    clear h hok hN hm hm'
    go_enter Try.func19, Try.ntmps19
    go_wp2_with (go_at_call 36; refine HM.out.mono ?_; rintro e_ w' ⟨rfl, rfl⟩)
    go_returns
    exact ⟨(none, 0, 0), rfl, good_nil, rfl, Below.refl _ _⟩
/-- What a save does. -/
noncomputable def saveV (S : DS) (id : Int) (b : Bs) : DS × Int :=
  if mayId id then
    match writeL ((ofV S id).2.1 + 1) b with
    | none => (S, 1)
    | some r => if (S.put (4 * id + 1 - (ofV S id).1) r).2 = 0 then (S.put (4 * id + 1 - (ofV S id).1) r).1.sync else S.put (4 * id + 1 - (ofV S id).1) r
  else (S, 1)
theorem StoreIs.turn {w w' : World} {base : Nat} {M : Nat → Prop} {s d : Nat} {S S' : DS} (h : StoreIs w base M s d S) (ht : Turn w base M d S' w') : ∃ M', StoreIs w' base M' s d S' := by
  have hb := ht.blk h.disk h.blk (by decide)
  obtain ⟨M', h1, -, -⟩ := ht
  exact ⟨M', hb, h1, h.based⟩
/-- Two turns, one behind the other. -/
theorem Turn.then {w w' w'' : World} {base : Nat} {M : Nat → Prop} {d : Nat} {S' S'' : DS} (h : Turn w base M d S' w') (k : ∀ M', DiskIs w' base M' d S' → Turn w' base M' d S'' w'') : Turn w base M d S'' w'' := by
  obtain ⟨M', h1, h2, h3⟩ := h
  exact Turn.trans h2 h3 (k M' h1)
theorem Turn.ahead {w w' w'' : World} {base : Nat} {M : Nat → Prop} {d : Nat} {S'' : DS} (hb : Below w.heap.size w w') (k : Turn w' base M d S'' w'') : Turn w base M d S'' w'' :=
  Turn.trans (fun _ h => .inl h) ((Kept.of_below hb).mono fun _ _ => trivial) k
set_option maxRecDepth 100000 in
set_option maxHeartbeats 4000000 in
theorem ssave_c (base s d : Nat) (M : Nat → Prop) (S : DS) (N : Nat) (w : World) (h : StoreIs w base M s d S) (hok : DOk S N 1000000) (hN : N ≤ 90000) (id : Int) (sl : SL) (hs : GoodS w base sl) (hz : sl.2.1 ≤ 1000000) (hbase : base ≤ w.heap.size) :
    Calls Try.prog 18 #[.pointer (some ⟨s, 0, none⟩), .int .i64 id, slV sl] w fun r w' => r = .returned (.int .i64 (saveV S id (rdB w sl)).2) ∧ Turn w base M d (saveV S id (rdB w sl)).1 w' := by
  have HM := Lib.hid (smay_c id w)
  have HT := Lib.hid (Turn.same h.disk (Below.refl _ _))
  have hdi := h.disk
  have hslot := ofV_slot S id
  obtain ⟨⟨S2, e2⟩, hSv⟩ : ∃ v, saveV S id (rdB w sl) = v := ⟨_, rfl⟩
  rw [hSv]
  dsimp only
  unfold saveV at hSv
  by_cases hm : mayId id = true
  · have hm2 : 0 ≤ id ∧ id ≤ 1099511627776 := by unfold mayId at hm; simpa using hm
    have HO := Lib.hid (sof_c base s d M S N w h hok (by omega) id hm2.1 hm2.2 hbase)
    have hx := ofV_int S id
    rw [hm] at HM
    rw [if_pos hm] at hSv
    have HS := Lib.hid h
    have HOK := Lib.hid hok
    clear h hok hm
    generalize ofV S id = x at *
    obtain ⟨x1, x2, x3⟩ := x
    dsimp only at hslot hx hSv
    have hslot2 : In64 (4 * id + 1 - x1) := by unfold In64; omega
    obtain ⟨q, n, c⟩ := sl
    have HW := Lib.hid fun (W : World) (hb : Below w.heap.size w W) => (swrite_c base (x2 + 1) (by unfold In64; omega) (q, n, c) W (hs.on hb).1 hz)
    have HRD := Lib.hid fun (W : World) (hb : Below w.heap.size w W) => (hs.on hb).2
    generalize rdB w (q, n, c) = b at *
    clear hs
    go_enter Try.func18, Try.ntmps18
    go_upto_region 4 with first
      | (go_at_call 36; refine HM.out.mono ?_; rintro e_ w' ⟨rfl, rfl⟩)
      | (go_at_call 37; refine HO.out.mono ?_; rintro e_ w1 ⟨⟨sq, sn, sc⟩, rfl, -, -, g1⟩; dsimp only [slV] at *)
    obtain ⟨W2, hW⟩ : ∃ W2, W2 = w1.alloc (.cells #[.int .i64 x1, .int .i64 x2, .slice sq sn sc] 73) := ⟨_, rfl⟩
    rw [← hW]
    have C := Blk.fresh hW
    have g2 : Below w.heap.size w W2 := after g1 (by rw [hW]; exact bel_alloc _ _)
    have c1 := C.cell 1
    have HW2 := HW.out W2 g2
    rw [HRD.out W2 g2] at HW2
    have HW3 := Lib.hid HW2
    have HC := Lib.hid C
    have G2 := Lib.hid g2
    have hxor := xor_slot hm2.1 hm2.2 hslot
    generalize 4 * id + 1 - x1 = y at *
    have HSV := Lib.hid hSv
    clear hSv
    have hy : In64 y := hslot2
    clear hW HW HW2 hslot C g2 g1 HO HM HRD
    cases ho : writeL (x2 + 1) b with
    | none =>
      rw [ho] at HW3 HSV
      obtain ⟨rfl, rfl⟩ : S = S2 ∧ (1 : Int) = e2 := by simpa using HSV.out
      clear ho HSV
      go_upto_region 5 with (go_at_call 10; refine HW3.out.mono ?_; rintro e_ w3 ⟨s3, rfl, -, -, -, g3⟩; have G3 := Lib.hid (after G2.out g3); clear g3)
      go_wp2_with fail
      go_returns
      exact ⟨rfl, Turn.same hdi G3.out⟩
    | some rr =>
      rw [ho] at HW3 HSV
      clear ho
      go_upto_region 7 with (go_at_call 10; refine HW3.out.mono ?_; rintro e_ w3 ⟨⟨q3, n3, k3⟩, rfl, hg3, hr3, hz3, g3⟩; dsimp only [slV, Option.isSome, Option.getD] at *)
      have g23 := after G2.out g3
      have c0 := fun d os => ((HC.out.on g3).re d os).cell 0
      have b0 := fun d os => ((HS.out.blk.on g23).re d os).cell 0
      have H3 := Lib.hid (And.intro hg3 (And.intro hr3 hz3))
      have G3 := Lib.hid g23
      have HDI := Lib.hid (hdi.on g23)
      clear hg3 hr3 hz3 g3 g23 hdi c1 HC
      refine wp_sched [0, 0, 0, 0, 0, 0, 0, 0, 0, 3, 3] (fun _ _ _ => True) (by kernel_rfl) (by kernel_rfl) (fun _ _ _ _ h _ => h) ?_
      repeat (first | (refine wpQs_s ?_) | (refine wpQs_q (fun K hK => ?_); go_simp; first | (refine hK _ ?_; clear hK K) | (apply Exists.intro; refine ⟨fun _ => ?_, hK _ ?_⟩; (fail); clear hK K)) | (refine wpQs_f (fun K hK => ?_); go_simp; refine hK _ ?_; clear hK K))
      refine wpQs_nil ?_
      repeat (first | (refine wpLs_skip ?_) | (refine wpLs_one ?lsA (fun v_ => ?_); case lsA => (intro w_ hw_ hp_; (fail))))
      refine wpLs_nilB ?_
      simp only [tails]
      intro W4 h4 _
      clear c0 b0
      have HP := Lib.hid (put_c base d M S N W4 (HDI.out.on h4) HOK.out (by omega) y hy (q3, n3, k3) (H3.out.1.on h4).1 (by have := H3.out.2.2; dsimp only at this ⊢; omega) (Nat.le_trans hbase (after G3.out h4).size))
      rw [(H3.out.1.on h4).2, H3.out.2.1] at HP
      have HSS := Lib.hid (HS.out.on (after G3.out h4))
      have G4 := Lib.hid (after G3.out h4)
      have HOK2 := Lib.hid (HOK.out.put hy (b := rr) (by have := H3.out.1.len; rw [H3.out.2.1] at this; have := H3.out.2.2; dsimp only at *; omega))
      dsimp only [slV] at HP HSV
      clear h4
      obtain ⟨⟨S3, e3⟩, hP⟩ : ∃ v, S.put y rr = v := ⟨_, rfl⟩
      rw [hP] at HP HSV HOK2
      clear hP H3 HDI
      dsimp only at HP HSV HOK2
      by_cases he : e3 = 0
      · have hv := HSV.out
        rw [if_pos he] at hv
        subst he
        have HV := Lib.hid hv
        clear hv HSV
        go_upto_region 10 with (go_at_call 38; refine HP.out.mono ?_; rintro e_ w5 ⟨rfl, t5⟩)
        have k0 := (t5.blk HSS.out.disk HSS.out.blk (by decide)).cell 0
        have hb5 := (t5.out HSS.out.disk (Nat.le_trans hbase G4.out.size)).2.1
        obtain ⟨M5, d5, k2, k3⟩ := t5
        have HY := Lib.hid (sync_c base d M5 S3 (N + 1) w5 d5 HOK2.out (by omega) hb5)
        rw [HV.out] at HY
        dsimp only at HY
        have HK := Lib.hid (And.intro k2 k3)
        clear d5 k2 k3 hb5 HV
        go_wp2_with (go_at_call 39; refine HY.out.mono ?_; rintro e_ w6 ⟨rfl, t6⟩; have T6 := Lib.hid t6; clear t6)
        go_returns
        exact ⟨rfl, Turn.ahead G4.out (Turn.trans HK.out.1 HK.out.2 T6.out)⟩
      · have hv := HSV.out
        rw [if_neg he] at hv
        obtain ⟨rfl, rfl⟩ : S3 = S2 ∧ e3 = e2 := by simpa using hv
        clear hv HSV
        go_upto_region 9 with (go_at_call 38; refine HP.out.mono ?_; rintro e_ w5 ⟨rfl, t5⟩; have T5 := Lib.hid t5; clear t5)
        go_wp2_with fail
        go_returns
        exact ⟨rfl, Turn.ahead G4.out T5.out⟩
  · have hm' : mayId id = false := by simpa using hm
    rw [hm'] at HM
    rw [if_neg hm] at hSv
    obtain ⟨rfl, rfl⟩ : S = S2 ∧ (1 : Int) = e2 := by simpa using hSv
    clear hSv
    clear h hok hm hm' hdi
    go_enter Try.func18, Try.ntmps18
    go_wp2_with (go_at_call 36; refine HM.out.mono ?_; rintro e_ w' ⟨rfl, rfl⟩)
    go_returns
    exact ⟨rfl, HT.out⟩
end Go.Proofs.Ytkopenemoddbbaa

/- What saves do to records. No walk here. -/
namespace Go.Proofs.Ytkopenemoddbbaa

/-- It fails at nothing. -/
def Calm (S : DS) : Prop := S.fails = 0 ∧ S.waits = 0
theorem asked_calm {S : DS} (h : Calm S) : S.asked = (S, false) := by
  unfold DS.asked
  rw [if_neg (by rw [h.2]; decide), if_neg (by rw [h.1]; decide)]
theorem slots_ne {i j k l : Int} (hk : k = 2 * i ∨ k = 2 * i + 1) (hl : l = 2 * j ∨ l = 2 * j + 1) (h : i ≠ j) : k ≠ l := by omega
theorem of_other {S S' : DS} {j : Int} (h0 : recAt S' (2 * j) = recAt S (2 * j)) (h1 : recAt S' (2 * j + 1) = recAt S (2 * j + 1)) : ofV S' j = ofV S j := by
  unfold ofV
  rw [h0, h1]
/-- What is known of an id's record. -/
theorem of_is (S : DS) (id : Int) : ((ofV S id).1 = 2 * id + 1 ∧ (ofV S id).2.1 = 0 ∧ (ofV S id).2.2 = [] ∧ (recAt S (2 * id)).2.2 ≠ 0 ∧ (recAt S (2 * id + 1)).2.2 ≠ 0) ∨
    (recAt S (ofV S id).1 = ((ofV S id).2.1, (ofV S id).2.2, 0) ∧ 1 ≤ (ofV S id).2.1 ∧ ((recAt S (4 * id + 1 - (ofV S id).1)).2.2 = 0 → (recAt S (4 * id + 1 - (ofV S id).1)).1 ≤ (ofV S id).2.1)) := by
  have p1 : (recAt S (2 * id)).2.2 = 0 → 1 ≤ (recAt S (2 * id)).1 := fun h => (recAt_pos h).1
  have p2 : (recAt S (2 * id + 1)).2.2 = 0 → 1 ≤ (recAt S (2 * id + 1)).1 := fun h => (recAt_pos h).1
  have e1 : 4 * id + 1 - 2 * id = 2 * id + 1 := by omega
  have e2 : 4 * id + 1 - (2 * id + 1) = 2 * id := by omega
  unfold ofV
  by_cases a : (recAt S (2 * id)).2.2 = 0
  · rw [if_pos a]
    by_cases b : (recAt S (2 * id + 1)).2.2 = 0 ∧ (recAt S (2 * id)).1 < (recAt S (2 * id + 1)).1
    · rw [if_pos b]
      refine .inr ⟨Prod.ext rfl (Prod.ext rfl b.1), p2 b.1, fun _ => ?_⟩
      dsimp only
      rw [e2]; omega
    · rw [if_neg b]
      refine .inr ⟨Prod.ext rfl (Prod.ext rfl a), p1 a, fun h => ?_⟩
      dsimp only at h ⊢
      rw [e1] at h ⊢
      by_cases c : (recAt S (2 * id)).1 < (recAt S (2 * id + 1)).1
      · exact absurd ⟨h, c⟩ b
      · omega
  · rw [if_neg a]
    by_cases b : (recAt S (2 * id + 1)).2.2 = 0
    · rw [if_pos b]
      refine .inr ⟨Prod.ext rfl (Prod.ext rfl b), p2 b, fun h => ?_⟩
      dsimp only at h
      rw [e2] at h
      exact absurd h a
    · rw [if_neg b]
      exact .inl ⟨rfl, rfl, rfl, a, b⟩
/-- The greater one is the id's. -/
theorem of_top {S : DS} {id k u : Int} {b : Bs} (hk : k = 2 * id ∨ k = 2 * id + 1) (hr : recAt S k = (u, b, 0)) (ho : (recAt S (4 * id + 1 - k)).2.2 = 0 → (recAt S (4 * id + 1 - k)).1 < u) : ofV S id = (k, u, b) := by
  have e1 : 4 * id + 1 - 2 * id = 2 * id + 1 := by omega
  have e2 : 4 * id + 1 - (2 * id + 1) = 2 * id := by omega
  unfold ofV
  rcases hk with rfl | rfl
  · rw [e1] at ho
    rw [hr, if_pos rfl, if_neg (fun h => by have := ho h.1; have := h.2; dsimp only at this; omega)]
  · rw [e2] at ho
    rw [hr]
    by_cases a : (recAt S (2 * id)).2.2 = 0
    · rw [if_pos a, if_pos ⟨rfl, ho a⟩]
    · rw [if_neg a, if_pos rfl]
theorem recAt_now {S S' : DS} (h : S'.now = S.now) (j : Int) : recAt S' j = recAt S j := by
  unfold recAt DS.get
  rw [h]
theorem recAt_put {S S' : DS} {k : Int} {b : Bs} (hr : Rise S.now) (h : S'.now = putL S.now (k, b)) (j : Int) : recAt S' j = if k = j then readL b else recAt S j := by
  unfold recAt DS.get
  rw [h, getL_put _ _ hr]
  split <;> rfl
theorem of_now {S S' : DS} (h : S'.now = S.now) (j : Int) : ofV S' j = ofV S j := of_other (recAt_now h _) (recAt_now h _)
/-- Behind a save. -/
theorem of_after {S S' : DS} {id : Int} {b : Bs} (hr : Rise S.now) (h : S'.now = putL S.now (4 * id + 1 - (ofV S id).1, recB ((ofV S id).2.1 + 1) b)) (hv : (ofV S id).2.1 < 1073741824) (hb : b.length ≤ 65536) :
    ofV S' id = (4 * id + 1 - (ofV S id).1, (ofV S id).2.1 + 1, b) ∧ ∀ j, j ≠ id → ofV S' j = ofV S j := by
  have hs := ofV_slot S id
  have h0 := (ofV_int S id).1
  constructor
  · refine of_top (by omega) ?_ fun h1 => ?_
    · rw [recAt_put hr h, if_pos rfl, read_rec (by omega) (by omega) hb]
    · rw [show 4 * id + 1 - (4 * id + 1 - (ofV S id).1) = (ofV S id).1 by omega, recAt_put hr h, if_neg (by omega)] at h1 ⊢
      rcases of_is S id with ⟨a, -, -, -, c⟩ | ⟨a, -, -⟩
      · rw [a] at h1; exact absurd h1 c
      · rw [a]; dsimp only; omega
  · intro j hj
    refine of_other ?_ ?_
    · rw [recAt_put hr h, if_neg (by omega)]
    · rw [recAt_put hr h, if_neg (by omega)]
/-- The slot that is written. -/
noncomputable def toV (S : DS) (id : Int) : Int := 4 * id + 1 - (ofV S id).1
noncomputable def newB (S : DS) (id : Int) (b : Bs) : Bs := recB ((ofV S id).2.1 + 1) b
theorem newB_len (S : DS) (id : Int) (b : Bs) : (newB S id b).length = b.length + 9 := recB_len _ _
theorem toV_in {S : DS} {id : Int} (h : mayId id = true) : In64 (toV S id) := by
  have := ofV_slot S id
  unfold mayId at h
  have h2 : 0 ≤ id ∧ id ≤ 1099511627776 := by simpa using h
  unfold toV In64
  omega
theorem save_is {S : DS} {id : Int} {b : Bs} (hid : mayId id = true) (hv : (ofV S id).2.1 < 1073741824) (hb : b.length ≤ 65536) :
    saveV S id b = if (S.put (toV S id) (newB S id b)).2 = 0 then (S.put (toV S id) (newB S id b)).1.sync else S.put (toV S id) (newB S id b) := by
  have h0 := (ofV_int S id).1
  unfold saveV toV newB
  rw [if_pos hid, show writeL ((ofV S id).2.1 + 1) b = some (recB ((ofV S id).2.1 + 1) b) from by unfold writeL mayW; rw [if_pos (by simp; omega)]]
theorem save_long {S : DS} {id : Int} {b : Bs} (hb : 65536 < b.length) : saveV S id b = (S, 1) := by
  unfold saveV
  split
  · rw [show writeL ((ofV S id).2.1 + 1) b = none from by unfold writeL mayW; rw [if_neg (by simp; omega)]]
  · rfl
theorem save_out {S : DS} {id : Int} {b : Bs} (h : mayId id = false) : saveV S id b = (S, 1) := by
  unfold saveV
  rw [h]; rfl
theorem load_out {S : DS} {id : Int} (h : mayId id = false) : loadV S id = ([], 0, false) := by
  unfold loadV
  rw [h]; rfl
theorem load_in {S : DS} {id : Int} (h : mayId id = true) : loadV S id = ((ofV S id).2.2, (ofV S id).2.1, decide (0 < (ofV S id).2.1)) := by
  unfold loadV
  rw [if_pos h]
/-- A save that nothing hinders. -/
theorem save_calm {S : DS} {N M : Nat} {id : Int} {b : Bs} (hok : DOk S N M) (hc : Calm S) (hid : mayId id = true) (hv : (ofV S id).2.1 < 1073741824) (hb : b.length ≤ 65536) (hM : b.length + 9 ≤ M) (hroom : (((N + 1) * M : Nat) : Int) ≤ S.room) :
    ∃ S', saveV S id b = (S', 0) ∧ Calm S' ∧ S'.room = S.room ∧ S'.l = [] ∧ S'.now = putL S.now (toV S id, newB S id b) ∧ DOk S' (N + 1) M ∧ ofV S' id = (toV S id, (ofV S id).2.1 + 1, b) ∧ ∀ j, j ≠ id → ofV S' j = ofV S j := by
  have hr := hok.now.1
  have hin : In64 (toV S id) := toV_in hid
  have hfit : S.fits (toV S id) (newB S id b) = true := by
    have h1 := lenB_put (toV S id, newB S id b) hr
    have h2 := lenB_now hok
    have h3 := newB_len S id b
    have h4 : (N + 1) * M = N * M + M := Nat.succ_mul N M
    dsimp only at h1
    unfold DS.fits
    simp only [decide_eq_true_eq]
    omega
  have hput : S.put (toV S id) (newB S id b) = ({ S with l := S.l ++ [(toV S id, newB S id b)] }, 0) := by
    unfold DS.put
    rw [asked_calm hc, hfit]
    rfl
  have hok1 := hok.put hin (b := newB S id b) (by rw [newB_len]; exact hM)
  rw [hput] at hok1
  have hc1 : Calm { S with l := S.l ++ [(toV S id, newB S id b)] } := hc
  have hn1 : DS.now { S with l := S.l ++ [(toV S id, newB S id b)] } = putL S.now (toV S id, newB S id b) := nowL_snoc _ _ _
  have hsync : DS.sync { S with l := S.l ++ [(toV S id, newB S id b)] } = ({ S with safe := putL S.now (toV S id, newB S id b), l := [] }, 0) := by
    unfold DS.sync
    rw [asked_calm hc1, hn1]
    rfl
  have hok2 := hok1.sync
  dsimp only at hok2
  rw [hsync] at hok2
  have hn2 : DS.now { S with safe := putL S.now (toV S id, newB S id b), l := [] } = putL S.now (toV S id, newB S id b) := rfl
  obtain ⟨h1, h2⟩ := of_after hr (hn2 : DS.now _ = putL S.now (4 * id + 1 - (ofV S id).1, recB ((ofV S id).2.1 + 1) b)) hv hb
  refine ⟨{ S with safe := putL S.now (toV S id, newB S id b), l := [] }, ?_, hc, rfl, rfl, hn2, hok2, h1, h2⟩
  rw [save_is hid hv hb, hput, if_pos rfl, hsync]
/-- A save that fails at once. -/
theorem save_fails {S : DS} {id : Int} {b : Bs} (hf : 0 < S.fails) (hw : S.waits = 0) (hid : mayId id = true) (hv : (ofV S id).2.1 < 1073741824) (hb : b.length ≤ 65536) : saveV S id b = ({ S with fails := S.fails - 1 }, 9) := by
  have ha : S.asked = ({ S with fails := S.fails - 1 }, true) := by
    unfold DS.asked
    rw [if_neg (by rw [hw]; decide), if_pos hf]
  have hput : S.put (toV S id) (newB S id b) = ({ S with fails := S.fails - 1 }, 9) := by
    unfold DS.put
    rw [ha]; rfl
  rw [save_is hid hv hb, hput]
  rfl
theorem DOk.save {S : DS} {N M : Nat} {id : Int} {b : Bs} (h : DOk S N M) (hM : b.length + 9 ≤ M) : DOk (saveV S id b).1 (N + 1) M := by
  have h0 : DOk S (N + 1) M := h.mono (by omega) (Nat.le_refl _)
  by_cases hid : mayId id = true
  · unfold saveV
    rw [if_pos hid]
    cases hw : writeL ((ofV S id).2.1 + 1) b with
    | none => exact h0
    | some r =>
      have hr : r.length ≤ M := by
        unfold writeL at hw
        split at hw
        · obtain rfl := Option.some.inj hw
          rw [recB_len]; exact hM
        · cases hw
      have hp := h.put (toV_in (S := S) hid) hr
      unfold toV at hp
      dsimp only
      split
      · exact hp.sync
      · exact hp
  · rw [save_out (by simpa using hid)]; exact h0
end Go.Proofs.Ytkopenemoddbbaa

/- A store's calls whose answers are known; the document's example. -/
namespace Go.Proofs.Ytkopenemoddbbaa
open Go.RowKit
attribute [local go_sem] Oper.semAt_some

theorem of_empty {S : DS} (h : S.now = []) (id : Int) : ofV S id = (2 * id + 1, 0, []) := by
  have e : ∀ j, recAt S j = (0, [], 3) := fun j => by
    unfold recAt DS.get
    rw [h]
    exact read_short (show ([] : Bs).length < 2 by decide)
  unfold ofV
  rw [e, e]
  rfl
theorem lives_plain : ∃ S1 S2 S3 : DS, saveV (newS 100) 7 [97] = (S1, 0) ∧ S1.fail 1 = S2 ∧ saveV S2 7 [98] = (S3, 9) ∧ loadV S3 7 = ([97], 1, true) ∧ DOk S1 1 10 ∧ DOk S2 1 10 ∧ DOk S3 1 10 := by
  have e0 : ofV (newS 100) 7 = (2 * 7 + 1, 0, []) := of_empty rfl 7
  obtain ⟨S1, h1, hc1, -, -, -, hok1, ho1, -⟩ := save_calm (S := newS 100) (N := 0) (M := 10) (id := 7) (b := [97]) ((newS_ok 100).mono (Nat.le_refl _) (by decide)) ⟨rfl, rfl⟩ (by decide) (by rw [e0]; decide) (by decide) (by decide) (by decide)
  have e1 : ofV S1 7 = (toV (newS 100) 7, 1, [97]) := by rw [ho1, e0]; rfl
  have hf : S1.fail 1 = { S1 with fails := 1, waits := 0 } := by unfold DS.fail; rw [if_neg (by decide)]
  have e2 : ofV (S1.fail 1) 7 = (toV (newS 100) 7, 1, [97]) := by rw [← e1]; exact of_now (by rw [hf]; rfl) 7
  have h3 := save_fails (S := S1.fail 1) (id := 7) (b := [98]) (by rw [hf]; show (0 : Int) < 1; decide) (by rw [hf]) (by decide) (by rw [e2]; decide) (by decide)
  have e3 : ofV { S1.fail 1 with fails := (S1.fail 1).fails - 1 } 7 = (toV (newS 100) 7, 1, [97]) := by rw [← e2]; exact of_now rfl 7
  refine ⟨S1, S1.fail 1, _, h1, rfl, h3, ?_, hok1, hok1.fail (by decide), ?_⟩
  · rw [load_in (by decide), e3]; rfl
  · have := hok1.fail (n := 1) (by decide)
    rw [hf] at this ⊢
    exact ⟨this.rise, this.keys, this.many, this.size, this.room, this.waits, by dsimp only; omega⟩
/-- What a store's call leaves as it was. -/
structure Stays (base : Nat) (W W' : World) : Prop where
  blk : ∀ {g : Nat} {t : TypeId} {cs : Array Value}, Blk W g t cs → t ≠ 90 ∧ t ≠ 92 → Blk W' g t cs
  good : ∀ {sl : SL}, GoodS W base sl → GoodS W' base sl ∧ rdB W' sl = rdB W sl
theorem Stays.of {base : Nat} {W W' : World} (h : Below W.heap.size W W') : Stays base W W' := ⟨fun hB _ => hB.on h, fun hs => hs.on h⟩
theorem Stays.trans {base : Nat} {W W' W'' : World} (h : Stays base W W') (k : Stays base W' W'') : Stays base W W'' := ⟨fun hB ht => k.blk (h.blk hB ht) ht, fun hs => by
  obtain ⟨h1, h2⟩ := h.good hs
  obtain ⟨h3, h4⟩ := k.good h1
  exact ⟨h3, h4.trans h2⟩⟩
/-- A store in a world, behind the base. -/
def SAt (w W : World) (s d : Nat) (S : DS) : Prop := ∃ M, StoreIs W w.heap.size M s d S ∧ Below w.heap.size w W ∧ w.heap.size ≤ W.heap.size
theorem SAt.on {w W W' : World} {s d : Nat} {S : DS} (h : SAt w W s d S) (hb : Below W.heap.size W W') : SAt w W' s d S := by
  obtain ⟨M, h1, h2, h3⟩ := h
  exact ⟨M, h1.on hb, after h2 hb, Nat.le_trans h3 hb.size⟩
theorem SAt.cell {w W : World} {s d : Nat} {S : DS} (h : SAt w W s d S) : W.cell? ⟨s, 0, none⟩ = some (.pointer (some ⟨d, 0, none⟩)) := by
  obtain ⟨M, h1, -, -⟩ := h
  exact h1.blk.cell 0
theorem SAt.turn {w W W' : World} {s d : Nat} {S S' : DS} {M : Nat → Prop} (h1 : StoreIs W w.heap.size M s d S) (h2 : Below w.heap.size w W) (h3 : w.heap.size ≤ W.heap.size) (t : Turn W w.heap.size M d S' W') : SAt w W' s d S' ∧ Stays w.heap.size W W' := by
  obtain ⟨k1, b1, -⟩ := t.out h1.disk h3
  refine ⟨?_, fun hB ht => t.blk h1.disk hB ht, fun hs => t.good h1.disk hs⟩
  obtain ⟨M', hS⟩ := h1.turn t
  exact ⟨M', hS, h2.trans k1, b1⟩
section
variable {w W : World} {s d : Nat} {S S' : DS}
theorem save_e (h : SAt w W s d S) {N : Nat} (hok : DOk S N 1000000) (hN : N ≤ 90000) {id : Int} {sl : SL} {b : Bs} {e : Int} (hs : GoodS W w.heap.size sl) (hz : sl.2.1 ≤ 1000000) (hb : rdB W sl = b) (hv : saveV S id b = (S', e)) :
    Calls Try.prog 18 #[.pointer (some ⟨s, 0, none⟩), .int .i64 id, .slice sl.1 sl.2.1 sl.2.2] W fun r w' => r = .returned (.int .i64 e) ∧ SAt w w' s d S' ∧ Stays w.heap.size W w' := by
  obtain ⟨M, h1, h2, h3⟩ := h
  have h4 := ssave_c w.heap.size s d M S N W h1 hok hN id sl hs hz h3
  rw [hb, hv] at h4
  refine h4.mono ?_
  rintro r w' ⟨rfl, t⟩
  exact ⟨rfl, SAt.turn h1 h2 h3 t⟩
theorem load_e (h : SAt w W s d S) {N : Nat} (hok : DOk S N 1000000) (hN : N ≤ 90000) {id : Int} {b : Bs} {v : Int} {is : Bool} (hv : loadV S id = (b, v, is)) :
    Calls Try.prog 19 #[.pointer (some ⟨s, 0, none⟩), .int .i64 id] W fun r w' => ∃ q n c, r = .returned (.tuple #[.slice q n c, .int .i64 v, .bool is]) ∧ GoodS w' w.heap.size (q, n, c) ∧ rdB w' (q, n, c) = b ∧ SAt w w' s d S ∧ Below W.heap.size W w' := by
  have h0 := h
  obtain ⟨M, h1, h2, h3⟩ := h
  have h4 := sload_c w.heap.size s d M S N W h1 hok (by omega) id h3
  rw [hv] at h4
  refine h4.mono ?_
  rintro r w' ⟨⟨q, n, c⟩, rfl, hg, hr, hb⟩
  exact ⟨q, n, c, rfl, hg, hr, h0.on hb, hb⟩
theorem sfail_e (h : SAt w W s d S) {n : Int} (hn : In64 n) (e : S.fail n = S') :
    Calls Try.prog 34 #[.pointer (some ⟨d, 0, none⟩), .int .i64 n] W fun r w' => r = .returned (.tuple #[]) ∧ SAt w w' s d S' ∧ Stays w.heap.size W w' := by
  obtain ⟨M, h1, h2, h3⟩ := h
  have h4 := fail_c w.heap.size d M S W h1.disk n hn
  rw [e] at h4
  refine h4.mono ?_
  rintro r w' ⟨rfl, t⟩
  exact ⟨rfl, SAt.turn h1 h2 h3 t⟩
end
set_option maxRecDepth 100000 in
set_option maxHeartbeats 4000000 in
theorem snew_e (R : Int) (w W : World) (hb : Below w.heap.size w W) :
    Calls Try.prog 17 #[.int .i64 R] W fun r w' => ∃ s d, r = .returned (.pointer (some ⟨s, 0, none⟩)) ∧ SAt w w' s d (newS R) ∧ Below W.heap.size W w' := by
  have HN := Lib.hid (new_c R w.heap.size W hb.size)
  go_enter Try.func17, Try.ntmps17
  go_wp2_with (go_at_call 35; refine HN.out.mono ?_; rintro e_ w1 ⟨d, M, rfl, D1, -, h1⟩)
  go_returns
  obtain ⟨W2, hW⟩ : ∃ W2, W2 = w1.alloc (.cells #[.pointer (some ⟨d, 0, none⟩)] 59) := ⟨_, rfl⟩
  rw [← hW]
  have C := Blk.fresh hW
  have h2 : Below w1.heap.size w1 W2 := by rw [hW]; exact bel_alloc _ _
  have h12 := after h1 h2
  exact ⟨_, d, rfl, ⟨M, ⟨C, D1.on h2, Nat.le_trans hb.size h1.size⟩, after hb h12, Nat.le_trans hb.size h12.size⟩, h12⟩
set_option maxRecDepth 100000 in
set_option maxHeartbeats 8000000 in
theorem slives_c (w : World) : Calls Try.prog 16 #[] w fun r w' => r = .returned (.bool true) ∧ Below w.heap.size w w' := by
  obtain ⟨S1, S2, S3, e1, e2, e3, e4, ok1, ok2, ok3⟩ := lives_plain
  have HE := Lib.hid (And.intro e1 (And.intro e2 (And.intro e3 e4)))
  have H0 := Lib.hid ((newS_ok 100).mono (Nat.le_refl _) (show 0 ≤ 1000000 by decide))
  have HO := Lib.hid (And.intro (ok1.mono (Nat.le_refl _) (show 10 ≤ 1000000 by decide)) (And.intro (ok2.mono (Nat.le_refl _) (show 10 ≤ 1000000 by decide)) (ok3.mono (Nat.le_refl _) (show 10 ≤ 1000000 by decide))))
  clear e1 e2 e3 e4 ok1 ok2 ok3
  go_enter Try.func16, Try.ntmps16
  go_upto_region 4 with (go_at_call 17; refine (snew_e 100 w w (Below.refl _ _)).mono ?_; rintro e_ w1 ⟨s, d, rfl, A1, -⟩)
  have L1 := lit_good (base := w.heap.size) (bs := [97]) (g := w1.heap.size) (w := w1.alloc (.cells #[.int .u8 97] 5)) (Blk.new' rfl) (by decide)
  have HS1 := Lib.hid (save_e (A1.on (bel_alloc w1 (.cells #[.int .u8 97] 5))) H0.out (by decide) L1.1 (show 1 ≤ 1000000 by decide) L1.2 HE.out.1)
  clear L1 A1
  go_upto_region 5 with (go_at_call 18; refine HS1.out.mono ?_; rintro e_ w2 ⟨rfl, A2, -⟩)
  have c2 := A2.cell
  have HS2 := Lib.hid (sfail_e A2 (n := 1) ⟨by decide, by decide⟩ HE.out.2.1)
  clear A2 HS1
  go_upto_region 6 with (go_at_call 34; refine HS2.out.mono ?_; rintro e_ w3 ⟨rfl, A3, -⟩)
  have L3 := lit_good (base := w.heap.size) (bs := [98]) (g := w3.heap.size) (w := w3.alloc (.cells #[.int .u8 98] 5)) (Blk.new' rfl) (by decide)
  have HS3 := Lib.hid (save_e (A3.on (bel_alloc w3 (.cells #[.int .u8 98] 5))) HO.out.2.1 (by decide) L3.1 (show 1 ≤ 1000000 by decide) L3.2 HE.out.2.2.1)
  clear L3 A3 HS2 c2
  go_upto_region 7 with (go_at_call 18; refine HS3.out.mono ?_; rintro e_ w4 ⟨rfl, A4, -⟩)
  have HS4 := Lib.hid (load_e A4 HO.out.2.2 (by decide) HE.out.2.2.2)
  clear A4 HS3
  go_upto_region 8 with (go_at_call 19; refine HS4.out.mono ?_; rintro e_ w5 ⟨q, n, c, rfl, hg, hr, A5, -⟩)
  have L7 := lit_good (base := w.heap.size) (bs := [97]) (g := w5.heap.size) (w := w5.alloc (.cells #[.int .u8 97] 5)) (Blk.new' rfl) (by decide)
  have hS := same_s (hg.on (bel_alloc w5 (.cells #[.int .u8 97] 5))).1 L7.1 (by rw [L7.2, (hg.on (bel_alloc w5 _)).2, hr])
  simp only [slV] at hS
  have HS := Lib.hid hS
  have HA := Lib.hid (A5.on (bel_alloc w5 (.cells #[.int .u8 97] 5)))
  clear L7 hS hg hr A5 HS4
  go_wp2_with (go_at_call 12; refine HS.out.mono ?_; rintro e_ w7 ⟨rfl, rfl⟩)
  go_returns
  obtain ⟨M, -, h2, -⟩ := HA.out
  exact ⟨rfl, h2⟩
end Go.Proofs.Ytkopenemoddbbaa

/- A record's bytes that are the caller's own; bytes that are given. -/
namespace Go.Proofs.Ytkopenemoddbbaa
open Go.ChangeShapes Go.WideShapes Go.ChangeAt Go.RowKit
attribute [local go_sem] Oper.semAt_some

set_option maxRecDepth 100000 in
set_option maxHeartbeats 4000000 in
theorem rwrite_own (v : Int) (h1 : 1 ≤ v) (h2 : v ≤ 1073741824) (q : Option Addr) (n c : Nat) (b : Bs) (hl : b.length = n) (hcap : n ≤ c) (h3 : n ≤ 65536) (w : World) (hq : Byq w q n (fb b)) :
    Calls Try.prog 11 #[.int .i64 v, .slice q n c] w fun r w' => ∃ x, r = .returned (.tuple #[x, .int .i64 0]) ∧ w'.ownsRow w.heap.size 5 1 x (n + 9) (bl (fb (recB v b)) (n + 9)) ∧ Below w.heap.size w w' := by
  have h4 : ¬ v < 1 := by omega
  have h5 : ¬ 1073741824 < v := by omega
  have h6 : ¬ (65536 : Int) < n := by omega
  have P1 := Lib.hid (rdig4_c v (by omega) (by omega) w)
  have HQ := Lib.hid hq
  clear hq
  go_enter Try.func11, Try.ntmps11
  go_upto_region 4 with (go_at_call 28; refine P1.out.mono ?_; rintro e_ w1 ⟨x1, rfl, o1, g1⟩)
  obtain ⟨q1, c1, rfl, -, -, -⟩ := own_byq o1
  have P2 := Lib.hid (rdig3_c n (by omega) (by omega) w1)
  have G1 := Lib.hid g1
  have O1 := Lib.hid o1
  clear g1 o1 P1
  go_upto_region 5 with first
    | (go_at_call 28; refine P2.out.mono ?_; rintro e_ w2 ⟨x2, rfl, o2, g2⟩; obtain ⟨q2, c2, rfl, k1, k2, hb2⟩ := own_byq o2; obtain ⟨x3, w3, hr3, o3, g3⟩ := run_app (P := Try.prog) (ty := 22) Try.underlying22 inf8 (own_on O1.out g2) k1 hb2 (by decide) (Nat.le_trans G1.out.size g2.size); obtain ⟨q3, c3, rfl, -, -, -⟩ := own_byq o3; have G2 := Lib.hid ((after G1.out g2).trans g3); have O3 := Lib.hid o3; clear o3 g2 g3 o2 hb2 O1 G1 P2)
    | (at_builtin; refine Lib.wpList_append_run _ rfl _ _ _ _ rfl _ _ rfl rfl _ _ hr3 ?_)
  obtain ⟨x4, w4, hr4, o4, g4⟩ := run_app (P := Try.prog) (ty := 22) Try.underlying22 inf8 O3.out hcap (HQ.out.on G2.out) (by omega) G2.out.size
  obtain ⟨q4, c4, rfl, k3, k4, hb4⟩ := own_byq o4
  have G4 := Lib.hid (G2.out.trans g4)
  have HP := Lib.hid (ckrput_c q4 (7 + n) c4 _ k3 k4 (by omega) w4 hb4)
  clear o4 hb4 g4 O3 G2 HQ
  go_wp2_with first
    | (at_builtin; refine Lib.wpList_append_run _ rfl _ _ _ _ rfl _ _ rfl rfl _ _ hr4 ?_)
    | (go_at_call 29; refine HP.out.mono ?_; rintro e_ w5 ⟨x5, rfl, o5, g5⟩)
  go_returns
  refine ⟨x5, rfl, ?_, after G4.out g5⟩
  have h := own_low o5 G4.out.size
  rw [show n + 9 = 7 + n + 2 by omega]
  rw [bl_cong (G := fb (recB v b)) fun i hi => ?_] at h
  · exact h
  · unfold recB
    rw [fb_bs _ (by omega)]
    subst hl
    rfl
def WriteE (base : Nat) (E : Int) (bs : Bs) (r : Ending) (w w' : World) : Prop := ∃ q n c, r = .returned (.tuple #[.slice q n c, .int .i64 E]) ∧ GoodS w' base (q, n, c) ∧ rdB w' (q, n, c) = bs ∧ Below w.heap.size w w'
theorem WriteR.e {base : Nat} {o : Option Bs} {r : Ending} {w w' : World} (h : WriteR base o r w w') : WriteE base (if o.isSome then 0 else 1) (o.getD []) r w w' := by
  obtain ⟨⟨q, n, c⟩, h1, h2, h3, -, h4⟩ := h
  exact ⟨q, n, c, h1, h2, h3, h4⟩
/-- Bytes that are given. -/
theorem good_of {w : World} {q : Option Addr} {n c : Nat} {F : Nat → B8} (hn : n ≤ c) (hm : c ≤ maxLen) (hb : Byq w q n F) : GoodS w w.heap.size (q, n, c) := ⟨hn, hm, fun h0 => by
  obtain ⟨g, o, e, hB⟩ := hb h0
  exact ⟨g, o, F, e, hB, .inl (hB.lt h0)⟩⟩
end Go.Proofs.Ytkopenemoddbbaa

/- What is asked for is the caller's own; Spoil: the walks. -/
namespace Go.Proofs.Ytkopenemoddbbaa
open Go.ChangeShapes Go.WideShapes Go.ChangeAt Go.RowKit Go.Maps
attribute [local go_sem] Oper.semAt_some

theorem xor8 (a b : B8) : bits .xor .u8 (n8 a) (n8 b) = n8 (a ^^^ b) := by
  unfold n8
  rw [u8_xor_nat _ _ (by have := a.isLt; omega) (by have := b.isLt; omega), BitVec.toNat_xor]
set_option maxRecDepth 100000 in
set_option maxHeartbeats 4000000 in
theorem get_own (base d : Nat) (M : Nat → Prop) (S : DS) (N : Nat) (w : World) (h : DiskIs w base M d S) (hok : DOk S N 1000000) (hN : N ≤ 100000) (k : Int) (hk : In64 k) :
    Calls Try.prog 40 #[.pointer (some ⟨d, 0, none⟩), .int .i64 k] w fun r w' => ∃ v, r = .returned (.tuple #[v, .bool (S.get k).isSome]) ∧ w'.ownsRow w.heap.size 5 1 v ((S.get k).getD []).length (bl (fb ((S.get k).getD [])) ((S.get k).getD []).length) ∧ Below w.heap.size w w' := by
  obtain ⟨bm, v, sv, lv, hD, hM⟩ := h
  obtain ⟨hr, hkl, hcnt, hg, hc, hrn, hlens⟩ := hD.facts hok
  have HNW := Lib.hid (now_c base d bm v S sv lv w hD hr hkl (by omega))
  have HG := Lib.hid (atL_good hg k)
  have hsz := hok.now.2.2.2
  have hga : rdB w (atL (nowL sv lv) k) = (S.get k).getD [] := by
    unfold atL DS.get
    rw [← hc, cont_get]
    cases getL (nowL sv lv) k with
    | none => exact rdB_zero _ _ _
    | some s => rfl
  have his : (getL (nowL sv lv) k).isSome = (S.get k).isSome := by
    unfold DS.get
    rw [← hc, cont_get]
    cases getL (nowL sv lv) k <;> rfl
  have hle : (atL (nowL sv lv) k).2.1 ≤ 140737488355328 := Nat.le_trans (at_le _ _) (Nat.le_trans hlens (Nat.le_trans (Nat.mul_le_mul_right 1000000 hN) (by decide)))
  have HA := Lib.hid (And.intro hga (And.intro his hle))
  clear hD hM hr hkl hcnt hg hc hrn hlens hsz hga his hle
  go_enter Try.func40, Try.ntmps40
  go_upto_region 1 with (fail)
  go_wp2_with (go_at_call 59; refine HNW.out.mono ?_; rintro e_ w2 ⟨rfl, hm, hB2⟩; have hlk := lookok_c hm hk; simp only [slV] at hlk)
  have hg2 := HG.out.1.on hB2
  have hlen : (atL (nowL sv lv) k).2.1 = ((S.get k).getD []).length := by rw [← hg2.1.len, hg2.2, HA.out.1]
  have HCL := Lib.hid (clone_c (atL (nowL sv lv) k).1 (atL (nowL sv lv) k).2.1 (atL (nowL sv lv) k).2.2 _ hg2.1.cap HA.out.2.2 w2 hg2.1.byq)
  rw [hg2.2, HA.out.1, hlen] at HCL
  rw [hlen]
  refine HCL.out.mono ?_
  rintro e_ w3 ⟨v', rfl, ho, hb⟩
  go_wp2_with fail
  go_returns
  exact ⟨v', by rw [HA.out.2.1]; rfl, own_low ho hB2.size, after hB2 hb⟩
/-- What a spoiling does. -/
def turnB (b : Bs) (k : Nat) (x : B8) : Bs := b.set k (b.getD k 0 ^^^ x)
def spoilV (S : DS) (k at_ : Int) (x : B8) : DS × Bool :=
  if 0 ≤ at_ ∧ at_ < (((S.get k).getD []).length : Int) then (((S.fail 0).put k (turnB ((S.get k).getD []) at_.toNat x)).1.sync.1, true) else (S, false)
theorem turnB_len (b : Bs) (k : Nat) (x : B8) : (turnB b k x).length = b.length := by unfold turnB; rw [List.length_set]
set_option maxRecDepth 100000 in
set_option maxHeartbeats 4000000 in
theorem sspoil_c (base s d : Nat) (M : Nat → Prop) (S : DS) (N : Nat) (w : World) (h : StoreIs w base M s d S) (hok : DOk S N 1000000) (hN : N ≤ 90000) (k : Int) (hk : In64 k) (at_ : Int) (x : B8) (hbase : base ≤ w.heap.size) :
    Calls Try.prog 20 #[.pointer (some ⟨s, 0, none⟩), .int .i64 k, .int .i64 at_, .int .u8 (n8 x)] w fun r w' => r = .returned (.bool (spoilV S k at_ x).2) ∧ Turn w base M d (spoilV S k at_ x).1 w' := by
  have HG := Lib.hid (get_own base d M S N w h.disk hok (by omega) k hk)
  have HS := Lib.hid h
  have HOK := Lib.hid hok
  have b0 := h.blk.cell 0
  have hsz := get_size hok k
  obtain ⟨⟨S2, e2⟩, hSv⟩ : ∃ v, spoilV S k at_ x = v := ⟨_, rfl⟩
  rw [hSv]
  dsimp only
  unfold spoilV at hSv
  generalize (S.get k).getD [] = b at *
  generalize (S.get k).isSome = is at *
  clear h hok
  by_cases h0 : 0 ≤ at_
  · by_cases h1 : at_ < (b.length : Int)
    · obtain ⟨j, rfl⟩ := Int.eq_ofNat_of_zero_le h0
      rw [if_pos ⟨h0, h1⟩] at hSv
      have hj : j < b.length := by omega
      have e1 : ((S.fail 0).put k (turnB b j x)).1.sync.1 = S2 := congrArg Prod.fst hSv
      obtain rfl : true = e2 := congrArg Prod.snd hSv
      have HE := Lib.hid e1
      clear hSv e1
      go_enter Try.func20, Try.ntmps20
      go_upto_region 4 with (go_at_call 40; refine HG.out.mono ?_; rintro e_ w1 ⟨v, rfl, ho, hb1⟩; obtain ⟨g, c1, cur, rfl, hbg, C, hsc, hsm, hsz1, D⟩ := own_form ho (by omega); clear ho)
      have d0 := D j hj
      have f0 := C.frz j
      rw [Nat.zero_add] at d0
      obtain ⟨u, hu⟩ : ∃ u, fb b j = u := ⟨_, rfl⟩
      rw [hu] at d0
      have HU := Lib.hid hu
      clear hu
      have hx8 := xor8 u x
      go_upto_region 5 with (fail)
      obtain ⟨W2, hW⟩ : ∃ W2, W2 = w1.setCell ⟨g, j, none⟩ (.int .u8 (n8 (u ^^^ x))) := ⟨_, rfl⟩
      rw [← hW]
      have D2 : Byt W2 g 0 b.length (updB (fb b) j (u ^^^ x)) := by rw [hW]; exact D.put C hsz1 hj
      have C2 : ∃ cur', Blk W2 g 5 cur' := ⟨_, by rw [hW]; exact C.set_ j _⟩
      have h2 : Below w.heap.size w W2 := by rw [hW]; exact hb1.setCell (p := ⟨g, j, none⟩) hbg _
      have hg2 : GoodS W2 base (some ⟨g, 0, none⟩, b.length, c1) := ⟨hsc, hsm, fun _ => ⟨g, 0, _, rfl, D2, .inr C2⟩⟩
      have hr2 : rdB W2 (some ⟨g, 0, none⟩, b.length, c1) = turnB b j x := by
        rw [rdB_of D2]
        apply List.ext_getElem?
        intro i
        unfold turnB
        rw [show b.getD j 0 = u from HU.out, List.getElem?_set]
        by_cases hi : i < b.length
        · rw [bsOf_at hi]
          unfold updB
          by_cases e : j = i
          · subst e; simp [hi]
          · have e' : ¬ i = j := fun h => e h.symm
            simp [e, e', hi, fb]
        · rw [List.getElem?_eq_none (by rw [bsOf_len]; omega)]
          by_cases e : j = i
          · omega
          · rw [if_neg e, List.getElem?_eq_none (by omega)]
      have hS2 := HS.out.on h2
      have b2 := hS2.blk.cell 0
      have hB2 := Nat.le_trans hbase h2.size
      have HF := Lib.hid (fail_c base d M S W2 hS2.disk 0 (by unfold In64; omega))
      have HS2 := Lib.hid hS2
      have HG2 := Lib.hid (And.intro hg2 hr2)
      have H2 := Lib.hid h2
      clear hW D2 C2 h2 hg2 hr2 hS2 d0 f0 hx8 D C hb1 hsc hsm hsz1 b0 HG
      go_upto_region 6 with (go_at_call 34; refine HF.out.mono ?_; rintro e_ w3 ⟨rfl, t3⟩)
      have b3 := (t3.blk HS2.out.disk HS2.out.blk (by decide)).cell 0
      have hB3 := (t3.out HS2.out.disk hB2).2.1
      have hgd := t3.good HS2.out.disk HG2.out.1
      obtain ⟨M', hS3⟩ : ∃ M', StoreIs w3 base M' s d (S.fail 0) ∧ (∀ b, M' b → M b ∨ W2.heap.size ≤ b) ∧ Kept (fun b => ¬ M b) W2 w3 := by
        obtain ⟨M', k1, k2, k3⟩ := t3
        exact ⟨M', ⟨k3.blk (fun hM => by rcases (HS2.out.disk.mine hM).2.2 _ _ HS2.out.blk with e | e <;> revert e <;> decide) HS2.out.blk, k1, HS2.out.based⟩, k2, k3⟩
      have HS3 := Lib.hid hS3
      have hok3 := HOK.out.fail (n := 0) (by decide)
      have HP := Lib.hid (put_c base d M' (S.fail 0) N w3 hS3.1.disk hok3 (by omega) k hk (some ⟨g, 0, none⟩, b.length, c1) hgd.1 hsz hB3)
      rw [hgd.2, HG2.out.2] at HP
      have hok4 := hok3.put hk (b := turnB b j x) (by rw [turnB_len]; exact hsz)
      have HOK4 := Lib.hid hok4
      clear t3 hgd hS3 hok3 hok4 HF b2
      obtain ⟨⟨S4, e4⟩, hP⟩ : ∃ v, (S.fail 0).put k (turnB b j x) = v := ⟨_, rfl⟩
      rw [hP] at HP HE HOK4
      clear hP
      simp only [slV] at HP
      dsimp only at HP HE HOK4
      go_upto_region 7 with (go_at_call 38; refine HP.out.mono ?_; rintro e_ w4 ⟨rfl, t4⟩)
      have b4 := (t4.blk HS3.out.1.disk HS3.out.1.blk (by decide)).cell 0
      have hB4 := (t4.out HS3.out.1.disk hB3).2.1
      obtain ⟨M4, k1, k2, k3⟩ := t4
      have HY := Lib.hid (sync_c base d M4 S4 (N + 1) w4 k1 HOK4.out (by omega) hB4)
      rw [HE.out] at HY
      have HK := Lib.hid (And.intro k2 k3)
      clear k1 k2 k3 HP b3
      go_wp2_with (go_at_call 39; refine HY.out.mono ?_; rintro e_ w5 ⟨rfl, t5⟩; have T5 := Lib.hid t5; clear t5)
      go_returns
      exact ⟨rfl, Turn.ahead H2.out (Turn.trans HS3.out.2.1 HS3.out.2.2 (Turn.trans HK.out.1 HK.out.2 T5.out))⟩
    · rw [if_neg (fun h => h1 h.2)] at hSv
      obtain ⟨rfl, rfl⟩ : S = S2 ∧ false = e2 := ⟨congrArg Prod.fst hSv, congrArg Prod.snd hSv⟩
      have h1' : (b.length : Int) ≤ at_ := by omega
      go_enter Try.func20, Try.ntmps20
      go_wp2_with (go_at_call 40; refine HG.out.mono ?_; rintro e_ w1 ⟨v, rfl, ho, hb1⟩; obtain ⟨g, c1, rfl, -, -, -⟩ := own_byq ho; have HB1 := Lib.hid hb1; clear hb1 ho)
      go_returns
      exact ⟨rfl, Turn.same HS.out.disk HB1.out⟩
  · have h0' : at_ < 0 := by omega
    rw [if_neg (fun h => h0 h.1)] at hSv
    obtain ⟨rfl, rfl⟩ : S = S2 ∧ false = e2 := ⟨congrArg Prod.fst hSv, congrArg Prod.snd hSv⟩
    go_enter Try.func20, Try.ntmps20
    go_wp2_with (go_at_call 40; refine HG.out.mono ?_; rintro e_ w1 ⟨v, rfl, ho, hb1⟩; obtain ⟨g, c1, rfl, -, -, -⟩ := own_byq ho; have HB1 := Lib.hid hb1; clear hb1 ho)
    go_returns
    exact ⟨rfl, Turn.same HS.out.disk HB1.out⟩
end Go.Proofs.Ytkopenemoddbbaa

/- Spoiling: the plain law; a spoiling whose answer is known. -/
namespace Go.Proofs.Ytkopenemoddbbaa
open Go.RowKit
attribute [local go_sem] Oper.semAt_some

theorem fail0 (S : DS) : S.fail 0 = { S with fails := 0, waits := 0 } := by unfold DS.fail; rw [if_neg (by decide)]
/-- A slot is put anew, nothing hinders. -/
theorem put_calm {S : DS} {N M : Nat} {k : Int} {b : Bs} (hok : DOk S N M) (hc : Calm S) (hM : b.length ≤ M) (hroom : (((N + 1) * M : Nat) : Int) ≤ S.room) : S.put k b = ({ S with l := S.l ++ [(k, b)] }, 0) := by
  have hfit : S.fits k b = true := by
    have h1 := lenB_put (k, b) hok.now.1
    have h2 := lenB_now hok
    have h4 : (N + 1) * M = N * M + M := Nat.succ_mul N M
    dsimp only at h1
    unfold DS.fits
    simp only [decide_eq_true_eq]
    omega
  unfold DS.put
  rw [asked_calm hc, hfit]
  rfl
theorem spoil_calm {S : DS} {N M : Nat} {k : Int} {j : Nat} {x : B8} (hok : DOk S N M) (hk : In64 k) (hj : j < ((S.get k).getD []).length) (hroom : (((N + 1) * M : Nat) : Int) ≤ S.room) :
    ∃ S', spoilV S k j x = (S', true) ∧ Calm S' ∧ S'.room = S.room ∧ S'.l = [] ∧ DOk S' (N + 1) M ∧ S'.now = putL S.now (k, turnB ((S.get k).getD []) j x) := by
  have hsz := get_size hok k
  generalize hb : (S.get k).getD [] = b at *
  have hokf := hok.fail (n := 0) (by decide)
  have hc : Calm (S.fail 0) := by rw [fail0]; exact ⟨rfl, rfl⟩
  have hrm : (S.fail 0).room = S.room := by rw [fail0]
  have hnf : (S.fail 0).now = S.now := by rw [fail0]; rfl
  have hp := put_calm (k := k) (b := turnB b j x) hokf hc (by rw [turnB_len]; exact hsz) (by rw [hrm]; exact hroom)
  have hok1 := hokf.put hk (b := turnB b j x) (by rw [turnB_len]; exact hsz)
  have hv : spoilV S k j x = (((S.fail 0).put k (turnB b j x)).1.sync.1, true) := by
    unfold spoilV
    rw [hb, if_pos ⟨Int.natCast_nonneg j, by omega⟩, Int.toNat_natCast]
  generalize S.fail 0 = Sf at *
  rw [hp] at hv hok1
  have hc1 : Calm { Sf with l := Sf.l ++ [(k, turnB b j x)] } := hc
  have hn1 : DS.now { Sf with l := Sf.l ++ [(k, turnB b j x)] } = putL Sf.now (k, turnB b j x) := nowL_snoc _ _ _
  have hsync : DS.sync { Sf with l := Sf.l ++ [(k, turnB b j x)] } = ({ Sf with safe := putL Sf.now (k, turnB b j x), l := [] }, 0) := by
    unfold DS.sync
    rw [asked_calm hc1, hn1]
    rfl
  have hok2 := hok1.sync
  dsimp only at hv hok2
  rw [hsync] at hv hok2
  exact ⟨_, hv, hc, hrm, rfl, hok2, by rw [← hnf]; rfl⟩
theorem spoil_out {S : DS} {k at_ : Int} {x : B8} (h : ¬ (0 ≤ at_ ∧ at_ < (((S.get k).getD []).length : Int))) : spoilV S k at_ x = (S, false) := by
  unfold spoilV
  rw [if_neg h]
theorem get_put {S S' : DS} {k : Int} {b : Bs} (hr : Rise S.now) (h : S'.now = putL S.now (k, b)) (j : Int) : S'.get j = if k = j then some b else S.get j := by
  unfold DS.get
  rw [h, getL_put _ _ hr]
theorem turn_zero (b : Bs) (j : Nat) (h : j < b.length) : turnB b j 0 = b := by
  unfold turnB
  have e : b.getD j 0 ^^^ 0 = b.getD j 0 := by simp
  rw [e]
  apply List.ext_getElem?
  intro i
  rw [List.getElem?_set]
  by_cases c : j = i
  · subst c; simp [h]
  · rw [if_neg c]
theorem spoils_plain (a b : Bs) (ha : a.length ≤ 20) (hb : b.length ≤ 20) (k : Nat) (hk : k < b.length + 9) (x : B8) :
    ∃ S1 S2 S3 : DS, saveV (newS 1000) 3 a = (S1, 0) ∧ saveV S1 3 b = (S2, 0) ∧ spoilV S2 7 k x = (S3, true) ∧ spoilV S3 7 (9 + b.length) x = (S3, false) ∧ spoilV S3 8 0 x = (S3, false) ∧
      (x = 0 → loadV S3 3 = (b, 2, true)) ∧ (x ≠ 0 → loadV S3 3 = (a, 1, true)) ∧ DOk S1 4 29 ∧ DOk S2 4 29 ∧ DOk S3 4 29 := by
  have e0 : ∀ j, ofV (newS 1000) j = (2 * j + 1, 0, []) := fun j => of_empty rfl j
  have hm : mayId 3 = true := by decide
  obtain ⟨S1, s1, c1, r1, -, n1, k1, o1, -⟩ := save_calm (S := newS 1000) (N := 0) (M := 29) (id := 3) (b := a) ((newS_ok 1000).mono (Nat.le_refl _) (by decide)) ⟨rfl, rfl⟩ hm (by rw [e0]; decide) (by omega) (by omega) (by decide)
  have t0 : toV (newS 1000) 3 = 6 := by unfold toV; rw [e0]; decide
  rw [t0] at o1 n1
  rw [e0] at o1
  have v1 : ofV S1 3 = (6, 1, a) := o1
  have room1 : S1.room = 1000 := r1.trans (by decide)
  obtain ⟨S2, s2, c2, r2, -, n2, k2, o2, -⟩ := save_calm (S := S1) (N := 1) (M := 29) (id := 3) (b := b) k1 c1 hm (by rw [v1]; show (1 : Int) < 1073741824; decide) (by omega) (by omega) (by rw [room1]; decide)
  have t1 : toV S1 3 = 7 := by unfold toV; rw [v1]; show (4 * 3 + 1 - 6 : Int) = 7; decide
  rw [t1] at o2 n2
  rw [v1] at o2
  have v2 : ofV S2 3 = (7, 2, b) := o2
  have room2 : S2.room = 1000 := r2.trans room1
  have hnb : newB S1 3 b = recB 2 b := by unfold newB; rw [v1]; rfl
  have hna : newB (newS 1000) 3 a = recB 1 a := by unfold newB; rw [e0]; rfl
  rw [hnb] at n2
  rw [hna] at n1
  have g7 : (S2.get 7).getD [] = recB 2 b := by rw [get_put k1.now.1 n2, if_pos rfl]; rfl
  have g8 : (S2.get 8).getD [] = [] := by
    rw [get_put k1.now.1 n2, if_neg (by decide), get_put (newS_ok 1000).now.1 n1, if_neg (by decide)]; rfl
  have l7 := recB_len 2 b
  obtain ⟨S3, s3, c3, r3, -, k3, n3⟩ := spoil_calm (k := 7) (j := k) (x := x) k2 ⟨by decide, by decide⟩ (by rw [g7]; omega) (by rw [room2]; decide)
  rw [g7] at n3
  have h7 : (S3.get 7).getD [] = turnB (recB 2 b) k x := by rw [get_put k2.now.1 n3, if_pos rfl]; rfl
  have h8 : (S3.get 8).getD [] = [] := by rw [get_put k2.now.1 n3, if_neg (by decide)]; exact g8
  refine ⟨S1, S2, S3, s1, s2, s3, spoil_out (fun h => ?_), spoil_out (fun h => ?_), fun hx => ?_, fun hx => ?_, k1.mono (by omega) (Nat.le_refl _), k2.mono (by omega) (Nat.le_refl _), k3.mono (by omega) (Nat.le_refl _)⟩
  · rw [h7, turnB_len, l7] at h
    omega
  · rw [h8] at h
    have := h.2
    simp at this
  · subst hx
    rw [turn_zero _ _ (by omega)] at n3
    have e : ofV S3 3 = (7, 2, b) := by
      rw [← v2]
      refine of_other ?_ ?_
      · rw [recAt_put k2.now.1 n3, if_neg (by decide)]
      · rw [recAt_put k2.now.1 n3, if_pos (by decide)]
        unfold recAt
        rw [show (2 * 3 + 1 : Int) = 7 by decide, g7]
    rw [load_in hm, e]
    rfl
  · have r7 : (recAt S3 7).2.2 ≠ 0 := by
      rw [recAt_put k2.now.1 n3, if_pos rfl]
      refine read_turned (by omega) fun h => hx ?_
      have h2 := congrArg (fun z => (recB 2 b).getD k 0 ^^^ z) h
      simpa [← BitVec.xor_assoc] using h2
    have r6 : recAt S3 6 = (1, a, 0) := by
      rw [recAt_put k2.now.1 n3, if_neg (by decide), recAt_put k1.now.1 n2, if_neg (by decide), recAt_put (newS_ok 1000).now.1 n1, if_pos rfl, read_rec (by decide) (by decide) (by omega)]
    have e : ofV S3 3 = (6, 1, a) := of_top (.inl (by decide)) r6 fun h => absurd h r7
    rw [load_in hm, e]
    rfl
theorem apart_plain (a b : Bs) (ha : a.length ≤ 20) (hb : b.length ≤ 20) (i k : Int) (hi : 0 ≤ i ∧ i < 100) (hk : 0 ≤ k ∧ k < 100) (at_ : Int) (x : B8) :
    ∃ S1 S2 S3 r, saveV (newS 1000) i a = (S1, 0) ∧ saveV S1 k b = (S2, 0) ∧ spoilV S2 (2 * k) at_ x = (S3, r) ∧ (i = k → loadV S2 i = (b, 2, true)) ∧ (i ≠ k → loadV S2 i = (a, 1, true) ∧ loadV S3 i = (a, 1, true)) ∧ DOk S1 4 29 ∧ DOk S2 4 29 ∧ DOk S3 4 29 := by
  have e0 : ∀ j, ofV (newS 1000) j = (2 * j + 1, 0, []) := fun j => of_empty rfl j
  have hmi : mayId i = true := by unfold mayId; simp; omega
  have hmk : mayId k = true := by unfold mayId; simp; omega
  obtain ⟨S1, s1, c1, r1, -, n1, k1, o1, q1⟩ := save_calm (S := newS 1000) (N := 0) (M := 29) (id := i) (b := a) ((newS_ok 1000).mono (Nat.le_refl _) (by decide)) ⟨rfl, rfl⟩ hmi (by rw [e0]; show (0 : Int) < 1073741824; decide) (by omega) (by omega) (by decide)
  rw [e0] at o1
  have room1 : S1.room = 1000 := r1.trans (by decide)
  have v1 : (ofV S1 k).2.1 ≤ 1 := by
    by_cases e : k = i
    · rw [e, o1]; show (0 : Int) + 1 ≤ 1; decide
    · rw [q1 k e, e0]; show (0 : Int) ≤ 1; decide
  obtain ⟨S2, s2, c2, r2, -, n2, k2, o2, q2⟩ := save_calm (S := S1) (N := 1) (M := 29) (id := k) (b := b) k1 c1 hmk (by omega) (by omega) (by omega) (by rw [room1]; decide)
  have room2 : S2.room = 1000 := r2.trans room1
  have hs : ∃ S3 r, spoilV S2 (2 * k) at_ x = (S3, r) ∧ DOk S3 4 29 ∧ ∀ j, j ≠ 2 * k → recAt S3 j = recAt S2 j := by
    by_cases h : 0 ≤ at_ ∧ at_ < (((S2.get (2 * k)).getD []).length : Int)
    · obtain ⟨j, rfl⟩ := Int.eq_ofNat_of_zero_le h.1
      obtain ⟨S3, s3, c3, r3, -, k3, n3⟩ := spoil_calm (k := 2 * k) (j := j) (x := x) k2 (by unfold In64; omega) (by omega) (by rw [room2]; decide)
      exact ⟨S3, true, s3, k3.mono (by omega) (Nat.le_refl _), fun j hj => by rw [recAt_put k2.now.1 n3, if_neg (fun e => hj e.symm)]⟩
    · exact ⟨S2, false, spoil_out h, k2.mono (by omega) (Nat.le_refl _), fun j _ => rfl⟩
  obtain ⟨S3, r, s3, k3, q3⟩ := hs
  refine ⟨S1, S2, S3, r, s1, s2, s3, fun e => ?_, fun e => ?_, k1.mono (by omega) (Nat.le_refl _), k2.mono (by omega) (Nat.le_refl _), k3⟩
  · subst e
    rw [load_in hmi, o2, o1]
    rfl
  · have v2 : ofV S2 i = (toV (newS 1000) i, 1, a) := by rw [q2 i e, o1]; rfl
    have v3 : ofV S3 i = (toV (newS 1000) i, 1, a) := by
      rw [← v2]
      exact of_other (q3 _ (by omega)) (q3 _ (by omega))
    rw [load_in hmi, load_in hmi, v2, v3]
    exact ⟨rfl, rfl⟩
section
variable {w W : World} {s d : Nat} {S S' : DS}
theorem spoil_e (h : SAt w W s d S) {N : Nat} (hok : DOk S N 1000000) (hN : N ≤ 90000) {k : Int} (hk : In64 k) {at_ : Int} {x : B8} {e : Bool} (hv : spoilV S k at_ x = (S', e)) :
    Calls Try.prog 20 #[.pointer (some ⟨s, 0, none⟩), .int .i64 k, .int .i64 at_, .int .u8 (n8 x)] W fun r w' => r = .returned (.bool e) ∧ SAt w w' s d S' ∧ Stays w.heap.size W w' := by
  obtain ⟨M, h1, h2, h3⟩ := h
  have h4 := sspoil_c w.heap.size s d M S N W h1 hok hN k hk at_ x h3
  rw [hv] at h4
  refine h4.mono ?_
  rintro r w' ⟨rfl, t⟩
  exact ⟨rfl, SAt.turn h1 h2 h3 t⟩
end
end Go.Proofs.Ytkopenemoddbbaa
