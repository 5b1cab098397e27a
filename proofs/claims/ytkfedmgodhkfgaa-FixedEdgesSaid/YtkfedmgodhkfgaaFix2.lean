/- The walks of the layer 1 (fixed) and of its reference: what stands on memory, and quotients. -/
import Derived.Test.YtkfedmgodhkfgaaFix
namespace Go.Proofs.Ytkfedmgodhkfgaa
open Go.RowKit

theorem mul64_mask (a : Nat) (ha : a < 18446744073709551616) : bits .and .u64 (a : Int) 4294967295 = ((a % 4294967296 : Nat) : Int) := by
  have h := bits_and_u64_nat a 4294967295 ha (by omega)
  have e : a &&& 4294967295 = a % 4294967296 := Nat.and_two_pow_sub_one_eq_mod a 32
  rw [e] at h
  exact h
theorem mul64_div (a : Nat) : (a : Int) / 4294967296 = ((a / 4294967296 : Nat) : Int) := by omega
theorem mul64_mul (a b : Nat) : (a : Int) * (b : Int) = ((a * b : Nat) : Int) := (Int.natCast_mul a b).symm
theorem mul64_add (a b : Nat) : (a : Int) + (b : Int) = ((a + b : Nat) : Int) := (Int.natCast_add a b).symm
theorem mul64_wrap (a : Nat) (ha : a < 18446744073709551616) : IntKind.u64.wrap (a : Int) = (a : Int) := by rw [IntKind.wrap_u64]; omega
theorem mul64_wrapM (a : Nat) : IntKind.u64.wrap (a : Int) = ((a % 18446744073709551616 : Nat) : Int) := by rw [IntKind.wrap_u64]; omega
set_option maxHeartbeats 1000000 in
theorem mul64_c (x y : Nat) (hx : x < 18446744073709551616) (hy : y < 18446744073709551616) (w : World) :
    Calls Try.prog 29 #[.int .u64 x, .int .u64 y] w fun e w' => e = .returned (.tuple #[.int .u64 ((x * y / 18446744073709551616 : Nat) : Int), .int .u64 ((x * y % 18446744073709551616 : Nat) : Int)]) ∧ w = w' := by
  obtain ⟨bd, bt, bw, hhi⟩ := Lib.mul64_hi x y hx hy
  have ba := Lib.half_mul_le (a := x / 4294967296) (b := y / 4294967296) (by omega) (by omega)
  have bb := Lib.half_mul_le (a := x / 4294967296) (b := y % 4294967296) (by omega) (by omega)
  have bc := Lib.half_mul_le (a := x % 4294967296) (b := y / 4294967296) (by omega) (by omega)
  have ba' : x / 4294967296 * (y / 4294967296) < 18446744073709551616 := by omega
  have bb' : x / 4294967296 * (y % 4294967296) < 18446744073709551616 := by omega
  have bc' : x % 4294967296 * (y / 4294967296) < 18446744073709551616 := by omega
  have bh1 : x / 4294967296 * (y / 4294967296) + (x / 4294967296 * (y % 4294967296) + x % 4294967296 * (y % 4294967296) / 4294967296) / 4294967296 < 18446744073709551616 := by omega
  have bh : x / 4294967296 * (y / 4294967296) + (x / 4294967296 * (y % 4294967296) + x % 4294967296 * (y % 4294967296) / 4294967296) / 4294967296 + ((x / 4294967296 * (y % 4294967296) + x % 4294967296 * (y % 4294967296) / 4294967296) % 4294967296 + x % 4294967296 * (y / 4294967296)) / 4294967296 < 18446744073709551616 := by omega
  go_enter Try.func29, Try.ntmps29
  go_wp2
  simp only [mul64_mask x hx, mul64_mask y hy, mul64_div, mul64_mul, mul64_add, mul64_wrap _ bd, mul64_wrap _ bb', mul64_wrap _ bt, mul64_mask _ bt, mul64_wrap _ bc', mul64_wrap _ bw, mul64_wrap _ ba', mul64_wrap _ bh1, mul64_wrap _ bh, mul64_wrapM (x * y)]
  rw [hhi]
  go_ret2
  exact ⟨rfl, rfl⟩
set_option maxHeartbeats 400000 in
theorem round1_c (n : Int) (b r : Bool) (p q : Nat) (hn : 0 ≤ n) (hn2 : n ≤ 140737488355328) (w : World) (hb : w.cell? ⟨p, 0, none⟩ = some (.bool b)) (hr : w.cell? ⟨q, 0, none⟩ = some (.bool r)) :
    Calls Try.prog 34 #[.int .u64 n, .pointer (some ⟨p, 0, none⟩), .pointer (some ⟨q, 0, none⟩)] w fun e w' => e = .returned (.int .u64 (upI n b r)) ∧ w = w' := by
  cases b <;> cases r
  all_goals
    go_enter Try.func34, Try.ntmps34
    go_wp2
    go_returns
    exact ⟨ret_i (by simp [upI]), rfl⟩
set_option maxHeartbeats 1000000 in
theorem round_c (q : Int) (rest below : Bool) (hq : 0 ≤ q) (hq2 : q ≤ 18446744073709551615) (w : World) :
    Calls Try.prog 30 #[.int .u64 q, .bool rest, .bool below] w fun e w' => e = .returned (.int .i64 (rndI q rest below)) ∧ Below w.heap.size w w' := by
  have hmf : ∀ (fn : Fn) (first cap : Array Value) (w : World), (Instr.makeFunc fn first cap).run Try.prog w = .ok (.func fn first cap) w := fun _ _ _ _ => rfl
  by_cases h : 140737488355328 ≤ q <;> cases below
  all_goals
    go_enter Try.func30, Try.ntmps30
    go_wp2_with fail
    first
      | (go_returns; exact ⟨ret_i (by simp [rndI]; omega), by go_grown⟩)
      | (refine (round1_c _ _ _ _ _ (by omega) (by omega) _ (Blk.new' (by simp)).c1.1 ((Blk.new' rfl).alloc _).c1.1).mono ?_
         rintro e w1 ⟨rfl, rfl⟩
         have ub := upI_bd 140737488355328 true false
         have ub2 := upI_bd q true rest
         go_wp2_with fail
         go_returns
         exact ⟨ret_i (by simp [rndI, h]; first | rfl | (simp [upI]; done) | omega), by go_grown⟩)
theorem mul64_i (x y : Int) (hx : 0 ≤ x) (hy : 0 ≤ y) (hx2 : x ≤ 140737488355328) (hy2 : y ≤ 140737488355328) (w : World) :
    Calls Try.prog 29 #[.int .u64 x, .int .u64 y] w fun e w' => e = .returned (.tuple #[.int .u64 (x * y / 18446744073709551616), .int .u64 (x * y % 18446744073709551616)]) ∧ w = w' := by
  obtain ⟨x, rfl⟩ := Int.eq_ofNat_of_zero_le hx
  obtain ⟨y, rfl⟩ := Int.eq_ofNat_of_zero_le hy
  refine (mul64_c x y (by omega) (by omega) w).mono ?_
  rintro e w' ⟨rfl, rfl⟩
  exact ⟨ret_t2 (vi (by rw [Int.natCast_ediv, Int.natCast_mul]; rfl)) (vi (by rw [Int.natCast_emod, Int.natCast_mul]; rfl)), rfl⟩
set_option maxHeartbeats 1000000 in
theorem fmul_c (a b : Int) (w : World) : Calls Try.prog 11 #[.int .i64 a, .int .i64 b] w fun e w' => e = .returned (.int .i64 (mulI a b)) ∧ Below w.heap.size w w' := by
  obtain ⟨ax, ay⟩ := absI_bd (cutI_lo a) (cutI_hi a)
  obtain ⟨bx, by_⟩ := absI_bd (cutI_lo b) (cutI_hi b)
  have p0 : 0 ≤ absI (cutI a) * absI (cutI b) := Int.mul_nonneg ax bx
  have HR := Lib.hid (mul_rnd (cutI a) (cutI b) _ rfl p0)
  go_enter Try.func11, Try.ntmps11
  go_wp2_with fail
  refine (size_c a _).mono ?_; rintro e w1 ⟨rfl, rfl⟩
  go_wp2_with fail
  refine (size_c b _).mono ?_; rintro e w1 ⟨rfl, rfl⟩
  go_wp2_with fail
  refine (mul64_i _ _ ax bx ay by_ _).mono ?_; rintro e w1 ⟨rfl, rfl⟩
  generalize absI (cutI a) * absI (cutI b) = p at *
  have l0 : 0 ≤ p % 18446744073709551616 := by omega
  have l1 : p % 18446744073709551616 ≤ 18446744073709551615 := by omega
  have H0 : 0 ≤ p / 18446744073709551616 := by omega
  by_cases hi : 0 < p / 18446744073709551616
  · go_wp2_with fail
    refine (round_c _ _ _ (by omega) (by omega) _).mono ?_; rintro e w1 ⟨rfl, hb⟩
    go_wp2_with fail
    go_returns
    exact ⟨ret_i (HR.out.1 hi _), hb⟩
  · have hi' : p / 18446744073709551616 ≤ 0 := by omega
    go_wp2_with fail
    refine (round_c _ _ _ (by omega) (by omega) _).mono ?_; rintro e w1 ⟨rfl, hb⟩
    go_wp2_with fail
    go_returns
    exact ⟨ret_i (HR.out.2 hi'), hb⟩
end Go.Proofs.Ytkfedmgodhkfgaa
