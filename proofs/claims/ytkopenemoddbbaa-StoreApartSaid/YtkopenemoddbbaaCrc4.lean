/- The check of bytes: the walks of what is asked of it. -/
import Derived.Test.YtkopenemoddbbaaCrc2
import Derived.Test.YtkopenemoddbbaaCrc3
import Derived.Test.YtkopenemoddbbaaFix
import Derived.Test.YtkopenemoddbbaaBase2
import Derived.Lib.SlBytesConst
namespace Go.Proofs.Ytkopenemoddbbaa
open Go.RowKit

theorem first16 : (65535 : Int) = n16 0xFFFF#16 := by decide
theorem start_c (w : World) : Calls Try.prog 69 #[] w fun r w' => r = .returned (.int .u16 (n16 0xFFFF#16)) ∧ w = w' := by
  go_enter Try.func69, Try.ntmps69
  go_wp2_with fail
  go_returns
  exact ⟨ret_i first16, rfl⟩
/-- The check of bytes. -/
def crcO (F : Nat → B8) (n : Nat) : B16 := crcN 0xFFFF#16 F n
theorem of_c (q : Option Addr) (n cap : Nat) (F : Nat → B8) (hc : n ≤ cap) (hm : cap ≤ maxLen) (w : World) (hq : Byq w q n F) :
    Calls Try.prog 52 #[.slice q n cap] w fun r w' => r = .returned (.int .u16 (n16 (crcO F n))) ∧ Below w.heap.size w w' := by
  go_enter Try.func52, Try.ntmps52
  go_wp2_with fail
  refine (start_c _).mono ?_; rintro e w1 ⟨rfl, rfl⟩
  go_wp2_with fail
  refine (with_c _ q n cap F hc hm _ hq).mono ?_; rintro e w1 ⟨rfl, hb⟩
  go_wp2_with fail
  go_returns
  exact ⟨rfl, by (repeat' (first | (with_reducible exact Below.refl _ _) | (with_reducible assumption) | (with_reducible refine Below.alloc ?_ ?_ _) | (with_reducible refine Below.drew ?_) | (with_reducible refine Below.setCell ?_ ?_ _) | (with_reducible refine after ?_ (below_regrown _ _ _)) | (refine after ?_ (by with_reducible assumption)) | go_size))⟩
theorem rof_c (q : Option Addr) (n cap : Nat) (F : Nat → B8) (hc : n ≤ cap) (hm : cap ≤ maxLen) (w : World) (hq : Byq w q n F) :
    Calls Try.prog 55 #[.slice q n cap] w fun r w' => r = .returned (.int .i64 (n16 (crcO F n))) ∧ w = w' := by
  go_enter Try.func55, Try.ntmps55
  go_wp2_with fail
  rw [first16]
  refine (rsum_c _ q n cap F hc hm _ hq).mono ?_
  rintro e w1 ⟨rfl, rfl⟩
  go_wp2_with fail
  go_returns
  exact ⟨rfl, rfl⟩
theorem hi8 (c : B16) : n8 ((c >>> 8).setWidth 8) = n16 c / 256 := by
  unfold n16 n8
  rw [BitVec.toNat_setWidth, BitVec.toNat_ushiftRight, Nat.shiftRight_eq_div_pow]
  have := c.isLt
  omega
theorem lo8 (c : B16) : n8 (c.setWidth 8) = IntKind.u8.wrap (n16 c) := by
  rw [IntKind.wrap_u8']
  unfold n16 n8
  rw [BitVec.toNat_setWidth]
  omega
theorem two_bytes (c : B16) : n8 ((c >>> 8).setWidth 8) * 256 + n8 (c.setWidth 8) = n16 c := by
  rw [hi8, lo8, IntKind.wrap_u8']
  omega
set_option maxRecDepth 100000 in
set_option maxHeartbeats 1000000 in
theorem ckbytes_c (c : B16) (w : World) : Calls Try.prog 53 #[.int .u16 (n16 c)] w fun r w' => r = .returned (.agg #[.int .u8 (n8 ((c >>> 8).setWidth 8)), .int .u8 (n8 (c.setWidth 8))]) ∧ Below w.heap.size w w' := by
  have R : Blk (w.alloc (.cells #[.int .u8 0, .int .u8 0] 98)) w.heap.size 98 #[.int .u8 0, .int .u8 0] := Blk.new' rfl
  have r0 := R.cell 0
  have r1 := R.cell 1
  have f0 := R.frz 0
  have f1 := R.frz 1
  obtain ⟨j0, j1⟩ := n16_lt c
  have e1 : n16 c / (256 : Int) = n8 ((c >>> 8).setWidth 8) := (hi8 c).symm
  have e2 : IntKind.u8.wrap (n16 c) = n8 (c.setWidth 8) := (lo8 c).symm
  obtain ⟨l0, l1⟩ := n8_lt ((c >>> 8).setWidth 8)
  go_enter Try.func53, Try.ntmps53
  go_wp2_with fail
  exact bodyPost_ret (v := .agg #[.int .u8 (n8 ((c >>> 8).setWidth 8)), .int .u8 (n8 (c.setWidth 8))]) (by simp [results, Try.results53, go_sem]) rfl ⟨rfl, by (repeat' (first | (with_reducible exact Below.refl _ _) | (with_reducible assumption) | (with_reducible refine Below.alloc ?_ ?_ _) | (with_reducible refine Below.drew ?_) | (with_reducible refine Below.setCell ?_ ?_ _) | (with_reducible refine after ?_ (below_regrown _ _ _)) | (refine after ?_ (by with_reducible assumption)) | go_size))⟩
theorem few_c (q : Option Addr) (n cap m : Nat) (hc : n ≤ cap) (w : World) :
    Calls Try.prog 9 #[.slice q n cap, .int .i64 m] w fun r w' => r = .returned (.slice q (min n m) cap) ∧ w = w' := by
  by_cases h : m < n
  · have h1 : (m : Int) < n := by omega
    have h2 : m ≤ cap := by omega
    go_enter Try.func9, Try.ntmps9
    go_wp2_with fail
    go_returns
    rw [Nat.min_eq_right (by omega)]
    exact ⟨rfl, rfl⟩
  · have h1 : ¬ (m : Int) < n := by omega
    go_enter Try.func9, Try.ntmps9
    go_wp2_with fail
    go_returns
    rw [Nat.min_eq_left (by omega)]
    exact ⟨rfl, rfl⟩
def exB (i : Nat) : B8 := BitVec.ofNat 8 (49 + i)
theorem ex_crc : crcO exB 9 = 10673#16 := by decide +kernel
end Go.Proofs.Ytkopenemoddbbaa
