/- The check of bytes: the walks of what is asked of it. -/
import Derived.Test.YtpmkeocknlhhkaaCrc2
import Derived.Test.YtpmkeocknlhhkaaCrc3
import Derived.Test.YtpmkeocknlhhkaaFix
import Derived.Test.YtpmkeocknlhhkaaBase2
import Derived.Lib.SlBytesConst
namespace Go.Proofs.Ytpmkeocknlhhkaa
open Go.RowKit

theorem first16 : (65535 : Int) = n16 0xFFFF#16 := by decide
theorem start_c (w : World) : Calls Try.prog 16 #[] w fun r w' => r = .returned (.int .u16 (n16 0xFFFF#16)) ∧ w = w' := by
  go_enter Try.func16, Try.ntmps16
  go_wp2_with fail
  go_returns
  exact ⟨ret_i first16, rfl⟩
/-- The check of bytes. -/
def crcO (F : Nat → B8) (n : Nat) : B16 := crcN 0xFFFF#16 F n
theorem of_c (q : Option Addr) (n cap : Nat) (F : Nat → B8) (hc : n ≤ cap) (hm : cap ≤ maxLen) (w : World) (hq : Byq w q n F) :
    Calls Try.prog 11 #[.slice q n cap] w fun r w' => r = .returned (.int .u16 (n16 (crcO F n))) ∧ Below w.heap.size w w' := by
  go_enter Try.func11, Try.ntmps11
  go_wp2_with fail
  refine (start_c _).mono ?_; rintro e w1 ⟨rfl, rfl⟩
  go_wp2_with fail
  refine (with_c _ q n cap F hc hm _ hq).mono ?_; rintro e w1 ⟨rfl, hb⟩
  go_wp2_with fail
  go_returns
  exact ⟨rfl, by (repeat' (first | (with_reducible exact Below.refl _ _) | (with_reducible assumption) | (with_reducible refine Below.alloc ?_ ?_ _) | (with_reducible refine Below.drew ?_) | (with_reducible refine Below.setCell ?_ ?_ _) | (with_reducible refine after ?_ (below_regrown _ _ _)) | (refine after ?_ (by with_reducible assumption)) | go_size))⟩
theorem rof_c (q : Option Addr) (n cap : Nat) (F : Nat → B8) (hc : n ≤ cap) (hm : cap ≤ maxLen) (w : World) (hq : Byq w q n F) :
    Calls Try.prog 14 #[.slice q n cap] w fun r w' => r = .returned (.int .i64 (n16 (crcO F n))) ∧ w = w' := by
  go_enter Try.func14, Try.ntmps14
  go_wp2_with fail
  rw [first16]
  refine (rsum_c _ q n cap F hc hm _ hq).mono ?_
  rintro e w1 ⟨rfl, rfl⟩
  go_wp2_with fail
  go_returns
  exact ⟨rfl, rfl⟩
theorem hi8 (c : B16) : n8 ((c >>> 8).setWidth 8) = n16 c / 256 := by
  unfold n16 n8
  rw [BitVec.toNat_setWidth, BitVec.toNat_ushiftRight, Nat.shiftRight_eq_div_pow]
  have := c.isLt
  omega
theorem lo8 (c : B16) : n8 (c.setWidth 8) = IntKind.u8.wrap (n16 c) := by
  rw [IntKind.wrap_u8']
  unfold n16 n8
  rw [BitVec.toNat_setWidth]
  omega
theorem two_bytes (c : B16) : n8 ((c >>> 8).setWidth 8) * 256 + n8 (c.setWidth 8) = n16 c := by
  rw [hi8, lo8, IntKind.wrap_u8']
  omega
set_option maxHeartbeats 1000000 in
theorem bytes_c (c : B16) (w : World) : Calls Try.prog 13 #[.int .u16 (n16 c)] w fun r w' => r = .returned (.agg #[.int .u8 (n8 ((c >>> 8).setWidth 8)), .int .u8 (n8 (c.setWidth 8))]) ∧ Below w.heap.size w w' := by
  have R : Blk (w.alloc (.cells #[.int .u8 0, .int .u8 0] 31)) w.heap.size 31 #[.int .u8 0, .int .u8 0] := Blk.new' rfl
  have r0 := R.cell 0
  have r1 := R.cell 1
  have f0 := R.frz 0
  have f1 := R.frz 1
  obtain ⟨j0, j1⟩ := n16_lt c
  have e1 : n16 c / (256 : Int) = n8 ((c >>> 8).setWidth 8) := (hi8 c).symm
  have e2 : IntKind.u8.wrap (n16 c) = n8 (c.setWidth 8) := (lo8 c).symm
  obtain ⟨l0, l1⟩ := n8_lt ((c >>> 8).setWidth 8)
  go_enter Try.func13, Try.ntmps13
  go_wp2_with fail
  exact bodyPost_ret (v := .agg #[.int .u8 (n8 ((c >>> 8).setWidth 8)), .int .u8 (n8 (c.setWidth 8))]) (by simp [results, Try.results13, go_sem]) rfl ⟨rfl, by (repeat' (first | (with_reducible exact Below.refl _ _) | (with_reducible assumption) | (with_reducible refine Below.alloc ?_ ?_ _) | (with_reducible refine Below.drew ?_) | (with_reducible refine Below.setCell ?_ ?_ _) | (with_reducible refine after ?_ (below_regrown _ _ _)) | (refine after ?_ (by with_reducible assumption)) | go_size))⟩
theorem few_c (q : Option Addr) (n cap m : Nat) (hc : n ≤ cap) (w : World) :
    Calls Try.prog 8 #[.slice q n cap, .int .i64 m] w fun r w' => r = .returned (.slice q (min n m) cap) ∧ w = w' := by
  by_cases h : m < n
  · have h1 : (m : Int) < n := by omega
    have h2 : m ≤ cap := by omega
    go_enter Try.func8, Try.ntmps8
    go_wp2_with fail
    go_returns
    rw [Nat.min_eq_right (by omega)]
    exact ⟨rfl, rfl⟩
  · have h1 : ¬ (m : Int) < n := by omega
    go_enter Try.func8, Try.ntmps8
    go_wp2_with fail
    go_returns
    rw [Nat.min_eq_left (by omega)]
    exact ⟨rfl, rfl⟩
def exB (i : Nat) : B8 := BitVec.ofNat 8 (49 + i)
theorem ex_crc : crcO exB 9 = 10673#16 := by decide +kernel
theorem lives7_c (w : World) : Calls Try.prog 9 #[] w fun r w' => r = .returned (.bool true) ∧ Below w.heap.size w w' := by
  have hcv := Lib.run_convert_bytes_const w 22 5 #[.int .u8 49, .int .u8 50, .int .u8 51, .int .u8 52, .int .u8 53, .int .u8 54, .int .u8 55, .int .u8 56, .int .u8 57] 9 9 Try.underlying22 Try.underlying5
  obtain ⟨W1, hW⟩ : ∃ W1, W1 = w.alloc (.cells #[.int .u8 49, .int .u8 50, .int .u8 51, .int .u8 52, .int .u8 53, .int .u8 54, .int .u8 55, .int .u8 56, .int .u8 57] 5 (9, 10)) := ⟨_, rfl⟩
  have C : W1.heap[w.heap.size]? = some (.cells #[.int .u8 49, .int .u8 50, .int .u8 51, .int .u8 52, .int .u8 53, .int .u8 54, .int .u8 55, .int .u8 56, .int .u8 57] 5 (9, 10)) := by rw [hW]; exact heap_alloc_new w _
  have hb1 : Below w.heap.size w W1 := by rw [hW]; exact (Below.refl _ _).alloc (Nat.le_refl _) _
  have B : Byt W1 w.heap.size 0 9 exB := fun i hi => by
    rw [Nat.zero_add]
    unfold World.cell?
    simp only [C]
    match i, hi with
    | 0, _ => rfl
    | 1, _ => rfl
    | 2, _ => rfl
    | 3, _ => rfl
    | 4, _ => rfl
    | 5, _ => rfl
    | 6, _ => rfl
    | 7, _ => rfl
    | 8, _ => rfl
  go_enter Try.func9, Try.ntmps9
  rw [show (#[.int .u8 49, .int .u8 50, .int .u8 51, .int .u8 52, .int .u8 53, .int .u8 54, .int .u8 55, .int .u8 56, .int .u8 57] : Array Value).size = 9 from rfl, ← hW] at hcv
  clear hW
  go_wp2_with fail
  refine (of_c _ 9 9 exB (Nat.le_refl _) (by decide) _ (Byq.of B)).mono ?_
  rintro e w1 ⟨rfl, hb⟩
  rw [ex_crc, show n16 10673#16 = 10673 by decide]
  go_wp2_with fail
  go_returns
  exact ⟨rfl, after hb1 hb⟩
end Go.Proofs.Ytpmkeocknlhhkaa
