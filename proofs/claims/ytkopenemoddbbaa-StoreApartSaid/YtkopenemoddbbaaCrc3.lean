/- The check of bytes: the document's sum. -/
import Derived.Test.YtkopenemoddbbaaByt
import Derived.Test.YtkopenemoddbbaaChecked
import Derived.Deep.Cut
namespace Go.Proofs.Ytkopenemoddbbaa
open Go.RowKit

theorem xor64 (a b : B16) : bits .xor .i64 (n16 a) (n16 b) = n16 (a ^^^ b) := by
  have ha := a.isLt
  have hb := b.isLt
  have hx : (a ^^^ b).toNat < 2 ^ 16 := (a ^^^ b).isLt
  unfold n16
  show IntKind.i64.wrap ((BitVec.ofInt 64 (a.toNat : Int) ^^^ BitVec.ofInt 64 (b.toNat : Int)).toNat : Int) = _
  rw [BitVec.ofInt_natCast, BitVec.ofInt_natCast, BitVec.toNat_xor, BitVec.toNat_ofNat, BitVec.toNat_ofNat, Nat.mod_eq_of_lt (by omega), Nat.mod_eq_of_lt (by omega), ← BitVec.toNat_xor]
  rw [IntKind.wrap_i64]
  omega
theorem byte64 (x : B8) : n8 x * (256 : Int) = n16 (x.setWidth 16 <<< 8) := by
  unfold n16 n8
  rw [BitVec.toNat_shiftLeft, Nat.shiftLeft_eq, BitVec.toNat_setWidth]
  have := x.isLt
  omega
theorem st_hi {c : B16} (h : c.msb = true) : n16 c * (2 : Int) ≥ 65536 ∧ bits .xor .i64 (n16 c * (2 : Int) - (65536 : Int)) 4129 = n16 (st c) := by
  have h1 : 2 * c.toNat ≥ 2 ^ 16 := by
    rw [BitVec.msb_eq_decide] at h
    simp at h
    omega
  have h2 : n16 c * (2 : Int) - (65536 : Int) = n16 (c <<< 1) := by
    unfold n16
    rw [BitVec.toNat_shiftLeft, Nat.shiftLeft_eq]
    have := c.isLt
    omega
  refine ⟨by unfold n16; omega, ?_⟩
  rw [h2, show (4129 : Int) = n16 0x1021#16 by decide, xor64]
  unfold st
  rw [h]
  rfl
theorem st_lo {c : B16} (h : c.msb = false) : n16 c * (2 : Int) < 65536 ∧ n16 c * (2 : Int) = n16 (st c) := by
  have h1 : 2 * c.toNat < 2 ^ 16 := by
    rw [BitVec.msb_eq_decide] at h
    simp at h
    omega
  refine ⟨by unfold n16; omega, ?_⟩
  unfold st
  rw [h]
  unfold n16
  simp [BitVec.toNat_shiftLeft, Nat.shiftLeft_eq]
  omega
set_option maxRecDepth 100000 in
set_option maxHeartbeats 4000000 in
theorem rsum_c (c : B16) (q : Option Addr) (n cap : Nat) (F : Nat → B8) (hc : n ≤ cap) (hm : cap ≤ maxLen) (w : World) (hq : Byq w q n F) :
    Calls Try.prog 71 #[.int .i64 (n16 c), .slice q n cap] w fun r w' => r = .returned (.int .i64 (n16 (crcN c F n))) ∧ w = w' := by
  go_enter Try.func71, Try.ntmps71
  go_upto_region 2 with (fail)
  go_loopw [0, 5] (fun c' i wq => ∃ k : Nat, k ≤ n ∧ c' = .int .i64 (n16 (crcN c F k)) ∧ i = .int .i64 k ∧ wq = w) (fun _ i _ => n - (intOf i).toNat)
  case atStart => exact ⟨0, by omega, rfl, rfl, rfl⟩
  case round =>
    obtain ⟨k, hk, rfl, rfl, rfl⟩ := hrel
    by_cases hlt : k < n
    · obtain ⟨g, o, rfl, B⟩ := hq (by omega)
      have hb := B k hlt
      have HS : Hid (crcN c F (k + 1) = stN 8 (crcN c F k ^^^ ((F k).setWidth 16 <<< 8))) := rfl
      generalize F k = x at hb HS
      generalize crcN c F k = cc at HS ⊢
      obtain ⟨b0, b1⟩ := n8_lt x
      obtain ⟨cx, hcx⟩ : ∃ cx, cx = cc ^^^ (x.setWidth 16 <<< 8) := ⟨_, rfl⟩
      rw [← hcx] at HS
      have hx : bits .xor .i64 (n16 cc) (n8 x * 256) = n16 cx := by rw [byte64, xor64, hcx]
      clear hcx
      go_upto_region 6 with (fail)
      clear hx b0 b1 hb
      go_loopw [0, 6] (fun c' i wq => ∃ j : Nat, j ≤ 8 ∧ c' = .int .i64 (n16 (stN j cx)) ∧ i = .int .i64 j ∧ wq = wr) (fun _ i _ => 8 - (intOf i).toNat)
      case atStart => exact ⟨0, by omega, rfl, rfl, rfl⟩
      case round =>
        obtain ⟨j, hj, rfl, rfl, rfl⟩ := hrel
        by_cases hlj : j < 8
        · have HT : Hid (st (stN j cx) = stN (j + 1) cx) := stN_succ j cx
          generalize stN j cx = cj at HT ⊢
          obtain ⟨j0, j1⟩ := n16_lt cj
          cases hmsb : cj.msb with
          | true =>
            obtain ⟨t0, t1⟩ := st_hi hmsb
            rw [HT.out] at t1
            generalize hcn : stN (j + 1) cx = cn at t1
            replace hcn : Hid (cn = stN (j + 1) cx) := hcn.symm
            generalize n16 cj = z at *
            clear hmsb HT
            go_wp2_with fail
            go_roundw
            case rel => exact ⟨j + 1, by omega, by rw [← hcn.out], by go_num, trivial⟩
            case measure => simp [intOf]; omega
          | false =>
            obtain ⟨t0, t1⟩ := st_lo hmsb
            rw [HT.out] at t1
            generalize hcn : stN (j + 1) cx = cn at t1
            replace hcn : Hid (cn = stN (j + 1) cx) := hcn.symm
            generalize n16 cj = z at *
            replace t1 : Hid (z * 2 = n16 cn) := t1
            clear hmsb HT
            go_wp2_with fail
            go_roundw
            case rel => exact ⟨j + 1, by omega, by rw [t1.out, hcn.out], by go_num, trivial⟩
            case measure => simp [intOf]; omega
        · obtain rfl : j = 8 := by omega
          rw [← HS.out]
          go_wp2_with fail
          have hkw := next64 hc hm hlt
          go_roundw
          case rel => exact ⟨k + 1, hlt, rfl, next_val hkw, trivial⟩
          case measure => exact next_less hlt hkw
    · obtain rfl : k = n := by omega
      go_wp2_with fail
      go_returns
      exact ⟨rfl, rfl⟩
end Go.Proofs.Ytkopenemoddbbaa
