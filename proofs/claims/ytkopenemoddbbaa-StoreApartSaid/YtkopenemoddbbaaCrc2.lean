/- The check of bytes: the walks over the bytes. -/
import Derived.Test.YtkopenemoddbbaaCrc1
namespace Go.Proofs.Ytkopenemoddbbaa
open Go.RowKit

theorem nib_lt (c y : B16) (hy : n16 y < 16) : 0 ≤ n16 ((c >>> 12) ^^^ y) ∧ n16 ((c >>> 12) ^^^ y) < 16 ∧ ((c >>> 12) ^^^ y).toNat < 16 := by
  have h1 : ((c >>> 12) ^^^ y).toNat < 2 ^ 4 := by
    rw [BitVec.toNat_xor]
    refine Nat.xor_lt_two_pow ?_ ?_
    · rw [BitVec.toNat_ushiftRight, Nat.shiftRight_eq_div_pow]
      have := c.isLt
      omega
    · unfold n16 at hy; omega
  unfold n16
  omega
theorem nibh_lt (x : B8) : n16 (x.setWidth 16 >>> 4) < 16 := by
  rw [← nib8h, IntKind.wrap_u16]
  have := n8_lt x
  omega
theorem nibl_lt (x : B8) : n16 (x.setWidth 16 &&& 15#16) < 16 := by
  unfold n16
  rw [BitVec.toNat_and, show (15#16).toNat = 15 by decide]
  have : (x.setWidth 16).toNat &&& 15 ≤ 15 := Nat.and_le_right
  omega
theorem tab_cell {w : World} {g : Nat} {t : TypeId} (h : Blk w g t (tabA 16)) (i : B16) (hi : i.toNat < 16) : w.cell? ⟨g, (n16 i).toNat, none⟩ = some (.int .u16 (n16 (tb i))) := by
  rw [h.cell, show (n16 i).toNat = i.toNat from rfl, tabA_at _ hi]
  simp
set_option maxRecDepth 100000 in
set_option maxHeartbeats 4000000 in
theorem with_c (c : B16) (q : Option Addr) (n cap : Nat) (F : Nat → B8) (hc : n ≤ cap) (hm : cap ≤ maxLen) (w : World) (hq : Byq w q n F) :
    Calls Try.prog 70 #[.int .u16 (n16 c), .slice q n cap] w fun r w' => r = .returned (.int .u16 (n16 (crcN c F n))) ∧ Below w.heap.size w w' := by
  go_enter Try.func70, Try.ntmps70
  go_wp2_with fail
  refine (steps_c _).mono ?_; rintro e w1 ⟨rfl, H⟩
  rw [show tabA 16 = #[.int .u16 (n16 (tb (BitVec.ofNat 16 0))), .int .u16 (n16 (tb (BitVec.ofNat 16 1))), .int .u16 (n16 (tb (BitVec.ofNat 16 2))), .int .u16 (n16 (tb (BitVec.ofNat 16 3))), .int .u16 (n16 (tb (BitVec.ofNat 16 4))), .int .u16 (n16 (tb (BitVec.ofNat 16 5))), .int .u16 (n16 (tb (BitVec.ofNat 16 6))), .int .u16 (n16 (tb (BitVec.ofNat 16 7))), .int .u16 (n16 (tb (BitVec.ofNat 16 8))), .int .u16 (n16 (tb (BitVec.ofNat 16 9))), .int .u16 (n16 (tb (BitVec.ofNat 16 10))), .int .u16 (n16 (tb (BitVec.ofNat 16 11))), .int .u16 (n16 (tb (BitVec.ofNat 16 12))), .int .u16 (n16 (tb (BitVec.ofNat 16 13))), .int .u16 (n16 (tb (BitVec.ofNat 16 14))), .int .u16 (n16 (tb (BitVec.ofNat 16 15)))] from rfl]
  go_upto_region 3 with (fail)
  obtain ⟨W1, hW⟩ : ∃ W1, W1 = w1.alloc (.cells #[.int .u16 (n16 (tb (BitVec.ofNat 16 0))), .int .u16 (n16 (tb (BitVec.ofNat 16 1))), .int .u16 (n16 (tb (BitVec.ofNat 16 2))), .int .u16 (n16 (tb (BitVec.ofNat 16 3))), .int .u16 (n16 (tb (BitVec.ofNat 16 4))), .int .u16 (n16 (tb (BitVec.ofNat 16 5))), .int .u16 (n16 (tb (BitVec.ofNat 16 6))), .int .u16 (n16 (tb (BitVec.ofNat 16 7))), .int .u16 (n16 (tb (BitVec.ofNat 16 8))), .int .u16 (n16 (tb (BitVec.ofNat 16 9))), .int .u16 (n16 (tb (BitVec.ofNat 16 10))), .int .u16 (n16 (tb (BitVec.ofNat 16 11))), .int .u16 (n16 (tb (BitVec.ofNat 16 12))), .int .u16 (n16 (tb (BitVec.ofNat 16 13))), .int .u16 (n16 (tb (BitVec.ofNat 16 14))), .int .u16 (n16 (tb (BitVec.ofNat 16 15)))] 126) := ⟨_, rfl⟩
  rw [← hW]
  have C : Blk W1 w1.heap.size 126 (tabA 16) := Blk.fresh hW
  replace hq := hq.on H
  have hb1 : Below w1.heap.size w1 W1 := by rw [hW]; exact (Below.refl _ _).alloc (Nat.le_refl _) _
  replace hq := hq.on hb1
  replace H := after H hb1
  clear hW hb1
  generalize w1.heap.size = nc at *
  generalize Value.agg #[.int .u16 (n16 (tb (BitVec.ofNat 16 0))), .int .u16 (n16 (tb (BitVec.ofNat 16 1))), .int .u16 (n16 (tb (BitVec.ofNat 16 2))), .int .u16 (n16 (tb (BitVec.ofNat 16 3))), .int .u16 (n16 (tb (BitVec.ofNat 16 4))), .int .u16 (n16 (tb (BitVec.ofNat 16 5))), .int .u16 (n16 (tb (BitVec.ofNat 16 6))), .int .u16 (n16 (tb (BitVec.ofNat 16 7))), .int .u16 (n16 (tb (BitVec.ofNat 16 8))), .int .u16 (n16 (tb (BitVec.ofNat 16 9))), .int .u16 (n16 (tb (BitVec.ofNat 16 10))), .int .u16 (n16 (tb (BitVec.ofNat 16 11))), .int .u16 (n16 (tb (BitVec.ofNat 16 12))), .int .u16 (n16 (tb (BitVec.ofNat 16 13))), .int .u16 (n16 (tb (BitVec.ofNat 16 14))), .int .u16 (n16 (tb (BitVec.ofNat 16 15)))] = tab
  go_loopw [0, 11] (fun c' i wq => ∃ k : Nat, k ≤ n ∧ c' = .int .u16 (n16 (crcN c F k)) ∧ i = .int .i64 k ∧ wq = W1) (fun _ i _ => n - (intOf i).toNat)
  case atStart => exact ⟨0, by omega, rfl, rfl, rfl⟩
  case round =>
    obtain ⟨k, hk, rfl, rfl, rfl⟩ := hrel
    by_cases hlt : k < n
    · obtain ⟨g, o, rfl, B⟩ := hq (by omega)
      have hb := B k hlt
      generalize hx : F k = x at hb
      generalize hcc : crcN c F k = cc
      go_upto_region 5 with (fail)
      obtain ⟨xh, hxh⟩ : ∃ xh, xh = (x.setWidth 16 : B16) >>> 4 := ⟨_, rfl⟩
      obtain ⟨ix, hix⟩ : ∃ ix, ix = (cc >>> 12) ^^^ xh := ⟨_, rfl⟩
      obtain ⟨i0, i1, i2⟩ : 0 ≤ n16 ix ∧ n16 ix < 16 ∧ ix.toNat < 16 := by rw [hix, hxh]; exact nib_lt cc _ (nibh_lt x)
      have c1 := tab_cell C ix i2
      have hs1 : bits .xor .u16 (n16 cc / 4096) (IntKind.u16.wrap (n8 x / 16)) = n16 ix := by rw [hix, hxh, ← xor16, ← nib8h]; exact congrArg (fun v => bits .xor .u16 v _) (shr16 cc 12 4096 rfl)
      have hs2 : bits .xor .u16 (IntKind.u16.wrap (n16 cc * 16)) (n16 (tb ix)) = n16 (nib cc xh) := by
        unfold nib
        rw [← hix, ← xor16, show IntKind.u16.wrap (n16 cc * 16) = n16 (cc <<< 4) from shl16 cc 4 16 rfl]
      have HX : Hid (F k = x) := hx
      have HC : Hid (crcN c F k = cc) := hcc
      have HH : Hid (xh = (x.setWidth 16 : B16) >>> 4) := hxh
      clear hix hx hcc i2 hxh
      go_upto_region 6 with (fail)
      obtain ⟨c2, hc2⟩ : ∃ c2, c2 = nib cc xh := ⟨_, rfl⟩
      rw [← hc2]
      clear hs1 hs2 c1 i0 i1
      obtain ⟨xl, hxl⟩ : ∃ xl, xl = (x.setWidth 16 : B16) &&& 15#16 := ⟨_, rfl⟩
      obtain ⟨iy, hiy⟩ : ∃ iy, iy = (c2 >>> 12) ^^^ xl := ⟨_, rfl⟩
      obtain ⟨i0, i1, i2⟩ : 0 ≤ n16 iy ∧ n16 iy < 16 ∧ iy.toNat < 16 := by rw [hiy, hxl]; exact nib_lt c2 _ (nibl_lt x)
      have c1 := tab_cell C iy i2
      have hs1 : bits .xor .u16 (n16 c2 / 4096) (IntKind.u16.wrap (bits .and .u8 (n8 x) 15)) = n16 iy := by rw [hiy, hxl, ← xor16, ← nib8l]; exact congrArg (fun v => bits .xor .u16 v _) (shr16 c2 12 4096 rfl)
      have hs2 : bits .xor .u16 (IntKind.u16.wrap (n16 c2 * 16)) (n16 (tb iy)) = n16 (nib c2 xl) := by
        unfold nib
        rw [← hiy, ← xor16, show IntKind.u16.wrap (n16 c2 * 16) = n16 (c2 <<< 4) from shl16 c2 4 16 rfl]
      have hfin : nib c2 xl = crcN c F (k + 1) := by
        show _ = crcUp (crcN c F k) (F k)
        rw [hc2, hxl, HH.out, nib_nib, HX.out, HC.out]
      rw [hfin] at hs2
      clear hc2 hxl hiy i2 hfin
      go_wp2_with fail
      have hkw := next64 hc hm hlt
      go_roundw
      case rel => exact ⟨k + 1, hlt, rfl, next_val hkw, trivial⟩
      case measure => exact next_less hlt hkw
    · obtain rfl : k = n := by omega
      go_wp2_with fail
      go_returns
      exact ⟨rfl, by (repeat' (first | (with_reducible exact Below.refl _ _) | (with_reducible assumption) | (with_reducible refine Below.alloc ?_ ?_ _) | (with_reducible refine Below.drew ?_) | (with_reducible refine Below.setCell ?_ ?_ _) | (with_reducible refine after ?_ (below_regrown _ _ _)) | (refine after ?_ (by with_reducible assumption)) | go_size))⟩
end Go.Proofs.Ytkopenemoddbbaa
