/- The check of bytes: the walks. -/
import Derived.Test.YtkopenemoddbbaaByt
import Derived.Test.YtkopenemoddbbaaBase
import Derived.Test.YtkopenemoddbbaaChecked
import Derived.Deep.Cut
namespace Go.Proofs.Ytkopenemoddbbaa
open Go.RowKit

theorem shl16 (c : B16) (k m : Nat) (hm : 2 ^ k = m) : IntKind.u16.wrap (n16 c * (m : Int)) = n16 (c <<< k) := by
  rw [IntKind.wrap_u16]
  unfold n16
  rw [BitVec.toNat_shiftLeft, Nat.shiftLeft_eq, hm]
  omega
theorem shr16 (c : B16) (k m : Nat) (hm : 2 ^ k = m) : n16 c / (m : Int) = n16 (c >>> k) := by
  unfold n16
  rw [BitVec.toNat_ushiftRight, Nat.shiftRight_eq_div_pow, hm]
  omega
theorem xor16 (a b : B16) : bits .xor .u16 (n16 a) (n16 b) = n16 (a ^^^ b) := by
  unfold n16
  rw [u16_xor_nat _ _ (by have := a.isLt; omega) (by have := b.isLt; omega), BitVec.toNat_xor]
theorem and16 (a b : B16) : bits .and .u16 (n16 a) (n16 b) = n16 (a &&& b) := by
  unfold n16
  rw [u16_and_nat _ _ (by have := a.isLt; omega) (by have := b.isLt; omega), BitVec.toNat_and]
theorem poly16 : (4129 : Int) = n16 0x1021#16 := by decide
theorem top16 (c : B16) : (bits .and .u16 (n16 c) 32768 != 0) = c.msb := by
  rw [show (32768 : Int) = n16 (BitVec.twoPow 16 15) by decide, and16, show (0 : Int) = n16 0#16 by decide, BitVec.and_twoPow, BitVec.msb_eq_getLsbD_last]
  cases c.getLsbD 15 <;> decide
theorem nib8h (x : B8) : IntKind.u16.wrap (n8 x / 16) = n16 (x.setWidth 16 >>> 4) := by
  rw [IntKind.wrap_u16]
  unfold n16 n8
  rw [BitVec.toNat_ushiftRight, Nat.shiftRight_eq_div_pow, BitVec.toNat_setWidth]
  have := x.isLt
  omega
theorem nib8l (x : B8) : IntKind.u16.wrap (bits .and .u8 (n8 x) 15) = n16 (x.setWidth 16 &&& 15#16) := by
  rw [IntKind.wrap_u16]
  unfold n16 n8
  rw [show (15 : Int) = ((15 : Nat) : Int) from rfl, u8_and_nat _ _ (by have := x.isLt; omega) (by omega), BitVec.toNat_and, BitVec.toNat_setWidth]
  have h1 := x.isLt
  have h2 : x.toNat &&& 15 ≤ 15 := Nat.and_le_right
  rw [show x.toNat % 2 ^ 16 = x.toNat by omega, show (15#16).toNat = 15 by decide]
  omega
theorem step_c (c : B16) (w : World) : Calls Try.prog 81 #[.int .u16 (n16 c)] w fun r w' => r = .returned (.int .u16 (n16 (st c))) ∧ w = w' := by
  have ht := top16 c
  have hl : IntKind.u16.wrap (n16 c * 2) = n16 (c <<< 1) := shl16 c 1 2 rfl
  have hx : bits .xor .u16 (n16 (c <<< 1)) 4129 = n16 (c <<< 1 ^^^ 0x1021#16) := by rw [poly16, xor16]
  cases hm : c.msb with
  | true =>
    rw [hm] at ht
    go_enter Try.func81, Try.ntmps81
    go_wp2_with fail
    go_returns
    exact ⟨ret_i (by unfold st; rw [hm]; rfl), rfl⟩
  | false =>
    rw [hm] at ht
    go_enter Try.func81, Try.ntmps81
    go_wp2_with fail
    go_returns
    exact ⟨ret_i (by unfold st; rw [hm]; simp), rfl⟩
/-- The table, so many of its numbers filled. -/
def tc (k i : Nat) : Value := if i < k then .int .u16 (n16 (tb (BitVec.ofNat 16 i))) else .int .u16 0
def tabA (k : Nat) : Array Value := #[tc k 0, tc k 1, tc k 2, tc k 3, tc k 4, tc k 5, tc k 6, tc k 7, tc k 8, tc k 9, tc k 10, tc k 11, tc k 12, tc k 13, tc k 14, tc k 15]
theorem tabA_0 : tabA 0 = #[.int .u16 0, .int .u16 0, .int .u16 0, .int .u16 0, .int .u16 0, .int .u16 0, .int .u16 0, .int .u16 0, .int .u16 0, .int .u16 0, .int .u16 0, .int .u16 0, .int .u16 0, .int .u16 0, .int .u16 0, .int .u16 0] := rfl
theorem tabA_next : ∀ k, k < 16 → (tabA k).setIfInBounds k (.int .u16 (n16 (tb (BitVec.ofNat 16 k)))) = tabA (k + 1)
  | 0, _ => rfl
  | 1, _ => rfl
  | 2, _ => rfl
  | 3, _ => rfl
  | 4, _ => rfl
  | 5, _ => rfl
  | 6, _ => rfl
  | 7, _ => rfl
  | 8, _ => rfl
  | 9, _ => rfl
  | 10, _ => rfl
  | 11, _ => rfl
  | 12, _ => rfl
  | 13, _ => rfl
  | 14, _ => rfl
  | 15, _ => rfl
  | k + 16, h => by omega
theorem tabA_at (k : Nat) : k < 16 → (tabA 16)[k]? = some (.int .u16 (n16 (tb (BitVec.ofNat 16 k)))) := by
  intro h
  match k, h with
  | 0, _ => rfl
  | 1, _ => rfl
  | 2, _ => rfl
  | 3, _ => rfl
  | 4, _ => rfl
  | 5, _ => rfl
  | 6, _ => rfl
  | 7, _ => rfl
  | 8, _ => rfl
  | 9, _ => rfl
  | 10, _ => rfl
  | 11, _ => rfl
  | 12, _ => rfl
  | 13, _ => rfl
  | 14, _ => rfl
  | 15, _ => rfl
  | k + 16, h => omega
theorem tabA_cell (k : Nat) : k < 16 → (tabA k)[k]? = some (tc k k) := by
  intro h
  match k, h with
  | 0, _ => rfl
  | 1, _ => rfl
  | 2, _ => rfl
  | 3, _ => rfl
  | 4, _ => rfl
  | 5, _ => rfl
  | 6, _ => rfl
  | 7, _ => rfl
  | 8, _ => rfl
  | 9, _ => rfl
  | 10, _ => rfl
  | 11, _ => rfl
  | 12, _ => rfl
  | 13, _ => rfl
  | 14, _ => rfl
  | 15, _ => rfl
  | k + 16, h => omega
/-- A row of 16. -/
theorem Blk.cells16 {w : World} {g : Nat} {t : TypeId} {c0 c1 c2 c3 c4 c5 c6 c7 c8 c9 c10 c11 c12 c13 c14 c15 : Value} (h : Blk w g t #[c0, c1, c2, c3, c4, c5, c6, c7, c8, c9, c10, c11, c12, c13, c14, c15]) : w.cell? ⟨g, 0, none⟩ = some c0 ∧ w.cell? ⟨g, 1, none⟩ = some c1 ∧ w.cell? ⟨g, 2, none⟩ = some c2 ∧ w.cell? ⟨g, 3, none⟩ = some c3 ∧ w.cell? ⟨g, 4, none⟩ = some c4 ∧ w.cell? ⟨g, 5, none⟩ = some c5 ∧ w.cell? ⟨g, 6, none⟩ = some c6 ∧ w.cell? ⟨g, 7, none⟩ = some c7 ∧ w.cell? ⟨g, 8, none⟩ = some c8 ∧ w.cell? ⟨g, 9, none⟩ = some c9 ∧ w.cell? ⟨g, 10, none⟩ = some c10 ∧ w.cell? ⟨g, 11, none⟩ = some c11 ∧ w.cell? ⟨g, 12, none⟩ = some c12 ∧ w.cell? ⟨g, 13, none⟩ = some c13 ∧ w.cell? ⟨g, 14, none⟩ = some c14 ∧ w.cell? ⟨g, 15, none⟩ = some c15 :=
  ⟨h.cell 0, h.cell 1, h.cell 2, h.cell 3, h.cell 4, h.cell 5, h.cell 6, h.cell 7, h.cell 8, h.cell 9, h.cell 10, h.cell 11, h.cell 12, h.cell 13, h.cell 14, h.cell 15⟩
theorem Blk.frz16 {w : World} {g : Nat} {t : TypeId} {cs : Array Value} (h : Blk w g t cs) : w.frozen? ⟨g, 0, none⟩ = false ∧ w.frozen? ⟨g, 1, none⟩ = false ∧ w.frozen? ⟨g, 2, none⟩ = false ∧ w.frozen? ⟨g, 3, none⟩ = false ∧ w.frozen? ⟨g, 4, none⟩ = false ∧ w.frozen? ⟨g, 5, none⟩ = false ∧ w.frozen? ⟨g, 6, none⟩ = false ∧ w.frozen? ⟨g, 7, none⟩ = false ∧ w.frozen? ⟨g, 8, none⟩ = false ∧ w.frozen? ⟨g, 9, none⟩ = false ∧ w.frozen? ⟨g, 10, none⟩ = false ∧ w.frozen? ⟨g, 11, none⟩ = false ∧ w.frozen? ⟨g, 12, none⟩ = false ∧ w.frozen? ⟨g, 13, none⟩ = false ∧ w.frozen? ⟨g, 14, none⟩ = false ∧ w.frozen? ⟨g, 15, none⟩ = false :=
  ⟨h.frz 0, h.frz 1, h.frz 2, h.frz 3, h.frz 4, h.frz 5, h.frz 6, h.frz 7, h.frz 8, h.frz 9, h.frz 10, h.frz 11, h.frz 12, h.frz 13, h.frz 14, h.frz 15⟩
theorem Blk.st16 {w : World} {g : Nat} {t : TypeId} {c0 c1 c2 c3 c4 c5 c6 c7 c8 c9 c10 c11 c12 c13 c14 c15 : Value} (d0 d1 d2 d3 d4 d5 d6 d7 d8 d9 d10 d11 d12 d13 d14 d15 : Value) (h : Blk w g t #[c0, c1, c2, c3, c4, c5, c6, c7, c8, c9, c10, c11, c12, c13, c14, c15]) : Blk ((((((((((((((((w.setCell ⟨g, 0, none⟩ d0).setCell ⟨g, 1, none⟩ d1).setCell ⟨g, 2, none⟩ d2).setCell ⟨g, 3, none⟩ d3).setCell ⟨g, 4, none⟩ d4).setCell ⟨g, 5, none⟩ d5).setCell ⟨g, 6, none⟩ d6).setCell ⟨g, 7, none⟩ d7).setCell ⟨g, 8, none⟩ d8).setCell ⟨g, 9, none⟩ d9).setCell ⟨g, 10, none⟩ d10).setCell ⟨g, 11, none⟩ d11).setCell ⟨g, 12, none⟩ d12).setCell ⟨g, 13, none⟩ d13).setCell ⟨g, 14, none⟩ d14).setCell ⟨g, 15, none⟩ d15) g t #[d0, d1, d2, d3, d4, d5, d6, d7, d8, d9, d10, d11, d12, d13, d14, d15] := by
  have h0 : Blk (w.setCell ⟨g, 0, none⟩ d0) g t #[d0, c1, c2, c3, c4, c5, c6, c7, c8, c9, c10, c11, c12, c13, c14, c15] := h.set_ 0 d0
  have h1 : Blk ((w.setCell ⟨g, 0, none⟩ d0).setCell ⟨g, 1, none⟩ d1) g t #[d0, d1, c2, c3, c4, c5, c6, c7, c8, c9, c10, c11, c12, c13, c14, c15] := h0.set_ 1 d1
  have h2 : Blk (((w.setCell ⟨g, 0, none⟩ d0).setCell ⟨g, 1, none⟩ d1).setCell ⟨g, 2, none⟩ d2) g t #[d0, d1, d2, c3, c4, c5, c6, c7, c8, c9, c10, c11, c12, c13, c14, c15] := h1.set_ 2 d2
  have h3 : Blk ((((w.setCell ⟨g, 0, none⟩ d0).setCell ⟨g, 1, none⟩ d1).setCell ⟨g, 2, none⟩ d2).setCell ⟨g, 3, none⟩ d3) g t #[d0, d1, d2, d3, c4, c5, c6, c7, c8, c9, c10, c11, c12, c13, c14, c15] := h2.set_ 3 d3
  have h4 : Blk (((((w.setCell ⟨g, 0, none⟩ d0).setCell ⟨g, 1, none⟩ d1).setCell ⟨g, 2, none⟩ d2).setCell ⟨g, 3, none⟩ d3).setCell ⟨g, 4, none⟩ d4) g t #[d0, d1, d2, d3, d4, c5, c6, c7, c8, c9, c10, c11, c12, c13, c14, c15] := h3.set_ 4 d4
  have h5 : Blk ((((((w.setCell ⟨g, 0, none⟩ d0).setCell ⟨g, 1, none⟩ d1).setCell ⟨g, 2, none⟩ d2).setCell ⟨g, 3, none⟩ d3).setCell ⟨g, 4, none⟩ d4).setCell ⟨g, 5, none⟩ d5) g t #[d0, d1, d2, d3, d4, d5, c6, c7, c8, c9, c10, c11, c12, c13, c14, c15] := h4.set_ 5 d5
  have h6 : Blk (((((((w.setCell ⟨g, 0, none⟩ d0).setCell ⟨g, 1, none⟩ d1).setCell ⟨g, 2, none⟩ d2).setCell ⟨g, 3, none⟩ d3).setCell ⟨g, 4, none⟩ d4).setCell ⟨g, 5, none⟩ d5).setCell ⟨g, 6, none⟩ d6) g t #[d0, d1, d2, d3, d4, d5, d6, c7, c8, c9, c10, c11, c12, c13, c14, c15] := h5.set_ 6 d6
  have h7 : Blk ((((((((w.setCell ⟨g, 0, none⟩ d0).setCell ⟨g, 1, none⟩ d1).setCell ⟨g, 2, none⟩ d2).setCell ⟨g, 3, none⟩ d3).setCell ⟨g, 4, none⟩ d4).setCell ⟨g, 5, none⟩ d5).setCell ⟨g, 6, none⟩ d6).setCell ⟨g, 7, none⟩ d7) g t #[d0, d1, d2, d3, d4, d5, d6, d7, c8, c9, c10, c11, c12, c13, c14, c15] := h6.set_ 7 d7
  have h8 : Blk (((((((((w.setCell ⟨g, 0, none⟩ d0).setCell ⟨g, 1, none⟩ d1).setCell ⟨g, 2, none⟩ d2).setCell ⟨g, 3, none⟩ d3).setCell ⟨g, 4, none⟩ d4).setCell ⟨g, 5, none⟩ d5).setCell ⟨g, 6, none⟩ d6).setCell ⟨g, 7, none⟩ d7).setCell ⟨g, 8, none⟩ d8) g t #[d0, d1, d2, d3, d4, d5, d6, d7, d8, c9, c10, c11, c12, c13, c14, c15] := h7.set_ 8 d8
  have h9 : Blk ((((((((((w.setCell ⟨g, 0, none⟩ d0).setCell ⟨g, 1, none⟩ d1).setCell ⟨g, 2, none⟩ d2).setCell ⟨g, 3, none⟩ d3).setCell ⟨g, 4, none⟩ d4).setCell ⟨g, 5, none⟩ d5).setCell ⟨g, 6, none⟩ d6).setCell ⟨g, 7, none⟩ d7).setCell ⟨g, 8, none⟩ d8).setCell ⟨g, 9, none⟩ d9) g t #[d0, d1, d2, d3, d4, d5, d6, d7, d8, d9, c10, c11, c12, c13, c14, c15] := h8.set_ 9 d9
  have h10 : Blk (((((((((((w.setCell ⟨g, 0, none⟩ d0).setCell ⟨g, 1, none⟩ d1).setCell ⟨g, 2, none⟩ d2).setCell ⟨g, 3, none⟩ d3).setCell ⟨g, 4, none⟩ d4).setCell ⟨g, 5, none⟩ d5).setCell ⟨g, 6, none⟩ d6).setCell ⟨g, 7, none⟩ d7).setCell ⟨g, 8, none⟩ d8).setCell ⟨g, 9, none⟩ d9).setCell ⟨g, 10, none⟩ d10) g t #[d0, d1, d2, d3, d4, d5, d6, d7, d8, d9, d10, c11, c12, c13, c14, c15] := h9.set_ 10 d10
  have h11 : Blk ((((((((((((w.setCell ⟨g, 0, none⟩ d0).setCell ⟨g, 1, none⟩ d1).setCell ⟨g, 2, none⟩ d2).setCell ⟨g, 3, none⟩ d3).setCell ⟨g, 4, none⟩ d4).setCell ⟨g, 5, none⟩ d5).setCell ⟨g, 6, none⟩ d6).setCell ⟨g, 7, none⟩ d7).setCell ⟨g, 8, none⟩ d8).setCell ⟨g, 9, none⟩ d9).setCell ⟨g, 10, none⟩ d10).setCell ⟨g, 11, none⟩ d11) g t #[d0, d1, d2, d3, d4, d5, d6, d7, d8, d9, d10, d11, c12, c13, c14, c15] := h10.set_ 11 d11
  have h12 : Blk (((((((((((((w.setCell ⟨g, 0, none⟩ d0).setCell ⟨g, 1, none⟩ d1).setCell ⟨g, 2, none⟩ d2).setCell ⟨g, 3, none⟩ d3).setCell ⟨g, 4, none⟩ d4).setCell ⟨g, 5, none⟩ d5).setCell ⟨g, 6, none⟩ d6).setCell ⟨g, 7, none⟩ d7).setCell ⟨g, 8, none⟩ d8).setCell ⟨g, 9, none⟩ d9).setCell ⟨g, 10, none⟩ d10).setCell ⟨g, 11, none⟩ d11).setCell ⟨g, 12, none⟩ d12) g t #[d0, d1, d2, d3, d4, d5, d6, d7, d8, d9, d10, d11, d12, c13, c14, c15] := h11.set_ 12 d12
  have h13 : Blk ((((((((((((((w.setCell ⟨g, 0, none⟩ d0).setCell ⟨g, 1, none⟩ d1).setCell ⟨g, 2, none⟩ d2).setCell ⟨g, 3, none⟩ d3).setCell ⟨g, 4, none⟩ d4).setCell ⟨g, 5, none⟩ d5).setCell ⟨g, 6, none⟩ d6).setCell ⟨g, 7, none⟩ d7).setCell ⟨g, 8, none⟩ d8).setCell ⟨g, 9, none⟩ d9).setCell ⟨g, 10, none⟩ d10).setCell ⟨g, 11, none⟩ d11).setCell ⟨g, 12, none⟩ d12).setCell ⟨g, 13, none⟩ d13) g t #[d0, d1, d2, d3, d4, d5, d6, d7, d8, d9, d10, d11, d12, d13, c14, c15] := h12.set_ 13 d13
  have h14 : Blk (((((((((((((((w.setCell ⟨g, 0, none⟩ d0).setCell ⟨g, 1, none⟩ d1).setCell ⟨g, 2, none⟩ d2).setCell ⟨g, 3, none⟩ d3).setCell ⟨g, 4, none⟩ d4).setCell ⟨g, 5, none⟩ d5).setCell ⟨g, 6, none⟩ d6).setCell ⟨g, 7, none⟩ d7).setCell ⟨g, 8, none⟩ d8).setCell ⟨g, 9, none⟩ d9).setCell ⟨g, 10, none⟩ d10).setCell ⟨g, 11, none⟩ d11).setCell ⟨g, 12, none⟩ d12).setCell ⟨g, 13, none⟩ d13).setCell ⟨g, 14, none⟩ d14) g t #[d0, d1, d2, d3, d4, d5, d6, d7, d8, d9, d10, d11, d12, d13, d14, c15] := h13.set_ 14 d14
  have h15 : Blk ((((((((((((((((w.setCell ⟨g, 0, none⟩ d0).setCell ⟨g, 1, none⟩ d1).setCell ⟨g, 2, none⟩ d2).setCell ⟨g, 3, none⟩ d3).setCell ⟨g, 4, none⟩ d4).setCell ⟨g, 5, none⟩ d5).setCell ⟨g, 6, none⟩ d6).setCell ⟨g, 7, none⟩ d7).setCell ⟨g, 8, none⟩ d8).setCell ⟨g, 9, none⟩ d9).setCell ⟨g, 10, none⟩ d10).setCell ⟨g, 11, none⟩ d11).setCell ⟨g, 12, none⟩ d12).setCell ⟨g, 13, none⟩ d13).setCell ⟨g, 14, none⟩ d14).setCell ⟨g, 15, none⟩ d15) g t #[d0, d1, d2, d3, d4, d5, d6, d7, d8, d9, d10, d11, d12, d13, d14, d15] := h14.set_ 15 d15
  exact h15
set_option maxRecDepth 100000 in
set_option maxHeartbeats 4000000 in
theorem steps_c (w : World) : Calls Try.prog 76 #[] w fun r w' => r = .returned (.agg (tabA 16)) ∧ Below w.heap.size w w' := by
  go_enter Try.func76, Try.ntmps76
  go_upto_region 4 with (fail)
  obtain ⟨W1, hW⟩ : ∃ W1, W1 = (w.alloc (.cells (tabA 0) 126)).alloc (.cells (tabA 0) 126) := ⟨_, rfl⟩
  have R : Blk W1 w.heap.size 126 (tabA 0) := by rw [hW]; exact (Blk.new' rfl).alloc _
  have C : Blk W1 (w.heap.size + 1) 126 (tabA 0) := by rw [hW]; exact Blk.new' (by simp)
  have H : Below w.heap.size w W1 := by rw [hW]; go_grown
  rw [tabA_0] at hW
  rw [← hW]
  clear hW
  generalize hv : w.heap.size = nr at R C ⊢
  go_loopw [5] (fun i wr => ∃ k : Nat, k ≤ 16 ∧ i = .int .i64 k ∧ Blk wr nr 126 (tabA 0) ∧ Blk wr (nr + 1) 126 (tabA k) ∧ Below w.heap.size w wr) (fun i _ => 16 - (intOf i).toNat)
  case atStart => exact ⟨0, by omega, rfl, R, C, H⟩
  case round =>
    clear R C H
    obtain ⟨k, hk, rfl, R, C, H⟩ := hrel
    by_cases hlt : k < 16
    · go_upto_region 8 with (fail)
      have hs4 : ((k : Int) * (4096 : Int) : Int) = n16 (stN 0 (BitVec.ofNat 16 k <<< 12)) := by
        unfold n16 stN
        rw [BitVec.toNat_shiftLeft, Nat.shiftLeft_eq, BitVec.toNat_ofNat]
        omega
      have hd : decide ((k : Int) < 16) = true := by simp; omega
      rw [hs4, hd]
      clear hs4 hd
      go_loopw [4, 11] (fun c i wq => ∃ j : Nat, j ≤ 4 ∧ c = .int .u16 (n16 (stN j (BitVec.ofNat 16 k <<< 12))) ∧ i = .int .i64 j ∧ wq = wr) (fun _ i _ => 4 - (intOf i).toNat)
      case atStart => exact ⟨0, by omega, rfl, rfl, rfl⟩
      case round =>
        obtain ⟨j, hj, rfl, rfl, rfl⟩ := hrel
        by_cases hlj : j < 4
        · go_wp2_with fail
          refine (step_c _ _).mono ?_
          rintro e w1 ⟨rfl, rfl⟩
          rw [stN_succ]
          go_wp2_with fail
          go_roundw
          case rel => exact ⟨j + 1, by omega, rfl, by go_num, trivial⟩
          case measure => simp [intOf]; omega
        · obtain rfl : j = 4 := by omega
          have f := C.frz k
          have c0 : wr.cell? ⟨nr + 1, k, none⟩ = some (tc k k) := by rw [C.cell]; exact tabA_cell k hlt
          go_wp2_with fail
          rw [show stN 4 (BitVec.ofNat 16 k <<< 12) = tb (BitVec.ofNat 16 k) from rfl]
          refine ⟨⟨k + 1, hlt, by go_num, R.far (by simp) _, ?_, H.setCell (by simp; omega) _⟩, by simp [intOf]; omega⟩
          rw [← tabA_next k hlt]
          exact C.set_ k _
    · obtain rfl : k = 16 := by omega
      replace C : Blk wr (nr + 1) 126 #[.int .u16 (n16 (tb (BitVec.ofNat 16 0))), .int .u16 (n16 (tb (BitVec.ofNat 16 1))), .int .u16 (n16 (tb (BitVec.ofNat 16 2))), .int .u16 (n16 (tb (BitVec.ofNat 16 3))), .int .u16 (n16 (tb (BitVec.ofNat 16 4))), .int .u16 (n16 (tb (BitVec.ofNat 16 5))), .int .u16 (n16 (tb (BitVec.ofNat 16 6))), .int .u16 (n16 (tb (BitVec.ofNat 16 7))), .int .u16 (n16 (tb (BitVec.ofNat 16 8))), .int .u16 (n16 (tb (BitVec.ofNat 16 9))), .int .u16 (n16 (tb (BitVec.ofNat 16 10))), .int .u16 (n16 (tb (BitVec.ofNat 16 11))), .int .u16 (n16 (tb (BitVec.ofNat 16 12))), .int .u16 (n16 (tb (BitVec.ofNat 16 13))), .int .u16 (n16 (tb (BitVec.ofNat 16 14))), .int .u16 (n16 (tb (BitVec.ofNat 16 15)))] := C
      have h16 := C.cells16
      obtain ⟨k0, k1, k2, k3, k4, k5, k6, k7, k8, k9, k10, k11, k12, k13, k14, k15⟩ := h16
      replace R : Blk wr nr 126 #[.int .u16 0, .int .u16 0, .int .u16 0, .int .u16 0, .int .u16 0, .int .u16 0, .int .u16 0, .int .u16 0, .int .u16 0, .int .u16 0, .int .u16 0, .int .u16 0, .int .u16 0, .int .u16 0, .int .u16 0, .int .u16 0] := R
      have h16 := R.cells16
      obtain ⟨r0, r1, r2, r3, r4, r5, r6, r7, r8, r9, r10, r11, r12, r13, r14, r15⟩ := h16
      have h16 := R.frz16
      obtain ⟨f0, f1, f2, f3, f4, f5, f6, f7, f8, f9, f10, f11, f12, f13, f14, f15⟩ := h16
      go_wp2_with fail
      have R2 := R.st16 (.int .u16 (n16 (tb (BitVec.ofNat 16 0)))) (.int .u16 (n16 (tb (BitVec.ofNat 16 1)))) (.int .u16 (n16 (tb (BitVec.ofNat 16 2)))) (.int .u16 (n16 (tb (BitVec.ofNat 16 3)))) (.int .u16 (n16 (tb (BitVec.ofNat 16 4)))) (.int .u16 (n16 (tb (BitVec.ofNat 16 5)))) (.int .u16 (n16 (tb (BitVec.ofNat 16 6)))) (.int .u16 (n16 (tb (BitVec.ofNat 16 7)))) (.int .u16 (n16 (tb (BitVec.ofNat 16 8)))) (.int .u16 (n16 (tb (BitVec.ofNat 16 9)))) (.int .u16 (n16 (tb (BitVec.ofNat 16 10)))) (.int .u16 (n16 (tb (BitVec.ofNat 16 11)))) (.int .u16 (n16 (tb (BitVec.ofNat 16 12)))) (.int .u16 (n16 (tb (BitVec.ofNat 16 13)))) (.int .u16 (n16 (tb (BitVec.ofNat 16 14)))) (.int .u16 (n16 (tb (BitVec.ofNat 16 15))))
      have h16 := R2.cells16
      obtain ⟨d0, d1, d2, d3, d4, d5, d6, d7, d8, d9, d10, d11, d12, d13, d14, d15⟩ := h16
      exact bodyPost_ret (v := .agg #[.int .u16 (n16 (tb (BitVec.ofNat 16 0))), .int .u16 (n16 (tb (BitVec.ofNat 16 1))), .int .u16 (n16 (tb (BitVec.ofNat 16 2))), .int .u16 (n16 (tb (BitVec.ofNat 16 3))), .int .u16 (n16 (tb (BitVec.ofNat 16 4))), .int .u16 (n16 (tb (BitVec.ofNat 16 5))), .int .u16 (n16 (tb (BitVec.ofNat 16 6))), .int .u16 (n16 (tb (BitVec.ofNat 16 7))), .int .u16 (n16 (tb (BitVec.ofNat 16 8))), .int .u16 (n16 (tb (BitVec.ofNat 16 9))), .int .u16 (n16 (tb (BitVec.ofNat 16 10))), .int .u16 (n16 (tb (BitVec.ofNat 16 11))), .int .u16 (n16 (tb (BitVec.ofNat 16 12))), .int .u16 (n16 (tb (BitVec.ofNat 16 13))), .int .u16 (n16 (tb (BitVec.ofNat 16 14))), .int .u16 (n16 (tb (BitVec.ofNat 16 15)))]) (by simp [results, Try.results76, go_sem, d0, d1, d2, d3, d4, d5, d6, d7, d8, d9, d10, d11, d12, d13, d14, d15]) rfl ⟨rfl, by (repeat' (first | (with_reducible exact Below.refl _ _) | (with_reducible assumption) | (with_reducible refine Below.alloc ?_ ?_ _) | (with_reducible refine Below.drew ?_) | (with_reducible refine Below.setCell ?_ ?_ _) | (with_reducible refine after ?_ (below_regrown _ _ _)) | (refine after ?_ (by with_reducible assumption)) | go_size))⟩
end Go.Proofs.Ytkopenemoddbbaa
