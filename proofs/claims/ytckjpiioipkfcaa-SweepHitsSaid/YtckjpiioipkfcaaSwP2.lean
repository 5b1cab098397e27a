/- The nearest layer, told without a list. No program in sight. -/
import Derived.Test.YtckjpiioipkfcaaSwP
import Derived.Test.YtckjpiioipkfcaaFind
namespace Go.Proofs.Ytckjpiioipkfcaa
open Go.RowKit

theorem axV_up_hit {blk : Int → Bool} {low top d k : Int} (hd : 0 < d) (h0 : 0 ≤ k * 65536 - top) (h1 : k * 65536 - top < d) (hb : blk k = true) (hn : ∀ k', k' < k → 0 ≤ k' * 65536 - top → blk k' = false) : axV blk low top d = (k * 65536 - top, true) := by
  unfold axV lays
  rw [if_pos hd]
  have hi : (k - (top + 65535) / 65536).toNat < (layU top d).length := by rw [layU_len]; omega
  have ha := layU_at hi
  rw [show (top + 65535) / 65536 + ((k - (top + 65535) / 65536).toNat : Int) = k by omega] at ha
  rw [find_at (q := fun kw : Int × Int => blk kw.1) ha hb fun j y hj hy => ?_]
  have hj2 : j < (layU top d).length := by omega
  rw [layU_at hj2] at hy
  obtain rfl := Option.some.inj hy
  exact hn _ (by omega) (by omega)
theorem axV_up_none {blk : Int → Bool} {low top d : Int} (hd : 0 < d) (hn : ∀ k', 0 ≤ k' * 65536 - top → k' * 65536 - top < d → blk k' = false) : axV blk low top d = (d, false) := by
  unfold axV lays
  rw [if_pos hd, find_no fun j x hj hx => ?_]
  rw [layU_at hj] at hx
  rw [layU_len] at hj
  obtain rfl := Option.some.inj hx
  exact hn _ (by omega) (by omega)
theorem axV_dn_hit {blk : Int → Bool} {low top d k : Int} (hd : d < 0) (h0 : (k + 1) * 65536 - low ≤ 0) (h1 : d < (k + 1) * 65536 - low) (hb : blk k = true) (hn : ∀ k', k < k' → (k' + 1) * 65536 - low ≤ 0 → blk k' = false) : axV blk low top d = ((k + 1) * 65536 - low, true) := by
  unfold axV lays
  rw [if_neg (by omega)]
  have hi : (low / 65536 - 1 - k).toNat < (layD low d).length := by rw [layD_len]; omega
  have ha := layD_at hi
  rw [show low / 65536 - 1 - ((low / 65536 - 1 - k).toNat : Int) = k by omega, show low / 65536 - ((low / 65536 - 1 - k).toNat : Int) = k + 1 by omega] at ha
  rw [find_at (q := fun kw : Int × Int => blk kw.1) ha hb fun j y hj hy => ?_]
  have hj2 : j < (layD low d).length := by omega
  rw [layD_at hj2] at hy
  obtain rfl := Option.some.inj hy
  exact hn _ (by dsimp only; omega) (by dsimp only; omega)
theorem axV_dn_none {blk : Int → Bool} {low top d : Int} (hd : d < 0) (hn : ∀ k', (k' + 1) * 65536 - low ≤ 0 → d < (k' + 1) * 65536 - low → blk k' = false) : axV blk low top d = (d, false) := by
  unfold axV lays
  rw [if_neg (by omega), find_no fun j x hj hx => ?_]
  rw [layD_at hj] at hx
  rw [layD_len] at hj
  obtain rfl := Option.some.inj hx
  exact hn _ (by dsimp only; omega) (by dsimp only; omega)
theorem axV_zero (blk : Int → Bool) (low top : Int) : axV blk low top 0 = (0, false) := by
  have : lays low top 0 = [] := by unfold lays layD; simp
  unfold axV; rw [this]; rfl
end Go.Proofs.Ytckjpiioipkfcaa
