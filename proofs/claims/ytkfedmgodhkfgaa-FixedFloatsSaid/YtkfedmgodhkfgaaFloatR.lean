/- A float's fixed number: the document's, by halves. -/
import Derived.Test.YtkfedmgodhkfgaaFloatW
namespace Go.Proofs.Ytkfedmgodhkfgaa
open Go.RowKit

set_option maxHeartbeats 2000000 in
theorem rfrom_c (f : Nat) (w : World) : Calls Try.prog 27 #[.float .f64 f] w fun r w' => r = .returned (.tuple #[.int .i64 (frP f).1, .int .i64 (frP f).2]) ∧ Below w.heap.size w w' := by
  rcases from_ways f with ⟨hm, ho, hf⟩ | ⟨x, hm, ho, h1, hf⟩ | ⟨x, hm, ho, h1, h2, hf⟩ | ⟨x, s, m, e, hm, ho, h1, h2, hr, he, hb, hf⟩
  · have hn : (FloatKind.f64.format.order f f != some .eq) = true := by show (Ieee.double.order f f != some .eq) = true; rw [ho]; rfl
    have hmul := fun (t : TypeId) => run_mul_none (t := t) hm
    rw [show oneB = 4679240012837945344 from rfl] at hmul
    rw [hf]
    clear ho hm hf
    go_enter Try.func27, Try.ntmps27
    go_wp2_with fail
    go_returns
    exact ⟨rfl, by (repeat' (first | (with_reducible exact Below.refl _ _) | (with_reducible assumption) | (with_reducible refine Below.alloc ?_ ?_ _) | (with_reducible refine Below.drew ?_) | (with_reducible refine Below.setCell ?_ ?_ _) | (with_reducible refine after ?_ (below_regrown _ _ _)) | (refine after ?_ (by with_reducible assumption)) | go_size))⟩
  · have hn : (FloatKind.f64.format.order f f != some .eq) = false := by show (Ieee.double.order f f != some .eq) = false; rw [ho]; rfl
    have hmul := fun (t : TypeId) => run_mul_some (t := t) hm
    have h1' : (FloatKind.f64.format.order x 4818851601286430720 == some .gt) = true := h1
    rw [show oneB = 4679240012837945344 from rfl] at hmul
    rw [hf]
    clear ho hm hf h1
    go_enter Try.func27, Try.ntmps27
    go_wp2_with fail
    go_returns
    exact ⟨rfl, by (repeat' (first | (with_reducible exact Below.refl _ _) | (with_reducible assumption) | (with_reducible refine Below.alloc ?_ ?_ _) | (with_reducible refine Below.drew ?_) | (with_reducible refine Below.setCell ?_ ?_ _) | (with_reducible refine after ?_ (below_regrown _ _ _)) | (refine after ?_ (by with_reducible assumption)) | go_size))⟩
  · have hn : (FloatKind.f64.format.order f f != some .eq) = false := by show (Ieee.double.order f f != some .eq) = false; rw [ho]; rfl
    have hmul := fun (t : TypeId) => run_mul_some (t := t) hm
    have h1' : (FloatKind.f64.format.order x 4818851601286430720 == some .gt) = false := h1
    have h2' : (FloatKind.f64.format.order x 14042223638141206528 == some .lt) = true := h2
    rw [show oneB = 4679240012837945344 from rfl] at hmul
    rw [hf]
    clear ho hm hf h1 h2
    go_enter Try.func27, Try.ntmps27
    go_wp2_with fail
    go_returns
    exact ⟨rfl, by (repeat' (first | (with_reducible exact Below.refl _ _) | (with_reducible assumption) | (with_reducible refine Below.alloc ?_ ?_ _) | (with_reducible refine Below.drew ?_) | (with_reducible refine Below.setCell ?_ ?_ _) | (with_reducible refine after ?_ (below_regrown _ _ _)) | (refine after ?_ (by with_reducible assumption)) | go_size))⟩
  · have hn : (FloatKind.f64.format.order f f != some .eq) = false := by show (Ieee.double.order f f != some .eq) = false; rw [ho]; rfl
    have hmul := fun (t : TypeId) => run_mul_some (t := t) hm
    have h1' : (FloatKind.f64.format.order x 4818851601286430720 == some .gt) = false := h1
    have h2' : (FloatKind.f64.format.order x 14042223638141206528 == some .lt) = false := h2
    have hle : ∀ M : Int, M.natAbs < 2 ^ 53 → (FloatKind.f64.format.order (floatOfInt .f64 M) x == some .lt || FloatKind.f64.format.order (floatOfInt .f64 M) x == some .eq) = decide (M ≤ unitsD (Ieee.double.read x) / unitF) := fun M h => le_floor h hr he
    rw [show oneB = 4679240012837945344 from rfl] at hmul
    rw [hf]
    clear ho hm hf h1 h2 hr he
    generalize unitsD (Ieee.double.read x) / unitF = z at *
    obtain ⟨z0, z1⟩ : -140737488355328 ≤ z ∧ z ≤ 140737488355328 := by omega
    go_enter Try.func27, Try.ntmps27
    go_upto_region 10 with (fail)
    replace hle : Hid (∀ M : Int, M.natAbs < 2 ^ 53 → (FloatKind.f64.format.order (floatOfInt .f64 M) x == some .lt || FloatKind.f64.format.order (floatOfInt .f64 M) x == some .eq) = decide (M ≤ z)) := hle
    clear hmul hn h1' h2' hb
    go_loopw [5, 6] (fun lo hi wq => ∃ a b : Int, lo = .int .i64 a ∧ hi = .int .i64 b ∧ -140737488355328 ≤ a ∧ a ≤ z ∧ z < b ∧ b ≤ 140737488355329 ∧ wq = w) (fun lo hi _ => (intOf hi - intOf lo).toNat)
    case atStart => exact ⟨_, _, rfl, rfl, by omega, by omega, by omega, by omega, rfl⟩
    case round =>
      obtain ⟨a, b, rfl, rfl, a0, az, zb, b0, rfl⟩ := hrel
      by_cases hgt : 1 < b - a
      · have hq : (b - a).tdiv 2 = (b - a) / 2 := Int.tdiv_eq_ediv_of_nonneg (by omega)
        go_upto_region 12 with (fail)
        obtain ⟨k, hk⟩ : ∃ k, k = a + (b - a) / 2 := ⟨_, rfl⟩
        rw [← hk]
        have k0 : a < k := by omega
        have k1 : k < b := by omega
        have hg := hle.out k (by omega)
        clear hk hq
        by_cases hkz : k ≤ z
        · rw [decide_eq_true hkz] at hg
          go_wp2_with fail
          go_roundw
          case rel => exact ⟨k, b, rfl, rfl, by omega, by omega, by omega, by omega, trivial⟩
          case measure => simp only [intOf]; omega
        · rw [decide_eq_false hkz] at hg
          go_wp2_with fail
          go_roundw
          case rel => exact ⟨a, k, rfl, rfl, by omega, by omega, by omega, by omega, trivial⟩
          case measure => simp only [intOf]; omega
      · obtain rfl : a = z := by omega
        go_wp2_with fail
        go_returns
        exact ⟨rfl, by (repeat' (first | (with_reducible exact Below.refl _ _) | (with_reducible assumption) | (with_reducible refine Below.alloc ?_ ?_ _) | (with_reducible refine Below.drew ?_) | (with_reducible refine Below.setCell ?_ ?_ _) | (with_reducible refine after ?_ (below_regrown _ _ _)) | (refine after ?_ (by with_reducible assumption)) | go_size))⟩
end Go.Proofs.Ytkfedmgodhkfgaa
