/- A float's fixed number: the walks. -/
import Derived.Test.YtkfedmgodhkfgaaFloatQ
import Derived.Test.YtkfedmgodhkfgaaFix2
import Derived.Test.YtkfedmgodhkfgaaNext
import Derived.Deep.Cut
namespace Go.Proofs.Ytkfedmgodhkfgaa
open Go.RowKit

/-- The word of no number that an operation of no answer gives. -/
def nanW (w : World) (x y : Nat) : Nat := (Question.nanBits .f64 x y).cut (w.tape w.drawn (.nanBits .f64 x y))
theorem run_mul_none {t : TypeId} {x y : Nat} (h : floatBits .mul .f64 x y = none) (w : World) : (binOp .mul t (.float .f64 x) (.float .f64 y)).run Try.prog w = .ok (.float .f64 (nanW w x y)) w.drew := by
  have h' : Ieee.Format.mul FloatKind.f64.format x y = none := h
  simp [binOp, Op.floatArith, h', Question.forced, nanW]
theorem run_mul_some {t : TypeId} {x y r : Nat} (h : floatBits .mul .f64 x y = some r) (w : World) : (binOp .mul t (.float .f64 x) (.float .f64 y)).run Try.prog w = .ok (.float .f64 r) w := run_float_arith w .mul t .f64 x y r h
theorem isnan_c (f : Nat) (b : Bool) (h : (Ieee.double.order f f != some .eq) = b) (w : World) : Calls Try.prog 32 #[.float .f64 f] w fun r w' => r = .returned (.bool b) ∧ w = w' := by
  have h' : (FloatKind.f64.format.order f f != some .eq) = b := h
  go_enter Try.func32, Try.ntmps32
  go_wp2_with fail
  go_returns
  exact ⟨rfl, rfl⟩
theorem arch_c {x : Nat} {s : Bool} {m : Nat} {e : Int} (hr : Ieee.double.read x = .number s m e) (w : World) : (callFunc 35 #[.float .f64 x]).run Try.prog w = .ok (.value (.float .f64 (FloatKind.f64.encode ((FloatKind.f64.decode x).integral .down)))) w := by
  have he : Extern.find Try.f35 = some (Extern.MathFloor.toIntegral "math.archFloor" .down) := by kernel_rfl
  rw [run_callFunc_extern Try.func35 (by kernel_rfl) (by kernel_rfl) (by kernel_rfl) he]
  have hd : FloatKind.f64.decode x = .number s m e := hr
  have h1 : (Extern.MathFloor.toIntegral "math.archFloor" .down #[.float .f64 x]).run Try.prog w = .ok (.float .f64 (FloatKind.f64.encode ((Ieee.Datum.number s m e).integral .down))) w := by
    show Sem.run Try.prog (match FloatKind.f64.decode x with | .nan s t => _ | d => _) w = _
    rw [hd]
    rfl
  rw [h1, hd]
  rfl
theorem floor_f {x : Nat} {s : Bool} {m : Nat} {e : Int} (hr : Ieee.double.read x = .number s m e) (w : World) : Calls Try.prog 33 #[.float .f64 x] w fun r w' => r = .returned (.float .f64 (FloatKind.f64.encode ((FloatKind.f64.decode x).integral .down))) ∧ w = w' := by
  have ha := arch_c hr
  go_enter Try.func33, Try.ntmps33
  go_wp2_with fail
  go_returns
  exact ⟨rfl, rfl⟩
set_option maxHeartbeats 1000000 in
theorem from_c (f : Nat) (w : World) : Calls Try.prog 26 #[.float .f64 f] w fun r w' => r = .returned (.tuple #[.int .i64 (frP f).1, .int .i64 (frP f).2]) ∧ Below w.heap.size w w' := by
  rcases from_ways f with ⟨hm, ho, hf⟩ | ⟨x, hm, ho, h1, hf⟩ | ⟨x, hm, ho, h1, h2, hf⟩ | ⟨x, s, m, e, hm, ho, h1, h2, hr, he, hb, hf⟩
  · have hn := isnan_c f true (by rw [ho]; rfl)
    have hmul := fun (t : TypeId) => run_mul_none (t := t) hm
    rw [show oneB = 4679240012837945344 from rfl] at hmul
    rw [hf]
    go_enter Try.func26, Try.ntmps26
    go_wp2_with fail
    refine (hn _).mono ?_; rintro e w1 ⟨rfl, rfl⟩
    go_wp2_with fail
    go_returns
    exact ⟨rfl, by (repeat' (first | (with_reducible exact Below.refl _ _) | (with_reducible assumption) | (with_reducible refine Below.alloc ?_ ?_ _) | (with_reducible refine Below.drew ?_) | (with_reducible refine Below.setCell ?_ ?_ _) | (with_reducible refine after ?_ (below_regrown _ _ _)) | (refine after ?_ (by with_reducible assumption)) | go_size))⟩
  · have hn := isnan_c f false (by rw [ho]; rfl)
    have hmul := fun (t : TypeId) => run_mul_some (t := t) hm
    have h1' : (FloatKind.f64.format.order x 4818851601286430720 == some .gt) = true := h1
    rw [show oneB = 4679240012837945344 from rfl] at hmul
    rw [hf]
    go_enter Try.func26, Try.ntmps26
    go_wp2_with fail
    refine (hn _).mono ?_; rintro e w1 ⟨rfl, rfl⟩
    go_wp2_with fail
    go_returns
    exact ⟨rfl, by (repeat' (first | (with_reducible exact Below.refl _ _) | (with_reducible assumption) | (with_reducible refine Below.alloc ?_ ?_ _) | (with_reducible refine Below.drew ?_) | (with_reducible refine Below.setCell ?_ ?_ _) | (with_reducible refine after ?_ (below_regrown _ _ _)) | (refine after ?_ (by with_reducible assumption)) | go_size))⟩
  · have hn := isnan_c f false (by rw [ho]; rfl)
    have hmul := fun (t : TypeId) => run_mul_some (t := t) hm
    have h1' : (FloatKind.f64.format.order x 4818851601286430720 == some .gt) = false := h1
    have h2' : (FloatKind.f64.format.order x 14042223638141206528 == some .lt) = true := h2
    rw [show oneB = 4679240012837945344 from rfl] at hmul
    rw [hf]
    go_enter Try.func26, Try.ntmps26
    go_wp2_with fail
    refine (hn _).mono ?_; rintro e w1 ⟨rfl, rfl⟩
    go_wp2_with fail
    go_returns
    exact ⟨rfl, by (repeat' (first | (with_reducible exact Below.refl _ _) | (with_reducible assumption) | (with_reducible refine Below.alloc ?_ ?_ _) | (with_reducible refine Below.drew ?_) | (with_reducible refine Below.setCell ?_ ?_ _) | (with_reducible refine after ?_ (below_regrown _ _ _)) | (refine after ?_ (by with_reducible assumption)) | go_size))⟩
  · have hn := isnan_c f false (by rw [ho]; rfl)
    have hmul := fun (t : TypeId) => run_mul_some (t := t) hm
    have h1' : (FloatKind.f64.format.order x 4818851601286430720 == some .gt) = false := h1
    have h2' : (FloatKind.f64.format.order x 14042223638141206528 == some .lt) = false := h2
    have hfl := floor_back hr he hb
    rw [show oneB = 4679240012837945344 from rfl] at hmul
    rw [hf]
    go_enter Try.func26, Try.ntmps26
    go_wp2_with fail
    refine (hn _).mono ?_; rintro e w1 ⟨rfl, rfl⟩
    go_wp2_with fail
    refine (floor_f hr _).mono ?_; rintro e w1 ⟨rfl, rfl⟩
    have hcv := fun (w : World) => run_convert_float_int (P := Try.prog) w 31 3 .f64 .i64 _ _ (by rw [Try.underlying31]; rfl) Try.underlying3 hfl
    clear hr
    go_wp2_with fail
    go_returns
    exact ⟨rfl, by (repeat' (first | (with_reducible exact Below.refl _ _) | (with_reducible assumption) | (with_reducible refine Below.alloc ?_ ?_ _) | (with_reducible refine Below.drew ?_) | (with_reducible refine Below.setCell ?_ ?_ _) | (with_reducible refine after ?_ (below_regrown _ _ _)) | (refine after ?_ (by with_reducible assumption)) | go_size))⟩
end Go.Proofs.Ytkfedmgodhkfgaa
