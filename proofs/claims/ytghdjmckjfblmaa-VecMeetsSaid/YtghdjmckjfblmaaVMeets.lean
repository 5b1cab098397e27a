/- VecMeets: what its helper tells; and the plain law. -/
import Derived.Test.YtghdjmckjfblmaaVLives
import Derived.Test.YtghdjmckjfblmaaBase2
import Derived.Test.YtghdjmckjfblmaaRef2b
namespace Go.Proofs.Ytghdjmckjfblmaa
open Go.RowKit

def insI (a b c d n : Int) : Bool := (decide (a < n) && decide (n < b)) || (decide (c < n) && decide (n < d))
theorem ins_ways (a b c d n : Int) : (decide (a < n) = true ∧ decide (n < b) = true ∧ insI a b c d n = true) ∨
    (decide (a < n) = true ∧ decide (n < b) = false ∧ decide (c < n) = true ∧ insI a b c d n = decide (n < d)) ∨ (decide (a < n) = true ∧ decide (n < b) = false ∧ decide (c < n) = false ∧ insI a b c d n = false) ∨
    (decide (a < n) = false ∧ decide (c < n) = true ∧ insI a b c d n = decide (n < d)) ∨ (decide (a < n) = false ∧ decide (c < n) = false ∧ insI a b c d n = false) := by
  unfold insI
  cases decide (a < n) <;> cases decide (n < b) <;> cases decide (c < n) <;> simp
set_option maxHeartbeats 4000000 in
theorem inside_c (p q r s t u p' q' r' s' t' u' i n : Int) (w : World) : Calls Try.prog 13 #[.agg #[.int .i64 p, .int .i64 q, .int .i64 r, .int .i64 s, .int .i64 t, .int .i64 u], .agg #[.int .i64 p', .int .i64 q', .int .i64 r', .int .i64 s', .int .i64 t', .int .i64 u'], .int .i64 i, .int .i64 n] w fun o w' => o = .returned (.bool (insI (axI p q r i) (axI s t u i) (axI p' q' r' i) (axI s' t' u' i) n)) ∧ Below w.heap.size w w' := by
  have A : Blk ((w.alloc (.cells (bxV p q r s t u) 25)).alloc (.cells (bxV p' q' r' s' t' u') 25)) w.heap.size 25 (bxV p q r s t u) := (Blk.new' rfl).alloc _
  have B : Blk ((w.alloc (.cells (bxV p q r s t u) 25)).alloc (.cells (bxV p' q' r' s' t' u') 25)) (w.heap.size + 1) 25 (bxV p' q' r' s' t' u') := Blk.new' (by simp)
  have H : Below w.heap.size w ((w.alloc (.cells (bxV p q r s t u) 25)).alloc (.cells (bxV p' q' r' s' t' u') 25)) := by go_grown
  rcases ins_ways (axI p q r i) (axI s t u i) (axI p' q' r' i) (axI s' t' u' i) n with ⟨h1, h2, hm⟩ | ⟨h1, h2, h3, hm⟩ | ⟨h1, h2, h3, hm⟩ | ⟨h1, h2, hm⟩ | ⟨h1, h2, hm⟩
  all_goals
    rw [hm]
    clear hm
    go_enter Try.func13, Try.ntmps13
    go_wp2_with (go_at_call 12; refine (raxis_c _ _ _ _ _).mono ?_; rintro e w1 ⟨rfl, hb⟩; replace A := A.on hb; replace B := B.on hb; replace H := after H hb; clear hb; obtain ⟨⟨k0, k1, k2, k3, k4, k5⟩, -, -, -, -, -, -⟩ := A.c6; obtain ⟨⟨l0, l1, l2, l3, l4, l5⟩, -, -, -, -, -, -⟩ := B.c6)
    go_returns
    exact ⟨ret_b rfl, H⟩

def meK (f : Int → Bool) : Nat → Bool
  | 0 => true
  | k + 1 => meK f k && f k
/-- As the statement has it, along an axis. -/
def mtI (a b c d : Int) : Bool := decide (mxI a c < mnI b d) || ((mxI a c == mnI b d) && (!((a == b) == (c == d))) && insI a b c d (mxI a c))
theorem mt_ov {a b c d : Int} (h : a ≤ b) (k : c ≤ d) : mtI a b c d = ovI a b c d := by
  unfold mtI insI ovI mxI mnI
  cases hA : (a == b) <;> cases hB : (c == d) <;> rw [Bool.eq_iff_iff] <;> simp at hA hB ⊢ <;> omega
theorem mt_ways (a b c d : Int) (M : Bool) :
    ((mxI a c == mnI b d) = false ∧ M = false ∧ (M && mtI a b c d) = false) ∨ ((mxI a c == mnI b d) = false ∧ M = true ∧ decide (mxI a c < mnI b d) = true ∧ (M && mtI a b c d) = true) ∨ ((mxI a c == mnI b d) = false ∧ M = true ∧ decide (mxI a c < mnI b d) = false ∧ (M && mtI a b c d) = false) ∨
    ((mxI a c == mnI b d) = true ∧ (!((a == b) == (c == d))) = false ∧ M = false ∧ (M && mtI a b c d) = false) ∨ ((mxI a c == mnI b d) = true ∧ (!((a == b) == (c == d))) = false ∧ M = true ∧ decide (mxI a c < mnI b d) = false ∧ (M && mtI a b c d) = false) ∨
    ((mxI a c == mnI b d) = true ∧ (!((a == b) == (c == d))) = true ∧ M = false ∧ (M && mtI a b c d) = false) ∨ ((mxI a c == mnI b d) = true ∧ (!((a == b) == (c == d))) = true ∧ M = true ∧ decide (mxI a c < mnI b d) = false ∧ (M && mtI a b c d) = insI a b c d (mxI a c)) := by
  have hl : (mxI a c == mnI b d) = true → decide (mxI a c < mnI b d) = false := by
    intro h; rw [beq_iff_eq] at h; simp; omega
  unfold mtI
  cases h1 : (mxI a c == mnI b d)
  · cases M <;> cases decide (mxI a c < mnI b d) <;> simp
  · rw [hl h1]
    cases M <;> cases (!((a == b) == (c == d))) <;> simp
end Go.Proofs.Ytghdjmckjfblmaa
