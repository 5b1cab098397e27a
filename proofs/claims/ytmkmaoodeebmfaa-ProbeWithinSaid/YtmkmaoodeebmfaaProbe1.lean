/- Blocks: which are solid, wet, climbed; rows of ints. -/
import Derived.Test.YtmkmaoodeebmfaaPlain
import Derived.Test.YtmkmaoodeebmfaaNext
import Derived.Test.YtmkmaoodeebmfaaChecked
import Derived.Deep.Cut
namespace Go.Proofs.Ytmkmaoodeebmfaa
open Go.RowKit

def solB (n : Int) : Bool := n == -1 || n == 1 || n == 2 || n == 3 || n == 5
def wetB (n : Int) : Bool := decide (8 ≤ n) && decide (n ≤ 15)
def cliB (n : Int) : Bool := n == 4
theorem sol_ways (n : Int) : ((n == -1) = true ∧ solB n = true) ∨ ((n == -1) = false ∧ (n == 1) = true ∧ solB n = true) ∨ ((n == -1) = false ∧ (n == 1) = false ∧ (n == 2) = true ∧ solB n = true) ∨
    ((n == -1) = false ∧ (n == 1) = false ∧ (n == 2) = false ∧ (n == 3) = true ∧ solB n = true) ∨ ((n == -1) = false ∧ (n == 1) = false ∧ (n == 2) = false ∧ (n == 3) = false ∧ (n == 5) = true ∧ solB n = true) ∨
    ((n == -1) = false ∧ (n == 1) = false ∧ (n == 2) = false ∧ (n == 3) = false ∧ (n == 5) = false ∧ solB n = false) := by
  unfold solB
  cases (n == -1) <;> cases (n == 1) <;> cases (n == 2) <;> cases (n == 3) <;> cases (n == 5) <;> simp
theorem wet_ways (n : Int) : (decide (8 ≤ n) = false ∧ wetB n = false) ∨ (decide (8 ≤ n) = true ∧ decide (n ≤ 15) = true ∧ decide (n < 16) = true ∧ wetB n = true) ∨ (decide (8 ≤ n) = true ∧ decide (n ≤ 15) = false ∧ decide (n < 16) = false ∧ wetB n = false) := by
  unfold wetB
  by_cases h1 : 8 ≤ n <;> by_cases h2 : n ≤ 15 <;> simp [h1, h2] <;> omega
theorem solid_c (n : Int) (w : World) : Calls Try.prog 43 #[.int .i64 n] w fun r w' => r = .returned (.bool (solB n)) ∧ w = w' := by
  rcases sol_ways n with ⟨h1, h⟩ | ⟨h1, h2, h⟩ | ⟨h1, h2, h3, h⟩ | ⟨h1, h2, h3, h4, h⟩ | ⟨h1, h2, h3, h4, h5, h⟩ | ⟨h1, h2, h3, h4, h5, h⟩
  all_goals
    rw [h]
    clear h
    go_enter Try.func43, Try.ntmps43
    go_wp2_with fail
    go_returns
    exact ⟨rfl, rfl⟩
theorem climbs_c (n : Int) (w : World) : Calls Try.prog 45 #[.int .i64 n] w fun r w' => r = .returned (.bool (cliB n)) ∧ w = w' := by
  go_enter Try.func45, Try.ntmps45
  go_wp2_with fail
  go_returns
  exact ⟨ret_b rfl, rfl⟩
theorem wet_c (n : Int) (w : World) : Calls Try.prog 44 #[.int .i64 n] w fun r w' => r = .returned (.bool (wetB n)) ∧ w = w' := by
  rcases wet_ways n with ⟨h1, h⟩ | ⟨h1, h2, h3, h⟩ | ⟨h1, h2, h3, h⟩
  all_goals
    rw [h]
    clear h
    go_enter Try.func44, Try.ntmps44
    go_wp2_with fail
    go_returns
    exact ⟨rfl, rfl⟩
theorem rsolid_c (n : Int) (w : World) : Calls Try.prog 37 #[.int .i64 n] w fun r w' => r = .returned (.bool (solB n)) ∧ w = w' := by
  rcases sol_ways n with ⟨h1, h⟩ | ⟨h1, h2, h⟩ | ⟨h1, h2, h3, h⟩ | ⟨h1, h2, h3, h4, h⟩ | ⟨h1, h2, h3, h4, h5, h⟩ | ⟨h1, h2, h3, h4, h5, h⟩
  all_goals
    rw [h]
    clear h
    go_enter Try.func37, Try.ntmps37
    go_wp2_with fail
    go_returns
    exact ⟨rfl, rfl⟩
theorem rwet_c (n : Int) (w : World) : Calls Try.prog 38 #[.int .i64 n] w fun r w' => r = .returned (.bool (wetB n)) ∧ w = w' := by
  rcases wet_ways n with ⟨h1, h⟩ | ⟨h1, h2, h3, h⟩ | ⟨h1, h2, h3, h⟩
  all_goals
    rw [h]
    clear h
    go_enter Try.func38, Try.ntmps38
    go_wp2_with fail
    go_returns
    exact ⟨rfl, rfl⟩
end Go.Proofs.Ytmkmaoodeebmfaa
