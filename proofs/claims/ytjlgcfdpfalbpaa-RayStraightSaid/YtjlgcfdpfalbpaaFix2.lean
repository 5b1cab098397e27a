/- The walks of the layer 1 (fixed) and of its reference: what stands on memory, and quotients. -/
import Derived.Test.YtjlgcfdpfalbpaaFix
namespace Go.Proofs.Ytjlgcfdpfalbpaa
open Go.RowKit

set_option maxHeartbeats 400000 in
theorem round1_c (n : Int) (b r : Bool) (p q : Nat) (hn : 0 ≤ n) (hn2 : n ≤ 140737488355328) (w : World) (hb : w.cell? ⟨p, 0, none⟩ = some (.bool b)) (hr : w.cell? ⟨q, 0, none⟩ = some (.bool r)) :
    Calls Try.prog 70 #[.int .u64 n, .pointer (some ⟨p, 0, none⟩), .pointer (some ⟨q, 0, none⟩)] w fun e w' => e = .returned (.int .u64 (upI n b r)) ∧ w = w' := by
  cases b <;> cases r
  all_goals
    go_enter Try.func70, Try.ntmps70
    go_wp2
    go_returns
    exact ⟨ret_i (by simp [upI]), rfl⟩
set_option maxHeartbeats 1000000 in
theorem round_c (q : Int) (rest below : Bool) (hq : 0 ≤ q) (hq2 : q ≤ 18446744073709551615) (w : World) :
    Calls Try.prog 66 #[.int .u64 q, .bool rest, .bool below] w fun e w' => e = .returned (.int .i64 (rndI q rest below)) ∧ Below w.heap.size w w' := by
  have hmf : ∀ (fn : Fn) (first cap : Array Value) (w : World), (Instr.makeFunc fn first cap).run Try.prog w = .ok (.func fn first cap) w := fun _ _ _ _ => rfl
  by_cases h : 140737488355328 ≤ q <;> cases below
  all_goals
    go_enter Try.func66, Try.ntmps66
    go_wp2_with fail
    first
      | (go_returns; exact ⟨ret_i (by simp [rndI]; omega), by go_grown⟩)
      | (refine (round1_c _ _ _ _ _ (by omega) (by omega) _ (Blk.new' (by simp)).c1.1 ((Blk.new' rfl).alloc _).c1.1).mono ?_
         rintro e w1 ⟨rfl, rfl⟩
         have ub := upI_bd 140737488355328 true false
         have ub2 := upI_bd q true rest
         go_wp2_with fail
         go_returns
         exact ⟨ret_i (by simp [rndI, h]; first | rfl | (simp [upI]; done) | omega), by go_grown⟩)
