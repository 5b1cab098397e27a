/- Pieces of bytes put one behind the other; a piece's own copy. -/
import Derived.Test.YtlmjggbpophnfaaApp2
import Derived.Test.YtlmjggbpophnfaaChecked
import Derived.Deep.Cut
import Derived.Lib.SliceRun
namespace Go.Proofs.Ytlmjggbpophnfaa
open Go.RowKit

theorem inf8 : (Try.prog.info? 5).map (fun i => (i.zero, i.size, i.bytes)) = some (some (.int .u8 0), 1, 1) := by kernel_rfl
set_option maxHeartbeats 1000000 in
theorem clone_c (q : Option Addr) (n c : Nat) (F : Nat → B8) (hc : n ≤ c) (h47 : n ≤ 140737488355328) (w : World) (hq : Byq w q n F) :
    Calls Try.prog 27 #[.slice q n c] w fun r w' => ∃ v, r = .returned v ∧ w'.ownsRow w.heap.size 5 1 v n (bl F n) ∧ Below w.heap.size w w' := by
  have hnl : ∀ (w : World) (a : Option Addr) (n c n' c' : Nat), (binOp .eql 27 (.slice a n c) (.slice none n' c')).run Try.prog w = .ok (.bool a.isNone) w := fun w a n c n' c' => Lib.run_eql_slice_nil w _ _ a n c n' c' Try.underlying27
  cases q with
  | none =>
    have h0 : n = 0 := by
      rcases Nat.eq_zero_or_pos n with h | h
      · exact h
      · obtain ⟨g, o, h1, _⟩ := hq h; cases h1
    subst h0
    go_enter Try.func27, Try.ntmps27
    go_wp2_with fail
    go_returns
    exact ⟨_, rfl, own_nil, Below.refl _ _⟩
  | some a =>
    obtain ⟨W0, hW⟩ : ∃ W0, W0 = w.alloc (.cells #[] 5) := ⟨_, rfl⟩
    have hb0 : Below w.heap.size w W0 := by rw [hW]; exact (Below.refl _ _).alloc (Nat.le_refl _) _
    have hown : W0.ownsRow w.heap.size 5 1 (.slice (some ⟨w.heap.size, 0, none⟩) 0 0) 0 (bl F 0) :=
      ⟨rfl, .inr ⟨w.heap.size, 0, #[], rfl, Nat.le_refl _, by rw [hW]; exact heap_alloc_new w _, Nat.le_refl _, by omega, rfl, rfl⟩⟩
    obtain ⟨v1, W1, hrun1, hown1, hb1⟩ := run_app (P := Try.prog) (w := W0) (base := w.heap.size) (ty := 27) Try.underlying27 inf8 hown hc (hq.on hb0) (by omega) hb0.size
    rw [cat_0, Nat.zero_add] at hown1
    rw [hW] at hrun1
    go_enter Try.func27, Try.ntmps27
    go_wp2_with (at_builtin; refine Lib.wpList_append_run _ rfl _ _ _ _ rfl _ _ rfl rfl _ _ hrun1 ?_)
    go_returns
    exact ⟨_, rfl, hown1, hb0.trans hb1⟩
end Go.Proofs.Ytlmjggbpophnfaa
