/- A body whose chunk goes stays just where it is, and goes on when it is back: the row, the card. -/
import Derived.Test.YtmbccnioijokfaaGreatDoorMz10
import Derived.Test.YtmbccnioijokfaaGreatDoorMz3
import Derived.Test.YtmbccnioijokfaaGreatDoorRows
import Derived.Test.YtmbccnioijokfaaGreatDoorCards
import Derived.Test.YtmbccnioijokfaaGreatDoorTie
import Derived.JoinedCond
import Derived.SevenTiedAt
namespace Go.Proofs.YtmbccnioijokfaaGreatDoor
open Go
theorem topFrozen_looks : true = Tryz.pinned.checked.prog.looks [] := by kernel_rfl
theorem topFrozen_goes : false = Rows.topFrozenRow.goesBy Tryz.pinned.checked.prog := by kernel_rfl
theorem topFrozen_row : Rows.TopFrozenSaid :=
  OpenClaim.holds_of_cond 5 Tryz.f5 rfl rfl rfl rfl rfl rfl rfl ⟨rfl, rfl, rfl, rfl, rfl⟩ rfl rfl rfl rfl rfl topFrozen_named Tryz.func5 topFrozen_closed
    (of_decide_eq_true (by kernel_rfl)) (by unfold Func.isWrapper; first | (rw [if_pos (by decide +kernel)]; kernel_rfl) | (rw [if_neg (by decide +kernel)]; exact ⟨rfl, rfl⟩))
    (fun os started H enc _ F0 => by rw [OpenClaim.pre_eq_preRow]; exact topFrozen_lifted os started H enc F0)
theorem topFrozen_card : Rows.TopFrozenCardSaid :=
  Claim7.holds_tied_plain_at .later [] [.data, .data, .data, .data, .pinned] true (true, "a9af8d42a17ddd45de99b76b8bd8a4ad6b1f8688bbe86b4f6f6384a8ee85f17c") true
    topFrozen_row (fun _ h => by cases h) (by kernel_rfl) (fun _ h => by cases h) topFrozen_row_tie rfl ⟨rfl, rfl⟩ (by kernel_rfl) rfl
    (fun f fn hf hfn => by
      obtain rfl : f = 5 := Option.some.inj (topFrozen_named.symm.trans hf) |>.symm
      obtain rfl : fn = Tryz.f5 := (Option.some.inj (Tryz.func5.symm.trans hfn)).symm
      exact ⟨topFrozen_looks, fun j t ht => by
        rw [Tryz.params5] at ht
        have h3 : t = 3 ∨ t = 29 ∨ t = 3 := by
          rcases j with _ | _ | _ | j
          · exact .inl (by simpa using ht.symm)
          · exact .inr (.inl (by simpa using ht.symm))
          · exact .inr (.inr (by simpa using ht.symm))
          · simp at ht
        exact h3.elim (fun e => by subst e; exact (show Tryz.prog.wantsStandIn 3 = false by kernel_rfl)) fun h => h.elim (fun e => by subst e; exact (show Tryz.prog.wantsStandIn 29 = false by kernel_rfl)) fun e => by subst e; exact (show Tryz.prog.wantsStandIn 3 = false by kernel_rfl)⟩)
    topFrozen_goes
end Go.Proofs.YtmbccnioijokfaaGreatDoor

