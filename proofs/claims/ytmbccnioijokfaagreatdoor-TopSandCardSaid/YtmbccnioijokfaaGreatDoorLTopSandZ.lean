/- Sand that would land in a cell that a body is in does not: the row, the card. -/
import Derived.Test.YtmbccnioijokfaaGreatDoorMa11
import Derived.Test.YtmbccnioijokfaaGreatDoorMa3
import Derived.Test.YtmbccnioijokfaaGreatDoorRows
import Derived.Test.YtmbccnioijokfaaGreatDoorCards
import Derived.Test.YtmbccnioijokfaaGreatDoorTie
import Derived.JoinedCond
import Derived.SevenTiedAt
namespace Go.Proofs.YtmbccnioijokfaaGreatDoor
open Go
theorem topSand_looks : true = Tryz.pinned.checked.prog.looks [] := by kernel_rfl
theorem topSand_goes : false = Rows.topSandRow.goesBy Tryz.pinned.checked.prog := by kernel_rfl
theorem topSand_row : Rows.TopSandSaid :=
  OpenClaim.holds_of_cond 3 Tryz.f3 rfl rfl rfl rfl rfl rfl rfl ⟨rfl, rfl, rfl, rfl, rfl⟩ rfl rfl rfl rfl rfl topSand_named Tryz.func3 topSand_closed
    (of_decide_eq_true (by kernel_rfl)) (by unfold Func.isWrapper; first | (rw [if_pos (by decide +kernel)]; kernel_rfl) | (rw [if_neg (by decide +kernel)]; exact ⟨rfl, rfl⟩))
    (fun os started H enc _ F0 => by rw [OpenClaim.pre_eq_preRow]; exact topSand_lifted os started H enc F0)
theorem topSand_card : Rows.TopSandCardSaid :=
  Claim7.holds_tied_plain_at .later [] [.data, .data, .data, .data, .pinned] true (true, "a9af8d42a17ddd45de99b76b8bd8a4ad6b1f8688bbe86b4f6f6384a8ee85f17c") true
    topSand_row (fun _ h => by cases h) (by kernel_rfl) (fun _ h => by cases h) topSand_row_tie rfl ⟨rfl, rfl⟩ (by kernel_rfl) rfl
    (fun f fn hf hfn => by
      obtain rfl : f = 3 := Option.some.inj (topSand_named.symm.trans hf) |>.symm
      obtain rfl : fn = Tryz.f3 := (Option.some.inj (Tryz.func3.symm.trans hfn)).symm
      exact ⟨topSand_looks, fun j t ht => by
        rw [Tryz.params3] at ht
        have h3 : t = 3 := by
          rcases j with _ | _ | j
          · simpa using ht.symm
          · simpa using ht.symm
          · simp at ht
        subst h3
        exact (show Tryz.prog.wantsStandIn 3 = false by kernel_rfl)⟩)
    topSand_goes
end Go.Proofs.YtmbccnioijokfaaGreatDoor

