/- A body in a room of four walls stays in it, whatever it is told: the row, the card. -/
import Derived.Test.YtmbccnioijokfaaGreatDoorMw11
import Derived.Test.YtmbccnioijokfaaGreatDoorMw4
import Derived.Test.YtmbccnioijokfaaGreatDoorRows
import Derived.Test.YtmbccnioijokfaaGreatDoorCards
import Derived.Test.YtmbccnioijokfaaGreatDoorTie
import Derived.JoinedCond
import Derived.SevenTiedAt
namespace Go.Proofs.YtmbccnioijokfaaGreatDoor
open Go
theorem topWalls_looks : true = Tryz.pinned.checked.prog.looks [] := by kernel_rfl
theorem topWalls_goes : false = Rows.topWallsRow.goesBy Tryz.pinned.checked.prog := by kernel_rfl
theorem topWalls_row : Rows.TopWallsSaid :=
  OpenClaim.holds_of_cond 4 Tryz.f4 rfl rfl rfl rfl rfl rfl rfl ⟨rfl, rfl, rfl, rfl, rfl⟩ rfl rfl rfl rfl rfl topWalls_named Tryz.func4 topWalls_closed
    (of_decide_eq_true (by kernel_rfl)) (by unfold Func.isWrapper; first | (rw [if_pos (by decide +kernel)]; kernel_rfl) | (rw [if_neg (by decide +kernel)]; exact ⟨rfl, rfl⟩))
    (fun os started H enc _ F0 => by rw [OpenClaim.pre_eq_preRow]; exact topWalls_lifted os started H enc F0)
theorem topWalls_card : Rows.TopWallsCardSaid :=
  Claim7.holds_tied_plain_at .later [] [.data, .data, .data, .data, .pinned] true (true, "a9af8d42a17ddd45de99b76b8bd8a4ad6b1f8688bbe86b4f6f6384a8ee85f17c") true
    topWalls_row (fun _ h => by cases h) (by kernel_rfl) (fun _ h => by cases h) topWalls_row_tie rfl ⟨rfl, rfl⟩ (by kernel_rfl) rfl
    (fun f fn hf hfn => by
      obtain rfl : f = 4 := Option.some.inj (topWalls_named.symm.trans hf) |>.symm
      obtain rfl : fn = Tryz.f4 := (Option.some.inj (Tryz.func4.symm.trans hfn)).symm
      exact ⟨topWalls_looks, fun j t ht => by
        rw [Tryz.params4] at ht
        have h3 : t = 3 ∨ t = 29 ∨ t = 4 := by
          rcases j with _ | _ | _ | j
          · exact .inl (by simpa using ht.symm)
          · exact .inr (.inl (by simpa using ht.symm))
          · exact .inr (.inr (by simpa using ht.symm))
          · simp at ht
        exact h3.elim (fun e => by subst e; exact (show Tryz.prog.wantsStandIn 3 = false by kernel_rfl)) fun h => h.elim (fun e => by subst e; exact (show Tryz.prog.wantsStandIn 29 = false by kernel_rfl)) fun e => by subst e; exact (show Tryz.prog.wantsStandIn 4 = false by kernel_rfl)⟩)
    topWalls_goes
end Go.Proofs.YtmbccnioijokfaaGreatDoor

