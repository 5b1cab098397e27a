/- Bodies, the tick and what waits go on, behind a crash, as they would have gone on without one: the row, the card. -/
import Derived.Test.YtmbccnioijokfaaGreatDoorZs42
import Derived.Test.YtmbccnioijokfaaGreatDoorZs27
namespace Go.Proofs.YtmbccnioijokfaaGreatDoor
set_option maxRecDepth 100000
set_option maxHeartbeats 32000000
open Go.Value (int)
open Go.IntKind (i64 u8)
open Go.Proofs.Tryz
section
open Go
theorem Jj:true=Tryz.pinned.checked.prog.looks []:=by kernel_rfl
theorem JZ:false=Rows.topSavedRow.goesBy Tryz.pinned.checked.prog:=by kernel_rfl
theorem ML:Rows.TopSavedSaid:=
 OpenClaim.holds_of_cond 6 Tryz.f6 rfl rfl rfl rfl rfl rfl rfl ⟨rfl,rfl,rfl,rfl,rfl⟩ rfl rfl rfl rfl rfl Dh func6 I5
  (of_decide_eq_true (by kernel_rfl)) (by unfold Func.isWrapper;first|(rw [if_pos (by decide +kernel)];kernel_rfl)|(rw [if_neg (by decide +kernel)];exact ⟨rfl,rfl⟩))
  (λos a H enc _ b=>by rw [OpenClaim.pre_eq_preRow];exact Iv os a H enc b)
theorem topSaved_card:Rows.TopSavedCardSaid:=
 Claim7.holds_tied_plain_at .later [] [.data, .data, .data, .data, .pinned] true (true, "a9af8d42a17ddd45de99b76b8bd8a4ad6b1f8688bbe86b4f6f6384a8ee85f17c") true
  ML (λ_ h=>by cases h) (by kernel_rfl) (λ_ h=>by cases h) topSaved_row_tie rfl ⟨rfl,rfl⟩ (by kernel_rfl) rfl
  (λf c b a=>by
   obtain rfl:f=6:=pE (Dh.symm.trans b) |>.symm;obtain rfl:c=Tryz.f6:=(pE (func6.symm.trans a)).symm;exact ⟨Jj,λj t ht=>by
    rw [params6] at ht;have d:t=3∨t=47∨t=33:=by
     rcases j with _|_|_|_|_|j
     ·exact .inl (by simpa using ht.symm)
     ·exact .inr (.inl (by simpa using ht.symm))
     ·exact .inr (.inr (by simpa using ht.symm))
     ·exact .inl (by simpa using ht.symm)
     ·exact .inl (by simpa using ht.symm)
     ·simp at ht
    exact d.elim (λe=>by subst e;exact (show prog.wantsStandIn 3=false by kernel_rfl)) λh=>h.elim (λe=>by subst e;exact (show prog.wantsStandIn 47=false by kernel_rfl)) λe=>by subst e;exact (show prog.wantsStandIn 33=false by kernel_rfl)⟩)
  JZ
end
end Go.Proofs.YtmbccnioijokfaaGreatDoor