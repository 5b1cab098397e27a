/-
  No cell of these rows narrows 'for every input' (looked for: loops, veiled, ifaces, maps, wideKeys, modest, calm, conditions, laid).
  DERIVED. THE GIVEN ROWS OF THIS SEAT. 6 by the template 'for every input the law returns true; each argument reads behind the call as it read before'; 0 by the template 'total and deterministic' (their statements: YtckjpiioipkfcaaTotals.lean).
  GIVEN WITH THE SEED: the statements are not yours to turn. If you find one false, say at which input.
  Laid BY PROGRAM, IN A SANDBOX (cutbox-rows.mjs): the forced cells as the released guide's own fill.sh prints them over the translation aabafee9f652a30e… (all of the seat's roots in one cut). By AI agents, Wed Nov 11 2026. No macro, syntax, notation, axiom, sorry.
-/
import Derived.Test.YtckjpiioipkfcaaChecked
import GoSem.Claim
import GoSem.ClaimJoined
import GoSem.ClaimMapViews
import Derived.JoinedTies
import Derived.KernelRfl
namespace Go.Proofs.Ytckjpiioipkfcaa
/- THE CELL 'sum', in the pinned program and in every row, IS THE sha256 OF THE DUMP (.gsa) THAT YtckjpiioipkfcaaProg.lean LOADS. Nothing in Lean hashes anything: it is a label: what it is worth is what the hold of that sum in a sandbox is worth. -/
noncomputable def Try.pinned : Pinned := { name := "ytckjpiioipkfcaa", sum := "aabafee9f652a30e18873a5f5440d262b161c29e022b8b0aae867958919e747a", checked := Try.checked }
namespace Rows
def none {H : Type} : Left H := { results := [], args := [] }

/-- 'breccialaw15.SweepParts': WHATEVER THE INPUT: true; the input reads as it did. -/
def sweepPartsSpec : ChangeSpec := { name := "sweepParts", fn := fun _ => fun
  | [d1, d2, d3, d4, d5, d6] => { results := [.lit (.bool true)], args := [d1, d2, d3, d4, d5, d6] }
  | _ => none }
def sweepPartsRow : OpenClaim := { program := "ytckjpiioipkfcaa", sum := "aabafee9f652a30e18873a5f5440d262b161c29e022b8b0aae867958919e747a", func := "breccia/breccialaw15.SweepParts", spec := "sweepParts", unfollowed := true, recurses := true, apart := false }
def SweepPartsSaid : Prop := sweepPartsRow.holds Try.pinned (OpenSpec.ofChange sweepPartsSpec)

/-- ITS FALSE NEIGHBOUR: 'it returns false'. Refute it at one input. -/
def sweepPartsWrong : ChangeSpec := { name := "sweepParts", fn := fun _ => fun
  | [d1, d2, d3, d4, d5, d6] => { results := [.lit (.bool false)], args := [d1, d2, d3, d4, d5, d6] }
  | _ => none }
def SweepPartsWrongFalsely : Prop := sweepPartsRow.holds Try.pinned (OpenSpec.ofChange sweepPartsWrong)

/-- 'breccialaw15.SweepAxes': WHATEVER THE INPUT: true; the input reads as it did. -/
def sweepAxesSpec : ChangeSpec := { name := "sweepAxes", fn := fun _ => fun
  | [d1, d2, d3, d4] => { results := [.lit (.bool true)], args := [d1, d2, d3, d4] }
  | _ => none }
def sweepAxesRow : OpenClaim := { program := "ytckjpiioipkfcaa", sum := "aabafee9f652a30e18873a5f5440d262b161c29e022b8b0aae867958919e747a", func := "breccia/breccialaw15.SweepAxes", spec := "sweepAxes", unfollowed := true, recurses := true, apart := false }
def SweepAxesSaid : Prop := sweepAxesRow.holds Try.pinned (OpenSpec.ofChange sweepAxesSpec)

/-- ITS FALSE NEIGHBOUR: 'it returns false'. Refute it at one input. -/
def sweepAxesWrong : ChangeSpec := { name := "sweepAxes", fn := fun _ => fun
  | [d1, d2, d3, d4] => { results := [.lit (.bool false)], args := [d1, d2, d3, d4] }
  | _ => none }
def SweepAxesWrongFalsely : Prop := sweepAxesRow.holds Try.pinned (OpenSpec.ofChange sweepAxesWrong)

/-- 'breccialaw15.SweepHits': WHATEVER THE INPUT: true; the input reads as it did. -/
def sweepHitsSpec : ChangeSpec := { name := "sweepHits", fn := fun _ => fun
  | [d1, d2] => { results := [.lit (.bool true)], args := [d1, d2] }
  | _ => none }
def sweepHitsRow : OpenClaim := { program := "ytckjpiioipkfcaa", sum := "aabafee9f652a30e18873a5f5440d262b161c29e022b8b0aae867958919e747a", func := "breccia/breccialaw15.SweepHits", spec := "sweepHits", unfollowed := true, recurses := true, apart := false }
def SweepHitsSaid : Prop := sweepHitsRow.holds Try.pinned (OpenSpec.ofChange sweepHitsSpec)

/-- ITS FALSE NEIGHBOUR: 'it returns false'. Refute it at one input. -/
def sweepHitsWrong : ChangeSpec := { name := "sweepHits", fn := fun _ => fun
  | [d1, d2] => { results := [.lit (.bool false)], args := [d1, d2] }
  | _ => none }
def SweepHitsWrongFalsely : Prop := sweepHitsRow.holds Try.pinned (OpenSpec.ofChange sweepHitsWrong)

/-- 'breccialaw15.SweepMoves': WHATEVER THE INPUT: true; the input reads as it did. -/
def sweepMovesSpec : ChangeSpec := { name := "sweepMoves", fn := fun _ => fun
  | [d1, d2, d3, d4] => { results := [.lit (.bool true)], args := [d1, d2, d3, d4] }
  | _ => none }
def sweepMovesRow : OpenClaim := { program := "ytckjpiioipkfcaa", sum := "aabafee9f652a30e18873a5f5440d262b161c29e022b8b0aae867958919e747a", func := "breccia/breccialaw15.SweepMoves", spec := "sweepMoves", unfollowed := true, recurses := true, apart := false }
def SweepMovesSaid : Prop := sweepMovesRow.holds Try.pinned (OpenSpec.ofChange sweepMovesSpec)

/-- ITS FALSE NEIGHBOUR: 'it returns false'. Refute it at one input. -/
def sweepMovesWrong : ChangeSpec := { name := "sweepMoves", fn := fun _ => fun
  | [d1, d2, d3, d4] => { results := [.lit (.bool false)], args := [d1, d2, d3, d4] }
  | _ => none }
def SweepMovesWrongFalsely : Prop := sweepMovesRow.holds Try.pinned (OpenSpec.ofChange sweepMovesWrong)

/-- 'breccialaw15.SweepFree': WHATEVER THE INPUT: true; the input reads as it did. -/
def sweepFreeSpec : ChangeSpec := { name := "sweepFree", fn := fun _ => fun
  | [d1, d2, d3, d4] => { results := [.lit (.bool true)], args := [d1, d2, d3, d4] }
  | _ => none }
def sweepFreeRow : OpenClaim := { program := "ytckjpiioipkfcaa", sum := "aabafee9f652a30e18873a5f5440d262b161c29e022b8b0aae867958919e747a", func := "breccia/breccialaw15.SweepFree", spec := "sweepFree", unfollowed := true, recurses := true, apart := false }
def SweepFreeSaid : Prop := sweepFreeRow.holds Try.pinned (OpenSpec.ofChange sweepFreeSpec)

/-- ITS FALSE NEIGHBOUR: 'it returns false'. Refute it at one input. -/
def sweepFreeWrong : ChangeSpec := { name := "sweepFree", fn := fun _ => fun
  | [d1, d2, d3, d4] => { results := [.lit (.bool false)], args := [d1, d2, d3, d4] }
  | _ => none }
def SweepFreeWrongFalsely : Prop := sweepFreeRow.holds Try.pinned (OpenSpec.ofChange sweepFreeWrong)

/-- 'breccialaw15.SweepSteps': WHATEVER THE INPUT: true; the input reads as it did. -/
def sweepStepsSpec : ChangeSpec := { name := "sweepSteps", fn := fun _ => fun
  | [d1, d2, d3, d4] => { results := [.lit (.bool true)], args := [d1, d2, d3, d4] }
  | _ => none }
def sweepStepsRow : OpenClaim := { program := "ytckjpiioipkfcaa", sum := "aabafee9f652a30e18873a5f5440d262b161c29e022b8b0aae867958919e747a", func := "breccia/breccialaw15.SweepSteps", spec := "sweepSteps", unfollowed := true, recurses := true, apart := false }
def SweepStepsSaid : Prop := sweepStepsRow.holds Try.pinned (OpenSpec.ofChange sweepStepsSpec)

/-- ITS FALSE NEIGHBOUR: 'it returns false'. Refute it at one input. -/
def sweepStepsWrong : ChangeSpec := { name := "sweepSteps", fn := fun _ => fun
  | [d1, d2, d3, d4] => { results := [.lit (.bool false)], args := [d1, d2, d3, d4] }
  | _ => none }
def SweepStepsWrongFalsely : Prop := sweepStepsRow.holds Try.pinned (OpenSpec.ofChange sweepStepsWrong)

/- THE SECOND FORM. 'bulk': how many values and letters a reading holds, each counted each time it is reached (what is shared counts as often as it is met; a slice's spare places count too). A statement '..UptoSaid' is the law's where the arguments, and the package variables that the reading takes, are together of bulk at most 1048576: NARROWER than '..Said'. Prove '..Said' where nothing that the law and all that it calls make is longer than what came in: it says more and counts as full. Else prove '..UptoSaid'. A law counts once. -/
mutual
def uptoBulk {H : Type} : DataW H → Nat
  | .lit (.string bytes) => bytes.length + 1
  | .lit _ => 1
  | .nil => 1
  | .ptr d => uptoBulk d + 1
  | .slice elems spare => uptoBulkAll elems + uptoBulkAll spare + 1
  | .agg parts => uptoBulkAll parts + 1
  | .iface _ d => uptoBulk d + 1
  | .map entries => uptoBulkEntries entries + 1
  | .held _ => 1
def uptoBulkAll {H : Type} : List (DataW H) → Nat
  | [] => 0
  | d :: r => uptoBulk d + uptoBulkAll r
def uptoBulkEntries {H : Type} : List (Lit × DataW H) → Nat
  | [] => 0
  | x :: r => uptoBulkEntry x + uptoBulkEntries r
def uptoBulkEntry {H : Type} : Lit × DataW H → Nat
  | (.string bytes, d) => bytes.length + uptoBulk d + 1
  | (_, d) => uptoBulk d + 1
 end
def uptoSmall : (H : Type) → List (DataW H) → Bool := fun _ ds => decide (uptoBulkAll ds ≤ 1048576)
def OpenSpec.upto (s : _root_.Go.ChangeSpec) : _root_.Go.OpenSpec := { _root_.Go.OpenSpec.ofChange s with cond := some uptoSmall }

/-- 'breccialaw15.SweepParts', WHERE WHAT IT READS IS OF BULK AT MOST 1048576: true; the input reads as it did. -/
def sweepPartsUptoRow : OpenClaim := { program := "ytckjpiioipkfcaa", sum := "aabafee9f652a30e18873a5f5440d262b161c29e022b8b0aae867958919e747a", func := "breccia/breccialaw15.SweepParts", spec := "sweepParts", unfollowed := true, recurses := true, apart := false, narrowed := true }
def SweepPartsUptoSaid : Prop := sweepPartsUptoRow.holds Try.pinned (OpenSpec.upto sweepPartsSpec)

/-- 'breccialaw15.SweepAxes', WHERE WHAT IT READS IS OF BULK AT MOST 1048576: true; the input reads as it did. -/
def sweepAxesUptoRow : OpenClaim := { program := "ytckjpiioipkfcaa", sum := "aabafee9f652a30e18873a5f5440d262b161c29e022b8b0aae867958919e747a", func := "breccia/breccialaw15.SweepAxes", spec := "sweepAxes", unfollowed := true, recurses := true, apart := false, narrowed := true }
def SweepAxesUptoSaid : Prop := sweepAxesUptoRow.holds Try.pinned (OpenSpec.upto sweepAxesSpec)

/-- 'breccialaw15.SweepHits', WHERE WHAT IT READS IS OF BULK AT MOST 1048576: true; the input reads as it did. -/
def sweepHitsUptoRow : OpenClaim := { program := "ytckjpiioipkfcaa", sum := "aabafee9f652a30e18873a5f5440d262b161c29e022b8b0aae867958919e747a", func := "breccia/breccialaw15.SweepHits", spec := "sweepHits", unfollowed := true, recurses := true, apart := false, narrowed := true }
def SweepHitsUptoSaid : Prop := sweepHitsUptoRow.holds Try.pinned (OpenSpec.upto sweepHitsSpec)

/-- 'breccialaw15.SweepMoves', WHERE WHAT IT READS IS OF BULK AT MOST 1048576: true; the input reads as it did. -/
def sweepMovesUptoRow : OpenClaim := { program := "ytckjpiioipkfcaa", sum := "aabafee9f652a30e18873a5f5440d262b161c29e022b8b0aae867958919e747a", func := "breccia/breccialaw15.SweepMoves", spec := "sweepMoves", unfollowed := true, recurses := true, apart := false, narrowed := true }
def SweepMovesUptoSaid : Prop := sweepMovesUptoRow.holds Try.pinned (OpenSpec.upto sweepMovesSpec)

/-- 'breccialaw15.SweepFree', WHERE WHAT IT READS IS OF BULK AT MOST 1048576: true; the input reads as it did. -/
def sweepFreeUptoRow : OpenClaim := { program := "ytckjpiioipkfcaa", sum := "aabafee9f652a30e18873a5f5440d262b161c29e022b8b0aae867958919e747a", func := "breccia/breccialaw15.SweepFree", spec := "sweepFree", unfollowed := true, recurses := true, apart := false, narrowed := true }
def SweepFreeUptoSaid : Prop := sweepFreeUptoRow.holds Try.pinned (OpenSpec.upto sweepFreeSpec)

/-- 'breccialaw15.SweepSteps', WHERE WHAT IT READS IS OF BULK AT MOST 1048576: true; the input reads as it did. -/
def sweepStepsUptoRow : OpenClaim := { program := "ytckjpiioipkfcaa", sum := "aabafee9f652a30e18873a5f5440d262b161c29e022b8b0aae867958919e747a", func := "breccia/breccialaw15.SweepSteps", spec := "sweepSteps", unfollowed := true, recurses := true, apart := false, narrowed := true }
def SweepStepsUptoSaid : Prop := sweepStepsUptoRow.holds Try.pinned (OpenSpec.upto sweepStepsSpec)

end Rows
end Go.Proofs.Ytckjpiioipkfcaa
