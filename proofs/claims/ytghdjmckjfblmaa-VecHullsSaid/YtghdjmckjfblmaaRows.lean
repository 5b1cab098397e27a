/-
  No cell of these rows narrows 'for every input' (looked for: loops, veiled, ifaces, maps, wideKeys, modest, calm, conditions, laid).
  DERIVED. THE GIVEN ROWS OF THIS SEAT. 8 by the template 'for every input the law returns true; each argument reads behind the call as it read before'; 0 by the template 'total and deterministic' (their statements: YtghdjmckjfblmaaTotals.lean).
  GIVEN WITH THE SEED: the statements are not yours to turn. If you find one false, say at which input.
  Laid BY PROGRAM, IN A SANDBOX (cutbox-rows.mjs): the forced cells as the released guide's own fill.sh prints them over the translation 82996cc72a598e89… (all of the seat's roots in one cut). By AI agents, Wed Nov 11 2026. No macro, syntax, notation, axiom, sorry.
-/
import Derived.Test.YtghdjmckjfblmaaChecked
import GoSem.Claim
import GoSem.ClaimJoined
import GoSem.ClaimMapViews
import Derived.JoinedTies
import Derived.KernelRfl
namespace Go.Proofs.Ytghdjmckjfblmaa
/- THE CELL 'sum', in the pinned program and in every row, IS THE sha256 OF THE DUMP (.gsa) THAT YtghdjmckjfblmaaProg.lean LOADS. Nothing in Lean hashes anything: it is a label: what it is worth is what the hold of that sum in a sandbox is worth. -/
noncomputable def Try.pinned : Pinned := { name := "ytghdjmckjfblmaa", sum := "82996cc72a598e892303f922490a29cfbf63464312fb1c621f2c2cc07bdb5d11", checked := Try.checked }
namespace Rows
def none {H : Type} : Left H := { results := [], args := [] }

/-- 'breccialaw02.VecMeets': WHATEVER THE INPUT: true; the input reads as it did. -/
def vecMeetsSpec : ChangeSpec := { name := "vecMeets", fn := fun _ => fun
  | [d1, d2] => { results := [.lit (.bool true)], args := [d1, d2] }
  | _ => none }
def vecMeetsRow : OpenClaim := { program := "ytghdjmckjfblmaa", sum := "82996cc72a598e892303f922490a29cfbf63464312fb1c621f2c2cc07bdb5d11", func := "breccia/breccialaw02.VecMeets", spec := "vecMeets", unfollowed := true, recurses := true, apart := false }
def VecMeetsSaid : Prop := vecMeetsRow.holds Try.pinned (OpenSpec.ofChange vecMeetsSpec)

/-- ITS FALSE NEIGHBOUR: 'it returns false'. Refute it at one input. -/
def vecMeetsWrong : ChangeSpec := { name := "vecMeets", fn := fun _ => fun
  | [d1, d2] => { results := [.lit (.bool false)], args := [d1, d2] }
  | _ => none }
def VecMeetsWrongFalsely : Prop := vecMeetsRow.holds Try.pinned (OpenSpec.ofChange vecMeetsWrong)

/-- 'breccialaw02.VecAxes': WHATEVER THE INPUT: true; the input reads as it did. -/
def vecAxesSpec : ChangeSpec := { name := "vecAxes", fn := fun _ => fun
  | [d1, d2, d3] => { results := [.lit (.bool true)], args := [d1, d2, d3] }
  | _ => none }
def vecAxesRow : OpenClaim := { program := "ytghdjmckjfblmaa", sum := "82996cc72a598e892303f922490a29cfbf63464312fb1c621f2c2cc07bdb5d11", func := "breccia/breccialaw02.VecAxes", spec := "vecAxes", unfollowed := true, recurses := true, apart := false }
def VecAxesSaid : Prop := vecAxesRow.holds Try.pinned (OpenSpec.ofChange vecAxesSpec)

/-- ITS FALSE NEIGHBOUR: 'it returns false'. Refute it at one input. -/
def vecAxesWrong : ChangeSpec := { name := "vecAxes", fn := fun _ => fun
  | [d1, d2, d3] => { results := [.lit (.bool false)], args := [d1, d2, d3] }
  | _ => none }
def VecAxesWrongFalsely : Prop := vecAxesRow.holds Try.pinned (OpenSpec.ofChange vecAxesWrong)

/-- 'breccialaw02.VecMoves': WHATEVER THE INPUT: true; the input reads as it did. -/
def vecMovesSpec : ChangeSpec := { name := "vecMoves", fn := fun _ => fun
  | [d1, d2, d3] => { results := [.lit (.bool true)], args := [d1, d2, d3] }
  | _ => none }
def vecMovesRow : OpenClaim := { program := "ytghdjmckjfblmaa", sum := "82996cc72a598e892303f922490a29cfbf63464312fb1c621f2c2cc07bdb5d11", func := "breccia/breccialaw02.VecMoves", spec := "vecMoves", unfollowed := true, recurses := true, apart := false }
def VecMovesSaid : Prop := vecMovesRow.holds Try.pinned (OpenSpec.ofChange vecMovesSpec)

/-- ITS FALSE NEIGHBOUR: 'it returns false'. Refute it at one input. -/
def vecMovesWrong : ChangeSpec := { name := "vecMoves", fn := fun _ => fun
  | [d1, d2, d3] => { results := [.lit (.bool false)], args := [d1, d2, d3] }
  | _ => none }
def VecMovesWrongFalsely : Prop := vecMovesRow.holds Try.pinned (OpenSpec.ofChange vecMovesWrong)

/-- 'breccialaw02.VecHulls': WHATEVER THE INPUT: true; the input reads as it did. -/
def vecHullsSpec : ChangeSpec := { name := "vecHulls", fn := fun _ => fun
  | [d] => { results := [.lit (.bool true)], args := [d] }
  | _ => none }
def vecHullsRow : OpenClaim := { program := "ytghdjmckjfblmaa", sum := "82996cc72a598e892303f922490a29cfbf63464312fb1c621f2c2cc07bdb5d11", func := "breccia/breccialaw02.VecHulls", spec := "vecHulls", unfollowed := true, recurses := true, apart := false }
def VecHullsSaid : Prop := vecHullsRow.holds Try.pinned (OpenSpec.ofChange vecHullsSpec)

/-- ITS FALSE NEIGHBOUR: 'it returns false'. Refute it at one input. -/
def vecHullsWrong : ChangeSpec := { name := "vecHulls", fn := fun _ => fun
  | [d] => { results := [.lit (.bool false)], args := [d] }
  | _ => none }
def VecHullsWrongFalsely : Prop := vecHullsRow.holds Try.pinned (OpenSpec.ofChange vecHullsWrong)

/-- 'breccialaw02.VecBoxes': WHATEVER THE INPUT: true; the input reads as it did. -/
def vecBoxesSpec : ChangeSpec := { name := "vecBoxes", fn := fun _ => fun
  | [d1, d2, d3] => { results := [.lit (.bool true)], args := [d1, d2, d3] }
  | _ => none }
def vecBoxesRow : OpenClaim := { program := "ytghdjmckjfblmaa", sum := "82996cc72a598e892303f922490a29cfbf63464312fb1c621f2c2cc07bdb5d11", func := "breccia/breccialaw02.VecBoxes", spec := "vecBoxes", unfollowed := true, recurses := true, apart := false }
def VecBoxesSaid : Prop := vecBoxesRow.holds Try.pinned (OpenSpec.ofChange vecBoxesSpec)

/-- ITS FALSE NEIGHBOUR: 'it returns false'. Refute it at one input. -/
def vecBoxesWrong : ChangeSpec := { name := "vecBoxes", fn := fun _ => fun
  | [d1, d2, d3] => { results := [.lit (.bool false)], args := [d1, d2, d3] }
  | _ => none }
def VecBoxesWrongFalsely : Prop := vecBoxesRow.holds Try.pinned (OpenSpec.ofChange vecBoxesWrong)

/-- 'breccialaw02.VecStands': WHATEVER THE INPUT: true; the input reads as it did. -/
def vecStandsSpec : ChangeSpec := { name := "vecStands", fn := fun _ => fun
  | [d1, d2, d3] => { results := [.lit (.bool true)], args := [d1, d2, d3] }
  | _ => none }
def vecStandsRow : OpenClaim := { program := "ytghdjmckjfblmaa", sum := "82996cc72a598e892303f922490a29cfbf63464312fb1c621f2c2cc07bdb5d11", func := "breccia/breccialaw02.VecStands", spec := "vecStands", unfollowed := true, recurses := true, apart := false }
def VecStandsSaid : Prop := vecStandsRow.holds Try.pinned (OpenSpec.ofChange vecStandsSpec)

/-- ITS FALSE NEIGHBOUR: 'it returns false'. Refute it at one input. -/
def vecStandsWrong : ChangeSpec := { name := "vecStands", fn := fun _ => fun
  | [d1, d2, d3] => { results := [.lit (.bool false)], args := [d1, d2, d3] }
  | _ => none }
def VecStandsWrongFalsely : Prop := vecStandsRow.holds Try.pinned (OpenSpec.ofChange vecStandsWrong)

/-- 'breccialaw02.VecBack': WHATEVER THE INPUT: true; the input reads as it did. -/
def vecBackSpec : ChangeSpec := { name := "vecBack", fn := fun _ => fun
  | [d1, d2] => { results := [.lit (.bool true)], args := [d1, d2] }
  | _ => none }
def vecBackRow : OpenClaim := { program := "ytghdjmckjfblmaa", sum := "82996cc72a598e892303f922490a29cfbf63464312fb1c621f2c2cc07bdb5d11", func := "breccia/breccialaw02.VecBack", spec := "vecBack", unfollowed := true, recurses := true, apart := false }
def VecBackSaid : Prop := vecBackRow.holds Try.pinned (OpenSpec.ofChange vecBackSpec)

/-- ITS FALSE NEIGHBOUR: 'it returns false'. Refute it at one input. -/
def vecBackWrong : ChangeSpec := { name := "vecBack", fn := fun _ => fun
  | [d1, d2] => { results := [.lit (.bool false)], args := [d1, d2] }
  | _ => none }
def VecBackWrongFalsely : Prop := vecBackRow.holds Try.pinned (OpenSpec.ofChange vecBackWrong)

/-- 'breccialaw02.VecSums': WHATEVER THE INPUT: true; the input reads as it did. -/
def vecSumsSpec : ChangeSpec := { name := "vecSums", fn := fun _ => fun
  | [d1, d2, d3] => { results := [.lit (.bool true)], args := [d1, d2, d3] }
  | _ => none }
def vecSumsRow : OpenClaim := { program := "ytghdjmckjfblmaa", sum := "82996cc72a598e892303f922490a29cfbf63464312fb1c621f2c2cc07bdb5d11", func := "breccia/breccialaw02.VecSums", spec := "vecSums", unfollowed := true, recurses := true, apart := false }
def VecSumsSaid : Prop := vecSumsRow.holds Try.pinned (OpenSpec.ofChange vecSumsSpec)

/-- ITS FALSE NEIGHBOUR: 'it returns false'. Refute it at one input. -/
def vecSumsWrong : ChangeSpec := { name := "vecSums", fn := fun _ => fun
  | [d1, d2, d3] => { results := [.lit (.bool false)], args := [d1, d2, d3] }
  | _ => none }
def VecSumsWrongFalsely : Prop := vecSumsRow.holds Try.pinned (OpenSpec.ofChange vecSumsWrong)

/- THE SECOND FORM. 'bulk': how many values and letters a reading holds, each counted each time it is reached (what is shared counts as often as it is met; a slice's spare places count too). A statement '..UptoSaid' is the law's where the arguments, and the package variables that the reading takes, are together of bulk at most 1048576: NARROWER than '..Said'. Prove '..Said' where nothing that the law and all that it calls make is longer than what came in: it says more and counts as full. Else prove '..UptoSaid'. A law counts once. -/
mutual
def uptoBulk {H : Type} : DataW H → Nat
  | .lit (.string bytes) => bytes.length + 1
  | .lit _ => 1
  | .nil => 1
  | .ptr d => uptoBulk d + 1
  | .slice elems spare => uptoBulkAll elems + uptoBulkAll spare + 1
  | .agg parts => uptoBulkAll parts + 1
  | .iface _ d => uptoBulk d + 1
  | .map entries => uptoBulkEntries entries + 1
  | .held _ => 1
def uptoBulkAll {H : Type} : List (DataW H) → Nat
  | [] => 0
  | d :: r => uptoBulk d + uptoBulkAll r
def uptoBulkEntries {H : Type} : List (Lit × DataW H) → Nat
  | [] => 0
  | x :: r => uptoBulkEntry x + uptoBulkEntries r
def uptoBulkEntry {H : Type} : Lit × DataW H → Nat
  | (.string bytes, d) => bytes.length + uptoBulk d + 1
  | (_, d) => uptoBulk d + 1
 end
def uptoSmall : (H : Type) → List (DataW H) → Bool := fun _ ds => decide (uptoBulkAll ds ≤ 1048576)
def OpenSpec.upto (s : _root_.Go.ChangeSpec) : _root_.Go.OpenSpec := { _root_.Go.OpenSpec.ofChange s with cond := some uptoSmall }

/-- 'breccialaw02.VecMeets', WHERE WHAT IT READS IS OF BULK AT MOST 1048576: true; the input reads as it did. -/
def vecMeetsUptoRow : OpenClaim := { program := "ytghdjmckjfblmaa", sum := "82996cc72a598e892303f922490a29cfbf63464312fb1c621f2c2cc07bdb5d11", func := "breccia/breccialaw02.VecMeets", spec := "vecMeets", unfollowed := true, recurses := true, apart := false, narrowed := true }
def VecMeetsUptoSaid : Prop := vecMeetsUptoRow.holds Try.pinned (OpenSpec.upto vecMeetsSpec)

/-- 'breccialaw02.VecAxes', WHERE WHAT IT READS IS OF BULK AT MOST 1048576: true; the input reads as it did. -/
def vecAxesUptoRow : OpenClaim := { program := "ytghdjmckjfblmaa", sum := "82996cc72a598e892303f922490a29cfbf63464312fb1c621f2c2cc07bdb5d11", func := "breccia/breccialaw02.VecAxes", spec := "vecAxes", unfollowed := true, recurses := true, apart := false, narrowed := true }
def VecAxesUptoSaid : Prop := vecAxesUptoRow.holds Try.pinned (OpenSpec.upto vecAxesSpec)

/-- 'breccialaw02.VecMoves', WHERE WHAT IT READS IS OF BULK AT MOST 1048576: true; the input reads as it did. -/
def vecMovesUptoRow : OpenClaim := { program := "ytghdjmckjfblmaa", sum := "82996cc72a598e892303f922490a29cfbf63464312fb1c621f2c2cc07bdb5d11", func := "breccia/breccialaw02.VecMoves", spec := "vecMoves", unfollowed := true, recurses := true, apart := false, narrowed := true }
def VecMovesUptoSaid : Prop := vecMovesUptoRow.holds Try.pinned (OpenSpec.upto vecMovesSpec)

/-- 'breccialaw02.VecHulls', WHERE WHAT IT READS IS OF BULK AT MOST 1048576: true; the input reads as it did. -/
def vecHullsUptoRow : OpenClaim := { program := "ytghdjmckjfblmaa", sum := "82996cc72a598e892303f922490a29cfbf63464312fb1c621f2c2cc07bdb5d11", func := "breccia/breccialaw02.VecHulls", spec := "vecHulls", unfollowed := true, recurses := true, apart := false, narrowed := true }
def VecHullsUptoSaid : Prop := vecHullsUptoRow.holds Try.pinned (OpenSpec.upto vecHullsSpec)

/-- 'breccialaw02.VecBoxes', WHERE WHAT IT READS IS OF BULK AT MOST 1048576: true; the input reads as it did. -/
def vecBoxesUptoRow : OpenClaim := { program := "ytghdjmckjfblmaa", sum := "82996cc72a598e892303f922490a29cfbf63464312fb1c621f2c2cc07bdb5d11", func := "breccia/breccialaw02.VecBoxes", spec := "vecBoxes", unfollowed := true, recurses := true, apart := false, narrowed := true }
def VecBoxesUptoSaid : Prop := vecBoxesUptoRow.holds Try.pinned (OpenSpec.upto vecBoxesSpec)

/-- 'breccialaw02.VecStands', WHERE WHAT IT READS IS OF BULK AT MOST 1048576: true; the input reads as it did. -/
def vecStandsUptoRow : OpenClaim := { program := "ytghdjmckjfblmaa", sum := "82996cc72a598e892303f922490a29cfbf63464312fb1c621f2c2cc07bdb5d11", func := "breccia/breccialaw02.VecStands", spec := "vecStands", unfollowed := true, recurses := true, apart := false, narrowed := true }
def VecStandsUptoSaid : Prop := vecStandsUptoRow.holds Try.pinned (OpenSpec.upto vecStandsSpec)

/-- 'breccialaw02.VecBack', WHERE WHAT IT READS IS OF BULK AT MOST 1048576: true; the input reads as it did. -/
def vecBackUptoRow : OpenClaim := { program := "ytghdjmckjfblmaa", sum := "82996cc72a598e892303f922490a29cfbf63464312fb1c621f2c2cc07bdb5d11", func := "breccia/breccialaw02.VecBack", spec := "vecBack", unfollowed := true, recurses := true, apart := false, narrowed := true }
def VecBackUptoSaid : Prop := vecBackUptoRow.holds Try.pinned (OpenSpec.upto vecBackSpec)

/-- 'breccialaw02.VecSums', WHERE WHAT IT READS IS OF BULK AT MOST 1048576: true; the input reads as it did. -/
def vecSumsUptoRow : OpenClaim := { program := "ytghdjmckjfblmaa", sum := "82996cc72a598e892303f922490a29cfbf63464312fb1c621f2c2cc07bdb5d11", func := "breccia/breccialaw02.VecSums", spec := "vecSums", unfollowed := true, recurses := true, apart := false, narrowed := true }
def VecSumsUptoSaid : Prop := vecSumsUptoRow.holds Try.pinned (OpenSpec.upto vecSumsSpec)

end Rows
end Go.Proofs.Ytghdjmckjfblmaa
