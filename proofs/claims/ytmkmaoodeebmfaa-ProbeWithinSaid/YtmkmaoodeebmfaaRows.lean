/-
  No cell of these rows narrows 'for every input' (looked for: loops, veiled, ifaces, maps, wideKeys, modest, calm, conditions, laid).
  DERIVED. THE GIVEN ROWS OF THIS SEAT. 6 by the template 'for every input the law returns true; each argument reads behind the call as it read before'; 0 by the template 'total and deterministic' (their statements: YtmkmaoodeebmfaaTotals.lean).
  GIVEN WITH THE SEED: the statements are not yours to turn. If you find one false, say at which input.
  Laid BY PROGRAM, IN A SANDBOX (cutbox-rows.mjs): the forced cells as the released guide's own fill.sh prints them over the translation 6d1a7bdeffcef208… (all of the seat's roots in one cut). By AI agents, Wed Nov 11 2026. No macro, syntax, notation, axiom, sorry.
-/
import Derived.Test.YtmkmaoodeebmfaaChecked
import GoSem.Claim
import GoSem.ClaimJoined
import GoSem.ClaimMapViews
import Derived.JoinedTies
import Derived.KernelRfl
namespace Go.Proofs.Ytmkmaoodeebmfaa
/- THE CELL 'sum', in the pinned program and in every row, IS THE sha256 OF THE DUMP (.gsa) THAT YtmkmaoodeebmfaaProg.lean LOADS. Nothing in Lean hashes anything: it is a label: what it is worth is what the hold of that sum in a sandbox is worth. -/
noncomputable def Try.pinned : Pinned := { name := "ytmkmaoodeebmfaa", sum := "6d1a7bdeffcef208c7695bfe4da6428a313f184ea06358ded1b46d3e23224149", checked := Try.checked }
namespace Rows
def none {H : Type} : Left H := { results := [], args := [] }

/-- 'breccialaw14.ProbeMeets': WHATEVER THE INPUT: true; the input reads as it did. -/
def probeMeetsSpec : ChangeSpec := { name := "probeMeets", fn := fun _ => fun
  | [d1, d2, d3] => { results := [.lit (.bool true)], args := [d1, d2, d3] }
  | _ => none }
def probeMeetsRow : OpenClaim := { program := "ytmkmaoodeebmfaa", sum := "6d1a7bdeffcef208c7695bfe4da6428a313f184ea06358ded1b46d3e23224149", func := "breccia/breccialaw14.ProbeMeets", spec := "probeMeets", unfollowed := true, recurses := true, apart := false }
def ProbeMeetsSaid : Prop := probeMeetsRow.holds Try.pinned (OpenSpec.ofChange probeMeetsSpec)

/-- ITS FALSE NEIGHBOUR: 'it returns false'. Refute it at one input. -/
def probeMeetsWrong : ChangeSpec := { name := "probeMeets", fn := fun _ => fun
  | [d1, d2, d3] => { results := [.lit (.bool false)], args := [d1, d2, d3] }
  | _ => none }
def ProbeMeetsWrongFalsely : Prop := probeMeetsRow.holds Try.pinned (OpenSpec.ofChange probeMeetsWrong)

/-- 'breccialaw14.ProbeCells': WHATEVER THE INPUT: true; the input reads as it did. -/
def probeCellsSpec : ChangeSpec := { name := "probeCells", fn := fun _ => fun
  | [d1, d2] => { results := [.lit (.bool true)], args := [d1, d2] }
  | _ => none }
def probeCellsRow : OpenClaim := { program := "ytmkmaoodeebmfaa", sum := "6d1a7bdeffcef208c7695bfe4da6428a313f184ea06358ded1b46d3e23224149", func := "breccia/breccialaw14.ProbeCells", spec := "probeCells", unfollowed := true, recurses := true, apart := false }
def ProbeCellsSaid : Prop := probeCellsRow.holds Try.pinned (OpenSpec.ofChange probeCellsSpec)

/-- ITS FALSE NEIGHBOUR: 'it returns false'. Refute it at one input. -/
def probeCellsWrong : ChangeSpec := { name := "probeCells", fn := fun _ => fun
  | [d1, d2] => { results := [.lit (.bool false)], args := [d1, d2] }
  | _ => none }
def ProbeCellsWrongFalsely : Prop := probeCellsRow.holds Try.pinned (OpenSpec.ofChange probeCellsWrong)

/-- 'breccialaw14.ProbeWithin': WHATEVER THE INPUT: true; the input reads as it did. -/
def probeWithinSpec : ChangeSpec := { name := "probeWithin", fn := fun _ => fun
  | [d1, d2, d3] => { results := [.lit (.bool true)], args := [d1, d2, d3] }
  | _ => none }
def probeWithinRow : OpenClaim := { program := "ytmkmaoodeebmfaa", sum := "6d1a7bdeffcef208c7695bfe4da6428a313f184ea06358ded1b46d3e23224149", func := "breccia/breccialaw14.ProbeWithin", spec := "probeWithin", unfollowed := true, recurses := true, apart := false }
def ProbeWithinSaid : Prop := probeWithinRow.holds Try.pinned (OpenSpec.ofChange probeWithinSpec)

/-- ITS FALSE NEIGHBOUR: 'it returns false'. Refute it at one input. -/
def probeWithinWrong : ChangeSpec := { name := "probeWithin", fn := fun _ => fun
  | [d1, d2, d3] => { results := [.lit (.bool false)], args := [d1, d2, d3] }
  | _ => none }
def ProbeWithinWrongFalsely : Prop := probeWithinRow.holds Try.pinned (OpenSpec.ofChange probeWithinWrong)

/-- 'breccialaw14.ProbeFits': WHATEVER THE INPUT: true; the input reads as it did. -/
def probeFitsSpec : ChangeSpec := { name := "probeFits", fn := fun _ => fun
  | [d1, d2, d3] => { results := [.lit (.bool true)], args := [d1, d2, d3] }
  | _ => none }
def probeFitsRow : OpenClaim := { program := "ytmkmaoodeebmfaa", sum := "6d1a7bdeffcef208c7695bfe4da6428a313f184ea06358ded1b46d3e23224149", func := "breccia/breccialaw14.ProbeFits", spec := "probeFits", unfollowed := true, recurses := true, apart := false }
def ProbeFitsSaid : Prop := probeFitsRow.holds Try.pinned (OpenSpec.ofChange probeFitsSpec)

/-- ITS FALSE NEIGHBOUR: 'it returns false'. Refute it at one input. -/
def probeFitsWrong : ChangeSpec := { name := "probeFits", fn := fun _ => fun
  | [d1, d2, d3] => { results := [.lit (.bool false)], args := [d1, d2, d3] }
  | _ => none }
def ProbeFitsWrongFalsely : Prop := probeFitsRow.holds Try.pinned (OpenSpec.ofChange probeFitsWrong)

/-- 'breccialaw14.ProbeFinds': WHATEVER THE INPUT: true; the input reads as it did. -/
def probeFindsSpec : ChangeSpec := { name := "probeFinds", fn := fun _ => fun
  | [d1, d2, d3] => { results := [.lit (.bool true)], args := [d1, d2, d3] }
  | _ => none }
def probeFindsRow : OpenClaim := { program := "ytmkmaoodeebmfaa", sum := "6d1a7bdeffcef208c7695bfe4da6428a313f184ea06358ded1b46d3e23224149", func := "breccia/breccialaw14.ProbeFinds", spec := "probeFinds", unfollowed := true, recurses := true, apart := false }
def ProbeFindsSaid : Prop := probeFindsRow.holds Try.pinned (OpenSpec.ofChange probeFindsSpec)

/-- ITS FALSE NEIGHBOUR: 'it returns false'. Refute it at one input. -/
def probeFindsWrong : ChangeSpec := { name := "probeFinds", fn := fun _ => fun
  | [d1, d2, d3] => { results := [.lit (.bool false)], args := [d1, d2, d3] }
  | _ => none }
def ProbeFindsWrongFalsely : Prop := probeFindsRow.holds Try.pinned (OpenSpec.ofChange probeFindsWrong)

/-- 'breccialaw14.ProbeWhole': WHATEVER THE INPUT: true; the input reads as it did. -/
def probeWholeSpec : ChangeSpec := { name := "probeWhole", fn := fun _ => fun
  | [d1, d2] => { results := [.lit (.bool true)], args := [d1, d2] }
  | _ => none }
def probeWholeRow : OpenClaim := { program := "ytmkmaoodeebmfaa", sum := "6d1a7bdeffcef208c7695bfe4da6428a313f184ea06358ded1b46d3e23224149", func := "breccia/breccialaw14.ProbeWhole", spec := "probeWhole", unfollowed := true, recurses := true, apart := false }
def ProbeWholeSaid : Prop := probeWholeRow.holds Try.pinned (OpenSpec.ofChange probeWholeSpec)

/-- ITS FALSE NEIGHBOUR: 'it returns false'. Refute it at one input. -/
def probeWholeWrong : ChangeSpec := { name := "probeWhole", fn := fun _ => fun
  | [d1, d2] => { results := [.lit (.bool false)], args := [d1, d2] }
  | _ => none }
def ProbeWholeWrongFalsely : Prop := probeWholeRow.holds Try.pinned (OpenSpec.ofChange probeWholeWrong)

/- THE SECOND FORM. 'bulk': how many values and letters a reading holds, each counted each time it is reached (what is shared counts as often as it is met; a slice's spare places count too). A statement '..UptoSaid' is the law's where the arguments, and the package variables that the reading takes, are together of bulk at most 1048576: NARROWER than '..Said'. Prove '..Said' where nothing that the law and all that it calls make is longer than what came in: it says more and counts as full. Else prove '..UptoSaid'. A law counts once. -/
mutual
def uptoBulk {H : Type} : DataW H → Nat
  | .lit (.string bytes) => bytes.length + 1
  | .lit _ => 1
  | .nil => 1
  | .ptr d => uptoBulk d + 1
  | .slice elems spare => uptoBulkAll elems + uptoBulkAll spare + 1
  | .agg parts => uptoBulkAll parts + 1
  | .iface _ d => uptoBulk d + 1
  | .map entries => uptoBulkEntries entries + 1
  | .held _ => 1
def uptoBulkAll {H : Type} : List (DataW H) → Nat
  | [] => 0
  | d :: r => uptoBulk d + uptoBulkAll r
def uptoBulkEntries {H : Type} : List (Lit × DataW H) → Nat
  | [] => 0
  | x :: r => uptoBulkEntry x + uptoBulkEntries r
def uptoBulkEntry {H : Type} : Lit × DataW H → Nat
  | (.string bytes, d) => bytes.length + uptoBulk d + 1
  | (_, d) => uptoBulk d + 1
 end
def uptoSmall : (H : Type) → List (DataW H) → Bool := fun _ ds => decide (uptoBulkAll ds ≤ 1048576)
def OpenSpec.upto (s : _root_.Go.ChangeSpec) : _root_.Go.OpenSpec := { _root_.Go.OpenSpec.ofChange s with cond := some uptoSmall }

/-- 'breccialaw14.ProbeMeets', WHERE WHAT IT READS IS OF BULK AT MOST 1048576: true; the input reads as it did. -/
def probeMeetsUptoRow : OpenClaim := { program := "ytmkmaoodeebmfaa", sum := "6d1a7bdeffcef208c7695bfe4da6428a313f184ea06358ded1b46d3e23224149", func := "breccia/breccialaw14.ProbeMeets", spec := "probeMeets", unfollowed := true, recurses := true, apart := false, narrowed := true }
def ProbeMeetsUptoSaid : Prop := probeMeetsUptoRow.holds Try.pinned (OpenSpec.upto probeMeetsSpec)

/-- 'breccialaw14.ProbeCells', WHERE WHAT IT READS IS OF BULK AT MOST 1048576: true; the input reads as it did. -/
def probeCellsUptoRow : OpenClaim := { program := "ytmkmaoodeebmfaa", sum := "6d1a7bdeffcef208c7695bfe4da6428a313f184ea06358ded1b46d3e23224149", func := "breccia/breccialaw14.ProbeCells", spec := "probeCells", unfollowed := true, recurses := true, apart := false, narrowed := true }
def ProbeCellsUptoSaid : Prop := probeCellsUptoRow.holds Try.pinned (OpenSpec.upto probeCellsSpec)

/-- 'breccialaw14.ProbeWithin', WHERE WHAT IT READS IS OF BULK AT MOST 1048576: true; the input reads as it did. -/
def probeWithinUptoRow : OpenClaim := { program := "ytmkmaoodeebmfaa", sum := "6d1a7bdeffcef208c7695bfe4da6428a313f184ea06358ded1b46d3e23224149", func := "breccia/breccialaw14.ProbeWithin", spec := "probeWithin", unfollowed := true, recurses := true, apart := false, narrowed := true }
def ProbeWithinUptoSaid : Prop := probeWithinUptoRow.holds Try.pinned (OpenSpec.upto probeWithinSpec)

/-- 'breccialaw14.ProbeFits', WHERE WHAT IT READS IS OF BULK AT MOST 1048576: true; the input reads as it did. -/
def probeFitsUptoRow : OpenClaim := { program := "ytmkmaoodeebmfaa", sum := "6d1a7bdeffcef208c7695bfe4da6428a313f184ea06358ded1b46d3e23224149", func := "breccia/breccialaw14.ProbeFits", spec := "probeFits", unfollowed := true, recurses := true, apart := false, narrowed := true }
def ProbeFitsUptoSaid : Prop := probeFitsUptoRow.holds Try.pinned (OpenSpec.upto probeFitsSpec)

/-- 'breccialaw14.ProbeFinds', WHERE WHAT IT READS IS OF BULK AT MOST 1048576: true; the input reads as it did. -/
def probeFindsUptoRow : OpenClaim := { program := "ytmkmaoodeebmfaa", sum := "6d1a7bdeffcef208c7695bfe4da6428a313f184ea06358ded1b46d3e23224149", func := "breccia/breccialaw14.ProbeFinds", spec := "probeFinds", unfollowed := true, recurses := true, apart := false, narrowed := true }
def ProbeFindsUptoSaid : Prop := probeFindsUptoRow.holds Try.pinned (OpenSpec.upto probeFindsSpec)

/-- 'breccialaw14.ProbeWhole', WHERE WHAT IT READS IS OF BULK AT MOST 1048576: true; the input reads as it did. -/
def probeWholeUptoRow : OpenClaim := { program := "ytmkmaoodeebmfaa", sum := "6d1a7bdeffcef208c7695bfe4da6428a313f184ea06358ded1b46d3e23224149", func := "breccia/breccialaw14.ProbeWhole", spec := "probeWhole", unfollowed := true, recurses := true, apart := false, narrowed := true }
def ProbeWholeUptoSaid : Prop := probeWholeUptoRow.holds Try.pinned (OpenSpec.upto probeWholeSpec)

end Rows
end Go.Proofs.Ytmkmaoodeebmfaa
