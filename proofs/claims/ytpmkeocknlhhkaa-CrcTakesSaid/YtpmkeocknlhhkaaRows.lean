/-
  No cell of these rows narrows 'for every input' (looked for: loops, veiled, ifaces, maps, wideKeys, modest, calm, conditions, laid).
  DERIVED. THE GIVEN ROWS OF THIS SEAT. 5 by the template 'for every input the law returns true; each argument reads behind the call as it read before'; 0 by the template 'total and deterministic' (their statements: YtpmkeocknlhhkaaTotals.lean).
  GIVEN WITH THE SEED: the statements are not yours to turn. If you find one false, say at which input.
  Laid BY PROGRAM, IN A SANDBOX (cutbox-rows.mjs): the forced cells as the released guide's own fill.sh prints them over the translation a75c89dd803316ac… (all of the seat's roots in one cut). By AI agents, Wed Nov 11 2026. No macro, syntax, notation, axiom, sorry.
-/
import Derived.Test.YtpmkeocknlhhkaaChecked
import GoSem.Claim
import GoSem.ClaimJoined
import GoSem.ClaimMapViews
import Derived.JoinedTies
import Derived.KernelRfl
namespace Go.Proofs.Ytpmkeocknlhhkaa
/- THE CELL 'sum', in the pinned program and in every row, IS THE sha256 OF THE DUMP (.gsa) THAT YtpmkeocknlhhkaaProg.lean LOADS. Nothing in Lean hashes anything: it is a label: what it is worth is what the hold of that sum in a sandbox is worth. -/
noncomputable def Try.pinned : Pinned := { name := "ytpmkeocknlhhkaa", sum := "a75c89dd803316ac039dcd732c7f39d73fac8615d274f8a31b938c57276cd911", checked := Try.checked }
namespace Rows
def none {H : Type} : Left H := { results := [], args := [] }

/-- 'breccialaw07.CrcOne': WHATEVER THE INPUT: true; the input reads as it did. -/
def crcOneSpec : ChangeSpec := { name := "crcOne", fn := fun _ => fun
  | [d1, d2, d3, d4] => { results := [.lit (.bool true)], args := [d1, d2, d3, d4] }
  | _ => none }
def crcOneRow : OpenClaim := { program := "ytpmkeocknlhhkaa", sum := "a75c89dd803316ac039dcd732c7f39d73fac8615d274f8a31b938c57276cd911", func := "breccia/breccialaw07.CrcOne", spec := "crcOne", unfollowed := true, recurses := true, apart := false }
def CrcOneSaid : Prop := crcOneRow.holds Try.pinned (OpenSpec.ofChange crcOneSpec)

/-- ITS FALSE NEIGHBOUR: 'it returns false'. Refute it at one input. -/
def crcOneWrong : ChangeSpec := { name := "crcOne", fn := fun _ => fun
  | [d1, d2, d3, d4] => { results := [.lit (.bool false)], args := [d1, d2, d3, d4] }
  | _ => none }
def CrcOneWrongFalsely : Prop := crcOneRow.holds Try.pinned (OpenSpec.ofChange crcOneWrong)

/-- 'breccialaw07.CrcChecks': WHATEVER THE INPUT: true; the input reads as it did. -/
def crcChecksSpec : ChangeSpec := { name := "crcChecks", fn := fun _ => fun
  | [d1, d2] => { results := [.lit (.bool true)], args := [d1, d2] }
  | _ => none }
def crcChecksRow : OpenClaim := { program := "ytpmkeocknlhhkaa", sum := "a75c89dd803316ac039dcd732c7f39d73fac8615d274f8a31b938c57276cd911", func := "breccia/breccialaw07.CrcChecks", spec := "crcChecks", unfollowed := true, recurses := true, apart := false }
def CrcChecksSaid : Prop := crcChecksRow.holds Try.pinned (OpenSpec.ofChange crcChecksSpec)

/-- ITS FALSE NEIGHBOUR: 'it returns false'. Refute it at one input. -/
def crcChecksWrong : ChangeSpec := { name := "crcChecks", fn := fun _ => fun
  | [d1, d2] => { results := [.lit (.bool false)], args := [d1, d2] }
  | _ => none }
def CrcChecksWrongFalsely : Prop := crcChecksRow.holds Try.pinned (OpenSpec.ofChange crcChecksWrong)

/-- 'breccialaw07.CrcTakes': WHATEVER THE INPUT: true; the input reads as it did. -/
def crcTakesSpec : ChangeSpec := { name := "crcTakes", fn := fun _ => fun
  | [d1, d2, d3] => { results := [.lit (.bool true)], args := [d1, d2, d3] }
  | _ => none }
def crcTakesRow : OpenClaim := { program := "ytpmkeocknlhhkaa", sum := "a75c89dd803316ac039dcd732c7f39d73fac8615d274f8a31b938c57276cd911", func := "breccia/breccialaw07.CrcTakes", spec := "crcTakes", unfollowed := true, recurses := true, apart := false }
def CrcTakesSaid : Prop := crcTakesRow.holds Try.pinned (OpenSpec.ofChange crcTakesSpec)

/-- ITS FALSE NEIGHBOUR: 'it returns false'. Refute it at one input. -/
def crcTakesWrong : ChangeSpec := { name := "crcTakes", fn := fun _ => fun
  | [d1, d2, d3] => { results := [.lit (.bool false)], args := [d1, d2, d3] }
  | _ => none }
def CrcTakesWrongFalsely : Prop := crcTakesRow.holds Try.pinned (OpenSpec.ofChange crcTakesWrong)

/-- 'breccialaw07.CrcBursts': WHATEVER THE INPUT: true; the input reads as it did. -/
def crcBurstsSpec : ChangeSpec := { name := "crcBursts", fn := fun _ => fun
  | [d1, d2, d3] => { results := [.lit (.bool true)], args := [d1, d2, d3] }
  | _ => none }
def crcBurstsRow : OpenClaim := { program := "ytpmkeocknlhhkaa", sum := "a75c89dd803316ac039dcd732c7f39d73fac8615d274f8a31b938c57276cd911", func := "breccia/breccialaw07.CrcBursts", spec := "crcBursts", unfollowed := true, recurses := true, apart := false }
def CrcBurstsSaid : Prop := crcBurstsRow.holds Try.pinned (OpenSpec.ofChange crcBurstsSpec)

/-- ITS FALSE NEIGHBOUR: 'it returns false'. Refute it at one input. -/
def crcBurstsWrong : ChangeSpec := { name := "crcBursts", fn := fun _ => fun
  | [d1, d2, d3] => { results := [.lit (.bool false)], args := [d1, d2, d3] }
  | _ => none }
def CrcBurstsWrongFalsely : Prop := crcBurstsRow.holds Try.pinned (OpenSpec.ofChange crcBurstsWrong)

/-- 'breccialaw07.CrcZero': WHATEVER THE INPUT: true; the input reads as it did. -/
def crcZeroSpec : ChangeSpec := { name := "crcZero", fn := fun _ => fun
  | [d] => { results := [.lit (.bool true)], args := [d] }
  | _ => none }
def crcZeroRow : OpenClaim := { program := "ytpmkeocknlhhkaa", sum := "a75c89dd803316ac039dcd732c7f39d73fac8615d274f8a31b938c57276cd911", func := "breccia/breccialaw07.CrcZero", spec := "crcZero", unfollowed := true, recurses := true, apart := false }
def CrcZeroSaid : Prop := crcZeroRow.holds Try.pinned (OpenSpec.ofChange crcZeroSpec)

/-- ITS FALSE NEIGHBOUR: 'it returns false'. Refute it at one input. -/
def crcZeroWrong : ChangeSpec := { name := "crcZero", fn := fun _ => fun
  | [d] => { results := [.lit (.bool false)], args := [d] }
  | _ => none }
def CrcZeroWrongFalsely : Prop := crcZeroRow.holds Try.pinned (OpenSpec.ofChange crcZeroWrong)

/- THE SECOND FORM. 'bulk': how many values and letters a reading holds, each counted each time it is reached (what is shared counts as often as it is met; a slice's spare places count too). A statement '..UptoSaid' is the law's where the arguments, and the package variables that the reading takes, are together of bulk at most 1048576: NARROWER than '..Said'. Prove '..Said' where nothing that the law and all that it calls make is longer than what came in: it says more and counts as full. Else prove '..UptoSaid'. A law counts once. -/
mutual
def uptoBulk {H : Type} : DataW H → Nat
  | .lit (.string bytes) => bytes.length + 1
  | .lit _ => 1
  | .nil => 1
  | .ptr d => uptoBulk d + 1
  | .slice elems spare => uptoBulkAll elems + uptoBulkAll spare + 1
  | .agg parts => uptoBulkAll parts + 1
  | .iface _ d => uptoBulk d + 1
  | .map entries => uptoBulkEntries entries + 1
  | .held _ => 1
def uptoBulkAll {H : Type} : List (DataW H) → Nat
  | [] => 0
  | d :: r => uptoBulk d + uptoBulkAll r
def uptoBulkEntries {H : Type} : List (Lit × DataW H) → Nat
  | [] => 0
  | x :: r => uptoBulkEntry x + uptoBulkEntries r
def uptoBulkEntry {H : Type} : Lit × DataW H → Nat
  | (.string bytes, d) => bytes.length + uptoBulk d + 1
  | (_, d) => uptoBulk d + 1
 end
def uptoSmall : (H : Type) → List (DataW H) → Bool := fun _ ds => decide (uptoBulkAll ds ≤ 1048576)
def OpenSpec.upto (s : _root_.Go.ChangeSpec) : _root_.Go.OpenSpec := { _root_.Go.OpenSpec.ofChange s with cond := some uptoSmall }

/-- 'breccialaw07.CrcOne', WHERE WHAT IT READS IS OF BULK AT MOST 1048576: true; the input reads as it did. -/
def crcOneUptoRow : OpenClaim := { program := "ytpmkeocknlhhkaa", sum := "a75c89dd803316ac039dcd732c7f39d73fac8615d274f8a31b938c57276cd911", func := "breccia/breccialaw07.CrcOne", spec := "crcOne", unfollowed := true, recurses := true, apart := false, narrowed := true }
def CrcOneUptoSaid : Prop := crcOneUptoRow.holds Try.pinned (OpenSpec.upto crcOneSpec)

/-- 'breccialaw07.CrcChecks', WHERE WHAT IT READS IS OF BULK AT MOST 1048576: true; the input reads as it did. -/
def crcChecksUptoRow : OpenClaim := { program := "ytpmkeocknlhhkaa", sum := "a75c89dd803316ac039dcd732c7f39d73fac8615d274f8a31b938c57276cd911", func := "breccia/breccialaw07.CrcChecks", spec := "crcChecks", unfollowed := true, recurses := true, apart := false, narrowed := true }
def CrcChecksUptoSaid : Prop := crcChecksUptoRow.holds Try.pinned (OpenSpec.upto crcChecksSpec)

/-- 'breccialaw07.CrcTakes', WHERE WHAT IT READS IS OF BULK AT MOST 1048576: true; the input reads as it did. -/
def crcTakesUptoRow : OpenClaim := { program := "ytpmkeocknlhhkaa", sum := "a75c89dd803316ac039dcd732c7f39d73fac8615d274f8a31b938c57276cd911", func := "breccia/breccialaw07.CrcTakes", spec := "crcTakes", unfollowed := true, recurses := true, apart := false, narrowed := true }
def CrcTakesUptoSaid : Prop := crcTakesUptoRow.holds Try.pinned (OpenSpec.upto crcTakesSpec)

/-- 'breccialaw07.CrcBursts', WHERE WHAT IT READS IS OF BULK AT MOST 1048576: true; the input reads as it did. -/
def crcBurstsUptoRow : OpenClaim := { program := "ytpmkeocknlhhkaa", sum := "a75c89dd803316ac039dcd732c7f39d73fac8615d274f8a31b938c57276cd911", func := "breccia/breccialaw07.CrcBursts", spec := "crcBursts", unfollowed := true, recurses := true, apart := false, narrowed := true }
def CrcBurstsUptoSaid : Prop := crcBurstsUptoRow.holds Try.pinned (OpenSpec.upto crcBurstsSpec)

/-- 'breccialaw07.CrcZero', WHERE WHAT IT READS IS OF BULK AT MOST 1048576: true; the input reads as it did. -/
def crcZeroUptoRow : OpenClaim := { program := "ytpmkeocknlhhkaa", sum := "a75c89dd803316ac039dcd732c7f39d73fac8615d274f8a31b938c57276cd911", func := "breccia/breccialaw07.CrcZero", spec := "crcZero", unfollowed := true, recurses := true, apart := false, narrowed := true }
def CrcZeroUptoSaid : Prop := crcZeroUptoRow.holds Try.pinned (OpenSpec.upto crcZeroSpec)

end Rows
end Go.Proofs.Ytpmkeocknlhhkaa
