/-
  No cell of these rows narrows 'for every input' (looked for: loops, veiled, ifaces, maps, wideKeys, modest, calm, conditions, laid).
  DERIVED. THE GIVEN ROWS OF THIS SEAT. 6 by the template 'for every input the law returns true; each argument reads behind the call as it read before'; 0 by the template 'total and deterministic' (their statements: YtkopenemoddbbaaTotals.lean).
  GIVEN WITH THE SEED: the statements are not yours to turn. If you find one false, say at which input.
  Laid BY PROGRAM, IN A SANDBOX (cutbox-rows.mjs): the forced cells as the released guide's own fill.sh prints them over the translation 4edf64ab884003c4… (all of the seat's roots in one cut). By AI agents, Wed Nov 11 2026. No macro, syntax, notation, axiom, sorry.
-/
import Derived.Test.YtkopenemoddbbaaChecked
import GoSem.Claim
import GoSem.ClaimJoined
import GoSem.ClaimMapViews
import Derived.JoinedTies
import Derived.KernelRfl
namespace Go.Proofs.Ytkopenemoddbbaa
/- THE CELL 'sum', in the pinned program and in every row, IS THE sha256 OF THE DUMP (.gsa) THAT YtkopenemoddbbaaProg.lean LOADS. Nothing in Lean hashes anything: it is a label: what it is worth is what the hold of that sum in a sandbox is worth. -/
noncomputable def Try.pinned : Pinned := { name := "ytkopenemoddbbaa", sum := "4edf64ab884003c40c56fd79cb629044d76e9233d9d836a4724f84b4a968b4b3", checked := Try.checked }
namespace Rows
def none {H : Type} : Left H := { results := [], args := [] }

/-- 'breccialaw09.StoreRecords': WHATEVER THE INPUT: true; the input reads as it did. -/
def storeRecordsSpec : ChangeSpec := { name := "storeRecords", fn := fun _ => fun
  | [d1, d2, d3, d4, d5] => { results := [.lit (.bool true)], args := [d1, d2, d3, d4, d5] }
  | _ => none }
def storeRecordsRow : OpenClaim := { program := "ytkopenemoddbbaa", sum := "4edf64ab884003c40c56fd79cb629044d76e9233d9d836a4724f84b4a968b4b3", func := "breccia/breccialaw09.StoreRecords", spec := "storeRecords", inPlace := ["maps.clone"], unfollowed := true, recurses := true, apart := false }
def StoreRecordsSaid : Prop := storeRecordsRow.holds Try.pinned (OpenSpec.ofChange storeRecordsSpec)

/-- ITS FALSE NEIGHBOUR: 'it returns false'. Refute it at one input. -/
def storeRecordsWrong : ChangeSpec := { name := "storeRecords", fn := fun _ => fun
  | [d1, d2, d3, d4, d5] => { results := [.lit (.bool false)], args := [d1, d2, d3, d4, d5] }
  | _ => none }
def StoreRecordsWrongFalsely : Prop := storeRecordsRow.holds Try.pinned (OpenSpec.ofChange storeRecordsWrong)

/-- 'breccialaw09.StoreVersions': WHATEVER THE INPUT: true; the input reads as it did. -/
def storeVersionsSpec : ChangeSpec := { name := "storeVersions", fn := fun _ => fun
  | [d1, d2] => { results := [.lit (.bool true)], args := [d1, d2] }
  | _ => none }
def storeVersionsRow : OpenClaim := { program := "ytkopenemoddbbaa", sum := "4edf64ab884003c40c56fd79cb629044d76e9233d9d836a4724f84b4a968b4b3", func := "breccia/breccialaw09.StoreVersions", spec := "storeVersions", inPlace := ["maps.clone"], unfollowed := true, recurses := true, apart := false }
def StoreVersionsSaid : Prop := storeVersionsRow.holds Try.pinned (OpenSpec.ofChange storeVersionsSpec)

/-- ITS FALSE NEIGHBOUR: 'it returns false'. Refute it at one input. -/
def storeVersionsWrong : ChangeSpec := { name := "storeVersions", fn := fun _ => fun
  | [d1, d2] => { results := [.lit (.bool false)], args := [d1, d2] }
  | _ => none }
def StoreVersionsWrongFalsely : Prop := storeVersionsRow.holds Try.pinned (OpenSpec.ofChange storeVersionsWrong)

/-- 'breccialaw09.StoreSpoils': WHATEVER THE INPUT: true; the input reads as it did. -/
def storeSpoilsSpec : ChangeSpec := { name := "storeSpoils", fn := fun _ => fun
  | [d1, d2, d3, d4] => { results := [.lit (.bool true)], args := [d1, d2, d3, d4] }
  | _ => none }
def storeSpoilsRow : OpenClaim := { program := "ytkopenemoddbbaa", sum := "4edf64ab884003c40c56fd79cb629044d76e9233d9d836a4724f84b4a968b4b3", func := "breccia/breccialaw09.StoreSpoils", spec := "storeSpoils", inPlace := ["maps.clone"], unfollowed := true, recurses := true, apart := false }
def StoreSpoilsSaid : Prop := storeSpoilsRow.holds Try.pinned (OpenSpec.ofChange storeSpoilsSpec)

/-- ITS FALSE NEIGHBOUR: 'it returns false'. Refute it at one input. -/
def storeSpoilsWrong : ChangeSpec := { name := "storeSpoils", fn := fun _ => fun
  | [d1, d2, d3, d4] => { results := [.lit (.bool false)], args := [d1, d2, d3, d4] }
  | _ => none }
def StoreSpoilsWrongFalsely : Prop := storeSpoilsRow.holds Try.pinned (OpenSpec.ofChange storeSpoilsWrong)

/-- 'breccialaw09.StoreApart': WHATEVER THE INPUT: true; the input reads as it did. -/
def storeApartSpec : ChangeSpec := { name := "storeApart", fn := fun _ => fun
  | [d1, d2, d3, d4, d5, d6] => { results := [.lit (.bool true)], args := [d1, d2, d3, d4, d5, d6] }
  | _ => none }
def storeApartRow : OpenClaim := { program := "ytkopenemoddbbaa", sum := "4edf64ab884003c40c56fd79cb629044d76e9233d9d836a4724f84b4a968b4b3", func := "breccia/breccialaw09.StoreApart", spec := "storeApart", inPlace := ["maps.clone"], unfollowed := true, recurses := true, apart := false }
def StoreApartSaid : Prop := storeApartRow.holds Try.pinned (OpenSpec.ofChange storeApartSpec)

/-- ITS FALSE NEIGHBOUR: 'it returns false'. Refute it at one input. -/
def storeApartWrong : ChangeSpec := { name := "storeApart", fn := fun _ => fun
  | [d1, d2, d3, d4, d5, d6] => { results := [.lit (.bool false)], args := [d1, d2, d3, d4, d5, d6] }
  | _ => none }
def StoreApartWrongFalsely : Prop := storeApartRow.holds Try.pinned (OpenSpec.ofChange storeApartWrong)

/-- 'breccialaw09.StoreCrashes': WHATEVER THE INPUT: true; the input reads as it did. -/
def storeCrashesSpec : ChangeSpec := { name := "storeCrashes", fn := fun _ => fun
  | [d] => { results := [.lit (.bool true)], args := [d] }
  | _ => none }
def storeCrashesRow : OpenClaim := { program := "ytkopenemoddbbaa", sum := "4edf64ab884003c40c56fd79cb629044d76e9233d9d836a4724f84b4a968b4b3", func := "breccia/breccialaw09.StoreCrashes", spec := "storeCrashes", inPlace := ["maps.clone"], unfollowed := true, recurses := true, apart := false }
def StoreCrashesSaid : Prop := storeCrashesRow.holds Try.pinned (OpenSpec.ofChange storeCrashesSpec)

/-- ITS FALSE NEIGHBOUR: 'it returns false'. Refute it at one input. -/
def storeCrashesWrong : ChangeSpec := { name := "storeCrashes", fn := fun _ => fun
  | [d] => { results := [.lit (.bool false)], args := [d] }
  | _ => none }
def StoreCrashesWrongFalsely : Prop := storeCrashesRow.holds Try.pinned (OpenSpec.ofChange storeCrashesWrong)

/-- 'breccialaw09.StorePlays': WHATEVER THE INPUT: true; the input reads as it did. -/
def storePlaysSpec : ChangeSpec := { name := "storePlays", fn := fun _ => fun
  | [d1, d2] => { results := [.lit (.bool true)], args := [d1, d2] }
  | _ => none }
def storePlaysRow : OpenClaim := { program := "ytkopenemoddbbaa", sum := "4edf64ab884003c40c56fd79cb629044d76e9233d9d836a4724f84b4a968b4b3", func := "breccia/breccialaw09.StorePlays", spec := "storePlays", inPlace := ["maps.clone"], unfollowed := true, recurses := true, apart := false }
def StorePlaysSaid : Prop := storePlaysRow.holds Try.pinned (OpenSpec.ofChange storePlaysSpec)

/-- ITS FALSE NEIGHBOUR: 'it returns false'. Refute it at one input. -/
def storePlaysWrong : ChangeSpec := { name := "storePlays", fn := fun _ => fun
  | [d1, d2] => { results := [.lit (.bool false)], args := [d1, d2] }
  | _ => none }
def StorePlaysWrongFalsely : Prop := storePlaysRow.holds Try.pinned (OpenSpec.ofChange storePlaysWrong)

/- THE SECOND FORM. 'bulk': how many values and letters a reading holds, each counted each time it is reached (what is shared counts as often as it is met; a slice's spare places count too). A statement '..UptoSaid' is the law's where the arguments, and the package variables that the reading takes, are together of bulk at most 1048576: NARROWER than '..Said'. Prove '..Said' where nothing that the law and all that it calls make is longer than what came in: it says more and counts as full. Else prove '..UptoSaid'. A law counts once. -/
mutual
def uptoBulk {H : Type} : DataW H → Nat
  | .lit (.string bytes) => bytes.length + 1
  | .lit _ => 1
  | .nil => 1
  | .ptr d => uptoBulk d + 1
  | .slice elems spare => uptoBulkAll elems + uptoBulkAll spare + 1
  | .agg parts => uptoBulkAll parts + 1
  | .iface _ d => uptoBulk d + 1
  | .map entries => uptoBulkEntries entries + 1
  | .held _ => 1
def uptoBulkAll {H : Type} : List (DataW H) → Nat
  | [] => 0
  | d :: r => uptoBulk d + uptoBulkAll r
def uptoBulkEntries {H : Type} : List (Lit × DataW H) → Nat
  | [] => 0
  | x :: r => uptoBulkEntry x + uptoBulkEntries r
def uptoBulkEntry {H : Type} : Lit × DataW H → Nat
  | (.string bytes, d) => bytes.length + uptoBulk d + 1
  | (_, d) => uptoBulk d + 1
 end
def uptoSmall : (H : Type) → List (DataW H) → Bool := fun _ ds => decide (uptoBulkAll ds ≤ 1048576)
def OpenSpec.upto (s : _root_.Go.ChangeSpec) : _root_.Go.OpenSpec := { _root_.Go.OpenSpec.ofChange s with cond := some uptoSmall }

/-- 'breccialaw09.StoreRecords', WHERE WHAT IT READS IS OF BULK AT MOST 1048576: true; the input reads as it did. -/
def storeRecordsUptoRow : OpenClaim := { program := "ytkopenemoddbbaa", sum := "4edf64ab884003c40c56fd79cb629044d76e9233d9d836a4724f84b4a968b4b3", func := "breccia/breccialaw09.StoreRecords", spec := "storeRecords", inPlace := ["maps.clone"], unfollowed := true, recurses := true, apart := false, narrowed := true }
def StoreRecordsUptoSaid : Prop := storeRecordsUptoRow.holds Try.pinned (OpenSpec.upto storeRecordsSpec)

/-- 'breccialaw09.StoreVersions', WHERE WHAT IT READS IS OF BULK AT MOST 1048576: true; the input reads as it did. -/
def storeVersionsUptoRow : OpenClaim := { program := "ytkopenemoddbbaa", sum := "4edf64ab884003c40c56fd79cb629044d76e9233d9d836a4724f84b4a968b4b3", func := "breccia/breccialaw09.StoreVersions", spec := "storeVersions", inPlace := ["maps.clone"], unfollowed := true, recurses := true, apart := false, narrowed := true }
def StoreVersionsUptoSaid : Prop := storeVersionsUptoRow.holds Try.pinned (OpenSpec.upto storeVersionsSpec)

/-- 'breccialaw09.StoreSpoils', WHERE WHAT IT READS IS OF BULK AT MOST 1048576: true; the input reads as it did. -/
def storeSpoilsUptoRow : OpenClaim := { program := "ytkopenemoddbbaa", sum := "4edf64ab884003c40c56fd79cb629044d76e9233d9d836a4724f84b4a968b4b3", func := "breccia/breccialaw09.StoreSpoils", spec := "storeSpoils", inPlace := ["maps.clone"], unfollowed := true, recurses := true, apart := false, narrowed := true }
def StoreSpoilsUptoSaid : Prop := storeSpoilsUptoRow.holds Try.pinned (OpenSpec.upto storeSpoilsSpec)

/-- 'breccialaw09.StoreApart', WHERE WHAT IT READS IS OF BULK AT MOST 1048576: true; the input reads as it did. -/
def storeApartUptoRow : OpenClaim := { program := "ytkopenemoddbbaa", sum := "4edf64ab884003c40c56fd79cb629044d76e9233d9d836a4724f84b4a968b4b3", func := "breccia/breccialaw09.StoreApart", spec := "storeApart", inPlace := ["maps.clone"], unfollowed := true, recurses := true, apart := false, narrowed := true }
def StoreApartUptoSaid : Prop := storeApartUptoRow.holds Try.pinned (OpenSpec.upto storeApartSpec)

/-- 'breccialaw09.StoreCrashes', WHERE WHAT IT READS IS OF BULK AT MOST 1048576: true; the input reads as it did. -/
def storeCrashesUptoRow : OpenClaim := { program := "ytkopenemoddbbaa", sum := "4edf64ab884003c40c56fd79cb629044d76e9233d9d836a4724f84b4a968b4b3", func := "breccia/breccialaw09.StoreCrashes", spec := "storeCrashes", inPlace := ["maps.clone"], unfollowed := true, recurses := true, apart := false, narrowed := true }
def StoreCrashesUptoSaid : Prop := storeCrashesUptoRow.holds Try.pinned (OpenSpec.upto storeCrashesSpec)

/-- 'breccialaw09.StorePlays', WHERE WHAT IT READS IS OF BULK AT MOST 1048576: true; the input reads as it did. -/
def storePlaysUptoRow : OpenClaim := { program := "ytkopenemoddbbaa", sum := "4edf64ab884003c40c56fd79cb629044d76e9233d9d836a4724f84b4a968b4b3", func := "breccia/breccialaw09.StorePlays", spec := "storePlays", inPlace := ["maps.clone"], unfollowed := true, recurses := true, apart := false, narrowed := true }
def StorePlaysUptoSaid : Prop := storePlaysUptoRow.holds Try.pinned (OpenSpec.upto storePlaysSpec)

end Rows
end Go.Proofs.Ytkopenemoddbbaa
