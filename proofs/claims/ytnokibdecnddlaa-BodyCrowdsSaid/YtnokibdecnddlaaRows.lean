/-
  No cell of these rows narrows 'for every input' (looked for: loops, veiled, ifaces, maps, wideKeys, modest, calm, conditions, laid).
  DERIVED. THE GIVEN ROWS OF THIS SEAT. 8 by the template 'for every input the law returns true; each argument reads behind the call as it read before'; 0 by the template 'total and deterministic' (their statements: YtnokibdecnddlaaTotals.lean).
  GIVEN WITH THE SEED: the statements are not yours to turn. If you find one false, say at which input.
  Laid BY PROGRAM, IN A SANDBOX (cutbox-rows.mjs): the forced cells as the released guide's own fill.sh prints them over the translation 7f8467ea7e5ca3c6… (all of the seat's roots in one cut). By AI agents, Wed Nov 11 2026. No macro, syntax, notation, axiom, sorry.
-/
import Derived.Test.YtnokibdecnddlaaChecked
import GoSem.Claim
import GoSem.ClaimJoined
import GoSem.ClaimMapViews
import Derived.JoinedTies
import Derived.KernelRfl
namespace Go.Proofs.Ytnokibdecnddlaa
/- THE CELL 'sum', in the pinned program and in every row, IS THE sha256 OF THE DUMP (.gsa) THAT YtnokibdecnddlaaProg.lean LOADS. Nothing in Lean hashes anything: it is a label: what it is worth is what the hold of that sum in a sandbox is worth. -/
noncomputable def Try.pinned : Pinned := { name := "ytnokibdecnddlaa", sum := "7f8467ea7e5ca3c65dd686ea27c3ab7fff246c38b8b6b18a812aa6be2cf49b98", checked := Try.checked }
namespace Rows
def none {H : Type} : Left H := { results := [], args := [] }

/-- 'breccialaw20.BodySteps': WHATEVER THE INPUT: true; the input reads as it did. -/
def bodyStepsSpec : ChangeSpec := { name := "bodySteps", fn := fun _ => fun
  | [d1, d2, d3] => { results := [.lit (.bool true)], args := [d1, d2, d3] }
  | _ => none }
def bodyStepsRow : OpenClaim := { program := "ytnokibdecnddlaa", sum := "7f8467ea7e5ca3c65dd686ea27c3ab7fff246c38b8b6b18a812aa6be2cf49b98", func := "breccia/breccialaw20.BodySteps", spec := "bodySteps", unfollowed := true, recurses := true, apart := false }
def BodyStepsSaid : Prop := bodyStepsRow.holds Try.pinned (OpenSpec.ofChange bodyStepsSpec)

/-- ITS FALSE NEIGHBOUR: 'it returns false'. Refute it at one input. -/
def bodyStepsWrong : ChangeSpec := { name := "bodySteps", fn := fun _ => fun
  | [d1, d2, d3] => { results := [.lit (.bool false)], args := [d1, d2, d3] }
  | _ => none }
def BodyStepsWrongFalsely : Prop := bodyStepsRow.holds Try.pinned (OpenSpec.ofChange bodyStepsWrong)

/-- 'breccialaw20.BodyRests': WHATEVER THE INPUT: true; the input reads as it did. -/
def bodyRestsSpec : ChangeSpec := { name := "bodyRests", fn := fun _ => fun
  | [d1, d2] => { results := [.lit (.bool true)], args := [d1, d2] }
  | _ => none }
def bodyRestsRow : OpenClaim := { program := "ytnokibdecnddlaa", sum := "7f8467ea7e5ca3c65dd686ea27c3ab7fff246c38b8b6b18a812aa6be2cf49b98", func := "breccia/breccialaw20.BodyRests", spec := "bodyRests", unfollowed := true, recurses := true, apart := false }
def BodyRestsSaid : Prop := bodyRestsRow.holds Try.pinned (OpenSpec.ofChange bodyRestsSpec)

/-- ITS FALSE NEIGHBOUR: 'it returns false'. Refute it at one input. -/
def bodyRestsWrong : ChangeSpec := { name := "bodyRests", fn := fun _ => fun
  | [d1, d2] => { results := [.lit (.bool false)], args := [d1, d2] }
  | _ => none }
def BodyRestsWrongFalsely : Prop := bodyRestsRow.holds Try.pinned (OpenSpec.ofChange bodyRestsWrong)

/-- 'breccialaw20.BodyFalls': WHATEVER THE INPUT: true; the input reads as it did. -/
def bodyFallsSpec : ChangeSpec := { name := "bodyFalls", fn := fun _ => fun
  | [d1, d2] => { results := [.lit (.bool true)], args := [d1, d2] }
  | _ => none }
def bodyFallsRow : OpenClaim := { program := "ytnokibdecnddlaa", sum := "7f8467ea7e5ca3c65dd686ea27c3ab7fff246c38b8b6b18a812aa6be2cf49b98", func := "breccia/breccialaw20.BodyFalls", spec := "bodyFalls", unfollowed := true, recurses := true, apart := false }
def BodyFallsSaid : Prop := bodyFallsRow.holds Try.pinned (OpenSpec.ofChange bodyFallsSpec)

/-- ITS FALSE NEIGHBOUR: 'it returns false'. Refute it at one input. -/
def bodyFallsWrong : ChangeSpec := { name := "bodyFalls", fn := fun _ => fun
  | [d1, d2] => { results := [.lit (.bool false)], args := [d1, d2] }
  | _ => none }
def BodyFallsWrongFalsely : Prop := bodyFallsRow.holds Try.pinned (OpenSpec.ofChange bodyFallsWrong)

/-- 'breccialaw20.BodyFree': WHATEVER THE INPUT: true; the input reads as it did. -/
def bodyFreeSpec : ChangeSpec := { name := "bodyFree", fn := fun _ => fun
  | [d1, d2, d3] => { results := [.lit (.bool true)], args := [d1, d2, d3] }
  | _ => none }
def bodyFreeRow : OpenClaim := { program := "ytnokibdecnddlaa", sum := "7f8467ea7e5ca3c65dd686ea27c3ab7fff246c38b8b6b18a812aa6be2cf49b98", func := "breccia/breccialaw20.BodyFree", spec := "bodyFree", unfollowed := true, recurses := true, apart := false }
def BodyFreeSaid : Prop := bodyFreeRow.holds Try.pinned (OpenSpec.ofChange bodyFreeSpec)

/-- ITS FALSE NEIGHBOUR: 'it returns false'. Refute it at one input. -/
def bodyFreeWrong : ChangeSpec := { name := "bodyFree", fn := fun _ => fun
  | [d1, d2, d3] => { results := [.lit (.bool false)], args := [d1, d2, d3] }
  | _ => none }
def BodyFreeWrongFalsely : Prop := bodyFreeRow.holds Try.pinned (OpenSpec.ofChange bodyFreeWrong)

/-- 'breccialaw20.BodyEdges': WHATEVER THE INPUT: true; the input reads as it did. -/
def bodyEdgesSpec : ChangeSpec := { name := "bodyEdges", fn := fun _ => fun
  | [d1, d2, d3] => { results := [.lit (.bool true)], args := [d1, d2, d3] }
  | _ => none }
def bodyEdgesRow : OpenClaim := { program := "ytnokibdecnddlaa", sum := "7f8467ea7e5ca3c65dd686ea27c3ab7fff246c38b8b6b18a812aa6be2cf49b98", func := "breccia/breccialaw20.BodyEdges", spec := "bodyEdges", unfollowed := true, recurses := true, apart := false }
def BodyEdgesSaid : Prop := bodyEdgesRow.holds Try.pinned (OpenSpec.ofChange bodyEdgesSpec)

/-- ITS FALSE NEIGHBOUR: 'it returns false'. Refute it at one input. -/
def bodyEdgesWrong : ChangeSpec := { name := "bodyEdges", fn := fun _ => fun
  | [d1, d2, d3] => { results := [.lit (.bool false)], args := [d1, d2, d3] }
  | _ => none }
def BodyEdgesWrongFalsely : Prop := bodyEdgesRow.holds Try.pinned (OpenSpec.ofChange bodyEdgesWrong)

/-- 'breccialaw20.BodyMay': WHATEVER THE INPUT: true; the input reads as it did. -/
def bodyMaySpec : ChangeSpec := { name := "bodyMay", fn := fun _ => fun
  | [d] => { results := [.lit (.bool true)], args := [d] }
  | _ => none }
def bodyMayRow : OpenClaim := { program := "ytnokibdecnddlaa", sum := "7f8467ea7e5ca3c65dd686ea27c3ab7fff246c38b8b6b18a812aa6be2cf49b98", func := "breccia/breccialaw20.BodyMay", spec := "bodyMay", unfollowed := true, recurses := true, apart := false }
def BodyMaySaid : Prop := bodyMayRow.holds Try.pinned (OpenSpec.ofChange bodyMaySpec)

/-- ITS FALSE NEIGHBOUR: 'it returns false'. Refute it at one input. -/
def bodyMayWrong : ChangeSpec := { name := "bodyMay", fn := fun _ => fun
  | [d] => { results := [.lit (.bool false)], args := [d] }
  | _ => none }
def BodyMayWrongFalsely : Prop := bodyMayRow.holds Try.pinned (OpenSpec.ofChange bodyMayWrong)

/-- 'breccialaw20.BodyPushes': WHATEVER THE INPUT: true; the input reads as it did. -/
def bodyPushesSpec : ChangeSpec := { name := "bodyPushes", fn := fun _ => fun
  | [d1, d2] => { results := [.lit (.bool true)], args := [d1, d2] }
  | _ => none }
def bodyPushesRow : OpenClaim := { program := "ytnokibdecnddlaa", sum := "7f8467ea7e5ca3c65dd686ea27c3ab7fff246c38b8b6b18a812aa6be2cf49b98", func := "breccia/breccialaw20.BodyPushes", spec := "bodyPushes", unfollowed := true, recurses := true, apart := false }
def BodyPushesSaid : Prop := bodyPushesRow.holds Try.pinned (OpenSpec.ofChange bodyPushesSpec)

/-- ITS FALSE NEIGHBOUR: 'it returns false'. Refute it at one input. -/
def bodyPushesWrong : ChangeSpec := { name := "bodyPushes", fn := fun _ => fun
  | [d1, d2] => { results := [.lit (.bool false)], args := [d1, d2] }
  | _ => none }
def BodyPushesWrongFalsely : Prop := bodyPushesRow.holds Try.pinned (OpenSpec.ofChange bodyPushesWrong)

/-- 'breccialaw20.BodyCrowds': WHATEVER THE INPUT: true; the input reads as it did. -/
def bodyCrowdsSpec : ChangeSpec := { name := "bodyCrowds", fn := fun _ => fun
  | [d1, d2, d3] => { results := [.lit (.bool true)], args := [d1, d2, d3] }
  | _ => none }
def bodyCrowdsRow : OpenClaim := { program := "ytnokibdecnddlaa", sum := "7f8467ea7e5ca3c65dd686ea27c3ab7fff246c38b8b6b18a812aa6be2cf49b98", func := "breccia/breccialaw20.BodyCrowds", spec := "bodyCrowds", unfollowed := true, recurses := true, apart := false }
def BodyCrowdsSaid : Prop := bodyCrowdsRow.holds Try.pinned (OpenSpec.ofChange bodyCrowdsSpec)

/-- ITS FALSE NEIGHBOUR: 'it returns false'. Refute it at one input. -/
def bodyCrowdsWrong : ChangeSpec := { name := "bodyCrowds", fn := fun _ => fun
  | [d1, d2, d3] => { results := [.lit (.bool false)], args := [d1, d2, d3] }
  | _ => none }
def BodyCrowdsWrongFalsely : Prop := bodyCrowdsRow.holds Try.pinned (OpenSpec.ofChange bodyCrowdsWrong)

/- THE SECOND FORM. 'bulk': how many values and letters a reading holds, each counted each time it is reached (what is shared counts as often as it is met; a slice's spare places count too). A statement '..UptoSaid' is the law's where the arguments, and the package variables that the reading takes, are together of bulk at most 1048576: NARROWER than '..Said'. Prove '..Said' where nothing that the law and all that it calls make is longer than what came in: it says more and counts as full. Else prove '..UptoSaid'. A law counts once. -/
mutual
def uptoBulk {H : Type} : DataW H → Nat
  | .lit (.string bytes) => bytes.length + 1
  | .lit _ => 1
  | .nil => 1
  | .ptr d => uptoBulk d + 1
  | .slice elems spare => uptoBulkAll elems + uptoBulkAll spare + 1
  | .agg parts => uptoBulkAll parts + 1
  | .iface _ d => uptoBulk d + 1
  | .map entries => uptoBulkEntries entries + 1
  | .held _ => 1
def uptoBulkAll {H : Type} : List (DataW H) → Nat
  | [] => 0
  | d :: r => uptoBulk d + uptoBulkAll r
def uptoBulkEntries {H : Type} : List (Lit × DataW H) → Nat
  | [] => 0
  | x :: r => uptoBulkEntry x + uptoBulkEntries r
def uptoBulkEntry {H : Type} : Lit × DataW H → Nat
  | (.string bytes, d) => bytes.length + uptoBulk d + 1
  | (_, d) => uptoBulk d + 1
 end
def uptoSmall : (H : Type) → List (DataW H) → Bool := fun _ ds => decide (uptoBulkAll ds ≤ 1048576)
def OpenSpec.upto (s : _root_.Go.ChangeSpec) : _root_.Go.OpenSpec := { _root_.Go.OpenSpec.ofChange s with cond := some uptoSmall }

/-- 'breccialaw20.BodySteps', WHERE WHAT IT READS IS OF BULK AT MOST 1048576: true; the input reads as it did. -/
def bodyStepsUptoRow : OpenClaim := { program := "ytnokibdecnddlaa", sum := "7f8467ea7e5ca3c65dd686ea27c3ab7fff246c38b8b6b18a812aa6be2cf49b98", func := "breccia/breccialaw20.BodySteps", spec := "bodySteps", unfollowed := true, recurses := true, apart := false, narrowed := true }
def BodyStepsUptoSaid : Prop := bodyStepsUptoRow.holds Try.pinned (OpenSpec.upto bodyStepsSpec)

/-- 'breccialaw20.BodyRests', WHERE WHAT IT READS IS OF BULK AT MOST 1048576: true; the input reads as it did. -/
def bodyRestsUptoRow : OpenClaim := { program := "ytnokibdecnddlaa", sum := "7f8467ea7e5ca3c65dd686ea27c3ab7fff246c38b8b6b18a812aa6be2cf49b98", func := "breccia/breccialaw20.BodyRests", spec := "bodyRests", unfollowed := true, recurses := true, apart := false, narrowed := true }
def BodyRestsUptoSaid : Prop := bodyRestsUptoRow.holds Try.pinned (OpenSpec.upto bodyRestsSpec)

/-- 'breccialaw20.BodyFalls', WHERE WHAT IT READS IS OF BULK AT MOST 1048576: true; the input reads as it did. -/
def bodyFallsUptoRow : OpenClaim := { program := "ytnokibdecnddlaa", sum := "7f8467ea7e5ca3c65dd686ea27c3ab7fff246c38b8b6b18a812aa6be2cf49b98", func := "breccia/breccialaw20.BodyFalls", spec := "bodyFalls", unfollowed := true, recurses := true, apart := false, narrowed := true }
def BodyFallsUptoSaid : Prop := bodyFallsUptoRow.holds Try.pinned (OpenSpec.upto bodyFallsSpec)

/-- 'breccialaw20.BodyFree', WHERE WHAT IT READS IS OF BULK AT MOST 1048576: true; the input reads as it did. -/
def bodyFreeUptoRow : OpenClaim := { program := "ytnokibdecnddlaa", sum := "7f8467ea7e5ca3c65dd686ea27c3ab7fff246c38b8b6b18a812aa6be2cf49b98", func := "breccia/breccialaw20.BodyFree", spec := "bodyFree", unfollowed := true, recurses := true, apart := false, narrowed := true }
def BodyFreeUptoSaid : Prop := bodyFreeUptoRow.holds Try.pinned (OpenSpec.upto bodyFreeSpec)

/-- 'breccialaw20.BodyEdges', WHERE WHAT IT READS IS OF BULK AT MOST 1048576: true; the input reads as it did. -/
def bodyEdgesUptoRow : OpenClaim := { program := "ytnokibdecnddlaa", sum := "7f8467ea7e5ca3c65dd686ea27c3ab7fff246c38b8b6b18a812aa6be2cf49b98", func := "breccia/breccialaw20.BodyEdges", spec := "bodyEdges", unfollowed := true, recurses := true, apart := false, narrowed := true }
def BodyEdgesUptoSaid : Prop := bodyEdgesUptoRow.holds Try.pinned (OpenSpec.upto bodyEdgesSpec)

/-- 'breccialaw20.BodyMay', WHERE WHAT IT READS IS OF BULK AT MOST 1048576: true; the input reads as it did. -/
def bodyMayUptoRow : OpenClaim := { program := "ytnokibdecnddlaa", sum := "7f8467ea7e5ca3c65dd686ea27c3ab7fff246c38b8b6b18a812aa6be2cf49b98", func := "breccia/breccialaw20.BodyMay", spec := "bodyMay", unfollowed := true, recurses := true, apart := false, narrowed := true }
def BodyMayUptoSaid : Prop := bodyMayUptoRow.holds Try.pinned (OpenSpec.upto bodyMaySpec)

/-- 'breccialaw20.BodyPushes', WHERE WHAT IT READS IS OF BULK AT MOST 1048576: true; the input reads as it did. -/
def bodyPushesUptoRow : OpenClaim := { program := "ytnokibdecnddlaa", sum := "7f8467ea7e5ca3c65dd686ea27c3ab7fff246c38b8b6b18a812aa6be2cf49b98", func := "breccia/breccialaw20.BodyPushes", spec := "bodyPushes", unfollowed := true, recurses := true, apart := false, narrowed := true }
def BodyPushesUptoSaid : Prop := bodyPushesUptoRow.holds Try.pinned (OpenSpec.upto bodyPushesSpec)

/-- 'breccialaw20.BodyCrowds', WHERE WHAT IT READS IS OF BULK AT MOST 1048576: true; the input reads as it did. -/
def bodyCrowdsUptoRow : OpenClaim := { program := "ytnokibdecnddlaa", sum := "7f8467ea7e5ca3c65dd686ea27c3ab7fff246c38b8b6b18a812aa6be2cf49b98", func := "breccia/breccialaw20.BodyCrowds", spec := "bodyCrowds", unfollowed := true, recurses := true, apart := false, narrowed := true }
def BodyCrowdsUptoSaid : Prop := bodyCrowdsUptoRow.holds Try.pinned (OpenSpec.upto bodyCrowdsSpec)

end Rows
end Go.Proofs.Ytnokibdecnddlaa
