/-
  No cell of these rows narrows 'for every input' (looked for: loops, veiled, ifaces, maps, wideKeys, modest, calm, conditions, laid).
  DERIVED. THE GIVEN ROWS OF THIS SEAT. 8 by the template 'for every input the law returns true; each argument reads behind the call as it read before'; 0 by the template 'total and deterministic' (their statements: YtkfedmgodhkfgaaTotals.lean).
  GIVEN WITH THE SEED: the statements are not yours to turn. If you find one false, say at which input.
  Laid BY PROGRAM, IN A SANDBOX (cutbox-rows.mjs): the forced cells as the released guide's own fill.sh prints them over the translation ec6d269e6eb1966e… (all of the seat's roots in one cut). By AI agents, Wed Nov 11 2026. No macro, syntax, notation, axiom, sorry.
-/
import Derived.Test.YtkfedmgodhkfgaaChecked
import GoSem.Claim
import GoSem.ClaimJoined
import GoSem.ClaimMapViews
import Derived.JoinedTies
import Derived.KernelRfl
namespace Go.Proofs.Ytkfedmgodhkfgaa
/- THE CELL 'sum', in the pinned program and in every row, IS THE sha256 OF THE DUMP (.gsa) THAT YtkfedmgodhkfgaaProg.lean LOADS. Nothing in Lean hashes anything: it is a label: what it is worth is what the hold of that sum in a sandbox is worth. -/
noncomputable def Try.pinned : Pinned := { name := "ytkfedmgodhkfgaa", sum := "ec6d269e6eb1966e80ca4981da818f38c57ca64d0a5501cfda23d627b8be2ab7", checked := Try.checked }
namespace Rows
def none {H : Type} : Left H := { results := [], args := [] }

/-- 'breccialaw01.FixedProducts': WHATEVER THE INPUT: true; the input reads as it did. -/
def fixedProductsSpec : ChangeSpec := { name := "fixedProducts", fn := fun _ => fun
  | [d1, d2] => { results := [.lit (.bool true)], args := [d1, d2] }
  | _ => none }
def fixedProductsRow : OpenClaim := { program := "ytkfedmgodhkfgaa", sum := "ec6d269e6eb1966e80ca4981da818f38c57ca64d0a5501cfda23d627b8be2ab7", func := "breccia/breccialaw01.FixedProducts", spec := "fixedProducts", unfollowed := true, recurses := true, apart := false }
def FixedProductsSaid : Prop := fixedProductsRow.holds Try.pinned (OpenSpec.ofChange fixedProductsSpec)

/-- ITS FALSE NEIGHBOUR: 'it returns false'. Refute it at one input. -/
def fixedProductsWrong : ChangeSpec := { name := "fixedProducts", fn := fun _ => fun
  | [d1, d2] => { results := [.lit (.bool false)], args := [d1, d2] }
  | _ => none }
def FixedProductsWrongFalsely : Prop := fixedProductsRow.holds Try.pinned (OpenSpec.ofChange fixedProductsWrong)

/-- 'breccialaw01.FixedFloors': WHATEVER THE INPUT: true; the input reads as it did. -/
def fixedFloorsSpec : ChangeSpec := { name := "fixedFloors", fn := fun _ => fun
  | [d1, d2] => { results := [.lit (.bool true)], args := [d1, d2] }
  | _ => none }
def fixedFloorsRow : OpenClaim := { program := "ytkfedmgodhkfgaa", sum := "ec6d269e6eb1966e80ca4981da818f38c57ca64d0a5501cfda23d627b8be2ab7", func := "breccia/breccialaw01.FixedFloors", spec := "fixedFloors", unfollowed := true, recurses := true, apart := false }
def FixedFloorsSaid : Prop := fixedFloorsRow.holds Try.pinned (OpenSpec.ofChange fixedFloorsSpec)

/-- ITS FALSE NEIGHBOUR: 'it returns false'. Refute it at one input. -/
def fixedFloorsWrong : ChangeSpec := { name := "fixedFloors", fn := fun _ => fun
  | [d1, d2] => { results := [.lit (.bool false)], args := [d1, d2] }
  | _ => none }
def FixedFloorsWrongFalsely : Prop := fixedFloorsRow.holds Try.pinned (OpenSpec.ofChange fixedFloorsWrong)

/-- 'breccialaw01.FixedToward': WHATEVER THE INPUT: true; the input reads as it did. -/
def fixedTowardSpec : ChangeSpec := { name := "fixedToward", fn := fun _ => fun
  | [d1, d2, d3] => { results := [.lit (.bool true)], args := [d1, d2, d3] }
  | _ => none }
def fixedTowardRow : OpenClaim := { program := "ytkfedmgodhkfgaa", sum := "ec6d269e6eb1966e80ca4981da818f38c57ca64d0a5501cfda23d627b8be2ab7", func := "breccia/breccialaw01.FixedToward", spec := "fixedToward", unfollowed := true, recurses := true, apart := false }
def FixedTowardSaid : Prop := fixedTowardRow.holds Try.pinned (OpenSpec.ofChange fixedTowardSpec)

/-- ITS FALSE NEIGHBOUR: 'it returns false'. Refute it at one input. -/
def fixedTowardWrong : ChangeSpec := { name := "fixedToward", fn := fun _ => fun
  | [d1, d2, d3] => { results := [.lit (.bool false)], args := [d1, d2, d3] }
  | _ => none }
def FixedTowardWrongFalsely : Prop := fixedTowardRow.holds Try.pinned (OpenSpec.ofChange fixedTowardWrong)

/-- 'breccialaw01.FixedSums': WHATEVER THE INPUT: true; the input reads as it did. -/
def fixedSumsSpec : ChangeSpec := { name := "fixedSums", fn := fun _ => fun
  | [d1, d2] => { results := [.lit (.bool true)], args := [d1, d2] }
  | _ => none }
def fixedSumsRow : OpenClaim := { program := "ytkfedmgodhkfgaa", sum := "ec6d269e6eb1966e80ca4981da818f38c57ca64d0a5501cfda23d627b8be2ab7", func := "breccia/breccialaw01.FixedSums", spec := "fixedSums", unfollowed := true, recurses := true, apart := false }
def FixedSumsSaid : Prop := fixedSumsRow.holds Try.pinned (OpenSpec.ofChange fixedSumsSpec)

/-- ITS FALSE NEIGHBOUR: 'it returns false'. Refute it at one input. -/
def fixedSumsWrong : ChangeSpec := { name := "fixedSums", fn := fun _ => fun
  | [d1, d2] => { results := [.lit (.bool false)], args := [d1, d2] }
  | _ => none }
def FixedSumsWrongFalsely : Prop := fixedSumsRow.holds Try.pinned (OpenSpec.ofChange fixedSumsWrong)

/-- 'breccialaw01.FixedQuotients': WHATEVER THE INPUT: true; the input reads as it did. -/
def fixedQuotientsSpec : ChangeSpec := { name := "fixedQuotients", fn := fun _ => fun
  | [d1, d2] => { results := [.lit (.bool true)], args := [d1, d2] }
  | _ => none }
def fixedQuotientsRow : OpenClaim := { program := "ytkfedmgodhkfgaa", sum := "ec6d269e6eb1966e80ca4981da818f38c57ca64d0a5501cfda23d627b8be2ab7", func := "breccia/breccialaw01.FixedQuotients", spec := "fixedQuotients", unfollowed := true, recurses := true, apart := false }
def FixedQuotientsSaid : Prop := fixedQuotientsRow.holds Try.pinned (OpenSpec.ofChange fixedQuotientsSpec)

/-- ITS FALSE NEIGHBOUR: 'it returns false'. Refute it at one input. -/
def fixedQuotientsWrong : ChangeSpec := { name := "fixedQuotients", fn := fun _ => fun
  | [d1, d2] => { results := [.lit (.bool false)], args := [d1, d2] }
  | _ => none }
def FixedQuotientsWrongFalsely : Prop := fixedQuotientsRow.holds Try.pinned (OpenSpec.ofChange fixedQuotientsWrong)

/-- 'breccialaw01.FixedOrder': WHATEVER THE INPUT: true; the input reads as it did. -/
def fixedOrderSpec : ChangeSpec := { name := "fixedOrder", fn := fun _ => fun
  | [d1, d2, d3] => { results := [.lit (.bool true)], args := [d1, d2, d3] }
  | _ => none }
def fixedOrderRow : OpenClaim := { program := "ytkfedmgodhkfgaa", sum := "ec6d269e6eb1966e80ca4981da818f38c57ca64d0a5501cfda23d627b8be2ab7", func := "breccia/breccialaw01.FixedOrder", spec := "fixedOrder", unfollowed := true, recurses := true, apart := false }
def FixedOrderSaid : Prop := fixedOrderRow.holds Try.pinned (OpenSpec.ofChange fixedOrderSpec)

/-- ITS FALSE NEIGHBOUR: 'it returns false'. Refute it at one input. -/
def fixedOrderWrong : ChangeSpec := { name := "fixedOrder", fn := fun _ => fun
  | [d1, d2, d3] => { results := [.lit (.bool false)], args := [d1, d2, d3] }
  | _ => none }
def FixedOrderWrongFalsely : Prop := fixedOrderRow.holds Try.pinned (OpenSpec.ofChange fixedOrderWrong)

/-- 'breccialaw01.FixedFloats': WHATEVER THE INPUT: true; the input reads as it did. -/
def fixedFloatsSpec : ChangeSpec := { name := "fixedFloats", fn := fun _ => fun
  | [d] => { results := [.lit (.bool true)], args := [d] }
  | _ => none }
def fixedFloatsRow : OpenClaim := { program := "ytkfedmgodhkfgaa", sum := "ec6d269e6eb1966e80ca4981da818f38c57ca64d0a5501cfda23d627b8be2ab7", func := "breccia/breccialaw01.FixedFloats", spec := "fixedFloats", inPlace := ["math.archFloor", "math.Float64bits", "math.Float64frombits", "math.archTrunc"], unfollowed := true, recurses := true, apart := false }
def FixedFloatsSaid : Prop := fixedFloatsRow.holds Try.pinned (OpenSpec.ofChange fixedFloatsSpec)

/-- ITS FALSE NEIGHBOUR: 'it returns false'. Refute it at one input. -/
def fixedFloatsWrong : ChangeSpec := { name := "fixedFloats", fn := fun _ => fun
  | [d] => { results := [.lit (.bool false)], args := [d] }
  | _ => none }
def FixedFloatsWrongFalsely : Prop := fixedFloatsRow.holds Try.pinned (OpenSpec.ofChange fixedFloatsWrong)

/-- 'breccialaw01.FixedEdges': WHATEVER THE INPUT: true; the input reads as it did. -/
def fixedEdgesSpec : ChangeSpec := { name := "fixedEdges", fn := fun _ => fun
  | [d1, d2, d3] => { results := [.lit (.bool true)], args := [d1, d2, d3] }
  | _ => none }
def fixedEdgesRow : OpenClaim := { program := "ytkfedmgodhkfgaa", sum := "ec6d269e6eb1966e80ca4981da818f38c57ca64d0a5501cfda23d627b8be2ab7", func := "breccia/breccialaw01.FixedEdges", spec := "fixedEdges", inPlace := ["math.archFloor", "math.Float64bits", "math.Float64frombits", "math.archTrunc"], unfollowed := true, recurses := true, apart := false }
def FixedEdgesSaid : Prop := fixedEdgesRow.holds Try.pinned (OpenSpec.ofChange fixedEdgesSpec)

/-- ITS FALSE NEIGHBOUR: 'it returns false'. Refute it at one input. -/
def fixedEdgesWrong : ChangeSpec := { name := "fixedEdges", fn := fun _ => fun
  | [d1, d2, d3] => { results := [.lit (.bool false)], args := [d1, d2, d3] }
  | _ => none }
def FixedEdgesWrongFalsely : Prop := fixedEdgesRow.holds Try.pinned (OpenSpec.ofChange fixedEdgesWrong)

/- THE SECOND FORM. 'bulk': how many values and letters a reading holds, each counted each time it is reached (what is shared counts as often as it is met; a slice's spare places count too). A statement '..UptoSaid' is the law's where the arguments, and the package variables that the reading takes, are together of bulk at most 1048576: NARROWER than '..Said'. Prove '..Said' where nothing that the law and all that it calls make is longer than what came in: it says more and counts as full. Else prove '..UptoSaid'. A law counts once. -/
mutual
def uptoBulk {H : Type} : DataW H → Nat
  | .lit (.string bytes) => bytes.length + 1
  | .lit _ => 1
  | .nil => 1
  | .ptr d => uptoBulk d + 1
  | .slice elems spare => uptoBulkAll elems + uptoBulkAll spare + 1
  | .agg parts => uptoBulkAll parts + 1
  | .iface _ d => uptoBulk d + 1
  | .map entries => uptoBulkEntries entries + 1
  | .held _ => 1
def uptoBulkAll {H : Type} : List (DataW H) → Nat
  | [] => 0
  | d :: r => uptoBulk d + uptoBulkAll r
def uptoBulkEntries {H : Type} : List (Lit × DataW H) → Nat
  | [] => 0
  | x :: r => uptoBulkEntry x + uptoBulkEntries r
def uptoBulkEntry {H : Type} : Lit × DataW H → Nat
  | (.string bytes, d) => bytes.length + uptoBulk d + 1
  | (_, d) => uptoBulk d + 1
 end
def uptoSmall : (H : Type) → List (DataW H) → Bool := fun _ ds => decide (uptoBulkAll ds ≤ 1048576)
def OpenSpec.upto (s : _root_.Go.ChangeSpec) : _root_.Go.OpenSpec := { _root_.Go.OpenSpec.ofChange s with cond := some uptoSmall }

/-- 'breccialaw01.FixedProducts', WHERE WHAT IT READS IS OF BULK AT MOST 1048576: true; the input reads as it did. -/
def fixedProductsUptoRow : OpenClaim := { program := "ytkfedmgodhkfgaa", sum := "ec6d269e6eb1966e80ca4981da818f38c57ca64d0a5501cfda23d627b8be2ab7", func := "breccia/breccialaw01.FixedProducts", spec := "fixedProducts", unfollowed := true, recurses := true, apart := false, narrowed := true }
def FixedProductsUptoSaid : Prop := fixedProductsUptoRow.holds Try.pinned (OpenSpec.upto fixedProductsSpec)

/-- 'breccialaw01.FixedFloors', WHERE WHAT IT READS IS OF BULK AT MOST 1048576: true; the input reads as it did. -/
def fixedFloorsUptoRow : OpenClaim := { program := "ytkfedmgodhkfgaa", sum := "ec6d269e6eb1966e80ca4981da818f38c57ca64d0a5501cfda23d627b8be2ab7", func := "breccia/breccialaw01.FixedFloors", spec := "fixedFloors", unfollowed := true, recurses := true, apart := false, narrowed := true }
def FixedFloorsUptoSaid : Prop := fixedFloorsUptoRow.holds Try.pinned (OpenSpec.upto fixedFloorsSpec)

/-- 'breccialaw01.FixedToward', WHERE WHAT IT READS IS OF BULK AT MOST 1048576: true; the input reads as it did. -/
def fixedTowardUptoRow : OpenClaim := { program := "ytkfedmgodhkfgaa", sum := "ec6d269e6eb1966e80ca4981da818f38c57ca64d0a5501cfda23d627b8be2ab7", func := "breccia/breccialaw01.FixedToward", spec := "fixedToward", unfollowed := true, recurses := true, apart := false, narrowed := true }
def FixedTowardUptoSaid : Prop := fixedTowardUptoRow.holds Try.pinned (OpenSpec.upto fixedTowardSpec)

/-- 'breccialaw01.FixedSums', WHERE WHAT IT READS IS OF BULK AT MOST 1048576: true; the input reads as it did. -/
def fixedSumsUptoRow : OpenClaim := { program := "ytkfedmgodhkfgaa", sum := "ec6d269e6eb1966e80ca4981da818f38c57ca64d0a5501cfda23d627b8be2ab7", func := "breccia/breccialaw01.FixedSums", spec := "fixedSums", unfollowed := true, recurses := true, apart := false, narrowed := true }
def FixedSumsUptoSaid : Prop := fixedSumsUptoRow.holds Try.pinned (OpenSpec.upto fixedSumsSpec)

/-- 'breccialaw01.FixedQuotients', WHERE WHAT IT READS IS OF BULK AT MOST 1048576: true; the input reads as it did. -/
def fixedQuotientsUptoRow : OpenClaim := { program := "ytkfedmgodhkfgaa", sum := "ec6d269e6eb1966e80ca4981da818f38c57ca64d0a5501cfda23d627b8be2ab7", func := "breccia/breccialaw01.FixedQuotients", spec := "fixedQuotients", unfollowed := true, recurses := true, apart := false, narrowed := true }
def FixedQuotientsUptoSaid : Prop := fixedQuotientsUptoRow.holds Try.pinned (OpenSpec.upto fixedQuotientsSpec)

/-- 'breccialaw01.FixedOrder', WHERE WHAT IT READS IS OF BULK AT MOST 1048576: true; the input reads as it did. -/
def fixedOrderUptoRow : OpenClaim := { program := "ytkfedmgodhkfgaa", sum := "ec6d269e6eb1966e80ca4981da818f38c57ca64d0a5501cfda23d627b8be2ab7", func := "breccia/breccialaw01.FixedOrder", spec := "fixedOrder", unfollowed := true, recurses := true, apart := false, narrowed := true }
def FixedOrderUptoSaid : Prop := fixedOrderUptoRow.holds Try.pinned (OpenSpec.upto fixedOrderSpec)

/-- 'breccialaw01.FixedFloats', WHERE WHAT IT READS IS OF BULK AT MOST 1048576: true; the input reads as it did. -/
def fixedFloatsUptoRow : OpenClaim := { program := "ytkfedmgodhkfgaa", sum := "ec6d269e6eb1966e80ca4981da818f38c57ca64d0a5501cfda23d627b8be2ab7", func := "breccia/breccialaw01.FixedFloats", spec := "fixedFloats", inPlace := ["math.archFloor", "math.Float64bits", "math.Float64frombits", "math.archTrunc"], unfollowed := true, recurses := true, apart := false, narrowed := true }
def FixedFloatsUptoSaid : Prop := fixedFloatsUptoRow.holds Try.pinned (OpenSpec.upto fixedFloatsSpec)

/-- 'breccialaw01.FixedEdges', WHERE WHAT IT READS IS OF BULK AT MOST 1048576: true; the input reads as it did. -/
def fixedEdgesUptoRow : OpenClaim := { program := "ytkfedmgodhkfgaa", sum := "ec6d269e6eb1966e80ca4981da818f38c57ca64d0a5501cfda23d627b8be2ab7", func := "breccia/breccialaw01.FixedEdges", spec := "fixedEdges", inPlace := ["math.archFloor", "math.Float64bits", "math.Float64frombits", "math.archTrunc"], unfollowed := true, recurses := true, apart := false, narrowed := true }
def FixedEdgesUptoSaid : Prop := fixedEdgesUptoRow.holds Try.pinned (OpenSpec.upto fixedEdgesSpec)

end Rows
end Go.Proofs.Ytkfedmgodhkfgaa
