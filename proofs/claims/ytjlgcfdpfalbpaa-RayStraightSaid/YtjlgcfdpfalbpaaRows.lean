/-
  No cell of these rows narrows 'for every input' (looked for: loops, veiled, ifaces, maps, wideKeys, modest, calm, conditions, laid).
  DERIVED. THE GIVEN ROWS OF THIS SEAT. 6 by the template 'for every input the law returns true; each argument reads behind the call as it read before'; 0 by the template 'total and deterministic' (their statements: YtjlgcfdpfalbpaaTotals.lean).
  GIVEN WITH THE SEED: the statements are not yours to turn. If you find one false, say at which input.
  Laid BY PROGRAM, IN A SANDBOX (cutbox-rows.mjs): the forced cells as the released guide's own fill.sh prints them over the translation f8ab36cd4e6b7d44… (all of the seat's roots in one cut). By AI agents, Wed Nov 11 2026. No macro, syntax, notation, axiom, sorry.
-/
import Derived.Test.YtjlgcfdpfalbpaaChecked
import GoSem.Claim
import GoSem.ClaimJoined
import GoSem.ClaimMapViews
import Derived.JoinedTies
import Derived.KernelRfl
namespace Go.Proofs.Ytjlgcfdpfalbpaa
/- THE CELL 'sum', in the pinned program and in every row, IS THE sha256 OF THE DUMP (.gsa) THAT YtjlgcfdpfalbpaaProg.lean LOADS. Nothing in Lean hashes anything: it is a label: what it is worth is what the hold of that sum in a sandbox is worth. -/
noncomputable def Try.pinned : Pinned := { name := "ytjlgcfdpfalbpaa", sum := "f8ab36cd4e6b7d448e4ff9430f1944d5622e040d89cfa86d34dd5e4be0d2f4aa", checked := Try.checked }
namespace Rows
def none {H : Type} : Left H := { results := [], args := [] }

/-- 'breccialaw16.RayCasts': WHATEVER THE INPUT: true; the input reads as it did. -/
def rayCastsSpec : ChangeSpec := { name := "rayCasts", fn := fun _ => fun
  | [d1, d2, d3, d4] => { results := [.lit (.bool true)], args := [d1, d2, d3, d4] }
  | _ => none }
def rayCastsRow : OpenClaim := { program := "ytjlgcfdpfalbpaa", sum := "f8ab36cd4e6b7d448e4ff9430f1944d5622e040d89cfa86d34dd5e4be0d2f4aa", func := "breccia/breccialaw16.RayCasts", spec := "rayCasts", unfollowed := true, recurses := true, apart := false }
def RayCastsSaid : Prop := rayCastsRow.holds Try.pinned (OpenSpec.ofChange rayCastsSpec)

/-- ITS FALSE NEIGHBOUR: 'it returns false'. Refute it at one input. -/
def rayCastsWrong : ChangeSpec := { name := "rayCasts", fn := fun _ => fun
  | [d1, d2, d3, d4] => { results := [.lit (.bool false)], args := [d1, d2, d3, d4] }
  | _ => none }
def RayCastsWrongFalsely : Prop := rayCastsRow.holds Try.pinned (OpenSpec.ofChange rayCastsWrong)

/-- 'breccialaw16.RayBeside': WHATEVER THE INPUT: true; the input reads as it did. -/
def rayBesideSpec : ChangeSpec := { name := "rayBeside", fn := fun _ => fun
  | [d1, d2] => { results := [.lit (.bool true)], args := [d1, d2] }
  | _ => none }
def rayBesideRow : OpenClaim := { program := "ytjlgcfdpfalbpaa", sum := "f8ab36cd4e6b7d448e4ff9430f1944d5622e040d89cfa86d34dd5e4be0d2f4aa", func := "breccia/breccialaw16.RayBeside", spec := "rayBeside", unfollowed := true, recurses := true, apart := false }
def RayBesideSaid : Prop := rayBesideRow.holds Try.pinned (OpenSpec.ofChange rayBesideSpec)

/-- ITS FALSE NEIGHBOUR: 'it returns false'. Refute it at one input. -/
def rayBesideWrong : ChangeSpec := { name := "rayBeside", fn := fun _ => fun
  | [d1, d2] => { results := [.lit (.bool false)], args := [d1, d2] }
  | _ => none }
def RayBesideWrongFalsely : Prop := rayBesideRow.holds Try.pinned (OpenSpec.ofChange rayBesideWrong)

/-- 'breccialaw16.RayTraces': WHATEVER THE INPUT: true; the input reads as it did. -/
def rayTracesSpec : ChangeSpec := { name := "rayTraces", fn := fun _ => fun
  | [d1, d2, d3] => { results := [.lit (.bool true)], args := [d1, d2, d3] }
  | _ => none }
def rayTracesRow : OpenClaim := { program := "ytjlgcfdpfalbpaa", sum := "f8ab36cd4e6b7d448e4ff9430f1944d5622e040d89cfa86d34dd5e4be0d2f4aa", func := "breccia/breccialaw16.RayTraces", spec := "rayTraces", unfollowed := true, recurses := true, apart := false }
def RayTracesSaid : Prop := rayTracesRow.holds Try.pinned (OpenSpec.ofChange rayTracesSpec)

/-- ITS FALSE NEIGHBOUR: 'it returns false'. Refute it at one input. -/
def rayTracesWrong : ChangeSpec := { name := "rayTraces", fn := fun _ => fun
  | [d1, d2, d3] => { results := [.lit (.bool false)], args := [d1, d2, d3] }
  | _ => none }
def RayTracesWrongFalsely : Prop := rayTracesRow.holds Try.pinned (OpenSpec.ofChange rayTracesWrong)

/-- 'breccialaw16.RayBounds': WHATEVER THE INPUT: true; the input reads as it did. -/
def rayBoundsSpec : ChangeSpec := { name := "rayBounds", fn := fun _ => fun
  | [d1, d2, d3] => { results := [.lit (.bool true)], args := [d1, d2, d3] }
  | _ => none }
def rayBoundsRow : OpenClaim := { program := "ytjlgcfdpfalbpaa", sum := "f8ab36cd4e6b7d448e4ff9430f1944d5622e040d89cfa86d34dd5e4be0d2f4aa", func := "breccia/breccialaw16.RayBounds", spec := "rayBounds", unfollowed := true, recurses := true, apart := false }
def RayBoundsSaid : Prop := rayBoundsRow.holds Try.pinned (OpenSpec.ofChange rayBoundsSpec)

/-- ITS FALSE NEIGHBOUR: 'it returns false'. Refute it at one input. -/
def rayBoundsWrong : ChangeSpec := { name := "rayBounds", fn := fun _ => fun
  | [d1, d2, d3] => { results := [.lit (.bool false)], args := [d1, d2, d3] }
  | _ => none }
def RayBoundsWrongFalsely : Prop := rayBoundsRow.holds Try.pinned (OpenSpec.ofChange rayBoundsWrong)

/-- 'breccialaw16.RayStraight': WHATEVER THE INPUT: true; the input reads as it did. -/
def rayStraightSpec : ChangeSpec := { name := "rayStraight", fn := fun _ => fun
  | [d1, d2, d3, d4, d5] => { results := [.lit (.bool true)], args := [d1, d2, d3, d4, d5] }
  | _ => none }
def rayStraightRow : OpenClaim := { program := "ytjlgcfdpfalbpaa", sum := "f8ab36cd4e6b7d448e4ff9430f1944d5622e040d89cfa86d34dd5e4be0d2f4aa", func := "breccia/breccialaw16.RayStraight", spec := "rayStraight", unfollowed := true, recurses := true, apart := false }
def RayStraightSaid : Prop := rayStraightRow.holds Try.pinned (OpenSpec.ofChange rayStraightSpec)

/-- ITS FALSE NEIGHBOUR: 'it returns false'. Refute it at one input. -/
def rayStraightWrong : ChangeSpec := { name := "rayStraight", fn := fun _ => fun
  | [d1, d2, d3, d4, d5] => { results := [.lit (.bool false)], args := [d1, d2, d3, d4, d5] }
  | _ => none }
def RayStraightWrongFalsely : Prop := rayStraightRow.holds Try.pinned (OpenSpec.ofChange rayStraightWrong)

/-- 'breccialaw16.RaySees': WHATEVER THE INPUT: true; the input reads as it did. -/
def raySeesSpec : ChangeSpec := { name := "raySees", fn := fun _ => fun
  | [d1, d2] => { results := [.lit (.bool true)], args := [d1, d2] }
  | _ => none }
def raySeesRow : OpenClaim := { program := "ytjlgcfdpfalbpaa", sum := "f8ab36cd4e6b7d448e4ff9430f1944d5622e040d89cfa86d34dd5e4be0d2f4aa", func := "breccia/breccialaw16.RaySees", spec := "raySees", unfollowed := true, recurses := true, apart := false }
def RaySeesSaid : Prop := raySeesRow.holds Try.pinned (OpenSpec.ofChange raySeesSpec)

/-- ITS FALSE NEIGHBOUR: 'it returns false'. Refute it at one input. -/
def raySeesWrong : ChangeSpec := { name := "raySees", fn := fun _ => fun
  | [d1, d2] => { results := [.lit (.bool false)], args := [d1, d2] }
  | _ => none }
def RaySeesWrongFalsely : Prop := raySeesRow.holds Try.pinned (OpenSpec.ofChange raySeesWrong)

/- THE SECOND FORM. 'bulk': how many values and letters a reading holds, each counted each time it is reached (what is shared counts as often as it is met; a slice's spare places count too). A statement '..UptoSaid' is the law's where the arguments, and the package variables that the reading takes, are together of bulk at most 1048576: NARROWER than '..Said'. Prove '..Said' where nothing that the law and all that it calls make is longer than what came in: it says more and counts as full. Else prove '..UptoSaid'. A law counts once. -/
mutual
def uptoBulk {H : Type} : DataW H → Nat
  | .lit (.string bytes) => bytes.length + 1
  | .lit _ => 1
  | .nil => 1
  | .ptr d => uptoBulk d + 1
  | .slice elems spare => uptoBulkAll elems + uptoBulkAll spare + 1
  | .agg parts => uptoBulkAll parts + 1
  | .iface _ d => uptoBulk d + 1
  | .map entries => uptoBulkEntries entries + 1
  | .held _ => 1
def uptoBulkAll {H : Type} : List (DataW H) → Nat
  | [] => 0
  | d :: r => uptoBulk d + uptoBulkAll r
def uptoBulkEntries {H : Type} : List (Lit × DataW H) → Nat
  | [] => 0
  | x :: r => uptoBulkEntry x + uptoBulkEntries r
def uptoBulkEntry {H : Type} : Lit × DataW H → Nat
  | (.string bytes, d) => bytes.length + uptoBulk d + 1
  | (_, d) => uptoBulk d + 1
 end
def uptoSmall : (H : Type) → List (DataW H) → Bool := fun _ ds => decide (uptoBulkAll ds ≤ 1048576)
def OpenSpec.upto (s : _root_.Go.ChangeSpec) : _root_.Go.OpenSpec := { _root_.Go.OpenSpec.ofChange s with cond := some uptoSmall }

/-- 'breccialaw16.RayCasts', WHERE WHAT IT READS IS OF BULK AT MOST 1048576: true; the input reads as it did. -/
def rayCastsUptoRow : OpenClaim := { program := "ytjlgcfdpfalbpaa", sum := "f8ab36cd4e6b7d448e4ff9430f1944d5622e040d89cfa86d34dd5e4be0d2f4aa", func := "breccia/breccialaw16.RayCasts", spec := "rayCasts", unfollowed := true, recurses := true, apart := false, narrowed := true }
def RayCastsUptoSaid : Prop := rayCastsUptoRow.holds Try.pinned (OpenSpec.upto rayCastsSpec)

/-- 'breccialaw16.RayBeside', WHERE WHAT IT READS IS OF BULK AT MOST 1048576: true; the input reads as it did. -/
def rayBesideUptoRow : OpenClaim := { program := "ytjlgcfdpfalbpaa", sum := "f8ab36cd4e6b7d448e4ff9430f1944d5622e040d89cfa86d34dd5e4be0d2f4aa", func := "breccia/breccialaw16.RayBeside", spec := "rayBeside", unfollowed := true, recurses := true, apart := false, narrowed := true }
def RayBesideUptoSaid : Prop := rayBesideUptoRow.holds Try.pinned (OpenSpec.upto rayBesideSpec)

/-- 'breccialaw16.RayTraces', WHERE WHAT IT READS IS OF BULK AT MOST 1048576: true; the input reads as it did. -/
def rayTracesUptoRow : OpenClaim := { program := "ytjlgcfdpfalbpaa", sum := "f8ab36cd4e6b7d448e4ff9430f1944d5622e040d89cfa86d34dd5e4be0d2f4aa", func := "breccia/breccialaw16.RayTraces", spec := "rayTraces", unfollowed := true, recurses := true, apart := false, narrowed := true }
def RayTracesUptoSaid : Prop := rayTracesUptoRow.holds Try.pinned (OpenSpec.upto rayTracesSpec)

/-- 'breccialaw16.RayBounds', WHERE WHAT IT READS IS OF BULK AT MOST 1048576: true; the input reads as it did. -/
def rayBoundsUptoRow : OpenClaim := { program := "ytjlgcfdpfalbpaa", sum := "f8ab36cd4e6b7d448e4ff9430f1944d5622e040d89cfa86d34dd5e4be0d2f4aa", func := "breccia/breccialaw16.RayBounds", spec := "rayBounds", unfollowed := true, recurses := true, apart := false, narrowed := true }
def RayBoundsUptoSaid : Prop := rayBoundsUptoRow.holds Try.pinned (OpenSpec.upto rayBoundsSpec)

/-- 'breccialaw16.RayStraight', WHERE WHAT IT READS IS OF BULK AT MOST 1048576: true; the input reads as it did. -/
def rayStraightUptoRow : OpenClaim := { program := "ytjlgcfdpfalbpaa", sum := "f8ab36cd4e6b7d448e4ff9430f1944d5622e040d89cfa86d34dd5e4be0d2f4aa", func := "breccia/breccialaw16.RayStraight", spec := "rayStraight", unfollowed := true, recurses := true, apart := false, narrowed := true }
def RayStraightUptoSaid : Prop := rayStraightUptoRow.holds Try.pinned (OpenSpec.upto rayStraightSpec)

/-- 'breccialaw16.RaySees', WHERE WHAT IT READS IS OF BULK AT MOST 1048576: true; the input reads as it did. -/
def raySeesUptoRow : OpenClaim := { program := "ytjlgcfdpfalbpaa", sum := "f8ab36cd4e6b7d448e4ff9430f1944d5622e040d89cfa86d34dd5e4be0d2f4aa", func := "breccia/breccialaw16.RaySees", spec := "raySees", unfollowed := true, recurses := true, apart := false, narrowed := true }
def RaySeesUptoSaid : Prop := raySeesUptoRow.holds Try.pinned (OpenSpec.upto raySeesSpec)

end Rows
end Go.Proofs.Ytjlgcfdpfalbpaa
