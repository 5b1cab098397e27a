/- A part of the proof. -/
import Derived.Test.YtmbccnioijokfaaGreatDoorZs39
import Derived.Test.YtmbccnioijokfaaGreatDoorCards
import Derived.Test.YtmbccnioijokfaaGreatDoorTie
import Derived.Deep.DeepWitnessRowRef
import Derived.Lib.LaidU8
namespace Go.Proofs.YtmbccnioijokfaaGreatDoor
set_option maxRecDepth 100000
set_option maxHeartbeats 32000000
open Go.Value (int)
open Go.IntKind (i64 u8)
open Go.Proofs.Tryz
variable {W:World}
section
open Go.ChangeShapes Go.WideShapes Go.ChangeAt Go.RowKit Go.Sort
def nG:Array Value:=#[int u8 0,int u8 1,int u8 28,int u8 2,int u8 29,int u8 14,int u8 24,int u8 3,int u8 30,int u8 22,int u8 20,int u8 15,int u8 25,int u8 17,int u8 4,int u8 8,int u8 31,int u8 27,int u8 13,int u8 23,int u8 21,int u8 19,int u8 16,int u8 7,int u8 26,int u8 12,int u8 18,int u8 6,int u8 11,int u8 5,int u8 10,int u8 9]
def nH:Array Value:=#[int u8 0,int u8 1,int u8 56,int u8 2,int u8 57,int u8 49,int u8 28,int u8 3,int u8 61,int u8 58,int u8 42,int u8 50,int u8 38,int u8 29,int u8 17,int u8 4,int u8 62,int u8 47,int u8 59,int u8 36,int u8 45,int u8 43,int u8 51,int u8 22,int u8 53,int u8 39,int u8 33,int u8 30,int u8 24,int u8 18,int u8 12,int u8 5,int u8 63,int u8 55,int u8 48,int u8 27,int u8 60,int u8 41,int u8 37,int u8 16,int u8 46,int u8 35,int u8 44,int u8 21,int u8 52,int u8 32,int u8 23,int u8 11,int u8 54,int u8 26,int u8 40,int u8 15,int u8 34,int u8 20,int u8 31,int u8 10,int u8 25,int u8 14,int u8 19,int u8 9,int u8 13,int u8 8,int u8 7,int u8 6]
def lN:Array Value:=#[int u8 128,int u8 191,int u8 160,int u8 191,int u8 128,int u8 159,int u8 144,int u8 191,int u8 128,int u8 143,int u8 0,int u8 0,int u8 0,int u8 0,int u8 0,int u8 0,int u8 0,int u8 0,int u8 0,int u8 0,int u8 0,int u8 0,int u8 0,int u8 0,int u8 0,int u8 0,int u8 0,int u8 0,int u8 0,int u8 0,int u8 0,int u8 0]
def lO:Array Value:=#[.int .u64 1,.int .u64 10,.int .u64 100,.int .u64 1000,.int .u64 10000,.int .u64 100000,.int .u64 1000000,.int .u64 10000000,.int .u64 100000000,.int .u64 1000000000,.int .u64 10000000000,.int .u64 100000000000,.int .u64 1000000000000,.int .u64 10000000000000,.int .u64 100000000000000,.int .u64 1000000000000000,.int .u64 10000000000000000,.int .u64 100000000000000000,.int .u64 1000000000000000000,.int .u64 10000000000000000000]
noncomputable def CN (os:Os):World:=
 let w0:=World.holding prog os ⟨#[],#[],[]⟩
 let put (h:Array Obj) (g:Nat) (cs:Array Value):Array Obj:=h.modify g fun
  | .cells _ t frozen=>.cells cs t frozen
  | o=>o
 { w0 with heap:=put (put (put (put (put w0.heap 1 (Lib.firstTab.map λz=>Value.int .u8 z).toArray) 2 lN) 3 lO) 4 nG) 5 nH }
theorem lP (h:laidMet prog Rows.topSandRow.laid W):Vz W:=by
 obtain ⟨g, t, cs, fuel, p, e, c, f, a⟩ := Lib.laidMet.reads h (n := "internal/strconv.uint64pow10") (d := Rows.laid_internal_strconv_uint64pow10) (.tail _ (.tail _ (.head _)))
 obtain rfl := pE ((show prog.globalNamed "internal/strconv.uint64pow10" = some 3 by kernel_rfl).symm.trans e)
 obtain rfl:=pE ((show (prog.globals[3]?).map (·.type)=some 371 by kernel_rfl).symm.trans c)
 have b:(Rows.laid_internal_strconv_uint64pow10:DataW Unit)=Lib.tabData .u64 Lib.pow10Tab:=by kernel_rfl
 rw [b] at a;have i:=Lib.cells_of_tab underlying371 underlying331 (by kernel_rfl) (by kernel_rfl) a
 unfold Vz Lib.TabIs;rw [f,<-i]
end
end Go.Proofs.YtmbccnioijokfaaGreatDoor