/- Texts that build one behind the other, laid together: BlkT BlkT2 RunT4 ChkT ChkT2 TbP TbW TbF TbT TbO TbU TbS TbL TbL2 WdT WdT2 HereT IdxP WdR NewT QueP QueA QueF SimT. -/
import Derived.Test.YtmbccnioijokfaaGreatDoorMz3
import Derived.Test.YtmbccnioijokfaaGreatDoorMz2
import Derived.Test.YtmbccnioijokfaaGreatDoorMz6
import Derived.Test.YtmbccnioijokfaaGreatDoorMz4
import Derived.Test.YtmbccnioijokfaaGreatDoorMz1
import Derived.Test.YtmbccnioijokfaaGreatDoorMz5
import Derived.WideKeyArgs
import Derived.DeepKeys4
import Derived.MapViews
import Derived.Maps.OwnSet
import Derived.Lib.SliceRun
import Derived.Deep.Cut
import Derived.Great.BuildSlice
namespace Go.Proofs.YtmbccnioijokfaaGreatDoor
open Go.RowKit
attribute [local go_sem] Oper.semAt_some
def nmA : Array Value := #[.string ⟨#[97, 105, 114]⟩, .string ⟨#[115, 116, 111, 110, 101]⟩, .string ⟨#[100, 105, 114, 116]⟩, .string ⟨#[115, 97, 110, 100]⟩, .string ⟨#[108, 97, 100, 100, 101, 114]⟩, .string ⟨#[103, 108, 97, 115, 115]⟩, .string ⟨#[]⟩, .string ⟨#[]⟩, .string ⟨#[119, 97, 116, 101, 114, 48]⟩, .string ⟨#[119, 97, 116, 101, 114, 49]⟩, .string ⟨#[119, 97, 116, 101, 114, 50]⟩, .string ⟨#[119, 97, 116, 101, 114, 51]⟩, .string ⟨#[119, 97, 116, 101, 114, 52]⟩, .string ⟨#[119, 97, 116, 101, 114, 53]⟩, .string ⟨#[119, 97, 116, 101, 114, 54]⟩, .string ⟨#[119, 97, 116, 101, 114, 55]⟩]
def nmL : List (List UInt8) := [[97, 105, 114], [115, 116, 111, 110, 101], [100, 105, 114, 116], [115, 97, 110, 100], [108, 97, 100, 100, 101, 114], [103, 108, 97, 115, 115], [], [], [119, 97, 116, 101, 114, 48], [119, 97, 116, 101, 114, 49], [119, 97, 116, 101, 114, 50], [119, 97, 116, 101, 114, 51], [119, 97, 116, 101, 114, 52], [119, 97, 116, 101, 114, 53], [119, 97, 116, 101, 114, 54], [119, 97, 116, 101, 114, 55]]
def nmK : Nat → Array Value
  | 0 => #[.string ⟨#[97, 105, 114]⟩, .string ⟨#[115, 116, 111, 110, 101]⟩, .string ⟨#[100, 105, 114, 116]⟩, .string ⟨#[115, 97, 110, 100]⟩, .string ⟨#[108, 97, 100, 100, 101, 114]⟩, .string ⟨#[103, 108, 97, 115, 115]⟩, .string ⟨#[]⟩, .string ⟨#[]⟩, .string ⟨#[]⟩, .string ⟨#[]⟩, .string ⟨#[]⟩, .string ⟨#[]⟩, .string ⟨#[]⟩, .string ⟨#[]⟩, .string ⟨#[]⟩, .string ⟨#[]⟩]
  | 1 => #[.string ⟨#[97, 105, 114]⟩, .string ⟨#[115, 116, 111, 110, 101]⟩, .string ⟨#[100, 105, 114, 116]⟩, .string ⟨#[115, 97, 110, 100]⟩, .string ⟨#[108, 97, 100, 100, 101, 114]⟩, .string ⟨#[103, 108, 97, 115, 115]⟩, .string ⟨#[]⟩, .string ⟨#[]⟩, .string ⟨#[119, 97, 116, 101, 114, 48]⟩, .string ⟨#[]⟩, .string ⟨#[]⟩, .string ⟨#[]⟩, .string ⟨#[]⟩, .string ⟨#[]⟩, .string ⟨#[]⟩, .string ⟨#[]⟩]
  | 2 => #[.string ⟨#[97, 105, 114]⟩, .string ⟨#[115, 116, 111, 110, 101]⟩, .string ⟨#[100, 105, 114, 116]⟩, .string ⟨#[115, 97, 110, 100]⟩, .string ⟨#[108, 97, 100, 100, 101, 114]⟩, .string ⟨#[103, 108, 97, 115, 115]⟩, .string ⟨#[]⟩, .string ⟨#[]⟩, .string ⟨#[119, 97, 116, 101, 114, 48]⟩, .string ⟨#[119, 97, 116, 101, 114, 49]⟩, .string ⟨#[]⟩, .string ⟨#[]⟩, .string ⟨#[]⟩, .string ⟨#[]⟩, .string ⟨#[]⟩, .string ⟨#[]⟩]
  | 3 => #[.string ⟨#[97, 105, 114]⟩, .string ⟨#[115, 116, 111, 110, 101]⟩, .string ⟨#[100, 105, 114, 116]⟩, .string ⟨#[115, 97, 110, 100]⟩, .string ⟨#[108, 97, 100, 100, 101, 114]⟩, .string ⟨#[103, 108, 97, 115, 115]⟩, .string ⟨#[]⟩, .string ⟨#[]⟩, .string ⟨#[119, 97, 116, 101, 114, 48]⟩, .string ⟨#[119, 97, 116, 101, 114, 49]⟩, .string ⟨#[119, 97, 116, 101, 114, 50]⟩, .string ⟨#[]⟩, .string ⟨#[]⟩, .string ⟨#[]⟩, .string ⟨#[]⟩, .string ⟨#[]⟩]
  | 4 => #[.string ⟨#[97, 105, 114]⟩, .string ⟨#[115, 116, 111, 110, 101]⟩, .string ⟨#[100, 105, 114, 116]⟩, .string ⟨#[115, 97, 110, 100]⟩, .string ⟨#[108, 97, 100, 100, 101, 114]⟩, .string ⟨#[103, 108, 97, 115, 115]⟩, .string ⟨#[]⟩, .string ⟨#[]⟩, .string ⟨#[119, 97, 116, 101, 114, 48]⟩, .string ⟨#[119, 97, 116, 101, 114, 49]⟩, .string ⟨#[119, 97, 116, 101, 114, 50]⟩, .string ⟨#[119, 97, 116, 101, 114, 51]⟩, .string ⟨#[]⟩, .string ⟨#[]⟩, .string ⟨#[]⟩, .string ⟨#[]⟩]
  | 5 => #[.string ⟨#[97, 105, 114]⟩, .string ⟨#[115, 116, 111, 110, 101]⟩, .string ⟨#[100, 105, 114, 116]⟩, .string ⟨#[115, 97, 110, 100]⟩, .string ⟨#[108, 97, 100, 100, 101, 114]⟩, .string ⟨#[103, 108, 97, 115, 115]⟩, .string ⟨#[]⟩, .string ⟨#[]⟩, .string ⟨#[119, 97, 116, 101, 114, 48]⟩, .string ⟨#[119, 97, 116, 101, 114, 49]⟩, .string ⟨#[119, 97, 116, 101, 114, 50]⟩, .string ⟨#[119, 97, 116, 101, 114, 51]⟩, .string ⟨#[119, 97, 116, 101, 114, 52]⟩, .string ⟨#[]⟩, .string ⟨#[]⟩, .string ⟨#[]⟩]
  | 6 => #[.string ⟨#[97, 105, 114]⟩, .string ⟨#[115, 116, 111, 110, 101]⟩, .string ⟨#[100, 105, 114, 116]⟩, .string ⟨#[115, 97, 110, 100]⟩, .string ⟨#[108, 97, 100, 100, 101, 114]⟩, .string ⟨#[103, 108, 97, 115, 115]⟩, .string ⟨#[]⟩, .string ⟨#[]⟩, .string ⟨#[119, 97, 116, 101, 114, 48]⟩, .string ⟨#[119, 97, 116, 101, 114, 49]⟩, .string ⟨#[119, 97, 116, 101, 114, 50]⟩, .string ⟨#[119, 97, 116, 101, 114, 51]⟩, .string ⟨#[119, 97, 116, 101, 114, 52]⟩, .string ⟨#[119, 97, 116, 101, 114, 53]⟩, .string ⟨#[]⟩, .string ⟨#[]⟩]
  | 7 => #[.string ⟨#[97, 105, 114]⟩, .string ⟨#[115, 116, 111, 110, 101]⟩, .string ⟨#[100, 105, 114, 116]⟩, .string ⟨#[115, 97, 110, 100]⟩, .string ⟨#[108, 97, 100, 100, 101, 114]⟩, .string ⟨#[103, 108, 97, 115, 115]⟩, .string ⟨#[]⟩, .string ⟨#[]⟩, .string ⟨#[119, 97, 116, 101, 114, 48]⟩, .string ⟨#[119, 97, 116, 101, 114, 49]⟩, .string ⟨#[119, 97, 116, 101, 114, 50]⟩, .string ⟨#[119, 97, 116, 101, 114, 51]⟩, .string ⟨#[119, 97, 116, 101, 114, 52]⟩, .string ⟨#[119, 97, 116, 101, 114, 53]⟩, .string ⟨#[119, 97, 116, 101, 114, 54]⟩, .string ⟨#[]⟩]
  | _ => nmA
theorem itoa_d (n : Int) (k : Nat) (hk : k < 100) (hn : n = k) (l : Array UInt8) (hl : (Lib.decDigits k).toArray = l) (w : World) : Calls Tryz.prog 115 #[.int .i64 n] w fun e w' => e = .returned (.string ⟨l⟩) ∧ w = w' := by
  subst hn hl
  exact (Tryz.strconv_Itoa_small k hk w).mono fun _ _ ⟨h1, h2⟩ => ⟨h1, h2.symm⟩
set_option maxRecDepth 100000 in
set_option maxHeartbeats 4000000 in
theorem names_c (w : World) : Calls Tryz.prog 147 #[] w fun r w' => r = .returned (.agg nmA) ∧ Below w.heap.size w w' := by
  obtain ⟨W0, hW⟩ : ∃ W0, W0 = ((w.alloc (.cells #[.string ⟨#[]⟩, .string ⟨#[]⟩, .string ⟨#[]⟩, .string ⟨#[]⟩, .string ⟨#[]⟩, .string ⟨#[]⟩, .string ⟨#[]⟩, .string ⟨#[]⟩, .string ⟨#[]⟩, .string ⟨#[]⟩, .string ⟨#[]⟩, .string ⟨#[]⟩, .string ⟨#[]⟩, .string ⟨#[]⟩, .string ⟨#[]⟩, .string ⟨#[]⟩] 214)).alloc (.cells #[.string ⟨#[97, 105, 114]⟩, .string ⟨#[115, 116, 111, 110, 101]⟩, .string ⟨#[100, 105, 114, 116]⟩, .string ⟨#[115, 97, 110, 100]⟩, .string ⟨#[108, 97, 100, 100, 101, 114]⟩, .string ⟨#[103, 108, 97, 115, 115]⟩, .string ⟨#[]⟩, .string ⟨#[]⟩, .string ⟨#[]⟩, .string ⟨#[]⟩, .string ⟨#[]⟩, .string ⟨#[]⟩, .string ⟨#[]⟩, .string ⟨#[]⟩, .string ⟨#[]⟩, .string ⟨#[]⟩] 214)) := ⟨_, rfl⟩
  have H : Below w.heap.size w W0 := by rw [hW]; go_grown
  have R : Blk W0 w.heap.size 214 #[.string ⟨#[]⟩, .string ⟨#[]⟩, .string ⟨#[]⟩, .string ⟨#[]⟩, .string ⟨#[]⟩, .string ⟨#[]⟩, .string ⟨#[]⟩, .string ⟨#[]⟩, .string ⟨#[]⟩, .string ⟨#[]⟩, .string ⟨#[]⟩, .string ⟨#[]⟩, .string ⟨#[]⟩, .string ⟨#[]⟩, .string ⟨#[]⟩, .string ⟨#[]⟩] := by rw [hW]; exact (Blk.new' rfl).alloc _
  have B0 : Blk W0 (w.heap.size + 1) 214 #[.string ⟨#[97, 105, 114]⟩, .string ⟨#[115, 116, 111, 110, 101]⟩, .string ⟨#[100, 105, 114, 116]⟩, .string ⟨#[115, 97, 110, 100]⟩, .string ⟨#[108, 97, 100, 100, 101, 114]⟩, .string ⟨#[103, 108, 97, 115, 115]⟩, .string ⟨#[]⟩, .string ⟨#[]⟩, .string ⟨#[]⟩, .string ⟨#[]⟩, .string ⟨#[]⟩, .string ⟨#[]⟩, .string ⟨#[]⟩, .string ⟨#[]⟩, .string ⟨#[]⟩, .string ⟨#[]⟩] := by rw [hW]; exact Blk.new' (by simp)
  have HG := Lib.hid (show w.heap.size < w.heap.size + 1 by omega)
  go_enter Tryz.func147, Tryz.ntmps147
  go_upto_region 2 with (fail)
  rw [← hW]
  clear hW
  generalize hg : w.heap.size + 1 = g at *
  clear hg
  go_wp2_with fail
  go_loopw [4] (fun iv wr => ∃ k : Nat, k ≤ 8 ∧ iv = .int .i64 k ∧ Blk wr g 214 (nmK k) ∧ Below w.heap.size w wr ∧ Blk wr w.heap.size 214 #[.string ⟨#[]⟩, .string ⟨#[]⟩, .string ⟨#[]⟩, .string ⟨#[]⟩, .string ⟨#[]⟩, .string ⟨#[]⟩, .string ⟨#[]⟩, .string ⟨#[]⟩, .string ⟨#[]⟩, .string ⟨#[]⟩, .string ⟨#[]⟩, .string ⟨#[]⟩, .string ⟨#[]⟩, .string ⟨#[]⟩, .string ⟨#[]⟩, .string ⟨#[]⟩]) (fun iv _ => 8 - (intOf iv).toNat)
  case atStart => exact ⟨0, by omega, rfl, B0, H, R⟩
  case round =>
    obtain ⟨k, hk, hiv, hB0, h2, h3⟩ := hrel
    clear B0 H R
    rcases (by omega : k = 0 ∨ k = 1 ∨ k = 2 ∨ k = 3 ∨ k = 4 ∨ k = 5 ∨ k = 6 ∨ k = 7 ∨ k = 8) with rfl | rfl | rfl | rfl | rfl | rfl | rfl | rfl | rfl
    · obtain rfl : _ = Value.int .i64 0 := hiv
      have hB : Blk wr g 214 #[.string ⟨#[97, 105, 114]⟩, .string ⟨#[115, 116, 111, 110, 101]⟩, .string ⟨#[100, 105, 114, 116]⟩, .string ⟨#[115, 97, 110, 100]⟩, .string ⟨#[108, 97, 100, 100, 101, 114]⟩, .string ⟨#[103, 108, 97, 115, 115]⟩, .string ⟨#[]⟩, .string ⟨#[]⟩, .string ⟨#[]⟩, .string ⟨#[]⟩, .string ⟨#[]⟩, .string ⟨#[]⟩, .string ⟨#[]⟩, .string ⟨#[]⟩, .string ⟨#[]⟩, .string ⟨#[]⟩] := hB0
      clear hB0
      have c8 := hB.cell 8
      have f8 := hB.frz 8
      go_wp2_with (go_at_call 115; refine (itoa_d 0 0 (by decide) rfl #[48] (by simp [Lib.decDigits]; done) _).mono ?_; rintro e_ w_ ⟨rfl, rfl⟩)
      go_roundw
      case rel => exact ⟨1, by omega, rfl, hB.set_ 8 (.string ⟨#[119, 97, 116, 101, 114, 48]⟩), h2.setCell (p := ⟨g, 8, none⟩) (by have := HG.out; dsimp only; omega) _, Blk.far h3 (p := ⟨g, 8, none⟩) (by have := HG.out; dsimp only; omega) _⟩
      case measure => simp [intOf]
    · obtain rfl : _ = Value.int .i64 1 := hiv
      have hB : Blk wr g 214 #[.string ⟨#[97, 105, 114]⟩, .string ⟨#[115, 116, 111, 110, 101]⟩, .string ⟨#[100, 105, 114, 116]⟩, .string ⟨#[115, 97, 110, 100]⟩, .string ⟨#[108, 97, 100, 100, 101, 114]⟩, .string ⟨#[103, 108, 97, 115, 115]⟩, .string ⟨#[]⟩, .string ⟨#[]⟩, .string ⟨#[119, 97, 116, 101, 114, 48]⟩, .string ⟨#[]⟩, .string ⟨#[]⟩, .string ⟨#[]⟩, .string ⟨#[]⟩, .string ⟨#[]⟩, .string ⟨#[]⟩, .string ⟨#[]⟩] := hB0
      clear hB0
      have c9 := hB.cell 9
      have f9 := hB.frz 9
      go_wp2_with (go_at_call 115; refine (itoa_d 1 1 (by decide) rfl #[49] (by simp [Lib.decDigits]; done) _).mono ?_; rintro e_ w_ ⟨rfl, rfl⟩)
      go_roundw
      case rel => exact ⟨2, by omega, rfl, hB.set_ 9 (.string ⟨#[119, 97, 116, 101, 114, 49]⟩), h2.setCell (p := ⟨g, 9, none⟩) (by have := HG.out; dsimp only; omega) _, Blk.far h3 (p := ⟨g, 9, none⟩) (by have := HG.out; dsimp only; omega) _⟩
      case measure => simp [intOf]
    · obtain rfl : _ = Value.int .i64 2 := hiv
      have hB : Blk wr g 214 #[.string ⟨#[97, 105, 114]⟩, .string ⟨#[115, 116, 111, 110, 101]⟩, .string ⟨#[100, 105, 114, 116]⟩, .string ⟨#[115, 97, 110, 100]⟩, .string ⟨#[108, 97, 100, 100, 101, 114]⟩, .string ⟨#[103, 108, 97, 115, 115]⟩, .string ⟨#[]⟩, .string ⟨#[]⟩, .string ⟨#[119, 97, 116, 101, 114, 48]⟩, .string ⟨#[119, 97, 116, 101, 114, 49]⟩, .string ⟨#[]⟩, .string ⟨#[]⟩, .string ⟨#[]⟩, .string ⟨#[]⟩, .string ⟨#[]⟩, .string ⟨#[]⟩] := hB0
      clear hB0
      have c10 := hB.cell 10
      have f10 := hB.frz 10
      go_wp2_with (go_at_call 115; refine (itoa_d 2 2 (by decide) rfl #[50] (by simp [Lib.decDigits]; done) _).mono ?_; rintro e_ w_ ⟨rfl, rfl⟩)
      go_roundw
      case rel => exact ⟨3, by omega, rfl, hB.set_ 10 (.string ⟨#[119, 97, 116, 101, 114, 50]⟩), h2.setCell (p := ⟨g, 10, none⟩) (by have := HG.out; dsimp only; omega) _, Blk.far h3 (p := ⟨g, 10, none⟩) (by have := HG.out; dsimp only; omega) _⟩
      case measure => simp [intOf]
    · obtain rfl : _ = Value.int .i64 3 := hiv
      have hB : Blk wr g 214 #[.string ⟨#[97, 105, 114]⟩, .string ⟨#[115, 116, 111, 110, 101]⟩, .string ⟨#[100, 105, 114, 116]⟩, .string ⟨#[115, 97, 110, 100]⟩, .string ⟨#[108, 97, 100, 100, 101, 114]⟩, .string ⟨#[103, 108, 97, 115, 115]⟩, .string ⟨#[]⟩, .string ⟨#[]⟩, .string ⟨#[119, 97, 116, 101, 114, 48]⟩, .string ⟨#[119, 97, 116, 101, 114, 49]⟩, .string ⟨#[119, 97, 116, 101, 114, 50]⟩, .string ⟨#[]⟩, .string ⟨#[]⟩, .string ⟨#[]⟩, .string ⟨#[]⟩, .string ⟨#[]⟩] := hB0
      clear hB0
      have c11 := hB.cell 11
      have f11 := hB.frz 11
      go_wp2_with (go_at_call 115; refine (itoa_d 3 3 (by decide) rfl #[51] (by simp [Lib.decDigits]; done) _).mono ?_; rintro e_ w_ ⟨rfl, rfl⟩)
      go_roundw
      case rel => exact ⟨4, by omega, rfl, hB.set_ 11 (.string ⟨#[119, 97, 116, 101, 114, 51]⟩), h2.setCell (p := ⟨g, 11, none⟩) (by have := HG.out; dsimp only; omega) _, Blk.far h3 (p := ⟨g, 11, none⟩) (by have := HG.out; dsimp only; omega) _⟩
      case measure => simp [intOf]
    · obtain rfl : _ = Value.int .i64 4 := hiv
      have hB : Blk wr g 214 #[.string ⟨#[97, 105, 114]⟩, .string ⟨#[115, 116, 111, 110, 101]⟩, .string ⟨#[100, 105, 114, 116]⟩, .string ⟨#[115, 97, 110, 100]⟩, .string ⟨#[108, 97, 100, 100, 101, 114]⟩, .string ⟨#[103, 108, 97, 115, 115]⟩, .string ⟨#[]⟩, .string ⟨#[]⟩, .string ⟨#[119, 97, 116, 101, 114, 48]⟩, .string ⟨#[119, 97, 116, 101, 114, 49]⟩, .string ⟨#[119, 97, 116, 101, 114, 50]⟩, .string ⟨#[119, 97, 116, 101, 114, 51]⟩, .string ⟨#[]⟩, .string ⟨#[]⟩, .string ⟨#[]⟩, .string ⟨#[]⟩] := hB0
      clear hB0
      have c12 := hB.cell 12
      have f12 := hB.frz 12
      go_wp2_with (go_at_call 115; refine (itoa_d 4 4 (by decide) rfl #[52] (by simp [Lib.decDigits]; done) _).mono ?_; rintro e_ w_ ⟨rfl, rfl⟩)
      go_roundw
      case rel => exact ⟨5, by omega, rfl, hB.set_ 12 (.string ⟨#[119, 97, 116, 101, 114, 52]⟩), h2.setCell (p := ⟨g, 12, none⟩) (by have := HG.out; dsimp only; omega) _, Blk.far h3 (p := ⟨g, 12, none⟩) (by have := HG.out; dsimp only; omega) _⟩
      case measure => simp [intOf]
    · obtain rfl : _ = Value.int .i64 5 := hiv
      have hB : Blk wr g 214 #[.string ⟨#[97, 105, 114]⟩, .string ⟨#[115, 116, 111, 110, 101]⟩, .string ⟨#[100, 105, 114, 116]⟩, .string ⟨#[115, 97, 110, 100]⟩, .string ⟨#[108, 97, 100, 100, 101, 114]⟩, .string ⟨#[103, 108, 97, 115, 115]⟩, .string ⟨#[]⟩, .string ⟨#[]⟩, .string ⟨#[119, 97, 116, 101, 114, 48]⟩, .string ⟨#[119, 97, 116, 101, 114, 49]⟩, .string ⟨#[119, 97, 116, 101, 114, 50]⟩, .string ⟨#[119, 97, 116, 101, 114, 51]⟩, .string ⟨#[119, 97, 116, 101, 114, 52]⟩, .string ⟨#[]⟩, .string ⟨#[]⟩, .string ⟨#[]⟩] := hB0
      clear hB0
      have c13 := hB.cell 13
      have f13 := hB.frz 13
      go_wp2_with (go_at_call 115; refine (itoa_d 5 5 (by decide) rfl #[53] (by simp [Lib.decDigits]; done) _).mono ?_; rintro e_ w_ ⟨rfl, rfl⟩)
      go_roundw
      case rel => exact ⟨6, by omega, rfl, hB.set_ 13 (.string ⟨#[119, 97, 116, 101, 114, 53]⟩), h2.setCell (p := ⟨g, 13, none⟩) (by have := HG.out; dsimp only; omega) _, Blk.far h3 (p := ⟨g, 13, none⟩) (by have := HG.out; dsimp only; omega) _⟩
      case measure => simp [intOf]
    · obtain rfl : _ = Value.int .i64 6 := hiv
      have hB : Blk wr g 214 #[.string ⟨#[97, 105, 114]⟩, .string ⟨#[115, 116, 111, 110, 101]⟩, .string ⟨#[100, 105, 114, 116]⟩, .string ⟨#[115, 97, 110, 100]⟩, .string ⟨#[108, 97, 100, 100, 101, 114]⟩, .string ⟨#[103, 108, 97, 115, 115]⟩, .string ⟨#[]⟩, .string ⟨#[]⟩, .string ⟨#[119, 97, 116, 101, 114, 48]⟩, .string ⟨#[119, 97, 116, 101, 114, 49]⟩, .string ⟨#[119, 97, 116, 101, 114, 50]⟩, .string ⟨#[119, 97, 116, 101, 114, 51]⟩, .string ⟨#[119, 97, 116, 101, 114, 52]⟩, .string ⟨#[119, 97, 116, 101, 114, 53]⟩, .string ⟨#[]⟩, .string ⟨#[]⟩] := hB0
      clear hB0
      have c14 := hB.cell 14
      have f14 := hB.frz 14
      go_wp2_with (go_at_call 115; refine (itoa_d 6 6 (by decide) rfl #[54] (by simp [Lib.decDigits]; done) _).mono ?_; rintro e_ w_ ⟨rfl, rfl⟩)
      go_roundw
      case rel => exact ⟨7, by omega, rfl, hB.set_ 14 (.string ⟨#[119, 97, 116, 101, 114, 54]⟩), h2.setCell (p := ⟨g, 14, none⟩) (by have := HG.out; dsimp only; omega) _, Blk.far h3 (p := ⟨g, 14, none⟩) (by have := HG.out; dsimp only; omega) _⟩
      case measure => simp [intOf]
    · obtain rfl : _ = Value.int .i64 7 := hiv
      have hB : Blk wr g 214 #[.string ⟨#[97, 105, 114]⟩, .string ⟨#[115, 116, 111, 110, 101]⟩, .string ⟨#[100, 105, 114, 116]⟩, .string ⟨#[115, 97, 110, 100]⟩, .string ⟨#[108, 97, 100, 100, 101, 114]⟩, .string ⟨#[103, 108, 97, 115, 115]⟩, .string ⟨#[]⟩, .string ⟨#[]⟩, .string ⟨#[119, 97, 116, 101, 114, 48]⟩, .string ⟨#[119, 97, 116, 101, 114, 49]⟩, .string ⟨#[119, 97, 116, 101, 114, 50]⟩, .string ⟨#[119, 97, 116, 101, 114, 51]⟩, .string ⟨#[119, 97, 116, 101, 114, 52]⟩, .string ⟨#[119, 97, 116, 101, 114, 53]⟩, .string ⟨#[119, 97, 116, 101, 114, 54]⟩, .string ⟨#[]⟩] := hB0
      clear hB0
      have c15 := hB.cell 15
      have f15 := hB.frz 15
      go_wp2_with (go_at_call 115; refine (itoa_d 7 7 (by decide) rfl #[55] (by simp [Lib.decDigits]; done) _).mono ?_; rintro e_ w_ ⟨rfl, rfl⟩)
      go_roundw
      case rel => exact ⟨8, by omega, rfl, hB.set_ 15 (.string ⟨#[119, 97, 116, 101, 114, 55]⟩), h2.setCell (p := ⟨g, 15, none⟩) (by have := HG.out; dsimp only; omega) _, Blk.far h3 (p := ⟨g, 15, none⟩) (by have := HG.out; dsimp only; omega) _⟩
      case measure => simp [intOf]
    · obtain rfl : _ = Value.int .i64 8 := hiv
      have hB : Blk wr g 214 nmA := hB0
      clear hB0
      unfold nmA at hB
      have c0 := hB.cell 0
      have c1 := hB.cell 1
      have c2 := hB.cell 2
      have c3 := hB.cell 3
      have c4 := hB.cell 4
      have c5 := hB.cell 5
      have c6 := hB.cell 6
      have c7 := hB.cell 7
      have c8 := hB.cell 8
      have c9 := hB.cell 9
      have c10 := hB.cell 10
      have c11 := hB.cell 11
      have c12 := hB.cell 12
      have c13 := hB.cell 13
      have c14 := hB.cell 14
      have c15 := hB.cell 15
      have r0 := h3.cell 0
      have f0 := h3.frz 0
      have r1 := h3.cell 1
      have f1 := h3.frz 1
      have r2 := h3.cell 2
      have f2 := h3.frz 2
      have r3 := h3.cell 3
      have f3 := h3.frz 3
      have r4 := h3.cell 4
      have f4 := h3.frz 4
      have r5 := h3.cell 5
      have f5 := h3.frz 5
      have r6 := h3.cell 6
      have f6 := h3.frz 6
      have r7 := h3.cell 7
      have f7 := h3.frz 7
      have r8 := h3.cell 8
      have f8 := h3.frz 8
      have r9 := h3.cell 9
      have f9 := h3.frz 9
      have r10 := h3.cell 10
      have f10 := h3.frz 10
      have r11 := h3.cell 11
      have f11 := h3.frz 11
      have r12 := h3.cell 12
      have f12 := h3.frz 12
      have r13 := h3.cell 13
      have f13 := h3.frz 13
      have r14 := h3.cell 14
      have f14 := h3.frz 14
      have r15 := h3.cell 15
      have f15 := h3.frz 15
      simp only [List.getElem?_toArray, List.getElem?_cons_zero, List.getElem?_cons_succ] at c0 r0 c1 r1 c2 r2 c3 r3 c4 r4 c5 r5 c6 r6 c7 r7 c8 r8 c9 r9 c10 r10 c11 r11 c12 r12 c13 r13 c14 r14 c15 r15
      clear hB
      go_wp2_with fail
      have R2 := ((((((((((((((((h3.set_ 0 (.string ⟨#[97, 105, 114]⟩)).set_ 1 (.string ⟨#[115, 116, 111, 110, 101]⟩)).set_ 2 (.string ⟨#[100, 105, 114, 116]⟩)).set_ 3 (.string ⟨#[115, 97, 110, 100]⟩)).set_ 4 (.string ⟨#[108, 97, 100, 100, 101, 114]⟩)).set_ 5 (.string ⟨#[103, 108, 97, 115, 115]⟩)).set_ 6 (.string ⟨#[]⟩)).set_ 7 (.string ⟨#[]⟩)).set_ 8 (.string ⟨#[119, 97, 116, 101, 114, 48]⟩)).set_ 9 (.string ⟨#[119, 97, 116, 101, 114, 49]⟩)).set_ 10 (.string ⟨#[119, 97, 116, 101, 114, 50]⟩)).set_ 11 (.string ⟨#[119, 97, 116, 101, 114, 51]⟩)).set_ 12 (.string ⟨#[119, 97, 116, 101, 114, 52]⟩)).set_ 13 (.string ⟨#[119, 97, 116, 101, 114, 53]⟩)).set_ 14 (.string ⟨#[119, 97, 116, 101, 114, 54]⟩)).set_ 15 (.string ⟨#[119, 97, 116, 101, 114, 55]⟩))
      have d0 := R2.cell 0
      have d1 := R2.cell 1
      have d2 := R2.cell 2
      have d3 := R2.cell 3
      have d4 := R2.cell 4
      have d5 := R2.cell 5
      have d6 := R2.cell 6
      have d7 := R2.cell 7
      have d8 := R2.cell 8
      have d9 := R2.cell 9
      have d10 := R2.cell 10
      have d11 := R2.cell 11
      have d12 := R2.cell 12
      have d13 := R2.cell 13
      have d14 := R2.cell 14
      have d15 := R2.cell 15
      simp only [List.setIfInBounds_toArray, List.set_cons_zero, List.set_cons_succ, List.getElem?_toArray, List.getElem?_cons_zero, List.getElem?_cons_succ] at d0 d1 d2 d3 d4 d5 d6 d7 d8 d9 d10 d11 d12 d13 d14 d15
      refine bodyPost_ret (v := .agg nmA) (by simp [nmA, results, Tryz.results147, go_sem, d0, d1, d2, d3, d4, d5, d6, d7, d8, d9, d10, d11, d12, d13, d14, d15]) rfl ⟨rfl, ?_⟩
      have h0 := HG.out
      repeat (refine Below.setCell ?_ (by dsimp only; omega) _)
      exact h2
end Go.Proofs.YtmbccnioijokfaaGreatDoor

namespace Go.Proofs.YtmbccnioijokfaaGreatDoor
open Go.RowKit
attribute [local go_sem] Oper.semAt_some
def blkN (b : Int) : List UInt8 := if 0 ≤ b then (nmL[b.toNat]?).getD [] else []
def mayK (b : Int) : Bool := !(blkN b).isEmpty
theorem nmi0 (w : World) : (Instr.index 214 (.agg nmA) (.int .i64 0)).run Tryz.prog w = .ok (.string ⟨#[97, 105, 114]⟩) w := by kernel_rfl
theorem nmi1 (w : World) : (Instr.index 214 (.agg nmA) (.int .i64 1)).run Tryz.prog w = .ok (.string ⟨#[115, 116, 111, 110, 101]⟩) w := by kernel_rfl
theorem nmi2 (w : World) : (Instr.index 214 (.agg nmA) (.int .i64 2)).run Tryz.prog w = .ok (.string ⟨#[100, 105, 114, 116]⟩) w := by kernel_rfl
theorem nmi3 (w : World) : (Instr.index 214 (.agg nmA) (.int .i64 3)).run Tryz.prog w = .ok (.string ⟨#[115, 97, 110, 100]⟩) w := by kernel_rfl
theorem nmi4 (w : World) : (Instr.index 214 (.agg nmA) (.int .i64 4)).run Tryz.prog w = .ok (.string ⟨#[108, 97, 100, 100, 101, 114]⟩) w := by kernel_rfl
theorem nmi5 (w : World) : (Instr.index 214 (.agg nmA) (.int .i64 5)).run Tryz.prog w = .ok (.string ⟨#[103, 108, 97, 115, 115]⟩) w := by kernel_rfl
theorem nmi6 (w : World) : (Instr.index 214 (.agg nmA) (.int .i64 6)).run Tryz.prog w = .ok (.string ⟨#[]⟩) w := by kernel_rfl
theorem nmi7 (w : World) : (Instr.index 214 (.agg nmA) (.int .i64 7)).run Tryz.prog w = .ok (.string ⟨#[]⟩) w := by kernel_rfl
theorem nmi8 (w : World) : (Instr.index 214 (.agg nmA) (.int .i64 8)).run Tryz.prog w = .ok (.string ⟨#[119, 97, 116, 101, 114, 48]⟩) w := by kernel_rfl
theorem nmi9 (w : World) : (Instr.index 214 (.agg nmA) (.int .i64 9)).run Tryz.prog w = .ok (.string ⟨#[119, 97, 116, 101, 114, 49]⟩) w := by kernel_rfl
theorem nmi10 (w : World) : (Instr.index 214 (.agg nmA) (.int .i64 10)).run Tryz.prog w = .ok (.string ⟨#[119, 97, 116, 101, 114, 50]⟩) w := by kernel_rfl
theorem nmi11 (w : World) : (Instr.index 214 (.agg nmA) (.int .i64 11)).run Tryz.prog w = .ok (.string ⟨#[119, 97, 116, 101, 114, 51]⟩) w := by kernel_rfl
theorem nmi12 (w : World) : (Instr.index 214 (.agg nmA) (.int .i64 12)).run Tryz.prog w = .ok (.string ⟨#[119, 97, 116, 101, 114, 52]⟩) w := by kernel_rfl
theorem nmi13 (w : World) : (Instr.index 214 (.agg nmA) (.int .i64 13)).run Tryz.prog w = .ok (.string ⟨#[119, 97, 116, 101, 114, 53]⟩) w := by kernel_rfl
theorem nmi14 (w : World) : (Instr.index 214 (.agg nmA) (.int .i64 14)).run Tryz.prog w = .ok (.string ⟨#[119, 97, 116, 101, 114, 54]⟩) w := by kernel_rfl
theorem nmi15 (w : World) : (Instr.index 214 (.agg nmA) (.int .i64 15)).run Tryz.prog w = .ok (.string ⟨#[119, 97, 116, 101, 114, 55]⟩) w := by kernel_rfl
theorem nm_index (b : Int) (h0 : 0 ≤ b) (h1 : b < 16) (w : World) : (Instr.index 214 (.agg nmA) (.int .i64 b)).run Tryz.prog w = .ok (.string ⟨(blkN b).toArray⟩) w := by
  rcases (by omega : b = 0 ∨ b = 1 ∨ b = 2 ∨ b = 3 ∨ b = 4 ∨ b = 5 ∨ b = 6 ∨ b = 7 ∨ b = 8 ∨ b = 9 ∨ b = 10 ∨ b = 11 ∨ b = 12 ∨ b = 13 ∨ b = 14 ∨ b = 15) with rfl | rfl | rfl | rfl | rfl | rfl | rfl | rfl | rfl | rfl | rfl | rfl | rfl | rfl | rfl | rfl
  · exact nmi0 w
  · exact nmi1 w
  · exact nmi2 w
  · exact nmi3 w
  · exact nmi4 w
  · exact nmi5 w
  · exact nmi6 w
  · exact nmi7 w
  · exact nmi8 w
  · exact nmi9 w
  · exact nmi10 w
  · exact nmi11 w
  · exact nmi12 w
  · exact nmi13 w
  · exact nmi14 w
  · exact nmi15 w
theorem blkN_out {b : Int} (h : b < 0 ∨ 16 ≤ b) : blkN b = [] := by
  unfold blkN
  split
  · rw [List.getElem?_eq_none (by show nmL.length ≤ _; rw [show nmL.length = 16 from rfl]; omega)]; rfl
  · rfl
set_option maxRecDepth 100000 in
set_option maxHeartbeats 1000000 in
theorem bname_c (b : Int) (w : World) : Calls Tryz.prog 101 #[.int .i64 b] w fun r w' => r = .returned (.string ⟨(blkN b).toArray⟩) ∧ Below w.heap.size w w' := by
  by_cases h0 : b < 0
  · rw [blkN_out (.inl h0)]
    go_enter Tryz.func101, Tryz.ntmps101
    go_wp2_with fail
    go_returns
    exact ⟨rfl, Below.refl _ _⟩
  · by_cases h1 : 16 ≤ b
    · rw [blkN_out (.inr h1)]
      go_enter Tryz.func101, Tryz.ntmps101
      go_wp2_with fail
      go_returns
      exact ⟨rfl, Below.refl _ _⟩
    · have hx := nm_index b (by omega) (by omega)
      have h0' : 0 ≤ b := by omega
      have h1' : b < 16 := by omega
      generalize blkN b = l at *
      go_enter Tryz.func101, Tryz.ntmps101
      go_wp2_with (go_at_call 147; refine (names_c _).mono ?_; rintro e_ w1 ⟨rfl, g1⟩; have G1 := Lib.hid g1; clear g1)
      go_returns
      exact ⟨rfl, G1.out⟩
end Go.Proofs.YtmbccnioijokfaaGreatDoor

namespace Go.Proofs.YtmbccnioijokfaaGreatDoor
open Go.RowKit
attribute [local go_sem] Oper.semAt_some
theorem RowR.row {w w' : World} {xs : List Rn} {r : Ending} (h : RowR w xs r w') : ∃ q c, r = .returned (.slice q xs.length c) ∧ Rd w' q 2 encR xs ∧ Below w.heap.size w w' := by
  obtain ⟨v, rfl, h2, h3⟩ := h
  obtain ⟨q, c, rfl, -, -, h4, -⟩ := h2.form lenRn
  exact ⟨q, c, rfl, h4, h3⟩
end Go.Proofs.YtmbccnioijokfaaGreatDoor

namespace Go.Proofs.YtmbccnioijokfaaGreatDoor
open Go.RowKit
attribute [local go_sem] Oper.semAt_some
def posB (a b a' b' : Int) : Bool := decide (a = a') && decide (b = b')
theorem posB_self (a b : Int) : posB a b a b = true := by simp [posB]
theorem posB_iff {a b a' b' : Int} : posB a b a' b' = true ↔ a = a' ∧ b = b' := by simp [posB]
theorem pos_guard : Tryz.prog.eqGuardType Tryz.prog.depth 123 = false := by kernel_rfl
theorem pos_eq (a b a' b' : Int) (w : World) : (binOp .eql 123 (.agg #[.int .i64 a, .int .i64 b]) (.agg #[.int .i64 a', .int .i64 b'])).run Tryz.prog w = .ok (.bool (posB a b a' b')) w := by
  rw [run_eql_struct]
  unfold posB
  simp [go_sem]
  by_cases h1 : a = a' <;> by_cases h2 : b = b' <;> simp [h1, h2]
structure CellsOk (cs : List Int) : Prop where
  len : cs.length = 8192
  may : ∀ b ∈ cs, mayK b = true
def ChA (c : Nat) (x z : Int) (cs : List Int) : Asn := fun w M => ∃ v R, Blk w c 186 #[.int .i64 x, .int .i64 z, v] ∧ Owns w 0 235 2 encR v R ∧ CanR R ∧ cellsR R = cs ∧ CellsOk cs ∧ ∀ b, M b ↔ b = c ∨ v.ownBlock = some b
theorem own_at {w : World} {base size : Nat} {e : TypeId} {α : Type} {enc : α → List Value} {v : Value} {xs : List α} (h : Owns w base e size enc v xs) {b : Nat} (hb : v.ownBlock = some b) : base ≤ b ∧ ∃ cur, Blk w b e cur := by
  rcases h.2 with ⟨rfl, _⟩ | ⟨g, cap, cur, rfl, hb', hg, _⟩
  · cases hb
  · simp [Value.ownBlock] at hb
    subst hb
    exact ⟨hb', cur, hg⟩
theorem Owns.keep {w w' : World} {base size : Nat} {e : TypeId} {α : Type} {enc : α → List Value} {v : Value} {xs : List α} {K : Nat → Prop} (h : Owns w base e size enc v xs) (hk : Kept K w w') (hK : ∀ b, v.ownBlock = some b → K b) : Owns w' base e size enc v xs := by
  refine ⟨h.1, ?_⟩
  rcases h.2 with h0 | ⟨g, cap, cur, hv, hbg, hg, r⟩
  · exact .inl h0
  · exact .inr ⟨g, cap, cur, hv, hbg, (hk.block g (Array.getElem?_eq_some_iff.1 hg).1 (hK g (by rw [hv]; rfl))).trans hg, r⟩
theorem one_type {w : World} {g : Nat} {t t' : TypeId} {cs cs' : Array Value} (h : Blk w g t cs) (h' : Blk w g t' cs') : t = t' := by
  unfold Blk at h h'
  rw [h] at h'
  simp only [Option.some.injEq, Obj.cells.injEq] at h'
  exact h'.2.1
theorem chA_fit (c : Nat) (x z : Int) (cs : List Int) : Asn.Fit 5 (ChA c x z cs) where
  lt := fun ⟨v, R, h1, h2, _, _, _, hM⟩ b hb => by
    rcases (hM b).1 hb with rfl | hb
    · exact h1.lt
    · exact (h2.block b hb).2
  nob := fun ⟨v, R, h1, h2, _, _, _, hM⟩ b hb cs' hB => by
    rcases (hM b).1 hb with rfl | hb
    · exact absurd (one_type h1 hB) (by decide)
    · obtain ⟨-, cur, h3⟩ := own_at h2 hb
      exact absurd (one_type h3 hB) (by decide)
  kept := fun ⟨v, R, h1, h2, h3, h4, h5, hM⟩ hk k1 _ => ⟨v, R, hk.blk (k1 _ ((hM _).2 (.inl rfl))) h1, h2.keep hk (fun b hb => k1 b ((hM b).2 (.inr hb))), h3, h4, h5, hM⟩
theorem lenR_of {R : List Rn} {cs : List Int} (h : CanR R) (e : cellsR R = cs) (ok : CellsOk cs) : lenR R = 8192 := by
  rw [lenR_cells (fun r hr => by have := h.pos r hr; omega), e, ok.len]; rfl
theorem idxI_bd {x y z : Int} (h : 0 ≤ y ∧ y < 32) : 0 ≤ idxI x y z ∧ idxI x y z < 8192 := by unfold idxI; omega
def chB (cs : List Int) (x y z : Int) : Int := (cs[(idxI x y z).toNat]?).getD (-1)
set_option maxRecDepth 100000 in
set_option maxHeartbeats 1000000 in
theorem cplace_c (x z : Int) (w : World) : Calls Tryz.prog 120 #[.agg #[.int .i64 x, .int .i64 z]] w fun r w' => r = .returned (.agg #[.int .i64 x, .int .i64 z]) ∧ Below w.heap.size w w' := by
  obtain ⟨W, hW⟩ : ∃ W, W = (w.alloc (.cells #[.int .i64 x, .int .i64 z] 183)).alloc (.cells #[.int .i64 0, .int .i64 0] 123) := ⟨_, rfl⟩
  have H : Below w.heap.size w W := by rw [hW]; go_grown
  have U : Blk W w.heap.size 183 #[.int .i64 x, .int .i64 z] := by rw [hW]; exact (Blk.new' rfl).alloc _
  have R : Blk W (w.heap.size + 1) 123 #[.int .i64 0, .int .i64 0] := by rw [hW]; exact Blk.new' (by simp)
  obtain ⟨u0, u1, -, -⟩ := U.pair
  obtain ⟨r0, r1, f0, f1⟩ := R.pair
  have HR := Lib.hid (show w.heap.size ≤ w.heap.size + 1 by omega)
  go_enter Tryz.func120, Tryz.ntmps120
  go_upto_region 1 with (fail)
  rw [← hW]
  clear hW
  generalize w.heap.size + 1 = g at *
  go_wp2_with fail
  have R2 := R.stp (.int .i64 x) (.int .i64 z)
  obtain ⟨d0, d1, -, -⟩ := R2.pair
  refine bodyPost_ret (v := .agg #[.int .i64 x, .int .i64 z]) (by simp [results, Tryz.results120, go_sem, d0, d1]) rfl ⟨rfl, ?_⟩
  have h0 := HR.out
  repeat (refine Below.setCell ?_ (by dsimp only; omega) _)
  exact H
theorem idxT_no {x y z : Int} (h : inY y = false) : idxT x y z = .tuple #[.int .i64 0, .bool false] := by unfold idxT; rw [h]; rfl
theorem idxT_yes {x y z : Int} (h : inY y = true) : idxT x y z = .tuple #[.int .i64 (idxI x y z), .bool true] := by unfold idxT; rw [h]; rfl
set_option maxRecDepth 100000 in
set_option maxHeartbeats 1000000 in
theorem cpindex_c (x y z px pz : Int) (hx : In64 x) (hz : In64 z) (h1 : x / 16 = px) (h2 : z / 16 = pz) (w : World) : Calls Tryz.prog 159 #[.agg #[.int .i64 px, .int .i64 pz], .agg #[.int .i64 x, .int .i64 y, .int .i64 z]] w fun r w' => r = .returned (idxT x y z) ∧ Below w.heap.size w w' := by
  have pe := pos_eq
  have pg := pos_guard
  have ps := posB_self px pz
  obtain ⟨W, hW⟩ : ∃ W, W = (w.alloc (.cells #[.int .i64 px, .int .i64 pz] 183)).alloc (.cells #[.int .i64 x, .int .i64 y, .int .i64 z] 43) := ⟨_, rfl⟩
  have H : Below w.heap.size w W := by rw [hW]; go_grown
  have U : Blk W w.heap.size 183 #[.int .i64 px, .int .i64 pz] := by rw [hW]; exact (Blk.new' rfl).alloc _
  have C : Blk W (w.heap.size + 1) 43 #[.int .i64 x, .int .i64 y, .int .i64 z] := by rw [hW]; exact Blk.new' (by simp)
  have HI := Lib.hid (cindex_c x y z hx hz W)
  have HC := Lib.hid fun W => cchunk_c x y z hx hz W
  rw [h1, h2] at HC
  have HH := Lib.hid H
  obtain ⟨c0, c1, c2, -, -, -⟩ := C.c3
  clear h1 h2 hx hz H
  cases hy : inY y
  · have hyv := Lib.hid (idxT_no (x := x) (z := z) hy)
    rw [hyv.out] at HI ⊢
    clear hy
    go_enter Tryz.func159, Tryz.ntmps159
    go_upto_region 1 with (fail)
    rw [← hW]
    clear hW
    go_upto_region 2 with (go_at_call 208; refine HI.out.mono ?_; rintro e_ w1 ⟨rfl, g1⟩; have G1 := Lib.hid g1; clear g1)
    refine wp_region_quiet_below (by kernel_rfl) (by kernel_rfl) ?_
    repeat (go_big_quiet_step (fail))
    refine wpQuiet_nil ?_
    intro w' hw'
    obtain ⟨rg, rfl⟩ := hw'
    go_wp2_with fail
    go_returns
    exact ⟨rfl, after (after HH.out G1.out) (below_regrown w1 _ _)⟩
  · have hyv := Lib.hid (idxT_yes (x := x) (z := z) hy)
    rw [hyv.out] at HI ⊢
    generalize idxI x y z = i at *
    clear hy
    go_enter Tryz.func159, Tryz.ntmps159
    go_upto_region 1 with (fail)
    rw [← hW]
    clear hW
    go_upto_region 2 with (go_at_call 208; refine HI.out.mono ?_; rintro e_ w1 ⟨rfl, g1⟩; have G1 := Lib.hid g1; have y0 := (C.on g1).re3; have y1 := (U.on g1).rep; clear g1)
    obtain ⟨z0, z1, z2⟩ := y0
    obtain ⟨k0, k1⟩ := y1
    clear c0 c1 c2
    refine wp_region_quiet_below (by kernel_rfl) (by kernel_rfl) ?_
    repeat (go_big_quiet_step (exact Calls.regrown_of (HC.out _)))
    refine wpQuiet_nil ?_
    intro w' hw'
    obtain ⟨rg, rfl⟩ := hw'
    go_wp2_with fail
    go_returns
    exact ⟨rfl, after (after HH.out G1.out) (below_regrown w1 _ _)⟩
def atT (cs : List Int) (x y z : Int) : Value := if inY y then .tuple #[.int .i64 (chB cs x y z), .bool true] else .tuple #[.int .i64 0, .bool false]
theorem atT_no {cs : List Int} {x y z : Int} (h : inY y = false) : atT cs x y z = .tuple #[.int .i64 0, .bool false] := by unfold atT; rw [h]; rfl
theorem atT_yes {cs : List Int} {x y z : Int} (h : inY y = true) : atT cs x y z = .tuple #[.int .i64 (chB cs x y z), .bool true] := by unfold atT; rw [h]; rfl
theorem inY_iff {y : Int} : inY y = true ↔ 0 ≤ y ∧ y < 32 := by simp [inY]
set_option maxRecDepth 100000 in
set_option maxHeartbeats 2000000 in
theorem chat_c (c : Nat) (x y z px pz : Int) (cs : List Int) (w : World) (M : Nat → Prop) (h : ChA c px pz cs w M) (hx : In64 x) (hz : In64 z) (h1 : x / 16 = px) (h2 : z / 16 = pz) :
    Calls Tryz.prog 109 #[.pointer (some ⟨c, 0, none⟩), .agg #[.int .i64 x, .int .i64 y, .int .i64 z]] w fun r w' => r = .returned (atT cs x y z) ∧ Below w.heap.size w w' := by
  obtain ⟨v, R, hB, hO, hc, he, ok, -⟩ := h
  obtain ⟨W, hW⟩ : ∃ W, W = w.alloc (.cells #[.int .i64 x, .int .i64 y, .int .i64 z] 43) := ⟨_, rfl⟩
  have H : Below w.heap.size w W := by rw [hW]; exact (Below.refl _ _).alloc (Nat.le_refl _) _
  have C : Blk W w.heap.size 43 #[.int .i64 x, .int .i64 y, .int .i64 z] := by rw [hW]; exact Blk.new' rfl
  obtain ⟨z0, z1, z2⟩ := C.re3
  have hB1 := hB.on H
  obtain ⟨q, cap, rfl, -, -, hrd, -⟩ := hO.form lenRn
  have k0 := fun d os => (hB1.re d os).cell 0
  have k1 := fun d os => (hB1.re d os).cell 1
  have HI := Lib.hid fun W => cpindex_c x y z px pz hx hz h1 h2 W
  have HL := lenR_of hc he ok
  have HA := Lib.hid fun W (hW : Below w.heap.size w W) (i : Int) (hi : 0 ≤ i ∧ i < 8192) => rat_c W q cap R i (hrd.on hW) (fun r hr => by have := hc.pos r hr; omega) (by omega) (by have := lenR_pos hc.pos; unfold maxLen; omega) (by omega)
  have HE := Lib.hid he
  have HCP := Lib.hid hc.pos
  have HH := Lib.hid H
  have HB1 := Lib.hid hB1
  clear hB hO hc he ok hrd h1 h2 hx hz H C hB1 HL
  cases hy : inY y
  · have hyv := Lib.hid (idxT_no (x := x) (z := z) hy)
    have hav := Lib.hid (atT_no (cs := cs) (x := x) (z := z) hy)
    rw [hyv.out] at HI
    rw [hav.out]
    clear hy HA
    go_enter Tryz.func109, Tryz.ntmps109
    go_upto_region 1 with (fail)
    rw [← hW]
    clear hW
    refine wp_region_quiet_below (by kernel_rfl) (by kernel_rfl) ?_
    repeat (go_big_quiet_step (exact Calls.regrown_of (HI.out _)))
    refine wpQuiet_nil ?_
    intro w' hw'
    obtain ⟨rg, rfl⟩ := hw'
    go_wp2_with fail
    go_returns
    exact ⟨rfl, after HH.out (below_regrown W _ _)⟩
  · have hyv := Lib.hid (idxT_yes (x := x) (z := z) hy)
    have hav := Lib.hid (atT_yes (cs := cs) (x := x) (z := z) hy)
    have hbd := idxI_bd (x := x) (z := z) (inY_iff.1 hy)
    rw [hyv.out] at HI
    rw [hav.out]
    obtain ⟨G, hG⟩ : ∃ G, chB cs x y z = G := ⟨_, rfl⟩
    rw [hG]
    have HG := Lib.hid (show atR R (idxI x y z) = G from by
      rw [← hG, ← HE.out]
      unfold chB
      have := atR_cells (l := R) (fun r hr => by have := HCP.out r hr; omega) (idxI x y z).toNat
      rw [← this, Int.toNat_of_nonneg hbd.1])
    generalize idxI x y z = i at *
    clear hy hG
    go_enter Tryz.func109, Tryz.ntmps109
    go_upto_region 1 with (fail)
    rw [← hW]
    clear hW
    refine wp_region_quiet_below (by kernel_rfl) (by kernel_rfl) ?_
    repeat (go_big_quiet_step (exact Calls.regrown_of (HI.out _)))
    refine wpQuiet_nil ?_
    intro w' hw'
    obtain ⟨rg, rfl⟩ := hw'
    obtain ⟨W2, hW2⟩ : ∃ W2, W2 = Go.Sort.grow (redrawn W rg.d) rg.os := ⟨_, rfl⟩
    have h2 : Below W.heap.size W W2 := by rw [hW2]; exact below_regrown _ _ _
    rw [← hW2]
    clear hW2 z0 z1 z2 k0 k1
    have k2 := (HB1.out.on h2).cell 2
    have HA2 := Lib.hid (HA.out W2 (after HH.out h2) i hbd)
    rw [HG.out] at HA2
    have H2 := Lib.hid (after HH.out h2)
    clear HA h2
    go_wp2_with (go_at_call 160; refine HA2.out.mono ?_; rintro e_ w1 ⟨rfl, g1⟩; have G1 := Lib.hid g1; clear g1)
    go_returns
    exact ⟨rfl, after H2.out G1.out⟩
end Go.Proofs.YtmbccnioijokfaaGreatDoor

namespace Go.Proofs.YtmbccnioijokfaaGreatDoor
open Go.RowKit
attribute [local go_sem] Oper.semAt_some
theorem ofB_may (y g : Int) : mayK (ofB y g) = true := by
  unfold ofB
  split
  · decide
  · split
    · decide
    · split
      · decide
      · split
        · decide
        · split <;> decide
theorem genL_ok (s px pz : Int) : CellsOk (genL s px pz) where
  len := by simp [genL]
  may := fun b hb => by
    obtain ⟨i, -, rfl⟩ := List.mem_map.1 hb
    exact ofB_may _ _
def NewCh (w : World) (x z : Int) (cs : List Int) (r : Ending) (w' : World) : Prop := ∃ c M, r = .returned (.pointer (some ⟨c, 0, none⟩)) ∧ ChA c x z cs w' M ∧ (∀ b, M b → w.heap.size ≤ b) ∧ Below w.heap.size w w'
def RowOf (xs : List Rn) (base : Nat) (v : Value) (w : World) : Prop := ∃ q c, v = .slice q xs.length c ∧ Owns w base 235 2 encR v xs
set_option maxRecDepth 100000 in
set_option maxHeartbeats 2000000 in
theorem chmake_c (s px pz : Int) (hx : -1000000000 ≤ px ∧ px ≤ 1000000000) (hz : -1000000000 ≤ pz ∧ pz ≤ 1000000000) (w : World) :
    Calls Tryz.prog 84 #[.int .i64 s, .agg #[.int .i64 px, .int .i64 pz]] w fun r w' => NewCh w px pz (genL s px pz) r w' := by
  have hok := genL_ok s px pz
  have HC := Lib.hid fun W => gchunk_c s px pz hx hz W
  generalize genL s px pz = cs at hok HC ⊢
  obtain ⟨W, hW⟩ : ∃ W, W = w.alloc (.cells #[.int .i64 px, .int .i64 pz] 123) := ⟨_, rfl⟩
  have H : Below w.heap.size w W := by rw [hW]; exact (Below.refl _ _).alloc (Nat.le_refl _) _
  have U : Blk W w.heap.size 123 #[.int .i64 px, .int .i64 pz] := by rw [hW]; exact Blk.new' rfl
  obtain ⟨u0, u1⟩ := U.rep
  have HH := Lib.hid H
  have HOK := Lib.hid hok
  clear H U hok
  go_enter Tryz.func84, Tryz.ntmps84
  go_upto_region 1 with (fail)
  rw [← hW]
  clear hW
  refine wp_sched [0, 0, 0, 0, 2, 3, 3, 3] (fun _ v w' => RowOf (ofR (cs)) w.heap.size v w') (by kernel_rfl) (by kernel_rfl) (fun _ _ _ _ ⟨q, c, h1, h2⟩ h => ⟨q, c, h1, h2.on h⟩) ?_
  repeat (first | (refine wpQs_s ?_) | (refine wpQs_q (fun K hK => ?_); go_simp; first | (refine hK _ ?_; clear hK K) | (apply Exists.intro; refine ⟨fun _ => ?_, hK _ ?_⟩; (fail); clear hK K)) | (refine wpQs_f (fun K hK => ?_); go_simp; refine hK _ ?_; clear hK K))
  refine wpQs_nil ?_
  repeat (first | (refine wpLs_skip ?_) | (refine wpLs_one ?lsA (fun v_ => ?_); case lsA => (intro w_ hw_ hp_; (go_simp; refine (HC.out _).mono ?_; rintro e_ w9 ⟨v, rfl, h1, h2⟩; obtain ⟨q, c, rfl, -⟩ := h1.form lenRn; exact ⟨_, rfl, Kept.of_below h2, q, c, rfl, h1.lowB (by have := (msd_kept hw_).size; have := HH.out.size; omega)⟩))))
  refine wpLs_nilB ?_
  simp only [tails]
  rintro W1 h1 ⟨-, hq⟩
  have HR := Lib.hid (And.intro (ofR_can (cs)) (ofR_cells (cs)))
  generalize ofR (cs) = R at hq HR
  obtain ⟨q, c, rfl, hO⟩ := hq
  clear u0 u1
  have HO := Lib.hid hO
  have H1 := Lib.hid (after HH.out h1)
  clear hO h1
  have HF : Hid (∀ w2, w2 = W1.alloc (.cells #[.int .i64 px, .int .i64 pz, .slice q R.length c] 186) → ChA W1.heap.size px pz (cs) w2 (fun b => b = W1.heap.size ∨ Value.ownBlock (.slice q R.length c) = some b)) := Lib.hid fun w2 hw2 => ⟨_, R, Blk.fresh hw2, (Owns.lowB (B := 0) HO.out (Nat.zero_le _)).on (by rw [hw2]; exact (Below.refl _ _).alloc (Nat.le_refl _) _), HR.out.1, HR.out.2, HOK.out, fun _ => Iff.rfl⟩
  clear HR
  go_wp2_with fail
  go_returns
  refine ⟨W1.heap.size, _, rfl, HF.out _ rfl, ?_, H1.out.alloc H1.out.size _⟩
  intro b hb
  rcases hb with rfl | hb
  · exact H1.out.size
  · exact (own_at HO.out hb).1
set_option maxRecDepth 100000 in
set_option maxHeartbeats 1000000 in
theorem cread0_c (q : Option Addr) (c : Nat) (w : World) : Calls Tryz.prog 124 #[.slice q 0 c, .int .i64 8192] w fun r w' => r = .returned (.tuple #[.slice none 0 0, .int .i64 3]) ∧ w = w' := by
  go_enter Tryz.func124, Tryz.ntmps124
  go_wp2_with fail
  go_step3
  go_wp2_with fail
  go_step3
  go_wp2_with fail
  refine wp_loop_rounds 1 ?_
  rw [rounds_succ]
  go_wp2_with fail
  rw [Exit.noGoto_ret]
  go_returns
  exact ⟨rfl, rfl⟩
set_option maxRecDepth 100000 in
set_option maxHeartbeats 1000000 in
theorem chread0_c (px pz : Int) (q : Option Addr) (c : Nat) (w : World) : Calls Tryz.prog 83 #[.agg #[.int .i64 px, .int .i64 pz], .slice q 0 c] w fun r w' => r = .returned (.tuple #[.pointer none, .int .i64 3]) ∧ Below w.heap.size w w' := by
  go_enter Tryz.func83, Tryz.ntmps83
  go_wp2_with (go_at_call 124; refine (cread0_c _ _ _).mono ?_; rintro e_ w1 ⟨rfl, rfl⟩)
  go_returns
  exact ⟨rfl, (Below.refl _ _).alloc (Nat.le_refl _) _⟩
end Go.Proofs.YtmbccnioijokfaaGreatDoor

namespace Go.Proofs.YtmbccnioijokfaaGreatDoor
structure TI where
  x : Int
  z : Int
  cs : List Int
  dirty : Bool
  pins : Int
structure TS where
  seed : Int
  lim : Int
  l : List TI
  d : DS
def TI.is (p : Int × Int) (i : TI) : Bool := posB i.x i.z p.1 p.2
def findI (p : Int × Int) : List TI → Nat → Int
  | [], _ => -1
  | i :: l, k => if i.is p then k else findI p l (k + 1)
def TS.find (T : TS) (p : Int × Int) : Int := findI p T.l 0
def chkOf (x z : Int) : Int × Int := (x / 16, z / 16)
def TI.at (i : TI) (x y z : Int) : Int := if y < 0 then 1 else if inY y then chB i.cs x y z else 0
def TS.at (T : TS) (x y z : Int) : Int := match T.l.find? (TI.is (chkOf x z)) with
  | some i => i.at x y z
  | none => -1
theorem findI_none {p : Int × Int} {l : List TI} (h : ∀ i ∈ l, i.is p = false) (k : Nat) : findI p l k = -1 := by
  induction l generalizing k with
  | nil => rfl
  | cons i l ih =>
    unfold findI
    rw [if_neg (by rw [h i List.mem_cons_self]; decide), ih fun j hj => h j (List.mem_cons_of_mem _ hj)]
theorem findI_at {p : Int × Int} {l : List TI} {n : Nat} {i : TI} (hi : l[n]? = some i) (hp : i.is p = true) (hb : ∀ j y, j < n → l[j]? = some y → y.is p = false) (k : Nat) : findI p l k = ((k + n : Nat) : Int) := by
  induction l generalizing n k with
  | nil => cases hi
  | cons a l ih =>
    unfold findI
    cases n with
    | zero =>
      obtain rfl : a = i := by simpa using hi
      rw [if_pos hp]; rfl
    | succ n =>
      rw [if_neg (by rw [hb 0 a (by omega) rfl]; decide), ih (by simpa using hi) (fun j y hj hy => hb (j + 1) y (by omega) (by simpa using hy))]
      congr 1
      omega
theorem find_ways (T : TS) (p : Int × Int) : (T.find p = -1 ∧ T.l.find? (TI.is p) = none) ∨ ∃ (n : Nat) (i : TI), T.find p = n ∧ T.l[n]? = some i ∧ i.is p = true ∧ T.l.find? (TI.is p) = some i := by
  unfold TS.find
  have key : ∀ (l : List TI) (k : Nat), (findI p l k = -1 ∧ l.find? (TI.is p) = none) ∨ ∃ (n : Nat) (i : TI), findI p l k = ((k + n : Nat) : Int) ∧ l[n]? = some i ∧ i.is p = true ∧ l.find? (TI.is p) = some i := by
    intro l
    induction l with
    | nil => intro k; exact .inl ⟨rfl, rfl⟩
    | cons a l ih =>
      intro k
      unfold findI
      cases ha : a.is p
      · rw [if_neg (by decide), List.find?_cons_of_neg (by rw [ha]; decide)]
        rcases ih (k + 1) with h | ⟨n, i, h1, h2, h3, h4⟩
        · exact .inl h
        · exact .inr ⟨n + 1, i, by rw [h1]; congr 1; omega, by simpa using h2, h3, h4⟩
      · rw [if_pos rfl, List.find?_cons_of_pos ha]
        exact .inr ⟨0, a, rfl, rfl, ha, rfl⟩
  rcases key T.l 0 with h | ⟨n, i, h1, h2, h3, h4⟩
  · exact .inl h
  · exact .inr ⟨n, i, by rw [h1]; simp, h2, h3, h4⟩
def TI.set (i : TI) (x y z b : Int) : TI := { i with cs := i.cs.set (idxI x y z).toNat b, dirty := i.dirty || (chB i.cs x y z != b) }
def TS.set (T : TS) (x y z b : Int) : TS × Int := match T.l.find? (TI.is (chkOf x z)) with
  | none => (T, 11)
  | some i => if inY y then (if mayK b then ({ T with l := T.l.eraseIdx (T.find (chkOf x z)).toNat ++ [i.set x y z b] }, 0) else (T, 1)) else (T, 5)
end Go.Proofs.YtmbccnioijokfaaGreatDoor

namespace Go.Proofs.YtmbccnioijokfaaGreatDoor
open Go.RowKit
attribute [local go_sem] Oper.semAt_some
def ItA (a : Nat) (i : TI) : Asn := fun w M => ∃ c Mc, Blk w a 142 #[.pointer (some ⟨c, 0, none⟩), .bool i.dirty, .int .i64 i.pins] ∧ ChA c i.x i.z i.cs w Mc ∧ ∀ b, M b ↔ b = a ∨ Mc b
def ItT (t : TypeId) : Prop := t = 142 ∨ t = 186 ∨ t = 235
section
variable {w w' : World} {M M' : Nat → Prop} {a c : Nat} {i : TI}
theorem ChA.type {x z : Int} {cs : List Int} (h : ChA c x z cs w M) {b : Nat} (hb : M b) : ∃ t cur, Blk w b t cur ∧ (t = 186 ∨ t = 235) := by
  obtain ⟨v, R, h1, h2, -, -, -, hM⟩ := h
  rcases (hM b).1 hb with rfl | hb
  · exact ⟨_, _, h1, .inl rfl⟩
  · obtain ⟨-, cur, h3⟩ := own_at h2 hb
    exact ⟨_, _, h3, .inr rfl⟩
theorem ItA.type (h : ItA a i w M) {b : Nat} (hb : M b) : ∃ t cur, Blk w b t cur ∧ ItT t := by
  obtain ⟨c, Mc, h1, h2, hM⟩ := h
  rcases (hM b).1 hb with rfl | hb
  · exact ⟨_, _, h1, .inl rfl⟩
  · obtain ⟨t, cur, h3, h4⟩ := h2.type hb
    exact ⟨t, cur, h3, .inr h4⟩
theorem itA_fit (a : Nat) (i : TI) : Asn.Fit 5 (ItA a i) where
  lt := fun h b hb => by
    obtain ⟨t, cur, h1, -⟩ := h.type hb
    exact h1.lt
  nob := fun h b hb cs hB => by
    obtain ⟨t, cur, h1, h2⟩ := h.type hb
    obtain rfl := one_type h1 hB
    rcases h2 with h | h | h <;> revert h <;> decide
  kept := fun ⟨c, Mc, h1, h2, hM⟩ hk k1 k2 => ⟨c, Mc, hk.blk (k1 _ ((hM _).2 (.inl rfl))) h1, (chA_fit c i.x i.z i.cs).kept h2 hk (fun b hb => k1 b ((hM b).2 (.inr hb))) k2, hM⟩
end
def ItsA : List (Nat × TI) → Asn
  | [] => fun _ M => ∀ b, ¬ M b
  | p :: L => Both (ItA p.1 p.2) (ItsA L)
section
variable {w w' : World} {M M' : Nat → Prop} {L L' : List (Nat × TI)} {a : Nat} {i : TI}
theorem itsA_fit : ∀ L : List (Nat × TI), Asn.Fit 5 (ItsA L)
  | [] => { lt := fun h b hb => absurd hb (h b), nob := fun h b hb => absurd hb (h b), kept := fun h _ _ _ => h }
  | p :: L => both_fit (itA_fit p.1 p.2) (itsA_fit L)
theorem both_assoc {P Q R : Asn} (h : Both P (Both Q R) w M) : Both Q (Both P R) w M := by
  obtain ⟨A, B, h1, ⟨C, D, h2, h3, hd, hB⟩, hd2, hM⟩ := h
  refine ⟨C, fun b => A b ∨ D b, h2, ⟨A, D, h1, h3, fun b ha hD => hd2 b ha ((hB b).2 (.inr hD)), fun _ => Iff.rfl⟩, fun b hC hAD => ?_, fun b => ?_⟩
  · rcases hAD with h | h
    · exact hd2 b h ((hB b).2 (.inl hC))
    · exact hd b hC h
  · rw [hM, hB]
    constructor
    · rintro (h | h | h)
      · exact .inr (.inl h)
      · exact .inl h
      · exact .inr (.inr h)
    · rintro (h | h | h)
      · exact .inr (.inl h)
      · exact .inl h
      · exact .inr (.inr h)
theorem both_mono {P Q Q' : Asn} (h : Both P Q w M) (k : ∀ M, Q w M → Q' w M) : Both P Q' w M := by
  obtain ⟨A, B, h1, h2, h3⟩ := h
  exact ⟨A, B, h1, k B h2, h3⟩
theorem its_perm (hp : L.Perm L') : ∀ M, ItsA L w M → ItsA L' w M := by
  induction hp with
  | nil => exact fun _ h => h
  | cons p _ ih => exact fun _ h => both_mono h ih
  | swap p q L => exact fun _ h => both_assoc h
  | trans _ _ ih1 ih2 => exact fun M h => ih2 M (ih1 M h)
theorem its_type : ∀ {L : List (Nat × TI)} {M : Nat → Prop}, ItsA L w M → ∀ {b : Nat}, M b → ∃ t cur, Blk w b t cur ∧ ItT t
  | [], _, h, b, hb => absurd hb (h b)
  | p :: L, _, ⟨A, B, h1, h2, _, hM⟩, b, hb => by
    rcases (hM b).1 hb with h | h
    · exact h1.type h
    · exact its_type h2 h
theorem its_mem : ∀ {L : List (Nat × TI)} {M : Nat → Prop}, ItsA L w M → ∀ {p : Nat × TI}, p ∈ L → ∃ M', ItA p.1 p.2 w M' ∧ ∀ b, M' b → M b
  | [], _, _, p, hp => by cases hp
  | q :: L, _, ⟨A, B, h1, h2, _, hM⟩, p, hp => by
    rcases List.mem_cons.1 hp with rfl | hp
    · exact ⟨A, h1, fun b hb => (hM b).2 (.inl hb)⟩
    · obtain ⟨M', h3, h4⟩ := its_mem h2 hp
      exact ⟨M', h3, fun b hb => (hM b).2 (.inr (h4 b hb))⟩
end
abbrev encA (a : Nat) : List Value := [.pointer (some ⟨a, 0, none⟩)]
theorem lenA (a : Nat) : (encA a).length = 1 := rfl
structure TbAt (w : World) (t s d : Nat) (v : Value) (L : List (Nat × TI)) (Ms Mi : Nat → Prop) (T : TS) : Prop where
  blk : Blk w t 135 #[.pointer (some ⟨s, 0, none⟩), .int .i64 T.seed, .int .i64 T.lim, v]
  st : StoreIs w 0 Ms s d T.d
  row : Owns w 0 128 1 encA v (L.map (·.1))
  its : ItsA L w Mi
  l : L.map (·.2) = T.l
def TbM (t s : Nat) (v : Value) (Ms Mi : Nat → Prop) (b : Nat) : Prop := b = t ∨ b = s ∨ Ms b ∨ v.ownBlock = some b ∨ Mi b
def TbA (t : Nat) (T : TS) : Asn := fun w M => ∃ s d v L Ms Mi, TbAt w t s d v L Ms Mi T ∧ ∀ b, M b ↔ TbM t s v Ms Mi b
def TbT (t : TypeId) : Prop := t = 135 ∨ t = 151 ∨ t = 200 ∨ t = 293 ∨ t = 128 ∨ ItT t
section
variable {w w' : World} {t s d : Nat} {v : Value} {L : List (Nat × TI)} {Ms Mi M K : Nat → Prop} {T : TS}
theorem TbAt.type (h : TbAt w t s d v L Ms Mi T) {b : Nat} (hb : TbM t s v Ms Mi b) : b < w.heap.size ∧ ∀ ty cs, Blk w b ty cs → TbT ty := by
  rcases hb with rfl | rfl | hb | hb | hb
  · exact ⟨h.blk.lt, fun ty cs hB => .inl (one_type hB h.blk)⟩
  · exact ⟨h.st.blk.lt, fun ty cs hB => .inr (.inl (one_type hB h.st.blk))⟩
  · obtain ⟨-, h1, h2⟩ := h.st.disk.mine hb
    refine ⟨h1, fun ty cs hB => ?_⟩
    rcases h2 ty cs hB with h | h
    · exact .inr (.inr (.inl h))
    · exact .inr (.inr (.inr (.inl h)))
  · obtain ⟨-, cur, h1⟩ := own_at h.row hb
    exact ⟨h1.lt, fun ty cs hB => .inr (.inr (.inr (.inr (.inl (one_type hB h1)))))⟩
  · obtain ⟨t', cur, h1, h2⟩ := its_type h.its hb
    exact ⟨h1.lt, fun ty cs hB => .inr (.inr (.inr (.inr (.inr (by rw [one_type hB h1]; exact h2)))))⟩
theorem TbAt.kept (h : TbAt w t s d v L Ms Mi T) (hk : Kept K w w') (k1 : ∀ b, TbM t s v Ms Mi b → K b) (k2 : ∀ b cs, Blk w b 5 cs → K b) : TbAt w' t s d v L Ms Mi T where
  blk := hk.blk (k1 _ (.inl rfl)) h.blk
  st := ⟨hk.blk (k1 _ (.inr (.inl rfl))) h.st.blk, h.st.disk.kept hk (fun b hb => k1 b (.inr (.inr (.inl hb)))) (fun b hb => by
    rcases hb with hb | ⟨cur, hb⟩
    · omega
    · exact k2 b cur hb), Nat.zero_le _⟩
  row := h.row.keep hk fun b hb => k1 b (.inr (.inr (.inr (.inl hb))))
  its := (itsA_fit L).kept h.its hk (fun b hb => k1 b (.inr (.inr (.inr (.inr hb))))) k2
  l := h.l
theorem TbAt.on (h : TbAt w t s d v L Ms Mi T) (hb : Below w.heap.size w w') : TbAt w' t s d v L Ms Mi T := h.kept ((Kept.of_below hb).mono (K' := fun _ => True) fun _ _ => trivial) (fun _ _ => trivial) (fun _ _ _ => trivial)
theorem tbA_fit (t : Nat) (T : TS) : Asn.Fit 5 (TbA t T) where
  lt := fun ⟨s, d, v, L, Ms, Mi, h, hM⟩ b hb => (h.type ((hM b).1 hb)).1
  nob := fun ⟨s, d, v, L, Ms, Mi, h, hM⟩ b hb cs hB => by
    rcases (h.type ((hM b).1 hb)).2 _ _ hB with h | h | h | h | h | h | h | h <;> revert h <;> decide
  kept := fun ⟨s, d, v, L, Ms, Mi, h, hM⟩ hk k1 k2 => ⟨s, d, v, L, Ms, Mi, h.kept hk (fun b hb => k1 b ((hM b).2 hb)) k2, hM⟩
theorem TbA.type (h : TbA t T w M) {b : Nat} (hb : M b) : b < w.heap.size ∧ ∀ ty cs, Blk w b ty cs → TbT ty := by
  obtain ⟨s, d, v, L, Ms, Mi, h, hM⟩ := h
  exact h.type ((hM b).1 hb)
end
end Go.Proofs.YtmbccnioijokfaaGreatDoor

namespace Go.Proofs.YtmbccnioijokfaaGreatDoor
open Go.RowKit
attribute [local go_sem] Oper.semAt_some
set_option maxRecDepth 100000 in
set_option maxHeartbeats 2000000 in
theorem find1_c (a g : Nat) (i : TI) (px pz : Int) (w : World) (M : Nat → Prop) (h : ItA a i w M) (hg : Blk w g 123 #[.int .i64 px, .int .i64 pz]) :
    Calls Tryz.prog 119 #[.pointer (some ⟨a, 0, none⟩), .pointer (some ⟨g, 0, none⟩)] w fun r w' => r = .returned (.bool (i.is (px, pz))) ∧ Below w.heap.size w w' := by
  obtain ⟨c, Mc, hB, ⟨v, R, hC, -⟩, -⟩ := h
  have pe := pos_eq
  have pg := pos_guard
  have k0 := fun d os => (hB.re d os).cell 0
  have c0 := fun d os => (hC.re d os).cell 0
  have c1 := fun d os => (hC.re d os).cell 1
  obtain ⟨p0, p1⟩ := hg.rep
  have HP := Lib.hid fun W => cplace_c i.x i.z W
  clear hB hC hg
  unfold TI.is
  go_enter Tryz.func119, Tryz.ntmps119
  go_upto_region 1 with (fail)
  refine wp_region_quiet_below (by kernel_rfl) (by kernel_rfl) ?_
  repeat (go_big_quiet_step (exact Calls.regrown_of (HP.out _)))
  refine wpQuiet_nil ?_
  intro w' hw'
  obtain ⟨rg, rfl⟩ := hw'
  go_wp2_with fail
  go_returns
  exact ⟨rfl, below_regrown w _ _⟩
theorem rd_ptr {w : World} {q : Option Addr} {aa : List Nat} (h : Rd w q 1 encA aa) : Rd w q 1 enc1 (aa.map fun a => Value.pointer (some ⟨a, 0, none⟩)) := fun hn => by
  obtain ⟨g, o, hq, h1⟩ := h (by simpa using hn)
  refine ⟨g, o, hq, fun i v hv j u hu => ?_⟩
  rw [List.getElem?_map] at hv
  cases ha : aa[i]? with
  | none => rw [ha] at hv; cases hv
  | some a =>
    rw [ha] at hv
    obtain rfl : Value.pointer (some ⟨a, 0, none⟩) = v := by simpa using hv
    exact h1 i a ha j u hu
theorem find_first {T : TS} {p : Int × Int} {k : Int} (h : FirstIs (fun j => ((T.l[j]?).map (TI.is p)).getD false) T.l.length k) : k = T.find p := by
  unfold TS.find
  rcases h with ⟨rfl, h⟩ | ⟨m, hm, rfl, h1, h2⟩
  · refine (findI_none (fun i hi => ?_) 0).symm
    obtain ⟨j, hj⟩ := List.getElem?_of_mem hi
    have := h j (List.getElem?_eq_some_iff.1 hj).1
    dsimp only at this
    rw [hj] at this
    exact this
  · obtain ⟨i, hi⟩ : ∃ i, T.l[m]? = some i := ⟨_, List.getElem?_eq_getElem hm⟩
    dsimp only at h1
    rw [hi] at h1
    have := findI_at hi h1 (fun j y hj hy => by have := h2 j hj; dsimp only at this; rw [hy] at this; exact this) 0
    rw [this]; simp
set_option maxRecDepth 100000 in
set_option maxHeartbeats 2000000 in
theorem tfind_c (t s d : Nat) (v : Value) (L : List (Nat × TI)) (Ms Mi : Nat → Prop) (T : TS) (px pz : Int) (w : World) (h : TbAt w t s d v L Ms Mi T) (hn : T.l.length ≤ 1000) :
    Calls Tryz.prog 79 #[.pointer (some ⟨t, 0, none⟩), .agg #[.int .i64 px, .int .i64 pz]] w fun r w' => r = .returned (.int .i64 (T.find (px, pz))) ∧ Below w.heap.size w w' := by
  have hmf : ∀ (fn : Fn) (first cap : Array Value) (w : World), (Instr.makeFunc fn first cap).run Tryz.prog w = .ok (.func fn first cap) w := fun _ _ _ _ => rfl
  obtain ⟨W, hW⟩ : ∃ W, W = w.alloc (.cells #[.int .i64 px, .int .i64 pz] 123) := ⟨_, rfl⟩
  have H : Below w.heap.size w W := by rw [hW]; exact (Below.refl _ _).alloc (Nat.le_refl _) _
  have X : Blk W w.heap.size 123 #[.int .i64 px, .int .i64 pz] := by rw [hW]; exact Blk.new' rfl
  have h1 := h.on H
  have hll : L.length = T.l.length := by rw [← h.l, List.length_map]
  obtain ⟨q, cap, hv, -, -, hrd, -⟩ := h1.row.form lenA
  have hlen : ((L.map (·.1)).map fun a => Value.pointer (some ⟨a, 0, none⟩)).length = T.l.length := by simp [hll]
  have HF := Lib.hid (tidxf_c q cap _ (by rw [hlen]; omega) 119 #[.pointer (some ⟨w.heap.size, 0, none⟩)] (fun j => ((T.l[j]?).map (TI.is (px, pz))).getD false) W (rd_ptr hrd) (enters_of Tryz.func119 (by kernel_rfl) rfl) (fun k u hu W2 h2 => by
    rw [List.getElem?_map, List.getElem?_map] at hu
    cases hk : L[k]? with
    | none => rw [hk] at hu; cases hu
    | some p =>
      rw [hk] at hu
      obtain rfl : Value.pointer (some ⟨p.1, 0, none⟩) = u := by simpa using hu
      have hti : T.l[k]? = some p.2 := by rw [← h.l, List.getElem?_map, hk]; rfl
      obtain ⟨M', h3, -⟩ := its_mem (h1.on h2).its (List.mem_of_getElem? hk)
      dsimp only
      rw [hti]
      exact find1_c p.1 w.heap.size p.2 px pz W2 M' h3 (X.on h2)))
  rw [hlen] at HF
  have hB := h1.blk
  rw [hv] at hB
  rw [show (L.map (·.1)).length = T.l.length by simp [hll]] at hB
  have t3 := hB.cell 3
  have HH := Lib.hid H
  clear h1 hll hlen hv hrd hB X H h hn
  go_enter Tryz.func79, Tryz.ntmps79
  go_upto_region 1 with (fail)
  rw [← hW]
  clear hW
  go_wp2_with (go_at_call 118; refine HF.out.mono ?_; rintro e_ w1 ⟨k, rfl, hk, g1⟩; have HK := Lib.hid hk; have G1 := Lib.hid g1; clear hk g1)
  go_returns
  exact ⟨ret_i (find_first HK.out), after HH.out G1.out⟩
theorem atI_neg {i : TI} {x y z : Int} (h : y < 0) : i.at x y z = 1 := by unfold TI.at; rw [if_pos h]
theorem atI_no {i : TI} {x y z : Int} (h : ¬ y < 0) (h2 : inY y = false) : i.at x y z = 0 := by unfold TI.at; rw [if_neg h, h2]; rfl
theorem atI_yes {i : TI} {x y z : Int} (h : ¬ y < 0) (h2 : inY y = true) : i.at x y z = chB i.cs x y z := by unfold TI.at; rw [if_neg h, h2]; rfl
set_option maxRecDepth 100000 in
set_option maxHeartbeats 4000000 in
theorem tat_c (t s d : Nat) (v : Value) (L : List (Nat × TI)) (Ms Mi : Nat → Prop) (T : TS) (x y z : Int) (hx : In64 x) (hz : In64 z) (w : World) (h : TbAt w t s d v L Ms Mi T) (hn : T.l.length ≤ 1000) :
    Calls Tryz.prog 67 #[.pointer (some ⟨t, 0, none⟩), .agg #[.int .i64 x, .int .i64 y, .int .i64 z]] w fun r w' => r = .returned (.int .i64 (T.at x y z)) ∧ Below w.heap.size w w' := by
  obtain ⟨W, hW⟩ : ∃ W, W = w.alloc (.cells #[.int .i64 x, .int .i64 y, .int .i64 z] 43) := ⟨_, rfl⟩
  have H : Below w.heap.size w W := by rw [hW]; exact (Below.refl _ _).alloc (Nat.le_refl _) _
  have C : Blk W w.heap.size 43 #[.int .i64 x, .int .i64 y, .int .i64 z] := by rw [hW]; exact Blk.new' rfl
  have h1 := h.on H
  have HC := Lib.hid (cchunk_c x y z hx hz W)
  have HF := Lib.hid fun W2 (h2 : Below W.heap.size W W2) => tfind_c t s d v L Ms Mi T (x / 16) (z / 16) W2 (h1.on h2) hn
  have hway := find_ways T (chkOf x z)
  have HX := Lib.hid (And.intro hx hz)
  have HT := Lib.hid h1
  have HH := Lib.hid H
  have HCC := Lib.hid C
  obtain ⟨c0, c1, c2, -, -, -⟩ := C.c3
  unfold TS.at
  have hcc : T.find (x / 16, z / 16) = T.find (chkOf x z) := rfl
  rw [hcc] at HF
  clear h hn h1 H C hx hz hcc
  rcases hway with ⟨e1, e2⟩ | ⟨n, i, e1, e2, e3, e4⟩
  · rw [e2]
    rw [e1] at HF
    clear e1 e2
    dsimp only
    go_enter Tryz.func67, Tryz.ntmps67
    go_upto_region 1 with (fail)
    rw [← hW]
    clear hW
    go_wp2_with first
      | (go_at_call 108; refine HC.out.mono ?_; rintro e_ w1 ⟨rfl, g1⟩; have G1 := Lib.hid g1; have HF2 := Lib.hid (HF.out w1 g1); clear g1)
      | (go_at_call 79; refine HF2.out.mono ?_; rintro e_ w2 ⟨rfl, g2⟩; have G2 := Lib.hid g2; clear g2)
    go_returns
    exact ⟨rfl, after (after HH.out G1.out) G2.out⟩
  · rw [e4]
    rw [e1] at HF
    dsimp only
    have hii : i.x = x / 16 ∧ i.z = z / 16 := posB_iff.1 e3
    by_cases hy : y < 0
    · have hv := Lib.hid (atI_neg (i := i) (x := x) (z := z) hy)
      rw [hv.out]
      clear e1 e2 e3 e4 hii
      have hn0 : (0 : Int) ≤ n := by omega
      go_enter Tryz.func67, Tryz.ntmps67
      go_upto_region 1 with (fail)
      rw [← hW]
      clear hW
      go_upto_region 4 with first
        | (go_at_call 108; refine HC.out.mono ?_; rintro e_ w1 ⟨rfl, g1⟩; have G1 := Lib.hid g1; have HF2 := Lib.hid (HF.out w1 g1); clear g1)
        | (go_at_call 79; refine HF2.out.mono ?_; rintro e_ w2 ⟨rfl, g2⟩; have G2 := Lib.hid (after G1.out g2); clear g2)
      clear c0 c1 c2
      obtain ⟨c0, c1, c2, -, -, -⟩ := (HCC.out.on G2.out).c3
      go_wp2_with fail
      go_returns
      exact ⟨rfl, after HH.out G2.out⟩
    · obtain ⟨pr, hpr⟩ : ∃ pr, L[n]? = some pr := by
        have hl := HT.out.l
        rw [← hl, List.getElem?_map] at e2
        cases hp : L[n]? with
        | none => rw [hp] at e2; cases e2
        | some pr => exact ⟨pr, rfl⟩
      have hpi : pr.2 = i := by
        have hl := HT.out.l
        rw [← hl, List.getElem?_map, hpr] at e2
        simpa using e2
      obtain ⟨Mi', hit, -⟩ := its_mem HT.out.its (List.mem_of_getElem? hpr)
      rw [hpi] at hit
      obtain ⟨c, Mc, hIB, hCh, -⟩ := hit
      obtain ⟨q, cap, hv, hc1, -, hrd, hq1, hq2⟩ := HT.out.row.form lenA
      have hnl : n < (L.map (·.1)).length := by rw [List.length_map]; exact (List.getElem?_eq_some_iff.1 hpr).1
      obtain ⟨g, rfl⟩ := hq2 (by omega)
      have r0 : W.cell? ⟨g, n, none⟩ = some (.pointer (some ⟨pr.1, 0, none⟩)) := by
        have := hrd.at (i := n) (x := pr.1) (by rw [List.getElem?_map, hpr]; rfl) (j := 0) rfl
        simpa using this
      have hB := HT.out.blk
      rw [hv] at hB
      have HCA := Lib.hid fun W2 (h2 : Below W.heap.size W W2) => chat_c c x y z (x / 16) (z / 16) i.cs W2 Mc (by rw [← hii.1, ← hii.2]; exact (chA_fit _ _ _ _).on hCh h2) HX.out.1 HX.out.2 rfl rfl
      generalize (L.map (·.1)).length = ln at *
      have HTB := Lib.hid hB
      have HIB := Lib.hid hIB
      have HR0 := Lib.hid r0
      have hn0 : (0 : Int) ≤ n := by omega
      have hn1 : (n : Int) < (ln : Int) := by omega
      have hy0 : 0 ≤ y := by omega
      clear e1 e2 e3 e4 hii hpr hpi hCh hv hc1 hrd hq1 hq2 hnl hB hIB HT r0
      have tac_true : inY y = true → Calls Tryz.prog 67 #[.pointer (some ⟨t, 0, none⟩), .agg #[.int .i64 x, .int .i64 y, .int .i64 z]] w fun r w' => r = .returned (.int .i64 (i.at x y z)) ∧ Below w.heap.size w w' := by
        intro hyc
        have hvv := Lib.hid (atI_yes (i := i) (x := x) (z := z) hy hyc)
        rw [hvv.out]
        first | rw [show atT i.cs x y z = _ from atT_yes hyc] at HCA | rw [show atT i.cs x y z = _ from atT_no hyc] at HCA
        clear hyc hvv hy
        generalize chB i.cs x y z = bb at *
        go_enter Tryz.func67, Tryz.ntmps67
        go_upto_region 1 with (fail)
        rw [← hW]
        clear hW
        go_upto_region 4 with first
          | (go_at_call 108; refine HC.out.mono ?_; rintro e_ w1 ⟨rfl, g1⟩; have G1 := Lib.hid g1; have HF2 := Lib.hid (HF.out w1 g1); clear g1)
          | (go_at_call 79; refine HF2.out.mono ?_; rintro e_ w2 ⟨rfl, g2⟩; have G2 := Lib.hid (after G1.out g2); clear g2)
        clear c0 c1 c2
        obtain ⟨c0, c1, c2, -, -, -⟩ := (HCC.out.on G2.out).c3
        go_upto_region 6 with (fail)
        clear c0 c1 c2
        obtain ⟨c0, c1, c2⟩ := (HCC.out.on G2.out).re3
        have b3 := fun d os => ((HTB.out.on G2.out).re d os).cell 3
        have i0 := fun d os => ((HIB.out.on G2.out).re d os).cell 0
        have r0 := fun d os => cell_regrown ((G2.out.cell (p := ⟨g, n, none⟩) (cell_lt HR0.out)).trans HR0.out) d os
        have HCB := Lib.hid fun d os => HCA.out (Go.Sort.grow (redrawn w2 d) os) (after G2.out (below_regrown _ _ _))
        refine wp_region_quiet_below (by kernel_rfl) (by kernel_rfl) ?_
        repeat (go_big_quiet_step (exact Calls.regrown_of (HCB.out _ _)))
        refine wpQuiet_nil ?_
        intro w' hw'
        obtain ⟨rg, rfl⟩ := hw'
        go_wp2_with fail
        go_returns
        exact ⟨rfl, after (after HH.out G2.out) (below_regrown _ _ _)⟩
      have tac_false : inY y = false → Calls Tryz.prog 67 #[.pointer (some ⟨t, 0, none⟩), .agg #[.int .i64 x, .int .i64 y, .int .i64 z]] w fun r w' => r = .returned (.int .i64 (i.at x y z)) ∧ Below w.heap.size w w' := by
        intro hyc
        have hvv := Lib.hid (atI_no (i := i) (x := x) (z := z) hy hyc)
        rw [hvv.out]
        first | rw [show atT i.cs x y z = _ from atT_yes hyc] at HCA | rw [show atT i.cs x y z = _ from atT_no hyc] at HCA
        clear hyc hvv hy
        generalize chB i.cs x y z = bb at *
        go_enter Tryz.func67, Tryz.ntmps67
        go_upto_region 1 with (fail)
        rw [← hW]
        clear hW
        go_upto_region 4 with first
          | (go_at_call 108; refine HC.out.mono ?_; rintro e_ w1 ⟨rfl, g1⟩; have G1 := Lib.hid g1; have HF2 := Lib.hid (HF.out w1 g1); clear g1)
          | (go_at_call 79; refine HF2.out.mono ?_; rintro e_ w2 ⟨rfl, g2⟩; have G2 := Lib.hid (after G1.out g2); clear g2)
        clear c0 c1 c2
        obtain ⟨c0, c1, c2, -, -, -⟩ := (HCC.out.on G2.out).c3
        go_upto_region 6 with (fail)
        clear c0 c1 c2
        obtain ⟨c0, c1, c2⟩ := (HCC.out.on G2.out).re3
        have b3 := fun d os => ((HTB.out.on G2.out).re d os).cell 3
        have i0 := fun d os => ((HIB.out.on G2.out).re d os).cell 0
        have r0 := fun d os => cell_regrown ((G2.out.cell (p := ⟨g, n, none⟩) (cell_lt HR0.out)).trans HR0.out) d os
        have HCB := Lib.hid fun d os => HCA.out (Go.Sort.grow (redrawn w2 d) os) (after G2.out (below_regrown _ _ _))
        refine wp_region_quiet_below (by kernel_rfl) (by kernel_rfl) ?_
        repeat (go_big_quiet_step (exact Calls.regrown_of (HCB.out _ _)))
        refine wpQuiet_nil ?_
        intro w' hw'
        obtain ⟨rg, rfl⟩ := hw'
        go_wp2_with fail
        go_returns
        exact ⟨rfl, after (after HH.out G2.out) (below_regrown _ _ _)⟩
      cases hyc : inY y
      · exact tac_false hyc
      · exact tac_true hyc
end Go.Proofs.YtmbccnioijokfaaGreatDoor

namespace Go.Proofs.YtmbccnioijokfaaGreatDoor
open Go.RowKit
attribute [local go_sem] Oper.semAt_some
def CutA (B0 g0 : Nat) (xs : List Nat) (v : Value) (w : World) : Prop := ∃ q c, v = .slice q xs.length c ∧ (Owns w B0 128 1 encA v xs ∨ (c = xs.length ∧ q = some ⟨g0, 0, none⟩ ∧ Rd w q 1 encA xs))
theorem CutA.on {B0 g0 : Nat} {xs : List Nat} {v : Value} {w w' : World} (h : CutA B0 g0 xs v w) (hb : Below w.heap.size w w') : CutA B0 g0 xs v w' := by
  obtain ⟨q, c, h1, h2⟩ := h
  exact ⟨q, c, h1, h2.imp (fun h => h.on hb) fun h => ⟨h.1, h.2.1, h.2.2.on hb⟩⟩
theorem infP : (Tryz.prog.info? 128).map (fun i => (i.zero, i.size, i.bytes)) = some (some (.pointer none), 1, 8) := by kernel_rfl
end Go.Proofs.YtmbccnioijokfaaGreatDoor

namespace Go.Proofs.YtmbccnioijokfaaGreatDoor
open Go.RowKit
attribute [local go_sem] Oper.semAt_some
theorem sumAt_append {P : Program} {D : List Nat} {o : Oper} {a : Act} {R : Rel} {w : World} (s x : Operand) (t tn : TypeId) (ho : o.op = .call { callee := .builtin .append, args := #[s, x], argTypes := #[t, tn] }) (vs vx : Value) (hs : a.eval s = vs) (hx : a.eval x = vx)
    (v' : Value) (w' : World) (hr : (Builtin.append_ #[t, tn] o.type #[vs, vx]).run P w = .ok v' w') (hk : Kept (fun b => b ∉ D) w w') (hR : R v' w') : sumAt P D o a R w := by
  have e : (execOp a.eval o).run P w = .ok (.value v') w' := by simp [execOp, ho, resolve, invoke, builtin, hs, hx, hr, Result.andThen]
  unfold sumAt
  rw [e]
  exact ⟨hk, hR⟩
end Go.Proofs.YtmbccnioijokfaaGreatDoor

namespace Go.Proofs.YtmbccnioijokfaaGreatDoor
open Go.RowKit
attribute [local go_sem] Oper.semAt_some
theorem erase_map {α β : Type} (f : α → β) : ∀ (l : List α) (n : Nat), (l.map f).eraseIdx n = (l.eraseIdx n).map f
  | [], _ => rfl
  | _ :: _, 0 => rfl
  | x :: l, n + 1 => by rw [List.map_cons, List.eraseIdx_cons_succ, List.eraseIdx_cons_succ, List.map_cons, erase_map f l n]
theorem perm_touch {α : Type} {l : List α} {n : Nat} {x : α} (h : l[n]? = some x) : (l.eraseIdx n ++ [x]).Perm l := by
  induction l generalizing n with
  | nil => cases h
  | cons y l ih =>
    cases n with
    | zero =>
      obtain rfl : y = x := by simpa using h
      exact List.perm_append_comm
    | succ n => exact (ih (by simpa using h)).cons y
end Go.Proofs.YtmbccnioijokfaaGreatDoor

namespace Go.Proofs.YtmbccnioijokfaaGreatDoor
open Go.RowKit
attribute [local go_sem] Oper.semAt_some
section
variable {w w' : World} {t s d a : Nat} {v : Value} {R : List (Nat × TI)} {Ms Mi M : Nat → Prop} {T : TS} {i : TI}
theorem ItA.turn {w3 w4 w5 : World} {c : Nat} {Mc : Nat → Prop} {cs' : List Int} {d' : Bool} (hB : Blk w3 a 142 #[.pointer (some ⟨c, 0, none⟩), .bool i.dirty, .int .i64 i.pins]) (hC : ChA c i.x i.z i.cs w3 Mc) (hM : ∀ b, M b ↔ b = a ∨ Mc b) (h4 : w4 = w3.setCell ⟨a, 1, none⟩ (.bool d')) (k : Aft (ChA c i.x i.z cs') w4 Mc w5) :
    Aft (ItA a { i with cs := cs', dirty := d' }) w3 M w5 := by
  have hna : ¬ Mc a := fun h => by
    obtain ⟨t', cur, h1, h2⟩ := hC.type h
    obtain rfl := one_type h1 hB
    rcases h2 with h | h <;> revert h <;> decide
  have hB4 : Blk w4 a 142 #[.pointer (some ⟨c, 0, none⟩), .bool d', .int .i64 i.pins] := by rw [h4]; exact hB.set_ 1 _
  have hB5 := k.blk hna hB4
  have hs : w4.heap.size = w3.heap.size := by rw [h4]; simp [World.setCell]
  obtain ⟨Mc', k1, k2, k3⟩ := k
  refine ⟨fun b => b = a ∨ Mc' b, ⟨c, Mc', hB5, k1, fun _ => Iff.rfl⟩, fun b hb => ?_, ?_⟩
  · rcases hb with rfl | hb
    · exact .inl ((hM _).2 (.inl rfl))
    · rw [hs] at k2
      exact (k2 b hb).imp_left fun h => (hM b).2 (.inr h)
  · have h5 : Kept (fun b => ¬ M b) w3 w4 := by rw [h4]; exact (Kept.refl _ _).setCell (fun h => h ((hM _).2 (.inl rfl))) _
    exact h5.trans (k3.mono fun b hb h => hb ((hM b).2 (.inr h)))
end
end Go.Proofs.YtmbccnioijokfaaGreatDoor

namespace Go.Proofs.YtmbccnioijokfaaGreatDoor
open Go.RowKit
attribute [local go_sem] Oper.semAt_some
structure Bare (S : DS) : Prop where
  safe : S.safe = []
  l : S.l = []
  room : 0 ≤ S.room ∧ S.room ≤ 1048576
  waits : S.waits = 0
  fails : S.fails = 0
theorem Bare.ok {S : DS} (h : Bare S) : DOk S 1000 1000000 where
  rise := by rw [h.safe]; exact List.Pairwise.nil
  keys := by rw [h.safe, h.l]; intro p hp; cases hp
  many := by rw [h.safe, h.l]; decide
  size := by rw [h.safe, h.l]; intro p hp; cases hp
  room := h.room
  waits := .inl h.waits
  fails := by rw [h.fails]; decide
theorem Bare.load {S : DS} (h : Bare S) (id : Int) (hm : mayId id = true) : loadV S id = ([], 0, false) := by
  have hg : ∀ k, S.get k = none := fun k => by
    unfold DS.get DS.now
    rw [h.safe, h.l]
    rfl
  have hr : ∀ k, recAt S k = (0, [], 3) := fun k => by
    unfold recAt
    rw [hg]
    exact read_short (by decide)
  unfold loadV
  rw [if_pos hm]
  unfold ofV
  rw [hr, hr, if_neg (by decide), if_neg (by decide)]
  rfl
def idI (x z : Int) : Int := (x + 524288) * 2 * 524288 + z + 524288 + 1
theorem idI_may {x z : Int} (hx : -524288 ≤ x ∧ x < 524288) (hz : -524288 ≤ z ∧ z < 524288) : mayId (idI x z) = true := by
  unfold mayId idI
  simp
  omega
set_option maxRecDepth 100000 in
set_option maxHeartbeats 1000000 in
theorem tid_c (x z : Int) (hx : -524288 ≤ x ∧ x < 524288) (hz : -524288 ≤ z ∧ z < 524288) (w : World) : Calls Tryz.prog 78 #[.agg #[.int .i64 x, .int .i64 z]] w fun r w' => r = .returned (.tuple #[.int .i64 (idI x z), .bool true]) ∧ Below w.heap.size w w' := by
  have U : Blk (w.alloc (.cells #[.int .i64 x, .int .i64 z] 123)) w.heap.size 123 #[.int .i64 x, .int .i64 z] := Blk.new' rfl
  obtain ⟨u0, u1, -, -⟩ := U.pair
  obtain ⟨x1, x2⟩ := hx
  obtain ⟨z1, z2⟩ := hz
  unfold idI
  go_enter Tryz.func78, Tryz.ntmps78
  go_wp2_with fail
  go_returns
  exact ⟨rfl, (Below.refl _ _).alloc (Nat.le_refl _) _⟩
set_option maxRecDepth 100000 in
set_option maxHeartbeats 1000000 in
theorem troom_c (t s d : Nat) (v : Value) (L : List (Nat × TI)) (Ms Mi : Nat → Prop) (T : TS) (w : World) (h : TbAt w t s d v L Ms Mi T) (hl : (T.l.length : Int) < T.lim) :
    Calls Tryz.prog 81 #[.pointer (some ⟨t, 0, none⟩)] w fun r w' => r = .returned (.int .i64 0) ∧ Below w.heap.size w w' := by
  obtain ⟨q, c, hv, -⟩ := h.row.form lenA
  have hB := h.blk
  rw [hv, List.length_map, show L.length = T.l.length by rw [← h.l, List.length_map]] at hB
  have t2 := fun d os => (hB.re d os).cell 2
  have t3 := fun d os => (hB.re d os).cell 3
  clear hB hv h
  go_enter Tryz.func81, Tryz.ntmps81
  go_upto_region 1 with (fail)
  refine wp_region_quiet_below (by kernel_rfl) (by kernel_rfl) ?_
  repeat (go_big_quiet_step (fail))
  refine wpQuiet_nil ?_
  intro w' hw'
  obtain ⟨rg, rfl⟩ := hw'
  go_wp2_with fail
  go_returns
  exact ⟨rfl, below_regrown w _ _⟩
def NewOf (x z : Int) (cs : List Int) (B0 : Nat) (v : Value) (w : World) : Prop := ∃ c M, v = .pointer (some ⟨c, 0, none⟩) ∧ ChA c x z cs w M ∧ ∀ b, M b → B0 ≤ b
theorem NewOf.on {x z : Int} {cs : List Int} {B0 : Nat} {v : Value} {w w' : World} (h : NewOf x z cs B0 v w) (hb : Below w.heap.size w w') : NewOf x z cs B0 v w' := by
  obtain ⟨c, M, h1, h2, h3⟩ := h
  exact ⟨c, M, h1, (chA_fit _ _ _ _).on h2 hb, h3⟩
def newI (seed x z : Int) : TI := ⟨x, z, genL seed x z, false, 0⟩
theorem TbAt.more {w w' : World} {t s d a c : Nat} {v v' : Value} {L : List (Nat × TI)} {Ms Mi Mc M : Nat → Prop} {T : TS} {it : TI} (h : TbAt w t s d v L Ms Mi T) (hM : ∀ b, M b ↔ TbM t s v Ms Mi b) (hk : Kept (fun b => b ≠ t ∧ v.ownBlock ≠ some b) w w')
    (hB : Blk w' t 135 #[.pointer (some ⟨s, 0, none⟩), .int .i64 T.seed, .int .i64 T.lim, v']) (row : Owns w' 0 128 1 encA v' (L.map (·.1) ++ [a])) (hrow : ∀ b, v'.ownBlock = some b → v.ownBlock = some b ∨ w.heap.size ≤ b)
    (hI : Blk w' a 142 #[.pointer (some ⟨c, 0, none⟩), .bool it.dirty, .int .i64 it.pins]) (hC : ChA c it.x it.z it.cs w' Mc) (ha : w.heap.size ≤ a) (hMc : ∀ b, Mc b → w.heap.size ≤ b) :
    Aft (TbA t { T with l := T.l ++ [it] }) w M w' := by
  have own : ∀ b, v.ownBlock = some b → ∃ cur, Blk w b 128 cur := fun b hb => (own_at h.row hb).2
  have no : ∀ b, b = s ∨ Ms b ∨ Mi b → b ≠ t ∧ v.ownBlock ≠ some b := fun b hb => by
    have key : ∀ t' cur, Blk w b t' cur → t' = 135 ∨ t' = 128 → False := fun t' cur hB' ht => by
      rcases hb with rfl | hb | hb
      · have h3 := one_type h.st.blk hB'
        rcases ht with e | e <;> rw [e] at h3 <;> revert h3 <;> decide
      · rcases (h.st.disk.mine hb).2.2 _ _ hB' with h3 | h3 <;> rcases ht with e | e <;> rw [e] at h3 <;> revert h3 <;> decide
      · obtain ⟨t2, cur2, h1, h2⟩ := its_type h.its hb
        have h3 := one_type h1 hB'
        subst h3
        rcases ht with e | e <;> rw [e] at h2 <;> rcases h2 with h | h | h <;> revert h <;> decide
    refine ⟨fun e => ?_, fun e => ?_⟩
    · subst e
      exact key _ _ h.blk (.inl rfl)
    · obtain ⟨cur, h5⟩ := own b e
      exact key _ _ h5 (.inr rfl)
  have u8 : ∀ b cs, Blk w b 5 cs → b ≠ t ∧ v.ownBlock ≠ some b := fun b cs hB' => by
    refine ⟨fun e => ?_, fun e => ?_⟩
    · subst e
      exact absurd (one_type hB' h.blk) (by decide)
    · obtain ⟨cur, h5⟩ := own b e
      exact absurd (one_type hB' h5) (by decide)
  have hIt : ItA a it w' (fun b => b = a ∨ Mc b) := ⟨c, Mc, hI, hC, fun _ => Iff.rfl⟩
  have hold := (itsA_fit L).kept h.its hk (fun b hb => no b (.inr (.inr hb))) u8
  have hits : ItsA (L ++ [(a, it)]) w' (fun b => (b = a ∨ Mc b) ∨ Mi b) := its_perm (List.perm_append_comm (l₁ := [(a, it)])) _ ⟨fun b => b = a ∨ Mc b, Mi, hIt, hold, fun b hb hb2 => by
    have h1 := (itsA_fit L).lt h.its b hb2
    rcases hb with rfl | hb
    · omega
    · have := hMc b hb; omega, fun _ => Iff.rfl⟩
  refine ⟨TbM t s v' Ms (fun b => (b = a ∨ Mc b) ∨ Mi b), ⟨s, d, v', L ++ [(a, it)], Ms, _, ⟨hB, ⟨hk.blk (no s (.inl rfl)) h.st.blk, h.st.disk.kept hk (fun b hb => no b (.inr (.inl hb))) (fun b hb => by
    rcases hb with hb | ⟨cur, hb⟩
    · omega
    · exact u8 b cur hb), Nat.zero_le _⟩, by rw [List.map_append]; exact row, hits, by rw [List.map_append, h.l]; rfl⟩, fun _ => Iff.rfl⟩, fun b hb => ?_, hk.mono fun b hb => ⟨fun e => hb ((hM b).2 (.inl e)), fun e => hb ((hM b).2 (.inr (.inr (.inr (.inl e)))))⟩⟩
  rcases hb with rfl | rfl | hb | hb | ((rfl | hb) | hb)
  · exact .inl ((hM _).2 (.inl rfl))
  · exact .inl ((hM _).2 (.inr (.inl rfl)))
  · exact .inl ((hM _).2 (.inr (.inr (.inl hb))))
  · exact (hrow b hb).imp_left fun h => (hM b).2 (.inr (.inr (.inr (.inl h))))
  · exact .inr ha
  · exact .inr (hMc b hb)
  · exact .inl ((hM b).2 (.inr (.inr (.inr (.inr hb)))))
end Go.Proofs.YtmbccnioijokfaaGreatDoor

namespace Go.Proofs.YtmbccnioijokfaaGreatDoor
open Go.RowKit
attribute [local go_sem] Oper.semAt_some
set_option maxRecDepth 100000 in
set_option maxHeartbeats 8000000 in
theorem tload_c (t : Nat) (T : TS) (px pz : Int) (w : World) (M : Nat → Prop) (h : TbA t T w M) (hx : -524288 ≤ px ∧ px < 524288) (hz : -524288 ≤ pz ∧ pz < 524288) (hn : T.l.length ≤ 1000) (hlim : (T.l.length : Int) < T.lim) (hf : T.find (px, pz) = -1) (hd : Bare T.d) :
    Calls Tryz.prog 42 #[.pointer (some ⟨t, 0, none⟩), .agg #[.int .i64 px, .int .i64 pz]] w fun r w' => r = .returned (.int .i64 0) ∧ Aft (TbA t { T with l := T.l ++ [newI T.seed px pz] }) w M w' := by
  obtain ⟨s, d, v, L, Ms, Mi, h, hM⟩ := h
  obtain ⟨W, hW⟩ : ∃ W, W = w.alloc (.cells #[.int .i64 px, .int .i64 pz] 123) := ⟨_, rfl⟩
  have H : Below w.heap.size w W := by rw [hW]; exact (Below.refl _ _).alloc (Nat.le_refl _) _
  have X : Blk W w.heap.size 123 #[.int .i64 px, .int .i64 pz] := by rw [hW]; exact Blk.new' rfl
  have h1 := h.on H
  have HI := Lib.hid (tid_c px pz hx hz W)
  have HF := Lib.hid fun W2 (h2 : Below W.heap.size W W2) => tfind_c t s d v L Ms Mi T px pz W2 (h1.on h2) hn
  rw [hf] at HF
  have HR := Lib.hid fun W2 (h2 : Below W.heap.size W W2) => troom_c t s d v L Ms Mi T W2 (h1.on h2) hlim
  have HL := Lib.hid fun W2 (h2 : Below W.heap.size W W2) => sload_c 0 s d Ms T.d 1000 W2 (h1.on h2).st hd.ok (by decide) (idI px pz) (Nat.zero_le _)
  rw [hd.load _ (idI_may hx hz)] at HL
  have HMK := Lib.hid fun W2 => chmake_c T.seed px pz (by omega) (by omega) W2
  have HX := Lib.hid X
  have HH := Lib.hid H
  have HT := Lib.hid h1
  have HT0 := Lib.hid h
  have HM := Lib.hid hM
  have HN := Lib.hid hn
  obtain ⟨p0, p1, -, -⟩ := X.pair
  clear h X H h1 hd hf hlim hn hM hx hz
  generalize idI px pz = id at *
  go_enter Tryz.func42, Tryz.ntmps42
  go_upto_region 1 with (fail)
  rw [← hW]
  clear hW
  go_upto_region 4 with (go_at_call 78; refine HI.out.mono ?_; rintro e_ w1 ⟨rfl, g1⟩; have G1 := Lib.hid g1; clear g1)
  clear p0 p1
  obtain ⟨p0, p1, -, -⟩ := (HX.out.on G1.out).pair
  have HF1 := Lib.hid (HF.out w1 G1.out)
  clear HF HI
  go_upto_region 8 with (go_at_call 79; refine HF1.out.mono ?_; rintro e_ w2 ⟨rfl, g2⟩; have G2 := Lib.hid (after G1.out g2); clear g2)
  have HR2 := Lib.hid (HR.out w2 G2.out)
  clear HR HF1 p0 p1
  go_upto_region 11 with (go_at_call 81; refine HR2.out.mono ?_; rintro e_ w3 ⟨rfl, g3⟩; have G3 := Lib.hid (after G2.out g3); clear g3)
  have HL3 := Lib.hid (HL.out w3 G3.out)
  have t0 := (HT.out.on G3.out).blk.cell 0
  clear HR2 HL
  go_upto_region 12 with (go_at_call 82; refine HL3.out.mono ?_; rintro e_ w4 ⟨⟨q4, n4, c4⟩, rfl, s4, r4, g4⟩; have G4 := Lib.hid (after G3.out g4); have hl4 := s4.len; rw [r4] at hl4; have hn4 : n4 = 0 := (by simpa using hl4.symm); subst hn4; simp only [slV]; clear s4 r4 g4 hl4)
  clear HL3 t0
  obtain ⟨p0, p1, -, -⟩ := (HX.out.on G4.out).pair
  have HRD := Lib.hid (chread0_c px pz q4 c4 w4)
  go_upto_region 14 with (go_at_call 83; refine HRD.out.mono ?_; rintro e_ w5 ⟨rfl, g5⟩; have G5 := Lib.hid (after G4.out g5); clear g5)
  clear p0 p1 HRD
  obtain ⟨p0, p1⟩ := (HX.out.on G5.out).rep
  have t1 := fun d os => (((HT.out.on G5.out).blk).re d os).cell 1
  refine wp_sched [0, 0, 0, 0, 0, 2, 3] (fun _ v w' => NewOf px pz (genL T.seed px pz) w.heap.size v w') (by kernel_rfl) (by kernel_rfl) (fun _ _ _ _ h k => h.on k) ?_
  repeat (first | (refine wpQs_s ?_) | (refine wpQs_q (fun K hK => ?_); go_simp; first | (refine hK _ ?_; clear hK K) | (apply Exists.intro; refine ⟨fun _ => ?_, hK _ ?_⟩; (fail); clear hK K)) | (refine wpQs_f (fun K hK => ?_); go_simp; refine hK _ ?_; clear hK K))
  refine wpQs_nil ?_
  repeat (first | (refine wpLs_skip ?_) | (refine wpLs_one ?lsA (fun v_ => ?_); case lsA => (intro w_ hw_ hp_; (go_simp; refine (HMK.out _).mono ?_; rintro e_ w9 ⟨c, Mc, rfl, h1, h2, h3⟩; exact ⟨_, rfl, Kept.of_below h3, c, Mc, rfl, h1, fun b hb => Nat.le_trans (Nat.le_trans (after HH.out G5.out).size (msd_kept hw_).size) (h2 b hb)⟩))))
  refine wpLs_nilB ?_
  simp only [tails]
  rintro W6 h6 ⟨-, c, Mc, rfl, hCh, hMc⟩
  clear p0 p1 t1
  have HCH := Lib.hid hCh
  have HMC := Lib.hid hMc
  have G6 := Lib.hid (after G5.out h6)
  clear hCh hMc h6
  go_upto_region 15 with (fail)
  have hT6 := HT.out.on G6.out
  have t3 := hT6.blk.cell 3
  obtain ⟨W7, hW7⟩ : ∃ W7, W7 = W6.alloc (.cells #[.pointer (some ⟨c, 0, none⟩), .bool false, .int .i64 0] 142) := ⟨_, rfl⟩
  obtain ⟨W8, hW8⟩ : ∃ W8, W8 = W7.alloc (.cells #[.pointer (some ⟨W6.heap.size, 0, none⟩)] 128) := ⟨_, rfl⟩
  have h7 : Below W6.heap.size W6 W7 := by rw [hW7]; exact (Below.refl _ _).alloc (Nat.le_refl _) _
  have h8 : Below W7.heap.size W7 W8 := by rw [hW8]; exact (Below.refl _ _).alloc (Nat.le_refl _) _
  have h68 := after h7 h8
  have I8 : Blk W8 W6.heap.size 142 #[.pointer (some ⟨c, 0, none⟩), .bool false, .int .i64 0] := (Blk.fresh hW7).on h8
  have Y8 : Blk W8 W7.heap.size 128 #[.pointer (some ⟨W6.heap.size, 0, none⟩)] := Blk.fresh hW8
  have hT8 := hT6.on h68
  have hll : (L.map (·.1)).length ≤ 1000 := by rw [List.length_map, show L.length = T.l.length by rw [← HT0.out.l, List.length_map]]; exact HN.out
  obtain ⟨g, cp, w9, hrun, ho, hg9, hgo⟩ := run_push_at (P := Tryz.prog) (w := W8) (base := 0) (e := 128) (size := 1) (enc := encA) (v := v) (xs := L.map (·.1)) (ts := 133) (ty := 133) (z := .pointer none) (bytes := 8) (b := W7.heap.size) (x := W6.heap.size) Tryz.underlying133 infP rfl (by decide) (by decide) rfl (by intro u hu; simp at hu; rw [hu]; rfl) hT8.row (fun j u hu => by rw [Y8.cell j]; simpa using hu) (by omega) (Nat.zero_le _)
  have hvo : ∀ b, v.ownBlock = some b → b < w.heap.size ∧ ∃ cur, Blk W8 b 128 cur := fun b hb => ⟨(HT0.out.row.block b hb).2, (own_at hT8.row hb).2⟩
  have k9 : Kept (fun b => v.ownBlock ≠ some b) W8 w9 := ⟨hg9.os, hg9.tape, hg9.output, hg9.size, fun b hb hK => hg9.block b hb (Ne.symm hK)⟩
  have hwW : Below w.heap.size w W8 := after (after HH.out G6.out) h68
  have B9 := k9.blk (fun e => by obtain ⟨-, cur, h5⟩ := hvo t e; exact absurd (one_type h5 hT8.blk) (by decide)) hT8.blk
  have f3 := B9.frz 3
  have k3 := B9.cell 3
  have FIN := Lib.hid (show Aft (TbA t { T with l := T.l ++ [newI T.seed px pz] }) w M (w9.setCell ⟨t, 3, none⟩ (.slice (some ⟨g, 0, none⟩) ((L.map (·.1)).length + 1) cp)) from by
    have hst : Kept (fun b => b ≠ t) w9 (w9.setCell ⟨t, 3, none⟩ (.slice (some ⟨g, 0, none⟩) ((L.map (·.1)).length + 1) cp)) := (Kept.refl _ _).setCell (by simp) _
    have htl := HT0.out.blk.lt
    have hsz6 : w.heap.size ≤ W6.heap.size := (after HH.out G6.out).size
    refine HT0.out.more HM.out (a := W6.heap.size) (c := c) (Mc := Mc) (it := newI T.seed px pz) ?_ (B9.set_ 3 _) (ho.keep hst fun b hb e => ?_) (fun b hb => ?_) (hst.blk (by omega) (k9.blk (fun e => by have := (hvo _ e).1; omega) I8)) ?_ hsz6 HMC.out
    · exact ((Kept.of_below hwW).mono (K' := fun b => b ≠ t ∧ v.ownBlock ≠ some b) fun _ _ => trivial).trans ((k9.mono fun b hb => hb.2).trans (hst.mono fun b hb => hb.1))
    · obtain ⟨-, cur, h5⟩ := own_at ho hb
      subst e
      exact absurd (one_type h5 B9) (by decide)
    · simp [Value.ownBlock] at hb
      subst hb
      rcases hgo with h | h
      · exact .inl h
      · exact .inr (Nat.le_trans hwW.size h)
    · have c8 := (chA_fit c px pz (genL T.seed px pz)).on HCH.out h68
      have c9 := (chA_fit c px pz (genL T.seed px pz)).kept c8 k9 (fun b hb e => by have := (hvo b e).1; have := HMC.out b hb; omega) (fun b cs hb e => by obtain ⟨-, cur, h5⟩ := hvo b e; exact absurd (one_type hb h5) (by decide))
      exact (chA_fit c px pz (genL T.seed px pz)).kept c9 hst (fun b hb e => by have := HMC.out b hb; omega) (fun b cs hb e => by subst e; exact absurd (one_type hb B9) (by decide)))
  have hs7 : W7.heap.size = W6.heap.size + 1 := by rw [hW7]; simp
  rw [hs7, hW8, hW7] at hrun
  clear hT6 h7 h8 h68 I8 Y8 hT8 hll ho hg9 hgo hvo k9 hwW B9 hs7 hW7 hW8
  go_wp2_with (at_builtin; refine Lib.wpList_append_run _ rfl _ _ _ _ rfl _ _ rfl rfl _ _ hrun ?_)
  go_returns
  exact ⟨rfl, by have := FIN.out; rwa [List.length_map] at this⟩
end Go.Proofs.YtmbccnioijokfaaGreatDoor

namespace Go.Proofs.YtmbccnioijokfaaGreatDoor
open Go.RowKit
attribute [local go_sem] Oper.semAt_some
abbrev encCh (c : Int × Int × Int × Int) : List Value := [.int .i64 c.1, .int .i64 c.2.1, .int .i64 c.2.2.1, .int .i64 c.2.2.2]
def WdA (wd t : Nat) (T : TS) (k : Nat) : Asn := fun w M => ∃ v xs Mt, Blk w wd 114 #[.pointer (some ⟨t, 0, none⟩), v] ∧ Owns w 0 307 4 encCh v xs ∧ xs.length ≤ k ∧ TbA t T w Mt ∧ ∀ b, M b ↔ b = wd ∨ v.ownBlock = some b ∨ Mt b
section
variable {w w' : World} {wd t k : Nat} {M K : Nat → Prop} {T : TS}
def WdT (ty : TypeId) : Prop := ty = 114 ∨ ty = 307 ∨ TbT ty
theorem WdA.type (h : WdA wd t T k w M) {b : Nat} (hb : M b) : b < w.heap.size ∧ ∀ ty cs, Blk w b ty cs → WdT ty := by
  obtain ⟨v, xs, Mt, h1, h2, -, h3, hM⟩ := h
  rcases (hM b).1 hb with rfl | hb | hb
  · exact ⟨h1.lt, fun ty cs hB => .inl (one_type hB h1)⟩
  · obtain ⟨-, cur, h4⟩ := own_at h2 hb
    exact ⟨h4.lt, fun ty cs hB => .inr (.inl (one_type hB h4))⟩
  · exact ⟨(h3.type hb).1, fun ty cs hB => .inr (.inr ((h3.type hb).2 ty cs hB))⟩
theorem wdA_fit (wd t : Nat) (T : TS) (k : Nat) : Asn.Fit 5 (WdA wd t T k) where
  lt := fun h b hb => (h.type hb).1
  nob := fun h b hb cs hB => by
    rcases (h.type hb).2 _ _ hB with h | h | h | h | h | h | h | h | h | h <;> revert h <;> decide
  kept := fun ⟨v, xs, Mt, h1, h2, h3, h4, hM⟩ hk k1 k2 => ⟨v, xs, Mt, hk.blk (k1 _ ((hM _).2 (.inl rfl))) h1, h2.keep hk (fun b hb => k1 b ((hM b).2 (.inr (.inl hb)))), h3, (tbA_fit t T).kept h4 hk (fun b hb => k1 b ((hM b).2 (.inr (.inr hb)))) k2, hM⟩
theorem tb_no {b : Nat} {ty : TypeId} {cs : Array Value} {Mt : Nat → Prop} (h : TbA t T w Mt) (hB : Blk w b ty cs) (ht : ¬ TbT ty) : ¬ Mt b := fun hb => ht ((h.type hb).2 _ _ hB)
theorem no_world : ¬ TbT 114 := by
  intro h
  rcases h with h | h | h | h | h | h | h | h <;> revert h <;> decide
theorem no_change : ¬ TbT 307 := by
  intro h
  rcases h with h | h | h | h | h | h | h | h <;> revert h <;> decide
end
set_option maxRecDepth 100000 in
set_option maxHeartbeats 1000000 in
theorem wtable_c (wd t k : Nat) (T : TS) (w : World) (M : Nat → Prop) (h : WdA wd t T k w M) : Calls Tryz.prog 30 #[.pointer (some ⟨wd, 0, none⟩)] w fun r w' => r = .returned (.pointer (some ⟨t, 0, none⟩)) ∧ w = w' := by
  obtain ⟨v, xs, Mt, h1, -⟩ := h
  have c0 := h1.cell 0
  clear h1
  go_enter Tryz.func30, Tryz.ntmps30
  go_wp2_with fail
  go_returns
  exact ⟨rfl, rfl⟩
abbrev viewV (t : Nat) : Value := .func (.func 67) #[.pointer (some ⟨t, 0, none⟩)] #[]
set_option maxRecDepth 100000 in
set_option maxHeartbeats 1000000 in
theorem wview_c (wd t k : Nat) (T : TS) (w : World) (M : Nat → Prop) (h : WdA wd t T k w M) : Calls Tryz.prog 29 #[.pointer (some ⟨wd, 0, none⟩)] w fun r w' => r = .returned (viewV t) ∧ w = w' := by
  obtain ⟨v, xs, Mt, h1, -⟩ := h
  have hmf : ∀ (fn : Fn) (first cap : Array Value) (w : World), (Instr.makeFunc fn first cap).run Tryz.prog w = .ok (.func fn first cap) w := fun _ _ _ _ => rfl
  have c0 := h1.cell 0
  clear h1
  go_enter Tryz.func29, Tryz.ntmps29
  go_wp2_with fail
  go_returns
  exact ⟨rfl, rfl⟩
end Go.Proofs.YtmbccnioijokfaaGreatDoor

namespace Go.Proofs.YtmbccnioijokfaaGreatDoor
open Go.RowKit
attribute [local go_sem] Oper.semAt_some
theorem view_tells {t : Nat} {T : TS} {w : World} {M : Nat → Prop} (h : TbA t T w M) (hn : T.l.length ≤ 1000) : Tells Tryz.prog 67 (.pointer (some ⟨t, 0, none⟩)) (fun c => T.at c.1 c.2.1 c.2.2) w := by
  intro c hc W hb
  obtain ⟨s, d, v, L, Ms, Mi, h1, -⟩ := (tbA_fit t T).on h hb
  exact tat_c t s d v L Ms Mi T c.1 c.2.1 c.2.2 hc.1 hc.2 W h1 hn
end Go.Proofs.YtmbccnioijokfaaGreatDoor

namespace Go.Proofs.YtmbccnioijokfaaGreatDoor
open Go.RowKit
attribute [local go_sem] Oper.semAt_some
abbrev encP (p : Int × Int) : List Value := [.int .i64 p.1, .int .i64 p.2]
theorem lenP (p : Int × Int) : (encP p).length = 2 := rfl
theorem infPos : (Tryz.prog.info? 123).map (fun i => (i.zero, i.size, i.bytes)) = some (some (.agg #[.int .i64 0, .int .i64 0]), 2, 16) := by kernel_rfl
def plOf (p : Nat × TI) : Int × Int := (p.2.x, p.2.z)
def TS.here (T : TS) : List (Int × Int) := T.l.map fun i => (i.x, i.z)
def HereI (w wr : World) (xs : List (Int × Int)) (v : Value) : Prop := Owns wr w.heap.size 123 2 encP v xs ∧ Below w.heap.size w wr
def HereR (w : World) (xs : List (Int × Int)) (r : Ending) (w' : World) : Prop := ∃ v, r = .returned v ∧ Owns w' w.heap.size 123 2 encP v xs ∧ Below w.heap.size w w'
theorem pos_push {B : Nat} {v : Value} {xs : List (Int × Int)} {p : Int × Int} {W : World} {b : Nat} (hO : Owns W B 123 2 encP v xs) (h8 : Blk W b 123 #[.int .i64 p.1, .int .i64 p.2]) (hl : xs.length ≤ 1000000) (hB : B ≤ W.heap.size) :
    ∃ q c w', (Builtin.append_ #[166, 166] 166 #[v, .slice (some ⟨b, 0, none⟩) 1 1]).run Tryz.prog W = .ok (.slice q (xs.length + 1) c) w' ∧ Owns w' B 123 2 encP (.slice q (xs.length + 1) c) (xs ++ [p]) ∧ Below B W w' := by
  obtain ⟨v', w', hrun, V2, -, hb2, g2, c2, rfl⟩ := run_push (P := Tryz.prog) (ts := 166) (ty := 166) (x := p) (b := b) Tryz.underlying166 infPos rfl (by decide) (by decide) rfl (by intro u hu; simp [encP] at hu; rcases hu with rfl | rfl <;> rfl) hO (fun j u hu => by rw [h8.cell j]; simpa [encP] using hu) (by omega) hB
  exact ⟨_, _, w', hrun, V2, hb2⟩
set_option maxRecDepth 100000 in
set_option maxHeartbeats 4000000 in
theorem there_c (t : Nat) (T : TS) (w : World) (M : Nat → Prop) (h : TbA t T w M) (hn : T.l.length ≤ 1000) :
    Calls Tryz.prog 104 #[.pointer (some ⟨t, 0, none⟩)] w fun r w' => HereR w T.here r w' := by
  obtain ⟨s, d, v, L, Ms, Mi, h, -⟩ := h
  have hll : L.length = T.l.length := by rw [← h.l, List.length_map]
  obtain ⟨q, cap, hv, hc1, hc2, hrd, -⟩ := h.row.form lenA
  have hB := h.blk
  rw [hv, show (L.map (·.1)).length = L.length by simp] at hB
  have t3 := hB.cell 3
  have hrow : ∀ k p, L[k]? = some p → ∀ W, Below w.heap.size w W → ∃ g o c vv, q = some ⟨g, o, none⟩ ∧ W.cell? ⟨g, o + k, none⟩ = some (.pointer (some ⟨p.1, 0, none⟩)) ∧ Blk W p.1 142 #[.pointer (some ⟨c, 0, none⟩), .bool p.2.dirty, .int .i64 p.2.pins] ∧ Blk W c 186 #[.int .i64 p.2.x, .int .i64 p.2.z, vv] := fun k p hk W hb => by
    have hkl := (List.getElem?_eq_some_iff.1 hk).1
    obtain ⟨g, o, hq, h1⟩ := hrd.on hb (by simp; omega)
    obtain ⟨M', ⟨c, Mc, hI, ⟨vv, R, hC, -⟩, -⟩, -⟩ := its_mem (h.on hb).its (List.mem_of_getElem? hk)
    refine ⟨g, o, c, vv, hq, ?_, hI, hC⟩
    have := h1 k p.1 (by rw [List.getElem?_map, hk]; rfl) 0 _ rfl
    simpa using this
  have HROW := Lib.hid hrow
  have hth : T.here = L.map plOf := by unfold TS.here; rw [← h.l, List.map_map]; rfl
  rw [hth]
  have hLn : L.length ≤ 1000 := by omega
  have HC2 := Lib.hid hc2
  clear h hll hv hc1 hc2 hrd hB hrow hth hn
  go_enter Tryz.func104, Tryz.ntmps104
  go_upto_region 3 with (fail)
  go_loopw [3, 5, 11] (fun v x i wr => ∃ (k : Nat), k ≤ L.length ∧ i = .int .i64 k ∧ Hid (HereI w wr ((L.map plOf).take k) v)) (fun _ _ i _ => L.length - (intOf i).toNat)
  case atStart => exact ⟨0, Nat.zero_le _, rfl, ⟨Owns.nil, Below.refl _ _⟩⟩
  case round =>
    obtain ⟨k, hk, rfl, hI⟩ := hrel
    by_cases hlt : k < L.length
    · obtain ⟨p, hp⟩ : ∃ p, L[k]? = some p := ⟨_, List.getElem?_eq_getElem hlt⟩
      obtain ⟨g, o, c, vv, rfl, r0, hIB, hCB⟩ := HROW.out k p hp wr hI.out.2
      have i0 := hIB.cell 0
      have c0 := hCB.cell 0
      have c1 := hCB.cell 1
      have HPL := Lib.hid fun W => cplace_c p.2.x p.2.z W
      have hk0 : (0 : Int) ≤ k := by omega
      have hk1 : (k : Int) < (L.length : Int) := by omega
      have hw : IntKind.i64.wrap ((k : Int) + 1) = (k : Int) + 1 := IntWalk.i64_in _ (by omega)
      have hst : (L.map plOf).take (k + 1) = (L.map plOf).take k ++ [(p.2.x, p.2.z)] := by
        rw [List.take_add_one, List.getElem?_map, hp]; rfl
      have hln : ((L.map plOf).take k).length = k := by simp; omega
      have HST := Lib.hid hst
      have HLN := Lib.hid hln
      clear hst hln hIB hCB hp
      go_upto_region 5 with (fail)
      go_upto_region 6 with first
        | (go_at_call 120; refine (HPL.out _).mono ?_; rintro e_ w1 ⟨rfl, g1⟩; have G1 := Lib.hid g1; clear g1)
        | (at_builtin; obtain ⟨q2, c2, w2, hrun, ho, hb2⟩ := pos_push (W := w1.alloc (.cells #[.int .i64 p.2.x, .int .i64 p.2.z] 123)) (p := (p.2.x, p.2.z)) ((hI.out.1.on G1.out).on (bel_alloc _ _)) (Blk.new' rfl) (by rw [HLN.out]; omega) (Nat.le_trans hI.out.2.size (Nat.le_trans G1.out.size (bel_alloc _ _).size)); rw [HLN.out] at hrun ho; have HO2 := Lib.hid (And.intro ho (after' (after hI.out.2 G1.out) (Nat.le_refl _) (bel_alloc _ _) |>.trans (hb2.mono (by simp)))); clear ho hb2; refine Lib.wpList_append_run _ rfl _ _ _ _ rfl _ _ rfl rfl _ _ hrun ?_)
      have HF : Hid (HereI w w2 ((L.map plOf).take (k + 1)) (.slice q2 (k + 1) c2)) := Lib.hid (by rw [HST.out]; exact HO2.out)
      go_wp2_with fail
      exact ⟨⟨k + 1, hlt, by go_num, HF⟩, by simp [intOf]; omega⟩
    · obtain rfl : k = L.length := by omega
      have hk1 : ¬ ((L.length : Int) < (L.length : Int)) := by omega
      have ht : (L.map plOf).take L.length = L.map plOf := List.take_of_length_le (by simp)
      rw [ht] at hI
      clear ht
      go_wp2_with fail
      go_returns
      exact ⟨_, rfl, hI.out.1, hI.out.2⟩
end Go.Proofs.YtmbccnioijokfaaGreatDoor

namespace Go.Proofs.YtmbccnioijokfaaGreatDoor
open Go.RowKit Go.Shelf
attribute [local go_sem] Oper.semAt_some
set_option maxRecDepth 100000 in
set_option maxHeartbeats 4000000 in
theorem pidx_c (q : Option Addr) (cp : Nat) (xs : List (Int × Int)) (hm : xs.length ≤ 1000000) (p : Int × Int) (w : World) (hR : Rd w q 2 encP xs) :
    Calls Tryz.prog 299 #[.slice q xs.length cp, .agg #[.int .i64 p.1, .int .i64 p.2]] w fun r w' => ∃ k : Int, r = .returned (.int .i64 k) ∧ FirstIs (fun j => ((xs[j]?).map fun x => posB p.1 p.2 x.1 x.2).getD false) xs.length k ∧ Below w.heap.size w w' := by
  obtain ⟨W, hW⟩ : ∃ W, W = w.alloc (.cells #[.int .i64 p.1, .int .i64 p.2] 123) := ⟨_, rfl⟩
  have H : Below w.heap.size w W := by rw [hW]; exact bel_alloc _ _
  have X : Blk W w.heap.size 123 #[.int .i64 p.1, .int .i64 p.2] := Blk.fresh hW
  have HM := Lib.hid (show xs.length ≤ maxLen by unfold maxLen; omega)
  have pe := pos_eq
  have pg := pos_guard
  have hR2 := Lib.hid (hR.on H)
  have HH := Lib.hid H
  have HX := Lib.hid X
  clear hm hR H X
  go_enter Tryz.func299, Tryz.ntmps299
  go_upto_region 2 with (fail)
  rw [← hW]
  clear hW
  go_loopw [5, 8] (fun _ iv wr => ∃ (i : Nat), iv = .int .i64 (i : Nat) ∧ Hid (i ≤ xs.length) ∧ Hid (∀ j, j < i → ((xs[j]?).map fun x => posB p.1 p.2 x.1 x.2).getD false = false) ∧ Hid (Below W.heap.size W wr)) (fun _ v _ => xs.length - (intOf v).toNat)
  case atStart => exact ⟨0, rfl, Nat.zero_le _, Lib.hid (fun j hj => by omega), Below.refl _ _⟩
  case round =>
    obtain ⟨i, rfl, hi, hno, H⟩ := hrel
    by_cases hlt : i < xs.length
    · obtain ⟨x, hx⟩ : ∃ x, xs[i]? = some x := ⟨_, List.getElem?_eq_getElem hlt⟩
      have hlt' : (i : Int) < (xs.length : Int) := by omega
      obtain ⟨g, o, rfl, hI⟩ := (hR2.out.on H.out) (by omega)
      have h0 : wr.cell? ⟨g, o + i * 2, none⟩ = some (.int .i64 x.1) := hI i x hx 0 _ rfl
      have h1 : wr.cell? ⟨g, o + i * 2 + 1, none⟩ = some (.int .i64 x.2) := hI i x hx 1 _ rfl
      have e0 := fun d os => cell_regrown h0 d os
      have e1 := fun d os => cell_regrown h1 d os
      obtain ⟨y0, y1⟩ := (HX.out.on H.out).rep
      obtain ⟨n2, n3, n5, n6⟩ := nextx hlt HM.out
      have HXI := Lib.hid hx
      clear hx hI h0 h1
      cases hp : posB p.1 p.2 x.1 x.2
      · have HP := Lib.hid (show ((xs[i]?).map fun x => posB p.1 p.2 x.1 x.2).getD false = false by rw [HXI.out]; exact hp)
        go_upto_region 4 with (fail)
        refine wp_region_quiet_below (by kernel_rfl) (by kernel_rfl) ?_
        repeat (go_big_quiet_step (fail))
        refine wpQuiet_nil ?_
        intro w' hw'
        obtain ⟨rg, rfl⟩ := hw'
        clear e0 e1 y0 y1
        go_wp2_with fail
        exact ⟨⟨i + 1, by go_num, hlt, Lib.hid (fun j hj => by
          rcases Nat.lt_or_eq_of_le (Nat.le_of_lt_succ hj) with h | rfl
          · exact hno.out j h
          · exact HP.out), Lib.hid (after H.out (below_regrown _ _ _))⟩, by simp [intOf]; omega⟩
      · have HP := Lib.hid (show ((xs[i]?).map fun x => posB p.1 p.2 x.1 x.2).getD false = true by rw [HXI.out]; exact hp)
        go_upto_region 4 with (fail)
        refine wp_region_quiet_below (by kernel_rfl) (by kernel_rfl) ?_
        repeat (go_big_quiet_step (fail))
        refine wpQuiet_nil ?_
        intro w' hw'
        obtain ⟨rg, rfl⟩ := hw'
        clear e0 e1 y0 y1
        go_wp2_with fail
        go_returns
        exact ⟨(i : Int), rfl, .inr ⟨i, hlt, rfl, HP.out, hno.out⟩, after HH.out (after H.out (below_regrown _ _ _))⟩
    · have hi2 : i = xs.length := by have := hi.out; omega
      have hlt' : ¬ (i : Int) < (xs.length : Int) := by omega
      go_wp2_with fail
      go_returns
      exact ⟨-1, rfl, .inl ⟨rfl, fun j hj => hno.out j (by omega)⟩, after HH.out H.out⟩
theorem first_any {xs : List (Int × Int)} {p : Int × Int} {k : Int} (h : FirstIs (fun j => ((xs[j]?).map fun x => posB p.1 p.2 x.1 x.2).getD false) xs.length k) : decide (0 ≤ k) = decide (p ∈ xs) := by
  rcases h with ⟨rfl, h⟩ | ⟨m, hm, rfl, h1, -⟩
  · rw [decide_eq_false (by omega), decide_eq_false]
    intro hp
    obtain ⟨j, hj⟩ := List.getElem?_of_mem hp
    have := h j (List.getElem?_eq_some_iff.1 hj).1
    dsimp only at this
    rw [hj] at this
    simp [posB] at this
  · rw [decide_eq_true (by omega), decide_eq_true]
    obtain ⟨x, hx⟩ : ∃ x, xs[m]? = some x := ⟨_, List.getElem?_eq_getElem hm⟩
    dsimp only at h1
    rw [hx] at h1
    have h2 := posB_iff.1 h1
    rw [show p = x from Prod.ext h2.1 h2.2]
    exact List.mem_of_getElem? hx
theorem pcont_c (q : Option Addr) (cp : Nat) (xs : List (Int × Int)) (hm : xs.length ≤ 1000000) (p : Int × Int) (w : World) (hR : Rd w q 2 encP xs) :
    Calls Tryz.prog 236 #[.slice q xs.length cp, .agg #[.int .i64 p.1, .int .i64 p.2]] w fun r w' => r = .returned (.bool (decide (p ∈ xs))) ∧ Below w.heap.size w w' := by
  obtain ⟨W, hW⟩ : ∃ W, W = w.alloc (.cells #[.int .i64 p.1, .int .i64 p.2] 123) := ⟨_, rfl⟩
  have H : Below w.heap.size w W := by rw [hW]; exact bel_alloc _ _
  have X : Blk W w.heap.size 123 #[.int .i64 p.1, .int .i64 p.2] := Blk.fresh hW
  have HI := Lib.hid (pidx_c q cp xs hm p W (hR.on H))
  have HH := Lib.hid H
  obtain ⟨x0, x1, -, -⟩ := X.pair
  clear hm hR H X
  go_enter Tryz.func236, Tryz.ntmps236
  go_upto_region 1 with (fail)
  rw [← hW]
  clear hW
  go_wp2_with (go_at_call 299; refine HI.out.mono ?_; rintro e_ w1 ⟨k, rfl, hk, g1⟩; have HK := Lib.hid hk; have G1 := Lib.hid g1; clear hk g1)
  go_returns
  exact ⟨congrArg (fun b => Ending.returned (.bool b)) (first_any HK.out), after HH.out G1.out⟩
end Go.Proofs.YtmbccnioijokfaaGreatDoor

namespace Go.Proofs.YtmbccnioijokfaaGreatDoor
open Go.RowKit Go.Shelf
attribute [local go_sem] Oper.semAt_some
def ringL (a b : Int) : List (Int × Int) := [(a, b), (a - 1, b), (a + 1, b), (a, b - 1), (a, b + 1)]
def TS.ready (T : TS) (x z : Int) : Bool := (ringL (x / 16) (z / 16)).all fun p => decide (p ∈ T.here)
theorem ring_get {a b : Int} {k : Nat} (hk : k < 5) : ∃ p, (ringL a b)[k]? = some p := ⟨_, List.getElem?_eq_getElem hk⟩
theorem all_stop {l : List (Int × Int)} {q : Int × Int → Bool} {k : Nat} {p : Int × Int} (h : l[k]? = some p) (hq : q p = false) : l.all q = false := by
  rw [List.all_eq_false]
  exact ⟨p, List.mem_of_getElem? h, by rw [hq]; decide⟩
theorem all_go {l : List (Int × Int)} {q : Int × Int → Bool} (h : ∀ (j : Nat) (p : Int × Int), l[j]? = some p → q p = true) : l.all q = true := by
  rw [List.all_eq_true]
  intro x hx
  obtain ⟨j, hj⟩ := List.getElem?_of_mem hx
  exact h j x hj
theorem at5_0 (a0 a1 a2 a3 a4 a5 a6 a7 a8 a9 : Value) (w : World) : (Instr.index 297 (.agg #[a0, a1, a2, a3, a4, a5, a6, a7, a8, a9]) (.int .i64 0)).run Tryz.prog w = .ok (.agg #[a0, a1]) w := by kernel_rfl
theorem at5_1 (a0 a1 a2 a3 a4 a5 a6 a7 a8 a9 : Value) (w : World) : (Instr.index 297 (.agg #[a0, a1, a2, a3, a4, a5, a6, a7, a8, a9]) (.int .i64 1)).run Tryz.prog w = .ok (.agg #[a2, a3]) w := by kernel_rfl
theorem at5_2 (a0 a1 a2 a3 a4 a5 a6 a7 a8 a9 : Value) (w : World) : (Instr.index 297 (.agg #[a0, a1, a2, a3, a4, a5, a6, a7, a8, a9]) (.int .i64 2)).run Tryz.prog w = .ok (.agg #[a4, a5]) w := by kernel_rfl
theorem at5_3 (a0 a1 a2 a3 a4 a5 a6 a7 a8 a9 : Value) (w : World) : (Instr.index 297 (.agg #[a0, a1, a2, a3, a4, a5, a6, a7, a8, a9]) (.int .i64 3)).run Tryz.prog w = .ok (.agg #[a6, a7]) w := by kernel_rfl
theorem at5_4 (a0 a1 a2 a3 a4 a5 a6 a7 a8 a9 : Value) (w : World) : (Instr.index 297 (.agg #[a0, a1, a2, a3, a4, a5, a6, a7, a8, a9]) (.int .i64 4)).run Tryz.prog w = .ok (.agg #[a8, a9]) w := by kernel_rfl
set_option maxRecDepth 100000 in
set_option maxHeartbeats 4000000 in
theorem wready_c (wd t k : Nat) (T : TS) (x y z : Int) (w : World) (M : Nat → Prop) (h : WdA wd t T k w M) (hx : -1000000000000000 ≤ x ∧ x ≤ 1000000000000000) (hz : -1000000000000000 ≤ z ∧ z ≤ 1000000000000000) (hn : T.l.length ≤ 1000) :
    Calls Tryz.prog 181 #[.pointer (some ⟨wd, 0, none⟩), .agg #[.int .i64 x, .int .i64 y, .int .i64 z]] w fun r w' => r = .returned (.bool (T.ready x z)) ∧ Below w.heap.size w w' := by
  obtain ⟨v, xs, Mt, h1, -, -, h4, -⟩ := h
  obtain ⟨W, hW⟩ : ∃ W, W = w.alloc (.cells #[.int .i64 x, .int .i64 y, .int .i64 z] 43) := ⟨_, rfl⟩
  have H : Below w.heap.size w W := by rw [hW]; exact (Below.refl _ _).alloc (Nat.le_refl _) _
  have C : Blk W w.heap.size 43 #[.int .i64 x, .int .i64 y, .int .i64 z] := Blk.fresh hW
  have HHR := Lib.hid (there_c t T W Mt ((tbA_fit t T).on h4 H) hn)
  have HCH := Lib.hid fun W2 => cchunk_c x y z (by unfold In64; omega) (by unfold In64; omega) W2
  have HBE := Lib.hid fun W2 => cbeside_c (x / 16) (z / 16) (by omega) (by omega) W2
  have hlen : T.here.length ≤ 1000 := by unfold TS.here; rw [List.length_map]; exact hn
  have HC := Lib.hid C
  have HH := Lib.hid H
  have w0 := (h1.on H).cell 0
  unfold TS.ready
  generalize x / 16 = a at *
  generalize z / 16 = b at *
  generalize T.here = xh at *
  clear h1 h4 H C hx hz hn
  go_enter Tryz.func181, Tryz.ntmps181
  go_upto_region 1 with (fail)
  rw [← hW]
  clear hW
  go_upto_region 2 with (go_at_call 104; refine HHR.out.mono ?_; rintro e_ w1 ⟨v1, rfl, o1, g1⟩; have O1 := Lib.hid o1; have G1 := Lib.hid g1; clear o1 g1)
  clear w0
  obtain ⟨c0, c1, c2, -, -, -⟩ := (HC.out.on G1.out).c3
  go_upto_region 3 with first
    | (go_at_call 108; refine (HCH.out _).mono ?_; rintro e_ w2 ⟨rfl, g2⟩; have O2 := Lib.hid (O1.out.on g2); have G2 := Lib.hid (after G1.out g2); clear g2)
    | (go_at_call 235; refine (HBE.out _).mono ?_; rintro e_ w3 ⟨rfl, g3⟩; have G3 := Lib.hid (after G2.out g3); have O3 := Lib.hid (O2.out.on g3); clear g3)
  unfold besides
  obtain ⟨q, cp, rfl, -, -, hrd, -⟩ := O3.out.form lenP
  have HRD := Lib.hid hrd
  clear hrd c0 c1 c2 HCH HBE O1 O2 O3
  go_loopw [7, 16] (fun _ iv wr => ∃ (k : Nat), iv = .int .i64 (k : Nat) ∧ Hid (k ≤ 5) ∧ Hid (∀ (j : Nat) (p : Int × Int), j < k → (ringL a b)[j]? = some p → decide (p ∈ xh) = true) ∧ Hid (Below w3.heap.size w3 wr)) (fun _ v _ => 5 - (intOf v).toNat)
  case atStart => exact ⟨0, rfl, Lib.hid (by omega), Lib.hid (fun j p hj => by omega), Lib.hid (Below.refl _ _)⟩
  case round =>
    obtain ⟨k, rfl, hk, hno, H⟩ := hrel
    by_cases hlt : k < 5
    · have hlt' : (k : Int) < 5 := by omega
      obtain ⟨p, hp⟩ := ring_get (a := a) (b := b) hlt
      have HP := Lib.hid hp
      have hcase : k = 0 ∨ k = 1 ∨ k = 2 ∨ k = 3 ∨ k = 4 := by omega
      have HCO := Lib.hid fun (W1 : World) (h : Below w3.heap.size w3 W1) => pcont_c q cp xh (by omega) p W1 (HRD.out.on h)
      have HK := Lib.hid hlt
      clear hp
      have i0 := at5_0
      have i1 := at5_1
      have i2 := at5_2
      have i3 := at5_3
      have i4 := at5_4
      cases hd : decide (p ∈ xh)
      · rw [hd] at HCO
        have HD := Lib.hid hd
        clear hd
        rcases hcase with rfl | rfl | rfl | rfl | rfl
        · obtain rfl : (a, b) = p := Option.some.inj HP.out
          obtain ⟨W5, hW5⟩ : ∃ W5, W5 = wr.alloc (.cells #[.int .i64 (a), .int .i64 (b)] 123) := ⟨_, rfl⟩
          have h5 : Below wr.heap.size wr W5 := by rw [hW5]; exact bel_alloc _ _
          have x0 := (Blk.fresh hW5).cell 0
          have x1 := (Blk.fresh hW5).cell 1
          have HC5 := Lib.hid (HCO.out W5 (after H.out h5))
          go_upto_region 5 with (fail)
          rw [← hW5]
          clear hW5
          go_wp2_with (go_at_call 236; refine HC5.out.mono ?_; rintro e_ w4 ⟨rfl, g4⟩; have G4 := Lib.hid (after (after H.out h5) g4); clear g4)
          go_returns
          exact ⟨congrArg (fun b => Ending.returned (.bool b)) (all_stop HP.out HD.out).symm, after (after HH.out G3.out) G4.out⟩
        · obtain rfl : (a - 1, b) = p := Option.some.inj HP.out
          obtain ⟨W5, hW5⟩ : ∃ W5, W5 = wr.alloc (.cells #[.int .i64 (a - 1), .int .i64 (b)] 123) := ⟨_, rfl⟩
          have h5 : Below wr.heap.size wr W5 := by rw [hW5]; exact bel_alloc _ _
          have x0 := (Blk.fresh hW5).cell 0
          have x1 := (Blk.fresh hW5).cell 1
          have HC5 := Lib.hid (HCO.out W5 (after H.out h5))
          go_upto_region 5 with (fail)
          rw [← hW5]
          clear hW5
          go_wp2_with (go_at_call 236; refine HC5.out.mono ?_; rintro e_ w4 ⟨rfl, g4⟩; have G4 := Lib.hid (after (after H.out h5) g4); clear g4)
          go_returns
          exact ⟨congrArg (fun b => Ending.returned (.bool b)) (all_stop HP.out HD.out).symm, after (after HH.out G3.out) G4.out⟩
        · obtain rfl : (a + 1, b) = p := Option.some.inj HP.out
          obtain ⟨W5, hW5⟩ : ∃ W5, W5 = wr.alloc (.cells #[.int .i64 (a + 1), .int .i64 (b)] 123) := ⟨_, rfl⟩
          have h5 : Below wr.heap.size wr W5 := by rw [hW5]; exact bel_alloc _ _
          have x0 := (Blk.fresh hW5).cell 0
          have x1 := (Blk.fresh hW5).cell 1
          have HC5 := Lib.hid (HCO.out W5 (after H.out h5))
          go_upto_region 5 with (fail)
          rw [← hW5]
          clear hW5
          go_wp2_with (go_at_call 236; refine HC5.out.mono ?_; rintro e_ w4 ⟨rfl, g4⟩; have G4 := Lib.hid (after (after H.out h5) g4); clear g4)
          go_returns
          exact ⟨congrArg (fun b => Ending.returned (.bool b)) (all_stop HP.out HD.out).symm, after (after HH.out G3.out) G4.out⟩
        · obtain rfl : (a, b - 1) = p := Option.some.inj HP.out
          obtain ⟨W5, hW5⟩ : ∃ W5, W5 = wr.alloc (.cells #[.int .i64 (a), .int .i64 (b - 1)] 123) := ⟨_, rfl⟩
          have h5 : Below wr.heap.size wr W5 := by rw [hW5]; exact bel_alloc _ _
          have x0 := (Blk.fresh hW5).cell 0
          have x1 := (Blk.fresh hW5).cell 1
          have HC5 := Lib.hid (HCO.out W5 (after H.out h5))
          go_upto_region 5 with (fail)
          rw [← hW5]
          clear hW5
          go_wp2_with (go_at_call 236; refine HC5.out.mono ?_; rintro e_ w4 ⟨rfl, g4⟩; have G4 := Lib.hid (after (after H.out h5) g4); clear g4)
          go_returns
          exact ⟨congrArg (fun b => Ending.returned (.bool b)) (all_stop HP.out HD.out).symm, after (after HH.out G3.out) G4.out⟩
        · obtain rfl : (a, b + 1) = p := Option.some.inj HP.out
          obtain ⟨W5, hW5⟩ : ∃ W5, W5 = wr.alloc (.cells #[.int .i64 (a), .int .i64 (b + 1)] 123) := ⟨_, rfl⟩
          have h5 : Below wr.heap.size wr W5 := by rw [hW5]; exact bel_alloc _ _
          have x0 := (Blk.fresh hW5).cell 0
          have x1 := (Blk.fresh hW5).cell 1
          have HC5 := Lib.hid (HCO.out W5 (after H.out h5))
          go_upto_region 5 with (fail)
          rw [← hW5]
          clear hW5
          go_wp2_with (go_at_call 236; refine HC5.out.mono ?_; rintro e_ w4 ⟨rfl, g4⟩; have G4 := Lib.hid (after (after H.out h5) g4); clear g4)
          go_returns
          exact ⟨congrArg (fun b => Ending.returned (.bool b)) (all_stop HP.out HD.out).symm, after (after HH.out G3.out) G4.out⟩
      · rw [hd] at HCO
        have hno2 : ∀ (j : Nat) (p : Int × Int), j < k + 1 → (ringL a b)[j]? = some p → decide (p ∈ xh) = true := fun j p' hj hp' => by
          rcases Nat.lt_or_eq_of_le (Nat.le_of_lt_succ hj) with h | rfl
          · exact hno.out j p' h hp'
          · rw [HP.out] at hp'
            obtain rfl := Option.some.inj hp'
            exact hd
        have HN2 := Lib.hid hno2
        clear hd hno2 hno
        rcases hcase with rfl | rfl | rfl | rfl | rfl
        · obtain rfl : (a, b) = p := Option.some.inj HP.out
          obtain ⟨W5, hW5⟩ : ∃ W5, W5 = wr.alloc (.cells #[.int .i64 (a), .int .i64 (b)] 123) := ⟨_, rfl⟩
          have h5 : Below wr.heap.size wr W5 := by rw [hW5]; exact bel_alloc _ _
          have x0 := (Blk.fresh hW5).cell 0
          have x1 := (Blk.fresh hW5).cell 1
          have HC5 := Lib.hid (HCO.out W5 (after H.out h5))
          go_upto_region 5 with (fail)
          rw [← hW5]
          clear hW5
          go_wp2_with (go_at_call 236; refine HC5.out.mono ?_; rintro e_ w4 ⟨rfl, g4⟩; have G4 := Lib.hid (after (after H.out h5) g4); clear g4)
          exact ⟨⟨1, by go_num, Lib.hid (by omega), Lib.hid HN2.out, G4⟩, by simp [intOf]⟩
        · obtain rfl : (a - 1, b) = p := Option.some.inj HP.out
          obtain ⟨W5, hW5⟩ : ∃ W5, W5 = wr.alloc (.cells #[.int .i64 (a - 1), .int .i64 (b)] 123) := ⟨_, rfl⟩
          have h5 : Below wr.heap.size wr W5 := by rw [hW5]; exact bel_alloc _ _
          have x0 := (Blk.fresh hW5).cell 0
          have x1 := (Blk.fresh hW5).cell 1
          have HC5 := Lib.hid (HCO.out W5 (after H.out h5))
          go_upto_region 5 with (fail)
          rw [← hW5]
          clear hW5
          go_wp2_with (go_at_call 236; refine HC5.out.mono ?_; rintro e_ w4 ⟨rfl, g4⟩; have G4 := Lib.hid (after (after H.out h5) g4); clear g4)
          exact ⟨⟨2, by go_num, Lib.hid (by omega), Lib.hid HN2.out, G4⟩, by simp [intOf]⟩
        · obtain rfl : (a + 1, b) = p := Option.some.inj HP.out
          obtain ⟨W5, hW5⟩ : ∃ W5, W5 = wr.alloc (.cells #[.int .i64 (a + 1), .int .i64 (b)] 123) := ⟨_, rfl⟩
          have h5 : Below wr.heap.size wr W5 := by rw [hW5]; exact bel_alloc _ _
          have x0 := (Blk.fresh hW5).cell 0
          have x1 := (Blk.fresh hW5).cell 1
          have HC5 := Lib.hid (HCO.out W5 (after H.out h5))
          go_upto_region 5 with (fail)
          rw [← hW5]
          clear hW5
          go_wp2_with (go_at_call 236; refine HC5.out.mono ?_; rintro e_ w4 ⟨rfl, g4⟩; have G4 := Lib.hid (after (after H.out h5) g4); clear g4)
          exact ⟨⟨3, by go_num, Lib.hid (by omega), Lib.hid HN2.out, G4⟩, by simp [intOf]⟩
        · obtain rfl : (a, b - 1) = p := Option.some.inj HP.out
          obtain ⟨W5, hW5⟩ : ∃ W5, W5 = wr.alloc (.cells #[.int .i64 (a), .int .i64 (b - 1)] 123) := ⟨_, rfl⟩
          have h5 : Below wr.heap.size wr W5 := by rw [hW5]; exact bel_alloc _ _
          have x0 := (Blk.fresh hW5).cell 0
          have x1 := (Blk.fresh hW5).cell 1
          have HC5 := Lib.hid (HCO.out W5 (after H.out h5))
          go_upto_region 5 with (fail)
          rw [← hW5]
          clear hW5
          go_wp2_with (go_at_call 236; refine HC5.out.mono ?_; rintro e_ w4 ⟨rfl, g4⟩; have G4 := Lib.hid (after (after H.out h5) g4); clear g4)
          exact ⟨⟨4, by go_num, Lib.hid (by omega), Lib.hid HN2.out, G4⟩, by simp [intOf]⟩
        · obtain rfl : (a, b + 1) = p := Option.some.inj HP.out
          obtain ⟨W5, hW5⟩ : ∃ W5, W5 = wr.alloc (.cells #[.int .i64 (a), .int .i64 (b + 1)] 123) := ⟨_, rfl⟩
          have h5 : Below wr.heap.size wr W5 := by rw [hW5]; exact bel_alloc _ _
          have x0 := (Blk.fresh hW5).cell 0
          have x1 := (Blk.fresh hW5).cell 1
          have HC5 := Lib.hid (HCO.out W5 (after H.out h5))
          go_upto_region 5 with (fail)
          rw [← hW5]
          clear hW5
          go_wp2_with (go_at_call 236; refine HC5.out.mono ?_; rintro e_ w4 ⟨rfl, g4⟩; have G4 := Lib.hid (after (after H.out h5) g4); clear g4)
          exact ⟨⟨5, by go_num, Lib.hid (by omega), Lib.hid HN2.out, G4⟩, by simp [intOf]⟩
    · have hk5 : k = 5 := by have := hk.out; omega
      subst hk5
      go_wp2_with fail
      go_returns
      exact ⟨congrArg (fun b => Ending.returned (.bool b)) (all_go fun j p hp => hno.out j p (show j < (ringL a b).length from (List.getElem?_eq_some_iff.1 hp).1) hp).symm, after (after HH.out G3.out) H.out⟩
end Go.Proofs.YtmbccnioijokfaaGreatDoor

namespace Go.Proofs.YtmbccnioijokfaaGreatDoor
open Go.RowKit Go.Shelf
attribute [local go_sem] Oper.semAt_some
theorem snew_t (R : Int) (w : World) :
    Calls Tryz.prog 161 #[.int .i64 R] w fun r w' => ∃ s d Ms, r = .returned (.pointer (some ⟨s, 0, none⟩)) ∧ StoreIs w' 0 Ms s d (newS R) ∧ (∀ b, Ms b → w.heap.size ≤ b) ∧ w.heap.size ≤ s ∧ Below w.heap.size w w' := by
  have HN := Lib.hid (new_c R 0 w (Nat.zero_le _))
  go_enter Tryz.func161, Tryz.ntmps161
  go_wp2_with (go_at_call 209; refine HN.out.mono ?_; rintro e_ w1 ⟨d, M, rfl, D1, n1, h1⟩)
  go_returns
  obtain ⟨W2, hW⟩ : ∃ W2, W2 = w1.alloc (.cells #[.pointer (some ⟨d, 0, none⟩)] 151) := ⟨_, rfl⟩
  rw [← hW]
  have C := Blk.fresh hW
  have h2 : Below w1.heap.size w1 W2 := by rw [hW]; exact bel_alloc _ _
  exact ⟨_, d, M, rfl, ⟨C, D1.on h2, Nat.zero_le _⟩, n1, h1.size, after h1 h2⟩
def limI (n : Int) : Int := mnI (mxI n 1) 16
def newT (seed lim R : Int) : TS := ⟨seed, limI lim, [], newS R⟩
def NewTR (seed lim R : Int) (w : World) (r : Ending) (w' : World) : Prop := ∃ t M, r = .returned (.pointer (some ⟨t, 0, none⟩)) ∧ TbA t (newT seed lim R) w' M ∧ (∀ b, M b → w.heap.size ≤ b) ∧ Below w.heap.size w w'
theorem tnew_c (seed lim R : Int) (w : World) : Calls Tryz.prog 113 #[.int .i64 seed, .int .i64 lim, .int .i64 R] w fun r w' => NewTR seed lim R w r w' := by
  have HN := Lib.hid (snew_t R w)
  have hmn := @run_mn Tryz.prog
  have hmx := @run_mx Tryz.prog
  go_enter Tryz.func113, Tryz.ntmps113
  go_wp2_with (go_at_call 161; refine HN.out.mono ?_; rintro e_ w1 ⟨s, d, Ms, rfl, D1, n1, n2, h1⟩)
  go_returns
  obtain ⟨W2, hW⟩ : ∃ W2, W2 = w1.alloc (.cells #[.pointer (some ⟨s, 0, none⟩), .int .i64 seed, .int .i64 (limI lim), .slice none 0 0] 135) := ⟨_, rfl⟩
  have C := Blk.fresh hW
  have h2 : Below w1.heap.size w1 W2 := by rw [hW]; exact bel_alloc _ _
  unfold limI at hW
  rw [← hW]
  refine ⟨_, TbM w1.heap.size s (.slice none 0 0) Ms (fun _ => False), rfl, ⟨s, d, _, [], Ms, fun _ => False, ⟨C, D1.on h2, Owns.nil, fun _ h => h, rfl⟩, fun _ => Iff.rfl⟩, fun b hb => ?_, after h1 h2⟩
  rcases hb with rfl | rfl | hb | hb | hb
  · exact h1.size
  · exact n2
  · exact n1 _ hb
  · cases hb
  · cases hb
def NewWR (seed lim R : Int) (w : World) (r : Ending) (w' : World) : Prop := ∃ wd t M, r = .returned (.pointer (some ⟨wd, 0, none⟩)) ∧ WdA wd t (newT seed lim R) 0 w' M ∧ (∀ b, M b → w.heap.size ≤ b) ∧ Below w.heap.size w w'
theorem wnew_c (seed lim R : Int) (w : World) : Calls Tryz.prog 72 #[.int .i64 seed, .int .i64 lim, .int .i64 R] w fun r w' => NewWR seed lim R w r w' := by
  have HN := Lib.hid (tnew_c seed lim R w)
  go_enter Tryz.func72, Tryz.ntmps72
  go_wp2_with (go_at_call 113; refine HN.out.mono ?_; rintro e_ w1 ⟨t, Mt, rfl, T1, n1, h1⟩)
  go_returns
  obtain ⟨W2, hW⟩ : ∃ W2, W2 = w1.alloc (.cells #[.pointer (some ⟨t, 0, none⟩), .slice none 0 0] 114) := ⟨_, rfl⟩
  have C := Blk.fresh hW
  have h2 : Below w1.heap.size w1 W2 := by rw [hW]; exact bel_alloc _ _
  rw [← hW]
  refine ⟨_, t, fun b => b = w1.heap.size ∨ Value.ownBlock (.slice none 0 0) = some b ∨ Mt b, rfl, ⟨.slice none 0 0, [], Mt, C, Owns.nil, Nat.zero_le _, (tbA_fit t _).on T1 h2, fun _ => Iff.rfl⟩, fun b hb => ?_, after h1 h2⟩
  rcases hb with rfl | hb | hb
  · exact h1.size
  · cases hb
  · exact n1 _ hb
end Go.Proofs.YtmbccnioijokfaaGreatDoor

namespace Go.Proofs.YtmbccnioijokfaaGreatDoor
open Go.RowKit Go.Maps
attribute [local go_sem] Oper.semAt_some
def kc (c : Cl) : Lit := .string (keyBytes [.int .i64 c.1, .int .i64 c.2.1, .int .i64 c.2.2])
abbrev cellV (c : Cl) : Value := .agg #[.int .i64 c.1, .int .i64 c.2.1, .int .i64 c.2.2]
def In3 (c : Cl) : Prop := In64 c.1 ∧ In64 c.2.1 ∧ In64 c.2.2
theorem kt : Tryz.prog.keyType 43 = true := by kernel_rfl
abbrev QI := Int × Cl
abbrev encQ (x : QI) : List Value := [.int .i64 x.1, .int .i64 x.2.1, .int .i64 x.2.2.1, .int .i64 x.2.2.2]
theorem lenQ (x : QI) : (encQ x).length = 4 := rfl
structure QS where
  room : Int
  lost : Int
  l : List QI
def atQ (l : List QI) (c : Cl) : Int := match l.find? fun p => decide (p.2 = c) with
  | some p => p.1
  | none => 0
def hasQ (l : List QI) (c : Cl) : Bool := l.any fun p => decide (p.2 = c)
abbrev DU := DataW Unit
structure Tell (D : DU) (l : List QI) : Prop where
  size : Maps.size D = l.length
  has : ∀ c, In3 c → Maps.has D (kc c) = hasQ l c
  at_ : ∀ c, In3 c → D.atKey (kc c) (.lit (.int .i64 0)) = .lit (.int .i64 (atQ l c))
  far : ∀ p ∈ l, In3 p.2 ∧ In64 p.1
theorem tell_nil : Tell (.map []) [] := ⟨rfl, fun _ _ => rfl, fun _ _ => rfl, fun p hp => by cases hp⟩
end Go.Proofs.YtmbccnioijokfaaGreatDoor

namespace Go.Proofs.YtmbccnioijokfaaGreatDoor
open Go.RowKit Go.Maps
attribute [local go_sem] Oper.semAt_some
noncomputable abbrev RI : Value → Option (DU × List MemPlace) := plainElem Tryz.prog 3
def QA (q : Nat) (Q : QS) : Asn := fun w M => ∃ v m D, Blk w q 175 #[.int .i64 Q.room, .int .i64 Q.lost, v, .map (some m)] ∧ Owns w 0 92 4 encQ v Q.l ∧ w.ownsMap Tryz.prog 43 RI m Q.l.length D ∧ Tell D Q.l ∧ ∀ b, M b ↔ b = q ∨ v.ownBlock = some b ∨ b = m
theorem qmap_kept {w w' : World} {K : Nat → Prop} {m n : Nat} {D : DU} (h : w.ownsMap Tryz.prog 43 RI m n D) (hk : Kept K w w') (hm : K m) : w'.ownsMap Tryz.prog 43 RI m n D := by
  have hlt := h.lt
  obtain ⟨es, clock, hb, F, hs, hD⟩ := h
  exact ⟨es, clock, (hk.block m hlt hm).trans hb, F, hs, hD⟩
theorem map_no {w : World} {m n : Nat} {D : DU} {ty : TypeId} {cs : Array Value} (h : w.ownsMap Tryz.prog 43 RI m n D) : ¬ Blk w m ty cs := fun hB => by
  obtain ⟨es, clock, hb, -⟩ := h
  unfold Blk at hB
  rw [hb] at hB
  cases hB
def QT (ty : TypeId) : Prop := ty = 175 ∨ ty = 92
section
variable {w w' : World} {q : Nat} {Q : QS} {M K : Nat → Prop}
theorem QA.type (h : QA q Q w M) {b : Nat} (hb : M b) : b < w.heap.size ∧ ∀ ty cs, Blk w b ty cs → QT ty := by
  obtain ⟨v, m, D, h1, h2, h3, -, hM⟩ := h
  rcases (hM b).1 hb with rfl | hb | rfl
  · exact ⟨h1.lt, fun ty cs hB => .inl (one_type hB h1)⟩
  · obtain ⟨-, cur, h4⟩ := own_at h2 hb
    exact ⟨h4.lt, fun ty cs hB => .inr (one_type hB h4)⟩
  · exact ⟨h3.lt, fun ty cs hB => absurd hB (map_no h3)⟩
theorem qA_fit (q : Nat) (Q : QS) : Asn.Fit 5 (QA q Q) where
  lt := fun h b hb => (h.type hb).1
  nob := fun h b hb cs hB => by
    rcases (h.type hb).2 _ _ hB with h | h <;> revert h <;> decide
  kept := fun ⟨v, m, D, h1, h2, h3, h4, hM⟩ hk k1 k2 => ⟨v, m, D, hk.blk (k1 _ ((hM _).2 (.inl rfl))) h1, h2.keep hk (fun b hb => k1 b ((hM b).2 (.inr (.inl hb)))), qmap_kept h3 hk (k1 _ ((hM _).2 (.inr (.inr rfl)))), h4, hM⟩
end
def newQ (room : Int) : QS := ⟨mnI (mxI room 1) 4096, 0, []⟩
def NewQR (room : Int) (w : World) (r : Ending) (w' : World) : Prop := ∃ q M, r = .returned (.pointer (some ⟨q, 0, none⟩)) ∧ QA q (newQ room) w' M ∧ (∀ b, M b → w.heap.size ≤ b) ∧ Below w.heap.size w w'
theorem qnew_c (room : Int) (w : World) : Calls Tryz.prog 111 #[.int .i64 room] w fun r w' => NewQR room w r w' := by
  have hmn := @run_mn Tryz.prog
  have hmx := @run_mx Tryz.prog
  have hmm := @run_makeMap Tryz.prog
  go_enter Tryz.func111, Tryz.ntmps111
  go_wp2_with fail
  go_returns
  obtain ⟨W1, hW1⟩ : ∃ W1, W1 = w.alloc (.map #[] 0) := ⟨_, rfl⟩
  have hm : W1.ownsMap Tryz.prog 43 RI w.heap.size 0 (.map []) := by rw [hW1]; exact World.ownsMap_made _ _ _ _
  have hs1 : W1.heap.size = w.heap.size + 1 := by rw [hW1]; simp
  have h1 : Below w.heap.size w W1 := by rw [hW1]; exact bel_alloc _ _
  rw [← hW1]
  obtain ⟨W2, hW2⟩ : ∃ W2, W2 = W1.alloc (.cells #[.int .i64 (mnI (mxI room 1) 4096), .int .i64 0, .slice none 0 0, .map (some w.heap.size)] 175) := ⟨_, rfl⟩
  have h2 : Below W1.heap.size W1 W2 := by rw [hW2]; exact bel_alloc _ _
  have C := Blk.fresh hW2
  rw [hs1] at C
  rw [← hW2]
  refine ⟨w.heap.size + 1, fun b => b = w.heap.size + 1 ∨ Value.ownBlock (.slice none 0 0) = some b ∨ b = w.heap.size, rfl, ⟨_, w.heap.size, .map [], C, Owns.nil, qmap_kept (K := fun _ => True) hm ((Kept.of_below h2).mono fun _ _ => trivial) trivial, tell_nil, fun _ => Iff.rfl⟩, fun b hb => ?_, after h1 h2⟩
  rcases hb with rfl | hb | rfl
  · exact Nat.le_succ _
  · cases hb
  · exact Nat.le_refl _
end Go.Proofs.YtmbccnioijokfaaGreatDoor

namespace Go.Proofs.YtmbccnioijokfaaGreatDoor
open Go.RowKit Go.Maps
attribute [local go_sem] Oper.semAt_some
abbrev encCl (c : Cl) : List Value := [.int .i64 c.1, .int .i64 c.2.1, .int .i64 c.2.2]
theorem lenCl (c : Cl) : (encCl c).length = 3 := rfl
def DueR (q : Nat) (Q' : QS) (out : List Cl) (w : World) (M : Nat → Prop) (r : Ending) (w' : World) : Prop := ∃ v, r = .returned v ∧ Owns w' w.heap.size 43 3 encCl v out ∧ Aft (QA q Q') w M w'
set_option maxRecDepth 100000 in
set_option maxHeartbeats 1000000 in
theorem qdel0_c (q : Option Addr) (n cp : Nat) (hn : q = none → n = 0 ∧ cp = 0) (hc : n ≤ cp) (w : World) : Calls Tryz.prog 273 #[.slice q n cp, .int .i64 0, .int .i64 0] w fun r w' => r = .returned (.slice q n cp) ∧ w = w' := by
  have h1 : (n : Int) ≤ (cp : Int) := by omega
  have h2 : (0 : Int) ≤ (n : Int) := by omega
  rcases q with _ | a
  · obtain ⟨rfl, rfl⟩ := hn rfl
    go_enter Tryz.func273, Tryz.ntmps273
    go_wp2_with fail
    go_returns
    exact ⟨rfl, rfl⟩
  · clear hn
    go_enter Tryz.func273, Tryz.ntmps273
    go_wp2_with fail
    go_returns
    exact ⟨rfl, rfl⟩
theorem due_same {q : Nat} {Q : QS} {w : World} {M : Nat → Prop} {a b v d : Value} (h : QA q Q w M) (hB : Blk w q 175 #[a, b, v, d]) : ∀ w', w' = w.setCell ⟨q, 2, none⟩ v → DueR q Q [] w M (.returned (.slice none 0 0)) w' := by
  rintro w' rfl
  refine ⟨_, rfl, Owns.nil, ?_⟩
  have hk : Kept (fun b => b ≠ q) w (w.setCell ⟨q, 2, none⟩ v) := (Kept.refl _ _).setCell (by simp) _
  obtain ⟨v', m, D, h1, h2, h3, h4, hM⟩ := h
  have e : (#[a, b, v, d] : Array Value) = #[.int .i64 Q.room, .int .i64 Q.lost, v', .map (some m)] := by
    unfold Blk at hB h1
    rw [hB] at h1
    simpa using h1
  simp at e
  obtain ⟨rfl, rfl, rfl, rfl⟩ := e
  have hB2 := h1.set_ 2 v
  refine ⟨M, ⟨v, m, D, hB2, h2.keep hk fun b hb e => ?_, qmap_kept h3 hk (fun e => map_no h3 (by rw [e]; exact h1)), h4, hM⟩, fun b hb => .inl hb, hk.mono fun b hb e => hb ((hM _).2 (.inl e))⟩
  obtain ⟨-, cur, h5⟩ := own_at h2 hb
  subst e
  exact absurd (one_type h5 h1) (by decide)
set_option maxRecDepth 100000 in
set_option maxHeartbeats 4000000 in
theorem qdue0_c (q : Nat) (Q : QS) (now many : Int) (hl : Q.l = []) (w : World) (M : Nat → Prop) (h : QA q Q w M) :
    Calls Tryz.prog 202 #[.pointer (some ⟨q, 0, none⟩), .int .i64 now, .int .i64 many] w fun r w' => DueR q Q [] w M r w' := by
  have HQ := Lib.hid h
  obtain ⟨v, m, D, h1, h2, -⟩ := h
  rw [hl] at h2
  obtain ⟨q0, cp, rfl, hc1, -, -, -, -⟩ := h2.form lenQ
  have hq0 : q0 = none → ([] : List QI).length = 0 ∧ cp = 0 := fun e => by
    rcases h2.2 with ⟨hv, -⟩ | ⟨g, cap, cur, hv, -⟩
    · cases hv; exact ⟨rfl, rfl⟩
    · cases hv; cases e
  have HD := Lib.hid fun W => qdel0_c q0 0 cp hq0 (Nat.zero_le _) W
  have b2 := h1.cell 2
  have f2 := h1.frz 2
  have HF := Lib.hid (due_same HQ.out h1)
  have hcp : (0 : Int) ≤ (cp : Int) := by omega
  clear h1 h2 hq0 hc1 hl
  rcases q0 with _ | a
  · go_enter Tryz.func202, Tryz.ntmps202
    go_upto_region 2 with (fail)
    refine wp_loop_rounds 1 ?_
    rw [rounds_succ]
    go_upto_region 6 with (fail)
    refine wp_loop_rounds 1 ?_
    rw [rounds_succ]
    go_wp2_with (go_at_call 273; refine (HD.out _).mono ?_; rintro e_ w1 ⟨rfl, rfl⟩)
    go_returns
    exact HF.out _ rfl
  · go_enter Tryz.func202, Tryz.ntmps202
    go_upto_region 2 with (fail)
    refine wp_loop_rounds 1 ?_
    rw [rounds_succ]
    go_upto_region 6 with (fail)
    refine wp_loop_rounds 1 ?_
    rw [rounds_succ]
    go_wp2_with (go_at_call 273; refine (HD.out _).mono ?_; rintro e_ w1 ⟨rfl, rfl⟩)
    go_returns
    exact HF.out _ rfl
set_option maxRecDepth 100000 in
set_option maxHeartbeats 4000000 in
theorem qdue2_c (q : Nat) (Q : QS) (x : QI) (now many : Int) (hl : Q.l = [x]) (hx : now < x.1) (w : World) (M : Nat → Prop) (h : QA q Q w M) :
    Calls Tryz.prog 202 #[.pointer (some ⟨q, 0, none⟩), .int .i64 now, .int .i64 many] w fun r w' => DueR q Q [] w M r w' := by
  have HQ := Lib.hid h
  obtain ⟨v, m, D, h1, h2, -⟩ := h
  rw [hl] at h2
  obtain ⟨q0, cp, rfl, hc1, -, hrd, -, hq0⟩ := h2.form lenQ
  obtain ⟨g, rfl⟩ := hq0 (by simp)
  have hrd' := hrd (by simp)
  obtain ⟨g', o', e, h5⟩ := hrd'
  simp at e
  obtain ⟨rfl, rfl⟩ := e
  have r0 : w.cell? ⟨g, 0, none⟩ = some (.int .i64 x.1) := h5 0 x rfl 0 _ rfl
  simp only [List.length_singleton] at hc1
  have HD := Lib.hid fun W => qdel0_c (some ⟨g, 0, none⟩) 1 cp (fun e => by cases e) hc1 W
  have b2 := h1.cell 2
  have f2 := h1.frz 2
  have HF := Lib.hid (due_same HQ.out h1)
  have hcp : (0 : Int) ≤ (cp : Int) := by omega
  have hcp1 : (1 : Int) ≤ (cp : Int) := by omega
  have hx1 : ¬ x.1 ≤ now := by omega
  clear h1 h2 hc1 hl hrd h5 hx hq0
  by_cases hm : (0 : Int) < many
  · go_enter Tryz.func202, Tryz.ntmps202
    go_upto_region 2 with (fail)
    refine wp_loop_rounds 1 ?_
    rw [rounds_succ]
    go_upto_region 6 with (fail)
    refine wp_loop_rounds 1 ?_
    rw [rounds_succ]
    go_wp2_with (go_at_call 273; refine (HD.out _).mono ?_; rintro e_ w1 ⟨rfl, rfl⟩)
    go_returns
    exact HF.out _ rfl
  · go_enter Tryz.func202, Tryz.ntmps202
    go_upto_region 2 with (fail)
    refine wp_loop_rounds 1 ?_
    rw [rounds_succ]
    go_upto_region 6 with (fail)
    refine wp_loop_rounds 1 ?_
    rw [rounds_succ]
    go_wp2_with (go_at_call 273; refine (HD.out _).mono ?_; rintro e_ w1 ⟨rfl, rfl⟩)
    go_returns
    exact HF.out _ rfl
end Go.Proofs.YtmbccnioijokfaaGreatDoor

namespace Go.Proofs.YtmbccnioijokfaaGreatDoor
open Go.RowKit Go.Maps
attribute [local go_sem] Oper.semAt_some
structure SS where
  T : TS
  k : Nat
  Q : QS
  budget : Int
  now : Int
  d : Nat
structure SimAt (w : World) (s wd t q : Nat) (occ : Value) (S : SS) (v : Value) (ds : List Cl) (Mw Mq : Nat → Prop) : Prop where
  blk : Blk w s 111 #[.pointer (some ⟨q, 0, none⟩), .pointer (some ⟨wd, 0, none⟩), .int .i64 S.budget, .int .i64 S.now, occ, v]
  row : Owns w 0 43 3 encCl v ds
  len : ds.length ≤ S.d
  wd : WdA wd t S.T S.k w Mw
  q : QA q S.Q w Mq
  apart : ∀ b, Mw b → ¬ Mq b
def SimM (s : Nat) (v : Value) (Mw Mq : Nat → Prop) (b : Nat) : Prop := b = s ∨ v.ownBlock = some b ∨ Mw b ∨ Mq b
def SimA (s wd t q : Nat) (occ : Value) (S : SS) : Asn := fun w M => ∃ v ds Mw Mq, SimAt w s wd t q occ S v ds Mw Mq ∧ ∀ b, M b ↔ SimM s v Mw Mq b
def SimTy (ty : TypeId) : Prop := ty = 111 ∨ ty = 43 ∨ WdT ty ∨ QT ty
theorem sim_no : ¬ WdT 111 ∧ ¬ QT 111 ∧ ¬ WdT 43 ∧ ¬ QT 43 := by
  refine ⟨fun h => ?_, fun h => ?_, fun h => ?_, fun h => ?_⟩
  · rcases h with h | h | h | h | h | h | h | h | h | h <;> revert h <;> decide
  · rcases h with h | h <;> revert h <;> decide
  · rcases h with h | h | h | h | h | h | h | h | h | h <;> revert h <;> decide
  · rcases h with h | h <;> revert h <;> decide
section
variable {w w' : World} {s wd t q : Nat} {occ v : Value} {S : SS} {ds : List Cl} {Mw Mq M K : Nat → Prop}
theorem SimAt.type (h : SimAt w s wd t q occ S v ds Mw Mq) {b : Nat} (hb : SimM s v Mw Mq b) : b < w.heap.size ∧ ∀ ty cs, Blk w b ty cs → SimTy ty := by
  rcases hb with rfl | hb | hb | hb
  · exact ⟨h.blk.lt, fun ty cs hB => .inl (one_type hB h.blk)⟩
  · obtain ⟨-, cur, h4⟩ := own_at h.row hb
    exact ⟨h4.lt, fun ty cs hB => .inr (.inl (one_type hB h4))⟩
  · exact ⟨(h.wd.type hb).1, fun ty cs hB => .inr (.inr (.inl ((h.wd.type hb).2 ty cs hB)))⟩
  · exact ⟨(h.q.type hb).1, fun ty cs hB => .inr (.inr (.inr ((h.q.type hb).2 ty cs hB)))⟩
theorem SimAt.kept (h : SimAt w s wd t q occ S v ds Mw Mq) (hk : Kept K w w') (k1 : ∀ b, SimM s v Mw Mq b → K b) (k2 : ∀ b cs, Blk w b 5 cs → K b) : SimAt w' s wd t q occ S v ds Mw Mq where
  blk := hk.blk (k1 _ (.inl rfl)) h.blk
  row := h.row.keep hk fun b hb => k1 b (.inr (.inl hb))
  len := h.len
  wd := (wdA_fit wd t S.T S.k).kept h.wd hk (fun b hb => k1 b (.inr (.inr (.inl hb)))) k2
  q := (qA_fit q S.Q).kept h.q hk (fun b hb => k1 b (.inr (.inr (.inr hb)))) k2
  apart := h.apart
theorem SimAt.on (h : SimAt w s wd t q occ S v ds Mw Mq) (hb : Below w.heap.size w w') : SimAt w' s wd t q occ S v ds Mw Mq := h.kept ((Kept.of_below hb).mono (K' := fun _ => True) fun _ _ => trivial) (fun _ _ => trivial) (fun _ _ _ => trivial)
theorem simA_fit (s wd t q : Nat) (occ : Value) (S : SS) : Asn.Fit 5 (SimA s wd t q occ S) where
  lt := fun ⟨v, ds, Mw, Mq, h, hM⟩ b hb => (h.type ((hM b).1 hb)).1
  nob := fun ⟨v, ds, Mw, Mq, h, hM⟩ b hb cs hB => by
    rcases (h.type ((hM b).1 hb)).2 _ _ hB with h | h | h | h
    · revert h; decide
    · revert h; decide
    · rcases h with h | h | h | h | h | h | h | h | h | h <;> revert h <;> decide
    · rcases h with h | h <;> revert h <;> decide
  kept := fun ⟨v, ds, Mw, Mq, h, hM⟩ hk k1 k2 => ⟨v, ds, Mw, Mq, h.kept hk (fun b hb => k1 b ((hM b).2 hb)) k2, hM⟩
theorem SimAt.s_no (h : SimAt w s wd t q occ S v ds Mw Mq) : ¬ Mw s ∧ ¬ Mq s := ⟨fun hb => sim_no.1 ((h.wd.type hb).2 _ _ h.blk), fun hb => sim_no.2.1 ((h.q.type hb).2 _ _ h.blk)⟩
theorem SimAt.r_no (h : SimAt w s wd t q occ S v ds Mw Mq) {b : Nat} (hb : v.ownBlock = some b) : ¬ Mw b ∧ ¬ Mq b ∧ b ≠ s := by
  obtain ⟨-, cur, h4⟩ := own_at h.row hb
  exact ⟨fun hb => sim_no.2.2.1 ((h.wd.type hb).2 _ _ h4), fun hb => sim_no.2.2.2 ((h.q.type hb).2 _ _ h4), fun e => by rw [e] at h4; exact absurd (one_type h4 h.blk) (by decide)⟩
theorem SimAt.world (h : SimAt w s wd t q occ S v ds Mw Mq) {T' : TS} {k' : Nat} (k : Aft (WdA wd t T' k') w Mw w') : Aft (SimA s wd t q occ { S with T := T', k := k' }) w (SimM s v Mw Mq) w' := by
  obtain ⟨Mw', k1, k2, k3⟩ := k
  refine ⟨SimM s v Mw' Mq, ⟨v, ds, Mw', Mq, ⟨k3.blk h.s_no.1 h.blk, h.row.keep k3 fun b hb => (h.r_no hb).1, h.len, k1, (qA_fit q S.Q).beside h.q k3 (fun b hb hb' => h.apart b hb' hb) ((wdA_fit wd t S.T S.k).nob h.wd), fun b hb hb' => ?_⟩, fun _ => Iff.rfl⟩, fun b hb => ?_, k3.mono fun b hb hMw => hb (.inr (.inr (.inl hMw)))⟩
  · rcases k2 b hb with h1 | h1
    · exact h.apart b h1 hb'
    · have := (h.q.type hb').1; omega
  · rcases hb with hb | hb | hb | hb
    · exact .inl (.inl hb)
    · exact .inl (.inr (.inl hb))
    · exact (k2 b hb).imp_left fun h => .inr (.inr (.inl h))
    · exact .inl (.inr (.inr (.inr hb)))
theorem SimAt.queue (h : SimAt w s wd t q occ S v ds Mw Mq) {Q' : QS} (k : Aft (QA q Q') w Mq w') : Aft (SimA s wd t q occ { S with Q := Q' }) w (SimM s v Mw Mq) w' := by
  obtain ⟨Mq', k1, k2, k3⟩ := k
  refine ⟨SimM s v Mw Mq', ⟨v, ds, Mw, Mq', ⟨k3.blk h.s_no.2 h.blk, h.row.keep k3 fun b hb => (h.r_no hb).2.1, h.len, (wdA_fit wd t S.T S.k).beside h.wd k3 (fun b hb hb' => h.apart b hb hb') ((qA_fit q S.Q).nob h.q), k1, fun b hb hb' => ?_⟩, fun _ => Iff.rfl⟩, fun b hb => ?_, k3.mono fun b hb hMw => hb (.inr (.inr (.inr hMw)))⟩
  · rcases k2 b hb' with h1 | h1
    · exact h.apart b hb h1
    · have := (h.wd.type hb).1; omega
  · rcases hb with hb | hb | hb | hb
    · exact .inl (.inl hb)
    · exact .inl (.inr (.inl hb))
    · exact .inl (.inr (.inr (.inl hb)))
    · exact (k2 b hb).imp_left fun h => .inr (.inr (.inr h))
theorem SimAt.self (h : SimAt w s wd t q occ S v ds Mw Mq) {occ' : Value} {S' : SS} (hk : Kept (fun b => b ≠ s) w w') (hB : Blk w' s 111 #[.pointer (some ⟨q, 0, none⟩), .pointer (some ⟨wd, 0, none⟩), .int .i64 S'.budget, .int .i64 S'.now, occ', v]) (hT : S'.T = S.T) (hkk : S'.k = S.k) (hQ : S'.Q = S.Q) (hd : S'.d = S.d) : SimAt w' s wd t q occ' S' v ds Mw Mq where
  blk := hB
  row := h.row.keep hk fun b hb => (h.r_no hb).2.2
  len := by rw [hd]; exact h.len
  wd := by rw [hT, hkk]; exact (wdA_fit wd t S.T S.k).kept h.wd hk (fun b hb e => h.s_no.1 (e ▸ hb)) fun b cs hb e => by rw [e] at hb; exact absurd (one_type hb h.blk) (by decide)
  q := by rw [hQ]; exact (qA_fit q S.Q).kept h.q hk (fun b hb e => h.s_no.2 (e ▸ hb)) fun b cs hb e => by rw [e] at hb; exact absurd (one_type hb h.blk) (by decide)
  apart := h.apart
end
end Go.Proofs.YtmbccnioijokfaaGreatDoor

