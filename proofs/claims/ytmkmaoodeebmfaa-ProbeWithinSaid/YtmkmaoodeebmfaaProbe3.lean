/- A small world's view. -/
import Derived.Test.YtmkmaoodeebmfaaProbe2
namespace Go.Proofs.Ytmkmaoodeebmfaa
open Go.RowKit

set_option maxRecDepth 100000 in
set_option maxHeartbeats 1000000 in
theorem view1_c (q : Option Addr) (n c : Nat) (F : Nat → Int) (els x y z : Int) (b : Nat) (w : World) (hb : Blk w b 24 #[.slice q n c, .int .i64 els]) (hq : Iq w q n F) :
    Calls Try.prog 40 #[.agg #[.int .i64 x, .int .i64 y, .int .i64 z], .pointer (some ⟨b, 0, none⟩)] w fun r w' => r = .returned (.int .i64 (atG n F els x y z)) ∧ Below w.heap.size w w' := by
  obtain ⟨W, hW⟩ : ∃ W, W = w.alloc (.cells #[.int .i64 x, .int .i64 y, .int .i64 z] 40) := ⟨_, rfl⟩
  have H : Below w.heap.size w W := by rw [hW]; go_grown
  have A := hb.on H
  have B : Blk W w.heap.size 40 #[.int .i64 x, .int .i64 y, .int .i64 z] := by rw [hW]; exact Blk.new' rfl
  have a0 := A.cell 0
  have a1 := A.cell 1
  obtain ⟨b0, b1, b2, -, -, -⟩ := B.c3
  replace hq := hq.on H
  go_enter Try.func40, Try.ntmps40
  go_upto_region 1 with (fail)
  rw [← hW]
  clear hW A B
  go_wp2_with fail
  refine (at_c q n c F els x y z _ hq).mono ?_; rintro e w1 ⟨rfl, h2⟩
  go_wp2_with fail
  go_returns
  exact ⟨rfl, after H h2⟩
end Go.Proofs.Ytmkmaoodeebmfaa
