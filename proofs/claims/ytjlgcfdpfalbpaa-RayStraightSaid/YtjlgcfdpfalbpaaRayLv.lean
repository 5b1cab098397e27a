/- The document's example of rays. -/
import Derived.Test.YtjlgcfdpfalbpaaRayK
import Derived.Test.YtjlgcfdpfalbpaaRayE
import Derived.Test.YtjlgcfdpfalbpaaRayB
namespace Go.Proofs.Ytjlgcfdpfalbpaa
open Go.RowKit Go.Shelf
attribute [local go_sem] Oper.semAt_some

theorem lives_see : (seeL 32768 360448 32768 0 (-65536) 0 9).find? (fun h => !yldB (atG 1 (fun _ => 1) 0 h.1.1 h.1.2.1 h.1.2.2)) = some ((0, 0, 0), 3, 294912) := by decide +kernel
set_option maxRecDepth 100000 in
set_option maxHeartbeats 4000000 in
theorem rlives_c (w : World) : Calls Try.prog 15 #[] w fun r w' => r = .returned (.bool true) ∧ Below w.heap.size w w' := by
  obtain ⟨W, hW⟩ : ∃ W, W = (w.alloc (.cells #[.int .i64 1] 3)).alloc (.cells #[.slice (some ⟨w.heap.size, 0, none⟩) 1 1, .int .i64 0] 24) := ⟨_, rfl⟩
  have H : Below w.heap.size w W := by rw [hW]; go_grown
  have I : Blk W w.heap.size 3 #[.int .i64 1] := by rw [hW]; exact (Blk.new' rfl).alloc _
  have A : Blk W (w.heap.size + 1) 24 #[.slice (some ⟨w.heap.size, 0, none⟩) 1 1, .int .i64 0] := by rw [hW]; exact Blk.new' (by simp)
  have T1 : Tells Try.prog 31 #[.pointer (some ⟨w.heap.size + 1, 0, none⟩)] (fun x => atG 1 (fun _ => 1) 0 x.1 x.2.1 x.2.2) W := view_tells A (fun _ => ⟨w.heap.size, 0, rfl, fun i hi => by
    obtain rfl : i = 0 := by omega
    exact I.cell 0⟩)
  have c1 := cast_c _ _ _ 32768 360448 32768 0 (-65536) 0 9 (by unfold In46; omega) W view_en T1
  have hcv : castV (fun x => atG 1 (fun _ => 1) 0 x.1 x.2.1 x.2.2) (some ((0, 0, 0), 3, 294912)) = .tuple #[.agg #[.int .i64 0, .int .i64 0, .int .i64 0, .int .i64 1, .int .i64 3, .int .i64 294912], .bool true] := rfl
  rw [lives_see, hcv] at c1
  clear hcv
  have C1 := Lib.hid c1
  clear c1 T1 A I
  go_enter Try.func15, Try.ntmps15
  go_upto_region 2 with (go_at_call 12; refine (view_c _ _ _).mono ?_; rintro e_ w1 ⟨rfl, rfl⟩)
  try simp only [World.size_alloc]
  rw [← hW]
  clear hW
  go_upto_region 3 with (go_at_call 11; refine C1.out.mono ?_; rintro e_ w2 ⟨rfl, h1⟩)
  generalize hV : World.alloc w2 _ = w3
  have D : Blk w3 w2.heap.size 31 #[.int .i64 0, .int .i64 0, .int .i64 0, .int .i64 1, .int .i64 3, .int .i64 294912] := Blk.eqw hV (Blk.new' rfl)
  have h3 : Below w2.heap.size w2 w3 := by rw [← hV]; exact (Below.refl _ _).alloc (Nat.le_refl _) _
  have HH := Lib.hid (after (after H h1) h3)
  clear hV H h1 h3
  obtain ⟨⟨d0, d1, d2, d3, d4, d5⟩, -, -, -, -, -, -⟩ := D.c6
  generalize w2.heap.size = gd at d0 d1 d2 d3 d4 d5 ⊢
  go_wp2_with fail
  go_returns
  exact ⟨rfl, HH.out⟩
end Go.Proofs.Ytjlgcfdpfalbpaa
