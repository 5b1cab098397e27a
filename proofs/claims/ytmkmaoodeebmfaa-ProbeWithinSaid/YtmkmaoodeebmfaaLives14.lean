/- The document's example of layer 14. -/
import Derived.Test.YtmkmaoodeebmfaaMeet4
namespace Go.Proofs.Ytmkmaoodeebmfaa
open Go.RowKit Go.Shelf
attribute [local go_sem] Oper.semAt_some

theorem lives1 : (cellsI 0 0 0 65536 65536 65536).any (fun x => solB (atG 0 (fun _ => 0) 0 x.1 x.2.1 x.2.2)) = false := by decide +kernel
theorem lives2 : (cellsI 0 (cutI (0 - 1)) 0 65536 0 65536).any (fun x => solB (atG 0 (fun _ => 0) 0 x.1 x.2.1 x.2.2)) = true := by decide +kernel
set_option maxRecDepth 100000 in
set_option maxHeartbeats 2000000 in
theorem plives_c (w : World) : Calls Try.prog 20 #[] w fun r w' => r = .returned (.bool true) ∧ Below w.heap.size w w' := by
  obtain ⟨W, hW⟩ : ∃ W, W = (w.alloc (.cells #[.slice none 0 0, .int .i64 0] 24)).alloc (.cells #[.int .i64 0, .int .i64 0, .int .i64 0, .int .i64 65536, .int .i64 65536, .int .i64 65536] 28) := ⟨_, rfl⟩
  have H : Below w.heap.size w W := by rw [hW]; go_grown
  have A : Blk W w.heap.size 24 #[.slice none 0 0, .int .i64 0] := by rw [hW]; exact (Blk.new' rfl).alloc _
  have B : Blk W (w.heap.size + 1) 28 #[.int .i64 0, .int .i64 0, .int .i64 0, .int .i64 65536, .int .i64 65536, .int .i64 65536] := by rw [hW]; exact Blk.new' (by simp)
  have T1 : Tells Try.prog 40 #[.pointer (some ⟨w.heap.size, 0, none⟩)] (fun x => atG 0 (fun _ => 0) 0 x.1 x.2.1 x.2.2) W := view_tells A (fun h => by omega)
  have c1 := pmBlocked_c _ _ _ 0 0 0 65536 65536 65536 ⟨by decide, by decide, by decide, by decide, by decide, by decide, by decide, by decide, by decide⟩ W view_en T1
  have c2 := fun W' h => pmStands_c _ _ _ 0 0 0 65536 65536 65536 (by decide) (by decide) ⟨by decide, by decide, by decide, by decide, by decide, by decide, by decide, by decide, by decide⟩ W' view_en (T1.on h)
  rw [lives1] at c1
  simp only [lives2] at c2
  have C1 := Lib.hid c1
  have C2 := Lib.hid c2
  clear c1 c2 T1 A
  obtain ⟨b0, b1, b2, b3, b4, b5⟩ := B.c6.1
  go_enter Try.func20, Try.ntmps20
  go_upto_region 3 with (go_at_call 10; refine (view_c _ _ _).mono ?_; rintro e_ w1 ⟨rfl, rfl⟩)
  rw [← hW]
  clear hW
  go_wp2_with first
    | (go_at_call 12; refine C1.out.mono ?_; rintro e_ w2 ⟨rfl, h1⟩; obtain ⟨b0, b1, b2, b3, b4, b5⟩ := (B.on h1).c6.1)
    | (go_at_call 18; refine (C2.out _ h1).mono ?_; rintro e_ w3 ⟨rfl, h2⟩)
  go_returns
  exact ⟨rfl, after (after H h1) h2⟩
end Go.Proofs.Ytmkmaoodeebmfaa
