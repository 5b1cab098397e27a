/- The laws' view; the document's example. -/
import Derived.Test.YtmkmaoodeebmfaaMeet1
import Derived.Test.YtmkmaoodeebmfaaProbe3
import Derived.Test.YtmkmaoodeebmfaaNear
import Derived.Test.YtmkmaoodeebmfaaRow
import Derived.Test.YtmkmaoodeebmfaaBase2
namespace Go.Proofs.Ytmkmaoodeebmfaa
open Go.RowKit Go.Shelf
attribute [local go_sem] Oper.semAt_some

theorem ax_len {n m : Int} (h : n ≤ m) (h2 : m ≤ n + 200000) : (topI n m + 1 - lowI n).toNat ≤ 6 := by
  unfold topI lowI cutI
  split <;> omega
theorem cells_len {a b c d e f : Int} (h1 : a ≤ d) (h2 : d ≤ a + 200000) (h3 : b ≤ e) (h4 : e ≤ b + 200000) (h5 : c ≤ f) (h6 : f ≤ c + 200000) : (cellsI a b c d e f).length ≤ 1000000 := by
  unfold cellsI
  split
  · rw [boxL_length]
    have := Nat.mul_le_mul (ax_len h3 h4) (Nat.mul_le_mul (ax_len h5 h6) (ax_len h1 h2))
    omega
  · simp
theorem iq_of_rd {w : World} {q : Option Addr} {xs : List Int} (h : Rd w q 1 encI xs) : Iq w q xs.length (fun i => xs.getD i 0) := fun hn => by
  obtain ⟨g, o, hq, h1⟩ := h hn
  refine ⟨g, o, hq, fun i hi => ?_⟩
  have h2 : w.cell? ⟨g, o + i * 1, none⟩ = some (.int .i64 (xs[i]'hi)) := h1 i _ (List.getElem?_eq_getElem hi) 0 _ rfl
  rw [Nat.mul_one] at h2
  rw [h2]
  simp [List.getD_eq_getElem?_getD, List.getElem?_eq_getElem hi]
theorem view_c (v1 v2 : Value) (w : World) : Calls Try.prog 10 #[.agg #[v1, v2]] w fun r w' =>
    r = .returned (.func (.func 40) #[] #[.pointer (some ⟨w.heap.size, 0, none⟩)]) ∧ w' = w.alloc (.cells #[v1, v2] 24) := by
  have hmf : ∀ (fn : Fn) (first cap : Array Value) (w : World), (Instr.makeFunc fn first cap).run Try.prog w = .ok (.func fn first cap) w := fun _ _ _ _ => rfl
  go_enter Try.func10, Try.ntmps10
  go_wp2_with fail
  go_returns
  exact ⟨rfl, rfl⟩
theorem view_tells {q : Option Addr} {n c : Nat} {F : Nat → Int} {els : Int} {b : Nat} {w : World} (hb : Blk w b 24 #[.slice q n c, .int .i64 els]) (hq : Iq w q n F) :
    Tells Try.prog 40 #[.pointer (some ⟨b, 0, none⟩)] (fun x => atG n F els x.1 x.2.1 x.2.2) w :=
  fun x W h => view1_c q n c F els x.1 x.2.1 x.2.2 b W (hb.on h) (hq.on h)
theorem view_en : ∀ args w, (callFunc 40 args).run Try.prog w = .ok (.enter 40 args) w := enters_of Try.func40 (by kernel_rfl) rfl
theorem lives1 : (cellsI 0 0 0 65536 65536 65536).any (fun x => solB (atG 0 (fun _ => 0) 0 x.1 x.2.1 x.2.2)) = false := by decide +kernel
theorem lives2 : (cellsI 0 (cutI (0 - 1)) 0 65536 0 65536).any (fun x => solB (atG 0 (fun _ => 0) 0 x.1 x.2.1 x.2.2)) = true := by decide +kernel
set_option maxHeartbeats 2000000 in
theorem plives_c (w : World) : Calls Try.prog 20 #[] w fun r w' => r = .returned (.bool true) ∧ Below w.heap.size w w' := by
  obtain ⟨W, hW⟩ : ∃ W, W = (w.alloc (.cells #[.slice none 0 0, .int .i64 0] 24)).alloc (.cells #[.int .i64 0, .int .i64 0, .int .i64 0, .int .i64 65536, .int .i64 65536, .int .i64 65536] 28) := ⟨_, rfl⟩
  have H : Below w.heap.size w W := by rw [hW]; go_grown
  have A : Blk W w.heap.size 24 #[.slice none 0 0, .int .i64 0] := by rw [hW]; exact (Blk.new' rfl).alloc _
  have B : Blk W (w.heap.size + 1) 28 #[.int .i64 0, .int .i64 0, .int .i64 0, .int .i64 65536, .int .i64 65536, .int .i64 65536] := by rw [hW]; exact Blk.new' (by simp)
  have T1 : Tells Try.prog 40 #[.pointer (some ⟨w.heap.size, 0, none⟩)] (fun x => atG 0 (fun _ => 0) 0 x.1 x.2.1 x.2.2) W := view_tells A (fun h => by omega)
  have c1 := pmBlocked_c _ _ _ 0 0 0 65536 65536 65536 ⟨by decide, by decide, by decide, by decide, by decide, by decide, by decide, by decide, by decide⟩ W view_en T1
  have c2 := fun W' h => pmStands_c _ _ _ 0 0 0 65536 65536 65536 (by decide) (by decide) ⟨by decide, by decide, by decide, by decide, by decide, by decide, by decide, by decide, by decide⟩ W' view_en (T1.on h)
  rw [lives1] at c1
  simp only [lives2] at c2
  have C1 := Lib.hid c1
  have C2 := Lib.hid c2
  clear c1 c2 T1 A
  obtain ⟨b0, b1, b2, b3, b4, b5⟩ := B.c6.1
  go_enter Try.func20, Try.ntmps20
  go_upto_region 3 with (go_at_call 10; refine (view_c _ _ _).mono ?_; rintro e_ w1 ⟨rfl, rfl⟩)
  rw [← hW]
  clear hW
  go_wp2_with first
    | (go_at_call 12; refine C1.out.mono ?_; rintro e_ w2 ⟨rfl, h1⟩; obtain ⟨b0, b1, b2, b3, b4, b5⟩ := (B.on h1).c6.1)
    | (go_at_call 18; refine (C2.out _ h1).mono ?_; rintro e_ w3 ⟨rfl, h2⟩)
  go_returns
  exact ⟨rfl, after (after H h1) h2⟩
end Go.Proofs.Ytmkmaoodeebmfaa
