/- Texts that build one behind the other, laid together: Bxs Off Under Under2 Meet1 Probe2 Probe3 Row Meet4 SwP SwP2 SwP3 Lay1 Lay2 Meet2 Good13. -/
import Derived.Test.YtckjpiioipkfcaaLSweepFreeZ3
import Derived.Test.YtckjpiioipkfcaaLSweepFreeZ1
import Derived.Deep.Slices
import Derived.Deep.Cut
import Derived.Lib.AppendZeros
import Derived.Deep.Upon
import Derived.Test.YtckjpiioipkfcaaLSweepFreeZ2
/- Boxes in a row: what a slice of boxes reads, and how it is opened. -/
namespace Go.Proofs.Ytckjpiioipkfcaa
open Go.ChangeShapes Go.WideShapes Go.ChangeAt Go.RowKit

/-- From cell o of block g on lie n boxes; number i's number j is F i j. -/
def Bxs (w : World) (g o n : Nat) (F : Nat → Nat → Int) : Prop := ∀ i, i < n → ∀ j, j < 6 → w.cell? ⟨g, o + (i * 6 + j), none⟩ = some (.int .i64 (F i j))
section
variable {w w' : World} {g o n : Nat} {F : Nat → Nat → Int}
theorem Bxs.on (h : Bxs w g o n F) (hb : Below w.heap.size w w') : Bxs w' g o n F := fun i hi j hj => by
  have h1 := h i hi j hj
  rw [cell_below hb (cell_lt h1)]; exact h1
theorem Bxs.far (h : Bxs w g o n F) {p : Addr} (hp : g ≠ p.block) (u : Value) : Bxs (w.setCell p u) g o n F := fun i hi j hj => by
  have h1 := h i hi j hj
  unfold World.cell? at *
  rw [Below.heap_setCell w p u g hp]
  exact h1
theorem Bxs.tail (h : Bxs w g o n F) : Bxs w g (o + 6) (n - 1) (fun i => F (i + 1)) := fun i hi j hj => by
  have h1 := h (i + 1) (by omega) j hj
  rwa [show o + ((i + 1) * 6 + j) = o + 6 + (i * 6 + j) by omega] at h1
theorem Bxs.lt (h : Bxs w g o n F) (hn : 0 < n) : g < w.heap.size := cell_lt (h 0 hn 0 (by omega))
theorem Bxs.at (h : Bxs w g o n F) {i : Nat} (hi : i < n) : w.cell? ⟨g, o + i * 6, none⟩ = some (.int .i64 (F i 0)) ∧ w.cell? ⟨g, o + i * 6 + 1, none⟩ = some (.int .i64 (F i 1)) ∧ w.cell? ⟨g, o + i * 6 + 2, none⟩ = some (.int .i64 (F i 2)) ∧
    w.cell? ⟨g, o + i * 6 + 3, none⟩ = some (.int .i64 (F i 3)) ∧ w.cell? ⟨g, o + i * 6 + 4, none⟩ = some (.int .i64 (F i 4)) ∧ w.cell? ⟨g, o + i * 6 + 5, none⟩ = some (.int .i64 (F i 5)) := by
  have h' := h i hi
  simp only [← Nat.add_assoc] at h'
  exact ⟨h' 0 (by omega), h' 1 (by omega), h' 2 (by omega), h' 3 (by omega), h' 4 (by omega), h' 5 (by omega)⟩
end

def intAt (w : World) (p : Addr) : Int := match w.cell? p with | some (.int .i64 x) => x | _ => 0
theorem intAt_eq {w : World} {p : Addr} {x : Int} (h : w.cell? p = some (.int .i64 x)) : intAt w p = x := by unfold intAt; rw [h]
section
variable {H : Type} {enc : TypeId × Value → H} {P : Program}
theorem open_boxes {w : World} {r : Reach} {b0 base : Nat} {spare : Nat → Bool} {held : Bool} {ts t tv ti : TypeId} {g0 g1 f0 f1 f2 : Field} {v : Value} {d : DataW H} {p : List MemPlace} (hts : P.underlying ts = some (.slice t)) (hb : P.underlying t = some (.struct #[g0, g1]))
    (hs : P.underlying tv = some (.struct #[f0, f1, f2])) (hg : boxFields P g0 g1 tv = true) (hf : vecFields P f0 f1 f2 ti = true) (hC : P.cellsOf t = 6) (hi : P.underlying ti = some (.int .i64)) (hv : Value.okWide P w r b0 ts v) (h : DataW.Trod enc P w base spare held ts v d p) :
    (∃ q cap, v = .slice q 0 cap) ∨ ∃ g o n cap F, v = .slice (some ⟨g, o, none⟩) n cap ∧ 0 < n ∧ n ≤ cap ∧ cap ≤ maxLen ∧ Bxs w g o n F ∧ ∀ i j, i < n → j < 6 → In64 (F i j) := by
  obtain ⟨a1, len1, cap1, rfl⟩ := okWide_slice hts hv
  obtain ⟨fuel, h⟩ := h
  rcases Go.Deep.open_slice hts h with ⟨hcs, _⟩ | ⟨a, len, cap, m, k, D, Pl, hcs, _, hl, hm, hmm, _, hel⟩
  · simp [Value.cells] at hcs
    obtain ⟨rfl, rfl, rfl⟩ := hcs
    exact .inl ⟨_, _, rfl⟩
  · simp [Value.cells] at hcs
    obtain ⟨rfl, rfl, rfl⟩ := hcs
    by_cases hn : len1 = 0
    · subst hn; exact .inl ⟨_, _, rfl⟩
    have hlm : len1 ≤ m := by rw [hmm]; split <;> omega
    obtain ⟨g, o, sp⟩ := a
    rw [hC] at hel
    have hrd : ∀ i, i < len1 → ∀ j, j < 6 → ∃ x, w.cell? ((Addr.mk g o sp).add (i * 6 + j)) = some (.int .i64 x) ∧ In64 x := by
      intro i hi' j hj
      obtain ⟨cs', hc, ht'⟩ := hel i (by omega)
      obtain ⟨_, hcl, hat⟩ := World.cells?_some hc
      obtain ⟨a, b, c, d, e, f, rfl, wa, wb, wc, wd, we, wf⟩ := trod_box hb hs hg hf hi hcl ht'
      have h1 := hat j hj
      rw [Go.Deep.add_add] at h1
      rw [h1]
      match j, hj with
      | 0, _ => exact ⟨a, rfl, wa⟩
      | 1, _ => exact ⟨b, rfl, wb⟩
      | 2, _ => exact ⟨c, rfl, wc⟩
      | 3, _ => exact ⟨d, rfl, wd⟩
      | 4, _ => exact ⟨e, rfl, we⟩
      | 5, _ => exact ⟨f, rfl, wf⟩
    have hsp : sp = none := by
      obtain ⟨x, hx, _⟩ := hrd 0 (by omega) 0 (by omega)
      exact cell_spot hx
    subst hsp
    have had : ∀ k, (Addr.mk g o none).add k = ⟨g, o + k, none⟩ := fun k => by
      unfold Addr.add
      by_cases hk : k = 0 <;> simp [hk]
    refine .inr ⟨g, o, len1, cap1, fun i j => intAt w ⟨g, o + (i * 6 + j), none⟩, rfl, by omega, hl, hm, fun i hi' j hj => ?_, fun i j hi' hj => ?_⟩
    · obtain ⟨x, hx, _⟩ := hrd i hi' j hj
      rw [had] at hx
      show _ = some (Value.int .i64 (intAt w ⟨g, o + (i * 6 + j), none⟩))
      rw [hx, intAt_eq hx]
    · obtain ⟨x, hx, hw⟩ := hrd i hi' j hj
      rw [had] at hx
      show In64 (intAt w ⟨g, o + (i * 6 + j), none⟩)
      rw [intAt_eq hx]; exact hw
end
end Go.Proofs.Ytckjpiioipkfcaa

/- Stores into one block leave the others as they are. -/
namespace Go.Proofs.Ytckjpiioipkfcaa
open Go.RowKit

section
variable {w W' v : World} {g b o n B i0 i1 i2 : Nat} {t : TypeId} {cs : Array Value} {F : Nat → Nat → Int} {x y z r s u : Value}
theorem Blk.off3 (h : Blk w g t cs) (hg : g ≠ b) (hW : W' = ((w.setCell ⟨b, i0, none⟩ x).setCell ⟨b, i1, none⟩ y).setCell ⟨b, i2, none⟩ z) : Blk W' g t cs := by
  rw [hW]; exact ((h.far (p := ⟨b, i0, none⟩) hg _).far (p := ⟨b, i1, none⟩) hg _).far (p := ⟨b, i2, none⟩) hg _
theorem Bxs.off3 (h : Bxs w g o n F) (hg : g ≠ b) (hW : W' = ((w.setCell ⟨b, i0, none⟩ x).setCell ⟨b, i1, none⟩ y).setCell ⟨b, i2, none⟩ z) : Bxs W' g o n F := by
  rw [hW]; exact ((h.far (p := ⟨b, i0, none⟩) hg _).far (p := ⟨b, i1, none⟩) hg _).far (p := ⟨b, i2, none⟩) hg _
theorem off_below3 (h : Below B v w) (hB : B ≤ b) (hW : W' = ((w.setCell ⟨b, i0, none⟩ x).setCell ⟨b, i1, none⟩ y).setCell ⟨b, i2, none⟩ z) : Below B v W' := by
  rw [hW]; exact ((h.setCell (p := ⟨b, i0, none⟩) hB _).setCell (p := ⟨b, i1, none⟩) hB _).setCell (p := ⟨b, i2, none⟩) hB _
theorem Blk.off6 (h : Blk w g t cs) (hg : g ≠ b) (hW : W' = (((((w.setCell ⟨b, 0, none⟩ x).setCell ⟨b, 1, none⟩ y).setCell ⟨b, 2, none⟩ z).setCell ⟨b, 3, none⟩ r).setCell ⟨b, 4, none⟩ s).setCell ⟨b, 5, none⟩ u) : Blk W' g t cs := by
  rw [hW]; exact (((((h.far (p := ⟨b, 0, none⟩) hg _).far (p := ⟨b, 1, none⟩) hg _).far (p := ⟨b, 2, none⟩) hg _).far (p := ⟨b, 3, none⟩) hg _).far (p := ⟨b, 4, none⟩) hg _).far (p := ⟨b, 5, none⟩) hg _
theorem Bxs.off6 (h : Bxs w g o n F) (hg : g ≠ b) (hW : W' = (((((w.setCell ⟨b, 0, none⟩ x).setCell ⟨b, 1, none⟩ y).setCell ⟨b, 2, none⟩ z).setCell ⟨b, 3, none⟩ r).setCell ⟨b, 4, none⟩ s).setCell ⟨b, 5, none⟩ u) : Bxs W' g o n F := by
  rw [hW]; exact (((((h.far (p := ⟨b, 0, none⟩) hg _).far (p := ⟨b, 1, none⟩) hg _).far (p := ⟨b, 2, none⟩) hg _).far (p := ⟨b, 3, none⟩) hg _).far (p := ⟨b, 4, none⟩) hg _).far (p := ⟨b, 5, none⟩) hg _
theorem off_below6 (h : Below B v w) (hB : B ≤ b) (hW : W' = (((((w.setCell ⟨b, 0, none⟩ x).setCell ⟨b, 1, none⟩ y).setCell ⟨b, 2, none⟩ z).setCell ⟨b, 3, none⟩ r).setCell ⟨b, 4, none⟩ s).setCell ⟨b, 5, none⟩ u) : Below B v W' := by
  rw [hW]; exact (((((h.setCell (p := ⟨b, 0, none⟩) hB _).setCell (p := ⟨b, 1, none⟩) hB _).setCell (p := ⟨b, 2, none⟩) hB _).setCell (p := ⟨b, 3, none⟩) hB _).setCell (p := ⟨b, 4, none⟩) hB _).setCell (p := ⟨b, 5, none⟩) hB _
theorem Bxs.re (h : Bxs w g o n F) (d : Nat) (os : Array Obj) : Bxs (Go.Sort.grow (redrawn w d) os) g o n F := h.on (below_regrown w d os)
end
end Go.Proofs.Ytckjpiioipkfcaa

/- What is under a box: the document's. -/
namespace Go.Proofs.Ytckjpiioipkfcaa
open Go.RowKit

set_option maxHeartbeats 1000000 in
theorem runder_c (a b c d e f : Int) (h1 : -140737488355328 ≤ b) (h2 : b ≤ 140737488355328) (w : World) : Calls Try.prog 61 #[.agg #[.int .i64 a, .int .i64 b, .int .i64 c, .int .i64 d, .int .i64 e, .int .i64 f]] w fun r w' => r = .returned (.agg #[.int .i64 a, .int .i64 (cutI (b - 1)), .int .i64 c, .int .i64 d, .int .i64 b, .int .i64 f]) ∧ Below w.heap.size w w' := by
  obtain ⟨W, hW⟩ : ∃ W, W = ((w.alloc (.cells #[.int .i64 a, .int .i64 b, .int .i64 c, .int .i64 d, .int .i64 e, .int .i64 f] 28)).alloc (.cells #[.int .i64 0, .int .i64 0, .int .i64 0, .int .i64 0, .int .i64 0, .int .i64 0] 28)).alloc (.cells #[.int .i64 a, .int .i64 b, .int .i64 c, .int .i64 d, .int .i64 e, .int .i64 f] 28) := ⟨_, rfl⟩
  have H : Below w.heap.size w W := by rw [hW]; go_grown
  have A : Blk W w.heap.size 28 #[.int .i64 a, .int .i64 b, .int .i64 c, .int .i64 d, .int .i64 e, .int .i64 f] := by rw [hW]; exact ((Blk.new' rfl).alloc _).alloc _
  have R : Blk W (w.heap.size + 1) 28 #[.int .i64 0, .int .i64 0, .int .i64 0, .int .i64 0, .int .i64 0, .int .i64 0] := by rw [hW]; exact (Blk.new' (by simp)).alloc _
  have O : Blk W (w.heap.size + 1 + 1) 28 #[.int .i64 a, .int .i64 b, .int .i64 c, .int .i64 d, .int .i64 e, .int .i64 f] := by rw [hW]; exact Blk.new' (by simp)
  obtain ⟨⟨a0, a1, a2, a3, a4, a5⟩, -, -, -, -, -, -⟩ := A.c6
  obtain ⟨⟨o0, o1, o2, o3, o4, o5⟩, p0, p1, p2, p3, p4, p5⟩ := O.c6
  obtain ⟨⟨r0, r1, r2, r3, r4, r5⟩, f0, f1, f2, f3, f4, f5⟩ := R.c6
  go_enter Try.func61, Try.ntmps61
  go_upto_region 2 with (fail)
  rw [← hW]
  clear hW
  go_wp2_with fail
  refine (rcut_c _ _).mono ?_; rintro e w1 ⟨rfl, rfl⟩
  go_upto_region 4 with (fail)
  clear a0 a1 a2 a3 a4 a5 o0 o1 o2 o3 o4 o5 p0 p1 p2 p3 p4 p5 r0 r1 r2 r3 r4 r5 f0 f1 f2 f3 f4 f5 A
  obtain ⟨W2, hW⟩ : ∃ W2, W2 = (W.setCell ⟨w.heap.size + 1 + 1, 1, none⟩ (.int .i64 (cutI (b - 1)))).setCell ⟨w.heap.size + 1 + 1, 4, none⟩ (.int .i64 b) := ⟨_, rfl⟩
  rw [← hW]
  replace O : Blk W2 (w.heap.size + 1 + 1) 28 #[.int .i64 a, .int .i64 (cutI (b - 1)), .int .i64 c, .int .i64 d, .int .i64 b, .int .i64 f] := by rw [hW]; exact (O.set_ 1 _).set_ 4 _
  replace R : Blk W2 (w.heap.size + 1) 28 #[.int .i64 0, .int .i64 0, .int .i64 0, .int .i64 0, .int .i64 0, .int .i64 0] := by rw [hW]; exact (R.far (by simp) _).far (by simp) _
  replace H : Below w.heap.size w W2 := by rw [hW]; exact (H.setCell (by simp; omega) _).setCell (by simp; omega) _
  clear hW
  obtain ⟨⟨o0, o1, o2, o3, o4, o5⟩, -, -, -, -, -, -⟩ := O.c6
  obtain ⟨⟨r0, r1, r2, r3, r4, r5⟩, f0, f1, f2, f3, f4, f5⟩ := R.c6
  go_wp2_with fail
  have R2 := R.st6 (.int .i64 (a)) (.int .i64 (cutI (b - 1))) (.int .i64 (c)) (.int .i64 (d)) (.int .i64 (b)) (.int .i64 (f))
  obtain ⟨⟨d0, d1, d2, d3, d4, d5⟩, -, -, -, -, -, -⟩ := R2.c6
  exact bodyPost_ret (v := .agg #[.int .i64 (a), .int .i64 (cutI (b - 1)), .int .i64 (c), .int .i64 (d), .int .i64 (b), .int .i64 (f)]) (by simp [results, Try.results61, go_sem, d0, d1, d2, d3, d4, d5]) rfl ⟨rfl, by (repeat' (first | (with_reducible exact Below.refl _ _) | (with_reducible assumption) | (with_reducible refine Below.alloc ?_ ?_ _) | (with_reducible refine Below.drew ?_) | (with_reducible refine Below.setCell ?_ ?_ _) | (with_reducible refine after ?_ (below_regrown _ _ _)) | (refine after ?_ (by with_reducible assumption)) | go_size))⟩
end Go.Proofs.Ytckjpiioipkfcaa

/- What is under a box: the program's. -/
namespace Go.Proofs.Ytckjpiioipkfcaa
open Go.RowKit

theorem sub_one {b : Int} (h1 : -140737488355328 ≤ b) (h2 : b ≤ 140737488355328) : subI b 1 = cutI (b - 1) := by
  unfold subI; rw [cutI_id h1 h2]; rfl
theorem cut_cut (b : Int) : cutI (cutI b) = cutI b := cutI_id (cutI_lo b) (cutI_hi b)
set_option maxHeartbeats 2000000 in
theorem under_raw (a b c d e f : Int) (h1 : -140737488355328 ≤ b) (h2 : b ≤ 140737488355328) (w : World) : Calls Try.prog 60 #[.agg #[.int .i64 a, .int .i64 b, .int .i64 c, .int .i64 d, .int .i64 e, .int .i64 f]] w fun r w' => r = .returned (.agg #[.int .i64 (wiI a 1 0 (cutI (b - 1))), .int .i64 (wiI b 1 1 (cutI (b - 1))), .int .i64 (wiI c 1 2 (cutI (b - 1))), .int .i64 (wiI d 1 0 b), .int .i64 (wiI e 1 1 b), .int .i64 (wiI f 1 2 b)]) ∧ Below w.heap.size w w' := by
  have U : Blk ((w.alloc (.cells #[.int .i64 a, .int .i64 b, .int .i64 c, .int .i64 d, .int .i64 e, .int .i64 f] 28)).alloc (.cells #[.int .i64 0, .int .i64 0, .int .i64 0, .int .i64 0, .int .i64 0, .int .i64 0] 28)) w.heap.size 28 #[.int .i64 a, .int .i64 b, .int .i64 c, .int .i64 d, .int .i64 e, .int .i64 f] := (Blk.new' rfl).alloc _
  have R0 : Blk ((w.alloc (.cells #[.int .i64 a, .int .i64 b, .int .i64 c, .int .i64 d, .int .i64 e, .int .i64 f] 28)).alloc (.cells #[.int .i64 0, .int .i64 0, .int .i64 0, .int .i64 0, .int .i64 0, .int .i64 0] 28)) (w.heap.size + 1) 28 #[.int .i64 0, .int .i64 0, .int .i64 0, .int .i64 0, .int .i64 0, .int .i64 0] := Blk.new' (by simp)
  obtain ⟨k0, k1, k2, k3, k4, k5⟩ := U.re6
  obtain ⟨⟨u0, u1, u2, u3, u4, u5⟩, -, -, -, -, -, -⟩ := U.c6
  have hs : ∀ w, Calls Try.prog 65 #[.int .i64 b, .int .i64 1] w fun e w' => e = .returned (.int .i64 (cutI (b - 1))) ∧ w = w' := fun w => by have := fsub_c b 1 w; rwa [sub_one h1 h2] at this
  go_enter Try.func60, Try.ntmps60
  go_upto_region 2 with (fail)
  refine wp_region_last_below 10 (by kernel_rfl) rfl (by kernel_rfl) ?_
  simp only [List.take_succ_cons, List.take_zero, List.drop_succ_cons, List.drop_zero]
  repeat (go_big_quiet_step (first | (go_at_call 65; exact Calls.regrown_of (calls_bel (hs _))) | exact Calls.regrown_of (with_c _ _ _ _ _ _)))
  refine wpQuiet_nil ?_
  intro w' hw'
  obtain ⟨rg, rfl⟩ := hw'
  have R := R0.re rg.d rg.os
  obtain ⟨⟨r0, r1, r2, r3, r4, r5⟩, f0, f1, f2, f3, f4, f5⟩ := R.c6
  go_wp2_with fail
  have R2 := R.st6 (.int .i64 (wiI a 1 0 (cutI (b - 1)))) (.int .i64 (wiI b 1 1 (cutI (b - 1)))) (.int .i64 (wiI c 1 2 (cutI (b - 1)))) (.int .i64 (wiI d 1 0 b)) (.int .i64 (wiI e 1 1 b)) (.int .i64 (wiI f 1 2 b))
  obtain ⟨⟨d0, d1, d2, d3, d4, d5⟩, -, -, -, -, -, -⟩ := R2.c6
  exact bodyPost_ret (v := .agg #[.int .i64 (wiI a 1 0 (cutI (b - 1))), .int .i64 (wiI b 1 1 (cutI (b - 1))), .int .i64 (wiI c 1 2 (cutI (b - 1))), .int .i64 (wiI d 1 0 b), .int .i64 (wiI e 1 1 b), .int .i64 (wiI f 1 2 b)]) (by simp [results, Try.results60, go_sem, d0, d1, d2, d3, d4, d5]) rfl ⟨rfl, by (repeat' (first | (with_reducible exact Below.refl _ _) | (with_reducible assumption) | (with_reducible refine Below.alloc ?_ ?_ _) | (with_reducible refine Below.drew ?_) | (with_reducible refine Below.setCell ?_ ?_ _) | (with_reducible refine after ?_ (below_regrown _ _ _)) | (refine after ?_ (by with_reducible assumption)) | go_size))⟩
theorem under_c (a b c d e f : Int) (h1 : -140737488355328 ≤ b) (h2 : b ≤ 140737488355328) (w : World) : Calls Try.prog 60 #[.agg #[.int .i64 a, .int .i64 b, .int .i64 c, .int .i64 d, .int .i64 e, .int .i64 f]] w fun r w' => r = .returned (.agg #[.int .i64 a, .int .i64 (cutI (b - 1)), .int .i64 c, .int .i64 d, .int .i64 b, .int .i64 f]) ∧ Below w.heap.size w w' := by
  have h := under_raw a b c d e f h1 h2 w
  rw [show wiI a 1 0 (cutI (b - 1)) = a from rfl, show wiI b 1 1 (cutI (b - 1)) = cutI (b - 1) from cut_cut _, show wiI c 1 2 (cutI (b - 1)) = c from rfl, show wiI d 1 0 b = d from rfl, show wiI e 1 1 b = b from cutI_id h1 h2, show wiI f 1 2 b = f from rfl] at h
  exact h
end Go.Proofs.Ytckjpiioipkfcaa

/- What a box meets: any, Blocked, Wet, Climbs, Stands. -/
namespace Go.Proofs.Ytckjpiioipkfcaa
open Go.RowKit Go.Shelf
attribute [local go_sem] Oper.semAt_some

theorem Tells.on {P : Program} {V : FuncId} {lb : Array Value} {val : Cl → Int} {w W : World} (h : Tells P V lb val w) (H : Below w.heap.size w W) : Tells P V lb val W :=
  fun c X hX => h c X (H.trans (hX.mono H.size))
theorem Says.on {P : Program} {G : FuncId} {lb : Array Value} {p : Int → Bool} {w W : World} (h : Says P G lb p w) (H : Below w.heap.size w W) : Says P G lb p W :=
  fun c X hX => h c X (H.trans (hX.mono H.size))
theorem find_any {α : Type} (l : List α) (q : α → Bool) : l.any q = (l.find? q).isSome := by
  rw [Bool.eq_iff_iff, List.find?_isSome, List.any_eq_true]
set_option maxHeartbeats 2000000 in
theorem any_c (V G : FuncId) (lv lg : Array Value) (val : Cl → Int) (p : Int → Bool) (a b c d e f : Int) (hB : BoxOk a b c d e f) (w : World)
    (eV : ∀ args w, (callFunc V args).run Try.prog w = .ok (.enter V args) w) (eG : ∀ args w, (callFunc G args).run Try.prog w = .ok (.enter G args) w) (hV : Tells Try.prog V lv val w) (hG : Says Try.prog G lg p w) :
    Calls Try.prog 51 #[.func (.func V) #[] lv, .agg #[.int .i64 a, .int .i64 b, .int .i64 c, .int .i64 d, .int .i64 e, .int .i64 f], .func (.func G) #[] lg] w fun r w' =>
      r = .returned (.bool ((cellsI a b c d e f).any fun x => p (val x))) ∧ Below w.heap.size w w' := by
  have hF : ∀ W, Below w.heap.size w W → Calls Try.prog 62 #[.func (.func V) #[] lv, .agg #[.int .i64 a, .int .i64 b, .int .i64 c, .int .i64 d, .int .i64 e, .int .i64 f], .func (.func G) #[] lg] W fun r w' => r = .returned (findV ((cellsI a b c d e f).find? fun x => p (val x))) ∧ Below W.heap.size W w' :=
    fun W H => find_c V G lv lg val p a b c d e f hB W eV eG (hV.on H) (hG.on H)
  clear hV hG eV eG hB
  rw [find_any]
  generalize (cellsI a b c d e f).find? (fun x => p (val x)) = o at hF ⊢
  rcases o with - | ⟨x, y, z⟩
  all_goals
    simp only [findV, Option.isSome] at hF ⊢
    replace hF := Lib.hid hF
    go_enter Try.func51, Try.ntmps51
    go_wp2_with (go_at_call 62; refine (hF.out _ (by go_grown)).mono ?_; rintro e_ w1 ⟨rfl, h1⟩)
    go_returns
    exact ⟨rfl, (after ((Below.refl _ w).alloc (Nat.le_refl _) _) h1).alloc (by have := h1.size; simp at this; omega) _⟩
theorem says_of {G : FuncId} {p : Int → Bool} (h : ∀ n w, Calls Try.prog G #[.int .i64 n] w fun r w' => r = .returned (.bool (p n)) ∧ w = w') (w : World) : Says Try.prog G #[] p w :=
  fun n W _ => (h n W).mono fun r w' h => ⟨h.1, by rw [← h.2]; exact Below.refl _ _⟩
set_option maxHeartbeats 2000000 in
theorem pmBlocked_c (V : FuncId) (lv : Array Value) (val : Cl → Int) (a b c d e f : Int) (hB : BoxOk a b c d e f) (w : World)
    (eV : ∀ args w, (callFunc V args).run Try.prog w = .ok (.enter V args) w) (hV : Tells Try.prog V lv val w) :
    Calls Try.prog 34 #[.func (.func V) #[] lv, .agg #[.int .i64 a, .int .i64 b, .int .i64 c, .int .i64 d, .int .i64 e, .int .i64 f]] w fun r w' =>
      r = .returned (.bool ((cellsI a b c d e f).any fun x => solB (val x))) ∧ Below w.heap.size w w' := by
  have hF : ∀ W, Below w.heap.size w W → Calls Try.prog 51 #[.func (.func V) #[] lv, .agg #[.int .i64 a, .int .i64 b, .int .i64 c, .int .i64 d, .int .i64 e, .int .i64 f], .func (.func 52) #[] #[]] W fun r w' => r = .returned (.bool ((cellsI a b c d e f).any fun x => solB (val x))) ∧ Below W.heap.size W w' :=
    fun W H => any_c V 52 lv #[] val solB a b c d e f hB W eV (enters_of Try.func52 (by kernel_rfl) rfl) (hV.on H) (says_of solid_c _)
  replace hF := Lib.hid hF
  clear hV eV hB
  go_enter Try.func34, Try.ntmps34
  go_wp2_with (go_at_call 51; refine (hF.out _ (by go_grown)).mono ?_; rintro e_ w1 ⟨rfl, h1⟩)
  go_returns
  exact ⟨rfl, by (repeat' (first | (with_reducible exact Below.refl _ _) | (with_reducible assumption) | (with_reducible refine Below.alloc ?_ ?_ _) | (with_reducible refine Below.drew ?_) | (with_reducible refine Below.setCell ?_ ?_ _) | (with_reducible refine after ?_ (below_regrown _ _ _)) | (refine after ?_ (by with_reducible assumption)) | go_size))⟩
set_option maxHeartbeats 2000000 in
theorem pmStands_c (V : FuncId) (lv : Array Value) (val : Cl → Int) (a b c d e f : Int) (h1 : -140737488355328 ≤ b) (h2 : b ≤ 140737488355328) (hB : BoxOk a (cutI (b - 1)) c d b f) (w : World)
    (eV : ∀ args w, (callFunc V args).run Try.prog w = .ok (.enter V args) w) (hV : Tells Try.prog V lv val w) :
    Calls Try.prog 44 #[.func (.func V) #[] lv, .agg #[.int .i64 a, .int .i64 b, .int .i64 c, .int .i64 d, .int .i64 e, .int .i64 f]] w fun r w' =>
      r = .returned (.bool ((cellsI a (cutI (b - 1)) c d b f).any fun x => solB (val x))) ∧ Below w.heap.size w w' := by
  have hF : ∀ W, Below w.heap.size w W → Calls Try.prog 34 #[.func (.func V) #[] lv, .agg #[.int .i64 a, .int .i64 (cutI (b - 1)), .int .i64 c, .int .i64 d, .int .i64 b, .int .i64 f]] W fun r w' => r = .returned (.bool ((cellsI a (cutI (b - 1)) c d b f).any fun x => solB (val x))) ∧ Below W.heap.size W w' :=
    fun W H => pmBlocked_c V lv val a (cutI (b - 1)) c d b f hB W eV (hV.on H)
  have hU := fun W => under_c a b c d e f h1 h2 W
  replace hF := Lib.hid hF
  replace hU := Lib.hid hU
  clear hV eV hB h1 h2
  generalize cutI (b - 1) = b' at hF hU ⊢
  go_enter Try.func44, Try.ntmps44
  go_wp2_with first
    | (go_at_call 60; refine (hU.out _).mono ?_; rintro e_ w1 ⟨rfl, h1⟩)
    | (go_at_call 34; refine (hF.out _ (after ((Below.refl _ w).alloc (Nat.le_refl _) _) h1)).mono ?_; rintro e_ w2 ⟨rfl, h2⟩)
  go_returns
  exact ⟨rfl, after (after ((Below.refl _ w).alloc (Nat.le_refl _) _) h1) h2⟩
end Go.Proofs.Ytckjpiioipkfcaa

/- A small world: what it tells of a cell. -/
namespace Go.Proofs.Ytckjpiioipkfcaa
open Go.RowKit

/-- What a slice of ints reads. -/
def Iq (w : World) (q : Option Addr) (n : Nat) (F : Nat → Int) : Prop := 0 < n → ∃ g o, q = some ⟨g, o, none⟩ ∧ ∀ i, i < n → w.cell? ⟨g, o + i, none⟩ = some (.int .i64 (F i))
theorem Iq.on {w w' : World} {q : Option Addr} {n : Nat} {F : Nat → Int} (h : Iq w q n F) (hb : Below w.heap.size w w') : Iq w' q n F := fun hn => by
  obtain ⟨g, o, e, h1⟩ := h hn
  exact ⟨g, o, e, fun i hi => by rw [cell_below hb (cell_lt (h1 i hi))]; exact h1 i hi⟩
/-- What a small world of n blocks, and of one for all else, tells of a cell. -/
def atG (n : Nat) (F : Nat → Int) (els x y z : Int) : Int :=
  if y < 0 then 1 else if 0 ≤ x ∧ x < 6 ∧ y < 6 ∧ 0 ≤ z ∧ z < 6 then (if (y * 6 + z) * 6 + x < n then F ((y * 6 + z) * 6 + x).toNat else 0) else els
set_option maxHeartbeats 2000000 in
theorem at_c (q : Option Addr) (n c : Nat) (F : Nat → Int) (els x y z : Int) (w : World) (hq : Iq w q n F) :
    Calls Try.prog 31 #[.agg #[.slice q n c, .int .i64 els], .agg #[.int .i64 x, .int .i64 y, .int .i64 z]] w fun r w' => r = .returned (.int .i64 (atG n F els x y z)) ∧ Below w.heap.size w w' := by
  obtain ⟨W, hW⟩ : ∃ W, W = (w.alloc (.cells #[.slice q n c, .int .i64 els] 24)).alloc (.cells #[.int .i64 x, .int .i64 y, .int .i64 z] 59) := ⟨_, rfl⟩
  have H : Below w.heap.size w W := by rw [hW]; go_grown
  have A : Blk W w.heap.size 24 #[.slice q n c, .int .i64 els] := by rw [hW]; exact (Blk.new' rfl).alloc _
  have B : Blk W (w.heap.size + 1) 59 #[.int .i64 x, .int .i64 y, .int .i64 z] := by rw [hW]; exact Blk.new' (by simp)
  have a0 := A.cell 0
  have a1 := A.cell 1
  obtain ⟨b0, b1, b2, -, -, -⟩ := B.c3
  replace hq := hq.on H
  go_enter Try.func31, Try.ntmps31
  go_upto_region 1 with (fail)
  rw [← hW]
  clear hW A B
  generalize hv : w.heap.size = nw at a0 a1 b0 b1 b2 ⊢
  by_cases hy : y < 0
  · go_wp2_with fail
    go_returns
    exact ⟨ret_i (by unfold atG; rw [if_pos (by omega)]), by first | exact H | (rw [← hv]; exact H)⟩
  have hy' : 0 ≤ y := by omega
  by_cases hx : 0 ≤ x
  · by_cases hx6 : x < 6
    · by_cases hy6 : y < 6
      · by_cases hz : 0 ≤ z
        · by_cases hz6 : z < 6
          · obtain ⟨k, hk⟩ : ∃ k : Nat, (y * 6 + z) * 6 + x = k := ⟨((y * 6 + z) * 6 + x).toNat, by omega⟩
            have hG : atG n F els x y z = if k < n then F k else 0 := by
              unfold atG
              rw [if_neg (by omega), if_pos ⟨hx, hx6, hy6, hz, hz6⟩, hk]
              by_cases h : k < n <;> simp [h]
            replace hG : Hid (atG n F els x y z = if k < n then F k else 0) := hG
            by_cases hkn : k < n
            · obtain ⟨g, o, rfl, hI⟩ := hq (by omega)
              have hc := hI k hkn
              have hkn' : (k : Int) < n := by omega
              have hk0 : (0 : Int) ≤ k := by omega
              go_wp2_with fail
              go_returns
              exact ⟨ret_i (by rw [hG.out, if_pos hkn]), by first | exact H | (rw [← hv]; exact H)⟩
            · have hkn' : ¬ (k : Int) < n := by omega
              go_wp2_with fail
              go_returns
              exact ⟨ret_i (by rw [hG.out, if_neg hkn]), by first | exact H | (rw [← hv]; exact H)⟩
          · go_wp2_with fail
            go_returns
            exact ⟨ret_i (by unfold atG; rw [if_neg (by omega), if_neg (by omega)]), by first | exact H | (rw [← hv]; exact H)⟩
        · go_wp2_with fail
          go_returns
          exact ⟨ret_i (by unfold atG; rw [if_neg (by omega), if_neg (by omega)]), by first | exact H | (rw [← hv]; exact H)⟩
      · go_wp2_with fail
        go_returns
        exact ⟨ret_i (by unfold atG; rw [if_neg (by omega), if_neg (by omega)]), by first | exact H | (rw [← hv]; exact H)⟩
    · go_wp2_with fail
      go_returns
      exact ⟨ret_i (by unfold atG; rw [if_neg (by omega), if_neg (by omega)]), by first | exact H | (rw [← hv]; exact H)⟩
  · go_wp2_with fail
    go_returns
    exact ⟨ret_i (by unfold atG; rw [if_neg (by omega), if_neg (by omega)]), by first | exact H | (rw [← hv]; exact H)⟩
end Go.Proofs.Ytckjpiioipkfcaa

/- A small world's view. -/
namespace Go.Proofs.Ytckjpiioipkfcaa
open Go.RowKit

set_option maxHeartbeats 1000000 in
theorem view1_c (q : Option Addr) (n c : Nat) (F : Nat → Int) (els x y z : Int) (b : Nat) (w : World) (hb : Blk w b 24 #[.slice q n c, .int .i64 els]) (hq : Iq w q n F) :
    Calls Try.prog 30 #[.agg #[.int .i64 x, .int .i64 y, .int .i64 z], .pointer (some ⟨b, 0, none⟩)] w fun r w' => r = .returned (.int .i64 (atG n F els x y z)) ∧ Below w.heap.size w w' := by
  obtain ⟨W, hW⟩ : ∃ W, W = w.alloc (.cells #[.int .i64 x, .int .i64 y, .int .i64 z] 59) := ⟨_, rfl⟩
  have H : Below w.heap.size w W := by rw [hW]; go_grown
  have A := hb.on H
  have B : Blk W w.heap.size 59 #[.int .i64 x, .int .i64 y, .int .i64 z] := by rw [hW]; exact Blk.new' rfl
  have a0 := A.cell 0
  have a1 := A.cell 1
  obtain ⟨b0, b1, b2, -, -, -⟩ := B.c3
  replace hq := hq.on H
  go_enter Try.func30, Try.ntmps30
  go_upto_region 1 with (fail)
  rw [← hW]
  clear hW A B
  go_wp2_with fail
  refine (at_c q n c F els x y z _ hq).mono ?_; rintro e w1 ⟨rfl, h2⟩
  go_wp2_with fail
  go_returns
  exact ⟨rfl, after H h2⟩
end Go.Proofs.Ytckjpiioipkfcaa

/- Rows that a call owns, and rows that are read: the elements of a list, each as its cells. No program in sight. -/
namespace Go.Proofs.Ytckjpiioipkfcaa
open Go.RowKit

section
variable {P : Program} {w w' : World} {base : Nat} {e : TypeId} {size : Nat} {α : Type} {enc : α → List Value} {v : Value} {xs : List α}
/-- v owns a row in a block from base on. -/
def Owns (w : World) (base : Nat) (e : TypeId) (size : Nat) (enc : α → List Value) (v : Value) (xs : List α) : Prop := w.ownsRow base e size v xs.length (xs.flatMap enc)
/-- From q on lie the elements of xs. -/
def Rd (w : World) (q : Option Addr) (size : Nat) (enc : α → List Value) (xs : List α) : Prop :=
  0 < xs.length → ∃ g o, q = some ⟨g, o, none⟩ ∧ ∀ i x, xs[i]? = some x → ∀ j u, (enc x)[j]? = some u → w.cell? ⟨g, o + i * size + j, none⟩ = some u
theorem Rd.on {q : Option Addr} (h : Rd w q size enc xs) (hb : Below w.heap.size w w') : Rd w' q size enc xs := fun hn => by
  obtain ⟨g, o, hq, h1⟩ := h hn
  exact ⟨g, o, hq, fun i x hx j u hu => by rw [cell_below hb (cell_lt (h1 i x hx j u hu))]; exact h1 i x hx j u hu⟩
theorem Rd.at {g o : Nat} (h : Rd w (some ⟨g, o, none⟩) size enc xs) {i : Nat} {x : α} (hx : xs[i]? = some x) {j : Nat} {u : Value} (hu : (enc x)[j]? = some u) : w.cell? ⟨g, o + i * size + j, none⟩ = some u := by
  have hn : 0 < xs.length := by have := (List.getElem?_eq_some_iff.1 hx).1; omega
  obtain ⟨g', o', hq, h1⟩ := h hn
  cases hq
  exact h1 i x hx j u hu
theorem Rd.far {q : Option Addr} (h : Rd w q size enc xs) (hq : ∀ a, q = some a → base ≤ a.block) {p : Addr} (hp : p.block < base) (u : Value) : Rd (w.setCell p u) q size enc xs := fun hn => by
  obtain ⟨g, o, hg, h1⟩ := h hn
  have h2 := hq _ hg
  exact ⟨g, o, hg, fun i x hx j v hv => by
    have h3 := h1 i x hx j v hv
    unfold World.cell? at h3 ⊢
    rw [Below.heap_setCell w p u g (by dsimp only at h2; omega)]
    exact h3⟩
theorem Owns.nil : Owns w base e size enc (.slice none 0 0) ([] : List α) := ⟨by simp, .inl ⟨rfl, rfl⟩⟩
theorem flat_at (hl : ∀ x, (enc x).length = size) : ∀ (xs : List α) (i : Nat) (x : α), xs[i]? = some x → ∀ j u, (enc x)[j]? = some u → (xs.flatMap enc)[i * size + j]? = some u := by
  intro xs
  induction xs with
  | nil => intro i x h; cases h
  | cons y ys ih =>
    intro i x hx j u hu
    rw [List.flatMap_cons]
    have hj : j < size := by rw [← hl x]; exact (List.getElem?_eq_some_iff.1 hu).1
    cases i with
    | zero =>
      obtain rfl : y = x := by simpa using hx
      rw [List.getElem?_append_left (by rw [hl]; omega)]
      simpa using hu
    | succ i =>
      rw [List.getElem?_append_right (by rw [hl, Nat.succ_mul]; omega), hl, show (i + 1) * size + j - size = i * size + j by rw [Nat.succ_mul]; omega]
      exact ih i x (by simpa using hx) j u hu
theorem Owns.form (hl : ∀ x, (enc x).length = size) (h : Owns w base e size enc v xs) : ∃ q cap, v = .slice q xs.length cap ∧ xs.length ≤ cap ∧ cap ≤ maxLen ∧ Rd w q size enc xs ∧ (∀ a, q = some a → base ≤ a.block ∧ a.block < w.heap.size) ∧ (0 < xs.length → ∃ g, q = some ⟨g, 0, none⟩) := by
  rcases h.2 with ⟨hv, h0⟩ | ⟨g, cap, cur, hv, hb, hg, hc, hm, hs, ht⟩
  · exact ⟨none, 0, by rw [hv, h0], by omega, by omega, fun hn => by omega, fun a ha => (by cases ha), fun hn => by omega⟩
  · refine ⟨_, cap, hv, hc, hm, fun _ => ⟨g, 0, rfl, fun i x hx j u hu => ?_⟩, fun a ha => by cases ha; exact ⟨hb, (Array.getElem?_eq_some_iff.1 hg).1⟩, fun _ => ⟨g, rfl⟩⟩
    have h1 := flat_at hl xs i x hx j u hu
    rw [← ht] at h1
    have h2 := (List.getElem?_eq_some_iff.1 h1).1
    rw [List.length_take] at h2
    rw [List.getElem?_take_of_lt (by omega)] at h1
    rw [show 0 + i * size + j = i * size + j by omega]
    have := Blk.cell (w := w) (t := e) (cs := cur) hg (i * size + j)
    rw [this]
    simpa using h1
theorem Owns.on (h : Owns w base e size enc v xs) (hb : Below w.heap.size w w') : Owns w' base e size enc v xs := by
  refine ⟨h.1, ?_⟩
  rcases h.2 with h0 | ⟨g, cap, cur, hv, hbg, hg, r⟩
  · exact .inl h0
  · exact .inr ⟨g, cap, cur, hv, hbg, Blk.on hg hb, r⟩
/-- A store ahead of base leaves it. -/
theorem Owns.far (h : Owns w base e size enc v xs) {p : Addr} (hp : p.block < base) (u : Value) : Owns (w.setCell p u) base e size enc v xs := ownsRow_setCell_below h hp u
theorem Owns.kept (h : Owns w base e size enc v xs) (hk : ∀ g, base ≤ g → g < w.heap.size → w'.heap[g]? = w.heap[g]?) : Owns w' base e size enc v xs := by
  refine ⟨h.1, ?_⟩
  rcases h.2 with h0 | ⟨g, cap, cur, hv, hbg, hg, r⟩
  · exact .inl h0
  · exact .inr ⟨g, cap, cur, hv, hbg, (hk g hbg (Array.getElem?_eq_some_iff.1 hg).1).trans hg, r⟩
theorem Owns.block (h : Owns w base e size enc v xs) : ∀ k, v.ownBlock = some k → base ≤ k ∧ k < w.heap.size := World.ownsRow.lt h
/-- One element behind them. -/
theorem run_push {ts ty : TypeId} {z : Value} {bytes b : Nat} {x : α} (ht : P.underlying ts = some (.slice e)) (hi : (P.info? e).map (fun i => (i.zero, i.size, i.bytes)) = some (some z, size, bytes)) (hz : z.cells.size = size) (hs : 0 < size) (hby : 0 < bytes)
    (hl : (enc x).length = size) (h1 : ∀ u ∈ enc x, u.oneCell' = true) (hown : Owns w base e size enc v xs) (hx : ∀ j u, (enc x)[j]? = some u → w.cell? ⟨b, j, none⟩ = some u) (h47 : (xs.length + 1) * bytes ≤ 140737488355328) (hbase : base ≤ w.heap.size) :
    ∃ v' w', (Builtin.append_ #[ts, ts] ty #[v, .slice (some ⟨b, 0, none⟩) 1 1]).run P w = .ok v' w' ∧ Owns w' base e size enc v' (xs ++ [x]) ∧ w.grownBy w' v.ownBlock ∧ Below base w w' ∧ ∃ g cap, v' = .slice (some ⟨g, 0, none⟩) (xs.length + 1) cap := by
  obtain ⟨i, hi, hz0, hs0, hb0⟩ := info_parts hi
  have h63 : xs.length + 1 ≤ maxLen := by
    have : (xs.length + 1) * 1 ≤ (xs.length + 1) * bytes := Nat.mul_le_mul_left _ hby
    simp only [maxLen]; omega
  obtain ⟨v', w', h2, h3, h4, h5⟩ := run_append_own (P := P) w base ts ty e i z size bytes ht hi hz0 hs0 hb0 hz hs v xs.length (xs.flatMap enc) hown ⟨b, 0, none⟩ 1 1 (enc x) (by rw [hl]; omega) (fun j u hu => by
    have := hx j u hu
    unfold Addr.add
    by_cases hk : j = 0 <;> simp [hk] at this ⊢ <;> exact this) h1 h63 h47 hbase
  refine ⟨v', w', h2, ?_, h4, (Below.refl _ _).grown h4 hbase fun k hk => (hown.block k hk).1, ?_⟩
  · unfold Owns
    rw [List.length_append, List.flatMap_append, List.length_singleton, List.flatMap_singleton]
    exact h3
  · rcases h3.2 with ⟨hv, h0⟩ | ⟨g, cap, _, hv, _⟩
    · omega
    · exact ⟨g, cap, hv⟩
end
/-! ### whole numbers; cells -/
abbrev encI (n : Int) : List Value := [.int .i64 n]
abbrev enc3 (c : Int × Int × Int) : List Value := [.int .i64 c.1, .int .i64 c.2.1, .int .i64 c.2.2]
theorem len3 (c : Int × Int × Int) : (enc3 c).length = 3 := rfl
theorem lenI (n : Int) : (encI n).length = 1 := rfl
end Go.Proofs.Ytckjpiioipkfcaa

/- The laws' view; the document's example. -/
namespace Go.Proofs.Ytckjpiioipkfcaa
open Go.RowKit Go.Shelf
attribute [local go_sem] Oper.semAt_some

theorem ax_len {n m : Int} (h : n ≤ m) (h2 : m ≤ n + 1000000) : (topI n m + 1 - lowI n).toNat ≤ 18 := by
  unfold topI lowI cutI
  split <;> omega
theorem cells_len {a b c d e f : Int} (h1 : a ≤ d) (h2 : d ≤ a + 1000000) (h3 : b ≤ e) (h4 : e ≤ b + 1000000) (h5 : c ≤ f) (h6 : f ≤ c + 1000000) : (cellsI a b c d e f).length ≤ 1000000 := by
  unfold cellsI
  split
  · rw [boxL_length]
    have := Nat.mul_le_mul (ax_len h3 h4) (Nat.mul_le_mul (ax_len h5 h6) (ax_len h1 h2))
    omega
  · simp
theorem iq_of_rd {w : World} {q : Option Addr} {xs : List Int} (h : Rd w q 1 encI xs) : Iq w q xs.length (fun i => xs.getD i 0) := fun hn => by
  obtain ⟨g, o, hq, h1⟩ := h hn
  refine ⟨g, o, hq, fun i hi => ?_⟩
  have h2 : w.cell? ⟨g, o + i * 1, none⟩ = some (.int .i64 (xs[i]'hi)) := h1 i _ (List.getElem?_eq_getElem hi) 0 _ rfl
  rw [Nat.mul_one] at h2
  rw [h2]
  simp [List.getD_eq_getElem?_getD, List.getElem?_eq_getElem hi]
theorem view_c (v1 v2 : Value) (w : World) : Calls Try.prog 10 #[.agg #[v1, v2]] w fun r w' =>
    r = .returned (.func (.func 30) #[] #[.pointer (some ⟨w.heap.size, 0, none⟩)]) ∧ w' = w.alloc (.cells #[v1, v2] 24) := by
  have hmf : ∀ (fn : Fn) (first cap : Array Value) (w : World), (Instr.makeFunc fn first cap).run Try.prog w = .ok (.func fn first cap) w := fun _ _ _ _ => rfl
  go_enter Try.func10, Try.ntmps10
  go_wp2_with fail
  go_returns
  exact ⟨rfl, rfl⟩
theorem view_tells {q : Option Addr} {n c : Nat} {F : Nat → Int} {els : Int} {b : Nat} {w : World} (hb : Blk w b 24 #[.slice q n c, .int .i64 els]) (hq : Iq w q n F) :
    Tells Try.prog 30 #[.pointer (some ⟨b, 0, none⟩)] (fun x => atG n F els x.1 x.2.1 x.2.2) w :=
  fun x W h => view1_c q n c F els x.1 x.2.1 x.2.2 b W (hb.on h) (hq.on h)
theorem view_en : ∀ args w, (callFunc 30 args).run Try.prog w = .ok (.enter 30 args) w := enters_of Try.func30 (by kernel_rfl) rfl
end Go.Proofs.Ytckjpiioipkfcaa

/- How far a box goes: plain. No program in sight. -/
namespace Go.Proofs.Ytckjpiioipkfcaa
open Go.RowKit

theorem ofI_id {k : Int} (h1 : -2147483648 ≤ k) (h2 : k ≤ 2147483648) : ofI k = k * 65536 := by unfold ofI; omega
/-- The layers that lie ahead, the nearest first: each with the way to it. -/
def layU (top d : Int) : List (Int × Int) := (List.range ((top + d + 65535) / 65536 - (top + 65535) / 65536).toNat).map fun i : Nat => ((top + 65535) / 65536 + (i : Int), ((top + 65535) / 65536 + (i : Int)) * 65536 - top)
def layD (low d : Int) : List (Int × Int) := (List.range (low / 65536 - (low + d) / 65536).toNat).map fun i : Nat => (low / 65536 - 1 - (i : Int), (low / 65536 - (i : Int)) * 65536 - low)
def lays (low top d : Int) : List (Int × Int) := if 0 < d then layU top d else layD low d
/-- The nearest layer that stops it. -/
def axV (blk : Int → Bool) (low top d : Int) : Int × Bool := match (lays low top d).find? (fun kw => blk kw.1) with
  | some kw => (kw.2, true)
  | none => (d, false)
/-- Is the layer blocked? -/
def lyB (val : Cl → Int) (a b c d e f axis k : Int) : Bool :=
  (cellsI (wiI a axis 0 (k * 65536)) (wiI b axis 1 (k * 65536)) (wiI c axis 2 (k * 65536)) (wiI d axis 0 (k * 65536 + 65536)) (wiI e axis 1 (k * 65536 + 65536)) (wiI f axis 2 (k * 65536 + 65536))).any fun x => solB (val x)
def farI (d : Int) : Int := min (max d (-4194304)) 4194304
def axisV (val : Cl → Int) (a b c d e f axis dd : Int) : Int × Bool :=
  if axis < 0 ∨ 3 ≤ axis then (0, false) else axV (lyB val a b c d e f axis) (axI a b c axis) (axI d e f axis) (farI dd)
/-- A small box, not far from 0. -/
structure Sm (M a b c d e f : Int) : Prop where
  a1 : -M ≤ a
  b1 : -M ≤ b
  c1 : -M ≤ c
  a2 : a ≤ M
  b2 : b ≤ M
  c2 : c ≤ M
  ad : a ≤ d
  be : b ≤ e
  cf : c ≤ f
  da : d ≤ a + 1000000
  eb : e ≤ b + 1000000
  fc : f ≤ c + 1000000
theorem Sm.box {M a b c d e f : Int} (h : Sm M a b c d e f) (hM : M ≤ 100000000000000) : BoxOk a b c d e f := by
  obtain ⟨h1, h2, h3, h4, h5, h6, h7, h8, h9, h10, h11, h12⟩ := h
  exact ⟨by omega, by omega, by omega, by omega, by omega, by omega, by omega, by omega, by omega⟩
theorem Sm.cells {M a b c d e f : Int} (h : Sm M a b c d e f) : (cellsI a b c d e f).length ≤ 1000000 := cells_len h.ad h.da h.be h.eb h.cf h.fc
theorem wi_c {x axis i n : Int} (h1 : -140737488355328 ≤ n) (h2 : n ≤ 140737488355328) : wiI x axis i n = if i = axis then n else x := by unfold wiI; rw [cutI_id h1 h2]
theorem Sm.layer {M a b c d e f axis k : Int} (h : Sm M a b c d e f) (hM : M ≤ 1000000000000) (h1 : -(M + 10000000) ≤ k * 65536) (h2 : k * 65536 ≤ M + 10000000) :
    Sm (M + 10000000) (wiI a axis 0 (k * 65536)) (wiI b axis 1 (k * 65536)) (wiI c axis 2 (k * 65536)) (wiI d axis 0 (k * 65536 + 65536)) (wiI e axis 1 (k * 65536 + 65536)) (wiI f axis 2 (k * 65536 + 65536)) := by
  obtain ⟨h3, h4, h5, h6, h7, h8, h9, h10, h11, h12, h13, h14⟩ := h
  rw [wi_c (by omega) (by omega), wi_c (by omega) (by omega), wi_c (by omega) (by omega), wi_c (by omega) (by omega), wi_c (by omega) (by omega), wi_c (by omega) (by omega)]
  constructor <;> split <;> omega
theorem axI_sm {M a b c d e f axis : Int} (h : Sm M a b c d e f) (h0 : 0 ≤ M) : -M ≤ axI a b c axis ∧ axI a b c axis ≤ axI d e f axis ∧ axI d e f axis ≤ M + 1000000 := by
  obtain ⟨h3, h4, h5, h6, h7, h8, h9, h10, h11, h12, h13, h14⟩ := h
  unfold axI
  refine ⟨?_, ?_, ?_⟩ <;> (split; omega; split; omega; split; omega; omega)
theorem mem_lays {low top d k w : Int} (h : (k, w) ∈ lays low top d) :
    (0 < d ∧ w = k * 65536 - top ∧ 0 ≤ w ∧ w < d) ∨ (d < 0 ∧ w = (k + 1) * 65536 - low ∧ w ≤ 0 ∧ d < w) := by
  unfold lays at h
  split at h
  · left
    unfold layU at h
    obtain ⟨i, hi, e⟩ := List.mem_map.1 h
    rw [List.mem_range] at hi
    injection e with e1 e2
    refine ⟨by assumption, by omega, by omega, by omega⟩
  · right
    unfold layD at h
    obtain ⟨i, hi, e⟩ := List.mem_map.1 h
    rw [List.mem_range] at hi
    injection e with e1 e2
    refine ⟨by omega, by omega, by omega, by omega⟩
theorem farI_bd (d : Int) : -4194304 ≤ farI d ∧ farI d ≤ 4194304 := by unfold farI; omega
theorem axV_bd {blk : Int → Bool} {low top d : Int} : (0 ≤ d → 0 ≤ (axV blk low top d).1 ∧ (axV blk low top d).1 ≤ d) ∧ (d ≤ 0 → d ≤ (axV blk low top d).1 ∧ (axV blk low top d).1 ≤ 0) := by
  unfold axV
  split
  · rename_i kw h
    have := mem_lays (k := kw.1) (w := kw.2) (List.mem_of_find?_eq_some h)
    dsimp only
    omega
  · dsimp only; omega
theorem layU_len (top d : Int) : (layU top d).length = ((top + d + 65535) / 65536 - (top + 65535) / 65536).toNat := by simp [layU]
theorem layD_len (low d : Int) : (layD low d).length = (low / 65536 - (low + d) / 65536).toNat := by simp [layD]
theorem layU_at {top d : Int} {i : Nat} (h : i < (layU top d).length) : (layU top d)[i]? = some ((top + 65535) / 65536 + (i : Int), ((top + 65535) / 65536 + (i : Int)) * 65536 - top) := by
  rw [layU_len] at h; simp [layU, h]
theorem layD_at {low d : Int} {i : Nat} (h : i < (layD low d).length) : (layD low d)[i]? = some (low / 65536 - 1 - (i : Int), (low / 65536 - (i : Int)) * 65536 - low) := by
  rw [layD_len] at h; simp [layD, h]
end Go.Proofs.Ytckjpiioipkfcaa

/- The nearest layer, told without a list. No program in sight. -/
namespace Go.Proofs.Ytckjpiioipkfcaa
open Go.RowKit

theorem axV_up_hit {blk : Int → Bool} {low top d k : Int} (hd : 0 < d) (h0 : 0 ≤ k * 65536 - top) (h1 : k * 65536 - top < d) (hb : blk k = true) (hn : ∀ k', k' < k → 0 ≤ k' * 65536 - top → blk k' = false) : axV blk low top d = (k * 65536 - top, true) := by
  unfold axV lays
  rw [if_pos hd]
  have hi : (k - (top + 65535) / 65536).toNat < (layU top d).length := by rw [layU_len]; omega
  have ha := layU_at hi
  rw [show (top + 65535) / 65536 + ((k - (top + 65535) / 65536).toNat : Int) = k by omega] at ha
  rw [find_at (q := fun kw : Int × Int => blk kw.1) ha hb fun j y hj hy => ?_]
  have hj2 : j < (layU top d).length := by omega
  rw [layU_at hj2] at hy
  obtain rfl := Option.some.inj hy
  exact hn _ (by omega) (by omega)
theorem axV_up_none {blk : Int → Bool} {low top d : Int} (hd : 0 < d) (hn : ∀ k', 0 ≤ k' * 65536 - top → k' * 65536 - top < d → blk k' = false) : axV blk low top d = (d, false) := by
  unfold axV lays
  rw [if_pos hd, find_no fun j x hj hx => ?_]
  rw [layU_at hj] at hx
  rw [layU_len] at hj
  obtain rfl := Option.some.inj hx
  exact hn _ (by omega) (by omega)
theorem axV_dn_hit {blk : Int → Bool} {low top d k : Int} (hd : d < 0) (h0 : (k + 1) * 65536 - low ≤ 0) (h1 : d < (k + 1) * 65536 - low) (hb : blk k = true) (hn : ∀ k', k < k' → (k' + 1) * 65536 - low ≤ 0 → blk k' = false) : axV blk low top d = ((k + 1) * 65536 - low, true) := by
  unfold axV lays
  rw [if_neg (by omega)]
  have hi : (low / 65536 - 1 - k).toNat < (layD low d).length := by rw [layD_len]; omega
  have ha := layD_at hi
  rw [show low / 65536 - 1 - ((low / 65536 - 1 - k).toNat : Int) = k by omega, show low / 65536 - ((low / 65536 - 1 - k).toNat : Int) = k + 1 by omega] at ha
  rw [find_at (q := fun kw : Int × Int => blk kw.1) ha hb fun j y hj hy => ?_]
  have hj2 : j < (layD low d).length := by omega
  rw [layD_at hj2] at hy
  obtain rfl := Option.some.inj hy
  exact hn _ (by dsimp only; omega) (by dsimp only; omega)
theorem axV_dn_none {blk : Int → Bool} {low top d : Int} (hd : d < 0) (hn : ∀ k', (k' + 1) * 65536 - low ≤ 0 → d < (k' + 1) * 65536 - low → blk k' = false) : axV blk low top d = (d, false) := by
  unfold axV lays
  rw [if_neg (by omega), find_no fun j x hj hx => ?_]
  rw [layD_at hj] at hx
  rw [layD_len] at hj
  obtain rfl := Option.some.inj hx
  exact hn _ (by dsimp only; omega) (by dsimp only; omega)
theorem axV_zero (blk : Int → Bool) (low top : Int) : axV blk low top 0 = (0, false) := by
  have : lays low top 0 = [] := by unfold lays layD; simp
  unfold axV; rw [this]; rfl
end Go.Proofs.Ytckjpiioipkfcaa

/- A box that goes: plain. No program in sight. -/
namespace Go.Proofs.Ytckjpiioipkfcaa
open Go.RowKit

abbrev B6 := Int × Int × Int × Int × Int × Int
abbrev ag6 (x : B6) : Array Value := #[.int .i64 x.1, .int .i64 x.2.1, .int .i64 x.2.2.1, .int .i64 x.2.2.2.1, .int .i64 x.2.2.2.2.1, .int .i64 x.2.2.2.2.2]
def Sm6 (M : Int) (x : B6) : Prop := Sm M x.1 x.2.1 x.2.2.1 x.2.2.2.1 x.2.2.2.2.1 x.2.2.2.2.2
def ax6 (val : Cl → Int) (x : B6) (axis dd : Int) : Int × Bool := axisV val x.1 x.2.1 x.2.2.1 x.2.2.2.1 x.2.2.2.2.1 x.2.2.2.2.2 axis dd
def mv6 (x : B6) (axis n : Int) : B6 :=
  (addI x.1 (wiI 0 axis 0 n), addI x.2.1 (wiI 0 axis 1 n), addI x.2.2.1 (wiI 0 axis 2 n), addI x.2.2.2.1 (wiI 0 axis 0 n), addI x.2.2.2.2.1 (wiI 0 axis 1 n), addI x.2.2.2.2.2 (wiI 0 axis 2 n))
def al6 (val : Cl → Int) (x : B6) (axis dd : Int) : B6 × Bool := (mv6 x axis (ax6 val x axis dd).1, (ax6 val x axis dd).2)
theorem axisV_far (val : Cl → Int) (a b c d e f axis dd : Int) : -4194304 ≤ (axisV val a b c d e f axis dd).1 ∧ (axisV val a b c d e f axis dd).1 ≤ 4194304 := by
  unfold axisV
  split
  · simp
  · obtain ⟨h1, h2⟩ := farI_bd dd
    obtain ⟨h3, h4⟩ := axV_bd (blk := lyB val a b c d e f axis) (low := axI a b c axis) (top := axI d e f axis) (d := farI dd)
    omega
theorem addI_in {a b : Int} (h1 : -100000000000000 ≤ a) (h2 : a ≤ 100000000000000) (h3 : -10000000 ≤ b) (h4 : b ≤ 10000000) : addI a b = a + b := by
  unfold addI cutI; omega
theorem wi0 {axis i n : Int} (h1 : -10000000 ≤ n) (h2 : n ≤ 10000000) : wiI 0 axis i n = if i = axis then n else 0 := wi_c (by omega) (by omega)
theorem mv6_sm {M : Int} {x : B6} (h : Sm6 M x) (hM0 : 0 ≤ M) (hM : M ≤ 10000000000000) {axis n : Int} (h1 : -10000000 ≤ n) (h2 : n ≤ 10000000) : Sm6 (M + 10000000) (mv6 x axis n) := by
  obtain ⟨h3, h4, h5, h6, h7, h8, h9, h10, h11, h12, h13, h14⟩ := h
  unfold Sm6 mv6
  rw [wi0 h1 h2, wi0 h1 h2, wi0 h1 h2]
  dsimp only
  have q : ∀ i : Int, -10000000 ≤ (if i = axis then n else 0) ∧ (if i = axis then n else 0) ≤ 10000000 := fun i => by split <;> omega
  have q0 := q 0
  have q1 := q 1
  have q2 := q 2
  generalize (if (0 : Int) = axis then n else 0) = n0 at q0 ⊢
  generalize (if (1 : Int) = axis then n else 0) = n1 at q1 ⊢
  generalize (if (2 : Int) = axis then n else 0) = n2 at q2 ⊢
  rw [addI_in (by omega) (by omega) q0.1 q0.2, addI_in (by omega) (by omega) q1.1 q1.2, addI_in (by omega) (by omega) q2.1 q2.2, addI_in (by omega) (by omega) q0.1 q0.2, addI_in (by omega) (by omega) q1.1 q1.2, addI_in (by omega) (by omega) q2.1 q2.2]
  constructor <;> omega
theorem al6_sm {M : Int} {x : B6} (h : Sm6 M x) (hM0 : 0 ≤ M) (hM : M ≤ 10000000000000) (val : Cl → Int) (axis dd : Int) : Sm6 (M + 10000000) (al6 val x axis dd).1 := by
  obtain ⟨h1, h2⟩ := axisV_far val x.1 x.2.1 x.2.2.1 x.2.2.2.1 x.2.2.2.2.1 x.2.2.2.2.2 axis dd
  exact mv6_sm h hM0 hM (n := (ax6 val x axis dd).1) (by unfold ax6; omega) (by unfold ax6; omega)
/-- The box and the hits behind so many of the three ways. -/
def st1 (val : Cl → Int) (x : B6) (dy : Int) : B6 := (al6 val x 1 dy).1
def st2 (val : Cl → Int) (x : B6) (dx dy : Int) : B6 := (al6 val (st1 val x dy) 0 dx).1
def st3 (val : Cl → Int) (x : B6) (dx dy dz : Int) : B6 := (al6 val (st2 val x dx dy) 2 dz).1
def hy1 (val : Cl → Int) (x : B6) (dy : Int) : Bool := (al6 val x 1 dy).2
def hx2 (val : Cl → Int) (x : B6) (dx dy : Int) : Bool := (al6 val (st1 val x dy) 0 dx).2
def hz3 (val : Cl → Int) (x : B6) (dx dy dz : Int) : Bool := (al6 val (st2 val x dx dy) 2 dz).2
def moveT (val : Cl → Int) (x : B6) (dx dy dz : Int) : Value := .tuple #[.agg (ag6 (st3 val x dx dy dz)), .agg #[.bool (hx2 val x dx dy), .bool (hy1 val x dy), .bool (hz3 val x dx dy dz)]]
end Go.Proofs.Ytckjpiioipkfcaa

/- The layers that a box goes through: what the iterator owes. -/
namespace Go.Proofs.Ytckjpiioipkfcaa
open Go.RowKit Go.Shelf
attribute [local go_sem] Oper.semAt_some

theorem layers_c (a b c d e f axis dd : Int) (w : World) : Calls Try.prog 33 #[.agg #[.int .i64 a, .int .i64 b, .int .i64 c, .int .i64 d, .int .i64 e, .int .i64 f], .int .i64 axis, .int .i64 dd] w fun r w' =>
    r = .returned (.func (.func 48) #[] #[.pointer (some ⟨w.heap.size, 0, none⟩), .pointer (some ⟨w.heap.size + 1, 0, none⟩), .pointer (some ⟨w.heap.size + 1 + 1, 0, none⟩)]) ∧
    w' = ((w.alloc (.cells #[.int .i64 a, .int .i64 b, .int .i64 c, .int .i64 d, .int .i64 e, .int .i64 f] 28)).alloc (.cells #[.int .i64 axis] 3)).alloc (.cells #[.int .i64 dd] 3) := by
  have hmf : ∀ (fn : Fn) (first cap : Array Value) (w : World), (Instr.makeFunc fn first cap).run Try.prog w = .ok (.func fn first cap) w := fun _ _ _ _ => rfl
  go_enter Try.func33, Try.ntmps33
  go_wp2_with fail
  go_returns
  exact ⟨rfl, rfl⟩
abbrev encK (c : Int × Int) : Array Value := #[.int .i64 c.1, .int .i64 c.2]
theorem of_b (n v : Int) (h : ofI n = v) (w : World) : Calls Try.prog 50 #[.int .i64 n] w fun e w' => e = .returned (.int .i64 v) ∧ Below w.heap.size w w' := calls_bel (of_e n v h w)
theorem floor_v (n v : Int) (h : cutI n / 65536 = v) (w : World) : Calls Try.prog 49 #[.int .i64 n] w fun e w' => e = .returned (.int .i64 v) ∧ w = w' := by subst h; exact floor_c n w
set_option maxRecDepth 100000 in
set_option maxHeartbeats 8000000 in
theorem lay_it (B G D : Nat) (a b c d e f axis dd M : Int) (hM : M ≤ 1000000000000) (hM0 : 0 ≤ M) (hB : Sm M a b c d e f) (h1 : -4194304 ≤ dd) (h2 : dd ≤ 4194304) (w : World) (hb : Blk w B 28 #[.int .i64 a, .int .i64 b, .int .i64 c, .int .i64 d, .int .i64 e, .int .i64 f]) (hg : Blk w G 3 #[.int .i64 axis]) (hd : Blk w D 3 #[.int .i64 dd]) :
    Iter Try.prog 48 #[.pointer (some ⟨B, 0, none⟩), .pointer (some ⟨G, 0, none⟩), .pointer (some ⟨D, 0, none⟩)] encK (lays (axI a b c axis) (axI d e f axis) dd) (fun x => x = B ∨ x = G ∨ x = D) w := by
  intro m l J Jx W hW hJ hJx hY h0
  have A := hW.blk (.inl rfl) hb
  have A1 := hW.blk (.inr (.inl rfl)) hg
  have A2 := hW.blk (.inr (.inr rfl)) hd
  obtain ⟨l1, l2, l3⟩ := axI_sm (axis := axis) hB hM0
  clear hb hg hd hW hB
  refine callsIn_of_wp Try.func48 rfl trivial ?_ rfl
  simp only [Try.ntmps48, List.size_toArray, List.length_cons, List.length_nil, Nat.reduceAdd, Nat.reduceSub, Array.replicate_succ, Array.replicate_zero, List.push_toArray, List.append_toArray, List.nil_append, List.cons_append]
  refine wpIn_wide.2 ?_
  obtain ⟨a0, a1, a2, a3, a4, a5⟩ := A.re6
  have g0 := fun x y => (A1.re x y).cell 0
  clear A
  go_upto_region 0 with (fail)
  refine wp_sched [0, 0, 0, 0, 0, 0, 0, 0, 0, 0] (fun _ _ _ => True) (by kernel_rfl) (by kernel_rfl) (fun _ _ _ _ h _ => h) ?_
  repeat (first | (refine wpQs_s ?_) | (refine wpQs_q (fun K hK => ?_); go_simp; first | (refine hK _ ?_; clear hK K) | (apply Exists.intro; refine ⟨fun _ => ?_, hK _ ?_⟩; (exact axis_c _ _ _ _ _); clear hK K)) | (refine wpQs_f (fun K hK => ?_); go_simp; refine hK _ ?_; clear hK K))
  refine wpQs_nil ?_
  repeat (first | (refine wpLs_skip ?_) | (refine wpLs_one ?lsA (fun v_ => ?_); case lsA => (intro w_ hw_ hp_; (fail))))
  refine wpLs_nilB ?_
  simp only [tails]
  clear a0 a1 a2 a3 a4 a5 g0
  generalize hlo : axI a b c axis = low at l1 l2 hY ⊢
  generalize hto : axI d e f axis = top at l2 l3 hY ⊢
  intro W1 k1 _
  have HLO := Lib.hid hlo
  have HTO := Lib.hid hto
  clear hlo hto
  have hD := A2.on k1
  have d0 := hD.cell 0
  have hJ1 : ∀ Z, J Z 0 W1 := fun Z => hJ Z 0 W W1 (h0 Z) (Kept.of_below k1)
  have hsz := k1.size
  have hDl := A2.lt
  clear k1 h0 A1 A2
  by_cases hpos : 0 < dd
  · have hls : lays low top dd = layU top dd := by unfold lays; rw [if_pos hpos]
    rw [hls] at hY
    have HLS := Lib.hid hls
    have hlen := layU_len top dd
    have HLEN := Lib.hid hlen
    clear hls hlen
    go_upto_region 3 with (go_at_call 49; refine (floor_v _ ((top + 65535) / 65536) (by unfold cutI; omega) _).mono ?_; rintro e_ w2 ⟨rfl, rfl⟩)
    refine (wpIn_wide (n := m + 1)).1 ?_
    gi_loopw [7] (fun v wr => ∃ (kk : Int) (i : Nat), v = .int .i64 kk ∧ Hid (kk = (top + 65535) / 65536 + (i : Int)) ∧ Hid (i ≤ (layU top dd).length) ∧ Blk wr D 3 #[.int .i64 dd] ∧ Hid (W1.heap.size ≤ wr.heap.size) ∧ J W1.heap.size i wr) (fun v _ => ((top + dd + 65535) / 65536 + 1 - intOf v).toNat)
    case atStart => exact ⟨_, 0, rfl, Lib.hid (by omega), Nat.zero_le _, hD, Nat.le_refl _, hJ1 _⟩
    case round =>
      clear hD hJ1 d0
      obtain ⟨kk, i, rfl, hkk0, hi, hD, hsz2, hj⟩ := hrel
      have d0 := fun x y => (hD.re x y).cell 0
      have hkk := hkk0.out
      have hi2 := hi.out
      rw [HLEN.out] at hi2
      have b1 : -9223372036854775808 ≤ kk - 1 := by omega
      have b2 : kk + 1 ≤ 9223372036854775807 := by omega
      have b3 : -9223372036854775808 ≤ kk + 1 := by omega
      have b4 : kk - 1 ≤ 9223372036854775807 := by omega
      have b5 : -9223372036854775808 ≤ kk * 65536 - top := by omega
      have b6 : kk * 65536 - top ≤ 9223372036854775807 := by omega
      have hof : ofI (kk) = (kk) * 65536 := ofI_id (by omega) (by omega)
      have HOF := Lib.hid hof
      by_cases hlt : i < (layU top dd).length
      · have c1 : (layU top dd)[i]? = some (kk, kk * 65536 - top) := by rw [layU_at hlt, hkk]
        have C1 := Lib.hid c1
        have HI := Lib.hid hlt
        rw [HLEN.out] at hlt
        have hlt2 : kk * 65536 < top + dd := by omega
        clear hlt c1 hi2 hof hkk
        have hw : IntKind.i64.wrap (top + dd) = top + dd := IntWalk.i64_in _ (by omega)
        gi_wp2
        refine wpIn_wide.2 ?_
        refine wp_sched [0, 0, 0, 0, 0, 0] (fun _ _ _ => True) (by kernel_rfl) (by kernel_rfl) (fun _ _ _ _ h _ => h) ?_
        repeat (first | (refine wpQs_s ?_) | (refine wpQs_q (fun K hK => ?_); go_simp; first | (refine hK _ ?_; clear hK K) | (apply Exists.intro; refine ⟨fun _ => ?_, hK _ ?_⟩; (exact of_b _ _ HOF.out _); clear hK K)) | (refine wpQs_f (fun K hK => ?_); go_simp; refine hK _ ?_; clear hK K))
        refine wpQs_nil ?_
        repeat (first | (refine wpLs_skip ?_) | (refine wpLs_one ?lsA (fun v_ => ?_); case lsA => (intro w_ hw_ hp_; (fail))))
        refine wpLs_nilB ?_
        simp only [tails]
        intro W2 k2 _
        have HJ := Lib.hid (And.intro (hJ _ _ _ _ hj (Kept.of_below k2)) (Nat.le_trans hsz2.out k2.size))
        clear d0 hj
        simp only [wpList, Exit.then]
        go_at_K
        gi_wp2_with (refine ⟨trivial, ?_⟩; gi_at_call 50; refine (callsIn_wide.2 (of_b _ _ HOF.out _)).mono ?_; rintro e_ w3 ⟨rfl, k3⟩; obtain ⟨hj, hs2⟩ := HJ.out; have hs3 := Nat.le_trans hs2 k3.size; replace hD := (hD.on k2).on k3; obtain ⟨fn, tmps, assign, body, hy', hR⟩ := hY W1.heap.size i _ w3 hsz hs3 C1.out (hJ _ _ _ _ hj (Kept.of_below k3)))
        refine hR.mono ?_
        rintro e_ W3 (⟨rfl, hj3, hk3⟩ | ⟨rfl, hjx3⟩)
        · replace hD := hk3.blk (.inr (.inr (.inr rfl))) hD
          have hsz3 := Lib.hid (Nat.le_trans hs3 hk3.size)
          gi_wp2
          go_roundw
          case rel => exact ⟨kk + 1, i + 1, rfl, Lib.hid (by have := hkk0.out; omega), HI.out, hD, hsz3.out, hj3⟩
          case measure => have := hkk0.out; have := HI.out; rw [HLEN.out] at this; simp [intOf]; omega
        · gi_wp2
          refine bodyPost_ret (results_none rfl _ _ _) rfl ?_
          exact ⟨⟨_, rfl⟩, W1.heap.size, hsz, .inr ⟨i, by rw [HLO.out, HTO.out, HLS.out]; exact HI.out, hjx3⟩⟩
      · have hin : i = (layU top dd).length := Nat.le_antisymm hi.out (Nat.le_of_not_lt hlt)
        have hlt2 : ¬ kk * 65536 < top + dd := by rw [HLEN.out] at hin; omega
        have hw : IntKind.i64.wrap (top + dd) = top + dd := IntWalk.i64_in _ (by omega)
        have hw2 : True := trivial
        have HI := Lib.hid hin
        clear hlt hi2 hof hkk hin
        gi_wp2
        refine wpIn_wide.2 ?_
        refine wp_sched [0, 0, 0, 0, 0, 0] (fun _ _ _ => True) (by kernel_rfl) (by kernel_rfl) (fun _ _ _ _ h _ => h) ?_
        repeat (first | (refine wpQs_s ?_) | (refine wpQs_q (fun K hK => ?_); go_simp; first | (refine hK _ ?_; clear hK K) | (apply Exists.intro; refine ⟨fun _ => ?_, hK _ ?_⟩; (exact of_b _ _ HOF.out _); clear hK K)) | (refine wpQs_f (fun K hK => ?_); go_simp; refine hK _ ?_; clear hK K))
        refine wpQs_nil ?_
        repeat (first | (refine wpLs_skip ?_) | (refine wpLs_one ?lsA (fun v_ => ?_); case lsA => (intro w_ hw_ hp_; (fail))))
        refine wpLs_nilB ?_
        simp only [tails]
        intro W2 k2 _
        have HJ := Lib.hid (hJ _ _ _ _ hj (Kept.of_below k2))
        clear d0 hj
        simp only [wpList, Exit.then]
        go_at_K
        gi_wp2
        go_wp2_with fail
        refine bodyPost_ret (results_none rfl _ _ _) rfl ?_
        exact ⟨⟨_, rfl⟩, W1.heap.size, hsz, .inl (by rw [HLO.out, HTO.out, HLS.out, ← HI.out]; exact HJ.out)⟩
  · have hls : lays low top dd = layD low dd := by unfold lays; rw [if_neg hpos]
    rw [hls] at hY
    have HLS := Lib.hid hls
    have hlen := layD_len low dd
    have HLEN := Lib.hid hlen
    clear hls hlen
    go_upto_region 7 with (go_at_call 49; refine (floor_v _ (low / 65536) (by unfold cutI; omega) _).mono ?_; rintro e_ w2 ⟨rfl, rfl⟩)
    refine (wpIn_wide (n := m + 1)).1 ?_
    gi_loopw [8] (fun v wr => ∃ (kk : Int) (i : Nat), v = .int .i64 kk ∧ Hid (kk = low / 65536 - 1 - (i : Int)) ∧ Hid (i ≤ (layD low dd).length) ∧ Blk wr D 3 #[.int .i64 dd] ∧ Hid (W1.heap.size ≤ wr.heap.size) ∧ J W1.heap.size i wr) (fun v _ => (intOf v - (low + dd) / 65536 + 1).toNat)
    case atStart => exact ⟨_, 0, rfl, Lib.hid (by omega), Nat.zero_le _, hD, Nat.le_refl _, hJ1 _⟩
    case round =>
      clear hD hJ1 d0
      obtain ⟨kk, i, rfl, hkk0, hi, hD, hsz2, hj⟩ := hrel
      have d0 := fun x y => (hD.re x y).cell 0
      have hkk := hkk0.out
      have hi2 := hi.out
      rw [HLEN.out] at hi2
      have b1 : -9223372036854775808 ≤ kk - 1 := by omega
      have b2 : kk + 1 ≤ 9223372036854775807 := by omega
      have b3 : -9223372036854775808 ≤ kk + 1 := by omega
      have b4 : kk - 1 ≤ 9223372036854775807 := by omega
      have b5 : -9223372036854775808 ≤ (kk + 1) * 65536 - low := by omega
      have b6 : (kk + 1) * 65536 - low ≤ 9223372036854775807 := by omega
      have hof : ofI (kk + 1) = (kk + 1) * 65536 := ofI_id (by omega) (by omega)
      have HOF := Lib.hid hof
      by_cases hlt : i < (layD low dd).length
      · have c1 : (layD low dd)[i]? = some (kk, (kk + 1) * 65536 - low) := by rw [layD_at hlt, hkk]; congr 2; omega
        have C1 := Lib.hid c1
        have HI := Lib.hid hlt
        rw [HLEN.out] at hlt
        have hlt2 : (kk + 1) * 65536 > low + dd := by omega
        clear hlt c1 hi2 hof hkk
        have hw : IntKind.i64.wrap (low + dd) = low + dd := IntWalk.i64_in _ (by omega)
        have hw2 : IntKind.i64.wrap (kk + 1) = kk + 1 := IntWalk.i64_in _ (by omega)
        gi_wp2
        refine wpIn_wide.2 ?_
        refine wp_sched [0, 0, 0, 0, 0, 0, 0] (fun _ _ _ => True) (by kernel_rfl) (by kernel_rfl) (fun _ _ _ _ h _ => h) ?_
        repeat (first | (refine wpQs_s ?_) | (refine wpQs_q (fun K hK => ?_); go_simp; first | (refine hK _ ?_; clear hK K) | (apply Exists.intro; refine ⟨fun _ => ?_, hK _ ?_⟩; (exact of_b _ _ HOF.out _); clear hK K)) | (refine wpQs_f (fun K hK => ?_); go_simp; refine hK _ ?_; clear hK K))
        refine wpQs_nil ?_
        repeat (first | (refine wpLs_skip ?_) | (refine wpLs_one ?lsA (fun v_ => ?_); case lsA => (intro w_ hw_ hp_; (fail))))
        refine wpLs_nilB ?_
        simp only [tails]
        intro W2 k2 _
        have HJ := Lib.hid (And.intro (hJ _ _ _ _ hj (Kept.of_below k2)) (Nat.le_trans hsz2.out k2.size))
        clear d0 hj
        simp only [wpList, Exit.then]
        go_at_K
        gi_wp2_with (refine ⟨trivial, ?_⟩; gi_at_call 50; refine (callsIn_wide.2 (of_b _ _ HOF.out _)).mono ?_; rintro e_ w3 ⟨rfl, k3⟩; obtain ⟨hj, hs2⟩ := HJ.out; have hs3 := Nat.le_trans hs2 k3.size; replace hD := (hD.on k2).on k3; obtain ⟨fn, tmps, assign, body, hy', hR⟩ := hY W1.heap.size i _ w3 hsz hs3 C1.out (hJ _ _ _ _ hj (Kept.of_below k3)))
        refine hR.mono ?_
        rintro e_ W3 (⟨rfl, hj3, hk3⟩ | ⟨rfl, hjx3⟩)
        · replace hD := hk3.blk (.inr (.inr (.inr rfl))) hD
          have hsz3 := Lib.hid (Nat.le_trans hs3 hk3.size)
          gi_wp2
          go_roundw
          case rel => exact ⟨kk - 1, i + 1, rfl, Lib.hid (by have := hkk0.out; omega), HI.out, hD, hsz3.out, hj3⟩
          case measure => have := hkk0.out; have := HI.out; rw [HLEN.out] at this; simp [intOf]; omega
        · gi_wp2
          refine bodyPost_ret (results_none rfl _ _ _) rfl ?_
          exact ⟨⟨_, rfl⟩, W1.heap.size, hsz, .inr ⟨i, by rw [HLO.out, HTO.out, HLS.out]; exact HI.out, hjx3⟩⟩
      · have hin : i = (layD low dd).length := Nat.le_antisymm hi.out (Nat.le_of_not_lt hlt)
        have hlt2 : ¬ (kk + 1) * 65536 > low + dd := by rw [HLEN.out] at hin; omega
        have hw : IntKind.i64.wrap (low + dd) = low + dd := IntWalk.i64_in _ (by omega)
        have hw2 : IntKind.i64.wrap (kk + 1) = kk + 1 := IntWalk.i64_in _ (by omega)
        have HI := Lib.hid hin
        clear hlt hi2 hof hkk hin
        gi_wp2
        refine wpIn_wide.2 ?_
        refine wp_sched [0, 0, 0, 0, 0, 0, 0] (fun _ _ _ => True) (by kernel_rfl) (by kernel_rfl) (fun _ _ _ _ h _ => h) ?_
        repeat (first | (refine wpQs_s ?_) | (refine wpQs_q (fun K hK => ?_); go_simp; first | (refine hK _ ?_; clear hK K) | (apply Exists.intro; refine ⟨fun _ => ?_, hK _ ?_⟩; (exact of_b _ _ HOF.out _); clear hK K)) | (refine wpQs_f (fun K hK => ?_); go_simp; refine hK _ ?_; clear hK K))
        refine wpQs_nil ?_
        repeat (first | (refine wpLs_skip ?_) | (refine wpLs_one ?lsA (fun v_ => ?_); case lsA => (intro w_ hw_ hp_; (fail))))
        refine wpLs_nilB ?_
        simp only [tails]
        intro W2 k2 _
        have HJ := Lib.hid (hJ _ _ _ _ hj (Kept.of_below k2))
        clear d0 hj
        simp only [wpList, Exit.then]
        go_at_K
        gi_wp2
        go_end0
        exact ⟨⟨_, rfl⟩, W1.heap.size, hsz, .inl (by rw [HLO.out, HTO.out, HLS.out, ← HI.out]; exact HJ.out)⟩
end Go.Proofs.Ytckjpiioipkfcaa

/- A layer's box; how far a box goes along an axis. -/
namespace Go.Proofs.Ytckjpiioipkfcaa
open Go.RowKit Go.Shelf
attribute [local go_sem] Oper.semAt_some

abbrev bV6 (a b c d e f : Int) : Array Value := #[.int .i64 a, .int .i64 b, .int .i64 c, .int .i64 d, .int .i64 e, .int .i64 f]
set_option maxHeartbeats 4000000 in
theorem layer_c (a b c d e f axis k : Int) (h1 : -2147483648 ≤ k) (h2 : k + 1 ≤ 2147483648) (w : World) : Calls Try.prog 35 #[.agg #[.int .i64 a, .int .i64 b, .int .i64 c, .int .i64 d, .int .i64 e, .int .i64 f], .int .i64 axis, .int .i64 k] w fun r w' =>
    r = .returned (.agg #[.int .i64 (wiI a axis 0 (k * 65536)), .int .i64 (wiI b axis 1 (k * 65536)), .int .i64 (wiI c axis 2 (k * 65536)), .int .i64 (wiI d axis 0 (k * 65536 + 65536)), .int .i64 (wiI e axis 1 (k * 65536 + 65536)), .int .i64 (wiI f axis 2 (k * 65536 + 65536))]) ∧ Below w.heap.size w w' := by
  have hw : IntKind.i64.wrap (k + 1) = k + 1 := IntWalk.i64_in _ (by omega)
  have o1 : ofI k = k * 65536 := ofI_id (by omega) (by omega)
  have o2 : ofI (k + 1) = k * 65536 + 65536 := by rw [ofI_id (by omega) (by omega)]; omega
  have O := Lib.hid (And.intro o1 o2)
  clear o1 o2 h1 h2
  have U : Blk ((w.alloc (.cells (bV6 a b c d e f) 28)).alloc (.cells (bV6 0 0 0 0 0 0) 28)) w.heap.size 28 (bV6 a b c d e f) := (Blk.new' rfl).alloc _
  have R0 : Blk ((w.alloc (.cells (bV6 a b c d e f) 28)).alloc (.cells (bV6 0 0 0 0 0 0) 28)) (w.heap.size + 1) 28 (bV6 0 0 0 0 0 0) := Blk.new' (by simp)
  obtain ⟨k0, k1, k2, k3, k4, k5⟩ := U.re6
  go_enter Try.func35, Try.ntmps35
  go_upto_region 1 with (fail)
  refine wp_region_last_below 14 (by kernel_rfl) rfl (by kernel_rfl) ?_
  simp only [List.take_succ_cons, List.take_zero, List.drop_succ_cons, List.drop_zero]
  repeat (go_big_quiet_step (first | exact Calls.regrown_of (of_b _ _ O.out.1 _) | exact Calls.regrown_of (of_b _ _ O.out.2 _) | exact Calls.regrown_of (with_c _ _ _ _ _ _)))
  refine wpQuiet_nil ?_
  intro w' hw'
  obtain ⟨rg, rfl⟩ := hw'
  have R := R0.re rg.d rg.os
  obtain ⟨⟨r0, r1, r2, r3, r4, r5⟩, s0, s1, s2, s3, s4, s5⟩ := R.c6
  go_wp2_with fail
  have R2 := R.st6 (.int .i64 (wiI a axis 0 (k * 65536))) (.int .i64 (wiI b axis 1 (k * 65536))) (.int .i64 (wiI c axis 2 (k * 65536))) (.int .i64 (wiI d axis 0 (k * 65536 + 65536))) (.int .i64 (wiI e axis 1 (k * 65536 + 65536))) (.int .i64 (wiI f axis 2 (k * 65536 + 65536)))
  obtain ⟨⟨d0, d1, d2, d3, d4, d5⟩, -, -, -, -, -, -⟩ := R2.c6
  exact bodyPost_ret (v := .agg #[.int .i64 (wiI a axis 0 (k * 65536)), .int .i64 (wiI b axis 1 (k * 65536)), .int .i64 (wiI c axis 2 (k * 65536)), .int .i64 (wiI d axis 0 (k * 65536 + 65536)), .int .i64 (wiI e axis 1 (k * 65536 + 65536)), .int .i64 (wiI f axis 2 (k * 65536 + 65536))]) (by simp [results, Try.results35, go_sem, d0, d1, d2, d3, d4, d5]) rfl ⟨rfl, by (repeat' (first | (with_reducible exact Below.refl _ _) | (with_reducible assumption) | (with_reducible refine Below.alloc ?_ ?_ _) | (with_reducible refine Below.drew ?_) | (with_reducible refine Below.setCell ?_ ?_ _) | (with_reducible refine after ?_ (below_regrown _ _ _)) | (refine after ?_ (by with_reducible assumption)) | go_size))⟩
theorem leave_none {F : Fence} {n : Nat} {P : Program} {fn : Func} {R : Ending → World → Prop} {tmps : Array Value} {w : World} {v : Value} (hv : (results fn tmps).run P w = .ok v w) (hR : R (.returned v) w) : bodyPostM F n P fn R .ret { tmps := tmps, defers := [] } w := ⟨v, hv, hR⟩
def axT (p : Int × Bool) : Value := .tuple #[.int .i64 p.1, .bool p.2]
set_option maxRecDepth 100000 in
set_option maxHeartbeats 8000000 in
theorem saxis_c (V : FuncId) (lv : Array Value) (val : Cl → Int) (a b c d e f axis dd M : Int) (hM : M ≤ 100000000000) (hM0 : 0 ≤ M) (hB : Sm M a b c d e f) (w : World)
    (eV : ∀ args w, (callFunc V args).run Try.prog w = .ok (.enter V args) w) (hV : Tells Try.prog V lv val w) :
    Calls Try.prog 13 #[.func (.func V) #[] lv, .agg #[.int .i64 a, .int .i64 b, .int .i64 c, .int .i64 d, .int .i64 e, .int .i64 f], .int .i64 axis, .int .i64 dd] w fun r w' =>
      r = .returned (axT (axisV val a b c d e f axis dd)) ∧ Below w.heap.size w w' := by
  have HV := Lib.hid hV
  clear hV
  obtain ⟨W, hW⟩ : ∃ W, W = ((((w.alloc (.cells #[.func (.func V) #[] lv] 31)).alloc (.cells #[.int .i64 a, .int .i64 b, .int .i64 c, .int .i64 d, .int .i64 e, .int .i64 f] 28)).alloc (.cells #[.int .i64 axis] 3)).alloc (.cells #[.int .i64 0] 3)).alloc (.cells #[.bool false] 4) := ⟨_, rfl⟩
  have H : Below w.heap.size w W := by rw [hW]; go_grown
  have b0 : Blk W w.heap.size 31 #[.func (.func V) #[] lv] := by rw [hW]; exact ((((Blk.new' rfl).alloc _).alloc _).alloc _).alloc _
  have b1 : Blk W (w.heap.size + 1) 28 #[.int .i64 a, .int .i64 b, .int .i64 c, .int .i64 d, .int .i64 e, .int .i64 f] := by rw [hW]; exact (((Blk.new' (by simp)).alloc _).alloc _).alloc _
  have b2 : Blk W (w.heap.size + 1 + 1) 3 #[.int .i64 axis] := by rw [hW]; exact ((Blk.new' (by simp)).alloc _).alloc _
  have b3 : Blk W (w.heap.size + 1 + 1 + 1) 3 #[.int .i64 0] := by rw [hW]; exact (Blk.new' (by simp)).alloc _
  have b4 : Blk W (w.heap.size + 1 + 1 + 1 + 1) 4 #[.bool false] := by rw [hW]; exact Blk.new' (by simp)
  have hs : W.heap.size = w.heap.size + 5 := by rw [hW]; simp
  obtain ⟨N, hN⟩ : ∃ N, N = w.heap.size := ⟨_, rfl⟩
  rw [← hN] at b0 b1 b2 b3 b4 hs
  have hmn := @run_mn Try.prog
  have hmx := @run_mx Try.prog
  refine (callsIn_wide (n := 5)).1 (callsIn_of_wp_marks Try.func13 rfl trivial ?_ rfl)
  refine wpIn_wide.2 ?_
  simp only [Try.ntmps13, List.size_toArray, List.length_cons, List.length_nil, Nat.reduceAdd, Nat.reduceSub, Array.replicate_succ, Array.replicate_zero, List.push_toArray, List.append_toArray, List.nil_append, List.cons_append]
  go_upto_region 1 with (fail)
  rw [← hW, ← hN]
  have HN := Lib.hid hN
  have HS0 := Lib.hid hs
  clear hW hN hs
  have g0 := b2.cell 0
  by_cases hax : axis < 0 ∨ 3 ≤ axis
  · have hv : axisV val a b c d e f axis dd = (0, false) := by unfold axisV; rw [if_pos hax]
    have HVV := Lib.hid hv
    clear hv
    obtain ⟨r0, f0⟩ := b3.c1
    obtain ⟨s0, q0⟩ := b4.c1
    have e3 := (b3.set_ 0 (.int .i64 0)).far (p := ⟨N + 1 + 1 + 1 + 1, 0, none⟩) (by dsimp only; omega) (.bool false)
    have e4 := (b4.far (p := ⟨N + 1 + 1 + 1, 0, none⟩) (by dsimp only; omega) (.int .i64 0)).set_ 0 (.bool false)
    obtain ⟨d0, -⟩ := e3.c1
    obtain ⟨d1, -⟩ := e4.c1
    have HH := Lib.hid ((H.setCell (p := ⟨N + 1 + 1 + 1, 0, none⟩) (by rw [← HN.out]; dsimp only; omega) (.int .i64 0)).setCell (p := ⟨N + 1 + 1 + 1 + 1, 0, none⟩) (by rw [← HN.out]; dsimp only; omega) (.bool false))
    clear e3 e4 H b0 b1 b2 b3 b4
    rcases hax with hax | hax
    all_goals
      go_wp2_with fail
      refine leave_none (v := axT (0, false)) (by simp [results, Try.f13, go_sem, axT, d0, d1]) ⟨by rw [HVV.out], HH.out⟩
  · obtain ⟨x1, x2⟩ : 0 ≤ axis ∧ axis < 3 := by omega
    have y1 : ¬ axis < 0 := by omega
    have y2 : ¬ 3 ≤ axis := by omega
    have hv : axisV val a b c d e f axis dd = axV (lyB val a b c d e f axis) (axI a b c axis) (axI d e f axis) (farI dd) := by unfold axisV; rw [if_neg hax]
    have HVV := Lib.hid hv
    clear hv hax
    go_upto_region 4 with (fail)
    have hfe : mnI (mxI dd (-4194304)) 4194304 = farI dd := rfl
    rw [hfe]
    clear hfe
    obtain ⟨fb1, fb2⟩ := farI_bd dd
    generalize farI dd = df at HVV fb1 fb2 ⊢
    obtain ⟨a0, a1, a2, a3, a4, a5⟩ := b1.c6.1
    go_wp2_with (go_at_call 33; refine (layers_c _ _ _ _ _ _ _ _ _).mono ?_; rintro e_ w1 ⟨rfl, rfl⟩)
    generalize hV : World.alloc (World.alloc (World.alloc W _) _) _ = W1
    have c1 : Blk W1 W.heap.size 28 #[.int .i64 a, .int .i64 b, .int .i64 c, .int .i64 d, .int .i64 e, .int .i64 f] := Blk.eqw hV (((Blk.new' rfl).alloc _).alloc _)
    have c2 : Blk W1 (W.heap.size + 1) 3 #[.int .i64 axis] := Blk.eqw hV ((Blk.new' (by simp)).alloc _)
    have c3 : Blk W1 (W.heap.size + 1 + 1) 3 #[.int .i64 df] := Blk.eqw hV (Blk.new' (by simp))
    replace b0 := Blk.eqw hV (((b0.alloc _).alloc _).alloc _)
    replace b1 := Blk.eqw hV (((b1.alloc _).alloc _).alloc _)
    replace b2 := Blk.eqw hV (((b2.alloc _).alloc _).alloc _)
    replace b3 := Blk.eqw hV (((b3.alloc _).alloc _).alloc _)
    replace b4 := Blk.eqw hV (((b4.alloc _).alloc _).alloc _)
    have H1 : Below w.heap.size w W1 := by
      have := H.size
      rw [← hV]; exact ((H.alloc H.size _).alloc (by simp; omega) _).alloc (by simp; omega) _
    have hs1 : W1.heap.size = N + 8 := by rw [← hV]; simp [HS0.out]
    rw [HS0.out] at c1 c2 c3 ⊢
    clear hV a0 a1 a2 a3 a4 a5 g0 H
    have HS := Lib.hid hs1
    clear hs1 HS0
    have hit := lay_it (N + 5) (N + 5 + 1) (N + 5 + 1 + 1) a b c d e f axis df M (by omega) hM0 hB fb1 fb2 W1 c1 c2 c3
    have hbd := axI_sm (axis := axis) hB hM0
    generalize axI a b c axis = low at HVV hit hbd
    generalize axI d e f axis = top at HVV hit hbd
    have HBD := Lib.hid hbd
    have HFB := Lib.hid (And.intro fb1 fb2)
    have HSM := Lib.hid hB
    have HM := Lib.hid (And.intro hM hM0)
    have C1 := Lib.hid c1
    have hcap : ∀ x, (x = N + 5 ∨ x = N + 5 + 1 ∨ x = N + 5 + 1 + 1) → x < W1.heap.size := fun x hx => by rw [HS.out]; omega
    have HCAP := Lib.hid hcap
    clear hbd fb1 fb2 hB hM hM0 c1 c2 c3
    refine wp_range (m := 3) (gf := 48) (lb := #[.pointer (some ⟨N + 5, 0, none⟩), .pointer (some ⟨N + 5 + 1, 0, none⟩), .pointer (some ⟨N + 5 + 1 + 1, 0, none⟩)]) rfl (enters_of Try.func48 (by kernel_rfl) rfl) hit hcap (fun _ => rfl)
      (fun Z i A => Hid (∀ j x, j < i → (lays low top df)[j]? = some x → lyB val a b c d e f axis x.1 = false) ∧ Blk A N 31 #[.func (.func V) #[] lv] ∧ Blk A (N + 1) 28 #[.int .i64 a, .int .i64 b, .int .i64 c, .int .i64 d, .int .i64 e, .int .i64 f] ∧ Blk A (N + 1 + 1) 3 #[.int .i64 axis] ∧ Blk A (N + 1 + 1 + 1) 3 #[.int .i64 0] ∧ Blk A (N + 1 + 1 + 1 + 1) 4 #[.bool false] ∧ Below w.heap.size w A)
      (fun Z k i A => k = .ret ∧ Hid (∀ j x, j < i → (lays low top df)[j]? = some x → lyB val a b c d e f axis x.1 = false) ∧ ∃ x, Hid ((lays low top df)[i]? = some x ∧ lyB val a b c d e f axis x.1 = true) ∧ Blk A (N + 1 + 1 + 1) 3 #[.int .i64 x.2] ∧ Blk A (N + 1 + 1 + 1 + 1) 4 #[.bool true] ∧ Below w.heap.size w A)
      ?_ ?_ (fun Z => ⟨fun j x h => by omega, b0, b1, b2, b3, b4, H1⟩) ?round ?done ?stop
    · rintro Z i A B ⟨h1, h2, h3, h4, h5, h6, h7⟩ hk
      have lt : ∀ n, n < 8 → ¬ Priv W1.heap.size Z (N + n) := fun n hn h => by have := h.1; rw [HS.out] at this; omega
      exact ⟨h1, hk.blk (lt 0 (by omega)) h2, hk.blk (lt 1 (by omega)) h3, hk.blk (lt 2 (by omega)) h4, hk.blk (lt 3 (by omega)) h5, hk.blk (lt 4 (by omega)) h6, h7.trans (hk.below h7.size (fun b hb h => by have := h.1; rw [HS.out] at this; rw [← HN.out] at hb; omega))⟩
    · rintro Z k i A B ⟨h1, h2, x, h3, h4, h5, h6⟩ hk
      have lt : ∀ n, n < 8 → ¬ Priv W1.heap.size Z (N + n) := fun n hn h => by have := h.1; rw [HS.out] at this; omega
      exact ⟨h1, h2, x, h3, hk.blk (lt 3 (by omega)) h4, hk.blk (lt 4 (by omega)) h5, h6.trans (hk.below h6.size (fun b hb h => by have := h.1; rw [HS.out] at this; rw [← HN.out] at hb; omega))⟩
    case round =>
      rintro Z l i x A rfl hZ1 hZ2 hx ⟨h1, h2, h3, h4, h5, h6, h7⟩
      clear b0 b1 b2 b3 b4 H1 hit hcap
      gi_wp2
      refine ⟨Kept.refl _ _, fun A2 hA2 hz2 => ?_⟩
      have hs1 := HS.out
      have keep : ∀ n t cs, n < 8 → Blk A (N + n) t cs → Blk A2 (N + n) t cs := fun n t cs hn h => hA2.blk (show N + n ≠ W1.heap.size + 1 by omega) h
      replace h2 : Blk A2 N 31 _ := keep 0 _ _ (by omega) h2
      replace h3 := keep 1 _ _ (by omega) h3
      replace h4 := keep 2 _ _ (by omega) h4
      replace h5 := keep 3 _ _ (by omega) h5
      replace h6 := keep 4 _ _ (by omega) h6
      replace h7 : Below w.heap.size w A2 := h7.trans (hA2.below h7.size (fun b hb => by rw [← HN.out] at hb; omega))
      have hmem := mem_lays (k := x.1) (w := x.2) (low := low) (top := top) (d := df) (List.mem_of_getElem? hx)
      have hbd := HBD.out
      have hfb := HFB.out
      have hmm := HM.out
      have k1 : -2147483648 ≤ x.1 := by omega
      have k2 : x.1 + 1 ≤ 2147483648 := by omega
      have hsm := HSM.out.layer (axis := axis) (k := x.1) (by omega) (by omega) (by omega)
      have hbox := hsm.box (by omega)
      have HLY := Lib.hid fun W => layer_c a b c d e f axis x.1 k1 k2 W
      have hP := fun W (h : Below w.heap.size w W) => pmBlocked_c V lv val _ _ _ _ _ _ hbox W eV (HV.out.on h)
      have hP2 : ∀ dr os, Calls Try.prog 34 #[.func (.func V) #[] lv, .agg #[.int .i64 (wiI a axis 0 (x.1 * 65536)), .int .i64 (wiI b axis 1 (x.1 * 65536)), .int .i64 (wiI c axis 2 (x.1 * 65536)), .int .i64 (wiI d axis 0 (x.1 * 65536 + 65536)), .int .i64 (wiI e axis 1 (x.1 * 65536 + 65536)), .int .i64 (wiI f axis 2 (x.1 * 65536 + 65536))]] (Go.Sort.grow (redrawn A2 dr) os) fun r W' => r = .returned (.bool (lyB val a b c d e f axis x.1)) ∧ Below (Go.Sort.grow (redrawn A2 dr) os).heap.size (Go.Sort.grow (redrawn A2 dr) os) W' := fun dr os =>
        hP _ (h7.trans ((below_regrown A2 dr os).mono h7.size))
      have HX := Lib.hid hx
      have H1 := Lib.hid h1
      have HZ := Lib.hid (And.intro hZ1 hZ2)
      have HA2 := Lib.hid hz2
      clear hA2 hz2 keep hx h1 hZ1 hZ2 hs1 hmem hbd hfb hmm k1 k2 hsm hbox hP
      have g0 := fun d os => (h2.re d os).cell 0
      have g2 := fun d os => (h4.re d os).cell 0
      obtain ⟨x0, x1, x2, x3, x4, x5⟩ := h3.re6
      cases hp : lyB val a b c d e f axis x.1
      · rw [hp] at hP2
        have HP := Lib.hid hp
        replace hP2 := Lib.hid hP2
        clear hp
        gi_wp2
        refine in_sched [0, 0, 0, 0, 0, 0] (fun _ _ _ => True) (by kernel_rfl) (by kernel_rfl) (fun _ _ _ _ h _ => h) (by kernel_rfl) (fun ⟨_, _, h⟩ => h) ?_
        repeat (first | (refine wpQs_s ?_) | (refine wpQs_q (fun K hK => ?_); go_simp; first | (refine hK _ ?_; clear hK K) | (apply Exists.intro; refine ⟨fun _ => ?_, hK _ ?_⟩; (first | exact HLY.out _ | exact hP2.out _ _); clear hK K)) | (refine wpQs_f (fun K hK => ?_); go_simp; refine hK _ ?_; clear hK K))
        refine wpQs_nil ?_
        repeat (first | (refine wpLs_skip ?_) | (refine wpLs_one ?lsA (fun v_ => ?_); case lsA => (intro w_ hw_ hp_; (fail))))
        refine wpLs_nilB ?_
        simp only [tails]
        intro w3 k7 _
        clear g0 g2 x0 x1 x2 x3 x4 x5
        simp only [wpList, Exit.then]
        go_at_K
        gi_wp2
        exact ⟨Kept.of_below k7, fun j y hj hy => (by
          rcases Nat.lt_or_eq_of_le (Nat.le_of_lt_succ hj) with e | e
          · exact H1.out j y e hy
          · subst e; rw [HX.out] at hy; obtain rfl := Option.some.inj hy; exact HP.out), h2.on k7, h3.on k7, h4.on k7, h5.on k7, h6.on k7, after h7 k7⟩
      · rw [hp] at hP2
        have HP := Lib.hid hp
        replace hP2 := Lib.hid hP2
        clear hp
        gi_wp2
        refine in_sched [0, 0, 0, 0, 0, 0] (fun _ _ _ => True) (by kernel_rfl) (by kernel_rfl) (fun _ _ _ _ h _ => h) (by kernel_rfl) (fun ⟨_, _, h⟩ => h) ?_
        repeat (first | (refine wpQs_s ?_) | (refine wpQs_q (fun K hK => ?_); go_simp; first | (refine hK _ ?_; clear hK K) | (apply Exists.intro; refine ⟨fun _ => ?_, hK _ ?_⟩; (first | exact HLY.out _ | exact hP2.out _ _); clear hK K)) | (refine wpQs_f (fun K hK => ?_); go_simp; refine hK _ ?_; clear hK K))
        refine wpQs_nil ?_
        repeat (first | (refine wpLs_skip ?_) | (refine wpLs_one ?lsA (fun v_ => ?_); case lsA => (intro w_ hw_ hp_; (fail))))
        refine wpLs_nilB ?_
        simp only [tails]
        intro w3 k7 _
        clear g0 g2 x0 x1 x2 x3 x4 x5
        replace h5 := h5.on k7
        replace h6 := h6.on k7
        obtain ⟨r0, f0⟩ := h5.c1
        obtain ⟨s0, q0⟩ := h6.c1
        simp only [wpList, Exit.then]
        go_at_K
        gi_wp2
        have hs1 := HS.out
        have n3 : ¬ Keeps W1.heap.size Z (fun x => x = N + 5 ∨ x = N + 5 + 1 ∨ x = N + 5 + 1 + 1) (N + 1 + 1 + 1) := fun h => by rcases h with h | h | h | h; exact absurd h.1 (by omega); all_goals omega
        have n4 : ¬ Keeps W1.heap.size Z (fun x => x = N + 5 ∨ x = N + 5 + 1 ∨ x = N + 5 + 1 + 1) (N + 1 + 1 + 1 + 1) := fun h => by rcases h with h | h | h | h; exact absurd h.1 (by omega); all_goals omega
        refine ⟨((Kept.of_below k7).setCell (p := ⟨N + 1 + 1 + 1, 0, none⟩) n3 _).setCell (p := ⟨N + 1 + 1 + 1 + 1, 0, none⟩) n4 _, rfl, H1.out, x, ⟨HX.out, HP.out⟩,
          (h5.set_ 0 _).far (p := ⟨N + 1 + 1 + 1 + 1, 0, none⟩) (by dsimp only; omega) _, (h6.far (p := ⟨N + 1 + 1 + 1, 0, none⟩) (by dsimp only; omega) _).set_ 0 _, ?_⟩
        replace h7 := after h7 k7
        rw [← HN.out] at h7 ⊢
        exact (h7.setCell (p := ⟨N + 1 + 1 + 1, 0, none⟩) (by dsimp only; omega) _).setCell (p := ⟨N + 1 + 1 + 1 + 1, 0, none⟩) (by dsimp only; omega) _
    case done =>
      rintro Z A ⟨h1, -, -, -, h5, h6, h7⟩ hK
      clear b0 b1 b2 b3 b4 H1 hit hcap
      obtain ⟨r0, f0⟩ := h5.c1
      obtain ⟨s0, q0⟩ := h6.c1
      have HK := Lib.hid hK
      clear hK
      go_wp2_with fail
      have hs1 := HS.out
      have hf : axV (lyB val a b c d e f axis) low top df = (df, false) := by unfold axV; rw [find_no h1.out]
      have e3 := ((h5.set_ 0 (.int .i64 df)).far (p := ⟨N + 1 + 1 + 1 + 1, 0, none⟩) (by dsimp only; omega) (.bool false)).putObj (D := W1.heap.size) (by omega) (.deferred none)
      have e4 := ((h6.far (p := ⟨N + 1 + 1 + 1, 0, none⟩) (by dsimp only; omega) (.int .i64 df)).set_ 0 (.bool false)).putObj (D := W1.heap.size) (by omega) (.deferred none)
      obtain ⟨d0, -⟩ := e3.c1
      obtain ⟨d1, -⟩ := e4.c1
      have hK' := def_far (p := ⟨N + 1 + 1 + 1 + 1, 0, none⟩) (u := .bool false) (def_far (p := ⟨N + 1 + 1 + 1, 0, none⟩) (u := .int .i64 df) HK.out (by dsimp only; omega)) (by dsimp only; omega)
      refine leave_mark hK' (v := axT (df, false)) (by simp [results, Try.f13, go_sem, axT, d0, d1]) ⟨by rw [HVV.out, hf], ?_⟩
      rw [← HN.out] at h7 ⊢
      exact putObj_below ((h7.setCell (p := ⟨N + 1 + 1 + 1, 0, none⟩) (by dsimp only; omega) _).setCell (p := ⟨N + 1 + 1 + 1 + 1, 0, none⟩) (by dsimp only; omega) _) (by omega) _
    case stop =>
      rintro Z k i A hi ⟨rfl, h1, x, hx, h5, h6, h7⟩ hK
      clear b0 b1 b2 b3 b4 H1 hit hcap
      obtain ⟨r0, f0⟩ := h5.c1
      obtain ⟨s0, q0⟩ := h6.c1
      have HK := Lib.hid hK
      clear hK
      go_wp2_with fail
      have hs1 := HS.out
      have hf : axV (lyB val a b c d e f axis) low top df = (x.2, true) := by unfold axV; rw [find_at hx.out.1 hx.out.2 h1.out]
      obtain ⟨d0, -⟩ := (h5.putObj (D := W1.heap.size) (by omega) (.deferred none)).c1
      obtain ⟨d1, -⟩ := (h6.putObj (D := W1.heap.size) (by omega) (.deferred none)).c1
      refine leave_mark HK.out (v := axT (x.2, true)) (by simp [results, Try.f13, go_sem, axT, d0, d1]) ⟨by rw [HVV.out, hf], ?_⟩
      rw [← HN.out] at h7 ⊢
      exact putObj_below h7 (by omega) _
end Go.Proofs.Ytckjpiioipkfcaa

/- The document's cells of a box. -/
namespace Go.Proofs.Ytckjpiioipkfcaa
open Go.RowKit
attribute [local go_sem] Oper.semAt_some

theorem infC : (Try.prog.info? 59).map (fun i => (i.zero, i.size, i.bytes)) = some (some (.agg #[.int .i64 0, .int .i64 0, .int .i64 0]), 3, 24) := by kernel_rfl
theorem Owns.mono {w : World} {base base' : Nat} {e : TypeId} {size : Nat} {α : Type} {enc : α → List Value} {v : Value} {xs : List α} (h : Owns w base e size enc v xs) (hb : base' ≤ base) : Owns w base' e size enc v xs := by
  refine ⟨h.1, ?_⟩
  rcases h.2 with h0 | ⟨g, cap, cur, hv, hbg, r⟩
  · exact .inl h0
  · exact .inr ⟨g, cap, cur, hv, by omega, r⟩
theorem take_push {α : Type} {xs t : List α} {a : α} {i : Nat} (h : xs.drop i = a :: t) : xs.take (i + 1) = xs.take i ++ [a] := by
  obtain ⟨h1, -, -⟩ := drop_cons h
  rw [List.take_add_one, h1]; rfl
theorem take_len {α : Type} {xs : List α} {i : Nat} (h : i ≤ xs.length) : (xs.take i).length = i := by rw [List.length_take]; omega
theorem near24 {i n : Nat} (h : i < n) (hn : n ≤ 1000000) : (i + 1) * 24 ≤ 140737488355328 := by omega
set_option maxRecDepth 100000 in
set_option maxHeartbeats 8000000 in
theorem rcells_c (a b c d e f : Int) (hB : BoxOk a b c d e f) (hL : (cellsI a b c d e f).length ≤ 1000000) (w : World) :
    Calls Try.prog 59 #[.agg #[.int .i64 a, .int .i64 b, .int .i64 c, .int .i64 d, .int .i64 e, .int .i64 f]] w fun r w' => ∃ v, r = .returned v ∧ Owns w' w.heap.size 59 3 enc3 v (cellsI a b c d e f) ∧ Below w.heap.size w w' := by
  have HB := Lib.hid hB
  have HL := Lib.hid hL
  clear hB hL
  obtain ⟨N, hN⟩ : ∃ N, N = w.heap.size := ⟨_, rfl⟩
  have HN := Lib.hid hN
  clear hN
  go_enter Try.func59, Try.ntmps59
  go_upto_region 3 with (go_at_call 64; refine (rspan_c a b c d e f _).mono ?_; rintro e_ w1 ⟨rfl, h1⟩)
  have hsz := h1.size
  generalize hV : World.alloc (World.alloc w1 _) _ = W2
  have X : Blk W2 w1.heap.size _ _ := Blk.eqw hV ((Blk.new' rfl).alloc _)
  have Y : Blk W2 (w1.heap.size + 1) _ _ := Blk.eqw hV (Blk.new' (by simp))
  have hz : W2.heap.size = w1.heap.size + 2 := by rw [← hV]; simp
  have hk : Below w.heap.size w W2 := by
    have h2 := after ((Below.refl _ w).alloc (Nat.le_refl _) _) h1
    simp at hsz
    rw [← hV]; exact (h2.alloc (by omega) _).alloc (by simp; omega) _
  clear hV h1
  simp at hsz
  have HS := Lib.hid hsz
  clear hsz
  generalize w1.heap.size = g at X Y HS hz ⊢
  cases his : isI a b c d e f
  · have hx : cellsI a b c d e f = [] := by unfold cellsI; rw [his]; rfl
    have HX := Lib.hid hx
    clear hx X Y
    go_wp2_with fail
    go_returns
    exact ⟨_, rfl, by rw [HX.out]; exact Owns.nil, hk⟩
  · rw [his] at X Y
    have hx : cellsI a b c d e f = rest1 (lowI a) (topI a d) (topI b e) (lowI c) (topI c f) (lowI b) := by unfold cellsI; rw [his, if_pos rfl]; rfl
    have HX := Lib.hid hx
    have HIS := Lib.hid his
    have HZ := Lib.hid hz
    clear hx his hz
    simp only [zI, if_true] at X Y
    obtain ⟨x0, x1, x2, -, -, -⟩ := X.c3
    obtain ⟨y0, y1, y2, -, -, -⟩ := Y.c3
    have lb := lowI_bd b
    have lc := lowI_bd c
    have la := lowI_bd a
    have tb := topI_bd (n := b) (m := e)
    have tc := topI_bd (n := c) (m := f)
    have ta := topI_bd (n := a) (m := d)
    have q1 := topI_low HB.out.b1 HB.out.e2 HB.out.be
    have q2 := topI_low HB.out.c1 HB.out.f2 HB.out.cf
    have q3 := topI_low HB.out.a1 HB.out.d2 HB.out.ad
    go_upto_region 6 with (fail)
    go_loopw [3, 7] (fun sl v wr => ∃ (y : Int) (i : Nat), v = .int .i64 y ∧ lowI b ≤ y ∧ y ≤ topI b e + 1 ∧ Hid ((cellsI a b c d e f).drop i = rest1 (lowI a) (topI a d) (topI b e) (lowI c) (topI c f) y) ∧ Hid (i ≤ (cellsI a b c d e f).length) ∧
      Blk wr g 59 #[.int .i64 (lowI a), .int .i64 (lowI b), .int .i64 (lowI c)] ∧ Blk wr (g + 1) 59 #[.int .i64 (topI a d), .int .i64 (topI b e), .int .i64 (topI c f)] ∧ Hid (g + 2 ≤ wr.heap.size) ∧ Hid (Owns wr (g + 2) 59 3 enc3 sl ((cellsI a b c d e f).take i)) ∧ Hid (Below w.heap.size w wr)) (fun _ v _ => (topI b e + 1 - intOf v).toNat)
    case atStart => exact ⟨_, 0, rfl, Int.le_refl _, by omega, by rw [List.drop_zero]; exact HX.out, Nat.zero_le _, X, Y, Nat.le_of_eq HZ.out.symm, by rw [List.take_zero]; exact Owns.nil, hk⟩
    case round =>
      clear X Y x0 x1 x2 y0 y1 y2 hk
      obtain ⟨y, i, rfl, hy1, hy2, hd, hil, X, Y, hsz2, hj, hk⟩ := hrel
      obtain ⟨x0, x1, x2, -, -, -⟩ := X.c3
      obtain ⟨y0, y1, y2, -, -, -⟩ := Y.c3
      by_cases hy : y ≤ topI b e
      · have hd1 := Lib.hid (hd.out.trans (rest1_cons hy))
        go_upto_region 9 with (fail)
        obtain ⟨wo, rfl⟩ : ∃ wo : World, wo = wr := ⟨_, rfl⟩
        go_loopw [3, 8] (fun sl v wr => ∃ (z : Int) (i : Nat), v = .int .i64 z ∧ lowI c ≤ z ∧ z ≤ topI c f + 1 ∧ Hid ((cellsI a b c d e f).drop i = rest2 (lowI a) (topI a d) (topI b e) (lowI c) (topI c f) y z) ∧ Hid (i ≤ (cellsI a b c d e f).length) ∧
          Blk wr g 59 #[.int .i64 (lowI a), .int .i64 (lowI b), .int .i64 (lowI c)] ∧ Blk wr (g + 1) 59 #[.int .i64 (topI a d), .int .i64 (topI b e), .int .i64 (topI c f)] ∧ Hid (g + 2 ≤ wr.heap.size) ∧ Hid (Owns wr (g + 2) 59 3 enc3 sl ((cellsI a b c d e f).take i)) ∧ Hid (Below w.heap.size w wr)) (fun _ v _ => (topI c f + 1 - intOf v).toNat)
        case atStart => exact ⟨_, i, rfl, Int.le_refl _, by omega, hd1.out, hil.out, X, Y, hsz2.out, hj, hk⟩
        case round =>
          clear X Y x0 x1 x2 y0 y1 y2 hd hil hsz2 hj hd1 hk
          obtain ⟨z, i, rfl, hz1, hz2, hd, hil, X, Y, hsz2, hj, hk⟩ := hrel
          obtain ⟨x0, x1, x2, -, -, -⟩ := X.c3
          obtain ⟨y0, y1, y2, -, -, -⟩ := Y.c3
          by_cases hzt : z ≤ topI c f
          · have hd1 := Lib.hid (hd.out.trans (rest2_cons hzt))
            go_upto_region 12 with (fail)
            obtain ⟨wo2, rfl⟩ : ∃ wo : World, wo = wr := ⟨_, rfl⟩
            go_loopw [3, 9] (fun sl v wr => ∃ (x : Int) (i : Nat), v = .int .i64 x ∧ lowI a ≤ x ∧ x ≤ topI a d + 1 ∧ Hid ((cellsI a b c d e f).drop i = rest3 (lowI a) (topI a d) (topI b e) (lowI c) (topI c f) y z x) ∧ Hid (i ≤ (cellsI a b c d e f).length) ∧
              Blk wr g 59 #[.int .i64 (lowI a), .int .i64 (lowI b), .int .i64 (lowI c)] ∧ Blk wr (g + 1) 59 #[.int .i64 (topI a d), .int .i64 (topI b e), .int .i64 (topI c f)] ∧ Hid (g + 2 ≤ wr.heap.size) ∧ Hid (Owns wr (g + 2) 59 3 enc3 sl ((cellsI a b c d e f).take i)) ∧ Hid (Below w.heap.size w wr)) (fun _ v _ => (topI a d + 1 - intOf v).toNat)
            case atStart => exact ⟨_, i, rfl, Int.le_refl _, by omega, hd1.out, hil.out, X, Y, hsz2.out, hj, hk⟩
            case round =>
              clear X Y x0 x1 x2 y0 y1 y2 hd hil hsz2 hj hd1 hk
              obtain ⟨x, i, rfl, hx1, hx2, hd, hil, X, Y, hsz2, hj, hk⟩ := hrel
              obtain ⟨x0, x1, x2, -, -, -⟩ := X.c3
              obtain ⟨y0, y1, y2, -, -, -⟩ := Y.c3
              by_cases hxt : x ≤ topI a d
              · have hdc := hd.out.trans (rest3_cons hxt)
                obtain ⟨c1, c2, c3⟩ := drop_cons hdc
                have hA : Below wr.heap.size wr (wr.alloc (.cells #[.int .i64 x, .int .i64 y, .int .i64 z] 59)) := (Below.refl _ _).alloc (Nat.le_refl _) _
                have hNew : Blk (wr.alloc (.cells #[.int .i64 x, .int .i64 y, .int .i64 z] 59)) wr.heap.size 59 #[.int .i64 x, .int .i64 y, .int .i64 z] := Blk.new' rfl
                obtain ⟨v', w', hrun, V2, -, hb2, -⟩ := run_push (P := Try.prog) (ts := 81) (ty := 81) (x := (x, y, z)) (b := wr.heap.size) Try.underlying81 infC rfl (by decide) (by decide) rfl (by simp [Value.oneCell']) (hj.out.on hA)
                  (fun j u hu => by rw [hNew.cell j]; simpa using hu) (by rw [take_len hil.out]; exact near24 c3 HL.out) (Nat.le_trans hsz2.out hA.size)
                rw [← take_push hdc] at V2
                have hk2 := Lib.hid ((after hk.out hA).trans (hb2.mono (by have := HS.out; omega)))
                replace X := (X.on hA).below hb2 (by omega)
                replace Y := (Y.on hA).below hb2 (by omega)
                have hsz3 := Lib.hid (Nat.le_trans (Nat.le_trans hsz2.out hA.size) hb2.size)
                have C2 := Lib.hid c2
                have C3 := Lib.hid c3
                have HV := Lib.hid V2
                clear hNew c1 c2 c3 hA hb2 hdc V2 hj hk
                go_wp2_with (at_builtin; refine Lib.wpList_append_run _ rfl _ _ _ _ rfl _ _ rfl rfl _ _ hrun ?_)
                go_roundw
                case rel => exact ⟨x + 1, i + 1, rfl, by omega, by omega, C2.out, C3.out, X, Y, hsz3.out, HV.out, hk2⟩
                case measure => simp [intOf]; omega
              · have hd1 := Lib.hid (hd.out.trans (rest3_nil (by omega)))
                go_wp2_with fail
                go_roundw
                case rel => exact ⟨z + 1, i, rfl, by omega, by omega, hd1.out, hil.out, X, Y, hsz2.out, hj, hk⟩
                case measure => simp [intOf]; omega
          · have hd1 := Lib.hid (hd.out.trans (rest2_nil (by omega)))
            go_wp2_with fail
            go_roundw
            case rel => exact ⟨y + 1, i, rfl, by omega, by omega, hd1.out, hil.out, X, Y, hsz2.out, hj, hk⟩
            case measure => simp [intOf]; omega
      · have hi := drop_nil (hd.out.trans (rest1_nil (by omega))) hil.out
        have HI := Lib.hid hi
        clear hi
        go_wp2_with fail
        go_returns
        exact ⟨_, rfl, by have h := hj.out; rw [HI.out, List.take_length] at h; exact h.mono (by have := HS.out; omega), hk.out⟩
end Go.Proofs.Ytckjpiioipkfcaa

/- A small world, made of any. -/
namespace Go.Proofs.Ytckjpiioipkfcaa
open Go.RowKit

def goodI (n : Int) : Int := if 5 < arI n 14 then arI n 14 + 2 else arI n 14
theorem goodI_lo (n : Int) : 0 ≤ goodI n := by have := arI_lo n (m := 14) (by decide); unfold goodI; split <;> omega
theorem goodI_hi (n : Int) : goodI n ≤ 15 := by have := arI_hi n (m := 14) (by decide); unfold goodI; split <;> omega
theorem rgood4_c (n : Int) (h1 : -9223372036854775808 ≤ n) (h2 : n ≤ 9223372036854775807) (w : World) : Calls Try.prog 29 #[.int .i64 n] w fun r w' => r = .returned (.int .i64 (goodI n)) ∧ w = w' := by
  have a1 := arI_lo n (m := 14) (by decide)
  have a2 := arI_hi n (m := 14) (by decide)
  by_cases h : 5 < arI n 14
  all_goals
    go_enter Try.func29, Try.ntmps29
    go_wp2_with fail
    refine (around_c n 14 h1 h2 (by decide) _).mono ?_; rintro e w1 ⟨rfl, rfl⟩
    go_wp2_with fail
    go_returns
    exact ⟨ret_i (by unfold goodI; first | rw [if_pos h] | rw [if_neg (by omega)]), rfl⟩
theorem infI : (Try.prog.info? 3).map (fun i => (i.zero, i.size, i.bytes)) = some (some (.int .i64 0), 1, 8) := by kernel_rfl
/-- The blocks of a small world, made of any. -/
def goodL (n : Nat) (F : Nat → Int) : List Int := (List.range (min n 216)).map fun i => goodI (F i)
theorem goodL_take {n k : Nat} {F : Nat → Int} (hk : k < n) (h2 : k < 216) : (goodL n F).take (k + 1) = (goodL n F).take k ++ [goodI (F k)] := by
  rw [List.take_succ_eq_append_getElem (by simp [goodL]; omega)]
  simp [goodL]
theorem goodL_len {n k : Nat} {F : Nat → Int} (hk : k ≤ min n 216) : ((goodL n F).take k).length = k := by simp [goodL]; omega
theorem goodL_all {n k : Nat} (hk : k ≤ min n 216) (h : ¬ (k < n ∧ k < 216)) : k = min n 216 := by omega
theorem goodL_full {n : Nat} {F : Nat → Int} : (goodL n F).take (min n 216) = goodL n F := List.take_of_length_le (by simp [goodL])
theorem lt_3 (N : Nat) : N < N + 3 ∧ N + 1 < N + 3 ∧ N + 1 + 1 < N + 3 := by omega
theorem le_3 (N : Nat) : N ≤ N + 1 ∧ N ≤ N + 1 + 1 := by omega
theorem ne_1 (N : Nat) : N ≠ N + 1 := by omega
theorem ne_2 (N : Nat) : N ≠ N + 1 + 1 := by omega
set_option maxRecDepth 100000 in
set_option maxHeartbeats 4000000 in
theorem rgood13_at (q : Option Addr) (n c : Nat) (F : Nat → Int) (els : Int) (hm : c ≤ maxLen) (w : World) (hq : Iq w q n F) (hF : ∀ i, i < n → In64 (F i)) (he : In64 els) :
    Calls Try.prog 9 #[.agg #[.slice q n c, .int .i64 els]] w fun r w' => ∃ q' c', r = .returned (.agg #[.slice q' (min n 216) c', .int .i64 (arI els 3 - 1)]) ∧ Rd w' q' 1 encI (goodL n F) ∧ min n 216 ≤ c' ∧ c' ≤ maxLen ∧ Below w.heap.size w w' ∧ ∀ a, q' = some a → w.heap.size ≤ a.block := by
  obtain ⟨W, hW⟩ : ∃ W, W = ((w.alloc (.cells #[.slice q n c, .int .i64 els] 24)).alloc (.cells #[.slice none 0 0, .int .i64 0] 24)).alloc (.cells #[.slice none 0 0, .int .i64 0] 24) := ⟨_, rfl⟩
  have H : Below w.heap.size w W := by rw [hW]; go_grown
  have A : Blk W w.heap.size 24 #[.slice q n c, .int .i64 els] := by rw [hW]; exact ((Blk.new' rfl).alloc _).alloc _
  have B : Blk W (w.heap.size + 1) 24 #[.slice none 0 0, .int .i64 0] := by rw [hW]; exact (Blk.new' (by simp)).alloc _
  have O : Blk W (w.heap.size + 1 + 1) 24 #[.slice none 0 0, .int .i64 0] := by rw [hW]; exact Blk.new' (by simp)
  have hs : W.heap.size = w.heap.size + 3 := by rw [hW]; simp
  obtain ⟨N, hN⟩ : ∃ N, N = w.heap.size := ⟨_, rfl⟩
  rw [← hN] at A B O hs
  go_enter Try.func9, Try.ntmps9
  go_upto_region 2 with (fail)
  rw [← hW, ← hN]
  go_upto_region 3 with (fail)
  clear hW
  have HN := Lib.hid hN
  have HM := Lib.hid hm
  clear hN hm
  have hq' := hq.on H
  go_loopw [4] (fun i wr => ∃ (k : Nat) (v : Value), k ≤ min n 216 ∧ i = .int .i64 k ∧ Blk wr N 24 #[.slice q n c, .int .i64 els] ∧ Blk wr (N + 1) 24 #[.slice none 0 0, .int .i64 0] ∧ Blk wr (N + 1 + 1) 24 #[v, .int .i64 0] ∧ Owns wr (N + 3) 3 1 encI v ((goodL n F).take k) ∧ N + 3 ≤ wr.heap.size ∧ Below w.heap.size w wr) (fun i _ => 216 - (intOf i).toNat)
  case atStart => exact ⟨0, _, by omega, rfl, A, B, O, by rw [List.take_zero]; exact Owns.nil, by omega, H⟩
  case round =>
    clear A B O H hs hq'
    obtain ⟨k, v, hk, rfl, A, B, O, V, hs, H⟩ := hrel
    have hqw := hq.on H
    by_cases hlt : k < n
    · by_cases h2 : k < 216
      · obtain ⟨g, o, rfl, hI⟩ := hqw (by omega)
        have hc := hI k hlt
        have hFk := hF k hlt
        have a0 := A.cell 0
        have o0 := O.cell 0
        have hi0 : (0 : Int) ≤ k := by omega
        have hi1 : (k : Int) < n := by omega
        go_upto_region 5 with (fail)
        have a0 := fun d os => (A.re d os).cell 0
        have o0 := fun d os => (O.re d os).cell 0
        have hc' := fun d os => cell_regrown hc d os
        refine wp_sched [0, 0, 0, 0, 0, 0, 0, 0, 2, 3, 3, 3] (fun _ v w => ∃ b, v = .slice (some ⟨b, 0, none⟩) 1 1 ∧ Blk w b 3 #[.int .i64 (goodI (F k))] ∧ N + 3 ≤ b) (by kernel_rfl) (by kernel_rfl) (fun _ _ _ _ ⟨b, h1, h2, h3⟩ h => ⟨b, h1, h2.on h, h3⟩) ?_
        repeat (first | (refine wpQs_s ?_) | (refine wpQs_q (fun K hK => ?_); go_simp; first | (refine hK _ ?_; clear hK K) | (apply Exists.intro; refine ⟨fun _ => ?_, hK _ ?_⟩; (exact (rgood4_c _ hFk.1 hFk.2 _).mono fun _ _ ⟨he, hw⟩ => ⟨he, by rw [← hw]; exact Below.refl _ _⟩); clear hK K)) | (refine wpQs_f (fun K hK => ?_); go_simp; refine hK _ ?_; clear hK K))
        refine wpQs_nil ?_
        repeat (first | (refine wpLs_skip ?_) | (refine wpLs_one ?lsA (fun v_ => ?_); case lsA => (intro w_ hw_ hp_; (go_simp; exact ⟨Kept.of_below ((Below.refl _ _).alloc (Nat.le_refl _) _), Blk.new' rfl, Nat.le_trans hs (msd_kept hw_).size⟩))))
        refine wpLs_nilB ?_
        simp only [tails]
        rintro W1 h1 ⟨-, b, rfl, hB, hb⟩
        have b0 := hB.cell 0
        replace A := A.on h1
        replace O := O.on h1
        replace B := B.on h1
        replace V := V.on h1
        have hs1 : N + 3 ≤ W1.heap.size := Nat.le_trans hs h1.size
        obtain ⟨v', w', hrun, V2, -, hb2, g2, c2, rfl⟩ := run_push (P := Try.prog) (ts := 22) (ty := 22) (x := goodI (F k)) (b := b) Try.underlying22 infI rfl (by decide) (by decide) rfl (by simp [Value.oneCell']) V
          (fun j u hu => by rw [hB.cell j]; simpa using hu) (by simp; omega) hs1
        rw [goodL_len hk] at hrun V2
        rw [← goodL_take hlt h2] at V2
        replace A := A.below hb2 (by omega)
        replace O := O.below hb2 (by omega)
        replace B := B.below hb2 (by omega)
        have f0 := O.frz 0
        have o0 := O.cell 0
        have hs2 : N + 3 ≤ w'.heap.size := Nat.le_trans hs1 hb2.size
        clear hB b0 V
        go_wp2_with (at_builtin; refine Lib.wpList_append_run _ rfl _ _ _ _ rfl _ _ rfl rfl _ _ hrun ?_)
        have hkw := next64 (Nat.le_refl 216) (by decide) h2
        go_roundw
        case rel => exact ⟨k + 1, _, Nat.lt_min.2 ⟨hlt, h2⟩, rfl, A.far (ne_2 N) _, B.far (ne_1 (N + 1)) _, O.set_ 0 _, V2.far (Nat.lt_succ_self _) _, by simp [World.setCell]; exact hs2, ((after H h1).trans (hb2.mono (by rw [← HN.out]; exact Nat.le_add_right _ _))).setCell (by rw [← HN.out]; exact Nat.le_add_right _ 2) _⟩
        case measure => exact next_less' h2
      · have hk2 := goodL_all hk (by omega)
        have VL := goodL_len (F := F) hk
        rw [hk2] at VL
        rw [hk2, goodL_full] at V
        rw [goodL_full] at VL
        obtain ⟨q', c', rfl, k1, k2, k3, k4, -⟩ := V.form lenI
        rw [VL] at O k1
        have K2 := Lib.hid k2
        clear k2
        have a0 := A.cell 0
        have a1 := A.cell 1
        have o0 := O.cell 0
        have o1 := O.cell 1
        have of1 := O.frz 1
        have b0 := B.cell 0
        have b1 := B.cell 1
        have bf0 := B.frz 0
        have bf1 := B.frz 1
        have r1 := arI_lo els (m := 3) (by decide)
        have r2 := arI_hi els (m := 3) (by decide)
        clear hqw hq
        go_upto_region 6 with (fail)
        go_wp2_with fail
        refine (around_c els 3 he.1 he.2 (by decide) _).mono ?_; rintro e w1 ⟨rfl, rfl⟩
        go_wp2_with fail
        have R := ((B.far (p := ⟨N + 1 + 1, 1, none⟩) (ne_1 (N + 1)) (.int .i64 (arI els 3 - 1))).set_ 0 (.slice q' (min n 216) c')).set_ 1 (.int .i64 (arI els 3 - 1))
        have d0 := R.cell 0
        have d1 := R.cell 1
        refine bodyPost_ret (v := .agg #[.slice q' (min n 216) c', .int .i64 (arI els 3 - 1)]) (by simp [results, Try.results9, go_sem] at d0 d1 ⊢; simp [d0, d1]) rfl ⟨q', c', rfl, ?_, k1, K2.out, ?_, fun a ha => Nat.le_trans (by rw [← HN.out]; omega) (k4 a ha).1⟩
        · exact ((k3.far (fun a ha => (k4 a ha).1) (p := ⟨N + 1 + 1, 1, none⟩) (lt_3 N).2.2 _).far (fun a ha => (k4 a ha).1) (p := ⟨N + 1, 0, none⟩) (lt_3 N).2.1 _).far (fun a ha => (k4 a ha).1) (p := ⟨N + 1, 1, none⟩) (lt_3 N).2.1 _
        · rw [← HN.out]; rw [← HN.out] at H; exact ((H.setCell (p := ⟨N + 1 + 1, 1, none⟩) (le_3 N).2 _).setCell (p := ⟨N + 1, 0, none⟩) (le_3 N).1 _).setCell (p := ⟨N + 1, 1, none⟩) (le_3 N).1 _
    · have h2 : ¬ (k < n ∧ k < 216) := fun h => hlt h.1
      have hk2 := goodL_all hk (by omega)
      have VL := goodL_len (F := F) hk
      rw [hk2] at VL
      rw [hk2, goodL_full] at V
      rw [goodL_full] at VL
      obtain ⟨q', c', rfl, k1, k2, k3, k4, -⟩ := V.form lenI
      rw [VL] at O k1
      have K2 := Lib.hid k2
      clear k2
      have a0 := A.cell 0
      have a1 := A.cell 1
      have o0 := O.cell 0
      have o1 := O.cell 1
      have of1 := O.frz 1
      have b0 := B.cell 0
      have b1 := B.cell 1
      have bf0 := B.frz 0
      have bf1 := B.frz 1
      have r1 := arI_lo els (m := 3) (by decide)
      have r2 := arI_hi els (m := 3) (by decide)
      clear hqw hq
      go_upto_region 6 with (fail)
      go_wp2_with fail
      refine (around_c els 3 he.1 he.2 (by decide) _).mono ?_; rintro e w1 ⟨rfl, rfl⟩
      go_wp2_with fail
      have R := ((B.far (p := ⟨N + 1 + 1, 1, none⟩) (ne_1 (N + 1)) (.int .i64 (arI els 3 - 1))).set_ 0 (.slice q' (min n 216) c')).set_ 1 (.int .i64 (arI els 3 - 1))
      have d0 := R.cell 0
      have d1 := R.cell 1
      refine bodyPost_ret (v := .agg #[.slice q' (min n 216) c', .int .i64 (arI els 3 - 1)]) (by simp [results, Try.results9, go_sem] at d0 d1 ⊢; simp [d0, d1]) rfl ⟨q', c', rfl, ?_, k1, K2.out, ?_, fun a ha => Nat.le_trans (by rw [← HN.out]; omega) (k4 a ha).1⟩
      · exact ((k3.far (fun a ha => (k4 a ha).1) (p := ⟨N + 1 + 1, 1, none⟩) (lt_3 N).2.2 _).far (fun a ha => (k4 a ha).1) (p := ⟨N + 1, 0, none⟩) (lt_3 N).2.1 _).far (fun a ha => (k4 a ha).1) (p := ⟨N + 1, 1, none⟩) (lt_3 N).2.1 _
      · rw [← HN.out]; rw [← HN.out] at H; exact ((H.setCell (p := ⟨N + 1 + 1, 1, none⟩) (le_3 N).2 _).setCell (p := ⟨N + 1, 0, none⟩) (le_3 N).1 _).setCell (p := ⟨N + 1, 1, none⟩) (le_3 N).1 _
theorem rgood13_c (q : Option Addr) (n c : Nat) (F : Nat → Int) (els : Int) (hm : c ≤ maxLen) (w : World) (hq : Iq w q n F) (hF : ∀ i, i < n → In64 (F i)) (he : In64 els) :
    Calls Try.prog 9 #[.agg #[.slice q n c, .int .i64 els]] w fun r w' => ∃ q' c', r = .returned (.agg #[.slice q' (min n 216) c', .int .i64 (arI els 3 - 1)]) ∧ Rd w' q' 1 encI (goodL n F) ∧ min n 216 ≤ c' ∧ c' ≤ maxLen ∧ Below w.heap.size w w' :=
  (rgood13_at q n c F els hm w hq hF he).mono fun _ _ ⟨q', c', h1, h2, h3, h4, h5, _⟩ => ⟨q', c', h1, h2, h3, h4, h5⟩
end Go.Proofs.Ytckjpiioipkfcaa
