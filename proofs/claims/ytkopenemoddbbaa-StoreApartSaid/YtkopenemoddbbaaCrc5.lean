/- Pieces of bytes put one behind the other; a piece's own copy. -/
import Derived.Test.YtkopenemoddbbaaApp2
import Derived.Test.YtkopenemoddbbaaChecked
import Derived.Deep.Cut
import Derived.Lib.SliceRun
namespace Go.Proofs.Ytkopenemoddbbaa
open Go.RowKit

theorem inf8 : (Try.prog.info? 5).map (fun i => (i.zero, i.size, i.bytes)) = some (some (.int .u8 0), 1, 1) := by kernel_rfl
set_option maxRecDepth 100000 in
set_option maxHeartbeats 1000000 in
theorem grow_c (n : Nat) (h0 : 0 < n) (h47 : n ≤ 140737488355328) (w : World) :
    Calls Try.prog 54 #[.slice none 0 0, .int .i64 n] w fun r w' => ∃ v, r = .returned v ∧ w'.ownsRow w.heap.size 5 1 v 0 [] ∧ Below w.heap.size w w' := by
  obtain ⟨g, cap, W, hrun, hc, hm, hown, hb⟩ := run_grow0 (P := Try.prog) (w := w) (base := w.heap.size) (F := fun _ => 0) (ty := 22) Try.underlying22 Try.underlying3 inf8 h0 h47 (Nat.le_refl _)
  have h1 : (0 : Int) < n := by omega
  have h2 : ¬ (n : Int) < 0 := by omega
  have h3 : (n : Int) ≤ 140737488355328 := by omega
  go_enter Try.func54, Try.ntmps54
  go_wp2_with (at_builtin; refine Lib.wpList_append_run _ rfl _ _ _ _ rfl _ _ rfl rfl _ _ hrun ?_)
  go_returns
  exact ⟨_, rfl, hown, hb⟩
theorem own_nil' {w : World} {B : Nat} {e : TypeId} {v : Value} {F : Nat → B8} (h : w.ownsRow B e 1 v 0 []) : w.ownsRow B e 1 v 0 (bl F 0) := h
set_option maxRecDepth 100000 in
set_option maxHeartbeats 2000000 in
theorem concat2_c (q1 : Option Addr) (n1 c1 : Nat) (F : Nat → B8) (h1 : n1 ≤ c1) (q2 : Option Addr) (n2 c2 : Nat) (G : Nat → B8) (h2 : n2 ≤ c2) (h47 : n1 + n2 ≤ 140737488355328) (h0 : 0 < n1 + n2) (l : Nat) (w : World)
    (hL : Blk w l 22 #[.slice q1 n1 c1, .slice q2 n2 c2]) (b1 : Byq w q1 n1 F) (b2 : Byq w q2 n2 G) :
    Calls Try.prog 27 #[.slice (some ⟨l, 0, none⟩) 2 2] w fun r w' => ∃ v, r = .returned v ∧ w'.ownsRow w.heap.size 5 1 v (n1 + n2) (bl (cat F n1 G) (n1 + n2)) ∧ Below w.heap.size w w' := by
  have l0 := hL.cell 0
  have l1 := hL.cell 1
  have s1 : (n1 : Int) + n2 ≤ 140737488355328 := by omega
  have s2 : ¬ (n1 : Int) < 0 := by omega
  have s3 : ¬ (n1 : Int) + n2 < 0 := by omega
  have s4 : (n1 : Int) ≤ 140737488355328 := by omega
  go_enter Try.func27, Try.ntmps27
  go_upto_region 3 with (fail)
  refine wp_loop_rounds 3 ?_
  rw [rounds_succ]
  go_wp2_with fail
  rw [rounds_succ]
  go_wp2_with fail
  rw [rounds_succ]
  go_wp2_with fail
  rw [← Int.natCast_add]
  refine (grow_c (n1 + n2) h0 h47 _).mono ?_
  rintro e w1 ⟨v, rfl, hown, H⟩
  replace hown := own_nil' (F := F) hown
  obtain ⟨v1, W1, hrun1, hown1, hb1⟩ := run_app (P := Try.prog) (w := w1) (base := w.heap.size) (ty := 22) Try.underlying22 inf8 hown h1 (b1.on H) (by omega) H.size
  obtain ⟨qv, cv, rfl, -, -, -⟩ := own_byq hown
  rw [cat_0, Nat.zero_add] at hown1
  replace hb1 := H.trans hb1
  obtain ⟨v2, W2, hrun2, hown2, hb2⟩ := run_app (P := Try.prog) (w := W1) (base := w.heap.size) (ty := 22) Try.underlying22 inf8 hown1 h2 (b2.on hb1) (by omega) hb1.size
  obtain ⟨qw, cw, rfl, -, -, -⟩ := own_byq hown1
  replace hb2 := hb1.trans hb2
  replace l0 := (hL.on H).cell 0
  replace l1 := (hL.on hb1).cell 1
  clear s1 s2 s3 s4
  go_upto_region 11 with (fail)
  refine wp_loop_rounds 3 ?_
  rw [rounds_succ]
  go_wp2_with (at_builtin; refine Lib.wpList_append_run _ rfl _ _ _ _ rfl _ _ rfl rfl _ _ hrun1 ?_)
  rw [rounds_succ]
  go_wp2_with (at_builtin; refine Lib.wpList_append_run _ rfl _ _ _ _ rfl _ _ rfl rfl _ _ hrun2 ?_)
  rw [rounds_succ]
  go_wp2_with fail
  go_returns
  exact ⟨_, rfl, hown2, hb2⟩
set_option maxRecDepth 100000 in
set_option maxHeartbeats 1000000 in
theorem clone_c (q : Option Addr) (n c : Nat) (F : Nat → B8) (hc : n ≤ c) (h47 : n ≤ 140737488355328) (w : World) (hq : Byq w q n F) :
    Calls Try.prog 57 #[.slice q n c] w fun r w' => ∃ v, r = .returned v ∧ w'.ownsRow w.heap.size 5 1 v n (bl F n) ∧ Below w.heap.size w w' := by
  have hnl : ∀ (w : World) (a : Option Addr) (n c n' c' : Nat), (binOp .eql 22 (.slice a n c) (.slice none n' c')).run Try.prog w = .ok (.bool a.isNone) w := fun w a n c n' c' => Lib.run_eql_slice_nil w _ _ a n c n' c' Try.underlying22
  cases q with
  | none =>
    have h0 : n = 0 := by
      rcases Nat.eq_zero_or_pos n with h | h
      · exact h
      · obtain ⟨g, o, h1, _⟩ := hq h; cases h1
    subst h0
    go_enter Try.func57, Try.ntmps57
    go_wp2_with fail
    go_returns
    exact ⟨_, rfl, own_nil, Below.refl _ _⟩
  | some a =>
    obtain ⟨W0, hW⟩ : ∃ W0, W0 = w.alloc (.cells #[] 5) := ⟨_, rfl⟩
    have hb0 : Below w.heap.size w W0 := by rw [hW]; exact (Below.refl _ _).alloc (Nat.le_refl _) _
    have hown : W0.ownsRow w.heap.size 5 1 (.slice (some ⟨w.heap.size, 0, none⟩) 0 0) 0 (bl F 0) :=
      ⟨rfl, .inr ⟨w.heap.size, 0, #[], rfl, Nat.le_refl _, by rw [hW]; exact heap_alloc_new w _, Nat.le_refl _, by omega, rfl, rfl⟩⟩
    obtain ⟨v1, W1, hrun1, hown1, hb1⟩ := run_app (P := Try.prog) (w := W0) (base := w.heap.size) (ty := 22) Try.underlying22 inf8 hown hc (hq.on hb0) (by omega) hb0.size
    rw [cat_0, Nat.zero_add] at hown1
    rw [hW] at hrun1
    go_enter Try.func57, Try.ntmps57
    go_wp2_with (at_builtin; refine Lib.wpList_append_run _ rfl _ _ _ _ rfl _ _ rfl rfl _ _ hrun1 ?_)
    go_returns
    exact ⟨_, rfl, hown1, hb0.trans hb1⟩
end Go.Proofs.Ytkopenemoddbbaa
