/- The document's checked bytes: the walks. -/
import Derived.Test.YtkopenemoddbbaaCrc6
import Derived.Test.YtkopenemoddbbaaLast
namespace Go.Proofs.Ytkopenemoddbbaa
open Go.ChangeShapes Go.WideShapes Go.ChangeAt Go.RowKit

set_option maxRecDepth 100000 in
set_option maxHeartbeats 2000000 in
theorem ckrput_c (q : Option Addr) (n c : Nat) (F : Nat → B8) (hc : n ≤ c) (hm : c ≤ maxLen) (h47 : n ≤ 1000000) (w : World) (hq : Byq w q n F) :
    Calls Try.prog 29 #[.slice q n c] w fun r w' => ∃ v, r = .returned v ∧ w'.ownsRow w.heap.size 5 1 v (n + 2) (bl (putF F n) (n + 2)) ∧ Below w.heap.size w w' := by
  have hF : Hid (putF F n = cat F n (twoF (crcO F n))) := rfl
  go_enter Try.func29, Try.ntmps29
  go_wp2_with fail
  refine (rof_c q n c F hc hm _ hq).mono ?_; rintro e w1 ⟨rfl, rfl⟩
  generalize crcO F n = d at *
  obtain ⟨v1, W1, hrun1, hown1, H⟩ := run_app (P := Try.prog) (w := w) (base := w.heap.size) (ty := 22) Try.underlying22 inf8 (own_nil (F := F)) hc hq (by omega) (Nat.le_refl _)
  rw [cat_0, Nat.zero_add] at hown1
  obtain ⟨l0, l1⟩ := n8_lt ((d >>> 8).setWidth 8)
  have e1 : wrap64 ((n16 d).tdiv 256) = n8 ((d >>> 8).setWidth 8) := by
    have := n16_lt d
    rw [Int.tdiv_eq_ediv_of_nonneg (by omega), ← hi8 d]
    exact IntWalk.wrap64_in _ (by omega)
  have e2 : IntKind.u8.wrap ((n16 d).tmod 256) = n8 (d.setWidth 8) := by
    have := n16_lt d
    rw [Int.tmod_eq_emod_of_nonneg (by omega), lo8 d, IntKind.wrap_u8', IntKind.wrap_u8']
    omega
  go_upto_region 4 with (at_builtin; refine Lib.wpList_append_run _ rfl _ _ _ _ rfl _ _ rfl rfl _ _ hrun1 ?_)
  obtain ⟨W2, hW⟩ : ∃ W2, W2 = W1.alloc (.cells #[.int .u8 (n8 ((d >>> 8).setWidth 8)), .int .u8 (n8 (d.setWidth 8))] 5) := ⟨_, rfl⟩
  have C := Blk.fresh hW
  have hb1 : Below W1.heap.size W1 W2 := by rw [hW]; exact (Below.refl _ _).alloc (Nat.le_refl _) _
  have D : Byt W2 W1.heap.size 0 2 (twoF d) := fun i hi => by
    rw [Nat.zero_add, C.cell]
    match i, hi with
    | 0, _ => rfl
    | 1, _ => rfl
  replace H := after H hb1
  obtain ⟨v2, W3, hrun2, hown2, hb2⟩ := run_app (P := Try.prog) (w := W2) (base := w.heap.size) (ty := 22) (c := 2) Try.underlying22 inf8 (own_on hown1 hb1) (Nat.le_refl 2) (Byq.of D) (by omega) H.size
  rw [hW] at hrun2
  obtain ⟨qv, cv, rfl, -, -, -⟩ := own_byq hown1
  replace H := H.trans hb2
  clear hW hb1 hb2 C D hrun1
  go_wp2_with (at_builtin; refine Lib.wpList_append_run _ rfl _ _ _ _ rfl _ _ rfl rfl _ _ hrun2 ?_)
  go_returns
  exact ⟨_, rfl, by rw [hF.out]; exact hown2, H⟩
/-- What is checked: the two bytes behind it tell it. -/
theorem ok_two (F : Nat → B8) (n : Nat) (h2 : 2 ≤ n) : okF F n ↔ n8 (F (n - 2)) * 256 + n8 (F (n - 2 + 1)) = n16 (crcO F (n - 2)) := by
  obtain ⟨m, rfl⟩ : ∃ m, n = m + 2 := ⟨n - 2, by omega⟩
  rw [Nat.add_sub_cancel]
  have e1 : putF F m m = ((crcO F m) >>> 8).setWidth 8 := by simp [putF, cat, twoF]
  have e2 : putF F m (m + 1) = (crcO F m).setWidth 8 := by
    simp [putF, cat, twoF]
    omega
  have hh := two_bytes (crcO F m)
  constructor
  · intro h
    have h1 := crcN_two _ F (putF F m) (m + 2) m (by omega) (fun i h1 h2 h3 => by simp [putF, cat]; omega) (show crcO F (m + 2) = crcO (putF F m) (m + 2) by rw [h.2, put_zero])
    rw [h1.1, h1.2, e1, e2]
    exact hh
  · intro h
    refine ⟨by omega, ?_⟩
    rw [← hh] at h
    have a0 := n8_lt (F m)
    have a1 := n8_lt (F (m + 1))
    have a2 := n8_lt (((crcO F m) >>> 8).setWidth 8)
    have a3 := n8_lt ((crcO F m).setWidth 8)
    have b1 : n8 (F m) = n8 (((crcO F m) >>> 8).setWidth 8) := by omega
    have b2 : n8 (F (m + 1)) = n8 ((crcO F m).setWidth 8) := by omega
    rw [← put_zero F m]
    refine crcN_cong _ _ _ _ fun i hi => ?_
    by_cases h1 : i = m
    · subst h1; rw [e1]; exact n8_eq.1 b1
    · by_cases h3 : i = m + 1
      · subst h3; rw [e2]; exact n8_eq.1 b2
      · simp [putF, cat]; omega
set_option maxRecDepth 100000 in
set_option maxHeartbeats 2000000 in
theorem rtake_ok (q : Option Addr) (n c : Nat) (F : Nat → B8) (hc : n ≤ c) (hm : c ≤ maxLen) (h47 : n ≤ 1000000) (w : World) (hq : Byq w q n F) (h : okF F n) :
    Calls Try.prog 32 #[.slice q n c] w fun r w' => r = .returned (.tuple #[.slice q (n - 2) c, .int .i64 0]) ∧ Below w.heap.size w w' := by
  obtain ⟨k, rfl⟩ : ∃ k, n = k + 2 := ⟨n - 2, by have := h.1; omega⟩
  have h5 := (ok_two F (k + 2) h.1).1 h
  rw [Nat.add_sub_cancel] at h5 ⊢
  obtain ⟨g, o, rfl, B⟩ := hq (by omega)
  have hR : ∀ d os, Calls Try.prog 55 #[.slice (some ⟨g, o, none⟩) k c] (Go.Sort.grow (redrawn w d) os) fun r w' => r = .returned (.int .i64 (n16 (crcO F k))) ∧ (Go.Sort.grow (redrawn w d) os) = w' := fun d os => rof_c _ k c F (by omega) hm _ (Byq.of ((B.re d os).le (by omega)))
  have c0 : ∀ d os, (Go.Sort.grow (redrawn w d) os).cell? ⟨g, o + k, none⟩ = some (.int .u8 (n8 (F k))) := fun d os => (B.re d os) _ (by omega)
  have c1 : ∀ d os, (Go.Sort.grow (redrawn w d) os).cell? ⟨g, o + (k + 1), none⟩ = some (.int .u8 (n8 (F (k + 1)))) := fun d os => (B.re d os) _ (by omega)
  obtain ⟨x0, x1⟩ := n8_lt (F k)
  obtain ⟨y0, y1⟩ := n8_lt (F (k + 1))
  clear h
  replace h5 : Hid (n8 (F k) * 256 + n8 (F (k + 1)) = n16 (crcO F k)) := h5
  generalize n8 (F k) = x at *
  generalize n8 (F (k + 1)) = y at *
  generalize n16 (crcO F k) = z at *
  have i0 : (0 : Int) ≤ k := by omega
  have i1 : (k : Int) ≤ 1000000 := by omega
  go_enter Try.func32, Try.ntmps32
  have i2 : (k : Int) < (k : Int) + 2 := by omega
  have i3 : (k : Int) + 1 < (k : Int) + 2 := by omega
  go_upto_region 4 with (fail)
  refine wp_region_quiet_below (by kernel_rfl) (by kernel_rfl) ?_
  repeat (go_big_quiet_step (exact Calls.regrown_of (calls_bel (hR _ _))))
  refine wpQuiet_nil ?_
  intro w' hw'
  obtain ⟨rg, rfl⟩ := hw'
  have hne : (x * 256 + y != z) = false := by rw [h5.out]; simp
  go_wp2_with fail
  go_returns
  exact ⟨rfl, below_regrown _ _ _⟩
set_option maxRecDepth 100000 in
set_option maxHeartbeats 2000000 in
theorem rtake_sum (q : Option Addr) (n c : Nat) (F : Nat → B8) (hc : n ≤ c) (hm : c ≤ maxLen) (h47 : n ≤ 1000000) (w : World) (hq : Byq w q n F) (h : ¬ okF F n) (h2 : 2 ≤ n) :
    Calls Try.prog 32 #[.slice q n c] w fun r w' => r = .returned (.tuple #[.slice none 0 0, .int .i64 4]) ∧ Below w.heap.size w w' := by
  obtain ⟨k, rfl⟩ : ∃ k, n = k + 2 := ⟨n - 2, by omega⟩
  have h5 : ¬ (n8 (F k) * 256 + n8 (F (k + 1)) = n16 (crcO F k)) := fun h3 => h ((ok_two F (k + 2) h2).2 (by rw [Nat.add_sub_cancel]; exact h3))
  obtain ⟨g, o, rfl, B⟩ := hq (by omega)
  have hR : ∀ d os, Calls Try.prog 55 #[.slice (some ⟨g, o, none⟩) k c] (Go.Sort.grow (redrawn w d) os) fun r w' => r = .returned (.int .i64 (n16 (crcO F k))) ∧ (Go.Sort.grow (redrawn w d) os) = w' := fun d os => rof_c _ k c F (by omega) hm _ (Byq.of ((B.re d os).le (by omega)))
  have c0 : ∀ d os, (Go.Sort.grow (redrawn w d) os).cell? ⟨g, o + k, none⟩ = some (.int .u8 (n8 (F k))) := fun d os => (B.re d os) _ (by omega)
  have c1 : ∀ d os, (Go.Sort.grow (redrawn w d) os).cell? ⟨g, o + (k + 1), none⟩ = some (.int .u8 (n8 (F (k + 1)))) := fun d os => (B.re d os) _ (by omega)
  obtain ⟨x0, x1⟩ := n8_lt (F k)
  obtain ⟨y0, y1⟩ := n8_lt (F (k + 1))
  clear h
  replace h5 : Hid (¬ (n8 (F k) * 256 + n8 (F (k + 1)) = n16 (crcO F k))) := h5
  generalize n8 (F k) = x at *
  generalize n8 (F (k + 1)) = y at *
  generalize n16 (crcO F k) = z at *
  have i0 : (0 : Int) ≤ k := by omega
  have i1 : (k : Int) ≤ 1000000 := by omega
  go_enter Try.func32, Try.ntmps32
  have i2 : (k : Int) < (k : Int) + 2 := by omega
  have i3 : (k : Int) + 1 < (k : Int) + 2 := by omega
  go_upto_region 4 with (fail)
  refine wp_region_quiet_below (by kernel_rfl) (by kernel_rfl) ?_
  repeat (go_big_quiet_step (exact Calls.regrown_of (calls_bel (hR _ _))))
  refine wpQuiet_nil ?_
  intro w' hw'
  obtain ⟨rg, rfl⟩ := hw'
  have hne : (x * 256 + y != z) = true := by have := h5.out; simpa using this
  go_wp2_with fail
  go_returns
  exact ⟨rfl, below_regrown _ _ _⟩
theorem rtake_no (q : Option Addr) (n c : Nat) (F : Nat → B8) (hc : n ≤ c) (hm : c ≤ maxLen) (h47 : n ≤ 1000000) (w : World) (hq : Byq w q n F) (h : ¬ okF F n) (e : Int) (he : e = if n < 2 then 3 else 4) :
    Calls Try.prog 32 #[.slice q n c] w fun r w' => r = .returned (.tuple #[.slice none 0 0, .int .i64 e]) ∧ Below w.heap.size w w' := by
  subst he
  by_cases h2 : n < 2
  · have h2' : (n : Int) < 2 := by omega
    have h3 : ((n : Int) - 2) < 0 := by omega
    rw [if_pos h2]
    clear h h47 hc hm
    go_enter Try.func32, Try.ntmps32
    go_wp2_with fail
    go_returns
    exact ⟨rfl, Below.refl _ _⟩
  · rw [if_neg h2]
    exact rtake_sum q n c F hc hm h47 w hq h (by omega)
/-- A byte that is turned is found. -/
theorem one_ok (S : Nat → B8) (n k : Nat) (x : B8) (hk : k < n) (hS : okF S n) : okF (updB S k x) n ↔ x = S k := by
  have h2 := hS.1
  constructor
  · rintro ⟨_, h⟩
    by_cases h1 : k + 1 < n
    · have h3 := crcN_two _ (updB S k x) S n k h1 (fun i _ h1 h2 => by simp [updB, h1]) (h.trans hS.2.symm)
      simpa [updB] using h3.1
    · obtain ⟨j, rfl⟩ : ∃ j, k = j + 1 := ⟨k - 1, by omega⟩
      have h3 := crcN_two _ (updB S (j + 1) x) S n j (by omega) (fun i _ h1 h2 => by simp [updB, h2]) (h.trans hS.2.symm)
      simpa [updB] using h3.2
  · rintro rfl
    refine ⟨h2, ?_⟩
    rw [← hS.2]
    refine crcN_cong _ _ _ n fun i _ => ?_
    unfold updB
    split
    · subst_vars; rfl
    · rfl
end Go.Proofs.Ytkopenemoddbbaa
