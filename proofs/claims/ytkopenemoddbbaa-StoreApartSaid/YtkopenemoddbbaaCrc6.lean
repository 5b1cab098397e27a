/- Checked bytes: the walks. -/
import Derived.Test.YtkopenemoddbbaaCrc4
import Derived.Test.YtkopenemoddbbaaCrc5
import Derived.Laws.BytesArg
namespace Go.Proofs.Ytkopenemoddbbaa
open Go.RowKit

/-- n bytes as a text. -/
def strF (F : Nat → B8) (n : Nat) : ByteArray := strOfNums ((List.range n).map fun i => n8 (F i))
theorem strF_cong {F G : Nat → B8} {n : Nat} (h : ∀ i, i < n → F i = G i) : strF F n = strF G n := by
  unfold strF
  congr 1
  apply List.map_congr_left
  intro i hi
  rw [h i (by simpa using hi)]
theorem conv_c (w : World) (q : Option Addr) (n c : Nat) (F : Nat → B8) (hq : Byq w q n F) :
    (convert 22 9 (.slice q n c)).run Try.prog w = .ok (.string (strF F n)) w := by
  by_cases hn : 0 < n
  · obtain ⟨g, o, rfl, B⟩ := hq hn
    exact run_convert_bytes_arg w 22 5 Try.underlying22 Try.underlying5 g o n c _ (by simp) (fun i hi => by rw [B i hi]; simp [hi]) 9 Try.underlying9
  · obtain rfl : n = 0 := by omega
    cases q with
    | none => rw [run_convert_bytes_nil w 22 5 Try.underlying22 Try.underlying5 0 c 9 Try.underlying9]; rfl
    | some a =>
      rw [run_convert_bytes_string w 22 9 5 _ 0 c Try.underlying22 Try.underlying5 Try.underlying9, run_bytesToString w _ 0 c [] (by simpa using run_loadCells_list (P := Try.prog) w a [] (fun j v hj => by cases hj))]
      rfl
theorem same_t (q1 : Option Addr) (n c1 : Nat) (F : Nat → B8) (q2 : Option Addr) (c2 : Nat) (G : Nat → B8) (h : ∀ i, i < n → F i = G i) (w : World) (b1 : Byq w q1 n F) (b2 : Byq w q2 n G) :
    Calls Try.prog 12 #[.slice q1 n c1, .slice q2 n c2] w fun r w' => r = .returned (.bool true) ∧ w = w' := by
  have h1 := conv_c w q1 n c1 F b1
  have h2 := conv_c w q2 n c2 G b2
  rw [← strF_cong h] at h2
  generalize strF F n = s at *
  go_enter Try.func12, Try.ntmps12
  go_wp2_with fail
  go_returns
  exact ⟨ret_b (by first | rfl | simp), rfl⟩
/-- The two bytes of a check; checked bytes. -/
def twoF (c : B16) (i : Nat) : B8 := if i = 0 then (c >>> 8).setWidth 8 else c.setWidth 8
def putF (F : Nat → B8) (n : Nat) : Nat → B8 := cat F n (twoF (crcO F n))
set_option maxRecDepth 100000 in
set_option maxHeartbeats 2000000 in
theorem ckput_c (q : Option Addr) (n c : Nat) (F : Nat → B8) (hc : n ≤ c) (hm : c ≤ maxLen) (h47 : n ≤ 1000000) (w : World) (hq : Byq w q n F) :
    Calls Try.prog 26 #[.slice q n c] w fun r w' => ∃ v, r = .returned v ∧ w'.ownsRow w.heap.size 5 1 v (n + 2) (bl (putF F n) (n + 2)) ∧ Below w.heap.size w w' := by
  have hF : putF F n = cat F n (twoF (crcO F n)) := rfl
  rw [hF]
  clear hF
  go_enter Try.func26, Try.ntmps26
  go_wp2_with fail
  refine (of_c q n c F hc hm _ hq).mono ?_; rintro e w1 ⟨rfl, H⟩
  replace hq := hq.on H
  generalize hd : crcO F n = d at *
  replace hd : Hid (d = crcO F n) := hd.symm
  go_wp2_with fail
  refine (ckbytes_c d _).mono ?_; rintro e w1 ⟨rfl, hb⟩
  replace hq := hq.on hb
  replace H := after H hb
  clear hb
  go_upto_region 2 with (fail)
  obtain ⟨W2, hW⟩ : ∃ W2, W2 = w1.alloc (.cells #[.int .u8 (n8 ((d >>> 8).setWidth 8)), .int .u8 (n8 (d.setWidth 8))] 98) := ⟨_, rfl⟩
  rw [← hW]
  have C := Blk.fresh hW
  have hb1 : Below w1.heap.size w1 W2 := by rw [hW]; exact (Below.refl _ _).alloc (Nat.le_refl _) _
  replace hq := hq.on hb1
  replace H := after H hb1
  clear hW hb1
  generalize w1.heap.size = nt at *
  go_wp2_with fail
  obtain ⟨W3, hW⟩ : ∃ W3, W3 = W2.alloc (.cells #[.slice q n c, .slice (some ⟨nt, 0, none⟩) 2 2] 22) := ⟨_, rfl⟩
  rw [← hW]
  have L := Blk.fresh hW
  have hb1 : Below W2.heap.size W2 W3 := by rw [hW]; exact (Below.refl _ _).alloc (Nat.le_refl _) _
  replace hq := hq.on hb1
  replace C := C.on hb1
  replace H := after H hb1
  clear hW hb1
  generalize W2.heap.size = nl at *
  have D : Byt W3 nt 0 2 (twoF d) := fun i hi => by
    rw [Nat.zero_add, C.cell]
    match i, hi with
    | 0, _ => rfl
    | 1, _ => rfl
  refine (concat2_c q n c F hc (some ⟨nt, 0, none⟩) 2 2 (twoF d) (Nat.le_refl _) (by omega) (by omega) nl _ L hq (Byq.of D)).mono ?_
  rintro e w4 ⟨v, rfl, hown, hb⟩
  replace hown := own_low hown H.size
  replace H := after H hb
  go_wp2_with fail
  go_returns
  exact ⟨_, rfl, by rw [← hd.out]; exact hown, H⟩
theorem good_c (q : Option Addr) (n c : Nat) (F : Nat → B8) (hc : n ≤ c) (hm : c ≤ maxLen) (w : World) (hq : Byq w q n F) (b : Bool) (hb : (decide (2 ≤ n) && (crcO F n == 0#16)) = b) :
    Calls Try.prog 56 #[.slice q n c] w fun r w' => r = .returned (.bool b) ∧ Below w.heap.size w w' := by
  by_cases h2 : 2 ≤ n
  · have h2' : (2 : Int) ≤ n := by omega
    have e : (n16 (crcO F n) == 0) = b := by
      rw [← hb, Bool.eq_iff_iff]
      simp only [beq_iff_eq, Bool.and_eq_true, decide_eq_true_eq]
      rw [show (0 : Int) = n16 0#16 by decide, n16_eq]
      exact ⟨fun h => ⟨h2, h⟩, fun h => h.2⟩
    go_enter Try.func56, Try.ntmps56
    go_wp2_with fail
    refine (of_c q n c F hc hm _ hq).mono ?_; rintro e w1 ⟨rfl, hb⟩
    generalize n16 (crcO F n) = z at *
    go_wp2_with fail
    go_returns
    exact ⟨rfl, hb⟩
  · have h2' : ¬ (2 : Int) ≤ n := by omega
    obtain rfl : b = false := by rw [← hb]; simp; omega
    go_enter Try.func56, Try.ntmps56
    go_wp2_with fail
    go_returns
    exact ⟨rfl, Below.refl _ _⟩
/-- Bytes are checked. -/
def okF (F : Nat → B8) (n : Nat) : Prop := 2 ≤ n ∧ crcO F n = 0#16
theorem good_t (q : Option Addr) (n c : Nat) (F : Nat → B8) (hc : n ≤ c) (hm : c ≤ maxLen) (w : World) (hq : Byq w q n F) (h : okF F n) :
    Calls Try.prog 56 #[.slice q n c] w fun r w' => r = .returned (.bool true) ∧ Below w.heap.size w w' :=
  good_c q n c F hc hm w hq true (by simp [h.1, h.2])
theorem good_f (q : Option Addr) (n c : Nat) (F : Nat → B8) (hc : n ≤ c) (hm : c ≤ maxLen) (w : World) (hq : Byq w q n F) (h : ¬ okF F n) :
    Calls Try.prog 56 #[.slice q n c] w fun r w' => r = .returned (.bool false) ∧ Below w.heap.size w w' :=
  good_c q n c F hc hm w hq false (by
    unfold okF at h
    rw [Bool.eq_false_iff]
    simpa using h)
/-- Take: what is checked, or why it is not. -/
theorem take_ok (q : Option Addr) (n c : Nat) (F : Nat → B8) (hc : n ≤ c) (hm : c ≤ maxLen) (h47 : n ≤ 1000000) (w : World) (hq : Byq w q n F) (h : okF F n) :
    Calls Try.prog 30 #[.slice q n c] w fun r w' => ∃ v, r = .returned (.tuple #[v, .int .i64 0]) ∧ w'.ownsRow w.heap.size 5 1 v (n - 2) (bl F (n - 2)) ∧ Below w.heap.size w w' := by
  have h2 : 2 ≤ n := h.1
  have h2' : ¬ (n : Int) < 2 := by omega
  have h3 : ((n : Int) - 2) = ((n - 2 : Nat) : Int) := by omega
  have h4 : n - 2 ≤ c := by omega
  have h5 : (n : Int) ≤ 1000000 := by omega
  have hG := fun w hq => good_t q n c F hc hm w hq h
  have hC := fun w hq => clone_c q (n - 2) c F h4 (by omega) w hq
  clear h
  go_enter Try.func30, Try.ntmps30
  go_wp2_with fail
  refine (hG _ hq).mono ?_; rintro e w1 ⟨rfl, H⟩
  replace hq := (hq.on H).le (Nat.sub_le n 2)
  go_wp2_with fail
  refine (hC _ hq).mono ?_
  rintro e w2 ⟨v, rfl, hown, hb⟩
  replace hown := own_low hown H.size
  replace H := after H hb
  go_wp2_with fail
  go_returns
  exact ⟨v, rfl, hown, H⟩
theorem take_no (q : Option Addr) (n c : Nat) (F : Nat → B8) (hc : n ≤ c) (hm : c ≤ maxLen) (w : World) (hq : Byq w q n F) (h : ¬ okF F n) (e : Int) (he : e = if n < 2 then 3 else 4) :
    Calls Try.prog 30 #[.slice q n c] w fun r w' => r = .returned (.tuple #[.slice none 0 0, .int .i64 e]) ∧ Below w.heap.size w w' := by
  subst he
  by_cases h2 : n < 2
  · have h2' : (n : Int) < 2 := by omega
    rw [if_pos h2]
    go_enter Try.func30, Try.ntmps30
    go_wp2_with fail
    go_returns
    exact ⟨rfl, Below.refl _ _⟩
  · have h2' : ¬ (n : Int) < 2 := by omega
    rw [if_neg h2]
    have hG := fun w hq => good_f q n c F hc hm w hq h
    clear h
    go_enter Try.func30, Try.ntmps30
    go_wp2_with fail
    refine (hG _ hq).mono ?_; rintro e w1 ⟨rfl, H⟩
    go_wp2_with fail
    go_returns
    exact ⟨rfl, H⟩
theorem put_zero (F : Nat → B8) (n : Nat) : crcO (putF F n) (n + 2) = 0#16 := by
  show crcUp (crcUp (crcN _ (putF F n) n) (putF F n n)) (putF F n (n + 1)) = _
  rw [crcN_cong _ (putF F n) F n (fun i hi => by simp [putF, cat, hi])]
  have e1 : putF F n n = ((crcO F n) >>> 8).setWidth 8 := by simp [putF, cat, twoF]
  have e2 : putF F n (n + 1) = (crcO F n).setWidth 8 := by
    simp [putF, cat, twoF]
    omega
  rw [e1, e2]
  exact up_up_own (crcO F n)
theorem put_ok (F : Nat → B8) (n : Nat) : okF (putF F n) (n + 2) := ⟨by omega, put_zero F n⟩
end Go.Proofs.Ytkopenemoddbbaa
