/- CrcBursts holds: for any bytes, any place, any two bytes. -/
import Derived.Test.YtpmkeocknlhhkaaCrc6
import Derived.Test.YtpmkeocknlhhkaaLast
import Derived.OpenShut
namespace Go.Proofs.Ytpmkeocknlhhkaa
open Go.ChangeShapes Go.WideShapes Go.ChangeAt Go.RowKit

section
variable {H : Type} {enc : TypeId × Value → H} {P : Program}
theorem okWide_array {w : World} {r : Reach} {b0 n : Nat} {t e : TypeId} {v : Value} (ht : P.underlying t = some (.array n e)) (h : Value.okWide P w r b0 t v) : ∃ cs, v = .agg cs ∧ cs.size = P.cellsOf t := by
  simp only [Value.okWide, ht] at h
  obtain ⟨cs, h1, h2, _⟩ := h
  exact ⟨cs, h1, h2⟩
theorem open_arr2 {w : World} {r : Reach} {b0 base : Nat} {spare : Nat → Bool} {held : Bool} {t e : TypeId} {v : Value} {d : DataW H} {p : List MemPlace} (ht : P.underlying t = some (.array 2 e)) (he : P.underlying e = some (.int .u8)) (hC : P.cellsOf t = 2) (hE : P.cellsOf e = 1)
    (hv : Value.okWide P w r b0 t v) (h : DataW.Trod enc P w base spare held t v d p) : ∃ a b : B8, v = .agg #[.int .u8 (n8 a), .int .u8 (n8 b)] := by
  obtain ⟨cs, rfl, hsz⟩ := okWide_array ht hv
  obtain ⟨fuel, h⟩ := h
  obtain ⟨l⟩ := cs
  have hl : l.length = 2 := hsz.trans hC
  obtain ⟨xs, m, _, _, _, hxl, hg⟩ := DataW.trod_array ht h
  have hval : (Value.agg ⟨l⟩).cells.toList = l := rfl
  rw [hval, hE] at hg
  match l, hl with
  | [v0, v1], _ =>
    match xs, hxl with
    | [y0, y1], _ =>
      have g0 := hg 0 (by omega)
      have g1 := hg 1 (by omega)
      obtain ⟨a, ha, _, wa⟩ := DataW.trod_int (x := y0) he g0
      obtain ⟨b, hb, _, wb⟩ := DataW.trod_int (x := y1) he g1
      simp at ha hb
      subst ha hb
      exact ⟨BitVec.ofInt 8 a, BitVec.ofInt 8 b, by rw [← n8_of wa, ← n8_of wb]⟩
end
theorem xor8 (a b : B8) : bits .xor .u8 (n8 a) (n8 b) = n8 (a ^^^ b) := by
  unfold n8
  rw [u8_xor_nat _ _ (by have := a.isLt; omega) (by have := b.isLt; omega), BitVec.toNat_xor]
theorem n8_ne (a : B8) : (n8 a != 0) = !(a == 0#8) := by
  rw [bne, show (n8 a == 0) = (a == 0#8) from ?_]
  rw [Bool.eq_iff_iff]
  simp only [beq_iff_eq]
  rw [show (0 : Int) = n8 0#8 by decide, n8_eq]
theorem xor_self0 {a b : B8} : a ^^^ b = a ↔ b = 0#8 := by
  constructor
  · intro h
    have := congrArg (fun v => a ^^^ v) h
    simpa [← BitVec.xor_assoc] using this
  · rintro rfl; simp
/-- A burst over two bytes, or over the last one. -/
def bur2 (S : Nat → B8) (k : Nat) (a b : B8) : Nat → B8 := upd (upd S k (S k ^^^ a)) (k + 1) (S (k + 1) ^^^ b)
def bur1 (S : Nat → B8) (k : Nat) (a : B8) : Nat → B8 := upd S k (S k ^^^ a)
theorem bur2_ok (S : Nat → B8) (n k : Nat) (a b : B8) (hk : k + 1 < n) (hS : okF S n) : okF (bur2 S k a b) n ↔ a = 0#8 ∧ b = 0#8 := by
  unfold okF
  rw [← hS.2]
  constructor
  · rintro ⟨_, h⟩
    have h1 := crcN_two _ (bur2 S k a b) S n k hk (fun i _ h1 h2 => by simp [bur2, upd, h1, h2]) h
    simp [bur2, upd] at h1
    exact ⟨xor_self0.1 h1.1, xor_self0.1 h1.2⟩
  · rintro ⟨rfl, rfl⟩
    refine ⟨hS.1, crcN_cong _ _ _ n fun i _ => ?_⟩
    unfold bur2 upd
    split
    · subst_vars; simp
    · split
      · subst_vars; simp
      · rfl
theorem bur1_ok (S : Nat → B8) (n k : Nat) (a : B8) (hk : k + 1 = n) (hS : okF S n) : okF (bur1 S k a) n ↔ a = 0#8 := by
  unfold okF
  rw [← hS.2]
  have h2 := hS.1
  obtain ⟨j, rfl⟩ : ∃ j, k = j + 1 := ⟨k - 1, by omega⟩
  constructor
  · rintro ⟨_, h⟩
    have h1 := crcN_two _ (bur1 S (j + 1) a) S n j (by omega) (fun i _ h1 h2 => by simp [bur1, upd, h2]) h
    simp [bur1, upd] at h1
    exact xor_self0.1 h1
  · rintro rfl
    refine ⟨hS.1, crcN_cong _ _ _ n fun i _ => ?_⟩
    unfold bur1 upd
    split
    · subst_vars; simp
    · rfl
set_option maxHeartbeats 8000000 in
theorem crcBursts_w (q : Option Addr) (n c : Nat) (F : Nat → B8) (hn : n ≤ c) (hm : c ≤ maxLen) (at_ : Int) (hat : In64 at_) (a b : B8) (w : World) (hb : Byq w q n F) :
    Calls Try.prog 6 #[.slice q n c, .int .i64 at_, .agg #[.int .u8 (n8 a), .int .u8 (n8 b)]] w fun r w' => r = .returned (.bool true) ∧ Below w.heap.size w w' := by
  obtain ⟨W0, hW⟩ : ∃ W0, W0 = w.alloc (.cells #[.int .u8 (n8 a), .int .u8 (n8 b)] 31) := ⟨_, rfl⟩
  have X : Blk W0 w.heap.size 31 #[.int .u8 (n8 a), .int .u8 (n8 b)] := by rw [hW]; exact Blk.new' rfl
  have H : Below w.heap.size w W0 := by rw [hW]; exact (Below.refl _ _).alloc (Nat.le_refl _) _
  replace hb := (hb.on H).le (Nat.min_le_left n 200)
  have l1 : min n 200 ≤ c := Nat.le_trans (Nat.min_le_left _ _) hn
  have l2 : min n 200 ≤ 200 := Nat.min_le_right _ _
  go_enter Try.func6, Try.ntmps6
  go_upto_region 1 with (fail)
  rw [← hW]
  clear hW
  generalize hv : w.heap.size = nx at X ⊢
  go_wp2_with fail
  refine (few_c q n c 200 hn _).mono ?_
  rintro e w1 ⟨rfl, rfl⟩
  generalize min n 200 = m at *
  clear hn
  go_wp2_with fail
  refine (put_c q m c F l1 hm (by omega) _ hb).mono ?_
  rintro e w1 ⟨v, rfl, hown, h1⟩
  have hlt := X.lt
  replace X := X.on h1
  replace H := after H h1
  clear h1
  obtain ⟨g, cs, cur, rfl, hbg, C, hsc, hsm, hsz, D⟩ := own_form hown (by omega)
  have hS := put_ok F m
  generalize putF F m = S at *
  clear hown hb
  obtain ⟨k, hk, hkN⟩ : ∃ k : Nat, arI at_ ((m : Int) + 2) = k ∧ k < m + 2 := by
    have h1 := arI_lo at_ (m := (m : Int) + 2) (by omega)
    have h3 := arI_hi at_ (m := (m : Int) + 2) (by omega)
    exact ⟨(arI at_ ((m : Int) + 2)).toNat, by omega, by omega⟩
  go_wp2_with fail
  refine (around_c at_ ((m : Int) + 2) hat.1 hat.2 (by omega) _).mono ?_
  rintro e w2 ⟨rfl, rfl⟩
  rw [hk]
  clear hk
  go_upto_region 8 with (fail)
  have hk0 : (0 : Int) ≤ k := by omega
  have hkz : (k : Int) < (m : Int) + 2 := by omega
  have hN4 : (m : Int) ≤ 200 := by omega
  have hea := n8_ne a
  have heb := n8_ne b
  replace hea : Hid ((n8 a != 0) = !(a == 0#8)) := hea
  replace heb : Hid ((n8 b != 0) = !(b == 0#8)) := heb
  by_cases hk1 : k + 1 < m + 2
  · have hk2 : (k : Int) + 1 < (m : Int) + 2 := by omega
    have hok : ∀ a b, okF (upd (upd S k (S k ^^^ a)) (k + 1) ((upd S k (S k ^^^ a)) (k + 1) ^^^ b)) (m + 2) ↔ a = 0#8 ∧ b = 0#8 := fun a b => by
      rw [show (upd S k (S k ^^^ a)) (k + 1) = S (k + 1) by simp [upd]]
      exact bur2_ok S (m + 2) k a b hk1 hS
    cases e1 : (n8 a != 0) with
    | true =>
      cases e2 : (n8 b != 0) with
      | true =>
        have ea : Hid ((!(a == 0#8)) = true) := by rw [← hea.out]; exact e1
        have eb : Hid ((!(b == 0#8)) = true) := by rw [← heb.out]; exact e2
        refine wp_loop_rounds 3 ?_
        rw [rounds_succ]
        have c0 : ∀ d os, (Go.Sort.grow (redrawn w1 d) os).cell? ⟨g, k, none⟩ = some (.int .u8 (n8 (S k))) := fun d os => by have := (D.re d os) k (by omega); rw [Nat.zero_add] at this; exact this
        have x0 : ∀ d os, (Go.Sort.grow (redrawn w1 d) os).cell? ⟨nx, 0, none⟩ = some (.int .u8 (n8 a)) := fun d os => (X.re d os).cell 0
        have hx8 := xor8 (S k) a
        go_upto_region 10 with (fail)
        refine wp_region_last_below 15 (by kernel_rfl) rfl (by kernel_rfl) ?_
        simp only [List.take_succ_cons, List.take_zero, List.drop_succ_cons, List.drop_zero]
        repeat (go_big_quiet_step (fail))
        refine wpQuiet_nil ?_
        intro w' hw'
        obtain ⟨rg, rfl⟩ := hw'
        clear c0 x0
        obtain ⟨W2, hW⟩ : ∃ W2, W2 = Go.Sort.grow (redrawn w1 rg.d) rg.os := ⟨_, rfl⟩
        rw [← hW]
        replace C := C.reW hW
        replace X := X.reW hW
        replace D : Byt W2 g 0 (m + 2) (S) := by rw [hW]; exact D.re _ _
        replace H := re_below H hW
        clear hW
        have d0 := D k (by omega)
        have f0 := C.frz k
        rw [Nat.zero_add] at d0
        go_upto_region 11 with (fail)
        obtain ⟨W2s, hW⟩ : ∃ W2s, W2s = W2.setCell ⟨g, k, none⟩ (.int .u8 (n8 (S k ^^^ a))) := ⟨_, rfl⟩
        rw [← hW]
        replace D : Byt W2s g 0 (m + 2) (upd S k (S k ^^^ a)) := by rw [hW]; exact D.put C hsz (by omega)
        replace X := X.far (p := ⟨g, k, none⟩) (by simp; omega) (.int .u8 (n8 (S k ^^^ a)))
        replace H := H.setCell (p := ⟨g, k, none⟩) (by simp; omega) (.int .u8 (n8 (S k ^^^ a)))
        replace C : Blk W2s g 5 (cur.setIfInBounds k (.int .u8 (n8 (S k ^^^ a)))) := by rw [hW]; exact C.set_ k _
        replace hsz : m + 2 ≤ (cur.setIfInBounds k (.int .u8 (n8 (S k ^^^ a)))).size := by simpa using hsz
        generalize cur.setIfInBounds k (.int .u8 (n8 (S k ^^^ a))) = cur at C hsz
        rw [← hW] at X H
        clear hW d0 f0 hx8
        have x1 := X.cell 0
        go_wp2_with fail
        clear x1
        rw [rounds_succ]
        have c0 : ∀ d os, (Go.Sort.grow (redrawn W2s d) os).cell? ⟨g, (k + 1), none⟩ = some (.int .u8 (n8 ((upd S k (S k ^^^ a)) (k + 1)))) := fun d os => by have := (D.re d os) (k + 1) (by omega); rw [Nat.zero_add] at this; exact this
        have x0 : ∀ d os, (Go.Sort.grow (redrawn W2s d) os).cell? ⟨nx, 1, none⟩ = some (.int .u8 (n8 b)) := fun d os => (X.re d os).cell 1
        have hx8 := xor8 ((upd S k (S k ^^^ a)) (k + 1)) b
        go_upto_region 10 with (fail)
        refine wp_region_last_below 15 (by kernel_rfl) rfl (by kernel_rfl) ?_
        simp only [List.take_succ_cons, List.take_zero, List.drop_succ_cons, List.drop_zero]
        repeat (go_big_quiet_step (fail))
        refine wpQuiet_nil ?_
        intro w' hw'
        obtain ⟨rg, rfl⟩ := hw'
        clear c0 x0
        obtain ⟨W3, hW⟩ : ∃ W3, W3 = Go.Sort.grow (redrawn W2s rg.d) rg.os := ⟨_, rfl⟩
        rw [← hW]
        replace C := C.reW hW
        replace X := X.reW hW
        replace D : Byt W3 g 0 (m + 2) (upd S k (S k ^^^ a)) := by rw [hW]; exact D.re _ _
        replace H := re_below H hW
        clear hW
        have d0 := D (k + 1) (by omega)
        have f0 := C.frz (k + 1)
        rw [Nat.zero_add] at d0
        go_upto_region 11 with (fail)
        obtain ⟨W3s, hW⟩ : ∃ W3s, W3s = W3.setCell ⟨g, (k + 1), none⟩ (.int .u8 (n8 ((upd S k (S k ^^^ a)) (k + 1) ^^^ b))) := ⟨_, rfl⟩
        rw [← hW]
        replace D : Byt W3s g 0 (m + 2) (upd (upd S k (S k ^^^ a)) (k + 1) ((upd S k (S k ^^^ a)) (k + 1) ^^^ b)) := by rw [hW]; exact D.put C hsz (by omega)
        replace X := X.far (p := ⟨g, (k + 1), none⟩) (by simp; omega) (.int .u8 (n8 ((upd S k (S k ^^^ a)) (k + 1) ^^^ b)))
        replace H := H.setCell (p := ⟨g, (k + 1), none⟩) (by simp; omega) (.int .u8 (n8 ((upd S k (S k ^^^ a)) (k + 1) ^^^ b)))
        replace C : Blk W3s g 5 (cur.setIfInBounds (k + 1) (.int .u8 (n8 ((upd S k (S k ^^^ a)) (k + 1) ^^^ b)))) := by rw [hW]; exact C.set_ (k + 1) _
        replace hsz : m + 2 ≤ (cur.setIfInBounds (k + 1) (.int .u8 (n8 ((upd S k (S k ^^^ a)) (k + 1) ^^^ b)))).size := by simpa using hsz
        generalize cur.setIfInBounds (k + 1) (.int .u8 (n8 ((upd S k (S k ^^^ a)) (k + 1) ^^^ b))) = cur at C hsz
        rw [← hW] at X H
        clear hW d0 f0 hx8
        have x1 := X.cell 1
        go_wp2_with fail
        replace ea := ea.out
        replace eb := eb.out
        clear x1
        rw [rounds_succ]
        go_wp2_with fail
        refine (take_no (some ⟨g, 0, none⟩) (m + 2) cs (upd (upd S k (S k ^^^ a)) (k + 1) ((upd S k (S k ^^^ a)) (k + 1) ^^^ b)) hsc hsm _ (Byq.of D) (fun h => by have h2 := (hok a b).1 h; simp [h2] at ea eb) 4 (by simp)).mono ?_
        rintro e wT ⟨rfl, hbT⟩
        replace H := after H hbT
        clear hbT
        go_wp2_with fail
        refine (lives7_c _).mono ?_
        rintro e w1 ⟨rfl, hb4⟩
        go_wp2_with fail
        go_returns
        exact ⟨rfl, by (repeat' (first | (with_reducible exact Below.refl _ _) | (with_reducible assumption) | (with_reducible refine Below.alloc ?_ ?_ _) | (with_reducible refine Below.drew ?_) | (with_reducible refine Below.setCell ?_ ?_ _) | (with_reducible refine after ?_ (below_regrown _ _ _)) | (refine after ?_ (by with_reducible assumption)) | go_size))⟩
      | false =>
        have ea : Hid ((!(a == 0#8)) = true) := by rw [← hea.out]; exact e1
        have eb : Hid ((!(b == 0#8)) = false) := by rw [← heb.out]; exact e2
        refine wp_loop_rounds 3 ?_
        rw [rounds_succ]
        have c0 : ∀ d os, (Go.Sort.grow (redrawn w1 d) os).cell? ⟨g, k, none⟩ = some (.int .u8 (n8 (S k))) := fun d os => by have := (D.re d os) k (by omega); rw [Nat.zero_add] at this; exact this
        have x0 : ∀ d os, (Go.Sort.grow (redrawn w1 d) os).cell? ⟨nx, 0, none⟩ = some (.int .u8 (n8 a)) := fun d os => (X.re d os).cell 0
        have hx8 := xor8 (S k) a
        go_upto_region 10 with (fail)
        refine wp_region_last_below 15 (by kernel_rfl) rfl (by kernel_rfl) ?_
        simp only [List.take_succ_cons, List.take_zero, List.drop_succ_cons, List.drop_zero]
        repeat (go_big_quiet_step (fail))
        refine wpQuiet_nil ?_
        intro w' hw'
        obtain ⟨rg, rfl⟩ := hw'
        clear c0 x0
        obtain ⟨W2, hW⟩ : ∃ W2, W2 = Go.Sort.grow (redrawn w1 rg.d) rg.os := ⟨_, rfl⟩
        rw [← hW]
        replace C := C.reW hW
        replace X := X.reW hW
        replace D : Byt W2 g 0 (m + 2) (S) := by rw [hW]; exact D.re _ _
        replace H := re_below H hW
        clear hW
        have d0 := D k (by omega)
        have f0 := C.frz k
        rw [Nat.zero_add] at d0
        go_upto_region 11 with (fail)
        obtain ⟨W2s, hW⟩ : ∃ W2s, W2s = W2.setCell ⟨g, k, none⟩ (.int .u8 (n8 (S k ^^^ a))) := ⟨_, rfl⟩
        rw [← hW]
        replace D : Byt W2s g 0 (m + 2) (upd S k (S k ^^^ a)) := by rw [hW]; exact D.put C hsz (by omega)
        replace X := X.far (p := ⟨g, k, none⟩) (by simp; omega) (.int .u8 (n8 (S k ^^^ a)))
        replace H := H.setCell (p := ⟨g, k, none⟩) (by simp; omega) (.int .u8 (n8 (S k ^^^ a)))
        replace C : Blk W2s g 5 (cur.setIfInBounds k (.int .u8 (n8 (S k ^^^ a)))) := by rw [hW]; exact C.set_ k _
        replace hsz : m + 2 ≤ (cur.setIfInBounds k (.int .u8 (n8 (S k ^^^ a)))).size := by simpa using hsz
        generalize cur.setIfInBounds k (.int .u8 (n8 (S k ^^^ a))) = cur at C hsz
        rw [← hW] at X H
        clear hW d0 f0 hx8
        have x1 := X.cell 0
        go_wp2_with fail
        clear x1
        rw [rounds_succ]
        have c0 : ∀ d os, (Go.Sort.grow (redrawn W2s d) os).cell? ⟨g, (k + 1), none⟩ = some (.int .u8 (n8 ((upd S k (S k ^^^ a)) (k + 1)))) := fun d os => by have := (D.re d os) (k + 1) (by omega); rw [Nat.zero_add] at this; exact this
        have x0 : ∀ d os, (Go.Sort.grow (redrawn W2s d) os).cell? ⟨nx, 1, none⟩ = some (.int .u8 (n8 b)) := fun d os => (X.re d os).cell 1
        have hx8 := xor8 ((upd S k (S k ^^^ a)) (k + 1)) b
        go_upto_region 10 with (fail)
        refine wp_region_last_below 15 (by kernel_rfl) rfl (by kernel_rfl) ?_
        simp only [List.take_succ_cons, List.take_zero, List.drop_succ_cons, List.drop_zero]
        repeat (go_big_quiet_step (fail))
        refine wpQuiet_nil ?_
        intro w' hw'
        obtain ⟨rg, rfl⟩ := hw'
        clear c0 x0
        obtain ⟨W3, hW⟩ : ∃ W3, W3 = Go.Sort.grow (redrawn W2s rg.d) rg.os := ⟨_, rfl⟩
        rw [← hW]
        replace C := C.reW hW
        replace X := X.reW hW
        replace D : Byt W3 g 0 (m + 2) (upd S k (S k ^^^ a)) := by rw [hW]; exact D.re _ _
        replace H := re_below H hW
        clear hW
        have d0 := D (k + 1) (by omega)
        have f0 := C.frz (k + 1)
        rw [Nat.zero_add] at d0
        go_upto_region 11 with (fail)
        obtain ⟨W3s, hW⟩ : ∃ W3s, W3s = W3.setCell ⟨g, (k + 1), none⟩ (.int .u8 (n8 ((upd S k (S k ^^^ a)) (k + 1) ^^^ b))) := ⟨_, rfl⟩
        rw [← hW]
        replace D : Byt W3s g 0 (m + 2) (upd (upd S k (S k ^^^ a)) (k + 1) ((upd S k (S k ^^^ a)) (k + 1) ^^^ b)) := by rw [hW]; exact D.put C hsz (by omega)
        replace X := X.far (p := ⟨g, (k + 1), none⟩) (by simp; omega) (.int .u8 (n8 ((upd S k (S k ^^^ a)) (k + 1) ^^^ b)))
        replace H := H.setCell (p := ⟨g, (k + 1), none⟩) (by simp; omega) (.int .u8 (n8 ((upd S k (S k ^^^ a)) (k + 1) ^^^ b)))
        replace C : Blk W3s g 5 (cur.setIfInBounds (k + 1) (.int .u8 (n8 ((upd S k (S k ^^^ a)) (k + 1) ^^^ b)))) := by rw [hW]; exact C.set_ (k + 1) _
        replace hsz : m + 2 ≤ (cur.setIfInBounds (k + 1) (.int .u8 (n8 ((upd S k (S k ^^^ a)) (k + 1) ^^^ b)))).size := by simpa using hsz
        generalize cur.setIfInBounds (k + 1) (.int .u8 (n8 ((upd S k (S k ^^^ a)) (k + 1) ^^^ b))) = cur at C hsz
        rw [← hW] at X H
        clear hW d0 f0 hx8
        have x1 := X.cell 1
        go_wp2_with fail
        replace ea := ea.out
        replace eb := eb.out
        clear x1
        rw [rounds_succ]
        go_wp2_with fail
        refine (take_no (some ⟨g, 0, none⟩) (m + 2) cs (upd (upd S k (S k ^^^ a)) (k + 1) ((upd S k (S k ^^^ a)) (k + 1) ^^^ b)) hsc hsm _ (Byq.of D) (fun h => by have h2 := (hok a b).1 h; simp [h2] at ea eb) 4 (by simp)).mono ?_
        rintro e wT ⟨rfl, hbT⟩
        replace H := after H hbT
        clear hbT
        go_wp2_with fail
        refine (lives7_c _).mono ?_
        rintro e w1 ⟨rfl, hb4⟩
        go_wp2_with fail
        go_returns
        exact ⟨rfl, by (repeat' (first | (with_reducible exact Below.refl _ _) | (with_reducible assumption) | (with_reducible refine Below.alloc ?_ ?_ _) | (with_reducible refine Below.drew ?_) | (with_reducible refine Below.setCell ?_ ?_ _) | (with_reducible refine after ?_ (below_regrown _ _ _)) | (refine after ?_ (by with_reducible assumption)) | go_size))⟩
    | false =>
      cases e2 : (n8 b != 0) with
      | true =>
        have ea : Hid ((!(a == 0#8)) = false) := by rw [← hea.out]; exact e1
        have eb : Hid ((!(b == 0#8)) = true) := by rw [← heb.out]; exact e2
        refine wp_loop_rounds 3 ?_
        rw [rounds_succ]
        have c0 : ∀ d os, (Go.Sort.grow (redrawn w1 d) os).cell? ⟨g, k, none⟩ = some (.int .u8 (n8 (S k))) := fun d os => by have := (D.re d os) k (by omega); rw [Nat.zero_add] at this; exact this
        have x0 : ∀ d os, (Go.Sort.grow (redrawn w1 d) os).cell? ⟨nx, 0, none⟩ = some (.int .u8 (n8 a)) := fun d os => (X.re d os).cell 0
        have hx8 := xor8 (S k) a
        go_upto_region 10 with (fail)
        refine wp_region_last_below 15 (by kernel_rfl) rfl (by kernel_rfl) ?_
        simp only [List.take_succ_cons, List.take_zero, List.drop_succ_cons, List.drop_zero]
        repeat (go_big_quiet_step (fail))
        refine wpQuiet_nil ?_
        intro w' hw'
        obtain ⟨rg, rfl⟩ := hw'
        clear c0 x0
        obtain ⟨W2, hW⟩ : ∃ W2, W2 = Go.Sort.grow (redrawn w1 rg.d) rg.os := ⟨_, rfl⟩
        rw [← hW]
        replace C := C.reW hW
        replace X := X.reW hW
        replace D : Byt W2 g 0 (m + 2) (S) := by rw [hW]; exact D.re _ _
        replace H := re_below H hW
        clear hW
        have d0 := D k (by omega)
        have f0 := C.frz k
        rw [Nat.zero_add] at d0
        go_upto_region 11 with (fail)
        obtain ⟨W2s, hW⟩ : ∃ W2s, W2s = W2.setCell ⟨g, k, none⟩ (.int .u8 (n8 (S k ^^^ a))) := ⟨_, rfl⟩
        rw [← hW]
        replace D : Byt W2s g 0 (m + 2) (upd S k (S k ^^^ a)) := by rw [hW]; exact D.put C hsz (by omega)
        replace X := X.far (p := ⟨g, k, none⟩) (by simp; omega) (.int .u8 (n8 (S k ^^^ a)))
        replace H := H.setCell (p := ⟨g, k, none⟩) (by simp; omega) (.int .u8 (n8 (S k ^^^ a)))
        replace C : Blk W2s g 5 (cur.setIfInBounds k (.int .u8 (n8 (S k ^^^ a)))) := by rw [hW]; exact C.set_ k _
        replace hsz : m + 2 ≤ (cur.setIfInBounds k (.int .u8 (n8 (S k ^^^ a)))).size := by simpa using hsz
        generalize cur.setIfInBounds k (.int .u8 (n8 (S k ^^^ a))) = cur at C hsz
        rw [← hW] at X H
        clear hW d0 f0 hx8
        have x1 := X.cell 0
        go_wp2_with fail
        clear x1
        rw [rounds_succ]
        have c0 : ∀ d os, (Go.Sort.grow (redrawn W2s d) os).cell? ⟨g, (k + 1), none⟩ = some (.int .u8 (n8 ((upd S k (S k ^^^ a)) (k + 1)))) := fun d os => by have := (D.re d os) (k + 1) (by omega); rw [Nat.zero_add] at this; exact this
        have x0 : ∀ d os, (Go.Sort.grow (redrawn W2s d) os).cell? ⟨nx, 1, none⟩ = some (.int .u8 (n8 b)) := fun d os => (X.re d os).cell 1
        have hx8 := xor8 ((upd S k (S k ^^^ a)) (k + 1)) b
        go_upto_region 10 with (fail)
        refine wp_region_last_below 15 (by kernel_rfl) rfl (by kernel_rfl) ?_
        simp only [List.take_succ_cons, List.take_zero, List.drop_succ_cons, List.drop_zero]
        repeat (go_big_quiet_step (fail))
        refine wpQuiet_nil ?_
        intro w' hw'
        obtain ⟨rg, rfl⟩ := hw'
        clear c0 x0
        obtain ⟨W3, hW⟩ : ∃ W3, W3 = Go.Sort.grow (redrawn W2s rg.d) rg.os := ⟨_, rfl⟩
        rw [← hW]
        replace C := C.reW hW
        replace X := X.reW hW
        replace D : Byt W3 g 0 (m + 2) (upd S k (S k ^^^ a)) := by rw [hW]; exact D.re _ _
        replace H := re_below H hW
        clear hW
        have d0 := D (k + 1) (by omega)
        have f0 := C.frz (k + 1)
        rw [Nat.zero_add] at d0
        go_upto_region 11 with (fail)
        obtain ⟨W3s, hW⟩ : ∃ W3s, W3s = W3.setCell ⟨g, (k + 1), none⟩ (.int .u8 (n8 ((upd S k (S k ^^^ a)) (k + 1) ^^^ b))) := ⟨_, rfl⟩
        rw [← hW]
        replace D : Byt W3s g 0 (m + 2) (upd (upd S k (S k ^^^ a)) (k + 1) ((upd S k (S k ^^^ a)) (k + 1) ^^^ b)) := by rw [hW]; exact D.put C hsz (by omega)
        replace X := X.far (p := ⟨g, (k + 1), none⟩) (by simp; omega) (.int .u8 (n8 ((upd S k (S k ^^^ a)) (k + 1) ^^^ b)))
        replace H := H.setCell (p := ⟨g, (k + 1), none⟩) (by simp; omega) (.int .u8 (n8 ((upd S k (S k ^^^ a)) (k + 1) ^^^ b)))
        replace C : Blk W3s g 5 (cur.setIfInBounds (k + 1) (.int .u8 (n8 ((upd S k (S k ^^^ a)) (k + 1) ^^^ b)))) := by rw [hW]; exact C.set_ (k + 1) _
        replace hsz : m + 2 ≤ (cur.setIfInBounds (k + 1) (.int .u8 (n8 ((upd S k (S k ^^^ a)) (k + 1) ^^^ b)))).size := by simpa using hsz
        generalize cur.setIfInBounds (k + 1) (.int .u8 (n8 ((upd S k (S k ^^^ a)) (k + 1) ^^^ b))) = cur at C hsz
        rw [← hW] at X H
        clear hW d0 f0 hx8
        have x1 := X.cell 1
        go_wp2_with fail
        replace ea := ea.out
        replace eb := eb.out
        clear x1
        rw [rounds_succ]
        go_wp2_with fail
        refine (take_no (some ⟨g, 0, none⟩) (m + 2) cs (upd (upd S k (S k ^^^ a)) (k + 1) ((upd S k (S k ^^^ a)) (k + 1) ^^^ b)) hsc hsm _ (Byq.of D) (fun h => by have h2 := (hok a b).1 h; simp [h2] at ea eb) 4 (by simp)).mono ?_
        rintro e wT ⟨rfl, hbT⟩
        replace H := after H hbT
        clear hbT
        go_wp2_with fail
        refine (lives7_c _).mono ?_
        rintro e w1 ⟨rfl, hb4⟩
        go_wp2_with fail
        go_returns
        exact ⟨rfl, by (repeat' (first | (with_reducible exact Below.refl _ _) | (with_reducible assumption) | (with_reducible refine Below.alloc ?_ ?_ _) | (with_reducible refine Below.drew ?_) | (with_reducible refine Below.setCell ?_ ?_ _) | (with_reducible refine after ?_ (below_regrown _ _ _)) | (refine after ?_ (by with_reducible assumption)) | go_size))⟩
      | false =>
        have ea : Hid ((!(a == 0#8)) = false) := by rw [← hea.out]; exact e1
        have eb : Hid ((!(b == 0#8)) = false) := by rw [← heb.out]; exact e2
        refine wp_loop_rounds 3 ?_
        rw [rounds_succ]
        have c0 : ∀ d os, (Go.Sort.grow (redrawn w1 d) os).cell? ⟨g, k, none⟩ = some (.int .u8 (n8 (S k))) := fun d os => by have := (D.re d os) k (by omega); rw [Nat.zero_add] at this; exact this
        have x0 : ∀ d os, (Go.Sort.grow (redrawn w1 d) os).cell? ⟨nx, 0, none⟩ = some (.int .u8 (n8 a)) := fun d os => (X.re d os).cell 0
        have hx8 := xor8 (S k) a
        go_upto_region 10 with (fail)
        refine wp_region_last_below 15 (by kernel_rfl) rfl (by kernel_rfl) ?_
        simp only [List.take_succ_cons, List.take_zero, List.drop_succ_cons, List.drop_zero]
        repeat (go_big_quiet_step (fail))
        refine wpQuiet_nil ?_
        intro w' hw'
        obtain ⟨rg, rfl⟩ := hw'
        clear c0 x0
        obtain ⟨W2, hW⟩ : ∃ W2, W2 = Go.Sort.grow (redrawn w1 rg.d) rg.os := ⟨_, rfl⟩
        rw [← hW]
        replace C := C.reW hW
        replace X := X.reW hW
        replace D : Byt W2 g 0 (m + 2) (S) := by rw [hW]; exact D.re _ _
        replace H := re_below H hW
        clear hW
        have d0 := D k (by omega)
        have f0 := C.frz k
        rw [Nat.zero_add] at d0
        go_upto_region 11 with (fail)
        obtain ⟨W2s, hW⟩ : ∃ W2s, W2s = W2.setCell ⟨g, k, none⟩ (.int .u8 (n8 (S k ^^^ a))) := ⟨_, rfl⟩
        rw [← hW]
        replace D : Byt W2s g 0 (m + 2) (upd S k (S k ^^^ a)) := by rw [hW]; exact D.put C hsz (by omega)
        replace X := X.far (p := ⟨g, k, none⟩) (by simp; omega) (.int .u8 (n8 (S k ^^^ a)))
        replace H := H.setCell (p := ⟨g, k, none⟩) (by simp; omega) (.int .u8 (n8 (S k ^^^ a)))
        replace C : Blk W2s g 5 (cur.setIfInBounds k (.int .u8 (n8 (S k ^^^ a)))) := by rw [hW]; exact C.set_ k _
        replace hsz : m + 2 ≤ (cur.setIfInBounds k (.int .u8 (n8 (S k ^^^ a)))).size := by simpa using hsz
        generalize cur.setIfInBounds k (.int .u8 (n8 (S k ^^^ a))) = cur at C hsz
        rw [← hW] at X H
        clear hW d0 f0 hx8
        have x1 := X.cell 0
        go_wp2_with fail
        clear x1
        rw [rounds_succ]
        have c0 : ∀ d os, (Go.Sort.grow (redrawn W2s d) os).cell? ⟨g, (k + 1), none⟩ = some (.int .u8 (n8 ((upd S k (S k ^^^ a)) (k + 1)))) := fun d os => by have := (D.re d os) (k + 1) (by omega); rw [Nat.zero_add] at this; exact this
        have x0 : ∀ d os, (Go.Sort.grow (redrawn W2s d) os).cell? ⟨nx, 1, none⟩ = some (.int .u8 (n8 b)) := fun d os => (X.re d os).cell 1
        have hx8 := xor8 ((upd S k (S k ^^^ a)) (k + 1)) b
        go_upto_region 10 with (fail)
        refine wp_region_last_below 15 (by kernel_rfl) rfl (by kernel_rfl) ?_
        simp only [List.take_succ_cons, List.take_zero, List.drop_succ_cons, List.drop_zero]
        repeat (go_big_quiet_step (fail))
        refine wpQuiet_nil ?_
        intro w' hw'
        obtain ⟨rg, rfl⟩ := hw'
        clear c0 x0
        obtain ⟨W3, hW⟩ : ∃ W3, W3 = Go.Sort.grow (redrawn W2s rg.d) rg.os := ⟨_, rfl⟩
        rw [← hW]
        replace C := C.reW hW
        replace X := X.reW hW
        replace D : Byt W3 g 0 (m + 2) (upd S k (S k ^^^ a)) := by rw [hW]; exact D.re _ _
        replace H := re_below H hW
        clear hW
        have d0 := D (k + 1) (by omega)
        have f0 := C.frz (k + 1)
        rw [Nat.zero_add] at d0
        go_upto_region 11 with (fail)
        obtain ⟨W3s, hW⟩ : ∃ W3s, W3s = W3.setCell ⟨g, (k + 1), none⟩ (.int .u8 (n8 ((upd S k (S k ^^^ a)) (k + 1) ^^^ b))) := ⟨_, rfl⟩
        rw [← hW]
        replace D : Byt W3s g 0 (m + 2) (upd (upd S k (S k ^^^ a)) (k + 1) ((upd S k (S k ^^^ a)) (k + 1) ^^^ b)) := by rw [hW]; exact D.put C hsz (by omega)
        replace X := X.far (p := ⟨g, (k + 1), none⟩) (by simp; omega) (.int .u8 (n8 ((upd S k (S k ^^^ a)) (k + 1) ^^^ b)))
        replace H := H.setCell (p := ⟨g, (k + 1), none⟩) (by simp; omega) (.int .u8 (n8 ((upd S k (S k ^^^ a)) (k + 1) ^^^ b)))
        replace C : Blk W3s g 5 (cur.setIfInBounds (k + 1) (.int .u8 (n8 ((upd S k (S k ^^^ a)) (k + 1) ^^^ b)))) := by rw [hW]; exact C.set_ (k + 1) _
        replace hsz : m + 2 ≤ (cur.setIfInBounds (k + 1) (.int .u8 (n8 ((upd S k (S k ^^^ a)) (k + 1) ^^^ b)))).size := by simpa using hsz
        generalize cur.setIfInBounds (k + 1) (.int .u8 (n8 ((upd S k (S k ^^^ a)) (k + 1) ^^^ b))) = cur at C hsz
        rw [← hW] at X H
        clear hW d0 f0 hx8
        have x1 := X.cell 1
        go_wp2_with fail
        replace ea := ea.out
        replace eb := eb.out
        clear x1
        rw [rounds_succ]
        go_wp2_with fail
        refine (take_ok (some ⟨g, 0, none⟩) (m + 2) cs (upd (upd S k (S k ^^^ a)) (k + 1) ((upd S k (S k ^^^ a)) (k + 1) ^^^ b)) hsc hsm (by omega) _ (Byq.of D) ((hok a b).2 ⟨by simpa using ea, by simpa using eb⟩)).mono ?_
        rintro e wT ⟨v, rfl, hown, hbT⟩
        replace H := after H hbT
        clear hbT
        go_wp2_with fail
        refine (lives7_c _).mono ?_
        rintro e w1 ⟨rfl, hb4⟩
        go_wp2_with fail
        go_returns
        exact ⟨rfl, by (repeat' (first | (with_reducible exact Below.refl _ _) | (with_reducible assumption) | (with_reducible refine Below.alloc ?_ ?_ _) | (with_reducible refine Below.drew ?_) | (with_reducible refine Below.setCell ?_ ?_ _) | (with_reducible refine after ?_ (below_regrown _ _ _)) | (refine after ?_ (by with_reducible assumption)) | go_size))⟩
  · have hk2 : ¬ (k : Int) + 1 < (m : Int) + 2 := by omega
    have hok : ∀ a, okF (upd S k (S k ^^^ a)) (m + 2) ↔ a = 0#8 := fun a => bur1_ok S (m + 2) k a (by omega) hS
    cases e1 : (n8 a != 0) with
    | true =>
      have ea : Hid ((!(a == 0#8)) = true) := by rw [← hea.out]; exact e1
      refine wp_loop_rounds 3 ?_
      rw [rounds_succ]
      have c0 : ∀ d os, (Go.Sort.grow (redrawn w1 d) os).cell? ⟨g, k, none⟩ = some (.int .u8 (n8 (S k))) := fun d os => by have := (D.re d os) k (by omega); rw [Nat.zero_add] at this; exact this
      have x0 : ∀ d os, (Go.Sort.grow (redrawn w1 d) os).cell? ⟨nx, 0, none⟩ = some (.int .u8 (n8 a)) := fun d os => (X.re d os).cell 0
      have hx8 := xor8 (S k) a
      go_upto_region 10 with (fail)
      refine wp_region_last_below 15 (by kernel_rfl) rfl (by kernel_rfl) ?_
      simp only [List.take_succ_cons, List.take_zero, List.drop_succ_cons, List.drop_zero]
      repeat (go_big_quiet_step (fail))
      refine wpQuiet_nil ?_
      intro w' hw'
      obtain ⟨rg, rfl⟩ := hw'
      clear c0 x0
      obtain ⟨W2, hW⟩ : ∃ W2, W2 = Go.Sort.grow (redrawn w1 rg.d) rg.os := ⟨_, rfl⟩
      rw [← hW]
      replace C := C.reW hW
      replace X := X.reW hW
      replace D : Byt W2 g 0 (m + 2) (S) := by rw [hW]; exact D.re _ _
      replace H := re_below H hW
      clear hW
      have d0 := D k (by omega)
      have f0 := C.frz k
      rw [Nat.zero_add] at d0
      go_upto_region 11 with (fail)
      obtain ⟨W2s, hW⟩ : ∃ W2s, W2s = W2.setCell ⟨g, k, none⟩ (.int .u8 (n8 (S k ^^^ a))) := ⟨_, rfl⟩
      rw [← hW]
      replace D : Byt W2s g 0 (m + 2) (upd S k (S k ^^^ a)) := by rw [hW]; exact D.put C hsz (by omega)
      replace X := X.far (p := ⟨g, k, none⟩) (by simp; omega) (.int .u8 (n8 (S k ^^^ a)))
      replace H := H.setCell (p := ⟨g, k, none⟩) (by simp; omega) (.int .u8 (n8 (S k ^^^ a)))
      replace C : Blk W2s g 5 (cur.setIfInBounds k (.int .u8 (n8 (S k ^^^ a)))) := by rw [hW]; exact C.set_ k _
      replace hsz : m + 2 ≤ (cur.setIfInBounds k (.int .u8 (n8 (S k ^^^ a)))).size := by simpa using hsz
      generalize cur.setIfInBounds k (.int .u8 (n8 (S k ^^^ a))) = cur at C hsz
      rw [← hW] at X H
      clear hW d0 f0 hx8
      have x1 := X.cell 0
      go_wp2_with fail
      replace ea := ea.out
      clear x1
      rw [rounds_succ]
      go_wp2_with fail
      refine (take_no (some ⟨g, 0, none⟩) (m + 2) cs (upd S k (S k ^^^ a)) hsc hsm _ (Byq.of D) (fun h => by have h2 := (hok a).1 h; simp [h2] at ea) 4 (by simp)).mono ?_
      rintro e wT ⟨rfl, hbT⟩
      replace H := after H hbT
      clear hbT
      go_wp2_with fail
      refine (lives7_c _).mono ?_
      rintro e w1 ⟨rfl, hb4⟩
      go_wp2_with fail
      go_returns
      exact ⟨rfl, by (repeat' (first | (with_reducible exact Below.refl _ _) | (with_reducible assumption) | (with_reducible refine Below.alloc ?_ ?_ _) | (with_reducible refine Below.drew ?_) | (with_reducible refine Below.setCell ?_ ?_ _) | (with_reducible refine after ?_ (below_regrown _ _ _)) | (refine after ?_ (by with_reducible assumption)) | go_size))⟩
    | false =>
      have ea : Hid ((!(a == 0#8)) = false) := by rw [← hea.out]; exact e1
      refine wp_loop_rounds 3 ?_
      rw [rounds_succ]
      have c0 : ∀ d os, (Go.Sort.grow (redrawn w1 d) os).cell? ⟨g, k, none⟩ = some (.int .u8 (n8 (S k))) := fun d os => by have := (D.re d os) k (by omega); rw [Nat.zero_add] at this; exact this
      have x0 : ∀ d os, (Go.Sort.grow (redrawn w1 d) os).cell? ⟨nx, 0, none⟩ = some (.int .u8 (n8 a)) := fun d os => (X.re d os).cell 0
      have hx8 := xor8 (S k) a
      go_upto_region 10 with (fail)
      refine wp_region_last_below 15 (by kernel_rfl) rfl (by kernel_rfl) ?_
      simp only [List.take_succ_cons, List.take_zero, List.drop_succ_cons, List.drop_zero]
      repeat (go_big_quiet_step (fail))
      refine wpQuiet_nil ?_
      intro w' hw'
      obtain ⟨rg, rfl⟩ := hw'
      clear c0 x0
      obtain ⟨W2, hW⟩ : ∃ W2, W2 = Go.Sort.grow (redrawn w1 rg.d) rg.os := ⟨_, rfl⟩
      rw [← hW]
      replace C := C.reW hW
      replace X := X.reW hW
      replace D : Byt W2 g 0 (m + 2) (S) := by rw [hW]; exact D.re _ _
      replace H := re_below H hW
      clear hW
      have d0 := D k (by omega)
      have f0 := C.frz k
      rw [Nat.zero_add] at d0
      go_upto_region 11 with (fail)
      obtain ⟨W2s, hW⟩ : ∃ W2s, W2s = W2.setCell ⟨g, k, none⟩ (.int .u8 (n8 (S k ^^^ a))) := ⟨_, rfl⟩
      rw [← hW]
      replace D : Byt W2s g 0 (m + 2) (upd S k (S k ^^^ a)) := by rw [hW]; exact D.put C hsz (by omega)
      replace X := X.far (p := ⟨g, k, none⟩) (by simp; omega) (.int .u8 (n8 (S k ^^^ a)))
      replace H := H.setCell (p := ⟨g, k, none⟩) (by simp; omega) (.int .u8 (n8 (S k ^^^ a)))
      replace C : Blk W2s g 5 (cur.setIfInBounds k (.int .u8 (n8 (S k ^^^ a)))) := by rw [hW]; exact C.set_ k _
      replace hsz : m + 2 ≤ (cur.setIfInBounds k (.int .u8 (n8 (S k ^^^ a)))).size := by simpa using hsz
      generalize cur.setIfInBounds k (.int .u8 (n8 (S k ^^^ a))) = cur at C hsz
      rw [← hW] at X H
      clear hW d0 f0 hx8
      have x1 := X.cell 0
      go_wp2_with fail
      replace ea := ea.out
      clear x1
      rw [rounds_succ]
      go_wp2_with fail
      refine (take_ok (some ⟨g, 0, none⟩) (m + 2) cs (upd S k (S k ^^^ a)) hsc hsm (by omega) _ (Byq.of D) ((hok a).2 (by simpa using ea))).mono ?_
      rintro e wT ⟨v, rfl, hown, hbT⟩
      replace H := after H hbT
      clear hbT
      go_wp2_with fail
      refine (lives7_c _).mono ?_
      rintro e w1 ⟨rfl, hb4⟩
      go_wp2_with fail
      go_returns
      exact ⟨rfl, by (repeat' (first | (with_reducible exact Below.refl _ _) | (with_reducible assumption) | (with_reducible refine Below.alloc ?_ ?_ _) | (with_reducible refine Below.drew ?_) | (with_reducible refine Below.setCell ?_ ?_ _) | (with_reducible refine after ?_ (below_regrown _ _ _)) | (refine after ?_ (by with_reducible assumption)) | go_size))⟩
set_option maxRecDepth 100000 in
theorem crcBursts_lifted (os : Os) (started : os.Started) (H : Type) (enc : TypeId × Value → H) :
    ReturnsInHanded {} Try.checked os 6 .any (Rows.crcBurstsSpec.pre6 enc Try.prog Try.f6 Rows.crcBurstsRow.domain false) (Rows.crcBurstsSpec.post enc Try.prog Try.f6 false true false false) := by
  refine returnsInHanded_of_change (C := Try.checked) own started (by kernel_rfl) Try.func6
    (ChangeSpec.witness6 (enc := enc) (C := Try.checked) false ⟨#[], #[.slice none 0 0, .int .i64 0, .agg #[.int .u8 0, .int .u8 0]], []⟩ 8 (by kernel_rfl) (by kernel_rfl) (by kernel_rfl) (by kernel_rfl)) ?_
  intro W base args ds gs before hval0 hW hcnd hsz
  have hval : ∀ (j : Nat) t v, Try.f6.params[j]? = some t → args[j]? = some v → Value.okWide Try.prog W .any base t v := hval0
  have hW' := hW
  obtain ⟨p, q, hA0, hV, rfl, hfz, hnd⟩ := hW
  have hA : DataW.TrodAll enc Try.prog W 0 (fun _ => true) true Try.f6.params.toList args.toList ds p := hA0
  rw [Try.params6] at hA hval
  obtain ⟨v0, vs0, d0, ds0, p_0, q_0, hargs, rfl, rfl, h0, r_0⟩ := trodAll_cons hA
  obtain ⟨v1, vs1, d1, ds1, p_1, q_1, rfl, rfl, rfl, h1, r_1⟩ := trodAll_cons r_0
  obtain ⟨v2, vs2, d2, ds2, p_2, q_2, rfl, rfl, rfl, h2, r_2⟩ := trodAll_cons r_1
  obtain ⟨rfl, rfl, rfl⟩ := trodAll_nil r_2
  obtain rfl : args = #[v0, v1, v2] := by cases args; simp_all
  obtain ⟨rfl, rfl⟩ := trodVars_none hV
  obtain ⟨A0, n0, k0, l0, rfl, b0, c0, e0⟩ := open_bytes Try.underlying22 Try.underlying5 (by kernel_rfl) (hval 0 22 v0 rfl rfl) h0
  obtain ⟨a1, rfl, rfl, rfl, w1⟩ := open_int Try.underlying3 (hval 1 3 v1 rfl rfl) h1
  obtain ⟨p2, q2, rfl⟩ := open_arr2 Try.underlying31 Try.underlying5 (by kernel_rfl) (by kernel_rfl) (hval 2 31 v2 rfl rfl) h2
  refine (crcBursts_w A0 n0 k0 l0 b0 c0 a1 (in64_of_wf w1) p2 q2 W e0).mono fun e W' ⟨he, hb⟩ => ?_
  subst he
  exact ⟨_, rfl, law_post laidOut (by kernel_rfl) rfl (by kernel_rfl) Try.underlying4 hW' rfl rfl rfl hb⟩

/-- The statement. -/
theorem crcBursts_proved : Rows.CrcBurstsSaid :=
  OpenClaim.holds_of_wide 6 Try.f6 rfl rfl rfl rfl rfl rfl rfl ⟨rfl, rfl, rfl, rfl, rfl⟩ rfl rfl rfl rfl rfl (by kernel_rfl) Try.func6 (by kernel_rfl)
    (of_decide_eq_true (by kernel_rfl)) (by unfold Func.isWrapper; first | (rw [if_pos (by decide +kernel)]; kernel_rfl) | (rw [if_neg (by decide +kernel)]; exact ⟨rfl, rfl⟩))
    (fun os started H enc _ => crcBursts_lifted os started H enc)
end Go.Proofs.Ytpmkeocknlhhkaa
