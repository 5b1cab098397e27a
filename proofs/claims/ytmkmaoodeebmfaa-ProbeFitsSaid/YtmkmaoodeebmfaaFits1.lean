/- Whether a function says so of a box of a row. -/
import Derived.Test.YtmkmaoodeebmfaaMeet1
import Derived.Test.YtmkmaoodeebmfaaRow
import Derived.Test.YtmkmaoodeebmfaaVec3
namespace Go.Proofs.Ytmkmaoodeebmfaa
open Go.RowKit Go.Shelf
attribute [local go_sem] Oper.semAt_some

abbrev Bx := Int × Int × Int × Int × Int × Int
abbrev enc6 (x : Bx) : List Value := [.int .i64 x.1, .int .i64 x.2.1, .int .i64 x.2.2.1, .int .i64 x.2.2.2.1, .int .i64 x.2.2.2.2.1, .int .i64 x.2.2.2.2.2]
abbrev agg6 (x : Bx) : Value := .agg #[.int .i64 x.1, .int .i64 x.2.1, .int .i64 x.2.2.1, .int .i64 x.2.2.2.1, .int .i64 x.2.2.2.2.1, .int .i64 x.2.2.2.2.2]
theorem len6 (x : Bx) : (enc6 x).length = 6 := rfl
def SaysB (P : Program) (G : FuncId) (lb : Array Value) (p : Bx → Bool) (w : World) : Prop :=
  ∀ x W, Below w.heap.size w W → Calls P G (#[agg6 x] ++ lb) W fun r W' => r = .returned (.bool (p x)) ∧ Below W.heap.size W W'
theorem SaysB.on {P : Program} {G : FuncId} {lb : Array Value} {p : Bx → Bool} {w W : World} (h : SaysB P G lb p w) (H : Below w.heap.size w W) : SaysB P G lb p W :=
  fun n X hX => h n X (H.trans (hX.mono H.size))
theorem nextx {i n : Nat} (h : i < n) (hn : n ≤ maxLen) : (0 : Int) ≤ i ∧ (i : Int) < n ∧ -9223372036854775808 ≤ (i : Int) + 1 ∧ (i : Int) + 1 ≤ 9223372036854775807 := by simp only [maxLen] at hn; omega
set_option maxRecDepth 100000 in
set_option maxHeartbeats 4000000 in
theorem idxf_c (q : Option Addr) (cp : Nat) (xs : List Bx) (hm : xs.length ≤ maxLen) (G : FuncId) (lg : Array Value) (p : Bx → Bool) (w : World) (hR : Rd w q 6 enc6 xs) (eG : ∀ args w, (callFunc G args).run Try.prog w = .ok (.enter G args) w) (hG : SaysB Try.prog G lg p w) :
    Calls Try.prog 66 #[.slice q xs.length cp, .func (.func G) #[] lg] w fun r w' => ∃ k : Int, r = .returned (.int .i64 k) ∧ decide (0 ≤ k) = xs.any p ∧ -1 ≤ k ∧ Below w.heap.size w w' := by
  have HM := Lib.hid hm
  have HG := Lib.hid hG
  clear hm hG
  go_enter Try.func66, Try.ntmps66
  go_upto_region 2 with (fail)
  go_loopw [8] (fun iv wr => ∃ (i : Nat), iv = .int .i64 (i : Nat) ∧ Hid (i ≤ xs.length) ∧ Rd wr q 6 enc6 xs ∧ Hid ((xs.take i).any p = false) ∧ Hid (Below w.heap.size w wr)) (fun v _ => xs.length - (intOf v).toNat)
  case atStart => exact ⟨0, rfl, Nat.zero_le _, hR, by rw [List.take_zero]; rfl, Below.refl _ _⟩
  case round =>
    clear hR
    obtain ⟨i, rfl, hi, R, hno, H⟩ := hrel
    by_cases hlt : i < xs.length
    · obtain ⟨x, hx⟩ : ∃ x, xs[i]? = some x := ⟨_, List.getElem?_eq_getElem hlt⟩
      have hlt' : (i : Int) < (xs.length : Int) := by omega
      obtain ⟨g, o, rfl, hI⟩ := R (by omega)
      have e0 : wr.cell? ⟨g, o + i * 6, none⟩ = some (.int .i64 x.1) := hI i x hx 0 _ rfl
      have e1 : wr.cell? ⟨g, o + i * 6 + 1, none⟩ = some (.int .i64 x.2.1) := hI i x hx 1 _ rfl
      have e2 : wr.cell? ⟨g, o + i * 6 + 2, none⟩ = some (.int .i64 x.2.2.1) := hI i x hx 2 _ rfl
      have e3 : wr.cell? ⟨g, o + i * 6 + 3, none⟩ = some (.int .i64 x.2.2.2.1) := hI i x hx 3 _ rfl
      have e4 : wr.cell? ⟨g, o + i * 6 + 4, none⟩ = some (.int .i64 x.2.2.2.2.1) := hI i x hx 4 _ rfl
      have e5 : wr.cell? ⟨g, o + i * 6 + 5, none⟩ = some (.int .i64 x.2.2.2.2.2) := hI i x hx 5 _ rfl
      obtain ⟨n2, n3, n5, n6⟩ := nextx hlt HM.out
      have hc := HG.out x wr H.out
      have HX := Lib.hid hx
      clear hx hI
      cases hp : p x
      · rw [hp] at hc
        have HP := Lib.hid hp
        have HC := Lib.hid hc
        clear hp hc
        go_wp2_with (refine HC.out.mono ?_; rintro e_ w3 ⟨rfl, h3⟩)
        go_roundw
        case rel => exact ⟨i + 1, rfl, hlt, R.on h3, by show _ = false; rw [List.take_add_one, List.any_append, hno.out, HX.out]; simp [HP.out], after H.out h3⟩
        case measure => simp [intOf]; omega
      · rw [hp] at hc
        have HP := Lib.hid hp
        have HC := Lib.hid hc
        clear hp hc
        go_wp2_with (refine HC.out.mono ?_; rintro e_ w3 ⟨rfl, h3⟩)
        go_returns
        refine ⟨(i : Int), rfl, ?_, by omega, after H.out h3⟩
        rw [show decide ((0 : Int) ≤ i) = true by simp]
        exact (List.any_eq_true.2 ⟨x, List.mem_of_getElem? HX.out, HP.out⟩).symm
    · have hi2 : i = xs.length := by have := hi.out; omega
      have hlt' : ¬ (i : Int) < (xs.length : Int) := by omega
      go_wp2_with fail
      go_returns
      refine ⟨-1, rfl, ?_, by omega, H.out⟩
      have := hno.out
      rw [hi2, List.take_length] at this
      rw [this]; rfl
set_option maxHeartbeats 2000000 in
theorem contf_c (q : Option Addr) (cp : Nat) (xs : List Bx) (hm : xs.length ≤ maxLen) (G : FuncId) (lg : Array Value) (p : Bx → Bool) (w : World) (hR : Rd w q 6 enc6 xs) (eG : ∀ args w, (callFunc G args).run Try.prog w = .ok (.enter G args) w) (hG : SaysB Try.prog G lg p w) :
    Calls Try.prog 52 #[.slice q xs.length cp, .func (.func G) #[] lg] w fun r w' => r = .returned (.bool (xs.any p)) ∧ Below w.heap.size w w' := by
  have h := Lib.hid (idxf_c q cp xs hm G lg p w hR eG hG)
  clear hm hR eG hG
  go_enter Try.func52, Try.ntmps52
  go_wp2_with (go_at_call 66; refine h.out.mono ?_; rintro e_ w1 ⟨k, rfl, h1, h2, h3⟩)
  go_returns
  exact ⟨ret_b rfl, h3⟩
def ovB (b x : Bx) : Bool := overI b.1 b.2.1 b.2.2.1 b.2.2.2.1 b.2.2.2.2.1 b.2.2.2.2.2 x.1 x.2.1 x.2.2.1 x.2.2.2.1 x.2.2.2.2.1 x.2.2.2.2.2
set_option maxHeartbeats 2000000 in
theorem fits1_c (b x : Bx) (g : Nat) (w : World) (hb : Blk w g 28 (enc6 b).toArray) :
    Calls Try.prog 53 #[agg6 x, .pointer (some ⟨g, 0, none⟩)] w fun r w' => r = .returned (.bool (ovB b x)) ∧ Below w.heap.size w w' := by
  obtain ⟨W, hW⟩ : ∃ W, W = w.alloc (.cells (enc6 x).toArray 28) := ⟨_, rfl⟩
  have H : Below w.heap.size w W := by rw [hW]; go_grown
  have X : Blk W w.heap.size 28 (enc6 x).toArray := by rw [hW]; exact Blk.new' rfl
  obtain ⟨x0, x1, x2, x3, x4, x5⟩ := X.c6.1
  obtain ⟨b0, b1, b2, b3, b4, b5⟩ := (hb.on H).c6.1
  have ho := fun W => over_c b.1 b.2.1 b.2.2.1 b.2.2.2.1 b.2.2.2.2.1 b.2.2.2.2.2 x.1 x.2.1 x.2.2.1 x.2.2.2.1 x.2.2.2.2.1 x.2.2.2.2.2 W
  clear X hb
  go_enter Try.func53, Try.ntmps53
  go_upto_region 1 with (fail)
  rw [← hW]
  clear hW
  go_wp2_with (go_at_call 54; refine (ho _).mono ?_; rintro e_ w1 ⟨rfl, h1⟩)
  go_returns
  exact ⟨rfl, after H h1⟩
set_option maxHeartbeats 2000000 in
theorem fits_c (V : FuncId) (lv : Array Value) (val : Cl → Int) (b : Bx) (hB : BoxOk b.1 b.2.1 b.2.2.1 b.2.2.2.1 b.2.2.2.2.1 b.2.2.2.2.2) (q : Option Addr) (cp : Nat) (xs : List Bx) (hm : xs.length ≤ maxLen) (w : World) (hR : Rd w q 6 enc6 xs)
    (eV : ∀ args w, (callFunc V args).run Try.prog w = .ok (.enter V args) w) (hV : Tells Try.prog V lv val w) :
    Calls Try.prog 28 #[.func (.func V) #[] lv, agg6 b, .slice q xs.length cp] w fun r w' =>
      r = .returned (.bool (!((cellsI b.1 b.2.1 b.2.2.1 b.2.2.2.1 b.2.2.2.2.1 b.2.2.2.2.2).any fun x => solB (val x)) && !(xs.any (ovB b)))) ∧ Below w.heap.size w w' := by
  have hmf : ∀ (fn : Fn) (first cap : Array Value) (w : World), (Instr.makeFunc fn first cap).run Try.prog w = .ok (.func fn first cap) w := fun _ _ _ _ => rfl
  obtain ⟨W, hW⟩ : ∃ W, W = w.alloc (.cells (enc6 b).toArray 28) := ⟨_, rfl⟩
  have H : Below w.heap.size w W := by rw [hW]; go_grown
  have X : Blk W w.heap.size 28 (enc6 b).toArray := by rw [hW]; exact Blk.new' rfl
  have hb := Lib.hid (pmBlocked_c V lv val b.1 b.2.1 b.2.2.1 b.2.2.2.1 b.2.2.2.2.1 b.2.2.2.2.2 hB W eV (hV.on H))
  have hc := Lib.hid fun W' (h : Below W.heap.size W W') => contf_c q cp xs hm 53 #[.pointer (some ⟨w.heap.size, 0, none⟩)] (ovB b) W' ((hR.on H).on h) (enters_of Try.func53 (by kernel_rfl) rfl) (fun x W2 h2 => fits1_c b x w.heap.size W2 ((X.on h).on h2))
  obtain ⟨x0, x1, x2, x3, x4, x5⟩ := X.c6.1
  clear hm hR hV eV hB X
  generalize ((cellsI b.1 b.2.1 b.2.2.1 b.2.2.2.1 b.2.2.2.2.1 b.2.2.2.2.2).any fun x => solB (val x)) = r1 at hb ⊢
  generalize xs.any (ovB b) = r2 at hc ⊢
  cases r1
  all_goals
    go_enter Try.func28, Try.ntmps28
    go_upto_region 1 with (fail)
    rw [← hW]
    clear hW
    go_wp2_with first
      | (go_at_call 12; refine hb.out.mono ?_; rintro e_ w1 ⟨rfl, h1⟩)
      | (go_at_call 52; refine (hc.out _ h1).mono ?_; rintro e_ w2 ⟨rfl, h2⟩)
    go_returns
  · exact ⟨rfl, after (after H h1) h2⟩
  · exact ⟨rfl, after H h1⟩
end Go.Proofs.Ytmkmaoodeebmfaa
