/- Is a number among others; the closure that asks for one kind. -/
import Derived.Test.YtmkmaoodeebmfaaBlocks2
import Derived.Test.YtmkmaoodeebmfaaMeet4
namespace Go.Proofs.Ytmkmaoodeebmfaa
open Go.RowKit Go.Shelf
attribute [local go_sem] Oper.semAt_some

theorem nexta {i n : Nat} (h : i < n) (hn : n ≤ 1000000) : (0 : Int) ≤ i ∧ (i : Int) < n ∧ -9223372036854775808 ≤ (i : Int) + 1 ∧ (i : Int) + 1 ≤ 9223372036854775807 := by omega
set_option maxHeartbeats 2000000 in
theorem among_c (q : Option Addr) (cp : Nat) (xs : List Int) (n : Int) (hL : xs.length ≤ 1000000) (w : World) (hR : Rd w q 1 encI xs) :
    Calls Try.prog 34 #[.slice q xs.length cp, .int .i64 n] w fun r w' => r = .returned (.bool (decide (n ∈ xs))) ∧ w' = w := by
  have HL := Lib.hid hL
  have HR := Lib.hid hR
  clear hL hR
  go_enter Try.func34, Try.ntmps34
  go_upto_region 2 with (fail)
  go_loopw [5] (fun iv wr => ∃ (i : Nat), iv = .int .i64 (i : Nat) ∧ Hid (i ≤ xs.length) ∧ wr = w ∧ Hid (∀ j x, j < i → xs[j]? = some x → x ≠ n)) (fun v _ => xs.length - (intOf v).toNat)
  case atStart => exact ⟨0, rfl, Nat.zero_le _, rfl, fun j x h => by omega⟩
  case round =>
    obtain ⟨i, rfl, hi, rfl, hno⟩ := hrel
    by_cases hlt : i < xs.length
    · obtain ⟨x, hx⟩ : ∃ x, xs[i]? = some x := ⟨_, List.getElem?_eq_getElem hlt⟩
      have hlt' : (i : Int) < (xs.length : Int) := by omega
      obtain ⟨g1, o1, rfl, hI1⟩ := HR.out (by omega)
      have e0 : wr.cell? ⟨g1, o1 + i, none⟩ = some (.int .i64 x) := by have := hI1 i x hx 0 _ rfl; simpa using this
      obtain ⟨n2, n3, n5, n6⟩ := nexta hlt HL.out
      have HX := Lib.hid hx
      clear hI1 hx
      by_cases hxn : x = n
      · subst hxn
        go_wp2_with fail
        go_returns
        exact ⟨by rw [decide_eq_true (List.mem_of_getElem? HX.out)]; rfl, rfl⟩
      · have hb : (x == n) = false := by simpa using hxn
        have HN := Lib.hid hxn
        clear hxn
        go_wp2_with fail
        go_roundw
        case rel => exact ⟨i + 1, rfl, hlt, trivial, fun j y hj hy => by
          rcases Nat.lt_or_eq_of_le (Nat.le_of_lt_succ hj) with h | h
          · exact hno.out j y h hy
          · subst h; rw [HX.out] at hy; obtain rfl := Option.some.inj hy; exact HN.out⟩
        case measure => simp [intOf]; omega
    · have hlt' : ¬ (i : Int) < (xs.length : Int) := by omega
      have HI := Lib.hid hlt
      go_wp2_with fail
      go_returns
      refine ⟨?_, rfl⟩
      have hnm : n ∉ xs := fun h => by
        obtain ⟨j, hj, e⟩ := List.mem_iff_getElem.1 h
        exact hno.out j _ (by have := HI.out; omega) (List.getElem?_eq_getElem hj) e
      rw [decide_eq_false hnm]; rfl
theorem kind_says {b : Nat} {K : Int} {w : World} (hb : Blk w b 3 #[.int .i64 K]) : Says Try.prog 31 #[.pointer (some ⟨b, 0, none⟩)] (fun n => n == K) w := by
  intro n W h
  have c0 := (hb.on h).cell 0
  show Calls Try.prog 31 #[.int .i64 n, .pointer (some ⟨b, 0, none⟩)] W _
  go_enter Try.func31, Try.ntmps31
  go_wp2_with fail
  go_returns
  exact ⟨rfl, Below.refl _ _⟩
theorem kind_en : ∀ args w, (callFunc 31 args).run Try.prog w = .ok (.enter 31 args) w := enters_of Try.func31 (by kernel_rfl) rfl
end Go.Proofs.Ytmkmaoodeebmfaa
