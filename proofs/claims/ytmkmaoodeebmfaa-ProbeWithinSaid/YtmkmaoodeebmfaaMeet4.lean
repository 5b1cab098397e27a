/- The laws' view; the document's example. -/
import Derived.Test.YtmkmaoodeebmfaaMeet1
import Derived.Test.YtmkmaoodeebmfaaProbe3
import Derived.Test.YtmkmaoodeebmfaaNear
import Derived.Test.YtmkmaoodeebmfaaRow
import Derived.Test.YtmkmaoodeebmfaaBase2
namespace Go.Proofs.Ytmkmaoodeebmfaa
open Go.RowKit Go.Shelf
attribute [local go_sem] Oper.semAt_some

theorem ax_len {n m : Int} (h : n ≤ m) (h2 : m ≤ n + 1000000) : (topI n m + 1 - lowI n).toNat ≤ 18 := by
  unfold topI lowI cutI
  split <;> omega
theorem cells_len {a b c d e f : Int} (h1 : a ≤ d) (h2 : d ≤ a + 1000000) (h3 : b ≤ e) (h4 : e ≤ b + 1000000) (h5 : c ≤ f) (h6 : f ≤ c + 1000000) : (cellsI a b c d e f).length ≤ 1000000 := by
  unfold cellsI
  split
  · rw [boxL_length]
    have := Nat.mul_le_mul (ax_len h3 h4) (Nat.mul_le_mul (ax_len h5 h6) (ax_len h1 h2))
    omega
  · simp
theorem iq_of_rd {w : World} {q : Option Addr} {xs : List Int} (h : Rd w q 1 encI xs) : Iq w q xs.length (fun i => xs.getD i 0) := fun hn => by
  obtain ⟨g, o, hq, h1⟩ := h hn
  refine ⟨g, o, hq, fun i hi => ?_⟩
  have h2 : w.cell? ⟨g, o + i * 1, none⟩ = some (.int .i64 (xs[i]'hi)) := h1 i _ (List.getElem?_eq_getElem hi) 0 _ rfl
  rw [Nat.mul_one] at h2
  rw [h2]
  simp [List.getD_eq_getElem?_getD, List.getElem?_eq_getElem hi]
theorem view_c (v1 v2 : Value) (w : World) : Calls Try.prog 10 #[.agg #[v1, v2]] w fun r w' =>
    r = .returned (.func (.func 40) #[] #[.pointer (some ⟨w.heap.size, 0, none⟩)]) ∧ w' = w.alloc (.cells #[v1, v2] 24) := by
  have hmf : ∀ (fn : Fn) (first cap : Array Value) (w : World), (Instr.makeFunc fn first cap).run Try.prog w = .ok (.func fn first cap) w := fun _ _ _ _ => rfl
  go_enter Try.func10, Try.ntmps10
  go_wp2_with fail
  go_returns
  exact ⟨rfl, rfl⟩
theorem view_tells {q : Option Addr} {n c : Nat} {F : Nat → Int} {els : Int} {b : Nat} {w : World} (hb : Blk w b 24 #[.slice q n c, .int .i64 els]) (hq : Iq w q n F) :
    Tells Try.prog 40 #[.pointer (some ⟨b, 0, none⟩)] (fun x => atG n F els x.1 x.2.1 x.2.2) w :=
  fun x W h => view1_c q n c F els x.1 x.2.1 x.2.2 b W (hb.on h) (hq.on h)
theorem view_en : ∀ args w, (callFunc 40 args).run Try.prog w = .ok (.enter 40 args) w := enters_of Try.func40 (by kernel_rfl) rfl
end Go.Proofs.Ytmkmaoodeebmfaa
