/- A small world's view; what gives way; the cell beside. -/
import Derived.Test.YtjlgcfdpfalbpaaRayC
import Derived.Test.YtjlgcfdpfalbpaaProbe3
import Derived.Test.YtjlgcfdpfalbpaaRow
namespace Go.Proofs.Ytjlgcfdpfalbpaa
open Go.RowKit Go.Shelf
attribute [local go_sem] Oper.semAt_some

/-- A view's word: it tells val, and makes only new memory. -/
def Tells (P : Program) (V : FuncId) (lb : Array Value) (val : Int × Int × Int → Int) (w : World) : Prop :=
  ∀ c W, Below w.heap.size w W → Calls P V (#[.agg #[.int .i64 c.1, .int .i64 c.2.1, .int .i64 c.2.2]] ++ lb) W fun r W' => r = .returned (.int .i64 (val c)) ∧ Below W.heap.size W W'
theorem Tells.on {P : Program} {V : FuncId} {lb : Array Value} {val : Int × Int × Int → Int} {w w' : World} (h : Tells P V lb val w) (hb : Below w.heap.size w w') : Tells P V lb val w' := fun c W k => h c W (after hb k)
theorem view_c (v1 v2 : Value) (w : World) : Calls Try.prog 12 #[.agg #[v1, v2]] w fun r w' =>
    r = .returned (.func (.func 31) #[] #[.pointer (some ⟨w.heap.size, 0, none⟩)]) ∧ w' = w.alloc (.cells #[v1, v2] 24) := by
  have hmf : ∀ (fn : Fn) (first cap : Array Value) (w : World), (Instr.makeFunc fn first cap).run Try.prog w = .ok (.func fn first cap) w := fun _ _ _ _ => rfl
  go_enter Try.func12, Try.ntmps12
  go_wp2_with fail
  go_returns
  exact ⟨rfl, rfl⟩
theorem view_tells {q : Option Addr} {n c : Nat} {F : Nat → Int} {els : Int} {b : Nat} {w : World} (hb : Blk w b 24 #[.slice q n c, .int .i64 els]) (hq : Iq w q n F) :
    Tells Try.prog 31 #[.pointer (some ⟨b, 0, none⟩)] (fun x => atG n F els x.1 x.2.1 x.2.2) w :=
  fun x W h => view1_c q n c F els x.1 x.2.1 x.2.2 b W (hb.on h) (hq.on h)
theorem view_en : ∀ args w, (callFunc 31 args).run Try.prog w = .ok (.enter 31 args) w := enters_of Try.func31 (by kernel_rfl) rfl
theorem iq_of_rd {w : World} {q : Option Addr} {xs : List Int} (h : Rd w q 1 encI xs) : Iq w q xs.length (fun i => xs.getD i 0) := fun hn => by
  obtain ⟨g, o, hq, h1⟩ := h hn
  refine ⟨g, o, hq, fun i hi => ?_⟩
  have h2 : w.cell? ⟨g, o + i * 1, none⟩ = some (.int .i64 (xs[i]'hi)) := h1 i _ (List.getElem?_eq_getElem hi) 0 _ rfl
  rw [Nat.mul_one] at h2
  rw [h2]
  simp [List.getD_eq_getElem?_getD, List.getElem?_eq_getElem hi]
/-! ### what gives way -/
def yldB (n : Int) : Bool := (n == 0) || wetB n
theorem yields_c (n : Int) (w : World) : Calls Try.prog 30 #[.int .i64 n] w fun r w' => r = .returned (.bool (yldB n)) ∧ w = w' := by
  by_cases h : n = 0
  · subst h
    have e : yldB 0 = true := rfl
    rw [e]
    go_enter Try.func30, Try.ntmps30
    go_wp2_with fail
    go_returns
    exact ⟨rfl, rfl⟩
  · have h1 : (n == 0) = false := by simpa using h
    have e : yldB n = wetB n := by unfold yldB; rw [h1]; rfl
    rw [e]
    clear e h
    go_enter Try.func30, Try.ntmps30
    go_wp2_with (go_at_call 52; refine (wet_c _ _).mono ?_; rintro e_ w1 ⟨rfl, rfl⟩)
    go_returns
    exact ⟨rfl, rfl⟩
theorem ryields_c (n : Int) (w : World) : Calls Try.prog 16 #[.int .i64 n] w fun r w' => r = .returned (.bool (yldB n)) ∧ w = w' := by
  by_cases h : n = 0
  · subst h
    have e : yldB 0 = true := rfl
    rw [e]
    go_enter Try.func16, Try.ntmps16
    go_wp2_with fail
    go_returns
    exact ⟨rfl, rfl⟩
  · have h1 : (n == 0) = false := by simpa using h
    have e : yldB n = wetB n := by unfold yldB; rw [h1]; rfl
    rw [e]
    clear e h
    go_enter Try.func16, Try.ntmps16
    go_wp2_with (go_at_call 33; refine (rwet_c _ _).mono ?_; rintro e_ w1 ⟨rfl, rfl⟩)
    go_returns
    exact ⟨rfl, rfl⟩
end Go.Proofs.Ytjlgcfdpfalbpaa
