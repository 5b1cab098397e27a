/- Is a cell near enough to another one? -/
import Derived.Test.YtjlgcfdpfalbpaaRayP
import Derived.Test.YtjlgcfdpfalbpaaRayN
import Derived.Deep.Cut
namespace Go.Proofs.Ytjlgcfdpfalbpaa
open Go.RowKit Go.Shelf
attribute [local go_sem] Oper.semAt_some

def nearB (R n m : Int) : Bool := decide (n - m ≤ R) && decide (m - n ≤ R)
set_option maxHeartbeats 2000000 in
theorem within1_c (b : Nat) (n m R : Int) (hn : -10000000000 ≤ n) (hn2 : n ≤ 10000000000) (hm : -10000000000 ≤ m) (hm2 : m ≤ 10000000000) (w : World) (B : Blk w b 3 #[.int .i64 R]) :
    Calls Try.prog 64 #[.int .i64 n, .int .i64 m, .pointer (some ⟨b, 0, none⟩)] w fun r w' => r = .returned (.bool (nearB R n m)) ∧ w = w' := by
  have c0 := B.cell 0
  have e1 : -9223372036854775808 ≤ n - m := by omega
  have e2 : n - m ≤ 9223372036854775807 := by omega
  have e3 : -9223372036854775808 ≤ m - n := by omega
  have e4 : m - n ≤ 9223372036854775807 := by omega
  by_cases h1 : n - m ≤ R
  · by_cases h2 : m - n ≤ R
    · have hv : nearB R n m = true := by unfold nearB; simp [h1, h2]
      rw [hv]
      clear hv B hn hn2 hm hm2
      go_enter Try.func64, Try.ntmps64
      go_wp2_with fail
      go_returns
      exact ⟨rfl, rfl⟩
    · have hv : nearB R n m = false := by unfold nearB; simp [h2]
      rw [hv]
      have h3 : decide (m - n ≤ R) = false := by simpa using h2
      clear hv h2 B hn hn2 hm hm2
      go_enter Try.func64, Try.ntmps64
      go_wp2_with fail
      go_returns
      exact ⟨rfl, rfl⟩
  · have hv : nearB R n m = false := by unfold nearB; simp [h1]
    rw [hv]
    have h3 : decide (n - m ≤ R) = false := by simpa using h1
    clear hv h1 B hn hn2 hm hm2
    go_enter Try.func64, Try.ntmps64
    go_wp2_with fail
    go_returns
    exact ⟨rfl, rfl⟩
def withinB (R : Int) (c h : I3) : Bool := nearB R c.1 h.1 && nearB R c.2.1 h.2.1 && nearB R c.2.2 h.2.2
def Sm3 (c : I3) : Prop := (-10000000000 ≤ c.1 ∧ c.1 ≤ 10000000000) ∧ (-10000000000 ≤ c.2.1 ∧ c.2.1 ≤ 10000000000) ∧ (-10000000000 ≤ c.2.2 ∧ c.2.2 ≤ 10000000000)
set_option maxRecDepth 100000 in
set_option maxHeartbeats 4000000 in
theorem within_c (c h : I3) (R : Int) (hc : Sm3 c) (hh : Sm3 h) (w : World) :
    Calls Try.prog 44 #[.agg #[.int .i64 c.1, .int .i64 c.2.1, .int .i64 c.2.2], .agg #[.int .i64 h.1, .int .i64 h.2.1, .int .i64 h.2.2], .int .i64 R] w fun r w' => r = .returned (.bool (withinB R c h)) ∧ Below w.heap.size w w' := by
  obtain ⟨W, hW⟩ : ∃ W, W = ((w.alloc (.cells #[.int .i64 c.1, .int .i64 c.2.1, .int .i64 c.2.2] 29)).alloc (.cells #[.int .i64 h.1, .int .i64 h.2.1, .int .i64 h.2.2] 29)).alloc (.cells #[.int .i64 R] 3) := ⟨_, rfl⟩
  have H : Below w.heap.size w W := by rw [hW]; go_grown
  have A : Blk W w.heap.size 29 #[.int .i64 c.1, .int .i64 c.2.1, .int .i64 c.2.2] := by rw [hW]; exact ((Blk.new' rfl).alloc _).alloc _
  have B : Blk W (w.heap.size + 1) 29 #[.int .i64 h.1, .int .i64 h.2.1, .int .i64 h.2.2] := by rw [hW]; exact (Blk.new' (by simp)).alloc _
  have D : Blk W (w.heap.size + 1 + 1) 3 #[.int .i64 R] := by rw [hW]; exact Blk.new' (by simp)
  have C1 := within1_c (w.heap.size + 1 + 1) c.1 h.1 R hc.1.1 hc.1.2 hh.1.1 hh.1.2 W D
  have C2 := within1_c (w.heap.size + 1 + 1) c.2.1 h.2.1 R hc.2.1.1 hc.2.1.2 hh.2.1.1 hh.2.1.2 W D
  have C3 := within1_c (w.heap.size + 1 + 1) c.2.2 h.2.2 R hc.2.2.1 hc.2.2.2 hh.2.2.1 hh.2.2.2 W D
  unfold withinB
  generalize nearB R c.1 h.1 = b1 at C1 ⊢
  generalize nearB R c.2.1 h.2.1 = b2 at C2 ⊢
  generalize nearB R c.2.2 h.2.2 = b3 at C3 ⊢
  have HC1 := Lib.hid C1
  have HC2 := Lib.hid C2
  have HC3 := Lib.hid C3
  clear C1 C2 C3 hc hh
  obtain ⟨x1, x2, x3⟩ := c
  obtain ⟨y1, y2, y3⟩ := h
  dsimp only at *
  obtain ⟨a0, a1, a2, -, -, -⟩ := A.c3
  obtain ⟨d0, d1, d2, -, -, -⟩ := B.c3
  clear A B D
  have hmf : ∀ (fn : Fn) (first cap : Array Value) (w : World), (Instr.makeFunc fn first cap).run Try.prog w = .ok (.func fn first cap) w := fun _ _ _ _ => rfl
  go_enter Try.func44, Try.ntmps44
  go_upto_region 2 with (fail)
  rw [← hW]
  clear hW
  cases b1
  · go_wp2_with (go_at_call 64; refine (HC1.out).mono ?_; rintro e_ w1 ⟨rfl, rfl⟩)
    go_returns
    exact ⟨rfl, H⟩
  cases b2
  · go_wp2_with (first | (go_at_call 64; (with_reducible refine (HC1.out).mono ?_); rintro e_ w1 ⟨rfl, rfl⟩) | (go_at_call 64; (with_reducible refine (HC2.out).mono ?_); rintro e_ w1 ⟨rfl, rfl⟩))
    go_returns
    exact ⟨rfl, H⟩
  cases b3
  · go_wp2_with (first | (go_at_call 64; (with_reducible refine (HC1.out).mono ?_); rintro e_ w1 ⟨rfl, rfl⟩) | (go_at_call 64; (with_reducible refine (HC2.out).mono ?_); rintro e_ w1 ⟨rfl, rfl⟩) | (go_at_call 64; (with_reducible refine (HC3.out).mono ?_); rintro e_ w1 ⟨rfl, rfl⟩))
    go_returns
    exact ⟨rfl, H⟩
  · go_wp2_with (first | (go_at_call 64; (with_reducible refine (HC1.out).mono ?_); rintro e_ w1 ⟨rfl, rfl⟩) | (go_at_call 64; (with_reducible refine (HC2.out).mono ?_); rintro e_ w1 ⟨rfl, rfl⟩) | (go_at_call 64; (with_reducible refine (HC3.out).mono ?_); rintro e_ w1 ⟨rfl, rfl⟩))
    go_returns
    exact ⟨rfl, H⟩
end Go.Proofs.Ytjlgcfdpfalbpaa
