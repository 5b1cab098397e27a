/- Plain helpers of ours: no program in sight. -/
import Derived.WalkKit
import Derived.WalkSpells
import Derived.WalkLawsBesides
import Derived.Handy
import Derived.Lib.QuietBelow
import Derived.Lib.Hide
import Derived.BigQuiet
import Derived.Deep.RegionHeld3
import Derived.Shelf.Abstract
namespace Go.Proofs.Ytkopenemoddbbaa
open Go.RowKit

/-! ### what a number of a kind is -/
def In64 (n : Int) : Prop := -9223372036854775808 ≤ n ∧ n ≤ 9223372036854775807
theorem in64_of_wf {n : Int} (h : (Lit.int .i64 n).wf = true) : In64 n := by
  simp [Lit.wf, IntKind.min, IntKind.max, IntKind.signed, IntKind.bits] at h
  exact ⟨by omega, by omega⟩
def InU8 (n : Int) : Prop := 0 ≤ n ∧ n ≤ 255
theorem inU8_of_wf {n : Int} (h : (Lit.int .u8 n).wf = true) : InU8 n := by
  simp [Lit.wf, IntKind.min, IntKind.max, IntKind.signed, IntKind.bits] at h
  exact ⟨by omega, by omega⟩
def InU16 (n : Int) : Prop := 0 ≤ n ∧ n ≤ 65535
theorem inU16_of_wf {n : Int} (h : (Lit.int .u16 n).wf = true) : InU16 n := by
  simp [Lit.wf, IntKind.min, IntKind.max, IntKind.signed, IntKind.bits] at h
  exact ⟨by omega, by omega⟩

/-! ### endings -/
theorem ret_i {k : IntKind} {a b : Int} (h : a = b) : Ending.returned (.int k a) = .returned (.int k b) := by rw [h]
theorem ret_b {a b : Bool} (h : a = b) : Ending.returned (.bool a) = .returned (.bool b) := by rw [h]

theorem ret_t2 {a b a' b' : Value} (h : a = a') (k : b = b') : Ending.returned (.tuple #[a, b]) = .returned (.tuple #[a', b']) := by rw [h, k]
theorem ret_t3 {a b c a' b' c' : Value} (h : a = a') (k : b = b') (l : c = c') : Ending.returned (.tuple #[a, b, c]) = .returned (.tuple #[a', b', c']) := by rw [h, k, l]
theorem vi {k : IntKind} {a b : Int} (h : a = b) : Value.int k a = .int k b := by rw [h]
theorem vb {a b : Bool} (h : a = b) : Value.bool a = .bool b := by rw [h]
theorem ret_v3 {k : IntKind} {a b c a' b' c' : Int} (h : a = a') (h2 : b = b') (h3 : c = c') : Ending.returned (.agg #[.int k a, .int k b, .int k c]) = .returned (.agg #[.int k a', .int k b', .int k c']) := by rw [h, h2, h3]

/-! ### min and max, behind a name (so that a walk does not part on them) -/
def mnI (x y : Int) : Int := min x y
def mxI (x y : Int) : Int := max x y
theorem run_mn {P : Program} (ts : Array TypeId) (t : TypeId) (k k' : IntKind) (x y : Int) (w : World) : (Builtin.min_ ts t #[.int k x, .int k' y]).run P w = .ok (.int k (mnI x y)) w := by
  rw [run_min_int2]
  have h : (if y < x then y else x) = mnI x y := by unfold mnI; omega
  rw [h]
theorem run_mx {P : Program} (ts : Array TypeId) (t : TypeId) (k k' : IntKind) (x y : Int) (w : World) : (Builtin.max_ ts t #[.int k x, .int k' y]).run P w = .ok (.int k (mxI x y)) w := by
  rw [run_max_int2]
  have h : (if x < y then y else x) = mxI x y := by unfold mxI; omega
  rw [h]

/-! ### memory -/
theorem after {w W W' : World} (h : Below w.heap.size w W) (k : Below W.heap.size W W') : Below w.heap.size w W' := h.trans (k.mono h.size)
theorem after' {n : Nat} {w W W' : World} (h : Below n w W) (hn : n ≤ w.heap.size) (k : Below W.heap.size W W') : Below n w W' := h.trans (k.mono (Nat.le_trans hn h.size))
theorem bcell {W w1 : World} (hb : Below W.heap.size W w1) : (∀ b o, b < W.heap.size → w1.cell? ⟨b, o, none⟩ = W.cell? ⟨b, o, none⟩) ∧ (∀ b o, b < W.heap.size → w1.frozen? ⟨b, o, none⟩ = W.frozen? ⟨b, o, none⟩) :=
  ⟨fun b o h => hb.cell (p := ⟨b, o, none⟩) h, fun b o h => hb.frozen (p := ⟨b, o, none⟩) h⟩

theorem calls_bel {P : Program} {f : FuncId} {args : Array Value} {w : World} {v : Value} (h : Calls P f args w fun e w' => e = .returned v ∧ w = w') : Calls P f args w fun e w' => e = .returned v ∧ Below w.heap.size w w' :=
  h.mono fun _ _ ⟨he, hw⟩ => ⟨he, by rw [← hw]; exact Below.refl _ _⟩
/-- Block g is just these cells, none of them frozen. -/
def Blk (w : World) (g : Nat) (t : TypeId) (cs : Array Value) : Prop := w.heap[g]? = some (.cells cs t (0, 0))

section
variable {w w' : World} {g : Nat} {t : TypeId} {cs : Array Value}
theorem Blk.lt (h : Blk w g t cs) : g < w.heap.size := by
  unfold Blk at h
  exact (Array.getElem?_eq_some_iff.1 h).1
theorem Blk.cell (h : Blk w g t cs) (i : Nat) : w.cell? ⟨g, i, none⟩ = cs[i]? := by
  unfold Blk at h
  simp [World.cell?, h]
theorem Blk.frz (h : Blk w g t cs) (i : Nat) : w.frozen? ⟨g, i, none⟩ = false := by
  unfold Blk at h
  simp [World.frozen?, h]
theorem Blk.new (w : World) (t : TypeId) (cs : Array Value) : Blk (w.alloc (.cells cs t)) w.heap.size t cs := heap_alloc_new w _
theorem Blk.new' {w : World} {g : Nat} {t : TypeId} {cs : Array Value} (h : g = w.heap.size) : Blk (w.alloc (.cells cs t)) g t cs := by subst h; exact Blk.new w t cs
theorem Blk.alloc (h : Blk w g t cs) (o : Obj) : Blk (w.alloc o) g t cs := by
  unfold Blk at *
  have hl := (Array.getElem?_eq_some_iff.1 h).1
  rw [Below.heap_alloc w o g hl]
  exact h
theorem Blk.drew (h : Blk w g t cs) : Blk w.drew g t cs := h
theorem Blk.drewN (h : Blk w g t cs) (n : Nat) : Blk (w.drewN n) g t cs := h
theorem Blk.set_ (h : Blk w g t cs) (i : Nat) (u : Value) : Blk (w.setCell ⟨g, i, none⟩ u) g t (cs.setIfInBounds i u) := by
  unfold Blk at *
  simp [World.setCell, Array.getElem?_modify, h]
theorem Blk.far (h : Blk w g t cs) {p : Addr} (hp : g ≠ p.block) (u : Value) : Blk (w.setCell p u) g t cs := by
  unfold Blk at *
  rw [Below.heap_setCell w p u g hp]
  exact h
theorem Blk.below {B : Nat} (h : Blk w g t cs) (hb : Below B w w') (hg : g < B) : Blk w' g t cs := by
  unfold Blk at *
  rw [hb.block g hg]
  exact h
theorem Blk.on (h : Blk w g t cs) (hb : Below w.heap.size w w') : Blk w' g t cs := h.below hb h.lt
theorem Blk.st3 {x y z : Value} (h : Blk w g t #[x, y, z]) (a b c : Value) : Blk (((w.setCell ⟨g, 0, none⟩ a).setCell ⟨g, 1, none⟩ b).setCell ⟨g, 2, none⟩ c) g t #[a, b, c] := ((h.set_ 0 a).set_ 1 b).set_ 2 c
theorem Blk.st6 {x y z r s u : Value} (h : Blk w g t #[x, y, z, r, s, u]) (a b c d e f : Value) : Blk ((((((w.setCell ⟨g, 0, none⟩ a).setCell ⟨g, 1, none⟩ b).setCell ⟨g, 2, none⟩ c).setCell ⟨g, 3, none⟩ d).setCell ⟨g, 4, none⟩ e).setCell ⟨g, 5, none⟩ f) g t #[a, b, c, d, e, f] :=
  (((((h.set_ 0 a).set_ 1 b).set_ 2 c).set_ 3 d).set_ 4 e).set_ 5 f
theorem Blk.c1 {a : Value} (h : Blk w g t #[a]) : w.cell? ⟨g, 0, none⟩ = some a ∧ w.frozen? ⟨g, 0, none⟩ = false := ⟨h.cell 0, h.frz 0⟩
theorem Blk.c3 {a b c : Value} (h : Blk w g t #[a, b, c]) : w.cell? ⟨g, 0, none⟩ = some a ∧ w.cell? ⟨g, 1, none⟩ = some b ∧ w.cell? ⟨g, 2, none⟩ = some c ∧ w.frozen? ⟨g, 0, none⟩ = false ∧ w.frozen? ⟨g, 1, none⟩ = false ∧ w.frozen? ⟨g, 2, none⟩ = false :=
  ⟨h.cell 0, h.cell 1, h.cell 2, h.frz 0, h.frz 1, h.frz 2⟩
theorem Blk.c6 {a b c d e f : Value} (h : Blk w g t #[a, b, c, d, e, f]) : (w.cell? ⟨g, 0, none⟩ = some a ∧ w.cell? ⟨g, 1, none⟩ = some b ∧ w.cell? ⟨g, 2, none⟩ = some c ∧ w.cell? ⟨g, 3, none⟩ = some d ∧ w.cell? ⟨g, 4, none⟩ = some e ∧ w.cell? ⟨g, 5, none⟩ = some f) ∧
    w.frozen? ⟨g, 0, none⟩ = false ∧ w.frozen? ⟨g, 1, none⟩ = false ∧ w.frozen? ⟨g, 2, none⟩ = false ∧ w.frozen? ⟨g, 3, none⟩ = false ∧ w.frozen? ⟨g, 4, none⟩ = false ∧ w.frozen? ⟨g, 5, none⟩ = false :=
  ⟨⟨h.cell 0, h.cell 1, h.cell 2, h.cell 3, h.cell 4, h.cell 5⟩, h.frz 0, h.frz 1, h.frz 2, h.frz 3, h.frz 4, h.frz 5⟩
/-- In every world with more draws and more blocks behind. -/
theorem Blk.re (h : Blk w g t cs) (d : Nat) (os : Array Obj) : Blk (Go.Sort.grow (redrawn w d) os) g t cs := h.below (below_regrown w d os) h.lt
theorem Blk.re3 {a b c : Value} (h : Blk w g t #[a, b, c]) : (∀ d os, (Go.Sort.grow (redrawn w d) os).cell? ⟨g, 0, none⟩ = some a) ∧ (∀ d os, (Go.Sort.grow (redrawn w d) os).cell? ⟨g, 1, none⟩ = some b) ∧ (∀ d os, (Go.Sort.grow (redrawn w d) os).cell? ⟨g, 2, none⟩ = some c) :=
  ⟨fun d os => (h.re d os).cell 0, fun d os => (h.re d os).cell 1, fun d os => (h.re d os).cell 2⟩
theorem Blk.re6 {a b c x y z : Value} (h : Blk w g t #[a, b, c, x, y, z]) : (∀ d os, (Go.Sort.grow (redrawn w d) os).cell? ⟨g, 0, none⟩ = some a) ∧ (∀ d os, (Go.Sort.grow (redrawn w d) os).cell? ⟨g, 1, none⟩ = some b) ∧ (∀ d os, (Go.Sort.grow (redrawn w d) os).cell? ⟨g, 2, none⟩ = some c) ∧
    (∀ d os, (Go.Sort.grow (redrawn w d) os).cell? ⟨g, 3, none⟩ = some x) ∧ (∀ d os, (Go.Sort.grow (redrawn w d) os).cell? ⟨g, 4, none⟩ = some y) ∧ (∀ d os, (Go.Sort.grow (redrawn w d) os).cell? ⟨g, 5, none⟩ = some z) :=
  ⟨fun d os => (h.re d os).cell 0, fun d os => (h.re d os).cell 1, fun d os => (h.re d os).cell 2, fun d os => (h.re d os).cell 3, fun d os => (h.re d os).cell 4, fun d os => (h.re d os).cell 5⟩
/-! ### a world after a call and a new block, under a name of its own -/
theorem Blk.step {w1 W : World} {o : Obj} (h : Blk w g t cs) (hb : Below w.heap.size w w1) (hW : W = w1.alloc o) : Blk W g t cs := by
  rw [hW]; exact (h.on hb).alloc o
theorem Blk.fresh {w1 W : World} (hW : W = w1.alloc (.cells cs t)) : Blk W w1.heap.size t cs := by
  rw [hW]; exact Blk.new w1 t cs
theorem step_below {v w1 W : World} {o : Obj} (h : Below v.heap.size v w) (hb : Below w.heap.size w w1) (hW : W = w1.alloc o) : Below v.heap.size v W := by
  rw [hW]; exact (after h hb).alloc (after h hb).size o
end
end Go.Proofs.Ytkopenemoddbbaa
