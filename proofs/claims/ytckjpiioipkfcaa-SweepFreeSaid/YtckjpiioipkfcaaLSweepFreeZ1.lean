/- Texts that build one behind the other, laid together: Base Plain Fix Span Fix2 Vec Vec2 Vec3 Last Vec4 Ref2 Span3 Base2 Next Float RF. -/
import Derived.WalkKit
import Derived.WalkSpells
import Derived.WalkLawsBesides
import Derived.Handy
import Derived.Lib.QuietBelow
import Derived.Lib.Hide
import Derived.BigQuiet
import Derived.Deep.RegionHeld3
import Derived.Shelf.Abstract
import Derived.Test.YtckjpiioipkfcaaRows
import Derived.Lib.Mul64
import Derived.RangeFuncNested
import Derived.RangeFuncBound
import Derived.RangeFuncCalls
import Derived.RangeFuncLeaves
/- Plain helpers of ours: no program in sight. -/
namespace Go.Proofs.Ytckjpiioipkfcaa
open Go.RowKit

/-! ### what a number of a kind is -/
def In64 (n : Int) : Prop := -9223372036854775808 ≤ n ∧ n ≤ 9223372036854775807
theorem in64_of_wf {n : Int} (h : (Lit.int .i64 n).wf = true) : In64 n := by
  simp [Lit.wf, IntKind.min, IntKind.max, IntKind.signed, IntKind.bits] at h
  exact ⟨by omega, by omega⟩
def InU8 (n : Int) : Prop := 0 ≤ n ∧ n ≤ 255
theorem inU8_of_wf {n : Int} (h : (Lit.int .u8 n).wf = true) : InU8 n := by
  simp [Lit.wf, IntKind.min, IntKind.max, IntKind.signed, IntKind.bits] at h
  exact ⟨by omega, by omega⟩
def InU16 (n : Int) : Prop := 0 ≤ n ∧ n ≤ 65535
theorem inU16_of_wf {n : Int} (h : (Lit.int .u16 n).wf = true) : InU16 n := by
  simp [Lit.wf, IntKind.min, IntKind.max, IntKind.signed, IntKind.bits] at h
  exact ⟨by omega, by omega⟩

/-! ### endings -/
theorem ret_i {k : IntKind} {a b : Int} (h : a = b) : Ending.returned (.int k a) = .returned (.int k b) := by rw [h]
theorem ret_b {a b : Bool} (h : a = b) : Ending.returned (.bool a) = .returned (.bool b) := by rw [h]

theorem ret_t2 {a b a' b' : Value} (h : a = a') (k : b = b') : Ending.returned (.tuple #[a, b]) = .returned (.tuple #[a', b']) := by rw [h, k]
theorem ret_t3 {a b c a' b' c' : Value} (h : a = a') (k : b = b') (l : c = c') : Ending.returned (.tuple #[a, b, c]) = .returned (.tuple #[a', b', c']) := by rw [h, k, l]
theorem vi {k : IntKind} {a b : Int} (h : a = b) : Value.int k a = .int k b := by rw [h]
theorem vb {a b : Bool} (h : a = b) : Value.bool a = .bool b := by rw [h]
theorem ret_v3 {k : IntKind} {a b c a' b' c' : Int} (h : a = a') (h2 : b = b') (h3 : c = c') : Ending.returned (.agg #[.int k a, .int k b, .int k c]) = .returned (.agg #[.int k a', .int k b', .int k c']) := by rw [h, h2, h3]

/-! ### min and max, behind a name (so that a walk does not part on them) -/
def mnI (x y : Int) : Int := min x y
def mxI (x y : Int) : Int := max x y
theorem run_mn {P : Program} (ts : Array TypeId) (t : TypeId) (k k' : IntKind) (x y : Int) (w : World) : (Builtin.min_ ts t #[.int k x, .int k' y]).run P w = .ok (.int k (mnI x y)) w := by
  rw [run_min_int2]
  have h : (if y < x then y else x) = mnI x y := by unfold mnI; omega
  rw [h]
theorem run_mx {P : Program} (ts : Array TypeId) (t : TypeId) (k k' : IntKind) (x y : Int) (w : World) : (Builtin.max_ ts t #[.int k x, .int k' y]).run P w = .ok (.int k (mxI x y)) w := by
  rw [run_max_int2]
  have h : (if x < y then y else x) = mxI x y := by unfold mxI; omega
  rw [h]

/-! ### memory -/
theorem after {w W W' : World} (h : Below w.heap.size w W) (k : Below W.heap.size W W') : Below w.heap.size w W' := h.trans (k.mono h.size)
theorem after' {n : Nat} {w W W' : World} (h : Below n w W) (hn : n ≤ w.heap.size) (k : Below W.heap.size W W') : Below n w W' := h.trans (k.mono (Nat.le_trans hn h.size))
theorem bcell {W w1 : World} (hb : Below W.heap.size W w1) : (∀ b o, b < W.heap.size → w1.cell? ⟨b, o, none⟩ = W.cell? ⟨b, o, none⟩) ∧ (∀ b o, b < W.heap.size → w1.frozen? ⟨b, o, none⟩ = W.frozen? ⟨b, o, none⟩) :=
  ⟨fun b o h => hb.cell (p := ⟨b, o, none⟩) h, fun b o h => hb.frozen (p := ⟨b, o, none⟩) h⟩

theorem calls_bel {P : Program} {f : FuncId} {args : Array Value} {w : World} {v : Value} (h : Calls P f args w fun e w' => e = .returned v ∧ w = w') : Calls P f args w fun e w' => e = .returned v ∧ Below w.heap.size w w' :=
  h.mono fun _ _ ⟨he, hw⟩ => ⟨he, by rw [← hw]; exact Below.refl _ _⟩
/-- Block g is just these cells, none of them frozen. -/
def Blk (w : World) (g : Nat) (t : TypeId) (cs : Array Value) : Prop := w.heap[g]? = some (.cells cs t (0, 0))

section
variable {w w' : World} {g : Nat} {t : TypeId} {cs : Array Value}
theorem Blk.lt (h : Blk w g t cs) : g < w.heap.size := by
  unfold Blk at h
  exact (Array.getElem?_eq_some_iff.1 h).1
theorem Blk.cell (h : Blk w g t cs) (i : Nat) : w.cell? ⟨g, i, none⟩ = cs[i]? := by
  unfold Blk at h
  simp [World.cell?, h]
theorem Blk.frz (h : Blk w g t cs) (i : Nat) : w.frozen? ⟨g, i, none⟩ = false := by
  unfold Blk at h
  simp [World.frozen?, h]
theorem Blk.new (w : World) (t : TypeId) (cs : Array Value) : Blk (w.alloc (.cells cs t)) w.heap.size t cs := heap_alloc_new w _
theorem Blk.new' {w : World} {g : Nat} {t : TypeId} {cs : Array Value} (h : g = w.heap.size) : Blk (w.alloc (.cells cs t)) g t cs := by subst h; exact Blk.new w t cs
theorem Blk.alloc (h : Blk w g t cs) (o : Obj) : Blk (w.alloc o) g t cs := by
  unfold Blk at *
  have hl := (Array.getElem?_eq_some_iff.1 h).1
  rw [Below.heap_alloc w o g hl]
  exact h
theorem Blk.drew (h : Blk w g t cs) : Blk w.drew g t cs := h
theorem Blk.drewN (h : Blk w g t cs) (n : Nat) : Blk (w.drewN n) g t cs := h
theorem Blk.set_ (h : Blk w g t cs) (i : Nat) (u : Value) : Blk (w.setCell ⟨g, i, none⟩ u) g t (cs.setIfInBounds i u) := by
  unfold Blk at *
  simp [World.setCell, Array.getElem?_modify, h]
theorem Blk.far (h : Blk w g t cs) {p : Addr} (hp : g ≠ p.block) (u : Value) : Blk (w.setCell p u) g t cs := by
  unfold Blk at *
  rw [Below.heap_setCell w p u g hp]
  exact h
theorem Blk.below {B : Nat} (h : Blk w g t cs) (hb : Below B w w') (hg : g < B) : Blk w' g t cs := by
  unfold Blk at *
  rw [hb.block g hg]
  exact h
theorem Blk.on (h : Blk w g t cs) (hb : Below w.heap.size w w') : Blk w' g t cs := h.below hb h.lt
theorem Blk.st3 {x y z : Value} (h : Blk w g t #[x, y, z]) (a b c : Value) : Blk (((w.setCell ⟨g, 0, none⟩ a).setCell ⟨g, 1, none⟩ b).setCell ⟨g, 2, none⟩ c) g t #[a, b, c] := ((h.set_ 0 a).set_ 1 b).set_ 2 c
theorem Blk.st6 {x y z r s u : Value} (h : Blk w g t #[x, y, z, r, s, u]) (a b c d e f : Value) : Blk ((((((w.setCell ⟨g, 0, none⟩ a).setCell ⟨g, 1, none⟩ b).setCell ⟨g, 2, none⟩ c).setCell ⟨g, 3, none⟩ d).setCell ⟨g, 4, none⟩ e).setCell ⟨g, 5, none⟩ f) g t #[a, b, c, d, e, f] :=
  (((((h.set_ 0 a).set_ 1 b).set_ 2 c).set_ 3 d).set_ 4 e).set_ 5 f
theorem Blk.c1 {a : Value} (h : Blk w g t #[a]) : w.cell? ⟨g, 0, none⟩ = some a ∧ w.frozen? ⟨g, 0, none⟩ = false := ⟨h.cell 0, h.frz 0⟩
theorem Blk.c3 {a b c : Value} (h : Blk w g t #[a, b, c]) : w.cell? ⟨g, 0, none⟩ = some a ∧ w.cell? ⟨g, 1, none⟩ = some b ∧ w.cell? ⟨g, 2, none⟩ = some c ∧ w.frozen? ⟨g, 0, none⟩ = false ∧ w.frozen? ⟨g, 1, none⟩ = false ∧ w.frozen? ⟨g, 2, none⟩ = false :=
  ⟨h.cell 0, h.cell 1, h.cell 2, h.frz 0, h.frz 1, h.frz 2⟩
theorem Blk.c6 {a b c d e f : Value} (h : Blk w g t #[a, b, c, d, e, f]) : (w.cell? ⟨g, 0, none⟩ = some a ∧ w.cell? ⟨g, 1, none⟩ = some b ∧ w.cell? ⟨g, 2, none⟩ = some c ∧ w.cell? ⟨g, 3, none⟩ = some d ∧ w.cell? ⟨g, 4, none⟩ = some e ∧ w.cell? ⟨g, 5, none⟩ = some f) ∧
    w.frozen? ⟨g, 0, none⟩ = false ∧ w.frozen? ⟨g, 1, none⟩ = false ∧ w.frozen? ⟨g, 2, none⟩ = false ∧ w.frozen? ⟨g, 3, none⟩ = false ∧ w.frozen? ⟨g, 4, none⟩ = false ∧ w.frozen? ⟨g, 5, none⟩ = false :=
  ⟨⟨h.cell 0, h.cell 1, h.cell 2, h.cell 3, h.cell 4, h.cell 5⟩, h.frz 0, h.frz 1, h.frz 2, h.frz 3, h.frz 4, h.frz 5⟩
/-- In every world with more draws and more blocks behind. -/
theorem Blk.re (h : Blk w g t cs) (d : Nat) (os : Array Obj) : Blk (Go.Sort.grow (redrawn w d) os) g t cs := h.below (below_regrown w d os) h.lt
theorem Blk.re3 {a b c : Value} (h : Blk w g t #[a, b, c]) : (∀ d os, (Go.Sort.grow (redrawn w d) os).cell? ⟨g, 0, none⟩ = some a) ∧ (∀ d os, (Go.Sort.grow (redrawn w d) os).cell? ⟨g, 1, none⟩ = some b) ∧ (∀ d os, (Go.Sort.grow (redrawn w d) os).cell? ⟨g, 2, none⟩ = some c) :=
  ⟨fun d os => (h.re d os).cell 0, fun d os => (h.re d os).cell 1, fun d os => (h.re d os).cell 2⟩
theorem Blk.re6 {a b c x y z : Value} (h : Blk w g t #[a, b, c, x, y, z]) : (∀ d os, (Go.Sort.grow (redrawn w d) os).cell? ⟨g, 0, none⟩ = some a) ∧ (∀ d os, (Go.Sort.grow (redrawn w d) os).cell? ⟨g, 1, none⟩ = some b) ∧ (∀ d os, (Go.Sort.grow (redrawn w d) os).cell? ⟨g, 2, none⟩ = some c) ∧
    (∀ d os, (Go.Sort.grow (redrawn w d) os).cell? ⟨g, 3, none⟩ = some x) ∧ (∀ d os, (Go.Sort.grow (redrawn w d) os).cell? ⟨g, 4, none⟩ = some y) ∧ (∀ d os, (Go.Sort.grow (redrawn w d) os).cell? ⟨g, 5, none⟩ = some z) :=
  ⟨fun d os => (h.re d os).cell 0, fun d os => (h.re d os).cell 1, fun d os => (h.re d os).cell 2, fun d os => (h.re d os).cell 3, fun d os => (h.re d os).cell 4, fun d os => (h.re d os).cell 5⟩
/-! ### a world after a call and a new block, under a name of its own -/
theorem Blk.step {w1 W : World} {o : Obj} (h : Blk w g t cs) (hb : Below w.heap.size w w1) (hW : W = w1.alloc o) : Blk W g t cs := by
  rw [hW]; exact (h.on hb).alloc o
theorem Blk.fresh {w1 W : World} (hW : W = w1.alloc (.cells cs t)) : Blk W w1.heap.size t cs := by
  rw [hW]; exact Blk.new w1 t cs
theorem step_below {v w1 W : World} {o : Obj} (h : Below v.heap.size v w) (hb : Below w.heap.size w w1) (hW : W = w1.alloc o) : Below v.heap.size v W := by
  rw [hW]; exact (after h hb).alloc (after h hb).size o
end
end Go.Proofs.Ytckjpiioipkfcaa

/- Plain numbers: what the functions of the layers 1 and 2 compute; no program in sight. -/
namespace Go.Proofs.Ytckjpiioipkfcaa
open Go.RowKit

/-- within the bounds -/
def cutI (n : Int) : Int := min (max n (-140737488355328)) 140737488355328
theorem cutI_lo (n : Int) : -140737488355328 ≤ cutI n := by unfold cutI; omega
theorem cutI_hi (n : Int) : cutI n ≤ 140737488355328 := by unfold cutI; omega
theorem cutI_id {n : Int} (h : -140737488355328 ≤ n) (k : n ≤ 140737488355328) : cutI n = n := by unfold cutI; omega
theorem cutI_cut (n : Int) : cutI (cutI n) = cutI n := by unfold cutI; omega
theorem cutI_mono {a b : Int} (h : a ≤ b) : cutI a ≤ cutI b := by unfold cutI; omega
def addI (a b : Int) : Int := cutI (cutI a + cutI b)
def subI (a b : Int) : Int := cutI (cutI a - cutI b)
/-- a product of fixed numbers, rounded down -/
def mulI (a b : Int) : Int := cutI (cutI a * cutI b / 65536)
/-- brecciaref01.Around -/
def arI (n m : Int) : Int := (if n < 0 then -(n + 1) else n) % m
theorem arI_lo (n : Int) {m : Int} (h : 0 < m) : 0 ≤ arI n m := by unfold arI; exact Int.emod_nonneg _ (by omega)
theorem arI_hi (n : Int) {m : Int} (h : 0 < m) : arI n m < m := by unfold arI; exact Int.emod_lt_of_pos _ h
def towI (n to by_ : Int) : Int := min (max (cutI to) (cutI n - max (cutI by_) 0)) (cutI n + max (cutI by_) 0)
/-- how great a number is -/
def absI (n : Int) : Int := if n < 0 then -n else n
def upI (n : Int) (below rest : Bool) : Int := if below && rest then n + 1 else n
def rndI (q : Int) (rest below : Bool) : Int :=
  if 140737488355328 ≤ q then (if below then -140737488355328 else 140737488355328)
  else if below then -(upI q below rest) else q
theorem upI_bd (n : Int) (b r : Bool) : n ≤ upI n b r ∧ upI n b r ≤ n + 1 := by unfold upI; split <;> omega
/-- a quotient of fixed numbers, rounded down -/
def quoI (a b : Int) : Int := rndI (absI (cutI a) * 65536 / absI (cutI b)) (absI (cutI a) * 65536 % absI (cutI b) != 0) (decide (cutI a < 0) != decide (cutI b < 0))
/-- axis i of a way -/
def axI (x y z i : Int) : Int := if i = 0 then x else if i = 1 then y else if i = 2 then z else 0
/-- axis i of a way of which axis a has got the number n -/
def wiI (x a i n : Int) : Int := if i = a then cutI n else x
theorem ediv_bd (a b : Int) (hb : 0 < b) : b * (a / b) ≤ a ∧ a < b * (a / b) + b := by
  have h1 := Int.mul_ediv_add_emod a b
  have h2 := Int.emod_nonneg a (show b ≠ 0 by omega)
  have h3 := Int.emod_lt_of_pos a hb
  omega
theorem ediv_abs (a b : Int) (hb : 0 < b) (h : 0 ≤ a) : 0 ≤ a / b ∧ a / b ≤ a := by
  refine ⟨Int.ediv_nonneg h (by omega), ?_⟩
  exact Int.ediv_le_self b h
/-- brecciaref01.Div: the quotient that Go gives, made one less where it is too great. -/
theorem rdiv_p (a b : Int) (h1 : -9223372036854775808 ≤ a) (h2 : a ≤ 9223372036854775807) (hb : 0 < b) :
    (a < wrap64 (a.tdiv b * b) → wrap64 (a.tdiv b - 1) = a / b) ∧ (wrap64 (a.tdiv b * b) ≤ a → a.tdiv b = a / b) := by
  have e := ediv_bd a b hb
  rcases Int.le_total 0 a with h | h
  · have e1 : a.tdiv b = a / b := Int.tdiv_eq_ediv_of_nonneg h
    have e2 := ediv_abs a b hb h
    rw [e1]
    have e3 : a / b * b = b * (a / b) := Int.mul_comm _ _
    have e4 : 0 ≤ b * (a / b) := Int.mul_nonneg (by omega) e2.1
    rw [e3, IntWalk.wrap64_in _ (by omega)]
    exact ⟨fun h => by omega, fun _ => rfl⟩
  · have e1 : a.tdiv b = -((-a) / b) := by
      rw [← Int.tdiv_eq_ediv_of_nonneg (show 0 ≤ -a by omega), Int.neg_tdiv, Int.neg_neg]
    have e2 := ediv_abs (-a) b hb (by omega)
    have e5 := ediv_bd (-a) b hb
    rw [e1]
    have e3 : -((-a) / b) * b = -(b * ((-a) / b)) := by rw [Int.neg_mul, Int.mul_comm]
    have e4 : 0 ≤ b * ((-a) / b) := Int.mul_nonneg (by omega) e2.1
    rw [e3, IntWalk.wrap64_in _ (by omega)]
    have key : ∀ q : Int, b * q ≤ a → a < b * q + b → q = a / b := by
      intro q hq hq2
      exact (Int.ediv_eq_iff_of_pos hb).2 ⟨by rw [Int.mul_comm]; exact hq, by rw [Int.mul_comm]; exact hq2⟩ |>.symm
    have e6 : b * (-((-a) / b)) = -(b * ((-a) / b)) := Int.mul_neg _ _
    have e7 : b * (-((-a) / b) - 1) = -(b * ((-a) / b)) - b := by rw [Int.mul_sub, e6, Int.mul_one]
    have e8 : 1 * (-a / b) ≤ b * (-a / b) := Int.mul_le_mul_of_nonneg_right (by omega) e2.1
    refine ⟨fun h => ?_, fun h => ?_⟩
    · rw [IntWalk.wrap64_in _ (by omega)]
      exact key _ (by omega) (by omega)
    · exact key _ (by omega) (by omega)
theorem sgn_of {n : Int} (h : -140737488355328 ≤ n) (k : n ≤ 140737488355328) : n = 0 ∨ (∃ x, n = x ∧ 0 < x ∧ x ≤ 140737488355328) ∨ ∃ x, n = -x ∧ 0 < x ∧ x ≤ 140737488355328 := by
  rcases Int.lt_trichotomy n 0 with h1 | h1 | h1
  · exact .inr (.inr ⟨-n, by omega, by omega, by omega⟩)
  · exact .inl h1
  · exact .inr (.inl ⟨n, rfl, h1, k⟩)
theorem mul_p {x y : Int} (hx : 0 < x) (hy : 0 < y) : (9223372036854775807 / y < x → 9223372036854775807 < x * y) ∧ (x ≤ 9223372036854775807 / y → x * y ≤ 9223372036854775807) ∧ 0 < x * y := by
  refine ⟨fun h => ?_, fun h => ?_, Int.mul_pos hx hy⟩
  · exact (Int.ediv_lt_iff_lt_mul hy).1 h
  · exact (Int.le_ediv_iff_mul_le hy).1 h
theorem mulI_p {a b p : Int} (h : cutI a * cutI b = p) : mulI a b = cutI (p / 65536) := by rw [← h]; rfl
theorem absI_bd {n : Int} (h : -140737488355328 ≤ n) (k : n ≤ 140737488355328) : 0 ≤ absI n ∧ absI n ≤ 140737488355328 := by unfold absI; omega
theorem mul_sgn (u v : Int) : u * v = if (decide (u < 0) != decide (v < 0)) then -(absI u * absI v) else absI u * absI v := by
  unfold absI
  by_cases h1 : u < 0 <;> by_cases h2 : v < 0 <;> simp [h1, h2, Int.neg_mul, Int.mul_neg]
theorem mul_rnd (u v p : Int) (hp : absI u * absI v = p) (h0 : 0 ≤ p) :
    (0 < p / 18446744073709551616 → ∀ r, rndI 140737488355328 r (decide (u < 0) != decide (v < 0)) = cutI (u * v / 65536)) ∧
    (p / 18446744073709551616 ≤ 0 → rndI (p % 18446744073709551616 / 65536) (p % 65536 != 0) (decide (u < 0) != decide (v < 0)) = cutI (u * v / 65536)) := by
  rw [mul_sgn, hp]
  unfold rndI upI cutI
  cases (decide (u < 0) != decide (v < 0)) <;> simp <;> refine ⟨?_, ?_⟩ <;> intros <;> omega
theorem bits_and_mask (n : Int) : bits .and .i64 n 65535 = n % 65536 := by
  show IntKind.i64.wrap ((BitVec.ofInt 64 n &&& BitVec.ofInt 64 65535).toNat : Int) = _
  have e : (BitVec.ofInt 64 65535).toNat = 2 ^ 16 - 1 := by decide
  rw [BitVec.toNat_and, e, Nat.and_two_pow_sub_one_eq_mod, BitVec.toNat_ofInt, IntKind.wrap_i64]
  omega
theorem absI_pos {n : Int} (h : n ≠ 0) : 0 < absI n := by unfold absI; omega
/-- One digit more. -/
theorem dbl (X y : Int) (hy : 0 < y) : (2 * X) / y = 2 * (X / y) + (if y ≤ 2 * (X % y) then 1 else 0) ∧ (2 * X) % y = 2 * (X % y) - (if y ≤ 2 * (X % y) then y else 0) := by
  have h1 := Int.mul_ediv_add_emod X y
  have h2 := Int.emod_nonneg X (show y ≠ 0 by omega)
  have h3 := Int.emod_lt_of_pos X hy
  have h4 := Int.mul_ediv_add_emod (2 * X) y
  have key : ∀ q r : Int, y * q + r = 2 * X → 0 ≤ r → r < y → (2 * X) / y = q ∧ (2 * X) % y = r := by
    intro q r e a b
    have e2 : r + y * q = 2 * X := by omega
    rw [← e2]
    refine ⟨?_, ?_⟩
    · rw [Int.add_mul_ediv_left _ _ (by omega), Int.ediv_eq_zero_of_lt a b]; omega
    · rw [Int.add_mul_emod_self_left, Int.emod_eq_of_lt a b]
  split
  · refine key _ _ ?_ (by omega) (by omega)
    have : y * (2 * (X / y) + 1) = 2 * (y * (X / y)) + y := by rw [Int.mul_add, Int.mul_one, Int.mul_left_comm]
    omega
  · refine key _ _ ?_ (by omega) (by omega)
    have : y * (2 * (X / y) + 0) = 2 * (y * (X / y)) := by rw [Int.add_zero, Int.mul_left_comm]
    omega
end Go.Proofs.Ytckjpiioipkfcaa

/- The walks of the layer 1 (fixed) and of its reference. -/
namespace Go.Proofs.Ytckjpiioipkfcaa
open Go.RowKit

set_option maxHeartbeats 400000 in
theorem rcut_c (n : Int) (w : World) : Calls Try.prog 37 #[.int .i64 n] w fun e w' => e = .returned (.int .i64 (cutI n)) ∧ w = w' := by
  go_enter Try.func37, Try.ntmps37
  go_wp2
  all_goals (go_returns; exact ⟨ret_i (by unfold cutI; omega), rfl⟩)
set_option maxHeartbeats 400000 in
theorem fcut_c (n : Int) (w : World) : Calls Try.prog 56 #[.int .i64 n] w fun e w' => e = .returned (.int .i64 (cutI n)) ∧ w = w' := by
  go_enter Try.func56, Try.ntmps56
  go_wp2
  all_goals (go_returns; exact ⟨ret_i (by unfold cutI; omega), rfl⟩)
set_option maxHeartbeats 400000 in
theorem fadd_c (a b : Int) (w : World) : Calls Try.prog 68 #[.int .i64 a, .int .i64 b] w fun e w' => e = .returned (.int .i64 (addI a b)) ∧ w = w' := by
  have h1 := cutI_lo a
  have h2 := cutI_hi a
  have h3 := cutI_lo b
  have h4 := cutI_hi b
  go_enter Try.func68, Try.ntmps68
  go_wp2_with (go_at_call 56; refine (fcut_c _ _).mono ?_; rintro e w1 ⟨rfl, rfl⟩)
  go_returns
  exact ⟨ret_i rfl, rfl⟩
set_option maxHeartbeats 400000 in
theorem fsub_c (a b : Int) (w : World) : Calls Try.prog 65 #[.int .i64 a, .int .i64 b] w fun e w' => e = .returned (.int .i64 (subI a b)) ∧ w = w' := by
  have h1 := cutI_lo a
  have h2 := cutI_hi a
  have h3 := cutI_lo b
  have h4 := cutI_hi b
  go_enter Try.func65, Try.ntmps65
  go_wp2_with (go_at_call 56; refine (fcut_c _ _).mono ?_; rintro e w1 ⟨rfl, rfl⟩)
  go_returns
  exact ⟨ret_i rfl, rfl⟩
set_option maxHeartbeats 400000 in
theorem radd_c (a b : Int) (w : World) : Calls Try.prog 53 #[.int .i64 a, .int .i64 b] w fun e w' => e = .returned (.int .i64 (addI a b)) ∧ w = w' := by
  have h1 := cutI_lo a
  have h2 := cutI_hi a
  have h3 := cutI_lo b
  have h4 := cutI_hi b
  go_enter Try.func53, Try.ntmps53
  go_wp2_with (go_at_call 37; refine (rcut_c _ _).mono ?_; rintro e w1 ⟨rfl, rfl⟩)
  go_returns
  exact ⟨ret_i rfl, rfl⟩
set_option maxHeartbeats 400000 in
theorem around_c (n m : Int) (hn : -9223372036854775808 ≤ n) (hn2 : n ≤ 9223372036854775807) (hm : 0 < m) (w : World) : Calls Try.prog 12 #[.int .i64 n, .int .i64 m] w fun e w' => e = .returned (.int .i64 (arI n m)) ∧ w = w' := by
  by_cases h : n < 0
  all_goals
    go_enter Try.func12, Try.ntmps12
    go_wp2
    go_returns
    exact ⟨ret_i (by unfold arI; first | rw [if_neg (by omega)] | rw [if_pos h, ← Int.neg_tmod, Int.tmod_eq_emod_of_nonneg (a := -(n + 1)) (b := m) (by omega)]), rfl⟩
set_option maxHeartbeats 400000 in
theorem rdiv_c (a b : Int) (h1 : -9223372036854775808 ≤ a) (h2 : a ≤ 9223372036854775807) (hb : 0 < b) (w : World) : Calls Try.prog 32 #[.int .i64 a, .int .i64 b] w fun e w' => e = .returned (.int .i64 (a / b)) ∧ w = w' := by
  have p := Lib.hid (rdiv_p a b h1 h2 hb)
  go_enter Try.func32, Try.ntmps32
  go_wp2
  all_goals
    go_returns
    exact ⟨ret_i (by first | exact p.out.1 (by assumption) | exact p.out.2 (by assumption)), rfl⟩
theorem rcut_e (n v : Int) (h : cutI n = v) (w : World) : Calls Try.prog 37 #[.int .i64 n] w fun e w' => e = .returned (.int .i64 v) ∧ w = w' := by
  rw [← h]; exact rcut_c n w
theorem rdiv_e (a b v : Int) (h1 : -9223372036854775808 ≤ a) (h2 : a ≤ 9223372036854775807) (hb : 0 < b) (h : a / b = v) (w : World) : Calls Try.prog 32 #[.int .i64 a, .int .i64 b] w fun e w' => e = .returned (.int .i64 v) ∧ w = w' := by
  rw [← h]; exact rdiv_c a b h1 h2 hb w

end Go.Proofs.Ytckjpiioipkfcaa

/- The cells of a box along an axis: the plain law; the document's floor. -/
namespace Go.Proofs.Ytckjpiioipkfcaa
open Go.RowKit

/-- The least, the greatest cell from n to m along an axis; is nothing there? -/
def lowI (n : Int) : Int := cutI n / 65536
def topI (n m : Int) : Int := if lowI m * 65536 = m ∧ lowI n < lowI m then lowI m - 1 else lowI m
def thinI (n m : Int) : Bool := (n == m) && (lowI n * 65536 == n)
/-- The program's greatest cell is the document's. -/
theorem topI_prog {n m : Int} (h1 : -140737488355328 ≤ n) (h2 : m ≤ 140737488355328) (h : n ≤ m) : (if n = m then lowI n else cutI (cutI m + cutI (-1)) / 65536) = topI n m := by
  unfold topI lowI
  rw [cutI_id h1 (by omega), cutI_id (by omega) h2, cutI_id (n := -1) (by decide) (by decide)]
  by_cases he : n = m
  · subst he; rw [if_pos rfl, if_neg (by omega)]
  · rw [if_neg he, cutI_id (by omega) (by omega)]
    split <;> omega
theorem thinI_prog {n m : Int} (h1 : -140737488355328 ≤ n) (h2 : n ≤ 140737488355328) : ((n == m) && (cutI n % 65536 == 0)) = thinI n m := by
  unfold thinI lowI
  rw [cutI_id h1 h2]
  congr 1
  rw [Bool.eq_iff_iff]
  simp only [beq_iff_eq]
  omega
theorem topI_low {n m : Int} (h1 : -140737488355328 ≤ n) (h2 : m ≤ 140737488355328) (h : n ≤ m) : lowI n ≤ topI n m := by
  unfold topI lowI
  rw [cutI_id h1 (by omega), cutI_id (by omega) h2]
  split <;> omega
theorem rfloor_c (n : Int) (w : World) : Calls Try.prog 69 #[.int .i64 n] w fun r w' => r = .returned (.int .i64 (lowI n)) ∧ w = w' := by
  have h1 := cutI_lo n
  have h2 := cutI_hi n
  go_enter Try.func69, Try.ntmps69
  go_wp2_with fail
  refine (rcut_c _ _).mono ?_; rintro e w1 ⟨rfl, rfl⟩
  go_wp2_with fail
  refine (rdiv_c _ _ (by omega) (by omega) (by decide) _).mono ?_; rintro e w1 ⟨rfl, rfl⟩
  go_wp2_with fail
  go_returns
  exact ⟨ret_i rfl, rfl⟩
theorem thin_c (n m lo hi : Int) (w : World) : Calls Try.prog 74 #[.int .i64 n, .int .i64 m, .int .i64 lo, .int .i64 hi] w fun r w' => r = .returned (.int .i64 (if n = m then lo else hi)) ∧ w = w' := by
  by_cases h : n = m
  · have h' : (n == m) = true := by simpa using h
    rw [if_pos h]
    clear h
    go_enter Try.func74, Try.ntmps74
    go_wp2_with fail
    go_returns
    exact ⟨rfl, rfl⟩
  · have h' : (n == m) = false := by simpa using h
    rw [if_neg h]
    clear h
    go_enter Try.func74, Try.ntmps74
    go_wp2_with fail
    go_returns
    exact ⟨rfl, rfl⟩
end Go.Proofs.Ytckjpiioipkfcaa

/- The walks of the layer 1 (fixed) and of its reference: what stands on memory, and quotients. -/
namespace Go.Proofs.Ytckjpiioipkfcaa
open Go.RowKit


end Go.Proofs.Ytckjpiioipkfcaa

/- The walks of the layer 2 (vec): ways. -/
namespace Go.Proofs.Ytckjpiioipkfcaa
open Go.RowKit

set_option maxHeartbeats 400000 in
theorem parts_c (b : Nat) (w : World) : Calls Try.prog 58 #[.pointer (some ⟨b, 0, none⟩)] w fun e w' => e = .returned (.agg #[.pointer (some ⟨b, 0, none⟩), .pointer (some ⟨b, 1, none⟩), .pointer (some ⟨b, 2, none⟩)]) ∧ Below w.heap.size w w' := by
  go_enter Try.func58, Try.ntmps58
  go_wp2
  go_region
  all_goals go_wp2
  all_goals go_returns
  all_goals exact ⟨rfl, by go_grown⟩
theorem idx0 (a b c : Option Addr) (w : World) : (Instr.index 78 (.agg #[.pointer a, .pointer b, .pointer c]) (.int .i64 0)).run Try.prog w = .ok (.pointer a) w := by kernel_rfl
theorem idx1 (a b c : Option Addr) (w : World) : (Instr.index 78 (.agg #[.pointer a, .pointer b, .pointer c]) (.int .i64 1)).run Try.prog w = .ok (.pointer b) w := by kernel_rfl
theorem idx2 (a b c : Option Addr) (w : World) : (Instr.index 78 (.agg #[.pointer a, .pointer b, .pointer c]) (.int .i64 2)).run Try.prog w = .ok (.pointer c) w := by kernel_rfl
theorem axI_0 (x y z : Int) : axI x y z 0 = x := rfl
theorem axI_1 (x y z : Int) : axI x y z 1 = y := rfl
theorem axI_2 (x y z : Int) : axI x y z 2 = z := rfl
theorem axI_no {x y z a : Int} (h : a < 0 ∨ 2 < a) : axI x y z a = 0 := by unfold axI; rw [if_neg (by omega), if_neg (by omega), if_neg (by omega)]
set_option maxHeartbeats 1000000 in
theorem axis_c (x y z a : Int) (w : World) : Calls Try.prog 40 #[.agg #[.int .i64 x, .int .i64 y, .int .i64 z], .int .i64 a] w fun e w' => e = .returned (.int .i64 (axI x y z a)) ∧ Below w.heap.size w w' := by
  by_cases h : a < 0
  · go_enter Try.func40, Try.ntmps40
    go_wp2_with fail
    go_returns
    exact ⟨ret_i (axI_no (.inl (by omega))).symm, by go_grown⟩
  by_cases h2 : 2 < a
  · go_enter Try.func40, Try.ntmps40
    go_wp2_with fail
    go_returns
    exact ⟨ret_i (axI_no (.inr (by omega))).symm, by go_grown⟩
  have h0 : a = 0 ∨ a = 1 ∨ a = 2 := by omega
  clear h h2
  have i0 := idx0
  have i1 := idx1
  have i2 := idx2
  rcases h0 with rfl | rfl | rfl
  all_goals
    go_enter Try.func40, Try.ntmps40
    go_wp2_with fail
    refine (parts_c _ _).mono ?_; rintro e w1 ⟨rfl, hb⟩; obtain ⟨hc, hf⟩ := bcell hb
    go_wp2_with fail
    go_returns
    exact ⟨ret_i rfl, by (repeat' (first | (with_reducible exact Below.refl _ _) | (with_reducible assumption) | (with_reducible refine Below.alloc ?_ ?_ _) | (with_reducible refine Below.drew ?_) | (with_reducible refine Below.setCell ?_ ?_ _) | (with_reducible refine after ?_ (below_regrown _ _ _)) | (refine after ?_ (by with_reducible assumption)) | go_size))⟩
theorem axis_e (x y z a v : Int) (h : axI x y z a = v) (w : World) : Calls Try.prog 40 #[.agg #[.int .i64 x, .int .i64 y, .int .i64 z], .int .i64 a] w fun e w' => e = .returned (.int .i64 v) ∧ Below w.heap.size w w' := by
  rw [← h]; exact axis_c x y z a w
set_option maxHeartbeats 2000000 in
theorem each_c (g : FuncId) (caps : Array Value) (f : Int → Int → Int) (x y z : Int) (w : World) (he : ∀ args w, (callFunc g args).run Try.prog w = .ok (.enter g args) w)
    (hC : ∀ (i n : Int) W, Below w.heap.size w W → Calls Try.prog g (#[.int .i64 i, .int .i64 n] ++ caps) W fun e W' => e = .returned (.int .i64 (f i n)) ∧ Below W.heap.size W W') :
    Calls Try.prog 54 #[.agg #[.int .i64 x, .int .i64 y, .int .i64 z], .func (.func g) #[] caps] w fun e w' => e = .returned (.agg #[.int .i64 (f 0 x), .int .i64 (f 1 y), .int .i64 (f 2 z)]) ∧ Below w.heap.size w w' := by
  have i0 := idx0
  have i1 := idx1
  have i2 := idx2
  have HC := Lib.hid hC
  clear hC
  go_enter Try.func54, Try.ntmps54
  go_wp2_with fail
  have B0 : Blk ((w.alloc (.cells #[.int .i64 x, .int .i64 y, .int .i64 z] 26)).alloc (.cells #[.int .i64 0, .int .i64 0, .int .i64 0] 26)) w.heap.size 26 #[.int .i64 x, .int .i64 y, .int .i64 z] := (Blk.new' rfl).alloc _
  have C0 : Blk ((w.alloc (.cells #[.int .i64 x, .int .i64 y, .int .i64 z] 26)).alloc (.cells #[.int .i64 0, .int .i64 0, .int .i64 0] 26)) (w.heap.size + 1) 26 #[.int .i64 0, .int .i64 0, .int .i64 0] := Blk.new' (by simp)
  have H0 : Below w.heap.size w ((w.alloc (.cells #[.int .i64 x, .int .i64 y, .int .i64 z] 26)).alloc (.cells #[.int .i64 0, .int .i64 0, .int .i64 0] 26)) := by go_grown
  refine (parts_c _ _).mono ?_; rintro e w1 ⟨rfl, hb⟩
  have B1 := B0.on hb
  have C1 := C0.on hb
  have H1 := after H0 hb
  clear hb B0 C0 H0
  obtain ⟨b0, b1, b2, b3, b4, b5⟩ := B1.c3
  go_wp2_with fail
  refine wp_loop_rounds 4 ?_
  rw [rounds_succ]
  go_wp2_with fail
  refine (HC.out 0 x _ H1).mono ?_; rintro e w2 ⟨rfl, hb⟩
  have B2 := B1.on hb
  have C2 := C1.on hb
  have H2 := after H1 hb
  clear hb b0 b1 b2 b3 b4 b5 B1 C1 H1
  obtain ⟨b0, b1, b2, b3, b4, b5⟩ := B2.c3
  have B3 := B2.set_ 0 (.int .i64 (f 0 x))
  have C3 := C2.far (p := ⟨w.heap.size, 0, none⟩) (by simp) (.int .i64 (f 0 x))
  have H3 := H2.setCell (p := ⟨w.heap.size, 0, none⟩) (Nat.le_refl _) (.int .i64 (f 0 x))
  go_wp2_with fail
  rw [rounds_succ]
  clear b0 b1 b2 b3 b4 b5
  obtain ⟨b0, b1, b2, b3, b4, b5⟩ := B3.c3
  go_wp2_with fail
  refine (HC.out 1 y _ H3).mono ?_; rintro e w4 ⟨rfl, hb⟩
  have B4 := B3.on hb
  have C4 := C3.on hb
  have H4 := after H3 hb
  clear hb b0 b1 b2 b3 b4 b5 B3 C3 H3 B2 C2 H2
  obtain ⟨b0, b1, b2, b3, b4, b5⟩ := B4.c3
  have B5 := B4.set_ 1 (.int .i64 (f 1 y))
  have C5 := C4.far (p := ⟨w.heap.size, 1, none⟩) (by simp) (.int .i64 (f 1 y))
  have H5 := H4.setCell (p := ⟨w.heap.size, 1, none⟩) (Nat.le_refl _) (.int .i64 (f 1 y))
  go_wp2_with fail
  rw [rounds_succ]
  clear b0 b1 b2 b3 b4 b5
  obtain ⟨b0, b1, b2, b3, b4, b5⟩ := B5.c3
  go_wp2_with fail
  refine (HC.out 2 z _ H5).mono ?_; rintro e w6 ⟨rfl, hb⟩
  have B6 := B5.on hb
  have C6 := C5.on hb
  have H6 := after H5 hb
  clear hb b0 b1 b2 b3 b4 b5 B5 C5 H5 B4 C4 H4
  obtain ⟨b0, b1, b2, b3, b4, b5⟩ := B6.c3
  obtain ⟨c0, c1, c2, c3, c4, c5⟩ := C6.c3
  have B7 := B6.set_ 2 (.int .i64 (f 2 z))
  have C7 := C6.far (p := ⟨w.heap.size, 2, none⟩) (by simp) (.int .i64 (f 2 z))
  have H7 := H6.setCell (p := ⟨w.heap.size, 2, none⟩) (Nat.le_refl _) (.int .i64 (f 2 z))
  go_wp2_with fail
  rw [rounds_succ]
  clear b0 b1 b2 b3 b4 b5 c0 c1 c2 c3 c4 c5
  obtain ⟨b0, b1, b2, b3, b4, b5⟩ := B7.c3
  obtain ⟨c0, c1, c2, c3, c4, c5⟩ := C7.c3
  have C8 := ((C7.set_ 0 (.int .i64 (f 0 x))).set_ 1 (.int .i64 (f 1 y))).set_ 2 (.int .i64 (f 2 z))
  go_wp2_with fail
  obtain ⟨d0, d1, d2, -, -, -⟩ := C8.c3
  exact bodyPost_ret (v := .agg #[.int .i64 (f 0 x), .int .i64 (f 1 y), .int .i64 (f 2 z)]) (by simp [results, Try.results54, go_sem, d0, d1, d2]) rfl ⟨rfl, by (repeat' (first | (with_reducible exact Below.refl _ _) | (with_reducible assumption) | (with_reducible refine Below.alloc ?_ ?_ _) | (with_reducible refine Below.drew ?_) | (with_reducible refine Below.setCell ?_ ?_ _) | (with_reducible refine after ?_ (below_regrown _ _ _)) | (refine after ?_ (by with_reducible assumption)) | go_size))⟩
end Go.Proofs.Ytckjpiioipkfcaa

/- The walks of the layer 2 (vec): what is made of each number of a way. -/
namespace Go.Proofs.Ytckjpiioipkfcaa
open Go.RowKit

set_option maxHeartbeats 400000 in
theorem with1_c (i n a m : Int) (w : World) (b c : Nat) (h : w.cell? ⟨b, 0, none⟩ = some (.int .i64 a)) (h2 : w.cell? ⟨c, 0, none⟩ = some (.int .i64 m)) : Calls Try.prog 55 #[.int .i64 i, .int .i64 n, .pointer (some ⟨b, 0, none⟩), .pointer (some ⟨c, 0, none⟩)] w fun e w' => e = .returned (.int .i64 (wiI n a i m)) ∧ Below w.heap.size w w' := by
  by_cases g : i = a
  · have t : (i == a) = true := by simpa using g
    have G := Lib.hid g
    clear g
    go_enter Try.func55, Try.ntmps55
    go_wp2_with fail
    refine (fcut_c _ _).mono ?_; rintro e w1 ⟨rfl, rfl⟩
    go_wp2_with fail
    go_returns
    exact ⟨ret_i (by unfold wiI; rw [if_pos G.out]), by (repeat' (first | (with_reducible exact Below.refl _ _) | (with_reducible assumption) | (with_reducible refine Below.alloc ?_ ?_ _) | (with_reducible refine Below.drew ?_) | (with_reducible refine Below.setCell ?_ ?_ _) | (with_reducible refine after ?_ (below_regrown _ _ _)) | (refine after ?_ (by with_reducible assumption)) | go_size))⟩
  · have t : (i == a) = false := by simpa using g
    have G := Lib.hid g
    clear g
    go_enter Try.func55, Try.ntmps55
    go_wp2_with fail
    go_returns
    exact ⟨ret_i (by unfold wiI; rw [if_neg G.out]), by (repeat' (first | (with_reducible exact Below.refl _ _) | (with_reducible assumption) | (with_reducible refine Below.alloc ?_ ?_ _) | (with_reducible refine Below.drew ?_) | (with_reducible refine Below.setCell ?_ ?_ _) | (with_reducible refine after ?_ (below_regrown _ _ _)) | (refine after ?_ (by with_reducible assumption)) | go_size))⟩
set_option maxHeartbeats 1000000 in
theorem with_c (x y z a m : Int) (w : World) : Calls Try.prog 38 #[.agg #[.int .i64 x, .int .i64 y, .int .i64 z], .int .i64 a, .int .i64 m] w fun e w' => e = .returned (.agg #[.int .i64 (wiI x a 0 m), .int .i64 (wiI y a 1 m), .int .i64 (wiI z a 2 m)]) ∧ Below w.heap.size w w' := by
  have e := enters_of Try.func55 (by kernel_rfl) rfl
  go_enter Try.func38, Try.ntmps38
  go_wp2_with fail
  have R0 : Blk ((((w.alloc (.cells #[.int .i64 x, .int .i64 y, .int .i64 z] 26)).alloc (.cells #[.int .i64 a] 3)).alloc (.cells #[.int .i64 m] 3)).alloc (.cells #[.int .i64 0, .int .i64 0, .int .i64 0] 26)) (w.heap.size + 1 + 1 + 1) 26 #[.int .i64 0, .int .i64 0, .int .i64 0] := Blk.new' (by simp)
  have A0 : Blk ((((w.alloc (.cells #[.int .i64 x, .int .i64 y, .int .i64 z] 26)).alloc (.cells #[.int .i64 a] 3)).alloc (.cells #[.int .i64 m] 3)).alloc (.cells #[.int .i64 0, .int .i64 0, .int .i64 0] 26)) (w.heap.size + 1) 3 #[.int .i64 a] := ((Blk.new' (by simp)).alloc _).alloc _
  have M0 : Blk ((((w.alloc (.cells #[.int .i64 x, .int .i64 y, .int .i64 z] 26)).alloc (.cells #[.int .i64 a] 3)).alloc (.cells #[.int .i64 m] 3)).alloc (.cells #[.int .i64 0, .int .i64 0, .int .i64 0] 26)) (w.heap.size + 1 + 1) 3 #[.int .i64 m] := (Blk.new' (by simp)).alloc _
  refine (each_c 55 _ (fun i n => wiI n a i m) _ _ _ _ e ?_).mono ?_
  · intro i n W hW
    exact with1_c i n a m W _ _ (A0.on hW).c1.1 (M0.on hW).c1.1
  rintro e w1 ⟨rfl, hb⟩
  have R := R0.on hb
  clear R0 A0 M0
  obtain ⟨r0, r1, r2, r3, r4, r5⟩ := R.c3
  go_wp2_with fail
  have R2 := R.st3 (.int .i64 (wiI x a 0 m)) (.int .i64 (wiI y a 1 m)) (.int .i64 (wiI z a 2 m))
  obtain ⟨d0, d1, d2, -, -, -⟩ := R2.c3
  exact bodyPost_ret (v := .agg #[.int .i64 (wiI x a 0 m), .int .i64 (wiI y a 1 m), .int .i64 (wiI z a 2 m)]) (by simp [results, Try.results38, go_sem, d0, d1, d2]) rfl ⟨rfl, by (repeat' (first | (with_reducible exact Below.refl _ _) | (with_reducible assumption) | (with_reducible refine Below.alloc ?_ ?_ _) | (with_reducible refine Below.drew ?_) | (with_reducible refine Below.setCell ?_ ?_ _) | (with_reducible refine after ?_ (below_regrown _ _ _)) | (refine after ?_ (by with_reducible assumption)) | go_size))⟩
set_option maxHeartbeats 400000 in
theorem add1_c (i n x y z : Int) (w : World) (b : Nat) (h : Blk w b 26 #[.int .i64 x, .int .i64 y, .int .i64 z]) : Calls Try.prog 67 #[.int .i64 i, .int .i64 n, .pointer (some ⟨b, 0, none⟩)] w fun e w' => e = .returned (.int .i64 (addI n (axI x y z i))) ∧ Below w.heap.size w w' := by
  obtain ⟨r0, r1, r2, -, -, -⟩ := h.c3
  go_enter Try.func67, Try.ntmps67
  go_wp2_with fail
  refine (axis_c _ _ _ _ _).mono ?_; rintro e w1 ⟨rfl, hb⟩
  go_wp2_with fail
  refine (fadd_c _ _ _).mono ?_; rintro e w1 ⟨rfl, rfl⟩
  go_wp2_with fail
  go_returns
  exact ⟨ret_i rfl, by (repeat' (first | (with_reducible exact Below.refl _ _) | (with_reducible assumption) | (with_reducible refine Below.alloc ?_ ?_ _) | (with_reducible refine Below.drew ?_) | (with_reducible refine Below.setCell ?_ ?_ _) | (with_reducible refine after ?_ (below_regrown _ _ _)) | (refine after ?_ (by with_reducible assumption)) | go_size))⟩
set_option maxHeartbeats 1000000 in
theorem add_c (x y z x' y' z' : Int) (w : World) : Calls Try.prog 63 #[.agg #[.int .i64 x, .int .i64 y, .int .i64 z], .agg #[.int .i64 x', .int .i64 y', .int .i64 z']] w fun e w' => e = .returned (.agg #[.int .i64 (addI x x'), .int .i64 (addI y y'), .int .i64 (addI z z')]) ∧ Below w.heap.size w w' := by
  have e := enters_of Try.func67 (by kernel_rfl) rfl
  go_enter Try.func63, Try.ntmps63
  go_wp2_with fail
  have R0 : Blk (((w.alloc (.cells #[.int .i64 x, .int .i64 y, .int .i64 z] 26)).alloc (.cells #[.int .i64 x', .int .i64 y', .int .i64 z'] 26)).alloc (.cells #[.int .i64 0, .int .i64 0, .int .i64 0] 26)) (w.heap.size + 1 + 1) 26 #[.int .i64 0, .int .i64 0, .int .i64 0] := Blk.new' (by simp)
  have A0 : Blk (((w.alloc (.cells #[.int .i64 x, .int .i64 y, .int .i64 z] 26)).alloc (.cells #[.int .i64 x', .int .i64 y', .int .i64 z'] 26)).alloc (.cells #[.int .i64 0, .int .i64 0, .int .i64 0] 26)) (w.heap.size + 1) 26 #[.int .i64 x', .int .i64 y', .int .i64 z'] := (Blk.new' (by simp)).alloc _
  refine (each_c 67 _ (fun i n => addI n (axI x' y' z' i)) _ _ _ _ e ?_).mono ?_
  · intro i n W hW
    exact add1_c i n x' y' z' W _ (A0.on hW)
  rintro e w1 ⟨rfl, hb⟩
  have R := R0.on hb
  clear R0 A0
  obtain ⟨r0, r1, r2, r3, r4, r5⟩ := R.c3
  simp only [axI_0, axI_1, axI_2]
  go_wp2_with fail
  have R2 := R.st3 (.int .i64 (addI x x')) (.int .i64 (addI y y')) (.int .i64 (addI z z'))
  obtain ⟨d0, d1, d2, -, -, -⟩ := R2.c3
  exact bodyPost_ret (v := .agg #[.int .i64 (addI x x'), .int .i64 (addI y y'), .int .i64 (addI z z')]) (by simp [results, Try.results63, go_sem, d0, d1, d2]) rfl ⟨rfl, by (repeat' (first | (with_reducible exact Below.refl _ _) | (with_reducible assumption) | (with_reducible refine Below.alloc ?_ ?_ _) | (with_reducible refine Below.drew ?_) | (with_reducible refine Below.setCell ?_ ?_ _) | (with_reducible refine after ?_ (below_regrown _ _ _)) | (refine after ?_ (by with_reducible assumption)) | go_size))⟩
end Go.Proofs.Ytckjpiioipkfcaa

/- The walks of the layer 2 (vec): boxes. -/
namespace Go.Proofs.Ytckjpiioipkfcaa
open Go.RowKit


end Go.Proofs.Ytckjpiioipkfcaa

/- A region that draws its order, whose operations only read (calls: whatever keeps a class of worlds) but for THE LAST ONE, which comes up behind all others (a store, an append): one walk of the text's order serves every order. No program in sight. -/
namespace Go.Proofs.Ytckjpiioipkfcaa
open Go.RowKit

section
variable {P : Program} {ops : Array Oper} {md : Region.Mode} {C : World → Prop}

/-- So many operations are to come ahead of the last one, number n. -/
def beforeLast (P : Program) (md : Region.Mode) (ops : Array Oper) (C : World → Prop) (n : Nat) (L : Act → Prop) : Nat → Array Bool → Act → Prop
  | 0, listed, a => Region.ready md ops listed = [n] ∧ Region.ready md ops (listed.setIfInBounds n true) = [] ∧ L a
  | f + 1, listed, a => n ∉ Region.ready md ops listed ∧ Region.ready md ops listed ≠ [] ∧ ∀ i ∈ Region.ready md ops listed, qOp P ops C i (beforeLast P md ops C n L f (listed.setIfInBounds i true)) a

theorem wpAny_of_beforeLast {n : Nat} {L : Act → Prop} {Q' : Exit → Act → World → Prop} (hL : ∀ a w, C w → L a → wpOp P ops Q' n (fun a w => Q' .normal a w) a w) :
    ∀ (f : Nat) (listed : Array Bool) (a : Act) (w : World), C w → beforeLast P md ops C n L f listed a → wpAny P md ops Q' (f + 1) listed a w := by
  intro f
  induction f with
  | zero =>
    intro listed a w hw h
    obtain ⟨h1, h2, h3⟩ := h
    refine ⟨fun h => (by rw [h1] at h; cases h), fun i hi => ?_⟩
    rw [h1] at hi
    obtain rfl : i = n := by simpa using hi
    exact wpOp_mono (K := fun a w => Q' .normal a w) (fun _ _ h' => ⟨h2, h'⟩) (hL a w hw h3)
  | succ f ih =>
    intro listed a w hw h
    obtain ⟨_, h1, h2⟩ := h
    exact ⟨fun h => absurd h h1, fun i hi => wpOp_of_qOp hw (fun a' w' hw' h' => ih _ a' w' hw' h') (h2 i hi)⟩

theorem beforeLast_first {n i : Nat} {oi : Oper} {v : Value} {L : Act → Prop} (hi : ops[i]? = some oi) (hwt : ∀ l', n ∈ Region.ready md ops l' → l'.getD i false = true) (hsel : ∀ (j : Nat) (o : Oper) cs b, ops[j]? = some o → o.op ≠ .select cs b) :
    ∀ (f : Nat) (listed : Array Bool) (a : Act),
      (∀ j oj, ops[j]? = some oj → j ≠ i → listed.getD j true = false → (∀ e ∈ oj.after, Region.binds md e = true → e.on ≠ i) → oi.apart ops oj = true) →
      i ∈ Region.ready md ops listed → n ∉ Region.ready md ops listed → YieldsIn P ops C oi v a →
      beforeLast P md ops C n L f (listed.setIfInBounds i true) (a.put oi.dst v) → beforeLast P md ops C n L (f + 1) listed a := by
  intro f
  induction f with
  | zero =>
    intro listed a _ hr hn hy H
    refine ⟨hn, fun h => (by rw [h] at hr; cases hr), fun j hj => ?_⟩
    by_cases hji : j = i
    · subst hji; exact hy.qOp hi H
    · have h1 := ready_mono hj hji
      rw [H.1] at h1
      obtain rfl : j = n := by simpa using h1
      exact absurd hj hn
  | succ f ih =>
    intro listed a hfree hr hn hy H
    refine ⟨hn, fun h => (by rw [h] at hr; cases hr), fun j hj => ?_⟩
    by_cases hji : j = i
    · subst hji; exact hy.qOp hi H
    · obtain ⟨hun, oj, hoj, hwait⟩ := mem_ready.1 hj
      have hun_i := (mem_ready.1 hr).1
      have hap : oi.apart ops oj = true := hfree j oj hoj hji hun fun e he hb heq => by
        have h2 := hwait e he hb
        rw [heq] at h2
        by_cases hs : i < listed.size <;> simp [hs] at hun_i h2
        rw [hun_i] at h2
        cases h2
      have hq := qOp_put hoj hap (fun cs b => hsel i oi cs b hi) (fun cs b => hsel j oj cs b hoj) hy (H.2.2 j (ready_mono hj hji))
      refine qOp_mono (fun a' h3 => ih (listed.setIfInBounds j true) a' ?_ (ready_mono hr (Ne.symm hji)) ?_ h3.1 ?_) hq
      · intro k ok hk hki hun' hno
        refine hfree k ok hk hki ?_ hno
        by_cases hjk : j = k
        · subst hjk; exact hun
        · rwa [getD_set_ne true hjk] at hun'
      · intro hn'
        have h5 := hwt _ hn'
        rw [getD_set_ne false hji] at h5
        have h6 := (mem_ready.1 hr).1
        by_cases hs : i < listed.size <;> simp [hs] at h5 h6
        rw [h6] at h5
        cases h5
      · rw [Array.setIfInBounds_comm _ _ hji]
        exact h3.2

/-- The last one waits for each of those ahead, which may be taken in the text's order. -/
def lastFrom (md : Region.Mode) (ops : Array Oper) (n : Nat) : Nat → Nat → Array Bool → Bool
  | 0, _, listed => decide (Region.ready md ops listed = [n]) && (Region.ready md ops (listed.setIfInBounds n true)).isEmpty
  | f + 1, k, listed => (Region.ready md ops listed).contains k && Region.free md ops listed k && !(Region.ready md ops listed).contains n &&
      (match ops[n]? with | some o => o.after.any (fun e => Region.binds md e && e.on == k) | none => false) && lastFrom md ops n f (k + 1) (listed.setIfInBounds k true)
def lastB (md : Region.Mode) (ops : Array Oper) (n : Nat) : Bool := Region.noSelect ops && lastFrom md ops n n 0 (Array.replicate ops.size false)

theorem beforeLast_lex {n : Nat} {L : Act → Prop} (hs : Region.noSelect ops = true) : ∀ (l : List Oper) (k : Nat) (listed : Array Bool) (a : Act), (∀ j, j < l.length → l[j]? = ops[k + j]?) →
    lastFrom md ops n l.length k listed = true → wpQuiet P ops C L l a → beforeLast P md ops C n L l.length listed a := by
  intro l
  induction l with
  | nil =>
    intro k listed a _ hB h
    simp only [List.length_nil, lastFrom, Bool.and_eq_true, decide_eq_true_eq, List.isEmpty_iff] at hB
    exact ⟨hB.1, hB.2, h⟩
  | cons o l ih =>
    intro k listed a hl hB h
    have h0 : ops[k]? = some o := by simpa using (hl 0 (by simp)).symm
    simp only [List.length_cons, lastFrom, Bool.and_eq_true, Bool.not_eq_true'] at hB
    obtain ⟨⟨⟨⟨hr, hf⟩, hn⟩, hw⟩, hB'⟩ := hB
    have hst : qOp P ops C k (wpQuiet P ops C L l) a := by unfold qOp; simp only [h0]; exact h
    obtain ⟨v, hy, hK⟩ := yieldsIn_of_qOp h0 hst
    refine beforeLast_first h0 (fun l' hn' => ?_) (Region.noSelect_spec hs) l.length listed a (Region.free_spec h0 hf) (by simpa using hr) (by simpa using hn) hy
      (ih (k + 1) _ _ (fun j hj => by have := hl (j + 1) (by simpa using hj); simpa [Nat.add_assoc, Nat.add_comm 1 j] using this) hB' hK)
    obtain ⟨_, oL, hoL, hall⟩ := mem_ready.1 hn'
    rw [hoL] at hw
    obtain ⟨e, he, hbe⟩ := Array.any_eq_true'.1 hw
    simp only [Bool.and_eq_true, beq_iff_eq] at hbe
    have := hall e he hbe.1
    rwa [hbe.2] at this

/-- THE LAW: all but the last one quiet in the class; the last one as it is carried out in whatever world of the class. -/
theorem wp_region_last {id : Nat} {Q : Exit → Act → World → Prop} {a : Act} {w : World} {l : List Oper} (n : Nat) (hm : P.follows .mixedOrders = true) (hlen : l.length = n + 1) (hB : lastB .any l.toArray n = true) (hC : C { w with drawn := w.drawn + 1 })
    (h : wpQuiet P l.toArray C (fun a' => ∀ w', C w' → wpList P l.toArray Q (l.drop n) a' w') (l.take n) a) : (Code.region id l.toArray true).wp P Q a w := by
  simp only [lastB, Bool.and_eq_true] at hB
  refine wp_region_any hm ?_
  have hsz : l.toArray.size = n + 1 := by simpa using hlen
  have ht : (l.take n).length = n := by simp; omega
  have hx := beforeLast_lex (C := C) (md := .any) (n := n) (L := fun a' => ∀ w', C w' → wpList P l.toArray Q (l.drop n) a' w') hB.1 (l.take n) 0 (Array.replicate l.toArray.size false) a
    (fun j hj => by simp only [Nat.zero_add, List.getElem?_toArray]; rw [List.getElem?_take_of_lt (by omega)]) (by rw [ht]; exact hB.2) h
  rw [ht] at hx
  rw [hsz] at hx ⊢
  refine wpAny_of_beforeLast (fun a w hw hL => ?_) n _ a _ hC hx
  have hd : l.drop n = [l[n]'(by omega)] := by
    rw [List.drop_eq_getElem_cons (by omega), List.drop_of_length_le (by omega)]
  have := hL w hw
  rw [hd] at this
  unfold wpOp
  simp only [List.getElem?_toArray, List.getElem?_eq_getElem (show n < l.length by omega)]
  exact this

theorem wp_region_last_below {id : Nat} {Q : Exit → Act → World → Prop} {a : Act} {w : World} {l : List Oper} (n : Nat) (hm : P.follows .mixedOrders = true) (hlen : l.length = n + 1) (hB : lastB .any l.toArray n = true)
    (h : wpQuiet P l.toArray (fun w' => ∃ p : Regrown, w' = Go.Sort.grow (redrawn w p.d) p.os) (fun a' => ∀ w', (∃ p : Regrown, w' = Go.Sort.grow (redrawn w p.d) p.os) → wpList P l.toArray Q (l.drop n) a' w') (l.take n) a) : (Code.region id l.toArray true).wp P Q a w :=
  wp_region_last (C := fun w' => ∃ p : Regrown, w' = Go.Sort.grow (redrawn w p.d) p.os) n hm hlen hB ⟨⟨w.drawn + 1, #[]⟩, by rw [Go.Sort.grow_empty]; rfl⟩ h
end
end Go.Proofs.Ytckjpiioipkfcaa

/- The walks of the layer 2 (vec): boxes that may be, that are moved, that stand. -/
namespace Go.Proofs.Ytckjpiioipkfcaa
open Go.RowKit


end Go.Proofs.Ytckjpiioipkfcaa

/- The walks of the reference of the layer 2. -/
namespace Go.Proofs.Ytckjpiioipkfcaa
open Go.RowKit

set_option maxHeartbeats 1000000 in
theorem raxis_c (x y z a : Int) (w : World) : Calls Try.prog 22 #[.agg #[.int .i64 x, .int .i64 y, .int .i64 z], .int .i64 a] w fun e w' => e = .returned (.int .i64 (axI x y z a)) ∧ Below w.heap.size w w' := by
  rcases (show a = 0 ∨ a = 1 ∨ a = 2 ∨ (a < 0 ∨ 2 < a) by omega) with rfl | rfl | rfl | h
  · go_enter Try.func22, Try.ntmps22
    go_wp2_with fail
    go_returns
    exact ⟨ret_i rfl, by (repeat' (first | (with_reducible exact Below.refl _ _) | (with_reducible assumption) | (with_reducible refine Below.alloc ?_ ?_ _) | (with_reducible refine Below.drew ?_) | (with_reducible refine Below.setCell ?_ ?_ _) | (with_reducible refine after ?_ (below_regrown _ _ _)) | (refine after ?_ (by with_reducible assumption)) | go_size))⟩
  · go_enter Try.func22, Try.ntmps22
    go_wp2_with fail
    go_returns
    exact ⟨ret_i rfl, by (repeat' (first | (with_reducible exact Below.refl _ _) | (with_reducible assumption) | (with_reducible refine Below.alloc ?_ ?_ _) | (with_reducible refine Below.drew ?_) | (with_reducible refine Below.setCell ?_ ?_ _) | (with_reducible refine after ?_ (below_regrown _ _ _)) | (refine after ?_ (by with_reducible assumption)) | go_size))⟩
  · go_enter Try.func22, Try.ntmps22
    go_wp2_with fail
    go_returns
    exact ⟨ret_i rfl, by (repeat' (first | (with_reducible exact Below.refl _ _) | (with_reducible assumption) | (with_reducible refine Below.alloc ?_ ?_ _) | (with_reducible refine Below.drew ?_) | (with_reducible refine Below.setCell ?_ ?_ _) | (with_reducible refine after ?_ (below_regrown _ _ _)) | (refine after ?_ (by with_reducible assumption)) | go_size))⟩
  · have h0 : (a == 0) = false := by simp; omega
    have h1 : (a == 1) = false := by simp; omega
    have h2 : (a == 2) = false := by simp; omega
    have H := Lib.hid h
    clear h
    go_enter Try.func22, Try.ntmps22
    go_wp2_with fail
    go_returns
    exact ⟨ret_i (axI_no H.out).symm, by (repeat' (first | (with_reducible exact Below.refl _ _) | (with_reducible assumption) | (with_reducible refine Below.alloc ?_ ?_ _) | (with_reducible refine Below.drew ?_) | (with_reducible refine Below.setCell ?_ ?_ _) | (with_reducible refine after ?_ (below_regrown _ _ _)) | (refine after ?_ (by with_reducible assumption)) | go_size))⟩
theorem raxis_e (x y z a v : Int) (h : axI x y z a = v) (w : World) : Calls Try.prog 22 #[.agg #[.int .i64 x, .int .i64 y, .int .i64 z], .int .i64 a] w fun e w' => e = .returned (.int .i64 v) ∧ Below w.heap.size w w' := by
  rw [← h]; exact raxis_c x y z a w
set_option maxHeartbeats 1000000 in
theorem rwith_c (x y z a n : Int) (w : World) : Calls Try.prog 16 #[.agg #[.int .i64 x, .int .i64 y, .int .i64 z], .int .i64 a, .int .i64 n] w fun e w' => e = .returned (.agg #[.int .i64 (wiI x a 0 n), .int .i64 (wiI y a 1 n), .int .i64 (wiI z a 2 n)]) ∧ Below w.heap.size w w' := by
  rcases (show a = 0 ∨ a = 1 ∨ a = 2 ∨ (a < 0 ∨ 2 < a) by omega) with rfl | rfl | rfl | h
  · go_enter Try.func16, Try.ntmps16
    go_wp2_with fail
    refine (rcut_c _ _).mono ?_; rintro e w1 ⟨rfl, rfl⟩
    go_wp2_with fail
    go_returns
    exact ⟨rfl, by (repeat' (first | (with_reducible exact Below.refl _ _) | (with_reducible assumption) | (with_reducible refine Below.alloc ?_ ?_ _) | (with_reducible refine Below.drew ?_) | (with_reducible refine Below.setCell ?_ ?_ _) | (with_reducible refine after ?_ (below_regrown _ _ _)) | (refine after ?_ (by with_reducible assumption)) | go_size))⟩
  · go_enter Try.func16, Try.ntmps16
    go_wp2_with fail
    refine (rcut_c _ _).mono ?_; rintro e w1 ⟨rfl, rfl⟩
    go_wp2_with fail
    go_returns
    exact ⟨rfl, by (repeat' (first | (with_reducible exact Below.refl _ _) | (with_reducible assumption) | (with_reducible refine Below.alloc ?_ ?_ _) | (with_reducible refine Below.drew ?_) | (with_reducible refine Below.setCell ?_ ?_ _) | (with_reducible refine after ?_ (below_regrown _ _ _)) | (refine after ?_ (by with_reducible assumption)) | go_size))⟩
  · go_enter Try.func16, Try.ntmps16
    go_wp2_with fail
    refine (rcut_c _ _).mono ?_; rintro e w1 ⟨rfl, rfl⟩
    go_wp2_with fail
    go_returns
    exact ⟨rfl, by (repeat' (first | (with_reducible exact Below.refl _ _) | (with_reducible assumption) | (with_reducible refine Below.alloc ?_ ?_ _) | (with_reducible refine Below.drew ?_) | (with_reducible refine Below.setCell ?_ ?_ _) | (with_reducible refine after ?_ (below_regrown _ _ _)) | (refine after ?_ (by with_reducible assumption)) | go_size))⟩
  · have h0 : (a == 0) = false := by simp; omega
    have h1 : (a == 1) = false := by simp; omega
    have h2 : (a == 2) = false := by simp; omega
    have e0 : wiI x a 0 n = x := by unfold wiI; rw [if_neg (by omega)]
    have e1 : wiI y a 1 n = y := by unfold wiI; rw [if_neg (by omega)]
    have e2 : wiI z a 2 n = z := by unfold wiI; rw [if_neg (by omega)]
    rw [e0, e1, e2]
    clear h e0 e1 e2
    go_enter Try.func16, Try.ntmps16
    go_wp2_with fail
    refine (rcut_c _ _).mono ?_; rintro e w1 ⟨rfl, rfl⟩
    go_wp2_with fail
    go_returns
    exact ⟨rfl, by (repeat' (first | (with_reducible exact Below.refl _ _) | (with_reducible assumption) | (with_reducible refine Below.alloc ?_ ?_ _) | (with_reducible refine Below.drew ?_) | (with_reducible refine Below.setCell ?_ ?_ _) | (with_reducible refine after ?_ (below_regrown _ _ _)) | (refine after ?_ (by with_reducible assumption)) | go_size))⟩
set_option maxHeartbeats 1000000 in
theorem rcutv_c (x y z : Int) (w : World) : Calls Try.prog 20 #[.agg #[.int .i64 x, .int .i64 y, .int .i64 z]] w fun e w' => e = .returned (.agg #[.int .i64 (cutI x), .int .i64 (cutI y), .int .i64 (cutI z)]) ∧ Below w.heap.size w w' := by
  have U : Blk ((w.alloc (.cells #[.int .i64 x, .int .i64 y, .int .i64 z] 26)).alloc (.cells #[.int .i64 0, .int .i64 0, .int .i64 0] 26)) w.heap.size 26 #[.int .i64 x, .int .i64 y, .int .i64 z] := (Blk.new' rfl).alloc _
  have R0 : Blk ((w.alloc (.cells #[.int .i64 x, .int .i64 y, .int .i64 z] 26)).alloc (.cells #[.int .i64 0, .int .i64 0, .int .i64 0] 26)) (w.heap.size + 1) 26 #[.int .i64 0, .int .i64 0, .int .i64 0] := Blk.new' (by simp)
  obtain ⟨k0, k1, k2⟩ := U.re3
  go_enter Try.func20, Try.ntmps20
  go_wp2_with fail
  refine wp_region_last_below 10 (by kernel_rfl) rfl (by kernel_rfl) ?_
  simp only [List.take_succ_cons, List.take_zero, List.drop_succ_cons, List.drop_zero]
  repeat (go_big_quiet_step (exact Calls.regrown_of (calls_bel (rcut_c _ _))))
  refine wpQuiet_nil ?_
  intro w' hw'
  obtain ⟨rg, rfl⟩ := hw'
  have R := R0.re rg.d rg.os
  obtain ⟨r0, r1, r2, s0, s1, s2⟩ := R.c3
  go_wp2_with fail
  have R2 := R.st3 (.int .i64 (cutI x)) (.int .i64 (cutI y)) (.int .i64 (cutI z))
  obtain ⟨d0, d1, d2, -, -, -⟩ := R2.c3
  exact bodyPost_ret (v := .agg #[.int .i64 (cutI x), .int .i64 (cutI y), .int .i64 (cutI z)]) (by simp [results, Try.results20, go_sem, d0, d1, d2]) rfl ⟨rfl, by (repeat' (first | (with_reducible exact Below.refl _ _) | (with_reducible assumption) | (with_reducible refine Below.alloc ?_ ?_ _) | (with_reducible refine Below.drew ?_) | (with_reducible refine Below.setCell ?_ ?_ _) | (with_reducible refine after ?_ (below_regrown _ _ _)) | (refine after ?_ (by with_reducible assumption)) | go_size))⟩
set_option maxHeartbeats 1000000 in
theorem raddv_c (x y z x' y' z' : Int) (w : World) : Calls Try.prog 36 #[.agg #[.int .i64 x, .int .i64 y, .int .i64 z], .agg #[.int .i64 x', .int .i64 y', .int .i64 z']] w fun e w' => e = .returned (.agg #[.int .i64 (addI x x'), .int .i64 (addI y y'), .int .i64 (addI z z')]) ∧ Below w.heap.size w w' := by
  have U : Blk (((w.alloc (.cells #[.int .i64 x, .int .i64 y, .int .i64 z] 26)).alloc (.cells #[.int .i64 x', .int .i64 y', .int .i64 z'] 26)).alloc (.cells #[.int .i64 0, .int .i64 0, .int .i64 0] 26)) w.heap.size 26 #[.int .i64 x, .int .i64 y, .int .i64 z] := ((Blk.new' rfl).alloc _).alloc _
  have V : Blk (((w.alloc (.cells #[.int .i64 x, .int .i64 y, .int .i64 z] 26)).alloc (.cells #[.int .i64 x', .int .i64 y', .int .i64 z'] 26)).alloc (.cells #[.int .i64 0, .int .i64 0, .int .i64 0] 26)) (w.heap.size + 1) 26 #[.int .i64 x', .int .i64 y', .int .i64 z'] := (Blk.new' (by simp)).alloc _
  have R0 : Blk (((w.alloc (.cells #[.int .i64 x, .int .i64 y, .int .i64 z] 26)).alloc (.cells #[.int .i64 x', .int .i64 y', .int .i64 z'] 26)).alloc (.cells #[.int .i64 0, .int .i64 0, .int .i64 0] 26)) (w.heap.size + 1 + 1) 26 #[.int .i64 0, .int .i64 0, .int .i64 0] := Blk.new' (by simp)
  obtain ⟨l0, l1, l2⟩ := V.re3
  obtain ⟨k0, k1, k2⟩ := U.re3
  go_enter Try.func36, Try.ntmps36
  go_wp2_with fail
  refine wp_region_last_below 16 (by kernel_rfl) rfl (by kernel_rfl) ?_
  simp only [List.take_succ_cons, List.take_zero, List.drop_succ_cons, List.drop_zero]
  repeat (go_big_quiet_step (exact Calls.regrown_of (calls_bel (radd_c _ _ _))))
  refine wpQuiet_nil ?_
  intro w' hw'
  obtain ⟨rg, rfl⟩ := hw'
  have R := R0.re rg.d rg.os
  obtain ⟨r0, r1, r2, s0, s1, s2⟩ := R.c3
  go_wp2_with fail
  have R2 := R.st3 (.int .i64 (addI x x')) (.int .i64 (addI y y')) (.int .i64 (addI z z'))
  obtain ⟨d0, d1, d2, -, -, -⟩ := R2.c3
  exact bodyPost_ret (v := .agg #[.int .i64 (addI x x'), .int .i64 (addI y y'), .int .i64 (addI z z')]) (by simp [results, Try.results36, go_sem, d0, d1, d2]) rfl ⟨rfl, by (repeat' (first | (with_reducible exact Below.refl _ _) | (with_reducible assumption) | (with_reducible refine Below.alloc ?_ ?_ _) | (with_reducible refine Below.drew ?_) | (with_reducible refine Below.setCell ?_ ?_ _) | (with_reducible refine after ?_ (below_regrown _ _ _)) | (refine after ?_ (by with_reducible assumption)) | go_size))⟩

end Go.Proofs.Ytckjpiioipkfcaa

/- The document's cells of a box. -/
namespace Go.Proofs.Ytckjpiioipkfcaa
open Go.RowKit

/-- One axis of the document's Span, its values literal where they guard. -/
theorem top_ways (n m : Int) : (((lowI m * 65536 == m) = false) ∧ topI n m = lowI m) ∨ (((lowI m * 65536 == m) = true) ∧ decide (lowI n < lowI m) = false ∧ topI n m = lowI m) ∨ (((lowI m * 65536 == m) = true) ∧ decide (lowI n < lowI m) = true ∧ topI n m = lowI m - 1) := by
  unfold topI
  by_cases h1 : lowI m * 65536 = m <;> by_cases h2 : lowI n < lowI m <;> simp [h1, h2]
theorem thin_ways (n m : Int) : ((n == m) = false ∧ thinI n m = false) ∨ ((n == m) = true ∧ (lowI n * 65536 == n) = false ∧ thinI n m = false) ∨ ((n == m) = true ∧ (lowI n * 65536 == n) = true ∧ thinI n m = true) := by
  unfold thinI
  cases (n == m) <;> cases (lowI n * 65536 == n) <;> simp
end Go.Proofs.Ytckjpiioipkfcaa

/- More plain helpers of ours: no program in sight. -/
namespace Go.Proofs.Ytckjpiioipkfcaa
open Go.RowKit
section
variable {w W : World} {g : Nat} {t : TypeId} {cs : Array Value} {d : Nat} {os : Array Obj}
theorem Blk.reW (h : Blk w g t cs) (hW : W = Go.Sort.grow (redrawn w d) os) : Blk W g t cs := by rw [hW]; exact h.re d os
theorem Blk.eqw {w W : World} (e : w = W) (h : Blk w g t cs) : Blk W g t cs := e ▸ h
theorem re_below {v : World} (h : Below v.heap.size v w) (hW : W = Go.Sort.grow (redrawn w d) os) : Below v.heap.size v W := by rw [hW]; exact after h (below_regrown w d os)
end
end Go.Proofs.Ytckjpiioipkfcaa

/- A counter's next number; a cell that is read lies in the heap. -/
namespace Go.Proofs.Ytckjpiioipkfcaa
open Go.RowKit

theorem cell_lt {w : World} {p : Addr} {v : Value} (h : w.cell? p = some v) : p.block < w.heap.size := by
  unfold World.cell? at h
  cases hh : w.heap[p.block]? with
  | none => simp [hh] at h
  | some b => exact (Array.getElem?_eq_some_iff.1 hh).1
theorem cell_spot {w : World} {p : Addr} {v : Value} (h : w.cell? p = some v) : p.spot = none := by
  unfold World.cell? at h
  cases hs : p.spot with
  | none => rfl
  | some k => cases hh : w.heap[p.block]? <;> simp [hh, hs] at h; split at h <;> simp at h
theorem cell_below {w w' : World} {B : Nat} {p : Addr} (hb : Below B w w') (h : p.block < B) : w'.cell? p = w.cell? p := by
  unfold World.cell?
  rw [hb.block p.block h]
/-! A counter's next number. -/
theorem next64 {n cap k : Nat} (hc : n ≤ cap) (hm : cap ≤ maxLen) (hlt : k < n) : wrap64 ((k : Int) + 1) = k + 1 := by
  have h1 := Nat.le_trans hc hm
  have h2 : maxLen ≤ 9223372036854775807 := by decide
  have h3 := Nat.le_trans h1 h2
  clear hc hm h1 h2
  exact IntWalk.wrap64_in _ (by omega)
theorem next_val {k : Nat} (h : wrap64 ((k : Int) + 1) = k + 1) : Value.int .i64 (wrap64 ((k : Int) + 1)) = .int .i64 ((k + 1 : Nat) : Int) := by rw [h]; rfl
theorem next_less {n k : Nat} (hlt : k < n) (h : wrap64 ((k : Int) + 1) = k + 1) : n - (intOf (.int .i64 (wrap64 ((k : Int) + 1)))).toNat < n - (intOf (.int .i64 k)).toNat := by
  rw [h]; clear h
  show n - ((k : Int) + 1).toNat < n - (k : Int).toNat
  omega
theorem next_less' {n k : Nat} (hlt : k < n) : n - (intOf (.int .i64 ((k : Int) + 1))).toNat < n - (intOf (.int .i64 k)).toNat := by
  show n - ((k : Int) + 1).toNat < n - (k : Int).toNat
  omega
end Go.Proofs.Ytckjpiioipkfcaa

/- A region that draws its order: calls that make only new memory, reads, ONE NEW VARIABLE that may be laid at any time, and a last operation behind all (x := f(..), x boxed): one walk of the text's order serves every order. No program in sight. -/
namespace Go.Proofs.Ytckjpiioipkfcaa
open Go.RowKit

section
variable {P : Program} {ops : Array Oper} {md : Region.Mode} {C : World → Prop}

def Near (w w' : World) : Prop := Below w.heap.size w w'
/-- One value in every world of the class; of what was there nothing has turned. -/
def relAt (P : Program) (o : Oper) (a : Act) (w : World) (v : Value) : Prop := Oper.quietUpon P (fun w' => Near w w') w v ((execOp a.eval o).run P w)
def relOp (P : Program) (o : Oper) (a : Act) (C : World → Prop) (K : Act → Prop) : Prop := ∃ v, (∀ w, C w → relAt P o a w v) ∧ K (a.put o.dst v)
def rOp (P : Program) (ops : Array Oper) (C : World → Prop) (i : Nat) (K : Act → Prop) (a : Act) : Prop :=
  match ops[i]? with
  | none => K a
  | some o => if Region.wanted o (yielded ops a.tmps) then relOp P o a C K else K (a.put o.dst undef)
def wpRel (P : Program) (ops : Array Oper) (C : World → Prop) (Q : Act → Prop) : List Oper → Act → Prop
  | [], a => Q a
  | o :: rest, a => if Region.wanted o (yielded ops a.tmps) then relOp P o a C (wpRel P ops C Q rest) else wpRel P ops C Q rest (a.put o.dst undef)
theorem wpRel_nil {Q : Act → Prop} {a : Act} (h : Q a) : wpRel P ops C Q [] a := h
theorem wpRel_step {Q : Act → Prop} {a : Act} {o : Oper} {rest : List Oper}
    (h : ∀ K : Act → Prop, (∀ a, wpRel P ops C Q rest a → K a) → if Region.wanted o (yielded ops a.tmps) then relOp P o a C K else K (a.put o.dst undef)) : wpRel P ops C Q (o :: rest) a :=
  h _ (fun _ h => h)

theorem rOp_mono {i : Nat} {a : Act} {K K' : Act → Prop} (h : ∀ a, K a → K' a) (hh : rOp P ops C i K a) : rOp P ops C i K' a := by
  unfold rOp at *
  cases ho : ops[i]? with
  | none => rw [ho] at hh; exact h _ hh
  | some o =>
    rw [ho] at hh
    dsimp only at hh ⊢
    by_cases hw : Region.wanted o (yielded ops a.tmps) = true
    · rw [if_pos hw] at hh ⊢
      obtain ⟨v, h1, h2⟩ := hh
      exact ⟨v, h1, h _ h2⟩
    · rw [if_neg hw] at hh ⊢
      exact h _ hh
def Gives (P : Program) (ops : Array Oper) (C : World → Prop) (o : Oper) (v : Value) (a : Act) : Prop :=
  (Region.wanted o (yielded ops a.tmps) = true ∧ ∀ w, C w → relAt P o a w v) ∨ (Region.wanted o (yielded ops a.tmps) = false ∧ v = undef)
theorem Gives.rOp {i : Nat} {o : Oper} {v : Value} {a : Act} (hi : ops[i]? = some o) (hy : Gives P ops C o v a) {K : Act → Prop} (h : K (a.put o.dst v)) : rOp P ops C i K a := by
  unfold Go.Proofs.Ytckjpiioipkfcaa.rOp
  rw [hi]
  dsimp only
  rcases hy with ⟨hw, hv⟩ | ⟨hw, rfl⟩
  · rw [if_pos hw]; exact ⟨v, hv, h⟩
  · rw [if_neg (by rw [hw]; decide)]; exact h
theorem gives_of_rOp {i : Nat} {o : Oper} {a : Act} {K : Act → Prop} (hi : ops[i]? = some o) (h : rOp P ops C i K a) : ∃ v, Gives P ops C o v a ∧ K (a.put o.dst v) := by
  unfold rOp at h
  rw [hi] at h
  dsimp only at h
  by_cases hw : Region.wanted o (yielded ops a.tmps) = true
  · rw [if_pos hw] at h
    obtain ⟨v, h1, h2⟩ := h
    exact ⟨v, .inl ⟨hw, h1⟩, h2⟩
  · rw [if_neg hw] at h
    exact ⟨undef, .inr ⟨by simpa using hw, rfl⟩, h⟩
/-- What an operation gives does not hang on a temporary that it does not look at. -/
theorem Gives.put_iff {oi oj : Oper} {u v : Value} {a : Act} (hi : ∀ cs b, oi.op ≠ .select cs b) (hap : oj.apart ops oi = true) : Gives P ops C oi v (a.put oj.dst u) ↔ Gives P ops C oi v a := by
  obtain ⟨h1, _, _⟩ := Oper.apart_spec hap
  unfold Gives relAt
  rw [execOp_put oi hi a oj.dst u h1, wanted_put oi a oj.dst u h1]
theorem rOp_put {j : Nat} {oi oj : Oper} {v : Value} (hj : ops[j]? = some oj) (hap : oi.apart ops oj = true) (hap' : oj.apart ops oi = true)
    (hsi : ∀ cs b, oi.op ≠ .select cs b) (hsj : ∀ cs b, oj.op ≠ .select cs b) {K : Act → Prop} {a : Act}
    (hy : Gives P ops C oi v a) (h : rOp P ops C j K (a.put oi.dst v)) : rOp P ops C j (fun a' => Gives P ops C oi v a' ∧ K (a'.put oi.dst v)) a := by
  obtain ⟨u, hu, hK⟩ := gives_of_rOp hj h
  have hu' := (Gives.put_iff hsj hap).1 hu
  refine Gives.rOp hj hu' ⟨(Gives.put_iff hsi hap').2 hy, ?_⟩
  obtain ⟨_, h2, _⟩ := Oper.apart_spec hap
  rw [← Act.put_comm a v u h2]
  exact hK

/-- So many operations are to come ahead of the last one, number n. -/
def beforeR (P : Program) (md : Region.Mode) (ops : Array Oper) (C : World → Prop) (n : Nat) (L : Act → Prop) : Nat → Array Bool → Act → Prop
  | 0, listed, a => Region.ready md ops listed = [n] ∧ Region.ready md ops (listed.setIfInBounds n true) = [] ∧ L a
  | f + 1, listed, a => n ∉ Region.ready md ops listed ∧ Region.ready md ops listed ≠ [] ∧ ∀ i ∈ Region.ready md ops listed, rOp P ops C i (beforeR P md ops C n L f (listed.setIfInBounds i true)) a

theorem apart_symm {ops : Array Oper} {x y : Oper} (h : x.apart ops y = true) (hd : ∀ d, y.dst = some d → x.dst ≠ some d) : y.apart ops x = true := by
  obtain ⟨h1, _, h3⟩ := Oper.apart_spec h
  unfold Oper.apart
  have e1 : (match y.dst with | some d => !(x.looksAt ops).contains d && x.dst != some d | none => true) = true := by
    cases hy : y.dst with
    | none => rfl
    | some d => simp [h3 d hy, hd d hy]
  have e2 : (match x.dst with | some d => !(y.looksAt ops).contains d | none => true) = true := by
    cases hx : x.dst with
    | none => rfl
    | some d => simp [h1 d hx]
  exact Bool.and_eq_true_iff.2 ⟨e1, e2⟩
theorem apart_swap {ops : Array Oper} {x y : Oper} (h : x.apart ops y = true) : y.apart ops x = true :=
  apart_symm h fun d hy hx => (Oper.apart_spec h).2.1 d hx hy

theorem beforeR_first {n i : Nat} {oi : Oper} {v : Value} {L : Act → Prop} (hi : ops[i]? = some oi) (hwt : ∀ l', n ∈ Region.ready md ops l' → l'.getD i false = true) (hsel : ∀ (j : Nat) (o : Oper) cs b, ops[j]? = some o → o.op ≠ .select cs b) :
    ∀ (f : Nat) (listed : Array Bool) (a : Act),
      (∀ j oj, ops[j]? = some oj → j ≠ i → listed.getD j true = false → (∀ e ∈ oj.after, Region.binds md e = true → e.on ≠ i) → oi.apart ops oj = true) →
      i ∈ Region.ready md ops listed → n ∉ Region.ready md ops listed → Gives P ops C oi v a →
      beforeR P md ops C n L f (listed.setIfInBounds i true) (a.put oi.dst v) → beforeR P md ops C n L (f + 1) listed a := by
  intro f
  induction f with
  | zero =>
    intro listed a _ hr hn hy H
    refine ⟨hn, fun h => (by rw [h] at hr; cases hr), fun j hj => ?_⟩
    by_cases hji : j = i
    · subst hji; exact hy.rOp hi H
    · have h1 := ready_mono hj hji
      rw [H.1] at h1
      obtain rfl : j = n := by simpa using h1
      exact absurd hj hn
  | succ f ih =>
    intro listed a hfree hr hn hy H
    refine ⟨hn, fun h => (by rw [h] at hr; cases hr), fun j hj => ?_⟩
    by_cases hji : j = i
    · subst hji; exact hy.rOp hi H
    · obtain ⟨hun, oj, hoj, hwait⟩ := mem_ready.1 hj
      have hun_i := (mem_ready.1 hr).1
      have hap : oi.apart ops oj = true := hfree j oj hoj hji hun fun e he hb heq => by
        have h2 := hwait e he hb
        rw [heq] at h2
        by_cases hs : i < listed.size <;> simp [hs] at hun_i h2
        rw [hun_i] at h2
        cases h2
      have hq := rOp_put hoj hap (apart_swap hap) (fun cs b => hsel i oi cs b hi) (fun cs b => hsel j oj cs b hoj) hy (H.2.2 j (ready_mono hj hji))
      refine rOp_mono (fun a' h3 => ih (listed.setIfInBounds j true) a' ?_ (ready_mono hr (Ne.symm hji)) ?_ h3.1 ?_) hq
      · intro k ok hk hki hun' hno
        refine hfree k ok hk hki ?_ hno
        by_cases hjk : j = k
        · subst hjk; exact hun
        · rwa [getD_set_ne true hjk] at hun'
      · intro hn'
        have h5 := hwt _ hn'
        rw [getD_set_ne false hji] at h5
        have h6 := (mem_ready.1 hr).1
        by_cases hs : i < listed.size <;> simp [hs] at h5 h6
        rw [h6] at h5
        cases h5
      · rw [Array.setIfInBounds_comm _ _ hji]
        exact h3.2

theorem beforeR_lex {n : Nat} {L : Act → Prop} (hs : Region.noSelect ops = true) : ∀ (l : List Oper) (k : Nat) (listed : Array Bool) (a : Act), (∀ j, j < l.length → l[j]? = ops[k + j]?) →
    lastFrom md ops n l.length k listed = true → wpRel P ops C L l a → beforeR P md ops C n L l.length listed a := by
  intro l
  induction l with
  | nil =>
    intro k listed a _ hB h
    simp only [List.length_nil, lastFrom, Bool.and_eq_true, decide_eq_true_eq, List.isEmpty_iff] at hB
    exact ⟨hB.1, hB.2, h⟩
  | cons o l ih =>
    intro k listed a hl hB h
    have h0 : ops[k]? = some o := by simpa using (hl 0 (by simp)).symm
    simp only [List.length_cons, lastFrom, Bool.and_eq_true, Bool.not_eq_true'] at hB
    obtain ⟨⟨⟨⟨hr, hf⟩, hn⟩, hw⟩, hB'⟩ := hB
    have hst : rOp P ops C k (wpRel P ops C L l) a := by unfold rOp; rw [h0]; exact h
    obtain ⟨v, hy, hK⟩ := gives_of_rOp h0 hst
    refine beforeR_first h0 (fun l' hn' => ?_) (Region.noSelect_spec hs) l.length listed a (Region.free_spec h0 hf) (by simpa using hr) (by simpa using hn) hy
      (ih (k + 1) _ _ (fun j hj => by have := hl (j + 1) (by simpa using hj); simpa [Nat.add_assoc, Nat.add_comm 1 j] using this) hB' hK)
    obtain ⟨_, oL, hoL, hall⟩ := mem_ready.1 hn'
    rw [hoL] at hw
    obtain ⟨e, he, hbe⟩ := Array.any_eq_true'.1 hw
    simp only [Bool.and_eq_true, beq_iff_eq] at hbe
    have := hall e he hbe.1
    rwa [hbe.2] at this

/-- Carried out: from a world of the class, of which S holds, to one of which both hold. -/
theorem wp_of_relAt {o : Oper} {a : Act} {w : World} {v : Value} {K : Act → World → Prop} {Q' : Exit → Act → World → Prop} (h : relAt P o a w v) (hk : ∀ w', Below w.heap.size w w' → K (a.put o.dst v) w') : o.wp P a w K Q' := by
  unfold relAt at h
  unfold Oper.wp
  generalize (execOp a.eval o).run P w = r at *
  cases r with
  | ok nx w' =>
    cases nx <;> simp only [Oper.quietUpon] at h <;> simp only [Oper.upon]
    case value u =>
      obtain ⟨e1, e2⟩ := h
      rw [e1, e2]
      exact hk _ (Below.refl _ _)
    case skip =>
      obtain ⟨e1, e2⟩ := h
      rw [e1, ← e2]
      exact hk _ (Below.refl _ _)
    case enter f args =>
      obtain ⟨e1, hc⟩ := h
      rw [e1]
      exact hc.mono fun e w'' ⟨he, hw''⟩ => by subst he; exact hk _ hw''
  | halt x w' => simp only [Oper.quietUpon] at h

/-- Behind the new variable: what is carried out is carried out with its pointer in its temporary. -/
theorem wpAny_of_beforeR {n m : Nat} {oA : Oper} {d : Tmp} {p : Value} {L : Act → Prop} {S : World → Prop} {Q' : Exit → Act → World → Prop} (hd : oA.dst = some d)
    (hC : ∀ w w', C w → Below w.heap.size w w' → C w') (hS : ∀ w w', S w → Below w.heap.size w w' → S w')
    (hap : ∀ (i : Nat) (o : Oper), ops[i]? = some o → i ≠ m → i ≠ n → oA.apart ops o = true) (hsel : ∀ (j : Nat) (o : Oper) cs b, ops[j]? = some o → o.op ≠ .select cs b)
    (hL : ∀ a w, C w → S w → L a → wpOp P ops Q' n (fun a w => Q' .normal a w) (a.put (some d) p) w) :
    ∀ (f : Nat) (listed : Array Bool) (a : Act) (w : World), C w → S w → listed.getD m true = true → beforeR P md ops C n L f listed a → wpAny P md ops Q' (f + 1) listed (a.put (some d) p) w := by
  intro f
  induction f with
  | zero =>
    intro listed a w hw hs _ h
    obtain ⟨h1, h2, h3⟩ := h
    refine ⟨fun h => (by rw [h1] at h; cases h), fun i hi => ?_⟩
    rw [h1] at hi
    obtain rfl : i = n := by simpa using hi
    exact wpOp_mono (K := fun a w => Q' .normal a w) (fun _ _ h' => ⟨h2, h'⟩) (hL a w hw hs h3)
  | succ f ih =>
    intro listed a w hw hs hm h
    obtain ⟨hn, h1, h2⟩ := h
    refine ⟨fun h => absurd h h1, fun i hi => ?_⟩
    obtain ⟨hun, o, ho, _⟩ := mem_ready.1 hi
    have him : i ≠ m := fun e => by rw [e, hm] at hun; cases hun
    have hin : i ≠ n := fun e => hn (e ▸ hi)
    obtain ⟨v, hy, hK⟩ := gives_of_rOp ho (h2 i hi)
    have ha := hap i o ho him hin
    have hdd : o.dst ≠ some d := (Oper.apart_spec ha).2.1 d hd
    have hcomm : (a.put (some d) p).put o.dst v = (a.put o.dst v).put (some d) p := Act.put_comm a p v fun d' hd' => by
      cases hd'; exact hdd
    have hm' : (listed.setIfInBounds i true).getD m true = true := by rw [getD_set_ne true him]; exact hm
    have hy' : Gives P ops C o v (a.put (some d) p) := by rw [← hd]; exact (Gives.put_iff (fun cs b => hsel i o cs b ho) ha).2 hy
    unfold wpOp
    rw [ho]
    dsimp only
    rcases hy' with ⟨hwn, hv⟩ | ⟨hwn, rfl⟩
    · rw [if_pos hwn]
      refine .inl (wp_of_relAt (hv w hw) fun w' hb => ?_)
      rw [hcomm]
      exact ih _ _ _ (hC w w' hw hb) (hS w w' hs hb) hm' hK
    · rw [if_neg (by rw [hwn]; decide), hcomm]
      exact ih _ _ _ hw hs hm' hK

/-- Whatever comes first. -/
theorem wpAny_of_float {n m : Nat} {oA : Oper} {d : Tmp} {t : TypeId} {z : Array Value} {B : Nat} {L : Act → Prop} {Q' : Exit → Act → World → Prop} (hA : ops[m]? = some oA) (hd : oA.dst = some d) (hg : oA.guard = none) (haf : oA.after = #[])
    (hrun : ∀ (a : Act) (w : World), (execOp a.eval oA).run P w = .ok (.value (.pointer (some ⟨w.heap.size, 0, none⟩))) (w.alloc (.cells z t)))
    (hwt : ∀ l', n ∈ Region.ready md ops l' → l'.getD m false = true)
    (hC : ∀ w w', C w → Below w.heap.size w w' → C w') (hB : ∀ w, C w → B ≤ w.heap.size)
    (hap : ∀ (i : Nat) (o : Oper), ops[i]? = some o → i ≠ m → i ≠ n → oA.apart ops o = true) (hsel : ∀ (j : Nat) (o : Oper) cs b, ops[j]? = some o → o.op ≠ .select cs b)
    (hL : ∀ a b w, C w → Blk w b t z → B ≤ b → L a → wpOp P ops Q' n (fun a w => Q' .normal a w) (a.put (some d) (.pointer (some ⟨b, 0, none⟩))) w) :
    ∀ (f : Nat) (listed : Array Bool) (a : Act) (w : World), C w → listed.getD m true = false → beforeR P md ops C n L f (listed.setIfInBounds m true) a → wpAny P md ops Q' (f + 2) listed a w := by
  have hmr : ∀ listed : Array Bool, listed.getD m true = false → m ∈ Region.ready md ops listed := fun listed h =>
    mem_ready.2 ⟨h, oA, hA, fun e he => by rw [haf] at he; cases he with | mk h => cases h⟩
  have hin : ∀ listed : Array Bool, listed.getD m true = false → (listed.setIfInBounds m true).getD m true = true := fun listed h => by
    by_cases hs : m < listed.size
    · simp [hs]
    · simp [hs] at h
  have main : ∀ (f : Nat) (listed : Array Bool) (a : Act) (w : World), C w → listed.getD m true = false → beforeR P md ops C n L f (listed.setIfInBounds m true) a → wpOp P ops Q' m (wpAny P md ops Q' (f + 1) (listed.setIfInBounds m true)) a w := by
    intro f listed a w hw hm h
    unfold wpOp
    rw [hA]
    dsimp only
    rw [if_pos (by simp [Region.wanted, hg])]
    left
    unfold Oper.wp
    rw [hrun a w]
    simp only [Oper.upon]
    rw [hd]
    exact wpAny_of_beforeR (S := fun w' => Blk w' w.heap.size t z) hd hC (fun w1 w2 h1 h2 => h1.on h2) hap hsel (fun a' w' hw' hs' hl' => hL a' _ w' hw' hs' (hB w hw) hl') f _ a _
      (hC _ _ hw ((Below.refl _ _).alloc (Nat.le_refl _) _)) (Blk.new w t z) (hin listed hm) h
  intro f
  induction f with
  | zero =>
    intro listed a w hw hm h
    refine ⟨fun he => (by have := hmr listed hm; rw [he] at this; cases this), fun i hi => ?_⟩
    by_cases him : i = m
    · subst him; exact main 0 listed a w hw hm h
    · have h1 := ready_mono hi him
      rw [h.1] at h1
      obtain rfl : i = n := by simpa using h1
      have h2 := hwt _ hi
      by_cases hs : m < listed.size <;> simp [hs] at hm h2
      rw [hm] at h2; cases h2
  | succ f ih =>
    intro listed a w hw hm h
    refine ⟨fun he => (by have := hmr listed hm; rw [he] at this; cases this), fun i hi => ?_⟩
    by_cases him : i = m
    · subst him; exact main (f + 1) listed a w hw hm h
    · obtain ⟨_, o, ho, _⟩ := mem_ready.1 hi
      obtain ⟨v, hy, hK⟩ := gives_of_rOp ho (h.2.2 i (ready_mono hi him))
      have hm' : (listed.setIfInBounds i true).getD m true = false := by rw [getD_set_ne true him]; exact hm
      rw [Array.setIfInBounds_comm _ _ (Ne.symm him)] at hK
      unfold wpOp
      rw [ho]
      dsimp only
      rcases hy with ⟨hwn, hv⟩ | ⟨hwn, rfl⟩
      · rw [if_pos hwn]
        exact .inl (wp_of_relAt (hv w hw) fun w' hb => ih _ _ _ (hC w w' hw hb) hm' hK)
      · rw [if_neg (by rw [hwn]; decide)]
        exact ih _ _ _ hw hm' hK

/-- All that is asked of the region, by reckoning: k operations ahead, then the new variable (temporary d), then the last one. -/
def floatB (md : Region.Mode) (ops : Array Oper) (k : Nat) (d : Tmp) : Bool :=
  Region.noSelect ops && lastFrom md ops (k + 1) k 0 ((Array.replicate ops.size false).setIfInBounds k true) &&
  (match ops[k]? with
   | some oA => (oA.dst == some d) && oA.guard.isNone && oA.after.isEmpty && ((List.range ops.size).all fun i => i == k || i == k + 1 || match ops[i]? with | some o => oA.apart ops o | none => true)
   | none => false) &&
  (match ops[k + 1]? with | some o => o.after.any (fun e => Region.binds md e && e.on == k) | none => false)

theorem wp_region_float {id : Nat} {Q : Exit → Act → World → Prop} {a : Act} {w : World} {l : List Oper} {oA : Oper} {t : TypeId} {z : Array Value} (k : Nat) (d : Tmp) (hm : P.follows .mixedOrders = true) (hlen : l.length = k + 2) (hB : floatB .any l.toArray k d = true)
    (hA : l[k]? = some oA) (hrun : ∀ (a : Act) (w : World), (execOp a.eval oA).run P w = .ok (.value (.pointer (some ⟨w.heap.size, 0, none⟩))) (w.alloc (.cells z t)))
    (h : wpRel P l.toArray (fun w' => ∃ p : Regrown, w' = Go.Sort.grow (redrawn w p.d) p.os) (fun a' => ∀ b w', Below w.heap.size w w' → Blk w' b t z → w.heap.size ≤ b → wpList P l.toArray Q (l.drop (k + 1)) (a'.put (some d) (.pointer (some ⟨b, 0, none⟩))) w') (l.take k) a) : (Code.region id l.toArray true).wp P Q a w := by
  simp only [floatB, Bool.and_eq_true] at hB
  obtain ⟨⟨⟨b1, b2⟩, b3⟩, b4⟩ := hB
  have hA' : l.toArray[k]? = some oA := by simpa using hA
  rw [hA'] at b3
  simp only [Bool.and_eq_true, beq_iff_eq, Option.isNone_iff_eq_none, Array.isEmpty_iff] at b3
  obtain ⟨⟨⟨hd, hg⟩, haf⟩, hap⟩ := b3
  refine wp_region_any hm ?_
  have hsz : l.toArray.size = k + 2 := by simpa using hlen
  have ht : (l.take k).length = k := by simp; omega
  have hx := beforeR_lex (C := fun w' => ∃ p : Regrown, w' = Go.Sort.grow (redrawn w p.d) p.os) (md := .any) (n := k + 1) b1 (l.take k) 0 ((Array.replicate l.toArray.size false).setIfInBounds k true) a
    (fun j hj => by simp only [Nat.zero_add, List.getElem?_toArray]; rw [List.getElem?_take_of_lt (by omega)]) (by rw [ht]; exact b2) h
  rw [ht] at hx
  rw [hsz] at hx ⊢
  have cb : ∀ w' : World, (∃ p : Regrown, w' = Go.Sort.grow (redrawn w p.d) p.os) → Below w.heap.size w w' := by rintro _ ⟨p, rfl⟩; exact below_regrown w p.d p.os
  refine wpAny_of_float (m := k) (B := w.heap.size) hA' hd hg haf hrun (fun l' hn' => ?_) (fun w1 w2 h1 h2 => regrown_of_below (after (cb w1 h1) h2)) (fun w1 h1 => (cb w1 h1).size) (fun i o ho h1 h2 => ?_) (Region.noSelect_spec b1) (fun a' b w' hw' hs' hb' hL => ?_) k _ a _ ?_ ?_ hx
  · obtain ⟨_, oL, hoL, hall⟩ := mem_ready.1 hn'
    rw [hoL] at b4
    obtain ⟨e, he, hbe⟩ := Array.any_eq_true'.1 b4
    simp only [Bool.and_eq_true, beq_iff_eq] at hbe
    have := hall e he hbe.1
    rwa [hbe.2] at this
  · have hi : i < l.toArray.size := (Array.getElem?_eq_some_iff.1 ho).1
    have h3 := List.all_eq_true.1 hap i (List.mem_range.2 hi)
    rw [ho] at h3
    simp only [Bool.or_eq_true, beq_iff_eq] at h3
    rcases h3 with (h3 | h3) | h3
    · exact absurd h3 h1
    · exact absurd h3 h2
    · exact h3
  · have h4 := hL b w' (cb w' hw') hs' hb'
    have hdr : l.drop (k + 1) = [l[k + 1]'(by omega)] := by
      rw [List.drop_eq_getElem_cons (by omega), List.drop_of_length_le (by omega)]
    rw [hdr] at h4
    unfold wpOp
    simp only [List.getElem?_toArray, List.getElem?_eq_getElem (show k + 1 < l.length by omega)]
    exact h4
  · exact ⟨⟨w.drawn + 1, #[]⟩, by rw [Go.Sort.grow_empty]; rfl⟩
  · simp
end
attribute [go_sem] relOp relAt
/-! ### behind the last store of a way -/
section
variable {w w0 W W' : World} {g b : Nat} {t : TypeId} {cs : Array Value}
theorem Blk.put3 {x y z u v r : Value} (h : Blk W b t #[x, y, z]) (hW : W' = ((W.setCell ⟨b, 0, none⟩ u).setCell ⟨b, 1, none⟩ v).setCell ⟨b, 2, none⟩ r) : Blk W' b t #[u, v, r] := by rw [hW]; exact h.st3 u v r
theorem Blk.far3 {u v r : Value} (h : Blk w g t cs) (hb : Below w.heap.size w W) (hle : w.heap.size ≤ b) (hW : W' = ((W.setCell ⟨b, 0, none⟩ u).setCell ⟨b, 1, none⟩ v).setCell ⟨b, 2, none⟩ r) : Blk W' g t cs := by
  have hn : g ≠ b := by have := h.lt; omega
  rw [hW]; exact (((h.on hb).far hn u).far hn v).far hn r
theorem far_below3 {u v r : Value} (h : Below w0.heap.size w0 w) (hb : Below w.heap.size w W) (hle : w.heap.size ≤ b) (hW : W' = ((W.setCell ⟨b, 0, none⟩ u).setCell ⟨b, 1, none⟩ v).setCell ⟨b, 2, none⟩ r) : Below w0.heap.size w0 W' := by
  have hs : w0.heap.size ≤ b := Nat.le_trans h.size hle
  rw [hW]; exact ((((after h hb).setCell (p := ⟨b, 0, none⟩) hs u).setCell (p := ⟨b, 1, none⟩) hs v).setCell (p := ⟨b, 2, none⟩) hs r)
theorem Blk.put6 {x y z x' y' z' u v r k l m : Value} (h : Blk W b t #[x, y, z, x', y', z']) (hW : W' = (((((W.setCell ⟨b, 0, none⟩ u).setCell ⟨b, 1, none⟩ v).setCell ⟨b, 2, none⟩ r).setCell ⟨b, 3, none⟩ k).setCell ⟨b, 4, none⟩ l).setCell ⟨b, 5, none⟩ m) : Blk W' b t #[u, v, r, k, l, m] := by rw [hW]; exact h.st6 u v r k l m
theorem Blk.far6 {u v r k l m : Value} (h : Blk w g t cs) (hb : Below w.heap.size w W) (hle : w.heap.size ≤ b) (hW : W' = (((((W.setCell ⟨b, 0, none⟩ u).setCell ⟨b, 1, none⟩ v).setCell ⟨b, 2, none⟩ r).setCell ⟨b, 3, none⟩ k).setCell ⟨b, 4, none⟩ l).setCell ⟨b, 5, none⟩ m) : Blk W' g t cs := by
  have hn : g ≠ b := by have := h.lt; omega
  rw [hW]; exact ((((((h.on hb).far hn u).far hn v).far hn r).far hn k).far hn l).far hn m
theorem far_below6 {u v r k l m : Value} (h : Below w0.heap.size w0 w) (hb : Below w.heap.size w W) (hle : w.heap.size ≤ b) (hW : W' = (((((W.setCell ⟨b, 0, none⟩ u).setCell ⟨b, 1, none⟩ v).setCell ⟨b, 2, none⟩ r).setCell ⟨b, 3, none⟩ k).setCell ⟨b, 4, none⟩ l).setCell ⟨b, 5, none⟩ m) : Below w0.heap.size w0 W' := by
  have hs : w0.heap.size ≤ b := Nat.le_trans h.size hle
  rw [hW]; exact (((((((after h hb).setCell (p := ⟨b, 0, none⟩) hs u).setCell (p := ⟨b, 1, none⟩) hs v).setCell (p := ⟨b, 2, none⟩) hs r).setCell (p := ⟨b, 3, none⟩) hs k).setCell (p := ⟨b, 4, none⟩) hs l).setCell (p := ⟨b, 5, none⟩) hs m)
end
end Go.Proofs.Ytckjpiioipkfcaa

/- A range over a function whose rounds come of one known list: what the iterator owes, what the loop owes. The iterator may keep a few blocks of its own. No program in sight. -/
namespace Go.Proofs.Ytckjpiioipkfcaa
open Go.RowKit

/-- The blocks that K names lie as they lay; no block has gone. -/
structure Kept (K : Nat → Prop) (w w' : World) : Prop where
  os : w'.os = w.os
  tape : w'.tape = w.tape
  output : w'.output = w.output
  size : w.heap.size ≤ w'.heap.size
  block : ∀ b, b < w.heap.size → K b → w'.heap[b]? = w.heap[b]?
section
variable {K K' : Nat → Prop} {A B C : World}
theorem Kept.refl (K : Nat → Prop) (A : World) : Kept K A A := ⟨rfl, rfl, rfl, Nat.le_refl _, fun _ _ _ => rfl⟩
theorem Kept.trans (h : Kept K A B) (k : Kept K B C) : Kept K A C :=
  ⟨k.os.trans h.os, k.tape.trans h.tape, k.output.trans h.output, Nat.le_trans h.size k.size, fun b hb hK => (k.block b (Nat.lt_of_lt_of_le hb h.size) hK).trans (h.block b hb hK)⟩
theorem Kept.mono (h : Kept K A B) (hK : ∀ b, K' b → K b) : Kept K' A B := ⟨h.os, h.tape, h.output, h.size, fun b hb hk => h.block b hb (hK b hk)⟩
theorem Kept.of_below (h : Below A.heap.size A B) : Kept K A B := ⟨h.os, h.tape, h.output, h.size, fun b hb _ => h.block b hb⟩
theorem Kept.on (h : Kept K A B) (k : Below B.heap.size B C) : Kept K A C := h.trans (Kept.of_below k)
theorem Kept.alloc (h : Kept K A B) (o : Obj) : Kept K A (B.alloc o) := h.on ((Below.refl _ _).alloc (Nat.le_refl _) o)
theorem Kept.setCell (h : Kept K A B) {p : Addr} (hp : ¬ K p.block) (u : Value) : Kept K A (B.setCell p u) :=
  h.trans ⟨rfl, rfl, rfl, by simp [World.setCell], fun b _ hK => Below.heap_setCell B p u b (fun e => hp (e ▸ hK))⟩
theorem Kept.fresh (h : Kept K A B) {p : Addr} (hp : A.heap.size ≤ p.block) (u : Value) : Kept K A (B.setCell p u) :=
  ⟨h.os, h.tape, h.output, by simp [World.setCell]; exact h.size, fun b hb hK => (Below.heap_setCell B p u b (by omega)).trans (h.block b hb hK)⟩
theorem Kept.putObj (h : Kept K A B) {l : Nat} (hl : ¬ K l) (o : Obj) : Kept K A (B.putObj l o) :=
  h.trans ⟨rfl, rfl, rfl, by simp [World.putObj], fun b _ hK => World.putObj_heap_other (fun e => hl (e ▸ hK))⟩
theorem Kept.drew (h : Kept K A B) : Kept K A B.drew := ⟨h.os, h.tape, h.output, h.size, h.block⟩
theorem Kept.grown (h : Kept K A B) {row : Option Nat} (hg : B.grownBy C row) (hr : ∀ k, row = some k → ¬ K k) : Kept K A C :=
  h.trans ⟨hg.os, hg.tape, hg.output, hg.size, fun b hb hK => hg.block b hb (fun e => hr b e.symm hK)⟩
theorem Kept.below {n : Nat} (h : Kept K A B) (hn : n ≤ A.heap.size) (hK : ∀ b, b < n → K b) : Below n A B := ⟨h.os, h.tape, h.output, h.size, fun b hb => h.block b (by omega) (hK b hb)⟩
theorem Kept.blk {g : Nat} {t : TypeId} {cs : Array Value} (h : Kept K A B) (hK : K g) (hb : Blk A g t cs) : Blk B g t cs := (h.block g hb.lt hK).trans hb
end

/-- The blocks from lo on, below hi. -/
def Priv (lo hi b : Nat) : Prop := lo ≤ b ∧ b < hi

/-- What an iterator owes: its rounds come of xs, in its row; behind the first round's beginning it writes to old blocks of its own alone (below Z); a round keeps these, and what the iterator has captured. -/
def Iter (P : Program) (gf : Nat) (lb : Array Value) {α : Type} (encs : α → Array Value) (xs : List α) (cap : Nat → Prop) (w0 : World) : Prop :=
  ∀ (m l : Nat) (J Jx : Nat → Nat → World → Prop) (W : World), Kept cap w0 W →
    (∀ Z i A B, J Z i A → Kept (fun b => ¬ Priv W.heap.size Z b) A B → J Z i B) → (∀ Z i A B, Jx Z i A → Kept (fun b => ¬ Priv W.heap.size Z b) A B → Jx Z i B) →
    (∀ Z i x A, W.heap.size ≤ Z → Z ≤ A.heap.size → xs[i]? = some x → J Z i A → YieldAt Fence.wide m P l (encs x) A fun e B =>
      (e = .returned (.bool true) ∧ J Z (i + 1) B ∧ Kept (fun b => Priv W.heap.size Z b ∨ cap b) A B) ∨ (e = .returned (.bool false) ∧ Jx Z i B)) →
    (∀ Z, J Z 0 W) →
    CallsIn Fence.wide (m + 1) P gf (#[.func (.yield l) #[] #[]] ++ lb) W fun e B => (∃ v, e = .returned v) ∧ ∃ Z, W.heap.size ≤ Z ∧ (J Z xs.length B ∨ ∃ i, i < xs.length ∧ Jx Z i B)

/-- How a round may be left. -/
def leftBy (K : Nat → Prop) (I : Nat → World → Prop) (Ix : Code → Nat → World → Prop) (i : Nat) (A : World) : Exit → Act → World → Prop
  | .normal, _, B => Kept K A B ∧ I (i + 1) B
  | .ret, _, B => Kept K A B ∧ Ix .ret i B
  | .exit id, _, B => Kept K A B ∧ Ix (.exit id) i B
  | .goto t, _, B => Kept K A B ∧ Ix (.goto t) i B
  | .panic _, _, _ => False
  | .outgrown, _, _ => False

/-- What the round keeps: the loop's own blocks, the iterator's, what it has captured. -/
def Keeps (lo hi : Nat) (cap : Nat → Prop) (b : Nat) : Prop := Priv lo hi b ∨ cap b

/-- THE LAW. -/
theorem wp_range {P : Program} {m : Nat} {α : Type} {g : Operand} {ps : Array Tmp} {assign body : Code} {Q : Exit → Act → World → Prop} {a : Act} {w : World} {gf : Nat} {lb : Array Value}
    (hg : a.eval g = .func (.func gf) #[] lb) (eg : ∀ args w, (callFunc gf args).run P w = .ok (.enter gf args) w)
    {encs : α → Array Value} {xs : List α} {cap : Nat → Prop} (hit : Iter P gf lb encs xs cap w) (hcap : ∀ b, cap b → b < w.heap.size) (hps : ∀ x, (encs x).size = ps.size)
    (I : Nat → Nat → World → Prop) (Ix : Nat → Code → Nat → World → Prop)
    (hI : ∀ Z i A B, I Z i A → Kept (fun b => ¬ Priv w.heap.size Z b) A B → I Z i B) (hIx : ∀ Z c i A B, Ix Z c i A → Kept (fun b => ¬ Priv w.heap.size Z b) A B → Ix Z c i B) (h0 : ∀ Z, I Z 0 w)
    (hround : ∀ Z l i x A, l = w.heap.size + 1 → w.heap.size + 2 ≤ Z → Z ≤ A.heap.size → xs[i]? = some x → I Z i A →
      assign.wpIn (Fence.wide.inRound l) m P (Exit.then (fun a1 A1 => Kept (Keeps w.heap.size Z cap) A A1 ∧
        ∀ A2, Kept (fun b => b ≠ l) A1 A2 → A2.heap.size = A1.heap.size → body.wpIn (Fence.wide.inRound l) m P (leftBy (Keeps w.heap.size Z cap) (I Z) (Ix Z) i A2) a1 A2) (fun _ _ _ => False))
        { tmps := (ps.zip (encs x)).foldl (fun t (p, v) => t.setIfInBounds p v) a.tmps, defers := [] } A)
    (hdone : ∀ Z W, I Z xs.length W → W.heap[w.heap.size]? = some (.deferred (some [])) → Q .normal { a with defers := { target := .collected w.heap.size, args := #[] } :: a.defers } W)
    (hstop : ∀ Z c i W, i < xs.length → Ix Z c i W → W.heap[w.heap.size]? = some (.deferred (some [])) → c.wp P Q { a with defers := { target := .collected w.heap.size, args := #[] } :: a.defers } W) :
    (Code.rangeFunc g ps assign body).wp P Q a w := by
  refine wpIn_wide.1 (wpIn_rangeFunc (n := m + 2) ?_)
  intro fn hfn
  obtain ⟨rec, hrec⟩ : ∃ rec : LoopState → Option Code → Loop, rec = fun st pe => { state := st, pending := pe, fn, tmps := a.tmps, params := ps, assign, body, defers := w.heap.size } := ⟨_, rfl⟩
  obtain ⟨W1, hW1⟩ : ∃ W1, (w.alloc (.deferred (some []))).alloc (.loop (rec .ready none)) = W1 := ⟨_, rfl⟩
  have hs1 : W1.heap.size = w.heap.size + 2 := by rw [← hW1]; simp
  have hL1 : W1.heap[w.heap.size + 1]? = some (.loop (rec .ready none)) := by
    rw [← hW1]; have := World.alloc_heap_new (w.alloc (.deferred (some []))) (.loop (rec .ready none)); rwa [World.size_alloc] at this
  have hK1 : W1.heap[w.heap.size]? = some (.deferred (some [])) := by
    rw [← hW1]; exact (Below.heap_alloc _ _ _ (by simp)).trans (World.alloc_heap_new w _)
  have hb1 : Below w.heap.size w W1 := by rw [← hW1]; exact ((Below.refl _ w).alloc (Nat.le_refl _) _).alloc (by simp) _
  have hpr : ∀ Z b, ¬ Priv w.heap.size Z b → ¬ Priv W1.heap.size Z b := fun Z b h h' => h ⟨by have := h'.1; omega, h'.2⟩
  refine ⟨w.heap.size + 1, [{ target := .collected w.heap.size, args := #[] }], W1, { target := .fn (.func gf) lb, args := #[.func (.yield (w.heap.size + 1)) #[] #[]] }, W1, gf,
    #[.func (.yield (w.heap.size + 1)) #[] #[]] ++ lb, W1, ?_, ?_, ?_, ?_, fun _ => by omega, ?_⟩
  · rw [← hW1, hrec]; exact run_enterLoop_outer _ _ _ _ _
  · simp only [resolve, hg]
    simp [go_sem]
  · intro f' _; trivial
  · simp [invoke, go_sem, eg]
  · refine (hit m (w.heap.size + 1)
      (fun Z i W => I Z i W ∧ W.heap[w.heap.size + 1]? = some (.loop (rec .ready none)) ∧ W.heap[w.heap.size]? = some (.deferred (some [])))
      (fun Z i W => W1.heap.size ≤ Z ∧ ∃ c, Ix Z c i W ∧ W.heap[w.heap.size + 1]? = some (.loop (rec .done (some c))) ∧ W.heap[w.heap.size]? = some (.deferred (some [])))
      W1 (Kept.of_below hb1) ?_ ?_ ?_ (fun Z => ⟨hI _ _ _ _ (h0 Z) (Kept.of_below hb1), hL1, hK1⟩)).mono ?_
    · rintro Z i A B ⟨h1, h2, h3⟩ hk
      have hl := (Array.getElem?_eq_some_iff.1 h2).1
      exact ⟨hI _ _ _ _ h1 (hk.mono (hpr Z)), (hk.block _ hl (fun h => by have := h.1; omega)).trans h2, (hk.block _ (by omega) (fun h => by have := h.1; omega)).trans h3⟩
    · rintro Z i A B ⟨h0, c, h1, h2, h3⟩ hk
      have hl := (Array.getElem?_eq_some_iff.1 h2).1
      exact ⟨h0, c, hIx _ _ _ _ _ h1 (hk.mono (hpr Z)), (hk.block _ hl (fun h => by have := h.1; omega)).trans h2, (hk.block _ (by omega) (fun h => by have := h.1; omega)).trans h3⟩
    · -- one round
      rintro Z i x A hZ1 hZ2 hx ⟨hi, hl, hk⟩
      have hy := run_yield (P := P) (args := encs x) hl (by rw [hrec]; exact hps x)
      rw [hrec] at hy
      refine ⟨fn, _, assign, body, hy, roundIn_of_wpIn hfn ?_⟩
      refine wpIn_mono (hround Z _ i x A rfl (by omega) hZ2 hx hi) ?_
      rintro e a1 A1 h
      cases e with
      | exit id => exact h.elim
      | goto t => exact h.elim
      | ret => exact h.elim
      | panic c => exact h.elim
      | outgrown => exact h.elim
      | normal =>
        obtain ⟨hA1, hbody⟩ := h
        have hl' : w.heap.size + 1 < A.heap.size := (Array.getElem?_eq_some_iff.1 hl).1
        have hl1 : A1.heap[w.heap.size + 1]? = some (.loop (rec .ready none)) := (hA1.block _ hl' (.inl ⟨by omega, by omega⟩)).trans hl
        have hk1 : A1.heap[w.heap.size]? = some (.deferred (some [])) := (hA1.block _ (by omega) (.inl ⟨by omega, by omega⟩)).trans hk
        have hlt1 : w.heap.size + 1 < A1.heap.size := (Array.getElem?_eq_some_iff.1 hl1).1
        refine ⟨_, run_beginRound hl1 (by rw [hrec]), ?_⟩
        have hl2 : (A1.putObj (w.heap.size + 1) (.loop { rec .ready none with state := .busy })).heap[w.heap.size + 1]? = some (.loop { rec .ready none with state := .busy }) := World.putObj_heap_same hlt1
        have hk2 : (A1.putObj (w.heap.size + 1) (.loop { rec .ready none with state := .busy })).heap[w.heap.size]? = some (.deferred (some [])) := (World.putObj_heap_other (by omega)).trans hk1
        have hA2 : Kept (fun b => Priv W1.heap.size Z b ∨ cap b) A (A1.putObj (w.heap.size + 1) (.loop { rec .ready none with state := .busy })) :=
          (hA1.mono (K' := fun b => Priv W1.heap.size Z b ∨ cap b) (fun b h => h.imp (fun h => ⟨by have := h.1; omega, h.2⟩) id)).putObj (fun h => by rcases h with h | h; exact absurd h.1 (by omega); exact absurd (hcap _ h) (by omega)) _
        refine wpIn_mono (hbody _ ((Kept.refl _ A1).putObj (by simp) _) (by simp [World.putObj])) ?_
        have fin : ∀ (jump : Option Code) (W3 : World), Kept (Keeps w.heap.size Z cap) (A1.putObj (w.heap.size + 1) (.loop { rec .ready none with state := .busy })) W3 →
            (Instr.endRound (w.heap.size + 1) jump).run P W3 = .ok (.bool jump.isNone) (W3.putObj (w.heap.size + 1) (.loop (rec (if jump.isNone then .ready else .done) jump))) ∧
            (W3.putObj (w.heap.size + 1) (.loop (rec (if jump.isNone then .ready else .done) jump))).heap[w.heap.size + 1]? = some (.loop (rec (if jump.isNone then .ready else .done) jump)) ∧
            (W3.putObj (w.heap.size + 1) (.loop (rec (if jump.isNone then .ready else .done) jump))).heap[w.heap.size]? = some (.deferred (some [])) ∧
            Kept (fun b => ¬ Priv w.heap.size Z b) W3 (W3.putObj (w.heap.size + 1) (.loop (rec (if jump.isNone then .ready else .done) jump))) ∧
            Kept (fun b => Priv W1.heap.size Z b ∨ cap b) A (W3.putObj (w.heap.size + 1) (.loop (rec (if jump.isNone then .ready else .done) jump))) := fun jump W3 hk3 => by
          have hsz2 : (A1.putObj (w.heap.size + 1) (.loop { rec .ready none with state := .busy })).heap.size = A1.heap.size := by simp [World.putObj]
          have hl3 := (hk3.block (w.heap.size + 1) (by omega) (.inl ⟨by omega, by omega⟩)).trans hl2
          have hd3 := (hk3.block w.heap.size (by omega) (.inl ⟨by omega, by omega⟩)).trans hk2
          have := run_endRound (P := P) jump hl3
          rw [hrec] at this ⊢
          refine ⟨this, World.putObj_heap_same (Array.getElem?_eq_some_iff.1 hl3).1, (World.putObj_heap_other (by omega)).trans hd3, (Kept.refl _ _).putObj (fun h => h ⟨by omega, by omega⟩) _, ?_⟩
          refine (hA2.trans ?_).putObj (fun h => by rcases h with h | h; exact absurd h.1 (by omega); exact absurd (hcap _ h) (by omega)) _
          rw [hrec] at hk3 ⊢
          exact hk3.mono (fun b h => h.imp (fun h => ⟨by have := h.1; omega, h.2⟩) id)
        rintro e a3 W3 hp
        cases e with
        | normal =>
          obtain ⟨hk3, hi3⟩ := hp
          obtain ⟨hr, hl4, hk4, hp4, hq4⟩ := fin none W3 hk3
          exact ⟨_, _, hr, .inl ⟨rfl, ⟨hI _ _ _ _ hi3 hp4, hl4, hk4⟩, hq4⟩⟩
        | ret =>
          obtain ⟨hk3, hi3⟩ := hp
          obtain ⟨hr, hl4, hk4, hp4, hq4⟩ := fin (some .ret) W3 hk3
          exact ⟨_, _, hr, .inr ⟨rfl, hZ1, .ret, hIx _ _ _ _ _ hi3 hp4, hl4, hk4⟩⟩
        | exit id =>
          obtain ⟨hk3, hi3⟩ := hp
          obtain ⟨hr, hl4, hk4, hp4, hq4⟩ := fin (some (.exit id)) W3 hk3
          exact ⟨_, _, hr, .inr ⟨rfl, hZ1, .exit id, hIx _ _ _ _ _ hi3 hp4, hl4, hk4⟩⟩
        | goto t =>
          obtain ⟨hk3, hi3⟩ := hp
          obtain ⟨hr, hl4, hk4, hp4, hq4⟩ := fin (some (.goto t)) W3 hk3
          exact ⟨_, _, hr, .inr ⟨rfl, hZ1, .goto t, hIx _ _ _ _ _ hi3 hp4, hl4, hk4⟩⟩
        | panic ch => exact hp.elim
        | outgrown => exact hp.elim
    · rintro e W2 ⟨⟨v, rfl⟩, Z, hZ, (⟨hi, hl, hk⟩ | ⟨i, hlt, hZ', c, hi, hl, hk⟩)⟩
      · exact ⟨none, _, by have := run_endLoop (P := P) hl (by rw [hrec]; simp); rw [hrec] at this; exact this, hdone Z _ (hI _ _ _ _ hi ((Kept.refl _ _).putObj (fun h => h ⟨by omega, by omega⟩) _)) ((World.putObj_heap_other (by omega)).trans hk)⟩
      · exact ⟨some c, _, by have := run_endLoop (P := P) hl (by rw [hrec]; simp); rw [hrec] at this; exact this, wpIn_wide.2 (hstop Z c i _ hlt (hIx _ _ _ _ _ hi ((Kept.refl _ _).putObj (fun h => h ⟨by omega, by omega⟩) _)) ((World.putObj_heap_other (by omega)).trans hk))⟩
/-! ### at the function's end -/
theorem Blk.putObj {w : World} {g D : Nat} {t : TypeId} {cs : Array Value} (h : Blk w g t cs) (hne : g ≠ D) (o : Obj) : Blk (w.putObj D o) g t cs := (World.putObj_heap_other hne).trans h
theorem putObj_below {n D : Nat} {w w' : World} (h : Below n w w') (hD : n ≤ D) (o : Obj) : Below n w (w'.putObj D o) :=
  h.trans ⟨rfl, rfl, rfl, by simp [World.putObj], fun k hk => World.putObj_heap_other (by omega)⟩
theorem def_far {w : World} {D : Nat} {p : Addr} {u : Value} {o : Obj} (h : w.heap[D]? = some o) (hp : D ≠ p.block) : (w.setCell p u).heap[D]? = some o := (Below.heap_setCell w p u D hp).trans h
theorem leave_mark {F : Fence} {n : Nat} {P : Program} {fn : Func} {R : Ending → World → Prop} {tmps : Array Value} {w : World} {D : Nat} {v : Value} (hD : w.heap[D]? = some (.deferred (some [])))
    (hv : (results fn tmps).run P (w.putObj D (.deferred none)) = .ok v (w.putObj D (.deferred none))) (hR : R (.returned v) (w.putObj D (.deferred none))) : bodyPostM F n P fn R .ret { tmps := tmps, defers := [{ target := .collected D, args := #[] }] } w := by
  refine ⟨by simp, .inl ⟨_, _, rfl, run_takeDeferred hD, ?_⟩⟩
  exact ⟨v, hv, hR⟩
end Go.Proofs.Ytckjpiioipkfcaa
