/- Texts that build one behind the other, laid together: Base Plain Fix Span Fix2 Vec Vec2 Vec3 Last Vec4 Ref2 Span3 Base2 Next. -/
import Derived.WalkKit
import Derived.WalkSpells
import Derived.WalkLawsBesides
import Derived.Handy
import Derived.Lib.QuietBelow
import Derived.Lib.Hide
import Derived.BigQuiet
import Derived.Deep.RegionHeld3
import Derived.Shelf.Abstract
import Derived.Test.YtnokibdecnddlaaRows
import Derived.Lib.Mul64
/- Plain helpers of ours: no program in sight. -/
namespace Go.Proofs.Ytnokibdecnddlaa
open Go.RowKit

/-! ### what a number of a kind is -/
def In64 (n : Int) : Prop := -9223372036854775808 ≤ n ∧ n ≤ 9223372036854775807
theorem in64_of_wf {n : Int} (h : (Lit.int .i64 n).wf = true) : In64 n := by
  simp [Lit.wf, IntKind.min, IntKind.max, IntKind.signed, IntKind.bits] at h
  exact ⟨by omega, by omega⟩
def InU8 (n : Int) : Prop := 0 ≤ n ∧ n ≤ 255
theorem inU8_of_wf {n : Int} (h : (Lit.int .u8 n).wf = true) : InU8 n := by
  simp [Lit.wf, IntKind.min, IntKind.max, IntKind.signed, IntKind.bits] at h
  exact ⟨by omega, by omega⟩
def InU16 (n : Int) : Prop := 0 ≤ n ∧ n ≤ 65535
theorem inU16_of_wf {n : Int} (h : (Lit.int .u16 n).wf = true) : InU16 n := by
  simp [Lit.wf, IntKind.min, IntKind.max, IntKind.signed, IntKind.bits] at h
  exact ⟨by omega, by omega⟩

/-! ### endings -/
theorem ret_i {k : IntKind} {a b : Int} (h : a = b) : Ending.returned (.int k a) = .returned (.int k b) := by rw [h]
theorem ret_b {a b : Bool} (h : a = b) : Ending.returned (.bool a) = .returned (.bool b) := by rw [h]

theorem ret_t2 {a b a' b' : Value} (h : a = a') (k : b = b') : Ending.returned (.tuple #[a, b]) = .returned (.tuple #[a', b']) := by rw [h, k]
theorem ret_t3 {a b c a' b' c' : Value} (h : a = a') (k : b = b') (l : c = c') : Ending.returned (.tuple #[a, b, c]) = .returned (.tuple #[a', b', c']) := by rw [h, k, l]
theorem vi {k : IntKind} {a b : Int} (h : a = b) : Value.int k a = .int k b := by rw [h]
theorem vb {a b : Bool} (h : a = b) : Value.bool a = .bool b := by rw [h]
theorem ret_v3 {k : IntKind} {a b c a' b' c' : Int} (h : a = a') (h2 : b = b') (h3 : c = c') : Ending.returned (.agg #[.int k a, .int k b, .int k c]) = .returned (.agg #[.int k a', .int k b', .int k c']) := by rw [h, h2, h3]

/-! ### min and max, behind a name (so that a walk does not part on them) -/
def mnI (x y : Int) : Int := min x y
def mxI (x y : Int) : Int := max x y
theorem run_mn {P : Program} (ts : Array TypeId) (t : TypeId) (k k' : IntKind) (x y : Int) (w : World) : (Builtin.min_ ts t #[.int k x, .int k' y]).run P w = .ok (.int k (mnI x y)) w := by
  rw [run_min_int2]
  have h : (if y < x then y else x) = mnI x y := by unfold mnI; omega
  rw [h]
theorem run_mx {P : Program} (ts : Array TypeId) (t : TypeId) (k k' : IntKind) (x y : Int) (w : World) : (Builtin.max_ ts t #[.int k x, .int k' y]).run P w = .ok (.int k (mxI x y)) w := by
  rw [run_max_int2]
  have h : (if x < y then y else x) = mxI x y := by unfold mxI; omega
  rw [h]

/-! ### memory -/
theorem after {w W W' : World} (h : Below w.heap.size w W) (k : Below W.heap.size W W') : Below w.heap.size w W' := h.trans (k.mono h.size)
theorem after' {n : Nat} {w W W' : World} (h : Below n w W) (hn : n ≤ w.heap.size) (k : Below W.heap.size W W') : Below n w W' := h.trans (k.mono (Nat.le_trans hn h.size))
theorem bcell {W w1 : World} (hb : Below W.heap.size W w1) : (∀ b o, b < W.heap.size → w1.cell? ⟨b, o, none⟩ = W.cell? ⟨b, o, none⟩) ∧ (∀ b o, b < W.heap.size → w1.frozen? ⟨b, o, none⟩ = W.frozen? ⟨b, o, none⟩) :=
  ⟨fun b o h => hb.cell (p := ⟨b, o, none⟩) h, fun b o h => hb.frozen (p := ⟨b, o, none⟩) h⟩

theorem calls_bel {P : Program} {f : FuncId} {args : Array Value} {w : World} {v : Value} (h : Calls P f args w fun e w' => e = .returned v ∧ w = w') : Calls P f args w fun e w' => e = .returned v ∧ Below w.heap.size w w' :=
  h.mono fun _ _ ⟨he, hw⟩ => ⟨he, by rw [← hw]; exact Below.refl _ _⟩
/-- Block g is just these cells, none of them frozen. -/
def Blk (w : World) (g : Nat) (t : TypeId) (cs : Array Value) : Prop := w.heap[g]? = some (.cells cs t (0, 0))

section
variable {w w' : World} {g : Nat} {t : TypeId} {cs : Array Value}
theorem Blk.lt (h : Blk w g t cs) : g < w.heap.size := by
  unfold Blk at h
  exact (Array.getElem?_eq_some_iff.1 h).1
theorem Blk.cell (h : Blk w g t cs) (i : Nat) : w.cell? ⟨g, i, none⟩ = cs[i]? := by
  unfold Blk at h
  simp [World.cell?, h]
theorem Blk.frz (h : Blk w g t cs) (i : Nat) : w.frozen? ⟨g, i, none⟩ = false := by
  unfold Blk at h
  simp [World.frozen?, h]
theorem Blk.new (w : World) (t : TypeId) (cs : Array Value) : Blk (w.alloc (.cells cs t)) w.heap.size t cs := heap_alloc_new w _
theorem Blk.new' {w : World} {g : Nat} {t : TypeId} {cs : Array Value} (h : g = w.heap.size) : Blk (w.alloc (.cells cs t)) g t cs := by subst h; exact Blk.new w t cs
theorem Blk.alloc (h : Blk w g t cs) (o : Obj) : Blk (w.alloc o) g t cs := by
  unfold Blk at *
  have hl := (Array.getElem?_eq_some_iff.1 h).1
  rw [Below.heap_alloc w o g hl]
  exact h
theorem Blk.drew (h : Blk w g t cs) : Blk w.drew g t cs := h
theorem Blk.drewN (h : Blk w g t cs) (n : Nat) : Blk (w.drewN n) g t cs := h
theorem Blk.set_ (h : Blk w g t cs) (i : Nat) (u : Value) : Blk (w.setCell ⟨g, i, none⟩ u) g t (cs.setIfInBounds i u) := by
  unfold Blk at *
  simp [World.setCell, Array.getElem?_modify, h]
theorem Blk.far (h : Blk w g t cs) {p : Addr} (hp : g ≠ p.block) (u : Value) : Blk (w.setCell p u) g t cs := by
  unfold Blk at *
  rw [Below.heap_setCell w p u g hp]
  exact h
theorem Blk.below {B : Nat} (h : Blk w g t cs) (hb : Below B w w') (hg : g < B) : Blk w' g t cs := by
  unfold Blk at *
  rw [hb.block g hg]
  exact h
theorem Blk.on (h : Blk w g t cs) (hb : Below w.heap.size w w') : Blk w' g t cs := h.below hb h.lt
theorem Blk.st3 {x y z : Value} (h : Blk w g t #[x, y, z]) (a b c : Value) : Blk (((w.setCell ⟨g, 0, none⟩ a).setCell ⟨g, 1, none⟩ b).setCell ⟨g, 2, none⟩ c) g t #[a, b, c] := ((h.set_ 0 a).set_ 1 b).set_ 2 c
theorem Blk.st6 {x y z r s u : Value} (h : Blk w g t #[x, y, z, r, s, u]) (a b c d e f : Value) : Blk ((((((w.setCell ⟨g, 0, none⟩ a).setCell ⟨g, 1, none⟩ b).setCell ⟨g, 2, none⟩ c).setCell ⟨g, 3, none⟩ d).setCell ⟨g, 4, none⟩ e).setCell ⟨g, 5, none⟩ f) g t #[a, b, c, d, e, f] :=
  (((((h.set_ 0 a).set_ 1 b).set_ 2 c).set_ 3 d).set_ 4 e).set_ 5 f
theorem Blk.c1 {a : Value} (h : Blk w g t #[a]) : w.cell? ⟨g, 0, none⟩ = some a ∧ w.frozen? ⟨g, 0, none⟩ = false := ⟨h.cell 0, h.frz 0⟩
theorem Blk.c3 {a b c : Value} (h : Blk w g t #[a, b, c]) : w.cell? ⟨g, 0, none⟩ = some a ∧ w.cell? ⟨g, 1, none⟩ = some b ∧ w.cell? ⟨g, 2, none⟩ = some c ∧ w.frozen? ⟨g, 0, none⟩ = false ∧ w.frozen? ⟨g, 1, none⟩ = false ∧ w.frozen? ⟨g, 2, none⟩ = false :=
  ⟨h.cell 0, h.cell 1, h.cell 2, h.frz 0, h.frz 1, h.frz 2⟩
theorem Blk.c6 {a b c d e f : Value} (h : Blk w g t #[a, b, c, d, e, f]) : (w.cell? ⟨g, 0, none⟩ = some a ∧ w.cell? ⟨g, 1, none⟩ = some b ∧ w.cell? ⟨g, 2, none⟩ = some c ∧ w.cell? ⟨g, 3, none⟩ = some d ∧ w.cell? ⟨g, 4, none⟩ = some e ∧ w.cell? ⟨g, 5, none⟩ = some f) ∧
    w.frozen? ⟨g, 0, none⟩ = false ∧ w.frozen? ⟨g, 1, none⟩ = false ∧ w.frozen? ⟨g, 2, none⟩ = false ∧ w.frozen? ⟨g, 3, none⟩ = false ∧ w.frozen? ⟨g, 4, none⟩ = false ∧ w.frozen? ⟨g, 5, none⟩ = false :=
  ⟨⟨h.cell 0, h.cell 1, h.cell 2, h.cell 3, h.cell 4, h.cell 5⟩, h.frz 0, h.frz 1, h.frz 2, h.frz 3, h.frz 4, h.frz 5⟩
/-- In every world with more draws and more blocks behind. -/
theorem Blk.re (h : Blk w g t cs) (d : Nat) (os : Array Obj) : Blk (Go.Sort.grow (redrawn w d) os) g t cs := h.below (below_regrown w d os) h.lt
theorem Blk.re3 {a b c : Value} (h : Blk w g t #[a, b, c]) : (∀ d os, (Go.Sort.grow (redrawn w d) os).cell? ⟨g, 0, none⟩ = some a) ∧ (∀ d os, (Go.Sort.grow (redrawn w d) os).cell? ⟨g, 1, none⟩ = some b) ∧ (∀ d os, (Go.Sort.grow (redrawn w d) os).cell? ⟨g, 2, none⟩ = some c) :=
  ⟨fun d os => (h.re d os).cell 0, fun d os => (h.re d os).cell 1, fun d os => (h.re d os).cell 2⟩
theorem Blk.re6 {a b c x y z : Value} (h : Blk w g t #[a, b, c, x, y, z]) : (∀ d os, (Go.Sort.grow (redrawn w d) os).cell? ⟨g, 0, none⟩ = some a) ∧ (∀ d os, (Go.Sort.grow (redrawn w d) os).cell? ⟨g, 1, none⟩ = some b) ∧ (∀ d os, (Go.Sort.grow (redrawn w d) os).cell? ⟨g, 2, none⟩ = some c) ∧
    (∀ d os, (Go.Sort.grow (redrawn w d) os).cell? ⟨g, 3, none⟩ = some x) ∧ (∀ d os, (Go.Sort.grow (redrawn w d) os).cell? ⟨g, 4, none⟩ = some y) ∧ (∀ d os, (Go.Sort.grow (redrawn w d) os).cell? ⟨g, 5, none⟩ = some z) :=
  ⟨fun d os => (h.re d os).cell 0, fun d os => (h.re d os).cell 1, fun d os => (h.re d os).cell 2, fun d os => (h.re d os).cell 3, fun d os => (h.re d os).cell 4, fun d os => (h.re d os).cell 5⟩
/-! ### a world after a call and a new block, under a name of its own -/
theorem Blk.step {w1 W : World} {o : Obj} (h : Blk w g t cs) (hb : Below w.heap.size w w1) (hW : W = w1.alloc o) : Blk W g t cs := by
  rw [hW]; exact (h.on hb).alloc o
theorem Blk.fresh {w1 W : World} (hW : W = w1.alloc (.cells cs t)) : Blk W w1.heap.size t cs := by
  rw [hW]; exact Blk.new w1 t cs
theorem step_below {v w1 W : World} {o : Obj} (h : Below v.heap.size v w) (hb : Below w.heap.size w w1) (hW : W = w1.alloc o) : Below v.heap.size v W := by
  rw [hW]; exact (after h hb).alloc (after h hb).size o
end
end Go.Proofs.Ytnokibdecnddlaa

/- Plain numbers: what the functions of the layers 1 and 2 compute; no program in sight. -/
namespace Go.Proofs.Ytnokibdecnddlaa
open Go.RowKit

/-- within the bounds -/
def cutI (n : Int) : Int := min (max n (-140737488355328)) 140737488355328
theorem cutI_lo (n : Int) : -140737488355328 ≤ cutI n := by unfold cutI; omega
theorem cutI_hi (n : Int) : cutI n ≤ 140737488355328 := by unfold cutI; omega
theorem cutI_id {n : Int} (h : -140737488355328 ≤ n) (k : n ≤ 140737488355328) : cutI n = n := by unfold cutI; omega
theorem cutI_cut (n : Int) : cutI (cutI n) = cutI n := by unfold cutI; omega
theorem cutI_mono {a b : Int} (h : a ≤ b) : cutI a ≤ cutI b := by unfold cutI; omega
def addI (a b : Int) : Int := cutI (cutI a + cutI b)
def subI (a b : Int) : Int := cutI (cutI a - cutI b)
/-- a product of fixed numbers, rounded down -/
def mulI (a b : Int) : Int := cutI (cutI a * cutI b / 65536)
/-- brecciaref01.Around -/
def arI (n m : Int) : Int := (if n < 0 then -(n + 1) else n) % m
theorem arI_lo (n : Int) {m : Int} (h : 0 < m) : 0 ≤ arI n m := by unfold arI; exact Int.emod_nonneg _ (by omega)
theorem arI_hi (n : Int) {m : Int} (h : 0 < m) : arI n m < m := by unfold arI; exact Int.emod_lt_of_pos _ h
def towI (n to by_ : Int) : Int := min (max (cutI to) (cutI n - max (cutI by_) 0)) (cutI n + max (cutI by_) 0)
/-- how great a number is -/
def absI (n : Int) : Int := if n < 0 then -n else n
def upI (n : Int) (below rest : Bool) : Int := if below && rest then n + 1 else n
def rndI (q : Int) (rest below : Bool) : Int :=
  if 140737488355328 ≤ q then (if below then -140737488355328 else 140737488355328)
  else if below then -(upI q below rest) else q
theorem upI_bd (n : Int) (b r : Bool) : n ≤ upI n b r ∧ upI n b r ≤ n + 1 := by unfold upI; split <;> omega
/-- a quotient of fixed numbers, rounded down -/
def quoI (a b : Int) : Int := rndI (absI (cutI a) * 65536 / absI (cutI b)) (absI (cutI a) * 65536 % absI (cutI b) != 0) (decide (cutI a < 0) != decide (cutI b < 0))
/-- axis i of a way -/
def axI (x y z i : Int) : Int := if i = 0 then x else if i = 1 then y else if i = 2 then z else 0
/-- axis i of a way of which axis a has got the number n -/
def wiI (x a i n : Int) : Int := if i = a then cutI n else x
theorem ediv_bd (a b : Int) (hb : 0 < b) : b * (a / b) ≤ a ∧ a < b * (a / b) + b := by
  have h1 := Int.mul_ediv_add_emod a b
  have h2 := Int.emod_nonneg a (show b ≠ 0 by omega)
  have h3 := Int.emod_lt_of_pos a hb
  omega
theorem ediv_abs (a b : Int) (hb : 0 < b) (h : 0 ≤ a) : 0 ≤ a / b ∧ a / b ≤ a := by
  refine ⟨Int.ediv_nonneg h (by omega), ?_⟩
  exact Int.ediv_le_self b h
/-- brecciaref01.Div: the quotient that Go gives, made one less where it is too great. -/
theorem rdiv_p (a b : Int) (h1 : -9223372036854775808 ≤ a) (h2 : a ≤ 9223372036854775807) (hb : 0 < b) :
    (a < wrap64 (a.tdiv b * b) → wrap64 (a.tdiv b - 1) = a / b) ∧ (wrap64 (a.tdiv b * b) ≤ a → a.tdiv b = a / b) := by
  have e := ediv_bd a b hb
  rcases Int.le_total 0 a with h | h
  · have e1 : a.tdiv b = a / b := Int.tdiv_eq_ediv_of_nonneg h
    have e2 := ediv_abs a b hb h
    rw [e1]
    have e3 : a / b * b = b * (a / b) := Int.mul_comm _ _
    have e4 : 0 ≤ b * (a / b) := Int.mul_nonneg (by omega) e2.1
    rw [e3, IntWalk.wrap64_in _ (by omega)]
    exact ⟨fun h => by omega, fun _ => rfl⟩
  · have e1 : a.tdiv b = -((-a) / b) := by
      rw [← Int.tdiv_eq_ediv_of_nonneg (show 0 ≤ -a by omega), Int.neg_tdiv, Int.neg_neg]
    have e2 := ediv_abs (-a) b hb (by omega)
    have e5 := ediv_bd (-a) b hb
    rw [e1]
    have e3 : -((-a) / b) * b = -(b * ((-a) / b)) := by rw [Int.neg_mul, Int.mul_comm]
    have e4 : 0 ≤ b * ((-a) / b) := Int.mul_nonneg (by omega) e2.1
    rw [e3, IntWalk.wrap64_in _ (by omega)]
    have key : ∀ q : Int, b * q ≤ a → a < b * q + b → q = a / b := by
      intro q hq hq2
      exact (Int.ediv_eq_iff_of_pos hb).2 ⟨by rw [Int.mul_comm]; exact hq, by rw [Int.mul_comm]; exact hq2⟩ |>.symm
    have e6 : b * (-((-a) / b)) = -(b * ((-a) / b)) := Int.mul_neg _ _
    have e7 : b * (-((-a) / b) - 1) = -(b * ((-a) / b)) - b := by rw [Int.mul_sub, e6, Int.mul_one]
    have e8 : 1 * (-a / b) ≤ b * (-a / b) := Int.mul_le_mul_of_nonneg_right (by omega) e2.1
    refine ⟨fun h => ?_, fun h => ?_⟩
    · rw [IntWalk.wrap64_in _ (by omega)]
      exact key _ (by omega) (by omega)
    · exact key _ (by omega) (by omega)
theorem sgn_of {n : Int} (h : -140737488355328 ≤ n) (k : n ≤ 140737488355328) : n = 0 ∨ (∃ x, n = x ∧ 0 < x ∧ x ≤ 140737488355328) ∨ ∃ x, n = -x ∧ 0 < x ∧ x ≤ 140737488355328 := by
  rcases Int.lt_trichotomy n 0 with h1 | h1 | h1
  · exact .inr (.inr ⟨-n, by omega, by omega, by omega⟩)
  · exact .inl h1
  · exact .inr (.inl ⟨n, rfl, h1, k⟩)
theorem mul_p {x y : Int} (hx : 0 < x) (hy : 0 < y) : (9223372036854775807 / y < x → 9223372036854775807 < x * y) ∧ (x ≤ 9223372036854775807 / y → x * y ≤ 9223372036854775807) ∧ 0 < x * y := by
  refine ⟨fun h => ?_, fun h => ?_, Int.mul_pos hx hy⟩
  · exact (Int.ediv_lt_iff_lt_mul hy).1 h
  · exact (Int.le_ediv_iff_mul_le hy).1 h
theorem mulI_p {a b p : Int} (h : cutI a * cutI b = p) : mulI a b = cutI (p / 65536) := by rw [← h]; rfl
theorem absI_bd {n : Int} (h : -140737488355328 ≤ n) (k : n ≤ 140737488355328) : 0 ≤ absI n ∧ absI n ≤ 140737488355328 := by unfold absI; omega
theorem mul_sgn (u v : Int) : u * v = if (decide (u < 0) != decide (v < 0)) then -(absI u * absI v) else absI u * absI v := by
  unfold absI
  by_cases h1 : u < 0 <;> by_cases h2 : v < 0 <;> simp [h1, h2, Int.neg_mul, Int.mul_neg]
theorem mul_rnd (u v p : Int) (hp : absI u * absI v = p) (h0 : 0 ≤ p) :
    (0 < p / 18446744073709551616 → ∀ r, rndI 140737488355328 r (decide (u < 0) != decide (v < 0)) = cutI (u * v / 65536)) ∧
    (p / 18446744073709551616 ≤ 0 → rndI (p % 18446744073709551616 / 65536) (p % 65536 != 0) (decide (u < 0) != decide (v < 0)) = cutI (u * v / 65536)) := by
  rw [mul_sgn, hp]
  unfold rndI upI cutI
  cases (decide (u < 0) != decide (v < 0)) <;> simp <;> refine ⟨?_, ?_⟩ <;> intros <;> omega
theorem bits_and_mask (n : Int) : bits .and .i64 n 65535 = n % 65536 := by
  show IntKind.i64.wrap ((BitVec.ofInt 64 n &&& BitVec.ofInt 64 65535).toNat : Int) = _
  have e : (BitVec.ofInt 64 65535).toNat = 2 ^ 16 - 1 := by decide
  rw [BitVec.toNat_and, e, Nat.and_two_pow_sub_one_eq_mod, BitVec.toNat_ofInt, IntKind.wrap_i64]
  omega
theorem absI_pos {n : Int} (h : n ≠ 0) : 0 < absI n := by unfold absI; omega
/-- One digit more. -/
theorem dbl (X y : Int) (hy : 0 < y) : (2 * X) / y = 2 * (X / y) + (if y ≤ 2 * (X % y) then 1 else 0) ∧ (2 * X) % y = 2 * (X % y) - (if y ≤ 2 * (X % y) then y else 0) := by
  have h1 := Int.mul_ediv_add_emod X y
  have h2 := Int.emod_nonneg X (show y ≠ 0 by omega)
  have h3 := Int.emod_lt_of_pos X hy
  have h4 := Int.mul_ediv_add_emod (2 * X) y
  have key : ∀ q r : Int, y * q + r = 2 * X → 0 ≤ r → r < y → (2 * X) / y = q ∧ (2 * X) % y = r := by
    intro q r e a b
    have e2 : r + y * q = 2 * X := by omega
    rw [← e2]
    refine ⟨?_, ?_⟩
    · rw [Int.add_mul_ediv_left _ _ (by omega), Int.ediv_eq_zero_of_lt a b]; omega
    · rw [Int.add_mul_emod_self_left, Int.emod_eq_of_lt a b]
  split
  · refine key _ _ ?_ (by omega) (by omega)
    have : y * (2 * (X / y) + 1) = 2 * (y * (X / y)) + y := by rw [Int.mul_add, Int.mul_one, Int.mul_left_comm]
    omega
  · refine key _ _ ?_ (by omega) (by omega)
    have : y * (2 * (X / y) + 0) = 2 * (y * (X / y)) := by rw [Int.add_zero, Int.mul_left_comm]
    omega
end Go.Proofs.Ytnokibdecnddlaa

/- The walks of the layer 1 (fixed) and of its reference. -/
namespace Go.Proofs.Ytnokibdecnddlaa
open Go.RowKit

set_option maxHeartbeats 400000 in
theorem rcut_c (n : Int) (w : World) : Calls Try.prog 70 #[.int .i64 n] w fun e w' => e = .returned (.int .i64 (cutI n)) ∧ w = w' := by
  go_enter Try.func70, Try.ntmps70
  go_wp2
  all_goals (go_returns; exact ⟨ret_i (by unfold cutI; omega), rfl⟩)
set_option maxHeartbeats 400000 in
theorem fcut_c (n : Int) (w : World) : Calls Try.prog 92 #[.int .i64 n] w fun e w' => e = .returned (.int .i64 (cutI n)) ∧ w = w' := by
  go_enter Try.func92, Try.ntmps92
  go_wp2
  all_goals (go_returns; exact ⟨ret_i (by unfold cutI; omega), rfl⟩)
set_option maxHeartbeats 400000 in
theorem fadd_c (a b : Int) (w : World) : Calls Try.prog 87 #[.int .i64 a, .int .i64 b] w fun e w' => e = .returned (.int .i64 (addI a b)) ∧ w = w' := by
  have h1 := cutI_lo a
  have h2 := cutI_hi a
  have h3 := cutI_lo b
  have h4 := cutI_hi b
  go_enter Try.func87, Try.ntmps87
  go_wp2_with (go_at_call 92; refine (fcut_c _ _).mono ?_; rintro e w1 ⟨rfl, rfl⟩)
  go_returns
  exact ⟨ret_i rfl, rfl⟩
set_option maxHeartbeats 400000 in
theorem fsub_c (a b : Int) (w : World) : Calls Try.prog 96 #[.int .i64 a, .int .i64 b] w fun e w' => e = .returned (.int .i64 (subI a b)) ∧ w = w' := by
  have h1 := cutI_lo a
  have h2 := cutI_hi a
  have h3 := cutI_lo b
  have h4 := cutI_hi b
  go_enter Try.func96, Try.ntmps96
  go_wp2_with (go_at_call 92; refine (fcut_c _ _).mono ?_; rintro e w1 ⟨rfl, rfl⟩)
  go_returns
  exact ⟨ret_i rfl, rfl⟩
set_option maxHeartbeats 400000 in
theorem radd_c (a b : Int) (w : World) : Calls Try.prog 65 #[.int .i64 a, .int .i64 b] w fun e w' => e = .returned (.int .i64 (addI a b)) ∧ w = w' := by
  have h1 := cutI_lo a
  have h2 := cutI_hi a
  have h3 := cutI_lo b
  have h4 := cutI_hi b
  go_enter Try.func65, Try.ntmps65
  go_wp2_with (go_at_call 70; refine (rcut_c _ _).mono ?_; rintro e w1 ⟨rfl, rfl⟩)
  go_returns
  exact ⟨ret_i rfl, rfl⟩
set_option maxHeartbeats 400000 in
theorem rsub_c (a b : Int) (w : World) : Calls Try.prog 64 #[.int .i64 a, .int .i64 b] w fun e w' => e = .returned (.int .i64 (subI a b)) ∧ w = w' := by
  have h1 := cutI_lo a
  have h2 := cutI_hi a
  have h3 := cutI_lo b
  have h4 := cutI_hi b
  go_enter Try.func64, Try.ntmps64
  go_wp2_with (go_at_call 70; refine (rcut_c _ _).mono ?_; rintro e w1 ⟨rfl, rfl⟩)
  go_returns
  exact ⟨ret_i rfl, rfl⟩
set_option maxHeartbeats 400000 in
theorem around_c (n m : Int) (hn : -9223372036854775808 ≤ n) (hn2 : n ≤ 9223372036854775807) (hm : 0 < m) (w : World) : Calls Try.prog 17 #[.int .i64 n, .int .i64 m] w fun e w' => e = .returned (.int .i64 (arI n m)) ∧ w = w' := by
  by_cases h : n < 0
  all_goals
    go_enter Try.func17, Try.ntmps17
    go_wp2
    go_returns
    exact ⟨ret_i (by unfold arI; first | rw [if_neg (by omega)] | rw [if_pos h, ← Int.neg_tmod, Int.tmod_eq_emod_of_nonneg (a := -(n + 1)) (b := m) (by omega)]), rfl⟩
set_option maxHeartbeats 400000 in
theorem size_c (n : Int) (w : World) : Calls Try.prog 97 #[.int .i64 n] w fun e w' => e = .returned (.tuple #[.int .u64 (absI (cutI n)), .bool (decide (cutI n < 0))]) ∧ w = w' := by
  have h1 := cutI_lo n
  have h2 := cutI_hi n
  go_enter Try.func97, Try.ntmps97
  go_wp2_with (go_at_call 92; refine (fcut_c _ _).mono ?_; rintro e w1 ⟨rfl, rfl⟩)
  all_goals
    go_returns
    exact ⟨ret_t2 (vi (by unfold absI; omega)) (vb (by rw [eq_comm]; simp; omega)), rfl⟩
set_option maxHeartbeats 400000 in
theorem rdiv_c (a b : Int) (h1 : -9223372036854775808 ≤ a) (h2 : a ≤ 9223372036854775807) (hb : 0 < b) (w : World) : Calls Try.prog 58 #[.int .i64 a, .int .i64 b] w fun e w' => e = .returned (.int .i64 (a / b)) ∧ w = w' := by
  have p := Lib.hid (rdiv_p a b h1 h2 hb)
  go_enter Try.func58, Try.ntmps58
  go_wp2
  all_goals
    go_returns
    exact ⟨ret_i (by first | exact p.out.1 (by assumption) | exact p.out.2 (by assumption)), rfl⟩
theorem rcut_e (n v : Int) (h : cutI n = v) (w : World) : Calls Try.prog 70 #[.int .i64 n] w fun e w' => e = .returned (.int .i64 v) ∧ w = w' := by
  rw [← h]; exact rcut_c n w
set_option maxHeartbeats 1000000 in
theorem rmul_0 (a b u v : Int) (hu : cutI a = u) (hv : cutI b = v) (h : u = 0 ∨ u ≠ 0 ∧ v = 0) (w : World) : Calls Try.prog 43 #[.int .i64 a, .int .i64 b] w fun e w' => e = .returned (.int .i64 (mulI a b)) ∧ w = w' := by
  have hm : mulI a b = 0 := by rw [mulI_p (p := 0) (by rw [hu, hv]; rcases h with h | h <;> simp [h])]; decide
  rw [hm]
  clear hm
  rcases h with h | ⟨h, h'⟩
  · subst h
    go_enter Try.func43, Try.ntmps43
    go_wp2_with fail
    refine (rcut_e a 0 hu _).mono ?_; rintro e w1 ⟨rfl, rfl⟩
    go_wp2_with fail
    refine (rcut_c b _).mono ?_; rintro e w1 ⟨rfl, rfl⟩
    clear hu hv
    go_wp2_with fail
    go_returns
    exact ⟨ret_i rfl, rfl⟩
  · subst h'
    have hf : (u == 0) = false := by simpa using h
    go_enter Try.func43, Try.ntmps43
    go_wp2_with fail
    refine (rcut_e a u hu _).mono ?_; rintro e w1 ⟨rfl, rfl⟩
    go_wp2_with fail
    refine (rcut_e b 0 hv _).mono ?_; rintro e w1 ⟨rfl, rfl⟩
    clear hu hv
    go_wp2_with fail
    go_returns
    exact ⟨ret_i rfl, rfl⟩
theorem rdiv_e (a b v : Int) (h1 : -9223372036854775808 ≤ a) (h2 : a ≤ 9223372036854775807) (hb : 0 < b) (h : a / b = v) (w : World) : Calls Try.prog 58 #[.int .i64 a, .int .i64 b] w fun e w' => e = .returned (.int .i64 v) ∧ w = w' := by
  rw [← h]; exact rdiv_c a b h1 h2 hb w
set_option maxHeartbeats 1000000 in
theorem rmul_c (a b : Int) (w : World) : Calls Try.prog 43 #[.int .i64 a, .int .i64 b] w fun e w' => e = .returned (.int .i64 (mulI a b)) ∧ w = w' := by
  rcases sgn_of (cutI_lo a) (cutI_hi a) with ha | ha | ha
  · exact rmul_0 a b _ _ ha rfl (.inl rfl) w
  all_goals
    obtain ⟨x, hu, hx, hx2⟩ := ha
    rcases sgn_of (cutI_lo b) (cutI_hi b) with hb | hb | hb
    · exact rmul_0 a b _ _ hu hb (.inr ⟨by omega, rfl⟩) w
  all_goals
    obtain ⟨y, hv, hy, hy2⟩ := hb
    have hm := mulI_p (a := a) (b := b) (by rw [hu, hv])
    have Hu := Lib.hid hu
    have Hv := Lib.hid hv
    obtain ⟨k1, k2, k3⟩ := mul_p hx hy
    try simp only [Int.neg_mul, Int.mul_neg, Int.neg_neg] at hm
    have Hm := Lib.hid hm
    clear hu hv hm
    have t1 : (x == 0) = false := by simp; omega
    have t2 : (-x == 0) = false := by simp; omega
    have t3 : (y == 0) = false := by simp; omega
    have t4 : (-y == 0) = false := by simp; omega
    have t5 : decide (x < 0) = false := by simp; omega
    have t6 : decide (-x < 0) = true := by simp; omega
    have t7 : decide (y < 0) = false := by simp; omega
    have t8 : decide (-y < 0) = true := by simp; omega
    by_cases hc : x ≤ 9223372036854775807 / y
    · have k4 := k2 hc
      clear k1 k2
      go_enter Try.func43, Try.ntmps43
      go_wp2_with fail
      refine (rcut_e a _ Hu.out _).mono ?_; rintro e w1 ⟨rfl, rfl⟩
      go_wp2_with fail
      refine (rcut_e b _ Hv.out _).mono ?_; rintro e w1 ⟨rfl, rfl⟩
      go_wp2_with fail
      refine (rdiv_c _ _ (by omega) (by omega) (by decide) _).mono ?_; rintro e w1 ⟨rfl, rfl⟩
      go_wp2_with fail
      refine (rcut_c _ _).mono ?_; rintro e w1 ⟨rfl, rfl⟩
      go_wp2_with fail
      go_returns
      exact ⟨ret_i (by rw [Hm.out]), rfl⟩
    · have k4 := k1 (by omega)
      clear k1 k2
      go_enter Try.func43, Try.ntmps43
      go_wp2_with fail
      refine (rcut_e a _ Hu.out _).mono ?_; rintro e w1 ⟨rfl, rfl⟩
      go_wp2_with fail
      refine (rcut_e b _ Hv.out _).mono ?_; rintro e w1 ⟨rfl, rfl⟩
      go_wp2_with fail
      go_returns
      exact ⟨ret_i (by rw [Hm.out]; unfold cutI; omega), rfl⟩
end Go.Proofs.Ytnokibdecnddlaa

/- The cells of a box along an axis: the plain law; the document's floor. -/
namespace Go.Proofs.Ytnokibdecnddlaa
open Go.RowKit

/-- The least, the greatest cell from n to m along an axis; is nothing there? -/
def lowI (n : Int) : Int := cutI n / 65536
def topI (n m : Int) : Int := if lowI m * 65536 = m ∧ lowI n < lowI m then lowI m - 1 else lowI m
def thinI (n m : Int) : Bool := (n == m) && (lowI n * 65536 == n)
/-- The program's greatest cell is the document's. -/
theorem topI_prog {n m : Int} (h1 : -140737488355328 ≤ n) (h2 : m ≤ 140737488355328) (h : n ≤ m) : (if n = m then lowI n else cutI (cutI m + cutI (-1)) / 65536) = topI n m := by
  unfold topI lowI
  rw [cutI_id h1 (by omega), cutI_id (by omega) h2, cutI_id (n := -1) (by decide) (by decide)]
  by_cases he : n = m
  · subst he; rw [if_pos rfl, if_neg (by omega)]
  · rw [if_neg he, cutI_id (by omega) (by omega)]
    split <;> omega
theorem thinI_prog {n m : Int} (h1 : -140737488355328 ≤ n) (h2 : n ≤ 140737488355328) : ((n == m) && (cutI n % 65536 == 0)) = thinI n m := by
  unfold thinI lowI
  rw [cutI_id h1 h2]
  congr 1
  rw [Bool.eq_iff_iff]
  simp only [beq_iff_eq]
  omega
theorem topI_low {n m : Int} (h1 : -140737488355328 ≤ n) (h2 : m ≤ 140737488355328) (h : n ≤ m) : lowI n ≤ topI n m := by
  unfold topI lowI
  rw [cutI_id h1 (by omega), cutI_id (by omega) h2]
  split <;> omega
theorem rfloor_c (n : Int) (w : World) : Calls Try.prog 114 #[.int .i64 n] w fun r w' => r = .returned (.int .i64 (lowI n)) ∧ w = w' := by
  have h1 := cutI_lo n
  have h2 := cutI_hi n
  go_enter Try.func114, Try.ntmps114
  go_wp2_with fail
  refine (rcut_c _ _).mono ?_; rintro e w1 ⟨rfl, rfl⟩
  go_wp2_with fail
  refine (rdiv_c _ _ (by omega) (by omega) (by decide) _).mono ?_; rintro e w1 ⟨rfl, rfl⟩
  go_wp2_with fail
  go_returns
  exact ⟨ret_i rfl, rfl⟩
theorem thin_c (n m lo hi : Int) (w : World) : Calls Try.prog 125 #[.int .i64 n, .int .i64 m, .int .i64 lo, .int .i64 hi] w fun r w' => r = .returned (.int .i64 (if n = m then lo else hi)) ∧ w = w' := by
  by_cases h : n = m
  · have h' : (n == m) = true := by simpa using h
    rw [if_pos h]
    clear h
    go_enter Try.func125, Try.ntmps125
    go_wp2_with fail
    go_returns
    exact ⟨rfl, rfl⟩
  · have h' : (n == m) = false := by simpa using h
    rw [if_neg h]
    clear h
    go_enter Try.func125, Try.ntmps125
    go_wp2_with fail
    go_returns
    exact ⟨rfl, rfl⟩
end Go.Proofs.Ytnokibdecnddlaa

/- The walks of the layer 1 (fixed) and of its reference: what stands on memory, and quotients. -/
namespace Go.Proofs.Ytnokibdecnddlaa
open Go.RowKit

theorem mul64_mask (a : Nat) (ha : a < 18446744073709551616) : bits .and .u64 (a : Int) 4294967295 = ((a % 4294967296 : Nat) : Int) := by
  have h := bits_and_u64_nat a 4294967295 ha (by omega)
  have e : a &&& 4294967295 = a % 4294967296 := Nat.and_two_pow_sub_one_eq_mod a 32
  rw [e] at h
  exact h
theorem mul64_div (a : Nat) : (a : Int) / 4294967296 = ((a / 4294967296 : Nat) : Int) := by omega
theorem mul64_mul (a b : Nat) : (a : Int) * (b : Int) = ((a * b : Nat) : Int) := (Int.natCast_mul a b).symm
theorem mul64_add (a b : Nat) : (a : Int) + (b : Int) = ((a + b : Nat) : Int) := (Int.natCast_add a b).symm
theorem mul64_wrap (a : Nat) (ha : a < 18446744073709551616) : IntKind.u64.wrap (a : Int) = (a : Int) := by rw [IntKind.wrap_u64]; omega
theorem mul64_wrapM (a : Nat) : IntKind.u64.wrap (a : Int) = ((a % 18446744073709551616 : Nat) : Int) := by rw [IntKind.wrap_u64]; omega
set_option maxHeartbeats 1000000 in
theorem mul64_c (x y : Nat) (hx : x < 18446744073709551616) (hy : y < 18446744073709551616) (w : World) :
    Calls Try.prog 98 #[.int .u64 x, .int .u64 y] w fun e w' => e = .returned (.tuple #[.int .u64 ((x * y / 18446744073709551616 : Nat) : Int), .int .u64 ((x * y % 18446744073709551616 : Nat) : Int)]) ∧ w = w' := by
  obtain ⟨bd, bt, bw, hhi⟩ := Lib.mul64_hi x y hx hy
  have ba := Lib.half_mul_le (a := x / 4294967296) (b := y / 4294967296) (by omega) (by omega)
  have bb := Lib.half_mul_le (a := x / 4294967296) (b := y % 4294967296) (by omega) (by omega)
  have bc := Lib.half_mul_le (a := x % 4294967296) (b := y / 4294967296) (by omega) (by omega)
  have ba' : x / 4294967296 * (y / 4294967296) < 18446744073709551616 := by omega
  have bb' : x / 4294967296 * (y % 4294967296) < 18446744073709551616 := by omega
  have bc' : x % 4294967296 * (y / 4294967296) < 18446744073709551616 := by omega
  have bh1 : x / 4294967296 * (y / 4294967296) + (x / 4294967296 * (y % 4294967296) + x % 4294967296 * (y % 4294967296) / 4294967296) / 4294967296 < 18446744073709551616 := by omega
  have bh : x / 4294967296 * (y / 4294967296) + (x / 4294967296 * (y % 4294967296) + x % 4294967296 * (y % 4294967296) / 4294967296) / 4294967296 + ((x / 4294967296 * (y % 4294967296) + x % 4294967296 * (y % 4294967296) / 4294967296) % 4294967296 + x % 4294967296 * (y / 4294967296)) / 4294967296 < 18446744073709551616 := by omega
  go_enter Try.func98, Try.ntmps98
  go_wp2
  simp only [mul64_mask x hx, mul64_mask y hy, mul64_div, mul64_mul, mul64_add, mul64_wrap _ bd, mul64_wrap _ bb', mul64_wrap _ bt, mul64_mask _ bt, mul64_wrap _ bc', mul64_wrap _ bw, mul64_wrap _ ba', mul64_wrap _ bh1, mul64_wrap _ bh, mul64_wrapM (x * y)]
  rw [hhi]
  go_ret2
  exact ⟨rfl, rfl⟩
set_option maxHeartbeats 400000 in
theorem round1_c (n : Int) (b r : Bool) (p q : Nat) (hn : 0 ≤ n) (hn2 : n ≤ 140737488355328) (w : World) (hb : w.cell? ⟨p, 0, none⟩ = some (.bool b)) (hr : w.cell? ⟨q, 0, none⟩ = some (.bool r)) :
    Calls Try.prog 111 #[.int .u64 n, .pointer (some ⟨p, 0, none⟩), .pointer (some ⟨q, 0, none⟩)] w fun e w' => e = .returned (.int .u64 (upI n b r)) ∧ w = w' := by
  cases b <;> cases r
  all_goals
    go_enter Try.func111, Try.ntmps111
    go_wp2
    go_returns
    exact ⟨ret_i (by simp [upI]), rfl⟩
set_option maxHeartbeats 1000000 in
theorem round_c (q : Int) (rest below : Bool) (hq : 0 ≤ q) (hq2 : q ≤ 18446744073709551615) (w : World) :
    Calls Try.prog 99 #[.int .u64 q, .bool rest, .bool below] w fun e w' => e = .returned (.int .i64 (rndI q rest below)) ∧ Below w.heap.size w w' := by
  have hmf : ∀ (fn : Fn) (first cap : Array Value) (w : World), (Instr.makeFunc fn first cap).run Try.prog w = .ok (.func fn first cap) w := fun _ _ _ _ => rfl
  by_cases h : 140737488355328 ≤ q <;> cases below
  all_goals
    go_enter Try.func99, Try.ntmps99
    go_wp2_with fail
    first
      | (go_returns; exact ⟨ret_i (by simp [rndI]; omega), by go_grown⟩)
      | (refine (round1_c _ _ _ _ _ (by omega) (by omega) _ (Blk.new' (by simp)).c1.1 ((Blk.new' rfl).alloc _).c1.1).mono ?_
         rintro e w1 ⟨rfl, rfl⟩
         have ub := upI_bd 140737488355328 true false
         have ub2 := upI_bd q true rest
         go_wp2_with fail
         go_returns
         exact ⟨ret_i (by simp [rndI, h]; first | rfl | (simp [upI]; done) | omega), by go_grown⟩)
theorem mul64_i (x y : Int) (hx : 0 ≤ x) (hy : 0 ≤ y) (hx2 : x ≤ 140737488355328) (hy2 : y ≤ 140737488355328) (w : World) :
    Calls Try.prog 98 #[.int .u64 x, .int .u64 y] w fun e w' => e = .returned (.tuple #[.int .u64 (x * y / 18446744073709551616), .int .u64 (x * y % 18446744073709551616)]) ∧ w = w' := by
  obtain ⟨x, rfl⟩ := Int.eq_ofNat_of_zero_le hx
  obtain ⟨y, rfl⟩ := Int.eq_ofNat_of_zero_le hy
  refine (mul64_c x y (by omega) (by omega) w).mono ?_
  rintro e w' ⟨rfl, rfl⟩
  exact ⟨ret_t2 (vi (by rw [Int.natCast_ediv, Int.natCast_mul]; rfl)) (vi (by rw [Int.natCast_emod, Int.natCast_mul]; rfl)), rfl⟩
set_option maxHeartbeats 1000000 in
theorem fmul_c (a b : Int) (w : World) : Calls Try.prog 73 #[.int .i64 a, .int .i64 b] w fun e w' => e = .returned (.int .i64 (mulI a b)) ∧ Below w.heap.size w w' := by
  obtain ⟨ax, ay⟩ := absI_bd (cutI_lo a) (cutI_hi a)
  obtain ⟨bx, by_⟩ := absI_bd (cutI_lo b) (cutI_hi b)
  have p0 : 0 ≤ absI (cutI a) * absI (cutI b) := Int.mul_nonneg ax bx
  have HR := Lib.hid (mul_rnd (cutI a) (cutI b) _ rfl p0)
  go_enter Try.func73, Try.ntmps73
  go_wp2_with fail
  refine (size_c a _).mono ?_; rintro e w1 ⟨rfl, rfl⟩
  go_wp2_with fail
  refine (size_c b _).mono ?_; rintro e w1 ⟨rfl, rfl⟩
  go_wp2_with fail
  refine (mul64_i _ _ ax bx ay by_ _).mono ?_; rintro e w1 ⟨rfl, rfl⟩
  generalize absI (cutI a) * absI (cutI b) = p at *
  have l0 : 0 ≤ p % 18446744073709551616 := by omega
  have l1 : p % 18446744073709551616 ≤ 18446744073709551615 := by omega
  have H0 : 0 ≤ p / 18446744073709551616 := by omega
  by_cases hi : 0 < p / 18446744073709551616
  · go_wp2_with fail
    refine (round_c _ _ _ (by omega) (by omega) _).mono ?_; rintro e w1 ⟨rfl, hb⟩
    go_wp2_with fail
    go_returns
    exact ⟨ret_i (HR.out.1 hi _), hb⟩
  · have hi' : p / 18446744073709551616 ≤ 0 := by omega
    go_wp2_with fail
    refine (round_c _ _ _ (by omega) (by omega) _).mono ?_; rintro e w1 ⟨rfl, hb⟩
    go_wp2_with fail
    go_returns
    exact ⟨ret_i (HR.out.2 hi'), hb⟩
end Go.Proofs.Ytnokibdecnddlaa

/- The walks of the layer 2 (vec): ways. -/
namespace Go.Proofs.Ytnokibdecnddlaa
open Go.RowKit

set_option maxHeartbeats 400000 in
theorem parts_c (b : Nat) (w : World) : Calls Try.prog 90 #[.pointer (some ⟨b, 0, none⟩)] w fun e w' => e = .returned (.agg #[.pointer (some ⟨b, 0, none⟩), .pointer (some ⟨b, 1, none⟩), .pointer (some ⟨b, 2, none⟩)]) ∧ Below w.heap.size w w' := by
  go_enter Try.func90, Try.ntmps90
  go_wp2
  go_region
  all_goals go_wp2
  all_goals go_returns
  all_goals exact ⟨rfl, by go_grown⟩
theorem idx0 (a b c : Option Addr) (w : World) : (Instr.index 105 (.agg #[.pointer a, .pointer b, .pointer c]) (.int .i64 0)).run Try.prog w = .ok (.pointer a) w := by kernel_rfl
theorem idx1 (a b c : Option Addr) (w : World) : (Instr.index 105 (.agg #[.pointer a, .pointer b, .pointer c]) (.int .i64 1)).run Try.prog w = .ok (.pointer b) w := by kernel_rfl
theorem idx2 (a b c : Option Addr) (w : World) : (Instr.index 105 (.agg #[.pointer a, .pointer b, .pointer c]) (.int .i64 2)).run Try.prog w = .ok (.pointer c) w := by kernel_rfl
theorem axI_0 (x y z : Int) : axI x y z 0 = x := rfl
theorem axI_1 (x y z : Int) : axI x y z 1 = y := rfl
theorem axI_2 (x y z : Int) : axI x y z 2 = z := rfl
theorem axI_no {x y z a : Int} (h : a < 0 ∨ 2 < a) : axI x y z a = 0 := by unfold axI; rw [if_neg (by omega), if_neg (by omega), if_neg (by omega)]
set_option maxHeartbeats 1000000 in
theorem axis_c (x y z a : Int) (w : World) : Calls Try.prog 61 #[.agg #[.int .i64 x, .int .i64 y, .int .i64 z], .int .i64 a] w fun e w' => e = .returned (.int .i64 (axI x y z a)) ∧ Below w.heap.size w w' := by
  by_cases h : a < 0
  · go_enter Try.func61, Try.ntmps61
    go_wp2_with fail
    go_returns
    exact ⟨ret_i (axI_no (.inl (by omega))).symm, by go_grown⟩
  by_cases h2 : 2 < a
  · go_enter Try.func61, Try.ntmps61
    go_wp2_with fail
    go_returns
    exact ⟨ret_i (axI_no (.inr (by omega))).symm, by go_grown⟩
  have h0 : a = 0 ∨ a = 1 ∨ a = 2 := by omega
  clear h h2
  have i0 := idx0
  have i1 := idx1
  have i2 := idx2
  rcases h0 with rfl | rfl | rfl
  all_goals
    go_enter Try.func61, Try.ntmps61
    go_wp2_with fail
    refine (parts_c _ _).mono ?_; rintro e w1 ⟨rfl, hb⟩; obtain ⟨hc, hf⟩ := bcell hb
    go_wp2_with fail
    go_returns
    exact ⟨ret_i rfl, by (repeat' (first | (with_reducible exact Below.refl _ _) | (with_reducible assumption) | (with_reducible refine Below.alloc ?_ ?_ _) | (with_reducible refine Below.drew ?_) | (with_reducible refine Below.setCell ?_ ?_ _) | (with_reducible refine after ?_ (below_regrown _ _ _)) | (refine after ?_ (by with_reducible assumption)) | go_size))⟩
theorem axis_e (x y z a v : Int) (h : axI x y z a = v) (w : World) : Calls Try.prog 61 #[.agg #[.int .i64 x, .int .i64 y, .int .i64 z], .int .i64 a] w fun e w' => e = .returned (.int .i64 v) ∧ Below w.heap.size w w' := by
  rw [← h]; exact axis_c x y z a w
set_option maxHeartbeats 2000000 in
theorem each_c (g : FuncId) (caps : Array Value) (f : Int → Int → Int) (x y z : Int) (w : World) (he : ∀ args w, (callFunc g args).run Try.prog w = .ok (.enter g args) w)
    (hC : ∀ (i n : Int) W, Below w.heap.size w W → Calls Try.prog g (#[.int .i64 i, .int .i64 n] ++ caps) W fun e W' => e = .returned (.int .i64 (f i n)) ∧ Below W.heap.size W W') :
    Calls Try.prog 85 #[.agg #[.int .i64 x, .int .i64 y, .int .i64 z], .func (.func g) #[] caps] w fun e w' => e = .returned (.agg #[.int .i64 (f 0 x), .int .i64 (f 1 y), .int .i64 (f 2 z)]) ∧ Below w.heap.size w w' := by
  have i0 := idx0
  have i1 := idx1
  have i2 := idx2
  have HC := Lib.hid hC
  clear hC
  go_enter Try.func85, Try.ntmps85
  go_wp2_with fail
  have B0 : Blk ((w.alloc (.cells #[.int .i64 x, .int .i64 y, .int .i64 z] 26)).alloc (.cells #[.int .i64 0, .int .i64 0, .int .i64 0] 26)) w.heap.size 26 #[.int .i64 x, .int .i64 y, .int .i64 z] := (Blk.new' rfl).alloc _
  have C0 : Blk ((w.alloc (.cells #[.int .i64 x, .int .i64 y, .int .i64 z] 26)).alloc (.cells #[.int .i64 0, .int .i64 0, .int .i64 0] 26)) (w.heap.size + 1) 26 #[.int .i64 0, .int .i64 0, .int .i64 0] := Blk.new' (by simp)
  have H0 : Below w.heap.size w ((w.alloc (.cells #[.int .i64 x, .int .i64 y, .int .i64 z] 26)).alloc (.cells #[.int .i64 0, .int .i64 0, .int .i64 0] 26)) := by go_grown
  refine (parts_c _ _).mono ?_; rintro e w1 ⟨rfl, hb⟩
  have B1 := B0.on hb
  have C1 := C0.on hb
  have H1 := after H0 hb
  clear hb B0 C0 H0
  obtain ⟨b0, b1, b2, b3, b4, b5⟩ := B1.c3
  go_wp2_with fail
  refine wp_loop_rounds 4 ?_
  rw [rounds_succ]
  go_wp2_with fail
  refine (HC.out 0 x _ H1).mono ?_; rintro e w2 ⟨rfl, hb⟩
  have B2 := B1.on hb
  have C2 := C1.on hb
  have H2 := after H1 hb
  clear hb b0 b1 b2 b3 b4 b5 B1 C1 H1
  obtain ⟨b0, b1, b2, b3, b4, b5⟩ := B2.c3
  have B3 := B2.set_ 0 (.int .i64 (f 0 x))
  have C3 := C2.far (p := ⟨w.heap.size, 0, none⟩) (by simp) (.int .i64 (f 0 x))
  have H3 := H2.setCell (p := ⟨w.heap.size, 0, none⟩) (Nat.le_refl _) (.int .i64 (f 0 x))
  go_wp2_with fail
  rw [rounds_succ]
  clear b0 b1 b2 b3 b4 b5
  obtain ⟨b0, b1, b2, b3, b4, b5⟩ := B3.c3
  go_wp2_with fail
  refine (HC.out 1 y _ H3).mono ?_; rintro e w4 ⟨rfl, hb⟩
  have B4 := B3.on hb
  have C4 := C3.on hb
  have H4 := after H3 hb
  clear hb b0 b1 b2 b3 b4 b5 B3 C3 H3 B2 C2 H2
  obtain ⟨b0, b1, b2, b3, b4, b5⟩ := B4.c3
  have B5 := B4.set_ 1 (.int .i64 (f 1 y))
  have C5 := C4.far (p := ⟨w.heap.size, 1, none⟩) (by simp) (.int .i64 (f 1 y))
  have H5 := H4.setCell (p := ⟨w.heap.size, 1, none⟩) (Nat.le_refl _) (.int .i64 (f 1 y))
  go_wp2_with fail
  rw [rounds_succ]
  clear b0 b1 b2 b3 b4 b5
  obtain ⟨b0, b1, b2, b3, b4, b5⟩ := B5.c3
  go_wp2_with fail
  refine (HC.out 2 z _ H5).mono ?_; rintro e w6 ⟨rfl, hb⟩
  have B6 := B5.on hb
  have C6 := C5.on hb
  have H6 := after H5 hb
  clear hb b0 b1 b2 b3 b4 b5 B5 C5 H5 B4 C4 H4
  obtain ⟨b0, b1, b2, b3, b4, b5⟩ := B6.c3
  obtain ⟨c0, c1, c2, c3, c4, c5⟩ := C6.c3
  have B7 := B6.set_ 2 (.int .i64 (f 2 z))
  have C7 := C6.far (p := ⟨w.heap.size, 2, none⟩) (by simp) (.int .i64 (f 2 z))
  have H7 := H6.setCell (p := ⟨w.heap.size, 2, none⟩) (Nat.le_refl _) (.int .i64 (f 2 z))
  go_wp2_with fail
  rw [rounds_succ]
  clear b0 b1 b2 b3 b4 b5 c0 c1 c2 c3 c4 c5
  obtain ⟨b0, b1, b2, b3, b4, b5⟩ := B7.c3
  obtain ⟨c0, c1, c2, c3, c4, c5⟩ := C7.c3
  have C8 := ((C7.set_ 0 (.int .i64 (f 0 x))).set_ 1 (.int .i64 (f 1 y))).set_ 2 (.int .i64 (f 2 z))
  go_wp2_with fail
  obtain ⟨d0, d1, d2, -, -, -⟩ := C8.c3
  exact bodyPost_ret (v := .agg #[.int .i64 (f 0 x), .int .i64 (f 1 y), .int .i64 (f 2 z)]) (by simp [results, Try.results85, go_sem, d0, d1, d2]) rfl ⟨rfl, by (repeat' (first | (with_reducible exact Below.refl _ _) | (with_reducible assumption) | (with_reducible refine Below.alloc ?_ ?_ _) | (with_reducible refine Below.drew ?_) | (with_reducible refine Below.setCell ?_ ?_ _) | (with_reducible refine after ?_ (below_regrown _ _ _)) | (refine after ?_ (by with_reducible assumption)) | go_size))⟩
end Go.Proofs.Ytnokibdecnddlaa

/- The walks of the layer 2 (vec): what is made of each number of a way. -/
namespace Go.Proofs.Ytnokibdecnddlaa
open Go.RowKit

set_option maxHeartbeats 400000 in
theorem with1_c (i n a m : Int) (w : World) (b c : Nat) (h : w.cell? ⟨b, 0, none⟩ = some (.int .i64 a)) (h2 : w.cell? ⟨c, 0, none⟩ = some (.int .i64 m)) : Calls Try.prog 91 #[.int .i64 i, .int .i64 n, .pointer (some ⟨b, 0, none⟩), .pointer (some ⟨c, 0, none⟩)] w fun e w' => e = .returned (.int .i64 (wiI n a i m)) ∧ Below w.heap.size w w' := by
  by_cases g : i = a
  · have t : (i == a) = true := by simpa using g
    have G := Lib.hid g
    clear g
    go_enter Try.func91, Try.ntmps91
    go_wp2_with fail
    refine (fcut_c _ _).mono ?_; rintro e w1 ⟨rfl, rfl⟩
    go_wp2_with fail
    go_returns
    exact ⟨ret_i (by unfold wiI; rw [if_pos G.out]), by (repeat' (first | (with_reducible exact Below.refl _ _) | (with_reducible assumption) | (with_reducible refine Below.alloc ?_ ?_ _) | (with_reducible refine Below.drew ?_) | (with_reducible refine Below.setCell ?_ ?_ _) | (with_reducible refine after ?_ (below_regrown _ _ _)) | (refine after ?_ (by with_reducible assumption)) | go_size))⟩
  · have t : (i == a) = false := by simpa using g
    have G := Lib.hid g
    clear g
    go_enter Try.func91, Try.ntmps91
    go_wp2_with fail
    go_returns
    exact ⟨ret_i (by unfold wiI; rw [if_neg G.out]), by (repeat' (first | (with_reducible exact Below.refl _ _) | (with_reducible assumption) | (with_reducible refine Below.alloc ?_ ?_ _) | (with_reducible refine Below.drew ?_) | (with_reducible refine Below.setCell ?_ ?_ _) | (with_reducible refine after ?_ (below_regrown _ _ _)) | (refine after ?_ (by with_reducible assumption)) | go_size))⟩
set_option maxHeartbeats 1000000 in
theorem with_c (x y z a m : Int) (w : World) : Calls Try.prog 62 #[.agg #[.int .i64 x, .int .i64 y, .int .i64 z], .int .i64 a, .int .i64 m] w fun e w' => e = .returned (.agg #[.int .i64 (wiI x a 0 m), .int .i64 (wiI y a 1 m), .int .i64 (wiI z a 2 m)]) ∧ Below w.heap.size w w' := by
  have e := enters_of Try.func91 (by kernel_rfl) rfl
  go_enter Try.func62, Try.ntmps62
  go_wp2_with fail
  have R0 : Blk ((((w.alloc (.cells #[.int .i64 x, .int .i64 y, .int .i64 z] 26)).alloc (.cells #[.int .i64 a] 3)).alloc (.cells #[.int .i64 m] 3)).alloc (.cells #[.int .i64 0, .int .i64 0, .int .i64 0] 26)) (w.heap.size + 1 + 1 + 1) 26 #[.int .i64 0, .int .i64 0, .int .i64 0] := Blk.new' (by simp)
  have A0 : Blk ((((w.alloc (.cells #[.int .i64 x, .int .i64 y, .int .i64 z] 26)).alloc (.cells #[.int .i64 a] 3)).alloc (.cells #[.int .i64 m] 3)).alloc (.cells #[.int .i64 0, .int .i64 0, .int .i64 0] 26)) (w.heap.size + 1) 3 #[.int .i64 a] := ((Blk.new' (by simp)).alloc _).alloc _
  have M0 : Blk ((((w.alloc (.cells #[.int .i64 x, .int .i64 y, .int .i64 z] 26)).alloc (.cells #[.int .i64 a] 3)).alloc (.cells #[.int .i64 m] 3)).alloc (.cells #[.int .i64 0, .int .i64 0, .int .i64 0] 26)) (w.heap.size + 1 + 1) 3 #[.int .i64 m] := (Blk.new' (by simp)).alloc _
  refine (each_c 91 _ (fun i n => wiI n a i m) _ _ _ _ e ?_).mono ?_
  · intro i n W hW
    exact with1_c i n a m W _ _ (A0.on hW).c1.1 (M0.on hW).c1.1
  rintro e w1 ⟨rfl, hb⟩
  have R := R0.on hb
  clear R0 A0 M0
  obtain ⟨r0, r1, r2, r3, r4, r5⟩ := R.c3
  go_wp2_with fail
  have R2 := R.st3 (.int .i64 (wiI x a 0 m)) (.int .i64 (wiI y a 1 m)) (.int .i64 (wiI z a 2 m))
  obtain ⟨d0, d1, d2, -, -, -⟩ := R2.c3
  exact bodyPost_ret (v := .agg #[.int .i64 (wiI x a 0 m), .int .i64 (wiI y a 1 m), .int .i64 (wiI z a 2 m)]) (by simp [results, Try.results62, go_sem, d0, d1, d2]) rfl ⟨rfl, by (repeat' (first | (with_reducible exact Below.refl _ _) | (with_reducible assumption) | (with_reducible refine Below.alloc ?_ ?_ _) | (with_reducible refine Below.drew ?_) | (with_reducible refine Below.setCell ?_ ?_ _) | (with_reducible refine after ?_ (below_regrown _ _ _)) | (refine after ?_ (by with_reducible assumption)) | go_size))⟩
set_option maxHeartbeats 400000 in
theorem add1_c (i n x y z : Int) (w : World) (b : Nat) (h : Blk w b 26 #[.int .i64 x, .int .i64 y, .int .i64 z]) : Calls Try.prog 86 #[.int .i64 i, .int .i64 n, .pointer (some ⟨b, 0, none⟩)] w fun e w' => e = .returned (.int .i64 (addI n (axI x y z i))) ∧ Below w.heap.size w w' := by
  obtain ⟨r0, r1, r2, -, -, -⟩ := h.c3
  go_enter Try.func86, Try.ntmps86
  go_wp2_with fail
  refine (axis_c _ _ _ _ _).mono ?_; rintro e w1 ⟨rfl, hb⟩
  go_wp2_with fail
  refine (fadd_c _ _ _).mono ?_; rintro e w1 ⟨rfl, rfl⟩
  go_wp2_with fail
  go_returns
  exact ⟨ret_i rfl, by (repeat' (first | (with_reducible exact Below.refl _ _) | (with_reducible assumption) | (with_reducible refine Below.alloc ?_ ?_ _) | (with_reducible refine Below.drew ?_) | (with_reducible refine Below.setCell ?_ ?_ _) | (with_reducible refine after ?_ (below_regrown _ _ _)) | (refine after ?_ (by with_reducible assumption)) | go_size))⟩
set_option maxHeartbeats 1000000 in
theorem add_c (x y z x' y' z' : Int) (w : World) : Calls Try.prog 57 #[.agg #[.int .i64 x, .int .i64 y, .int .i64 z], .agg #[.int .i64 x', .int .i64 y', .int .i64 z']] w fun e w' => e = .returned (.agg #[.int .i64 (addI x x'), .int .i64 (addI y y'), .int .i64 (addI z z')]) ∧ Below w.heap.size w w' := by
  have e := enters_of Try.func86 (by kernel_rfl) rfl
  go_enter Try.func57, Try.ntmps57
  go_wp2_with fail
  have R0 : Blk (((w.alloc (.cells #[.int .i64 x, .int .i64 y, .int .i64 z] 26)).alloc (.cells #[.int .i64 x', .int .i64 y', .int .i64 z'] 26)).alloc (.cells #[.int .i64 0, .int .i64 0, .int .i64 0] 26)) (w.heap.size + 1 + 1) 26 #[.int .i64 0, .int .i64 0, .int .i64 0] := Blk.new' (by simp)
  have A0 : Blk (((w.alloc (.cells #[.int .i64 x, .int .i64 y, .int .i64 z] 26)).alloc (.cells #[.int .i64 x', .int .i64 y', .int .i64 z'] 26)).alloc (.cells #[.int .i64 0, .int .i64 0, .int .i64 0] 26)) (w.heap.size + 1) 26 #[.int .i64 x', .int .i64 y', .int .i64 z'] := (Blk.new' (by simp)).alloc _
  refine (each_c 86 _ (fun i n => addI n (axI x' y' z' i)) _ _ _ _ e ?_).mono ?_
  · intro i n W hW
    exact add1_c i n x' y' z' W _ (A0.on hW)
  rintro e w1 ⟨rfl, hb⟩
  have R := R0.on hb
  clear R0 A0
  obtain ⟨r0, r1, r2, r3, r4, r5⟩ := R.c3
  simp only [axI_0, axI_1, axI_2]
  go_wp2_with fail
  have R2 := R.st3 (.int .i64 (addI x x')) (.int .i64 (addI y y')) (.int .i64 (addI z z'))
  obtain ⟨d0, d1, d2, -, -, -⟩ := R2.c3
  exact bodyPost_ret (v := .agg #[.int .i64 (addI x x'), .int .i64 (addI y y'), .int .i64 (addI z z')]) (by simp [results, Try.results57, go_sem, d0, d1, d2]) rfl ⟨rfl, by (repeat' (first | (with_reducible exact Below.refl _ _) | (with_reducible assumption) | (with_reducible refine Below.alloc ?_ ?_ _) | (with_reducible refine Below.drew ?_) | (with_reducible refine Below.setCell ?_ ?_ _) | (with_reducible refine after ?_ (below_regrown _ _ _)) | (refine after ?_ (by with_reducible assumption)) | go_size))⟩
set_option maxHeartbeats 400000 in
theorem sub1_c (i n x y z : Int) (w : World) (b : Nat) (h : Blk w b 26 #[.int .i64 x, .int .i64 y, .int .i64 z]) : Calls Try.prog 95 #[.int .i64 i, .int .i64 n, .pointer (some ⟨b, 0, none⟩)] w fun e w' => e = .returned (.int .i64 (subI n (axI x y z i))) ∧ Below w.heap.size w w' := by
  obtain ⟨r0, r1, r2, -, -, -⟩ := h.c3
  go_enter Try.func95, Try.ntmps95
  go_wp2_with fail
  refine (axis_c _ _ _ _ _).mono ?_; rintro e w1 ⟨rfl, hb⟩
  go_wp2_with fail
  refine (fsub_c _ _ _).mono ?_; rintro e w1 ⟨rfl, rfl⟩
  go_wp2_with fail
  go_returns
  exact ⟨ret_i rfl, by (repeat' (first | (with_reducible exact Below.refl _ _) | (with_reducible assumption) | (with_reducible refine Below.alloc ?_ ?_ _) | (with_reducible refine Below.drew ?_) | (with_reducible refine Below.setCell ?_ ?_ _) | (with_reducible refine after ?_ (below_regrown _ _ _)) | (refine after ?_ (by with_reducible assumption)) | go_size))⟩
set_option maxHeartbeats 1000000 in
theorem sub_c (x y z x' y' z' : Int) (w : World) : Calls Try.prog 69 #[.agg #[.int .i64 x, .int .i64 y, .int .i64 z], .agg #[.int .i64 x', .int .i64 y', .int .i64 z']] w fun e w' => e = .returned (.agg #[.int .i64 (subI x x'), .int .i64 (subI y y'), .int .i64 (subI z z')]) ∧ Below w.heap.size w w' := by
  have e := enters_of Try.func95 (by kernel_rfl) rfl
  go_enter Try.func69, Try.ntmps69
  go_wp2_with fail
  have R0 : Blk (((w.alloc (.cells #[.int .i64 x, .int .i64 y, .int .i64 z] 26)).alloc (.cells #[.int .i64 x', .int .i64 y', .int .i64 z'] 26)).alloc (.cells #[.int .i64 0, .int .i64 0, .int .i64 0] 26)) (w.heap.size + 1 + 1) 26 #[.int .i64 0, .int .i64 0, .int .i64 0] := Blk.new' (by simp)
  have A0 : Blk (((w.alloc (.cells #[.int .i64 x, .int .i64 y, .int .i64 z] 26)).alloc (.cells #[.int .i64 x', .int .i64 y', .int .i64 z'] 26)).alloc (.cells #[.int .i64 0, .int .i64 0, .int .i64 0] 26)) (w.heap.size + 1) 26 #[.int .i64 x', .int .i64 y', .int .i64 z'] := (Blk.new' (by simp)).alloc _
  refine (each_c 95 _ (fun i n => subI n (axI x' y' z' i)) _ _ _ _ e ?_).mono ?_
  · intro i n W hW
    exact sub1_c i n x' y' z' W _ (A0.on hW)
  rintro e w1 ⟨rfl, hb⟩
  have R := R0.on hb
  clear R0 A0
  obtain ⟨r0, r1, r2, r3, r4, r5⟩ := R.c3
  simp only [axI_0, axI_1, axI_2]
  go_wp2_with fail
  have R2 := R.st3 (.int .i64 (subI x x')) (.int .i64 (subI y y')) (.int .i64 (subI z z'))
  obtain ⟨d0, d1, d2, -, -, -⟩ := R2.c3
  exact bodyPost_ret (v := .agg #[.int .i64 (subI x x'), .int .i64 (subI y y'), .int .i64 (subI z z')]) (by simp [results, Try.results69, go_sem, d0, d1, d2]) rfl ⟨rfl, by (repeat' (first | (with_reducible exact Below.refl _ _) | (with_reducible assumption) | (with_reducible refine Below.alloc ?_ ?_ _) | (with_reducible refine Below.drew ?_) | (with_reducible refine Below.setCell ?_ ?_ _) | (with_reducible refine after ?_ (below_regrown _ _ _)) | (refine after ?_ (by with_reducible assumption)) | go_size))⟩
end Go.Proofs.Ytnokibdecnddlaa

/- The walks of the layer 2 (vec): boxes. -/
namespace Go.Proofs.Ytnokibdecnddlaa
open Go.RowKit

set_option maxHeartbeats 2000000 in
theorem all_c (g : FuncId) (caps : Array Value) (p : Int → Bool) (w : World) (he : ∀ args w, (callFunc g args).run Try.prog w = .ok (.enter g args) w)
    (hC : ∀ (i : Int) W, Below w.heap.size w W → Calls Try.prog g (#[.int .i64 i] ++ caps) W fun e W' => e = .returned (.bool (p i)) ∧ Below W.heap.size W W') :
    Calls Try.prog 88 #[.func (.func g) #[] caps] w fun e w' => e = .returned (.bool (p 0 && p 1 && p 2)) ∧ Below w.heap.size w w' := by
  have HC := Lib.hid hC
  have C : ∀ (i : Int) (b : Bool) W, p i = b → Below w.heap.size w W → Calls Try.prog g (#[.int .i64 i] ++ caps) W fun e W' => e = .returned (.bool b) ∧ Below W.heap.size W W' := by
    intro i b W h hb
    rw [← h]; exact hC i W hb
  have HC := Lib.hid C
  clear hC C
  cases h0 : p 0
  · have H0 := Lib.hid h0
    clear h0
    go_enter Try.func88, Try.ntmps88
    go_wp2_with fail
    refine wp_loop_rounds 1 ?_
    rw [rounds_succ]
    go_wp2_with fail
    refine (HC.out 0 false _ H0.out (Below.refl _ _)).mono ?_; rintro e w1 ⟨rfl, hb⟩
    go_wp2_with fail
    go_returns
    exact ⟨ret_b rfl, hb⟩
  cases h1 : p 1
  · have H0 := Lib.hid h0
    have H1 := Lib.hid h1
    clear h0 h1
    go_enter Try.func88, Try.ntmps88
    go_wp2_with fail
    refine wp_loop_rounds 2 ?_
    rw [rounds_succ]
    go_wp2_with fail
    refine (HC.out 0 true _ H0.out (Below.refl _ _)).mono ?_; rintro e w1 ⟨rfl, hb⟩
    go_wp2_with fail
    rw [rounds_succ]
    go_wp2_with fail
    refine (HC.out 1 false _ H1.out hb).mono ?_; rintro e w1 ⟨rfl, hb2⟩
    go_wp2_with fail
    go_returns
    exact ⟨ret_b rfl, after hb hb2⟩
  · have H0 := Lib.hid h0
    have H1 := Lib.hid h1
    clear h0 h1
    cases h2 : p 2
    all_goals
      have H2 := Lib.hid h2
      clear h2
      go_enter Try.func88, Try.ntmps88
      go_wp2_with fail
      refine wp_loop_rounds 4 ?_
      rw [rounds_succ]
      go_wp2_with fail
      refine (HC.out 0 true _ H0.out (Below.refl _ _)).mono ?_; rintro e w1 ⟨rfl, hb⟩
      go_wp2_with fail
      rw [rounds_succ]
      go_wp2_with fail
      refine (HC.out 1 true _ H1.out hb).mono ?_; rintro e w1 ⟨rfl, hb2⟩
      have hb3 := after hb hb2
      go_wp2_with fail
      rw [rounds_succ]
      go_wp2_with fail
      refine (HC.out 2 _ _ H2.out hb3).mono ?_; rintro e w1 ⟨rfl, hb4⟩
      go_wp2_with fail
      try rw [rounds_succ]
      go_wp2_with fail
      go_returns
      exact ⟨ret_b rfl, after hb3 hb4⟩
/-- Two boxes overlap along an axis. -/
def ovI (a b c d : Int) : Bool := decide (a < d) && decide (c < b)
set_option maxHeartbeats 2000000 in
theorem over1_c (i a b c d e f a' b' c' d' e' f' : Int) (w : World) (u v : Nat) (hu : Blk w u 48 #[.int .i64 a, .int .i64 b, .int .i64 c, .int .i64 d, .int .i64 e, .int .i64 f]) (hv : Blk w v 48 #[.int .i64 a', .int .i64 b', .int .i64 c', .int .i64 d', .int .i64 e', .int .i64 f']) :
    Calls Try.prog 89 #[.int .i64 i, .pointer (some ⟨u, 0, none⟩), .pointer (some ⟨v, 0, none⟩)] w fun r w' => r = .returned (.bool (ovI (axI a b c i) (axI d e f i) (axI a' b' c' i) (axI d' e' f' i))) ∧ Below w.heap.size w w' := by
  obtain ⟨k0, k1, k2, k3, k4, k5⟩ := hu.re6
  obtain ⟨l0, l1, l2, l3, l4, l5⟩ := hv.re6
  by_cases h : axI a b c i < axI d' e' f' i
  · go_enter Try.func89, Try.ntmps89
    go_wp2_with fail
    refine wp_region_quiet_below (by kernel_rfl) (by kernel_rfl) ?_
    repeat (go_big_quiet_step (exact Calls.regrown_of (axis_c _ _ _ _ _)))
    refine wpQuiet_nil ?_
    intro w' hw'
    obtain ⟨rg, rfl⟩ := hw'
    go_wp2_with fail
    go_returns
    exact ⟨ret_b (by unfold ovI; simp [h]), by (repeat' (first | (with_reducible exact Below.refl _ _) | (with_reducible assumption) | (with_reducible refine Below.alloc ?_ ?_ _) | (with_reducible refine Below.drew ?_) | (with_reducible refine Below.setCell ?_ ?_ _) | (with_reducible refine after ?_ (below_regrown _ _ _)) | (refine after ?_ (by with_reducible assumption)) | go_size))⟩
  · have t : decide (axI a b c i < axI d' e' f' i) = false := by simp; omega
    go_enter Try.func89, Try.ntmps89
    go_wp2_with fail
    refine wp_region_quiet_below (by kernel_rfl) (by kernel_rfl) ?_
    repeat (go_big_quiet_step (exact Calls.regrown_of (axis_c _ _ _ _ _)))
    refine wpQuiet_nil ?_
    intro w' hw'
    obtain ⟨rg, rfl⟩ := hw'
    go_wp2_with fail
    go_returns
    exact ⟨ret_b (by unfold ovI; rw [t]; rfl), by (repeat' (first | (with_reducible exact Below.refl _ _) | (with_reducible assumption) | (with_reducible refine Below.alloc ?_ ?_ _) | (with_reducible refine Below.drew ?_) | (with_reducible refine Below.setCell ?_ ?_ _) | (with_reducible refine after ?_ (below_regrown _ _ _)) | (refine after ?_ (by with_reducible assumption)) | go_size))⟩
/-- The values of a box. -/
abbrev bxV (a b c d e f : Int) : Array Value := #[.int .i64 a, .int .i64 b, .int .i64 c, .int .i64 d, .int .i64 e, .int .i64 f]
def overI (a b c d e f a' b' c' d' e' f' : Int) : Bool := ovI a d a' d' && ovI b e b' e' && ovI c f c' f'
set_option maxHeartbeats 1000000 in
theorem over_c (a b c d e f a' b' c' d' e' f' : Int) (w : World) : Calls Try.prog 59 #[.agg #[.int .i64 a, .int .i64 b, .int .i64 c, .int .i64 d, .int .i64 e, .int .i64 f], .agg #[.int .i64 a', .int .i64 b', .int .i64 c', .int .i64 d', .int .i64 e', .int .i64 f']] w fun r w' => r = .returned (.bool (overI a b c d e f a' b' c' d' e' f')) ∧ Below w.heap.size w w' := by
  have he := enters_of Try.func89 (by kernel_rfl) rfl
  have hmf : ∀ (fn : Fn) (first cap : Array Value) (w : World), (Instr.makeFunc fn first cap).run Try.prog w = .ok (.func fn first cap) w := fun _ _ _ _ => rfl
  go_enter Try.func59, Try.ntmps59
  go_wp2_with fail
  have U : Blk ((w.alloc (.cells (bxV a b c d e f) 48)).alloc (.cells (bxV a' b' c' d' e' f') 48)) w.heap.size 48 (bxV a b c d e f) := (Blk.new' rfl).alloc _
  have V : Blk ((w.alloc (.cells (bxV a b c d e f) 48)).alloc (.cells (bxV a' b' c' d' e' f') 48)) (w.heap.size + 1) 48 (bxV a' b' c' d' e' f') := Blk.new' (by simp)
  refine (all_c 89 _ (fun i => ovI (axI a b c i) (axI d e f i) (axI a' b' c' i) (axI d' e' f' i)) _ he ?_).mono ?_
  · intro i W hW
    exact over1_c i a b c d e f a' b' c' d' e' f' W _ _ (U.on hW) (V.on hW)
  rintro e w1 ⟨rfl, hb⟩
  clear U V
  go_wp2_with fail
  go_returns
  exact ⟨ret_b rfl, by (repeat' (first | (with_reducible exact Below.refl _ _) | (with_reducible assumption) | (with_reducible refine Below.alloc ?_ ?_ _) | (with_reducible refine Below.drew ?_) | (with_reducible refine Below.setCell ?_ ?_ _) | (with_reducible refine after ?_ (below_regrown _ _ _)) | (refine after ?_ (by with_reducible assumption)) | go_size))⟩

end Go.Proofs.Ytnokibdecnddlaa

/- A region that draws its order, whose operations only read (calls: whatever keeps a class of worlds) but for THE LAST ONE, which comes up behind all others (a store, an append): one walk of the text's order serves every order. No program in sight. -/
namespace Go.Proofs.Ytnokibdecnddlaa
open Go.RowKit

section
variable {P : Program} {ops : Array Oper} {md : Region.Mode} {C : World → Prop}

/-- So many operations are to come ahead of the last one, number n. -/
def beforeLast (P : Program) (md : Region.Mode) (ops : Array Oper) (C : World → Prop) (n : Nat) (L : Act → Prop) : Nat → Array Bool → Act → Prop
  | 0, listed, a => Region.ready md ops listed = [n] ∧ Region.ready md ops (listed.setIfInBounds n true) = [] ∧ L a
  | f + 1, listed, a => n ∉ Region.ready md ops listed ∧ Region.ready md ops listed ≠ [] ∧ ∀ i ∈ Region.ready md ops listed, qOp P ops C i (beforeLast P md ops C n L f (listed.setIfInBounds i true)) a

theorem wpAny_of_beforeLast {n : Nat} {L : Act → Prop} {Q' : Exit → Act → World → Prop} (hL : ∀ a w, C w → L a → wpOp P ops Q' n (fun a w => Q' .normal a w) a w) :
    ∀ (f : Nat) (listed : Array Bool) (a : Act) (w : World), C w → beforeLast P md ops C n L f listed a → wpAny P md ops Q' (f + 1) listed a w := by
  intro f
  induction f with
  | zero =>
    intro listed a w hw h
    obtain ⟨h1, h2, h3⟩ := h
    refine ⟨fun h => (by rw [h1] at h; cases h), fun i hi => ?_⟩
    rw [h1] at hi
    obtain rfl : i = n := by simpa using hi
    exact wpOp_mono (K := fun a w => Q' .normal a w) (fun _ _ h' => ⟨h2, h'⟩) (hL a w hw h3)
  | succ f ih =>
    intro listed a w hw h
    obtain ⟨_, h1, h2⟩ := h
    exact ⟨fun h => absurd h h1, fun i hi => wpOp_of_qOp hw (fun a' w' hw' h' => ih _ a' w' hw' h') (h2 i hi)⟩

theorem beforeLast_first {n i : Nat} {oi : Oper} {v : Value} {L : Act → Prop} (hi : ops[i]? = some oi) (hwt : ∀ l', n ∈ Region.ready md ops l' → l'.getD i false = true) (hsel : ∀ (j : Nat) (o : Oper) cs b, ops[j]? = some o → o.op ≠ .select cs b) :
    ∀ (f : Nat) (listed : Array Bool) (a : Act),
      (∀ j oj, ops[j]? = some oj → j ≠ i → listed.getD j true = false → (∀ e ∈ oj.after, Region.binds md e = true → e.on ≠ i) → oi.apart ops oj = true) →
      i ∈ Region.ready md ops listed → n ∉ Region.ready md ops listed → YieldsIn P ops C oi v a →
      beforeLast P md ops C n L f (listed.setIfInBounds i true) (a.put oi.dst v) → beforeLast P md ops C n L (f + 1) listed a := by
  intro f
  induction f with
  | zero =>
    intro listed a _ hr hn hy H
    refine ⟨hn, fun h => (by rw [h] at hr; cases hr), fun j hj => ?_⟩
    by_cases hji : j = i
    · subst hji; exact hy.qOp hi H
    · have h1 := ready_mono hj hji
      rw [H.1] at h1
      obtain rfl : j = n := by simpa using h1
      exact absurd hj hn
  | succ f ih =>
    intro listed a hfree hr hn hy H
    refine ⟨hn, fun h => (by rw [h] at hr; cases hr), fun j hj => ?_⟩
    by_cases hji : j = i
    · subst hji; exact hy.qOp hi H
    · obtain ⟨hun, oj, hoj, hwait⟩ := mem_ready.1 hj
      have hun_i := (mem_ready.1 hr).1
      have hap : oi.apart ops oj = true := hfree j oj hoj hji hun fun e he hb heq => by
        have h2 := hwait e he hb
        rw [heq] at h2
        by_cases hs : i < listed.size <;> simp [hs] at hun_i h2
        rw [hun_i] at h2
        cases h2
      have hq := qOp_put hoj hap (fun cs b => hsel i oi cs b hi) (fun cs b => hsel j oj cs b hoj) hy (H.2.2 j (ready_mono hj hji))
      refine qOp_mono (fun a' h3 => ih (listed.setIfInBounds j true) a' ?_ (ready_mono hr (Ne.symm hji)) ?_ h3.1 ?_) hq
      · intro k ok hk hki hun' hno
        refine hfree k ok hk hki ?_ hno
        by_cases hjk : j = k
        · subst hjk; exact hun
        · rwa [getD_set_ne true hjk] at hun'
      · intro hn'
        have h5 := hwt _ hn'
        rw [getD_set_ne false hji] at h5
        have h6 := (mem_ready.1 hr).1
        by_cases hs : i < listed.size <;> simp [hs] at h5 h6
        rw [h6] at h5
        cases h5
      · rw [Array.setIfInBounds_comm _ _ hji]
        exact h3.2

/-- The last one waits for each of those ahead, which may be taken in the text's order. -/
def lastFrom (md : Region.Mode) (ops : Array Oper) (n : Nat) : Nat → Nat → Array Bool → Bool
  | 0, _, listed => decide (Region.ready md ops listed = [n]) && (Region.ready md ops (listed.setIfInBounds n true)).isEmpty
  | f + 1, k, listed => (Region.ready md ops listed).contains k && Region.free md ops listed k && !(Region.ready md ops listed).contains n &&
      (match ops[n]? with | some o => o.after.any (fun e => Region.binds md e && e.on == k) | none => false) && lastFrom md ops n f (k + 1) (listed.setIfInBounds k true)
def lastB (md : Region.Mode) (ops : Array Oper) (n : Nat) : Bool := Region.noSelect ops && lastFrom md ops n n 0 (Array.replicate ops.size false)

theorem beforeLast_lex {n : Nat} {L : Act → Prop} (hs : Region.noSelect ops = true) : ∀ (l : List Oper) (k : Nat) (listed : Array Bool) (a : Act), (∀ j, j < l.length → l[j]? = ops[k + j]?) →
    lastFrom md ops n l.length k listed = true → wpQuiet P ops C L l a → beforeLast P md ops C n L l.length listed a := by
  intro l
  induction l with
  | nil =>
    intro k listed a _ hB h
    simp only [List.length_nil, lastFrom, Bool.and_eq_true, decide_eq_true_eq, List.isEmpty_iff] at hB
    exact ⟨hB.1, hB.2, h⟩
  | cons o l ih =>
    intro k listed a hl hB h
    have h0 : ops[k]? = some o := by simpa using (hl 0 (by simp)).symm
    simp only [List.length_cons, lastFrom, Bool.and_eq_true, Bool.not_eq_true'] at hB
    obtain ⟨⟨⟨⟨hr, hf⟩, hn⟩, hw⟩, hB'⟩ := hB
    have hst : qOp P ops C k (wpQuiet P ops C L l) a := by unfold qOp; simp only [h0]; exact h
    obtain ⟨v, hy, hK⟩ := yieldsIn_of_qOp h0 hst
    refine beforeLast_first h0 (fun l' hn' => ?_) (Region.noSelect_spec hs) l.length listed a (Region.free_spec h0 hf) (by simpa using hr) (by simpa using hn) hy
      (ih (k + 1) _ _ (fun j hj => by have := hl (j + 1) (by simpa using hj); simpa [Nat.add_assoc, Nat.add_comm 1 j] using this) hB' hK)
    obtain ⟨_, oL, hoL, hall⟩ := mem_ready.1 hn'
    rw [hoL] at hw
    obtain ⟨e, he, hbe⟩ := Array.any_eq_true'.1 hw
    simp only [Bool.and_eq_true, beq_iff_eq] at hbe
    have := hall e he hbe.1
    rwa [hbe.2] at this

/-- THE LAW: all but the last one quiet in the class; the last one as it is carried out in whatever world of the class. -/
theorem wp_region_last {id : Nat} {Q : Exit → Act → World → Prop} {a : Act} {w : World} {l : List Oper} (n : Nat) (hm : P.follows .mixedOrders = true) (hlen : l.length = n + 1) (hB : lastB .any l.toArray n = true) (hC : C { w with drawn := w.drawn + 1 })
    (h : wpQuiet P l.toArray C (fun a' => ∀ w', C w' → wpList P l.toArray Q (l.drop n) a' w') (l.take n) a) : (Code.region id l.toArray true).wp P Q a w := by
  simp only [lastB, Bool.and_eq_true] at hB
  refine wp_region_any hm ?_
  have hsz : l.toArray.size = n + 1 := by simpa using hlen
  have ht : (l.take n).length = n := by simp; omega
  have hx := beforeLast_lex (C := C) (md := .any) (n := n) (L := fun a' => ∀ w', C w' → wpList P l.toArray Q (l.drop n) a' w') hB.1 (l.take n) 0 (Array.replicate l.toArray.size false) a
    (fun j hj => by simp only [Nat.zero_add, List.getElem?_toArray]; rw [List.getElem?_take_of_lt (by omega)]) (by rw [ht]; exact hB.2) h
  rw [ht] at hx
  rw [hsz] at hx ⊢
  refine wpAny_of_beforeLast (fun a w hw hL => ?_) n _ a _ hC hx
  have hd : l.drop n = [l[n]'(by omega)] := by
    rw [List.drop_eq_getElem_cons (by omega), List.drop_of_length_le (by omega)]
  have := hL w hw
  rw [hd] at this
  unfold wpOp
  simp only [List.getElem?_toArray, List.getElem?_eq_getElem (show n < l.length by omega)]
  exact this

theorem wp_region_last_below {id : Nat} {Q : Exit → Act → World → Prop} {a : Act} {w : World} {l : List Oper} (n : Nat) (hm : P.follows .mixedOrders = true) (hlen : l.length = n + 1) (hB : lastB .any l.toArray n = true)
    (h : wpQuiet P l.toArray (fun w' => ∃ p : Regrown, w' = Go.Sort.grow (redrawn w p.d) p.os) (fun a' => ∀ w', (∃ p : Regrown, w' = Go.Sort.grow (redrawn w p.d) p.os) → wpList P l.toArray Q (l.drop n) a' w') (l.take n) a) : (Code.region id l.toArray true).wp P Q a w :=
  wp_region_last (C := fun w' => ∃ p : Regrown, w' = Go.Sort.grow (redrawn w p.d) p.os) n hm hlen hB ⟨⟨w.drawn + 1, #[]⟩, by rw [Go.Sort.grow_empty]; rfl⟩ h
end
end Go.Proofs.Ytnokibdecnddlaa

/- The walks of the layer 2 (vec): boxes that may be, that are moved, that stand. -/
namespace Go.Proofs.Ytnokibdecnddlaa
open Go.RowKit

set_option maxHeartbeats 2000000 in
theorem move_c (a b c d e f x y z : Int) (w : World) : Calls Try.prog 110 #[.agg #[.int .i64 a, .int .i64 b, .int .i64 c, .int .i64 d, .int .i64 e, .int .i64 f], .agg #[.int .i64 x, .int .i64 y, .int .i64 z]] w fun r w' => r = .returned (.agg #[.int .i64 (addI a x), .int .i64 (addI b y), .int .i64 (addI c z), .int .i64 (addI d x), .int .i64 (addI e y), .int .i64 (addI f z)]) ∧ Below w.heap.size w w' := by
  have U : Blk (((w.alloc (.cells (bxV a b c d e f) 48)).alloc (.cells #[.int .i64 x, .int .i64 y, .int .i64 z] 26)).alloc (.cells (bxV 0 0 0 0 0 0) 48)) w.heap.size 48 (bxV a b c d e f) := ((Blk.new' rfl).alloc _).alloc _
  have V : Blk (((w.alloc (.cells (bxV a b c d e f) 48)).alloc (.cells #[.int .i64 x, .int .i64 y, .int .i64 z] 26)).alloc (.cells (bxV 0 0 0 0 0 0) 48)) (w.heap.size + 1) 26 #[.int .i64 x, .int .i64 y, .int .i64 z] := (Blk.new' (by simp)).alloc _
  have R0 : Blk (((w.alloc (.cells (bxV a b c d e f) 48)).alloc (.cells #[.int .i64 x, .int .i64 y, .int .i64 z] 26)).alloc (.cells (bxV 0 0 0 0 0 0) 48)) (w.heap.size + 1 + 1) 48 (bxV 0 0 0 0 0 0) := Blk.new' (by simp)
  obtain ⟨k0, k1, k2, k3, k4, k5⟩ := U.re6
  obtain ⟨l0, l1, l2⟩ := V.re3
  go_enter Try.func110, Try.ntmps110
  go_wp2_with fail
  refine wp_region_last_below 9 (by kernel_rfl) rfl (by kernel_rfl) ?_
  simp only [List.take_succ_cons, List.take_zero, List.drop_succ_cons, List.drop_zero]
  repeat (go_big_quiet_step (exact Calls.regrown_of (add_c _ _ _ _ _ _ _)))
  refine wpQuiet_nil ?_
  intro w' hw'
  obtain ⟨rg, rfl⟩ := hw'
  have R := R0.re rg.d rg.os
  obtain ⟨⟨r0, r1, r2, r3, r4, r5⟩, s0, s1, s2, s3, s4, s5⟩ := R.c6
  go_wp2_with fail
  have R2 := R.st6 (.int .i64 (addI a x)) (.int .i64 (addI b y)) (.int .i64 (addI c z)) (.int .i64 (addI d x)) (.int .i64 (addI e y)) (.int .i64 (addI f z))
  obtain ⟨⟨d0, d1, d2, d3, d4, d5⟩, -, -, -, -, -, -⟩ := R2.c6
  exact bodyPost_ret (v := .agg #[.int .i64 (addI a x), .int .i64 (addI b y), .int .i64 (addI c z), .int .i64 (addI d x), .int .i64 (addI e y), .int .i64 (addI f z)]) (by simp [results, Try.results110, go_sem, d0, d1, d2, d3, d4, d5]) rfl ⟨rfl, by (repeat' (first | (with_reducible exact Below.refl _ _) | (with_reducible assumption) | (with_reducible refine Below.alloc ?_ ?_ _) | (with_reducible refine Below.drew ?_) | (with_reducible refine Below.setCell ?_ ?_ _) | (with_reducible refine after ?_ (below_regrown _ _ _)) | (refine after ?_ (by with_reducible assumption)) | go_size))⟩
end Go.Proofs.Ytnokibdecnddlaa

/- The walks of the reference of the layer 2. -/
namespace Go.Proofs.Ytnokibdecnddlaa
open Go.RowKit

set_option maxHeartbeats 1000000 in
theorem raxis_c (x y z a : Int) (w : World) : Calls Try.prog 21 #[.agg #[.int .i64 x, .int .i64 y, .int .i64 z], .int .i64 a] w fun e w' => e = .returned (.int .i64 (axI x y z a)) ∧ Below w.heap.size w w' := by
  rcases (show a = 0 ∨ a = 1 ∨ a = 2 ∨ (a < 0 ∨ 2 < a) by omega) with rfl | rfl | rfl | h
  · go_enter Try.func21, Try.ntmps21
    go_wp2_with fail
    go_returns
    exact ⟨ret_i rfl, by (repeat' (first | (with_reducible exact Below.refl _ _) | (with_reducible assumption) | (with_reducible refine Below.alloc ?_ ?_ _) | (with_reducible refine Below.drew ?_) | (with_reducible refine Below.setCell ?_ ?_ _) | (with_reducible refine after ?_ (below_regrown _ _ _)) | (refine after ?_ (by with_reducible assumption)) | go_size))⟩
  · go_enter Try.func21, Try.ntmps21
    go_wp2_with fail
    go_returns
    exact ⟨ret_i rfl, by (repeat' (first | (with_reducible exact Below.refl _ _) | (with_reducible assumption) | (with_reducible refine Below.alloc ?_ ?_ _) | (with_reducible refine Below.drew ?_) | (with_reducible refine Below.setCell ?_ ?_ _) | (with_reducible refine after ?_ (below_regrown _ _ _)) | (refine after ?_ (by with_reducible assumption)) | go_size))⟩
  · go_enter Try.func21, Try.ntmps21
    go_wp2_with fail
    go_returns
    exact ⟨ret_i rfl, by (repeat' (first | (with_reducible exact Below.refl _ _) | (with_reducible assumption) | (with_reducible refine Below.alloc ?_ ?_ _) | (with_reducible refine Below.drew ?_) | (with_reducible refine Below.setCell ?_ ?_ _) | (with_reducible refine after ?_ (below_regrown _ _ _)) | (refine after ?_ (by with_reducible assumption)) | go_size))⟩
  · have h0 : (a == 0) = false := by simp; omega
    have h1 : (a == 1) = false := by simp; omega
    have h2 : (a == 2) = false := by simp; omega
    have H := Lib.hid h
    clear h
    go_enter Try.func21, Try.ntmps21
    go_wp2_with fail
    go_returns
    exact ⟨ret_i (axI_no H.out).symm, by (repeat' (first | (with_reducible exact Below.refl _ _) | (with_reducible assumption) | (with_reducible refine Below.alloc ?_ ?_ _) | (with_reducible refine Below.drew ?_) | (with_reducible refine Below.setCell ?_ ?_ _) | (with_reducible refine after ?_ (below_regrown _ _ _)) | (refine after ?_ (by with_reducible assumption)) | go_size))⟩
theorem raxis_e (x y z a v : Int) (h : axI x y z a = v) (w : World) : Calls Try.prog 21 #[.agg #[.int .i64 x, .int .i64 y, .int .i64 z], .int .i64 a] w fun e w' => e = .returned (.int .i64 v) ∧ Below w.heap.size w w' := by
  rw [← h]; exact raxis_c x y z a w
set_option maxHeartbeats 1000000 in
theorem rwith_c (x y z a n : Int) (w : World) : Calls Try.prog 50 #[.agg #[.int .i64 x, .int .i64 y, .int .i64 z], .int .i64 a, .int .i64 n] w fun e w' => e = .returned (.agg #[.int .i64 (wiI x a 0 n), .int .i64 (wiI y a 1 n), .int .i64 (wiI z a 2 n)]) ∧ Below w.heap.size w w' := by
  rcases (show a = 0 ∨ a = 1 ∨ a = 2 ∨ (a < 0 ∨ 2 < a) by omega) with rfl | rfl | rfl | h
  · go_enter Try.func50, Try.ntmps50
    go_wp2_with fail
    refine (rcut_c _ _).mono ?_; rintro e w1 ⟨rfl, rfl⟩
    go_wp2_with fail
    go_returns
    exact ⟨rfl, by (repeat' (first | (with_reducible exact Below.refl _ _) | (with_reducible assumption) | (with_reducible refine Below.alloc ?_ ?_ _) | (with_reducible refine Below.drew ?_) | (with_reducible refine Below.setCell ?_ ?_ _) | (with_reducible refine after ?_ (below_regrown _ _ _)) | (refine after ?_ (by with_reducible assumption)) | go_size))⟩
  · go_enter Try.func50, Try.ntmps50
    go_wp2_with fail
    refine (rcut_c _ _).mono ?_; rintro e w1 ⟨rfl, rfl⟩
    go_wp2_with fail
    go_returns
    exact ⟨rfl, by (repeat' (first | (with_reducible exact Below.refl _ _) | (with_reducible assumption) | (with_reducible refine Below.alloc ?_ ?_ _) | (with_reducible refine Below.drew ?_) | (with_reducible refine Below.setCell ?_ ?_ _) | (with_reducible refine after ?_ (below_regrown _ _ _)) | (refine after ?_ (by with_reducible assumption)) | go_size))⟩
  · go_enter Try.func50, Try.ntmps50
    go_wp2_with fail
    refine (rcut_c _ _).mono ?_; rintro e w1 ⟨rfl, rfl⟩
    go_wp2_with fail
    go_returns
    exact ⟨rfl, by (repeat' (first | (with_reducible exact Below.refl _ _) | (with_reducible assumption) | (with_reducible refine Below.alloc ?_ ?_ _) | (with_reducible refine Below.drew ?_) | (with_reducible refine Below.setCell ?_ ?_ _) | (with_reducible refine after ?_ (below_regrown _ _ _)) | (refine after ?_ (by with_reducible assumption)) | go_size))⟩
  · have h0 : (a == 0) = false := by simp; omega
    have h1 : (a == 1) = false := by simp; omega
    have h2 : (a == 2) = false := by simp; omega
    have e0 : wiI x a 0 n = x := by unfold wiI; rw [if_neg (by omega)]
    have e1 : wiI y a 1 n = y := by unfold wiI; rw [if_neg (by omega)]
    have e2 : wiI z a 2 n = z := by unfold wiI; rw [if_neg (by omega)]
    rw [e0, e1, e2]
    clear h e0 e1 e2
    go_enter Try.func50, Try.ntmps50
    go_wp2_with fail
    refine (rcut_c _ _).mono ?_; rintro e w1 ⟨rfl, rfl⟩
    go_wp2_with fail
    go_returns
    exact ⟨rfl, by (repeat' (first | (with_reducible exact Below.refl _ _) | (with_reducible assumption) | (with_reducible refine Below.alloc ?_ ?_ _) | (with_reducible refine Below.drew ?_) | (with_reducible refine Below.setCell ?_ ?_ _) | (with_reducible refine after ?_ (below_regrown _ _ _)) | (refine after ?_ (by with_reducible assumption)) | go_size))⟩
set_option maxHeartbeats 1000000 in
theorem rcutv_c (x y z : Int) (w : World) : Calls Try.prog 35 #[.agg #[.int .i64 x, .int .i64 y, .int .i64 z]] w fun e w' => e = .returned (.agg #[.int .i64 (cutI x), .int .i64 (cutI y), .int .i64 (cutI z)]) ∧ Below w.heap.size w w' := by
  have U : Blk ((w.alloc (.cells #[.int .i64 x, .int .i64 y, .int .i64 z] 26)).alloc (.cells #[.int .i64 0, .int .i64 0, .int .i64 0] 26)) w.heap.size 26 #[.int .i64 x, .int .i64 y, .int .i64 z] := (Blk.new' rfl).alloc _
  have R0 : Blk ((w.alloc (.cells #[.int .i64 x, .int .i64 y, .int .i64 z] 26)).alloc (.cells #[.int .i64 0, .int .i64 0, .int .i64 0] 26)) (w.heap.size + 1) 26 #[.int .i64 0, .int .i64 0, .int .i64 0] := Blk.new' (by simp)
  obtain ⟨k0, k1, k2⟩ := U.re3
  go_enter Try.func35, Try.ntmps35
  go_wp2_with fail
  refine wp_region_last_below 10 (by kernel_rfl) rfl (by kernel_rfl) ?_
  simp only [List.take_succ_cons, List.take_zero, List.drop_succ_cons, List.drop_zero]
  repeat (go_big_quiet_step (exact Calls.regrown_of (calls_bel (rcut_c _ _))))
  refine wpQuiet_nil ?_
  intro w' hw'
  obtain ⟨rg, rfl⟩ := hw'
  have R := R0.re rg.d rg.os
  obtain ⟨r0, r1, r2, s0, s1, s2⟩ := R.c3
  go_wp2_with fail
  have R2 := R.st3 (.int .i64 (cutI x)) (.int .i64 (cutI y)) (.int .i64 (cutI z))
  obtain ⟨d0, d1, d2, -, -, -⟩ := R2.c3
  exact bodyPost_ret (v := .agg #[.int .i64 (cutI x), .int .i64 (cutI y), .int .i64 (cutI z)]) (by simp [results, Try.results35, go_sem, d0, d1, d2]) rfl ⟨rfl, by (repeat' (first | (with_reducible exact Below.refl _ _) | (with_reducible assumption) | (with_reducible refine Below.alloc ?_ ?_ _) | (with_reducible refine Below.drew ?_) | (with_reducible refine Below.setCell ?_ ?_ _) | (with_reducible refine after ?_ (below_regrown _ _ _)) | (refine after ?_ (by with_reducible assumption)) | go_size))⟩
set_option maxHeartbeats 1000000 in
theorem raddv_c (x y z x' y' z' : Int) (w : World) : Calls Try.prog 30 #[.agg #[.int .i64 x, .int .i64 y, .int .i64 z], .agg #[.int .i64 x', .int .i64 y', .int .i64 z']] w fun e w' => e = .returned (.agg #[.int .i64 (addI x x'), .int .i64 (addI y y'), .int .i64 (addI z z')]) ∧ Below w.heap.size w w' := by
  have U : Blk (((w.alloc (.cells #[.int .i64 x, .int .i64 y, .int .i64 z] 26)).alloc (.cells #[.int .i64 x', .int .i64 y', .int .i64 z'] 26)).alloc (.cells #[.int .i64 0, .int .i64 0, .int .i64 0] 26)) w.heap.size 26 #[.int .i64 x, .int .i64 y, .int .i64 z] := ((Blk.new' rfl).alloc _).alloc _
  have V : Blk (((w.alloc (.cells #[.int .i64 x, .int .i64 y, .int .i64 z] 26)).alloc (.cells #[.int .i64 x', .int .i64 y', .int .i64 z'] 26)).alloc (.cells #[.int .i64 0, .int .i64 0, .int .i64 0] 26)) (w.heap.size + 1) 26 #[.int .i64 x', .int .i64 y', .int .i64 z'] := (Blk.new' (by simp)).alloc _
  have R0 : Blk (((w.alloc (.cells #[.int .i64 x, .int .i64 y, .int .i64 z] 26)).alloc (.cells #[.int .i64 x', .int .i64 y', .int .i64 z'] 26)).alloc (.cells #[.int .i64 0, .int .i64 0, .int .i64 0] 26)) (w.heap.size + 1 + 1) 26 #[.int .i64 0, .int .i64 0, .int .i64 0] := Blk.new' (by simp)
  obtain ⟨l0, l1, l2⟩ := V.re3
  obtain ⟨k0, k1, k2⟩ := U.re3
  go_enter Try.func30, Try.ntmps30
  go_wp2_with fail
  refine wp_region_last_below 16 (by kernel_rfl) rfl (by kernel_rfl) ?_
  simp only [List.take_succ_cons, List.take_zero, List.drop_succ_cons, List.drop_zero]
  repeat (go_big_quiet_step (exact Calls.regrown_of (calls_bel (radd_c _ _ _))))
  refine wpQuiet_nil ?_
  intro w' hw'
  obtain ⟨rg, rfl⟩ := hw'
  have R := R0.re rg.d rg.os
  obtain ⟨r0, r1, r2, s0, s1, s2⟩ := R.c3
  go_wp2_with fail
  have R2 := R.st3 (.int .i64 (addI x x')) (.int .i64 (addI y y')) (.int .i64 (addI z z'))
  obtain ⟨d0, d1, d2, -, -, -⟩ := R2.c3
  exact bodyPost_ret (v := .agg #[.int .i64 (addI x x'), .int .i64 (addI y y'), .int .i64 (addI z z')]) (by simp [results, Try.results30, go_sem, d0, d1, d2]) rfl ⟨rfl, by (repeat' (first | (with_reducible exact Below.refl _ _) | (with_reducible assumption) | (with_reducible refine Below.alloc ?_ ?_ _) | (with_reducible refine Below.drew ?_) | (with_reducible refine Below.setCell ?_ ?_ _) | (with_reducible refine after ?_ (below_regrown _ _ _)) | (refine after ?_ (by with_reducible assumption)) | go_size))⟩
set_option maxHeartbeats 1000000 in
theorem rsubv_c (x y z x' y' z' : Int) (w : World) : Calls Try.prog 29 #[.agg #[.int .i64 x, .int .i64 y, .int .i64 z], .agg #[.int .i64 x', .int .i64 y', .int .i64 z']] w fun e w' => e = .returned (.agg #[.int .i64 (subI x x'), .int .i64 (subI y y'), .int .i64 (subI z z')]) ∧ Below w.heap.size w w' := by
  have U : Blk (((w.alloc (.cells #[.int .i64 x, .int .i64 y, .int .i64 z] 26)).alloc (.cells #[.int .i64 x', .int .i64 y', .int .i64 z'] 26)).alloc (.cells #[.int .i64 0, .int .i64 0, .int .i64 0] 26)) w.heap.size 26 #[.int .i64 x, .int .i64 y, .int .i64 z] := ((Blk.new' rfl).alloc _).alloc _
  have V : Blk (((w.alloc (.cells #[.int .i64 x, .int .i64 y, .int .i64 z] 26)).alloc (.cells #[.int .i64 x', .int .i64 y', .int .i64 z'] 26)).alloc (.cells #[.int .i64 0, .int .i64 0, .int .i64 0] 26)) (w.heap.size + 1) 26 #[.int .i64 x', .int .i64 y', .int .i64 z'] := (Blk.new' (by simp)).alloc _
  have R0 : Blk (((w.alloc (.cells #[.int .i64 x, .int .i64 y, .int .i64 z] 26)).alloc (.cells #[.int .i64 x', .int .i64 y', .int .i64 z'] 26)).alloc (.cells #[.int .i64 0, .int .i64 0, .int .i64 0] 26)) (w.heap.size + 1 + 1) 26 #[.int .i64 0, .int .i64 0, .int .i64 0] := Blk.new' (by simp)
  obtain ⟨l0, l1, l2⟩ := V.re3
  obtain ⟨k0, k1, k2⟩ := U.re3
  go_enter Try.func29, Try.ntmps29
  go_wp2_with fail
  refine wp_region_last_below 16 (by kernel_rfl) rfl (by kernel_rfl) ?_
  simp only [List.take_succ_cons, List.take_zero, List.drop_succ_cons, List.drop_zero]
  repeat (go_big_quiet_step (exact Calls.regrown_of (calls_bel (rsub_c _ _ _))))
  refine wpQuiet_nil ?_
  intro w' hw'
  obtain ⟨rg, rfl⟩ := hw'
  have R := R0.re rg.d rg.os
  obtain ⟨r0, r1, r2, s0, s1, s2⟩ := R.c3
  go_wp2_with fail
  have R2 := R.st3 (.int .i64 (subI x x')) (.int .i64 (subI y y')) (.int .i64 (subI z z'))
  obtain ⟨d0, d1, d2, -, -, -⟩ := R2.c3
  exact bodyPost_ret (v := .agg #[.int .i64 (subI x x'), .int .i64 (subI y y'), .int .i64 (subI z z')]) (by simp [results, Try.results29, go_sem, d0, d1, d2]) rfl ⟨rfl, by (repeat' (first | (with_reducible exact Below.refl _ _) | (with_reducible assumption) | (with_reducible refine Below.alloc ?_ ?_ _) | (with_reducible refine Below.drew ?_) | (with_reducible refine Below.setCell ?_ ?_ _) | (with_reducible refine after ?_ (below_regrown _ _ _)) | (refine after ?_ (by with_reducible assumption)) | go_size))⟩
set_option maxHeartbeats 2000000 in
theorem rmove_c (a b c d e f x y z : Int) (w : World) : Calls Try.prog 107 #[.agg #[.int .i64 a, .int .i64 b, .int .i64 c, .int .i64 d, .int .i64 e, .int .i64 f], .agg #[.int .i64 x, .int .i64 y, .int .i64 z]] w fun r w' => r = .returned (.agg #[.int .i64 (addI a x), .int .i64 (addI b y), .int .i64 (addI c z), .int .i64 (addI d x), .int .i64 (addI e y), .int .i64 (addI f z)]) ∧ Below w.heap.size w w' := by
  have U : Blk (((w.alloc (.cells (bxV a b c d e f) 48)).alloc (.cells #[.int .i64 x, .int .i64 y, .int .i64 z] 26)).alloc (.cells (bxV 0 0 0 0 0 0) 48)) w.heap.size 48 (bxV a b c d e f) := ((Blk.new' rfl).alloc _).alloc _
  have V : Blk (((w.alloc (.cells (bxV a b c d e f) 48)).alloc (.cells #[.int .i64 x, .int .i64 y, .int .i64 z] 26)).alloc (.cells (bxV 0 0 0 0 0 0) 48)) (w.heap.size + 1) 26 #[.int .i64 x, .int .i64 y, .int .i64 z] := (Blk.new' (by simp)).alloc _
  have R0 : Blk (((w.alloc (.cells (bxV a b c d e f) 48)).alloc (.cells #[.int .i64 x, .int .i64 y, .int .i64 z] 26)).alloc (.cells (bxV 0 0 0 0 0 0) 48)) (w.heap.size + 1 + 1) 48 (bxV 0 0 0 0 0 0) := Blk.new' (by simp)
  obtain ⟨k0, k1, k2, k3, k4, k5⟩ := U.re6
  obtain ⟨l0, l1, l2⟩ := V.re3
  go_enter Try.func107, Try.ntmps107
  go_wp2_with fail
  refine wp_region_last_below 9 (by kernel_rfl) rfl (by kernel_rfl) ?_
  simp only [List.take_succ_cons, List.take_zero, List.drop_succ_cons, List.drop_zero]
  repeat (go_big_quiet_step (exact Calls.regrown_of (raddv_c _ _ _ _ _ _ _)))
  refine wpQuiet_nil ?_
  intro w' hw'
  obtain ⟨rg, rfl⟩ := hw'
  have R := R0.re rg.d rg.os
  obtain ⟨⟨r0, r1, r2, r3, r4, r5⟩, s0, s1, s2, s3, s4, s5⟩ := R.c6
  go_wp2_with fail
  have R2 := R.st6 (.int .i64 (addI a x)) (.int .i64 (addI b y)) (.int .i64 (addI c z)) (.int .i64 (addI d x)) (.int .i64 (addI e y)) (.int .i64 (addI f z))
  obtain ⟨⟨d0, d1, d2, d3, d4, d5⟩, -, -, -, -, -, -⟩ := R2.c6
  exact bodyPost_ret (v := .agg #[.int .i64 (addI a x), .int .i64 (addI b y), .int .i64 (addI c z), .int .i64 (addI d x), .int .i64 (addI e y), .int .i64 (addI f z)]) (by simp [results, Try.results107, go_sem, d0, d1, d2, d3, d4, d5]) rfl ⟨rfl, by (repeat' (first | (with_reducible exact Below.refl _ _) | (with_reducible assumption) | (with_reducible refine Below.alloc ?_ ?_ _) | (with_reducible refine Below.drew ?_) | (with_reducible refine Below.setCell ?_ ?_ _) | (with_reducible refine after ?_ (below_regrown _ _ _)) | (refine after ?_ (by with_reducible assumption)) | go_size))⟩
end Go.Proofs.Ytnokibdecnddlaa

/- The document's cells of a box. -/
namespace Go.Proofs.Ytnokibdecnddlaa
open Go.RowKit

/-- One axis of the document's Span, its values literal where they guard. -/
theorem top_ways (n m : Int) : (((lowI m * 65536 == m) = false) ∧ topI n m = lowI m) ∨ (((lowI m * 65536 == m) = true) ∧ decide (lowI n < lowI m) = false ∧ topI n m = lowI m) ∨ (((lowI m * 65536 == m) = true) ∧ decide (lowI n < lowI m) = true ∧ topI n m = lowI m - 1) := by
  unfold topI
  by_cases h1 : lowI m * 65536 = m <;> by_cases h2 : lowI n < lowI m <;> simp [h1, h2]
theorem thin_ways (n m : Int) : ((n == m) = false ∧ thinI n m = false) ∨ ((n == m) = true ∧ (lowI n * 65536 == n) = false ∧ thinI n m = false) ∨ ((n == m) = true ∧ (lowI n * 65536 == n) = true ∧ thinI n m = true) := by
  unfold thinI
  cases (n == m) <;> cases (lowI n * 65536 == n) <;> simp
end Go.Proofs.Ytnokibdecnddlaa

/- More plain helpers of ours: no program in sight. -/
namespace Go.Proofs.Ytnokibdecnddlaa
open Go.RowKit
section
variable {w W : World} {g : Nat} {t : TypeId} {cs : Array Value} {d : Nat} {os : Array Obj}
theorem Blk.reW (h : Blk w g t cs) (hW : W = Go.Sort.grow (redrawn w d) os) : Blk W g t cs := by rw [hW]; exact h.re d os
theorem Blk.eqw {w W : World} (e : w = W) (h : Blk w g t cs) : Blk W g t cs := e ▸ h
theorem re_below {v : World} (h : Below v.heap.size v w) (hW : W = Go.Sort.grow (redrawn w d) os) : Below v.heap.size v W := by rw [hW]; exact after h (below_regrown w d os)
end
end Go.Proofs.Ytnokibdecnddlaa

/- A counter's next number; a cell that is read lies in the heap. -/
namespace Go.Proofs.Ytnokibdecnddlaa
open Go.RowKit

theorem cell_lt {w : World} {p : Addr} {v : Value} (h : w.cell? p = some v) : p.block < w.heap.size := by
  unfold World.cell? at h
  cases hh : w.heap[p.block]? with
  | none => simp [hh] at h
  | some b => exact (Array.getElem?_eq_some_iff.1 hh).1
theorem cell_spot {w : World} {p : Addr} {v : Value} (h : w.cell? p = some v) : p.spot = none := by
  unfold World.cell? at h
  cases hs : p.spot with
  | none => rfl
  | some k => cases hh : w.heap[p.block]? <;> simp [hh, hs] at h; split at h <;> simp at h
theorem cell_below {w w' : World} {B : Nat} {p : Addr} (hb : Below B w w') (h : p.block < B) : w'.cell? p = w.cell? p := by
  unfold World.cell?
  rw [hb.block p.block h]
/-! A counter's next number. -/
theorem next64 {n cap k : Nat} (hc : n ≤ cap) (hm : cap ≤ maxLen) (hlt : k < n) : wrap64 ((k : Int) + 1) = k + 1 := by
  have h1 := Nat.le_trans hc hm
  have h2 : maxLen ≤ 9223372036854775807 := by decide
  have h3 := Nat.le_trans h1 h2
  clear hc hm h1 h2
  exact IntWalk.wrap64_in _ (by omega)
theorem next_val {k : Nat} (h : wrap64 ((k : Int) + 1) = k + 1) : Value.int .i64 (wrap64 ((k : Int) + 1)) = .int .i64 ((k + 1 : Nat) : Int) := by rw [h]; rfl
theorem next_less {n k : Nat} (hlt : k < n) (h : wrap64 ((k : Int) + 1) = k + 1) : n - (intOf (.int .i64 (wrap64 ((k : Int) + 1)))).toNat < n - (intOf (.int .i64 k)).toNat := by
  rw [h]; clear h
  show n - ((k : Int) + 1).toNat < n - (k : Int).toNat
  omega
theorem next_less' {n k : Nat} (hlt : k < n) : n - (intOf (.int .i64 ((k : Int) + 1))).toNat < n - (intOf (.int .i64 k)).toNat := by
  show n - ((k : Int) + 1).toNat < n - (k : Int).toNat
  omega
end Go.Proofs.Ytnokibdecnddlaa
