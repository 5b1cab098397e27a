/- Texts that build one behind the other, laid together: CrcP Base Next RunP DiskP Base2 Plain Last Float Cells Sets Row RowApp Fresh PushAt RF Asn Reg. -/
import Derived.Laws.BitsAllLaws
import Derived.RowKit
import Derived.WalkKit
import Derived.WalkSpells
import Derived.WalkLawsBesides
import Derived.Handy
import Derived.Lib.QuietBelow
import Derived.Lib.Hide
import Derived.BigQuiet
import Derived.Deep.RegionHeld3
import Derived.Shelf.Abstract
import Derived.Great.BuildSlice
import Derived.Lib.AppendZeros
import Derived.Deep.Upon
import Derived.Maps.AppendAt
import Derived.RangeFuncNested
import Derived.RangeFuncBound
import Derived.RangeFuncCalls
import Derived.RangeFuncLeaves
import Derived.OrdersIn
namespace Go.Proofs.YtmbccnioijokfaaGreatDoor
open Go.RowKit
abbrev B16 := BitVec 16
abbrev B8 := BitVec 8
def st (c : B16) : B16 := (c <<< 1) ^^^ (if c.msb then 0x1021#16 else 0#16)
theorem st_xor (a b : B16) : st (a ^^^ b) = st a ^^^ st b := by
  unfold st
  rw [BitVec.msb_xor, BitVec.shiftLeft_xor_distrib]
  cases a.msb <;> cases b.msb <;> simp
  · ac_rfl
  · ac_rfl
  · rw [show a <<< 1 ^^^ 0x1021#16 ^^^ (b <<< 1 ^^^ 0x1021#16) = a <<< 1 ^^^ b <<< 1 ^^^ (0x1021#16 ^^^ 0x1021#16) by ac_rfl]; simp
def stN : Nat → B16 → B16
  | 0, c => c
  | n + 1, c => stN n (st c)
theorem stN_xor : ∀ n (a b : B16), stN n (a ^^^ b) = stN n a ^^^ stN n b
  | 0, _, _ => rfl
  | n + 1, a, b => by show stN n (st (a ^^^ b)) = _; rw [st_xor, stN_xor n]; rfl
theorem stN_add : ∀ m n (c : B16), stN n (stN m c) = stN (m + n) c
  | 0, n, c => by simp [stN]
  | m + 1, n, c => by show stN n (stN m (st c)) = _; rw [stN_add m n, show m + 1 + n = (m + n) + 1 by omega]; rfl
theorem stN_succ (n : Nat) (c : B16) : st (stN n c) = stN (n + 1) c := (stN_add n 1 c)
theorem lin_ext (f g : B16 → B16) (hf : ∀ a b, f (a ^^^ b) = f a ^^^ f b) (hg : ∀ a b, g (a ^^^ b) = g a ^^^ g b) (h : ∀ i, i < 16 → f (BitVec.twoPow 16 i) = g (BitVec.twoPow 16 i)) (c : B16) : f c = g c := by
  have hz : ∀ F : B16 → B16, (∀ a b, F (a ^^^ b) = F a ^^^ F b) → F 0#16 = 0#16 := fun F hF => by
    have := hF 0#16 0#16
    simpa using this
  have key : ∀ k, k ≤ 16 → ∀ c : B16, (∀ i, k ≤ i → c.getLsbD i = false) → f c = g c := by
    intro k
    induction k with
    | zero =>
      intro _ c hc
      have : c = 0#16 := BitVec.eq_of_getLsbD_eq fun i _ => by simp [hc i (by omega)]
      rw [this, hz f hf, hz g hg]
    | succ k ih =>
      intro hk c hc
      cases hb : c.getLsbD k with
      | false =>
        refine ih (by omega) c fun i hi => ?_
        by_cases hik : i = k
        · rw [hik]; exact hb
        · exact hc i (by omega)
      | true =>
        have e : c = (c ^^^ BitVec.twoPow 16 k) ^^^ BitVec.twoPow 16 k := by rw [BitVec.xor_assoc]; simp
        rw [e, hf, hg, h k (by omega), ih (by omega) (c ^^^ BitVec.twoPow 16 k) fun i hi => ?_]
        rw [BitVec.getLsbD_xor, BitVec.getLsbD_twoPow]
        by_cases hik : i = k
        · subst hik; rw [hb]; simp; omega
        · rw [hc i (by omega)]; simp; omega
  exact key 16 (by omega) c fun i hi => BitVec.getLsbD_of_ge c i hi
def tb (i : B16) : B16 := stN 4 (i <<< 12)
theorem tb_xor (a b : B16) : tb (a ^^^ b) = tb a ^^^ tb b := by unfold tb; rw [BitVec.shiftLeft_xor_distrib, stN_xor]
theorem four (c : B16) : (c <<< 4) ^^^ tb (c >>> 12) = stN 4 c := by
  refine lin_ext (fun c => (c <<< 4) ^^^ tb (c >>> 12)) (stN 4) (fun a b => ?_) (stN_xor 4) (by decide) c
  rw [BitVec.shiftLeft_xor_distrib, BitVec.ushiftRight_xor_distrib, tb_xor]
  ac_rfl
def nib (c y : B16) : B16 := (c <<< 4) ^^^ tb ((c >>> 12) ^^^ y)
theorem nib_eq (c y : B16) : nib c y = stN 4 (c ^^^ (y <<< 12)) := by
  unfold nib
  rw [tb_xor, stN_xor, ← four c]
  unfold tb
  ac_rfl
def crcUp (c : B16) (x : B8) : B16 := stN 8 (c ^^^ (x.setWidth 16 <<< 8))
theorem low8 : ∀ x : B8, stN 4 ((x.setWidth 16 &&& 15#16) <<< 8) = (x.setWidth 16 &&& 15#16) <<< 12 := by decide +kernel
theorem split8 : ∀ x : B8, (x.setWidth 16 : B16) <<< 8 = ((x.setWidth 16 >>> 4) <<< 12) ^^^ ((x.setWidth 16 &&& 15#16) <<< 8) := by decide +kernel
theorem nib_nib (c : B16) (x : B8) : nib (nib c (x.setWidth 16 >>> 4)) (x.setWidth 16 &&& 15#16) = crcUp c x := by
  rw [nib_eq, nib_eq, ← low8, ← stN_xor, stN_add]
  unfold crcUp
  rw [split8, BitVec.xor_assoc]
def crcN (c : B16) (F : Nat → B8) : Nat → B16
  | 0 => c
  | k + 1 => crcUp (crcN c F k) (F k)
end Go.Proofs.YtmbccnioijokfaaGreatDoor

namespace Go.Proofs.YtmbccnioijokfaaGreatDoor
open Go.RowKit
def In64 (n : Int) : Prop := -9223372036854775808 ≤ n ∧ n ≤ 9223372036854775807
theorem in64_of_wf {n : Int} (h : (Lit.int .i64 n).wf = true) : In64 n := by
  simp [Lit.wf, IntKind.min, IntKind.max, IntKind.signed, IntKind.bits] at h
  exact ⟨by omega, by omega⟩
theorem ret_i {k : IntKind} {a b : Int} (h : a = b) : Ending.returned (.int k a) = .returned (.int k b) := by rw [h]
theorem ret_b {a b : Bool} (h : a = b) : Ending.returned (.bool a) = .returned (.bool b) := by rw [h]
theorem ret_t2 {a b a' b' : Value} (h : a = a') (k : b = b') : Ending.returned (.tuple #[a, b]) = .returned (.tuple #[a', b']) := by rw [h, k]
theorem vi {k : IntKind} {a b : Int} (h : a = b) : Value.int k a = .int k b := by rw [h]
theorem vb {a b : Bool} (h : a = b) : Value.bool a = .bool b := by rw [h]
def mnI (x y : Int) : Int := min x y
def mxI (x y : Int) : Int := max x y
theorem run_mn {P : Program} (ts : Array TypeId) (t : TypeId) (k k' : IntKind) (x y : Int) (w : World) : (Builtin.min_ ts t #[.int k x, .int k' y]).run P w = .ok (.int k (mnI x y)) w := by
  rw [run_min_int2]
  have h : (if y < x then y else x) = mnI x y := by unfold mnI; omega
  rw [h]
theorem run_mx {P : Program} (ts : Array TypeId) (t : TypeId) (k k' : IntKind) (x y : Int) (w : World) : (Builtin.max_ ts t #[.int k x, .int k' y]).run P w = .ok (.int k (mxI x y)) w := by
  rw [run_max_int2]
  have h : (if x < y then y else x) = mxI x y := by unfold mxI; omega
  rw [h]
theorem after {w W W' : World} (h : Below w.heap.size w W) (k : Below W.heap.size W W') : Below w.heap.size w W' := h.trans (k.mono h.size)
theorem after' {n : Nat} {w W W' : World} (h : Below n w W) (hn : n ≤ w.heap.size) (k : Below W.heap.size W W') : Below n w W' := h.trans (k.mono (Nat.le_trans hn h.size))
theorem bcell {W w1 : World} (hb : Below W.heap.size W w1) : (∀ b o, b < W.heap.size → w1.cell? ⟨b, o, none⟩ = W.cell? ⟨b, o, none⟩) ∧ (∀ b o, b < W.heap.size → w1.frozen? ⟨b, o, none⟩ = W.frozen? ⟨b, o, none⟩) :=
  ⟨fun b o h => hb.cell (p := ⟨b, o, none⟩) h, fun b o h => hb.frozen (p := ⟨b, o, none⟩) h⟩
theorem calls_bel {P : Program} {f : FuncId} {args : Array Value} {w : World} {v : Value} (h : Calls P f args w fun e w' => e = .returned v ∧ w = w') : Calls P f args w fun e w' => e = .returned v ∧ Below w.heap.size w w' :=
  h.mono fun _ _ ⟨he, hw⟩ => ⟨he, by rw [← hw]; exact Below.refl _ _⟩
def Blk (w : World) (g : Nat) (t : TypeId) (cs : Array Value) : Prop := w.heap[g]? = some (.cells cs t (0, 0))
section
variable {w w' : World} {g : Nat} {t : TypeId} {cs : Array Value}
theorem Blk.lt (h : Blk w g t cs) : g < w.heap.size := by
  unfold Blk at h
  exact (Array.getElem?_eq_some_iff.1 h).1
theorem Blk.cell (h : Blk w g t cs) (i : Nat) : w.cell? ⟨g, i, none⟩ = cs[i]? := by
  unfold Blk at h
  simp [World.cell?, h]
theorem Blk.frz (h : Blk w g t cs) (i : Nat) : w.frozen? ⟨g, i, none⟩ = false := by
  unfold Blk at h
  simp [World.frozen?, h]
theorem Blk.new (w : World) (t : TypeId) (cs : Array Value) : Blk (w.alloc (.cells cs t)) w.heap.size t cs := heap_alloc_new w _
theorem Blk.new' {w : World} {g : Nat} {t : TypeId} {cs : Array Value} (h : g = w.heap.size) : Blk (w.alloc (.cells cs t)) g t cs := by subst h; exact Blk.new w t cs
theorem Blk.alloc (h : Blk w g t cs) (o : Obj) : Blk (w.alloc o) g t cs := by
  unfold Blk at *
  have hl := (Array.getElem?_eq_some_iff.1 h).1
  rw [Below.heap_alloc w o g hl]
  exact h
theorem Blk.drew (h : Blk w g t cs) : Blk w.drew g t cs := h
theorem Blk.set_ (h : Blk w g t cs) (i : Nat) (u : Value) : Blk (w.setCell ⟨g, i, none⟩ u) g t (cs.setIfInBounds i u) := by
  unfold Blk at *
  simp [World.setCell, Array.getElem?_modify, h]
theorem Blk.far (h : Blk w g t cs) {p : Addr} (hp : g ≠ p.block) (u : Value) : Blk (w.setCell p u) g t cs := by
  unfold Blk at *
  rw [Below.heap_setCell w p u g hp]
  exact h
theorem Blk.below {B : Nat} (h : Blk w g t cs) (hb : Below B w w') (hg : g < B) : Blk w' g t cs := by
  unfold Blk at *
  rw [hb.block g hg]
  exact h
theorem Blk.on (h : Blk w g t cs) (hb : Below w.heap.size w w') : Blk w' g t cs := h.below hb h.lt
theorem Blk.st3 {x y z : Value} (h : Blk w g t #[x, y, z]) (a b c : Value) : Blk (((w.setCell ⟨g, 0, none⟩ a).setCell ⟨g, 1, none⟩ b).setCell ⟨g, 2, none⟩ c) g t #[a, b, c] := ((h.set_ 0 a).set_ 1 b).set_ 2 c
theorem Blk.st6 {x y z r s u : Value} (h : Blk w g t #[x, y, z, r, s, u]) (a b c d e f : Value) : Blk ((((((w.setCell ⟨g, 0, none⟩ a).setCell ⟨g, 1, none⟩ b).setCell ⟨g, 2, none⟩ c).setCell ⟨g, 3, none⟩ d).setCell ⟨g, 4, none⟩ e).setCell ⟨g, 5, none⟩ f) g t #[a, b, c, d, e, f] :=
  (((((h.set_ 0 a).set_ 1 b).set_ 2 c).set_ 3 d).set_ 4 e).set_ 5 f
theorem Blk.c1 {a : Value} (h : Blk w g t #[a]) : w.cell? ⟨g, 0, none⟩ = some a ∧ w.frozen? ⟨g, 0, none⟩ = false := ⟨h.cell 0, h.frz 0⟩
theorem Blk.c3 {a b c : Value} (h : Blk w g t #[a, b, c]) : w.cell? ⟨g, 0, none⟩ = some a ∧ w.cell? ⟨g, 1, none⟩ = some b ∧ w.cell? ⟨g, 2, none⟩ = some c ∧ w.frozen? ⟨g, 0, none⟩ = false ∧ w.frozen? ⟨g, 1, none⟩ = false ∧ w.frozen? ⟨g, 2, none⟩ = false :=
  ⟨h.cell 0, h.cell 1, h.cell 2, h.frz 0, h.frz 1, h.frz 2⟩
theorem Blk.c6 {a b c d e f : Value} (h : Blk w g t #[a, b, c, d, e, f]) : (w.cell? ⟨g, 0, none⟩ = some a ∧ w.cell? ⟨g, 1, none⟩ = some b ∧ w.cell? ⟨g, 2, none⟩ = some c ∧ w.cell? ⟨g, 3, none⟩ = some d ∧ w.cell? ⟨g, 4, none⟩ = some e ∧ w.cell? ⟨g, 5, none⟩ = some f) ∧
    w.frozen? ⟨g, 0, none⟩ = false ∧ w.frozen? ⟨g, 1, none⟩ = false ∧ w.frozen? ⟨g, 2, none⟩ = false ∧ w.frozen? ⟨g, 3, none⟩ = false ∧ w.frozen? ⟨g, 4, none⟩ = false ∧ w.frozen? ⟨g, 5, none⟩ = false :=
  ⟨⟨h.cell 0, h.cell 1, h.cell 2, h.cell 3, h.cell 4, h.cell 5⟩, h.frz 0, h.frz 1, h.frz 2, h.frz 3, h.frz 4, h.frz 5⟩
theorem Blk.re (h : Blk w g t cs) (d : Nat) (os : Array Obj) : Blk (Go.Sort.grow (redrawn w d) os) g t cs := h.below (below_regrown w d os) h.lt
theorem Blk.re3 {a b c : Value} (h : Blk w g t #[a, b, c]) : (∀ d os, (Go.Sort.grow (redrawn w d) os).cell? ⟨g, 0, none⟩ = some a) ∧ (∀ d os, (Go.Sort.grow (redrawn w d) os).cell? ⟨g, 1, none⟩ = some b) ∧ (∀ d os, (Go.Sort.grow (redrawn w d) os).cell? ⟨g, 2, none⟩ = some c) :=
  ⟨fun d os => (h.re d os).cell 0, fun d os => (h.re d os).cell 1, fun d os => (h.re d os).cell 2⟩
theorem Blk.re6 {a b c x y z : Value} (h : Blk w g t #[a, b, c, x, y, z]) : (∀ d os, (Go.Sort.grow (redrawn w d) os).cell? ⟨g, 0, none⟩ = some a) ∧ (∀ d os, (Go.Sort.grow (redrawn w d) os).cell? ⟨g, 1, none⟩ = some b) ∧ (∀ d os, (Go.Sort.grow (redrawn w d) os).cell? ⟨g, 2, none⟩ = some c) ∧
    (∀ d os, (Go.Sort.grow (redrawn w d) os).cell? ⟨g, 3, none⟩ = some x) ∧ (∀ d os, (Go.Sort.grow (redrawn w d) os).cell? ⟨g, 4, none⟩ = some y) ∧ (∀ d os, (Go.Sort.grow (redrawn w d) os).cell? ⟨g, 5, none⟩ = some z) :=
  ⟨fun d os => (h.re d os).cell 0, fun d os => (h.re d os).cell 1, fun d os => (h.re d os).cell 2, fun d os => (h.re d os).cell 3, fun d os => (h.re d os).cell 4, fun d os => (h.re d os).cell 5⟩
theorem Blk.step {w1 W : World} {o : Obj} (h : Blk w g t cs) (hb : Below w.heap.size w w1) (hW : W = w1.alloc o) : Blk W g t cs := by
  rw [hW]; exact (h.on hb).alloc o
theorem Blk.fresh {w1 W : World} (hW : W = w1.alloc (.cells cs t)) : Blk W w1.heap.size t cs := by
  rw [hW]; exact Blk.new w1 t cs
theorem step_below {v w1 W : World} {o : Obj} (h : Below v.heap.size v w) (hb : Below w.heap.size w w1) (hW : W = w1.alloc o) : Below v.heap.size v W := by
  rw [hW]; exact (after h hb).alloc (after h hb).size o
end
end Go.Proofs.YtmbccnioijokfaaGreatDoor

namespace Go.Proofs.YtmbccnioijokfaaGreatDoor
open Go.RowKit
theorem cell_lt {w : World} {p : Addr} {v : Value} (h : w.cell? p = some v) : p.block < w.heap.size := by
  unfold World.cell? at h
  cases hh : w.heap[p.block]? with
  | none => simp [hh] at h
  | some b => exact (Array.getElem?_eq_some_iff.1 hh).1
theorem cell_spot {w : World} {p : Addr} {v : Value} (h : w.cell? p = some v) : p.spot = none := by
  unfold World.cell? at h
  cases hs : p.spot with
  | none => rfl
  | some k => cases hh : w.heap[p.block]? <;> simp [hh, hs] at h; split at h <;> simp at h
theorem cell_below {w w' : World} {B : Nat} {p : Addr} (hb : Below B w w') (h : p.block < B) : w'.cell? p = w.cell? p := by
  unfold World.cell?
  rw [hb.block p.block h]
theorem next64 {n cap k : Nat} (hc : n ≤ cap) (hm : cap ≤ maxLen) (hlt : k < n) : wrap64 ((k : Int) + 1) = k + 1 := by
  have h1 := Nat.le_trans hc hm
  have h2 : maxLen ≤ 9223372036854775807 := by decide
  have h3 := Nat.le_trans h1 h2
  clear hc hm h1 h2
  exact IntWalk.wrap64_in _ (by omega)
theorem next_val {k : Nat} (h : wrap64 ((k : Int) + 1) = k + 1) : Value.int .i64 (wrap64 ((k : Int) + 1)) = .int .i64 ((k + 1 : Nat) : Int) := by rw [h]; rfl
theorem next_less {n k : Nat} (hlt : k < n) (h : wrap64 ((k : Int) + 1) = k + 1) : n - (intOf (.int .i64 (wrap64 ((k : Int) + 1)))).toNat < n - (intOf (.int .i64 k)).toNat := by
  rw [h]; clear h
  show n - ((k : Int) + 1).toNat < n - (k : Int).toNat
  omega
theorem next_less' {n k : Nat} (hlt : k < n) : n - (intOf (.int .i64 ((k : Int) + 1))).toNat < n - (intOf (.int .i64 k)).toNat := by
  show n - ((k : Int) + 1).toNat < n - (k : Int).toNat
  omega
end Go.Proofs.YtmbccnioijokfaaGreatDoor

namespace Go.Proofs.YtmbccnioijokfaaGreatDoor
abbrev Rn := Int × Int
def cellsR (l : List Rn) : List Int := l.flatMap fun r => List.replicate r.1.toNat r.2
def pushR (l : List Rn) (r : Rn) : List Rn :=
  if r.1 < 1 then l else match l.getLast? with
    | some x => if x.2 = r.2 then l.dropLast ++ [(x.1 + r.1, x.2)] else l ++ [r]
    | none => [r]
def CanR : List Rn → Prop
  | [] => True
  | [r] => 1 ≤ r.1
  | r :: s :: l => 1 ≤ r.1 ∧ r.2 ≠ s.2 ∧ CanR (s :: l)
def lenR (l : List Rn) : Int := (l.map (·.1)).sum
theorem canR_nil : CanR [] := trivial
theorem cellsR_nil : cellsR [] = [] := rfl
theorem cellsR_cons (r : Rn) (l : List Rn) : cellsR (r :: l) = List.replicate r.1.toNat r.2 ++ cellsR l := rfl
theorem cellsR_append (l m : List Rn) : cellsR (l ++ m) = cellsR l ++ cellsR m := by simp [cellsR]
theorem CanR.tail {r : Rn} {l : List Rn} (h : CanR (r :: l)) : CanR l := by
  cases l with
  | nil => trivial
  | cons s l => exact h.2.2
theorem CanR.pos {l : List Rn} (h : CanR l) : ∀ r ∈ l, 1 ≤ r.1 := by
  induction l with
  | nil => intro r hr; cases hr
  | cons s l ih =>
    intro r hr
    rcases List.mem_cons.1 hr with rfl | hr
    · cases l with
      | nil => exact h
      | cons s l => exact h.1
    · exact ih h.tail r hr
theorem CanR.snoc {l : List Rn} {r : Rn} (h : CanR l) (hr : 1 ≤ r.1) (hx : ∀ x, l.getLast? = some x → x.2 ≠ r.2) : CanR (l ++ [r]) := by
  induction l with
  | nil => exact hr
  | cons s l ih =>
    cases l with
    | nil => exact ⟨h, hx s rfl, hr⟩
    | cons t l => exact ⟨h.1, h.2.1, ih h.2.2 (fun x hx' => hx x (by rw [List.getLast?_cons_cons]; exact hx'))⟩
theorem CanR.last {l : List Rn} {x : Rn} {n : Int} (h : CanR (l ++ [x])) (hn : 1 ≤ n) : CanR (l ++ [(n, x.2)]) := by
  induction l with
  | nil => exact hn
  | cons s l ih =>
    cases l with
    | nil => exact ⟨h.1, h.2.1, hn⟩
    | cons t l => exact ⟨h.1, h.2.1, ih h.2.2⟩
theorem last_split {l : List Rn} {x : Rn} (h : l.getLast? = some x) : l = l.dropLast ++ [x] := by
  have hne : l ≠ [] := by rintro rfl; cases h
  rw [List.getLast?_eq_some_getLast hne] at h
  rw [← Option.some.inj h]
  exact (List.dropLast_concat_getLast hne).symm
theorem pushR_can {l : List Rn} (h : CanR l) (r : Rn) : CanR (pushR l r) := by
  unfold pushR
  split
  · exact h
  · rename_i hr
    cases hl : l.getLast? with
    | none => exact (by omega : 1 ≤ r.1)
    | some x =>
      dsimp only
      split
      · have e := last_split hl
        have hx := h.pos x (by rw [e]; simp)
        rw [e] at h
        exact h.last (by omega)
      · rename_i hb
        exact h.snoc (by omega) fun y hy => by rw [hl] at hy; cases hy; exact hb
theorem replicate_two (a b : Int) (c : Int) (ha : 0 ≤ a) (hb : 0 ≤ b) : List.replicate (a + b).toNat c = List.replicate a.toNat c ++ List.replicate b.toNat c := by
  rw [List.replicate_append_replicate, show (a + b).toNat = a.toNat + b.toNat by omega]
theorem pushR_cells {l : List Rn} (h : CanR l) (r : Rn) : cellsR (pushR l r) = cellsR l ++ List.replicate r.1.toNat r.2 := by
  unfold pushR
  split
  · rw [show r.1.toNat = 0 by omega]; simp
  · rename_i hr
    cases hl : l.getLast? with
    | none =>
      obtain rfl : l = [] := by simpa using hl
      simp [cellsR]
    | some x =>
      dsimp only
      split
      · rename_i hb
        have e := last_split hl
        have hx := h.pos x (by rw [e]; simp)
        conv => rhs; rw [e]
        rw [cellsR_append, cellsR_append, List.append_assoc, cellsR_cons, cellsR_cons]
        simp only [cellsR_nil, List.append_nil]
        rw [replicate_two _ _ _ (by omega) (by omega), hb]
      · rw [cellsR_append]; simp [cellsR]
def pushes (l : List Rn) (m : List Rn) : List Rn := m.foldl pushR l
theorem pushes_can {l : List Rn} (h : CanR l) (m : List Rn) : CanR (pushes l m) := by
  induction m generalizing l with
  | nil => exact h
  | cons r m ih => exact ih (pushR_can h r)
theorem pushes_cells {l : List Rn} (h : CanR l) (m : List Rn) : cellsR (pushes l m) = cellsR l ++ cellsR m := by
  induction m generalizing l with
  | nil => simp [pushes, cellsR]
  | cons r m ih =>
    show cellsR (pushes (pushR l r) m) = _
    rw [ih (pushR_can h r), pushR_cells h, cellsR_cons, List.append_assoc]
theorem lenR_cells {l : List Rn} (h : ∀ r ∈ l, 0 ≤ r.1) : lenR l = (cellsR l).length := by
  induction l with
  | nil => rfl
  | cons r l ih =>
    have h1 := h r List.mem_cons_self
    rw [cellsR_cons, List.length_append, List.length_replicate]
    have := ih fun s hs => h s (List.mem_cons_of_mem _ hs)
    unfold lenR at *
    rw [List.map_cons, List.sum_cons, this]
    omega
def cutR : List Rn → Int → Int → Int → List Rn → List Rn
  | [], _, _, _, out => out
  | r :: l, frm, tu, at_, out =>
    cutR l frm tu (at_ + r.1) (if max frm at_ < min tu (at_ + r.1) then pushR out (min tu (at_ + r.1) - max frm at_, r.2) else out)
theorem cutR_can {l : List Rn} {frm tu at_ : Int} {out : List Rn} (h : CanR out) : CanR (cutR l frm tu at_ out) := by
  induction l generalizing at_ out with
  | nil => exact h
  | cons r l ih =>
    unfold cutR
    apply ih
    split
    · exact pushR_can h _
    · exact h
theorem cut_rep (a b n : Nat) (x : Int) : ((List.replicate n x).take b).drop a = List.replicate (min b n - a) x := by
  rw [List.take_replicate, List.drop_replicate]
theorem cutR_cells {l : List Rn} (hl : ∀ r ∈ l, 0 ≤ r.1) {frm tu at_ : Int} {out : List Rn} (h : CanR out) (h0 : 0 ≤ at_) :
    cellsR (cutR l frm tu at_ out) = cellsR out ++ ((cellsR l).take (tu - at_).toNat).drop (frm - at_).toNat := by
  induction l generalizing at_ out with
  | nil => simp [cutR, cellsR]
  | cons r l ih =>
    have hr := hl r List.mem_cons_self
    unfold cutR
    rw [ih (fun s hs => hl s (List.mem_cons_of_mem _ hs)) (by split; exact pushR_can h _; exact h) (by omega)]
    have e : cellsR (if max frm at_ < min tu (at_ + r.1) then pushR out (min tu (at_ + r.1) - max frm at_, r.2) else out) = cellsR out ++ ((List.replicate r.1.toNat r.2).take (tu - at_).toNat).drop (frm - at_).toNat := by
      rw [cut_rep]
      split
      · rw [pushR_cells h]
        congr 2
        dsimp only
        omega
      · rw [show min (tu - at_).toNat r.1.toNat - (frm - at_).toNat = 0 by omega]
        simp
    rw [e, cellsR_cons, List.append_assoc, List.take_append, List.drop_append, List.length_take, List.length_replicate]
    congr 2
    rw [show (tu - at_).toNat - r.1.toNat = (tu - (at_ + r.1)).toNat by omega]
    by_cases ht : (tu - (at_ + r.1)).toNat = 0
    · rw [ht]; simp
    · rw [show (frm - at_).toNat - min (tu - at_).toNat r.1.toNat = (frm - (at_ + r.1)).toNat by omega]
def fillR (l : List Rn) (frm tu b : Int) : List Rn := pushes (pushes (pushes [] (cutR l 0 frm 0 [])) (pushR [] (tu - frm, b))) (cutR l tu (lenR l) 0 [])
theorem fillR_can (l : List Rn) (frm tu b : Int) : CanR (fillR l frm tu b) := pushes_can (pushes_can (pushes_can canR_nil _) _) _
theorem fillR_cells {l : List Rn} (h : CanR l) {frm tu b : Int} :
    cellsR (fillR l frm tu b) = (cellsR l).take frm.toNat ++ List.replicate (tu - frm).toNat b ++ (cellsR l).drop tu.toNat := by
  have hp : ∀ r ∈ l, 0 ≤ r.1 := fun r hr => by have := h.pos r hr; omega
  unfold fillR
  rw [pushes_cells (pushes_can (pushes_can canR_nil _) _), pushes_cells (pushes_can canR_nil _), pushes_cells canR_nil, pushR_cells canR_nil, cutR_cells hp canR_nil (by omega), cutR_cells hp canR_nil (by omega), lenR_cells hp]
  simp [cellsR_nil]
theorem setR_cells {l : List Rn} (h : CanR l) {i : Nat} {b : Int} (hi : i < (cellsR l).length) : cellsR (fillR l i (i + 1) b) = (cellsR l).set i b := by
  have hp : ∀ r ∈ l, 0 ≤ r.1 := fun r hr => by have := h.pos r hr; omega
  rw [fillR_cells h]
  rw [show ((i : Int)).toNat = i by omega, show ((i : Int) + 1 - i).toNat = 1 by omega, show ((i : Int) + 1).toNat = i + 1 by omega]
  rw [List.set_eq_take_append_cons_drop, if_pos hi]
  simp
def atR : List Rn → Int → Int
  | [], _ => -1
  | r :: l, i => if 0 ≤ i ∧ i < r.1 then r.2 else atR l (i - r.1)
theorem atR_cells {l : List Rn} (hl : ∀ r ∈ l, 0 ≤ r.1) (i : Nat) : atR l i = ((cellsR l)[i]?).getD (-1) := by
  induction l generalizing i with
  | nil => rfl
  | cons r l ih =>
    have hr := hl r List.mem_cons_self
    unfold atR
    rw [cellsR_cons]
    by_cases h : (i : Int) < r.1
    · rw [if_pos ⟨by omega, h⟩, List.getElem?_append_left (by rw [List.length_replicate]; omega), List.getElem?_replicate, if_pos (by omega)]; rfl
    · rw [if_neg (by omega), show ((i : Int) - r.1) = ((i - r.1.toNat : Nat) : Int) by omega, ih (fun s hs => hl s (List.mem_cons_of_mem _ hs)), List.getElem?_append_right (by rw [List.length_replicate]; omega), List.length_replicate]
def ofR (cs : List Int) : List Rn := pushes [] (cs.map fun b => (1, b))
theorem ofR_can (cs : List Int) : CanR (ofR cs) := pushes_can canR_nil _
theorem ofR_cells (cs : List Int) : cellsR (ofR cs) = cs := by
  unfold ofR
  rw [pushes_cells canR_nil]
  induction cs with
  | nil => rfl
  | cons c cs ih =>
    rw [List.map_cons, cellsR_cons, show cellsR [] ++ (List.replicate (1 : Int).toNat c ++ cellsR (cs.map fun b => ((1 : Int), b))) = c :: (cellsR [] ++ cellsR (cs.map fun b => ((1 : Int), b))) from rfl, ih]
theorem lenR_app (l m : List Rn) : lenR (l ++ m) = lenR l + lenR m := by unfold lenR; rw [List.map_append, List.sum_append]
theorem lenR_pos {l : List Rn} (h : ∀ r ∈ l, 1 ≤ r.1) : (l.length : Int) ≤ lenR l := by
  induction l with
  | nil => simp [lenR]
  | cons r l ih =>
    have h1 := h r List.mem_cons_self
    have h2 := ih fun s hs => h s (List.mem_cons_of_mem _ hs)
    unfold lenR at *
    rw [List.map_cons, List.sum_cons, List.length_cons]
    omega
theorem pushR_pos {l : List Rn} (h : ∀ r ∈ l, 1 ≤ r.1) (r : Rn) : ∀ x ∈ pushR l r, 1 ≤ x.1 := by
  intro x hx
  unfold pushR at hx
  split at hx
  · exact h x hx
  · rename_i hr
    split at hx
    · rename_i y hy
      have hm : y ∈ l := List.mem_of_getLast? hy
      split at hx
      · rcases List.mem_append.1 hx with hx | hx
        · exact h x (List.dropLast_subset l hx)
        · have := h y hm
          simp at hx
          rw [hx]
          dsimp only
          omega
      · rcases List.mem_append.1 hx with hx | hx
        · exact h x hx
        · simp at hx
          rw [hx]
          omega
    · simp at hx
      rw [hx]
      omega
theorem lenR_push {l : List Rn} (r : Rn) (hr : 0 ≤ r.1) : lenR (pushR l r) = lenR l + r.1 := by
  unfold pushR
  split
  · omega
  · split
    · rename_i y hy
      have e := last_split hy
      split
      · conv => rhs; rw [e]
        rw [lenR_app, lenR_app]
        simp [lenR]
        omega
      · rw [lenR_app]; simp [lenR]
    · rename_i hy
      obtain rfl : l = [] := by simpa using hy
      simp [lenR]
theorem pushes_pos {l : List Rn} (h : ∀ r ∈ l, 1 ≤ r.1) (m : List Rn) : ∀ x ∈ pushes l m, 1 ≤ x.1 := by
  induction m generalizing l with
  | nil => exact h
  | cons r m ih => exact ih (pushR_pos h r)
theorem lenR_pushes {l : List Rn} (m : List Rn) (hm : ∀ r ∈ m, 0 ≤ r.1) : lenR (pushes l m) = lenR l + lenR m := by
  induction m generalizing l with
  | nil => simp [pushes, lenR]
  | cons r m ih =>
    show lenR (pushes (pushR l r) m) = _
    rw [ih fun s hs => hm s (List.mem_cons_of_mem _ hs), lenR_push r (hm r List.mem_cons_self)]
    simp [lenR]
    omega
theorem pushes_snoc (l m : List Rn) (r : Rn) : pushes l (m ++ [r]) = pushR (pushes l m) r := by simp [pushes]
theorem no_runs : ∀ x ∈ ([] : List Rn), 1 ≤ x.1 := by intro x hx; cases hx
end Go.Proofs.YtmbccnioijokfaaGreatDoor

namespace Go.Proofs.YtmbccnioijokfaaGreatDoor
abbrev Bs := List B8
section
variable {α β : Type}
def Rise (l : List (Int × α)) : Prop := l.Pairwise (fun p q => p.1 < q.1)
def putL : List (Int × α) → Int × α → List (Int × α)
  | [], w => [w]
  | x :: r, w => if w.1 < x.1 then w :: x :: r else if x.1 = w.1 then w :: r else x :: putL r w
theorem mem_putL {p w : Int × α} : ∀ {l : List (Int × α)}, p ∈ putL l w → p = w ∨ p ∈ l
  | [], h => by simpa [putL] using h
  | x :: r, h => by
    unfold putL at h
    split at h
    · simpa using h
    · split at h
      · rcases List.mem_cons.1 h with h | h
        · exact .inl h
        · exact .inr (List.mem_cons_of_mem _ h)
      · rcases List.mem_cons.1 h with h | h
        · exact .inr (h ▸ List.mem_cons_self)
        · rcases mem_putL h with h | h
          · exact .inl h
          · exact .inr (List.mem_cons_of_mem _ h)
theorem rise_cons {x : Int × α} {r : List (Int × α)} : Rise (x :: r) ↔ (∀ p ∈ r, x.1 < p.1) ∧ Rise r := List.pairwise_cons
theorem rise_putL {w : Int × α} : ∀ {l : List (Int × α)}, Rise l → Rise (putL l w)
  | [], _ => by simp [putL, Rise]
  | x :: r, h => by
    obtain ⟨h1, h2⟩ := rise_cons.1 h
    unfold putL
    split
    · rename_i hlt
      refine rise_cons.2 ⟨fun p hp => ?_, h⟩
      rcases List.mem_cons.1 hp with rfl | hp
      · exact hlt
      · have := h1 p hp; omega
    · split
      · rename_i he
        exact rise_cons.2 ⟨fun p hp => he ▸ h1 p hp, h2⟩
      · refine rise_cons.2 ⟨fun p hp => ?_, rise_putL h2⟩
        rcases mem_putL hp with rfl | hp
        · omega
        · exact h1 p hp
theorem map_putL (f : α → β) (w : Int × α) : ∀ l : List (Int × α), (putL l w).map (fun p => (p.1, f p.2)) = putL (l.map fun p => (p.1, f p.2)) (w.1, f w.2)
  | [] => rfl
  | x :: r => by
    unfold putL
    simp only [List.map_cons]
    split
    · simp
    · split
      · simp
      · simp [map_putL f w r]
theorem len_putL (w : Int × α) : ∀ l : List (Int × α), (putL l w).length ≤ l.length + 1
  | [] => by simp [putL]
  | x :: r => by
    unfold putL
    split
    · simp
    · split
      · simp
      · have := len_putL w r; simp; omega
def getL (l : List (Int × α)) (k : Int) : Option α := (l.find? fun p => p.1 == k).map (·.2)
theorem getL_cons (x : Int × α) (r : List (Int × α)) (k : Int) : getL (x :: r) k = if x.1 = k then some x.2 else getL r k := by
  unfold getL
  by_cases h : x.1 = k
  · rw [if_pos h, List.find?_cons_of_pos (by simpa using h)]; rfl
  · rw [if_neg h, List.find?_cons_of_neg (by simpa using h)]
theorem getL_map (f : α → β) (k : Int) : ∀ l : List (Int × α), getL (l.map fun p => (p.1, f p.2)) k = (getL l k).map f
  | [] => rfl
  | x :: r => by
    rw [List.map_cons, getL_cons, getL_cons, getL_map f k r]
    dsimp only
    split <;> rfl
def nowL (s l : List (Int × α)) : List (Int × α) := l.foldl putL s
theorem nowL_snoc (s l : List (Int × α)) (w : Int × α) : nowL s (l ++ [w]) = putL (nowL s l) w := by simp [nowL]
theorem nowL_cons (s l : List (Int × α)) (w : Int × α) : nowL s (w :: l) = nowL (putL s w) l := rfl
theorem rise_now : ∀ {l s : List (Int × α)}, Rise s → Rise (nowL s l)
  | [], _, h => h
  | w :: r, s, h => by rw [nowL_cons]; exact rise_now (rise_putL h)
theorem len_now : ∀ (l s : List (Int × α)), (nowL s l).length ≤ s.length + l.length
  | [], s => by simp [nowL]
  | w :: r, s => by
    rw [nowL_cons]
    have h1 := len_now r (putL s w)
    have h2 := len_putL w s
    simp only [List.length_cons]
    omega
theorem mem_now {p : Int × α} : ∀ {l s : List (Int × α)}, p ∈ nowL s l → p ∈ s ∨ p ∈ l
  | [], _, h => .inl h
  | w :: r, s, h => by
    rw [nowL_cons] at h
    rcases mem_now h with h | h
    · rcases mem_putL h with rfl | h
      · exact .inr List.mem_cons_self
      · exact .inl h
    · exact .inr (List.mem_cons_of_mem _ h)
theorem map_now (f : α → β) : ∀ (l s : List (Int × α)), (nowL s l).map (fun p => (p.1, f p.2)) = nowL (s.map fun p => (p.1, f p.2)) (l.map fun p => (p.1, f p.2))
  | [], s => rfl
  | w :: r, s => by rw [nowL_cons, map_now f r, map_putL]; rfl
end
def lenB (l : List (Int × Bs)) : Nat := (l.map fun p => p.2.length).sum
theorem lenB_cons (x : Int × Bs) (r : List (Int × Bs)) : lenB (x :: r) = x.2.length + lenB r := by simp [lenB]
theorem lenB_le {M : Nat} : ∀ {l : List (Int × Bs)}, (∀ p ∈ l, p.2.length ≤ M) → lenB l ≤ l.length * M
  | [], _ => by simp [lenB]
  | x :: r, h => by
    have h1 := h x List.mem_cons_self
    have h2 := lenB_le (l := r) (fun p hp => h p (List.mem_cons_of_mem _ hp))
    rw [lenB_cons, List.length_cons, Nat.succ_mul]
    omega
def sizeAt (l : List (Int × Bs)) (k : Int) : Nat := ((getL l k).getD []).length
structure DS where
  room : Int
  fails : Int
  waits : Int
  safe : List (Int × Bs)
  l : List (Int × Bs)
namespace DS
def now (S : DS) : List (Int × Bs) := nowL S.safe S.l
def asked (S : DS) : DS × Bool :=
  if 0 < S.waits then ({ S with waits := 0 }, false) else if 0 < S.fails then ({ S with fails := S.fails - 1 }, true) else (S, false)
def fits (S : DS) (k : Int) (b : Bs) : Bool := decide ((lenB (putL S.now (k, b)) : Int) ≤ S.room)
def put (S : DS) (k : Int) (b : Bs) : DS × Int :=
  if S.asked.2 then (S.asked.1, 9) else if S.fits k b then ({ S.asked.1 with l := S.l ++ [(k, b)] }, 0) else (S.asked.1, 8)
def fail (S : DS) (n : Int) : DS := if n < 0 then { S with fails := min (-n) 1048576, waits := 1 } else { S with fails := n, waits := 0 }
end DS
theorem asked_same (S : DS) : S.asked.1.safe = S.safe ∧ S.asked.1.l = S.l ∧ S.asked.1.room = S.room := by
  unfold DS.asked
  split
  · exact ⟨rfl, rfl, rfl⟩
  · split <;> exact ⟨rfl, rfl, rfl⟩
structure DOk (S : DS) (N M : Nat) : Prop where
  rise : Rise S.safe
  keys : ∀ p ∈ S.safe ++ S.l, In64 p.1
  many : S.safe.length + S.l.length ≤ N
  size : ∀ p ∈ S.safe ++ S.l, p.2.length ≤ M
  room : 0 ≤ S.room ∧ S.room ≤ 1048576
  waits : S.waits = 0 ∨ S.waits = 1
  fails : 0 ≤ S.fails ∧ S.fails ≤ 9223372036854775807
theorem DOk.mono {S : DS} {N N' M M' : Nat} (h : DOk S N M) (hN : N ≤ N') (hM : M ≤ M') : DOk S N' M' := ⟨h.rise, h.keys, Nat.le_trans h.many hN, fun p hp => Nat.le_trans (h.size p hp) hM, h.room, h.waits, h.fails⟩
theorem DOk.asked {S : DS} {N M : Nat} (h : DOk S N M) : DOk S.asked.1 N M := by
  obtain ⟨e1, e2, e3⟩ := asked_same S
  refine ⟨by rw [e1]; exact h.rise, by rw [e1, e2]; exact h.keys, by rw [e1, e2]; exact h.many, by rw [e1, e2]; exact h.size, by rw [e3]; exact h.room, ?_, ?_⟩
  · have := h.waits
    unfold DS.asked
    split
    · exact .inl rfl
    · split <;> exact this
  · have := h.fails
    unfold DS.asked
    split
    · exact this
    · split
      · dsimp only; omega
      · exact this
theorem DOk.now {S : DS} {N M : Nat} (h : DOk S N M) : Rise S.now ∧ (∀ p ∈ S.now, In64 p.1) ∧ S.now.length ≤ N ∧ (∀ p ∈ S.now, p.2.length ≤ M) :=
  ⟨rise_now h.rise, fun p hp => h.keys p (List.mem_append.2 (mem_now hp)), Nat.le_trans (len_now _ _) h.many, fun p hp => h.size p (List.mem_append.2 (mem_now hp))⟩
theorem lenB_now {M : Nat} {S : DS} {N : Nat} (h : DOk S N M) : lenB S.now ≤ N * M := by
  obtain ⟨-, -, n3, n4⟩ := h.now
  exact Nat.le_trans (lenB_le n4) (Nat.mul_le_mul_right _ n3)
end Go.Proofs.YtmbccnioijokfaaGreatDoor

namespace Go.Proofs.YtmbccnioijokfaaGreatDoor
open Go.RowKit
section
variable {w W : World} {g : Nat} {t : TypeId} {cs : Array Value} {d : Nat} {os : Array Obj}
theorem Blk.eqw {w W : World} (e : w = W) (h : Blk w g t cs) : Blk W g t cs := e ▸ h
end
end Go.Proofs.YtmbccnioijokfaaGreatDoor

namespace Go.Proofs.YtmbccnioijokfaaGreatDoor
open Go.RowKit
def cutI (n : Int) : Int := min (max n (-140737488355328)) 140737488355328
theorem cutI_lo (n : Int) : -140737488355328 ≤ cutI n := by unfold cutI; omega
theorem cutI_hi (n : Int) : cutI n ≤ 140737488355328 := by unfold cutI; omega
theorem cutI_id {n : Int} (h : -140737488355328 ≤ n) (k : n ≤ 140737488355328) : cutI n = n := by unfold cutI; omega
theorem cutI_cut (n : Int) : cutI (cutI n) = cutI n := by unfold cutI; omega
def addI (a b : Int) : Int := cutI (cutI a + cutI b)
def subI (a b : Int) : Int := cutI (cutI a - cutI b)
def mulI (a b : Int) : Int := cutI (cutI a * cutI b / 65536)
def arI (n m : Int) : Int := (if n < 0 then -(n + 1) else n) % m
theorem arI_lo (n : Int) {m : Int} (h : 0 < m) : 0 ≤ arI n m := by unfold arI; exact Int.emod_nonneg _ (by omega)
theorem arI_hi (n : Int) {m : Int} (h : 0 < m) : arI n m < m := by unfold arI; exact Int.emod_lt_of_pos _ h
def absI (n : Int) : Int := if n < 0 then -n else n
def upI (n : Int) (below rest : Bool) : Int := if below && rest then n + 1 else n
def rndI (q : Int) (rest below : Bool) : Int :=
  if 140737488355328 ≤ q then (if below then -140737488355328 else 140737488355328)
  else if below then -(upI q below rest) else q
theorem upI_bd (n : Int) (b r : Bool) : n ≤ upI n b r ∧ upI n b r ≤ n + 1 := by unfold upI; split <;> omega
def axI (x y z i : Int) : Int := if i = 0 then x else if i = 1 then y else if i = 2 then z else 0
def wiI (x a i n : Int) : Int := if i = a then cutI n else x
theorem ediv_bd (a b : Int) (hb : 0 < b) : b * (a / b) ≤ a ∧ a < b * (a / b) + b := by
  have h1 := Int.mul_ediv_add_emod a b
  have h2 := Int.emod_nonneg a (show b ≠ 0 by omega)
  have h3 := Int.emod_lt_of_pos a hb
  omega
theorem ediv_abs (a b : Int) (hb : 0 < b) (h : 0 ≤ a) : 0 ≤ a / b ∧ a / b ≤ a := by
  refine ⟨Int.ediv_nonneg h (by omega), ?_⟩
  exact Int.ediv_le_self b h
theorem rdiv_p (a b : Int) (h1 : -9223372036854775808 ≤ a) (h2 : a ≤ 9223372036854775807) (hb : 0 < b) :
    (a < wrap64 (a.tdiv b * b) → wrap64 (a.tdiv b - 1) = a / b) ∧ (wrap64 (a.tdiv b * b) ≤ a → a.tdiv b = a / b) := by
  have e := ediv_bd a b hb
  rcases Int.le_total 0 a with h | h
  · have e1 : a.tdiv b = a / b := Int.tdiv_eq_ediv_of_nonneg h
    have e2 := ediv_abs a b hb h
    rw [e1]
    have e3 : a / b * b = b * (a / b) := Int.mul_comm _ _
    have e4 : 0 ≤ b * (a / b) := Int.mul_nonneg (by omega) e2.1
    rw [e3, IntWalk.wrap64_in _ (by omega)]
    exact ⟨fun h => by omega, fun _ => rfl⟩
  · have e1 : a.tdiv b = -((-a) / b) := by
      rw [← Int.tdiv_eq_ediv_of_nonneg (show 0 ≤ -a by omega), Int.neg_tdiv, Int.neg_neg]
    have e2 := ediv_abs (-a) b hb (by omega)
    have e5 := ediv_bd (-a) b hb
    rw [e1]
    have e3 : -((-a) / b) * b = -(b * ((-a) / b)) := by rw [Int.neg_mul, Int.mul_comm]
    have e4 : 0 ≤ b * ((-a) / b) := Int.mul_nonneg (by omega) e2.1
    rw [e3, IntWalk.wrap64_in _ (by omega)]
    have key : ∀ q : Int, b * q ≤ a → a < b * q + b → q = a / b := by
      intro q hq hq2
      exact (Int.ediv_eq_iff_of_pos hb).2 ⟨by rw [Int.mul_comm]; exact hq, by rw [Int.mul_comm]; exact hq2⟩ |>.symm
    have e6 : b * (-((-a) / b)) = -(b * ((-a) / b)) := Int.mul_neg _ _
    have e7 : b * (-((-a) / b) - 1) = -(b * ((-a) / b)) - b := by rw [Int.mul_sub, e6, Int.mul_one]
    have e8 : 1 * (-a / b) ≤ b * (-a / b) := Int.mul_le_mul_of_nonneg_right (by omega) e2.1
    refine ⟨fun h => ?_, fun h => ?_⟩
    · rw [IntWalk.wrap64_in _ (by omega)]
      exact key _ (by omega) (by omega)
    · exact key _ (by omega) (by omega)
theorem mulI_p {a b p : Int} (h : cutI a * cutI b = p) : mulI a b = cutI (p / 65536) := by rw [← h]; rfl
theorem absI_bd {n : Int} (h : -140737488355328 ≤ n) (k : n ≤ 140737488355328) : 0 ≤ absI n ∧ absI n ≤ 140737488355328 := by unfold absI; omega
theorem mul_sgn (u v : Int) : u * v = if (decide (u < 0) != decide (v < 0)) then -(absI u * absI v) else absI u * absI v := by
  unfold absI
  by_cases h1 : u < 0 <;> by_cases h2 : v < 0 <;> simp [h1, h2, Int.neg_mul, Int.mul_neg]
theorem mul_rnd (u v p : Int) (hp : absI u * absI v = p) (h0 : 0 ≤ p) :
    (0 < p / 18446744073709551616 → ∀ r, rndI 140737488355328 r (decide (u < 0) != decide (v < 0)) = cutI (u * v / 65536)) ∧
    (p / 18446744073709551616 ≤ 0 → rndI (p % 18446744073709551616 / 65536) (p % 65536 != 0) (decide (u < 0) != decide (v < 0)) = cutI (u * v / 65536)) := by
  rw [mul_sgn, hp]
  unfold rndI upI cutI
  cases (decide (u < 0) != decide (v < 0)) <;> simp <;> refine ⟨?_, ?_⟩ <;> intros <;> omega
theorem bits_and_mask (n : Int) : bits .and .i64 n 65535 = n % 65536 := by
  show IntKind.i64.wrap ((BitVec.ofInt 64 n &&& BitVec.ofInt 64 65535).toNat : Int) = _
  have e : (BitVec.ofInt 64 65535).toNat = 2 ^ 16 - 1 := by decide
  rw [BitVec.toNat_and, e, Nat.and_two_pow_sub_one_eq_mod, BitVec.toNat_ofInt, IntKind.wrap_i64]
  omega
end Go.Proofs.YtmbccnioijokfaaGreatDoor

namespace Go.Proofs.YtmbccnioijokfaaGreatDoor
open Go.RowKit
section
variable {P : Program} {ops : Array Oper} {md : Region.Mode} {C : World → Prop}
def beforeLast (P : Program) (md : Region.Mode) (ops : Array Oper) (C : World → Prop) (n : Nat) (L : Act → Prop) : Nat → Array Bool → Act → Prop
  | 0, listed, a => Region.ready md ops listed = [n] ∧ Region.ready md ops (listed.setIfInBounds n true) = [] ∧ L a
  | f + 1, listed, a => n ∉ Region.ready md ops listed ∧ Region.ready md ops listed ≠ [] ∧ ∀ i ∈ Region.ready md ops listed, qOp P ops C i (beforeLast P md ops C n L f (listed.setIfInBounds i true)) a
theorem wpAny_of_beforeLast {n : Nat} {L : Act → Prop} {Q' : Exit → Act → World → Prop} (hL : ∀ a w, C w → L a → wpOp P ops Q' n (fun a w => Q' .normal a w) a w) :
    ∀ (f : Nat) (listed : Array Bool) (a : Act) (w : World), C w → beforeLast P md ops C n L f listed a → wpAny P md ops Q' (f + 1) listed a w := by
  intro f
  induction f with
  | zero =>
    intro listed a w hw h
    obtain ⟨h1, h2, h3⟩ := h
    refine ⟨fun h => (by rw [h1] at h; cases h), fun i hi => ?_⟩
    rw [h1] at hi
    obtain rfl : i = n := by simpa using hi
    exact wpOp_mono (K := fun a w => Q' .normal a w) (fun _ _ h' => ⟨h2, h'⟩) (hL a w hw h3)
  | succ f ih =>
    intro listed a w hw h
    obtain ⟨_, h1, h2⟩ := h
    exact ⟨fun h => absurd h h1, fun i hi => wpOp_of_qOp hw (fun a' w' hw' h' => ih _ a' w' hw' h') (h2 i hi)⟩
theorem beforeLast_first {n i : Nat} {oi : Oper} {v : Value} {L : Act → Prop} (hi : ops[i]? = some oi) (hwt : ∀ l', n ∈ Region.ready md ops l' → l'.getD i false = true) (hsel : ∀ (j : Nat) (o : Oper) cs b, ops[j]? = some o → o.op ≠ .select cs b) :
    ∀ (f : Nat) (listed : Array Bool) (a : Act),
      (∀ j oj, ops[j]? = some oj → j ≠ i → listed.getD j true = false → (∀ e ∈ oj.after, Region.binds md e = true → e.on ≠ i) → oi.apart ops oj = true) →
      i ∈ Region.ready md ops listed → n ∉ Region.ready md ops listed → YieldsIn P ops C oi v a →
      beforeLast P md ops C n L f (listed.setIfInBounds i true) (a.put oi.dst v) → beforeLast P md ops C n L (f + 1) listed a := by
  intro f
  induction f with
  | zero =>
    intro listed a _ hr hn hy H
    refine ⟨hn, fun h => (by rw [h] at hr; cases hr), fun j hj => ?_⟩
    by_cases hji : j = i
    · subst hji; exact hy.qOp hi H
    · have h1 := ready_mono hj hji
      rw [H.1] at h1
      obtain rfl : j = n := by simpa using h1
      exact absurd hj hn
  | succ f ih =>
    intro listed a hfree hr hn hy H
    refine ⟨hn, fun h => (by rw [h] at hr; cases hr), fun j hj => ?_⟩
    by_cases hji : j = i
    · subst hji; exact hy.qOp hi H
    · obtain ⟨hun, oj, hoj, hwait⟩ := mem_ready.1 hj
      have hun_i := (mem_ready.1 hr).1
      have hap : oi.apart ops oj = true := hfree j oj hoj hji hun fun e he hb heq => by
        have h2 := hwait e he hb
        rw [heq] at h2
        by_cases hs : i < listed.size <;> simp [hs] at hun_i h2
        rw [hun_i] at h2
        cases h2
      have hq := qOp_put hoj hap (fun cs b => hsel i oi cs b hi) (fun cs b => hsel j oj cs b hoj) hy (H.2.2 j (ready_mono hj hji))
      refine qOp_mono (fun a' h3 => ih (listed.setIfInBounds j true) a' ?_ (ready_mono hr (Ne.symm hji)) ?_ h3.1 ?_) hq
      · intro k ok hk hki hun' hno
        refine hfree k ok hk hki ?_ hno
        by_cases hjk : j = k
        · subst hjk; exact hun
        · rwa [getD_set_ne true hjk] at hun'
      · intro hn'
        have h5 := hwt _ hn'
        rw [getD_set_ne false hji] at h5
        have h6 := (mem_ready.1 hr).1
        by_cases hs : i < listed.size <;> simp [hs] at h5 h6
        rw [h6] at h5
        cases h5
      · rw [Array.setIfInBounds_comm _ _ hji]
        exact h3.2
def lastFrom (md : Region.Mode) (ops : Array Oper) (n : Nat) : Nat → Nat → Array Bool → Bool
  | 0, _, listed => decide (Region.ready md ops listed = [n]) && (Region.ready md ops (listed.setIfInBounds n true)).isEmpty
  | f + 1, k, listed => (Region.ready md ops listed).contains k && Region.free md ops listed k && !(Region.ready md ops listed).contains n &&
      (match ops[n]? with | some o => o.after.any (fun e => Region.binds md e && e.on == k) | none => false) && lastFrom md ops n f (k + 1) (listed.setIfInBounds k true)
def lastB (md : Region.Mode) (ops : Array Oper) (n : Nat) : Bool := Region.noSelect ops && lastFrom md ops n n 0 (Array.replicate ops.size false)
theorem beforeLast_lex {n : Nat} {L : Act → Prop} (hs : Region.noSelect ops = true) : ∀ (l : List Oper) (k : Nat) (listed : Array Bool) (a : Act), (∀ j, j < l.length → l[j]? = ops[k + j]?) →
    lastFrom md ops n l.length k listed = true → wpQuiet P ops C L l a → beforeLast P md ops C n L l.length listed a := by
  intro l
  induction l with
  | nil =>
    intro k listed a _ hB h
    simp only [List.length_nil, lastFrom, Bool.and_eq_true, decide_eq_true_eq, List.isEmpty_iff] at hB
    exact ⟨hB.1, hB.2, h⟩
  | cons o l ih =>
    intro k listed a hl hB h
    have h0 : ops[k]? = some o := by simpa using (hl 0 (by simp)).symm
    simp only [List.length_cons, lastFrom, Bool.and_eq_true, Bool.not_eq_true'] at hB
    obtain ⟨⟨⟨⟨hr, hf⟩, hn⟩, hw⟩, hB'⟩ := hB
    have hst : qOp P ops C k (wpQuiet P ops C L l) a := by unfold qOp; simp only [h0]; exact h
    obtain ⟨v, hy, hK⟩ := yieldsIn_of_qOp h0 hst
    refine beforeLast_first h0 (fun l' hn' => ?_) (Region.noSelect_spec hs) l.length listed a (Region.free_spec h0 hf) (by simpa using hr) (by simpa using hn) hy
      (ih (k + 1) _ _ (fun j hj => by have := hl (j + 1) (by simpa using hj); simpa [Nat.add_assoc, Nat.add_comm 1 j] using this) hB' hK)
    obtain ⟨_, oL, hoL, hall⟩ := mem_ready.1 hn'
    rw [hoL] at hw
    obtain ⟨e, he, hbe⟩ := Array.any_eq_true'.1 hw
    simp only [Bool.and_eq_true, beq_iff_eq] at hbe
    have := hall e he hbe.1
    rwa [hbe.2] at this
theorem wp_region_last {id : Nat} {Q : Exit → Act → World → Prop} {a : Act} {w : World} {l : List Oper} (n : Nat) (hm : P.follows .mixedOrders = true) (hlen : l.length = n + 1) (hB : lastB .any l.toArray n = true) (hC : C { w with drawn := w.drawn + 1 })
    (h : wpQuiet P l.toArray C (fun a' => ∀ w', C w' → wpList P l.toArray Q (l.drop n) a' w') (l.take n) a) : (Code.region id l.toArray true).wp P Q a w := by
  simp only [lastB, Bool.and_eq_true] at hB
  refine wp_region_any hm ?_
  have hsz : l.toArray.size = n + 1 := by simpa using hlen
  have ht : (l.take n).length = n := by simp; omega
  have hx := beforeLast_lex (C := C) (md := .any) (n := n) (L := fun a' => ∀ w', C w' → wpList P l.toArray Q (l.drop n) a' w') hB.1 (l.take n) 0 (Array.replicate l.toArray.size false) a
    (fun j hj => by simp only [Nat.zero_add, List.getElem?_toArray]; rw [List.getElem?_take_of_lt (by omega)]) (by rw [ht]; exact hB.2) h
  rw [ht] at hx
  rw [hsz] at hx ⊢
  refine wpAny_of_beforeLast (fun a w hw hL => ?_) n _ a _ hC hx
  have hd : l.drop n = [l[n]'(by omega)] := by
    rw [List.drop_eq_getElem_cons (by omega), List.drop_of_length_le (by omega)]
  have := hL w hw
  rw [hd] at this
  unfold wpOp
  simp only [List.getElem?_toArray, List.getElem?_eq_getElem (show n < l.length by omega)]
  exact this
theorem wp_region_last_below {id : Nat} {Q : Exit → Act → World → Prop} {a : Act} {w : World} {l : List Oper} (n : Nat) (hm : P.follows .mixedOrders = true) (hlen : l.length = n + 1) (hB : lastB .any l.toArray n = true)
    (h : wpQuiet P l.toArray (fun w' => ∃ p : Regrown, w' = Go.Sort.grow (redrawn w p.d) p.os) (fun a' => ∀ w', (∃ p : Regrown, w' = Go.Sort.grow (redrawn w p.d) p.os) → wpList P l.toArray Q (l.drop n) a' w') (l.take n) a) : (Code.region id l.toArray true).wp P Q a w :=
  wp_region_last (C := fun w' => ∃ p : Regrown, w' = Go.Sort.grow (redrawn w p.d) p.os) n hm hlen hB ⟨⟨w.drawn + 1, #[]⟩, by rw [Go.Sort.grow_empty]; rfl⟩ h
end
end Go.Proofs.YtmbccnioijokfaaGreatDoor

namespace Go.Proofs.YtmbccnioijokfaaGreatDoor
open Go.RowKit
section
variable {P : Program} {ops : Array Oper} {md : Region.Mode} {C : World → Prop}
def Near (w w' : World) : Prop := Below w.heap.size w w'
def relAt (P : Program) (o : Oper) (a : Act) (w : World) (v : Value) : Prop := Oper.quietUpon P (fun w' => Near w w') w v ((execOp a.eval o).run P w)
def relOp (P : Program) (o : Oper) (a : Act) (C : World → Prop) (K : Act → Prop) : Prop := ∃ v, (∀ w, C w → relAt P o a w v) ∧ K (a.put o.dst v)
def rOp (P : Program) (ops : Array Oper) (C : World → Prop) (i : Nat) (K : Act → Prop) (a : Act) : Prop :=
  match ops[i]? with
  | none => K a
  | some o => if Region.wanted o (yielded ops a.tmps) then relOp P o a C K else K (a.put o.dst undef)
def wpRel (P : Program) (ops : Array Oper) (C : World → Prop) (Q : Act → Prop) : List Oper → Act → Prop
  | [], a => Q a
  | o :: rest, a => if Region.wanted o (yielded ops a.tmps) then relOp P o a C (wpRel P ops C Q rest) else wpRel P ops C Q rest (a.put o.dst undef)
theorem wpRel_nil {Q : Act → Prop} {a : Act} (h : Q a) : wpRel P ops C Q [] a := h
theorem wpRel_step {Q : Act → Prop} {a : Act} {o : Oper} {rest : List Oper}
    (h : ∀ K : Act → Prop, (∀ a, wpRel P ops C Q rest a → K a) → if Region.wanted o (yielded ops a.tmps) then relOp P o a C K else K (a.put o.dst undef)) : wpRel P ops C Q (o :: rest) a :=
  h _ (fun _ h => h)
theorem rOp_mono {i : Nat} {a : Act} {K K' : Act → Prop} (h : ∀ a, K a → K' a) (hh : rOp P ops C i K a) : rOp P ops C i K' a := by
  unfold rOp at *
  cases ho : ops[i]? with
  | none => rw [ho] at hh; exact h _ hh
  | some o =>
    rw [ho] at hh
    dsimp only at hh ⊢
    by_cases hw : Region.wanted o (yielded ops a.tmps) = true
    · rw [if_pos hw] at hh ⊢
      obtain ⟨v, h1, h2⟩ := hh
      exact ⟨v, h1, h _ h2⟩
    · rw [if_neg hw] at hh ⊢
      exact h _ hh
def Gives (P : Program) (ops : Array Oper) (C : World → Prop) (o : Oper) (v : Value) (a : Act) : Prop :=
  (Region.wanted o (yielded ops a.tmps) = true ∧ ∀ w, C w → relAt P o a w v) ∨ (Region.wanted o (yielded ops a.tmps) = false ∧ v = undef)
theorem Gives.rOp {i : Nat} {o : Oper} {v : Value} {a : Act} (hi : ops[i]? = some o) (hy : Gives P ops C o v a) {K : Act → Prop} (h : K (a.put o.dst v)) : rOp P ops C i K a := by
  unfold Go.Proofs.YtmbccnioijokfaaGreatDoor.rOp
  rw [hi]
  dsimp only
  rcases hy with ⟨hw, hv⟩ | ⟨hw, rfl⟩
  · rw [if_pos hw]; exact ⟨v, hv, h⟩
  · rw [if_neg (by rw [hw]; decide)]; exact h
theorem gives_of_rOp {i : Nat} {o : Oper} {a : Act} {K : Act → Prop} (hi : ops[i]? = some o) (h : rOp P ops C i K a) : ∃ v, Gives P ops C o v a ∧ K (a.put o.dst v) := by
  unfold rOp at h
  rw [hi] at h
  dsimp only at h
  by_cases hw : Region.wanted o (yielded ops a.tmps) = true
  · rw [if_pos hw] at h
    obtain ⟨v, h1, h2⟩ := h
    exact ⟨v, .inl ⟨hw, h1⟩, h2⟩
  · rw [if_neg hw] at h
    exact ⟨undef, .inr ⟨by simpa using hw, rfl⟩, h⟩
theorem Gives.put_iff {oi oj : Oper} {u v : Value} {a : Act} (hi : ∀ cs b, oi.op ≠ .select cs b) (hap : oj.apart ops oi = true) : Gives P ops C oi v (a.put oj.dst u) ↔ Gives P ops C oi v a := by
  obtain ⟨h1, _, _⟩ := Oper.apart_spec hap
  unfold Gives relAt
  rw [execOp_put oi hi a oj.dst u h1, wanted_put oi a oj.dst u h1]
theorem rOp_put {j : Nat} {oi oj : Oper} {v : Value} (hj : ops[j]? = some oj) (hap : oi.apart ops oj = true) (hap' : oj.apart ops oi = true)
    (hsi : ∀ cs b, oi.op ≠ .select cs b) (hsj : ∀ cs b, oj.op ≠ .select cs b) {K : Act → Prop} {a : Act}
    (hy : Gives P ops C oi v a) (h : rOp P ops C j K (a.put oi.dst v)) : rOp P ops C j (fun a' => Gives P ops C oi v a' ∧ K (a'.put oi.dst v)) a := by
  obtain ⟨u, hu, hK⟩ := gives_of_rOp hj h
  have hu' := (Gives.put_iff hsj hap).1 hu
  refine Gives.rOp hj hu' ⟨(Gives.put_iff hsi hap').2 hy, ?_⟩
  obtain ⟨_, h2, _⟩ := Oper.apart_spec hap
  rw [← Act.put_comm a v u h2]
  exact hK
def beforeR (P : Program) (md : Region.Mode) (ops : Array Oper) (C : World → Prop) (n : Nat) (L : Act → Prop) : Nat → Array Bool → Act → Prop
  | 0, listed, a => Region.ready md ops listed = [n] ∧ Region.ready md ops (listed.setIfInBounds n true) = [] ∧ L a
  | f + 1, listed, a => n ∉ Region.ready md ops listed ∧ Region.ready md ops listed ≠ [] ∧ ∀ i ∈ Region.ready md ops listed, rOp P ops C i (beforeR P md ops C n L f (listed.setIfInBounds i true)) a
theorem apart_symm {ops : Array Oper} {x y : Oper} (h : x.apart ops y = true) (hd : ∀ d, y.dst = some d → x.dst ≠ some d) : y.apart ops x = true := by
  obtain ⟨h1, _, h3⟩ := Oper.apart_spec h
  unfold Oper.apart
  have e1 : (match y.dst with | some d => !(x.looksAt ops).contains d && x.dst != some d | none => true) = true := by
    cases hy : y.dst with
    | none => rfl
    | some d => simp [h3 d hy, hd d hy]
  have e2 : (match x.dst with | some d => !(y.looksAt ops).contains d | none => true) = true := by
    cases hx : x.dst with
    | none => rfl
    | some d => simp [h1 d hx]
  exact Bool.and_eq_true_iff.2 ⟨e1, e2⟩
theorem apart_swap {ops : Array Oper} {x y : Oper} (h : x.apart ops y = true) : y.apart ops x = true :=
  apart_symm h fun d hy hx => (Oper.apart_spec h).2.1 d hx hy
theorem beforeR_first {n i : Nat} {oi : Oper} {v : Value} {L : Act → Prop} (hi : ops[i]? = some oi) (hwt : ∀ l', n ∈ Region.ready md ops l' → l'.getD i false = true) (hsel : ∀ (j : Nat) (o : Oper) cs b, ops[j]? = some o → o.op ≠ .select cs b) :
    ∀ (f : Nat) (listed : Array Bool) (a : Act),
      (∀ j oj, ops[j]? = some oj → j ≠ i → listed.getD j true = false → (∀ e ∈ oj.after, Region.binds md e = true → e.on ≠ i) → oi.apart ops oj = true) →
      i ∈ Region.ready md ops listed → n ∉ Region.ready md ops listed → Gives P ops C oi v a →
      beforeR P md ops C n L f (listed.setIfInBounds i true) (a.put oi.dst v) → beforeR P md ops C n L (f + 1) listed a := by
  intro f
  induction f with
  | zero =>
    intro listed a _ hr hn hy H
    refine ⟨hn, fun h => (by rw [h] at hr; cases hr), fun j hj => ?_⟩
    by_cases hji : j = i
    · subst hji; exact hy.rOp hi H
    · have h1 := ready_mono hj hji
      rw [H.1] at h1
      obtain rfl : j = n := by simpa using h1
      exact absurd hj hn
  | succ f ih =>
    intro listed a hfree hr hn hy H
    refine ⟨hn, fun h => (by rw [h] at hr; cases hr), fun j hj => ?_⟩
    by_cases hji : j = i
    · subst hji; exact hy.rOp hi H
    · obtain ⟨hun, oj, hoj, hwait⟩ := mem_ready.1 hj
      have hun_i := (mem_ready.1 hr).1
      have hap : oi.apart ops oj = true := hfree j oj hoj hji hun fun e he hb heq => by
        have h2 := hwait e he hb
        rw [heq] at h2
        by_cases hs : i < listed.size <;> simp [hs] at hun_i h2
        rw [hun_i] at h2
        cases h2
      have hq := rOp_put hoj hap (apart_swap hap) (fun cs b => hsel i oi cs b hi) (fun cs b => hsel j oj cs b hoj) hy (H.2.2 j (ready_mono hj hji))
      refine rOp_mono (fun a' h3 => ih (listed.setIfInBounds j true) a' ?_ (ready_mono hr (Ne.symm hji)) ?_ h3.1 ?_) hq
      · intro k ok hk hki hun' hno
        refine hfree k ok hk hki ?_ hno
        by_cases hjk : j = k
        · subst hjk; exact hun
        · rwa [getD_set_ne true hjk] at hun'
      · intro hn'
        have h5 := hwt _ hn'
        rw [getD_set_ne false hji] at h5
        have h6 := (mem_ready.1 hr).1
        by_cases hs : i < listed.size <;> simp [hs] at h5 h6
        rw [h6] at h5
        cases h5
      · rw [Array.setIfInBounds_comm _ _ hji]
        exact h3.2
theorem beforeR_lex {n : Nat} {L : Act → Prop} (hs : Region.noSelect ops = true) : ∀ (l : List Oper) (k : Nat) (listed : Array Bool) (a : Act), (∀ j, j < l.length → l[j]? = ops[k + j]?) →
    lastFrom md ops n l.length k listed = true → wpRel P ops C L l a → beforeR P md ops C n L l.length listed a := by
  intro l
  induction l with
  | nil =>
    intro k listed a _ hB h
    simp only [List.length_nil, lastFrom, Bool.and_eq_true, decide_eq_true_eq, List.isEmpty_iff] at hB
    exact ⟨hB.1, hB.2, h⟩
  | cons o l ih =>
    intro k listed a hl hB h
    have h0 : ops[k]? = some o := by simpa using (hl 0 (by simp)).symm
    simp only [List.length_cons, lastFrom, Bool.and_eq_true, Bool.not_eq_true'] at hB
    obtain ⟨⟨⟨⟨hr, hf⟩, hn⟩, hw⟩, hB'⟩ := hB
    have hst : rOp P ops C k (wpRel P ops C L l) a := by unfold rOp; rw [h0]; exact h
    obtain ⟨v, hy, hK⟩ := gives_of_rOp h0 hst
    refine beforeR_first h0 (fun l' hn' => ?_) (Region.noSelect_spec hs) l.length listed a (Region.free_spec h0 hf) (by simpa using hr) (by simpa using hn) hy
      (ih (k + 1) _ _ (fun j hj => by have := hl (j + 1) (by simpa using hj); simpa [Nat.add_assoc, Nat.add_comm 1 j] using this) hB' hK)
    obtain ⟨_, oL, hoL, hall⟩ := mem_ready.1 hn'
    rw [hoL] at hw
    obtain ⟨e, he, hbe⟩ := Array.any_eq_true'.1 hw
    simp only [Bool.and_eq_true, beq_iff_eq] at hbe
    have := hall e he hbe.1
    rwa [hbe.2] at this
theorem wp_of_relAt {o : Oper} {a : Act} {w : World} {v : Value} {K : Act → World → Prop} {Q' : Exit → Act → World → Prop} (h : relAt P o a w v) (hk : ∀ w', Below w.heap.size w w' → K (a.put o.dst v) w') : o.wp P a w K Q' := by
  unfold relAt at h
  unfold Oper.wp
  generalize (execOp a.eval o).run P w = r at *
  cases r with
  | ok nx w' =>
    cases nx <;> simp only [Oper.quietUpon] at h <;> simp only [Oper.upon]
    case value u =>
      obtain ⟨e1, e2⟩ := h
      rw [e1, e2]
      exact hk _ (Below.refl _ _)
    case skip =>
      obtain ⟨e1, e2⟩ := h
      rw [e1, ← e2]
      exact hk _ (Below.refl _ _)
    case enter f args =>
      obtain ⟨e1, hc⟩ := h
      rw [e1]
      exact hc.mono fun e w'' ⟨he, hw''⟩ => by subst he; exact hk _ hw''
  | halt x w' => simp only [Oper.quietUpon] at h
theorem wpAny_of_beforeR {n m : Nat} {oA : Oper} {d : Tmp} {p : Value} {L : Act → Prop} {S : World → Prop} {Q' : Exit → Act → World → Prop} (hd : oA.dst = some d)
    (hC : ∀ w w', C w → Below w.heap.size w w' → C w') (hS : ∀ w w', S w → Below w.heap.size w w' → S w')
    (hap : ∀ (i : Nat) (o : Oper), ops[i]? = some o → i ≠ m → i ≠ n → oA.apart ops o = true) (hsel : ∀ (j : Nat) (o : Oper) cs b, ops[j]? = some o → o.op ≠ .select cs b)
    (hL : ∀ a w, C w → S w → L a → wpOp P ops Q' n (fun a w => Q' .normal a w) (a.put (some d) p) w) :
    ∀ (f : Nat) (listed : Array Bool) (a : Act) (w : World), C w → S w → listed.getD m true = true → beforeR P md ops C n L f listed a → wpAny P md ops Q' (f + 1) listed (a.put (some d) p) w := by
  intro f
  induction f with
  | zero =>
    intro listed a w hw hs _ h
    obtain ⟨h1, h2, h3⟩ := h
    refine ⟨fun h => (by rw [h1] at h; cases h), fun i hi => ?_⟩
    rw [h1] at hi
    obtain rfl : i = n := by simpa using hi
    exact wpOp_mono (K := fun a w => Q' .normal a w) (fun _ _ h' => ⟨h2, h'⟩) (hL a w hw hs h3)
  | succ f ih =>
    intro listed a w hw hs hm h
    obtain ⟨hn, h1, h2⟩ := h
    refine ⟨fun h => absurd h h1, fun i hi => ?_⟩
    obtain ⟨hun, o, ho, _⟩ := mem_ready.1 hi
    have him : i ≠ m := fun e => by rw [e, hm] at hun; cases hun
    have hin : i ≠ n := fun e => hn (e ▸ hi)
    obtain ⟨v, hy, hK⟩ := gives_of_rOp ho (h2 i hi)
    have ha := hap i o ho him hin
    have hdd : o.dst ≠ some d := (Oper.apart_spec ha).2.1 d hd
    have hcomm : (a.put (some d) p).put o.dst v = (a.put o.dst v).put (some d) p := Act.put_comm a p v fun d' hd' => by
      cases hd'; exact hdd
    have hm' : (listed.setIfInBounds i true).getD m true = true := by rw [getD_set_ne true him]; exact hm
    have hy' : Gives P ops C o v (a.put (some d) p) := by rw [← hd]; exact (Gives.put_iff (fun cs b => hsel i o cs b ho) ha).2 hy
    unfold wpOp
    rw [ho]
    dsimp only
    rcases hy' with ⟨hwn, hv⟩ | ⟨hwn, rfl⟩
    · rw [if_pos hwn]
      refine .inl (wp_of_relAt (hv w hw) fun w' hb => ?_)
      rw [hcomm]
      exact ih _ _ _ (hC w w' hw hb) (hS w w' hs hb) hm' hK
    · rw [if_neg (by rw [hwn]; decide), hcomm]
      exact ih _ _ _ hw hs hm' hK
theorem wpAny_of_float {n m : Nat} {oA : Oper} {d : Tmp} {t : TypeId} {z : Array Value} {B : Nat} {L : Act → Prop} {Q' : Exit → Act → World → Prop} (hA : ops[m]? = some oA) (hd : oA.dst = some d) (hg : oA.guard = none) (haf : oA.after = #[])
    (hrun : ∀ (a : Act) (w : World), (execOp a.eval oA).run P w = .ok (.value (.pointer (some ⟨w.heap.size, 0, none⟩))) (w.alloc (.cells z t)))
    (hwt : ∀ l', n ∈ Region.ready md ops l' → l'.getD m false = true)
    (hC : ∀ w w', C w → Below w.heap.size w w' → C w') (hB : ∀ w, C w → B ≤ w.heap.size)
    (hap : ∀ (i : Nat) (o : Oper), ops[i]? = some o → i ≠ m → i ≠ n → oA.apart ops o = true) (hsel : ∀ (j : Nat) (o : Oper) cs b, ops[j]? = some o → o.op ≠ .select cs b)
    (hL : ∀ a b w, C w → Blk w b t z → B ≤ b → L a → wpOp P ops Q' n (fun a w => Q' .normal a w) (a.put (some d) (.pointer (some ⟨b, 0, none⟩))) w) :
    ∀ (f : Nat) (listed : Array Bool) (a : Act) (w : World), C w → listed.getD m true = false → beforeR P md ops C n L f (listed.setIfInBounds m true) a → wpAny P md ops Q' (f + 2) listed a w := by
  have hmr : ∀ listed : Array Bool, listed.getD m true = false → m ∈ Region.ready md ops listed := fun listed h =>
    mem_ready.2 ⟨h, oA, hA, fun e he => by rw [haf] at he; cases he with | mk h => cases h⟩
  have hin : ∀ listed : Array Bool, listed.getD m true = false → (listed.setIfInBounds m true).getD m true = true := fun listed h => by
    by_cases hs : m < listed.size
    · simp [hs]
    · simp [hs] at h
  have main : ∀ (f : Nat) (listed : Array Bool) (a : Act) (w : World), C w → listed.getD m true = false → beforeR P md ops C n L f (listed.setIfInBounds m true) a → wpOp P ops Q' m (wpAny P md ops Q' (f + 1) (listed.setIfInBounds m true)) a w := by
    intro f listed a w hw hm h
    unfold wpOp
    rw [hA]
    dsimp only
    rw [if_pos (by simp [Region.wanted, hg])]
    left
    unfold Oper.wp
    rw [hrun a w]
    simp only [Oper.upon]
    rw [hd]
    exact wpAny_of_beforeR (S := fun w' => Blk w' w.heap.size t z) hd hC (fun w1 w2 h1 h2 => h1.on h2) hap hsel (fun a' w' hw' hs' hl' => hL a' _ w' hw' hs' (hB w hw) hl') f _ a _
      (hC _ _ hw ((Below.refl _ _).alloc (Nat.le_refl _) _)) (Blk.new w t z) (hin listed hm) h
  intro f
  induction f with
  | zero =>
    intro listed a w hw hm h
    refine ⟨fun he => (by have := hmr listed hm; rw [he] at this; cases this), fun i hi => ?_⟩
    by_cases him : i = m
    · subst him; exact main 0 listed a w hw hm h
    · have h1 := ready_mono hi him
      rw [h.1] at h1
      obtain rfl : i = n := by simpa using h1
      have h2 := hwt _ hi
      by_cases hs : m < listed.size <;> simp [hs] at hm h2
      rw [hm] at h2; cases h2
  | succ f ih =>
    intro listed a w hw hm h
    refine ⟨fun he => (by have := hmr listed hm; rw [he] at this; cases this), fun i hi => ?_⟩
    by_cases him : i = m
    · subst him; exact main (f + 1) listed a w hw hm h
    · obtain ⟨_, o, ho, _⟩ := mem_ready.1 hi
      obtain ⟨v, hy, hK⟩ := gives_of_rOp ho (h.2.2 i (ready_mono hi him))
      have hm' : (listed.setIfInBounds i true).getD m true = false := by rw [getD_set_ne true him]; exact hm
      rw [Array.setIfInBounds_comm _ _ (Ne.symm him)] at hK
      unfold wpOp
      rw [ho]
      dsimp only
      rcases hy with ⟨hwn, hv⟩ | ⟨hwn, rfl⟩
      · rw [if_pos hwn]
        exact .inl (wp_of_relAt (hv w hw) fun w' hb => ih _ _ _ (hC w w' hw hb) hm' hK)
      · rw [if_neg (by rw [hwn]; decide)]
        exact ih _ _ _ hw hm' hK
def floatB (md : Region.Mode) (ops : Array Oper) (k : Nat) (d : Tmp) : Bool :=
  Region.noSelect ops && lastFrom md ops (k + 1) k 0 ((Array.replicate ops.size false).setIfInBounds k true) &&
  (match ops[k]? with
   | some oA => (oA.dst == some d) && oA.guard.isNone && oA.after.isEmpty && ((List.range ops.size).all fun i => i == k || i == k + 1 || match ops[i]? with | some o => oA.apart ops o | none => true)
   | none => false) &&
  (match ops[k + 1]? with | some o => o.after.any (fun e => Region.binds md e && e.on == k) | none => false)
theorem wp_region_float {id : Nat} {Q : Exit → Act → World → Prop} {a : Act} {w : World} {l : List Oper} {oA : Oper} {t : TypeId} {z : Array Value} (k : Nat) (d : Tmp) (hm : P.follows .mixedOrders = true) (hlen : l.length = k + 2) (hB : floatB .any l.toArray k d = true)
    (hA : l[k]? = some oA) (hrun : ∀ (a : Act) (w : World), (execOp a.eval oA).run P w = .ok (.value (.pointer (some ⟨w.heap.size, 0, none⟩))) (w.alloc (.cells z t)))
    (h : wpRel P l.toArray (fun w' => ∃ p : Regrown, w' = Go.Sort.grow (redrawn w p.d) p.os) (fun a' => ∀ b w', Below w.heap.size w w' → Blk w' b t z → w.heap.size ≤ b → wpList P l.toArray Q (l.drop (k + 1)) (a'.put (some d) (.pointer (some ⟨b, 0, none⟩))) w') (l.take k) a) : (Code.region id l.toArray true).wp P Q a w := by
  simp only [floatB, Bool.and_eq_true] at hB
  obtain ⟨⟨⟨b1, b2⟩, b3⟩, b4⟩ := hB
  have hA' : l.toArray[k]? = some oA := by simpa using hA
  rw [hA'] at b3
  simp only [Bool.and_eq_true, beq_iff_eq, Option.isNone_iff_eq_none, Array.isEmpty_iff] at b3
  obtain ⟨⟨⟨hd, hg⟩, haf⟩, hap⟩ := b3
  refine wp_region_any hm ?_
  have hsz : l.toArray.size = k + 2 := by simpa using hlen
  have ht : (l.take k).length = k := by simp; omega
  have hx := beforeR_lex (C := fun w' => ∃ p : Regrown, w' = Go.Sort.grow (redrawn w p.d) p.os) (md := .any) (n := k + 1) b1 (l.take k) 0 ((Array.replicate l.toArray.size false).setIfInBounds k true) a
    (fun j hj => by simp only [Nat.zero_add, List.getElem?_toArray]; rw [List.getElem?_take_of_lt (by omega)]) (by rw [ht]; exact b2) h
  rw [ht] at hx
  rw [hsz] at hx ⊢
  have cb : ∀ w' : World, (∃ p : Regrown, w' = Go.Sort.grow (redrawn w p.d) p.os) → Below w.heap.size w w' := by rintro _ ⟨p, rfl⟩; exact below_regrown w p.d p.os
  refine wpAny_of_float (m := k) (B := w.heap.size) hA' hd hg haf hrun (fun l' hn' => ?_) (fun w1 w2 h1 h2 => regrown_of_below (after (cb w1 h1) h2)) (fun w1 h1 => (cb w1 h1).size) (fun i o ho h1 h2 => ?_) (Region.noSelect_spec b1) (fun a' b w' hw' hs' hb' hL => ?_) k _ a _ ?_ ?_ hx
  · obtain ⟨_, oL, hoL, hall⟩ := mem_ready.1 hn'
    rw [hoL] at b4
    obtain ⟨e, he, hbe⟩ := Array.any_eq_true'.1 b4
    simp only [Bool.and_eq_true, beq_iff_eq] at hbe
    have := hall e he hbe.1
    rwa [hbe.2] at this
  · have hi : i < l.toArray.size := (Array.getElem?_eq_some_iff.1 ho).1
    have h3 := List.all_eq_true.1 hap i (List.mem_range.2 hi)
    rw [ho] at h3
    simp only [Bool.or_eq_true, beq_iff_eq] at h3
    rcases h3 with (h3 | h3) | h3
    · exact absurd h3 h1
    · exact absurd h3 h2
    · exact h3
  · have h4 := hL b w' (cb w' hw') hs' hb'
    have hdr : l.drop (k + 1) = [l[k + 1]'(by omega)] := by
      rw [List.drop_eq_getElem_cons (by omega), List.drop_of_length_le (by omega)]
    rw [hdr] at h4
    unfold wpOp
    simp only [List.getElem?_toArray, List.getElem?_eq_getElem (show k + 1 < l.length by omega)]
    exact h4
  · exact ⟨⟨w.drawn + 1, #[]⟩, by rw [Go.Sort.grow_empty]; rfl⟩
  · simp
end
attribute [go_sem] relOp relAt
section
variable {w w0 W W' : World} {g b : Nat} {t : TypeId} {cs : Array Value}
theorem Blk.put3 {x y z u v r : Value} (h : Blk W b t #[x, y, z]) (hW : W' = ((W.setCell ⟨b, 0, none⟩ u).setCell ⟨b, 1, none⟩ v).setCell ⟨b, 2, none⟩ r) : Blk W' b t #[u, v, r] := by rw [hW]; exact h.st3 u v r
theorem Blk.far3 {u v r : Value} (h : Blk w g t cs) (hb : Below w.heap.size w W) (hle : w.heap.size ≤ b) (hW : W' = ((W.setCell ⟨b, 0, none⟩ u).setCell ⟨b, 1, none⟩ v).setCell ⟨b, 2, none⟩ r) : Blk W' g t cs := by
  have hn : g ≠ b := by have := h.lt; omega
  rw [hW]; exact (((h.on hb).far hn u).far hn v).far hn r
theorem far_below3 {u v r : Value} (h : Below w0.heap.size w0 w) (hb : Below w.heap.size w W) (hle : w.heap.size ≤ b) (hW : W' = ((W.setCell ⟨b, 0, none⟩ u).setCell ⟨b, 1, none⟩ v).setCell ⟨b, 2, none⟩ r) : Below w0.heap.size w0 W' := by
  have hs : w0.heap.size ≤ b := Nat.le_trans h.size hle
  rw [hW]; exact ((((after h hb).setCell (p := ⟨b, 0, none⟩) hs u).setCell (p := ⟨b, 1, none⟩) hs v).setCell (p := ⟨b, 2, none⟩) hs r)
end
end Go.Proofs.YtmbccnioijokfaaGreatDoor

namespace Go.Proofs.YtmbccnioijokfaaGreatDoor
open Go.RowKit
def rowL (lo hi : Int) : List Int := (List.range (hi + 1 - lo).toNat).map fun i : Nat => lo + (i : Int)
theorem rowL_nil {lo hi : Int} (h : hi < lo) : rowL lo hi = [] := by
  unfold rowL
  rw [show (hi + 1 - lo).toNat = 0 by omega]; rfl
theorem rowL_cons {lo hi : Int} (h : lo ≤ hi) : rowL lo hi = lo :: rowL (lo + 1) hi := by
  unfold rowL
  rw [show (hi + 1 - lo).toNat = (hi + 1 - (lo + 1)).toNat + 1 by omega, List.range_succ_eq_map]
  simp only [List.map_cons, List.map_map, Int.ofNat_zero, Int.add_zero]
  congr 1
  apply List.map_congr_left
  intro i _
  simp only [Function.comp_apply, Nat.succ_eq_add_one, Int.natCast_add]
  omega
theorem mem_rowL {lo hi n : Int} : n ∈ rowL lo hi ↔ lo ≤ n ∧ n ≤ hi := by
  unfold rowL
  simp only [List.mem_map, List.mem_range]
  constructor
  · rintro ⟨i, h, rfl⟩; omega
  · rintro ⟨h1, h2⟩; exact ⟨(n - lo).toNat, by omega, by omega⟩
theorem rowL_length (lo hi : Int) : (rowL lo hi).length = (hi + 1 - lo).toNat := by simp [rowL]
abbrev Cl := Int × Int × Int
def rest1 (x0 x1 y1 z0 z1 y : Int) : List Cl := (rowL y y1).flatMap fun y => (rowL z0 z1).flatMap fun z => (rowL x0 x1).map fun x => (x, y, z)
def rest2 (x0 x1 y1 z0 z1 y z : Int) : List Cl := ((rowL z z1).flatMap fun z => (rowL x0 x1).map fun x => (x, y, z)) ++ rest1 x0 x1 y1 z0 z1 (y + 1)
def rest3 (x0 x1 y1 z0 z1 y z x : Int) : List Cl := ((rowL x x1).map fun x => (x, y, z)) ++ rest2 x0 x1 y1 z0 z1 y (z + 1)
section
variable {x0 x1 y1 z0 z1 y z x : Int}
theorem rest1_nil (h : y1 < y) : rest1 x0 x1 y1 z0 z1 y = [] := by unfold rest1; rw [rowL_nil h]; rfl
theorem rest1_cons (h : y ≤ y1) : rest1 x0 x1 y1 z0 z1 y = rest2 x0 x1 y1 z0 z1 y z0 := by
  unfold rest2; rw [rest1, rowL_cons h]; rfl
theorem rest2_nil (h : z1 < z) : rest2 x0 x1 y1 z0 z1 y z = rest1 x0 x1 y1 z0 z1 (y + 1) := by unfold rest2; rw [rowL_nil h]; rfl
theorem rest2_cons (h : z ≤ z1) : rest2 x0 x1 y1 z0 z1 y z = rest3 x0 x1 y1 z0 z1 y z x0 := by
  unfold rest3; rw [rest2, rowL_cons h]; simp [rest2, List.append_assoc]
theorem rest3_nil (h : x1 < x) : rest3 x0 x1 y1 z0 z1 y z x = rest2 x0 x1 y1 z0 z1 y (z + 1) := by unfold rest3; rw [rowL_nil h]; rfl
theorem rest3_cons (h : x ≤ x1) : rest3 x0 x1 y1 z0 z1 y z x = (x, y, z) :: rest3 x0 x1 y1 z0 z1 y z (x + 1) := by
  unfold rest3; rw [rowL_cons h]; rfl
end
theorem drop_cons {α : Type} {xs t : List α} {a : α} {i : Nat} (h : xs.drop i = a :: t) : xs[i]? = some a ∧ xs.drop (i + 1) = t ∧ i < xs.length := by
  refine ⟨?_, ?_, ?_⟩
  · have := List.getElem?_drop (xs := xs) (i := i) (j := 0)
    rw [h] at this
    simpa using this.symm
  · rw [← List.tail_drop, h]; rfl
  · rcases Nat.lt_or_ge i xs.length with h' | h'
    · exact h'
    · rw [List.drop_eq_nil_of_le h'] at h; cases h
theorem drop_nil {α : Type} {xs : List α} {i : Nat} (h : xs.drop i = []) (hi : i ≤ xs.length) : i = xs.length := by
  have := List.drop_eq_nil_iff.1 h; omega
def boxL (x0 x1 y0 y1 z0 z1 : Int) : List Cl := rest1 x0 x1 y1 z0 z1 y0
theorem mem_boxL {x0 x1 y0 y1 z0 z1 : Int} {c : Cl} : c ∈ boxL x0 x1 y0 y1 z0 z1 ↔ (x0 ≤ c.1 ∧ c.1 ≤ x1) ∧ (y0 ≤ c.2.1 ∧ c.2.1 ≤ y1) ∧ z0 ≤ c.2.2 ∧ c.2.2 ≤ z1 := by
  unfold boxL rest1
  simp only [List.mem_flatMap, List.mem_map, mem_rowL]
  constructor
  · rintro ⟨y, hy, z, hz, x, hx, rfl⟩; exact ⟨hx, hy, hz⟩
  · rintro ⟨hx, hy, hz⟩; exact ⟨_, hy, _, hz, _, hx, rfl⟩
theorem flat_len {α β : Type} (l : List α) (f : α → List β) (k : Nat) (h : ∀ a, (f a).length = k) : (l.flatMap f).length = l.length * k := by
  induction l with
  | nil => simp
  | cons a l ih => simp [List.flatMap_cons, h, ih, Nat.succ_mul, Nat.add_comm]
theorem boxL_length (x0 x1 y0 y1 z0 z1 : Int) : (boxL x0 x1 y0 y1 z0 z1).length = (y1 + 1 - y0).toNat * ((z1 + 1 - z0).toNat * (x1 + 1 - x0).toNat) := by
  unfold boxL rest1
  rw [flat_len _ _ ((z1 + 1 - z0).toNat * (x1 + 1 - x0).toNat), rowL_length]
  intro y
  rw [flat_len _ _ (x1 + 1 - x0).toNat, rowL_length]
  intro z
  simp [rowL_length]
end Go.Proofs.YtmbccnioijokfaaGreatDoor

namespace Go.Proofs.YtmbccnioijokfaaGreatDoor
open Go.RowKit
section
variable {w w0 : World} {g n : Nat} {t : TypeId}
theorem Blk.row {cs : Array Value} {w : World} (h : Blk w g t cs) (vs : Array Value) : Blk (w.setRow g vs) g t vs := setRow_heap w g cs vs t (0, 0) h
theorem below_row {w w0 : World} (h : Below n w0 w) (hn : n ≤ g) (vs : Array Value) : Below n w0 (w.setRow g vs) :=
  ⟨h.os, h.tape, h.output, by rw [setRow_size]; exact h.size, fun b hb => (setRow_other w g b vs (by omega)).trans (h.block b hb)⟩
end
end Go.Proofs.YtmbccnioijokfaaGreatDoor

namespace Go.Proofs.YtmbccnioijokfaaGreatDoor
open Go.RowKit
section
variable {P : Program} {w w' : World} {base : Nat} {e : TypeId} {size : Nat} {α : Type} {enc : α → List Value} {v : Value} {xs : List α}
def Owns (w : World) (base : Nat) (e : TypeId) (size : Nat) (enc : α → List Value) (v : Value) (xs : List α) : Prop := w.ownsRow base e size v xs.length (xs.flatMap enc)
def Rd (w : World) (q : Option Addr) (size : Nat) (enc : α → List Value) (xs : List α) : Prop :=
  0 < xs.length → ∃ g o, q = some ⟨g, o, none⟩ ∧ ∀ i x, xs[i]? = some x → ∀ j u, (enc x)[j]? = some u → w.cell? ⟨g, o + i * size + j, none⟩ = some u
theorem Rd.on {q : Option Addr} (h : Rd w q size enc xs) (hb : Below w.heap.size w w') : Rd w' q size enc xs := fun hn => by
  obtain ⟨g, o, hq, h1⟩ := h hn
  exact ⟨g, o, hq, fun i x hx j u hu => by rw [cell_below hb (cell_lt (h1 i x hx j u hu))]; exact h1 i x hx j u hu⟩
theorem Rd.at {g o : Nat} (h : Rd w (some ⟨g, o, none⟩) size enc xs) {i : Nat} {x : α} (hx : xs[i]? = some x) {j : Nat} {u : Value} (hu : (enc x)[j]? = some u) : w.cell? ⟨g, o + i * size + j, none⟩ = some u := by
  have hn : 0 < xs.length := by have := (List.getElem?_eq_some_iff.1 hx).1; omega
  obtain ⟨g', o', hq, h1⟩ := h hn
  cases hq
  exact h1 i x hx j u hu
theorem Owns.nil : Owns w base e size enc (.slice none 0 0) ([] : List α) := ⟨by simp, .inl ⟨rfl, rfl⟩⟩
theorem flat_at (hl : ∀ x, (enc x).length = size) : ∀ (xs : List α) (i : Nat) (x : α), xs[i]? = some x → ∀ j u, (enc x)[j]? = some u → (xs.flatMap enc)[i * size + j]? = some u := by
  intro xs
  induction xs with
  | nil => intro i x h; cases h
  | cons y ys ih =>
    intro i x hx j u hu
    rw [List.flatMap_cons]
    have hj : j < size := by rw [← hl x]; exact (List.getElem?_eq_some_iff.1 hu).1
    cases i with
    | zero =>
      obtain rfl : y = x := by simpa using hx
      rw [List.getElem?_append_left (by rw [hl]; omega)]
      simpa using hu
    | succ i =>
      rw [List.getElem?_append_right (by rw [hl, Nat.succ_mul]; omega), hl, show (i + 1) * size + j - size = i * size + j by rw [Nat.succ_mul]; omega]
      exact ih i x (by simpa using hx) j u hu
theorem Owns.form (hl : ∀ x, (enc x).length = size) (h : Owns w base e size enc v xs) : ∃ q cap, v = .slice q xs.length cap ∧ xs.length ≤ cap ∧ cap ≤ maxLen ∧ Rd w q size enc xs ∧ (∀ a, q = some a → base ≤ a.block ∧ a.block < w.heap.size) ∧ (0 < xs.length → ∃ g, q = some ⟨g, 0, none⟩) := by
  rcases h.2 with ⟨hv, h0⟩ | ⟨g, cap, cur, hv, hb, hg, hc, hm, hs, ht⟩
  · exact ⟨none, 0, by rw [hv, h0], by omega, by omega, fun hn => by omega, fun a ha => (by cases ha), fun hn => by omega⟩
  · refine ⟨_, cap, hv, hc, hm, fun _ => ⟨g, 0, rfl, fun i x hx j u hu => ?_⟩, fun a ha => by cases ha; exact ⟨hb, (Array.getElem?_eq_some_iff.1 hg).1⟩, fun _ => ⟨g, rfl⟩⟩
    have h1 := flat_at hl xs i x hx j u hu
    rw [← ht] at h1
    have h2 := (List.getElem?_eq_some_iff.1 h1).1
    rw [List.length_take] at h2
    rw [List.getElem?_take_of_lt (by omega)] at h1
    rw [show 0 + i * size + j = i * size + j by omega]
    have := Blk.cell (w := w) (t := e) (cs := cur) hg (i * size + j)
    rw [this]
    simpa using h1
theorem Owns.on (h : Owns w base e size enc v xs) (hb : Below w.heap.size w w') : Owns w' base e size enc v xs := by
  refine ⟨h.1, ?_⟩
  rcases h.2 with h0 | ⟨g, cap, cur, hv, hbg, hg, r⟩
  · exact .inl h0
  · exact .inr ⟨g, cap, cur, hv, hbg, Blk.on hg hb, r⟩
theorem Owns.far (h : Owns w base e size enc v xs) {p : Addr} (hp : p.block < base) (u : Value) : Owns (w.setCell p u) base e size enc v xs := ownsRow_setCell_below h hp u
theorem Owns.kept (h : Owns w base e size enc v xs) (hk : ∀ g, base ≤ g → g < w.heap.size → w'.heap[g]? = w.heap[g]?) : Owns w' base e size enc v xs := by
  refine ⟨h.1, ?_⟩
  rcases h.2 with h0 | ⟨g, cap, cur, hv, hbg, hg, r⟩
  · exact .inl h0
  · exact .inr ⟨g, cap, cur, hv, hbg, (hk g hbg (Array.getElem?_eq_some_iff.1 hg).1).trans hg, r⟩
theorem Owns.block (h : Owns w base e size enc v xs) : ∀ k, v.ownBlock = some k → base ≤ k ∧ k < w.heap.size := World.ownsRow.lt h
theorem run_push {ts ty : TypeId} {z : Value} {bytes b : Nat} {x : α} (ht : P.underlying ts = some (.slice e)) (hi : (P.info? e).map (fun i => (i.zero, i.size, i.bytes)) = some (some z, size, bytes)) (hz : z.cells.size = size) (hs : 0 < size) (hby : 0 < bytes)
    (hl : (enc x).length = size) (h1 : ∀ u ∈ enc x, u.oneCell' = true) (hown : Owns w base e size enc v xs) (hx : ∀ j u, (enc x)[j]? = some u → w.cell? ⟨b, j, none⟩ = some u) (h47 : (xs.length + 1) * bytes ≤ 140737488355328) (hbase : base ≤ w.heap.size) :
    ∃ v' w', (Builtin.append_ #[ts, ts] ty #[v, .slice (some ⟨b, 0, none⟩) 1 1]).run P w = .ok v' w' ∧ Owns w' base e size enc v' (xs ++ [x]) ∧ w.grownBy w' v.ownBlock ∧ Below base w w' ∧ ∃ g cap, v' = .slice (some ⟨g, 0, none⟩) (xs.length + 1) cap := by
  obtain ⟨i, hi, hz0, hs0, hb0⟩ := info_parts hi
  have h63 : xs.length + 1 ≤ maxLen := by
    have : (xs.length + 1) * 1 ≤ (xs.length + 1) * bytes := Nat.mul_le_mul_left _ hby
    simp only [maxLen]; omega
  obtain ⟨v', w', h2, h3, h4, h5⟩ := run_append_own (P := P) w base ts ty e i z size bytes ht hi hz0 hs0 hb0 hz hs v xs.length (xs.flatMap enc) hown ⟨b, 0, none⟩ 1 1 (enc x) (by rw [hl]; omega) (fun j u hu => by
    have := hx j u hu
    unfold Addr.add
    by_cases hk : j = 0 <;> simp [hk] at this ⊢ <;> exact this) h1 h63 h47 hbase
  refine ⟨v', w', h2, ?_, h4, (Below.refl _ _).grown h4 hbase fun k hk => (hown.block k hk).1, ?_⟩
  · unfold Owns
    rw [List.length_append, List.flatMap_append, List.length_singleton, List.flatMap_singleton]
    exact h3
  · rcases h3.2 with ⟨hv, h0⟩ | ⟨g, cap, _, hv, _⟩
    · omega
    · exact ⟨g, cap, hv⟩
end
abbrev encI (n : Int) : List Value := [.int .i64 n]
theorem lenI (n : Int) : (encI n).length = 1 := rfl
end Go.Proofs.YtmbccnioijokfaaGreatDoor

namespace Go.Proofs.YtmbccnioijokfaaGreatDoor
open Go.RowKit
section
variable {P : Program} {w w' : World} {base n m c : Nat} {e : TypeId} {size : Nat} {α : Type} {enc : α → List Value} {v : Value} {xs ys : List α} {q : Option Addr}
theorem flat_inv (hl : ∀ x, (enc x).length = size) : ∀ (xs : List α) (j : Nat) (u : Value), (xs.flatMap enc)[j]? = some u → ∃ i r x, xs[i]? = some x ∧ (enc x)[r]? = some u ∧ j = i * size + r := by
  intro xs
  induction xs with
  | nil => intro j u h; cases h
  | cons y ys ih =>
    intro j u h
    rw [List.flatMap_cons] at h
    by_cases hj : j < size
    · rw [List.getElem?_append_left (by rw [hl]; exact hj)] at h
      exact ⟨0, j, y, rfl, h, by omega⟩
    · rw [List.getElem?_append_right (by rw [hl]; omega), hl] at h
      obtain ⟨i, r, x, h1, h2, h3⟩ := ih _ _ h
      exact ⟨i + 1, r, x, by simpa using h1, h2, by rw [Nat.succ_mul]; omega⟩
theorem flat_lenR (hl : ∀ x, (enc x).length = size) : ∀ xs : List α, (xs.flatMap enc).length = xs.length * size := by
  intro xs
  induction xs with
  | nil => simp
  | cons y ys ih => rw [List.flatMap_cons, List.length_append, hl, ih, List.length_cons, Nat.succ_mul]; omega
theorem Rd.take {g o : Nat} (h : Rd w (some ⟨g, o, none⟩) size enc xs) (k : Nat) : Rd w (some ⟨g, o, none⟩) size enc (xs.take k) := fun hn => by
  rw [List.length_take] at hn
  refine ⟨g, o, rfl, fun i x hx j u hu => ?_⟩
  rw [List.getElem?_take] at hx
  split at hx
  · exact h.at hx hu
  · cases hx
theorem Rd.drop {g o : Nat} (h : Rd w (some ⟨g, o, none⟩) size enc xs) (k : Nat) : Rd w (some ⟨g, o + k * size, none⟩) size enc (xs.drop k) := fun hn => by
  refine ⟨g, _, rfl, fun i x hx j u hu => ?_⟩
  rw [List.getElem?_drop] at hx
  have := h.at hx hu
  rw [Nat.add_mul, ← Nat.add_assoc] at this
  exact this
theorem run_rows {ts ty : TypeId} {z : Value} {bytes : Nat} (ht : P.underlying ts = some (.slice e)) (hi : (P.info? e).map (fun i => (i.zero, i.size, i.bytes)) = some (some z, size, bytes)) (hz : z.cells.size = size) (hs : 0 < size) (hby : 0 < bytes)
    (hl : ∀ x, (enc x).length = size) (h1 : ∀ x ∈ ys, ∀ u ∈ enc x, u.oneCell' = true) (hown : Owns w base e size enc v xs) (hy : ys.length = m) (hmc : m ≤ c) (hG : Rd w q size enc ys) (h47 : (xs.length + m) * bytes ≤ 140737488355328) (hbase : base ≤ w.heap.size) :
    ∃ v' w', (Builtin.append_ #[ts, ts] ty #[v, .slice q m c]).run P w = .ok v' w' ∧ Owns w' base e size enc v' (xs ++ ys) ∧ Below base w w' := by
  subst hy
  obtain ⟨i, hi, hz0, hs0, hb0⟩ := info_parts hi
  have h63 : xs.length + ys.length ≤ maxLen := by
    have : (xs.length + ys.length) * 1 ≤ (xs.length + ys.length) * bytes := Nat.mul_le_mul_left _ hby
    simp only [maxLen]; omega
  by_cases hm : 0 < ys.length
  · obtain ⟨g, o, rfl, hB⟩ := hG hm
    obtain ⟨v', w', h2, h3, h4, _⟩ := run_append_own (P := P) w base ts ty e i z size bytes ht hi hz0 hs0 hb0 hz hs v xs.length (xs.flatMap enc) hown ⟨g, o, none⟩ ys.length c (ys.flatMap enc) (flat_lenR hl ys) (fun j u hj => by
        obtain ⟨k, r, x, e1, e2, rfl⟩ := flat_inv hl ys j u hj
        have := hB k x e1 r u e2
        unfold Addr.add
        by_cases hk : k * size + r = 0
        · rw [if_pos hk]; rw [show o + k * size + r = o by omega] at this; exact this
        · rw [if_neg hk]; rw [show o + k * size + r = o + (k * size + r) by omega] at this; exact this) (fun u hu => by
        rw [List.mem_flatMap] at hu
        obtain ⟨x, hx, hu⟩ := hu
        exact h1 x hx u hu) h63 h47 hbase
    refine ⟨v', w', h2, ?_, (Below.refl _ _).grown h4 hbase fun k hk => (hown.block k hk).1⟩
    unfold Owns
    rw [List.length_append, List.flatMap_append]
    exact h3
  · obtain rfl : ys = [] := by cases ys with | nil => rfl | cons y ys => simp at hm
    have hsrc : Src P i.size ts (.slice q 0 c) 0 [] w := by
      cases q with
      | none => exact Src.ofNil w ht c
      | some a => exact Src.ofSlice w ht a 0 c [] (by simp) (by simp) (by simp)
    obtain ⟨q', cap', rfl, hc', _⟩ := hown.form hl
    refine ⟨_, w, run_append_nothing w ts ts ty e i ht hi q' _ cap' hc' _ hsrc, ?_, Below.refl _ _⟩
    rw [List.append_nil]
    exact hown
end
end Go.Proofs.YtmbccnioijokfaaGreatDoor

namespace Go.Proofs.YtmbccnioijokfaaGreatDoor
open Go.RowKit
section
variable {P : Program} {w w' : World} {base n m c c2 : Nat} {e : TypeId} {size : Nat} {α : Type} {enc : α → List Value} {v : Value} {xs ys : List α} {q q2 : Option Addr}
theorem src_rd {t e' : TypeId} (hk : P.underlying t = some (.slice e')) (hl : ∀ x, (enc x).length = size) (h1 : ∀ x ∈ ys, ∀ u ∈ enc x, u.oneCell' = true) (hG : Rd w q size enc ys) : Src P size t (.slice q ys.length c) ys.length (ys.flatMap enc) w := by
  cases q with
  | none =>
    have : ys = [] := by
      cases ys with
      | nil => rfl
      | cons y ys => obtain ⟨g, o, h, -⟩ := hG (by simp); cases h
    subst this
    exact Src.ofNil w hk c
  | some a =>
    refine Src.ofSlice w hk a ys.length c _ (flat_lenR hl ys) (fun j u hj => ?_) (fun u hu => by
      rw [List.mem_flatMap] at hu
      obtain ⟨x, hx, hu⟩ := hu
      exact h1 x hx u hu)
    obtain ⟨k, r, x, e1, e2, rfl⟩ := flat_inv hl ys j u hj
    obtain ⟨g, o, h, hB⟩ := hG (by have := (List.getElem?_eq_some_iff.1 e1).1; omega)
    obtain rfl := Option.some.inj h
    have := hB k x e1 r u e2
    unfold Addr.add
    by_cases hk : k * size + r = 0
    · rw [if_pos hk]; rw [show o + k * size + r = o by omega] at this; exact this
    · rw [if_neg hk]; rw [show o + k * size + r = o + (k * size + r) by omega] at this; exact this
theorem run_fresh {ts ty : TypeId} {z : Value} {bytes : Nat} (ht : P.underlying ts = some (.slice e)) (hi : (P.info? e).map (fun i => (i.zero, i.size, i.bytes)) = some (some z, size, bytes)) (hz : z.cells.size = size) (hby : 0 < bytes)
    (hl : ∀ x, (enc x).length = size) (h1 : ∀ x ∈ xs, ∀ u ∈ enc x, u.oneCell' = true) (h2 : ∀ x ∈ ys, ∀ u ∈ enc x, u.oneCell' = true) (hx : Rd w q size enc xs) (hy : Rd w q2 size enc ys) (hc : c < xs.length + ys.length) (h47 : (xs.length + ys.length) * bytes ≤ 140737488355328) :
    ∃ cap w', (Builtin.append_ #[ts, ts] ty #[.slice q xs.length c, .slice q2 ys.length c2]).run P w = .ok (.slice (some ⟨w.heap.size, 0, none⟩) (xs.length + ys.length) cap) w' ∧ Owns w' w.heap.size e size enc (.slice (some ⟨w.heap.size, 0, none⟩) (xs.length + ys.length) cap) (xs ++ ys) ∧ Below w.heap.size w w' := by
  obtain ⟨i, hi, hz0, hs0, hb0⟩ := info_parts hi
  have h63 : xs.length + ys.length ≤ maxLen := by
    have : (xs.length + ys.length) * 1 ≤ (xs.length + ys.length) * bytes := Nat.mul_le_mul_left _ hby
    simp only [maxLen]; omega
  have hso : Src P i.size ts (.slice q xs.length c) xs.length (xs.flatMap enc) w := by rw [hs0]; exact src_rd ht hl h1 hx
  have hsn : Src P i.size ts (.slice q2 ys.length c2) ys.length (ys.flatMap enc) w := by rw [hs0]; exact src_rd ht hl h2 hy
  have hrun := run_append_grow_src (P := P) w ts ts ty e i z ht hi hz0 q xs.length c (xs.flatMap enc) hso.cellsD _ _ _ hsn hc (by simp only [maxLen] at h63; omega) (growslice_fits hc (by rw [hb0]; exact h47))
  refine ⟨_, _, hrun, ⟨?_, .inr ⟨w.heap.size, _, _, by rw [List.length_append], Nat.le_refl _, heap_alloc_new w.drew _, ?_, grownCap_le_maxLen w _ c e h63, ?_, ?_⟩⟩, (Below.refl _ _).drew.alloc (Nat.le_refl _) _⟩
  · rw [flat_lenR hl]
  · rw [List.length_append]; exact grownCap_ge w _ c e
  · simp only [Array.size_append, List.size_toArray, size_zeroCells, hz, List.length_append, flat_lenR hl]
    have := grownCap_ge w (xs.length + ys.length) c e
    rw [← Nat.add_mul, ← Nat.add_mul]
    congr 1
    omega
  · rw [List.length_append, List.flatMap_append]
    simp only [Array.toList_append]
    rw [List.take_append_of_le_length (by rw [List.length_append, flat_lenR hl, flat_lenR hl, Nat.add_mul]; exact Nat.le_refl _)]
    rw [List.take_of_length_le (by rw [List.length_append, flat_lenR hl, flat_lenR hl, Nat.add_mul]; exact Nat.le_refl _)]
end
end Go.Proofs.YtmbccnioijokfaaGreatDoor

namespace Go.Proofs.YtmbccnioijokfaaGreatDoor
open Go.RowKit
theorem run_push_at {P : Program} {w : World} {base : Nat} {e : TypeId} {size : Nat} {α : Type} {enc : α → List Value} {v : Value} {xs : List α} {ts ty : TypeId} {z : Value} {bytes b : Nat} {x : α} (ht : P.underlying ts = some (.slice e)) (hi : (P.info? e).map (fun i => (i.zero, i.size, i.bytes)) = some (some z, size, bytes)) (hz : z.cells.size = size) (hs : 0 < size) (hby : 0 < bytes)
    (hl : (enc x).length = size) (h1 : ∀ u ∈ enc x, u.oneCell' = true) (hown : Owns w base e size enc v xs) (hx : ∀ j u, (enc x)[j]? = some u → w.cell? ⟨b, j, none⟩ = some u) (h47 : (xs.length + 1) * bytes ≤ 140737488355328) (hbase : base ≤ w.heap.size) :
    ∃ g cap w', (Builtin.append_ #[ts, ts] ty #[v, .slice (some ⟨b, 0, none⟩) 1 1]).run P w = .ok (.slice (some ⟨g, 0, none⟩) (xs.length + 1) cap) w' ∧ Owns w' base e size enc (.slice (some ⟨g, 0, none⟩) (xs.length + 1) cap) (xs ++ [x]) ∧ w.grownBy w' v.ownBlock ∧ (v.ownBlock = some g ∨ w.heap.size ≤ g) := by
  obtain ⟨i, hi, hz0, hs0, hb0⟩ := info_parts hi
  have h63 : xs.length + 1 ≤ maxLen := by
    have : (xs.length + 1) * 1 ≤ (xs.length + 1) * bytes := Nat.mul_le_mul_left _ hby
    simp only [maxLen]; omega
  obtain ⟨v', w', h2, h3, h4, -, h5⟩ := run_append_own_at (P := P) w base ts ty e i z size bytes ht hi hz0 hs0 hb0 hz hs v xs.length (xs.flatMap enc) hown ⟨b, 0, none⟩ 1 1 (enc x) (by rw [hl]; omega) (fun j u hu => by
    have := hx j u hu
    unfold Addr.add
    by_cases hk : j = 0 <;> simp [hk] at this ⊢ <;> exact this) h1 h63 h47 hbase
  rcases h3.2 with ⟨hv, h0⟩ | ⟨g, cap, _, hv, _⟩
  · omega
  · subst hv
    refine ⟨g, cap, w', h2, ?_, h4, ?_⟩
    · unfold Owns
      rw [List.length_append, List.flatMap_append, List.length_singleton, List.flatMap_singleton]
      exact h3
    · rcases h5 with h | h
      · exact .inl h.symm
      · right
        simp [Value.ownBlock] at h
        omega
end Go.Proofs.YtmbccnioijokfaaGreatDoor

namespace Go.Proofs.YtmbccnioijokfaaGreatDoor
open Go.RowKit
structure Kept (K : Nat → Prop) (w w' : World) : Prop where
  os : w'.os = w.os
  tape : w'.tape = w.tape
  output : w'.output = w.output
  size : w.heap.size ≤ w'.heap.size
  block : ∀ b, b < w.heap.size → K b → w'.heap[b]? = w.heap[b]?
section
variable {K K' : Nat → Prop} {A B C : World}
theorem Kept.refl (K : Nat → Prop) (A : World) : Kept K A A := ⟨rfl, rfl, rfl, Nat.le_refl _, fun _ _ _ => rfl⟩
theorem Kept.trans (h : Kept K A B) (k : Kept K B C) : Kept K A C :=
  ⟨k.os.trans h.os, k.tape.trans h.tape, k.output.trans h.output, Nat.le_trans h.size k.size, fun b hb hK => (k.block b (Nat.lt_of_lt_of_le hb h.size) hK).trans (h.block b hb hK)⟩
theorem Kept.mono (h : Kept K A B) (hK : ∀ b, K' b → K b) : Kept K' A B := ⟨h.os, h.tape, h.output, h.size, fun b hb hk => h.block b hb (hK b hk)⟩
theorem Kept.of_below (h : Below A.heap.size A B) : Kept K A B := ⟨h.os, h.tape, h.output, h.size, fun b hb _ => h.block b hb⟩
theorem Kept.on (h : Kept K A B) (k : Below B.heap.size B C) : Kept K A C := h.trans (Kept.of_below k)
theorem Kept.alloc (h : Kept K A B) (o : Obj) : Kept K A (B.alloc o) := h.on ((Below.refl _ _).alloc (Nat.le_refl _) o)
theorem Kept.setCell (h : Kept K A B) {p : Addr} (hp : ¬ K p.block) (u : Value) : Kept K A (B.setCell p u) :=
  h.trans ⟨rfl, rfl, rfl, by simp [World.setCell], fun b _ hK => Below.heap_setCell B p u b (fun e => hp (e ▸ hK))⟩
theorem Kept.fresh (h : Kept K A B) {p : Addr} (hp : A.heap.size ≤ p.block) (u : Value) : Kept K A (B.setCell p u) :=
  ⟨h.os, h.tape, h.output, by simp [World.setCell]; exact h.size, fun b hb hK => (Below.heap_setCell B p u b (by omega)).trans (h.block b hb hK)⟩
theorem Kept.putObj (h : Kept K A B) {l : Nat} (hl : ¬ K l) (o : Obj) : Kept K A (B.putObj l o) :=
  h.trans ⟨rfl, rfl, rfl, by simp [World.putObj], fun b _ hK => World.putObj_heap_other (fun e => hl (e ▸ hK))⟩
theorem Kept.drew (h : Kept K A B) : Kept K A B.drew := ⟨h.os, h.tape, h.output, h.size, h.block⟩
theorem Kept.grown (h : Kept K A B) {row : Option Nat} (hg : B.grownBy C row) (hr : ∀ k, row = some k → ¬ K k) : Kept K A C :=
  h.trans ⟨hg.os, hg.tape, hg.output, hg.size, fun b hb hK => hg.block b hb (fun e => hr b e.symm hK)⟩
theorem Kept.below {n : Nat} (h : Kept K A B) (hn : n ≤ A.heap.size) (hK : ∀ b, b < n → K b) : Below n A B := ⟨h.os, h.tape, h.output, h.size, fun b hb => h.block b (by omega) (hK b hb)⟩
theorem Kept.blk {g : Nat} {t : TypeId} {cs : Array Value} (h : Kept K A B) (hK : K g) (hb : Blk A g t cs) : Blk B g t cs := (h.block g hb.lt hK).trans hb
end
def Priv (lo hi b : Nat) : Prop := lo ≤ b ∧ b < hi
def Iter (P : Program) (gf : Nat) (lb : Array Value) {α : Type} (encs : α → Array Value) (xs : List α) (cap : Nat → Prop) (w0 : World) : Prop :=
  ∀ (m l : Nat) (J Jx : Nat → Nat → World → Prop) (W : World), Kept cap w0 W →
    (∀ Z i A B, J Z i A → Kept (fun b => ¬ Priv W.heap.size Z b) A B → J Z i B) → (∀ Z i A B, Jx Z i A → Kept (fun b => ¬ Priv W.heap.size Z b) A B → Jx Z i B) →
    (∀ Z i x A, W.heap.size ≤ Z → Z ≤ A.heap.size → xs[i]? = some x → J Z i A → YieldAt Fence.wide m P l (encs x) A fun e B =>
      (e = .returned (.bool true) ∧ J Z (i + 1) B ∧ Kept (fun b => Priv W.heap.size Z b ∨ cap b) A B) ∨ (e = .returned (.bool false) ∧ Jx Z i B)) →
    (∀ Z, J Z 0 W) →
    CallsIn Fence.wide (m + 1) P gf (#[.func (.yield l) #[] #[]] ++ lb) W fun e B => (∃ v, e = .returned v) ∧ ∃ Z, W.heap.size ≤ Z ∧ (J Z xs.length B ∨ ∃ i, i < xs.length ∧ Jx Z i B)
def leftBy (K : Nat → Prop) (I : Nat → World → Prop) (Ix : Code → Nat → World → Prop) (i : Nat) (A : World) : Exit → Act → World → Prop
  | .normal, _, B => Kept K A B ∧ I (i + 1) B
  | .ret, _, B => Kept K A B ∧ Ix .ret i B
  | .exit id, _, B => Kept K A B ∧ Ix (.exit id) i B
  | .goto t, _, B => Kept K A B ∧ Ix (.goto t) i B
  | .panic _, _, _ => False
  | .outgrown, _, _ => False
def Keeps (lo hi : Nat) (cap : Nat → Prop) (b : Nat) : Prop := Priv lo hi b ∨ cap b
theorem wp_range {P : Program} {m : Nat} {α : Type} {g : Operand} {ps : Array Tmp} {assign body : Code} {Q : Exit → Act → World → Prop} {a : Act} {w : World} {gf : Nat} {lb : Array Value}
    (hg : a.eval g = .func (.func gf) #[] lb) (eg : ∀ args w, (callFunc gf args).run P w = .ok (.enter gf args) w)
    {encs : α → Array Value} {xs : List α} {cap : Nat → Prop} (hit : Iter P gf lb encs xs cap w) (hcap : ∀ b, cap b → b < w.heap.size) (hps : ∀ x, (encs x).size = ps.size)
    (I : Nat → Nat → World → Prop) (Ix : Nat → Code → Nat → World → Prop)
    (hI : ∀ Z i A B, I Z i A → Kept (fun b => ¬ Priv w.heap.size Z b) A B → I Z i B) (hIx : ∀ Z c i A B, Ix Z c i A → Kept (fun b => ¬ Priv w.heap.size Z b) A B → Ix Z c i B) (h0 : ∀ Z, I Z 0 w)
    (hround : ∀ Z l i x A, l = w.heap.size + 1 → w.heap.size + 2 ≤ Z → Z ≤ A.heap.size → xs[i]? = some x → I Z i A →
      assign.wpIn (Fence.wide.inRound l) m P (Exit.then (fun a1 A1 => Kept (Keeps w.heap.size Z cap) A A1 ∧
        ∀ A2, Kept (fun b => b ≠ l) A1 A2 → A2.heap.size = A1.heap.size → body.wpIn (Fence.wide.inRound l) m P (leftBy (Keeps w.heap.size Z cap) (I Z) (Ix Z) i A2) a1 A2) (fun _ _ _ => False))
        { tmps := (ps.zip (encs x)).foldl (fun t (p, v) => t.setIfInBounds p v) a.tmps, defers := [] } A)
    (hdone : ∀ Z W, I Z xs.length W → W.heap[w.heap.size]? = some (.deferred (some [])) → Q .normal { a with defers := { target := .collected w.heap.size, args := #[] } :: a.defers } W)
    (hstop : ∀ Z c i W, i < xs.length → Ix Z c i W → W.heap[w.heap.size]? = some (.deferred (some [])) → c.wp P Q { a with defers := { target := .collected w.heap.size, args := #[] } :: a.defers } W) :
    (Code.rangeFunc g ps assign body).wp P Q a w := by
  refine wpIn_wide.1 (wpIn_rangeFunc (n := m + 2) ?_)
  intro fn hfn
  obtain ⟨rec, hrec⟩ : ∃ rec : LoopState → Option Code → Loop, rec = fun st pe => { state := st, pending := pe, fn, tmps := a.tmps, params := ps, assign, body, defers := w.heap.size } := ⟨_, rfl⟩
  obtain ⟨W1, hW1⟩ : ∃ W1, (w.alloc (.deferred (some []))).alloc (.loop (rec .ready none)) = W1 := ⟨_, rfl⟩
  have hs1 : W1.heap.size = w.heap.size + 2 := by rw [← hW1]; simp
  have hL1 : W1.heap[w.heap.size + 1]? = some (.loop (rec .ready none)) := by
    rw [← hW1]; have := World.alloc_heap_new (w.alloc (.deferred (some []))) (.loop (rec .ready none)); rwa [World.size_alloc] at this
  have hK1 : W1.heap[w.heap.size]? = some (.deferred (some [])) := by
    rw [← hW1]; exact (Below.heap_alloc _ _ _ (by simp)).trans (World.alloc_heap_new w _)
  have hb1 : Below w.heap.size w W1 := by rw [← hW1]; exact ((Below.refl _ w).alloc (Nat.le_refl _) _).alloc (by simp) _
  have hpr : ∀ Z b, ¬ Priv w.heap.size Z b → ¬ Priv W1.heap.size Z b := fun Z b h h' => h ⟨by have := h'.1; omega, h'.2⟩
  refine ⟨w.heap.size + 1, [{ target := .collected w.heap.size, args := #[] }], W1, { target := .fn (.func gf) lb, args := #[.func (.yield (w.heap.size + 1)) #[] #[]] }, W1, gf,
    #[.func (.yield (w.heap.size + 1)) #[] #[]] ++ lb, W1, ?_, ?_, ?_, ?_, fun _ => by omega, ?_⟩
  · rw [← hW1, hrec]; exact run_enterLoop_outer _ _ _ _ _
  · simp only [resolve, hg]
    simp [go_sem]
  · intro f' _; trivial
  · simp [invoke, go_sem, eg]
  · refine (hit m (w.heap.size + 1)
      (fun Z i W => I Z i W ∧ W.heap[w.heap.size + 1]? = some (.loop (rec .ready none)) ∧ W.heap[w.heap.size]? = some (.deferred (some [])))
      (fun Z i W => W1.heap.size ≤ Z ∧ ∃ c, Ix Z c i W ∧ W.heap[w.heap.size + 1]? = some (.loop (rec .done (some c))) ∧ W.heap[w.heap.size]? = some (.deferred (some [])))
      W1 (Kept.of_below hb1) ?_ ?_ ?_ (fun Z => ⟨hI _ _ _ _ (h0 Z) (Kept.of_below hb1), hL1, hK1⟩)).mono ?_
    · rintro Z i A B ⟨h1, h2, h3⟩ hk
      have hl := (Array.getElem?_eq_some_iff.1 h2).1
      exact ⟨hI _ _ _ _ h1 (hk.mono (hpr Z)), (hk.block _ hl (fun h => by have := h.1; omega)).trans h2, (hk.block _ (by omega) (fun h => by have := h.1; omega)).trans h3⟩
    · rintro Z i A B ⟨h0, c, h1, h2, h3⟩ hk
      have hl := (Array.getElem?_eq_some_iff.1 h2).1
      exact ⟨h0, c, hIx _ _ _ _ _ h1 (hk.mono (hpr Z)), (hk.block _ hl (fun h => by have := h.1; omega)).trans h2, (hk.block _ (by omega) (fun h => by have := h.1; omega)).trans h3⟩
    ·
      rintro Z i x A hZ1 hZ2 hx ⟨hi, hl, hk⟩
      have hy := run_yield (P := P) (args := encs x) hl (by rw [hrec]; exact hps x)
      rw [hrec] at hy
      refine ⟨fn, _, assign, body, hy, roundIn_of_wpIn hfn ?_⟩
      refine wpIn_mono (hround Z _ i x A rfl (by omega) hZ2 hx hi) ?_
      rintro e a1 A1 h
      cases e with
      | exit id => exact h.elim
      | goto t => exact h.elim
      | ret => exact h.elim
      | panic c => exact h.elim
      | outgrown => exact h.elim
      | normal =>
        obtain ⟨hA1, hbody⟩ := h
        have hl' : w.heap.size + 1 < A.heap.size := (Array.getElem?_eq_some_iff.1 hl).1
        have hl1 : A1.heap[w.heap.size + 1]? = some (.loop (rec .ready none)) := (hA1.block _ hl' (.inl ⟨by omega, by omega⟩)).trans hl
        have hk1 : A1.heap[w.heap.size]? = some (.deferred (some [])) := (hA1.block _ (by omega) (.inl ⟨by omega, by omega⟩)).trans hk
        have hlt1 : w.heap.size + 1 < A1.heap.size := (Array.getElem?_eq_some_iff.1 hl1).1
        refine ⟨_, run_beginRound hl1 (by rw [hrec]), ?_⟩
        have hl2 : (A1.putObj (w.heap.size + 1) (.loop { rec .ready none with state := .busy })).heap[w.heap.size + 1]? = some (.loop { rec .ready none with state := .busy }) := World.putObj_heap_same hlt1
        have hk2 : (A1.putObj (w.heap.size + 1) (.loop { rec .ready none with state := .busy })).heap[w.heap.size]? = some (.deferred (some [])) := (World.putObj_heap_other (by omega)).trans hk1
        have hA2 : Kept (fun b => Priv W1.heap.size Z b ∨ cap b) A (A1.putObj (w.heap.size + 1) (.loop { rec .ready none with state := .busy })) :=
          (hA1.mono (K' := fun b => Priv W1.heap.size Z b ∨ cap b) (fun b h => h.imp (fun h => ⟨by have := h.1; omega, h.2⟩) id)).putObj (fun h => by rcases h with h | h; exact absurd h.1 (by omega); exact absurd (hcap _ h) (by omega)) _
        refine wpIn_mono (hbody _ ((Kept.refl _ A1).putObj (by simp) _) (by simp [World.putObj])) ?_
        have fin : ∀ (jump : Option Code) (W3 : World), Kept (Keeps w.heap.size Z cap) (A1.putObj (w.heap.size + 1) (.loop { rec .ready none with state := .busy })) W3 →
            (Instr.endRound (w.heap.size + 1) jump).run P W3 = .ok (.bool jump.isNone) (W3.putObj (w.heap.size + 1) (.loop (rec (if jump.isNone then .ready else .done) jump))) ∧
            (W3.putObj (w.heap.size + 1) (.loop (rec (if jump.isNone then .ready else .done) jump))).heap[w.heap.size + 1]? = some (.loop (rec (if jump.isNone then .ready else .done) jump)) ∧
            (W3.putObj (w.heap.size + 1) (.loop (rec (if jump.isNone then .ready else .done) jump))).heap[w.heap.size]? = some (.deferred (some [])) ∧
            Kept (fun b => ¬ Priv w.heap.size Z b) W3 (W3.putObj (w.heap.size + 1) (.loop (rec (if jump.isNone then .ready else .done) jump))) ∧
            Kept (fun b => Priv W1.heap.size Z b ∨ cap b) A (W3.putObj (w.heap.size + 1) (.loop (rec (if jump.isNone then .ready else .done) jump))) := fun jump W3 hk3 => by
          have hsz2 : (A1.putObj (w.heap.size + 1) (.loop { rec .ready none with state := .busy })).heap.size = A1.heap.size := by simp [World.putObj]
          have hl3 := (hk3.block (w.heap.size + 1) (by omega) (.inl ⟨by omega, by omega⟩)).trans hl2
          have hd3 := (hk3.block w.heap.size (by omega) (.inl ⟨by omega, by omega⟩)).trans hk2
          have := run_endRound (P := P) jump hl3
          rw [hrec] at this ⊢
          refine ⟨this, World.putObj_heap_same (Array.getElem?_eq_some_iff.1 hl3).1, (World.putObj_heap_other (by omega)).trans hd3, (Kept.refl _ _).putObj (fun h => h ⟨by omega, by omega⟩) _, ?_⟩
          refine (hA2.trans ?_).putObj (fun h => by rcases h with h | h; exact absurd h.1 (by omega); exact absurd (hcap _ h) (by omega)) _
          rw [hrec] at hk3 ⊢
          exact hk3.mono (fun b h => h.imp (fun h => ⟨by have := h.1; omega, h.2⟩) id)
        rintro e a3 W3 hp
        cases e with
        | normal =>
          obtain ⟨hk3, hi3⟩ := hp
          obtain ⟨hr, hl4, hk4, hp4, hq4⟩ := fin none W3 hk3
          exact ⟨_, _, hr, .inl ⟨rfl, ⟨hI _ _ _ _ hi3 hp4, hl4, hk4⟩, hq4⟩⟩
        | ret =>
          obtain ⟨hk3, hi3⟩ := hp
          obtain ⟨hr, hl4, hk4, hp4, hq4⟩ := fin (some .ret) W3 hk3
          exact ⟨_, _, hr, .inr ⟨rfl, hZ1, .ret, hIx _ _ _ _ _ hi3 hp4, hl4, hk4⟩⟩
        | exit id =>
          obtain ⟨hk3, hi3⟩ := hp
          obtain ⟨hr, hl4, hk4, hp4, hq4⟩ := fin (some (.exit id)) W3 hk3
          exact ⟨_, _, hr, .inr ⟨rfl, hZ1, .exit id, hIx _ _ _ _ _ hi3 hp4, hl4, hk4⟩⟩
        | goto t =>
          obtain ⟨hk3, hi3⟩ := hp
          obtain ⟨hr, hl4, hk4, hp4, hq4⟩ := fin (some (.goto t)) W3 hk3
          exact ⟨_, _, hr, .inr ⟨rfl, hZ1, .goto t, hIx _ _ _ _ _ hi3 hp4, hl4, hk4⟩⟩
        | panic ch => exact hp.elim
        | outgrown => exact hp.elim
    · rintro e W2 ⟨⟨v, rfl⟩, Z, hZ, (⟨hi, hl, hk⟩ | ⟨i, hlt, hZ', c, hi, hl, hk⟩)⟩
      · exact ⟨none, _, by have := run_endLoop (P := P) hl (by rw [hrec]; simp); rw [hrec] at this; exact this, hdone Z _ (hI _ _ _ _ hi ((Kept.refl _ _).putObj (fun h => h ⟨by omega, by omega⟩) _)) ((World.putObj_heap_other (by omega)).trans hk)⟩
      · exact ⟨some c, _, by have := run_endLoop (P := P) hl (by rw [hrec]; simp); rw [hrec] at this; exact this, wpIn_wide.2 (hstop Z c i _ hlt (hIx _ _ _ _ _ hi ((Kept.refl _ _).putObj (fun h => h ⟨by omega, by omega⟩) _)) ((World.putObj_heap_other (by omega)).trans hk))⟩
theorem Blk.putObj {w : World} {g D : Nat} {t : TypeId} {cs : Array Value} (h : Blk w g t cs) (hne : g ≠ D) (o : Obj) : Blk (w.putObj D o) g t cs := (World.putObj_heap_other hne).trans h
theorem putObj_below {n D : Nat} {w w' : World} (h : Below n w w') (hD : n ≤ D) (o : Obj) : Below n w (w'.putObj D o) :=
  h.trans ⟨rfl, rfl, rfl, by simp [World.putObj], fun k hk => World.putObj_heap_other (by omega)⟩
theorem def_far {w : World} {D : Nat} {p : Addr} {u : Value} {o : Obj} (h : w.heap[D]? = some o) (hp : D ≠ p.block) : (w.setCell p u).heap[D]? = some o := (Below.heap_setCell w p u D hp).trans h
theorem leave_mark {F : Fence} {n : Nat} {P : Program} {fn : Func} {R : Ending → World → Prop} {tmps : Array Value} {w : World} {D : Nat} {v : Value} (hD : w.heap[D]? = some (.deferred (some [])))
    (hv : (results fn tmps).run P (w.putObj D (.deferred none)) = .ok v (w.putObj D (.deferred none))) (hR : R (.returned v) (w.putObj D (.deferred none))) : bodyPostM F n P fn R .ret { tmps := tmps, defers := [{ target := .collected D, args := #[] }] } w := by
  refine ⟨by simp, .inl ⟨_, _, rfl, run_takeDeferred hD, ?_⟩⟩
  exact ⟨v, hv, hR⟩
end Go.Proofs.YtmbccnioijokfaaGreatDoor

namespace Go.Proofs.YtmbccnioijokfaaGreatDoor
open Go.RowKit
abbrev Asn := World → (Nat → Prop) → Prop
structure Asn.Fit (u8 : TypeId) (P : Asn) : Prop where
  lt : ∀ {w M}, P w M → ∀ b, M b → b < w.heap.size
  nob : ∀ {w M}, P w M → ∀ b, M b → ∀ cs, ¬ Blk w b u8 cs
  kept : ∀ {w M w' K}, P w M → Kept K w w' → (∀ b, M b → K b) → (∀ b cs, Blk w b u8 cs → K b) → P w' M
def Aft (P : Asn) (w : World) (M : Nat → Prop) (w' : World) : Prop := ∃ M', P w' M' ∧ (∀ b, M' b → M b ∨ w.heap.size ≤ b) ∧ Kept (fun b => ¬ M b) w w'
section
variable {u8 : TypeId} {P Q P' : Asn} {w w' w'' : World} {M M' N : Nat → Prop}
theorem Asn.Fit.on (F : Asn.Fit u8 P) (h : P w M) (hb : Below w.heap.size w w') : P w' M := F.kept h (Kept.of_below hb |>.mono fun _ _ => trivial) (fun _ _ => trivial) (fun _ _ _ => trivial)
theorem Asn.Fit.beside (F : Asn.Fit u8 P) (h : P w M) (hk : Kept (fun b => ¬ N b) w w') (hd : ∀ b, M b → ¬ N b) (hn : ∀ b, N b → ∀ cs, ¬ Blk w b u8 cs) : P w' M :=
  F.kept h hk hd (fun b cs hB hN => hn b hN cs hB)
theorem Aft.below (h : P w' M) (hb : Below w.heap.size w w') : Aft P w M w' := ⟨M, h, fun _ h => .inl h, (Kept.of_below hb).mono fun _ _ => trivial⟩
theorem Aft.mono (h : Aft P w M w') (k : ∀ M', P w' M' → Q w' M') : Aft Q w M w' := by
  obtain ⟨M', h1, h2, h3⟩ := h
  exact ⟨M', k M' h1, h2, h3⟩
theorem Aft.on (F : Asn.Fit u8 P) (h : Aft P w M w') (hb : Below w'.heap.size w' w'') : Aft P w M w'' := by
  obtain ⟨M', h1, h2, h3⟩ := h
  exact ⟨M', F.on h1 hb, h2, h3.on hb⟩
theorem Aft.ahead (hb : Below w.heap.size w w') (h : Aft P w' M w'') : Aft P w M w'' := by
  obtain ⟨M', h1, h2, h3⟩ := h
  exact ⟨M', h1, fun b hM => (h2 b hM).imp_right (Nat.le_trans hb.size), ((Kept.of_below hb).mono fun _ _ => trivial).trans h3⟩
theorem kept_two (h2 : ∀ b, M' b → M b ∨ w.heap.size ≤ b) (h3 : Kept (fun b => ¬ M b) w w') (k : Kept (fun b => ¬ M' b) w' w'') : Kept (fun b => ¬ M b) w w'' :=
  ⟨k.os.trans h3.os, k.tape.trans h3.tape, k.output.trans h3.output, Nat.le_trans h3.size k.size, fun b hb hM => (k.block b (Nat.lt_of_lt_of_le hb h3.size) fun h => by
    rcases h2 b h with h | h
    · exact hM h
    · omega).trans (h3.block b hb hM)⟩
theorem Aft.bind (h2 : ∀ b, M' b → M b ∨ w.heap.size ≤ b) (h3 : Kept (fun b => ¬ M b) w w') (k : Aft P w' M' w'') : Aft P w M w'' := by
  obtain ⟨M'', k1, k2, k3⟩ := k
  refine ⟨M'', k1, fun b hb => ?_, kept_two h2 h3 k3⟩
  rcases k2 b hb with h | h
  · exact h2 b h
  · exact .inr (Nat.le_trans h3.size h)
theorem Aft.size (h : Aft P w M w') : w.heap.size ≤ w'.heap.size := by
  obtain ⟨M', -, -, h3⟩ := h
  exact h3.size
theorem Aft.blk {g : Nat} {t : TypeId} {cs : Array Value} (h : Aft P w M w') (hg : ¬ M g) (hB : Blk w g t cs) : Blk w' g t cs := by
  obtain ⟨M', -, -, h3⟩ := h
  exact h3.blk hg hB
theorem Aft.kept (h : Aft P w M w') : Kept (fun b => ¬ M b) w w' := by
  obtain ⟨M', -, -, h3⟩ := h
  exact h3
def Both (P Q : Asn) : Asn := fun w M => ∃ A B, P w A ∧ Q w B ∧ (∀ b, A b → ¬ B b) ∧ ∀ b, M b ↔ A b ∨ B b
theorem both_fit (F : Asn.Fit u8 P) (G : Asn.Fit u8 Q) : Asn.Fit u8 (Both P Q) where
  lt := fun ⟨A, B, h1, h2, _, hM⟩ b hb => by
    rcases (hM b).1 hb with h | h
    · exact F.lt h1 b h
    · exact G.lt h2 b h
  nob := fun ⟨A, B, h1, h2, _, hM⟩ b hb cs => by
    rcases (hM b).1 hb with h | h
    · exact F.nob h1 b h cs
    · exact G.nob h2 b h cs
  kept := fun ⟨A, B, h1, h2, hd, hM⟩ hk k1 k2 => ⟨A, B, F.kept h1 hk (fun b hb => k1 b ((hM b).2 (.inl hb))) k2, G.kept h2 hk (fun b hb => k1 b ((hM b).2 (.inr hb))) k2, hd, hM⟩
theorem both_left {A B : Nat → Prop} (F : Asn.Fit u8 P) (G : Asn.Fit u8 Q) (h1 : P w A) (h2 : Q w B) (hd : ∀ b, A b → ¬ B b) (hM : ∀ b, M b ↔ A b ∨ B b) (h : Aft P' w A w') : Aft (Both P' Q) w M w' := by
  obtain ⟨A', k1, k2, k3⟩ := h
  refine ⟨fun b => A' b ∨ B b, ⟨A', B, k1, G.beside h2 k3 (fun b hB hA => hd b hA hB) (F.nob h1), fun b hA hB => ?_, fun _ => Iff.rfl⟩, fun b hb => ?_, k3.mono fun b hb hA => hb ((hM b).2 (.inl hA))⟩
  · rcases k2 b hA with h | h
    · exact hd b h hB
    · have := G.lt h2 b hB; omega
  · rcases hb with hb | hb
    · exact (k2 b hb).imp_left fun h => (hM b).2 (.inl h)
    · exact .inl ((hM b).2 (.inr hb))
end
end Go.Proofs.YtmbccnioijokfaaGreatDoor

namespace Go.Proofs.YtmbccnioijokfaaGreatDoor
open Go.RowKit
section
variable {P : Program} {ops : Array Oper} {md : Region.Mode} {C : World → Prop}
def tailFrom (md : Region.Mode) (ops : Array Oper) : Nat → Nat → Array Bool → Bool
  | 0, _, listed => (Region.ready md ops listed).isEmpty
  | f + 1, k, listed => decide (Region.ready md ops listed = [k]) && tailFrom md ops f (k + 1) (listed.setIfInBounds k true)
theorem wpAny_of_tail {Q : Exit → Act → World → Prop} : ∀ (l : List Oper) (k : Nat) (listed : Array Bool) (a : Act) (w : World), (∀ j, j < l.length → l[j]? = ops[k + j]?) → tailFrom md ops l.length k listed = true → wpList P ops Q l a w →
    wpAny P md ops Q l.length listed a w := by
  intro l
  induction l with
  | nil =>
    intro k listed a w _ hB h
    simp only [List.length_nil, tailFrom, List.isEmpty_iff] at hB
    exact ⟨hB, h⟩
  | cons o l ih =>
    intro k listed a w hl hB h
    have h0 : ops[k]? = some o := by simpa using (hl 0 (by simp)).symm
    simp only [List.length_cons, tailFrom, Bool.and_eq_true, decide_eq_true_eq] at hB
    refine ⟨fun he => (by rw [hB.1] at he; cases he), fun i hi => ?_⟩
    rw [hB.1] at hi
    obtain rfl : i = k := by simpa using hi
    refine wpOp_mono (K := wpList P ops Q l) (fun a w h' => ih (i + 1) _ a w (fun j hj => by have := hl (j + 1) (by simpa using hj); simpa [Nat.add_assoc, Nat.add_comm 1 j] using this) hB.2 h') ?_
    unfold wpOp
    rw [h0]
    exact h
def beforeT (P : Program) (md : Region.Mode) (ops : Array Oper) (C : World → Prop) (n s : Nat) (L : Act → Prop) : Nat → Array Bool → Act → Prop
  | 0, listed, a => tailFrom md ops s n listed = true ∧ L a
  | f + 1, listed, a => n ∉ Region.ready md ops listed ∧ Region.ready md ops listed ≠ [] ∧ ∀ i ∈ Region.ready md ops listed, rOp P ops C i (beforeT P md ops C n s L f (listed.setIfInBounds i true)) a
theorem tail_ready {n s : Nat} {listed : Array Bool} (h : tailFrom md ops s n listed = true) {j : Nat} (hj : j ∈ Region.ready md ops listed) : j = n := by
  cases s with
  | zero =>
    simp only [tailFrom, List.isEmpty_iff] at h
    rw [h] at hj; cases hj
  | succ s =>
    simp only [tailFrom, Bool.and_eq_true, decide_eq_true_eq] at h
    rw [h.1] at hj
    simpa using hj
theorem beforeT_first {n s i : Nat} {oi : Oper} {v : Value} {L : Act → Prop} (hi : ops[i]? = some oi) (hwt : ∀ l', n ∈ Region.ready md ops l' → l'.getD i false = true) (hsel : ∀ (j : Nat) (o : Oper) cs b, ops[j]? = some o → o.op ≠ .select cs b) :
    ∀ (f : Nat) (listed : Array Bool) (a : Act),
      (∀ j oj, ops[j]? = some oj → j ≠ i → listed.getD j true = false → (∀ e ∈ oj.after, Region.binds md e = true → e.on ≠ i) → oi.apart ops oj = true) →
      i ∈ Region.ready md ops listed → n ∉ Region.ready md ops listed → Gives P ops C oi v a →
      beforeT P md ops C n s L f (listed.setIfInBounds i true) (a.put oi.dst v) → beforeT P md ops C n s L (f + 1) listed a := by
  intro f
  induction f with
  | zero =>
    intro listed a _ hr hn hy H
    refine ⟨hn, fun h => (by rw [h] at hr; cases hr), fun j hj => ?_⟩
    by_cases hji : j = i
    · subst hji; exact hy.rOp hi H
    · have h1 := ready_mono hj hji
      obtain rfl : j = n := tail_ready H.1 h1
      exact absurd hj hn
  | succ f ih =>
    intro listed a hfree hr hn hy H
    refine ⟨hn, fun h => (by rw [h] at hr; cases hr), fun j hj => ?_⟩
    by_cases hji : j = i
    · subst hji; exact hy.rOp hi H
    · obtain ⟨hun, oj, hoj, hwait⟩ := mem_ready.1 hj
      have hun_i := (mem_ready.1 hr).1
      have hap : oi.apart ops oj = true := hfree j oj hoj hji hun fun e he hb heq => by
        have h2 := hwait e he hb
        rw [heq] at h2
        by_cases hs : i < listed.size <;> simp [hs] at hun_i h2
        rw [hun_i] at h2
        cases h2
      have hq := rOp_put hoj hap (apart_swap hap) (fun cs b => hsel i oi cs b hi) (fun cs b => hsel j oj cs b hoj) hy (H.2.2 j (ready_mono hj hji))
      refine rOp_mono (fun a' h3 => ih (listed.setIfInBounds j true) a' ?_ (ready_mono hr (Ne.symm hji)) ?_ h3.1 ?_) hq
      · intro k ok hk hki hun' hno
        refine hfree k ok hk hki ?_ hno
        by_cases hjk : j = k
        · subst hjk; exact hun
        · rwa [getD_set_ne true hjk] at hun'
      · intro hn'
        have h5 := hwt _ hn'
        rw [getD_set_ne false hji] at h5
        have h6 := (mem_ready.1 hr).1
        by_cases hs : i < listed.size <;> simp [hs] at h5 h6
        rw [h6] at h5
        cases h5
      · rw [Array.setIfInBounds_comm _ _ hji]
        exact h3.2
def quietFrom (md : Region.Mode) (ops : Array Oper) (n s : Nat) : Nat → Nat → Array Bool → Bool
  | 0, _, listed => tailFrom md ops s n listed
  | f + 1, k, listed => (Region.ready md ops listed).contains k && Region.free md ops listed k && !(Region.ready md ops listed).contains n &&
      (match ops[n]? with | some o => o.after.any (fun e => Region.binds md e && e.on == k) | none => true) && quietFrom md ops n s f (k + 1) (listed.setIfInBounds k true)
theorem beforeT_lex {n s : Nat} {L : Act → Prop} (hs : Region.noSelect ops = true) : ∀ (l : List Oper) (k : Nat) (listed : Array Bool) (a : Act), (∀ j, j < l.length → l[j]? = ops[k + j]?) →
    quietFrom md ops n s l.length k listed = true → wpRel P ops C L l a → beforeT P md ops C n s L l.length listed a := by
  intro l
  induction l with
  | nil =>
    intro k listed a _ hB h
    exact ⟨hB, h⟩
  | cons o l ih =>
    intro k listed a hl hB h
    have h0 : ops[k]? = some o := by simpa using (hl 0 (by simp)).symm
    simp only [List.length_cons, quietFrom, Bool.and_eq_true, Bool.not_eq_true'] at hB
    obtain ⟨⟨⟨⟨hr, hf⟩, hn⟩, hw⟩, hB'⟩ := hB
    have hst : rOp P ops C k (wpRel P ops C L l) a := by unfold rOp; rw [h0]; exact h
    obtain ⟨v, hy, hK⟩ := gives_of_rOp h0 hst
    refine beforeT_first h0 (fun l' hn' => ?_) (Region.noSelect_spec hs) l.length listed a (Region.free_spec h0 hf) (by simpa using hr) (by simpa using hn) hy
      (ih (k + 1) _ _ (fun j hj => by have := hl (j + 1) (by simpa using hj); simpa [Nat.add_assoc, Nat.add_comm 1 j] using this) hB' hK)
    obtain ⟨_, oL, hoL, hall⟩ := mem_ready.1 hn'
    rw [hoL] at hw
    obtain ⟨e, he, hbe⟩ := Array.any_eq_true'.1 hw
    simp only [Bool.and_eq_true, beq_iff_eq] at hbe
    have := hall e he hbe.1
    rwa [hbe.2] at this
theorem wpAny_of_beforeT {n s : Nat} {L : Act → Prop} {Q' : Exit → Act → World → Prop} (hC : ∀ w w', C w → Below w.heap.size w w' → C w')
    (hL : ∀ listed a w, tailFrom md ops s n listed = true → C w → L a → wpAny P md ops Q' s listed a w) :
    ∀ (f : Nat) (listed : Array Bool) (a : Act) (w : World), C w → beforeT P md ops C n s L f listed a → wpAny P md ops Q' (f + s) listed a w := by
  intro f
  induction f with
  | zero =>
    intro listed a w hw h
    rw [Nat.zero_add]
    exact hL _ _ _ h.1 hw h.2
  | succ f ih =>
    intro listed a w hw h
    obtain ⟨_, h1, h2⟩ := h
    rw [Nat.succ_add]
    refine ⟨fun h => absurd h h1, fun i hi => ?_⟩
    obtain ⟨_, o, ho, _⟩ := mem_ready.1 hi
    obtain ⟨v, hy, hK⟩ := gives_of_rOp ho (h2 i hi)
    unfold wpOp
    rw [ho]
    dsimp only
    rcases hy with ⟨hwn, hv⟩ | ⟨hwn, rfl⟩
    · rw [if_pos hwn]
      exact .inl (wp_of_relAt (hv w hw) fun w' hb => ih _ _ _ (hC w w' hw hb) hK)
    · rw [if_neg (by rw [hwn]; decide)]
      exact ih _ _ _ hw hK
abbrev Rel := Value → World → Prop
theorem getD_any {listed : Array Bool} {i : Nat} (h : i < listed.size) : listed.getD i true = listed.getD i false := by simp [h]
variable {m s : Nat} {oA : Oper} {R : Rel} {L : Act → Prop} {Q' : Exit → Act → World → Prop}
abbrev Cls (w : World) : World → Prop := fun w' => ∃ p : Regrown, w' = Go.Sort.grow (redrawn w p.d) p.os
theorem cls_below {w w' : World} (h : Cls w w') : Below w.heap.size w w' := by obtain ⟨p, rfl⟩ := h; exact below_regrown w p.d p.os
theorem cls_on {w w1 w2 : World} (h : Cls w w1) (k : Below w1.heap.size w1 w2) : Cls w w2 := regrown_of_below (after (cls_below h) k)
theorem cls_drawn (w : World) : Cls w { w with drawn := w.drawn + 1 } := ⟨⟨w.drawn + 1, #[]⟩, by rw [Go.Sort.grow_empty]; rfl⟩
def regB (md : Region.Mode) (ops : Array Oper) (k : Nat) : Bool := Region.noSelect ops && quietFrom md ops k (ops.size - k) k 0 (Array.replicate ops.size false)
theorem any_reg {Q : Exit → Act → World → Prop} {a : Act} {w : World} {l : List Oper} (k : Nat) (hk : k ≤ l.length) (hB : regB .any l.toArray k = true)
    (h : wpRel P l.toArray (Cls w) (fun a' => ∀ w', Below w.heap.size w w' → wpList P l.toArray Q (l.drop k) a' w') (l.take k) a) :
    Go.wpAny P .any l.toArray Q l.toArray.size (Array.replicate l.toArray.size false) a { w with drawn := w.drawn + 1 } := by
  simp only [regB, Bool.and_eq_true] at hB
  have hsz : l.toArray.size = l.length := by simp
  have ht : (l.take k).length = k := by simp; omega
  have hx := beforeT_lex (C := Cls w) (md := .any) (n := k) (s := l.toArray.size - k) hB.1 (l.take k) 0 (Array.replicate l.toArray.size false) a
    (fun j hj => by simp only [Nat.zero_add, List.getElem?_toArray]; rw [List.getElem?_take_of_lt (by omega)]) (by rw [ht]; exact hB.2) h
  rw [ht] at hx
  have := wpAny_of_beforeT (Q' := Q) (fun w1 w2 h1 h2 => cls_on h1 h2) (fun listed a' w' ht' hw' hL => by
    have hd : (l.drop k).length = l.toArray.size - k := by simp
    have h5 := wpAny_of_tail (P := P) (Q := Q) (md := .any) (ops := l.toArray) (l.drop k) k listed a' w' (fun j hj => by simp [List.getElem?_drop]) (by rw [hd]; exact ht') (hL w' (cls_below hw'))
    rw [hd] at h5
    exact h5) k (Array.replicate l.toArray.size false) a { w with drawn := w.drawn + 1 } (cls_drawn w) hx
  rwa [show k + (l.toArray.size - k) = l.toArray.size by omega] at this
theorem wp_reg {id : Nat} {Q : Exit → Act → World → Prop} {a : Act} {w : World} {l : List Oper} (k : Nat) (hm : P.follows .mixedOrders = true) (hk : k ≤ l.length) (hB : regB .any l.toArray k = true)
    (h : wpRel P l.toArray (Cls w) (fun a' => ∀ w', Below w.heap.size w w' → wpList P l.toArray Q (l.drop k) a' w') (l.take k) a) : (Code.region id l.toArray true).wp P Q a w := wp_region_any hm (any_reg k hk hB h)
def noDefer (ops : Array Oper) : Bool := ops.all fun o => match o.op with | .defer _ => false | _ => true
theorem noDefer_spec (h : noDefer ops = true) {j : Nat} {o : Oper} (ho : ops[j]? = some o) (c : Call) : o.op ≠ .defer c := by
  intro heq
  have := Array.all_eq_true_iff_forall_mem.1 h o (Array.mem_of_getElem? ho)
  simp [heq] at this
theorem rowsIn_wide {l n : Nat} {row : String} {args : Array Value} {w : World} {X : Value → World → Prop} (h : Rows P row args w X) : RowsIn (Fence.wide.inRound l) n P row args w X :=
  fun c cs _ => let ⟨v, w', hx, hs⟩ := h c cs; ⟨v, w', hx, by rw [fenced_inRound]; exact stepsIn_wide.2 hs⟩
theorem op_in {l n : Nat} {o : Oper} {a : Act} {w : World} {K K' : Act → World → Prop} {Q : Exit → Act → World → Prop} (hd : ∀ c, o.op ≠ .defer c) (hK : ∀ a w, K a w → K' a w) (h : o.wp P a w K Q) : o.wpIn (Fence.wide.inRound l) n P a w K' Q := by
  refine ⟨fun _ _ => trivial, ?_⟩
  rw [Oper.semAt_eq _ _ _ hd]
  unfold Oper.wp at h
  generalize (execOp a.eval o).run P w = r at *
  cases r with
  | ok nx w' =>
    cases nx <;> simp only [Oper.upon] at h <;> simp only [Oper.uponIn]
    case value u => exact hK _ _ h
    case skip => exact hK _ _ h
    case defer d => exact hK _ _ h
    case enter f args =>
      refine ⟨fun h => (by cases h), CallsIn.inRound l (callsIn_wide.2 (h.mono fun e w'' he => ?_))⟩
      cases e with
      | returned v => exact hK _ _ he
      | panicked c => exact he
      | outgrown => exact he
    case row r args => exact ⟨fun h => (by cases h), rowsIn_wide fun c cs => let ⟨v, w'', hx, hs⟩ := h c cs; ⟨v, w'', hK _ _ hx, hs⟩⟩
  | halt x w' => cases x <;> simp only [Oper.upon] at h <;> first | exact h | cases h
theorem any_in {l n : Nat} {Q : Exit → Act → World → Prop} (hd : noDefer ops = true) (hQ : ¬ LetsOut Q) : ∀ (f : Nat) (listed : Array Bool) (a : Act) (w : World), Go.wpAny P md ops Q f listed a w → wpAnyIn (Fence.wide.inRound l) n P md ops Q f listed a w := by
  intro f
  induction f with
  | zero => intro listed a w h; exact h
  | succ f ih =>
    intro listed a w h
    refine ⟨h.1, fun i hi => ?_⟩
    have h1 := h.2 i hi
    unfold wpOp at h1
    unfold wpOpIn
    cases ho : ops[i]? with
    | none => rw [ho] at h1; exact ih _ _ _ h1
    | some o =>
      rw [ho] at h1
      dsimp only at h1 ⊢
      by_cases hw : Region.wanted o (yielded ops a.tmps) = true
      · rw [if_pos hw] at h1 ⊢
        rcases h1 with h1 | h1
        · exact op_in (noDefer_spec hd ho) (fun a w => ih _ a w) h1
        · exact absurd h1.2 hQ
      · rw [if_neg hw] at h1 ⊢
        exact ⟨fun _ _ => trivial, ih _ _ _ h1⟩
end
end Go.Proofs.YtmbccnioijokfaaGreatDoor

