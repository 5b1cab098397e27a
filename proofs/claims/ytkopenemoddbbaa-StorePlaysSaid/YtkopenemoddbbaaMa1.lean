/- Texts that build one behind the other, laid together: CrcP Base DiskP Shut Next Byt App App2 RF Row DiskW Crc5 Base2. -/
import Derived.Laws.BitsAllLaws
import Derived.RowKit
import Derived.WalkKit
import Derived.WalkSpells
import Derived.WalkLawsBesides
import Derived.Handy
import Derived.Lib.QuietBelow
import Derived.Lib.Hide
import Derived.BigQuiet
import Derived.Deep.RegionHeld3
import Derived.Shelf.Abstract
import Derived.Test.YtkopenemoddbbaaRows
import Derived.ProofKit
import Derived.OpenShut
import Derived.Deep.Slices
import Derived.Lib.AppendZeros
import Derived.Deep.Upon
import Derived.RangeFuncNested
import Derived.RangeFuncBound
import Derived.RangeFuncCalls
import Derived.RangeFuncLeaves
import Derived.Maps.OwnSet
import Derived.Maps.RangeWalk
import Derived.Test.YtkopenemoddbbaaChecked
import Derived.Deep.Cut
import Derived.Lib.SliceRun
/- The check of bytes: the plain law. A bit's step turns 16 bits; it keeps xor, and takes nothing but 0 to 0. -/
namespace Go.Proofs.Ytkopenemoddbbaa
open Go.RowKit

abbrev B16 := BitVec 16
abbrev B8 := BitVec 8
/-- One bit's step. -/
def st (c : B16) : B16 := (c <<< 1) ^^^ (if c.msb then 0x1021#16 else 0#16)
theorem st_xor (a b : B16) : st (a ^^^ b) = st a ^^^ st b := by
  unfold st
  rw [BitVec.msb_xor, BitVec.shiftLeft_xor_distrib]
  cases a.msb <;> cases b.msb <;> simp
  · ac_rfl
  · ac_rfl
  · rw [show a <<< 1 ^^^ 0x1021#16 ^^^ (b <<< 1 ^^^ 0x1021#16) = a <<< 1 ^^^ b <<< 1 ^^^ (0x1021#16 ^^^ 0x1021#16) by ac_rfl]; simp
theorem st_zero : st 0#16 = 0#16 := by decide
theorem st_inj {c : B16} (h : st c = 0#16) : c = 0#16 := by
  unfold st at h
  cases hm : c.msb with
  | true =>
    rw [hm] at h
    have h0 := congrArg (fun x : B16 => x.getLsbD 0) h
    simp at h0
  | false =>
    rw [hm] at h
    simp at h
    apply BitVec.eq_of_getLsbD_eq
    intro i hi
    by_cases h15 : i = 15
    · subst h15; rw [← BitVec.msb_eq_getLsbD_last]; simpa using hm
    · have h1 := congrArg (fun x : B16 => x.getLsbD (i + 1)) h
      simp at h1
      simpa using h1 (by omega)
/-- So many bits' steps. -/
def stN : Nat → B16 → B16
  | 0, c => c
  | n + 1, c => stN n (st c)
theorem stN_xor : ∀ n (a b : B16), stN n (a ^^^ b) = stN n a ^^^ stN n b
  | 0, _, _ => rfl
  | n + 1, a, b => by show stN n (st (a ^^^ b)) = _; rw [st_xor, stN_xor n]; rfl
theorem stN_inj : ∀ n {c : B16}, stN n c = 0#16 → c = 0#16
  | 0, _, h => h
  | n + 1, _, h => st_inj (stN_inj n h)
theorem stN_add : ∀ m n (c : B16), stN n (stN m c) = stN (m + n) c
  | 0, n, c => by simp [stN]
  | m + 1, n, c => by show stN n (stN m (st c)) = _; rw [stN_add m n, show m + 1 + n = (m + n) + 1 by omega]; rfl
theorem stN_succ (n : Nat) (c : B16) : st (stN n c) = stN (n + 1) c := (stN_add n 1 c)
/-- Two maps that keep xor are alike if they are on the 16 bits. -/
theorem lin_ext (f g : B16 → B16) (hf : ∀ a b, f (a ^^^ b) = f a ^^^ f b) (hg : ∀ a b, g (a ^^^ b) = g a ^^^ g b) (h : ∀ i, i < 16 → f (BitVec.twoPow 16 i) = g (BitVec.twoPow 16 i)) (c : B16) : f c = g c := by
  have hz : ∀ F : B16 → B16, (∀ a b, F (a ^^^ b) = F a ^^^ F b) → F 0#16 = 0#16 := fun F hF => by
    have := hF 0#16 0#16
    simpa using this
  have key : ∀ k, k ≤ 16 → ∀ c : B16, (∀ i, k ≤ i → c.getLsbD i = false) → f c = g c := by
    intro k
    induction k with
    | zero =>
      intro _ c hc
      have : c = 0#16 := BitVec.eq_of_getLsbD_eq fun i _ => by simp [hc i (by omega)]
      rw [this, hz f hf, hz g hg]
    | succ k ih =>
      intro hk c hc
      cases hb : c.getLsbD k with
      | false =>
        refine ih (by omega) c fun i hi => ?_
        by_cases hik : i = k
        · rw [hik]; exact hb
        · exact hc i (by omega)
      | true =>
        have e : c = (c ^^^ BitVec.twoPow 16 k) ^^^ BitVec.twoPow 16 k := by rw [BitVec.xor_assoc]; simp
        rw [e, hf, hg, h k (by omega), ih (by omega) (c ^^^ BitVec.twoPow 16 k) fun i hi => ?_]
        rw [BitVec.getLsbD_xor, BitVec.getLsbD_twoPow]
        by_cases hik : i = k
        · subst hik; rw [hb]; simp; omega
        · rw [hc i (by omega)]; simp; omega
  exact key 16 (by omega) c fun i hi => BitVec.getLsbD_of_ge c i hi
/-- What the highest four bits do. -/
def tb (i : B16) : B16 := stN 4 (i <<< 12)
theorem tb_xor (a b : B16) : tb (a ^^^ b) = tb a ^^^ tb b := by unfold tb; rw [BitVec.shiftLeft_xor_distrib, stN_xor]
theorem four (c : B16) : (c <<< 4) ^^^ tb (c >>> 12) = stN 4 c := by
  refine lin_ext (fun c => (c <<< 4) ^^^ tb (c >>> 12)) (stN 4) (fun a b => ?_) (stN_xor 4) (by decide) c
  rw [BitVec.shiftLeft_xor_distrib, BitVec.ushiftRight_xor_distrib, tb_xor]
  ac_rfl
/-- The check with four bits more, and with a byte more. -/
def nib (c y : B16) : B16 := (c <<< 4) ^^^ tb ((c >>> 12) ^^^ y)
theorem nib_eq (c y : B16) : nib c y = stN 4 (c ^^^ (y <<< 12)) := by
  unfold nib
  rw [tb_xor, stN_xor, ← four c]
  unfold tb
  ac_rfl
def crcUp (c : B16) (x : B8) : B16 := stN 8 (c ^^^ (x.setWidth 16 <<< 8))
theorem low8 : ∀ x : B8, stN 4 ((x.setWidth 16 &&& 15#16) <<< 8) = (x.setWidth 16 &&& 15#16) <<< 12 := by decide +kernel
theorem split8 : ∀ x : B8, (x.setWidth 16 : B16) <<< 8 = ((x.setWidth 16 >>> 4) <<< 12) ^^^ ((x.setWidth 16 &&& 15#16) <<< 8) := by decide +kernel
theorem nib_nib (c : B16) (x : B8) : nib (nib c (x.setWidth 16 >>> 4)) (x.setWidth 16 &&& 15#16) = crcUp c x := by
  rw [nib_eq, nib_eq, ← low8, ← stN_xor, stN_add]
  unfold crcUp
  rw [split8, BitVec.xor_assoc]
/-- The check of the first k bytes. -/
def crcN (c : B16) (F : Nat → B8) : Nat → B16
  | 0 => c
  | k + 1 => crcUp (crcN c F k) (F k)
theorem up_xor (a b : B16) (x y : B8) : crcUp (a ^^^ b) (x ^^^ y) = crcUp a x ^^^ crcUp b y := by
  unfold crcUp
  rw [← stN_xor]
  congr 1
  rw [BitVec.setWidth_xor, BitVec.shiftLeft_xor_distrib]
  ac_rfl
theorem up_inj {a : B16} (h : crcUp a 0#8 = 0#16) : a = 0#16 := by
  unfold crcUp at h
  simpa using stN_inj 8 h
theorem crcN_xor (a b : B16) (F G : Nat → B8) : ∀ n, crcN (a ^^^ b) (fun i => F i ^^^ G i) n = crcN a F n ^^^ crcN b G n
  | 0 => rfl
  | n + 1 => by show crcUp _ _ = _; rw [crcN_xor a b F G n, up_xor]; rfl
theorem crcN_cong (a : B16) (F G : Nat → B8) : ∀ n, (∀ i, i < n → F i = G i) → crcN a F n = crcN a G n
  | 0, _ => rfl
  | n + 1, h => by show crcUp _ _ = crcUp _ _; rw [crcN_cong a F G n fun i hi => h i (by omega), h n (by omega)]
/-- What is alike but for two bytes side by side has the same check only if it is alike. -/
theorem crcN_two (c : B16) (F G : Nat → B8) (n k : Nat) (hk : k + 1 < n) (hF : ∀ i, i < n → i ≠ k → i ≠ k + 1 → F i = G i) (h : crcN c F n = crcN c G n) : F k = G k ∧ F (k + 1) = G (k + 1) := by
  have hD : ∀ m, crcN 0#16 (fun i => F i ^^^ G i) m = crcN c F m ^^^ crcN c G m := fun m => by rw [← crcN_xor]; simp
  have h0 : ∀ m, m ≤ n → k + 2 ≤ m → crcN 0#16 (fun i => F i ^^^ G i) m = 0#16 → crcN 0#16 (fun i => F i ^^^ G i) (k + 2) = 0#16 := by
    intro m
    induction m with
    | zero => intro _ h; omega
    | succ m ih =>
      intro hm hkm hz
      by_cases he : m + 1 = k + 2
      · rw [← he]; exact hz
      · refine ih (by omega) (by omega) (up_inj ?_)
        have e : F m ^^^ G m = 0#8 := by rw [hF m (by omega) (by omega) (by omega)]; simp
        have hz' : crcUp (crcN 0#16 (fun i => F i ^^^ G i) m) (F m ^^^ G m) = 0#16 := hz
        rwa [e] at hz'
  have h1 := h0 n (by omega) (by omega) (by rw [hD, h]; simp)
  have hk0 : crcN 0#16 (fun i => F i ^^^ G i) k = 0#16 := by
    have e : ∀ m, m ≤ k → crcN 0#16 (fun i => F i ^^^ G i) m = 0#16 := by
      intro m
      induction m with
      | zero => intro _; rfl
      | succ m ih =>
        intro hm
        show crcUp _ (F m ^^^ G m) = _
        rw [ih (by omega), hF m (by omega) (by omega) (by omega)]
        simp; decide
    exact e k (by omega)
  have h2 : crcUp (crcUp (crcN 0#16 (fun i => F i ^^^ G i) k) (F k ^^^ G k)) (F (k + 1) ^^^ G (k + 1)) = 0#16 := h1
  rw [hk0] at h2
  generalize hx : F k ^^^ G k = x at h2
  generalize hy : F (k + 1) ^^^ G (k + 1) = y at h2
  have h3 := stN_inj 8 h2
  have h4 : crcUp 0#16 x = y.setWidth 16 <<< 8 := by
    have e : crcUp 0#16 x = (crcUp 0#16 x ^^^ y.setWidth 16 <<< 8) ^^^ y.setWidth 16 <<< 8 := by rw [BitVec.xor_assoc]; simp
    rw [e, h3]; simp
  have h5 : stN 8 (x.setWidth 16 <<< 8 ^^^ y.setWidth 16) = 0#16 := by
    rw [stN_xor]
    have e8 : ∀ y : B8, stN 8 (y.setWidth 16) = y.setWidth 16 <<< 8 := by decide +kernel
    rw [e8, ← h4]
    unfold crcUp
    simp
  have h6 := stN_inj 8 h5
  have hx0 : x = 0#8 := by
    apply BitVec.eq_of_getLsbD_eq
    intro i hi
    have := congrArg (fun v : B16 => v.getLsbD (i + 8)) h6
    simp at this
    simpa using this (by omega) (by omega)
  subst hx0
  have hy0 : y = 0#8 := by
    apply BitVec.eq_of_getLsbD_eq
    intro i hi
    have := congrArg (fun v : B16 => v.getLsbD i) h6
    simp at this
    simpa using this (by omega)
  subst hy0
  exact ⟨BitVec.xor_eq_zero_iff.1 hx, BitVec.xor_eq_zero_iff.1 hy⟩
/-- Behind its own check a check is 0. -/
theorem up_up_own (c : B16) : crcUp (crcUp c ((c >>> 8).setWidth 8)) (c.setWidth 8) = 0#16 := by
  have e : ∀ c : B16, stN 8 c ^^^ (c.setWidth 8).setWidth 16 <<< 8 = stN 8 (((c >>> 8).setWidth 8 : B8).setWidth 16 <<< 8) := fun c => by
    refine lin_ext (fun c => stN 8 c ^^^ (c.setWidth 8).setWidth 16 <<< 8) (fun c => stN 8 (((c >>> 8).setWidth 8 : B8).setWidth 16 <<< 8)) (fun a b => ?_) (fun a b => ?_) (by decide) c
    · rw [stN_xor, BitVec.setWidth_xor, BitVec.setWidth_xor, BitVec.shiftLeft_xor_distrib]
      ac_rfl
    · rw [BitVec.ushiftRight_xor_distrib, BitVec.setWidth_xor, BitVec.setWidth_xor, BitVec.shiftLeft_xor_distrib, stN_xor]
  show stN 8 (stN 8 (c ^^^ ((c >>> 8).setWidth 8 : B8).setWidth 16 <<< 8) ^^^ (c.setWidth 8).setWidth 16 <<< 8) = 0#16
  rw [stN_xor 8 c, ← e c]
  rw [show stN 8 c ^^^ (stN 8 c ^^^ (c.setWidth 8).setWidth 16 <<< 8) ^^^ (c.setWidth 8).setWidth 16 <<< 8 = (stN 8 c ^^^ stN 8 c) ^^^ ((c.setWidth 8).setWidth 16 <<< 8 ^^^ (c.setWidth 8).setWidth 16 <<< 8) by ac_rfl]
  simp
  decide
end Go.Proofs.Ytkopenemoddbbaa

/- Plain helpers of ours: no program in sight. -/
namespace Go.Proofs.Ytkopenemoddbbaa
open Go.RowKit

/-! ### what a number of a kind is -/
def In64 (n : Int) : Prop := -9223372036854775808 ≤ n ∧ n ≤ 9223372036854775807
theorem in64_of_wf {n : Int} (h : (Lit.int .i64 n).wf = true) : In64 n := by
  simp [Lit.wf, IntKind.min, IntKind.max, IntKind.signed, IntKind.bits] at h
  exact ⟨by omega, by omega⟩
def InU8 (n : Int) : Prop := 0 ≤ n ∧ n ≤ 255
theorem inU8_of_wf {n : Int} (h : (Lit.int .u8 n).wf = true) : InU8 n := by
  simp [Lit.wf, IntKind.min, IntKind.max, IntKind.signed, IntKind.bits] at h
  exact ⟨by omega, by omega⟩
def InU16 (n : Int) : Prop := 0 ≤ n ∧ n ≤ 65535
theorem inU16_of_wf {n : Int} (h : (Lit.int .u16 n).wf = true) : InU16 n := by
  simp [Lit.wf, IntKind.min, IntKind.max, IntKind.signed, IntKind.bits] at h
  exact ⟨by omega, by omega⟩

/-! ### endings -/
theorem ret_i {k : IntKind} {a b : Int} (h : a = b) : Ending.returned (.int k a) = .returned (.int k b) := by rw [h]
theorem ret_b {a b : Bool} (h : a = b) : Ending.returned (.bool a) = .returned (.bool b) := by rw [h]

theorem ret_t2 {a b a' b' : Value} (h : a = a') (k : b = b') : Ending.returned (.tuple #[a, b]) = .returned (.tuple #[a', b']) := by rw [h, k]
theorem ret_t3 {a b c a' b' c' : Value} (h : a = a') (k : b = b') (l : c = c') : Ending.returned (.tuple #[a, b, c]) = .returned (.tuple #[a', b', c']) := by rw [h, k, l]
theorem vi {k : IntKind} {a b : Int} (h : a = b) : Value.int k a = .int k b := by rw [h]
theorem vb {a b : Bool} (h : a = b) : Value.bool a = .bool b := by rw [h]
theorem ret_v3 {k : IntKind} {a b c a' b' c' : Int} (h : a = a') (h2 : b = b') (h3 : c = c') : Ending.returned (.agg #[.int k a, .int k b, .int k c]) = .returned (.agg #[.int k a', .int k b', .int k c']) := by rw [h, h2, h3]

/-! ### min and max, behind a name (so that a walk does not part on them) -/
def mnI (x y : Int) : Int := min x y
def mxI (x y : Int) : Int := max x y
theorem run_mn {P : Program} (ts : Array TypeId) (t : TypeId) (k k' : IntKind) (x y : Int) (w : World) : (Builtin.min_ ts t #[.int k x, .int k' y]).run P w = .ok (.int k (mnI x y)) w := by
  rw [run_min_int2]
  have h : (if y < x then y else x) = mnI x y := by unfold mnI; omega
  rw [h]
theorem run_mx {P : Program} (ts : Array TypeId) (t : TypeId) (k k' : IntKind) (x y : Int) (w : World) : (Builtin.max_ ts t #[.int k x, .int k' y]).run P w = .ok (.int k (mxI x y)) w := by
  rw [run_max_int2]
  have h : (if x < y then y else x) = mxI x y := by unfold mxI; omega
  rw [h]

/-! ### memory -/
theorem after {w W W' : World} (h : Below w.heap.size w W) (k : Below W.heap.size W W') : Below w.heap.size w W' := h.trans (k.mono h.size)
theorem after' {n : Nat} {w W W' : World} (h : Below n w W) (hn : n ≤ w.heap.size) (k : Below W.heap.size W W') : Below n w W' := h.trans (k.mono (Nat.le_trans hn h.size))
theorem bcell {W w1 : World} (hb : Below W.heap.size W w1) : (∀ b o, b < W.heap.size → w1.cell? ⟨b, o, none⟩ = W.cell? ⟨b, o, none⟩) ∧ (∀ b o, b < W.heap.size → w1.frozen? ⟨b, o, none⟩ = W.frozen? ⟨b, o, none⟩) :=
  ⟨fun b o h => hb.cell (p := ⟨b, o, none⟩) h, fun b o h => hb.frozen (p := ⟨b, o, none⟩) h⟩

theorem calls_bel {P : Program} {f : FuncId} {args : Array Value} {w : World} {v : Value} (h : Calls P f args w fun e w' => e = .returned v ∧ w = w') : Calls P f args w fun e w' => e = .returned v ∧ Below w.heap.size w w' :=
  h.mono fun _ _ ⟨he, hw⟩ => ⟨he, by rw [← hw]; exact Below.refl _ _⟩
/-- Block g is just these cells, none of them frozen. -/
def Blk (w : World) (g : Nat) (t : TypeId) (cs : Array Value) : Prop := w.heap[g]? = some (.cells cs t (0, 0))

section
variable {w w' : World} {g : Nat} {t : TypeId} {cs : Array Value}
theorem Blk.lt (h : Blk w g t cs) : g < w.heap.size := by
  unfold Blk at h
  exact (Array.getElem?_eq_some_iff.1 h).1
theorem Blk.cell (h : Blk w g t cs) (i : Nat) : w.cell? ⟨g, i, none⟩ = cs[i]? := by
  unfold Blk at h
  simp [World.cell?, h]
theorem Blk.frz (h : Blk w g t cs) (i : Nat) : w.frozen? ⟨g, i, none⟩ = false := by
  unfold Blk at h
  simp [World.frozen?, h]
theorem Blk.new (w : World) (t : TypeId) (cs : Array Value) : Blk (w.alloc (.cells cs t)) w.heap.size t cs := heap_alloc_new w _
theorem Blk.new' {w : World} {g : Nat} {t : TypeId} {cs : Array Value} (h : g = w.heap.size) : Blk (w.alloc (.cells cs t)) g t cs := by subst h; exact Blk.new w t cs
theorem Blk.alloc (h : Blk w g t cs) (o : Obj) : Blk (w.alloc o) g t cs := by
  unfold Blk at *
  have hl := (Array.getElem?_eq_some_iff.1 h).1
  rw [Below.heap_alloc w o g hl]
  exact h
theorem Blk.drew (h : Blk w g t cs) : Blk w.drew g t cs := h
theorem Blk.drewN (h : Blk w g t cs) (n : Nat) : Blk (w.drewN n) g t cs := h
theorem Blk.set_ (h : Blk w g t cs) (i : Nat) (u : Value) : Blk (w.setCell ⟨g, i, none⟩ u) g t (cs.setIfInBounds i u) := by
  unfold Blk at *
  simp [World.setCell, Array.getElem?_modify, h]
theorem Blk.far (h : Blk w g t cs) {p : Addr} (hp : g ≠ p.block) (u : Value) : Blk (w.setCell p u) g t cs := by
  unfold Blk at *
  rw [Below.heap_setCell w p u g hp]
  exact h
theorem Blk.below {B : Nat} (h : Blk w g t cs) (hb : Below B w w') (hg : g < B) : Blk w' g t cs := by
  unfold Blk at *
  rw [hb.block g hg]
  exact h
theorem Blk.on (h : Blk w g t cs) (hb : Below w.heap.size w w') : Blk w' g t cs := h.below hb h.lt
theorem Blk.st3 {x y z : Value} (h : Blk w g t #[x, y, z]) (a b c : Value) : Blk (((w.setCell ⟨g, 0, none⟩ a).setCell ⟨g, 1, none⟩ b).setCell ⟨g, 2, none⟩ c) g t #[a, b, c] := ((h.set_ 0 a).set_ 1 b).set_ 2 c
theorem Blk.st6 {x y z r s u : Value} (h : Blk w g t #[x, y, z, r, s, u]) (a b c d e f : Value) : Blk ((((((w.setCell ⟨g, 0, none⟩ a).setCell ⟨g, 1, none⟩ b).setCell ⟨g, 2, none⟩ c).setCell ⟨g, 3, none⟩ d).setCell ⟨g, 4, none⟩ e).setCell ⟨g, 5, none⟩ f) g t #[a, b, c, d, e, f] :=
  (((((h.set_ 0 a).set_ 1 b).set_ 2 c).set_ 3 d).set_ 4 e).set_ 5 f
theorem Blk.c1 {a : Value} (h : Blk w g t #[a]) : w.cell? ⟨g, 0, none⟩ = some a ∧ w.frozen? ⟨g, 0, none⟩ = false := ⟨h.cell 0, h.frz 0⟩
theorem Blk.c3 {a b c : Value} (h : Blk w g t #[a, b, c]) : w.cell? ⟨g, 0, none⟩ = some a ∧ w.cell? ⟨g, 1, none⟩ = some b ∧ w.cell? ⟨g, 2, none⟩ = some c ∧ w.frozen? ⟨g, 0, none⟩ = false ∧ w.frozen? ⟨g, 1, none⟩ = false ∧ w.frozen? ⟨g, 2, none⟩ = false :=
  ⟨h.cell 0, h.cell 1, h.cell 2, h.frz 0, h.frz 1, h.frz 2⟩
theorem Blk.c6 {a b c d e f : Value} (h : Blk w g t #[a, b, c, d, e, f]) : (w.cell? ⟨g, 0, none⟩ = some a ∧ w.cell? ⟨g, 1, none⟩ = some b ∧ w.cell? ⟨g, 2, none⟩ = some c ∧ w.cell? ⟨g, 3, none⟩ = some d ∧ w.cell? ⟨g, 4, none⟩ = some e ∧ w.cell? ⟨g, 5, none⟩ = some f) ∧
    w.frozen? ⟨g, 0, none⟩ = false ∧ w.frozen? ⟨g, 1, none⟩ = false ∧ w.frozen? ⟨g, 2, none⟩ = false ∧ w.frozen? ⟨g, 3, none⟩ = false ∧ w.frozen? ⟨g, 4, none⟩ = false ∧ w.frozen? ⟨g, 5, none⟩ = false :=
  ⟨⟨h.cell 0, h.cell 1, h.cell 2, h.cell 3, h.cell 4, h.cell 5⟩, h.frz 0, h.frz 1, h.frz 2, h.frz 3, h.frz 4, h.frz 5⟩
/-- In every world with more draws and more blocks behind. -/
theorem Blk.re (h : Blk w g t cs) (d : Nat) (os : Array Obj) : Blk (Go.Sort.grow (redrawn w d) os) g t cs := h.below (below_regrown w d os) h.lt
theorem Blk.re3 {a b c : Value} (h : Blk w g t #[a, b, c]) : (∀ d os, (Go.Sort.grow (redrawn w d) os).cell? ⟨g, 0, none⟩ = some a) ∧ (∀ d os, (Go.Sort.grow (redrawn w d) os).cell? ⟨g, 1, none⟩ = some b) ∧ (∀ d os, (Go.Sort.grow (redrawn w d) os).cell? ⟨g, 2, none⟩ = some c) :=
  ⟨fun d os => (h.re d os).cell 0, fun d os => (h.re d os).cell 1, fun d os => (h.re d os).cell 2⟩
theorem Blk.re6 {a b c x y z : Value} (h : Blk w g t #[a, b, c, x, y, z]) : (∀ d os, (Go.Sort.grow (redrawn w d) os).cell? ⟨g, 0, none⟩ = some a) ∧ (∀ d os, (Go.Sort.grow (redrawn w d) os).cell? ⟨g, 1, none⟩ = some b) ∧ (∀ d os, (Go.Sort.grow (redrawn w d) os).cell? ⟨g, 2, none⟩ = some c) ∧
    (∀ d os, (Go.Sort.grow (redrawn w d) os).cell? ⟨g, 3, none⟩ = some x) ∧ (∀ d os, (Go.Sort.grow (redrawn w d) os).cell? ⟨g, 4, none⟩ = some y) ∧ (∀ d os, (Go.Sort.grow (redrawn w d) os).cell? ⟨g, 5, none⟩ = some z) :=
  ⟨fun d os => (h.re d os).cell 0, fun d os => (h.re d os).cell 1, fun d os => (h.re d os).cell 2, fun d os => (h.re d os).cell 3, fun d os => (h.re d os).cell 4, fun d os => (h.re d os).cell 5⟩
/-! ### a world after a call and a new block, under a name of its own -/
theorem Blk.step {w1 W : World} {o : Obj} (h : Blk w g t cs) (hb : Below w.heap.size w w1) (hW : W = w1.alloc o) : Blk W g t cs := by
  rw [hW]; exact (h.on hb).alloc o
theorem Blk.fresh {w1 W : World} (hW : W = w1.alloc (.cells cs t)) : Blk W w1.heap.size t cs := by
  rw [hW]; exact Blk.new w1 t cs
theorem step_below {v w1 W : World} {o : Obj} (h : Below v.heap.size v w) (hb : Below w.heap.size w w1) (hW : W = w1.alloc o) : Below v.heap.size v W := by
  rw [hW]; exact (after h hb).alloc (after h hb).size o
end
end Go.Proofs.Ytkopenemoddbbaa

/- Blobs by their keys, in rows that rise; what is put, asked, lost. No program in sight. -/
namespace Go.Proofs.Ytkopenemoddbbaa

abbrev Bs := List B8
section
variable {α β : Type}
/-- Keys that rise. -/
def Rise (l : List (Int × α)) : Prop := l.Pairwise (fun p q => p.1 < q.1)
/-- One is as it was put. -/
def putL : List (Int × α) → Int × α → List (Int × α)
  | [], w => [w]
  | x :: r, w => if w.1 < x.1 then w :: x :: r else if x.1 = w.1 then w :: r else x :: putL r w
theorem mem_putL {p w : Int × α} : ∀ {l : List (Int × α)}, p ∈ putL l w → p = w ∨ p ∈ l
  | [], h => by simpa [putL] using h
  | x :: r, h => by
    unfold putL at h
    split at h
    · simpa using h
    · split at h
      · rcases List.mem_cons.1 h with h | h
        · exact .inl h
        · exact .inr (List.mem_cons_of_mem _ h)
      · rcases List.mem_cons.1 h with h | h
        · exact .inr (h ▸ List.mem_cons_self)
        · rcases mem_putL h with h | h
          · exact .inl h
          · exact .inr (List.mem_cons_of_mem _ h)
theorem rise_cons {x : Int × α} {r : List (Int × α)} : Rise (x :: r) ↔ (∀ p ∈ r, x.1 < p.1) ∧ Rise r := List.pairwise_cons
theorem rise_nil : Rise ([] : List (Int × α)) := List.Pairwise.nil
theorem rise_putL {w : Int × α} : ∀ {l : List (Int × α)}, Rise l → Rise (putL l w)
  | [], _ => by simp [putL, Rise]
  | x :: r, h => by
    obtain ⟨h1, h2⟩ := rise_cons.1 h
    unfold putL
    split
    · rename_i hlt
      refine rise_cons.2 ⟨fun p hp => ?_, h⟩
      rcases List.mem_cons.1 hp with rfl | hp
      · exact hlt
      · have := h1 p hp; omega
    · split
      · rename_i he
        exact rise_cons.2 ⟨fun p hp => he ▸ h1 p hp, h2⟩
      · refine rise_cons.2 ⟨fun p hp => ?_, rise_putL h2⟩
        rcases mem_putL hp with rfl | hp
        · omega
        · exact h1 p hp
theorem map_putL (f : α → β) (w : Int × α) : ∀ l : List (Int × α), (putL l w).map (fun p => (p.1, f p.2)) = putL (l.map fun p => (p.1, f p.2)) (w.1, f w.2)
  | [] => rfl
  | x :: r => by
    unfold putL
    simp only [List.map_cons]
    split
    · simp
    · split
      · simp
      · simp [map_putL f w r]
theorem len_putL (w : Int × α) : ∀ l : List (Int × α), (putL l w).length ≤ l.length + 1
  | [] => by simp [putL]
  | x :: r => by
    unfold putL
    split
    · simp
    · split
      · simp
      · have := len_putL w r; simp; omega
theorem rise_map (f : α → β) {l : List (Int × α)} (h : Rise l) : Rise (l.map fun p => (p.1, f p.2)) := by
  unfold Rise at *
  rw [List.pairwise_map]
  exact h
/-- What lies at a key. -/
def getL (l : List (Int × α)) (k : Int) : Option α := (l.find? fun p => p.1 == k).map (·.2)
theorem getL_nil (k : Int) : getL ([] : List (Int × α)) k = none := rfl
theorem getL_cons (x : Int × α) (r : List (Int × α)) (k : Int) : getL (x :: r) k = if x.1 = k then some x.2 else getL r k := by
  unfold getL
  by_cases h : x.1 = k
  · rw [if_pos h, List.find?_cons_of_pos (by simpa using h)]; rfl
  · rw [if_neg h, List.find?_cons_of_neg (by simpa using h)]
theorem getL_none {l : List (Int × α)} {k : Int} (h : ∀ p ∈ l, p.1 ≠ k) : getL l k = none := by
  unfold getL
  rw [List.find?_eq_none.2 (fun p hp => by simpa using h p hp)]
  rfl
theorem getL_map (f : α → β) (k : Int) : ∀ l : List (Int × α), getL (l.map fun p => (p.1, f p.2)) k = (getL l k).map f
  | [] => rfl
  | x :: r => by
    rw [List.map_cons, getL_cons, getL_cons, getL_map f k r]
    dsimp only
    split <;> rfl
theorem getL_put (w : Int × α) (k : Int) : ∀ {l : List (Int × α)}, Rise l → getL (putL l w) k = if w.1 = k then some w.2 else getL l k
  | [], _ => by simp [putL, getL_cons, getL_nil]
  | x :: r, h => by
    obtain ⟨h1, h2⟩ := rise_cons.1 h
    unfold putL
    split
    · rw [getL_cons]
    · split
      · rename_i he
        rw [getL_cons, getL_cons]
        split
        · rfl
        · rw [if_neg (by omega)]
      · rw [getL_cons, getL_cons, getL_put w k h2]
        split
        · rw [if_neg (by omega)]
        · rfl
theorem getL_at {l : List (Int × α)} (h : Rise l) {i : Nat} {p : Int × α} (hi : l[i]? = some p) : getL l p.1 = some p.2 := by
  induction l generalizing i with
  | nil => cases hi
  | cons x r ih =>
    obtain ⟨h1, h2⟩ := rise_cons.1 h
    rw [getL_cons]
    cases i with
    | zero => obtain rfl : x = p := by simpa using hi
              rw [if_pos rfl]
    | succ i =>
      have hi' : r[i]? = some p := by simpa using hi
      have := h1 p (List.mem_of_getElem? hi')
      rw [if_neg (by omega)]
      exact ih h2 hi'
/-- The document's way: one behind the other. -/
def layStep (w : Int × α) (s : List (Int × α) × Bool) (x : Int × α) : List (Int × α) × Bool :=
  ((if x.1 ≠ w.1 then (if s.2 = false ∧ w.1 ≤ x.1 then s.1 ++ [w] else s.1) ++ [x] else if s.2 = false ∧ w.1 ≤ x.1 then s.1 ++ [w] else s.1), s.2 || decide (w.1 ≤ x.1))
def layA (w : Int × α) (l : List (Int × α)) : List (Int × α) × Bool := l.foldl (layStep w) ([], false)
def layF (w : Int × α) (s : List (Int × α) × Bool) : List (Int × α) := if s.2 then s.1 else s.1 ++ [w]
theorem layA_snoc (w : Int × α) (l : List (Int × α)) (x : Int × α) : layA w (l ++ [x]) = layStep w (layA w l) x := by simp [layA]
theorem lay_done (w : Int × α) : ∀ (l : List (Int × α)) (o : List (Int × α)), (∀ p ∈ l, w.1 < p.1) → l.foldl (layStep w) (o, true) = (o ++ l, true)
  | [], o, _ => by simp
  | x :: r, o, h => by
    have hx := h x List.mem_cons_self
    have e : layStep w (o, true) x = (o ++ [x], true) := by
      unfold layStep
      simp [show x.1 ≠ w.1 by omega]
    rw [List.foldl_cons, e, lay_done w r _ (fun p hp => h p (List.mem_cons_of_mem _ hp))]
    simp
theorem lay_open (w : Int × α) : ∀ (l : List (Int × α)) (o : List (Int × α)), Rise l → layF w (l.foldl (layStep w) (o, false)) = o ++ putL l w
  | [], o, _ => by simp [layF, putL]
  | x :: r, o, h => by
    obtain ⟨h1, h2⟩ := rise_cons.1 h
    unfold putL
    rw [List.foldl_cons]
    by_cases a : w.1 < x.1
    · have e : layStep w (o, false) x = (o ++ [w] ++ [x], true) := by
        unfold layStep
        simp [show x.1 ≠ w.1 by omega, show w.1 ≤ x.1 by omega]
      rw [e, lay_done w r _ (fun p hp => by have := h1 p hp; omega), if_pos a]
      simp [layF]
    · rw [if_neg a]
      by_cases b : x.1 = w.1
      · have e : layStep w (o, false) x = (o ++ [w], true) := by
          unfold layStep
          simp [b]
        rw [e, lay_done w r _ (fun p hp => by have := h1 p hp; omega), if_pos b]
        simp [layF]
      · have e : layStep w (o, false) x = (o ++ [x], false) := by
          unfold layStep
          simp [b, show ¬ w.1 ≤ x.1 by omega]
        rw [e, lay_open w r _ h2, if_neg b]
        simp
theorem lay_is (w : Int × α) {l : List (Int × α)} (h : Rise l) : layF w (layA w l) = putL l w := by
  have := lay_open w l [] h
  rw [List.nil_append] at this
  exact this
theorem layStep_len (w : Int × α) (s : List (Int × α) × Bool) (x : Int × α) : (layStep w s x).1.length ≤ s.1.length + 2 := by
  unfold layStep
  dsimp only
  split <;> split <;> simp
theorem lay_len (w : Int × α) : ∀ (l : List (Int × α)) (s : List (Int × α) × Bool), (l.foldl (layStep w) s).1.length ≤ s.1.length + 2 * l.length
  | [], s => by simp
  | x :: r, s => by
    rw [List.foldl_cons]
    have h1 := lay_len w r (layStep w s x)
    have h2 := layStep_len w s x
    simp only [List.length_cons]
    omega
theorem layA_len (w : Int × α) (l : List (Int × α)) : (layA w l).1.length ≤ 2 * l.length := by
  have := lay_len w l ([], false)
  simpa [layA] using this
theorem layStep_mem {w p : Int × α} {s : List (Int × α) × Bool} {x : Int × α} (h : p ∈ (layStep w s x).1) : p ∈ s.1 ∨ p = w ∨ p = x := by
  have h0 : p ∈ (if s.2 = false ∧ w.1 ≤ x.1 then s.1 ++ [w] else s.1) → p ∈ s.1 ∨ p = w := fun h => by
    split at h
    · rcases List.mem_append.1 h with h | h
      · exact .inl h
      · exact .inr (by simpa using h)
    · exact .inl h
  unfold layStep at h
  dsimp only at h
  split at h
  · rcases List.mem_append.1 h with h | h
    · exact (h0 h).imp id .inl
    · exact .inr (.inr (by simpa using h))
  · exact (h0 h).imp id .inl
/-- All, as they were put last. -/
def nowL (s l : List (Int × α)) : List (Int × α) := l.foldl putL s
theorem nowL_snoc (s l : List (Int × α)) (w : Int × α) : nowL s (l ++ [w]) = putL (nowL s l) w := by simp [nowL]
theorem nowL_cons (s l : List (Int × α)) (w : Int × α) : nowL s (w :: l) = nowL (putL s w) l := rfl
theorem rise_now : ∀ {l s : List (Int × α)}, Rise s → Rise (nowL s l)
  | [], _, h => h
  | w :: r, s, h => by rw [nowL_cons]; exact rise_now (rise_putL h)
theorem len_now : ∀ (l s : List (Int × α)), (nowL s l).length ≤ s.length + l.length
  | [], s => by simp [nowL]
  | w :: r, s => by
    rw [nowL_cons]
    have h1 := len_now r (putL s w)
    have h2 := len_putL w s
    simp only [List.length_cons]
    omega
theorem mem_now {p : Int × α} : ∀ {l s : List (Int × α)}, p ∈ nowL s l → p ∈ s ∨ p ∈ l
  | [], _, h => .inl h
  | w :: r, s, h => by
    rw [nowL_cons] at h
    rcases mem_now h with h | h
    · rcases mem_putL h with rfl | h
      · exact .inr List.mem_cons_self
      · exact .inl h
    · exact .inr (List.mem_cons_of_mem _ h)
theorem map_now (f : α → β) : ∀ (l s : List (Int × α)), (nowL s l).map (fun p => (p.1, f p.2)) = nowL (s.map fun p => (p.1, f p.2)) (l.map fun p => (p.1, f p.2))
  | [], s => rfl
  | w :: r, s => by rw [nowL_cons, map_now f r, map_putL]; rfl
end

/-! ### how many bytes -/
def lenB (l : List (Int × Bs)) : Nat := (l.map fun p => p.2.length).sum
theorem lenB_nil : lenB [] = 0 := rfl
theorem lenB_cons (x : Int × Bs) (r : List (Int × Bs)) : lenB (x :: r) = x.2.length + lenB r := by simp [lenB]
theorem lenB_snoc (x : Int × Bs) (r : List (Int × Bs)) : lenB (r ++ [x]) = lenB r + x.2.length := by simp [lenB]
theorem lenB_app (a r : List (Int × Bs)) : lenB (a ++ r) = lenB a + lenB r := by simp [lenB]
theorem lenB_perm {a r : List (Int × Bs)} (h : a.Perm r) : lenB a = lenB r := by
  unfold lenB
  exact (h.map _).sum_nat
theorem lenB_le {M : Nat} : ∀ {l : List (Int × Bs)}, (∀ p ∈ l, p.2.length ≤ M) → lenB l ≤ l.length * M
  | [], _ => by simp [lenB]
  | x :: r, h => by
    have h1 := h x List.mem_cons_self
    have h2 := lenB_le (l := r) (fun p hp => h p (List.mem_cons_of_mem _ hp))
    rw [lenB_cons, List.length_cons, Nat.succ_mul]
    omega
def sizeAt (l : List (Int × Bs)) (k : Int) : Nat := ((getL l k).getD []).length
theorem lenB_put (w : Int × Bs) : ∀ {l : List (Int × Bs)}, Rise l → lenB (putL l w) + sizeAt l w.1 = lenB l + w.2.length
  | [], _ => by simp [putL, lenB, sizeAt, getL_nil]
  | x :: r, h => by
    obtain ⟨h1, h2⟩ := rise_cons.1 h
    unfold putL sizeAt
    rw [getL_cons]
    split
    · rename_i hlt
      rw [if_neg (by omega), getL_none (fun p hp => by have := h1 p hp; omega)]
      simp only [lenB_cons, Option.getD_none, List.length_nil]
      omega
    · split
      · rename_i he
        simp only [lenB_cons, Option.getD_some]
        omega
      · have := lenB_put w h2
        unfold sizeAt at this
        simp only [lenB_cons]
        omega

/-! ### a disk -/
structure DS where
  room : Int
  fails : Int
  waits : Int
  safe : List (Int × Bs)
  l : List (Int × Bs)
namespace DS
def now (S : DS) : List (Int × Bs) := nowL S.safe S.l
/-- It is asked. -/
def asked (S : DS) : DS × Bool :=
  if 0 < S.waits then ({ S with waits := 0 }, false) else if 0 < S.fails then ({ S with fails := S.fails - 1 }, true) else (S, false)
def fits (S : DS) (k : Int) (b : Bs) : Bool := decide ((lenB (putL S.now (k, b)) : Int) ≤ S.room)
def put (S : DS) (k : Int) (b : Bs) : DS × Int :=
  if S.asked.2 then (S.asked.1, 9) else if S.fits k b then ({ S.asked.1 with l := S.l ++ [(k, b)] }, 0) else (S.asked.1, 8)
def sync (S : DS) : DS × Int :=
  if S.asked.2 then (S.asked.1, 9) else ({ S.asked.1 with safe := S.now, l := [] }, 0)
def fail (S : DS) (n : Int) : DS := if n < 0 then { S with fails := min (-n) 1048576, waits := 1 } else { S with fails := n, waits := 0 }
end DS
/-- The first bytes of what is under way. -/
def crashL : List (Int × Bs) → List (Int × Bs) → Nat → List (Int × Bs)
  | s, [], _ => s
  | s, w :: r, k => if w.2.length ≤ k then crashL (putL s w) r (k - w.2.length) else putL s (w.1, w.2.take k)
def keepB (S : DS) (n : Int) : Nat := min n.toNat (lenB S.l)
def DS.crash (S : DS) (n : Int) : DS × Int := ({ S with safe := crashL S.safe S.l (keepB S n), l := [], fails := 0, waits := 0 }, ((lenB S.l - keepB S n : Nat) : Int))
theorem asked_same (S : DS) : S.asked.1.safe = S.safe ∧ S.asked.1.l = S.l ∧ S.asked.1.room = S.room := by
  unfold DS.asked
  split
  · exact ⟨rfl, rfl, rfl⟩
  · split <;> exact ⟨rfl, rfl, rfl⟩
/-- What always holds of one: N of them at most, of at most M bytes each. -/
structure DOk (S : DS) (N M : Nat) : Prop where
  rise : Rise S.safe
  keys : ∀ p ∈ S.safe ++ S.l, In64 p.1
  many : S.safe.length + S.l.length ≤ N
  size : ∀ p ∈ S.safe ++ S.l, p.2.length ≤ M
  room : 0 ≤ S.room ∧ S.room ≤ 1048576
  waits : S.waits = 0 ∨ S.waits = 1
  fails : 0 ≤ S.fails ∧ S.fails ≤ 9223372036854775807
theorem DOk.mono {S : DS} {N N' M M' : Nat} (h : DOk S N M) (hN : N ≤ N') (hM : M ≤ M') : DOk S N' M' := ⟨h.rise, h.keys, Nat.le_trans h.many hN, fun p hp => Nat.le_trans (h.size p hp) hM, h.room, h.waits, h.fails⟩
theorem DOk.asked {S : DS} {N M : Nat} (h : DOk S N M) : DOk S.asked.1 N M := by
  obtain ⟨e1, e2, e3⟩ := asked_same S
  refine ⟨by rw [e1]; exact h.rise, by rw [e1, e2]; exact h.keys, by rw [e1, e2]; exact h.many, by rw [e1, e2]; exact h.size, by rw [e3]; exact h.room, ?_, ?_⟩
  · have := h.waits
    unfold DS.asked
    split
    · exact .inl rfl
    · split <;> exact this
  · have := h.fails
    unfold DS.asked
    split
    · exact this
    · split
      · dsimp only; omega
      · exact this
theorem DOk.put {S : DS} {N M : Nat} {k : Int} {b : Bs} (h : DOk S N M) (hk : In64 k) (hb : b.length ≤ M) : DOk (S.put k b).1 (N + 1) M := by
  have ha := h.asked
  obtain ⟨e1, e2, e3⟩ := asked_same S
  unfold DS.put
  split
  · exact ha.mono (by omega) (Nat.le_refl _)
  · split
    · refine ⟨ha.rise, fun p hp => ?_, ?_, fun p hp => ?_, ha.room, ha.waits, ha.fails⟩
      · dsimp only at hp
        rw [e1, ← List.append_assoc, List.mem_append] at hp
        rcases hp with hp | hp
        · exact h.keys p hp
        · obtain rfl : p = (k, b) := by simpa using hp
          exact hk
      · have := h.many
        dsimp only
        rw [e1, List.length_append, List.length_singleton]; omega
      · dsimp only at hp
        rw [e1, ← List.append_assoc, List.mem_append] at hp
        rcases hp with hp | hp
        · exact h.size p hp
        · obtain rfl : p = (k, b) := by simpa using hp
          exact hb
    · exact ha.mono (by omega) (Nat.le_refl _)
theorem DOk.now {S : DS} {N M : Nat} (h : DOk S N M) : Rise S.now ∧ (∀ p ∈ S.now, In64 p.1) ∧ S.now.length ≤ N ∧ (∀ p ∈ S.now, p.2.length ≤ M) :=
  ⟨rise_now h.rise, fun p hp => h.keys p (List.mem_append.2 (mem_now hp)), Nat.le_trans (len_now _ _) h.many, fun p hp => h.size p (List.mem_append.2 (mem_now hp))⟩
theorem DOk.sync {S : DS} {N M : Nat} (h : DOk S N M) : DOk S.sync.1 N M := by
  have ha := h.asked
  obtain ⟨n1, n2, n3, n4⟩ := h.now
  unfold DS.sync
  split
  · exact ha
  · exact ⟨n1, fun p hp => n2 p (by simpa using hp), by simpa using n3, fun p hp => n4 p (by simpa using hp), ha.room, ha.waits, ha.fails⟩
theorem DOk.fail {S : DS} {N M : Nat} (h : DOk S N M) {n : Int} (hn : n ≤ 9223372036854775807) : DOk (S.fail n) N M := by
  unfold DS.fail
  split
  · exact ⟨h.rise, h.keys, h.many, h.size, h.room, .inr rfl, by dsimp only; omega⟩
  · exact ⟨h.rise, h.keys, h.many, h.size, h.room, .inl rfl, by dsimp only; omega⟩
theorem crashL_ok {M : Nat} : ∀ {l s : List (Int × Bs)} {k : Nat}, Rise s → (∀ p ∈ s ++ l, In64 p.1) → (∀ p ∈ s ++ l, p.2.length ≤ M) →
    Rise (crashL s l k) ∧ (∀ p ∈ crashL s l k, In64 p.1) ∧ (crashL s l k).length ≤ s.length + l.length ∧ ∀ p ∈ crashL s l k, p.2.length ≤ M
  | [], s, k, h1, h2, h3 => by simpa [crashL] using ⟨h1, by simpa using h2, by simpa using h3⟩
  | w :: r, s, k, h1, h2, h3 => by
    unfold crashL
    have hw2 := h2 w (by simp)
    have hw3 := h3 w (by simp)
    split
    · obtain ⟨a, b, c, d⟩ := crashL_ok (M := M) (l := r) (s := putL s w) (k := k - w.2.length) (rise_putL h1) (fun p hp => by
        rcases List.mem_append.1 hp with hp | hp
        · rcases mem_putL hp with rfl | hp
          · exact hw2
          · exact h2 p (by simp [hp])
        · exact h2 p (by simp [hp])) (fun p hp => by
        rcases List.mem_append.1 hp with hp | hp
        · rcases mem_putL hp with rfl | hp
          · exact hw3
          · exact h3 p (by simp [hp])
        · exact h3 p (by simp [hp]))
      have := len_putL w s
      exact ⟨a, b, by simp only [List.length_cons]; omega, d⟩
    · have := len_putL (w.1, w.2.take k) s
      refine ⟨rise_putL h1, fun p hp => ?_, by simp only [List.length_cons]; omega, fun p hp => ?_⟩
      · rcases mem_putL hp with rfl | hp
        · exact hw2
        · exact h2 p (by simp [hp])
      · rcases mem_putL hp with rfl | hp
        · simp only [List.length_take]; omega
        · exact h3 p (by simp [hp])
theorem DOk.crash {S : DS} {N M : Nat} (h : DOk S N M) (n : Int) : DOk (S.crash n).1 N M := by
  obtain ⟨a, b, c, d⟩ := crashL_ok (k := keepB S n) h.rise h.keys h.size
  have := h.many
  exact ⟨a, fun p hp => b p (by simpa [DS.crash] using hp), by simp only [DS.crash, List.length_nil]; omega, fun p hp => d p (by simpa [DS.crash] using hp), h.room, .inl rfl, by simp [DS.crash]⟩
/-- All that is under way is kept: as a sync. -/
theorem crash_all : ∀ {l s : List (Int × Bs)} {k : Nat}, lenB l ≤ k → crashL s l k = nowL s l
  | [], _, _, _ => rfl
  | w :: r, s, k, h => by
    rw [lenB_cons] at h
    unfold crashL
    rw [if_pos (by omega), nowL_cons]
    exact crash_all (by omega)
theorem lenB_now {M : Nat} {S : DS} {N : Nat} (h : DOk S N M) : lenB S.now ≤ N * M := by
  obtain ⟨-, -, n3, n4⟩ := h.now
  exact Nat.le_trans (lenB_le n4) (Nat.mul_le_mul_right _ n3)
end Go.Proofs.Ytkopenemoddbbaa

/- From a walk that says 'true, and only new memory' to the row: the last step, whatever the arguments' make; and the opening of ways and boxes. -/
namespace Go.Proofs.Ytkopenemoddbbaa
open Go.ChangeShapes Go.WideShapes Go.ChangeAt Go.RowKit

theorem own : ownKnob Try.prog.godebug = none := by kernel_rfl
theorem laidOut : laidOutB Try.prog = true := by kernel_rfl

section
variable {H : Type} {enc : TypeId × Value → H} {P : Program}
theorem trodAll_below {W W' : World} (hl : laidOutB P = true) (hb : Below W.heap.size W W') :
    ∀ {ts : List TypeId} {vs : List Value} {ds : List (DataW H)} {ps : List MemPlace}, (∀ t ∈ ts, P.readableRec t = true ∧ t < P.types.size) →
      DataW.TrodAll enc P W 0 (fun _ => true) true ts vs ds ps → (∀ x ∈ ps, x.block < W.heap.size) →
      DataW.TrodAll enc P W' 0 (fun b => decide (b < W.heap.size)) true ts vs ds ps := by
  intro ts
  induction ts with
  | nil =>
    intro vs ds ps _ h _
    obtain ⟨rfl, rfl, rfl⟩ := trodAll_nil h
    exact trodAll_mk0
  | cons t ts ih =>
    intro vs ds ps hts h hp
    obtain ⟨v0, vs0, d0, ds0, p0, q0, rfl, rfl, rfl, h0, r0⟩ := trodAll_cons h
    obtain ⟨hr, hrow⟩ := hts t (List.mem_cons_self ..)
    exact trodAll_cons_mk (Below.trod hl hr hrow h0 hb fun x hx => hp x (by simp [hx])) (ih (fun t ht => hts t (List.mem_cons_of_mem _ ht)) r0 fun x hx => hp x (by simp [hx]))

theorem law_post {f : Func} {s : ChangeSpec} {tb : TypeId} {W W' : World} {args : Array Value} {ds gs : List (DataW H)} {before : List MemPlace}
    (hl : laidOutB P = true) (hts : (f.params.toList.all fun t => P.readableRec t && decide (t < P.types.size)) = true) (hvars : s.vars = []) (hrt : f.resultTypes = #[tb]) (htb : P.underlying tb = some .bool)
    (hW : DataW.Whole enc P f.params.toList s.vars false W args.toList ds gs before)
    (hres : (s.fn H (ds ++ gs)).results = [.lit (.bool true)]) (hargs : (s.fn H (ds ++ gs)).args = ds) (hv : (s.fn H (ds ++ gs)).vars = [])
    (hb : Below W.heap.size W W') : s.post enc P f false true false false W args (.bool true) W' := by
  have hlt : ∀ x ∈ before, x.block < W.heap.size := fun x hx => hW.lt x hx
  have hW0 := hW
  obtain ⟨p, q, hA, hV, hpq, hz, hn⟩ := hW
  rw [hvars] at hV
  obtain ⟨rfl, rfl⟩ := trodVars_none hV
  rw [List.append_nil] at hpq
  subst hpq
  refine ⟨ds, [], before, [], before, [], hW0, ?_, ?_, ?_, World.keptBut_mono (fun p hp => ⟨hp, Or.inr (Or.inl hp)⟩) (hb.frame (· ∈ before)), fun h => by cases h⟩
  · rw [hres, hrt]
    exact trodAll_mk1 (shut_bool htb true)
  · rw [hargs]
    refine trodAll_below hl hb (fun t ht => ?_) hA hlt
    have := List.all_eq_true.1 hts t ht
    simpa using this
  · rw [hvars, hv]
    exact rfl

/-! ### ways and boxes, opened -/
def vecFields (P : Program) (f0 f1 f2 : Field) (ti : TypeId) : Bool :=
  (f0.offset == 0 && f1.offset == 1 && f2.offset == 2) && ((f0.type == ti && f1.type == ti && f2.type == ti) && P.cellsOf ti == 1)
def boxFields (P : Program) (f0 f1 : Field) (tv : TypeId) : Bool :=
  (f0.offset == 0 && f1.offset == 3) && ((f0.type == tv && f1.type == tv) && P.cellsOf tv == 3)

theorem trod_vec {w : World} {base fuel : Nat} {spare : Nat → Bool} {held : Bool} {t ti : TypeId} {f0 f1 f2 : Field} {cs : List Value} {x : DataW H × List MemPlace} (hs : P.underlying t = some (.struct #[f0, f1, f2]))
    (hf : vecFields P f0 f1 f2 ti = true) (hi : P.underlying ti = some (.int .i64)) (hl : cs.length = 3) (h : DataW.trod enc P w base spare held fuel t cs = some x) :
    ∃ a b c, cs = [.int .i64 a, .int .i64 b, .int .i64 c] ∧ In64 a ∧ In64 b ∧ In64 c := by
  simp only [vecFields, Bool.and_eq_true, beq_iff_eq] at hf
  obtain ⟨⟨⟨o0, o1⟩, o2⟩, ⟨⟨t0, t1⟩, t2⟩, hc⟩ := hf
  obtain ⟨xs, n, _, _, _, hxl, hg⟩ := DataW.trod_struct hs h
  match cs, hl with
  | [v0, v1, v2], _ =>
    match xs, hxl with
    | [y0, y1, y2], _ =>
      have g0 := hg 0 f0 rfl
      have g1 := hg 1 f1 rfl
      have g2 := hg 2 f2 rfl
      rw [o0, t0, hc] at g0
      rw [o1, t1, hc] at g1
      rw [o2, t2, hc] at g2
      obtain ⟨a, ha, _, wa⟩ := DataW.trod_int (x := y0) hi g0
      obtain ⟨b, hb, _, wb⟩ := DataW.trod_int (x := y1) hi g1
      obtain ⟨c, hc', _, wc⟩ := DataW.trod_int (x := y2) hi g2
      simp at ha hb hc'
      subst ha hb hc'
      exact ⟨a, b, c, rfl, in64_of_wf wa, in64_of_wf wb, in64_of_wf wc⟩

theorem open_vec {w : World} {r : Reach} {b0 base : Nat} {spare : Nat → Bool} {held : Bool} {t ti : TypeId} {f0 f1 f2 : Field} {v : Value} {d : DataW H} {p : List MemPlace} (hs : P.underlying t = some (.struct #[f0, f1, f2]))
    (hf : vecFields P f0 f1 f2 ti = true) (hC : P.cellsOf t = 3) (hi : P.underlying ti = some (.int .i64)) (hv : Value.okWide P w r b0 t v) (h : DataW.Trod enc P w base spare held t v d p) :
    ∃ a b c, v = .agg #[.int .i64 a, .int .i64 b, .int .i64 c] ∧ In64 a ∧ In64 b ∧ In64 c := by
  obtain ⟨cs, rfl, hsz⟩ := okWide_struct hs hv
  obtain ⟨fuel, h⟩ := h
  obtain ⟨l⟩ := cs
  have hl : l.length = 3 := hsz.trans hC
  obtain ⟨a, b, c, hcs, wa, wb, wc⟩ := trod_vec hs hf hi hl (by simpa [Value.cells] using h)
  subst hcs
  exact ⟨a, b, c, rfl, wa, wb, wc⟩

theorem trod_box {w : World} {base fuel : Nat} {spare : Nat → Bool} {held : Bool} {t tv ti : TypeId} {g0 g1 f0 f1 f2 : Field} {cs : List Value} {x : DataW H × List MemPlace} (hb : P.underlying t = some (.struct #[g0, g1]))
    (hs : P.underlying tv = some (.struct #[f0, f1, f2])) (hg : boxFields P g0 g1 tv = true) (hf : vecFields P f0 f1 f2 ti = true) (hi : P.underlying ti = some (.int .i64)) (hl : cs.length = 6) (h : DataW.trod enc P w base spare held fuel t cs = some x) :
    ∃ a b c d e f, cs = [.int .i64 a, .int .i64 b, .int .i64 c, .int .i64 d, .int .i64 e, .int .i64 f] ∧ In64 a ∧ In64 b ∧ In64 c ∧ In64 d ∧ In64 e ∧ In64 f := by
  simp only [boxFields, Bool.and_eq_true, beq_iff_eq] at hg
  obtain ⟨⟨o0, o1⟩, ⟨t0, t1⟩, hc⟩ := hg
  obtain ⟨xs, n, _, _, _, hxl, hgg⟩ := DataW.trod_struct hb h
  match cs, hl with
  | [v0, v1, v2, v3, v4, v5], _ =>
    match xs, hxl with
    | [y0, y1], _ =>
      have k0 := hgg 0 g0 rfl
      have k1 := hgg 1 g1 rfl
      rw [o0, t0, hc] at k0
      rw [o1, t1, hc] at k1
      obtain ⟨a, b, c, e0, wa, wb, wc⟩ := trod_vec (x := y0) hs hf hi rfl k0
      obtain ⟨d, e, f, e1, wd, we, wf⟩ := trod_vec (x := y1) hs hf hi rfl k1
      simp at e0 e1
      obtain ⟨rfl, rfl, rfl⟩ := e0
      obtain ⟨rfl, rfl, rfl⟩ := e1
      exact ⟨a, b, c, d, e, f, rfl, wa, wb, wc, wd, we, wf⟩

theorem open_box {w : World} {r : Reach} {b0 base : Nat} {spare : Nat → Bool} {held : Bool} {t tv ti : TypeId} {g0 g1 f0 f1 f2 : Field} {v : Value} {d : DataW H} {p : List MemPlace} (hb : P.underlying t = some (.struct #[g0, g1]))
    (hs : P.underlying tv = some (.struct #[f0, f1, f2])) (hg : boxFields P g0 g1 tv = true) (hf : vecFields P f0 f1 f2 ti = true) (hC : P.cellsOf t = 6) (hi : P.underlying ti = some (.int .i64)) (hv : Value.okWide P w r b0 t v) (h : DataW.Trod enc P w base spare held t v d p) :
    ∃ a b c d e f, v = .agg #[.int .i64 a, .int .i64 b, .int .i64 c, .int .i64 d, .int .i64 e, .int .i64 f] ∧ In64 a ∧ In64 b ∧ In64 c ∧ In64 d ∧ In64 e ∧ In64 f := by
  obtain ⟨cs, rfl, hsz⟩ := okWide_struct hb hv
  obtain ⟨fuel, h⟩ := h
  obtain ⟨l⟩ := cs
  have hl : l.length = 6 := hsz.trans hC
  obtain ⟨a, b, c, d, e, f, hcs, wa⟩ := trod_box hb hs hg hf hi hl (by simpa [Value.cells] using h)
  subst hcs
  exact ⟨a, b, c, d, e, f, rfl, wa⟩
end
end Go.Proofs.Ytkopenemoddbbaa

/- A counter's next number; a cell that is read lies in the heap. -/
namespace Go.Proofs.Ytkopenemoddbbaa
open Go.RowKit

theorem cell_lt {w : World} {p : Addr} {v : Value} (h : w.cell? p = some v) : p.block < w.heap.size := by
  unfold World.cell? at h
  cases hh : w.heap[p.block]? with
  | none => simp [hh] at h
  | some b => exact (Array.getElem?_eq_some_iff.1 hh).1
theorem cell_spot {w : World} {p : Addr} {v : Value} (h : w.cell? p = some v) : p.spot = none := by
  unfold World.cell? at h
  cases hs : p.spot with
  | none => rfl
  | some k => cases hh : w.heap[p.block]? <;> simp [hh, hs] at h; split at h <;> simp at h
theorem cell_below {w w' : World} {B : Nat} {p : Addr} (hb : Below B w w') (h : p.block < B) : w'.cell? p = w.cell? p := by
  unfold World.cell?
  rw [hb.block p.block h]
/-! A counter's next number. -/
theorem next64 {n cap k : Nat} (hc : n ≤ cap) (hm : cap ≤ maxLen) (hlt : k < n) : wrap64 ((k : Int) + 1) = k + 1 := by
  have h1 := Nat.le_trans hc hm
  have h2 : maxLen ≤ 9223372036854775807 := by decide
  have h3 := Nat.le_trans h1 h2
  clear hc hm h1 h2
  exact IntWalk.wrap64_in _ (by omega)
theorem next_val {k : Nat} (h : wrap64 ((k : Int) + 1) = k + 1) : Value.int .i64 (wrap64 ((k : Int) + 1)) = .int .i64 ((k + 1 : Nat) : Int) := by rw [h]; rfl
theorem next_less {n k : Nat} (hlt : k < n) (h : wrap64 ((k : Int) + 1) = k + 1) : n - (intOf (.int .i64 (wrap64 ((k : Int) + 1)))).toNat < n - (intOf (.int .i64 k)).toNat := by
  rw [h]; clear h
  show n - ((k : Int) + 1).toNat < n - (k : Int).toNat
  omega
theorem next_less' {n k : Nat} (hlt : k < n) : n - (intOf (.int .i64 ((k : Int) + 1))).toNat < n - (intOf (.int .i64 k)).toNat := by
  show n - ((k : Int) + 1).toNat < n - (k : Int).toNat
  omega
end Go.Proofs.Ytkopenemoddbbaa

/- Bytes in a row: what a slice of bytes reads, and how it is opened. -/
namespace Go.Proofs.Ytkopenemoddbbaa
open Go.ChangeShapes Go.WideShapes Go.ChangeAt Go.RowKit

/-- A number of 16 bits, of 8 bits, as the program's. -/
def n16 (c : B16) : Int := c.toNat
def n8 (x : B8) : Int := x.toNat
theorem n16_lt (c : B16) : 0 ≤ n16 c ∧ n16 c < 65536 := ⟨by unfold n16; omega, by unfold n16; have := c.isLt; omega⟩
theorem n8_lt (c : B8) : 0 ≤ n8 c ∧ n8 c < 256 := ⟨by unfold n8; omega, by unfold n8; have := c.isLt; omega⟩
theorem n16_eq {a b : B16} : n16 a = n16 b ↔ a = b := by
  unfold n16
  constructor
  · intro h; exact BitVec.eq_of_toNat_eq (by omega)
  · rintro rfl; rfl
theorem n8_eq {a b : B8} : n8 a = n8 b ↔ a = b := by
  unfold n8
  constructor
  · intro h; exact BitVec.eq_of_toNat_eq (by omega)
  · rintro rfl; rfl
theorem n8_of {n : Int} (h : (Lit.int .u8 n).wf = true) : n = n8 (BitVec.ofInt 8 n) := by
  have := inU8_of_wf h
  unfold InU8 at this
  unfold n8
  rw [BitVec.toNat_ofInt]
  omega
/-- From cell o of block g on lie n bytes; number i is F i. -/
def Byt (w : World) (g o n : Nat) (F : Nat → B8) : Prop := ∀ i, i < n → w.cell? ⟨g, o + i, none⟩ = some (.int .u8 (n8 (F i)))
/-- What a slice's pointer holds, if it has a length. -/
def Byq (w : World) (q : Option Addr) (n : Nat) (F : Nat → B8) : Prop := 0 < n → ∃ g o, q = some ⟨g, o, none⟩ ∧ Byt w g o n F
section
variable {w w' : World} {g o n : Nat} {F : Nat → B8} {q : Option Addr}
theorem Byt.on (h : Byt w g o n F) (hb : Below w.heap.size w w') : Byt w' g o n F := fun i hi => by
  have h1 := h i hi
  rw [cell_below hb (cell_lt h1)]; exact h1
theorem Byt.far (h : Byt w g o n F) {p : Addr} (hp : g ≠ p.block) (u : Value) : Byt (w.setCell p u) g o n F := fun i hi => by
  have h1 := h i hi
  unfold World.cell? at *
  rw [Below.heap_setCell w p u g hp]
  exact h1
theorem Byt.lt (h : Byt w g o n F) (hn : 0 < n) : g < w.heap.size := cell_lt (h 0 hn)
theorem Byt.le {m : Nat} (h : Byt w g o n F) (hm : m ≤ n) : Byt w g o m F := fun i hi => h i (by omega)
theorem Byt.re (h : Byt w g o n F) (d : Nat) (os : Array Obj) : Byt (Go.Sort.grow (redrawn w d) os) g o n F := h.on (below_regrown w d os)
theorem Byq.on (h : Byq w q n F) (hb : Below w.heap.size w w') : Byq w' q n F := fun hn => by
  obtain ⟨g, o, e, h1⟩ := h hn
  exact ⟨g, o, e, h1.on hb⟩
theorem Byq.le {m : Nat} (h : Byq w q n F) (hm : m ≤ n) : Byq w q m F := fun h0 => by
  obtain ⟨g, o, e, h1⟩ := h (by omega)
  exact ⟨g, o, e, h1.le hm⟩
theorem Byq.zero : Byq w q 0 F := fun h => by omega
theorem Byq.of (h : Byt w g o n F) : Byq w (some ⟨g, o, none⟩) n F := fun _ => ⟨g, o, rfl, h⟩
end
def byteAt (w : World) (p : Addr) : B8 := match w.cell? p with | some (.int .u8 x) => BitVec.ofInt 8 x | _ => 0
theorem byteAt_eq {w : World} {p : Addr} {x : Int} (h : w.cell? p = some (.int .u8 x)) : byteAt w p = BitVec.ofInt 8 x := by unfold byteAt; rw [h]
section
variable {H : Type} {enc : TypeId × Value → H} {P : Program}
theorem open_bytes {w : World} {r : Reach} {b0 base : Nat} {spare : Nat → Bool} {held : Bool} {ts t : TypeId} {v : Value} {d : DataW H} {p : List MemPlace} (hts : P.underlying ts = some (.slice t)) (hb : P.underlying t = some (.int .u8))
    (hC : P.cellsOf t = 1) (hv : Value.okWide P w r b0 ts v) (h : DataW.Trod enc P w base spare held ts v d p) :
    ∃ q n cap F, v = .slice q n cap ∧ n ≤ cap ∧ cap ≤ maxLen ∧ Byq w q n F := by
  obtain ⟨a1, len1, cap1, rfl⟩ := okWide_slice hts hv
  obtain ⟨fuel, h⟩ := h
  rcases Go.Deep.open_slice hts h with ⟨hcs, _⟩ | ⟨a, len, cap, m, k, D, Pl, hcs, _, hl, hm, hmm, _, hel⟩
  · simp [Value.cells] at hcs
    obtain ⟨rfl, rfl, rfl⟩ := hcs
    exact ⟨_, _, _, fun _ => 0, rfl, by omega, by omega, Byq.zero⟩
  · simp [Value.cells] at hcs
    obtain ⟨rfl, rfl, rfl⟩ := hcs
    by_cases hn : len1 = 0
    · subst hn; exact ⟨_, _, _, fun _ => 0, rfl, hl, hm, Byq.zero⟩
    have hlm : len1 ≤ m := by rw [hmm]; split <;> omega
    obtain ⟨g, o, sp⟩ := a
    rw [hC] at hel
    have hrd : ∀ i, i < len1 → ∃ x, w.cell? ((Addr.mk g o sp).add i) = some (.int .u8 (n8 (BitVec.ofInt 8 x))) ∧ w.cell? ((Addr.mk g o sp).add i) = some (.int .u8 x) := by
      intro i hi'
      obtain ⟨cs', hc, ht'⟩ := hel i (by omega)
      obtain ⟨_, hcl, hat⟩ := World.cells?_some hc
      obtain ⟨x, hx, _, wx⟩ := DataW.trod_int hb ht'
      subst hx
      have h1 := hat 0 (by omega)
      rw [Go.Deep.add_add, Nat.mul_one, Nat.add_zero] at h1
      exact ⟨x, by rw [h1, ← n8_of wx]; rfl, h1⟩
    have hsp : sp = none := by
      obtain ⟨x, hx, _⟩ := hrd 0 (by omega)
      exact cell_spot hx
    subst hsp
    have had : ∀ k, (Addr.mk g o none).add k = ⟨g, o + k, none⟩ := fun k => by
      unfold Addr.add
      by_cases hk : k = 0 <;> simp [hk]
    refine ⟨_, len1, cap1, fun i => byteAt w ⟨g, o + i, none⟩, rfl, hl, hm, Byq.of fun i hi' => ?_⟩
    obtain ⟨x, hx, hx2⟩ := hrd i hi'
    rw [had] at hx hx2
    show _ = some (Value.int .u8 (n8 (byteAt w ⟨g, o + i, none⟩)))
    rw [hx, byteAt_eq hx2]
end
end Go.Proofs.Ytkopenemoddbbaa

/- Bytes behind bytes: what append makes of them. No program in sight. -/
namespace Go.Proofs.Ytkopenemoddbbaa
open Go.RowKit Go.Deep

/-- n bytes, as cells. -/
def bl (F : Nat → B8) (n : Nat) : List Value := (List.range n).map fun i => .int .u8 (n8 (F i))
theorem bl_len (F : Nat → B8) (n : Nat) : (bl F n).length = n := by simp [bl]
theorem bl_at {F : Nat → B8} {n i : Nat} (h : i < n) : (bl F n)[i]? = some (.int .u8 (n8 (F i))) := by simp [bl, h]
/-- n of the one, and then the other ones. -/
def cat (F : Nat → B8) (n : Nat) (G : Nat → B8) (i : Nat) : B8 := if i < n then F i else G (i - n)
theorem cat_0 (F G : Nat → B8) : cat F 0 G = G := funext fun i => by simp [cat]
theorem bl_cat (F : Nat → B8) (n : Nat) (G : Nat → B8) (m : Nat) : bl (cat F n G) (n + m) = bl F n ++ bl G m := by
  apply List.ext_getElem?
  intro i
  by_cases h : i < n
  · rw [bl_at (by omega), List.getElem?_append_left (by rw [bl_len]; exact h), bl_at h]; simp [cat, h]
  · rw [List.getElem?_append_right (by rw [bl_len]; omega), bl_len]
    by_cases h2 : i < n + m
    · rw [bl_at h2, bl_at (by omega)]; simp [cat, h]
    · rw [List.getElem?_eq_none (by rw [bl_len]; omega), List.getElem?_eq_none (by rw [bl_len]; omega)]
theorem bl_cong {F G : Nat → B8} {n : Nat} (h : ∀ i, i < n → F i = G i) : bl F n = bl G n := by
  apply List.ext_getElem?
  intro i
  by_cases hi : i < n
  · rw [bl_at hi, bl_at hi, h i hi]
  · simp [bl, hi]
theorem u8_of {a : Int} (h : InU8 a) : ∃ X : B8, a = n8 X := by
  refine ⟨BitVec.ofInt 8 a, ?_⟩
  unfold InU8 at h
  unfold n8
  rw [BitVec.toNat_ofInt]
  omega
/-- A number of bytes turned. -/
def updB (F : Nat → B8) (k : Nat) (x : B8) (i : Nat) : B8 := if i = k then x else F i
section
variable {P : Program} {w w' : World} {base n m c g cap : Nat} {e t : TypeId} {F G : Nat → B8} {v : Value} {q : Option Addr}
theorem own_nil : w.ownsRow base e 1 (.slice none 0 0) 0 (bl F 0) := ⟨rfl, .inl ⟨rfl, rfl⟩⟩
/-- What is owned lies in a block of its own. -/
theorem own_form (h : w.ownsRow base e 1 v n (bl F n)) (hn : 0 < n) : ∃ g cap cur, v = .slice (some ⟨g, 0, none⟩) n cap ∧ base ≤ g ∧ Blk w g e cur ∧ n ≤ cap ∧ cap ≤ maxLen ∧ n ≤ cur.size ∧ Byt w g 0 n F := by
  rcases h.2 with ⟨_, h0⟩ | ⟨g, cap, cur, hv, hb, hg, hc, hm, hs, ht⟩
  · omega
  · refine ⟨g, cap, cur, hv, hb, hg, hc, hm, by omega, fun i hi => ?_⟩
    have h1 : cur[i]? = some (.int .u8 (n8 (F i))) := by
      have h2 := bl_at (F := F) hi
      rw [← ht, Nat.mul_one, List.getElem?_take_of_lt hi] at h2
      simpa using h2
    rw [Nat.zero_add, Blk.cell hg, h1]
theorem own_byq (h : w.ownsRow base e 1 v n (bl F n)) : ∃ q cap, v = .slice q n cap ∧ n ≤ cap ∧ cap ≤ maxLen ∧ Byq w q n F := by
  by_cases hn : 0 < n
  · obtain ⟨g, cap, _, hv, _, _, hc, hm, _, hb⟩ := own_form h hn
    exact ⟨_, cap, hv, hc, hm, Byq.of hb⟩
  · obtain rfl : n = 0 := by omega
    rcases h.2 with ⟨hv, _⟩ | ⟨g, cap, cur, hv, hb, hg, hc, hm, hs, ht⟩
    · exact ⟨_, _, hv, Nat.le_refl _, by omega, Byq.zero⟩
    · exact ⟨_, _, hv, hc, hm, Byq.zero⟩
theorem own_on (h : w.ownsRow base e 1 v n (bl F n)) (hb : Below w.heap.size w w') : w'.ownsRow base e 1 v n (bl F n) := by
  refine ⟨h.1, ?_⟩
  rcases h.2 with h0 | ⟨g, cap, cur, hv, hbg, hg, r⟩
  · exact .inl h0
  · exact .inr ⟨g, cap, cur, hv, hbg, Blk.on hg hb, r⟩
/-- append: whatever bytes (none, too) behind what is owned. -/
theorem run_app {ts ty : TypeId} (ht : P.underlying ts = some (.slice e)) (hi : (P.info? e).map (fun i => (i.zero, i.size, i.bytes)) = some (some (.int .u8 0), 1, 1))
    (hown : w.ownsRow base e 1 v n (bl F n)) (hmc : m ≤ c) (hG : Byq w q m G) (h47 : n + m ≤ 140737488355328) (hbase : base ≤ w.heap.size) :
    ∃ v' w', (Builtin.append_ #[ts, ts] ty #[v, .slice q m c]).run P w = .ok v' w' ∧ w'.ownsRow base e 1 v' (n + m) (bl (cat F n G) (n + m)) ∧ Below base w w' := by
  obtain ⟨i, hi, hz, hs, hby⟩ := info_parts hi
  by_cases hm : 0 < m
  · obtain ⟨g, o, rfl, hB⟩ := hG hm
    obtain ⟨v', w', h1, h2, h3, _⟩ := run_append_own (P := P) w base ts ty e i (.int .u8 0) 1 1 ht hi hz hs hby rfl (by decide) v n (bl F n) hown ⟨g, o, none⟩ m c (bl G m) (by rw [bl_len]; omega) (fun j u hj => by
        have hjm : j < m := by
          rcases Nat.lt_or_ge j m with h | h
          · exact h
          · rw [List.getElem?_eq_none (by rw [bl_len]; exact h)] at hj; cases hj
        rw [bl_at hjm] at hj
        obtain rfl := Option.some.inj hj
        have := hB j hjm
        unfold Addr.add
        by_cases hk : j = 0 <;> simp [hk] at this ⊢ <;> exact this) (fun u hu => by
        simp [bl] at hu
        obtain ⟨k, _, rfl⟩ := hu
        rfl) (by simp only [maxLen]; omega) (by omega) hbase
    refine ⟨v', w', h1, by rw [bl_cat]; exact h2, (Below.refl _ _).grown h3 hbase fun k hk => ?_⟩
    rcases hown.2 with ⟨hv, _⟩ | ⟨g', cap', cur, hv, hb, _⟩
    · subst hv; simp [Value.ownBlock] at hk
    · subst hv; simp [Value.ownBlock] at hk; omega
  · obtain rfl : m = 0 := by omega
    have hsrc : Src P i.size ts (.slice q 0 c) 0 [] w := by
      cases q with
      | none => exact Src.ofNil w ht c
      | some a => exact Src.ofSlice w ht a 0 c [] (by simp) (by simp) (by simp)
    obtain ⟨q', cap', rfl, hc', _, _⟩ := own_byq hown
    refine ⟨_, w, run_append_nothing w ts ts ty e i ht hi q' n cap' hc' _ hsrc, ?_, Below.refl _ _⟩
    rw [bl_cat]
    simpa [bl] using hown
/-- A byte stored. -/
theorem Byt.put {cur : Array Value} {k : Nat} {x : B8} (h : Byt w g 0 n F) (hC : Blk w g e cur) (hn : n ≤ cur.size) (hk : k < n) : Byt (w.setCell ⟨g, k, none⟩ (.int .u8 (n8 x))) g 0 n (updB F k x) := fun i hi => by
  have h1 := h i hi
  rw [Nat.zero_add] at h1 ⊢
  rw [(hC.set_ k _).cell]
  rw [hC.cell] at h1
  unfold updB
  by_cases hik : i = k
  · subst hik; rw [if_pos rfl, Array.getElem?_setIfInBounds_self_of_lt (by omega)]
  · rw [if_neg hik, ← h1]
    rw [Array.getElem?_setIfInBounds_ne (fun h => hik h.symm)]
end
end Go.Proofs.Ytkopenemoddbbaa

/- Room for bytes, of the call's own; a slice of slices. No program in sight. -/
namespace Go.Proofs.Ytkopenemoddbbaa
open Go.RowKit Go.Deep

section
variable {P : Program} {w w' : World} {base n m c g cap : Nat} {e t : TypeId} {F G : Nat → B8} {v : Value} {q : Option Addr}
/-- append(nil, make([]byte, n)...): room for n, and none of it owned yet. -/
theorem run_grow0 {ts tn ty : TypeId} (ht : P.underlying ts = some (.slice e)) (htn : P.underlying tn = some (.int .i64)) (hi : (P.info? e).map (fun i => (i.zero, i.size, i.bytes)) = some (some (.int .u8 0), 1, 1))
    (h0 : 0 < n) (h47 : n ≤ 140737488355328) (hbase : base ≤ w.heap.size) :
    ∃ g cap w', (Builtin.append_ #[ts, tn] ty #[.slice none 0 0, .int .i64 n]).run P w = .ok (.slice (some ⟨g, 0, none⟩) n cap) w' ∧ n ≤ cap ∧ cap ≤ maxLen ∧ w'.ownsRow base e 1 (.slice (some ⟨g, 0, none⟩) 0 cap) 0 (bl F 0) ∧ Below base w w' := by
  obtain ⟨i, hi, hz, hs, hby⟩ := info_parts hi
  have h := Lib.run_append_nil_zeros (P := P) w ts tn ty e i (.int .u8 0) .i64 .i64 ht htn hi hz n h0 (by omega) (by omega) (by rw [hby]; omega)
  have hge := grownCap_ge w n 0 e
  have hcm := grownCap_le_maxLen w n 0 e (by simp only [maxLen]; omega)
  refine ⟨_, _, _, h, hge, hcm, ⟨rfl, .inr ⟨w.heap.size, _, _, rfl, hbase, heap_alloc_new w.drew _, Nat.zero_le _, hcm, ?_, rfl⟩⟩, (Below.refl _ _).drew.alloc hbase _⟩
  simp only [Array.size_append, size_zeroCells]
  show n * 1 + (grownCap w n 0 e - n) * 1 = _
  omega
theorem own_low {B : Nat} (h : w.ownsRow base e 1 v n (bl F n)) (hb : B ≤ base) : w.ownsRow B e 1 v n (bl F n) := by
  refine ⟨h.1, ?_⟩
  rcases h.2 with h0 | ⟨g, cap, cur, hv, hbg, r⟩
  · exact .inl h0
  · exact .inr ⟨g, cap, cur, hv, Nat.le_trans hb hbg, r⟩
/-- What is cut off behind what is owned. -/
theorem own_cut {k : Nat} (h : w.ownsRow base e 1 v n (bl F n)) (hv : v = .slice q n c) (hk : k ≤ n) : w.ownsRow base e 1 (.slice q k c) k (bl F k) := by
  refine ⟨by rw [bl_len]; omega, ?_⟩
  rcases h.2 with ⟨h1, h0⟩ | ⟨g, cap, cur, hv', hb, hg, hc, hm, hs, ht⟩
  · subst h1
    obtain ⟨rfl, rfl, rfl⟩ := Value.slice.inj hv
    obtain rfl : k = 0 := by omega
    exact .inl ⟨rfl, rfl⟩
  · rw [hv'] at hv
    obtain ⟨rfl, _, rfl⟩ := Value.slice.inj hv
    refine .inr ⟨g, cap, cur, rfl, hb, hg, by omega, hm, hs, ?_⟩
    have : bl F k = (bl F n).take k := by simp [bl, ← List.map_take, List.take_range, Nat.min_eq_left hk]
    rw [this, ← ht, List.take_take]
    congr 1
    omega
end
end Go.Proofs.Ytkopenemoddbbaa

/- A range over a function whose rounds come of one known list: what the iterator owes, what the loop owes. The iterator may keep a few blocks of its own. No program in sight. -/
namespace Go.Proofs.Ytkopenemoddbbaa
open Go.RowKit

/-- The blocks that K names lie as they lay; no block has gone. -/
structure Kept (K : Nat → Prop) (w w' : World) : Prop where
  os : w'.os = w.os
  tape : w'.tape = w.tape
  output : w'.output = w.output
  size : w.heap.size ≤ w'.heap.size
  block : ∀ b, b < w.heap.size → K b → w'.heap[b]? = w.heap[b]?
section
variable {K K' : Nat → Prop} {A B C : World}
theorem Kept.refl (K : Nat → Prop) (A : World) : Kept K A A := ⟨rfl, rfl, rfl, Nat.le_refl _, fun _ _ _ => rfl⟩
theorem Kept.trans (h : Kept K A B) (k : Kept K B C) : Kept K A C :=
  ⟨k.os.trans h.os, k.tape.trans h.tape, k.output.trans h.output, Nat.le_trans h.size k.size, fun b hb hK => (k.block b (Nat.lt_of_lt_of_le hb h.size) hK).trans (h.block b hb hK)⟩
theorem Kept.mono (h : Kept K A B) (hK : ∀ b, K' b → K b) : Kept K' A B := ⟨h.os, h.tape, h.output, h.size, fun b hb hk => h.block b hb (hK b hk)⟩
theorem Kept.of_below (h : Below A.heap.size A B) : Kept K A B := ⟨h.os, h.tape, h.output, h.size, fun b hb _ => h.block b hb⟩
theorem Kept.on (h : Kept K A B) (k : Below B.heap.size B C) : Kept K A C := h.trans (Kept.of_below k)
theorem Kept.alloc (h : Kept K A B) (o : Obj) : Kept K A (B.alloc o) := h.on ((Below.refl _ _).alloc (Nat.le_refl _) o)
theorem Kept.setCell (h : Kept K A B) {p : Addr} (hp : ¬ K p.block) (u : Value) : Kept K A (B.setCell p u) :=
  h.trans ⟨rfl, rfl, rfl, by simp [World.setCell], fun b _ hK => Below.heap_setCell B p u b (fun e => hp (e ▸ hK))⟩
theorem Kept.fresh (h : Kept K A B) {p : Addr} (hp : A.heap.size ≤ p.block) (u : Value) : Kept K A (B.setCell p u) :=
  ⟨h.os, h.tape, h.output, by simp [World.setCell]; exact h.size, fun b hb hK => (Below.heap_setCell B p u b (by omega)).trans (h.block b hb hK)⟩
theorem Kept.putObj (h : Kept K A B) {l : Nat} (hl : ¬ K l) (o : Obj) : Kept K A (B.putObj l o) :=
  h.trans ⟨rfl, rfl, rfl, by simp [World.putObj], fun b _ hK => World.putObj_heap_other (fun e => hl (e ▸ hK))⟩
theorem Kept.drew (h : Kept K A B) : Kept K A B.drew := ⟨h.os, h.tape, h.output, h.size, h.block⟩
theorem Kept.grown (h : Kept K A B) {row : Option Nat} (hg : B.grownBy C row) (hr : ∀ k, row = some k → ¬ K k) : Kept K A C :=
  h.trans ⟨hg.os, hg.tape, hg.output, hg.size, fun b hb hK => hg.block b hb (fun e => hr b e.symm hK)⟩
theorem Kept.below {n : Nat} (h : Kept K A B) (hn : n ≤ A.heap.size) (hK : ∀ b, b < n → K b) : Below n A B := ⟨h.os, h.tape, h.output, h.size, fun b hb => h.block b (by omega) (hK b hb)⟩
theorem Kept.blk {g : Nat} {t : TypeId} {cs : Array Value} (h : Kept K A B) (hK : K g) (hb : Blk A g t cs) : Blk B g t cs := (h.block g hb.lt hK).trans hb
end

/-- The blocks from lo on, below hi. -/
def Priv (lo hi b : Nat) : Prop := lo ≤ b ∧ b < hi

/-- What an iterator owes: its rounds come of xs, in its row; behind the first round's beginning it writes to old blocks of its own alone (below Z); a round keeps these, and what the iterator has captured. -/
def Iter (P : Program) (gf : Nat) (lb : Array Value) {α : Type} (encs : α → Array Value) (xs : List α) (cap : Nat → Prop) (w0 : World) : Prop :=
  ∀ (m l : Nat) (J Jx : Nat → Nat → World → Prop) (W : World), Kept cap w0 W →
    (∀ Z i A B, J Z i A → Kept (fun b => ¬ Priv W.heap.size Z b) A B → J Z i B) → (∀ Z i A B, Jx Z i A → Kept (fun b => ¬ Priv W.heap.size Z b) A B → Jx Z i B) →
    (∀ Z i x A, W.heap.size ≤ Z → Z ≤ A.heap.size → xs[i]? = some x → J Z i A → YieldAt Fence.wide m P l (encs x) A fun e B =>
      (e = .returned (.bool true) ∧ J Z (i + 1) B ∧ Kept (fun b => Priv W.heap.size Z b ∨ cap b) A B) ∨ (e = .returned (.bool false) ∧ Jx Z i B)) →
    (∀ Z, J Z 0 W) →
    CallsIn Fence.wide (m + 1) P gf (#[.func (.yield l) #[] #[]] ++ lb) W fun e B => (∃ v, e = .returned v) ∧ ∃ Z, W.heap.size ≤ Z ∧ (J Z xs.length B ∨ ∃ i, i < xs.length ∧ Jx Z i B)

/-- How a round may be left. -/
def leftBy (K : Nat → Prop) (I : Nat → World → Prop) (Ix : Code → Nat → World → Prop) (i : Nat) (A : World) : Exit → Act → World → Prop
  | .normal, _, B => Kept K A B ∧ I (i + 1) B
  | .ret, _, B => Kept K A B ∧ Ix .ret i B
  | .exit id, _, B => Kept K A B ∧ Ix (.exit id) i B
  | .goto t, _, B => Kept K A B ∧ Ix (.goto t) i B
  | .panic _, _, _ => False
  | .outgrown, _, _ => False

/-- What the round keeps: the loop's own blocks, the iterator's, what it has captured. -/
def Keeps (lo hi : Nat) (cap : Nat → Prop) (b : Nat) : Prop := Priv lo hi b ∨ cap b

/-- THE LAW. -/
theorem wp_range {P : Program} {m : Nat} {α : Type} {g : Operand} {ps : Array Tmp} {assign body : Code} {Q : Exit → Act → World → Prop} {a : Act} {w : World} {gf : Nat} {lb : Array Value}
    (hg : a.eval g = .func (.func gf) #[] lb) (eg : ∀ args w, (callFunc gf args).run P w = .ok (.enter gf args) w)
    {encs : α → Array Value} {xs : List α} {cap : Nat → Prop} (hit : Iter P gf lb encs xs cap w) (hcap : ∀ b, cap b → b < w.heap.size) (hps : ∀ x, (encs x).size = ps.size)
    (I : Nat → Nat → World → Prop) (Ix : Nat → Code → Nat → World → Prop)
    (hI : ∀ Z i A B, I Z i A → Kept (fun b => ¬ Priv w.heap.size Z b) A B → I Z i B) (hIx : ∀ Z c i A B, Ix Z c i A → Kept (fun b => ¬ Priv w.heap.size Z b) A B → Ix Z c i B) (h0 : ∀ Z, I Z 0 w)
    (hround : ∀ Z l i x A, l = w.heap.size + 1 → w.heap.size + 2 ≤ Z → Z ≤ A.heap.size → xs[i]? = some x → I Z i A →
      assign.wpIn (Fence.wide.inRound l) m P (Exit.then (fun a1 A1 => Kept (Keeps w.heap.size Z cap) A A1 ∧
        ∀ A2, Kept (fun b => b ≠ l) A1 A2 → A2.heap.size = A1.heap.size → body.wpIn (Fence.wide.inRound l) m P (leftBy (Keeps w.heap.size Z cap) (I Z) (Ix Z) i A2) a1 A2) (fun _ _ _ => False))
        { tmps := (ps.zip (encs x)).foldl (fun t (p, v) => t.setIfInBounds p v) a.tmps, defers := [] } A)
    (hdone : ∀ Z W, I Z xs.length W → W.heap[w.heap.size]? = some (.deferred (some [])) → Q .normal { a with defers := { target := .collected w.heap.size, args := #[] } :: a.defers } W)
    (hstop : ∀ Z c i W, i < xs.length → Ix Z c i W → W.heap[w.heap.size]? = some (.deferred (some [])) → c.wp P Q { a with defers := { target := .collected w.heap.size, args := #[] } :: a.defers } W) :
    (Code.rangeFunc g ps assign body).wp P Q a w := by
  refine wpIn_wide.1 (wpIn_rangeFunc (n := m + 2) ?_)
  intro fn hfn
  obtain ⟨rec, hrec⟩ : ∃ rec : LoopState → Option Code → Loop, rec = fun st pe => { state := st, pending := pe, fn, tmps := a.tmps, params := ps, assign, body, defers := w.heap.size } := ⟨_, rfl⟩
  obtain ⟨W1, hW1⟩ : ∃ W1, (w.alloc (.deferred (some []))).alloc (.loop (rec .ready none)) = W1 := ⟨_, rfl⟩
  have hs1 : W1.heap.size = w.heap.size + 2 := by rw [← hW1]; simp
  have hL1 : W1.heap[w.heap.size + 1]? = some (.loop (rec .ready none)) := by
    rw [← hW1]; have := World.alloc_heap_new (w.alloc (.deferred (some []))) (.loop (rec .ready none)); rwa [World.size_alloc] at this
  have hK1 : W1.heap[w.heap.size]? = some (.deferred (some [])) := by
    rw [← hW1]; exact (Below.heap_alloc _ _ _ (by simp)).trans (World.alloc_heap_new w _)
  have hb1 : Below w.heap.size w W1 := by rw [← hW1]; exact ((Below.refl _ w).alloc (Nat.le_refl _) _).alloc (by simp) _
  have hpr : ∀ Z b, ¬ Priv w.heap.size Z b → ¬ Priv W1.heap.size Z b := fun Z b h h' => h ⟨by have := h'.1; omega, h'.2⟩
  refine ⟨w.heap.size + 1, [{ target := .collected w.heap.size, args := #[] }], W1, { target := .fn (.func gf) lb, args := #[.func (.yield (w.heap.size + 1)) #[] #[]] }, W1, gf,
    #[.func (.yield (w.heap.size + 1)) #[] #[]] ++ lb, W1, ?_, ?_, ?_, ?_, fun _ => by omega, ?_⟩
  · rw [← hW1, hrec]; exact run_enterLoop_outer _ _ _ _ _
  · simp only [resolve, hg]
    simp [go_sem]
  · intro f' _; trivial
  · simp [invoke, go_sem, eg]
  · refine (hit m (w.heap.size + 1)
      (fun Z i W => I Z i W ∧ W.heap[w.heap.size + 1]? = some (.loop (rec .ready none)) ∧ W.heap[w.heap.size]? = some (.deferred (some [])))
      (fun Z i W => W1.heap.size ≤ Z ∧ ∃ c, Ix Z c i W ∧ W.heap[w.heap.size + 1]? = some (.loop (rec .done (some c))) ∧ W.heap[w.heap.size]? = some (.deferred (some [])))
      W1 (Kept.of_below hb1) ?_ ?_ ?_ (fun Z => ⟨hI _ _ _ _ (h0 Z) (Kept.of_below hb1), hL1, hK1⟩)).mono ?_
    · rintro Z i A B ⟨h1, h2, h3⟩ hk
      have hl := (Array.getElem?_eq_some_iff.1 h2).1
      exact ⟨hI _ _ _ _ h1 (hk.mono (hpr Z)), (hk.block _ hl (fun h => by have := h.1; omega)).trans h2, (hk.block _ (by omega) (fun h => by have := h.1; omega)).trans h3⟩
    · rintro Z i A B ⟨h0, c, h1, h2, h3⟩ hk
      have hl := (Array.getElem?_eq_some_iff.1 h2).1
      exact ⟨h0, c, hIx _ _ _ _ _ h1 (hk.mono (hpr Z)), (hk.block _ hl (fun h => by have := h.1; omega)).trans h2, (hk.block _ (by omega) (fun h => by have := h.1; omega)).trans h3⟩
    · -- one round
      rintro Z i x A hZ1 hZ2 hx ⟨hi, hl, hk⟩
      have hy := run_yield (P := P) (args := encs x) hl (by rw [hrec]; exact hps x)
      rw [hrec] at hy
      refine ⟨fn, _, assign, body, hy, roundIn_of_wpIn hfn ?_⟩
      refine wpIn_mono (hround Z _ i x A rfl (by omega) hZ2 hx hi) ?_
      rintro e a1 A1 h
      cases e with
      | exit id => exact h.elim
      | goto t => exact h.elim
      | ret => exact h.elim
      | panic c => exact h.elim
      | outgrown => exact h.elim
      | normal =>
        obtain ⟨hA1, hbody⟩ := h
        have hl' : w.heap.size + 1 < A.heap.size := (Array.getElem?_eq_some_iff.1 hl).1
        have hl1 : A1.heap[w.heap.size + 1]? = some (.loop (rec .ready none)) := (hA1.block _ hl' (.inl ⟨by omega, by omega⟩)).trans hl
        have hk1 : A1.heap[w.heap.size]? = some (.deferred (some [])) := (hA1.block _ (by omega) (.inl ⟨by omega, by omega⟩)).trans hk
        have hlt1 : w.heap.size + 1 < A1.heap.size := (Array.getElem?_eq_some_iff.1 hl1).1
        refine ⟨_, run_beginRound hl1 (by rw [hrec]), ?_⟩
        have hl2 : (A1.putObj (w.heap.size + 1) (.loop { rec .ready none with state := .busy })).heap[w.heap.size + 1]? = some (.loop { rec .ready none with state := .busy }) := World.putObj_heap_same hlt1
        have hk2 : (A1.putObj (w.heap.size + 1) (.loop { rec .ready none with state := .busy })).heap[w.heap.size]? = some (.deferred (some [])) := (World.putObj_heap_other (by omega)).trans hk1
        have hA2 : Kept (fun b => Priv W1.heap.size Z b ∨ cap b) A (A1.putObj (w.heap.size + 1) (.loop { rec .ready none with state := .busy })) :=
          (hA1.mono (K' := fun b => Priv W1.heap.size Z b ∨ cap b) (fun b h => h.imp (fun h => ⟨by have := h.1; omega, h.2⟩) id)).putObj (fun h => by rcases h with h | h; exact absurd h.1 (by omega); exact absurd (hcap _ h) (by omega)) _
        refine wpIn_mono (hbody _ ((Kept.refl _ A1).putObj (by simp) _) (by simp [World.putObj])) ?_
        have fin : ∀ (jump : Option Code) (W3 : World), Kept (Keeps w.heap.size Z cap) (A1.putObj (w.heap.size + 1) (.loop { rec .ready none with state := .busy })) W3 →
            (Instr.endRound (w.heap.size + 1) jump).run P W3 = .ok (.bool jump.isNone) (W3.putObj (w.heap.size + 1) (.loop (rec (if jump.isNone then .ready else .done) jump))) ∧
            (W3.putObj (w.heap.size + 1) (.loop (rec (if jump.isNone then .ready else .done) jump))).heap[w.heap.size + 1]? = some (.loop (rec (if jump.isNone then .ready else .done) jump)) ∧
            (W3.putObj (w.heap.size + 1) (.loop (rec (if jump.isNone then .ready else .done) jump))).heap[w.heap.size]? = some (.deferred (some [])) ∧
            Kept (fun b => ¬ Priv w.heap.size Z b) W3 (W3.putObj (w.heap.size + 1) (.loop (rec (if jump.isNone then .ready else .done) jump))) ∧
            Kept (fun b => Priv W1.heap.size Z b ∨ cap b) A (W3.putObj (w.heap.size + 1) (.loop (rec (if jump.isNone then .ready else .done) jump))) := fun jump W3 hk3 => by
          have hsz2 : (A1.putObj (w.heap.size + 1) (.loop { rec .ready none with state := .busy })).heap.size = A1.heap.size := by simp [World.putObj]
          have hl3 := (hk3.block (w.heap.size + 1) (by omega) (.inl ⟨by omega, by omega⟩)).trans hl2
          have hd3 := (hk3.block w.heap.size (by omega) (.inl ⟨by omega, by omega⟩)).trans hk2
          have := run_endRound (P := P) jump hl3
          rw [hrec] at this ⊢
          refine ⟨this, World.putObj_heap_same (Array.getElem?_eq_some_iff.1 hl3).1, (World.putObj_heap_other (by omega)).trans hd3, (Kept.refl _ _).putObj (fun h => h ⟨by omega, by omega⟩) _, ?_⟩
          refine (hA2.trans ?_).putObj (fun h => by rcases h with h | h; exact absurd h.1 (by omega); exact absurd (hcap _ h) (by omega)) _
          rw [hrec] at hk3 ⊢
          exact hk3.mono (fun b h => h.imp (fun h => ⟨by have := h.1; omega, h.2⟩) id)
        rintro e a3 W3 hp
        cases e with
        | normal =>
          obtain ⟨hk3, hi3⟩ := hp
          obtain ⟨hr, hl4, hk4, hp4, hq4⟩ := fin none W3 hk3
          exact ⟨_, _, hr, .inl ⟨rfl, ⟨hI _ _ _ _ hi3 hp4, hl4, hk4⟩, hq4⟩⟩
        | ret =>
          obtain ⟨hk3, hi3⟩ := hp
          obtain ⟨hr, hl4, hk4, hp4, hq4⟩ := fin (some .ret) W3 hk3
          exact ⟨_, _, hr, .inr ⟨rfl, hZ1, .ret, hIx _ _ _ _ _ hi3 hp4, hl4, hk4⟩⟩
        | exit id =>
          obtain ⟨hk3, hi3⟩ := hp
          obtain ⟨hr, hl4, hk4, hp4, hq4⟩ := fin (some (.exit id)) W3 hk3
          exact ⟨_, _, hr, .inr ⟨rfl, hZ1, .exit id, hIx _ _ _ _ _ hi3 hp4, hl4, hk4⟩⟩
        | goto t =>
          obtain ⟨hk3, hi3⟩ := hp
          obtain ⟨hr, hl4, hk4, hp4, hq4⟩ := fin (some (.goto t)) W3 hk3
          exact ⟨_, _, hr, .inr ⟨rfl, hZ1, .goto t, hIx _ _ _ _ _ hi3 hp4, hl4, hk4⟩⟩
        | panic ch => exact hp.elim
        | outgrown => exact hp.elim
    · rintro e W2 ⟨⟨v, rfl⟩, Z, hZ, (⟨hi, hl, hk⟩ | ⟨i, hlt, hZ', c, hi, hl, hk⟩)⟩
      · exact ⟨none, _, by have := run_endLoop (P := P) hl (by rw [hrec]; simp); rw [hrec] at this; exact this, hdone Z _ (hI _ _ _ _ hi ((Kept.refl _ _).putObj (fun h => h ⟨by omega, by omega⟩) _)) ((World.putObj_heap_other (by omega)).trans hk)⟩
      · exact ⟨some c, _, by have := run_endLoop (P := P) hl (by rw [hrec]; simp); rw [hrec] at this; exact this, wpIn_wide.2 (hstop Z c i _ hlt (hIx _ _ _ _ _ hi ((Kept.refl _ _).putObj (fun h => h ⟨by omega, by omega⟩) _)) ((World.putObj_heap_other (by omega)).trans hk))⟩
/-! ### at the function's end -/
theorem Blk.putObj {w : World} {g D : Nat} {t : TypeId} {cs : Array Value} (h : Blk w g t cs) (hne : g ≠ D) (o : Obj) : Blk (w.putObj D o) g t cs := (World.putObj_heap_other hne).trans h
theorem putObj_below {n D : Nat} {w w' : World} (h : Below n w w') (hD : n ≤ D) (o : Obj) : Below n w (w'.putObj D o) :=
  h.trans ⟨rfl, rfl, rfl, by simp [World.putObj], fun k hk => World.putObj_heap_other (by omega)⟩
theorem def_far {w : World} {D : Nat} {p : Addr} {u : Value} {o : Obj} (h : w.heap[D]? = some o) (hp : D ≠ p.block) : (w.setCell p u).heap[D]? = some o := (Below.heap_setCell w p u D hp).trans h
theorem leave_mark {F : Fence} {n : Nat} {P : Program} {fn : Func} {R : Ending → World → Prop} {tmps : Array Value} {w : World} {D : Nat} {v : Value} (hD : w.heap[D]? = some (.deferred (some [])))
    (hv : (results fn tmps).run P (w.putObj D (.deferred none)) = .ok v (w.putObj D (.deferred none))) (hR : R (.returned v) (w.putObj D (.deferred none))) : bodyPostM F n P fn R .ret { tmps := tmps, defers := [{ target := .collected D, args := #[] }] } w := by
  refine ⟨by simp, .inl ⟨_, _, rfl, run_takeDeferred hD, ?_⟩⟩
  exact ⟨v, hv, hR⟩
end Go.Proofs.Ytkopenemoddbbaa

/- Rows that a call owns, and rows that are read: the elements of a list, each as its cells. No program in sight. -/
namespace Go.Proofs.Ytkopenemoddbbaa
open Go.RowKit

section
variable {P : Program} {w w' : World} {base : Nat} {e : TypeId} {size : Nat} {α : Type} {enc : α → List Value} {v : Value} {xs : List α}
/-- v owns a row in a block from base on. -/
def Owns (w : World) (base : Nat) (e : TypeId) (size : Nat) (enc : α → List Value) (v : Value) (xs : List α) : Prop := w.ownsRow base e size v xs.length (xs.flatMap enc)
/-- From q on lie the elements of xs. -/
def Rd (w : World) (q : Option Addr) (size : Nat) (enc : α → List Value) (xs : List α) : Prop :=
  0 < xs.length → ∃ g o, q = some ⟨g, o, none⟩ ∧ ∀ i x, xs[i]? = some x → ∀ j u, (enc x)[j]? = some u → w.cell? ⟨g, o + i * size + j, none⟩ = some u
theorem Rd.on {q : Option Addr} (h : Rd w q size enc xs) (hb : Below w.heap.size w w') : Rd w' q size enc xs := fun hn => by
  obtain ⟨g, o, hq, h1⟩ := h hn
  exact ⟨g, o, hq, fun i x hx j u hu => by rw [cell_below hb (cell_lt (h1 i x hx j u hu))]; exact h1 i x hx j u hu⟩
theorem Rd.at {g o : Nat} (h : Rd w (some ⟨g, o, none⟩) size enc xs) {i : Nat} {x : α} (hx : xs[i]? = some x) {j : Nat} {u : Value} (hu : (enc x)[j]? = some u) : w.cell? ⟨g, o + i * size + j, none⟩ = some u := by
  have hn : 0 < xs.length := by have := (List.getElem?_eq_some_iff.1 hx).1; omega
  obtain ⟨g', o', hq, h1⟩ := h hn
  cases hq
  exact h1 i x hx j u hu
theorem Rd.far {q : Option Addr} (h : Rd w q size enc xs) (hq : ∀ a, q = some a → base ≤ a.block) {p : Addr} (hp : p.block < base) (u : Value) : Rd (w.setCell p u) q size enc xs := fun hn => by
  obtain ⟨g, o, hg, h1⟩ := h hn
  have h2 := hq _ hg
  exact ⟨g, o, hg, fun i x hx j v hv => by
    have h3 := h1 i x hx j v hv
    unfold World.cell? at h3 ⊢
    rw [Below.heap_setCell w p u g (by dsimp only at h2; omega)]
    exact h3⟩
theorem Owns.nil : Owns w base e size enc (.slice none 0 0) ([] : List α) := ⟨by simp, .inl ⟨rfl, rfl⟩⟩
theorem flat_at (hl : ∀ x, (enc x).length = size) : ∀ (xs : List α) (i : Nat) (x : α), xs[i]? = some x → ∀ j u, (enc x)[j]? = some u → (xs.flatMap enc)[i * size + j]? = some u := by
  intro xs
  induction xs with
  | nil => intro i x h; cases h
  | cons y ys ih =>
    intro i x hx j u hu
    rw [List.flatMap_cons]
    have hj : j < size := by rw [← hl x]; exact (List.getElem?_eq_some_iff.1 hu).1
    cases i with
    | zero =>
      obtain rfl : y = x := by simpa using hx
      rw [List.getElem?_append_left (by rw [hl]; omega)]
      simpa using hu
    | succ i =>
      rw [List.getElem?_append_right (by rw [hl, Nat.succ_mul]; omega), hl, show (i + 1) * size + j - size = i * size + j by rw [Nat.succ_mul]; omega]
      exact ih i x (by simpa using hx) j u hu
theorem Owns.form (hl : ∀ x, (enc x).length = size) (h : Owns w base e size enc v xs) : ∃ q cap, v = .slice q xs.length cap ∧ xs.length ≤ cap ∧ cap ≤ maxLen ∧ Rd w q size enc xs ∧ (∀ a, q = some a → base ≤ a.block ∧ a.block < w.heap.size) ∧ (0 < xs.length → ∃ g, q = some ⟨g, 0, none⟩) := by
  rcases h.2 with ⟨hv, h0⟩ | ⟨g, cap, cur, hv, hb, hg, hc, hm, hs, ht⟩
  · exact ⟨none, 0, by rw [hv, h0], by omega, by omega, fun hn => by omega, fun a ha => (by cases ha), fun hn => by omega⟩
  · refine ⟨_, cap, hv, hc, hm, fun _ => ⟨g, 0, rfl, fun i x hx j u hu => ?_⟩, fun a ha => by cases ha; exact ⟨hb, (Array.getElem?_eq_some_iff.1 hg).1⟩, fun _ => ⟨g, rfl⟩⟩
    have h1 := flat_at hl xs i x hx j u hu
    rw [← ht] at h1
    have h2 := (List.getElem?_eq_some_iff.1 h1).1
    rw [List.length_take] at h2
    rw [List.getElem?_take_of_lt (by omega)] at h1
    rw [show 0 + i * size + j = i * size + j by omega]
    have := Blk.cell (w := w) (t := e) (cs := cur) hg (i * size + j)
    rw [this]
    simpa using h1
theorem Owns.on (h : Owns w base e size enc v xs) (hb : Below w.heap.size w w') : Owns w' base e size enc v xs := by
  refine ⟨h.1, ?_⟩
  rcases h.2 with h0 | ⟨g, cap, cur, hv, hbg, hg, r⟩
  · exact .inl h0
  · exact .inr ⟨g, cap, cur, hv, hbg, Blk.on hg hb, r⟩
/-- A store ahead of base leaves it. -/
theorem Owns.far (h : Owns w base e size enc v xs) {p : Addr} (hp : p.block < base) (u : Value) : Owns (w.setCell p u) base e size enc v xs := ownsRow_setCell_below h hp u
theorem Owns.kept (h : Owns w base e size enc v xs) (hk : ∀ g, base ≤ g → g < w.heap.size → w'.heap[g]? = w.heap[g]?) : Owns w' base e size enc v xs := by
  refine ⟨h.1, ?_⟩
  rcases h.2 with h0 | ⟨g, cap, cur, hv, hbg, hg, r⟩
  · exact .inl h0
  · exact .inr ⟨g, cap, cur, hv, hbg, (hk g hbg (Array.getElem?_eq_some_iff.1 hg).1).trans hg, r⟩
theorem Owns.block (h : Owns w base e size enc v xs) : ∀ k, v.ownBlock = some k → base ≤ k ∧ k < w.heap.size := World.ownsRow.lt h
/-- One element behind them. -/
theorem run_push {ts ty : TypeId} {z : Value} {bytes b : Nat} {x : α} (ht : P.underlying ts = some (.slice e)) (hi : (P.info? e).map (fun i => (i.zero, i.size, i.bytes)) = some (some z, size, bytes)) (hz : z.cells.size = size) (hs : 0 < size) (hby : 0 < bytes)
    (hl : (enc x).length = size) (h1 : ∀ u ∈ enc x, u.oneCell' = true) (hown : Owns w base e size enc v xs) (hx : ∀ j u, (enc x)[j]? = some u → w.cell? ⟨b, j, none⟩ = some u) (h47 : (xs.length + 1) * bytes ≤ 140737488355328) (hbase : base ≤ w.heap.size) :
    ∃ v' w', (Builtin.append_ #[ts, ts] ty #[v, .slice (some ⟨b, 0, none⟩) 1 1]).run P w = .ok v' w' ∧ Owns w' base e size enc v' (xs ++ [x]) ∧ w.grownBy w' v.ownBlock ∧ Below base w w' ∧ ∃ g cap, v' = .slice (some ⟨g, 0, none⟩) (xs.length + 1) cap := by
  obtain ⟨i, hi, hz0, hs0, hb0⟩ := info_parts hi
  have h63 : xs.length + 1 ≤ maxLen := by
    have : (xs.length + 1) * 1 ≤ (xs.length + 1) * bytes := Nat.mul_le_mul_left _ hby
    simp only [maxLen]; omega
  obtain ⟨v', w', h2, h3, h4, h5⟩ := run_append_own (P := P) w base ts ty e i z size bytes ht hi hz0 hs0 hb0 hz hs v xs.length (xs.flatMap enc) hown ⟨b, 0, none⟩ 1 1 (enc x) (by rw [hl]; omega) (fun j u hu => by
    have := hx j u hu
    unfold Addr.add
    by_cases hk : j = 0 <;> simp [hk] at this ⊢ <;> exact this) h1 h63 h47 hbase
  refine ⟨v', w', h2, ?_, h4, (Below.refl _ _).grown h4 hbase fun k hk => (hown.block k hk).1, ?_⟩
  · unfold Owns
    rw [List.length_append, List.flatMap_append, List.length_singleton, List.flatMap_singleton]
    exact h3
  · rcases h3.2 with ⟨hv, h0⟩ | ⟨g, cap, _, hv, _⟩
    · omega
    · exact ⟨g, cap, hv⟩
end
/-! ### whole numbers; cells -/
abbrev encI (n : Int) : List Value := [.int .i64 n]
abbrev enc3 (c : Int × Int × Int) : List Value := [.int .i64 c.1, .int .i64 c.2.1, .int .i64 c.2.2]
theorem len3 (c : Int × Int × Int) : (enc3 c).length = 3 := rfl
theorem lenI (n : Int) : (encI n).length = 1 := rfl
end Go.Proofs.Ytkopenemoddbbaa

/- A disk in memory: the map of what is safe, the row of what is under way, the bytes of both. -/
namespace Go.Proofs.Ytkopenemoddbbaa
open Go.RowKit Go.Maps

/-- Where a slice lies, how long it is, how much room it has. -/
abbrev SL := Option Addr × Nat × Nat
def slV (s : SL) : Value := .slice s.1 s.2.1 s.2.2
/-- How such an element of a map reads: as itself. -/
def RS : Value → Option (DataW SL × List MemPlace)
  | .slice q n c => some (.held (q, n, c), [])
  | _ => none
theorem RS_mk (s : SL) : RS (slV s) = some (.held s, []) := rfl
theorem RS_inv {v : Value} {y : DataW SL × List MemPlace} (h : RS v = some y) : ∃ s : SL, v = slV s ∧ y = (.held s, []) := by
  cases v <;> simp [RS] at h
  rename_i q n c
  exact ⟨(q, n, c), rfl, h.symm⟩
def DMl (l : List (Int × SL)) : List (Lit × DataW SL) := l.map fun p => (Lit.int .i64 p.1, DataW.held p.2)
def DM (l : List (Int × SL)) : DataW SL := .map (DMl l)
theorem same_i (a b : Int) : (Lit.int .i64 a).sameKey (.int .i64 b) = decide (a = b) := by simp [Lit.sameKey]
theorem before_i (a b : Int) : (Lit.int .i64 a).before (.int .i64 b) = decide (a < b) := by simp [Lit.before]
theorem DMl_strike (k : Int) (l : List (Int × SL)) : (DMl l).filter (fun p => !p.1.sameKey (.int .i64 k)) = DMl (l.filter fun p => !decide (p.1 = k)) := by
  unfold DMl
  rw [List.filter_map]
  congr 1
  apply List.filter_congr
  intro p _
  simp [same_i]
theorem DMl_insert (k : Int) (s : SL) : ∀ {l : List (Int × SL)}, (∀ p ∈ l, p.1 ≠ k) → DataW.insert (.int .i64 k, .held s) (DMl l) = DMl (putL l (k, s))
  | [], _ => rfl
  | x :: r, h => by
    have hx := h x List.mem_cons_self
    show DataW.insert _ ((Lit.int .i64 x.1, DataW.held x.2) :: DMl r) = _
    unfold DataW.insert putL
    rw [before_i]
    dsimp only
    by_cases a : k < x.1
    · rw [if_pos (by simpa using a), if_pos a]; rfl
    · rw [if_neg (by simpa using a), if_neg a, if_neg hx, DMl_insert k s (fun p hp => h p (List.mem_cons_of_mem _ hp))]
      rfl
theorem putL_strike (k : Int) (s : SL) : ∀ {l : List (Int × SL)}, Rise l → putL (l.filter fun p => !decide (p.1 = k)) (k, s) = putL l (k, s)
  | [], _ => rfl
  | x :: r, h => by
    obtain ⟨h1, h2⟩ := rise_cons.1 h
    by_cases a : x.1 = k
    · have e : (x :: r).filter (fun p => !decide (p.1 = k)) = r := by
        rw [List.filter_cons_of_neg (by simp [a]), List.filter_eq_self]
        intro p hp
        have := h1 p hp
        simp; omega
      rw [e]
      show putL r (k, s) = if k < x.1 then _ else if x.1 = k then (k, s) :: r else _
      rw [if_neg (by omega), if_pos a]
      cases r with
      | nil => rfl
      | cons y r =>
        have := h1 y List.mem_cons_self
        show (if k < y.1 then _ else _) = _
        rw [if_pos (by omega)]
    · rw [List.filter_cons_of_pos (by simp [a])]
      show (if k < x.1 then _ else if x.1 = k then _ else _) = if k < x.1 then _ else if x.1 = k then _ else _
      by_cases b : k < x.1
      · rw [if_pos b, if_pos b]
        congr 2
        rw [List.filter_eq_self]
        intro p hp
        have := h1 p hp
        simp; omega
      · rw [if_neg b, if_neg a, if_neg b, if_neg a, putL_strike k s h2]
theorem put_DM {l : List (Int × SL)} (h : Rise l) (k : Int) (s : SL) : (DM l).put (.int .i64 k) (.held s) = DM (putL l (k, s)) := by
  show DataW.map (DataW.insert (.int .i64 k, .held s) ((DMl l).filter fun p => !p.1.sameKey (.int .i64 k))) = .map (DMl (putL l (k, s)))
  rw [DMl_strike, DMl_insert k s (fun p hp => by simpa using (List.mem_filter.1 hp).2), putL_strike k s h]
theorem find_DM (k : Int) : ∀ l : List (Int × SL), ((DMl l).find? fun p => p.1.sameKey (.int .i64 k)) = (l.find? fun p => p.1 == k).map fun p => (Lit.int .i64 p.1, DataW.held p.2)
  | [] => rfl
  | x :: r => by
    show (((Lit.int .i64 x.1, DataW.held x.2) :: DMl r).find? _) = _
    by_cases a : x.1 = k
    · rw [List.find?_cons_of_pos (by simp [same_i, a]), List.find?_cons_of_pos (by simp [a])]; rfl
    · rw [List.find?_cons_of_neg (by simp [same_i, a]), List.find?_cons_of_neg (by simp [a]), find_DM k r]
theorem atKey_DM (l : List (Int × SL)) (k : Int) (z : DataW SL) : (DM l).atKey (.int .i64 k) z = match getL l k with | some s => .held s | none => z := by
  unfold DM getL
  simp only [DataW.atKey, find_DM]
  cases l.find? fun p => p.1 == k <;> rfl
theorem has_DM (k : Int) : ∀ l : List (Int × SL), Maps.has (DM l) (.int .i64 k) = (getL l k).isSome
  | [] => rfl
  | x :: r => by
    have ih := has_DM k r
    have e : Maps.has (DM (x :: r)) (.int .i64 k) = ((Lit.int .i64 x.1).sameKey (.int .i64 k) || Maps.has (DM r) (.int .i64 k)) := rfl
    rw [e, ih, getL_cons, same_i]
    by_cases a : x.1 = k <;> simp [a]
theorem size_DM (l : List (Int × SL)) : Maps.size (DM l) = l.length := by simp [DM, DMl, Maps.size]
/-- How many entries a map has is told by what it reads as. -/
theorem map_tight {P : Program} {w : World} {k : TypeId} {b n : Nat} {l : List (Int × SL)} (h : w.ownsMap P k RS b n (DM l)) : w.ownsMap P k RS b l.length (DM l) := by
  obtain ⟨es, clock, hb, F, hs, hD⟩ := h
  refine ⟨es, clock, hb, F, ?_, hD⟩
  have h1 := size_DM l
  rw [hD] at h1
  simp only [Maps.size] at h1
  rw [length_sorted, List.length_map, Array.length_toList] at h1
  omega
theorem map_lt {P : Program} {w : World} {k : TypeId} {b n : Nat} {D : DataW SL} (h : w.ownsMap P k RS b n D) : ∀ cs t u, w.heap[b]? ≠ some (.cells cs t u) := by
  obtain ⟨es, clock, hb, _⟩ := h
  intro cs t u e
  rw [hb] at e
  cases e
theorem map_kept {P : Program} {w w' : World} {k : TypeId} {b n : Nat} {D : DataW SL} (h : w.ownsMap P k RS b n D) (hk : w'.heap[b]? = w.heap[b]?) : w'.ownsMap P k RS b n D := by
  obtain ⟨es, clock, hb, r⟩ := h
  exact ⟨es, clock, hk.trans hb, r⟩

/-! ### bytes -/
def bsOf (F : Nat → B8) (n : Nat) : Bs := (List.range n).map F
theorem bsOf_len (F : Nat → B8) (n : Nat) : (bsOf F n).length = n := by simp [bsOf]
theorem bsOf_take (F : Nat → B8) {k n : Nat} (h : k ≤ n) : (bsOf F n).take k = bsOf F k := by simp [bsOf, ← List.map_take, List.take_range, Nat.min_eq_left h]
theorem bsOf_at {F : Nat → B8} {n i : Nat} (h : i < n) : (bsOf F n)[i]? = some (F i) := by simp [bsOf, h]
theorem bsOf_eq {F G : Nat → B8} {n m : Nat} : bsOf F n = bsOf G m ↔ n = m ∧ ∀ i, i < n → F i = G i := by
  constructor
  · intro h
    have hl := congrArg List.length h
    rw [bsOf_len, bsOf_len] at hl
    subst hl
    refine ⟨rfl, fun i hi => ?_⟩
    have : (bsOf F n)[i]? = (bsOf G n)[i]? := by rw [h]
    rw [bsOf_at hi, bsOf_at hi] at this
    exact Option.some.inj this
  · rintro ⟨rfl, h⟩
    unfold bsOf
    exact List.map_congr_left fun i hi => h i (by simpa using hi)
/-- What a slice of bytes holds. -/
def rdB (w : World) (s : SL) : Bs := match s.1 with
  | some a => bsOf (fun i => byteAt w ⟨a.block, a.off + i, none⟩) s.2.1
  | none => []
/-- A slice of bytes that may be read: it lies below base, or in a block of bytes. -/
structure GoodS (w : World) (base : Nat) (s : SL) : Prop where
  cap : s.2.1 ≤ s.2.2
  most : s.2.2 ≤ maxLen
  lies : 0 < s.2.1 → ∃ g o F, s.1 = some ⟨g, o, none⟩ ∧ Byt w g o s.2.1 F ∧ (g < base ∨ ∃ cur, Blk w g 5 cur)
theorem byteAt_n8 {w : World} {p : Addr} {x : B8} (h : w.cell? p = some (.int .u8 (n8 x))) : byteAt w p = x := by
  rw [byteAt_eq h]
  unfold n8
  simp
theorem rdB_of {w : World} {g o n c : Nat} {F : Nat → B8} (h : Byt w g o n F) : rdB w (some ⟨g, o, none⟩, n, c) = bsOf F n := by
  unfold rdB
  dsimp only
  rw [bsOf_eq]
  exact ⟨rfl, fun i hi => byteAt_n8 (h i hi)⟩
theorem rdB_zero (w : World) (q : Option Addr) (c : Nat) : rdB w (q, 0, c) = [] := by
  unfold rdB
  cases q <;> rfl
theorem rdB_q {w : World} {q : Option Addr} {n c : Nat} {F : Nat → B8} (h : Byq w q n F) : rdB w (q, n, c) = bsOf F n := by
  rcases Nat.eq_zero_or_pos n with h0 | h0
  · subst h0; rw [rdB_zero]; rfl
  · obtain ⟨g, o, rfl, hB⟩ := h h0
    exact rdB_of hB
theorem GoodS.byq {w : World} {base : Nat} {s : SL} (h : GoodS w base s) : Byq w s.1 s.2.1 (fun i => (rdB w s).getD i 0) := fun h0 => by
  obtain ⟨g, o, F, hq, hB, -⟩ := h.lies h0
  refine ⟨g, o, hq, fun i hi => ?_⟩
  have e : rdB w s = bsOf F s.2.1 := by
    obtain ⟨q, n, c⟩ := s
    dsimp only at hq hB ⊢
    rw [hq]; exact rdB_of hB
  dsimp only
  rw [e, List.getD_eq_getElem?_getD, bsOf_at hi]
  exact hB i hi
theorem GoodS.len {w : World} {base : Nat} {s : SL} (h : GoodS w base s) : (rdB w s).length = s.2.1 := by
  rcases Nat.eq_zero_or_pos s.2.1 with h0 | h0
  · obtain ⟨q, n, c⟩ := s
    dsimp only at h0
    subst h0
    rw [rdB_zero]; rfl
  · obtain ⟨g, o, F, hq, hB, -⟩ := h.lies h0
    obtain ⟨q, n, c⟩ := s
    dsimp only at hq hB ⊢
    rw [hq, rdB_of hB, bsOf_len]
theorem GoodS.low {w : World} {base b' : Nat} {s : SL} (h : GoodS w base s) (hb : base ≤ b') : GoodS w b' s :=
  ⟨h.cap, h.most, fun h0 => by
    obtain ⟨g, o, F, hq, hB, hg⟩ := h.lies h0
    exact ⟨g, o, F, hq, hB, hg.imp (fun h => Nat.lt_of_lt_of_le h hb) id⟩⟩
/-- The blocks that the bytes of slices may lie in. -/
def ByteBlk (w : World) (base b : Nat) : Prop := b < base ∨ ∃ cur, Blk w b 5 cur
theorem GoodS.kept {w w' : World} {base : Nat} {s : SL} {K : Nat → Prop} (h : GoodS w base s) (hk : Kept K w w') (hK : ∀ b, ByteBlk w base b → K b) : GoodS w' base s ∧ rdB w' s = rdB w s := by
  have key : 0 < s.2.1 → ∃ g o F, s.1 = some ⟨g, o, none⟩ ∧ Byt w g o s.2.1 F ∧ Byt w' g o s.2.1 F ∧ (g < base ∨ ∃ cur, Blk w' g 5 cur) := fun h0 => by
    obtain ⟨g, o, F, hq, hB, hg⟩ := h.lies h0
    have hKg := hK g hg
    have hl : g < w.heap.size := hB.lt h0
    have e := hk.block g hl hKg
    refine ⟨g, o, F, hq, hB, fun i hi => ?_, hg.imp id fun ⟨cur, hc⟩ => ⟨cur, e.trans hc⟩⟩
    have := hB i hi
    unfold World.cell? at *
    dsimp only at *
    rw [e]
    exact this
  refine ⟨⟨h.cap, h.most, fun h0 => ?_⟩, ?_⟩
  · obtain ⟨g, o, F, hq, -, hB, hg⟩ := key h0
    exact ⟨g, o, F, hq, hB, hg⟩
  · rcases Nat.eq_zero_or_pos s.2.1 with h0 | h0
    · obtain ⟨q, n, c⟩ := s
      dsimp only at h0
      subst h0
      rw [rdB_zero, rdB_zero]
    · obtain ⟨g, o, F, hq, hB, hB', -⟩ := key h0
      obtain ⟨q, n, c⟩ := s
      dsimp only at hq hB hB'
      rw [hq, rdB_of hB, rdB_of hB']
theorem GoodS.on {w w' : World} {base : Nat} {s : SL} (h : GoodS w base s) (hb : Below w.heap.size w w') : GoodS w' base s ∧ rdB w' s = rdB w s := h.kept (K := fun _ => True) (Kept.of_below hb |>.mono fun _ _ => trivial) (fun _ _ => trivial)
theorem GoodS.cut {w : World} {base : Nat} {s : SL} (h : GoodS w base s) {k : Nat} (hk : k ≤ s.2.1) : GoodS w base (s.1, k, s.2.2) ∧ rdB w (s.1, k, s.2.2) = (rdB w s).take k := by
  refine ⟨⟨Nat.le_trans hk h.cap, h.most, fun h0 => ?_⟩, ?_⟩
  · obtain ⟨g, o, F, hq, hB, hg⟩ := h.lies (by dsimp only at h0; omega)
    exact ⟨g, o, F, hq, hB.le hk, hg⟩
  · rcases Nat.eq_zero_or_pos s.2.1 with h0 | h0
    · obtain ⟨q, n, c⟩ := s
      dsimp only at h0 hk ⊢
      subst h0
      obtain rfl : k = 0 := by omega
      rw [rdB_zero]; rfl
    · obtain ⟨g, o, F, hq, hB, -⟩ := h.lies h0
      obtain ⟨q, n, c⟩ := s
      dsimp only at hq hB hk ⊢
      rw [hq, rdB_of hB, rdB_of (hB.le hk), bsOf_take F hk]
/-- Bytes that are owned. -/
theorem GoodS.own {w : World} {base b0 n : Nat} {F : Nat → B8} {v : Value} (h : w.ownsRow b0 5 1 v n (bl F n)) : ∃ s : SL, v = slV s ∧ s.2.1 = n ∧ GoodS w base s ∧ rdB w s = bsOf F n := by
  obtain ⟨q, cap, rfl, hc, hm, hq⟩ := own_byq h
  refine ⟨(q, n, cap), rfl, rfl, ⟨hc, hm, fun h0 => ?_⟩, rdB_q hq⟩
  obtain ⟨g, cap', cur, hv, hbg, C, -, -, -, hB⟩ := own_form h h0
  obtain ⟨rfl, -, -⟩ := Value.slice.inj hv
  exact ⟨g, 0, F, rfl, hB, .inr ⟨cur, C⟩⟩
/-- Bytes from below. -/
theorem GoodS.of_q {w : World} {base n c : Nat} {q : Option Addr} {F : Nat → B8} (hc : n ≤ c) (hm : c ≤ maxLen) (h : Byq w q n F) (hb : ∀ a, q = some a → a.block < base) : GoodS w base (q, n, c) :=
  ⟨hc, hm, fun h0 => by
    obtain ⟨g, o, hq, hB⟩ := h h0
    exact ⟨g, o, F, hq, hB, .inl (hb _ hq)⟩⟩

/-! ### rows of blobs -/
def cont (w : World) (l : List (Int × SL)) : List (Int × Bs) := l.map fun p => (p.1, rdB w p.2)
def GoodL (w : World) (base : Nat) (l : List (Int × SL)) : Prop := ∀ p ∈ l, GoodS w base p.2
theorem cont_put (w : World) (l : List (Int × SL)) (k : Int) (s : SL) : cont w (putL l (k, s)) = putL (cont w l) (k, rdB w s) := map_putL (rdB w) (k, s) l
theorem cont_now (w : World) (s l : List (Int × SL)) : cont w (nowL s l) = nowL (cont w s) (cont w l) := map_now (rdB w) l s
theorem cont_get (w : World) (l : List (Int × SL)) (k : Int) : getL (cont w l) k = (getL l k).map (rdB w) := getL_map (rdB w) k l
theorem cont_snoc (w : World) (l : List (Int × SL)) (k : Int) (s : SL) : cont w (l ++ [(k, s)]) = cont w l ++ [(k, rdB w s)] := by simp [cont]
theorem cont_len (w : World) (l : List (Int × SL)) : (cont w l).length = l.length := by simp [cont]
theorem cont_at {w : World} {l : List (Int × SL)} {i : Nat} {p : Int × SL} (h : l[i]? = some p) : (cont w l)[i]? = some (p.1, rdB w p.2) := by simp [cont, h]
theorem cont_rise {w : World} {l : List (Int × SL)} (h : Rise (cont w l)) : Rise l := by
  unfold Rise cont at *
  rw [List.pairwise_map] at h
  exact h
theorem GoodL.put {w : World} {base : Nat} {l : List (Int × SL)} {k : Int} {s : SL} (h : GoodL w base l) (hs : GoodS w base s) : GoodL w base (putL l (k, s)) := fun p hp => by
  rcases mem_putL hp with rfl | hp
  · exact hs
  · exact h p hp
theorem GoodL.now {w : World} {base : Nat} {s l : List (Int × SL)} (h : GoodL w base s) (hl : GoodL w base l) : GoodL w base (nowL s l) := fun p hp => by
  rcases mem_now hp with hp | hp
  · exact h p hp
  · exact hl p hp
theorem GoodL.kept {w w' : World} {base : Nat} {l : List (Int × SL)} {K : Nat → Prop} (h : GoodL w base l) (hk : Kept K w w') (hK : ∀ b, ByteBlk w base b → K b) : GoodL w' base l ∧ cont w' l = cont w l :=
  ⟨fun p hp => ((h p hp).kept hk hK).1, List.map_congr_left fun p hp => by rw [((h p hp).kept hk hK).2]⟩
theorem GoodL.on {w w' : World} {base : Nat} {l : List (Int × SL)} (h : GoodL w base l) (hb : Below w.heap.size w w') : GoodL w' base l ∧ cont w' l = cont w l := h.kept (K := fun _ => True) (Kept.of_below hb |>.mono fun _ _ => trivial) (fun _ _ => trivial)
theorem GoodL.get {w : World} {base : Nat} {l : List (Int × SL)} (h : GoodL w base l) {k : Int} {s : SL} (hk : getL l k = some s) : GoodS w base s := by
  unfold getL at hk
  cases hf : l.find? fun p => p.1 == k with
  | none => rw [hf] at hk; cases hk
  | some p =>
    rw [hf] at hk
    obtain rfl : p.2 = s := by simpa using hk
    exact h p (List.mem_of_find?_eq_some hf)
end Go.Proofs.Ytkopenemoddbbaa

/- Pieces of bytes put one behind the other; a piece's own copy. -/
namespace Go.Proofs.Ytkopenemoddbbaa
open Go.RowKit

theorem inf8 : (Try.prog.info? 5).map (fun i => (i.zero, i.size, i.bytes)) = some (some (.int .u8 0), 1, 1) := by kernel_rfl
set_option maxRecDepth 100000 in
set_option maxHeartbeats 1000000 in
theorem grow_c (n : Nat) (h0 : 0 < n) (h47 : n ≤ 140737488355328) (w : World) :
    Calls Try.prog 54 #[.slice none 0 0, .int .i64 n] w fun r w' => ∃ v, r = .returned v ∧ w'.ownsRow w.heap.size 5 1 v 0 [] ∧ Below w.heap.size w w' := by
  obtain ⟨g, cap, W, hrun, hc, hm, hown, hb⟩ := run_grow0 (P := Try.prog) (w := w) (base := w.heap.size) (F := fun _ => 0) (ty := 22) Try.underlying22 Try.underlying3 inf8 h0 h47 (Nat.le_refl _)
  have h1 : (0 : Int) < n := by omega
  have h2 : ¬ (n : Int) < 0 := by omega
  have h3 : (n : Int) ≤ 140737488355328 := by omega
  go_enter Try.func54, Try.ntmps54
  go_wp2_with (at_builtin; refine Lib.wpList_append_run _ rfl _ _ _ _ rfl _ _ rfl rfl _ _ hrun ?_)
  go_returns
  exact ⟨_, rfl, hown, hb⟩
theorem own_nil' {w : World} {B : Nat} {e : TypeId} {v : Value} {F : Nat → B8} (h : w.ownsRow B e 1 v 0 []) : w.ownsRow B e 1 v 0 (bl F 0) := h
set_option maxRecDepth 100000 in
set_option maxHeartbeats 2000000 in
theorem concat2_c (q1 : Option Addr) (n1 c1 : Nat) (F : Nat → B8) (h1 : n1 ≤ c1) (q2 : Option Addr) (n2 c2 : Nat) (G : Nat → B8) (h2 : n2 ≤ c2) (h47 : n1 + n2 ≤ 140737488355328) (h0 : 0 < n1 + n2) (l : Nat) (w : World)
    (hL : Blk w l 22 #[.slice q1 n1 c1, .slice q2 n2 c2]) (b1 : Byq w q1 n1 F) (b2 : Byq w q2 n2 G) :
    Calls Try.prog 27 #[.slice (some ⟨l, 0, none⟩) 2 2] w fun r w' => ∃ v, r = .returned v ∧ w'.ownsRow w.heap.size 5 1 v (n1 + n2) (bl (cat F n1 G) (n1 + n2)) ∧ Below w.heap.size w w' := by
  have l0 := hL.cell 0
  have l1 := hL.cell 1
  have s1 : (n1 : Int) + n2 ≤ 140737488355328 := by omega
  have s2 : ¬ (n1 : Int) < 0 := by omega
  have s3 : ¬ (n1 : Int) + n2 < 0 := by omega
  have s4 : (n1 : Int) ≤ 140737488355328 := by omega
  go_enter Try.func27, Try.ntmps27
  go_upto_region 3 with (fail)
  refine wp_loop_rounds 3 ?_
  rw [rounds_succ]
  go_wp2_with fail
  rw [rounds_succ]
  go_wp2_with fail
  rw [rounds_succ]
  go_wp2_with fail
  rw [← Int.natCast_add]
  refine (grow_c (n1 + n2) h0 h47 _).mono ?_
  rintro e w1 ⟨v, rfl, hown, H⟩
  replace hown := own_nil' (F := F) hown
  obtain ⟨v1, W1, hrun1, hown1, hb1⟩ := run_app (P := Try.prog) (w := w1) (base := w.heap.size) (ty := 22) Try.underlying22 inf8 hown h1 (b1.on H) (by omega) H.size
  obtain ⟨qv, cv, rfl, -, -, -⟩ := own_byq hown
  rw [cat_0, Nat.zero_add] at hown1
  replace hb1 := H.trans hb1
  obtain ⟨v2, W2, hrun2, hown2, hb2⟩ := run_app (P := Try.prog) (w := W1) (base := w.heap.size) (ty := 22) Try.underlying22 inf8 hown1 h2 (b2.on hb1) (by omega) hb1.size
  obtain ⟨qw, cw, rfl, -, -, -⟩ := own_byq hown1
  replace hb2 := hb1.trans hb2
  replace l0 := (hL.on H).cell 0
  replace l1 := (hL.on hb1).cell 1
  clear s1 s2 s3 s4
  go_upto_region 11 with (fail)
  refine wp_loop_rounds 3 ?_
  rw [rounds_succ]
  go_wp2_with (at_builtin; refine Lib.wpList_append_run _ rfl _ _ _ _ rfl _ _ rfl rfl _ _ hrun1 ?_)
  rw [rounds_succ]
  go_wp2_with (at_builtin; refine Lib.wpList_append_run _ rfl _ _ _ _ rfl _ _ rfl rfl _ _ hrun2 ?_)
  rw [rounds_succ]
  go_wp2_with fail
  go_returns
  exact ⟨_, rfl, hown2, hb2⟩
set_option maxRecDepth 100000 in
set_option maxHeartbeats 1000000 in
theorem clone_c (q : Option Addr) (n c : Nat) (F : Nat → B8) (hc : n ≤ c) (h47 : n ≤ 140737488355328) (w : World) (hq : Byq w q n F) :
    Calls Try.prog 57 #[.slice q n c] w fun r w' => ∃ v, r = .returned v ∧ w'.ownsRow w.heap.size 5 1 v n (bl F n) ∧ Below w.heap.size w w' := by
  have hnl : ∀ (w : World) (a : Option Addr) (n c n' c' : Nat), (binOp .eql 22 (.slice a n c) (.slice none n' c')).run Try.prog w = .ok (.bool a.isNone) w := fun w a n c n' c' => Lib.run_eql_slice_nil w _ _ a n c n' c' Try.underlying22
  cases q with
  | none =>
    have h0 : n = 0 := by
      rcases Nat.eq_zero_or_pos n with h | h
      · exact h
      · obtain ⟨g, o, h1, _⟩ := hq h; cases h1
    subst h0
    go_enter Try.func57, Try.ntmps57
    go_wp2_with fail
    go_returns
    exact ⟨_, rfl, own_nil, Below.refl _ _⟩
  | some a =>
    obtain ⟨W0, hW⟩ : ∃ W0, W0 = w.alloc (.cells #[] 5) := ⟨_, rfl⟩
    have hb0 : Below w.heap.size w W0 := by rw [hW]; exact (Below.refl _ _).alloc (Nat.le_refl _) _
    have hown : W0.ownsRow w.heap.size 5 1 (.slice (some ⟨w.heap.size, 0, none⟩) 0 0) 0 (bl F 0) :=
      ⟨rfl, .inr ⟨w.heap.size, 0, #[], rfl, Nat.le_refl _, by rw [hW]; exact heap_alloc_new w _, Nat.le_refl _, by omega, rfl, rfl⟩⟩
    obtain ⟨v1, W1, hrun1, hown1, hb1⟩ := run_app (P := Try.prog) (w := W0) (base := w.heap.size) (ty := 22) Try.underlying22 inf8 hown hc (hq.on hb0) (by omega) hb0.size
    rw [cat_0, Nat.zero_add] at hown1
    rw [hW] at hrun1
    go_enter Try.func57, Try.ntmps57
    go_wp2_with (at_builtin; refine Lib.wpList_append_run _ rfl _ _ _ _ rfl _ _ rfl rfl _ _ hrun1 ?_)
    go_returns
    exact ⟨_, rfl, hown1, hb0.trans hb1⟩
end Go.Proofs.Ytkopenemoddbbaa

/- More plain helpers of ours: no program in sight. -/
namespace Go.Proofs.Ytkopenemoddbbaa
open Go.RowKit
section
variable {w W : World} {g : Nat} {t : TypeId} {cs : Array Value} {d : Nat} {os : Array Obj}
theorem Blk.reW (h : Blk w g t cs) (hW : W = Go.Sort.grow (redrawn w d) os) : Blk W g t cs := by rw [hW]; exact h.re d os
theorem Blk.eqw {w W : World} (e : w = W) (h : Blk w g t cs) : Blk W g t cs := e ▸ h
theorem re_below {v : World} (h : Below v.heap.size v w) (hW : W = Go.Sort.grow (redrawn w d) os) : Below v.heap.size v W := by rw [hW]; exact after h (below_regrown w d os)
end
end Go.Proofs.Ytkopenemoddbbaa
