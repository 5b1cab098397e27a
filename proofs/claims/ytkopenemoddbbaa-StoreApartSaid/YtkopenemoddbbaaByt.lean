/- Bytes in a row: what a slice of bytes reads, and how it is opened. -/
import Derived.Test.YtkopenemoddbbaaShut
import Derived.Test.YtkopenemoddbbaaNext
import Derived.Test.YtkopenemoddbbaaCrcP
import Derived.Deep.Slices
namespace Go.Proofs.Ytkopenemoddbbaa
open Go.ChangeShapes Go.WideShapes Go.ChangeAt Go.RowKit

/-- A number of 16 bits, of 8 bits, as the program's. -/
def n16 (c : B16) : Int := c.toNat
def n8 (x : B8) : Int := x.toNat
theorem n16_lt (c : B16) : 0 ≤ n16 c ∧ n16 c < 65536 := ⟨by unfold n16; omega, by unfold n16; have := c.isLt; omega⟩
theorem n8_lt (c : B8) : 0 ≤ n8 c ∧ n8 c < 256 := ⟨by unfold n8; omega, by unfold n8; have := c.isLt; omega⟩
theorem n16_eq {a b : B16} : n16 a = n16 b ↔ a = b := by
  unfold n16
  constructor
  · intro h; exact BitVec.eq_of_toNat_eq (by omega)
  · rintro rfl; rfl
theorem n8_eq {a b : B8} : n8 a = n8 b ↔ a = b := by
  unfold n8
  constructor
  · intro h; exact BitVec.eq_of_toNat_eq (by omega)
  · rintro rfl; rfl
theorem n8_of {n : Int} (h : (Lit.int .u8 n).wf = true) : n = n8 (BitVec.ofInt 8 n) := by
  have := inU8_of_wf h
  unfold InU8 at this
  unfold n8
  rw [BitVec.toNat_ofInt]
  omega
/-- From cell o of block g on lie n bytes; number i is F i. -/
def Byt (w : World) (g o n : Nat) (F : Nat → B8) : Prop := ∀ i, i < n → w.cell? ⟨g, o + i, none⟩ = some (.int .u8 (n8 (F i)))
/-- What a slice's pointer holds, if it has a length. -/
def Byq (w : World) (q : Option Addr) (n : Nat) (F : Nat → B8) : Prop := 0 < n → ∃ g o, q = some ⟨g, o, none⟩ ∧ Byt w g o n F
section
variable {w w' : World} {g o n : Nat} {F : Nat → B8} {q : Option Addr}
theorem Byt.on (h : Byt w g o n F) (hb : Below w.heap.size w w') : Byt w' g o n F := fun i hi => by
  have h1 := h i hi
  rw [cell_below hb (cell_lt h1)]; exact h1
theorem Byt.far (h : Byt w g o n F) {p : Addr} (hp : g ≠ p.block) (u : Value) : Byt (w.setCell p u) g o n F := fun i hi => by
  have h1 := h i hi
  unfold World.cell? at *
  rw [Below.heap_setCell w p u g hp]
  exact h1
theorem Byt.lt (h : Byt w g o n F) (hn : 0 < n) : g < w.heap.size := cell_lt (h 0 hn)
theorem Byt.le {m : Nat} (h : Byt w g o n F) (hm : m ≤ n) : Byt w g o m F := fun i hi => h i (by omega)
theorem Byt.re (h : Byt w g o n F) (d : Nat) (os : Array Obj) : Byt (Go.Sort.grow (redrawn w d) os) g o n F := h.on (below_regrown w d os)
theorem Byq.on (h : Byq w q n F) (hb : Below w.heap.size w w') : Byq w' q n F := fun hn => by
  obtain ⟨g, o, e, h1⟩ := h hn
  exact ⟨g, o, e, h1.on hb⟩
theorem Byq.le {m : Nat} (h : Byq w q n F) (hm : m ≤ n) : Byq w q m F := fun h0 => by
  obtain ⟨g, o, e, h1⟩ := h (by omega)
  exact ⟨g, o, e, h1.le hm⟩
theorem Byq.zero : Byq w q 0 F := fun h => by omega
theorem Byq.of (h : Byt w g o n F) : Byq w (some ⟨g, o, none⟩) n F := fun _ => ⟨g, o, rfl, h⟩
end
def byteAt (w : World) (p : Addr) : B8 := match w.cell? p with | some (.int .u8 x) => BitVec.ofInt 8 x | _ => 0
theorem byteAt_eq {w : World} {p : Addr} {x : Int} (h : w.cell? p = some (.int .u8 x)) : byteAt w p = BitVec.ofInt 8 x := by unfold byteAt; rw [h]
section
variable {H : Type} {enc : TypeId × Value → H} {P : Program}
theorem open_bytes {w : World} {r : Reach} {b0 base : Nat} {spare : Nat → Bool} {held : Bool} {ts t : TypeId} {v : Value} {d : DataW H} {p : List MemPlace} (hts : P.underlying ts = some (.slice t)) (hb : P.underlying t = some (.int .u8))
    (hC : P.cellsOf t = 1) (hv : Value.okWide P w r b0 ts v) (h : DataW.Trod enc P w base spare held ts v d p) :
    ∃ q n cap F, v = .slice q n cap ∧ n ≤ cap ∧ cap ≤ maxLen ∧ Byq w q n F := by
  obtain ⟨a1, len1, cap1, rfl⟩ := okWide_slice hts hv
  obtain ⟨fuel, h⟩ := h
  rcases Go.Deep.open_slice hts h with ⟨hcs, _⟩ | ⟨a, len, cap, m, k, D, Pl, hcs, _, hl, hm, hmm, _, hel⟩
  · simp [Value.cells] at hcs
    obtain ⟨rfl, rfl, rfl⟩ := hcs
    exact ⟨_, _, _, fun _ => 0, rfl, by omega, by omega, Byq.zero⟩
  · simp [Value.cells] at hcs
    obtain ⟨rfl, rfl, rfl⟩ := hcs
    by_cases hn : len1 = 0
    · subst hn; exact ⟨_, _, _, fun _ => 0, rfl, hl, hm, Byq.zero⟩
    have hlm : len1 ≤ m := by rw [hmm]; split <;> omega
    obtain ⟨g, o, sp⟩ := a
    rw [hC] at hel
    have hrd : ∀ i, i < len1 → ∃ x, w.cell? ((Addr.mk g o sp).add i) = some (.int .u8 (n8 (BitVec.ofInt 8 x))) ∧ w.cell? ((Addr.mk g o sp).add i) = some (.int .u8 x) := by
      intro i hi'
      obtain ⟨cs', hc, ht'⟩ := hel i (by omega)
      obtain ⟨_, hcl, hat⟩ := World.cells?_some hc
      obtain ⟨x, hx, _, wx⟩ := DataW.trod_int hb ht'
      subst hx
      have h1 := hat 0 (by omega)
      rw [Go.Deep.add_add, Nat.mul_one, Nat.add_zero] at h1
      exact ⟨x, by rw [h1, ← n8_of wx]; rfl, h1⟩
    have hsp : sp = none := by
      obtain ⟨x, hx, _⟩ := hrd 0 (by omega)
      exact cell_spot hx
    subst hsp
    have had : ∀ k, (Addr.mk g o none).add k = ⟨g, o + k, none⟩ := fun k => by
      unfold Addr.add
      by_cases hk : k = 0 <;> simp [hk]
    refine ⟨_, len1, cap1, fun i => byteAt w ⟨g, o + i, none⟩, rfl, hl, hm, Byq.of fun i hi' => ?_⟩
    obtain ⟨x, hx, hx2⟩ := hrd i hi'
    rw [had] at hx hx2
    show _ = some (Value.int .u8 (n8 (byteAt w ⟨g, o + i, none⟩)))
    rw [hx, byteAt_eq hx2]
end
end Go.Proofs.Ytkopenemoddbbaa
