/- Truths in a row; rows of bytes in a row: how they are opened. -/
import Derived.Test.YtkopenemoddbbaaDiskW
namespace Go.Proofs.Ytkopenemoddbbaa
open Go.ChangeShapes Go.WideShapes Go.ChangeAt Go.RowKit

/-- What a slice of truths reads. -/
def Bos (w : World) (q : Option Addr) (n : Nat) (F : Nat → Bool) : Prop := 0 < n → ∃ g o, q = some ⟨g, o, none⟩ ∧ ∀ i, i < n → w.cell? ⟨g, o + i, none⟩ = some (.bool (F i))
/-- What a slice of slices of bytes reads. -/
def Sls (w : World) (q : Option Addr) (n : Nat) (F : Nat → SL) : Prop := 0 < n → ∃ g o, q = some ⟨g, o, none⟩ ∧ ∀ i, i < n → w.cell? ⟨g, o + i, none⟩ = some (slV (F i))
section
variable {w w' : World} {n : Nat} {q : Option Addr}
theorem Bos.on {F : Nat → Bool} (h : Bos w q n F) (hb : Below w.heap.size w w') : Bos w' q n F := fun hn => by
  obtain ⟨g, o, e, h1⟩ := h hn
  refine ⟨g, o, e, fun i hi => ?_⟩
  have h2 := h1 i hi
  rw [cell_below hb (cell_lt h2)]; exact h2
theorem Bos.below {F : Nat → Bool} {b : Nat} (h : Bos w q n F) (h0 : ∀ g o, q = some ⟨g, o, none⟩ → 0 < n → g < b) (hb : Below b w w') : Bos w' q n F := fun hn => by
  obtain ⟨g, o, e, h1⟩ := h hn
  refine ⟨g, o, e, fun i hi => ?_⟩
  have h2 := h1 i hi
  rw [cell_below hb (h0 g o e hn)]; exact h2
theorem Bos.lt {F : Nat → Bool} (h : Bos w q n F) {g o : Nat} (e : q = some ⟨g, o, none⟩) (hn : 0 < n) : g < w.heap.size := by
  obtain ⟨g', o', e', h1⟩ := h hn
  rw [e] at e'
  simp only [Option.some.injEq, Addr.mk.injEq] at e'
  obtain ⟨rfl, rfl, -⟩ := e'
  exact cell_lt (h1 0 hn)
theorem Sls.below {F : Nat → SL} {b : Nat} (h : Sls w q n F) (h0 : ∀ g o, q = some ⟨g, o, none⟩ → 0 < n → g < b) (hb : Below b w w') : Sls w' q n F := fun hn => by
  obtain ⟨g, o, e, h1⟩ := h hn
  refine ⟨g, o, e, fun i hi => ?_⟩
  have h2 := h1 i hi
  rw [cell_below hb (h0 g o e hn)]; exact h2
theorem Sls.lt {F : Nat → SL} (h : Sls w q n F) {g o : Nat} (e : q = some ⟨g, o, none⟩) (hn : 0 < n) : g < w.heap.size := by
  obtain ⟨g', o', e', h1⟩ := h hn
  rw [e] at e'
  simp only [Option.some.injEq, Addr.mk.injEq] at e'
  obtain ⟨rfl, rfl, -⟩ := e'
  exact cell_lt (h1 0 hn)
end
section
variable {H : Type} {enc : TypeId × Value → H} {P : Program}
theorem rd_bytes {w : World} {base fuel : Nat} {spare : Nat → Bool} {held : Bool} {ts t : TypeId} {cs : List Value} {x : DataW H × List MemPlace} (hts : P.underlying ts = some (.slice t)) (hb : P.underlying t = some (.int .u8))
    (hC : P.cellsOf t = 1) (h : DataW.trod enc P w base spare held fuel ts cs = some x) : ∃ q n cap F, cs = [.slice q n cap] ∧ n ≤ cap ∧ cap ≤ maxLen ∧ Byq w q n F := by
  rcases Go.Deep.open_slice hts h with ⟨hcs, _⟩ | ⟨a, len, cap, m, k, D, Pl, hcs, _, hl, hm, hmm, _, hel⟩
  · exact ⟨_, _, _, fun _ => 0, hcs, by omega, by omega, Byq.zero⟩
  · by_cases hn : len = 0
    · subst hn; exact ⟨_, _, _, fun _ => 0, hcs, hl, hm, Byq.zero⟩
    have hlm : len ≤ m := by rw [hmm]; split <;> omega
    obtain ⟨g, o, sp⟩ := a
    rw [hC] at hel
    have hrd : ∀ i, i < len → ∃ x, w.cell? ((Addr.mk g o sp).add i) = some (.int .u8 (n8 (BitVec.ofInt 8 x))) ∧ w.cell? ((Addr.mk g o sp).add i) = some (.int .u8 x) := by
      intro i hi'
      obtain ⟨cs', hc, ht'⟩ := hel i (by omega)
      obtain ⟨_, hcl, hat⟩ := World.cells?_some hc
      obtain ⟨x, hx, _, wx⟩ := DataW.trod_int hb ht'
      subst hx
      have h1 := hat 0 (by omega)
      rw [Go.Deep.add_add, Nat.mul_one, Nat.add_zero] at h1
      exact ⟨x, by rw [h1, ← n8_of wx]; rfl, h1⟩
    have hsp : sp = none := by
      obtain ⟨x, hx, _⟩ := hrd 0 (by omega)
      exact cell_spot hx
    subst hsp
    have had : ∀ k, (Addr.mk g o none).add k = ⟨g, o + k, none⟩ := fun k => by
      unfold Addr.add
      by_cases hk : k = 0 <;> simp [hk]
    refine ⟨_, len, cap, fun i => byteAt w ⟨g, o + i, none⟩, hcs, hl, hm, Byq.of fun i hi' => ?_⟩
    obtain ⟨x, hx, hx2⟩ := hrd i hi'
    rw [had] at hx hx2
    show _ = some (Value.int .u8 (n8 (byteAt w ⟨g, o + i, none⟩)))
    rw [hx, byteAt_eq hx2]
def boolAt (w : World) (p : Addr) : Bool := match w.cell? p with | some (.bool x) => x | _ => false
theorem boolAt_eq {w : World} {p : Addr} {x : Bool} (h : w.cell? p = some (.bool x)) : boolAt w p = x := by unfold boolAt; rw [h]
def slAt (w : World) (p : Addr) : SL := match w.cell? p with | some (.slice q n c) => (q, n, c) | _ => (none, 0, 0)
theorem slAt_eq {w : World} {p : Addr} {s : SL} (h : w.cell? p = some (slV s)) : slAt w p = s := by unfold slAt; rw [h]; rfl
theorem open_bools {w : World} {r : Reach} {b0 base : Nat} {spare : Nat → Bool} {held : Bool} {ts t : TypeId} {v : Value} {d : DataW H} {p : List MemPlace} (hts : P.underlying ts = some (.slice t)) (hb : P.underlying t = some .bool)
    (hC : P.cellsOf t = 1) (hv : Value.okWide P w r b0 ts v) (h : DataW.Trod enc P w base spare held ts v d p) :
    ∃ q n cap F, v = .slice q n cap ∧ n ≤ cap ∧ cap ≤ maxLen ∧ Bos w q n F := by
  obtain ⟨a1, len1, cap1, rfl⟩ := okWide_slice hts hv
  obtain ⟨fuel, h⟩ := h
  rcases Go.Deep.open_slice hts h with ⟨hcs, _⟩ | ⟨a, len, cap, m, k, D, Pl, hcs, _, hl, hm, hmm, _, hel⟩
  · simp [Value.cells] at hcs
    obtain ⟨rfl, rfl, rfl⟩ := hcs
    exact ⟨_, _, _, fun _ => false, rfl, by omega, by omega, fun h => by omega⟩
  · simp [Value.cells] at hcs
    obtain ⟨rfl, rfl, rfl⟩ := hcs
    by_cases hn : len1 = 0
    · subst hn; exact ⟨_, _, _, fun _ => false, rfl, hl, hm, fun h => by omega⟩
    have hlm : len1 ≤ m := by rw [hmm]; split <;> omega
    obtain ⟨g, o, sp⟩ := a
    rw [hC] at hel
    have hrd : ∀ i, i < len1 → ∃ x, w.cell? ((Addr.mk g o sp).add i) = some (.bool x) := by
      intro i hi'
      obtain ⟨cs', hc, ht'⟩ := hel i (by omega)
      obtain ⟨_, hcl, hat⟩ := World.cells?_some hc
      obtain ⟨x, hx, _⟩ := DataW.trod_bool hb ht'
      subst hx
      have h1 := hat 0 (by omega)
      rw [Go.Deep.add_add, Nat.mul_one, Nat.add_zero] at h1
      exact ⟨x, h1⟩
    have hsp : sp = none := by
      obtain ⟨x, hx⟩ := hrd 0 (by omega)
      exact cell_spot hx
    subst hsp
    have had : ∀ k, (Addr.mk g o none).add k = ⟨g, o + k, none⟩ := fun k => by
      unfold Addr.add
      by_cases hk : k = 0 <;> simp [hk]
    refine ⟨_, len1, cap1, fun i => boolAt w ⟨g, o + i, none⟩, rfl, hl, hm, fun _ => ⟨g, o, rfl, fun i hi' => ?_⟩⟩
    obtain ⟨x, hx⟩ := hrd i hi'
    rw [had] at hx
    show _ = some (Value.bool (boolAt w ⟨g, o + i, none⟩))
    rw [hx, boolAt_eq hx]
theorem open_rows {w : World} {r : Reach} {b0 base : Nat} {spare : Nat → Bool} {held : Bool} {ts tb t : TypeId} {v : Value} {d : DataW H} {p : List MemPlace} (hts : P.underlying ts = some (.slice tb)) (htb : P.underlying tb = some (.slice t)) (hb : P.underlying t = some (.int .u8))
    (hC : P.cellsOf t = 1) (hCb : P.cellsOf tb = 1) (hv : Value.okWide P w r b0 ts v) (h : DataW.Trod enc P w base spare held ts v d p) :
    ∃ q n cap F, v = .slice q n cap ∧ n ≤ cap ∧ cap ≤ maxLen ∧ Sls w q n F ∧ ∀ i, i < n → GoodS w w.heap.size (F i) := by
  obtain ⟨a1, len1, cap1, rfl⟩ := okWide_slice hts hv
  obtain ⟨fuel, h⟩ := h
  rcases Go.Deep.open_slice hts h with ⟨hcs, _⟩ | ⟨a, len, cap, m, k, D, Pl, hcs, _, hl, hm, hmm, _, hel⟩
  · simp [Value.cells] at hcs
    obtain ⟨rfl, rfl, rfl⟩ := hcs
    exact ⟨_, _, _, fun _ => (none, 0, 0), rfl, by omega, by omega, fun h => by omega, fun i hi => by omega⟩
  · simp [Value.cells] at hcs
    obtain ⟨rfl, rfl, rfl⟩ := hcs
    by_cases hn : len1 = 0
    · subst hn; exact ⟨_, _, _, fun _ => (none, 0, 0), rfl, hl, hm, fun h => by omega, fun i hi => by omega⟩
    have hlm : len1 ≤ m := by rw [hmm]; split <;> omega
    obtain ⟨g, o, sp⟩ := a
    rw [hCb] at hel
    have hrd : ∀ i, i < len1 → ∃ s : SL, w.cell? ((Addr.mk g o sp).add i) = some (slV s) ∧ GoodS w w.heap.size s := by
      intro i hi'
      obtain ⟨cs', hc, ht'⟩ := hel i (by omega)
      obtain ⟨_, hcl, hat⟩ := World.cells?_some hc
      obtain ⟨q, n, c, F, hx, h1, h2, h3⟩ := rd_bytes htb hb hC ht'
      subst hx
      have h4 := hat 0 (by omega)
      rw [Go.Deep.add_add, Nat.mul_one, Nat.add_zero] at h4
      refine ⟨(q, n, c), h4, h1, h2, fun h0 => ?_⟩
      obtain ⟨g', o', e', hB⟩ := h3 h0
      exact ⟨g', o', F, e', hB, .inl (hB.lt h0)⟩
    have hsp : sp = none := by
      obtain ⟨x, hx, -⟩ := hrd 0 (by omega)
      exact cell_spot hx
    subst hsp
    have had : ∀ k, (Addr.mk g o none).add k = ⟨g, o + k, none⟩ := fun k => by
      unfold Addr.add
      by_cases hk : k = 0 <;> simp [hk]
    refine ⟨_, len1, cap1, fun i => slAt w ⟨g, o + i, none⟩, rfl, hl, hm, fun _ => ⟨g, o, rfl, fun i hi' => ?_⟩, fun i hi' => ?_⟩
    · obtain ⟨x, hx, -⟩ := hrd i hi'
      rw [had] at hx
      show _ = some (slV (slAt w ⟨g, o + i, none⟩))
      rw [hx, slAt_eq hx]
    · obtain ⟨x, hx, hg⟩ := hrd i hi'
      rw [had] at hx
      show GoodS w w.heap.size (slAt w ⟨g, o + i, none⟩)
      rw [slAt_eq hx]
      exact hg
end
end Go.Proofs.Ytkopenemoddbbaa
