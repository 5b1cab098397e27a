/- Bytes behind bytes: what append makes of them. No program in sight. -/
import Derived.Test.YtkopenemoddbbaaByt
import Derived.Lib.AppendZeros
import Derived.Deep.Upon
namespace Go.Proofs.Ytkopenemoddbbaa
open Go.RowKit Go.Deep

/-- n bytes, as cells. -/
def bl (F : Nat → B8) (n : Nat) : List Value := (List.range n).map fun i => .int .u8 (n8 (F i))
theorem bl_len (F : Nat → B8) (n : Nat) : (bl F n).length = n := by simp [bl]
theorem bl_at {F : Nat → B8} {n i : Nat} (h : i < n) : (bl F n)[i]? = some (.int .u8 (n8 (F i))) := by simp [bl, h]
/-- n of the one, and then the other ones. -/
def cat (F : Nat → B8) (n : Nat) (G : Nat → B8) (i : Nat) : B8 := if i < n then F i else G (i - n)
theorem cat_0 (F G : Nat → B8) : cat F 0 G = G := funext fun i => by simp [cat]
theorem bl_cat (F : Nat → B8) (n : Nat) (G : Nat → B8) (m : Nat) : bl (cat F n G) (n + m) = bl F n ++ bl G m := by
  apply List.ext_getElem?
  intro i
  by_cases h : i < n
  · rw [bl_at (by omega), List.getElem?_append_left (by rw [bl_len]; exact h), bl_at h]; simp [cat, h]
  · rw [List.getElem?_append_right (by rw [bl_len]; omega), bl_len]
    by_cases h2 : i < n + m
    · rw [bl_at h2, bl_at (by omega)]; simp [cat, h]
    · rw [List.getElem?_eq_none (by rw [bl_len]; omega), List.getElem?_eq_none (by rw [bl_len]; omega)]
theorem bl_cong {F G : Nat → B8} {n : Nat} (h : ∀ i, i < n → F i = G i) : bl F n = bl G n := by
  apply List.ext_getElem?
  intro i
  by_cases hi : i < n
  · rw [bl_at hi, bl_at hi, h i hi]
  · simp [bl, hi]
theorem u8_of {a : Int} (h : InU8 a) : ∃ X : B8, a = n8 X := by
  refine ⟨BitVec.ofInt 8 a, ?_⟩
  unfold InU8 at h
  unfold n8
  rw [BitVec.toNat_ofInt]
  omega
/-- A number of bytes turned. -/
def updB (F : Nat → B8) (k : Nat) (x : B8) (i : Nat) : B8 := if i = k then x else F i
section
variable {P : Program} {w w' : World} {base n m c g cap : Nat} {e t : TypeId} {F G : Nat → B8} {v : Value} {q : Option Addr}
theorem own_nil : w.ownsRow base e 1 (.slice none 0 0) 0 (bl F 0) := ⟨rfl, .inl ⟨rfl, rfl⟩⟩
/-- What is owned lies in a block of its own. -/
theorem own_form (h : w.ownsRow base e 1 v n (bl F n)) (hn : 0 < n) : ∃ g cap cur, v = .slice (some ⟨g, 0, none⟩) n cap ∧ base ≤ g ∧ Blk w g e cur ∧ n ≤ cap ∧ cap ≤ maxLen ∧ n ≤ cur.size ∧ Byt w g 0 n F := by
  rcases h.2 with ⟨_, h0⟩ | ⟨g, cap, cur, hv, hb, hg, hc, hm, hs, ht⟩
  · omega
  · refine ⟨g, cap, cur, hv, hb, hg, hc, hm, by omega, fun i hi => ?_⟩
    have h1 : cur[i]? = some (.int .u8 (n8 (F i))) := by
      have h2 := bl_at (F := F) hi
      rw [← ht, Nat.mul_one, List.getElem?_take_of_lt hi] at h2
      simpa using h2
    rw [Nat.zero_add, Blk.cell hg, h1]
theorem own_byq (h : w.ownsRow base e 1 v n (bl F n)) : ∃ q cap, v = .slice q n cap ∧ n ≤ cap ∧ cap ≤ maxLen ∧ Byq w q n F := by
  by_cases hn : 0 < n
  · obtain ⟨g, cap, _, hv, _, _, hc, hm, _, hb⟩ := own_form h hn
    exact ⟨_, cap, hv, hc, hm, Byq.of hb⟩
  · obtain rfl : n = 0 := by omega
    rcases h.2 with ⟨hv, _⟩ | ⟨g, cap, cur, hv, hb, hg, hc, hm, hs, ht⟩
    · exact ⟨_, _, hv, Nat.le_refl _, by omega, Byq.zero⟩
    · exact ⟨_, _, hv, hc, hm, Byq.zero⟩
theorem own_on (h : w.ownsRow base e 1 v n (bl F n)) (hb : Below w.heap.size w w') : w'.ownsRow base e 1 v n (bl F n) := by
  refine ⟨h.1, ?_⟩
  rcases h.2 with h0 | ⟨g, cap, cur, hv, hbg, hg, r⟩
  · exact .inl h0
  · exact .inr ⟨g, cap, cur, hv, hbg, Blk.on hg hb, r⟩
/-- append: whatever bytes (none, too) behind what is owned. -/
theorem run_app {ts ty : TypeId} (ht : P.underlying ts = some (.slice e)) (hi : (P.info? e).map (fun i => (i.zero, i.size, i.bytes)) = some (some (.int .u8 0), 1, 1))
    (hown : w.ownsRow base e 1 v n (bl F n)) (hmc : m ≤ c) (hG : Byq w q m G) (h47 : n + m ≤ 140737488355328) (hbase : base ≤ w.heap.size) :
    ∃ v' w', (Builtin.append_ #[ts, ts] ty #[v, .slice q m c]).run P w = .ok v' w' ∧ w'.ownsRow base e 1 v' (n + m) (bl (cat F n G) (n + m)) ∧ Below base w w' := by
  obtain ⟨i, hi, hz, hs, hby⟩ := info_parts hi
  by_cases hm : 0 < m
  · obtain ⟨g, o, rfl, hB⟩ := hG hm
    obtain ⟨v', w', h1, h2, h3, _⟩ := run_append_own (P := P) w base ts ty e i (.int .u8 0) 1 1 ht hi hz hs hby rfl (by decide) v n (bl F n) hown ⟨g, o, none⟩ m c (bl G m) (by rw [bl_len]; omega) (fun j u hj => by
        have hjm : j < m := by
          rcases Nat.lt_or_ge j m with h | h
          · exact h
          · rw [List.getElem?_eq_none (by rw [bl_len]; exact h)] at hj; cases hj
        rw [bl_at hjm] at hj
        obtain rfl := Option.some.inj hj
        have := hB j hjm
        unfold Addr.add
        by_cases hk : j = 0 <;> simp [hk] at this ⊢ <;> exact this) (fun u hu => by
        simp [bl] at hu
        obtain ⟨k, _, rfl⟩ := hu
        rfl) (by simp only [maxLen]; omega) (by omega) hbase
    refine ⟨v', w', h1, by rw [bl_cat]; exact h2, (Below.refl _ _).grown h3 hbase fun k hk => ?_⟩
    rcases hown.2 with ⟨hv, _⟩ | ⟨g', cap', cur, hv, hb, _⟩
    · subst hv; simp [Value.ownBlock] at hk
    · subst hv; simp [Value.ownBlock] at hk; omega
  · obtain rfl : m = 0 := by omega
    have hsrc : Src P i.size ts (.slice q 0 c) 0 [] w := by
      cases q with
      | none => exact Src.ofNil w ht c
      | some a => exact Src.ofSlice w ht a 0 c [] (by simp) (by simp) (by simp)
    obtain ⟨q', cap', rfl, hc', _, _⟩ := own_byq hown
    refine ⟨_, w, run_append_nothing w ts ts ty e i ht hi q' n cap' hc' _ hsrc, ?_, Below.refl _ _⟩
    rw [bl_cat]
    simpa [bl] using hown
/-- A byte stored. -/
theorem Byt.put {cur : Array Value} {k : Nat} {x : B8} (h : Byt w g 0 n F) (hC : Blk w g e cur) (hn : n ≤ cur.size) (hk : k < n) : Byt (w.setCell ⟨g, k, none⟩ (.int .u8 (n8 x))) g 0 n (updB F k x) := fun i hi => by
  have h1 := h i hi
  rw [Nat.zero_add] at h1 ⊢
  rw [(hC.set_ k _).cell]
  rw [hC.cell] at h1
  unfold updB
  by_cases hik : i = k
  · subst hik; rw [if_pos rfl, Array.getElem?_setIfInBounds_self_of_lt (by omega)]
  · rw [if_neg hik, ← h1]
    rw [Array.getElem?_setIfInBounds_ne (fun h => hik h.symm)]
end
end Go.Proofs.Ytkopenemoddbbaa
