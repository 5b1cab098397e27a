/- A disk in memory: the map of what is safe, the row of what is under way, the bytes of both. -/
import Derived.Test.YtkopenemoddbbaaDiskP
import Derived.Test.YtkopenemoddbbaaApp2
import Derived.Test.YtkopenemoddbbaaRF
import Derived.Test.YtkopenemoddbbaaRow
import Derived.Maps.OwnSet
import Derived.Maps.RangeWalk
namespace Go.Proofs.Ytkopenemoddbbaa
open Go.RowKit Go.Maps

/-- Where a slice lies, how long it is, how much room it has. -/
abbrev SL := Option Addr × Nat × Nat
def slV (s : SL) : Value := .slice s.1 s.2.1 s.2.2
/-- How such an element of a map reads: as itself. -/
def RS : Value → Option (DataW SL × List MemPlace)
  | .slice q n c => some (.held (q, n, c), [])
  | _ => none
theorem RS_mk (s : SL) : RS (slV s) = some (.held s, []) := rfl
theorem RS_inv {v : Value} {y : DataW SL × List MemPlace} (h : RS v = some y) : ∃ s : SL, v = slV s ∧ y = (.held s, []) := by
  cases v <;> simp [RS] at h
  rename_i q n c
  exact ⟨(q, n, c), rfl, h.symm⟩
def DMl (l : List (Int × SL)) : List (Lit × DataW SL) := l.map fun p => (Lit.int .i64 p.1, DataW.held p.2)
def DM (l : List (Int × SL)) : DataW SL := .map (DMl l)
theorem same_i (a b : Int) : (Lit.int .i64 a).sameKey (.int .i64 b) = decide (a = b) := by simp [Lit.sameKey]
theorem before_i (a b : Int) : (Lit.int .i64 a).before (.int .i64 b) = decide (a < b) := by simp [Lit.before]
theorem DMl_strike (k : Int) (l : List (Int × SL)) : (DMl l).filter (fun p => !p.1.sameKey (.int .i64 k)) = DMl (l.filter fun p => !decide (p.1 = k)) := by
  unfold DMl
  rw [List.filter_map]
  congr 1
  apply List.filter_congr
  intro p _
  simp [same_i]
theorem DMl_insert (k : Int) (s : SL) : ∀ {l : List (Int × SL)}, (∀ p ∈ l, p.1 ≠ k) → DataW.insert (.int .i64 k, .held s) (DMl l) = DMl (putL l (k, s))
  | [], _ => rfl
  | x :: r, h => by
    have hx := h x List.mem_cons_self
    show DataW.insert _ ((Lit.int .i64 x.1, DataW.held x.2) :: DMl r) = _
    unfold DataW.insert putL
    rw [before_i]
    dsimp only
    by_cases a : k < x.1
    · rw [if_pos (by simpa using a), if_pos a]; rfl
    · rw [if_neg (by simpa using a), if_neg a, if_neg hx, DMl_insert k s (fun p hp => h p (List.mem_cons_of_mem _ hp))]
      rfl
theorem putL_strike (k : Int) (s : SL) : ∀ {l : List (Int × SL)}, Rise l → putL (l.filter fun p => !decide (p.1 = k)) (k, s) = putL l (k, s)
  | [], _ => rfl
  | x :: r, h => by
    obtain ⟨h1, h2⟩ := rise_cons.1 h
    by_cases a : x.1 = k
    · have e : (x :: r).filter (fun p => !decide (p.1 = k)) = r := by
        rw [List.filter_cons_of_neg (by simp [a]), List.filter_eq_self]
        intro p hp
        have := h1 p hp
        simp; omega
      rw [e]
      show putL r (k, s) = if k < x.1 then _ else if x.1 = k then (k, s) :: r else _
      rw [if_neg (by omega), if_pos a]
      cases r with
      | nil => rfl
      | cons y r =>
        have := h1 y List.mem_cons_self
        show (if k < y.1 then _ else _) = _
        rw [if_pos (by omega)]
    · rw [List.filter_cons_of_pos (by simp [a])]
      show (if k < x.1 then _ else if x.1 = k then _ else _) = if k < x.1 then _ else if x.1 = k then _ else _
      by_cases b : k < x.1
      · rw [if_pos b, if_pos b]
        congr 2
        rw [List.filter_eq_self]
        intro p hp
        have := h1 p hp
        simp; omega
      · rw [if_neg b, if_neg a, if_neg b, if_neg a, putL_strike k s h2]
theorem put_DM {l : List (Int × SL)} (h : Rise l) (k : Int) (s : SL) : (DM l).put (.int .i64 k) (.held s) = DM (putL l (k, s)) := by
  show DataW.map (DataW.insert (.int .i64 k, .held s) ((DMl l).filter fun p => !p.1.sameKey (.int .i64 k))) = .map (DMl (putL l (k, s)))
  rw [DMl_strike, DMl_insert k s (fun p hp => by simpa using (List.mem_filter.1 hp).2), putL_strike k s h]
theorem find_DM (k : Int) : ∀ l : List (Int × SL), ((DMl l).find? fun p => p.1.sameKey (.int .i64 k)) = (l.find? fun p => p.1 == k).map fun p => (Lit.int .i64 p.1, DataW.held p.2)
  | [] => rfl
  | x :: r => by
    show (((Lit.int .i64 x.1, DataW.held x.2) :: DMl r).find? _) = _
    by_cases a : x.1 = k
    · rw [List.find?_cons_of_pos (by simp [same_i, a]), List.find?_cons_of_pos (by simp [a])]; rfl
    · rw [List.find?_cons_of_neg (by simp [same_i, a]), List.find?_cons_of_neg (by simp [a]), find_DM k r]
theorem atKey_DM (l : List (Int × SL)) (k : Int) (z : DataW SL) : (DM l).atKey (.int .i64 k) z = match getL l k with | some s => .held s | none => z := by
  unfold DM getL
  simp only [DataW.atKey, find_DM]
  cases l.find? fun p => p.1 == k <;> rfl
theorem has_DM (k : Int) : ∀ l : List (Int × SL), Maps.has (DM l) (.int .i64 k) = (getL l k).isSome
  | [] => rfl
  | x :: r => by
    have ih := has_DM k r
    have e : Maps.has (DM (x :: r)) (.int .i64 k) = ((Lit.int .i64 x.1).sameKey (.int .i64 k) || Maps.has (DM r) (.int .i64 k)) := rfl
    rw [e, ih, getL_cons, same_i]
    by_cases a : x.1 = k <;> simp [a]
theorem size_DM (l : List (Int × SL)) : Maps.size (DM l) = l.length := by simp [DM, DMl, Maps.size]
/-- How many entries a map has is told by what it reads as. -/
theorem map_tight {P : Program} {w : World} {k : TypeId} {b n : Nat} {l : List (Int × SL)} (h : w.ownsMap P k RS b n (DM l)) : w.ownsMap P k RS b l.length (DM l) := by
  obtain ⟨es, clock, hb, F, hs, hD⟩ := h
  refine ⟨es, clock, hb, F, ?_, hD⟩
  have h1 := size_DM l
  rw [hD] at h1
  simp only [Maps.size] at h1
  rw [length_sorted, List.length_map, Array.length_toList] at h1
  omega
theorem map_lt {P : Program} {w : World} {k : TypeId} {b n : Nat} {D : DataW SL} (h : w.ownsMap P k RS b n D) : ∀ cs t u, w.heap[b]? ≠ some (.cells cs t u) := by
  obtain ⟨es, clock, hb, _⟩ := h
  intro cs t u e
  rw [hb] at e
  cases e
theorem map_kept {P : Program} {w w' : World} {k : TypeId} {b n : Nat} {D : DataW SL} (h : w.ownsMap P k RS b n D) (hk : w'.heap[b]? = w.heap[b]?) : w'.ownsMap P k RS b n D := by
  obtain ⟨es, clock, hb, r⟩ := h
  exact ⟨es, clock, hk.trans hb, r⟩

/-! ### bytes -/
def bsOf (F : Nat → B8) (n : Nat) : Bs := (List.range n).map F
theorem bsOf_len (F : Nat → B8) (n : Nat) : (bsOf F n).length = n := by simp [bsOf]
theorem bsOf_take (F : Nat → B8) {k n : Nat} (h : k ≤ n) : (bsOf F n).take k = bsOf F k := by simp [bsOf, ← List.map_take, List.take_range, Nat.min_eq_left h]
theorem bsOf_at {F : Nat → B8} {n i : Nat} (h : i < n) : (bsOf F n)[i]? = some (F i) := by simp [bsOf, h]
theorem bsOf_eq {F G : Nat → B8} {n m : Nat} : bsOf F n = bsOf G m ↔ n = m ∧ ∀ i, i < n → F i = G i := by
  constructor
  · intro h
    have hl := congrArg List.length h
    rw [bsOf_len, bsOf_len] at hl
    subst hl
    refine ⟨rfl, fun i hi => ?_⟩
    have : (bsOf F n)[i]? = (bsOf G n)[i]? := by rw [h]
    rw [bsOf_at hi, bsOf_at hi] at this
    exact Option.some.inj this
  · rintro ⟨rfl, h⟩
    unfold bsOf
    exact List.map_congr_left fun i hi => h i (by simpa using hi)
/-- What a slice of bytes holds. -/
def rdB (w : World) (s : SL) : Bs := match s.1 with
  | some a => bsOf (fun i => byteAt w ⟨a.block, a.off + i, none⟩) s.2.1
  | none => []
/-- A slice of bytes that may be read: it lies below base, or in a block of bytes. -/
structure GoodS (w : World) (base : Nat) (s : SL) : Prop where
  cap : s.2.1 ≤ s.2.2
  most : s.2.2 ≤ maxLen
  lies : 0 < s.2.1 → ∃ g o F, s.1 = some ⟨g, o, none⟩ ∧ Byt w g o s.2.1 F ∧ (g < base ∨ ∃ cur, Blk w g 5 cur)
theorem byteAt_n8 {w : World} {p : Addr} {x : B8} (h : w.cell? p = some (.int .u8 (n8 x))) : byteAt w p = x := by
  rw [byteAt_eq h]
  unfold n8
  simp
theorem rdB_of {w : World} {g o n c : Nat} {F : Nat → B8} (h : Byt w g o n F) : rdB w (some ⟨g, o, none⟩, n, c) = bsOf F n := by
  unfold rdB
  dsimp only
  rw [bsOf_eq]
  exact ⟨rfl, fun i hi => byteAt_n8 (h i hi)⟩
theorem rdB_zero (w : World) (q : Option Addr) (c : Nat) : rdB w (q, 0, c) = [] := by
  unfold rdB
  cases q <;> rfl
theorem rdB_q {w : World} {q : Option Addr} {n c : Nat} {F : Nat → B8} (h : Byq w q n F) : rdB w (q, n, c) = bsOf F n := by
  rcases Nat.eq_zero_or_pos n with h0 | h0
  · subst h0; rw [rdB_zero]; rfl
  · obtain ⟨g, o, rfl, hB⟩ := h h0
    exact rdB_of hB
theorem GoodS.byq {w : World} {base : Nat} {s : SL} (h : GoodS w base s) : Byq w s.1 s.2.1 (fun i => (rdB w s).getD i 0) := fun h0 => by
  obtain ⟨g, o, F, hq, hB, -⟩ := h.lies h0
  refine ⟨g, o, hq, fun i hi => ?_⟩
  have e : rdB w s = bsOf F s.2.1 := by
    obtain ⟨q, n, c⟩ := s
    dsimp only at hq hB ⊢
    rw [hq]; exact rdB_of hB
  dsimp only
  rw [e, List.getD_eq_getElem?_getD, bsOf_at hi]
  exact hB i hi
theorem GoodS.len {w : World} {base : Nat} {s : SL} (h : GoodS w base s) : (rdB w s).length = s.2.1 := by
  rcases Nat.eq_zero_or_pos s.2.1 with h0 | h0
  · obtain ⟨q, n, c⟩ := s
    dsimp only at h0
    subst h0
    rw [rdB_zero]; rfl
  · obtain ⟨g, o, F, hq, hB, -⟩ := h.lies h0
    obtain ⟨q, n, c⟩ := s
    dsimp only at hq hB ⊢
    rw [hq, rdB_of hB, bsOf_len]
theorem GoodS.low {w : World} {base b' : Nat} {s : SL} (h : GoodS w base s) (hb : base ≤ b') : GoodS w b' s :=
  ⟨h.cap, h.most, fun h0 => by
    obtain ⟨g, o, F, hq, hB, hg⟩ := h.lies h0
    exact ⟨g, o, F, hq, hB, hg.imp (fun h => Nat.lt_of_lt_of_le h hb) id⟩⟩
/-- The blocks that the bytes of slices may lie in. -/
def ByteBlk (w : World) (base b : Nat) : Prop := b < base ∨ ∃ cur, Blk w b 5 cur
theorem GoodS.kept {w w' : World} {base : Nat} {s : SL} {K : Nat → Prop} (h : GoodS w base s) (hk : Kept K w w') (hK : ∀ b, ByteBlk w base b → K b) : GoodS w' base s ∧ rdB w' s = rdB w s := by
  have key : 0 < s.2.1 → ∃ g o F, s.1 = some ⟨g, o, none⟩ ∧ Byt w g o s.2.1 F ∧ Byt w' g o s.2.1 F ∧ (g < base ∨ ∃ cur, Blk w' g 5 cur) := fun h0 => by
    obtain ⟨g, o, F, hq, hB, hg⟩ := h.lies h0
    have hKg := hK g hg
    have hl : g < w.heap.size := hB.lt h0
    have e := hk.block g hl hKg
    refine ⟨g, o, F, hq, hB, fun i hi => ?_, hg.imp id fun ⟨cur, hc⟩ => ⟨cur, e.trans hc⟩⟩
    have := hB i hi
    unfold World.cell? at *
    dsimp only at *
    rw [e]
    exact this
  refine ⟨⟨h.cap, h.most, fun h0 => ?_⟩, ?_⟩
  · obtain ⟨g, o, F, hq, -, hB, hg⟩ := key h0
    exact ⟨g, o, F, hq, hB, hg⟩
  · rcases Nat.eq_zero_or_pos s.2.1 with h0 | h0
    · obtain ⟨q, n, c⟩ := s
      dsimp only at h0
      subst h0
      rw [rdB_zero, rdB_zero]
    · obtain ⟨g, o, F, hq, hB, hB', -⟩ := key h0
      obtain ⟨q, n, c⟩ := s
      dsimp only at hq hB hB'
      rw [hq, rdB_of hB, rdB_of hB']
theorem GoodS.on {w w' : World} {base : Nat} {s : SL} (h : GoodS w base s) (hb : Below w.heap.size w w') : GoodS w' base s ∧ rdB w' s = rdB w s := h.kept (K := fun _ => True) (Kept.of_below hb |>.mono fun _ _ => trivial) (fun _ _ => trivial)
theorem GoodS.cut {w : World} {base : Nat} {s : SL} (h : GoodS w base s) {k : Nat} (hk : k ≤ s.2.1) : GoodS w base (s.1, k, s.2.2) ∧ rdB w (s.1, k, s.2.2) = (rdB w s).take k := by
  refine ⟨⟨Nat.le_trans hk h.cap, h.most, fun h0 => ?_⟩, ?_⟩
  · obtain ⟨g, o, F, hq, hB, hg⟩ := h.lies (by dsimp only at h0; omega)
    exact ⟨g, o, F, hq, hB.le hk, hg⟩
  · rcases Nat.eq_zero_or_pos s.2.1 with h0 | h0
    · obtain ⟨q, n, c⟩ := s
      dsimp only at h0 hk ⊢
      subst h0
      obtain rfl : k = 0 := by omega
      rw [rdB_zero]; rfl
    · obtain ⟨g, o, F, hq, hB, -⟩ := h.lies h0
      obtain ⟨q, n, c⟩ := s
      dsimp only at hq hB hk ⊢
      rw [hq, rdB_of hB, rdB_of (hB.le hk), bsOf_take F hk]
/-- Bytes that are owned. -/
theorem GoodS.own {w : World} {base b0 n : Nat} {F : Nat → B8} {v : Value} (h : w.ownsRow b0 5 1 v n (bl F n)) : ∃ s : SL, v = slV s ∧ s.2.1 = n ∧ GoodS w base s ∧ rdB w s = bsOf F n := by
  obtain ⟨q, cap, rfl, hc, hm, hq⟩ := own_byq h
  refine ⟨(q, n, cap), rfl, rfl, ⟨hc, hm, fun h0 => ?_⟩, rdB_q hq⟩
  obtain ⟨g, cap', cur, hv, hbg, C, -, -, -, hB⟩ := own_form h h0
  obtain ⟨rfl, -, -⟩ := Value.slice.inj hv
  exact ⟨g, 0, F, rfl, hB, .inr ⟨cur, C⟩⟩
/-- Bytes from below. -/
theorem GoodS.of_q {w : World} {base n c : Nat} {q : Option Addr} {F : Nat → B8} (hc : n ≤ c) (hm : c ≤ maxLen) (h : Byq w q n F) (hb : ∀ a, q = some a → a.block < base) : GoodS w base (q, n, c) :=
  ⟨hc, hm, fun h0 => by
    obtain ⟨g, o, hq, hB⟩ := h h0
    exact ⟨g, o, F, hq, hB, .inl (hb _ hq)⟩⟩

/-! ### rows of blobs -/
def cont (w : World) (l : List (Int × SL)) : List (Int × Bs) := l.map fun p => (p.1, rdB w p.2)
def GoodL (w : World) (base : Nat) (l : List (Int × SL)) : Prop := ∀ p ∈ l, GoodS w base p.2
theorem cont_put (w : World) (l : List (Int × SL)) (k : Int) (s : SL) : cont w (putL l (k, s)) = putL (cont w l) (k, rdB w s) := map_putL (rdB w) (k, s) l
theorem cont_now (w : World) (s l : List (Int × SL)) : cont w (nowL s l) = nowL (cont w s) (cont w l) := map_now (rdB w) l s
theorem cont_get (w : World) (l : List (Int × SL)) (k : Int) : getL (cont w l) k = (getL l k).map (rdB w) := getL_map (rdB w) k l
theorem cont_snoc (w : World) (l : List (Int × SL)) (k : Int) (s : SL) : cont w (l ++ [(k, s)]) = cont w l ++ [(k, rdB w s)] := by simp [cont]
theorem cont_len (w : World) (l : List (Int × SL)) : (cont w l).length = l.length := by simp [cont]
theorem cont_at {w : World} {l : List (Int × SL)} {i : Nat} {p : Int × SL} (h : l[i]? = some p) : (cont w l)[i]? = some (p.1, rdB w p.2) := by simp [cont, h]
theorem cont_rise {w : World} {l : List (Int × SL)} (h : Rise (cont w l)) : Rise l := by
  unfold Rise cont at *
  rw [List.pairwise_map] at h
  exact h
theorem GoodL.put {w : World} {base : Nat} {l : List (Int × SL)} {k : Int} {s : SL} (h : GoodL w base l) (hs : GoodS w base s) : GoodL w base (putL l (k, s)) := fun p hp => by
  rcases mem_putL hp with rfl | hp
  · exact hs
  · exact h p hp
theorem GoodL.now {w : World} {base : Nat} {s l : List (Int × SL)} (h : GoodL w base s) (hl : GoodL w base l) : GoodL w base (nowL s l) := fun p hp => by
  rcases mem_now hp with hp | hp
  · exact h p hp
  · exact hl p hp
theorem GoodL.kept {w w' : World} {base : Nat} {l : List (Int × SL)} {K : Nat → Prop} (h : GoodL w base l) (hk : Kept K w w') (hK : ∀ b, ByteBlk w base b → K b) : GoodL w' base l ∧ cont w' l = cont w l :=
  ⟨fun p hp => ((h p hp).kept hk hK).1, List.map_congr_left fun p hp => by rw [((h p hp).kept hk hK).2]⟩
theorem GoodL.on {w w' : World} {base : Nat} {l : List (Int × SL)} (h : GoodL w base l) (hb : Below w.heap.size w w') : GoodL w' base l ∧ cont w' l = cont w l := h.kept (K := fun _ => True) (Kept.of_below hb |>.mono fun _ _ => trivial) (fun _ _ => trivial)
theorem GoodL.get {w : World} {base : Nat} {l : List (Int × SL)} (h : GoodL w base l) {k : Int} {s : SL} (hk : getL l k = some s) : GoodS w base s := by
  unfold getL at hk
  cases hf : l.find? fun p => p.1 == k with
  | none => rw [hf] at hk; cases hk
  | some p =>
    rw [hf] at hk
    obtain rfl : p.2 = s := by simpa using hk
    exact h p (List.mem_of_find?_eq_some hf)
end Go.Proofs.Ytkopenemoddbbaa
