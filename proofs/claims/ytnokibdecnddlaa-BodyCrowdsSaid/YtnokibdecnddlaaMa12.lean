/- Texts that build one behind the other, laid together: NdgP CrwP RowApp CrwR Crw1 Ndg1 Crw2 Ndg2 Crw3 Crw4. -/
import Derived.Test.YtnokibdecnddlaaMa10
import Derived.Test.YtnokibdecnddlaaMa11
import Derived.Test.YtnokibdecnddlaaMa4
import Derived.Test.YtnokibdecnddlaaMa6
import Derived.Test.YtnokibdecnddlaaMa9
import Derived.Test.YtnokibdecnddlaaMa7
/- A body that is nudged: plain. No program in sight. -/
namespace Go.Proofs.Ytnokibdecnddlaa

/-- Where it comes to, and what it hits. -/
def ndV (val : Cl → Int) (b : BD) (d : V3) : B6 := st3 val (boxB b) (fwI b.1 d.1) (fwI b.2.1 d.2.1) (fwI b.2.2.1 d.2.2)
def toB (b : BD) (o r : B6) : BD := (addI b.1 (subI r.1 o.1), addI b.2.1 (subI r.2.1 o.2.1), addI b.2.2.1 (subI r.2.2.1 o.2.2.1), b.2.2.2.1, b.2.2.2.2.1, b.2.2.2.2.2.1, b.2.2.2.2.2.2.1, b.2.2.2.2.2.2.2.1, b.2.2.2.2.2.2.2.2)
def nudB (val : Cl → Int) (b : BD) (d : V3) : BD := toB b (boxB b) (ndV val b d)
theorem farI_far (d : Int) : farI (farI d) = farI d := by unfold farI; omega
theorem al6_far (val : Cl → Int) (x : B6) (axis d : Int) : al6 val x axis (farI d) = al6 val x axis d := by
  unfold al6 ax6 axisV
  rw [farI_far]
theorem st3_far (val : Cl → Int) (x : B6) (dx dy dz : Int) : st3 val x (farI dx) (farI dy) (farI dz) = st3 val x dx dy dz := by
  unfold st3 st2 st1
  rw [al6_far, al6_far, al6_far]
/-- What a nudge does to a body near. -/
structure NdSay (val : Cl → Int) (M K : Int) (b s : BD) : Prop where
  ok : BOk (M + K) s
  free : blk6 val (boxB b) = false → blk6 val (boxB s) = false
theorem nud_say (val : Cl → Int) {M K : Int} {b : BD} (h : BOk M b) (hM0 : 0 ≤ M) (hM : M ≤ 1000000000) (d : V3) (hK : K ≤ 4194304) (h1 : -K ≤ farI (fwI b.1 d.1) ∧ farI (fwI b.1 d.1) ≤ K) (h2 : -K ≤ farI (fwI b.2.1 d.2.1) ∧ farI (fwI b.2.1 d.2.1) ≤ K) (h3 : -K ≤ farI (fwI b.2.2.1 d.2.2) ∧ farI (fwI b.2.2.1 d.2.2) ≤ K) : NdSay val M K b (nudB val b d) := by
  obtain ⟨hS, -⟩ := h.box (by omega)
  have k1 := farI_bd (fwI b.1 d.1)
  have k2 := farI_bd (fwI b.2.1 d.2.1)
  have k3 := farI_bd (fwI b.2.2.1 d.2.2)
  obtain ⟨p, q, r, e, b1, b2, b3⟩ := st3_sh val hS (by omega) k1 k2 k3
  rw [st3_far] at e
  have p1 := b1.bd h1.1 h1.2
  have q1 := b2.bd h2.1 h2.2
  have r1 := b3.bd h3.1 h3.2
  have hs := hS
  obtain ⟨a1, c1, d1, a2, c2, d2, -, -, -, -, -, -⟩ := hs
  obtain ⟨hx, hy, hz, sx, sy, sz, hw, hh⟩ := id h
  have key : ∀ {a o n : Int}, -2000000000 ≤ a → a ≤ 2000000000 → -2000000000 ≤ o → o ≤ 2000000000 → -4194304 ≤ n → n ≤ 4194304 → addI a (subI (o + n) o) = a + n := fun {a o n} g1 g2 g3 g4 g5 g6 => by
    have : subI (o + n) o = n := by unfold subI cutI; omega
    rw [this, addI_in (by omega) (by omega) (by omega) (by omega)]
  have en : nudB val b d = (b.1 + p, b.2.1 + q, b.2.2.1 + r, b.2.2.2.1, b.2.2.2.2.1, b.2.2.2.2.2.1, b.2.2.2.2.2.2.1, b.2.2.2.2.2.2.2.1, b.2.2.2.2.2.2.2.2) := by
    unfold nudB toB ndV
    rw [e]
    unfold sh6
    dsimp only
    rw [key (by omega) (by omega) (by omega) (by omega) (by omega) (by omega), key (by omega) (by omega) (by omega) (by omega) (by omega) (by omega), key (by omega) (by omega) (by omega) (by omega) (by omega) (by omega)]
  have ho : BOk (M + K) (nudB val b d) := by
    rw [en]
    exact ⟨by dsimp only; omega, by dsimp only; omega, by dsimp only; omega, sx, sy, sz, hw, hh⟩
  refine ⟨ho, fun hf => ?_⟩
  have e1 : (nudB val b d).1 = b.1 + p := by rw [en]
  have e2 : (nudB val b d).2.1 = b.2.1 + q := by rw [en]
  have e3 : (nudB val b d).2.2.1 = b.2.2.1 + r := by rw [en]
  have e4 : (nudB val b d).2.2.2.2.2.2.1 = b.2.2.2.2.2.2.1 := by rw [en]
  have e5 : (nudB val b d).2.2.2.2.2.2.2.1 = b.2.2.2.2.2.2.2.1 := by rw [en]
  have hk : 0 ≤ K := by omega
  rw [box_shift (h.mono (M' := M + K) (by omega)) ho (by omega) e1 e2 e3 e4 e5, ← e]
  exact free_st3 hS (by omega) (by omega) _ _ _ hf
end Go.Proofs.Ytnokibdecnddlaa

/- Bodies in a crowd: plain. No program in sight. -/
namespace Go.Proofs.Ytnokibdecnddlaa

/-- How far a push goes at most. -/
def V3Bd (K : Int) (d : V3) : Prop := (-K ≤ d.1 ∧ d.1 ≤ K) ∧ (-K ≤ d.2.1 ∧ d.2.1 ≤ K) ∧ -K ≤ d.2.2 ∧ d.2.2 ≤ K
theorem oneV_bd {k n : Int} (h1 : -4096 ≤ n) (h2 : n ≤ 4096) : V3Bd 4096 (oneV k n) := by
  unfold oneV V3Bd
  rw [wi_small h1 h2, wi_small h1 h2, wi_small h1 h2]
  have q : ∀ (c : Prop) [Decidable c], -4096 ≤ (if c then n else 0) ∧ (if c then n else 0) ≤ 4096 := fun c _ => by
    by_cases h : c
    · rw [if_pos h]; omega
    · rw [if_neg h]; omega
  exact ⟨q _, q _, q _⟩
theorem push_bd {M : Int} {a b : BD} (ha : BOk M a) (hb : BOk M b) (hM0 : 0 ≤ M) (hM : M ≤ 1000000000) : V3Bd 4096 (pushV a b).1 ∧ V3Bd 4096 (pushV a b).2 := by
  rcases pushV_ways ha hb hM0 hM with ⟨h, e⟩ | ⟨h, ⟨o0, o2⟩, hw⟩
  · rw [e]
    unfold V3Bd
    dsimp only
    omega
  · have m0 : 1 ≤ mnI (ovB (boxB a) (boxB b) 0) 4096 ∧ mnI (ovB (boxB a) (boxB b) 0) 4096 ≤ 4096 := by unfold mnI; omega
    have m2 : 1 ≤ mnI (ovB (boxB a) (boxB b) 2) 4096 ∧ mnI (ovB (boxB a) (boxB b) 2) 4096 ≤ 4096 := by unfold mnI; omega
    rcases hw with ⟨-, -, e⟩ | ⟨-, -, e⟩ | ⟨-, -, e⟩ | ⟨-, -, e⟩ <;> rw [e] <;> exact ⟨oneV_bd (by omega) (by omega), oneV_bd (by omega) (by omega)⟩
theorem nud_push (val : Cl → Int) {M : Int} {b : BD} (h : BOk M b) (hM0 : 0 ≤ M) (hM : M ≤ 1000000000) {d : V3} (hd : V3Bd 4096 d) : NdSay val M 4096 b (nudB val b d) := by
  obtain ⟨h1, h2, h3⟩ := hd
  obtain ⟨hx, hy, hz, -, -, -, -, -⟩ := id h
  have e1 := fw_id (n := b.1) (d := d.1) (by omega) (by omega) (by omega) (by omega)
  have e2 := fw_id (n := b.2.1) (d := d.2.1) (by omega) (by omega) (by omega) (by omega)
  have e3 := fw_id (n := b.2.2.1) (d := d.2.2) (by omega) (by omega) (by omega) (by omega)
  refine nud_say val h hM0 hM d (by decide) ?_ ?_ ?_
  · rw [e1]; unfold farI; omega
  · rw [e2]; unfold farI; omega
  · rw [e3]; unfold farI; omega
/-- Two of a row push one another. -/
def pairB (val : Cl → Int) (l : List BD) (i k : Nat) : List BD :=
  (l.set i (nudB val (l.getD i default) (pushV (l.getD i default) (l.getD k default)).1)).set k (nudB val (l.getD k default) (pushV (l.getD i default) (l.getD k default)).2)
/-- Number i, and so many behind it. -/
def inB (val : Cl → Int) (i : Nat) (l : List BD) : Nat → List BD
  | 0 => l
  | m + 1 => pairB val (inB val i l m) i (i + 1 + m)
/-- So many of a row of n, each with all behind it. -/
def outB (val : Cl → Int) (n : Nat) (l : List BD) : Nat → List BD
  | 0 => l
  | i + 1 => inB val i (outB val n l i) (n - (i + 1))
section
variable {val : Cl → Int} {M : Int} {l : List BD}
/-- All of a row are near, and free where those of the first were. -/
structure AllOk (val : Cl → Int) (M : Int) (l0 l : List BD) : Prop where
  len : l.length = l0.length
  ok : ∀ (i : Nat) (b : BD), l[i]? = some b → BOk M b
  free : ∀ (i : Nat) (a b : BD), l0[i]? = some a → l[i]? = some b → blk6 val (boxB a) = false → blk6 val (boxB b) = false
theorem getD_at {l : List BD} {i : Nat} {b : BD} (h : l[i]? = some b) : l.getD i default = b := by simp [List.getD_eq_getElem?_getD, h]
theorem AllOk.at {l0 : List BD} (h : AllOk val M l0 l) {i : Nat} (hi : i < l0.length) : ∃ b, l[i]? = some b ∧ l.getD i default = b ∧ BOk M b := by
  have hlt : i < l.length := by rw [h.len]; exact hi
  have e := List.getElem?_eq_getElem hlt
  exact ⟨_, e, getD_at e, h.ok _ _ e⟩
theorem AllOk.pair {l0 : List BD} (h : AllOk val M l0 l) (hM0 : 0 ≤ M) (hM : M ≤ 1000000000) {i k : Nat} (hi : i < l0.length) (hk : k < l0.length) (hne : i ≠ k) : AllOk val (M + 4096) l0 (pairB val l i k) := by
  obtain ⟨a, ea, da, oa⟩ := h.at hi
  obtain ⟨b, eb, db, ob⟩ := h.at hk
  have hp := push_bd oa ob hM0 hM
  have na := nud_push val oa hM0 hM hp.1
  have nb := nud_push val ob hM0 hM hp.2
  have hli : i < l.length := by rw [h.len]; exact hi
  have hlk : k < l.length := by rw [h.len]; exact hk
  have at_ : ∀ j, (pairB val l i k)[j]? = if j = k then some (nudB val b (pushV a b).2) else if j = i then some (nudB val a (pushV a b).1) else l[j]? := fun j => by
    unfold pairB
    rw [da, db, List.getElem?_set, List.getElem?_set, List.length_set]
    by_cases h1 : k = j
    · rw [if_pos (show k = j from h1), if_pos (show j = k from h1.symm), if_pos hlk]
    · rw [if_neg (show ¬ (k = j) from h1), if_neg (show ¬ (j = k) from fun e => h1 e.symm)]
      by_cases h2 : i = j
      · rw [if_pos (show i = j from h2), if_pos (show j = i from h2.symm), if_pos hli]
      · rw [if_neg (show ¬ (i = j) from h2), if_neg (show ¬ (j = i) from fun e => h2 e.symm)]
  refine ⟨?_, fun j c hj => ?_, fun j c e hc he hf => ?_⟩
  · unfold pairB; rw [List.length_set, List.length_set, h.len]
  · rw [at_] at hj
    split at hj
    · obtain rfl := Option.some.inj hj; exact nb.ok
    · split at hj
      · obtain rfl := Option.some.inj hj; exact na.ok
      · exact (h.ok _ _ hj).mono (by omega)
  · rw [at_] at he
    split at he
    · rename_i h1
      obtain rfl := Option.some.inj he
      subst h1
      exact nb.free (h.free _ _ _ hc eb hf)
    · split at he
      · rename_i h2
        obtain rfl := Option.some.inj he
        subst h2
        exact na.free (h.free _ _ _ hc ea hf)
      · exact h.free _ _ _ hc he hf
theorem AllOk.mono {M' : Int} {l0 : List BD} (h : AllOk val M l0 l) (hm : M ≤ M') : AllOk val M' l0 l := ⟨h.len, fun i b hi => (h.ok i b hi).mono hm, h.free⟩
theorem inB_ok {l0 : List BD} (h : AllOk val M l0 l) (hM0 : 0 ≤ M) (hM : M ≤ 900000000) {i : Nat} : ∀ {m : Nat}, m ≤ 10 → i + 1 + m ≤ l0.length → AllOk val (M + 4096 * (m : Int)) l0 (inB val i l m)
  | 0, _, _ => h.mono (by omega)
  | m + 1, h1, h2 => by
    have := (inB_ok h hM0 hM (i := i) (m := m) (by omega) (by omega)).pair (i := i) (k := i + 1 + m) (by omega) (by omega) (by omega) (by omega) (by omega)
    exact this.mono (by omega)
theorem outB_ok {l0 : List BD} (h : AllOk val M l0 l) (hM0 : 0 ≤ M) (hM : M ≤ 1000000) (hn : l0.length ≤ 10) : ∀ {i : Nat}, i ≤ l0.length → AllOk val (M + 40960 * (i : Int)) l0 (outB val l0.length l i)
  | 0, _ => h.mono (by omega)
  | i + 1, h1 => by
    have := inB_ok (outB_ok h hM0 hM hn (i := i) (by omega)) (by omega) (by omega) (i := i) (m := l0.length - (i + 1)) (by omega) (by omega)
    exact this.mono (by omega)
end
end Go.Proofs.Ytnokibdecnddlaa

/- Rows behind rows: what append makes of them; parts of rows. No program in sight. -/
namespace Go.Proofs.Ytnokibdecnddlaa
open Go.RowKit

section
variable {P : Program} {w w' : World} {base n m c : Nat} {e : TypeId} {size : Nat} {α : Type} {enc : α → List Value} {v : Value} {xs ys : List α} {q : Option Addr}
theorem flat_inv (hl : ∀ x, (enc x).length = size) : ∀ (xs : List α) (j : Nat) (u : Value), (xs.flatMap enc)[j]? = some u → ∃ i r x, xs[i]? = some x ∧ (enc x)[r]? = some u ∧ j = i * size + r := by
  intro xs
  induction xs with
  | nil => intro j u h; cases h
  | cons y ys ih =>
    intro j u h
    rw [List.flatMap_cons] at h
    by_cases hj : j < size
    · rw [List.getElem?_append_left (by rw [hl]; exact hj)] at h
      exact ⟨0, j, y, rfl, h, by omega⟩
    · rw [List.getElem?_append_right (by rw [hl]; omega), hl] at h
      obtain ⟨i, r, x, h1, h2, h3⟩ := ih _ _ h
      exact ⟨i + 1, r, x, by simpa using h1, h2, by rw [Nat.succ_mul]; omega⟩
theorem flat_lenR (hl : ∀ x, (enc x).length = size) : ∀ xs : List α, (xs.flatMap enc).length = xs.length * size := by
  intro xs
  induction xs with
  | nil => simp
  | cons y ys ih => rw [List.flatMap_cons, List.length_append, hl, ih, List.length_cons, Nat.succ_mul]; omega
theorem Rd.take {g o : Nat} (h : Rd w (some ⟨g, o, none⟩) size enc xs) (k : Nat) : Rd w (some ⟨g, o, none⟩) size enc (xs.take k) := fun hn => by
  rw [List.length_take] at hn
  refine ⟨g, o, rfl, fun i x hx j u hu => ?_⟩
  rw [List.getElem?_take] at hx
  split at hx
  · exact h.at hx hu
  · cases hx
theorem Rd.drop {g o : Nat} (h : Rd w (some ⟨g, o, none⟩) size enc xs) (k : Nat) : Rd w (some ⟨g, o + k * size, none⟩) size enc (xs.drop k) := fun hn => by
  refine ⟨g, _, rfl, fun i x hx j u hu => ?_⟩
  rw [List.getElem?_drop] at hx
  have := h.at hx hu
  rw [Nat.add_mul, ← Nat.add_assoc] at this
  exact this
theorem Rd.none {q : Option Addr} : Rd w q size enc ([] : List α) := fun hn => absurd hn (by simp)
/-- Any elements (none, too) behind those that are owned. -/
theorem run_rows {ts ty : TypeId} {z : Value} {bytes : Nat} (ht : P.underlying ts = some (.slice e)) (hi : (P.info? e).map (fun i => (i.zero, i.size, i.bytes)) = some (some z, size, bytes)) (hz : z.cells.size = size) (hs : 0 < size) (hby : 0 < bytes)
    (hl : ∀ x, (enc x).length = size) (h1 : ∀ x ∈ ys, ∀ u ∈ enc x, u.oneCell' = true) (hown : Owns w base e size enc v xs) (hy : ys.length = m) (hmc : m ≤ c) (hG : Rd w q size enc ys) (h47 : (xs.length + m) * bytes ≤ 140737488355328) (hbase : base ≤ w.heap.size) :
    ∃ v' w', (Builtin.append_ #[ts, ts] ty #[v, .slice q m c]).run P w = .ok v' w' ∧ Owns w' base e size enc v' (xs ++ ys) ∧ Below base w w' := by
  subst hy
  obtain ⟨i, hi, hz0, hs0, hb0⟩ := info_parts hi
  have h63 : xs.length + ys.length ≤ maxLen := by
    have : (xs.length + ys.length) * 1 ≤ (xs.length + ys.length) * bytes := Nat.mul_le_mul_left _ hby
    simp only [maxLen]; omega
  by_cases hm : 0 < ys.length
  · obtain ⟨g, o, rfl, hB⟩ := hG hm
    obtain ⟨v', w', h2, h3, h4, _⟩ := run_append_own (P := P) w base ts ty e i z size bytes ht hi hz0 hs0 hb0 hz hs v xs.length (xs.flatMap enc) hown ⟨g, o, none⟩ ys.length c (ys.flatMap enc) (flat_lenR hl ys) (fun j u hj => by
        obtain ⟨k, r, x, e1, e2, rfl⟩ := flat_inv hl ys j u hj
        have := hB k x e1 r u e2
        unfold Addr.add
        by_cases hk : k * size + r = 0
        · rw [if_pos hk]; rw [show o + k * size + r = o by omega] at this; exact this
        · rw [if_neg hk]; rw [show o + k * size + r = o + (k * size + r) by omega] at this; exact this) (fun u hu => by
        rw [List.mem_flatMap] at hu
        obtain ⟨x, hx, hu⟩ := hu
        exact h1 x hx u hu) h63 h47 hbase
    refine ⟨v', w', h2, ?_, (Below.refl _ _).grown h4 hbase fun k hk => (hown.block k hk).1⟩
    unfold Owns
    rw [List.length_append, List.flatMap_append]
    exact h3
  · obtain rfl : ys = [] := by cases ys with | nil => rfl | cons y ys => simp at hm
    have hsrc : Src P i.size ts (.slice q 0 c) 0 [] w := by
      cases q with
      | none => exact Src.ofNil w ht c
      | some a => exact Src.ofSlice w ht a 0 c [] (by simp) (by simp) (by simp)
    obtain ⟨q', cap', rfl, hc', _⟩ := hown.form hl
    refine ⟨_, w, run_append_nothing w ts ts ty e i ht hi q' _ cap' hc' _ hsrc, ?_, Below.refl _ _⟩
    rw [List.append_nil]
    exact hown
end
end Go.Proofs.Ytnokibdecnddlaa

/- Rows of bodies in blocks of their own. No program in sight. -/
namespace Go.Proofs.Ytnokibdecnddlaa
open Go.RowKit

/-- Block g holds the bodies of a list, from its first cell on. -/
def Rwb (w : World) (g : Nat) (t : TypeId) (l : List BD) : Prop := ∃ cur : Array Value, Blk w g t cur ∧ ∀ (i : Nat) (b : BD), l[i]? = some b → ∀ (j : Nat) (u : Value), (enBd b)[j]? = some u → cur[i * 9 + j]? = some u
section
variable {w w' : World} {g : Nat} {t : TypeId} {l : List BD} {i : Nat} {b : BD}
theorem Rwb.on (h : Rwb w g t l) (hb : Below w.heap.size w w') : Rwb w' g t l := by
  obtain ⟨cur, h1, h2⟩ := h
  exact ⟨cur, h1.on hb, h2⟩
theorem Rwb.lt (h : Rwb w g t l) : g < w.heap.size := by
  obtain ⟨cur, h1, -⟩ := h
  exact h1.lt
theorem Rwb.far {p : Addr} (h : Rwb w g t l) (hp : g ≠ p.block) (u : Value) : Rwb (w.setCell p u) g t l := by
  obtain ⟨cur, h1, h2⟩ := h
  exact ⟨cur, h1.far hp u, h2⟩
theorem Rwb.cells (h : Rwb w g t l) {x y z sx sy sz wd ht : Int} {st : Bool} (hi : l[i]? = some (x, y, z, sx, sy, sz, wd, ht, st)) :
    w.cell? ⟨g, i * 9, none⟩ = some (.int .i64 x) ∧ w.cell? ⟨g, i * 9 + 1, none⟩ = some (.int .i64 y) ∧ w.cell? ⟨g, i * 9 + 2, none⟩ = some (.int .i64 z) ∧ w.cell? ⟨g, i * 9 + 3, none⟩ = some (.int .i64 sx) ∧ w.cell? ⟨g, i * 9 + 4, none⟩ = some (.int .i64 sy) ∧ w.cell? ⟨g, i * 9 + 5, none⟩ = some (.int .i64 sz) ∧ w.cell? ⟨g, i * 9 + 6, none⟩ = some (.int .i64 wd) ∧ w.cell? ⟨g, i * 9 + 7, none⟩ = some (.int .i64 ht) ∧ w.cell? ⟨g, i * 9 + 8, none⟩ = some (.bool st) := by
  obtain ⟨cur, h1, h2⟩ := h
  have h3 := h2 i _ hi
  refine ⟨?_, ?_, ?_, ?_, ?_, ?_, ?_, ?_, ?_⟩ <;> rw [h1.cell]
  · exact h3 0 _ rfl
  · exact h3 1 _ rfl
  · exact h3 2 _ rfl
  · exact h3 3 _ rfl
  · exact h3 4 _ rfl
  · exact h3 5 _ rfl
  · exact h3 6 _ rfl
  · exact h3 7 _ rfl
  · exact h3 8 _ rfl
theorem Rwb.frz (h : Rwb w g t l) (k : Nat) : w.frozen? ⟨g, k, none⟩ = false := by
  obtain ⟨cur, h1, -⟩ := h
  exact h1.frz k
theorem Rwb.set9 (h : Rwb w g t l) (hi : i < l.length) (x y z sx sy sz wd ht : Int) (st : Bool) :
    Rwb (((((((((w.setCell ⟨g, i * 9, none⟩ (.int .i64 x)).setCell ⟨g, i * 9 + 1, none⟩ (.int .i64 y)).setCell ⟨g, i * 9 + 2, none⟩ (.int .i64 z)).setCell ⟨g, i * 9 + 3, none⟩ (.int .i64 sx)).setCell ⟨g, i * 9 + 4, none⟩ (.int .i64 sy)).setCell ⟨g, i * 9 + 5, none⟩ (.int .i64 sz)).setCell ⟨g, i * 9 + 6, none⟩ (.int .i64 wd)).setCell ⟨g, i * 9 + 7, none⟩ (.int .i64 ht)).setCell ⟨g, i * 9 + 8, none⟩ (.bool st)) g t (l.set i (x, y, z, sx, sy, sz, wd, ht, st)) := by
  obtain ⟨cur, h1, h2⟩ := h
  have hsz : i * 9 + 8 < cur.size := by
    have e := h2 i l[i] (List.getElem?_eq_getElem hi) 8 _ rfl
    exact (Array.getElem?_eq_some_iff.1 e).1
  refine ⟨_, ((((((((h1.set_ _ _).set_ _ _).set_ _ _).set_ _ _).set_ _ _).set_ _ _).set_ _ _).set_ _ _).set_ _ _, fun i' b' hb j u hu => ?_⟩
  have hj : j < 9 := by
    have := (List.getElem?_eq_some_iff.1 hu).1
    exact this
  simp only [Array.getElem?_setIfInBounds, Array.size_setIfInBounds]
  rw [List.getElem?_set] at hb
  by_cases e : i = i'
  · subst e
    rw [if_pos rfl, if_pos hi] at hb
    obtain rfl := Option.some.inj hb
    rcases (show j = 0 ∨ j = 1 ∨ j = 2 ∨ j = 3 ∨ j = 4 ∨ j = 5 ∨ j = 6 ∨ j = 7 ∨ j = 8 by omega) with rfl | rfl | rfl | rfl | rfl | rfl | rfl | rfl | rfl
    all_goals
      obtain rfl := Option.some.inj hu
      repeat (first | rw [if_neg (by omega)] | rw [if_pos (by omega)])
      try rfl
  · rw [if_neg e] at hb
    repeat rw [if_neg (by omega)]
    exact h2 i' b' hb j u hu
end
/-- A row of bodies as a value: none, or from the first cell of a block from n on. -/
def BRow (w : World) (n : Nat) (t : TypeId) (v : Value) (l : List BD) : Prop := ∃ q cap, v = .slice q l.length cap ∧ l.length ≤ cap ∧ cap ≤ maxLen ∧ (0 < l.length → ∃ g, q = some ⟨g, 0, none⟩ ∧ n ≤ g ∧ Rwb w g t l)
theorem BRow.of {w : World} {n : Nat} {t : TypeId} {v : Value} {l : List BD} (h : Owns w n t 9 enBd v l) : BRow w n t v l := by
  obtain ⟨q, cap, hv, h1, h2, -, -, -⟩ := Owns.form (size := 9) (enc := enBd) (fun _ => rfl) h
  refine ⟨q, cap, hv, h1, h2, fun hn => ?_⟩
  rcases h.2 with ⟨-, h0⟩ | ⟨g, cap', cur, hv', hb, hg, hc, hm, hs, ht⟩
  · omega
  · rw [hv] at hv'
    injection hv' with e1 e2 e3
    refine ⟨g, e1, hb, cur, hg, fun i b hi j u hu => ?_⟩
    have h3 := flat_at (size := 9) (enc := enBd) (fun _ => rfl) l i b hi j u hu
    rw [← ht] at h3
    have h4 := (List.getElem?_eq_some_iff.1 h3).1
    rw [List.length_take] at h4
    rw [List.getElem?_take_of_lt (by omega)] at h3
    simpa using h3
end Go.Proofs.Ytnokibdecnddlaa

/- Rows of bodies: one is cloned, one is pushed behind. -/
namespace Go.Proofs.Ytnokibdecnddlaa
open Go.RowKit
attribute [local go_sem] Oper.semAt_some

theorem infBd : (Try.prog.info? 35).map (fun i => (i.zero, i.size, i.bytes)) = some (some (.agg #[.int .i64 0, .int .i64 0, .int .i64 0, .int .i64 0, .int .i64 0, .int .i64 0, .int .i64 0, .int .i64 0, .bool false]), 9, 72) := by kernel_rfl
theorem infRb : (Try.prog.info? 28).map (fun i => (i.zero, i.size, i.bytes)) = some (some (.agg #[.int .i64 0, .int .i64 0, .int .i64 0, .int .i64 0, .int .i64 0, .int .i64 0, .int .i64 0, .int .i64 0, .bool false]), 9, 72) := by kernel_rfl
theorem oneB (b : BD) : ∀ u ∈ enBd b, u.oneCell' = true := by
  obtain ⟨x, y, z, sx, sy, sz, wd, ht, st⟩ := b
  simp [enBd, Value.oneCell']
theorem owns_empty {w : World} {t : TypeId} : Owns (w.alloc (.cells #[] t)) w.heap.size t 9 enBd (.slice (some ⟨w.heap.size, 0, none⟩) 0 0) [] := by
  refine ⟨by simp, .inr ⟨w.heap.size, 0, #[], rfl, Nat.le_refl _, Blk.new' rfl, by simp, by decide, by simp, by simp⟩⟩
theorem rd_bd {w : World} {q : Option Addr} {l : List BD} {n : Nat} (h : Rd w q 9 enBd l) (hq : q = none) (hl : l.length = n) : n = 0 ∧ l = [] := by
  have hn : ¬ 0 < l.length := fun hn => by
    obtain ⟨g, o, e, -⟩ := h hn
    rw [hq] at e
    cases e
  have h0 : l.length = 0 := by omega
  exact ⟨by omega, List.length_eq_zero_iff.1 h0⟩
set_option maxRecDepth 100000 in
set_option maxHeartbeats 8000000 in
theorem clone_bd (q : Option Addr) (n c : Nat) (l : List BD) (hl : l.length = n) (hc : n ≤ c) (hn : n ≤ 1000000) (w : World) (h : Rd w q 9 enBd l) :
    Calls Try.prog 66 #[.slice q n c] w fun r w' => ∃ v, r = .returned v ∧ Owns w' w.heap.size 35 9 enBd v l ∧ Below w.heap.size w w' := by
  have hnl : ∀ (w : World) (a : Option Addr) (n c n' c' : Nat), (binOp .eql 66 (.slice a n c) (.slice none n' c')).run Try.prog w = .ok (.bool a.isNone) w := fun w a n c n' c' => Lib.run_eql_slice_nil w _ _ a n c n' c' Try.underlying66
  cases hq : q with
  | none =>
    obtain ⟨rfl, rfl⟩ := rd_bd h hq hl
    subst hq
    go_enter Try.func66, Try.ntmps66
    go_wp2_with fail
    go_returns
    exact ⟨_, rfl, Owns.nil, Below.refl _ _⟩
  | some a =>
    rw [hq] at h
    have hB : Below w.heap.size w (w.alloc (.cells #[] 35)) := (Below.refl _ _).alloc (Nat.le_refl _) _
    obtain ⟨v1, w5, hrun1, O1, hb1⟩ := run_rows (P := Try.prog) (ts := 66) (ty := 66) (enc := enBd) (w := w.alloc (.cells #[] 35)) (base := w.heap.size) (xs := ([] : List BD)) (ys := l) (q := some a) (m := n) (c := c) (v := .slice (some ⟨w.heap.size, 0, none⟩) 0 0) Try.underlying66 infBd rfl (by decide) (by decide) (fun _ => rfl) (fun b _ => oneB b) owns_empty hl hc (h.on hB) (by simp; omega) hB.size
    rw [List.nil_append] at O1
    have HO := Lib.hid (And.intro O1 (hB.trans hb1))
    clear O1 hb1 hB h hl hc hn hq
    go_enter Try.func66, Try.ntmps66
    go_wp2_with (at_builtin; refine Lib.wpList_append_run _ rfl _ _ _ _ rfl _ _ rfl rfl _ _ hrun1 ?_)
    go_returns
    exact ⟨_, rfl, HO.out.1, HO.out.2⟩
end Go.Proofs.Ytnokibdecnddlaa

/- A body that is nudged: the program's. -/
namespace Go.Proofs.Ytnokibdecnddlaa
open Go.RowKit Go.Shelf
attribute [local go_sem] Oper.semAt_some

set_option maxRecDepth 100000 in
set_option maxHeartbeats 8000000 in
theorem bnudge_c (V : FuncId) (lv : Array Value) (val : Cl → Int) (b : BD) (d : V3) (M : Int) (hM : M ≤ 71000000000000) (hM0 : 0 ≤ M) (hB : BOk M b) (w : World)
    (eV : ∀ args w, (callFunc V args).run Try.prog w = .ok (.enter V args) w) (hV : Tells Try.prog V lv val w) :
    Calls Try.prog 34 #[.agg (bd9 b), .func (.func V) #[] lv, .agg (vg3 d)] w fun r w' => r = .returned (.agg (bd9 (nudB val b d))) ∧ Below w.heap.size w w' := by
  obtain ⟨hS, -⟩ := hB.box hM
  have CB := fun W => bbox_c b (by have := hB.wd; omega) W
  have CU := fun W => bcut_c b d.1 d.2.1 d.2.2 W
  have C1 := fun W (h : Below w.heap.size w W) => pmove_c V lv val (boxB b) (fwI b.1 d.1) (fwI b.2.1 d.2.1) (fwI b.2.2.1 d.2.2) (M + 65536) (by omega) (by omega) hS W eV (hV.on h)
  have fG : ndV val b d = st3 val (boxB b) (fwI b.1 d.1) (fwI b.2.1 d.2.1) (fwI b.2.2.1 d.2.2) := by unfold ndV; rfl
  unfold moveT at C1
  rw [← fG] at C1
  clear fG hS hM hM0 hB eV hV
  unfold nudB toB
  generalize ndV val b d = r at C1 ⊢
  generalize hx2 val (boxB b) (fwI b.1 d.1) (fwI b.2.1 d.2.1) = t1 at C1
  generalize hy1 val (boxB b) (fwI b.2.1 d.2.1) = t2 at C1
  generalize hz3 val (boxB b) (fwI b.1 d.1) (fwI b.2.1 d.2.1) (fwI b.2.2.1 d.2.2) = t3 at C1
  generalize boxB b = bx at CB C1 ⊢
  obtain ⟨x, y, z, sx, sy, sz, wd, ht, st⟩ := b
  obtain ⟨d1, d2, d3⟩ := d
  obtain ⟨o1, o2, o3, o4, o5, o6⟩ := bx
  obtain ⟨y1, y2, y3, y4, y5, y6⟩ := r
  simp only [bd9, ag6, vg3] at *
  generalize fwI x d1 = f1 at CU C1
  generalize fwI y d2 = f2 at CU C1
  generalize fwI z d3 = f3 at CU C1
  have HSB := Lib.hid (fun W => sub_c y1 y2 y3 o1 o2 o3 W)
  have HAD := Lib.hid (fun W => add_c x y z (subI y1 o1) (subI y2 o2) (subI y3 o3) W)
  generalize subI y1 o1 = u1 at HSB HAD ⊢
  generalize subI y2 o2 = u2 at HSB HAD ⊢
  generalize subI y3 o3 = u3 at HSB HAD ⊢
  generalize addI x u1 = v1 at HAD ⊢
  generalize addI y u2 = v2 at HAD ⊢
  generalize addI z u3 = v3 at HAD ⊢
  have HCB := Lib.hid CB
  have HCU := Lib.hid CU
  have HC1 := Lib.hid C1
  clear CB CU C1
  obtain ⟨N, hN⟩ : ∃ N, N = w.heap.size := ⟨_, rfl⟩
  obtain ⟨W, hW⟩ : ∃ W, W = ((w.alloc (.cells #[.int .i64 x, .int .i64 y, .int .i64 z, .int .i64 sx, .int .i64 sy, .int .i64 sz, .int .i64 wd, .int .i64 ht, .bool st] 35)).alloc (.cells #[.int .i64 d1, .int .i64 d2, .int .i64 d3] 26)).alloc (.cells #[.int .i64 0, .int .i64 0, .int .i64 0, .int .i64 0, .int .i64 0, .int .i64 0, .int .i64 0, .int .i64 0, .bool false] 35) := ⟨_, rfl⟩
  have H : Below w.heap.size w W := by rw [hW]; go_grown
  have B : Blk W N 35 _ := Blk.eqw hW.symm (by rw [hN]; exact ((Blk.new' rfl).alloc _).alloc _)
  have R : Blk W (N + 1 + 1) 35 _ := Blk.eqw hW.symm (by rw [hN]; exact Blk.new' (by simp))
  have D : Blk W (N + 1) 26 _ := Blk.eqw hW.symm (by rw [hN]; exact (Blk.new' (by simp)).alloc _)
  go_enter Try.func34, Try.ntmps34
  go_upto_region 1 with (fail)
  rw [← hW, ← hN]
  have HN := Lib.hid hN
  clear hW hN
  obtain ⟨⟨b0, b1, b2, b3, b4, b5, b6, b7, b8⟩, -⟩ := B.c9
  go_upto_region 2 with (go_at_call 23; refine (HCB.out _).mono ?_; rintro e_ w1 ⟨rfl, k1⟩)
  generalize hV : World.alloc w1 _ = W1
  have X : Blk W1 w1.heap.size 48 #[.int .i64 o1, .int .i64 o2, .int .i64 o3, .int .i64 o4, .int .i64 o5, .int .i64 o6] := Blk.eqw hV (Blk.new' rfl)
  have hk : Below W.heap.size W W1 := by rw [← hV]; exact after k1 ((Below.refl _ _).alloc (Nat.le_refl _) _)
  have hgN := Nat.lt_of_lt_of_le R.lt k1.size
  replace B := B.on hk
  replace R := R.on hk
  replace D := D.on hk
  replace H := Lib.hid (after H hk)
  clear hV k1 hk b0 b1 b2 b3 b4 b5 b6 b7 b8 HCB
  generalize w1.heap.size = g at X hgN ⊢
  have b0 := fun d os => (B.re d os).cell 0
  have b1 := fun d os => (B.re d os).cell 1
  have b2 := fun d os => (B.re d os).cell 2
  have b3 := fun d os => (B.re d os).cell 3
  have b4 := fun d os => (B.re d os).cell 4
  have b5 := fun d os => (B.re d os).cell 5
  have b6 := fun d os => (B.re d os).cell 6
  have b7 := fun d os => (B.re d os).cell 7
  have b8 := fun d os => (B.re d os).cell 8
  simp only [List.getElem?_toArray, List.getElem?_cons_zero, List.getElem?_cons_succ] at b0 b1 b2 b3 b4 b5 b6 b7 b8
  obtain ⟨x0, x1, x2, x3, x4, x5⟩ := X.re6
  obtain ⟨dd0, dd1, dd2⟩ := D.re3
  have HBK := Lib.hid (And.intro B (And.intro R X))
  have HGN := Lib.hid hgN
  clear B R X D hgN
  have HU_ := Lib.hid (show Bears W1.heap.size [⟨9, 11, 48, #[.int .i64 0, .int .i64 0, .int .i64 0, .int .i64 0, .int .i64 0, .int .i64 0], #[.int .i64 y1, .int .i64 y2, .int .i64 y3, .int .i64 y4, .int .i64 y5, .int .i64 y6]⟩, ⟨10, 12, 89, #[.bool false, .bool false, .bool false], #[.bool t1, .bool t2, .bool t3]⟩] (relsU [(5, fun v _ => v = .tuple #[.agg #[.int .i64 y1, .int .i64 y2, .int .i64 y3, .int .i64 y4, .int .i64 y5, .int .i64 y6], .agg #[.bool t1, .bool t2, .bool t3]]), (6, fun v _ => v = .tuple #[.agg #[.int .i64 y1, .int .i64 y2, .int .i64 y3, .int .i64 y4, .int .i64 y5, .int .i64 y6], .agg #[.bool t1, .bool t2, .bool t3]]), (7, fun v _ => v = .agg #[.int .i64 y1, .int .i64 y2, .int .i64 y3, .int .i64 y4, .int .i64 y5, .int .i64 y6]), (8, fun v _ => v = .agg #[.bool t1, .bool t2, .bool t3])]) from (bears_val (bears_val (bears_val (bears_val bears_nil)))))
  have HO_ := Lib.hid (show OkB [⟨9, 11, 48, #[.int .i64 0, .int .i64 0, .int .i64 0, .int .i64 0, .int .i64 0, .int .i64 0], #[.int .i64 y1, .int .i64 y2, .int .i64 y3, .int .i64 y4, .int .i64 y5, .int .i64 y6]⟩, ⟨10, 12, 89, #[.bool false, .bool false, .bool false], #[.bool t1, .bool t2, .bool t3]⟩] from ⟨by simp, by simp⟩)
  refine wp_many [0, 0, 0, 0, 0, 2, 2, 2, 2, 2, 2, 2, 2] _ _ (by kernel_rfl) (by kernel_rfl) HU_.out ?_
  repeat (first | (refine wpQs_s ?_) | (refine wpQs_q (fun K hK => ?_); go_simp; first | (refine hK _ ?_; clear hK K) | (apply Exists.intro; refine ⟨fun _ => ?_, hK _ ?_⟩; (exact HCU.out _); clear hK K)) | (refine wpQs_f (fun K hK => ?_); go_simp; refine hK _ ?_; clear hK K))
  refine wpQs_nil ?_
  refine wpLsI_skip ?_
  refine wpLsI_skip ?_
  refine wpLsI_skip ?_
  refine wpLsI_skip ?_
  refine wpLsI_skip ?_
  refine wpLsI_one rfl ?s5_ (fun v5_ => ?_)
  case s5_ =>
    intro S_ V_ w_ hw_ hV_ ha_ hn_ hI_
    have HW_ := Lib.hid hw_
    have HI_ := Lib.hid hI_
    have Hn_ := Lib.hid hn_
    clear hV_ ha_ hw_ hI_ hn_
    go_simp
    refine (HC1.out _ (after H.out HW_.out.none)).mono ?_
    rintro e_ w9 ⟨rfl, h9⟩
    exact ⟨_, rfl, HW_.out.on h9, HI_.out.l (by simp) HU_.out h9 rfl⟩
  refine wpLsI_one rfl ?s6_ (fun v6_ => ?_)
  case s6_ =>
    intro S_ V_ w_ hw_ hV_ ha_ hn_ hI_
    have F_ := Lib.hid (show v5_ = .tuple #[.agg #[.int .i64 y1, .int .i64 y2, .int .i64 y3, .int .i64 y4, .int .i64 y5, .int .i64 y6], .agg #[.bool t1, .bool t2, .bool t3]] from (hI_.of (ha_ 5 (by decide) rfl (by kernel_rfl)) (hV_ 5 (by decide) rfl)))
    have HW_ := Lib.hid hw_
    have HI_ := Lib.hid hI_
    have Hn_ := Lib.hid hn_
    clear hV_ ha_ hw_ hI_ hn_
    go_simp
    have h8_ := F_.out
    subst h8_
    clear F_
    go_simp
    exact ⟨HW_.out, HI_.out.l (by simp) HU_.out (Below.refl _ _) rfl⟩
  refine wpLsI_one rfl ?s7_ (fun v7_ => ?_)
  case s7_ =>
    intro S_ V_ w_ hw_ hV_ ha_ hn_ hI_
    have F_ := Lib.hid (show v6_ = .tuple #[.agg #[.int .i64 y1, .int .i64 y2, .int .i64 y3, .int .i64 y4, .int .i64 y5, .int .i64 y6], .agg #[.bool t1, .bool t2, .bool t3]] from (hI_.of (ha_ 6 (by decide) rfl (by kernel_rfl)) (hV_ 6 (by decide) rfl)))
    have HW_ := Lib.hid hw_
    have HI_ := Lib.hid hI_
    have Hn_ := Lib.hid hn_
    clear hV_ ha_ hw_ hI_ hn_
    go_simp
    have h8_ := F_.out
    subst h8_
    clear F_
    go_simp
    exact ⟨HW_.out, HI_.out.l (by simp) HU_.out (Below.refl _ _) rfl⟩
  refine wpLsI_one rfl ?s8_ (fun v8_ => ?_)
  case s8_ =>
    intro S_ V_ w_ hw_ hV_ ha_ hn_ hI_
    have F_ := Lib.hid (show v6_ = .tuple #[.agg #[.int .i64 y1, .int .i64 y2, .int .i64 y3, .int .i64 y4, .int .i64 y5, .int .i64 y6], .agg #[.bool t1, .bool t2, .bool t3]] from (hI_.of (ha_ 6 (by decide) rfl (by kernel_rfl)) (hV_ 6 (by decide) rfl)))
    have HW_ := Lib.hid hw_
    have HI_ := Lib.hid hI_
    have Hn_ := Lib.hid hn_
    clear hV_ ha_ hw_ hI_ hn_
    go_simp
    have h8_ := F_.out
    subst h8_
    clear F_
    go_simp
    exact ⟨HW_.out, HI_.out.l (by simp) HU_.out (Below.refl _ _) rfl⟩
  refine wpLsI_one rfl ?s9_ (fun v9_ => ?_)
  case s9_ =>
    intro S_ V_ w_ hw_ hV_ ha_ hn_ hI_
    have HW_ := Lib.hid hw_
    have HI_ := Lib.hid hI_
    have Hn_ := Lib.hid hn_
    clear hV_ ha_ hw_ hI_ hn_
    go_simp
    exact ⟨HW_.out.on ((Below.refl _ _).alloc (Nat.le_refl _) _), HI_.out.new (List.mem_cons_self) HO_.out HU_.out (fun _ _ => trivial) HW_.out.none.size Hn_.out⟩
  refine wpLsI_one rfl ?s10_ (fun v10_ => ?_)
  case s10_ =>
    intro S_ V_ w_ hw_ hV_ ha_ hn_ hI_
    have HW_ := Lib.hid hw_
    have HI_ := Lib.hid hI_
    have Hn_ := Lib.hid hn_
    clear hV_ ha_ hw_ hI_ hn_
    go_simp
    exact ⟨HW_.out.on ((Below.refl _ _).alloc (Nat.le_refl _) _), HI_.out.new (List.mem_cons_of_mem _ (List.mem_cons_self)) HO_.out HU_.out (fun _ _ => trivial) HW_.out.none.size Hn_.out⟩
  refine wpLsI_one rfl ?s11_ (fun v11_ => ?_)
  case s11_ =>
    intro S_ V_ w_ hw_ hV_ ha_ hn_ hI_
    have F_ := Lib.hid (show v7_ = .agg #[.int .i64 y1, .int .i64 y2, .int .i64 y3, .int .i64 y4, .int .i64 y5, .int .i64 y6] from (hI_.of (ha_ 7 (by decide) rfl (by kernel_rfl)) (hV_ 7 (by decide) rfl)))
    have HS_ := Lib.hid (show S_ 9 from ha_ 9 (by decide) rfl (by kernel_rfl))
    have HVV_ := Lib.hid (show V_ 9 = v9_ from hV_ 9 (by decide) rfl)
    have hx_ := Lib.hid (show ∃ b, V_ 9 = .pointer (some ⟨b, 0, none⟩) ∧ W1.heap.size ≤ b ∧ Blk w_ b 48 #[.int .i64 0, .int .i64 0, .int .i64 0, .int .i64 0, .int .i64 0, .int .i64 0] from hI_.slot (List.mem_cons_self) HS_.out hn_)
    have HW_ := Lib.hid hw_
    have HI_ := Lib.hid hI_
    have Hn_ := Lib.hid hn_
    clear hV_ ha_ hw_ hI_ hn_
    go_simp
    refine hx_.out.elim fun b_ hy_ => ?_
    have E_ := hy_.1
    have HN_ := Lib.hid hy_.2.1
    have hb_ := hy_.2.2
    have h8_ := F_.out
    rw [HVV_.out] at E_
    subst h8_ E_
    clear hx_ hy_ F_
    obtain ⟨⟨k0_, k1_, k2_, k3_, k4_, k5_⟩, f0_, f1_, f2_, f3_, f4_, f5_⟩ := hb_.c6
    have Hb_ := Lib.hid hb_
    clear hb_
    go_simp
    exact ⟨HW_.out.new_set HN_.out kept6, HI_.out.set (List.mem_cons_self) HO_.out HU_.out (fun _ _ => trivial) Hn_.out HS_.out HVV_.out kept6 (Hb_.out.st6 _ _ _ _ _ _)⟩
  refine wpLsI_one rfl ?s12_ (fun v12_ => ?_)
  case s12_ =>
    intro S_ V_ w_ hw_ hV_ ha_ hn_ hI_
    have F_ := Lib.hid (show v8_ = .agg #[.bool t1, .bool t2, .bool t3] from (hI_.of (ha_ 8 (by decide) rfl (by kernel_rfl)) (hV_ 8 (by decide) rfl)))
    have HS_ := Lib.hid (show S_ 10 from ha_ 10 (by decide) rfl (by kernel_rfl))
    have HVV_ := Lib.hid (show V_ 10 = v10_ from hV_ 10 (by decide) rfl)
    have hx_ := Lib.hid (show ∃ b, V_ 10 = .pointer (some ⟨b, 0, none⟩) ∧ W1.heap.size ≤ b ∧ Blk w_ b 89 #[.bool false, .bool false, .bool false] from hI_.slot (List.mem_cons_of_mem _ (List.mem_cons_self)) HS_.out hn_)
    have HW_ := Lib.hid hw_
    have HI_ := Lib.hid hI_
    have Hn_ := Lib.hid hn_
    clear hV_ ha_ hw_ hI_ hn_
    go_simp
    refine hx_.out.elim fun b_ hy_ => ?_
    have E_ := hy_.1
    have HN_ := Lib.hid hy_.2.1
    have hb_ := hy_.2.2
    have h8_ := F_.out
    rw [HVV_.out] at E_
    subst h8_ E_
    clear hx_ hy_ F_
    obtain ⟨k0_, k1_, k2_, f0_, f1_, f2_⟩ := hb_.c3
    have Hb_ := Lib.hid hb_
    clear hb_
    go_simp
    exact ⟨HW_.out.new_set HN_.out kept3, HI_.out.set (List.mem_cons_of_mem _ (List.mem_cons_self)) HO_.out HU_.out (fun _ _ => trivial) Hn_.out HS_.out HVV_.out kept3 (Hb_.out.st3 _ _ _)⟩
  refine wpLsI_nil fun V_ W2 hw_ hV_ hI_ => ?_
  obtain ⟨g0_W2, E9_, N0_W2, X0_W2⟩ : ∃ b, v9_ = .pointer (some ⟨b, 0, none⟩) ∧ W1.heap.size ≤ b ∧ Blk W2 b 48 #[.int .i64 y1, .int .i64 y2, .int .i64 y3, .int .i64 y4, .int .i64 y5, .int .i64 y6] := by rw [← show V_ 9 = v9_ from hV_ 9 (by decide) rfl]; exact hI_.done (List.mem_cons_self) ⟨show 9 < 13 by decide, rfl⟩ ⟨show 11 < 13 by decide, rfl⟩
  obtain ⟨g1_W2, E10_, N1_W2, X1_W2⟩ : ∃ b, v10_ = .pointer (some ⟨b, 0, none⟩) ∧ W1.heap.size ≤ b ∧ Blk W2 b 89 #[.bool t1, .bool t2, .bool t3] := by rw [← show V_ 10 = v10_ from hV_ 10 (by decide) rfl]; exact hI_.done (List.mem_cons_of_mem _ (List.mem_cons_self)) ⟨show 10 < 13 by decide, rfl⟩ ⟨show 12 < 13 by decide, rfl⟩
  subst E9_ E10_
  have h_W2 := hw_.none
  clear hV_ hI_ hw_ HU_ HO_
  simp only [tails]
  clear b0 b1 b2 b3 b4 b5 b6 b7 b8 x0 x1 x2 x3 x4 x5 dd0 dd1 dd2 HCU HC1
  obtain ⟨B, R, X⟩ := HBK.out
  have n1 : g0_W2 ≠ N := by have h7 := HGN.out; have h8 := X.lt; omega
  have n2 : g1_W2 ≠ N := by have h7 := HGN.out; have h8 := X.lt; omega
  have n3 : g ≠ N := by have h7 := HGN.out; omega
  have n4 : N + 1 + 1 ≠ N := by omega
  have HX := Lib.hid (And.intro (B.on h_W2) (And.intro (R.on h_W2) (And.intro (X.on h_W2) (And.intro X0_W2 X1_W2))))
  replace H := Lib.hid (after H.out h_W2)
  clear HBK HGN B R X X0_W2 X1_W2 N0_W2 N1_W2 h_W2
  go_simp
  go_upto_region 3 with (fail)
  obtain ⟨B, R, X, Y, T⟩ := HX.out
  have b0 := fun d os => (B.re d os).cell 0
  have b1 := fun d os => (B.re d os).cell 1
  have b2 := fun d os => (B.re d os).cell 2
  have x0 := fun d os => (X.re d os).cell 0
  have x1 := fun d os => (X.re d os).cell 1
  have x2 := fun d os => (X.re d os).cell 2
  have y0 := fun d os => (Y.re d os).cell 0
  have y1 := fun d os => (Y.re d os).cell 1
  have y2 := fun d os => (Y.re d os).cell 2
  simp only [List.getElem?_toArray, List.getElem?_cons_zero, List.getElem?_cons_succ] at b0 b1 b2 x0 x1 x2 y0 y1 y2
  refine wp_region_last_below 9 (by kernel_rfl) rfl (by kernel_rfl) ?_
  simp only [List.take_succ_cons, List.take_zero, List.drop_succ_cons, List.drop_zero]
  repeat (go_big_quiet_step (first | (with_reducible exact Calls.regrown_of (HSB.out _)) | (with_reducible exact Calls.regrown_of (HAD.out _))))
  refine wpQuiet_nil ?_
  intro w' hw'
  obtain ⟨rg, rfl⟩ := hw'
  clear b0 b1 b2 x0 x1 x2 y0 y1 y2 X HSB HAD HX
  obtain ⟨W3, hW3⟩ : ∃ W3, W3 = Go.Sort.grow (redrawn W2 rg.d) rg.os := ⟨_, rfl⟩
  have hb3 : Below W2.heap.size W2 W3 := by rw [hW3]; exact below_regrown _ _ _
  rw [← hW3]
  replace B := B.on hb3
  replace R := R.on hb3
  replace Y := Y.on hb3
  replace T := T.on hb3
  replace H := after H.out hb3
  clear hW3 hb3
  obtain ⟨⟨b0, b1, b2, b3, b4, b5, b6, b7, b8⟩, f0, f1, f2, f3, f4, f5, f6, f7, f8⟩ := B.c9
  go_upto_region 4 with (fail)
  generalize hV_ : (World.setCell (World.setCell (World.setCell W3 _ _) _ _) _ _) = W4
  replace B : Blk W4 (N) 35 #[.int .i64 v1, .int .i64 v2, .int .i64 v3, .int .i64 sx, .int .i64 sy, .int .i64 sz, .int .i64 wd, .int .i64 ht, .bool st] := Blk.eqw hV_ (((B.set_ 0 _).set_ 1 _).set_ 2 _)
  replace R := Blk.eqw hV_ (((R.far (p := ⟨N, 0, none⟩) (by dsimp only; omega) _).far (p := ⟨N, 1, none⟩) (by dsimp only; omega) _).far (p := ⟨N, 2, none⟩) (by dsimp only; omega) _)
  replace Y := Blk.eqw hV_ (((Y.far (p := ⟨N, 0, none⟩) (by dsimp only; omega) _).far (p := ⟨N, 1, none⟩) (by dsimp only; omega) _).far (p := ⟨N, 2, none⟩) (by dsimp only; omega) _)
  replace T := Blk.eqw hV_ (((T.far (p := ⟨N, 0, none⟩) (by dsimp only; omega) _).far (p := ⟨N, 1, none⟩) (by dsimp only; omega) _).far (p := ⟨N, 2, none⟩) (by dsimp only; omega) _)
  replace H : Below w.heap.size w W4 := by rw [← hV_]; exact (((H.setCell (p := ⟨N, 0, none⟩) (by have := HN.out; dsimp only; omega) _).setCell (p := ⟨N, 1, none⟩) (by have := HN.out; dsimp only; omega) _).setCell (p := ⟨N, 2, none⟩) (by have := HN.out; dsimp only; omega) _)
  clear hV_
  clear b0 b1 b2 b3 b4 b5 b6 b7 b8 f0 f1 f2 f3 f4 f5 f6 f7 f8 Y T
  obtain ⟨⟨b0, b1, b2, b3, b4, b5, b6, b7, b8⟩, -⟩ := B.c9
  obtain ⟨⟨r0, r1, r2, r3, r4, r5, r6, r7, r8⟩, f0, f1, f2, f3, f4, f5, f6, f7, f8⟩ := R.c9
  have hNw : w.heap.size ≤ N + 1 + 1 := by have := HN.out; omega
  go_wp2_with fail
  have R2_ := R.st9 (.int .i64 (v1)) (.int .i64 (v2)) (.int .i64 (v3)) (.int .i64 (sx)) (.int .i64 (sy)) (.int .i64 (sz)) (.int .i64 (wd)) (.int .i64 (ht)) (.bool (st))
  obtain ⟨⟨d0, d1, d2, d3, d4, d5, d6, d7, d8⟩, -⟩ := R2_.c9
  exact bodyPost_ret (v := .agg #[.int .i64 (v1), .int .i64 (v2), .int .i64 (v3), .int .i64 (sx), .int .i64 (sy), .int .i64 (sz), .int .i64 (wd), .int .i64 (ht), .bool (st)]) (by simp [results, Try.results34, go_sem, d0, d1, d2, d3, d4, d5, d6, d7, d8]) rfl ⟨rfl, sx9_below H hNw _ _ _ _ _ _ _ _ _⟩
end Go.Proofs.Ytnokibdecnddlaa

/- Bodies that pushed one another: the program's. -/
namespace Go.Proofs.Ytnokibdecnddlaa
open Go.RowKit Go.Shelf
attribute [local go_sem] Oper.semAt_some

theorem wcell {W W' : World} {b o : Nat} {v : Value} (h : W.cell? ⟨b, o, none⟩ = some v) (hb : Below W.heap.size W W') : W'.cell? ⟨b, o, none⟩ = some v := (hb.cell (p := ⟨b, o, none⟩) (cell_lt h)).trans h
section
variable {w0 w : World} {n g b : Nat} {t : TypeId} {cur : Array Value}
theorem nine_below (H : Below n w0 w) (h : n ≤ g) (o1 o2 o3 o4 o5 o6 o7 o8 o9 : Nat) (a b c d e f k l m : Value) : Below n w0 (((((((((w.setCell ⟨g, o1, none⟩ a).setCell ⟨g, o2, none⟩ b).setCell ⟨g, o3, none⟩ c).setCell ⟨g, o4, none⟩ d).setCell ⟨g, o5, none⟩ e).setCell ⟨g, o6, none⟩ f).setCell ⟨g, o7, none⟩ k).setCell ⟨g, o8, none⟩ l).setCell ⟨g, o9, none⟩ m) :=
  ((((((((H.setCell (p := ⟨g, o1, none⟩) h _).setCell (p := ⟨g, o2, none⟩) h _).setCell (p := ⟨g, o3, none⟩) h _).setCell (p := ⟨g, o4, none⟩) h _).setCell (p := ⟨g, o5, none⟩) h _).setCell (p := ⟨g, o6, none⟩) h _).setCell (p := ⟨g, o7, none⟩) h _).setCell (p := ⟨g, o8, none⟩) h _).setCell (p := ⟨g, o9, none⟩) h _
theorem nine_far (X : Blk w b t cur) (h : b ≠ g) (o1 o2 o3 o4 o5 o6 o7 o8 o9 : Nat) (a' b' c d e f k l m : Value) : Blk (((((((((w.setCell ⟨g, o1, none⟩ a').setCell ⟨g, o2, none⟩ b').setCell ⟨g, o3, none⟩ c).setCell ⟨g, o4, none⟩ d).setCell ⟨g, o5, none⟩ e).setCell ⟨g, o6, none⟩ f).setCell ⟨g, o7, none⟩ k).setCell ⟨g, o8, none⟩ l).setCell ⟨g, o9, none⟩ m) b t cur := by
  have X1 := X.far (p := ⟨g, o1, none⟩) h a'
  have X2 := X1.far (p := ⟨g, o2, none⟩) h b'
  have X3 := X2.far (p := ⟨g, o3, none⟩) h c
  have X4 := X3.far (p := ⟨g, o4, none⟩) h d
  have X5 := X4.far (p := ⟨g, o5, none⟩) h e
  have X6 := X5.far (p := ⟨g, o6, none⟩) h f
  have X7 := X6.far (p := ⟨g, o7, none⟩) h k
  have X8 := X7.far (p := ⟨g, o8, none⟩) h l
  exact X8.far (p := ⟨g, o9, none⟩) h m
end
set_option maxRecDepth 100000 in
set_option maxHeartbeats 16000000 in
theorem bcrowd_c (V : FuncId) (lv : Array Value) (val : Cl → Int) (q : Option Addr) (n c : Nat) (l : List BD) (hl : l.length = n) (hc : n ≤ c) (hn : n ≤ 5) (hA : AllOk val 500000 l l) (w : World) (h : Rd w q 9 enBd l)
    (eV : ∀ args w, (callFunc V args).run Try.prog w = .ok (.enter V args) w) (hV : Tells Try.prog V lv val w) :
    Calls Try.prog 32 #[.func (.func V) #[] lv, .slice q n c] w fun r w' => ∃ v, r = .returned v ∧ BRow w' w.heap.size 35 v (outB val n l n) ∧ Below w.heap.size w w' := by
  have HC := Lib.hid (clone_bd q n c l hl hc (by omega) w h)
  have HO := Lib.hid (fun i (hi : i ≤ n) => (show AllOk val (500000 + 40960 * (i : Int)) l (outB val n l i) from by have := outB_ok hA (by decide) (by decide) (by omega) (i := i) (by omega); rwa [hl] at this))
  have HN := Lib.hid (fun b (d : V3) (hB : BOk 10000000 b) W (hw : Below w.heap.size w W) => bnudge_c V lv val b d 10000000 (by decide) (by decide) hB W eV (hV.on hw))
  have HL := Lib.hid hl
  have HN5 := Lib.hid hn
  clear hl hc hn hA h eV hV
  go_enter Try.func32, Try.ntmps32
  go_upto_region 2 with (go_at_call 66; refine HC.out.mono ?_; rintro e_ w1 ⟨v, rfl, O1, k1⟩)
  obtain ⟨q1, c1, rfl, hc1, hm1, hr1⟩ := BRow.of O1
  rw [HL.out] at hc1 hr1 ⊢
  have HR1 := Lib.hid hr1
  have HM1 := Lib.hid hm1
  have K1 := Lib.hid k1
  clear O1 hr1 hm1 k1 HC
  go_upto_region 3 with (fail)
  go_loopw [14] (fun iv wr => ∃ i : Nat, i ≤ n ∧ iv = .int .i64 i ∧ Hid (0 < n → ∃ g, q1 = some ⟨g, 0, none⟩ ∧ w.heap.size ≤ g ∧ Rwb wr g 35 (outB val n l i)) ∧ Hid (Below w.heap.size w wr)) (fun iv _ => n - (intOf iv).toNat)
  case atStart => exact ⟨0, Nat.zero_le _, rfl, HR1, K1⟩
  case round =>
    clear HR1 K1
    obtain ⟨i, hi, rfl, HR, KK⟩ := hrel
    by_cases hlt : i < n
    · have h1 : (i : Int) < n := by omega
      have hi0 : (0 : Int) ≤ (i : Int) := by omega
      have q1_ : (i : Int) + 1 ≤ 9223372036854775807 := by have := HN5.out; omega
      have q2_ : -9223372036854775808 ≤ (i : Int) + 1 := by omega
      obtain ⟨g, rfl, hg, R⟩ := HR.out (by omega)
      have HGG := Lib.hid hg
      have HO' := Lib.hid (HO.out i hi)
      clear HR hg
      go_upto_region 6 with (fail)
      go_loopw [7] (fun kv wr => ∃ m : Nat, i + 1 + m ≤ n ∧ kv = .int .i64 ((i + 1 + m : Nat) : Int) ∧ Rwb wr g 35 (inB val i (outB val n l i) m) ∧ Hid (Below w.heap.size w wr)) (fun kv _ => n - (intOf kv).toNat)
      case atStart => exact ⟨0, by omega, by go_num, R, KK⟩
      case round =>
        clear R KK
        obtain ⟨m, hm, rfl, R, KK⟩ := hrel
        by_cases hkn : i + 1 + m < n
        · have hAL : AllOk val 10000000 l (inB val i (outB val n l i) m) := (inB_ok HO'.out (by omega) (by have := HN5.out; omega) (by have := HN5.out; omega) (by have := HL.out; omega)).mono (by have := HN5.out; omega)
          obtain ⟨a, ea, da, oa⟩ := hAL.at (i := i) (by have := HL.out; omega)
          obtain ⟨b, eb, db, ob⟩ := hAL.at (i := i + 1 + m) (by have := HL.out; omega)
          have hlen : (inB val i (outB val n l i) m).length = n := by rw [hAL.len, HL.out]
          have hpair : inB val i (outB val n l i) (m + 1) = ((inB val i (outB val n l i) m).set i (nudB val a (pushV a b).1)).set (i + 1 + m) (nudB val b (pushV a b).2) := by
            show pairB val _ i (i + 1 + m) = _
            unfold pairB
            rw [da, db]
          have hne : i ≠ i + 1 + m := by omega
          generalize hkk : i + 1 + m = k at *
          have hstep : i + 1 + (m + 1) = k + 1 := by omega
          have PU := fun W => bpush_c a b oa ob W
          have N1 := HN.out a (pushV a b).1 oa
          have N2 := HN.out b (pushV a b).2 ob
          have HP := Lib.hid hpair
          generalize hL3 : inB val i (outB val n l i) (m + 1) = L3 at HP
          have HL3 := Lib.hid hL3
          clear hL3
          generalize inB val i (outB val n l i) m = L at *
          generalize nudB val a (pushV a b).1 = a' at N1 HP
          generalize nudB val b (pushV a b).2 = b' at N2 HP
          generalize pushV a b = pv at *
          obtain ⟨x, y, z, sx, sy, sz, wd, ht, st⟩ := a
          obtain ⟨x1, y1, z1, sx1, sy1, sz1, wd1, ht1, st1⟩ := b
          obtain ⟨x2, y2, z2, sx2, sy2, sz2, wd2, ht2, st2⟩ := a'
          obtain ⟨x3, y3, z3, sx3, sy3, sz3, wd3, ht3, st3⟩ := b'
          obtain ⟨⟨d1, d2, d3⟩, e1, e2, e3⟩ := pv
          simp only [bd9, vg3] at PU N1 N2
          have HPU := Lib.hid PU
          have HN1 := Lib.hid N1
          have HN2 := Lib.hid N2
          have HE := Lib.hid (And.intro ea (And.intro eb (And.intro hlen (And.intro hne (And.intro hkk hstep)))))
          have hk1 : (k : Int) < n := by omega
          have hk0 : (0 : Int) ≤ (k : Int) := by omega
          have hkc : k < c1 := by omega
          have hic : i < c1 := by omega
          have q3_ : (k : Int) + 1 ≤ 9223372036854775807 := by have := HN5.out; omega
          have q4_ : -9223372036854775808 ≤ (k : Int) + 1 := by omega
          clear PU N1 N2 ea eb da db oa ob hAL hlen hpair hne hkk hstep
          obtain ⟨a0, a1, a2, a3, a4, a5, a6, a7, a8⟩ := R.cells HE.out.1
          obtain ⟨b0, b1, b2, b3, b4, b5, b6, b7, b8⟩ := R.cells HE.out.2.1
          replace a0 := cell_regrown a0
          replace a1 := cell_regrown a1
          replace a2 := cell_regrown a2
          replace a3 := cell_regrown a3
          replace a4 := cell_regrown a4
          replace a5 := cell_regrown a5
          replace a6 := cell_regrown a6
          replace a7 := cell_regrown a7
          replace a8 := cell_regrown a8
          replace b0 := cell_regrown b0
          replace b1 := cell_regrown b1
          replace b2 := cell_regrown b2
          replace b3 := cell_regrown b3
          replace b4 := cell_regrown b4
          replace b5 := cell_regrown b5
          replace b6 := cell_regrown b6
          replace b7 := cell_regrown b7
          replace b8 := cell_regrown b8
          have HR := Lib.hid R
          clear R
          go_upto_region 8 with (fail)
          have HU_ := Lib.hid (show Bears wr.heap.size [⟨12, 14, 26, #[.int .i64 0, .int .i64 0, .int .i64 0], #[.int .i64 d1, .int .i64 d2, .int .i64 d3]⟩, ⟨13, 15, 26, #[.int .i64 0, .int .i64 0, .int .i64 0], #[.int .i64 e1, .int .i64 e2, .int .i64 e3]⟩] (relsU []) from bears_nil)
          have HO_ := Lib.hid (show OkB [⟨12, 14, 26, #[.int .i64 0, .int .i64 0, .int .i64 0], #[.int .i64 d1, .int .i64 d2, .int .i64 d3]⟩, ⟨13, 15, 26, #[.int .i64 0, .int .i64 0, .int .i64 0], #[.int .i64 e1, .int .i64 e2, .int .i64 e3]⟩] from ⟨by simp, by simp⟩)
          refine wp_many [0, 0, 0, 0, 0, 0, 0, 0, 0, 0, 0, 0, 2, 2, 2, 2] _ _ (by kernel_rfl) (by kernel_rfl) HU_.out ?_
          repeat (first | (refine wpQs_s ?_) | (refine wpQs_q (fun K hK => ?_); go_simp; first | (refine hK _ ?_; clear hK K) | (apply Exists.intro; refine ⟨fun _ => ?_, hK _ ?_⟩; (exact HPU.out _); clear hK K)) | (refine wpQs_f (fun K hK => ?_); go_simp; refine hK _ ?_; clear hK K))
          refine wpQs_nil ?_
          refine wpLsI_skip ?_
          refine wpLsI_skip ?_
          refine wpLsI_skip ?_
          refine wpLsI_skip ?_
          refine wpLsI_skip ?_
          refine wpLsI_skip ?_
          refine wpLsI_skip ?_
          refine wpLsI_skip ?_
          refine wpLsI_skip ?_
          refine wpLsI_skip ?_
          refine wpLsI_skip ?_
          refine wpLsI_skip ?_
          refine wpLsI_one rfl ?s12_ (fun v12_ => ?_)
          case s12_ =>
            intro S_ V_ w_ hw_ hV_ ha_ hn_ hI_
            have HW_ := Lib.hid hw_
            have HI_ := Lib.hid hI_
            have Hn_ := Lib.hid hn_
            clear hV_ ha_ hw_ hI_ hn_
            go_simp
            exact ⟨HW_.out.on ((Below.refl _ _).alloc (Nat.le_refl _) _), HI_.out.new (List.mem_cons_self) HO_.out HU_.out (fun _ _ => trivial) HW_.out.none.size Hn_.out⟩
          refine wpLsI_one rfl ?s13_ (fun v13_ => ?_)
          case s13_ =>
            intro S_ V_ w_ hw_ hV_ ha_ hn_ hI_
            have HW_ := Lib.hid hw_
            have HI_ := Lib.hid hI_
            have Hn_ := Lib.hid hn_
            clear hV_ ha_ hw_ hI_ hn_
            go_simp
            exact ⟨HW_.out.on ((Below.refl _ _).alloc (Nat.le_refl _) _), HI_.out.new (List.mem_cons_of_mem _ (List.mem_cons_self)) HO_.out HU_.out (fun _ _ => trivial) HW_.out.none.size Hn_.out⟩
          refine wpLsI_one rfl ?s14_ (fun v14_ => ?_)
          case s14_ =>
            intro S_ V_ w_ hw_ hV_ ha_ hn_ hI_
            have HS_ := Lib.hid (show S_ 12 from ha_ 12 (by decide) rfl (by kernel_rfl))
            have HVV_ := Lib.hid (show V_ 12 = v12_ from hV_ 12 (by decide) rfl)
            have hx_ := Lib.hid (show ∃ b, V_ 12 = .pointer (some ⟨b, 0, none⟩) ∧ wr.heap.size ≤ b ∧ Blk w_ b 26 #[.int .i64 0, .int .i64 0, .int .i64 0] from hI_.slot (List.mem_cons_self) HS_.out hn_)
            have HW_ := Lib.hid hw_
            have HI_ := Lib.hid hI_
            have Hn_ := Lib.hid hn_
            clear hV_ ha_ hw_ hI_ hn_
            go_simp
            refine hx_.out.elim fun b_ hy_ => ?_
            have E_ := hy_.1
            have HN_ := Lib.hid hy_.2.1
            have hb_ := hy_.2.2
            rw [HVV_.out] at E_
            subst E_
            clear hx_ hy_
            obtain ⟨k0_, k1_, k2_, f0_, f1_, f2_⟩ := hb_.c3
            have Hb_ := Lib.hid hb_
            clear hb_
            go_simp
            exact ⟨HW_.out.new_set HN_.out kept3, HI_.out.set (List.mem_cons_self) HO_.out HU_.out (fun _ _ => trivial) Hn_.out HS_.out HVV_.out kept3 (Hb_.out.st3 _ _ _)⟩
          refine wpLsI_one rfl ?s15_ (fun v15_ => ?_)
          case s15_ =>
            intro S_ V_ w_ hw_ hV_ ha_ hn_ hI_
            have HS_ := Lib.hid (show S_ 13 from ha_ 13 (by decide) rfl (by kernel_rfl))
            have HVV_ := Lib.hid (show V_ 13 = v13_ from hV_ 13 (by decide) rfl)
            have hx_ := Lib.hid (show ∃ b, V_ 13 = .pointer (some ⟨b, 0, none⟩) ∧ wr.heap.size ≤ b ∧ Blk w_ b 26 #[.int .i64 0, .int .i64 0, .int .i64 0] from hI_.slot (List.mem_cons_of_mem _ (List.mem_cons_self)) HS_.out hn_)
            have HW_ := Lib.hid hw_
            have HI_ := Lib.hid hI_
            have Hn_ := Lib.hid hn_
            clear hV_ ha_ hw_ hI_ hn_
            go_simp
            refine hx_.out.elim fun b_ hy_ => ?_
            have E_ := hy_.1
            have HN_ := Lib.hid hy_.2.1
            have hb_ := hy_.2.2
            rw [HVV_.out] at E_
            subst E_
            clear hx_ hy_
            obtain ⟨k0_, k1_, k2_, f0_, f1_, f2_⟩ := hb_.c3
            have Hb_ := Lib.hid hb_
            clear hb_
            go_simp
            exact ⟨HW_.out.new_set HN_.out kept3, HI_.out.set (List.mem_cons_of_mem _ (List.mem_cons_self)) HO_.out HU_.out (fun _ _ => trivial) Hn_.out HS_.out HVV_.out kept3 (Hb_.out.st3 _ _ _)⟩
          refine wpLsI_nil fun V_ W2 hw_ hV_ hI_ => ?_
          obtain ⟨g0_W2, E12_, N0_W2, X0_W2⟩ : ∃ b, v12_ = .pointer (some ⟨b, 0, none⟩) ∧ wr.heap.size ≤ b ∧ Blk W2 b 26 #[.int .i64 d1, .int .i64 d2, .int .i64 d3] := by rw [← show V_ 12 = v12_ from hV_ 12 (by decide) rfl]; exact hI_.done (List.mem_cons_self) ⟨show 12 < 16 by decide, rfl⟩ ⟨show 14 < 16 by decide, rfl⟩
          obtain ⟨g1_W2, E13_, N1_W2, X1_W2⟩ : ∃ b, v13_ = .pointer (some ⟨b, 0, none⟩) ∧ wr.heap.size ≤ b ∧ Blk W2 b 26 #[.int .i64 e1, .int .i64 e2, .int .i64 e3] := by rw [← show V_ 13 = v13_ from hV_ 13 (by decide) rfl]; exact hI_.done (List.mem_cons_of_mem _ (List.mem_cons_self)) ⟨show 13 < 16 by decide, rfl⟩ ⟨show 15 < 16 by decide, rfl⟩
          subst E12_ E13_
          have h_W2 := hw_.none
          clear hV_ hI_ hw_ HU_ HO_
          simp only [tails]
          clear a0 a1 a2 a3 a4 a5 a6 a7 a8 b0 b1 b2 b3 b4 b5 b6 b7 b8 HPU
          have R := HR.out.on h_W2
          have K2 := Lib.hid (after KK.out h_W2)
          have n0 : g0_W2 ≠ g := by have := HR.out.lt; omega
          have n1 : g1_W2 ≠ g := by have := HR.out.lt; omega
          clear h_W2 N0_W2 N1_W2 KK HR
          go_simp
          go_upto_region 9 with (fail)
          have HC1 := Lib.hid (fun d os => HN1.out (Go.Sort.grow (redrawn W2 d) os) (after K2.out (below_regrown _ _ _)))
          clear HN1
          have xx0 := fun d os => (X0_W2.re d os).cell 0
          have xx1 := fun d os => (X0_W2.re d os).cell 1
          have xx2 := fun d os => (X0_W2.re d os).cell 2
          simp only [List.getElem?_toArray, List.getElem?_cons_zero, List.getElem?_cons_succ] at xx0 xx1 xx2
          obtain ⟨a0, a1, a2, a3, a4, a5, a6, a7, a8⟩ := R.cells HE.out.1
          replace a0 := cell_regrown a0
          replace a1 := cell_regrown a1
          replace a2 := cell_regrown a2
          replace a3 := cell_regrown a3
          replace a4 := cell_regrown a4
          replace a5 := cell_regrown a5
          replace a6 := cell_regrown a6
          replace a7 := cell_regrown a7
          replace a8 := cell_regrown a8
          refine wp_region_last_below 10 (by kernel_rfl) rfl (by kernel_rfl) ?_
          simp only [List.take_succ_cons, List.take_zero, List.drop_succ_cons, List.drop_zero]
          repeat (go_big_quiet_step (with_reducible exact Calls.regrown_of (HC1.out _ _)))
          refine wpQuiet_nil ?_
          intro w' hw'
          obtain ⟨rg, rfl⟩ := hw'
          clear a0 a1 a2 a3 a4 a5 a6 a7 a8 xx0 xx1 xx2 HC1
          obtain ⟨W3, hW3⟩ : ∃ W3, W3 = Go.Sort.grow (redrawn W2 rg.d) rg.os := ⟨_, rfl⟩
          have hbW3 : Below W2.heap.size W2 W3 := by rw [hW3]; exact below_regrown _ _ _
          rw [← hW3]
          replace R := R.on hbW3
          have K_W3 := Lib.hid (after K2.out hbW3)
          replace X1_W2 := X1_W2.on hbW3
          clear hW3 hbW3 K2 X0_W2
          obtain ⟨a0, a1, a2, a3, a4, a5, a6, a7, a8⟩ := R.cells HE.out.1
          have f0 := R.frz (i * 9)
          have f1 := R.frz (i * 9 + 1)
          have f2 := R.frz (i * 9 + 2)
          have f3 := R.frz (i * 9 + 3)
          have f4 := R.frz (i * 9 + 4)
          have f5 := R.frz (i * 9 + 5)
          have f6 := R.frz (i * 9 + 6)
          have f7 := R.frz (i * 9 + 7)
          have f8 := R.frz (i * 9 + 8)
          go_upto_region 10 with (fail)
          clear a0 a1 a2 a3 a4 a5 a6 a7 a8 f0 f1 f2 f3 f4 f5 f6 f7 f8
          replace R := R.set9 (show i < L.length from by have := HE.out.2.2.1; omega) x2 y2 z2 sx2 sy2 sz2 wd2 ht2 st2
          have K4 := Lib.hid (nine_below K_W3.out HGG.out (i * 9) (i * 9 + 1) (i * 9 + 2) (i * 9 + 3) (i * 9 + 4) (i * 9 + 5) (i * 9 + 6) (i * 9 + 7) (i * 9 + 8) (.int .i64 x2) (.int .i64 y2) (.int .i64 z2) (.int .i64 sx2) (.int .i64 sy2) (.int .i64 sz2) (.int .i64 wd2) (.int .i64 ht2) (.bool st2))
          replace X1_W2 := nine_far X1_W2 n1 (i * 9) (i * 9 + 1) (i * 9 + 2) (i * 9 + 3) (i * 9 + 4) (i * 9 + 5) (i * 9 + 6) (i * 9 + 7) (i * 9 + 8) (.int .i64 x2) (.int .i64 y2) (.int .i64 z2) (.int .i64 sx2) (.int .i64 sy2) (.int .i64 sz2) (.int .i64 wd2) (.int .i64 ht2) (.bool st2)
          have H6 : (L.set i (x2, y2, z2, sx2, sy2, sz2, wd2, ht2, st2))[k]? = some (x1, y1, z1, sx1, sy1, sz1, wd1, ht1, st1) := by rw [List.getElem?_set_ne HE.out.2.2.2.1]; exact HE.out.2.1
          have H7 := Lib.hid H6
          clear H6 K_W3
          generalize (((((((((W3.setCell ⟨g, i * 9, none⟩ (.int .i64 x2)).setCell ⟨g, i * 9 + 1, none⟩ (.int .i64 y2)).setCell ⟨g, i * 9 + 2, none⟩ (.int .i64 z2)).setCell ⟨g, i * 9 + 3, none⟩ (.int .i64 sx2)).setCell ⟨g, i * 9 + 4, none⟩ (.int .i64 sy2)).setCell ⟨g, i * 9 + 5, none⟩ (.int .i64 sz2)).setCell ⟨g, i * 9 + 6, none⟩ (.int .i64 wd2)).setCell ⟨g, i * 9 + 7, none⟩ (.int .i64 ht2)).setCell ⟨g, i * 9 + 8, none⟩ (.bool st2)) = W4 at *
          have HC2 := Lib.hid (fun d os => HN2.out (Go.Sort.grow (redrawn W4 d) os) (after K4.out (below_regrown _ _ _)))
          clear HN2
          have xx0 := fun d os => (X1_W2.re d os).cell 0
          have xx1 := fun d os => (X1_W2.re d os).cell 1
          have xx2 := fun d os => (X1_W2.re d os).cell 2
          simp only [List.getElem?_toArray, List.getElem?_cons_zero, List.getElem?_cons_succ] at xx0 xx1 xx2
          obtain ⟨a0, a1, a2, a3, a4, a5, a6, a7, a8⟩ := R.cells H7.out
          replace a0 := cell_regrown a0
          replace a1 := cell_regrown a1
          replace a2 := cell_regrown a2
          replace a3 := cell_regrown a3
          replace a4 := cell_regrown a4
          replace a5 := cell_regrown a5
          replace a6 := cell_regrown a6
          replace a7 := cell_regrown a7
          replace a8 := cell_regrown a8
          refine wp_region_last_below 10 (by kernel_rfl) rfl (by kernel_rfl) ?_
          simp only [List.take_succ_cons, List.take_zero, List.drop_succ_cons, List.drop_zero]
          repeat (go_big_quiet_step (with_reducible exact Calls.regrown_of (HC2.out _ _)))
          refine wpQuiet_nil ?_
          intro w' hw'
          obtain ⟨rg, rfl⟩ := hw'
          clear a0 a1 a2 a3 a4 a5 a6 a7 a8 xx0 xx1 xx2 HC2
          obtain ⟨W5, hW5⟩ : ∃ W5, W5 = Go.Sort.grow (redrawn W4 rg.d) rg.os := ⟨_, rfl⟩
          have hbW5 : Below W4.heap.size W4 W5 := by rw [hW5]; exact below_regrown _ _ _
          rw [← hW5]
          replace R := R.on hbW5
          have K_W5 := Lib.hid (after K4.out hbW5)
          clear hW5 hbW5 K4 X1_W2
          obtain ⟨a0, a1, a2, a3, a4, a5, a6, a7, a8⟩ := R.cells H7.out
          have f0 := R.frz (k * 9)
          have f1 := R.frz (k * 9 + 1)
          have f2 := R.frz (k * 9 + 2)
          have f3 := R.frz (k * 9 + 3)
          have f4 := R.frz (k * 9 + 4)
          have f5 := R.frz (k * 9 + 5)
          have f6 := R.frz (k * 9 + 6)
          have f7 := R.frz (k * 9 + 7)
          have f8 := R.frz (k * 9 + 8)
          go_wp2_with fail
          refine ⟨⟨m + 1, by have := HE.out.2.2.2.2.2; omega, by have := HE.out.2.2.2.2.2; rw [this]; go_num, ?_, Lib.hid (nine_below K_W5.out HGG.out _ _ _ _ _ _ _ _ _ _ _ _ _ _ _ _ _ _)⟩, next_less' hkn⟩
          rw [HL3.out, HP.out]
          exact R.set9 (show k < (L.set i (x2, y2, z2, sx2, sy2, sz2, wd2, ht2, st2)).length from by rw [List.length_set]; have := HE.out.2.2.1; omega) x3 y3 z3 sx3 sy3 sz3 wd3 ht3 st3
        · obtain ⟨e, em⟩ : i + 1 + m = n ∧ m = n - (i + 1) := ⟨by omega, by omega⟩
          rw [e]
          subst em
          have RR := Lib.hid R
          clear R e hm hkn HO'
          have h2 : ¬ ((n : Int) < (n : Int)) := by omega
          go_wp2_with fail
          exact ⟨⟨i + 1, by omega, by go_num, Lib.hid (fun _ => ⟨g, rfl, HGG.out, RR.out⟩), KK⟩, next_less' hlt⟩
    · obtain rfl : i = n := by omega
      have h1 : ¬ ((i : Int) < (i : Int)) := by omega
      have hlen := (HO.out i (Nat.le_refl _)).len
      rw [HL.out] at hlen
      have HLL := Lib.hid hlen
      clear hlen
      go_wp2_with fail
      go_returns
      refine ⟨_, rfl, ⟨q1, c1, by rw [HLL.out]; rfl, by rw [HLL.out]; exact hc1, HM1.out, fun hn => HR.out (by rw [HLL.out] at hn; exact hn)⟩, KK.out⟩
end Go.Proofs.Ytnokibdecnddlaa

/- A body that is nudged: the document's. -/
namespace Go.Proofs.Ytnokibdecnddlaa
open Go.RowKit Go.Shelf
attribute [local go_sem] Oper.semAt_some

set_option maxRecDepth 100000 in
set_option maxHeartbeats 8000000 in
theorem rnudge_c (q : Option Addr) (n cp : Nat) (F : Nat → Int) (els : Int) (b : BD) (d : V3) (M : Int) (hM : M ≤ 70000000000000) (hM0 : 0 ≤ M) (hB : BOk M b) (hd : (-140737488355328 ≤ d.1 ∧ d.1 ≤ 140737488355328) ∧ (-140737488355328 ≤ d.2.1 ∧ d.2.1 ≤ 140737488355328) ∧ -140737488355328 ≤ d.2.2 ∧ d.2.2 ≤ 140737488355328) (w : World) (hq : Iq w q n F) :
    Calls Try.prog 36 #[.agg #[.slice q n cp, .int .i64 els], .agg (bd9 b), .agg (vg3 d)] w fun r w' => r = .returned (.agg (bd9 (nudB (fun c => atG n F els c.1 c.2.1 c.2.2) b d))) ∧ Below w.heap.size w w' := by
  obtain ⟨val, hval⟩ : ∃ val : Cl → Int, val = fun c => atG n F els c.1 c.2.1 c.2.2 := ⟨_, rfl⟩
  rw [← hval]
  obtain ⟨hS, -⟩ := hB.box (by omega)
  have CB := fun W => rbbox_c b (by have := hB.wd; omega) W
  have CF := fun W => rfar_c b d.1 d.2.1 d.2.2 (by have := hB.x; omega) (by have := hB.y; omega) (by have := hB.z; omega) hd.1 hd.2.1 hd.2.2 W
  have C1 := fun W (h : Below w.heap.size w W) => rsmove_c q n cp F els (boxB b) (fwI b.1 d.1) (fwI b.2.1 d.2.1) (fwI b.2.2.1 d.2.2) (M + 65536) (by omega) (by omega) hS W (hq.on h)
  rw [← hval] at C1
  have fG : ndV val b d = st3 val (boxB b) (fwI b.1 d.1) (fwI b.2.1 d.2.1) (fwI b.2.2.1 d.2.2) := by unfold ndV; rfl
  unfold moveT at C1
  rw [← fG] at C1
  clear fG hS hM hM0 hB hd hval
  unfold nudB toB
  generalize ndV val b d = r at C1 ⊢
  generalize hx2 val (boxB b) (fwI b.1 d.1) (fwI b.2.1 d.2.1) = t1 at C1
  generalize hy1 val (boxB b) (fwI b.2.1 d.2.1) = t2 at C1
  generalize hz3 val (boxB b) (fwI b.1 d.1) (fwI b.2.1 d.2.1) (fwI b.2.2.1 d.2.2) = t3 at C1
  generalize boxB b = bx at CB C1 ⊢
  obtain ⟨x, y, z, sx, sy, sz, wd, ht, st⟩ := b
  obtain ⟨d1, d2, d3⟩ := d
  obtain ⟨o1, o2, o3, o4, o5, o6⟩ := bx
  obtain ⟨y1, y2, y3, y4, y5, y6⟩ := r
  simp only [bd9, ag6, vg3] at *
  generalize fwI x d1 = f1 at CF C1
  generalize fwI y d2 = f2 at CF C1
  generalize fwI z d3 = f3 at CF C1
  have HSB := Lib.hid (fun W => rsubv_c y1 y2 y3 o1 o2 o3 W)
  have HAD := Lib.hid (fun W => raddv_c x y z (subI y1 o1) (subI y2 o2) (subI y3 o3) W)
  generalize subI y1 o1 = u1 at HSB HAD ⊢
  generalize subI y2 o2 = u2 at HSB HAD ⊢
  generalize subI y3 o3 = u3 at HSB HAD ⊢
  generalize addI x u1 = v1 at HAD ⊢
  generalize addI y u2 = v2 at HAD ⊢
  generalize addI z u3 = v3 at HAD ⊢
  have HCB := Lib.hid CB
  have HCF := Lib.hid CF
  have HC1 := Lib.hid C1
  clear CB CF C1 hq
  obtain ⟨N, hN⟩ : ∃ N, N = w.heap.size := ⟨_, rfl⟩
  obtain ⟨W, hW⟩ : ∃ W, W = (((w.alloc (.cells #[.slice q n cp, .int .i64 els] 24)).alloc (.cells #[.int .i64 x, .int .i64 y, .int .i64 z, .int .i64 sx, .int .i64 sy, .int .i64 sz, .int .i64 wd, .int .i64 ht, .bool st] 28)).alloc (.cells #[.int .i64 d1, .int .i64 d2, .int .i64 d3] 26)).alloc (.cells #[.int .i64 0, .int .i64 0, .int .i64 0, .int .i64 0, .int .i64 0, .int .i64 0, .int .i64 0, .int .i64 0, .bool false] 28) := ⟨_, rfl⟩
  have H : Below w.heap.size w W := by rw [hW]; go_grown
  have G : Blk W N 24 _ := Blk.eqw hW.symm (by rw [hN]; exact (((Blk.new' rfl).alloc _).alloc _).alloc _)
  have B : Blk W (N + 1) 28 _ := Blk.eqw hW.symm (by rw [hN]; exact ((Blk.new' (by simp)).alloc _).alloc _)
  have D : Blk W (N + 1 + 1) 26 _ := Blk.eqw hW.symm (by rw [hN]; exact (Blk.new' (by simp)).alloc _)
  have R : Blk W (N + 1 + 1 + 1) 28 _ := Blk.eqw hW.symm (by rw [hN]; exact Blk.new' (by simp))
  go_enter Try.func36, Try.ntmps36
  go_upto_region 1 with (fail)
  rw [← hW, ← hN]
  have HN := Lib.hid hN
  clear hW hN
  obtain ⟨⟨b0, b1, b2, b3, b4, b5, b6, b7, b8⟩, -⟩ := B.c9
  go_upto_region 2 with (go_at_call 19; refine (HCB.out _).mono ?_; rintro e_ w1 ⟨rfl, k1⟩)
  generalize hV : World.alloc w1 _ = W1
  have X : Blk W1 w1.heap.size 48 #[.int .i64 o1, .int .i64 o2, .int .i64 o3, .int .i64 o4, .int .i64 o5, .int .i64 o6] := Blk.eqw hV (Blk.new' rfl)
  have hk : Below W.heap.size W W1 := by rw [← hV]; exact after k1 ((Below.refl _ _).alloc (Nat.le_refl _) _)
  have hgN := Nat.lt_of_lt_of_le R.lt k1.size
  replace G := G.on hk
  replace B := B.on hk
  replace D := D.on hk
  replace R := R.on hk
  replace H := Lib.hid (after H hk)
  clear hV k1 hk b0 b1 b2 b3 b4 b5 b6 b7 b8 HCB
  generalize w1.heap.size = g at X hgN ⊢
  have HBK := Lib.hid (And.intro B (And.intro G (And.intro R X)))
  have b0 := fun d os => (B.re d os).cell 0
  have b1 := fun d os => (B.re d os).cell 1
  have b2 := fun d os => (B.re d os).cell 2
  have b3 := fun d os => (B.re d os).cell 3
  have b4 := fun d os => (B.re d os).cell 4
  have b5 := fun d os => (B.re d os).cell 5
  have b6 := fun d os => (B.re d os).cell 6
  have b7 := fun d os => (B.re d os).cell 7
  have b8 := fun d os => (B.re d os).cell 8
  have c0 := fun d os => (G.re d os).cell 0
  have c1 := fun d os => (G.re d os).cell 1
  simp only [List.getElem?_toArray, List.getElem?_cons_zero, List.getElem?_cons_succ] at b0 b1 b2 b3 b4 b5 b6 b7 b8 c0 c1
  obtain ⟨x0, x1, x2, x3, x4, x5⟩ := X.re6
  obtain ⟨dd0, dd1, dd2⟩ := D.re3
  have HGN := Lib.hid hgN
  clear B G R X D hgN
  have HU_ := Lib.hid (show Bears W1.heap.size [⟨9, 11, 48, #[.int .i64 0, .int .i64 0, .int .i64 0, .int .i64 0, .int .i64 0, .int .i64 0], #[.int .i64 y1, .int .i64 y2, .int .i64 y3, .int .i64 y4, .int .i64 y5, .int .i64 y6]⟩, ⟨10, 12, 79, #[.bool false, .bool false, .bool false], #[.bool t1, .bool t2, .bool t3]⟩] (relsU [(5, fun v _ => v = .tuple #[.agg #[.int .i64 y1, .int .i64 y2, .int .i64 y3, .int .i64 y4, .int .i64 y5, .int .i64 y6], .agg #[.bool t1, .bool t2, .bool t3]]), (6, fun v _ => v = .tuple #[.agg #[.int .i64 y1, .int .i64 y2, .int .i64 y3, .int .i64 y4, .int .i64 y5, .int .i64 y6], .agg #[.bool t1, .bool t2, .bool t3]]), (7, fun v _ => v = .agg #[.int .i64 y1, .int .i64 y2, .int .i64 y3, .int .i64 y4, .int .i64 y5, .int .i64 y6]), (8, fun v _ => v = .agg #[.bool t1, .bool t2, .bool t3])]) from (bears_val (bears_val (bears_val (bears_val bears_nil)))))
  have HO_ := Lib.hid (show OkB [⟨9, 11, 48, #[.int .i64 0, .int .i64 0, .int .i64 0, .int .i64 0, .int .i64 0, .int .i64 0], #[.int .i64 y1, .int .i64 y2, .int .i64 y3, .int .i64 y4, .int .i64 y5, .int .i64 y6]⟩, ⟨10, 12, 79, #[.bool false, .bool false, .bool false], #[.bool t1, .bool t2, .bool t3]⟩] from ⟨by simp, by simp⟩)
  refine wp_many [0, 0, 0, 0, 0, 2, 2, 2, 2, 2, 2, 2, 2] _ _ (by kernel_rfl) (by kernel_rfl) HU_.out ?_
  repeat (first | (refine wpQs_s ?_) | (refine wpQs_q (fun K hK => ?_); go_simp; first | (refine hK _ ?_; clear hK K) | (apply Exists.intro; refine ⟨fun _ => ?_, hK _ ?_⟩; (exact HCF.out _); clear hK K)) | (refine wpQs_f (fun K hK => ?_); go_simp; refine hK _ ?_; clear hK K))
  refine wpQs_nil ?_
  refine wpLsI_skip ?_
  refine wpLsI_skip ?_
  refine wpLsI_skip ?_
  refine wpLsI_skip ?_
  refine wpLsI_skip ?_
  refine wpLsI_one rfl ?s5_ (fun v5_ => ?_)
  case s5_ =>
    intro S_ V_ w_ hw_ hV_ ha_ hn_ hI_
    have HW_ := Lib.hid hw_
    have HI_ := Lib.hid hI_
    have Hn_ := Lib.hid hn_
    clear hV_ ha_ hw_ hI_ hn_
    go_simp
    refine (HC1.out _ (after H.out HW_.out.none)).mono ?_
    rintro e_ w9 ⟨rfl, h9⟩
    exact ⟨_, rfl, HW_.out.on h9, HI_.out.l (by simp) HU_.out h9 rfl⟩
  refine wpLsI_one rfl ?s6_ (fun v6_ => ?_)
  case s6_ =>
    intro S_ V_ w_ hw_ hV_ ha_ hn_ hI_
    have F_ := Lib.hid (show v5_ = .tuple #[.agg #[.int .i64 y1, .int .i64 y2, .int .i64 y3, .int .i64 y4, .int .i64 y5, .int .i64 y6], .agg #[.bool t1, .bool t2, .bool t3]] from (hI_.of (ha_ 5 (by decide) rfl (by kernel_rfl)) (hV_ 5 (by decide) rfl)))
    have HW_ := Lib.hid hw_
    have HI_ := Lib.hid hI_
    have Hn_ := Lib.hid hn_
    clear hV_ ha_ hw_ hI_ hn_
    go_simp
    have h8_ := F_.out
    subst h8_
    clear F_
    go_simp
    exact ⟨HW_.out, HI_.out.l (by simp) HU_.out (Below.refl _ _) rfl⟩
  refine wpLsI_one rfl ?s7_ (fun v7_ => ?_)
  case s7_ =>
    intro S_ V_ w_ hw_ hV_ ha_ hn_ hI_
    have F_ := Lib.hid (show v6_ = .tuple #[.agg #[.int .i64 y1, .int .i64 y2, .int .i64 y3, .int .i64 y4, .int .i64 y5, .int .i64 y6], .agg #[.bool t1, .bool t2, .bool t3]] from (hI_.of (ha_ 6 (by decide) rfl (by kernel_rfl)) (hV_ 6 (by decide) rfl)))
    have HW_ := Lib.hid hw_
    have HI_ := Lib.hid hI_
    have Hn_ := Lib.hid hn_
    clear hV_ ha_ hw_ hI_ hn_
    go_simp
    have h8_ := F_.out
    subst h8_
    clear F_
    go_simp
    exact ⟨HW_.out, HI_.out.l (by simp) HU_.out (Below.refl _ _) rfl⟩
  refine wpLsI_one rfl ?s8_ (fun v8_ => ?_)
  case s8_ =>
    intro S_ V_ w_ hw_ hV_ ha_ hn_ hI_
    have F_ := Lib.hid (show v6_ = .tuple #[.agg #[.int .i64 y1, .int .i64 y2, .int .i64 y3, .int .i64 y4, .int .i64 y5, .int .i64 y6], .agg #[.bool t1, .bool t2, .bool t3]] from (hI_.of (ha_ 6 (by decide) rfl (by kernel_rfl)) (hV_ 6 (by decide) rfl)))
    have HW_ := Lib.hid hw_
    have HI_ := Lib.hid hI_
    have Hn_ := Lib.hid hn_
    clear hV_ ha_ hw_ hI_ hn_
    go_simp
    have h8_ := F_.out
    subst h8_
    clear F_
    go_simp
    exact ⟨HW_.out, HI_.out.l (by simp) HU_.out (Below.refl _ _) rfl⟩
  refine wpLsI_one rfl ?s9_ (fun v9_ => ?_)
  case s9_ =>
    intro S_ V_ w_ hw_ hV_ ha_ hn_ hI_
    have HW_ := Lib.hid hw_
    have HI_ := Lib.hid hI_
    have Hn_ := Lib.hid hn_
    clear hV_ ha_ hw_ hI_ hn_
    go_simp
    exact ⟨HW_.out.on ((Below.refl _ _).alloc (Nat.le_refl _) _), HI_.out.new (List.mem_cons_self) HO_.out HU_.out (fun _ _ => trivial) HW_.out.none.size Hn_.out⟩
  refine wpLsI_one rfl ?s10_ (fun v10_ => ?_)
  case s10_ =>
    intro S_ V_ w_ hw_ hV_ ha_ hn_ hI_
    have HW_ := Lib.hid hw_
    have HI_ := Lib.hid hI_
    have Hn_ := Lib.hid hn_
    clear hV_ ha_ hw_ hI_ hn_
    go_simp
    exact ⟨HW_.out.on ((Below.refl _ _).alloc (Nat.le_refl _) _), HI_.out.new (List.mem_cons_of_mem _ (List.mem_cons_self)) HO_.out HU_.out (fun _ _ => trivial) HW_.out.none.size Hn_.out⟩
  refine wpLsI_one rfl ?s11_ (fun v11_ => ?_)
  case s11_ =>
    intro S_ V_ w_ hw_ hV_ ha_ hn_ hI_
    have F_ := Lib.hid (show v7_ = .agg #[.int .i64 y1, .int .i64 y2, .int .i64 y3, .int .i64 y4, .int .i64 y5, .int .i64 y6] from (hI_.of (ha_ 7 (by decide) rfl (by kernel_rfl)) (hV_ 7 (by decide) rfl)))
    have HS_ := Lib.hid (show S_ 9 from ha_ 9 (by decide) rfl (by kernel_rfl))
    have HVV_ := Lib.hid (show V_ 9 = v9_ from hV_ 9 (by decide) rfl)
    have hx_ := Lib.hid (show ∃ b, V_ 9 = .pointer (some ⟨b, 0, none⟩) ∧ W1.heap.size ≤ b ∧ Blk w_ b 48 #[.int .i64 0, .int .i64 0, .int .i64 0, .int .i64 0, .int .i64 0, .int .i64 0] from hI_.slot (List.mem_cons_self) HS_.out hn_)
    have HW_ := Lib.hid hw_
    have HI_ := Lib.hid hI_
    have Hn_ := Lib.hid hn_
    clear hV_ ha_ hw_ hI_ hn_
    go_simp
    refine hx_.out.elim fun b_ hy_ => ?_
    have E_ := hy_.1
    have HN_ := Lib.hid hy_.2.1
    have hb_ := hy_.2.2
    have h8_ := F_.out
    rw [HVV_.out] at E_
    subst h8_ E_
    clear hx_ hy_ F_
    obtain ⟨⟨k0_, k1_, k2_, k3_, k4_, k5_⟩, f0_, f1_, f2_, f3_, f4_, f5_⟩ := hb_.c6
    have Hb_ := Lib.hid hb_
    clear hb_
    go_simp
    exact ⟨HW_.out.new_set HN_.out kept6, HI_.out.set (List.mem_cons_self) HO_.out HU_.out (fun _ _ => trivial) Hn_.out HS_.out HVV_.out kept6 (Hb_.out.st6 _ _ _ _ _ _)⟩
  refine wpLsI_one rfl ?s12_ (fun v12_ => ?_)
  case s12_ =>
    intro S_ V_ w_ hw_ hV_ ha_ hn_ hI_
    have F_ := Lib.hid (show v8_ = .agg #[.bool t1, .bool t2, .bool t3] from (hI_.of (ha_ 8 (by decide) rfl (by kernel_rfl)) (hV_ 8 (by decide) rfl)))
    have HS_ := Lib.hid (show S_ 10 from ha_ 10 (by decide) rfl (by kernel_rfl))
    have HVV_ := Lib.hid (show V_ 10 = v10_ from hV_ 10 (by decide) rfl)
    have hx_ := Lib.hid (show ∃ b, V_ 10 = .pointer (some ⟨b, 0, none⟩) ∧ W1.heap.size ≤ b ∧ Blk w_ b 79 #[.bool false, .bool false, .bool false] from hI_.slot (List.mem_cons_of_mem _ (List.mem_cons_self)) HS_.out hn_)
    have HW_ := Lib.hid hw_
    have HI_ := Lib.hid hI_
    have Hn_ := Lib.hid hn_
    clear hV_ ha_ hw_ hI_ hn_
    go_simp
    refine hx_.out.elim fun b_ hy_ => ?_
    have E_ := hy_.1
    have HN_ := Lib.hid hy_.2.1
    have hb_ := hy_.2.2
    have h8_ := F_.out
    rw [HVV_.out] at E_
    subst h8_ E_
    clear hx_ hy_ F_
    obtain ⟨k0_, k1_, k2_, f0_, f1_, f2_⟩ := hb_.c3
    have Hb_ := Lib.hid hb_
    clear hb_
    go_simp
    exact ⟨HW_.out.new_set HN_.out kept3, HI_.out.set (List.mem_cons_of_mem _ (List.mem_cons_self)) HO_.out HU_.out (fun _ _ => trivial) Hn_.out HS_.out HVV_.out kept3 (Hb_.out.st3 _ _ _)⟩
  refine wpLsI_nil fun V_ W2 hw_ hV_ hI_ => ?_
  obtain ⟨g0_W2, E9_, N0_W2, X0_W2⟩ : ∃ b, v9_ = .pointer (some ⟨b, 0, none⟩) ∧ W1.heap.size ≤ b ∧ Blk W2 b 48 #[.int .i64 y1, .int .i64 y2, .int .i64 y3, .int .i64 y4, .int .i64 y5, .int .i64 y6] := by rw [← show V_ 9 = v9_ from hV_ 9 (by decide) rfl]; exact hI_.done (List.mem_cons_self) ⟨show 9 < 13 by decide, rfl⟩ ⟨show 11 < 13 by decide, rfl⟩
  obtain ⟨g1_W2, E10_, N1_W2, X1_W2⟩ : ∃ b, v10_ = .pointer (some ⟨b, 0, none⟩) ∧ W1.heap.size ≤ b ∧ Blk W2 b 79 #[.bool t1, .bool t2, .bool t3] := by rw [← show V_ 10 = v10_ from hV_ 10 (by decide) rfl]; exact hI_.done (List.mem_cons_of_mem _ (List.mem_cons_self)) ⟨show 10 < 13 by decide, rfl⟩ ⟨show 12 < 13 by decide, rfl⟩
  subst E9_ E10_
  have h_W2 := hw_.none
  clear hV_ hI_ hw_ HU_ HO_
  simp only [tails]
  clear b0 b1 b2 b3 b4 b5 b6 b7 b8 c0 c1 x0 x1 x2 x3 x4 x5 dd0 dd1 dd2 HCF HC1
  obtain ⟨B, G, R, X⟩ := HBK.out
  have hXl := X.lt
  have n1 : g0_W2 ≠ N + 1 := by have := HGN.out; omega
  have HX := Lib.hid (And.intro (B.on h_W2) (And.intro (R.on h_W2) (And.intro (X.on h_W2) X0_W2)))
  replace H := Lib.hid (after H.out h_W2)
  clear HBK hXl B G R X X0_W2 X1_W2 N0_W2 N1_W2 h_W2
  go_simp
  go_upto_region 3 with (fail)
  obtain ⟨B, R, X, Y⟩ := HX.out
  have b0 := fun d os => (B.re d os).cell 0
  have b1 := fun d os => (B.re d os).cell 1
  have b2 := fun d os => (B.re d os).cell 2
  have x0 := fun d os => (X.re d os).cell 0
  have x1 := fun d os => (X.re d os).cell 1
  have x2 := fun d os => (X.re d os).cell 2
  have y0 := fun d os => (Y.re d os).cell 0
  have y1_ := fun d os => (Y.re d os).cell 1
  have y2_ := fun d os => (Y.re d os).cell 2
  simp only [List.getElem?_toArray, List.getElem?_cons_zero, List.getElem?_cons_succ] at b0 b1 b2 x0 x1 x2 y0 y1_ y2_
  refine wp_region_last_below 9 (by kernel_rfl) rfl (by kernel_rfl) ?_
  simp only [List.take_succ_cons, List.take_zero, List.drop_succ_cons, List.drop_zero]
  repeat (go_big_quiet_step (first | (with_reducible exact Calls.regrown_of (HSB.out _)) | (with_reducible exact Calls.regrown_of (HAD.out _))))
  refine wpQuiet_nil ?_
  intro w' hw'
  obtain ⟨rg, rfl⟩ := hw'
  clear b0 b1 b2 x0 x1 x2 y0 y1_ y2_ X HSB HAD HX
  obtain ⟨W3, hW3⟩ : ∃ W3, W3 = Go.Sort.grow (redrawn W2 rg.d) rg.os := ⟨_, rfl⟩
  have hb3 : Below W2.heap.size W2 W3 := by rw [hW3]; exact below_regrown _ _ _
  rw [← hW3]
  replace B := B.on hb3
  replace R := R.on hb3
  replace H := after H.out hb3
  clear hW3 hb3
  obtain ⟨⟨b0, b1, b2, b3, b4, b5, b6, b7, b8⟩, f0, f1_, f2_, f3_, f4, f5, f6, f7, f8⟩ := B.c9
  go_upto_region 4 with (fail)
  generalize hV_ : (World.setCell (World.setCell (World.setCell W3 _ _) _ _) _ _) = W4
  replace B : Blk W4 (N + 1) 28 #[.int .i64 v1, .int .i64 v2, .int .i64 v3, .int .i64 sx, .int .i64 sy, .int .i64 sz, .int .i64 wd, .int .i64 ht, .bool st] := Blk.eqw hV_ (((B.set_ 0 _).set_ 1 _).set_ 2 _)
  replace R := Blk.eqw hV_ (((R.far (p := ⟨N + 1, 0, none⟩) (by dsimp only; omega) _).far (p := ⟨N + 1, 1, none⟩) (by dsimp only; omega) _).far (p := ⟨N + 1, 2, none⟩) (by dsimp only; omega) _)
  replace H : Below w.heap.size w W4 := by rw [← hV_]; exact (((H.setCell (p := ⟨N + 1, 0, none⟩) (by have := HN.out; dsimp only; omega) _).setCell (p := ⟨N + 1, 1, none⟩) (by have := HN.out; dsimp only; omega) _).setCell (p := ⟨N + 1, 2, none⟩) (by have := HN.out; dsimp only; omega) _)
  clear hV_
  clear b0 b1 b2 b3 b4 b5 b6 b7 b8 f0 f1_ f2_ f3_ f4 f5 f6 f7 f8 Y
  obtain ⟨⟨b0, b1, b2, b3, b4, b5, b6, b7, b8⟩, -⟩ := B.c9
  obtain ⟨⟨r0, r1, r2, r3, r4, r5, r6, r7, r8⟩, f0, f1_, f2_, f3_, f4, f5, f6, f7, f8⟩ := R.c9
  have hNw : w.heap.size ≤ N + 1 + 1 + 1 := by have := HN.out; omega
  go_wp2_with fail
  have R2_ := R.st9 (.int .i64 (v1)) (.int .i64 (v2)) (.int .i64 (v3)) (.int .i64 (sx)) (.int .i64 (sy)) (.int .i64 (sz)) (.int .i64 (wd)) (.int .i64 (ht)) (.bool (st))
  obtain ⟨⟨d0, d1, d2, d3, d4, d5, d6, d7, d8⟩, -⟩ := R2_.c9
  exact bodyPost_ret (v := .agg #[.int .i64 (v1), .int .i64 (v2), .int .i64 (v3), .int .i64 (sx), .int .i64 (sy), .int .i64 (sz), .int .i64 (wd), .int .i64 (ht), .bool (st)]) (by simp [results, Try.results36, go_sem, d0, d1, d2, d3, d4, d5, d6, d7, d8]) rfl ⟨rfl, sx9_below H hNw _ _ _ _ _ _ _ _ _⟩
end Go.Proofs.Ytnokibdecnddlaa

/- Bodies that pushed one another: the document's. -/
namespace Go.Proofs.Ytnokibdecnddlaa
open Go.RowKit Go.Shelf
attribute [local go_sem] Oper.semAt_some

set_option maxRecDepth 100000 in
set_option maxHeartbeats 16000000 in
theorem rcrowd_c (q0 : Option Addr) (n0 cp0 : Nat) (F : Nat → Int) (els : Int) (q : Option Addr) (n c : Nat) (l : List BD) (hl : l.length = n) (hc : n ≤ c) (hn : n ≤ 5) (hA : AllOk (fun c => atG n0 F els c.1 c.2.1 c.2.2) 500000 l l) (w : World) (h : Rd w q 9 enBd l) (hq : Iq w q0 n0 F) :
    Calls Try.prog 33 #[.agg #[.slice q0 n0 cp0, .int .i64 els], .slice q n c] w fun r w' => ∃ v, r = .returned v ∧ BRow w' w.heap.size 28 v (outB (fun c => atG n0 F els c.1 c.2.1 c.2.2) n l n) ∧ Below w.heap.size w w' := by
  have HN := Lib.hid (fun b (d : V3) (hB : BOk 10000000 b) (hd : V3Bd 4096 d) W (hw : Below w.heap.size w W) => rnudge_c q0 n0 cp0 F els b d 10000000 (by decide) (by decide) hB (by unfold V3Bd at hd; omega) W (hq.on hw))
  obtain ⟨val, hval⟩ : ∃ val : Cl → Int, val = fun c => atG n0 F els c.1 c.2.1 c.2.2 := ⟨_, rfl⟩
  rw [← hval] at hA HN ⊢
  clear hval hq
  have HO := Lib.hid (fun i (hi : i ≤ n) => (show AllOk val (500000 + 40960 * (i : Int)) l (outB val n l i) from by have := outB_ok hA (by decide) (by decide) (by omega) (i := i) (by omega); rwa [hl] at this))
  obtain ⟨N, hN⟩ : ∃ N, N = w.heap.size := ⟨_, rfl⟩
  obtain ⟨W0, hW⟩ : ∃ W0, W0 = w.alloc (.cells #[.slice q0 n0 cp0, .int .i64 els] 24) := ⟨_, rfl⟩
  have H0 : Below w.heap.size w W0 := by rw [hW]; go_grown
  have G : Blk W0 N 24 #[.slice q0 n0 cp0, .int .i64 els] := Blk.eqw hW.symm (Blk.new' hN)
  have hsz : N + 1 ≤ W0.heap.size := by rw [hW, hN]; simp
  obtain ⟨v1, w5, hrun1, O1, hb1⟩ := run_rows (P := Try.prog) (ts := 65) (ty := 28) (enc := enBd) (w := W0) (base := W0.heap.size) (xs := ([] : List BD)) (ys := l) (q := q) (m := n) (c := c) (v := .slice none 0 0) Try.underlying65 infRb rfl (by decide) (by decide) (fun _ => rfl) (fun b _ => oneB b) Owns.nil hl hc (h.on H0) (by simp; omega) (Nat.le_refl _)
  rw [List.nil_append] at O1
  replace G := G.on hb1
  have k1 := after H0 hb1
  obtain ⟨q1, c1, rfl, hc1, hm1, hr1⟩ := BRow.of O1
  have HRU := Lib.hid hrun1
  have HL := Lib.hid hl
  have HN5 := Lib.hid hn
  have HA1 := Lib.hid (And.intro (after (Below.refl _ _) hb1) hsz)
  clear hl hc hn hA h O1 hb1 hrun1 H0 hsz
  go_enter Try.func33, Try.ntmps33
  go_upto_region 2 with (fail)
  rw [← hW, ← hN]
  have HN0 := Lib.hid hN
  clear hN
  have hrun1 := HRU.out
  clear HRU
  go_upto_region 4 with (at_builtin; refine Lib.wpList_append_run _ rfl _ _ _ _ rfl _ _ rfl rfl _ _ hrun1 ?_)
  clear hW hrun1
  rw [HL.out] at hc1 hr1 ⊢
  have HR1 : Hid (0 < n → ∃ g, q1 = some ⟨g, 0, none⟩ ∧ N + 1 ≤ g ∧ Rwb w5 g 28 l) := Lib.hid (fun hh => by obtain ⟨g, e, h1, h2⟩ := hr1 hh; exact ⟨g, e, Nat.le_trans HA1.out.2 h1, h2⟩)
  have HM1 := Lib.hid hm1
  have K1 := Lib.hid k1
  clear hr1 hm1 k1
  clear HA1
  go_loopw [6] (fun iv wr => ∃ i : Nat, i ≤ n ∧ iv = .int .i64 i ∧ Hid (0 < n → ∃ g, q1 = some ⟨g, 0, none⟩ ∧ N + 1 ≤ g ∧ Rwb wr g 28 (outB val n l i)) ∧ Blk wr N 24 #[.slice q0 n0 cp0, .int .i64 els] ∧ Hid (Below w.heap.size w wr)) (fun iv _ => n - (intOf iv).toNat)
  case atStart => exact ⟨0, Nat.zero_le _, rfl, HR1, G, K1⟩
  case round =>
    clear HR1 K1 G
    obtain ⟨i, hi, rfl, HR, G, KK⟩ := hrel
    by_cases hlt : i < n
    · have h1 : (i : Int) < n := by omega
      have hi0 : (0 : Int) ≤ (i : Int) := by omega
      have q1_ : (i : Int) + 1 ≤ 9223372036854775807 := by have := HN5.out; omega
      have q2_ : -9223372036854775808 ≤ (i : Int) + 1 := by omega
      obtain ⟨g, rfl, hg, R⟩ := HR.out (by omega)
      have HGG : Hid (w.heap.size ≤ g) := Lib.hid (by have := HN0.out; omega)
      have HNG : Hid (N ≠ g) := Lib.hid (by omega)
      have HO' := Lib.hid (HO.out i hi)
      clear HR hg
      go_upto_region 7 with (fail)
      go_loopw [7] (fun kv wr => ∃ m : Nat, i + 1 + m ≤ n ∧ kv = .int .i64 ((i + 1 + m : Nat) : Int) ∧ Rwb wr g 28 (inB val i (outB val n l i) m) ∧ Blk wr N 24 #[.slice q0 n0 cp0, .int .i64 els] ∧ Hid (Below w.heap.size w wr)) (fun kv _ => n - (intOf kv).toNat)
      case atStart => exact ⟨0, by omega, by go_num, R, G, KK⟩
      case round =>
        clear R KK G
        obtain ⟨m, hm, rfl, R, G, KK⟩ := hrel
        by_cases hkn : i + 1 + m < n
        · have hAL : AllOk val 10000000 l (inB val i (outB val n l i) m) := (inB_ok HO'.out (by omega) (by have := HN5.out; omega) (by have := HN5.out; omega) (by have := HL.out; omega)).mono (by have := HN5.out; omega)
          obtain ⟨a, ea, da, oa⟩ := hAL.at (i := i) (by have := HL.out; omega)
          obtain ⟨b, eb, db, ob⟩ := hAL.at (i := i + 1 + m) (by have := HL.out; omega)
          have hlen : (inB val i (outB val n l i) m).length = n := by rw [hAL.len, HL.out]
          have hpair : inB val i (outB val n l i) (m + 1) = ((inB val i (outB val n l i) m).set i (nudB val a (pushV a b).1)).set (i + 1 + m) (nudB val b (pushV a b).2) := by
            show pairB val _ i (i + 1 + m) = _
            unfold pairB
            rw [da, db]
          have hne : i ≠ i + 1 + m := by omega
          generalize hkk : i + 1 + m = k at *
          have hstep : i + 1 + (m + 1) = k + 1 := by omega
          have PU := fun W => rpush_c a b oa ob W
          have N1 := HN.out a (pushV a b).1 oa (push_bd oa ob (by decide) (by decide)).1
          have N2 := HN.out b (pushV a b).2 ob (push_bd oa ob (by decide) (by decide)).2
          have HP := Lib.hid hpair
          generalize hL3 : inB val i (outB val n l i) (m + 1) = L3 at HP
          have HL3 := Lib.hid hL3
          clear hL3
          generalize inB val i (outB val n l i) m = L at *
          generalize nudB val a (pushV a b).1 = a' at N1 HP
          generalize nudB val b (pushV a b).2 = b' at N2 HP
          generalize pushV a b = pv at *
          obtain ⟨x, y, z, sx, sy, sz, wd, ht, st⟩ := a
          obtain ⟨x1, y1, z1, sx1, sy1, sz1, wd1, ht1, st1⟩ := b
          obtain ⟨x2, y2, z2, sx2, sy2, sz2, wd2, ht2, st2⟩ := a'
          obtain ⟨x3, y3, z3, sx3, sy3, sz3, wd3, ht3, st3⟩ := b'
          obtain ⟨⟨d1, d2, d3⟩, e1, e2, e3⟩ := pv
          simp only [bd9, vg3] at PU N1 N2
          have HPU := Lib.hid PU
          have HN1 := Lib.hid N1
          have HN2 := Lib.hid N2
          have HE := Lib.hid (And.intro ea (And.intro eb (And.intro hlen (And.intro hne (And.intro hkk hstep)))))
          have hk1 : (k : Int) < n := by omega
          have hk0 : (0 : Int) ≤ (k : Int) := by omega
          have hkc : k < c1 := by omega
          have hic : i < c1 := by omega
          have q3_ : (k : Int) + 1 ≤ 9223372036854775807 := by have := HN5.out; omega
          have q4_ : -9223372036854775808 ≤ (k : Int) + 1 := by omega
          clear PU N1 N2 ea eb da db oa ob hAL hlen hpair hne hkk hstep
          obtain ⟨a0, a1, a2, a3, a4, a5, a6, a7, a8⟩ := R.cells HE.out.1
          obtain ⟨b0, b1, b2, b3, b4, b5, b6, b7, b8⟩ := R.cells HE.out.2.1
          replace a0 := cell_regrown a0
          replace a1 := cell_regrown a1
          replace a2 := cell_regrown a2
          replace a3 := cell_regrown a3
          replace a4 := cell_regrown a4
          replace a5 := cell_regrown a5
          replace a6 := cell_regrown a6
          replace a7 := cell_regrown a7
          replace a8 := cell_regrown a8
          replace b0 := cell_regrown b0
          replace b1 := cell_regrown b1
          replace b2 := cell_regrown b2
          replace b3 := cell_regrown b3
          replace b4 := cell_regrown b4
          replace b5 := cell_regrown b5
          replace b6 := cell_regrown b6
          replace b7 := cell_regrown b7
          replace b8 := cell_regrown b8
          have HR := Lib.hid R
          clear R
          go_upto_region 9 with (fail)
          have HU_ := Lib.hid (show Bears wr.heap.size [⟨12, 14, 26, #[.int .i64 0, .int .i64 0, .int .i64 0], #[.int .i64 d1, .int .i64 d2, .int .i64 d3]⟩, ⟨13, 15, 26, #[.int .i64 0, .int .i64 0, .int .i64 0], #[.int .i64 e1, .int .i64 e2, .int .i64 e3]⟩] (relsU []) from bears_nil)
          have HO_ := Lib.hid (show OkB [⟨12, 14, 26, #[.int .i64 0, .int .i64 0, .int .i64 0], #[.int .i64 d1, .int .i64 d2, .int .i64 d3]⟩, ⟨13, 15, 26, #[.int .i64 0, .int .i64 0, .int .i64 0], #[.int .i64 e1, .int .i64 e2, .int .i64 e3]⟩] from ⟨by simp, by simp⟩)
          refine wp_many [0, 0, 0, 0, 0, 0, 0, 0, 0, 0, 0, 0, 2, 2, 2, 2] _ _ (by kernel_rfl) (by kernel_rfl) HU_.out ?_
          repeat (first | (refine wpQs_s ?_) | (refine wpQs_q (fun K hK => ?_); go_simp; first | (refine hK _ ?_; clear hK K) | (apply Exists.intro; refine ⟨fun _ => ?_, hK _ ?_⟩; (exact HPU.out _); clear hK K)) | (refine wpQs_f (fun K hK => ?_); go_simp; refine hK _ ?_; clear hK K))
          refine wpQs_nil ?_
          refine wpLsI_skip ?_
          refine wpLsI_skip ?_
          refine wpLsI_skip ?_
          refine wpLsI_skip ?_
          refine wpLsI_skip ?_
          refine wpLsI_skip ?_
          refine wpLsI_skip ?_
          refine wpLsI_skip ?_
          refine wpLsI_skip ?_
          refine wpLsI_skip ?_
          refine wpLsI_skip ?_
          refine wpLsI_skip ?_
          refine wpLsI_one rfl ?s12_ (fun v12_ => ?_)
          case s12_ =>
            intro S_ V_ w_ hw_ hV_ ha_ hn_ hI_
            have HW_ := Lib.hid hw_
            have HI_ := Lib.hid hI_
            have Hn_ := Lib.hid hn_
            clear hV_ ha_ hw_ hI_ hn_
            go_simp
            exact ⟨HW_.out.on ((Below.refl _ _).alloc (Nat.le_refl _) _), HI_.out.new (List.mem_cons_self) HO_.out HU_.out (fun _ _ => trivial) HW_.out.none.size Hn_.out⟩
          refine wpLsI_one rfl ?s13_ (fun v13_ => ?_)
          case s13_ =>
            intro S_ V_ w_ hw_ hV_ ha_ hn_ hI_
            have HW_ := Lib.hid hw_
            have HI_ := Lib.hid hI_
            have Hn_ := Lib.hid hn_
            clear hV_ ha_ hw_ hI_ hn_
            go_simp
            exact ⟨HW_.out.on ((Below.refl _ _).alloc (Nat.le_refl _) _), HI_.out.new (List.mem_cons_of_mem _ (List.mem_cons_self)) HO_.out HU_.out (fun _ _ => trivial) HW_.out.none.size Hn_.out⟩
          refine wpLsI_one rfl ?s14_ (fun v14_ => ?_)
          case s14_ =>
            intro S_ V_ w_ hw_ hV_ ha_ hn_ hI_
            have HS_ := Lib.hid (show S_ 12 from ha_ 12 (by decide) rfl (by kernel_rfl))
            have HVV_ := Lib.hid (show V_ 12 = v12_ from hV_ 12 (by decide) rfl)
            have hx_ := Lib.hid (show ∃ b, V_ 12 = .pointer (some ⟨b, 0, none⟩) ∧ wr.heap.size ≤ b ∧ Blk w_ b 26 #[.int .i64 0, .int .i64 0, .int .i64 0] from hI_.slot (List.mem_cons_self) HS_.out hn_)
            have HW_ := Lib.hid hw_
            have HI_ := Lib.hid hI_
            have Hn_ := Lib.hid hn_
            clear hV_ ha_ hw_ hI_ hn_
            go_simp
            refine hx_.out.elim fun b_ hy_ => ?_
            have E_ := hy_.1
            have HN_ := Lib.hid hy_.2.1
            have hb_ := hy_.2.2
            rw [HVV_.out] at E_
            subst E_
            clear hx_ hy_
            obtain ⟨k0_, k1_, k2_, f0_, f1_, f2_⟩ := hb_.c3
            have Hb_ := Lib.hid hb_
            clear hb_
            go_simp
            exact ⟨HW_.out.new_set HN_.out kept3, HI_.out.set (List.mem_cons_self) HO_.out HU_.out (fun _ _ => trivial) Hn_.out HS_.out HVV_.out kept3 (Hb_.out.st3 _ _ _)⟩
          refine wpLsI_one rfl ?s15_ (fun v15_ => ?_)
          case s15_ =>
            intro S_ V_ w_ hw_ hV_ ha_ hn_ hI_
            have HS_ := Lib.hid (show S_ 13 from ha_ 13 (by decide) rfl (by kernel_rfl))
            have HVV_ := Lib.hid (show V_ 13 = v13_ from hV_ 13 (by decide) rfl)
            have hx_ := Lib.hid (show ∃ b, V_ 13 = .pointer (some ⟨b, 0, none⟩) ∧ wr.heap.size ≤ b ∧ Blk w_ b 26 #[.int .i64 0, .int .i64 0, .int .i64 0] from hI_.slot (List.mem_cons_of_mem _ (List.mem_cons_self)) HS_.out hn_)
            have HW_ := Lib.hid hw_
            have HI_ := Lib.hid hI_
            have Hn_ := Lib.hid hn_
            clear hV_ ha_ hw_ hI_ hn_
            go_simp
            refine hx_.out.elim fun b_ hy_ => ?_
            have E_ := hy_.1
            have HN_ := Lib.hid hy_.2.1
            have hb_ := hy_.2.2
            rw [HVV_.out] at E_
            subst E_
            clear hx_ hy_
            obtain ⟨k0_, k1_, k2_, f0_, f1_, f2_⟩ := hb_.c3
            have Hb_ := Lib.hid hb_
            clear hb_
            go_simp
            exact ⟨HW_.out.new_set HN_.out kept3, HI_.out.set (List.mem_cons_of_mem _ (List.mem_cons_self)) HO_.out HU_.out (fun _ _ => trivial) Hn_.out HS_.out HVV_.out kept3 (Hb_.out.st3 _ _ _)⟩
          refine wpLsI_nil fun V_ W2 hw_ hV_ hI_ => ?_
          obtain ⟨g0_W2, E12_, N0_W2, X0_W2⟩ : ∃ b, v12_ = .pointer (some ⟨b, 0, none⟩) ∧ wr.heap.size ≤ b ∧ Blk W2 b 26 #[.int .i64 d1, .int .i64 d2, .int .i64 d3] := by rw [← show V_ 12 = v12_ from hV_ 12 (by decide) rfl]; exact hI_.done (List.mem_cons_self) ⟨show 12 < 16 by decide, rfl⟩ ⟨show 14 < 16 by decide, rfl⟩
          obtain ⟨g1_W2, E13_, N1_W2, X1_W2⟩ : ∃ b, v13_ = .pointer (some ⟨b, 0, none⟩) ∧ wr.heap.size ≤ b ∧ Blk W2 b 26 #[.int .i64 e1, .int .i64 e2, .int .i64 e3] := by rw [← show V_ 13 = v13_ from hV_ 13 (by decide) rfl]; exact hI_.done (List.mem_cons_of_mem _ (List.mem_cons_self)) ⟨show 13 < 16 by decide, rfl⟩ ⟨show 15 < 16 by decide, rfl⟩
          subst E12_ E13_
          have h_W2 := hw_.none
          clear hV_ hI_ hw_ HU_ HO_
          simp only [tails]
          clear a0 a1 a2 a3 a4 a5 a6 a7 a8 b0 b1 b2 b3 b4 b5 b6 b7 b8 HPU
          have R := HR.out.on h_W2
          replace G := G.on h_W2
          have K2 := Lib.hid (after KK.out h_W2)
          have ng0 : g0_W2 ≠ g := by have := HR.out.lt; omega
          have ng1 : g1_W2 ≠ g := by have := HR.out.lt; omega
          clear h_W2 N0_W2 N1_W2 KK HR
          go_simp
          go_upto_region 10 with (fail)
          have HC1 := Lib.hid (fun d os => HN1.out (Go.Sort.grow (redrawn W2 d) os) (after K2.out (below_regrown _ _ _)))
          clear HN1
          have gg0 := fun d os => (G.re d os).cell 0
          have gg1 := fun d os => (G.re d os).cell 1
          have xx0 := fun d os => (X0_W2.re d os).cell 0
          have xx1 := fun d os => (X0_W2.re d os).cell 1
          have xx2 := fun d os => (X0_W2.re d os).cell 2
          simp only [List.getElem?_toArray, List.getElem?_cons_zero, List.getElem?_cons_succ] at xx0 xx1 xx2 gg0 gg1
          obtain ⟨a0, a1, a2, a3, a4, a5, a6, a7, a8⟩ := R.cells HE.out.1
          replace a0 := cell_regrown a0
          replace a1 := cell_regrown a1
          replace a2 := cell_regrown a2
          replace a3 := cell_regrown a3
          replace a4 := cell_regrown a4
          replace a5 := cell_regrown a5
          replace a6 := cell_regrown a6
          replace a7 := cell_regrown a7
          replace a8 := cell_regrown a8
          refine wp_region_last_below 10 (by kernel_rfl) rfl (by kernel_rfl) ?_
          simp only [List.take_succ_cons, List.take_zero, List.drop_succ_cons, List.drop_zero]
          repeat (go_big_quiet_step (with_reducible exact Calls.regrown_of (HC1.out _ _)))
          refine wpQuiet_nil ?_
          intro w' hw'
          obtain ⟨rg, rfl⟩ := hw'
          clear a0 a1 a2 a3 a4 a5 a6 a7 a8 xx0 xx1 xx2 gg0 gg1 HC1
          obtain ⟨W3, hW3⟩ : ∃ W3, W3 = Go.Sort.grow (redrawn W2 rg.d) rg.os := ⟨_, rfl⟩
          have hbW3 : Below W2.heap.size W2 W3 := by rw [hW3]; exact below_regrown _ _ _
          rw [← hW3]
          replace R := R.on hbW3
          replace G := G.on hbW3
          have K_W3 := Lib.hid (after K2.out hbW3)
          replace X1_W2 := X1_W2.on hbW3
          clear hW3 hbW3 K2 X0_W2
          obtain ⟨a0, a1, a2, a3, a4, a5, a6, a7, a8⟩ := R.cells HE.out.1
          have f0 := R.frz (i * 9)
          have f1 := R.frz (i * 9 + 1)
          have f2 := R.frz (i * 9 + 2)
          have f3 := R.frz (i * 9 + 3)
          have f4 := R.frz (i * 9 + 4)
          have f5 := R.frz (i * 9 + 5)
          have f6 := R.frz (i * 9 + 6)
          have f7 := R.frz (i * 9 + 7)
          have f8 := R.frz (i * 9 + 8)
          go_upto_region 11 with (fail)
          clear a0 a1 a2 a3 a4 a5 a6 a7 a8 f0 f1 f2 f3 f4 f5 f6 f7 f8
          replace R := R.set9 (show i < L.length from by have := HE.out.2.2.1; omega) x2 y2 z2 sx2 sy2 sz2 wd2 ht2 st2
          have K4 := Lib.hid (nine_below K_W3.out HGG.out (i * 9) (i * 9 + 1) (i * 9 + 2) (i * 9 + 3) (i * 9 + 4) (i * 9 + 5) (i * 9 + 6) (i * 9 + 7) (i * 9 + 8) (.int .i64 x2) (.int .i64 y2) (.int .i64 z2) (.int .i64 sx2) (.int .i64 sy2) (.int .i64 sz2) (.int .i64 wd2) (.int .i64 ht2) (.bool st2))
          replace G := nine_far G HNG.out (i * 9) (i * 9 + 1) (i * 9 + 2) (i * 9 + 3) (i * 9 + 4) (i * 9 + 5) (i * 9 + 6) (i * 9 + 7) (i * 9 + 8) (.int .i64 x2) (.int .i64 y2) (.int .i64 z2) (.int .i64 sx2) (.int .i64 sy2) (.int .i64 sz2) (.int .i64 wd2) (.int .i64 ht2) (.bool st2)
          replace X1_W2 := nine_far X1_W2 ng1 (i * 9) (i * 9 + 1) (i * 9 + 2) (i * 9 + 3) (i * 9 + 4) (i * 9 + 5) (i * 9 + 6) (i * 9 + 7) (i * 9 + 8) (.int .i64 x2) (.int .i64 y2) (.int .i64 z2) (.int .i64 sx2) (.int .i64 sy2) (.int .i64 sz2) (.int .i64 wd2) (.int .i64 ht2) (.bool st2)
          have H6 : (L.set i (x2, y2, z2, sx2, sy2, sz2, wd2, ht2, st2))[k]? = some (x1, y1, z1, sx1, sy1, sz1, wd1, ht1, st1) := by rw [List.getElem?_set_ne HE.out.2.2.2.1]; exact HE.out.2.1
          have H7 := Lib.hid H6
          clear H6 K_W3
          generalize (((((((((W3.setCell ⟨g, i * 9, none⟩ (.int .i64 x2)).setCell ⟨g, i * 9 + 1, none⟩ (.int .i64 y2)).setCell ⟨g, i * 9 + 2, none⟩ (.int .i64 z2)).setCell ⟨g, i * 9 + 3, none⟩ (.int .i64 sx2)).setCell ⟨g, i * 9 + 4, none⟩ (.int .i64 sy2)).setCell ⟨g, i * 9 + 5, none⟩ (.int .i64 sz2)).setCell ⟨g, i * 9 + 6, none⟩ (.int .i64 wd2)).setCell ⟨g, i * 9 + 7, none⟩ (.int .i64 ht2)).setCell ⟨g, i * 9 + 8, none⟩ (.bool st2)) = W4 at *
          have HC2 := Lib.hid (fun d os => HN2.out (Go.Sort.grow (redrawn W4 d) os) (after K4.out (below_regrown _ _ _)))
          clear HN2
          have gg0 := fun d os => (G.re d os).cell 0
          have gg1 := fun d os => (G.re d os).cell 1
          have xx0 := fun d os => (X1_W2.re d os).cell 0
          have xx1 := fun d os => (X1_W2.re d os).cell 1
          have xx2 := fun d os => (X1_W2.re d os).cell 2
          simp only [List.getElem?_toArray, List.getElem?_cons_zero, List.getElem?_cons_succ] at xx0 xx1 xx2 gg0 gg1
          obtain ⟨a0, a1, a2, a3, a4, a5, a6, a7, a8⟩ := R.cells H7.out
          replace a0 := cell_regrown a0
          replace a1 := cell_regrown a1
          replace a2 := cell_regrown a2
          replace a3 := cell_regrown a3
          replace a4 := cell_regrown a4
          replace a5 := cell_regrown a5
          replace a6 := cell_regrown a6
          replace a7 := cell_regrown a7
          replace a8 := cell_regrown a8
          refine wp_region_last_below 10 (by kernel_rfl) rfl (by kernel_rfl) ?_
          simp only [List.take_succ_cons, List.take_zero, List.drop_succ_cons, List.drop_zero]
          repeat (go_big_quiet_step (with_reducible exact Calls.regrown_of (HC2.out _ _)))
          refine wpQuiet_nil ?_
          intro w' hw'
          obtain ⟨rg, rfl⟩ := hw'
          clear a0 a1 a2 a3 a4 a5 a6 a7 a8 xx0 xx1 xx2 gg0 gg1 HC2
          obtain ⟨W5, hW5⟩ : ∃ W5, W5 = Go.Sort.grow (redrawn W4 rg.d) rg.os := ⟨_, rfl⟩
          have hbW5 : Below W4.heap.size W4 W5 := by rw [hW5]; exact below_regrown _ _ _
          rw [← hW5]
          replace R := R.on hbW5
          replace G := G.on hbW5
          have K_W5 := Lib.hid (after K4.out hbW5)
          clear hW5 hbW5 K4 X1_W2
          obtain ⟨a0, a1, a2, a3, a4, a5, a6, a7, a8⟩ := R.cells H7.out
          have f0 := R.frz (k * 9)
          have f1 := R.frz (k * 9 + 1)
          have f2 := R.frz (k * 9 + 2)
          have f3 := R.frz (k * 9 + 3)
          have f4 := R.frz (k * 9 + 4)
          have f5 := R.frz (k * 9 + 5)
          have f6 := R.frz (k * 9 + 6)
          have f7 := R.frz (k * 9 + 7)
          have f8 := R.frz (k * 9 + 8)
          go_wp2_with fail
          refine ⟨⟨m + 1, by have := HE.out.2.2.2.2.2; omega, by have := HE.out.2.2.2.2.2; rw [this]; go_num, ?_, nine_far G HNG.out _ _ _ _ _ _ _ _ _ _ _ _ _ _ _ _ _ _, Lib.hid (nine_below K_W5.out HGG.out _ _ _ _ _ _ _ _ _ _ _ _ _ _ _ _ _ _)⟩, next_less' hkn⟩
          rw [HL3.out, HP.out]
          exact R.set9 (show k < (L.set i (x2, y2, z2, sx2, sy2, sz2, wd2, ht2, st2)).length from by rw [List.length_set]; have := HE.out.2.2.1; omega) x3 y3 z3 sx3 sy3 sz3 wd3 ht3 st3
        · obtain ⟨e, em⟩ : i + 1 + m = n ∧ m = n - (i + 1) := ⟨by omega, by omega⟩
          rw [e]
          subst em
          have RR := Lib.hid R
          clear R e hm hkn HO'
          have h2 : ¬ ((n : Int) < (n : Int)) := by omega
          go_wp2_with fail
          exact ⟨⟨i + 1, by omega, by go_num, Lib.hid (fun _ => ⟨g, rfl, by have := HGG.out; have := HNG.out; have := HN0.out; omega, RR.out⟩), G, KK⟩, next_less' hlt⟩
    · obtain rfl : i = n := by omega
      have h1 : ¬ ((i : Int) < (i : Int)) := by omega
      have hlen := (HO.out i (Nat.le_refl _)).len
      rw [HL.out] at hlen
      have HLL := Lib.hid hlen
      clear hlen
      go_wp2_with fail
      go_returns
      refine ⟨_, rfl, ⟨q1, c1, by rw [HLL.out]; rfl, by rw [HLL.out]; exact hc1, HM1.out, fun hn => by obtain ⟨g, e, h1, h2⟩ := HR.out (by rw [HLL.out] at hn; exact hn); exact ⟨g, e, by have := HN0.out; omega, h2⟩⟩, KK.out⟩
end Go.Proofs.Ytnokibdecnddlaa

/- Two rows of bodies that grow side by side. -/
namespace Go.Proofs.Ytnokibdecnddlaa
open Go.RowKit
/-- Two rows in blocks of their own, one beside the other. -/
def TwoR (w : World) (K : Nat) (t1 t2 : TypeId) (v1 v2 : Value) (l1 l2 : List BD) : Prop := Owns w K t1 9 enBd v1 l1 ∧ Owns w K t2 9 enBd v2 l2 ∧ ∀ g, v1.ownBlock = some g → v2.ownBlock ≠ some g
section
variable {w w' : World} {K : Nat} {t1 t2 : TypeId} {v1 v2 : Value} {l1 l2 : List BD}
theorem TwoR.nil : TwoR w K t1 t2 (.slice none 0 0) (.slice none 0 0) [] [] := ⟨Owns.nil, Owns.nil, fun g h => by simp [Value.ownBlock] at h⟩
theorem TwoR.on (h : TwoR w K t1 t2 v1 v2 l1 l2) (hb : Below w.heap.size w w') : TwoR w' K t1 t2 v1 v2 l1 l2 := ⟨h.1.on hb, h.2.1.on hb, h.2.2⟩
theorem TwoR.sym (h : TwoR w K t1 t2 v1 v2 l1 l2) : TwoR w K t2 t1 v2 v1 l2 l1 := ⟨h.2.1, h.1, fun g h1 h2 => h.2.2 g h2 h1⟩
theorem bd_push {P : Program} {base : Nat} {e : TypeId} {v : Value} {xs : List BD} {ts ty : TypeId} {z : Value} {b : Nat} {x : BD} (ht : P.underlying ts = some (.slice e)) (hi : (P.info? e).map (fun i => (i.zero, i.size, i.bytes)) = some (some z, 9, 72)) (hz : z.cells.size = 9)
    (hown : Owns w base e 9 enBd v xs) (hx : ∀ j u, (enBd x)[j]? = some u → w.cell? ⟨b, j, none⟩ = some u) (h47 : (xs.length + 1) * 72 ≤ 140737488355328) (hbase : base ≤ w.heap.size) :
    ∃ v' w', (Builtin.append_ #[ts, ts] ty #[v, .slice (some ⟨b, 0, none⟩) 1 1]).run P w = .ok v' w' ∧ Owns w' base e 9 enBd v' (xs ++ [x]) ∧ w.grownBy w' v.ownBlock ∧ (v'.ownBlock = v.ownBlock ∨ v'.ownBlock = some w.heap.size) ∧ ∃ g cap, v' = .slice (some ⟨g, 0, none⟩) (xs.length + 1) cap := by
  obtain ⟨i, hi, hz0, hs0, hb0⟩ := info_parts hi
  have h63 : xs.length + 1 ≤ maxLen := by simp only [maxLen]; omega
  obtain ⟨v', w', h2, h3, h4, h5, h6⟩ := run_append_own_at (P := P) w base ts ty e i z 9 72 ht hi hz0 hs0 hb0 hz (by decide) v xs.length (xs.flatMap enBd) hown ⟨b, 0, none⟩ 1 1 (enBd x) rfl (fun j u hu => by
    have := hx j u hu
    unfold Addr.add
    by_cases hk : j = 0 <;> simp [hk] at this ⊢ <;> exact this) (oneB x) h63 h47 hbase
  refine ⟨v', w', h2, ?_, h4, h6, ?_⟩
  · unfold Owns
    rw [List.length_append, List.flatMap_append, List.length_singleton, List.flatMap_singleton]
    exact h3
  · rcases h3.2 with ⟨hv, h0⟩ | ⟨g, cap, _, hv, _⟩
    · omega
    · exact ⟨g, cap, hv⟩
/-- One more in the first row. -/
theorem TwoR.push {P : Program} {ts ty : TypeId} {z : Value} {b : Nat} {x : BD} (h : TwoR w K t1 t2 v1 v2 l1 l2) (ht : P.underlying ts = some (.slice t1)) (hi : (P.info? t1).map (fun i => (i.zero, i.size, i.bytes)) = some (some z, 9, 72)) (hz : z.cells.size = 9)
    (hx : ∀ j u, (enBd x)[j]? = some u → w.cell? ⟨b, j, none⟩ = some u) (h47 : l1.length ≤ 1000) (hbase : K ≤ w.heap.size) :
    ∃ v' w', (Builtin.append_ #[ts, ts] ty #[v1, .slice (some ⟨b, 0, none⟩) 1 1]).run P w = .ok v' w' ∧ TwoR w' K t1 t2 v' v2 (l1 ++ [x]) l2 ∧ Below K w w' ∧ ∃ g cap, v' = .slice (some ⟨g, 0, none⟩) (l1.length + 1) cap := by
  obtain ⟨v', w', h1, h2, h3, h4, h5⟩ := bd_push (P := P) (ty := ty) ht hi hz h.1 hx (by omega) hbase
  refine ⟨v', w', h1, ⟨h2, ?_, fun g hg hg2 => ?_⟩, (Below.refl _ _).grown h3 hbase fun k hk => (h.1.block k hk).1, h5⟩
  · refine ⟨h.2.1.1, ?_⟩
    rcases h.2.1.2 with h0 | ⟨g, cap, cur, hv, hbg, hg, r⟩
    · exact .inl h0
    · exact .inr ⟨g, cap, cur, hv, hbg, (h3.block g (Array.getElem?_eq_some_iff.1 hg).1 (fun e => h.2.2 g e.symm (by rw [hv]; rfl))).trans hg, r⟩
  · rcases h4 with e | e
    · rw [e] at hg; exact h.2.2 g hg hg2
    · rw [e] at hg
      cases hg
      exact absurd (h.2.1.block _ hg2).2 (Nat.lt_irrefl _)
theorem TwoR.form1 (h : TwoR w K t1 t2 v1 v2 l1 l2) : ∃ q cap, v1 = .slice q l1.length cap ∧ l1.length ≤ cap ∧ Rd w q 9 enBd l1 := by
  obtain ⟨q, cap, e, h1, -, h3, -⟩ := Owns.form (size := 9) (enc := enBd) (fun _ => rfl) h.1
  exact ⟨q, cap, e, h1, h3⟩
end
/-- The first so many bodies, made good. -/
def goodN (FL : Nat → BD) (i : Nat) : List BD := (List.range i).map (fun j => goodB (FL j))
theorem goodN_succ (FL : Nat → BD) (i : Nat) : goodN FL (i + 1) = goodN FL i ++ [goodB (FL i)] := by unfold goodN; rw [List.range_succ, List.map_append]; rfl
theorem goodN_len (FL : Nat → BD) (i : Nat) : (goodN FL i).length = i := by unfold goodN; simp
theorem goodN_at (FL : Nat → BD) {i j : Nat} (h : j < i) : (goodN FL i)[j]? = some (goodB (FL j)) := by unfold goodN; simp [h]
theorem goodN_ok (val : Cl → Int) (FL : Nat → BD) (i : Nat) : AllOk val 500000 (goodN FL i) (goodN FL i) := by
  refine ⟨rfl, fun j b hj => ?_, fun j a b ha hb h => ?_⟩
  · have hlt := (List.getElem?_eq_some_iff.1 hj).1
    rw [goodN_len] at hlt
    rw [goodN_at FL hlt] at hj
    obtain rfl := Option.some.inj hj
    exact goodB_ok _
  · rw [ha] at hb
    obtain rfl := Option.some.inj hb
    exact h
end Go.Proofs.Ytnokibdecnddlaa
