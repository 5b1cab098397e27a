/- Blobs by their keys, in rows that rise; what is put, asked, lost. No program in sight. -/
import Derived.Test.YtkopenemoddbbaaCrcP
import Derived.Test.YtkopenemoddbbaaBase
namespace Go.Proofs.Ytkopenemoddbbaa

abbrev Bs := List B8
section
variable {α β : Type}
/-- Keys that rise. -/
def Rise (l : List (Int × α)) : Prop := l.Pairwise (fun p q => p.1 < q.1)
/-- One is as it was put. -/
def putL : List (Int × α) → Int × α → List (Int × α)
  | [], w => [w]
  | x :: r, w => if w.1 < x.1 then w :: x :: r else if x.1 = w.1 then w :: r else x :: putL r w
theorem mem_putL {p w : Int × α} : ∀ {l : List (Int × α)}, p ∈ putL l w → p = w ∨ p ∈ l
  | [], h => by simpa [putL] using h
  | x :: r, h => by
    unfold putL at h
    split at h
    · simpa using h
    · split at h
      · rcases List.mem_cons.1 h with h | h
        · exact .inl h
        · exact .inr (List.mem_cons_of_mem _ h)
      · rcases List.mem_cons.1 h with h | h
        · exact .inr (h ▸ List.mem_cons_self)
        · rcases mem_putL h with h | h
          · exact .inl h
          · exact .inr (List.mem_cons_of_mem _ h)
theorem rise_cons {x : Int × α} {r : List (Int × α)} : Rise (x :: r) ↔ (∀ p ∈ r, x.1 < p.1) ∧ Rise r := List.pairwise_cons
theorem rise_nil : Rise ([] : List (Int × α)) := List.Pairwise.nil
theorem rise_putL {w : Int × α} : ∀ {l : List (Int × α)}, Rise l → Rise (putL l w)
  | [], _ => by simp [putL, Rise]
  | x :: r, h => by
    obtain ⟨h1, h2⟩ := rise_cons.1 h
    unfold putL
    split
    · rename_i hlt
      refine rise_cons.2 ⟨fun p hp => ?_, h⟩
      rcases List.mem_cons.1 hp with rfl | hp
      · exact hlt
      · have := h1 p hp; omega
    · split
      · rename_i he
        exact rise_cons.2 ⟨fun p hp => he ▸ h1 p hp, h2⟩
      · refine rise_cons.2 ⟨fun p hp => ?_, rise_putL h2⟩
        rcases mem_putL hp with rfl | hp
        · omega
        · exact h1 p hp
theorem map_putL (f : α → β) (w : Int × α) : ∀ l : List (Int × α), (putL l w).map (fun p => (p.1, f p.2)) = putL (l.map fun p => (p.1, f p.2)) (w.1, f w.2)
  | [] => rfl
  | x :: r => by
    unfold putL
    simp only [List.map_cons]
    split
    · simp
    · split
      · simp
      · simp [map_putL f w r]
theorem len_putL (w : Int × α) : ∀ l : List (Int × α), (putL l w).length ≤ l.length + 1
  | [] => by simp [putL]
  | x :: r => by
    unfold putL
    split
    · simp
    · split
      · simp
      · have := len_putL w r; simp; omega
theorem rise_map (f : α → β) {l : List (Int × α)} (h : Rise l) : Rise (l.map fun p => (p.1, f p.2)) := by
  unfold Rise at *
  rw [List.pairwise_map]
  exact h
/-- What lies at a key. -/
def getL (l : List (Int × α)) (k : Int) : Option α := (l.find? fun p => p.1 == k).map (·.2)
theorem getL_nil (k : Int) : getL ([] : List (Int × α)) k = none := rfl
theorem getL_cons (x : Int × α) (r : List (Int × α)) (k : Int) : getL (x :: r) k = if x.1 = k then some x.2 else getL r k := by
  unfold getL
  by_cases h : x.1 = k
  · rw [if_pos h, List.find?_cons_of_pos (by simpa using h)]; rfl
  · rw [if_neg h, List.find?_cons_of_neg (by simpa using h)]
theorem getL_none {l : List (Int × α)} {k : Int} (h : ∀ p ∈ l, p.1 ≠ k) : getL l k = none := by
  unfold getL
  rw [List.find?_eq_none.2 (fun p hp => by simpa using h p hp)]
  rfl
theorem getL_map (f : α → β) (k : Int) : ∀ l : List (Int × α), getL (l.map fun p => (p.1, f p.2)) k = (getL l k).map f
  | [] => rfl
  | x :: r => by
    rw [List.map_cons, getL_cons, getL_cons, getL_map f k r]
    dsimp only
    split <;> rfl
theorem getL_put (w : Int × α) (k : Int) : ∀ {l : List (Int × α)}, Rise l → getL (putL l w) k = if w.1 = k then some w.2 else getL l k
  | [], _ => by simp [putL, getL_cons, getL_nil]
  | x :: r, h => by
    obtain ⟨h1, h2⟩ := rise_cons.1 h
    unfold putL
    split
    · rw [getL_cons]
    · split
      · rename_i he
        rw [getL_cons, getL_cons]
        split
        · rfl
        · rw [if_neg (by omega)]
      · rw [getL_cons, getL_cons, getL_put w k h2]
        split
        · rw [if_neg (by omega)]
        · rfl
theorem getL_at {l : List (Int × α)} (h : Rise l) {i : Nat} {p : Int × α} (hi : l[i]? = some p) : getL l p.1 = some p.2 := by
  induction l generalizing i with
  | nil => cases hi
  | cons x r ih =>
    obtain ⟨h1, h2⟩ := rise_cons.1 h
    rw [getL_cons]
    cases i with
    | zero => obtain rfl : x = p := by simpa using hi
              rw [if_pos rfl]
    | succ i =>
      have hi' : r[i]? = some p := by simpa using hi
      have := h1 p (List.mem_of_getElem? hi')
      rw [if_neg (by omega)]
      exact ih h2 hi'
/-- The document's way: one behind the other. -/
def layStep (w : Int × α) (s : List (Int × α) × Bool) (x : Int × α) : List (Int × α) × Bool :=
  ((if x.1 ≠ w.1 then (if s.2 = false ∧ w.1 ≤ x.1 then s.1 ++ [w] else s.1) ++ [x] else if s.2 = false ∧ w.1 ≤ x.1 then s.1 ++ [w] else s.1), s.2 || decide (w.1 ≤ x.1))
def layA (w : Int × α) (l : List (Int × α)) : List (Int × α) × Bool := l.foldl (layStep w) ([], false)
def layF (w : Int × α) (s : List (Int × α) × Bool) : List (Int × α) := if s.2 then s.1 else s.1 ++ [w]
theorem layA_snoc (w : Int × α) (l : List (Int × α)) (x : Int × α) : layA w (l ++ [x]) = layStep w (layA w l) x := by simp [layA]
theorem lay_done (w : Int × α) : ∀ (l : List (Int × α)) (o : List (Int × α)), (∀ p ∈ l, w.1 < p.1) → l.foldl (layStep w) (o, true) = (o ++ l, true)
  | [], o, _ => by simp
  | x :: r, o, h => by
    have hx := h x List.mem_cons_self
    have e : layStep w (o, true) x = (o ++ [x], true) := by
      unfold layStep
      simp [show x.1 ≠ w.1 by omega]
    rw [List.foldl_cons, e, lay_done w r _ (fun p hp => h p (List.mem_cons_of_mem _ hp))]
    simp
theorem lay_open (w : Int × α) : ∀ (l : List (Int × α)) (o : List (Int × α)), Rise l → layF w (l.foldl (layStep w) (o, false)) = o ++ putL l w
  | [], o, _ => by simp [layF, putL]
  | x :: r, o, h => by
    obtain ⟨h1, h2⟩ := rise_cons.1 h
    unfold putL
    rw [List.foldl_cons]
    by_cases a : w.1 < x.1
    · have e : layStep w (o, false) x = (o ++ [w] ++ [x], true) := by
        unfold layStep
        simp [show x.1 ≠ w.1 by omega, show w.1 ≤ x.1 by omega]
      rw [e, lay_done w r _ (fun p hp => by have := h1 p hp; omega), if_pos a]
      simp [layF]
    · rw [if_neg a]
      by_cases b : x.1 = w.1
      · have e : layStep w (o, false) x = (o ++ [w], true) := by
          unfold layStep
          simp [b]
        rw [e, lay_done w r _ (fun p hp => by have := h1 p hp; omega), if_pos b]
        simp [layF]
      · have e : layStep w (o, false) x = (o ++ [x], false) := by
          unfold layStep
          simp [b, show ¬ w.1 ≤ x.1 by omega]
        rw [e, lay_open w r _ h2, if_neg b]
        simp
theorem lay_is (w : Int × α) {l : List (Int × α)} (h : Rise l) : layF w (layA w l) = putL l w := by
  have := lay_open w l [] h
  rw [List.nil_append] at this
  exact this
theorem layStep_len (w : Int × α) (s : List (Int × α) × Bool) (x : Int × α) : (layStep w s x).1.length ≤ s.1.length + 2 := by
  unfold layStep
  dsimp only
  split <;> split <;> simp
theorem lay_len (w : Int × α) : ∀ (l : List (Int × α)) (s : List (Int × α) × Bool), (l.foldl (layStep w) s).1.length ≤ s.1.length + 2 * l.length
  | [], s => by simp
  | x :: r, s => by
    rw [List.foldl_cons]
    have h1 := lay_len w r (layStep w s x)
    have h2 := layStep_len w s x
    simp only [List.length_cons]
    omega
theorem layA_len (w : Int × α) (l : List (Int × α)) : (layA w l).1.length ≤ 2 * l.length := by
  have := lay_len w l ([], false)
  simpa [layA] using this
theorem layStep_mem {w p : Int × α} {s : List (Int × α) × Bool} {x : Int × α} (h : p ∈ (layStep w s x).1) : p ∈ s.1 ∨ p = w ∨ p = x := by
  have h0 : p ∈ (if s.2 = false ∧ w.1 ≤ x.1 then s.1 ++ [w] else s.1) → p ∈ s.1 ∨ p = w := fun h => by
    split at h
    · rcases List.mem_append.1 h with h | h
      · exact .inl h
      · exact .inr (by simpa using h)
    · exact .inl h
  unfold layStep at h
  dsimp only at h
  split at h
  · rcases List.mem_append.1 h with h | h
    · exact (h0 h).imp id .inl
    · exact .inr (.inr (by simpa using h))
  · exact (h0 h).imp id .inl
/-- All, as they were put last. -/
def nowL (s l : List (Int × α)) : List (Int × α) := l.foldl putL s
theorem nowL_snoc (s l : List (Int × α)) (w : Int × α) : nowL s (l ++ [w]) = putL (nowL s l) w := by simp [nowL]
theorem nowL_cons (s l : List (Int × α)) (w : Int × α) : nowL s (w :: l) = nowL (putL s w) l := rfl
theorem rise_now : ∀ {l s : List (Int × α)}, Rise s → Rise (nowL s l)
  | [], _, h => h
  | w :: r, s, h => by rw [nowL_cons]; exact rise_now (rise_putL h)
theorem len_now : ∀ (l s : List (Int × α)), (nowL s l).length ≤ s.length + l.length
  | [], s => by simp [nowL]
  | w :: r, s => by
    rw [nowL_cons]
    have h1 := len_now r (putL s w)
    have h2 := len_putL w s
    simp only [List.length_cons]
    omega
theorem mem_now {p : Int × α} : ∀ {l s : List (Int × α)}, p ∈ nowL s l → p ∈ s ∨ p ∈ l
  | [], _, h => .inl h
  | w :: r, s, h => by
    rw [nowL_cons] at h
    rcases mem_now h with h | h
    · rcases mem_putL h with rfl | h
      · exact .inr List.mem_cons_self
      · exact .inl h
    · exact .inr (List.mem_cons_of_mem _ h)
theorem map_now (f : α → β) : ∀ (l s : List (Int × α)), (nowL s l).map (fun p => (p.1, f p.2)) = nowL (s.map fun p => (p.1, f p.2)) (l.map fun p => (p.1, f p.2))
  | [], s => rfl
  | w :: r, s => by rw [nowL_cons, map_now f r, map_putL]; rfl
end

/-! ### how many bytes -/
def lenB (l : List (Int × Bs)) : Nat := (l.map fun p => p.2.length).sum
theorem lenB_nil : lenB [] = 0 := rfl
theorem lenB_cons (x : Int × Bs) (r : List (Int × Bs)) : lenB (x :: r) = x.2.length + lenB r := by simp [lenB]
theorem lenB_snoc (x : Int × Bs) (r : List (Int × Bs)) : lenB (r ++ [x]) = lenB r + x.2.length := by simp [lenB]
theorem lenB_app (a r : List (Int × Bs)) : lenB (a ++ r) = lenB a + lenB r := by simp [lenB]
theorem lenB_perm {a r : List (Int × Bs)} (h : a.Perm r) : lenB a = lenB r := by
  unfold lenB
  exact (h.map _).sum_nat
theorem lenB_le {M : Nat} : ∀ {l : List (Int × Bs)}, (∀ p ∈ l, p.2.length ≤ M) → lenB l ≤ l.length * M
  | [], _ => by simp [lenB]
  | x :: r, h => by
    have h1 := h x List.mem_cons_self
    have h2 := lenB_le (l := r) (fun p hp => h p (List.mem_cons_of_mem _ hp))
    rw [lenB_cons, List.length_cons, Nat.succ_mul]
    omega
def sizeAt (l : List (Int × Bs)) (k : Int) : Nat := ((getL l k).getD []).length
theorem lenB_put (w : Int × Bs) : ∀ {l : List (Int × Bs)}, Rise l → lenB (putL l w) + sizeAt l w.1 = lenB l + w.2.length
  | [], _ => by simp [putL, lenB, sizeAt, getL_nil]
  | x :: r, h => by
    obtain ⟨h1, h2⟩ := rise_cons.1 h
    unfold putL sizeAt
    rw [getL_cons]
    split
    · rename_i hlt
      rw [if_neg (by omega), getL_none (fun p hp => by have := h1 p hp; omega)]
      simp only [lenB_cons, Option.getD_none, List.length_nil]
      omega
    · split
      · rename_i he
        simp only [lenB_cons, Option.getD_some]
        omega
      · have := lenB_put w h2
        unfold sizeAt at this
        simp only [lenB_cons]
        omega

/-! ### a disk -/
structure DS where
  room : Int
  fails : Int
  waits : Int
  safe : List (Int × Bs)
  l : List (Int × Bs)
namespace DS
def now (S : DS) : List (Int × Bs) := nowL S.safe S.l
/-- It is asked. -/
def asked (S : DS) : DS × Bool :=
  if 0 < S.waits then ({ S with waits := 0 }, false) else if 0 < S.fails then ({ S with fails := S.fails - 1 }, true) else (S, false)
def fits (S : DS) (k : Int) (b : Bs) : Bool := decide ((lenB (putL S.now (k, b)) : Int) ≤ S.room)
def put (S : DS) (k : Int) (b : Bs) : DS × Int :=
  if S.asked.2 then (S.asked.1, 9) else if S.fits k b then ({ S.asked.1 with l := S.l ++ [(k, b)] }, 0) else (S.asked.1, 8)
def sync (S : DS) : DS × Int :=
  if S.asked.2 then (S.asked.1, 9) else ({ S.asked.1 with safe := S.now, l := [] }, 0)
def fail (S : DS) (n : Int) : DS := if n < 0 then { S with fails := min (-n) 1048576, waits := 1 } else { S with fails := n, waits := 0 }
end DS
/-- The first bytes of what is under way. -/
def crashL : List (Int × Bs) → List (Int × Bs) → Nat → List (Int × Bs)
  | s, [], _ => s
  | s, w :: r, k => if w.2.length ≤ k then crashL (putL s w) r (k - w.2.length) else putL s (w.1, w.2.take k)
def keepB (S : DS) (n : Int) : Nat := min n.toNat (lenB S.l)
def DS.crash (S : DS) (n : Int) : DS × Int := ({ S with safe := crashL S.safe S.l (keepB S n), l := [], fails := 0, waits := 0 }, ((lenB S.l - keepB S n : Nat) : Int))
theorem asked_same (S : DS) : S.asked.1.safe = S.safe ∧ S.asked.1.l = S.l ∧ S.asked.1.room = S.room := by
  unfold DS.asked
  split
  · exact ⟨rfl, rfl, rfl⟩
  · split <;> exact ⟨rfl, rfl, rfl⟩
/-- What always holds of one: N of them at most, of at most M bytes each. -/
structure DOk (S : DS) (N M : Nat) : Prop where
  rise : Rise S.safe
  keys : ∀ p ∈ S.safe ++ S.l, In64 p.1
  many : S.safe.length + S.l.length ≤ N
  size : ∀ p ∈ S.safe ++ S.l, p.2.length ≤ M
  room : 0 ≤ S.room ∧ S.room ≤ 1048576
  waits : S.waits = 0 ∨ S.waits = 1
  fails : 0 ≤ S.fails ∧ S.fails ≤ 9223372036854775807
theorem DOk.mono {S : DS} {N N' M M' : Nat} (h : DOk S N M) (hN : N ≤ N') (hM : M ≤ M') : DOk S N' M' := ⟨h.rise, h.keys, Nat.le_trans h.many hN, fun p hp => Nat.le_trans (h.size p hp) hM, h.room, h.waits, h.fails⟩
theorem DOk.asked {S : DS} {N M : Nat} (h : DOk S N M) : DOk S.asked.1 N M := by
  obtain ⟨e1, e2, e3⟩ := asked_same S
  refine ⟨by rw [e1]; exact h.rise, by rw [e1, e2]; exact h.keys, by rw [e1, e2]; exact h.many, by rw [e1, e2]; exact h.size, by rw [e3]; exact h.room, ?_, ?_⟩
  · have := h.waits
    unfold DS.asked
    split
    · exact .inl rfl
    · split <;> exact this
  · have := h.fails
    unfold DS.asked
    split
    · exact this
    · split
      · dsimp only; omega
      · exact this
theorem DOk.put {S : DS} {N M : Nat} {k : Int} {b : Bs} (h : DOk S N M) (hk : In64 k) (hb : b.length ≤ M) : DOk (S.put k b).1 (N + 1) M := by
  have ha := h.asked
  obtain ⟨e1, e2, e3⟩ := asked_same S
  unfold DS.put
  split
  · exact ha.mono (by omega) (Nat.le_refl _)
  · split
    · refine ⟨ha.rise, fun p hp => ?_, ?_, fun p hp => ?_, ha.room, ha.waits, ha.fails⟩
      · dsimp only at hp
        rw [e1, ← List.append_assoc, List.mem_append] at hp
        rcases hp with hp | hp
        · exact h.keys p hp
        · obtain rfl : p = (k, b) := by simpa using hp
          exact hk
      · have := h.many
        dsimp only
        rw [e1, List.length_append, List.length_singleton]; omega
      · dsimp only at hp
        rw [e1, ← List.append_assoc, List.mem_append] at hp
        rcases hp with hp | hp
        · exact h.size p hp
        · obtain rfl : p = (k, b) := by simpa using hp
          exact hb
    · exact ha.mono (by omega) (Nat.le_refl _)
theorem DOk.now {S : DS} {N M : Nat} (h : DOk S N M) : Rise S.now ∧ (∀ p ∈ S.now, In64 p.1) ∧ S.now.length ≤ N ∧ (∀ p ∈ S.now, p.2.length ≤ M) :=
  ⟨rise_now h.rise, fun p hp => h.keys p (List.mem_append.2 (mem_now hp)), Nat.le_trans (len_now _ _) h.many, fun p hp => h.size p (List.mem_append.2 (mem_now hp))⟩
theorem DOk.sync {S : DS} {N M : Nat} (h : DOk S N M) : DOk S.sync.1 N M := by
  have ha := h.asked
  obtain ⟨n1, n2, n3, n4⟩ := h.now
  unfold DS.sync
  split
  · exact ha
  · exact ⟨n1, fun p hp => n2 p (by simpa using hp), by simpa using n3, fun p hp => n4 p (by simpa using hp), ha.room, ha.waits, ha.fails⟩
theorem DOk.fail {S : DS} {N M : Nat} (h : DOk S N M) {n : Int} (hn : n ≤ 9223372036854775807) : DOk (S.fail n) N M := by
  unfold DS.fail
  split
  · exact ⟨h.rise, h.keys, h.many, h.size, h.room, .inr rfl, by dsimp only; omega⟩
  · exact ⟨h.rise, h.keys, h.many, h.size, h.room, .inl rfl, by dsimp only; omega⟩
theorem crashL_ok {M : Nat} : ∀ {l s : List (Int × Bs)} {k : Nat}, Rise s → (∀ p ∈ s ++ l, In64 p.1) → (∀ p ∈ s ++ l, p.2.length ≤ M) →
    Rise (crashL s l k) ∧ (∀ p ∈ crashL s l k, In64 p.1) ∧ (crashL s l k).length ≤ s.length + l.length ∧ ∀ p ∈ crashL s l k, p.2.length ≤ M
  | [], s, k, h1, h2, h3 => by simpa [crashL] using ⟨h1, by simpa using h2, by simpa using h3⟩
  | w :: r, s, k, h1, h2, h3 => by
    unfold crashL
    have hw2 := h2 w (by simp)
    have hw3 := h3 w (by simp)
    split
    · obtain ⟨a, b, c, d⟩ := crashL_ok (M := M) (l := r) (s := putL s w) (k := k - w.2.length) (rise_putL h1) (fun p hp => by
        rcases List.mem_append.1 hp with hp | hp
        · rcases mem_putL hp with rfl | hp
          · exact hw2
          · exact h2 p (by simp [hp])
        · exact h2 p (by simp [hp])) (fun p hp => by
        rcases List.mem_append.1 hp with hp | hp
        · rcases mem_putL hp with rfl | hp
          · exact hw3
          · exact h3 p (by simp [hp])
        · exact h3 p (by simp [hp]))
      have := len_putL w s
      exact ⟨a, b, by simp only [List.length_cons]; omega, d⟩
    · have := len_putL (w.1, w.2.take k) s
      refine ⟨rise_putL h1, fun p hp => ?_, by simp only [List.length_cons]; omega, fun p hp => ?_⟩
      · rcases mem_putL hp with rfl | hp
        · exact hw2
        · exact h2 p (by simp [hp])
      · rcases mem_putL hp with rfl | hp
        · simp only [List.length_take]; omega
        · exact h3 p (by simp [hp])
theorem DOk.crash {S : DS} {N M : Nat} (h : DOk S N M) (n : Int) : DOk (S.crash n).1 N M := by
  obtain ⟨a, b, c, d⟩ := crashL_ok (k := keepB S n) h.rise h.keys h.size
  have := h.many
  exact ⟨a, fun p hp => b p (by simpa [DS.crash] using hp), by simp only [DS.crash, List.length_nil]; omega, fun p hp => d p (by simpa [DS.crash] using hp), h.room, .inl rfl, by simp [DS.crash]⟩
/-- All that is under way is kept: as a sync. -/
theorem crash_all : ∀ {l s : List (Int × Bs)} {k : Nat}, lenB l ≤ k → crashL s l k = nowL s l
  | [], _, _, _ => rfl
  | w :: r, s, k, h => by
    rw [lenB_cons] at h
    unfold crashL
    rw [if_pos (by omega), nowL_cons]
    exact crash_all (by omega)
theorem lenB_now {M : Nat} {S : DS} {N : Nat} (h : DOk S N M) : lenB S.now ≤ N * M := by
  obtain ⟨-, -, n3, n4⟩ := h.now
  exact Nat.le_trans (lenB_le n4) (Nat.mul_le_mul_right _ n3)
end Go.Proofs.Ytkopenemoddbbaa
