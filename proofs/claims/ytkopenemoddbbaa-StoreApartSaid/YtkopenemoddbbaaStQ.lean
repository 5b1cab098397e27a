/- What saves do to records. No walk here. -/
import Derived.Test.YtkopenemoddbbaaStT
namespace Go.Proofs.Ytkopenemoddbbaa

/-- It fails at nothing. -/
def Calm (S : DS) : Prop := S.fails = 0 ∧ S.waits = 0
theorem asked_calm {S : DS} (h : Calm S) : S.asked = (S, false) := by
  unfold DS.asked
  rw [if_neg (by rw [h.2]; decide), if_neg (by rw [h.1]; decide)]
theorem slots_ne {i j k l : Int} (hk : k = 2 * i ∨ k = 2 * i + 1) (hl : l = 2 * j ∨ l = 2 * j + 1) (h : i ≠ j) : k ≠ l := by omega
theorem of_other {S S' : DS} {j : Int} (h0 : recAt S' (2 * j) = recAt S (2 * j)) (h1 : recAt S' (2 * j + 1) = recAt S (2 * j + 1)) : ofV S' j = ofV S j := by
  unfold ofV
  rw [h0, h1]
/-- What is known of an id's record. -/
theorem of_is (S : DS) (id : Int) : ((ofV S id).1 = 2 * id + 1 ∧ (ofV S id).2.1 = 0 ∧ (ofV S id).2.2 = [] ∧ (recAt S (2 * id)).2.2 ≠ 0 ∧ (recAt S (2 * id + 1)).2.2 ≠ 0) ∨
    (recAt S (ofV S id).1 = ((ofV S id).2.1, (ofV S id).2.2, 0) ∧ 1 ≤ (ofV S id).2.1 ∧ ((recAt S (4 * id + 1 - (ofV S id).1)).2.2 = 0 → (recAt S (4 * id + 1 - (ofV S id).1)).1 ≤ (ofV S id).2.1)) := by
  have p1 : (recAt S (2 * id)).2.2 = 0 → 1 ≤ (recAt S (2 * id)).1 := fun h => (recAt_pos h).1
  have p2 : (recAt S (2 * id + 1)).2.2 = 0 → 1 ≤ (recAt S (2 * id + 1)).1 := fun h => (recAt_pos h).1
  have e1 : 4 * id + 1 - 2 * id = 2 * id + 1 := by omega
  have e2 : 4 * id + 1 - (2 * id + 1) = 2 * id := by omega
  unfold ofV
  by_cases a : (recAt S (2 * id)).2.2 = 0
  · rw [if_pos a]
    by_cases b : (recAt S (2 * id + 1)).2.2 = 0 ∧ (recAt S (2 * id)).1 < (recAt S (2 * id + 1)).1
    · rw [if_pos b]
      refine .inr ⟨Prod.ext rfl (Prod.ext rfl b.1), p2 b.1, fun _ => ?_⟩
      dsimp only
      rw [e2]; omega
    · rw [if_neg b]
      refine .inr ⟨Prod.ext rfl (Prod.ext rfl a), p1 a, fun h => ?_⟩
      dsimp only at h ⊢
      rw [e1] at h ⊢
      by_cases c : (recAt S (2 * id)).1 < (recAt S (2 * id + 1)).1
      · exact absurd ⟨h, c⟩ b
      · omega
  · rw [if_neg a]
    by_cases b : (recAt S (2 * id + 1)).2.2 = 0
    · rw [if_pos b]
      refine .inr ⟨Prod.ext rfl (Prod.ext rfl b), p2 b, fun h => ?_⟩
      dsimp only at h
      rw [e2] at h
      exact absurd h a
    · rw [if_neg b]
      exact .inl ⟨rfl, rfl, rfl, a, b⟩
/-- The greater one is the id's. -/
theorem of_top {S : DS} {id k u : Int} {b : Bs} (hk : k = 2 * id ∨ k = 2 * id + 1) (hr : recAt S k = (u, b, 0)) (ho : (recAt S (4 * id + 1 - k)).2.2 = 0 → (recAt S (4 * id + 1 - k)).1 < u) : ofV S id = (k, u, b) := by
  have e1 : 4 * id + 1 - 2 * id = 2 * id + 1 := by omega
  have e2 : 4 * id + 1 - (2 * id + 1) = 2 * id := by omega
  unfold ofV
  rcases hk with rfl | rfl
  · rw [e1] at ho
    rw [hr, if_pos rfl, if_neg (fun h => by have := ho h.1; have := h.2; dsimp only at this; omega)]
  · rw [e2] at ho
    rw [hr]
    by_cases a : (recAt S (2 * id)).2.2 = 0
    · rw [if_pos a, if_pos ⟨rfl, ho a⟩]
    · rw [if_neg a, if_pos rfl]
theorem recAt_now {S S' : DS} (h : S'.now = S.now) (j : Int) : recAt S' j = recAt S j := by
  unfold recAt DS.get
  rw [h]
theorem recAt_put {S S' : DS} {k : Int} {b : Bs} (hr : Rise S.now) (h : S'.now = putL S.now (k, b)) (j : Int) : recAt S' j = if k = j then readL b else recAt S j := by
  unfold recAt DS.get
  rw [h, getL_put _ _ hr]
  split <;> rfl
theorem of_now {S S' : DS} (h : S'.now = S.now) (j : Int) : ofV S' j = ofV S j := of_other (recAt_now h _) (recAt_now h _)
/-- Behind a save. -/
theorem of_after {S S' : DS} {id : Int} {b : Bs} (hr : Rise S.now) (h : S'.now = putL S.now (4 * id + 1 - (ofV S id).1, recB ((ofV S id).2.1 + 1) b)) (hv : (ofV S id).2.1 < 1073741824) (hb : b.length ≤ 65536) :
    ofV S' id = (4 * id + 1 - (ofV S id).1, (ofV S id).2.1 + 1, b) ∧ ∀ j, j ≠ id → ofV S' j = ofV S j := by
  have hs := ofV_slot S id
  have h0 := (ofV_int S id).1
  constructor
  · refine of_top (by omega) ?_ fun h1 => ?_
    · rw [recAt_put hr h, if_pos rfl, read_rec (by omega) (by omega) hb]
    · rw [show 4 * id + 1 - (4 * id + 1 - (ofV S id).1) = (ofV S id).1 by omega, recAt_put hr h, if_neg (by omega)] at h1 ⊢
      rcases of_is S id with ⟨a, -, -, -, c⟩ | ⟨a, -, -⟩
      · rw [a] at h1; exact absurd h1 c
      · rw [a]; dsimp only; omega
  · intro j hj
    refine of_other ?_ ?_
    · rw [recAt_put hr h, if_neg (by omega)]
    · rw [recAt_put hr h, if_neg (by omega)]
/-- The slot that is written. -/
noncomputable def toV (S : DS) (id : Int) : Int := 4 * id + 1 - (ofV S id).1
noncomputable def newB (S : DS) (id : Int) (b : Bs) : Bs := recB ((ofV S id).2.1 + 1) b
theorem newB_len (S : DS) (id : Int) (b : Bs) : (newB S id b).length = b.length + 9 := recB_len _ _
theorem toV_in {S : DS} {id : Int} (h : mayId id = true) : In64 (toV S id) := by
  have := ofV_slot S id
  unfold mayId at h
  have h2 : 0 ≤ id ∧ id ≤ 1099511627776 := by simpa using h
  unfold toV In64
  omega
theorem save_is {S : DS} {id : Int} {b : Bs} (hid : mayId id = true) (hv : (ofV S id).2.1 < 1073741824) (hb : b.length ≤ 65536) :
    saveV S id b = if (S.put (toV S id) (newB S id b)).2 = 0 then (S.put (toV S id) (newB S id b)).1.sync else S.put (toV S id) (newB S id b) := by
  have h0 := (ofV_int S id).1
  unfold saveV toV newB
  rw [if_pos hid, show writeL ((ofV S id).2.1 + 1) b = some (recB ((ofV S id).2.1 + 1) b) from by unfold writeL mayW; rw [if_pos (by simp; omega)]]
theorem save_long {S : DS} {id : Int} {b : Bs} (hb : 65536 < b.length) : saveV S id b = (S, 1) := by
  unfold saveV
  split
  · rw [show writeL ((ofV S id).2.1 + 1) b = none from by unfold writeL mayW; rw [if_neg (by simp; omega)]]
  · rfl
theorem save_out {S : DS} {id : Int} {b : Bs} (h : mayId id = false) : saveV S id b = (S, 1) := by
  unfold saveV
  rw [h]; rfl
theorem load_out {S : DS} {id : Int} (h : mayId id = false) : loadV S id = ([], 0, false) := by
  unfold loadV
  rw [h]; rfl
theorem load_in {S : DS} {id : Int} (h : mayId id = true) : loadV S id = ((ofV S id).2.2, (ofV S id).2.1, decide (0 < (ofV S id).2.1)) := by
  unfold loadV
  rw [if_pos h]
/-- A save that nothing hinders. -/
theorem save_calm {S : DS} {N M : Nat} {id : Int} {b : Bs} (hok : DOk S N M) (hc : Calm S) (hid : mayId id = true) (hv : (ofV S id).2.1 < 1073741824) (hb : b.length ≤ 65536) (hM : b.length + 9 ≤ M) (hroom : (((N + 1) * M : Nat) : Int) ≤ S.room) :
    ∃ S', saveV S id b = (S', 0) ∧ Calm S' ∧ S'.room = S.room ∧ S'.l = [] ∧ S'.now = putL S.now (toV S id, newB S id b) ∧ DOk S' (N + 1) M ∧ ofV S' id = (toV S id, (ofV S id).2.1 + 1, b) ∧ ∀ j, j ≠ id → ofV S' j = ofV S j := by
  have hr := hok.now.1
  have hin : In64 (toV S id) := toV_in hid
  have hfit : S.fits (toV S id) (newB S id b) = true := by
    have h1 := lenB_put (toV S id, newB S id b) hr
    have h2 := lenB_now hok
    have h3 := newB_len S id b
    have h4 : (N + 1) * M = N * M + M := Nat.succ_mul N M
    dsimp only at h1
    unfold DS.fits
    simp only [decide_eq_true_eq]
    omega
  have hput : S.put (toV S id) (newB S id b) = ({ S with l := S.l ++ [(toV S id, newB S id b)] }, 0) := by
    unfold DS.put
    rw [asked_calm hc, hfit]
    rfl
  have hok1 := hok.put hin (b := newB S id b) (by rw [newB_len]; exact hM)
  rw [hput] at hok1
  have hc1 : Calm { S with l := S.l ++ [(toV S id, newB S id b)] } := hc
  have hn1 : DS.now { S with l := S.l ++ [(toV S id, newB S id b)] } = putL S.now (toV S id, newB S id b) := nowL_snoc _ _ _
  have hsync : DS.sync { S with l := S.l ++ [(toV S id, newB S id b)] } = ({ S with safe := putL S.now (toV S id, newB S id b), l := [] }, 0) := by
    unfold DS.sync
    rw [asked_calm hc1, hn1]
    rfl
  have hok2 := hok1.sync
  dsimp only at hok2
  rw [hsync] at hok2
  have hn2 : DS.now { S with safe := putL S.now (toV S id, newB S id b), l := [] } = putL S.now (toV S id, newB S id b) := rfl
  obtain ⟨h1, h2⟩ := of_after hr (hn2 : DS.now _ = putL S.now (4 * id + 1 - (ofV S id).1, recB ((ofV S id).2.1 + 1) b)) hv hb
  refine ⟨{ S with safe := putL S.now (toV S id, newB S id b), l := [] }, ?_, hc, rfl, rfl, hn2, hok2, h1, h2⟩
  rw [save_is hid hv hb, hput, if_pos rfl, hsync]
/-- A save that fails at once. -/
theorem save_fails {S : DS} {id : Int} {b : Bs} (hf : 0 < S.fails) (hw : S.waits = 0) (hid : mayId id = true) (hv : (ofV S id).2.1 < 1073741824) (hb : b.length ≤ 65536) : saveV S id b = ({ S with fails := S.fails - 1 }, 9) := by
  have ha : S.asked = ({ S with fails := S.fails - 1 }, true) := by
    unfold DS.asked
    rw [if_neg (by rw [hw]; decide), if_pos hf]
  have hput : S.put (toV S id) (newB S id b) = ({ S with fails := S.fails - 1 }, 9) := by
    unfold DS.put
    rw [ha]; rfl
  rw [save_is hid hv hb, hput]
  rfl
theorem DOk.save {S : DS} {N M : Nat} {id : Int} {b : Bs} (h : DOk S N M) (hM : b.length + 9 ≤ M) : DOk (saveV S id b).1 (N + 1) M := by
  have h0 : DOk S (N + 1) M := h.mono (by omega) (Nat.le_refl _)
  by_cases hid : mayId id = true
  · unfold saveV
    rw [if_pos hid]
    cases hw : writeL ((ofV S id).2.1 + 1) b with
    | none => exact h0
    | some r =>
      have hr : r.length ≤ M := by
        unfold writeL at hw
        split at hw
        · obtain rfl := Option.some.inj hw
          rw [recB_len]; exact hM
        · cases hw
      have hp := h.put (toV_in (S := S) hid) hr
      unfold toV at hp
      dsimp only
      split
      · exact hp.sync
      · exact hp
  · rw [save_out (by simpa using hid)]; exact h0
end Go.Proofs.Ytkopenemoddbbaa
