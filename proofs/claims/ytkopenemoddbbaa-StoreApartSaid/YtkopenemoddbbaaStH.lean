/- Spoiling: the plain law; a spoiling whose answer is known. -/
import Derived.Test.YtkopenemoddbbaaStG
namespace Go.Proofs.Ytkopenemoddbbaa
open Go.RowKit
attribute [local go_sem] Oper.semAt_some

theorem fail0 (S : DS) : S.fail 0 = { S with fails := 0, waits := 0 } := by unfold DS.fail; rw [if_neg (by decide)]
/-- A slot is put anew, nothing hinders. -/
theorem put_calm {S : DS} {N M : Nat} {k : Int} {b : Bs} (hok : DOk S N M) (hc : Calm S) (hM : b.length ≤ M) (hroom : (((N + 1) * M : Nat) : Int) ≤ S.room) : S.put k b = ({ S with l := S.l ++ [(k, b)] }, 0) := by
  have hfit : S.fits k b = true := by
    have h1 := lenB_put (k, b) hok.now.1
    have h2 := lenB_now hok
    have h4 : (N + 1) * M = N * M + M := Nat.succ_mul N M
    dsimp only at h1
    unfold DS.fits
    simp only [decide_eq_true_eq]
    omega
  unfold DS.put
  rw [asked_calm hc, hfit]
  rfl
theorem spoil_calm {S : DS} {N M : Nat} {k : Int} {j : Nat} {x : B8} (hok : DOk S N M) (hk : In64 k) (hj : j < ((S.get k).getD []).length) (hroom : (((N + 1) * M : Nat) : Int) ≤ S.room) :
    ∃ S', spoilV S k j x = (S', true) ∧ Calm S' ∧ S'.room = S.room ∧ S'.l = [] ∧ DOk S' (N + 1) M ∧ S'.now = putL S.now (k, turnB ((S.get k).getD []) j x) := by
  have hsz := get_size hok k
  generalize hb : (S.get k).getD [] = b at *
  have hokf := hok.fail (n := 0) (by decide)
  have hc : Calm (S.fail 0) := by rw [fail0]; exact ⟨rfl, rfl⟩
  have hrm : (S.fail 0).room = S.room := by rw [fail0]
  have hnf : (S.fail 0).now = S.now := by rw [fail0]; rfl
  have hp := put_calm (k := k) (b := turnB b j x) hokf hc (by rw [turnB_len]; exact hsz) (by rw [hrm]; exact hroom)
  have hok1 := hokf.put hk (b := turnB b j x) (by rw [turnB_len]; exact hsz)
  have hv : spoilV S k j x = (((S.fail 0).put k (turnB b j x)).1.sync.1, true) := by
    unfold spoilV
    rw [hb, if_pos ⟨Int.natCast_nonneg j, by omega⟩, Int.toNat_natCast]
  generalize S.fail 0 = Sf at *
  rw [hp] at hv hok1
  have hc1 : Calm { Sf with l := Sf.l ++ [(k, turnB b j x)] } := hc
  have hn1 : DS.now { Sf with l := Sf.l ++ [(k, turnB b j x)] } = putL Sf.now (k, turnB b j x) := nowL_snoc _ _ _
  have hsync : DS.sync { Sf with l := Sf.l ++ [(k, turnB b j x)] } = ({ Sf with safe := putL Sf.now (k, turnB b j x), l := [] }, 0) := by
    unfold DS.sync
    rw [asked_calm hc1, hn1]
    rfl
  have hok2 := hok1.sync
  dsimp only at hv hok2
  rw [hsync] at hv hok2
  exact ⟨_, hv, hc, hrm, rfl, hok2, by rw [← hnf]; rfl⟩
theorem spoil_out {S : DS} {k at_ : Int} {x : B8} (h : ¬ (0 ≤ at_ ∧ at_ < (((S.get k).getD []).length : Int))) : spoilV S k at_ x = (S, false) := by
  unfold spoilV
  rw [if_neg h]
theorem get_put {S S' : DS} {k : Int} {b : Bs} (hr : Rise S.now) (h : S'.now = putL S.now (k, b)) (j : Int) : S'.get j = if k = j then some b else S.get j := by
  unfold DS.get
  rw [h, getL_put _ _ hr]
theorem turn_zero (b : Bs) (j : Nat) (h : j < b.length) : turnB b j 0 = b := by
  unfold turnB
  have e : b.getD j 0 ^^^ 0 = b.getD j 0 := by simp
  rw [e]
  apply List.ext_getElem?
  intro i
  rw [List.getElem?_set]
  by_cases c : j = i
  · subst c; simp [h]
  · rw [if_neg c]
theorem spoils_plain (a b : Bs) (ha : a.length ≤ 20) (hb : b.length ≤ 20) (k : Nat) (hk : k < b.length + 9) (x : B8) :
    ∃ S1 S2 S3 : DS, saveV (newS 1000) 3 a = (S1, 0) ∧ saveV S1 3 b = (S2, 0) ∧ spoilV S2 7 k x = (S3, true) ∧ spoilV S3 7 (9 + b.length) x = (S3, false) ∧ spoilV S3 8 0 x = (S3, false) ∧
      (x = 0 → loadV S3 3 = (b, 2, true)) ∧ (x ≠ 0 → loadV S3 3 = (a, 1, true)) ∧ DOk S1 4 29 ∧ DOk S2 4 29 ∧ DOk S3 4 29 := by
  have e0 : ∀ j, ofV (newS 1000) j = (2 * j + 1, 0, []) := fun j => of_empty rfl j
  have hm : mayId 3 = true := by decide
  obtain ⟨S1, s1, c1, r1, -, n1, k1, o1, -⟩ := save_calm (S := newS 1000) (N := 0) (M := 29) (id := 3) (b := a) ((newS_ok 1000).mono (Nat.le_refl _) (by decide)) ⟨rfl, rfl⟩ hm (by rw [e0]; decide) (by omega) (by omega) (by decide)
  have t0 : toV (newS 1000) 3 = 6 := by unfold toV; rw [e0]; decide
  rw [t0] at o1 n1
  rw [e0] at o1
  have v1 : ofV S1 3 = (6, 1, a) := o1
  have room1 : S1.room = 1000 := r1.trans (by decide)
  obtain ⟨S2, s2, c2, r2, -, n2, k2, o2, -⟩ := save_calm (S := S1) (N := 1) (M := 29) (id := 3) (b := b) k1 c1 hm (by rw [v1]; show (1 : Int) < 1073741824; decide) (by omega) (by omega) (by rw [room1]; decide)
  have t1 : toV S1 3 = 7 := by unfold toV; rw [v1]; show (4 * 3 + 1 - 6 : Int) = 7; decide
  rw [t1] at o2 n2
  rw [v1] at o2
  have v2 : ofV S2 3 = (7, 2, b) := o2
  have room2 : S2.room = 1000 := r2.trans room1
  have hnb : newB S1 3 b = recB 2 b := by unfold newB; rw [v1]; rfl
  have hna : newB (newS 1000) 3 a = recB 1 a := by unfold newB; rw [e0]; rfl
  rw [hnb] at n2
  rw [hna] at n1
  have g7 : (S2.get 7).getD [] = recB 2 b := by rw [get_put k1.now.1 n2, if_pos rfl]; rfl
  have g8 : (S2.get 8).getD [] = [] := by
    rw [get_put k1.now.1 n2, if_neg (by decide), get_put (newS_ok 1000).now.1 n1, if_neg (by decide)]; rfl
  have l7 := recB_len 2 b
  obtain ⟨S3, s3, c3, r3, -, k3, n3⟩ := spoil_calm (k := 7) (j := k) (x := x) k2 ⟨by decide, by decide⟩ (by rw [g7]; omega) (by rw [room2]; decide)
  rw [g7] at n3
  have h7 : (S3.get 7).getD [] = turnB (recB 2 b) k x := by rw [get_put k2.now.1 n3, if_pos rfl]; rfl
  have h8 : (S3.get 8).getD [] = [] := by rw [get_put k2.now.1 n3, if_neg (by decide)]; exact g8
  refine ⟨S1, S2, S3, s1, s2, s3, spoil_out (fun h => ?_), spoil_out (fun h => ?_), fun hx => ?_, fun hx => ?_, k1.mono (by omega) (Nat.le_refl _), k2.mono (by omega) (Nat.le_refl _), k3.mono (by omega) (Nat.le_refl _)⟩
  · rw [h7, turnB_len, l7] at h
    omega
  · rw [h8] at h
    have := h.2
    simp at this
  · subst hx
    rw [turn_zero _ _ (by omega)] at n3
    have e : ofV S3 3 = (7, 2, b) := by
      rw [← v2]
      refine of_other ?_ ?_
      · rw [recAt_put k2.now.1 n3, if_neg (by decide)]
      · rw [recAt_put k2.now.1 n3, if_pos (by decide)]
        unfold recAt
        rw [show (2 * 3 + 1 : Int) = 7 by decide, g7]
    rw [load_in hm, e]
    rfl
  · have r7 : (recAt S3 7).2.2 ≠ 0 := by
      rw [recAt_put k2.now.1 n3, if_pos rfl]
      refine read_turned (by omega) fun h => hx ?_
      have h2 := congrArg (fun z => (recB 2 b).getD k 0 ^^^ z) h
      simpa [← BitVec.xor_assoc] using h2
    have r6 : recAt S3 6 = (1, a, 0) := by
      rw [recAt_put k2.now.1 n3, if_neg (by decide), recAt_put k1.now.1 n2, if_neg (by decide), recAt_put (newS_ok 1000).now.1 n1, if_pos rfl, read_rec (by decide) (by decide) (by omega)]
    have e : ofV S3 3 = (6, 1, a) := of_top (.inl (by decide)) r6 fun h => absurd h r7
    rw [load_in hm, e]
    rfl
theorem apart_plain (a b : Bs) (ha : a.length ≤ 20) (hb : b.length ≤ 20) (i k : Int) (hi : 0 ≤ i ∧ i < 100) (hk : 0 ≤ k ∧ k < 100) (at_ : Int) (x : B8) :
    ∃ S1 S2 S3 r, saveV (newS 1000) i a = (S1, 0) ∧ saveV S1 k b = (S2, 0) ∧ spoilV S2 (2 * k) at_ x = (S3, r) ∧ (i = k → loadV S2 i = (b, 2, true)) ∧ (i ≠ k → loadV S2 i = (a, 1, true) ∧ loadV S3 i = (a, 1, true)) ∧ DOk S1 4 29 ∧ DOk S2 4 29 ∧ DOk S3 4 29 := by
  have e0 : ∀ j, ofV (newS 1000) j = (2 * j + 1, 0, []) := fun j => of_empty rfl j
  have hmi : mayId i = true := by unfold mayId; simp; omega
  have hmk : mayId k = true := by unfold mayId; simp; omega
  obtain ⟨S1, s1, c1, r1, -, n1, k1, o1, q1⟩ := save_calm (S := newS 1000) (N := 0) (M := 29) (id := i) (b := a) ((newS_ok 1000).mono (Nat.le_refl _) (by decide)) ⟨rfl, rfl⟩ hmi (by rw [e0]; show (0 : Int) < 1073741824; decide) (by omega) (by omega) (by decide)
  rw [e0] at o1
  have room1 : S1.room = 1000 := r1.trans (by decide)
  have v1 : (ofV S1 k).2.1 ≤ 1 := by
    by_cases e : k = i
    · rw [e, o1]; show (0 : Int) + 1 ≤ 1; decide
    · rw [q1 k e, e0]; show (0 : Int) ≤ 1; decide
  obtain ⟨S2, s2, c2, r2, -, n2, k2, o2, q2⟩ := save_calm (S := S1) (N := 1) (M := 29) (id := k) (b := b) k1 c1 hmk (by omega) (by omega) (by omega) (by rw [room1]; decide)
  have room2 : S2.room = 1000 := r2.trans room1
  have hs : ∃ S3 r, spoilV S2 (2 * k) at_ x = (S3, r) ∧ DOk S3 4 29 ∧ ∀ j, j ≠ 2 * k → recAt S3 j = recAt S2 j := by
    by_cases h : 0 ≤ at_ ∧ at_ < (((S2.get (2 * k)).getD []).length : Int)
    · obtain ⟨j, rfl⟩ := Int.eq_ofNat_of_zero_le h.1
      obtain ⟨S3, s3, c3, r3, -, k3, n3⟩ := spoil_calm (k := 2 * k) (j := j) (x := x) k2 (by unfold In64; omega) (by omega) (by rw [room2]; decide)
      exact ⟨S3, true, s3, k3.mono (by omega) (Nat.le_refl _), fun j hj => by rw [recAt_put k2.now.1 n3, if_neg (fun e => hj e.symm)]⟩
    · exact ⟨S2, false, spoil_out h, k2.mono (by omega) (Nat.le_refl _), fun j _ => rfl⟩
  obtain ⟨S3, r, s3, k3, q3⟩ := hs
  refine ⟨S1, S2, S3, r, s1, s2, s3, fun e => ?_, fun e => ?_, k1.mono (by omega) (Nat.le_refl _), k2.mono (by omega) (Nat.le_refl _), k3⟩
  · subst e
    rw [load_in hmi, o2, o1]
    rfl
  · have v2 : ofV S2 i = (toV (newS 1000) i, 1, a) := by rw [q2 i e, o1]; rfl
    have v3 : ofV S3 i = (toV (newS 1000) i, 1, a) := by
      rw [← v2]
      exact of_other (q3 _ (by omega)) (q3 _ (by omega))
    rw [load_in hmi, load_in hmi, v2, v3]
    exact ⟨rfl, rfl⟩
section
variable {w W : World} {s d : Nat} {S S' : DS}
theorem spoil_e (h : SAt w W s d S) {N : Nat} (hok : DOk S N 1000000) (hN : N ≤ 90000) {k : Int} (hk : In64 k) {at_ : Int} {x : B8} {e : Bool} (hv : spoilV S k at_ x = (S', e)) :
    Calls Try.prog 20 #[.pointer (some ⟨s, 0, none⟩), .int .i64 k, .int .i64 at_, .int .u8 (n8 x)] W fun r w' => r = .returned (.bool e) ∧ SAt w w' s d S' ∧ Stays w.heap.size W w' := by
  obtain ⟨M, h1, h2, h3⟩ := h
  have h4 := sspoil_c w.heap.size s d M S N W h1 hok hN k hk at_ x h3
  rw [hv] at h4
  refine h4.mono ?_
  rintro r w' ⟨rfl, t⟩
  exact ⟨rfl, SAt.turn h1 h2 h3 t⟩
end
end Go.Proofs.Ytkopenemoddbbaa
