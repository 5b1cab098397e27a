/- A way in two parts. No program in sight. -/
import Derived.Test.YtckjpiioipkfcaaSwP3
namespace Go.Proofs.Ytckjpiioipkfcaa
open Go.RowKit

theorem axV_up_cases (blk : Int → Bool) (low top : Int) {d : Int} (hd : 0 < d) :
    (∃ k, 0 ≤ k * 65536 - top ∧ k * 65536 - top < d ∧ blk k = true ∧ (∀ k', k' < k → 0 ≤ k' * 65536 - top → blk k' = false) ∧ axV blk low top d = (k * 65536 - top, true)) ∨
    ((∀ k', 0 ≤ k' * 65536 - top → k' * 65536 - top < d → blk k' = false) ∧ axV blk low top d = (d, false)) := by
  by_cases h : ∃ n : Nat, 0 ≤ ((top + 65535) / 65536 + (n : Int)) * 65536 - top ∧ ((top + 65535) / 65536 + (n : Int)) * 65536 - top < d ∧ blk ((top + 65535) / 65536 + (n : Int)) = true
  · left
    obtain ⟨n, hn⟩ := h
    induction n using Nat.strongRecOn with
    | ind n ih =>
      by_cases hm : ∃ m : Nat, m < n ∧ 0 ≤ ((top + 65535) / 65536 + (m : Int)) * 65536 - top ∧ ((top + 65535) / 65536 + (m : Int)) * 65536 - top < d ∧ blk ((top + 65535) / 65536 + (m : Int)) = true
      · obtain ⟨m, hmn, hm⟩ := hm
        exact ih m hmn hm
      · have hn2 : ∀ k', k' < (top + 65535) / 65536 + (n : Int) → 0 ≤ k' * 65536 - top → blk k' = false := fun k' h1 h2 => by
          cases hb : blk k' with
          | false => rfl
          | true =>
            exfalso
            apply hm
            refine ⟨(k' - (top + 65535) / 65536).toNat, by omega, ?_⟩
            rw [show (top + 65535) / 65536 + (((k' - (top + 65535) / 65536).toNat : Nat) : Int) = k' by omega]
            exact ⟨by omega, by omega, hb⟩
        exact ⟨_, hn.1, hn.2.1, hn.2.2, hn2, axV_up_hit hd hn.1 hn.2.1 hn.2.2 hn2⟩
  · right
    have hn : ∀ k', 0 ≤ k' * 65536 - top → k' * 65536 - top < d → blk k' = false := fun k' h1 h2 => by
      cases hb : blk k' with
      | false => rfl
      | true =>
        exfalso
        apply h
        refine ⟨(k' - (top + 65535) / 65536).toNat, ?_⟩
        rw [show (top + 65535) / 65536 + (((k' - (top + 65535) / 65536).toNat : Nat) : Int) = k' by omega]
        exact ⟨by omega, by omega, hb⟩
    exact ⟨hn, axV_up_none hd hn⟩
theorem axV_dn_cases (blk : Int → Bool) (low top : Int) {d : Int} (hd : d < 0) :
    (∃ k, (k + 1) * 65536 - low ≤ 0 ∧ d < (k + 1) * 65536 - low ∧ blk k = true ∧ (∀ k', k < k' → (k' + 1) * 65536 - low ≤ 0 → blk k' = false) ∧ axV blk low top d = ((k + 1) * 65536 - low, true)) ∨
    ((∀ k', (k' + 1) * 65536 - low ≤ 0 → d < (k' + 1) * 65536 - low → blk k' = false) ∧ axV blk low top d = (d, false)) := by
  by_cases h : ∃ n : Nat, (low / 65536 - (n : Int)) * 65536 - low ≤ 0 ∧ d < (low / 65536 - (n : Int)) * 65536 - low ∧ blk (low / 65536 - 1 - (n : Int)) = true
  · left
    obtain ⟨n, hn⟩ := h
    induction n using Nat.strongRecOn with
    | ind n ih =>
      by_cases hm : ∃ m : Nat, m < n ∧ (low / 65536 - (m : Int)) * 65536 - low ≤ 0 ∧ d < (low / 65536 - (m : Int)) * 65536 - low ∧ blk (low / 65536 - 1 - (m : Int)) = true
      · obtain ⟨m, hmn, hm⟩ := hm
        exact ih m hmn hm
      · have hn2 : ∀ k', low / 65536 - 1 - (n : Int) < k' → (k' + 1) * 65536 - low ≤ 0 → blk k' = false := fun k' h1 h2 => by
          cases hb : blk k' with
          | false => rfl
          | true =>
            exfalso
            apply hm
            refine ⟨(low / 65536 - 1 - k').toNat, by omega, ?_⟩
            rw [show low / 65536 - (((low / 65536 - 1 - k').toNat : Nat) : Int) = k' + 1 by omega, show low / 65536 - 1 - (((low / 65536 - 1 - k').toNat : Nat) : Int) = k' by omega]
            exact ⟨by omega, by omega, hb⟩
        have h1 : (low / 65536 - 1 - (n : Int) + 1) * 65536 - low ≤ 0 := by have := hn.1; omega
        have h2 : d < (low / 65536 - 1 - (n : Int) + 1) * 65536 - low := by have := hn.2.1; omega
        exact ⟨_, h1, h2, hn.2.2, hn2, axV_dn_hit hd h1 h2 hn.2.2 hn2⟩
  · right
    have hn : ∀ k', (k' + 1) * 65536 - low ≤ 0 → d < (k' + 1) * 65536 - low → blk k' = false := fun k' h1 h2 => by
      cases hb : blk k' with
      | false => rfl
      | true =>
        exfalso
        apply h
        refine ⟨(low / 65536 - 1 - k').toNat, ?_⟩
        rw [show low / 65536 - (((low / 65536 - 1 - k').toNat : Nat) : Int) = k' + 1 by omega, show low / 65536 - 1 - (((low / 65536 - 1 - k').toNat : Nat) : Int) = k' by omega]
        exact ⟨by omega, by omega, hb⟩
    exact ⟨hn, axV_dn_none hd hn⟩
/-- By a way in two parts of one side. -/
theorem axV_parts (blk : Int → Bool) (low top : Int) {d e : Int} (h : (0 ≤ d ∧ 0 ≤ e) ∨ (d ≤ 0 ∧ e ≤ 0)) :
    ((axV blk low top d).2 = true ∧ axV blk low top (d + e) = axV blk low top d) ∨
    (axV blk low top d = (d, false) ∧ d + (axV blk (low + d) (top + d) e).1 = (axV blk low top (d + e)).1 ∧ (axV blk (low + d) (top + d) e).2 = (axV blk low top (d + e)).2) := by
  by_cases hd0 : d = 0
  · subst hd0
    right
    rw [axV_zero, Int.add_zero, Int.add_zero, Int.zero_add, Int.zero_add]
    exact ⟨rfl, rfl, rfl⟩
  rcases (show (0 < d ∧ 0 ≤ e) ∨ (d < 0 ∧ e ≤ 0) by omega) with ⟨hd, he⟩ | ⟨hd, he⟩
  · rcases axV_up_cases blk low top hd with ⟨k, h1, h2, h3, h4, h5⟩ | ⟨h1, h2⟩
    · left
      rw [h5]
      exact ⟨rfl, axV_up_hit (by omega) h1 (by omega) h3 h4⟩
    · right
      refine ⟨h2, ?_⟩
      by_cases he0 : e = 0
      · subst he0
        rw [axV_zero, Int.add_zero, h2]
        exact ⟨by simp, rfl⟩
      · rcases axV_up_cases blk (low + d) (top + d) (show 0 < e by omega) with ⟨k, g1, g2, g3, g4, g5⟩ | ⟨g1, g2⟩
        · rw [g5, axV_up_hit (k := k) (by omega) (by omega) (by omega) g3 (fun k' hk hk2 => by
            by_cases hw : k' * 65536 - top < d
            · exact h1 k' hk2 hw
            · exact g4 k' hk (by omega))]
          exact ⟨by dsimp only; omega, rfl⟩
        · rw [g2, axV_up_none (by omega) (fun k' hk hk2 => by
            by_cases hw : k' * 65536 - top < d
            · exact h1 k' hk hw
            · exact g1 k' (by omega) (by omega))]
          exact ⟨rfl, rfl⟩
  · rcases axV_dn_cases blk low top hd with ⟨k, h1, h2, h3, h4, h5⟩ | ⟨h1, h2⟩
    · left
      rw [h5]
      exact ⟨rfl, axV_dn_hit (by omega) h1 (by omega) h3 h4⟩
    · right
      refine ⟨h2, ?_⟩
      by_cases he0 : e = 0
      · subst he0
        rw [axV_zero, Int.add_zero, h2]
        exact ⟨by simp, rfl⟩
      · rcases axV_dn_cases blk (low + d) (top + d) (show e < 0 by omega) with ⟨k, g1, g2, g3, g4, g5⟩ | ⟨g1, g2⟩
        · rw [g5, axV_dn_hit (k := k) (by omega) (by omega) (by omega) g3 (fun k' hk hk2 => by
            by_cases hw : d < (k' + 1) * 65536 - low
            · exact h1 k' hk2 hw
            · exact g4 k' hk (by omega))]
          exact ⟨by dsimp only; omega, rfl⟩
        · rw [g2, axV_dn_none (by omega) (fun k' hk hk2 => by
            by_cases hw : d < (k' + 1) * 65536 - low
            · exact h1 k' hk hw
            · exact g1 k' (by omega) (by omega))]
          exact ⟨rfl, rfl⟩
theorem lyB_same (val : Cl → Int) {M : Int} {x : B6} (h : Sm6 M x) (hM0 : 0 ≤ M) (hM : M ≤ 10000000000000) {axis n : Int} (h1 : -10000000 ≤ n) (h2 : n ≤ 10000000) (k : Int) :
    lyB val (mv6 x axis n).1 (mv6 x axis n).2.1 (mv6 x axis n).2.2.1 (mv6 x axis n).2.2.2.1 (mv6 x axis n).2.2.2.2.1 (mv6 x axis n).2.2.2.2.2 axis k = lyB val x.1 x.2.1 x.2.2.1 x.2.2.2.1 x.2.2.2.2.1 x.2.2.2.2.2 axis k := by
  obtain ⟨h3, h4, h5, h6, h7, h8, h9, h10, h11, h12, h13, h14⟩ := h
  have key : ∀ (a i m : Int), -100000000000000 ≤ a → a ≤ 100000000000000 → wiI (addI a (wiI 0 axis i n)) axis i m = wiI a axis i m := fun a i m g1 g2 => by
    rw [wi0 h1 h2]
    unfold wiI
    by_cases e : i = axis
    · rw [if_pos e, if_pos e]
    · rw [if_neg e, if_neg e, if_neg e, addI_in g1 g2 (by omega) (by omega)]; omega
  unfold lyB mv6
  dsimp only
  rw [key _ _ _ (by omega) (by omega), key _ _ _ (by omega) (by omega), key _ _ _ (by omega) (by omega), key _ _ _ (by omega) (by omega), key _ _ _ (by omega) (by omega), key _ _ _ (by omega) (by omega)]
theorem axI_mv {M : Int} {x : B6} (h : Sm6 M x) (hM0 : 0 ≤ M) (hM : M ≤ 10000000000000) {axis n : Int} (ha : 0 ≤ axis ∧ axis < 3) (h1 : -10000000 ≤ n) (h2 : n ≤ 10000000) :
    axI (mv6 x axis n).1 (mv6 x axis n).2.1 (mv6 x axis n).2.2.1 axis = axI x.1 x.2.1 x.2.2.1 axis + n ∧ axI (mv6 x axis n).2.2.2.1 (mv6 x axis n).2.2.2.2.1 (mv6 x axis n).2.2.2.2.2 axis = axI x.2.2.2.1 x.2.2.2.2.1 x.2.2.2.2.2 axis + n := by
  obtain ⟨h3, h4, h5, h6, h7, h8, h9, h10, h11, h12, h13, h14⟩ := h
  unfold mv6
  rw [wi0 h1 h2, wi0 h1 h2, wi0 h1 h2]
  rcases (show axis = 0 ∨ axis = 1 ∨ axis = 2 by omega) with rfl | rfl | rfl <;> simp only [axI] <;> constructor <;> simp <;> rw [addI_in (by omega) (by omega) h1 h2]
theorem far_in {d : Int} (h1 : -4194304 ≤ d) (h2 : d ≤ 4194304) : farI d = d := by unfold farI; omega
theorem parts6 (val : Cl → Int) {M : Int} {x : B6} (h : Sm6 M x) (hM0 : 0 ≤ M) (hM : M ≤ 10000000000000) {axis d e : Int} (ha : 0 ≤ axis ∧ axis < 3) (hs : (0 ≤ d ∧ 0 ≤ e) ∨ (d ≤ 0 ∧ e ≤ 0)) (d1 : -200000 ≤ d) (d2 : d ≤ 200000) (e1 : -200000 ≤ e) (e2 : e ≤ 200000) :
    ((ax6 val x axis d).2 = true ∧ ax6 val x axis (d + e) = ax6 val x axis d) ∨
    (ax6 val x axis d = (d, false) ∧ d + (ax6 val (mv6 x axis d) axis e).1 = (ax6 val x axis (d + e)).1 ∧ (ax6 val (mv6 x axis d) axis e).2 = (ax6 val x axis (d + e)).2) := by
  unfold ax6 axisV
  rw [if_neg (by omega), if_neg (by omega), if_neg (by omega), far_in (by omega) (by omega), far_in (by omega) (by omega), far_in (by omega) (by omega)]
  have hl : lyB val (mv6 x axis d).1 (mv6 x axis d).2.1 (mv6 x axis d).2.2.1 (mv6 x axis d).2.2.2.1 (mv6 x axis d).2.2.2.2.1 (mv6 x axis d).2.2.2.2.2 axis = lyB val x.1 x.2.1 x.2.2.1 x.2.2.2.1 x.2.2.2.2.1 x.2.2.2.2.2 axis := funext fun k => lyB_same val h hM0 hM (by omega) (by omega) k
  rw [hl, (axI_mv h hM0 hM ha (by omega) (by omega)).1, (axI_mv h hM0 hM ha (by omega) (by omega)).2]
  exact axV_parts _ _ _ hs
end Go.Proofs.Ytckjpiioipkfcaa
