/- The check of bytes: the plain law. A bit's step turns 16 bits; it keeps xor, and takes nothing but 0 to 0. -/
import Derived.Laws.BitsAllLaws
import Derived.RowKit
namespace Go.Proofs.Ytkopenemoddbbaa
open Go.RowKit

abbrev B16 := BitVec 16
abbrev B8 := BitVec 8
/-- One bit's step. -/
def st (c : B16) : B16 := (c <<< 1) ^^^ (if c.msb then 0x1021#16 else 0#16)
theorem st_xor (a b : B16) : st (a ^^^ b) = st a ^^^ st b := by
  unfold st
  rw [BitVec.msb_xor, BitVec.shiftLeft_xor_distrib]
  cases a.msb <;> cases b.msb <;> simp
  · ac_rfl
  · ac_rfl
  · rw [show a <<< 1 ^^^ 0x1021#16 ^^^ (b <<< 1 ^^^ 0x1021#16) = a <<< 1 ^^^ b <<< 1 ^^^ (0x1021#16 ^^^ 0x1021#16) by ac_rfl]; simp
theorem st_zero : st 0#16 = 0#16 := by decide
theorem st_inj {c : B16} (h : st c = 0#16) : c = 0#16 := by
  unfold st at h
  cases hm : c.msb with
  | true =>
    rw [hm] at h
    have h0 := congrArg (fun x : B16 => x.getLsbD 0) h
    simp at h0
  | false =>
    rw [hm] at h
    simp at h
    apply BitVec.eq_of_getLsbD_eq
    intro i hi
    by_cases h15 : i = 15
    · subst h15; rw [← BitVec.msb_eq_getLsbD_last]; simpa using hm
    · have h1 := congrArg (fun x : B16 => x.getLsbD (i + 1)) h
      simp at h1
      simpa using h1 (by omega)
/-- So many bits' steps. -/
def stN : Nat → B16 → B16
  | 0, c => c
  | n + 1, c => stN n (st c)
theorem stN_xor : ∀ n (a b : B16), stN n (a ^^^ b) = stN n a ^^^ stN n b
  | 0, _, _ => rfl
  | n + 1, a, b => by show stN n (st (a ^^^ b)) = _; rw [st_xor, stN_xor n]; rfl
theorem stN_inj : ∀ n {c : B16}, stN n c = 0#16 → c = 0#16
  | 0, _, h => h
  | n + 1, _, h => st_inj (stN_inj n h)
theorem stN_add : ∀ m n (c : B16), stN n (stN m c) = stN (m + n) c
  | 0, n, c => by simp [stN]
  | m + 1, n, c => by show stN n (stN m (st c)) = _; rw [stN_add m n, show m + 1 + n = (m + n) + 1 by omega]; rfl
theorem stN_succ (n : Nat) (c : B16) : st (stN n c) = stN (n + 1) c := (stN_add n 1 c)
/-- Two maps that keep xor are alike if they are on the 16 bits. -/
theorem lin_ext (f g : B16 → B16) (hf : ∀ a b, f (a ^^^ b) = f a ^^^ f b) (hg : ∀ a b, g (a ^^^ b) = g a ^^^ g b) (h : ∀ i, i < 16 → f (BitVec.twoPow 16 i) = g (BitVec.twoPow 16 i)) (c : B16) : f c = g c := by
  have hz : ∀ F : B16 → B16, (∀ a b, F (a ^^^ b) = F a ^^^ F b) → F 0#16 = 0#16 := fun F hF => by
    have := hF 0#16 0#16
    simpa using this
  have key : ∀ k, k ≤ 16 → ∀ c : B16, (∀ i, k ≤ i → c.getLsbD i = false) → f c = g c := by
    intro k
    induction k with
    | zero =>
      intro _ c hc
      have : c = 0#16 := BitVec.eq_of_getLsbD_eq fun i _ => by simp [hc i (by omega)]
      rw [this, hz f hf, hz g hg]
    | succ k ih =>
      intro hk c hc
      cases hb : c.getLsbD k with
      | false =>
        refine ih (by omega) c fun i hi => ?_
        by_cases hik : i = k
        · rw [hik]; exact hb
        · exact hc i (by omega)
      | true =>
        have e : c = (c ^^^ BitVec.twoPow 16 k) ^^^ BitVec.twoPow 16 k := by rw [BitVec.xor_assoc]; simp
        rw [e, hf, hg, h k (by omega), ih (by omega) (c ^^^ BitVec.twoPow 16 k) fun i hi => ?_]
        rw [BitVec.getLsbD_xor, BitVec.getLsbD_twoPow]
        by_cases hik : i = k
        · subst hik; rw [hb]; simp; omega
        · rw [hc i (by omega)]; simp; omega
  exact key 16 (by omega) c fun i hi => BitVec.getLsbD_of_ge c i hi
/-- What the highest four bits do. -/
def tb (i : B16) : B16 := stN 4 (i <<< 12)
theorem tb_xor (a b : B16) : tb (a ^^^ b) = tb a ^^^ tb b := by unfold tb; rw [BitVec.shiftLeft_xor_distrib, stN_xor]
theorem four (c : B16) : (c <<< 4) ^^^ tb (c >>> 12) = stN 4 c := by
  refine lin_ext (fun c => (c <<< 4) ^^^ tb (c >>> 12)) (stN 4) (fun a b => ?_) (stN_xor 4) (by decide) c
  rw [BitVec.shiftLeft_xor_distrib, BitVec.ushiftRight_xor_distrib, tb_xor]
  ac_rfl
/-- The check with four bits more, and with a byte more. -/
def nib (c y : B16) : B16 := (c <<< 4) ^^^ tb ((c >>> 12) ^^^ y)
theorem nib_eq (c y : B16) : nib c y = stN 4 (c ^^^ (y <<< 12)) := by
  unfold nib
  rw [tb_xor, stN_xor, ← four c]
  unfold tb
  ac_rfl
def crcUp (c : B16) (x : B8) : B16 := stN 8 (c ^^^ (x.setWidth 16 <<< 8))
theorem low8 : ∀ x : B8, stN 4 ((x.setWidth 16 &&& 15#16) <<< 8) = (x.setWidth 16 &&& 15#16) <<< 12 := by decide +kernel
theorem split8 : ∀ x : B8, (x.setWidth 16 : B16) <<< 8 = ((x.setWidth 16 >>> 4) <<< 12) ^^^ ((x.setWidth 16 &&& 15#16) <<< 8) := by decide +kernel
theorem nib_nib (c : B16) (x : B8) : nib (nib c (x.setWidth 16 >>> 4)) (x.setWidth 16 &&& 15#16) = crcUp c x := by
  rw [nib_eq, nib_eq, ← low8, ← stN_xor, stN_add]
  unfold crcUp
  rw [split8, BitVec.xor_assoc]
/-- The check of the first k bytes. -/
def crcN (c : B16) (F : Nat → B8) : Nat → B16
  | 0 => c
  | k + 1 => crcUp (crcN c F k) (F k)
theorem up_xor (a b : B16) (x y : B8) : crcUp (a ^^^ b) (x ^^^ y) = crcUp a x ^^^ crcUp b y := by
  unfold crcUp
  rw [← stN_xor]
  congr 1
  rw [BitVec.setWidth_xor, BitVec.shiftLeft_xor_distrib]
  ac_rfl
theorem up_inj {a : B16} (h : crcUp a 0#8 = 0#16) : a = 0#16 := by
  unfold crcUp at h
  simpa using stN_inj 8 h
theorem crcN_xor (a b : B16) (F G : Nat → B8) : ∀ n, crcN (a ^^^ b) (fun i => F i ^^^ G i) n = crcN a F n ^^^ crcN b G n
  | 0 => rfl
  | n + 1 => by show crcUp _ _ = _; rw [crcN_xor a b F G n, up_xor]; rfl
theorem crcN_cong (a : B16) (F G : Nat → B8) : ∀ n, (∀ i, i < n → F i = G i) → crcN a F n = crcN a G n
  | 0, _ => rfl
  | n + 1, h => by show crcUp _ _ = crcUp _ _; rw [crcN_cong a F G n fun i hi => h i (by omega), h n (by omega)]
/-- What is alike but for two bytes side by side has the same check only if it is alike. -/
theorem crcN_two (c : B16) (F G : Nat → B8) (n k : Nat) (hk : k + 1 < n) (hF : ∀ i, i < n → i ≠ k → i ≠ k + 1 → F i = G i) (h : crcN c F n = crcN c G n) : F k = G k ∧ F (k + 1) = G (k + 1) := by
  have hD : ∀ m, crcN 0#16 (fun i => F i ^^^ G i) m = crcN c F m ^^^ crcN c G m := fun m => by rw [← crcN_xor]; simp
  have h0 : ∀ m, m ≤ n → k + 2 ≤ m → crcN 0#16 (fun i => F i ^^^ G i) m = 0#16 → crcN 0#16 (fun i => F i ^^^ G i) (k + 2) = 0#16 := by
    intro m
    induction m with
    | zero => intro _ h; omega
    | succ m ih =>
      intro hm hkm hz
      by_cases he : m + 1 = k + 2
      · rw [← he]; exact hz
      · refine ih (by omega) (by omega) (up_inj ?_)
        have e : F m ^^^ G m = 0#8 := by rw [hF m (by omega) (by omega) (by omega)]; simp
        have hz' : crcUp (crcN 0#16 (fun i => F i ^^^ G i) m) (F m ^^^ G m) = 0#16 := hz
        rwa [e] at hz'
  have h1 := h0 n (by omega) (by omega) (by rw [hD, h]; simp)
  have hk0 : crcN 0#16 (fun i => F i ^^^ G i) k = 0#16 := by
    have e : ∀ m, m ≤ k → crcN 0#16 (fun i => F i ^^^ G i) m = 0#16 := by
      intro m
      induction m with
      | zero => intro _; rfl
      | succ m ih =>
        intro hm
        show crcUp _ (F m ^^^ G m) = _
        rw [ih (by omega), hF m (by omega) (by omega) (by omega)]
        simp; decide
    exact e k (by omega)
  have h2 : crcUp (crcUp (crcN 0#16 (fun i => F i ^^^ G i) k) (F k ^^^ G k)) (F (k + 1) ^^^ G (k + 1)) = 0#16 := h1
  rw [hk0] at h2
  generalize hx : F k ^^^ G k = x at h2
  generalize hy : F (k + 1) ^^^ G (k + 1) = y at h2
  have h3 := stN_inj 8 h2
  have h4 : crcUp 0#16 x = y.setWidth 16 <<< 8 := by
    have e : crcUp 0#16 x = (crcUp 0#16 x ^^^ y.setWidth 16 <<< 8) ^^^ y.setWidth 16 <<< 8 := by rw [BitVec.xor_assoc]; simp
    rw [e, h3]; simp
  have h5 : stN 8 (x.setWidth 16 <<< 8 ^^^ y.setWidth 16) = 0#16 := by
    rw [stN_xor]
    have e8 : ∀ y : B8, stN 8 (y.setWidth 16) = y.setWidth 16 <<< 8 := by decide +kernel
    rw [e8, ← h4]
    unfold crcUp
    simp
  have h6 := stN_inj 8 h5
  have hx0 : x = 0#8 := by
    apply BitVec.eq_of_getLsbD_eq
    intro i hi
    have := congrArg (fun v : B16 => v.getLsbD (i + 8)) h6
    simp at this
    simpa using this (by omega) (by omega)
  subst hx0
  have hy0 : y = 0#8 := by
    apply BitVec.eq_of_getLsbD_eq
    intro i hi
    have := congrArg (fun v : B16 => v.getLsbD i) h6
    simp at this
    simpa using this (by omega)
  subst hy0
  exact ⟨BitVec.xor_eq_zero_iff.1 hx, BitVec.xor_eq_zero_iff.1 hy⟩
/-- Behind its own check a check is 0. -/
theorem up_up_own (c : B16) : crcUp (crcUp c ((c >>> 8).setWidth 8)) (c.setWidth 8) = 0#16 := by
  have e : ∀ c : B16, stN 8 c ^^^ (c.setWidth 8).setWidth 16 <<< 8 = stN 8 (((c >>> 8).setWidth 8 : B8).setWidth 16 <<< 8) := fun c => by
    refine lin_ext (fun c => stN 8 c ^^^ (c.setWidth 8).setWidth 16 <<< 8) (fun c => stN 8 (((c >>> 8).setWidth 8 : B8).setWidth 16 <<< 8)) (fun a b => ?_) (fun a b => ?_) (by decide) c
    · rw [stN_xor, BitVec.setWidth_xor, BitVec.setWidth_xor, BitVec.shiftLeft_xor_distrib]
      ac_rfl
    · rw [BitVec.ushiftRight_xor_distrib, BitVec.setWidth_xor, BitVec.setWidth_xor, BitVec.shiftLeft_xor_distrib, stN_xor]
  show stN 8 (stN 8 (c ^^^ ((c >>> 8).setWidth 8 : B8).setWidth 16 <<< 8) ^^^ (c.setWidth 8).setWidth 16 <<< 8) = 0#16
  rw [stN_xor 8 c, ← e c]
  rw [show stN 8 c ^^^ (stN 8 c ^^^ (c.setWidth 8).setWidth 16 <<< 8) ^^^ (c.setWidth 8).setWidth 16 <<< 8 = (stN 8 c ^^^ stN 8 c) ^^^ ((c.setWidth 8).setWidth 16 <<< 8 ^^^ (c.setWidth 8).setWidth 16 <<< 8) by ac_rfl]
  simp
  decide
end Go.Proofs.Ytkopenemoddbbaa
