/- A region that draws its order: one invariant over what is laid; guarded operations. No program in sight. -/
import Derived.Test.YtmkmaoodeebmfaaSched2
namespace Go.Proofs.Ytmkmaoodeebmfaa
open Go.RowKit

section
variable {P : Program} {ops : Array Oper} {C : World → Prop} {ks : List Nat}
/-- Some value and world of which R holds. -/
def sumUponI (P : Program) (R : Rel) (w : World) : Result Next → Prop
  | .ok (.value u) w' => R u w'
  | .ok .skip w' => R undef w'
  | .ok (.enter f args) w' => w' = w ∧ Calls P f args w (fun e w'' => ∃ u, e = .returned u ∧ R u w'')
  | _ => False
def sumAtI (P : Program) (o : Oper) (a : Act) (R : Rel) (w : World) : Prop := sumUponI P R w ((execOp a.eval o).run P w)
theorem wp_of_sumAtI {o : Oper} {a : Act} {w : World} {R : Rel} {K : Act → World → Prop} {Q' : Exit → Act → World → Prop} (h : sumAtI P o a R w) (hk : ∀ v w', R v w' → K (a.put o.dst v) w') : o.wp P a w K Q' := by
  unfold sumAtI at h
  unfold Oper.wp
  generalize (execOp a.eval o).run P w = r at *
  cases r with
  | ok nx w' =>
    cases nx <;> simp only [sumUponI] at h <;> simp only [Oper.upon]
    case value u => exact hk _ _ h
    case skip => exact hk _ _ h
    case enter f args =>
      obtain ⟨e1, hc⟩ := h
      rw [e1]
      exact hc.mono fun e w'' ⟨u, he, hR⟩ => by subst he; exact hk _ _ hR
  | halt x w' => simp only [sumUponI] at h
theorem sumAtI.alike {o : Oper} {R : Rel} {w : World} {a b : Act} (hs : ∀ cs b, o.op ≠ .select cs b) (h : Alike ops o a b) (hy : sumAtI P o a R w) : sumAtI P o b R w := by
  unfold sumAtI at *
  rwa [← exec_alike hs h]
theorem sumAtI.mono {o : Oper} {a : Act} {R R' : Rel} {w : World} (hr : ∀ v w, R v w → R' v w) (h : sumAtI P o a R w) : sumAtI P o a R' w := by
  unfold sumAtI at *
  generalize (execOp a.eval o).run P w = r at *
  cases r with
  | ok nx w' =>
    cases nx <;> simp only [sumUponI] at h ⊢
    case value u => exact hr _ _ h
    case skip => exact hr _ _ h
    case enter f args => exact ⟨h.1, h.2.mono fun e w'' ⟨u, he, hR⟩ => ⟨u, he, hr _ _ hR⟩⟩
  | halt x w' => simp only [sumUponI] at h
/-- The same behind a guard. -/
def sumGI (P : Program) (ops : Array Oper) (o : Oper) (a : Act) (R : Rel) (w : World) : Prop :=
  (Region.wanted o (yielded ops a.tmps) = true ∧ sumAtI P o a R w) ∨ (Region.wanted o (yielded ops a.tmps) = false ∧ R undef w)
theorem sumGI.mono {o : Oper} {a : Act} {R R' : Rel} {w : World} (hr : ∀ v w, R v w → R' v w) (h : sumGI P ops o a R w) : sumGI P ops o a R' w :=
  h.imp (fun h => ⟨h.1, h.2.mono hr⟩) fun h => ⟨h.1, hr _ _ h.2⟩
theorem sumGI.alike {o : Oper} {R : Rel} {w : World} {a b : Act} (hs : ∀ cs b, o.op ≠ .select cs b) (h : Alike ops o a b) (hz : a.tmps.size = b.tmps.size) (hy : sumGI P ops o a R w) : sumGI P ops o b R w := by
  unfold sumGI at *
  rw [← wanted_alike h hz]
  exact hy.imp (fun h1 => ⟨h1.1, h1.2.alike hs h⟩) id
def upd (vs : Nat → Value) (i : Nat) (v : Value) : Nat → Value := fun j => if j = i then v else vs j
theorem upd_same (vs : Nat → Value) (i : Nat) (v : Value) : upd vs i v i = v := by unfold upd; rw [if_pos rfl]
theorem upd_ne {vs : Nat → Value} {i j : Nat} {v : Value} (h : j ≠ i) : upd vs i v j = vs j := by unfold upd; rw [if_neg h]
/-- Of what is laid, its values and the world. -/
abbrev InvT := (Nat → Prop) → (Nat → Value) → World → Prop
def andOf (S : Nat → Prop) (i : Nat) : Nat → Prop := fun j => j = i ∨ S j
def wpLsI (P : Program) (ops : Array Oper) (C : World → Prop) (I : InvT) (an : Nat → Nat → Bool) (ks0 : List Nat) (T : Act → World → Prop) : List Nat → List Oper → Nat → Act → (Nat → Value) → Prop
  | _, [], n, a, vs => ∀ V w', C w' → (∀ j, j < n → kd ks0 j = 2 → V j = vs j) → I (fun j => j < n ∧ kd ks0 j = 2) V w' → T a w'
  | [], _ :: _, _, _, _ => False
  | 0 :: ks, _ :: l, i, a, vs => wpLsI P ops C I an ks0 T ks l (i + 1) a vs
  | 1 :: ks, _ :: l, i, a, vs => wpLsI P ops C I an ks0 T ks l (i + 1) a vs
  | 2 :: ks, o :: l, i, a, vs => (∀ S V w', C w' → (∀ j, j < i → kd ks0 j = 2 → V j = vs j) → (∀ j, j < i → kd ks0 j = 2 → an i j = true → S j) → ¬ S i → I S V w' → sumGI P ops o a (fun v w => C w ∧ I (andOf S i) (upd V i v) w) w') ∧ ∀ v, wpLsI P ops C I an ks0 T ks l (i + 1) (a.put o.dst v) (upd vs i v)
  | (_ + 3) :: ks, _ :: l, i, a, vs => wpLsI P ops C I an ks0 T ks l (i + 1) a vs
section
variable {l : List Oper}
theorem ls_factsI {I : InvT} {an : Nat → Nat → Bool} {T : Act → World → Prop} : ∀ (r : List Oper) (kr : List Nat) (k : Nat) (a : Act) (vs : Nat → Value), l.drop k = r → ks.drop k = kr → k ≤ l.length → wpLsI P l.toArray C I an ks T kr r k a vs →
    ∀ V : Nat → Value, (∀ j, j < k → kd ks j = 2 → V j = vs j) → (∀ i o, k ≤ i → l.toArray[i]? = some o → kd ks i = 2 → ∀ S w', C w' → (∀ j, j < i → kd ks j = 2 → an i j = true → S j) → ¬ S i → I S V w' → sumGI P l.toArray o (stL l.toArray V (nums ks pL k i) a) (fun v w => C w ∧ I (andOf S i) (upd V i v) w) w') ∧
      ∀ w', C w' → I (fun j => j < l.length ∧ kd ks j = 2) V w' → T (stL l.toArray V (nums ks pL k l.length) a) w' := by
  intro r
  induction r with
  | nil =>
    intro kr k a vs hr _ hkl h V hvs
    have hk : k = l.length := by have : l.length ≤ k := by simpa using hr
                                 omega
    refine ⟨fun i o hi ho => ?_, fun w' h1 h2 => ?_⟩
    · have := (Array.getElem?_eq_some_iff.1 ho).1; simp at this; omega
    · rw [nums_none (Nat.le_of_eq hk.symm)]; unfold wpLsI at h; subst hk; exact h V w' h1 hvs h2
  | cons o r ih =>
    intro kr k a vs hr hkr hkl h V hvs
    obtain ⟨ho, hr', hlt⟩ := op_at hr
    have hdst : dstOf l.toArray k = o.dst := by unfold dstOf; rw [ho]; rfl
    cases kr with
    | nil => exact h.elim
    | cons c kr =>
      obtain ⟨hc, hkr'⟩ := kd_at hkr
      have skip : c ≠ 2 → wpLsI P l.toArray C I an ks T kr r (k + 1) a vs → (∀ i o, k ≤ i → l.toArray[i]? = some o → kd ks i = 2 → ∀ S w', C w' → (∀ j, j < i → kd ks j = 2 → an i j = true → S j) → ¬ S i → I S V w' → sumGI P l.toArray o (stL l.toArray V (nums ks pL k i) a) (fun v w => C w ∧ I (andOf S i) (upd V i v) w) w') ∧
          ∀ w', C w' → I (fun j => j < l.length ∧ kd ks j = 2) V w' → T (stL l.toArray V (nums ks pL k l.length) a) w' := fun hc2 h => by
        obtain ⟨h3, h4⟩ := ih kr (k + 1) a vs hr' hkr' hlt h V (fun j hj hj2 => hvs j (by rcases Nat.lt_or_eq_of_le (Nat.le_of_lt_succ hj) with e | e; exact e; subst e; omega) hj2)
        have hst : ∀ n, k < n → nums ks pL k n = nums ks pL (k + 1) n := fun n hn => by rw [nums_step hn, hc, if_neg (by simpa using hc2)]
        refine ⟨fun i o' hi ho' hk2 => ?_, fun w' h1 h2 => by rw [hst _ hlt]; exact h4 w' h1 h2⟩
        rcases Nat.lt_or_eq_of_le hi with h5 | h5
        · rw [hst i h5]; exact h3 i o' (by omega) ho' hk2
        · subst h5; omega
      match c, h, hc, skip with
      | 0, h, hc, skip => unfold wpLsI at h; exact skip (by omega) h
      | 1, h, hc, skip => unfold wpLsI at h; exact skip (by omega) h
      | 2, h, hc, _ =>
        unfold wpLsI at h
        obtain ⟨h3, h4⟩ := ih kr (k + 1) _ _ hr' hkr' hlt (h.2 (V k)) V (fun j hj hj2 => by rcases Nat.lt_or_eq_of_le (Nat.le_of_lt_succ hj) with e | e; exact (hvs j e hj2).trans (upd_ne (by omega)).symm; subst e; exact (upd_same _ _ _).symm)
        have hst : ∀ n, k < n → stL l.toArray V (nums ks pL k n) a = stL l.toArray V (nums ks pL (k + 1) n) (a.put o.dst (V k)) := fun n hn => by
          rw [nums_step hn, hc, if_pos (by simp), stL_cons, hdst]
        refine ⟨fun i o' hi ho' hk2 => ?_, fun w' h1 h2 => by rw [hst _ hlt]; exact h4 w' h1 h2⟩
        rcases Nat.lt_or_eq_of_le hi with h5 | h5
        · rw [hst i h5]; exact h3 i o' (by omega) ho' hk2
        · subst h5
          rw [nums_none (Nat.le_refl _)]
          rw [ho] at ho'
          obtain rfl := Option.some.inj ho'
          exact fun S w' h6 h8 h9 h10 => h.1 S V w' h6 hvs h8 h9 h10
      | c + 3, h, hc, skip => unfold wpLsI at h; exact skip (by omega) h
end
variable {anc : Nat → Nat → Prop}
variable {Q : Exit → Act → World → Prop} {V : Nat → Value} {a0 : Act}
/-- The l's that are laid. -/
def lsUp (ks : List Nat) (n : Nat) (listed : Array Bool) : Nat → Prop := fun j => j < n ∧ kd ks j = 2 ∧ up listed j = true
theorem lsUp_skip {listed : Array Bool} {n i : Nat} (hi : i < listed.size) (hk : kd ks i ≠ 2) : lsUp ks n (listed.setIfInBounds i true) = lsUp ks n listed := by
  funext j
  unfold lsUp
  rw [up_set hi]
  by_cases h : j = i
  · subst h; simp [hk]
  · rw [if_neg h]
theorem lsUp_add {listed : Array Bool} {n i : Nat} (hi : i < listed.size) (hn : i < n) (hk : kd ks i = 2) : lsUp ks n (listed.setIfInBounds i true) = andOf (lsUp ks n listed) i := by
  funext j
  unfold lsUp andOf
  rw [up_set hi]
  by_cases h : j = i
  · subst h; simp [hk, hn]
  · rw [if_neg h]; simp [h]
theorem lsUp_all {listed : Array Bool} {n : Nat} (h : ∀ i, i < n → kd ks i = 2 → up listed i = true) : lsUp ks n listed = fun j => j < n ∧ kd ks j = 2 := by
  funext j
  unfold lsUp
  exact propext ⟨fun h => ⟨h.1, h.2.1⟩, fun h1 => ⟨h1.1, h1.2, h j h1.1 h1.2⟩⟩
theorem Sch.phase1I (H : Sch ops ks anc) {Vq : Nat → Value} {I : InvT} {an : Nat → Nat → Bool} (han : ∀ i j, an i j = true → i < ops.size → j < ops.size → anc i j)
    (hC : ∀ w w', C w → Below w.heap.size w w' → C w') (hR : ∀ S V w w', C w → I S V w → Below w.heap.size w w' → I S V w')
    (hG : ∀ (i : Nat) (o : Oper), ops[i]? = some o → kd ks i < 2 → Owe P ops C (kd ks i) o (Vq i) (stL ops Vq (nums ks pQ 0 i) a0))
    (hL : ∀ V : Nat → Value, (∀ (i : Nat) (o : Oper), ops[i]? = some o → kd ks i = 2 → ∀ S w', C w' → (∀ j, j < i → kd ks j = 2 → an i j = true → S j) → ¬ S i → I S V w' → sumGI P ops o (stL ops V (nums ks pL 0 i) (stL ops Vq (nums ks pQ 0 ops.size) a0)) (fun v w => C w ∧ I (andOf S i) (upd V i v) w) w') ∧
      ∀ w', C w' → I (fun j => j < ops.size ∧ kd ks j = 2) V w' → wpList P ops (Exit.then (fun a w => Q .normal a w) (fun _ _ _ => False)) ((nums ks pT 0 ops.size).filterMap fun i => ops[i]?) (stL ops V (nums ks pL 0 ops.size) (stL ops Vq (nums ks pQ 0 ops.size) a0)) w') :
    ∀ (f : Nat) (listed : Array Bool) (V : Nat → Value) (w : World), listed.size = ops.size → Upw ops listed → cnt ops.size listed = f → (∀ i, kd ks i < 2 → V i = Vq i) → (∀ i, 3 ≤ kd ks i → up listed i = false) → C w →
      I (lsUp ks ops.size listed) V w → Go.wpAny P .any ops Q f listed (stL ops V ((nonT ks ops.size).filter (up listed)) a0) w := by
  intro f
  induction f with
  | zero =>
    intro listed V w hs hU hc hV hT hw hRs
    refine H.phase2 (V := V) (a0 := a0) (fun i o ho hk => ?_) 0 listed _ w hs hU hc (fun i hi _ => cnt_zero hc hi) (fun t _ => rfl) (stL_size _ _ _) ?_
    · have := hG i o ho (by omega)
      rw [show stL ops V (nums ks pQ 0 i) a0 = stL ops Vq (nums ks pQ 0 i) a0 from stL_same H.apart fun j => ⟨Iff.rfl, fun h => hV j (by have := (mem_nums.1 h).2; simpa [pQ] using this)⟩, hV i (by omega)]
      unfold Owe at this
      rwa [if_neg (by omega)] at this
    · exact finish listed V w hs hV hT hw hRs (fun i hi _ => cnt_zero hc hi)
  | succ f ih =>
    intro listed V w hs hU hc hV hT hw hRs
    by_cases hall : ∀ i, i < ops.size → kd ks i = 0 ∨ kd ks i = 2 → up listed i = true
    · refine H.phase2 (V := V) (a0 := a0) (fun i o ho hk => ?_) (f + 1) listed _ w hs hU hc hall (fun t _ => rfl) (stL_size _ _ _) ?_
      · have := hG i o ho (by omega)
        rw [show stL ops V (nums ks pQ 0 i) a0 = stL ops Vq (nums ks pQ 0 i) a0 from stL_same H.apart fun j => ⟨Iff.rfl, fun h => hV j (by have := (mem_nums.1 h).2; simpa [pQ] using this)⟩, hV i (by omega)]
        unfold Owe at this
        rwa [if_neg (by omega)] at this
      · exact finish listed V w hs hV hT hw hRs hall
    · refine ⟨fun hr => absurd hr (H.ready_ne hs (by omega)), fun i hi => ?_⟩
      obtain ⟨hu, o, ho, he⟩ := mem_ready.1 hi
      have hlt := (Array.getElem?_eq_some_iff.1 ho).1
      rw [getD_any (by omega)] at hu
      have hdst : dstOf ops i = o.dst := by unfold dstOf; rw [ho]; rfl
      have hup : ∀ j, anc i j → up listed j = true := fun j => H.anc_up hU i o j ho he
      have hk3 : kd ks i < 3 := by
        rcases Nat.lt_or_ge (kd ks i) 3 with h | h
        · exact h
        · exfalso
          apply hall
          intro j hj hk
          rcases H.tail i o ho h j hj with h1 | h1 | h1
          · omega
          · omega
          · exact hup j h1
      have hU' := hU.set (by omega) ho he
      have hs' : (listed.setIfInBounds i true).size = ops.size := by simp [hs]
      have hc' : cnt ops.size (listed.setIfInBounds i true) = f := by have := cnt_set hs hlt hu; omega
      have hT' : ∀ j, 3 ≤ kd ks j → up (listed.setIfInBounds i true) j = false := fun j hj => by
        rw [up_set (by omega), if_neg (fun e => by subst e; omega)]; exact hT j hj
      have hst : ∀ (V' : Nat → Value) (v : Value), (∀ j, j ≠ i → V' j = V j) → V' i = v → (stL ops V ((nonT ks ops.size).filter (up listed)) a0).put o.dst v = stL ops V' ((nonT ks ops.size).filter (up (listed.setIfInBounds i true))) a0 := fun V' v h1 h2 => by
        have e : (stL ops V ((nonT ks ops.size).filter (up listed)) a0).put o.dst v = stL ops V' ((nonT ks ops.size).filter (up listed) ++ [i]) a0 := by
          rw [stL_app, stL_cons, hdst, h2, show stL ops V' ((nonT ks ops.size).filter (up listed)) a0 = stL ops V ((nonT ks ops.size).filter (up listed)) a0 from stL_same H.apart fun j => ⟨Iff.rfl, fun h => h1 j (fun e => by subst e; exact absurd ((List.mem_filter.1 h).2.symm.trans hu) (by decide))⟩]
          rfl
        rw [e]
        refine stL_same H.apart fun j => ⟨?_, fun _ => rfl⟩
        rw [List.mem_append, List.mem_filter, List.mem_filter, List.mem_singleton, up_set (by omega), mem_nonT]
        constructor
        · rintro (⟨h3, h4⟩ | rfl)
          · exact ⟨h3, by split <;> first | rfl | exact h4⟩
          · exact ⟨⟨hlt, hk3⟩, by rw [if_pos rfl]⟩
        · rintro ⟨h3, h4⟩
          by_cases hji : j = i
          · exact .inr hji
          · rw [if_neg hji] at h4; exact .inl ⟨h3, h4⟩
      have hlooks : ∀ t ∈ o.looksAt ops, ∀ j, dstOf ops j = some t → (up listed j = true ∧ j < i ∧ (kd ks j < 2 ∨ (kd ks i = 2 ∧ kd ks j = 2))) ∨ 3 ≤ kd ks j := fun t ht j hj => by
        rcases H.looks i o ho t ht j hj with ⟨h1, h2⟩ | h1
        · exact .inl ⟨hup j h1, (H.lower i j h1).1, by omega⟩
        · exact .inr h1.2.2
      unfold wpOp
      rw [ho]
      dsimp only
      by_cases hk : kd ks i < 2
      · have hal : Alike ops o (stL ops Vq (nums ks pQ 0 i) a0) (stL ops V ((nonT ks ops.size).filter (up listed)) a0) := fun t ht => by
          refine stL_agree H.apart fun j hj => ?_
          rcases hlooks t ht j hj with ⟨h1, h2, h3⟩ | h3
          · exact ⟨⟨fun _ => List.mem_filter.2 ⟨mem_nonT.2 ⟨by omega, by omega⟩, h1⟩, fun _ => mem_nums.2 ⟨⟨Nat.zero_le _, h2⟩, by simp [pQ]; omega⟩⟩, fun _ => (hV j (by omega)).symm⟩
          · exact ⟨⟨fun h => (by have := (mem_nums.1 h).2; simp [pQ] at this; omega), fun h => (by have := (mem_nonT.1 (List.mem_filter.1 h).1).2; omega)⟩, fun h => (by have := (mem_nums.1 h).2; simp [pQ] at this; omega)⟩
        have hy0 := hG i o ho hk
        have hy : Gives P ops C o (V i) (stL ops V ((nonT ks ops.size).filter (up listed)) a0) := by
          rw [hV i hk]
          unfold Owe at hy0
          by_cases hz : kd ks i = 0
          · rw [if_pos hz] at hy0
            exact Gives.alike (H.sel i o · · ho) hal (by rw [stL_size, stL_size]) hy0
          · rw [if_neg hz] at hy0
            exact Gives.alike (H.sel i o · · ho) hal (by rw [stL_size, stL_size]) hy0.gives
        have hls : lsUp ks ops.size (listed.setIfInBounds i true) = lsUp ks ops.size listed := lsUp_skip (by omega) (by omega)
        rcases hy with ⟨hwn, hv⟩ | ⟨hwn, hv⟩
        · rw [if_pos hwn]
          refine .inl (wp_of_relAt (hv w hw) fun w' hb => ?_)
          rw [hst V (V i) (fun _ _ => rfl) rfl]
          exact ih _ V w' hs' hU' hc' hV hT' (hC _ _ hw hb) (by rw [hls]; exact hR _ _ _ _ hw hRs hb)
        · rw [if_neg (by rw [hwn]; decide), ← hv, hst V (V i) (fun _ _ => rfl) rfl]
          exact ih _ V w hs' hU' hc' hV hT' hw (by rw [hls]; exact hRs)
      · have hk2 : kd ks i = 2 := by omega
        have hal : Alike ops o (stL ops V (nums ks pL 0 i) (stL ops Vq (nums ks pQ 0 ops.size) a0)) (stL ops V ((nonT ks ops.size).filter (up listed)) a0) := fun t ht => by
          rw [show stL ops Vq (nums ks pQ 0 ops.size) a0 = stL ops V (nums ks pQ 0 ops.size) a0 from stL_same H.apart fun j => ⟨Iff.rfl, fun h => (hV j (by have := (mem_nums.1 h).2; simpa [pQ] using this)).symm⟩, ← stL_app]
          refine stL_agree H.apart fun j hj => ⟨?_, fun _ => rfl⟩
          rcases hlooks t ht j hj with ⟨h1, h2, h3⟩ | h3
          · refine ⟨fun _ => List.mem_filter.2 ⟨mem_nonT.2 ⟨by omega, by omega⟩, h1⟩, fun _ => ?_⟩
            rcases h3 with h3 | ⟨-, h3⟩
            · exact List.mem_append_left _ (mem_nums.2 ⟨⟨Nat.zero_le _, by omega⟩, by simp [pQ]; omega⟩)
            · exact List.mem_append_right _ (mem_nums.2 ⟨⟨Nat.zero_le _, h2⟩, by simp [pL, h3]⟩)
          · refine ⟨fun h => ?_, fun h => (by have := (mem_nonT.1 (List.mem_filter.1 h).1).2; omega)⟩
            rcases List.mem_append.1 h with h | h
            · have := (mem_nums.1 h).2; simp [pQ] at this; omega
            · have := (mem_nums.1 h).2; simp [pL] at this; omega
        have hls := lsUp_add (ks := ks) (n := ops.size) (listed := listed) (by omega) hlt hk2
        have hy := sumGI.alike (H.sel i o · · ho) hal (by rw [stL_size, stL_size, stL_size]) ((hL V).1 i o ho hk2 (lsUp ks ops.size listed) w hw (fun j hj1 hj2 hj3 => ⟨by omega, hj2, hup j (han i j hj3 hlt (by omega))⟩) (fun h => by have := h.2.2; rw [show up listed i = listed.getD i false from rfl, hu] at this; cases this) hRs)
        rcases hy with ⟨hwn, hy⟩ | ⟨hwn, hy⟩
        · rw [if_pos hwn]
          refine .inl (wp_of_sumAtI hy fun v w' hv => ?_)
          rw [hst (upd V i v) v (fun j hj => upd_ne hj) (upd_same _ _ _)]
          exact ih _ _ w' hs' hU' hc' (fun j hj => by rw [upd_ne (fun e => by subst e; omega)]; exact hV j hj) hT' hv.1 (by rw [hls]; exact hv.2)
        · rw [if_neg (by rw [hwn]; decide), hst (upd V i undef) undef (fun j hj => upd_ne hj) (upd_same _ _ _)]
          exact ih _ _ w hs' hU' hc' (fun j hj => by rw [upd_ne (fun e => by subst e; omega)]; exact hV j hj) hT' hw (by rw [hls]; exact hy.2)
where
  finish (listed : Array Bool) (V : Nat → Value) (w : World) (hs : listed.size = ops.size) (hV : ∀ i, kd ks i < 2 → V i = Vq i) (hT : ∀ i, 3 ≤ kd ks i → up listed i = false) (hw : C w) (hRs : I (lsUp ks ops.size listed) V w)
      (hall : ∀ i, i < ops.size → kd ks i = 0 ∨ kd ks i = 2 → up listed i = true) : wpList P ops (Exit.then (fun a w => Q .normal a w) (fun _ _ _ => False)) (((nums ks pT 0 ops.size).filter fun i => !up listed i).filterMap fun i => ops[i]?)
        (stL ops V ((nums ks pF 0 ops.size).filter fun i => !up listed i) (stL ops V ((nonT ks ops.size).filter (up listed)) a0)) w := by
    have h := (hL V).2 w hw (by rw [← lsUp_all (listed := listed) fun i hi hk => hall i hi (.inr hk)]; exact hRs)
    rw [show stL ops Vq (nums ks pQ 0 ops.size) a0 = stL ops V (nums ks pQ 0 ops.size) a0 from stL_same H.apart fun j => ⟨Iff.rfl, fun h => (hV j (by have := (mem_nums.1 h).2; simpa [pQ] using this)).symm⟩, ← stL_app] at h
    rw [← stL_app, List.filter_eq_self.2 (fun i hi => by
      have := (mem_nums.1 hi).2
      rw [hT i (by simpa [pT] using this)]; rfl)]
    rw [show stL ops V ((nonT ks ops.size).filter (up listed) ++ (nums ks pF 0 ops.size).filter fun i => !up listed i) a0 = stL ops V (nums ks pQ 0 ops.size ++ nums ks pL 0 ops.size) a0 from stL_same H.apart fun j => ⟨?_, fun _ => rfl⟩]
    · exact h
    · rw [List.mem_append, List.mem_filter, List.mem_filter, mem_nonT, mem_nums]
      simp only [pF, beq_iff_eq, Bool.not_eq_true']
      constructor
      · rintro (h1 | h1)
        · exact h1.1
        · exact ⟨h1.1.1.2, by omega⟩
      · intro h1
        cases hu : up listed j with
        | true => exact .inl ⟨h1, rfl⟩
        | false =>
          refine .inr ⟨⟨⟨Nat.zero_le _, h1.1⟩, ?_⟩, rfl⟩
          have h2 : ¬ (kd ks j = 0 ∨ kd ks j = 2) := fun h => by rw [hall j h1.1 h] at hu; cases hu
          omega

/-- But for the blocks D all lies as it lay. -/
def KeptD (D : List Nat) (w0 w : World) : Prop := Kept (fun b => b ∉ D) w0 w
section
variable {D : List Nat} {w0 w w' : World}
theorem KeptD.on (h : KeptD D w0 w) (k : Below w.heap.size w w') : KeptD D w0 w' := Kept.on h k
theorem KeptD.none (h : KeptD [] w0 w) : Below w0.heap.size w0 w := Kept.none h
theorem KeptD.blk {g : Nat} {t : TypeId} {cs : Array Value} (h : KeptD D w0 w) (hg : g ∉ D) (hb : Blk w0 g t cs) : Blk w g t cs := Kept.blk h hg hb
end
theorem wpLsI_nil {w0 : World} {D : List Nat} {I : InvT} {an : Nat → Nat → Bool} {ks0 : List Nat} {T : Act → World → Prop} {n : Nat} {a : Act} {vs : Nat → Value} (h : ∀ V w', KeptD D w0 w' → (∀ j, j < n → kd ks0 j = 2 → V j = vs j) → I (fun j => j < n ∧ kd ks0 j = 2) V w' → T a w') : wpLsI P ops (Msd w0 D) I an ks0 T [] [] n a vs := by
  unfold wpLsI; exact fun V w' hw => h V w' (msd_kept hw)
/-- An l without a guard. -/
theorem wpLsI_one {w0 : World} {D : List Nat} {I : InvT} {an : Nat → Nat → Bool} {ks0 : List Nat} {T : Act → World → Prop} {i : Nat} {a : Act} {vs : Nat → Value} {o : Oper} {l : List Oper} (hg : o.guard = none)
    (h1 : ∀ S V w', KeptD D w0 w' → (∀ j, j < i → kd ks0 j = 2 → V j = vs j) → (∀ j, j < i → kd ks0 j = 2 → an i j = true → S j) → ¬ S i → I S V w' → sumAtI P o a (fun v w => KeptD D w0 w ∧ I (andOf S i) (upd V i v) w) w') (h2 : ∀ v, wpLsI P ops (Msd w0 D) I an ks0 T ks l (i + 1) (a.put o.dst v) (upd vs i v)) :
    wpLsI P ops (Msd w0 D) I an ks0 T (2 :: ks) (o :: l) i a vs := by
  unfold wpLsI
  exact ⟨fun S V w' hw hV ha hn hI => .inl ⟨by simp [Region.wanted, hg], (h1 S V w' (msd_kept hw) hV ha hn hI).mono fun v w h => ⟨msd_of h.1, h.2⟩⟩, h2⟩
/-- An l behind a guard. -/
theorem wpLsI_grd {w0 : World} {D : List Nat} {I : InvT} {an : Nat → Nat → Bool} {ks0 : List Nat} {T : Act → World → Prop} {i : Nat} {a : Act} {vs : Nat → Value} {o : Oper} {l : List Oper}
    (h1 : ∀ S V w', KeptD D w0 w' → (∀ j, j < i → kd ks0 j = 2 → V j = vs j) → (∀ j, j < i → kd ks0 j = 2 → an i j = true → S j) → ¬ S i → I S V w' → sumGI P ops o a (fun v w => KeptD D w0 w ∧ I (andOf S i) (upd V i v) w) w') (h2 : ∀ v, wpLsI P ops (Msd w0 D) I an ks0 T ks l (i + 1) (a.put o.dst v) (upd vs i v)) :
    wpLsI P ops (Msd w0 D) I an ks0 T (2 :: ks) (o :: l) i a vs := by
  unfold wpLsI
  exact ⟨fun S V w' hw hV ha hn hI => (h1 S V w' (msd_kept hw) hV ha hn hI).mono fun v w h => ⟨msd_of h.1, h.2⟩, h2⟩
theorem wpLsI_skip {I : InvT} {an : Nat → Nat → Bool} {ks0 : List Nat} {T : Act → World → Prop} {i : Nat} {a : Act} {vs : Nat → Value} {o : Oper} {l : List Oper} {k : Nat} (h : wpLsI P ops C I an ks0 T ks l (i + 1) a vs) (hk : notTwo k := by exact trivial) : wpLsI P ops C I an ks0 T (k :: ks) (o :: l) i a vs := by
  match k, hk with
  | 0, _ => unfold wpLsI; exact h
  | 1, _ => unfold wpLsI; exact h
  | k + 3, _ => unfold wpLsI; exact h
theorem any_inv {Q : Exit → Act → World → Prop} {a : Act} {w : World} {l : List Oper} (ks : List Nat) (D : List Nat) (I : InvT) (hB : schedB0 l.toArray ks = true)
    (hR : ∀ S V w1 w2, Kept (fun b => b ∉ D) w w1 → I S V w1 → Below w1.heap.size w1 w2 → I S V w2) (h0 : ∀ V, I (fun _ => False) V w)
    (h : wpQs P l.toArray (Msd w D) (fun a' => wpLsI P l.toArray (Msd w D) I (ancB (Region.before l.toArray)) ks (fun a'' w'' => wpList P l.toArray (Exit.then (fun a w => Q .normal a w) (fun _ _ _ => False)) (tails ks l) a'' w'') ks l 0 a' (fun _ => undef)) ks l a) :
    Go.wpAny P .any l.toArray Q l.toArray.size (Array.replicate l.toArray.size false) a { w with drawn := w.drawn + 1 } := by
  have H := sch_of0 hB
  have hlen : ks.length = l.length := by simpa using H.len
  obtain ⟨Vq, h1, h2⟩ := qs_facts (l := l) (ks := ks) l ks 0 a rfl rfl h
  have e : l.length = l.toArray.size := by simp
  have h3 := fun V => ls_factsI (l := l) (ks := ks) l ks 0 _ _ rfl rfl (Nat.zero_le _) h2 V (fun j hj => by omega)
  rw [tails_eq (l := l) (ks := ks) l ks 0 rfl rfl hlen, e] at h3
  have hd0 : ∀ K : Nat → Prop, Kept K w { w with drawn := w.drawn + 1 } := fun K => ⟨rfl, rfl, rfl, Nat.le_refl _, fun _ _ _ => rfl⟩
  have := H.phase1I (C := Msd w D) (Q := Q) (a0 := a) (I := I) (an := ancB (Region.before l.toArray)) (fun i j h h1 h2 => ⟨h1, h2, h⟩) (Vq := Vq) (fun w1 w2 h4 h5 => msd_of ((msd_kept h4).trans (Kept.of_below h5))) (fun S V w1 w2 hw => hR S V w1 w2 (msd_kept hw)) (fun i o ho hk => h1 i o (Nat.zero_le _) ho hk)
    (fun V => ⟨fun i o ho hk => (h3 V).1 i o (Nat.zero_le _) ho hk, (h3 V).2⟩)
    l.toArray.size (Array.replicate l.toArray.size false) Vq { w with drawn := w.drawn + 1 } (by simp) (fun j o hj => by simp [up, Array.getElem?_replicate] at hj; split at hj <;> cases hj)
    (by simp only [cnt]; rw [List.countP_eq_length.2 (fun i _ => by simp [up, Array.getElem?_replicate]; split <;> rfl)]; simp) (fun _ _ => rfl) (fun i _ => by simp [up, Array.getElem?_replicate]; split <;> rfl) (msd_of (hd0 _))
    (by
      have e2 : lsUp ks l.toArray.size (Array.replicate l.toArray.size false) = fun _ => False := by
        funext j
        exact propext ⟨fun h => (by have := h.2.2; simp [up, Array.getElem?_replicate] at this; split at this <;> cases this), fun h => h.elim⟩
      rw [e2]
      exact hR _ _ w _ (Kept.refl _ _) (h0 Vq) ⟨rfl, rfl, rfl, Nat.le_refl _, fun _ _ => rfl⟩)
  have hf : (nonT ks l.toArray.size).filter (up (Array.replicate l.toArray.size false)) = [] := List.filter_eq_nil_iff.2 fun i _ => by simp [up, Array.getElem?_replicate]; split <;> simp
  rw [hf] at this
  exact this
/-- THE LAW: one invariant; the blocks D may be written. -/
theorem wp_inv {id : Nat} {Q : Exit → Act → World → Prop} {a : Act} {w : World} {l : List Oper} (ks : List Nat) (D : List Nat) (I : InvT) (hm : P.follows .mixedOrders = true) (hB : schedB0 l.toArray ks = true)
    (hR : ∀ S V w1 w2, Kept (fun b => b ∉ D) w w1 → I S V w1 → Below w1.heap.size w1 w2 → I S V w2) (h0 : ∀ V, I (fun _ => False) V w)
    (h : wpQs P l.toArray (Msd w D) (fun a' => wpLsI P l.toArray (Msd w D) I (ancB (Region.before l.toArray)) ks (fun a'' w'' => wpList P l.toArray (Exit.then (fun a w => Q .normal a w) (fun _ _ _ => False)) (tails ks l) a'' w'') ks l 0 a' (fun _ => undef)) ks l a) : (Code.region id l.toArray true).wp P Q a w :=
  wp_region_any hm (any_inv ks D I hB hR h0 h)
theorem in_inv {l' n id : Nat} {Q : Exit → Act → World → Prop} {a : Act} {w : World} {l : List Oper} (ks : List Nat) (D : List Nat) (I : InvT) (hm : P.follows .mixedOrders = true) (hB : schedB0 l.toArray ks = true)
    (hR : ∀ S V w1 w2, Kept (fun b => b ∉ D) w w1 → I S V w1 → Below w1.heap.size w1 w2 → I S V w2) (h0 : ∀ V, I (fun _ => False) V w) (hd : noDefer l.toArray = true) (hQ : ¬ LetsOut Q)
    (h : wpQs P l.toArray (Msd w D) (fun a' => wpLsI P l.toArray (Msd w D) I (ancB (Region.before l.toArray)) ks (fun a'' w'' => wpList P l.toArray (Exit.then (fun a w => Q .normal a w) (fun _ _ _ => False)) (tails ks l) a'' w'') ks l 0 a' (fun _ => undef)) ks l a) : (Code.region id l.toArray true).wpIn (Fence.wide.inRound l') n P Q a w :=
  wpIn_region_any hm (any_in hd hQ _ _ _ _ (any_inv ks D I hB hR h0 h))
attribute [go_sem] sumAtI sumUponI
end
end Go.Proofs.Ytmkmaoodeebmfaa
