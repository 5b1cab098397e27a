/- SweepSteps holds: any small world, any box, any ways, any height. -/
import Derived.Test.YtckjpiioipkfcaaLSweepStepsZ2
import Derived.Test.YtckjpiioipkfcaaLSweepStepsZ1
import Derived.Test.YtckjpiioipkfcaaLSweepStepsZ5
import Derived.Test.YtckjpiioipkfcaaLSweepStepsZ6
/- A region that draws its order: one invariant over what is laid; guarded operations. No program in sight. -/
namespace Go.Proofs.Ytckjpiioipkfcaa
open Go.RowKit

section
variable {P : Program} {ops : Array Oper} {C : World → Prop} {ks : List Nat}
/-- Some value and world of which R holds. -/
def sumUponI (P : Program) (R : Rel) (w : World) : Result Next → Prop
  | .ok (.value u) w' => R u w'
  | .ok .skip w' => R undef w'
  | .ok (.enter f args) w' => w' = w ∧ Calls P f args w (fun e w'' => ∃ u, e = .returned u ∧ R u w'')
  | _ => False
def sumAtI (P : Program) (o : Oper) (a : Act) (R : Rel) (w : World) : Prop := sumUponI P R w ((execOp a.eval o).run P w)
theorem wp_of_sumAtI {o : Oper} {a : Act} {w : World} {R : Rel} {K : Act → World → Prop} {Q' : Exit → Act → World → Prop} (h : sumAtI P o a R w) (hk : ∀ v w', R v w' → K (a.put o.dst v) w') : o.wp P a w K Q' := by
  unfold sumAtI at h
  unfold Oper.wp
  generalize (execOp a.eval o).run P w = r at *
  cases r with
  | ok nx w' =>
    cases nx <;> simp only [sumUponI] at h <;> simp only [Oper.upon]
    case value u => exact hk _ _ h
    case skip => exact hk _ _ h
    case enter f args =>
      obtain ⟨e1, hc⟩ := h
      rw [e1]
      exact hc.mono fun e w'' ⟨u, he, hR⟩ => by subst he; exact hk _ _ hR
  | halt x w' => simp only [sumUponI] at h
theorem sumAtI.alike {o : Oper} {R : Rel} {w : World} {a b : Act} (hs : ∀ cs b, o.op ≠ .select cs b) (h : Alike ops o a b) (hy : sumAtI P o a R w) : sumAtI P o b R w := by
  unfold sumAtI at *
  rwa [← exec_alike hs h]
theorem sumAtI.mono {o : Oper} {a : Act} {R R' : Rel} {w : World} (hr : ∀ v w, R v w → R' v w) (h : sumAtI P o a R w) : sumAtI P o a R' w := by
  unfold sumAtI at *
  generalize (execOp a.eval o).run P w = r at *
  cases r with
  | ok nx w' =>
    cases nx <;> simp only [sumUponI] at h ⊢
    case value u => exact hr _ _ h
    case skip => exact hr _ _ h
    case enter f args => exact ⟨h.1, h.2.mono fun e w'' ⟨u, he, hR⟩ => ⟨u, he, hr _ _ hR⟩⟩
  | halt x w' => simp only [sumUponI] at h
/-- The same behind a guard. -/
def sumGI (P : Program) (ops : Array Oper) (o : Oper) (a : Act) (R : Rel) (w : World) : Prop :=
  (Region.wanted o (yielded ops a.tmps) = true ∧ sumAtI P o a R w) ∨ (Region.wanted o (yielded ops a.tmps) = false ∧ R undef w)
theorem sumGI.mono {o : Oper} {a : Act} {R R' : Rel} {w : World} (hr : ∀ v w, R v w → R' v w) (h : sumGI P ops o a R w) : sumGI P ops o a R' w :=
  h.imp (fun h => ⟨h.1, h.2.mono hr⟩) fun h => ⟨h.1, hr _ _ h.2⟩
theorem sumGI.alike {o : Oper} {R : Rel} {w : World} {a b : Act} (hs : ∀ cs b, o.op ≠ .select cs b) (h : Alike ops o a b) (hz : a.tmps.size = b.tmps.size) (hy : sumGI P ops o a R w) : sumGI P ops o b R w := by
  unfold sumGI at *
  rw [← wanted_alike h hz]
  exact hy.imp (fun h1 => ⟨h1.1, h1.2.alike hs h⟩) id
def upd (vs : Nat → Value) (i : Nat) (v : Value) : Nat → Value := fun j => if j = i then v else vs j
theorem upd_same (vs : Nat → Value) (i : Nat) (v : Value) : upd vs i v i = v := by unfold upd; rw [if_pos rfl]
theorem upd_ne {vs : Nat → Value} {i j : Nat} {v : Value} (h : j ≠ i) : upd vs i v j = vs j := by unfold upd; rw [if_neg h]
/-- Of what is laid, its values and the world. -/
abbrev InvT := (Nat → Prop) → (Nat → Value) → World → Prop
def andOf (S : Nat → Prop) (i : Nat) : Nat → Prop := fun j => j = i ∨ S j
def wpLsI (P : Program) (ops : Array Oper) (C : World → Prop) (I : InvT) (an : Nat → Nat → Bool) (ks0 : List Nat) (T : Act → World → Prop) : List Nat → List Oper → Nat → Act → (Nat → Value) → Prop
  | _, [], n, a, vs => ∀ V w', C w' → (∀ j, j < n → kd ks0 j = 2 → V j = vs j) → I (fun j => j < n ∧ kd ks0 j = 2) V w' → T a w'
  | [], _ :: _, _, _, _ => False
  | 0 :: ks, _ :: l, i, a, vs => wpLsI P ops C I an ks0 T ks l (i + 1) a vs
  | 1 :: ks, _ :: l, i, a, vs => wpLsI P ops C I an ks0 T ks l (i + 1) a vs
  | 2 :: ks, o :: l, i, a, vs => (∀ S V w', C w' → (∀ j, j < i → kd ks0 j = 2 → V j = vs j) → (∀ j, j < i → kd ks0 j = 2 → an i j = true → S j) → ¬ S i → I S V w' → sumGI P ops o a (fun v w => C w ∧ I (andOf S i) (upd V i v) w) w') ∧ ∀ v, wpLsI P ops C I an ks0 T ks l (i + 1) (a.put o.dst v) (upd vs i v)
  | (_ + 3) :: ks, _ :: l, i, a, vs => wpLsI P ops C I an ks0 T ks l (i + 1) a vs
section
variable {l : List Oper}
theorem ls_factsI {I : InvT} {an : Nat → Nat → Bool} {T : Act → World → Prop} : ∀ (r : List Oper) (kr : List Nat) (k : Nat) (a : Act) (vs : Nat → Value), l.drop k = r → ks.drop k = kr → k ≤ l.length → wpLsI P l.toArray C I an ks T kr r k a vs →
    ∀ V : Nat → Value, (∀ j, j < k → kd ks j = 2 → V j = vs j) → (∀ i o, k ≤ i → l.toArray[i]? = some o → kd ks i = 2 → ∀ S w', C w' → (∀ j, j < i → kd ks j = 2 → an i j = true → S j) → ¬ S i → I S V w' → sumGI P l.toArray o (stL l.toArray V (nums ks pL k i) a) (fun v w => C w ∧ I (andOf S i) (upd V i v) w) w') ∧
      ∀ w', C w' → I (fun j => j < l.length ∧ kd ks j = 2) V w' → T (stL l.toArray V (nums ks pL k l.length) a) w' := by
  intro r
  induction r with
  | nil =>
    intro kr k a vs hr _ hkl h V hvs
    have hk : k = l.length := by have : l.length ≤ k := by simpa using hr
                                 omega
    refine ⟨fun i o hi ho => ?_, fun w' h1 h2 => ?_⟩
    · have := (Array.getElem?_eq_some_iff.1 ho).1; simp at this; omega
    · rw [nums_none (Nat.le_of_eq hk.symm)]; unfold wpLsI at h; subst hk; exact h V w' h1 hvs h2
  | cons o r ih =>
    intro kr k a vs hr hkr hkl h V hvs
    obtain ⟨ho, hr', hlt⟩ := op_at hr
    have hdst : dstOf l.toArray k = o.dst := by unfold dstOf; rw [ho]; rfl
    cases kr with
    | nil => exact h.elim
    | cons c kr =>
      obtain ⟨hc, hkr'⟩ := kd_at hkr
      have skip : c ≠ 2 → wpLsI P l.toArray C I an ks T kr r (k + 1) a vs → (∀ i o, k ≤ i → l.toArray[i]? = some o → kd ks i = 2 → ∀ S w', C w' → (∀ j, j < i → kd ks j = 2 → an i j = true → S j) → ¬ S i → I S V w' → sumGI P l.toArray o (stL l.toArray V (nums ks pL k i) a) (fun v w => C w ∧ I (andOf S i) (upd V i v) w) w') ∧
          ∀ w', C w' → I (fun j => j < l.length ∧ kd ks j = 2) V w' → T (stL l.toArray V (nums ks pL k l.length) a) w' := fun hc2 h => by
        obtain ⟨h3, h4⟩ := ih kr (k + 1) a vs hr' hkr' hlt h V (fun j hj hj2 => hvs j (by rcases Nat.lt_or_eq_of_le (Nat.le_of_lt_succ hj) with e | e; exact e; subst e; omega) hj2)
        have hst : ∀ n, k < n → nums ks pL k n = nums ks pL (k + 1) n := fun n hn => by rw [nums_step hn, hc, if_neg (by simpa using hc2)]
        refine ⟨fun i o' hi ho' hk2 => ?_, fun w' h1 h2 => by rw [hst _ hlt]; exact h4 w' h1 h2⟩
        rcases Nat.lt_or_eq_of_le hi with h5 | h5
        · rw [hst i h5]; exact h3 i o' (by omega) ho' hk2
        · subst h5; omega
      match c, h, hc, skip with
      | 0, h, hc, skip => unfold wpLsI at h; exact skip (by omega) h
      | 1, h, hc, skip => unfold wpLsI at h; exact skip (by omega) h
      | 2, h, hc, _ =>
        unfold wpLsI at h
        obtain ⟨h3, h4⟩ := ih kr (k + 1) _ _ hr' hkr' hlt (h.2 (V k)) V (fun j hj hj2 => by rcases Nat.lt_or_eq_of_le (Nat.le_of_lt_succ hj) with e | e; exact (hvs j e hj2).trans (upd_ne (by omega)).symm; subst e; exact (upd_same _ _ _).symm)
        have hst : ∀ n, k < n → stL l.toArray V (nums ks pL k n) a = stL l.toArray V (nums ks pL (k + 1) n) (a.put o.dst (V k)) := fun n hn => by
          rw [nums_step hn, hc, if_pos (by simp), stL_cons, hdst]
        refine ⟨fun i o' hi ho' hk2 => ?_, fun w' h1 h2 => by rw [hst _ hlt]; exact h4 w' h1 h2⟩
        rcases Nat.lt_or_eq_of_le hi with h5 | h5
        · rw [hst i h5]; exact h3 i o' (by omega) ho' hk2
        · subst h5
          rw [nums_none (Nat.le_refl _)]
          rw [ho] at ho'
          obtain rfl := Option.some.inj ho'
          exact fun S w' h6 h8 h9 h10 => h.1 S V w' h6 hvs h8 h9 h10
      | c + 3, h, hc, skip => unfold wpLsI at h; exact skip (by omega) h
end
variable {anc : Nat → Nat → Prop}
variable {Q : Exit → Act → World → Prop} {V : Nat → Value} {a0 : Act}
/-- The l's that are laid. -/
def lsUp (ks : List Nat) (n : Nat) (listed : Array Bool) : Nat → Prop := fun j => j < n ∧ kd ks j = 2 ∧ up listed j = true
theorem lsUp_skip {listed : Array Bool} {n i : Nat} (hi : i < listed.size) (hk : kd ks i ≠ 2) : lsUp ks n (listed.setIfInBounds i true) = lsUp ks n listed := by
  funext j
  unfold lsUp
  rw [up_set hi]
  by_cases h : j = i
  · subst h; simp [hk]
  · rw [if_neg h]
theorem lsUp_add {listed : Array Bool} {n i : Nat} (hi : i < listed.size) (hn : i < n) (hk : kd ks i = 2) : lsUp ks n (listed.setIfInBounds i true) = andOf (lsUp ks n listed) i := by
  funext j
  unfold lsUp andOf
  rw [up_set hi]
  by_cases h : j = i
  · subst h; simp [hk, hn]
  · rw [if_neg h]; simp [h]
theorem lsUp_all {listed : Array Bool} {n : Nat} (h : ∀ i, i < n → kd ks i = 2 → up listed i = true) : lsUp ks n listed = fun j => j < n ∧ kd ks j = 2 := by
  funext j
  unfold lsUp
  exact propext ⟨fun h => ⟨h.1, h.2.1⟩, fun h1 => ⟨h1.1, h1.2, h j h1.1 h1.2⟩⟩
theorem Sch.phase1I (H : Sch ops ks anc) {Vq : Nat → Value} {I : InvT} {an : Nat → Nat → Bool} (han : ∀ i j, an i j = true → i < ops.size → j < ops.size → anc i j)
    (hC : ∀ w w', C w → Below w.heap.size w w' → C w') (hR : ∀ S V w w', C w → I S V w → Below w.heap.size w w' → I S V w')
    (hG : ∀ (i : Nat) (o : Oper), ops[i]? = some o → kd ks i < 2 → Owe P ops C (kd ks i) o (Vq i) (stL ops Vq (nums ks pQ 0 i) a0))
    (hL : ∀ V : Nat → Value, (∀ (i : Nat) (o : Oper), ops[i]? = some o → kd ks i = 2 → ∀ S w', C w' → (∀ j, j < i → kd ks j = 2 → an i j = true → S j) → ¬ S i → I S V w' → sumGI P ops o (stL ops V (nums ks pL 0 i) (stL ops Vq (nums ks pQ 0 ops.size) a0)) (fun v w => C w ∧ I (andOf S i) (upd V i v) w) w') ∧
      ∀ w', C w' → I (fun j => j < ops.size ∧ kd ks j = 2) V w' → wpList P ops (Exit.then (fun a w => Q .normal a w) (fun _ _ _ => False)) ((nums ks pT 0 ops.size).filterMap fun i => ops[i]?) (stL ops V (nums ks pL 0 ops.size) (stL ops Vq (nums ks pQ 0 ops.size) a0)) w') :
    ∀ (f : Nat) (listed : Array Bool) (V : Nat → Value) (w : World), listed.size = ops.size → Upw ops listed → cnt ops.size listed = f → (∀ i, kd ks i < 2 → V i = Vq i) → (∀ i, 3 ≤ kd ks i → up listed i = false) → C w →
      I (lsUp ks ops.size listed) V w → Go.wpAny P .any ops Q f listed (stL ops V ((nonT ks ops.size).filter (up listed)) a0) w := by
  intro f
  induction f with
  | zero =>
    intro listed V w hs hU hc hV hT hw hRs
    refine H.phase2 (V := V) (a0 := a0) (fun i o ho hk => ?_) 0 listed _ w hs hU hc (fun i hi _ => cnt_zero hc hi) (fun t _ => rfl) (stL_size _ _ _) ?_
    · have := hG i o ho (by omega)
      rw [show stL ops V (nums ks pQ 0 i) a0 = stL ops Vq (nums ks pQ 0 i) a0 from stL_same H.apart fun j => ⟨Iff.rfl, fun h => hV j (by have := (mem_nums.1 h).2; simpa [pQ] using this)⟩, hV i (by omega)]
      unfold Owe at this
      rwa [if_neg (by omega)] at this
    · exact finish listed V w hs hV hT hw hRs (fun i hi _ => cnt_zero hc hi)
  | succ f ih =>
    intro listed V w hs hU hc hV hT hw hRs
    by_cases hall : ∀ i, i < ops.size → kd ks i = 0 ∨ kd ks i = 2 → up listed i = true
    · refine H.phase2 (V := V) (a0 := a0) (fun i o ho hk => ?_) (f + 1) listed _ w hs hU hc hall (fun t _ => rfl) (stL_size _ _ _) ?_
      · have := hG i o ho (by omega)
        rw [show stL ops V (nums ks pQ 0 i) a0 = stL ops Vq (nums ks pQ 0 i) a0 from stL_same H.apart fun j => ⟨Iff.rfl, fun h => hV j (by have := (mem_nums.1 h).2; simpa [pQ] using this)⟩, hV i (by omega)]
        unfold Owe at this
        rwa [if_neg (by omega)] at this
      · exact finish listed V w hs hV hT hw hRs hall
    · refine ⟨fun hr => absurd hr (H.ready_ne hs (by omega)), fun i hi => ?_⟩
      obtain ⟨hu, o, ho, he⟩ := mem_ready.1 hi
      have hlt := (Array.getElem?_eq_some_iff.1 ho).1
      rw [getD_any (by omega)] at hu
      have hdst : dstOf ops i = o.dst := by unfold dstOf; rw [ho]; rfl
      have hup : ∀ j, anc i j → up listed j = true := fun j => H.anc_up hU i o j ho he
      have hk3 : kd ks i < 3 := by
        rcases Nat.lt_or_ge (kd ks i) 3 with h | h
        · exact h
        · exfalso
          apply hall
          intro j hj hk
          rcases H.tail i o ho h j hj with h1 | h1 | h1
          · omega
          · omega
          · exact hup j h1
      have hU' := hU.set (by omega) ho he
      have hs' : (listed.setIfInBounds i true).size = ops.size := by simp [hs]
      have hc' : cnt ops.size (listed.setIfInBounds i true) = f := by have := cnt_set hs hlt hu; omega
      have hT' : ∀ j, 3 ≤ kd ks j → up (listed.setIfInBounds i true) j = false := fun j hj => by
        rw [up_set (by omega), if_neg (fun e => by subst e; omega)]; exact hT j hj
      have hst : ∀ (V' : Nat → Value) (v : Value), (∀ j, j ≠ i → V' j = V j) → V' i = v → (stL ops V ((nonT ks ops.size).filter (up listed)) a0).put o.dst v = stL ops V' ((nonT ks ops.size).filter (up (listed.setIfInBounds i true))) a0 := fun V' v h1 h2 => by
        have e : (stL ops V ((nonT ks ops.size).filter (up listed)) a0).put o.dst v = stL ops V' ((nonT ks ops.size).filter (up listed) ++ [i]) a0 := by
          rw [stL_app, stL_cons, hdst, h2, show stL ops V' ((nonT ks ops.size).filter (up listed)) a0 = stL ops V ((nonT ks ops.size).filter (up listed)) a0 from stL_same H.apart fun j => ⟨Iff.rfl, fun h => h1 j (fun e => by subst e; exact absurd ((List.mem_filter.1 h).2.symm.trans hu) (by decide))⟩]
          rfl
        rw [e]
        refine stL_same H.apart fun j => ⟨?_, fun _ => rfl⟩
        rw [List.mem_append, List.mem_filter, List.mem_filter, List.mem_singleton, up_set (by omega), mem_nonT]
        constructor
        · rintro (⟨h3, h4⟩ | rfl)
          · exact ⟨h3, by split <;> first | rfl | exact h4⟩
          · exact ⟨⟨hlt, hk3⟩, by rw [if_pos rfl]⟩
        · rintro ⟨h3, h4⟩
          by_cases hji : j = i
          · exact .inr hji
          · rw [if_neg hji] at h4; exact .inl ⟨h3, h4⟩
      have hlooks : ∀ t ∈ o.looksAt ops, ∀ j, dstOf ops j = some t → (up listed j = true ∧ j < i ∧ (kd ks j < 2 ∨ (kd ks i = 2 ∧ kd ks j = 2))) ∨ 3 ≤ kd ks j := fun t ht j hj => by
        rcases H.looks i o ho t ht j hj with ⟨h1, h2⟩ | h1
        · exact .inl ⟨hup j h1, (H.lower i j h1).1, by omega⟩
        · exact .inr h1.2.2
      unfold wpOp
      rw [ho]
      dsimp only
      by_cases hk : kd ks i < 2
      · have hal : Alike ops o (stL ops Vq (nums ks pQ 0 i) a0) (stL ops V ((nonT ks ops.size).filter (up listed)) a0) := fun t ht => by
          refine stL_agree H.apart fun j hj => ?_
          rcases hlooks t ht j hj with ⟨h1, h2, h3⟩ | h3
          · exact ⟨⟨fun _ => List.mem_filter.2 ⟨mem_nonT.2 ⟨by omega, by omega⟩, h1⟩, fun _ => mem_nums.2 ⟨⟨Nat.zero_le _, h2⟩, by simp [pQ]; omega⟩⟩, fun _ => (hV j (by omega)).symm⟩
          · exact ⟨⟨fun h => (by have := (mem_nums.1 h).2; simp [pQ] at this; omega), fun h => (by have := (mem_nonT.1 (List.mem_filter.1 h).1).2; omega)⟩, fun h => (by have := (mem_nums.1 h).2; simp [pQ] at this; omega)⟩
        have hy0 := hG i o ho hk
        have hy : Gives P ops C o (V i) (stL ops V ((nonT ks ops.size).filter (up listed)) a0) := by
          rw [hV i hk]
          unfold Owe at hy0
          by_cases hz : kd ks i = 0
          · rw [if_pos hz] at hy0
            exact Gives.alike (H.sel i o · · ho) hal (by rw [stL_size, stL_size]) hy0
          · rw [if_neg hz] at hy0
            exact Gives.alike (H.sel i o · · ho) hal (by rw [stL_size, stL_size]) hy0.gives
        have hls : lsUp ks ops.size (listed.setIfInBounds i true) = lsUp ks ops.size listed := lsUp_skip (by omega) (by omega)
        rcases hy with ⟨hwn, hv⟩ | ⟨hwn, hv⟩
        · rw [if_pos hwn]
          refine .inl (wp_of_relAt (hv w hw) fun w' hb => ?_)
          rw [hst V (V i) (fun _ _ => rfl) rfl]
          exact ih _ V w' hs' hU' hc' hV hT' (hC _ _ hw hb) (by rw [hls]; exact hR _ _ _ _ hw hRs hb)
        · rw [if_neg (by rw [hwn]; decide), ← hv, hst V (V i) (fun _ _ => rfl) rfl]
          exact ih _ V w hs' hU' hc' hV hT' hw (by rw [hls]; exact hRs)
      · have hk2 : kd ks i = 2 := by omega
        have hal : Alike ops o (stL ops V (nums ks pL 0 i) (stL ops Vq (nums ks pQ 0 ops.size) a0)) (stL ops V ((nonT ks ops.size).filter (up listed)) a0) := fun t ht => by
          rw [show stL ops Vq (nums ks pQ 0 ops.size) a0 = stL ops V (nums ks pQ 0 ops.size) a0 from stL_same H.apart fun j => ⟨Iff.rfl, fun h => (hV j (by have := (mem_nums.1 h).2; simpa [pQ] using this)).symm⟩, ← stL_app]
          refine stL_agree H.apart fun j hj => ⟨?_, fun _ => rfl⟩
          rcases hlooks t ht j hj with ⟨h1, h2, h3⟩ | h3
          · refine ⟨fun _ => List.mem_filter.2 ⟨mem_nonT.2 ⟨by omega, by omega⟩, h1⟩, fun _ => ?_⟩
            rcases h3 with h3 | ⟨-, h3⟩
            · exact List.mem_append_left _ (mem_nums.2 ⟨⟨Nat.zero_le _, by omega⟩, by simp [pQ]; omega⟩)
            · exact List.mem_append_right _ (mem_nums.2 ⟨⟨Nat.zero_le _, h2⟩, by simp [pL, h3]⟩)
          · refine ⟨fun h => ?_, fun h => (by have := (mem_nonT.1 (List.mem_filter.1 h).1).2; omega)⟩
            rcases List.mem_append.1 h with h | h
            · have := (mem_nums.1 h).2; simp [pQ] at this; omega
            · have := (mem_nums.1 h).2; simp [pL] at this; omega
        have hls := lsUp_add (ks := ks) (n := ops.size) (listed := listed) (by omega) hlt hk2
        have hy := sumGI.alike (H.sel i o · · ho) hal (by rw [stL_size, stL_size, stL_size]) ((hL V).1 i o ho hk2 (lsUp ks ops.size listed) w hw (fun j hj1 hj2 hj3 => ⟨by omega, hj2, hup j (han i j hj3 hlt (by omega))⟩) (fun h => by have := h.2.2; rw [show up listed i = listed.getD i false from rfl, hu] at this; cases this) hRs)
        rcases hy with ⟨hwn, hy⟩ | ⟨hwn, hy⟩
        · rw [if_pos hwn]
          refine .inl (wp_of_sumAtI hy fun v w' hv => ?_)
          rw [hst (upd V i v) v (fun j hj => upd_ne hj) (upd_same _ _ _)]
          exact ih _ _ w' hs' hU' hc' (fun j hj => by rw [upd_ne (fun e => by subst e; omega)]; exact hV j hj) hT' hv.1 (by rw [hls]; exact hv.2)
        · rw [if_neg (by rw [hwn]; decide), hst (upd V i undef) undef (fun j hj => upd_ne hj) (upd_same _ _ _)]
          exact ih _ _ w hs' hU' hc' (fun j hj => by rw [upd_ne (fun e => by subst e; omega)]; exact hV j hj) hT' hw (by rw [hls]; exact hy.2)
where
  finish (listed : Array Bool) (V : Nat → Value) (w : World) (hs : listed.size = ops.size) (hV : ∀ i, kd ks i < 2 → V i = Vq i) (hT : ∀ i, 3 ≤ kd ks i → up listed i = false) (hw : C w) (hRs : I (lsUp ks ops.size listed) V w)
      (hall : ∀ i, i < ops.size → kd ks i = 0 ∨ kd ks i = 2 → up listed i = true) : wpList P ops (Exit.then (fun a w => Q .normal a w) (fun _ _ _ => False)) (((nums ks pT 0 ops.size).filter fun i => !up listed i).filterMap fun i => ops[i]?)
        (stL ops V ((nums ks pF 0 ops.size).filter fun i => !up listed i) (stL ops V ((nonT ks ops.size).filter (up listed)) a0)) w := by
    have h := (hL V).2 w hw (by rw [← lsUp_all (listed := listed) fun i hi hk => hall i hi (.inr hk)]; exact hRs)
    rw [show stL ops Vq (nums ks pQ 0 ops.size) a0 = stL ops V (nums ks pQ 0 ops.size) a0 from stL_same H.apart fun j => ⟨Iff.rfl, fun h => (hV j (by have := (mem_nums.1 h).2; simpa [pQ] using this)).symm⟩, ← stL_app] at h
    rw [← stL_app, List.filter_eq_self.2 (fun i hi => by
      have := (mem_nums.1 hi).2
      rw [hT i (by simpa [pT] using this)]; rfl)]
    rw [show stL ops V ((nonT ks ops.size).filter (up listed) ++ (nums ks pF 0 ops.size).filter fun i => !up listed i) a0 = stL ops V (nums ks pQ 0 ops.size ++ nums ks pL 0 ops.size) a0 from stL_same H.apart fun j => ⟨?_, fun _ => rfl⟩]
    · exact h
    · rw [List.mem_append, List.mem_filter, List.mem_filter, mem_nonT, mem_nums]
      simp only [pF, beq_iff_eq, Bool.not_eq_true']
      constructor
      · rintro (h1 | h1)
        · exact h1.1
        · exact ⟨h1.1.1.2, by omega⟩
      · intro h1
        cases hu : up listed j with
        | true => exact .inl ⟨h1, rfl⟩
        | false =>
          refine .inr ⟨⟨⟨Nat.zero_le _, h1.1⟩, ?_⟩, rfl⟩
          have h2 : ¬ (kd ks j = 0 ∨ kd ks j = 2) := fun h => by rw [hall j h1.1 h] at hu; cases hu
          omega

/-- But for the blocks D all lies as it lay. -/
def KeptD (D : List Nat) (w0 w : World) : Prop := Kept (fun b => b ∉ D) w0 w
section
variable {D : List Nat} {w0 w w' : World}
theorem KeptD.on (h : KeptD D w0 w) (k : Below w.heap.size w w') : KeptD D w0 w' := Kept.on h k
theorem KeptD.none (h : KeptD [] w0 w) : Below w0.heap.size w0 w := Kept.none h
theorem KeptD.blk {g : Nat} {t : TypeId} {cs : Array Value} (h : KeptD D w0 w) (hg : g ∉ D) (hb : Blk w0 g t cs) : Blk w g t cs := Kept.blk h hg hb
end
theorem wpLsI_nil {w0 : World} {D : List Nat} {I : InvT} {an : Nat → Nat → Bool} {ks0 : List Nat} {T : Act → World → Prop} {n : Nat} {a : Act} {vs : Nat → Value} (h : ∀ V w', KeptD D w0 w' → (∀ j, j < n → kd ks0 j = 2 → V j = vs j) → I (fun j => j < n ∧ kd ks0 j = 2) V w' → T a w') : wpLsI P ops (Msd w0 D) I an ks0 T [] [] n a vs := by
  unfold wpLsI; exact fun V w' hw => h V w' (msd_kept hw)
/-- An l without a guard. -/
theorem wpLsI_one {w0 : World} {D : List Nat} {I : InvT} {an : Nat → Nat → Bool} {ks0 : List Nat} {T : Act → World → Prop} {i : Nat} {a : Act} {vs : Nat → Value} {o : Oper} {l : List Oper} (hg : o.guard = none)
    (h1 : ∀ S V w', KeptD D w0 w' → (∀ j, j < i → kd ks0 j = 2 → V j = vs j) → (∀ j, j < i → kd ks0 j = 2 → an i j = true → S j) → ¬ S i → I S V w' → sumAtI P o a (fun v w => KeptD D w0 w ∧ I (andOf S i) (upd V i v) w) w') (h2 : ∀ v, wpLsI P ops (Msd w0 D) I an ks0 T ks l (i + 1) (a.put o.dst v) (upd vs i v)) :
    wpLsI P ops (Msd w0 D) I an ks0 T (2 :: ks) (o :: l) i a vs := by
  unfold wpLsI
  exact ⟨fun S V w' hw hV ha hn hI => .inl ⟨by simp [Region.wanted, hg], (h1 S V w' (msd_kept hw) hV ha hn hI).mono fun v w h => ⟨msd_of h.1, h.2⟩⟩, h2⟩
/-- An l behind a guard. -/
theorem wpLsI_grd {w0 : World} {D : List Nat} {I : InvT} {an : Nat → Nat → Bool} {ks0 : List Nat} {T : Act → World → Prop} {i : Nat} {a : Act} {vs : Nat → Value} {o : Oper} {l : List Oper}
    (h1 : ∀ S V w', KeptD D w0 w' → (∀ j, j < i → kd ks0 j = 2 → V j = vs j) → (∀ j, j < i → kd ks0 j = 2 → an i j = true → S j) → ¬ S i → I S V w' → sumGI P ops o a (fun v w => KeptD D w0 w ∧ I (andOf S i) (upd V i v) w) w') (h2 : ∀ v, wpLsI P ops (Msd w0 D) I an ks0 T ks l (i + 1) (a.put o.dst v) (upd vs i v)) :
    wpLsI P ops (Msd w0 D) I an ks0 T (2 :: ks) (o :: l) i a vs := by
  unfold wpLsI
  exact ⟨fun S V w' hw hV ha hn hI => (h1 S V w' (msd_kept hw) hV ha hn hI).mono fun v w h => ⟨msd_of h.1, h.2⟩, h2⟩
theorem wpLsI_skip {I : InvT} {an : Nat → Nat → Bool} {ks0 : List Nat} {T : Act → World → Prop} {i : Nat} {a : Act} {vs : Nat → Value} {o : Oper} {l : List Oper} {k : Nat} (h : wpLsI P ops C I an ks0 T ks l (i + 1) a vs) (hk : notTwo k := by exact trivial) : wpLsI P ops C I an ks0 T (k :: ks) (o :: l) i a vs := by
  match k, hk with
  | 0, _ => unfold wpLsI; exact h
  | 1, _ => unfold wpLsI; exact h
  | k + 3, _ => unfold wpLsI; exact h
theorem any_inv {Q : Exit → Act → World → Prop} {a : Act} {w : World} {l : List Oper} (ks : List Nat) (D : List Nat) (I : InvT) (hB : schedB0 l.toArray ks = true)
    (hR : ∀ S V w1 w2, Kept (fun b => b ∉ D) w w1 → I S V w1 → Below w1.heap.size w1 w2 → I S V w2) (h0 : ∀ V, I (fun _ => False) V w)
    (h : wpQs P l.toArray (Msd w D) (fun a' => wpLsI P l.toArray (Msd w D) I (ancB (Region.before l.toArray)) ks (fun a'' w'' => wpList P l.toArray (Exit.then (fun a w => Q .normal a w) (fun _ _ _ => False)) (tails ks l) a'' w'') ks l 0 a' (fun _ => undef)) ks l a) :
    Go.wpAny P .any l.toArray Q l.toArray.size (Array.replicate l.toArray.size false) a { w with drawn := w.drawn + 1 } := by
  have H := sch_of0 hB
  have hlen : ks.length = l.length := by simpa using H.len
  obtain ⟨Vq, h1, h2⟩ := qs_facts (l := l) (ks := ks) l ks 0 a rfl rfl h
  have e : l.length = l.toArray.size := by simp
  have h3 := fun V => ls_factsI (l := l) (ks := ks) l ks 0 _ _ rfl rfl (Nat.zero_le _) h2 V (fun j hj => by omega)
  rw [tails_eq (l := l) (ks := ks) l ks 0 rfl rfl hlen, e] at h3
  have hd0 : ∀ K : Nat → Prop, Kept K w { w with drawn := w.drawn + 1 } := fun K => ⟨rfl, rfl, rfl, Nat.le_refl _, fun _ _ _ => rfl⟩
  have := H.phase1I (C := Msd w D) (Q := Q) (a0 := a) (I := I) (an := ancB (Region.before l.toArray)) (fun i j h h1 h2 => ⟨h1, h2, h⟩) (Vq := Vq) (fun w1 w2 h4 h5 => msd_of ((msd_kept h4).trans (Kept.of_below h5))) (fun S V w1 w2 hw => hR S V w1 w2 (msd_kept hw)) (fun i o ho hk => h1 i o (Nat.zero_le _) ho hk)
    (fun V => ⟨fun i o ho hk => (h3 V).1 i o (Nat.zero_le _) ho hk, (h3 V).2⟩)
    l.toArray.size (Array.replicate l.toArray.size false) Vq { w with drawn := w.drawn + 1 } (by simp) (fun j o hj => by simp [up, Array.getElem?_replicate] at hj; split at hj <;> cases hj)
    (by simp only [cnt]; rw [List.countP_eq_length.2 (fun i _ => by simp [up, Array.getElem?_replicate]; split <;> rfl)]; simp) (fun _ _ => rfl) (fun i _ => by simp [up, Array.getElem?_replicate]; split <;> rfl) (msd_of (hd0 _))
    (by
      have e2 : lsUp ks l.toArray.size (Array.replicate l.toArray.size false) = fun _ => False := by
        funext j
        exact propext ⟨fun h => (by have := h.2.2; simp [up, Array.getElem?_replicate] at this; split at this <;> cases this), fun h => h.elim⟩
      rw [e2]
      exact hR _ _ w _ (Kept.refl _ _) (h0 Vq) ⟨rfl, rfl, rfl, Nat.le_refl _, fun _ _ => rfl⟩)
  have hf : (nonT ks l.toArray.size).filter (up (Array.replicate l.toArray.size false)) = [] := List.filter_eq_nil_iff.2 fun i _ => by simp [up, Array.getElem?_replicate]; split <;> simp
  rw [hf] at this
  exact this
/-- THE LAW: one invariant; the blocks D may be written. -/
theorem wp_inv {id : Nat} {Q : Exit → Act → World → Prop} {a : Act} {w : World} {l : List Oper} (ks : List Nat) (D : List Nat) (I : InvT) (hm : P.follows .mixedOrders = true) (hB : schedB0 l.toArray ks = true)
    (hR : ∀ S V w1 w2, Kept (fun b => b ∉ D) w w1 → I S V w1 → Below w1.heap.size w1 w2 → I S V w2) (h0 : ∀ V, I (fun _ => False) V w)
    (h : wpQs P l.toArray (Msd w D) (fun a' => wpLsI P l.toArray (Msd w D) I (ancB (Region.before l.toArray)) ks (fun a'' w'' => wpList P l.toArray (Exit.then (fun a w => Q .normal a w) (fun _ _ _ => False)) (tails ks l) a'' w'') ks l 0 a' (fun _ => undef)) ks l a) : (Code.region id l.toArray true).wp P Q a w :=
  wp_region_any hm (any_inv ks D I hB hR h0 h)
theorem in_inv {l' n id : Nat} {Q : Exit → Act → World → Prop} {a : Act} {w : World} {l : List Oper} (ks : List Nat) (D : List Nat) (I : InvT) (hm : P.follows .mixedOrders = true) (hB : schedB0 l.toArray ks = true)
    (hR : ∀ S V w1 w2, Kept (fun b => b ∉ D) w w1 → I S V w1 → Below w1.heap.size w1 w2 → I S V w2) (h0 : ∀ V, I (fun _ => False) V w) (hd : noDefer l.toArray = true) (hQ : ¬ LetsOut Q)
    (h : wpQs P l.toArray (Msd w D) (fun a' => wpLsI P l.toArray (Msd w D) I (ancB (Region.before l.toArray)) ks (fun a'' w'' => wpList P l.toArray (Exit.then (fun a w => Q .normal a w) (fun _ _ _ => False)) (tails ks l) a'' w'') ks l 0 a' (fun _ => undef)) ks l a) : (Code.region id l.toArray true).wpIn (Fence.wide.inRound l') n P Q a w :=
  wpIn_region_any hm (any_in hd hQ _ _ _ _ (any_inv ks D I hB hR h0 h))
attribute [go_sem] sumAtI sumUponI
end
end Go.Proofs.Ytckjpiioipkfcaa

/- Regions that lay new variables and store into them, in any order: an invariant. No program in sight. -/
namespace Go.Proofs.Ytckjpiioipkfcaa
open Go.RowKit

/-- A new variable: the numbers of its allocation and its store, its type, its cells ahead of that and behind. -/
structure BoxCfg where
  a : Nat
  s : Nat
  t : TypeId
  z : Array Value
  c : Array Value
/-- Only blocks from n on of these types are turned. -/
structure StepTs (n : Nat) (ts : List TypeId) (w w' : World) : Prop where
  size : w.heap.size ≤ w'.heap.size
  keep : ∀ b, b < w.heap.size → (b < n ∨ ∀ t ∈ ts, ∀ cs, ¬ Blk w b t cs) → w'.heap[b]? = w.heap[b]?
section
variable {n N : Nat} {ts : List TypeId} {w w' : World} {B : List BoxCfg} {U : Nat → Rel} {S : Nat → Prop} {V : Nat → Value}
theorem StepTs.of_below (h : Below w.heap.size w w') : StepTs n ts w w' := ⟨h.size, fun b hb _ => h.block b hb⟩
theorem StepTs.blk {b : Nat} {t' : TypeId} {cs : Array Value} (h : StepTs n ts w w') (hb : Blk w b t' cs) (hne : t' ∉ ts) : Blk w' b t' cs :=
  (h.keep b hb.lt (.inr fun t ht ds hd => hne (by
    unfold Blk at hb hd
    rw [hb] at hd
    injection hd with hd; injection hd with h1 h2; exact h2 ▸ ht))).trans hb
theorem StepTs.old {b : Nat} {t' : TypeId} {cs : Array Value} (h : StepTs n ts w w') (hb : Blk w b t' cs) (hn : b < n) : Blk w' b t' cs := (h.keep b hb.lt (.inl hn)).trans hb
def BoxI (N : Nat) (x : BoxCfg) : InvT := fun S V w => (S x.s → S x.a) ∧ (S x.a → ∃ b, V x.a = .pointer (some ⟨b, 0, none⟩) ∧ N ≤ b ∧ (¬ S x.s → Blk w b x.t x.z) ∧ (S x.s → Blk w b x.t x.c))
def ManyI (N : Nat) (B : List BoxCfg) (U : Nat → Rel) : InvT := fun S V w =>
  (∀ i, S i → U i (V i) w) ∧ (∀ x ∈ B, BoxI N x S V w) ∧ (∀ x ∈ B, ∀ y ∈ B, x.a ≠ y.a → S x.a → S y.a → V x.a ≠ V y.a)
def OkB (B : List BoxCfg) : Prop := B.Pairwise (fun x y => x.a ≠ y.a ∧ x.s ≠ y.s ∧ x.a ≠ y.s ∧ x.s ≠ y.a) ∧ ∀ x ∈ B, x.a ≠ x.s
theorem pw_mem {α : Type} {R : α → α → Prop} : ∀ {l : List α}, l.Pairwise R → ∀ x ∈ l, ∀ y ∈ l, x = y ∨ R x y ∨ R y x := by
  intro l
  induction l with
  | nil => intro _ x hx; cases hx
  | cons a l ih =>
    intro h x hx y hy
    rw [List.pairwise_cons] at h
    rcases List.mem_cons.1 hx with e | hx' <;> rcases List.mem_cons.1 hy with e' | hy'
    · exact .inl (e.trans e'.symm)
    · exact .inr (.inl (e ▸ h.1 y hy'))
    · exact .inr (.inr (e' ▸ h.1 x hx'))
    · exact ih h.2 x hx' y hy'
theorem OkB.of (h : OkB B) {x y : BoxCfg} (hx : x ∈ B) (hy : y ∈ B) : x = y ∨ (x.a ≠ y.a ∧ x.s ≠ y.s ∧ x.a ≠ y.s ∧ x.s ≠ y.a) := by
  rcases pw_mem h.1 x hx y hy with e | e | e
  · exact .inl e
  · exact .inr e
  · exact .inr ⟨e.1.symm, e.2.1.symm, e.2.2.2.symm, e.2.2.1.symm⟩
/-- What the relations of the other operations must bear. -/
def Bears (N : Nat) (B : List BoxCfg) (U : Nat → Rel) : Prop := ∀ i v w w', U i v w → StepTs N (B.map (·.t)) w w' → U i v w'
theorem manyI_zero : ManyI N B U (fun _ => False) V w := ⟨fun _ h => h.elim, fun _ _ => ⟨fun h => h.elim, fun h => h.elim⟩, fun _ _ _ _ _ h => h.elim⟩
theorem ManyI.below (hU : Bears N B U) (h : ManyI N B U S V w) (hb : Below w.heap.size w w') : ManyI N B U S V w' :=
  ⟨fun i hi => hU i _ _ _ (h.1 i hi) (StepTs.of_below hb), fun x hx => ⟨(h.2.1 x hx).1, fun ha => by
    obtain ⟨b, h1, h2, h3, h4⟩ := (h.2.1 x hx).2 ha
    exact ⟨b, h1, h2, fun hs => (h3 hs).on hb, fun hs => (h4 hs).on hb⟩⟩, h.2.2⟩
/-- An operation that lays no such variable. -/
theorem ManyI.l {i : Nat} {v : Value} (hi : ∀ x ∈ B, x.a ≠ i ∧ x.s ≠ i) (hU : Bears N B U) (h : ManyI N B U S V w) (hb : Below w.heap.size w w') (hu : U i v w') : ManyI N B U (andOf S i) (upd V i v) w' := by
  have h := h.below hU hb
  refine ⟨fun j hj => ?_, fun x hx => ⟨fun hs => ?_, fun ha => ?_⟩, fun x hx y hy hne h1 h2 => ?_⟩
  · by_cases e : j = i
    · subst e; rw [upd_same]; exact hu
    · rw [upd_ne e]; exact h.1 j (hj.resolve_left e)
  · exact .inr ((h.2.1 x hx).1 (hs.resolve_left (hi x hx).2))
  · obtain ⟨b, h1, h2, h3, h4⟩ := (h.2.1 x hx).2 (ha.resolve_left (hi x hx).1)
    rw [upd_ne (hi x hx).1]
    exact ⟨b, h1, h2, fun hs => h3 fun k => hs (.inr k), fun hs => h4 (hs.resolve_left (hi x hx).2)⟩
  · rw [upd_ne (hi x hx).1, upd_ne (hi y hy).1]
    exact h.2.2 x hx y hy hne (h1.resolve_left (hi x hx).1) (h2.resolve_left (hi y hy).1)
/-- A variable is laid. -/
theorem ManyI.new {x : BoxCfg} (hx : x ∈ B) (hB : OkB B) (hU : Bears N B U) (hT : ∀ v w, U x.a v w) (hN : N ≤ w.heap.size) (hn : ¬ S x.a) (h : ManyI N B U S V w) : ManyI N B U (andOf S x.a) (upd V x.a (.pointer (some ⟨w.heap.size, 0, none⟩))) (w.alloc (.cells x.z x.t)) := by
  have hb : Below w.heap.size w (w.alloc (.cells x.z x.t)) := (Below.refl _ _).alloc (Nat.le_refl _) _
  have hs0 : ¬ S x.s := fun hs => hn ((h.2.1 x hx).1 hs)
  have hlt : ∀ y ∈ B, S y.a → V y.a ≠ .pointer (some ⟨w.heap.size, 0, none⟩) := fun y hy ha e => by
    obtain ⟨b, h1, h2, h3, h4⟩ := (h.2.1 y hy).2 ha
    have : b < w.heap.size := by
      by_cases hs : S y.s
      · exact (h4 hs).lt
      · exact (h3 hs).lt
    rw [h1] at e
    injection e with e; injection e with e; injection e with e
    omega
  have k := h.below hU hb
  refine ⟨fun j hj => ?_, fun y hy => ?_, fun y hy z hz hne h1 h2 => ?_⟩
  · by_cases e : j = x.a
    · subst e; exact hT _ _
    · rw [upd_ne e]; exact k.1 j (hj.resolve_left e)
  · rcases hB.of hy hx with rfl | ⟨e1, e2, e3, e4⟩
    · have hne := hB.2 y hy
      refine ⟨fun _ => .inl rfl, fun _ => ⟨w.heap.size, upd_same _ _ _, hN, fun _ => Blk.new w _ _, fun hs => absurd (hs.resolve_left hne.symm) hs0⟩⟩
    · refine ⟨fun hs => .inr ((k.2.1 y hy).1 (hs.resolve_left e4)), fun ha => ?_⟩
      obtain ⟨b, h1, h2, h3, h4⟩ := (k.2.1 y hy).2 (ha.resolve_left e1)
      rw [upd_ne e1]
      exact ⟨b, h1, h2, fun hs => h3 fun k => hs (.inr k), fun hs => h4 (hs.resolve_left e4)⟩
  · by_cases e1 : y.a = x.a
    · have e2 : z.a ≠ x.a := fun e => hne (e1.trans e.symm)
      rw [e1, upd_same, upd_ne e2]
      exact fun e => hlt z hz (h2.resolve_left e2) e.symm
    · by_cases e2 : z.a = x.a
      · rw [e2, upd_same, upd_ne e1]
        exact hlt y hy (h1.resolve_left e1)
      · rw [upd_ne e1, upd_ne e2]
        exact k.2.2 y hy z hz hne (h1.resolve_left e1) (h2.resolve_left e2)
/-- A variable is set. -/
theorem ManyI.set {x : BoxCfg} {b : Nat} {v : Value} (hx : x ∈ B) (hB : OkB B) (hU : Bears N B U) (hT : ∀ v w, U x.s v w) (hn : ¬ S x.s) (h : ManyI N B U S V w) (ha : S x.a) (hv : V x.a = .pointer (some ⟨b, 0, none⟩)) (hk : Kept (fun c => c ≠ b) w w') (hb : Blk w' b x.t x.c) : ManyI N B U (andOf S x.s) (upd V x.s v) w' := by
  have hne := hB.2 x hx
  obtain ⟨b', h1, h2, h3, h4⟩ := (h.2.1 x hx).2 ha
  obtain rfl : b = b' := by rw [hv] at h1; injection h1 with e; injection e with e; injection e
  have hz := h3 hn
  have hst : StepTs N (B.map (·.t)) w w' := ⟨hk.size, fun c hc hcc => hk.block c hc fun e => by
    subst e
    rcases hcc with h5 | h5
    · omega
    · exact h5 x.t (List.mem_map.2 ⟨x, hx, rfl⟩) _ hz⟩
  refine ⟨fun j hj => ?_, fun y hy => ?_, fun y hy z hz' hne' k1 k2 => ?_⟩
  · by_cases e : j = x.s
    · subst e; exact hT _ _
    · rw [upd_ne e]; exact hU _ _ _ _ (h.1 j (hj.resolve_left e)) hst
  · rcases hB.of hy hx with rfl | ⟨e1, e2, e3, e4⟩
    · refine ⟨fun _ => .inr ha, fun _ => ⟨b, by rw [upd_ne hne]; exact hv, h2, fun hs => absurd (.inl rfl) hs, fun _ => hb⟩⟩
    · refine ⟨fun hs => .inr ((h.2.1 y hy).1 (hs.resolve_left e2)), fun hya => ?_⟩
      obtain ⟨c, k1, k2, k3, k4⟩ := (h.2.1 y hy).2 (hya.resolve_left e3)
      have hcb : c ≠ b := fun e => h.2.2 y hy x hx e1 (hya.resolve_left e3) ha (by rw [k1, hv, e])
      rw [upd_ne e3]
      exact ⟨c, k1, k2, fun hs => hk.blk hcb (k3 fun k => hs (.inr k)), fun hs => hk.blk hcb (k4 (hs.resolve_left e2))⟩
  · have f1 : y.a ≠ x.s := by rcases hB.of hy hx with rfl | ⟨_, _, e3, _⟩; exact hne; exact e3
    have f2 : z.a ≠ x.s := by rcases hB.of hz' hx with rfl | ⟨_, _, e3, _⟩; exact hne; exact e3
    rw [upd_ne f1, upd_ne f2]
    exact h.2.2 y hy z hz' hne' (k1.resolve_left f1) (k2.resolve_left f2)
theorem ManyI.of {j : Nat} {v : Value} (h : ManyI N B U S V w) (hs : S j) (hv : V j = v) : U j v w := hv ▸ h.1 j hs
/-- At a store: where it goes. -/
theorem ManyI.slot {x : BoxCfg} (hx : x ∈ B) (h : ManyI N B U S V w) (ha : S x.a) (hn : ¬ S x.s) : ∃ b, V x.a = .pointer (some ⟨b, 0, none⟩) ∧ N ≤ b ∧ Blk w b x.t x.z := by
  obtain ⟨b, h1, h2, h3, _⟩ := (h.2.1 x hx).2 ha
  exact ⟨b, h1, h2, h3 hn⟩
theorem ManyI.done {x : BoxCfg} (hx : x ∈ B) (h : ManyI N B U S V w) (ha : S x.a) (hs : S x.s) : ∃ b, V x.a = .pointer (some ⟨b, 0, none⟩) ∧ N ≤ b ∧ Blk w b x.t x.c := by
  obtain ⟨b, h1, h2, _, h4⟩ := (h.2.1 x hx).2 ha
  exact ⟨b, h1, h2, h4 hs⟩
/-- A store into a new block keeps what was there. -/
theorem KeptD.new_set {w0 : World} {D : List Nat} {b : Nat} (h : KeptD D w0 w) (hb : w0.heap.size ≤ b) (hk : Kept (fun c => c ≠ b) w w') : KeptD D w0 w' :=
  ⟨hk.os.trans h.os, hk.tape.trans h.tape, hk.output.trans h.output, Nat.le_trans h.size hk.size, fun c hc hD => (hk.block c (Nat.lt_of_lt_of_le hc h.size) (by omega)).trans (h.block c hc hD)⟩
end
/-- Relations by the numbers of their operations. -/
def relsU : List (Nat × Rel) → Nat → Rel
  | [], _ => fun _ _ => True
  | (k, R) :: l, i => if i = k then R else relsU l i
section
variable {N : Nat} {B : List BoxCfg} {l : List (Nat × Rel)} {k : Nat}
theorem bears_nil : Bears N B (relsU []) := fun _ _ _ _ h _ => h
theorem bears_cons {R : Rel} (hR : ∀ v w w', R v w → StepTs N (B.map (·.t)) w w' → R v w') (h : Bears N B (relsU l)) : Bears N B (relsU ((k, R) :: l)) := fun i v w w' hv hs => by
  unfold relsU at *
  by_cases e : i = k
  · rw [if_pos e] at *; exact hR v w w' hv hs
  · rw [if_neg e] at *; exact h i v w w' hv hs
theorem bears_val {x : Value} (h : Bears N B (relsU l)) : Bears N B (relsU ((k, fun v _ => v = x) :: l)) := bears_cons (fun _ _ _ hv _ => hv) h
end
/-- THE LAW for new variables. -/
theorem wp_many {P : Program} {id : Nat} {Q : Exit → Act → World → Prop} {a : Act} {w : World} {l : List Oper} (ks : List Nat) (B : List BoxCfg) (U : Nat → Rel) (hm : P.follows .mixedOrders = true) (hB : schedB0 l.toArray ks = true) (hU : Bears w.heap.size B U)
    (h : wpQs P l.toArray (Msd w []) (fun a' => wpLsI P l.toArray (Msd w []) (ManyI w.heap.size B U) (ancB (Region.before l.toArray)) ks (fun a'' w'' => wpList P l.toArray (Exit.then (fun a w => Q .normal a w) (fun _ _ _ => False)) (tails ks l) a'' w'') ks l 0 a' (fun _ => undef)) ks l a) : (Code.region id l.toArray true).wp P Q a w :=
  wp_inv ks [] _ hm hB (fun _ _ _ _ _ h1 h2 => h1.below hU h2) (fun _ => manyI_zero) h
theorem in_many {P : Program} {l' n id : Nat} {Q : Exit → Act → World → Prop} {a : Act} {w : World} {l : List Oper} (ks : List Nat) (B : List BoxCfg) (U : Nat → Rel) (hm : P.follows .mixedOrders = true) (hB : schedB0 l.toArray ks = true) (hU : Bears w.heap.size B U) (hd : noDefer l.toArray = true) (hQ : ¬ LetsOut Q)
    (h : wpQs P l.toArray (Msd w []) (fun a' => wpLsI P l.toArray (Msd w []) (ManyI w.heap.size B U) (ancB (Region.before l.toArray)) ks (fun a'' w'' => wpList P l.toArray (Exit.then (fun a w => Q .normal a w) (fun _ _ _ => False)) (tails ks l) a'' w'') ks l 0 a' (fun _ => undef)) ks l a) : (Code.region id l.toArray true).wpIn (Fence.wide.inRound l') n P Q a w :=
  in_inv ks [] _ hm hB (fun _ _ _ _ _ h1 h2 => h1.below hU h2) (fun _ => manyI_zero) hd hQ h
end Go.Proofs.Ytckjpiioipkfcaa

/- Structs are what they are. -/
namespace Go.Proofs.Ytckjpiioipkfcaa
open Go.ChangeShapes Go.WideShapes Go.ChangeAt Go.RowKit

theorem cell_guard : Try.prog.eqGuardType Try.prog.depth 59 = false := by kernel_rfl
theorem boxg_guard : Try.prog.eqGuardType Try.prog.depth 28 = false := by kernel_rfl
theorem cell_ne_self (a b c : Int) (w : World) : (binOp .neq 59 (.agg #[.int .i64 a, .int .i64 b, .int .i64 c]) (.agg #[.int .i64 a, .int .i64 b, .int .i64 c])).run Try.prog w = .ok (.bool false) w := by
  rw [run_neq_struct]
  simp [go_sem]
theorem cell_eq_self (a b c : Int) (w : World) : (binOp .eql 59 (.agg #[.int .i64 a, .int .i64 b, .int .i64 c]) (.agg #[.int .i64 a, .int .i64 b, .int .i64 c])).run Try.prog w = .ok (.bool true) w := by
  rw [run_eql_struct]
  simp [go_sem]
theorem box_eq_self (a b c d e f : Int) (w : World) : (binOp .eql 28 (.agg #[.int .i64 a, .int .i64 b, .int .i64 c, .int .i64 d, .int .i64 e, .int .i64 f]) (.agg #[.int .i64 a, .int .i64 b, .int .i64 c, .int .i64 d, .int .i64 e, .int .i64 f])).run Try.prog w = .ok (.bool true) w := by
  rw [run_eql_struct]
  simp [go_sem]
end Go.Proofs.Ytckjpiioipkfcaa

/- SweepSteps holds: any small world, any box, any ways, any height. -/
namespace Go.Proofs.Ytckjpiioipkfcaa
open Go.ChangeShapes Go.WideShapes Go.ChangeAt Go.RowKit Go.Shelf
attribute [local go_sem] Oper.semAt_some

theorem hits3_guard : Try.prog.eqGuardType Try.prog.depth 45 = false := by kernel_rfl
theorem hits3_neq (h0 h1 h2 : Bool) (w : World) : (binOp .neq 45 (.agg #[.bool h0, .bool h1, .bool h2]) (.agg #[.bool h0, .bool h1, .bool h2])).run Try.prog w = .ok (.bool false) w := by
  cases h0 <;> cases h1 <;> cases h2 <;> kernel_rfl
theorem box_neq_self (a b c d e f : Int) (w : World) : (binOp .neq 28 (.agg #[.int .i64 a, .int .i64 b, .int .i64 c, .int .i64 d, .int .i64 e, .int .i64 f]) (.agg #[.int .i64 a, .int .i64 b, .int .i64 c, .int .i64 d, .int .i64 e, .int .i64 f])).run Try.prog w = .ok (.bool false) w := by
  rw [run_neq_struct]
  simp [go_sem]
theorem two_at {w : World} {g : Nat} {a b : Int} (h : Blk w g 3 #[.int .i64 a, .int .i64 b]) {i : Nat} (hi : i < 2) : ∃ e, w.cell? ⟨g, i, none⟩ = some (.int .i64 e) := by
  rcases (show i = 0 ∨ i = 1 by omega) with rfl | rfl
  · exact ⟨a, h.cell 0⟩
  · exact ⟨b, h.cell 1⟩
theorem nextk2 {i : Nat} (h : i < 2) : (0 : Int) ≤ i ∧ (i : Int) < 2 ∧ -9223372036854775808 ≤ (i : Int) + 1 ∧ (i : Int) + 1 ≤ 9223372036854775807 := by omega
theorem floor_sm {a b c d e f : Int} (h : Sm6 600000 (a, b, c, d, e, f)) (he : e ≤ 900000) : Sm6 600000 (a, 0, c, d, mxI e 0, f) := by
  obtain ⟨h1, h2, h3, h4, h5, h6, h7, h8, h9, h10, h11, h12⟩ := h
  dsimp only at *
  unfold mxI
  constructor <;> dsimp only <;> omega
set_option maxRecDepth 100000 in
set_option maxHeartbeats 8000000 in
theorem sweepSteps_c (q : Option Addr) (n c : Nat) (F : Nat → Int) (els : Int) (_ : n ≤ c) (hm : c ≤ maxLen) (hF : ∀ i, i < n → In64 (F i)) (he : In64 els) (pa pb pc pd pe pf : Int) (ha : In64 pa) (hb : In64 pb) (hc : In64 pc) (hd : In64 pd) (hee : In64 pe) (hf : In64 pf) (dx dy dz : Int) (hdx : In64 dx) (hdy : In64 dy) (hdz : In64 dz) (u : Int) (hu : In64 u) (w : World) (hq : Iq w q n F) :
    Calls Try.prog 8 #[.agg #[.slice q n c, .int .i64 els], .agg #[.int .i64 pa, .int .i64 pb, .int .i64 pc, .int .i64 pd, .int .i64 pe, .int .i64 pf], .agg #[.int .i64 dx, .int .i64 dy, .int .i64 dz], .int .i64 u] w fun e w' => e = .returned (.bool true) ∧ Below w.heap.size w w' := by
  have HGd := Lib.hid (fun W (h : Below w.heap.size w W) => rgood13_c q n c F els hm W (hq.on h) hF he)
  have HNr := Lib.hid (fun W => nearz_c pa pb pc pd pe pf true ha hb hc hd hee hf W)
  have HAr := Lib.hid (fun W => around_c u 65537 hu.1 hu.2 (by decide) W)
  have HWy := Lib.hid (fun W => way_c dx dy dz hdx hdy hdz W)
  clear hm hF he ha hb hc hd hee hf hq hdx hdy hdz hu
  obtain ⟨W0, hW0⟩ : ∃ W0, W0 = ((w.alloc (.cells #[.slice q n c, .int .i64 els] 24)).alloc (.cells #[.int .i64 pa, .int .i64 pb, .int .i64 pc, .int .i64 pd, .int .i64 pe, .int .i64 pf] 28)).alloc (.cells #[.int .i64 dx, .int .i64 dy, .int .i64 dz] 26) := ⟨_, rfl⟩
  have A0 : Blk W0 w.heap.size 24 #[.slice q n c, .int .i64 els] := by rw [hW0]; exact ((Blk.new' rfl).alloc _).alloc _
  have B0 : Blk W0 (w.heap.size + 1) 28 #[.int .i64 pa, .int .i64 pb, .int .i64 pc, .int .i64 pd, .int .i64 pe, .int .i64 pf] := by rw [hW0]; exact (Blk.new' (by simp)).alloc _
  have V0 : Blk W0 (w.heap.size + 1 + 1) 26 #[.int .i64 dx, .int .i64 dy, .int .i64 dz] := by rw [hW0]; exact Blk.new' (by simp)
  have H0 : Below w.heap.size w W0 := by rw [hW0]; go_grown
  go_enter Try.func8, Try.ntmps8
  go_upto_region 1 with (fail)
  rw [← hW0]
  clear hW0
  have a0 := A0.cell 0
  have a1 := A0.cell 1
  go_upto_region 2 with (go_at_call 9; refine (HGd.out _ H0).mono ?_; rintro e_ w1 ⟨q2, c2, rfl, R, k1, k2, h1⟩)
  generalize hV : World.alloc w1 _ = W1
  have G : Blk W1 w1.heap.size _ _ := Blk.eqw hV (Blk.new' rfl)
  have h2 : Below w1.heap.size w1 W1 := by rw [← hV]; exact (Below.refl _ _).alloc (Nat.le_refl _) _
  have I := iq_of_rd (R.on h2)
  rw [show (goodL n F).length = min n 216 by simp [goodL]] at I
  replace B0 := (B0.on h1).on h2
  replace V0 := (V0.on h1).on h2
  replace H0 := after (after H0 h1) h2
  clear hV h1 h2 k1 k2 R a0 a1 A0
  generalize min n 216 = m at G I ⊢
  generalize w1.heap.size = g at G ⊢
  generalize (fun i => (goodL n F).getD i 0) = F2 at I
  generalize arI els 3 - 1 = els2 at G ⊢
  have g0 := G.cell 0
  have g1 := G.cell 1
  go_upto_region 3 with (go_at_call 10; refine (view_c _ _ _).mono ?_; rintro e_ w2 ⟨rfl, rfl⟩)
  generalize hV : World.alloc W1 _ = W2
  have V2 : Blk W2 W1.heap.size _ _ := Blk.eqw hV (Blk.new' rfl)
  have h2 : Below W1.heap.size W1 W2 := by rw [← hV]; exact (Below.refl _ _).alloc (Nat.le_refl _) _
  replace I := I.on h2
  replace G := G.on h2
  replace B0 := B0.on h2
  replace V0 := V0.on h2
  replace H0 := after H0 h2
  have T0 := view_tells V2 I
  clear hV h2 V2 g0 g1
  generalize W1.heap.size = g2 at T0 ⊢
  obtain ⟨b0, b1, b2, b3, b4, b5⟩ := B0.c6.1
  go_upto_region 4 with (go_at_call 11; refine (HNr.out _).mono ?_; rintro e_ w3 ⟨⟨a, b, c', d, e, f⟩, rfl, hsm, he9, h3⟩)
  simp only [ag6]
  generalize hV : World.alloc w3 _ = W3
  have X : Blk W3 w3.heap.size _ _ := Blk.eqw hV (Blk.new' rfl)
  have h2 : Below w3.heap.size w3 W3 := by rw [← hV]; exact (Below.refl _ _).alloc (Nat.le_refl _) _
  have hg : W2.heap.size ≤ w3.heap.size := h3.size
  have K3 := after h3 h2
  clear hV h2 h3 b0 b1 b2 b3 b4 b5 B0
  generalize w3.heap.size = gx at X hg ⊢
  have hsm2 := floor_sm hsm he9
  clear hsm he9
  have hmx := @run_mx Try.prog
  obtain ⟨⟨x0, x1, x2, x3, x4, x5⟩, f0, f1, f2, f3, f4, f5⟩ := X.c6
  go_upto_region 6 with (fail)
  generalize hV : World.setCell (World.setCell W3 _ _) _ _ = W4
  have X2 : Blk W4 gx 28 #[.int .i64 a, .int .i64 0, .int .i64 c', .int .i64 d, .int .i64 (mxI e 0), .int .i64 f] := Blk.eqw hV ((X.set_ 4 (.int .i64 (mxI e 0))).set_ 1 (.int .i64 0))
  have h4 : Below W2.heap.size W2 W4 := by rw [← hV]; exact (K3.setCell (p := ⟨gx, 4, none⟩) hg _).setCell (p := ⟨gx, 1, none⟩) hg _
  replace I := I.on h4
  replace G := G.on h4
  replace V0 := V0.on h4
  replace T0 := T0.on h4
  have H4 := after H0 h4
  clear hV h4 K3 hg H0 X x0 x1 x2 x3 x4 x5 f0 f1 f2 f3 f4 f5 hmx HGd HNr
  go_upto_region 7 with (go_at_call 12; refine (HAr.out _).mono ?_; rintro e_ w4 ⟨rfl, rfl⟩)
  generalize hV : World.alloc W4 _ = W5
  have S : Blk W5 W4.heap.size 3 #[.int .i64 u, .int .i64 (arI u 65537)] := Blk.eqw hV (Blk.new' rfl)
  have h5 : Below W4.heap.size W4 W5 := by rw [← hV]; exact (Below.refl _ _).alloc (Nat.le_refl _) _
  replace I := I.on h5
  replace G := G.on h5
  replace V0 := V0.on h5
  replace T0 := T0.on h5
  have X := X2.on h5
  have HK := Lib.hid (after H4 h5)
  clear hV h5 H4 X2
  generalize W4.heap.size = gs at S ⊢
  have hP : ∀ up W, Below W5.heap.size W5 W → Calls _ _ _ _ _ := fun up W h => pstep_c 30 #[.pointer (some ⟨g2, 0, none⟩)] _ (a, 0, c', d, mxI e 0, f) (wayI dx) (wayI dy) (wayI dz) up 600000 (by omega) (by omega) hsm2 W view_en (T0.on h)
  have hR : ∀ up W, Below W5.heap.size W5 W → Calls _ _ _ _ _ := fun up W h => rstep_c q2 m c2 F2 els2 (a, 0, c', d, mxI e 0, f) (wayI dx) (wayI dy) (wayI dz) up 600000 (by omega) (by omega) hsm2 W (I.on h)
  generalize stepV (fun x => atG m F2 els2 x.1 x.2.1 x.2.2) (a, 0, c', d, mxI e 0, f) (wayI dx) (wayI dy) (wayI dz) = sv at hP hR
  simp only [ag6] at hP hR
  have HP := Lib.hid hP
  have HR := Lib.hid hR
  clear hP hR I T0 hsm2
  generalize w.heap.size + 1 + 1 = gv at V0 ⊢
  have K : Below W5.heap.size W5 W5 := Below.refl _ _
  go_upto_region 8 with (fail)
  go_loopw [13] (fun iv wr => ∃ (i : Nat), iv = .int .i64 (i : Nat) ∧ Hid (i ≤ 2) ∧ Blk wr g 24 #[.slice q2 m c2, .int .i64 els2] ∧ Blk wr gx 28 #[.int .i64 a, .int .i64 0, .int .i64 c', .int .i64 d, .int .i64 (mxI e 0), .int .i64 f] ∧ Blk wr gv 26 #[.int .i64 dx, .int .i64 dy, .int .i64 dz] ∧ Blk wr gs 3 #[.int .i64 u, .int .i64 (arI u 65537)] ∧ Hid (Below W5.heap.size W5 wr)) (fun v _ => 2 - (intOf v).toNat)
  case atStart => exact ⟨0, rfl, Lib.hid (by decide), G, X, V0, S, Lib.hid K⟩
  case round =>
    clear G X V0 S K
    obtain ⟨i, rfl, hi, G, X, V0, S, K⟩ := hrel
    by_cases hlt : i < 2
    · obtain ⟨m1, m2, m3, m4⟩ := nextk2 hlt
      obtain ⟨dk, hdk⟩ := two_at S hlt
      have hP := HP.out dk
      have hR := HR.out dk
      generalize sv dk = p at hP hR
      obtain ⟨⟨y1, y2, y3, y4, y5, y6⟩, t1, t2, t3⟩ := p
      simp only [bhT, ag6, ah3] at hP hR
      have PP := Lib.hid hP
      have RR := Lib.hid hR
      clear hP hR
      have cd := fun x y => cell_regrown hdk x y
      obtain ⟨x0, x1, x2, x3, x4, x5⟩ := X.re6
      obtain ⟨z0, z1, z2⟩ := V0.re3
      go_upto_region 10 with (fail)
      have HU_ := Lib.hid (show Bears wr.heap.size [⟨12, 14, 28, #[.int .i64 0, .int .i64 0, .int .i64 0, .int .i64 0, .int .i64 0, .int .i64 0], #[.int .i64 y1, .int .i64 y2, .int .i64 y3, .int .i64 y4, .int .i64 y5, .int .i64 y6]⟩, ⟨13, 15, 46, #[.bool false, .bool false, .bool false], #[.bool t1, .bool t2, .bool t3]⟩] (relsU [(8, fun v _ => v = .tuple #[.agg #[.int .i64 y1, .int .i64 y2, .int .i64 y3, .int .i64 y4, .int .i64 y5, .int .i64 y6], .agg #[.bool t1, .bool t2, .bool t3]]), (9, fun v _ => v = .tuple #[.agg #[.int .i64 y1, .int .i64 y2, .int .i64 y3, .int .i64 y4, .int .i64 y5, .int .i64 y6], .agg #[.bool t1, .bool t2, .bool t3]]), (10, fun v _ => v = .agg #[.int .i64 y1, .int .i64 y2, .int .i64 y3, .int .i64 y4, .int .i64 y5, .int .i64 y6]), (11, fun v _ => v = .agg #[.bool t1, .bool t2, .bool t3])]) from (bears_val (bears_val (bears_val (bears_val bears_nil)))))
      have HO_ := Lib.hid (show OkB [⟨12, 14, 28, #[.int .i64 0, .int .i64 0, .int .i64 0, .int .i64 0, .int .i64 0, .int .i64 0], #[.int .i64 y1, .int .i64 y2, .int .i64 y3, .int .i64 y4, .int .i64 y5, .int .i64 y6]⟩, ⟨13, 15, 46, #[.bool false, .bool false, .bool false], #[.bool t1, .bool t2, .bool t3]⟩] from ⟨by simp, by simp⟩)
      refine wp_many [0, 0, 0, 0, 0, 0, 0, 0, 2, 2, 2, 2, 2, 2, 2, 2] _ _ (by kernel_rfl) (by kernel_rfl) HU_.out ?_
      repeat (first | (refine wpQs_s ?_) | (refine wpQs_q (fun K hK => ?_); go_simp; first | (refine hK _ ?_; clear hK K) | (apply Exists.intro; refine ⟨fun _ => ?_, hK _ ?_⟩; (exact HWy.out _); clear hK K)) | (refine wpQs_f (fun K hK => ?_); go_simp; refine hK _ ?_; clear hK K))
      refine wpQs_nil ?_
      refine wpLsI_skip ?_
      refine wpLsI_skip ?_
      refine wpLsI_skip ?_
      refine wpLsI_skip ?_
      refine wpLsI_skip ?_
      refine wpLsI_skip ?_
      refine wpLsI_skip ?_
      refine wpLsI_skip ?_
      refine wpLsI_one rfl ?s8_ (fun v8_ => ?_)
      case s8_ =>
        intro S_ V_ w_ hw_ hV_ ha_ hn_ hI_
        have HW_ := Lib.hid hw_
        have HI_ := Lib.hid hI_
        have Hn_ := Lib.hid hn_
        clear hV_ ha_ hw_ hI_ hn_
        go_simp
        refine (PP.out _ (after K.out HW_.out.none)).mono ?_
        rintro e_ w9 ⟨rfl, h9⟩
        exact ⟨_, rfl, HW_.out.on h9, HI_.out.l (by simp) HU_.out h9 rfl⟩
      refine wpLsI_one rfl ?s9_ (fun v9_ => ?_)
      case s9_ =>
        intro S_ V_ w_ hw_ hV_ ha_ hn_ hI_
        have F_ := Lib.hid (show v8_ = .tuple #[.agg #[.int .i64 y1, .int .i64 y2, .int .i64 y3, .int .i64 y4, .int .i64 y5, .int .i64 y6], .agg #[.bool t1, .bool t2, .bool t3]] from (hI_.of (ha_ 8 (by decide) rfl (by kernel_rfl)) (hV_ 8 (by decide) rfl)))
        have HW_ := Lib.hid hw_
        have HI_ := Lib.hid hI_
        have Hn_ := Lib.hid hn_
        clear hV_ ha_ hw_ hI_ hn_
        go_simp
        have h8_ := F_.out
        subst h8_
        clear F_
        go_simp
        exact ⟨HW_.out, HI_.out.l (by simp) HU_.out (Below.refl _ _) rfl⟩
      refine wpLsI_one rfl ?s10_ (fun v10_ => ?_)
      case s10_ =>
        intro S_ V_ w_ hw_ hV_ ha_ hn_ hI_
        have F_ := Lib.hid (show v9_ = .tuple #[.agg #[.int .i64 y1, .int .i64 y2, .int .i64 y3, .int .i64 y4, .int .i64 y5, .int .i64 y6], .agg #[.bool t1, .bool t2, .bool t3]] from (hI_.of (ha_ 9 (by decide) rfl (by kernel_rfl)) (hV_ 9 (by decide) rfl)))
        have HW_ := Lib.hid hw_
        have HI_ := Lib.hid hI_
        have Hn_ := Lib.hid hn_
        clear hV_ ha_ hw_ hI_ hn_
        go_simp
        have h8_ := F_.out
        subst h8_
        clear F_
        go_simp
        exact ⟨HW_.out, HI_.out.l (by simp) HU_.out (Below.refl _ _) rfl⟩
      refine wpLsI_one rfl ?s11_ (fun v11_ => ?_)
      case s11_ =>
        intro S_ V_ w_ hw_ hV_ ha_ hn_ hI_
        have F_ := Lib.hid (show v9_ = .tuple #[.agg #[.int .i64 y1, .int .i64 y2, .int .i64 y3, .int .i64 y4, .int .i64 y5, .int .i64 y6], .agg #[.bool t1, .bool t2, .bool t3]] from (hI_.of (ha_ 9 (by decide) rfl (by kernel_rfl)) (hV_ 9 (by decide) rfl)))
        have HW_ := Lib.hid hw_
        have HI_ := Lib.hid hI_
        have Hn_ := Lib.hid hn_
        clear hV_ ha_ hw_ hI_ hn_
        go_simp
        have h8_ := F_.out
        subst h8_
        clear F_
        go_simp
        exact ⟨HW_.out, HI_.out.l (by simp) HU_.out (Below.refl _ _) rfl⟩
      refine wpLsI_one rfl ?s12_ (fun v12_ => ?_)
      case s12_ =>
        intro S_ V_ w_ hw_ hV_ ha_ hn_ hI_
        have HW_ := Lib.hid hw_
        have HI_ := Lib.hid hI_
        have Hn_ := Lib.hid hn_
        clear hV_ ha_ hw_ hI_ hn_
        go_simp
        exact ⟨HW_.out.on ((Below.refl _ _).alloc (Nat.le_refl _) _), HI_.out.new (List.mem_cons_self) HO_.out HU_.out (fun _ _ => trivial) HW_.out.none.size Hn_.out⟩
      refine wpLsI_one rfl ?s13_ (fun v13_ => ?_)
      case s13_ =>
        intro S_ V_ w_ hw_ hV_ ha_ hn_ hI_
        have HW_ := Lib.hid hw_
        have HI_ := Lib.hid hI_
        have Hn_ := Lib.hid hn_
        clear hV_ ha_ hw_ hI_ hn_
        go_simp
        exact ⟨HW_.out.on ((Below.refl _ _).alloc (Nat.le_refl _) _), HI_.out.new (List.mem_cons_of_mem _ (List.mem_cons_self)) HO_.out HU_.out (fun _ _ => trivial) HW_.out.none.size Hn_.out⟩
      refine wpLsI_one rfl ?s14_ (fun v14_ => ?_)
      case s14_ =>
        intro S_ V_ w_ hw_ hV_ ha_ hn_ hI_
        have F_ := Lib.hid (show v10_ = .agg #[.int .i64 y1, .int .i64 y2, .int .i64 y3, .int .i64 y4, .int .i64 y5, .int .i64 y6] from (hI_.of (ha_ 10 (by decide) rfl (by kernel_rfl)) (hV_ 10 (by decide) rfl)))
        have HS_ := Lib.hid (show S_ 12 from ha_ 12 (by decide) rfl (by kernel_rfl))
        have HVV_ := Lib.hid (show V_ 12 = v12_ from hV_ 12 (by decide) rfl)
        have hx_ := Lib.hid (show ∃ b, V_ 12 = .pointer (some ⟨b, 0, none⟩) ∧ wr.heap.size ≤ b ∧ Blk w_ b 28 #[.int .i64 0, .int .i64 0, .int .i64 0, .int .i64 0, .int .i64 0, .int .i64 0] from hI_.slot (List.mem_cons_self) HS_.out hn_)
        have HW_ := Lib.hid hw_
        have HI_ := Lib.hid hI_
        have Hn_ := Lib.hid hn_
        clear hV_ ha_ hw_ hI_ hn_
        go_simp
        refine hx_.out.elim fun b_ hy_ => ?_
        have E_ := hy_.1
        have HN_ := Lib.hid hy_.2.1
        have hb_ := hy_.2.2
        have h8_ := F_.out
        rw [HVV_.out] at E_
        subst h8_ E_
        clear hx_ hy_ F_
        obtain ⟨⟨k0_, k1_, k2_, k3_, k4_, k5_⟩, f0_, f1_, f2_, f3_, f4_, f5_⟩ := hb_.c6
        have Hb_ := Lib.hid hb_
        clear hb_
        go_simp
        exact ⟨HW_.out.new_set HN_.out kept6, HI_.out.set (List.mem_cons_self) HO_.out HU_.out (fun _ _ => trivial) Hn_.out HS_.out HVV_.out kept6 (Hb_.out.st6 _ _ _ _ _ _)⟩
      refine wpLsI_one rfl ?s15_ (fun v15_ => ?_)
      case s15_ =>
        intro S_ V_ w_ hw_ hV_ ha_ hn_ hI_
        have F_ := Lib.hid (show v11_ = .agg #[.bool t1, .bool t2, .bool t3] from (hI_.of (ha_ 11 (by decide) rfl (by kernel_rfl)) (hV_ 11 (by decide) rfl)))
        have HS_ := Lib.hid (show S_ 13 from ha_ 13 (by decide) rfl (by kernel_rfl))
        have HVV_ := Lib.hid (show V_ 13 = v13_ from hV_ 13 (by decide) rfl)
        have hx_ := Lib.hid (show ∃ b, V_ 13 = .pointer (some ⟨b, 0, none⟩) ∧ wr.heap.size ≤ b ∧ Blk w_ b 46 #[.bool false, .bool false, .bool false] from hI_.slot (List.mem_cons_of_mem _ (List.mem_cons_self)) HS_.out hn_)
        have HW_ := Lib.hid hw_
        have HI_ := Lib.hid hI_
        have Hn_ := Lib.hid hn_
        clear hV_ ha_ hw_ hI_ hn_
        go_simp
        refine hx_.out.elim fun b_ hy_ => ?_
        have E_ := hy_.1
        have HN_ := Lib.hid hy_.2.1
        have hb_ := hy_.2.2
        have h8_ := F_.out
        rw [HVV_.out] at E_
        subst h8_ E_
        clear hx_ hy_ F_
        obtain ⟨k0_, k1_, k2_, f0_, f1_, f2_⟩ := hb_.c3
        have Hb_ := Lib.hid hb_
        clear hb_
        go_simp
        exact ⟨HW_.out.new_set HN_.out kept3, HI_.out.set (List.mem_cons_of_mem _ (List.mem_cons_self)) HO_.out HU_.out (fun _ _ => trivial) Hn_.out HS_.out HVV_.out kept3 (Hb_.out.st3 _ _ _)⟩
      refine wpLsI_nil fun V_ W6 hw_ hV_ hI_ => ?_
      obtain ⟨g0_W6, E12_, N0_W6, X0_W6⟩ : ∃ b, v12_ = .pointer (some ⟨b, 0, none⟩) ∧ wr.heap.size ≤ b ∧ Blk W6 b 28 #[.int .i64 y1, .int .i64 y2, .int .i64 y3, .int .i64 y4, .int .i64 y5, .int .i64 y6] := by rw [← show V_ 12 = v12_ from hV_ 12 (by decide) rfl]; exact hI_.done (List.mem_cons_self) ⟨show 12 < 16 by decide, rfl⟩ ⟨show 14 < 16 by decide, rfl⟩
      obtain ⟨g1_W6, E13_, N1_W6, X1_W6⟩ : ∃ b, v13_ = .pointer (some ⟨b, 0, none⟩) ∧ wr.heap.size ≤ b ∧ Blk W6 b 46 #[.bool t1, .bool t2, .bool t3] := by rw [← show V_ 13 = v13_ from hV_ 13 (by decide) rfl]; exact hI_.done (List.mem_cons_of_mem _ (List.mem_cons_self)) ⟨show 13 < 16 by decide, rfl⟩ ⟨show 15 < 16 by decide, rfl⟩
      subst E12_ E13_
      have h_W6 := hw_.none
      clear hV_ hI_ hw_ HU_ HO_
      simp only [tails]
      replace G := G.on h_W6
      replace X := X.on h_W6
      replace V0 := V0.on h_W6
      replace S := S.on h_W6
      have cd2 := (cell_below h_W6 (cell_lt hdk)).trans hdk
      have K6 := Lib.hid (after K.out h_W6)
      clear x0 x1 x2 x3 x4 x5 z0 z1 z2 cd hdk h_W6 K PP
      have K := K6
      have cd := fun x y => cell_regrown (show W6.cell? _ = some (.int .i64 dk) from cd2) x y
      clear K6 cd2
      obtain ⟨x0, x1, x2, x3, x4, x5⟩ := X.re6
      obtain ⟨z0, z1, z2⟩ := V0.re3
      have g0 := fun x y => (G.re x y).cell 0
      have g1 := fun x y => (G.re x y).cell 1
      go_upto_region 11 with (fail)
      have HU_ := Lib.hid (show Bears W6.heap.size [⟨12, 14, 28, #[.int .i64 0, .int .i64 0, .int .i64 0, .int .i64 0, .int .i64 0, .int .i64 0], #[.int .i64 y1, .int .i64 y2, .int .i64 y3, .int .i64 y4, .int .i64 y5, .int .i64 y6]⟩, ⟨13, 15, 45, #[.bool false, .bool false, .bool false], #[.bool t1, .bool t2, .bool t3]⟩] (relsU [(8, fun v _ => v = .tuple #[.agg #[.int .i64 y1, .int .i64 y2, .int .i64 y3, .int .i64 y4, .int .i64 y5, .int .i64 y6], .agg #[.bool t1, .bool t2, .bool t3]]), (9, fun v _ => v = .tuple #[.agg #[.int .i64 y1, .int .i64 y2, .int .i64 y3, .int .i64 y4, .int .i64 y5, .int .i64 y6], .agg #[.bool t1, .bool t2, .bool t3]]), (10, fun v _ => v = .agg #[.int .i64 y1, .int .i64 y2, .int .i64 y3, .int .i64 y4, .int .i64 y5, .int .i64 y6]), (11, fun v _ => v = .agg #[.bool t1, .bool t2, .bool t3])]) from (bears_val (bears_val (bears_val (bears_val bears_nil)))))
      have HO_ := Lib.hid (show OkB [⟨12, 14, 28, #[.int .i64 0, .int .i64 0, .int .i64 0, .int .i64 0, .int .i64 0, .int .i64 0], #[.int .i64 y1, .int .i64 y2, .int .i64 y3, .int .i64 y4, .int .i64 y5, .int .i64 y6]⟩, ⟨13, 15, 45, #[.bool false, .bool false, .bool false], #[.bool t1, .bool t2, .bool t3]⟩] from ⟨by simp, by simp⟩)
      refine wp_many [0, 0, 0, 0, 0, 0, 0, 0, 2, 2, 2, 2, 2, 2, 2, 2] _ _ (by kernel_rfl) (by kernel_rfl) HU_.out ?_
      repeat (first | (refine wpQs_s ?_) | (refine wpQs_q (fun K hK => ?_); go_simp; first | (refine hK _ ?_; clear hK K) | (apply Exists.intro; refine ⟨fun _ => ?_, hK _ ?_⟩; (exact HWy.out _); clear hK K)) | (refine wpQs_f (fun K hK => ?_); go_simp; refine hK _ ?_; clear hK K))
      refine wpQs_nil ?_
      refine wpLsI_skip ?_
      refine wpLsI_skip ?_
      refine wpLsI_skip ?_
      refine wpLsI_skip ?_
      refine wpLsI_skip ?_
      refine wpLsI_skip ?_
      refine wpLsI_skip ?_
      refine wpLsI_skip ?_
      refine wpLsI_one rfl ?s8_ (fun v8_ => ?_)
      case s8_ =>
        intro S_ V_ w_ hw_ hV_ ha_ hn_ hI_
        have HW_ := Lib.hid hw_
        have HI_ := Lib.hid hI_
        have Hn_ := Lib.hid hn_
        clear hV_ ha_ hw_ hI_ hn_
        go_simp
        refine (RR.out _ (after K.out HW_.out.none)).mono ?_
        rintro e_ w9 ⟨rfl, h9⟩
        exact ⟨_, rfl, HW_.out.on h9, HI_.out.l (by simp) HU_.out h9 rfl⟩
      refine wpLsI_one rfl ?s9_ (fun v9_ => ?_)
      case s9_ =>
        intro S_ V_ w_ hw_ hV_ ha_ hn_ hI_
        have F_ := Lib.hid (show v8_ = .tuple #[.agg #[.int .i64 y1, .int .i64 y2, .int .i64 y3, .int .i64 y4, .int .i64 y5, .int .i64 y6], .agg #[.bool t1, .bool t2, .bool t3]] from (hI_.of (ha_ 8 (by decide) rfl (by kernel_rfl)) (hV_ 8 (by decide) rfl)))
        have HW_ := Lib.hid hw_
        have HI_ := Lib.hid hI_
        have Hn_ := Lib.hid hn_
        clear hV_ ha_ hw_ hI_ hn_
        go_simp
        have h8_ := F_.out
        subst h8_
        clear F_
        go_simp
        exact ⟨HW_.out, HI_.out.l (by simp) HU_.out (Below.refl _ _) rfl⟩
      refine wpLsI_one rfl ?s10_ (fun v10_ => ?_)
      case s10_ =>
        intro S_ V_ w_ hw_ hV_ ha_ hn_ hI_
        have F_ := Lib.hid (show v9_ = .tuple #[.agg #[.int .i64 y1, .int .i64 y2, .int .i64 y3, .int .i64 y4, .int .i64 y5, .int .i64 y6], .agg #[.bool t1, .bool t2, .bool t3]] from (hI_.of (ha_ 9 (by decide) rfl (by kernel_rfl)) (hV_ 9 (by decide) rfl)))
        have HW_ := Lib.hid hw_
        have HI_ := Lib.hid hI_
        have Hn_ := Lib.hid hn_
        clear hV_ ha_ hw_ hI_ hn_
        go_simp
        have h8_ := F_.out
        subst h8_
        clear F_
        go_simp
        exact ⟨HW_.out, HI_.out.l (by simp) HU_.out (Below.refl _ _) rfl⟩
      refine wpLsI_one rfl ?s11_ (fun v11_ => ?_)
      case s11_ =>
        intro S_ V_ w_ hw_ hV_ ha_ hn_ hI_
        have F_ := Lib.hid (show v9_ = .tuple #[.agg #[.int .i64 y1, .int .i64 y2, .int .i64 y3, .int .i64 y4, .int .i64 y5, .int .i64 y6], .agg #[.bool t1, .bool t2, .bool t3]] from (hI_.of (ha_ 9 (by decide) rfl (by kernel_rfl)) (hV_ 9 (by decide) rfl)))
        have HW_ := Lib.hid hw_
        have HI_ := Lib.hid hI_
        have Hn_ := Lib.hid hn_
        clear hV_ ha_ hw_ hI_ hn_
        go_simp
        have h8_ := F_.out
        subst h8_
        clear F_
        go_simp
        exact ⟨HW_.out, HI_.out.l (by simp) HU_.out (Below.refl _ _) rfl⟩
      refine wpLsI_one rfl ?s12_ (fun v12_ => ?_)
      case s12_ =>
        intro S_ V_ w_ hw_ hV_ ha_ hn_ hI_
        have HW_ := Lib.hid hw_
        have HI_ := Lib.hid hI_
        have Hn_ := Lib.hid hn_
        clear hV_ ha_ hw_ hI_ hn_
        go_simp
        exact ⟨HW_.out.on ((Below.refl _ _).alloc (Nat.le_refl _) _), HI_.out.new (List.mem_cons_self) HO_.out HU_.out (fun _ _ => trivial) HW_.out.none.size Hn_.out⟩
      refine wpLsI_one rfl ?s13_ (fun v13_ => ?_)
      case s13_ =>
        intro S_ V_ w_ hw_ hV_ ha_ hn_ hI_
        have HW_ := Lib.hid hw_
        have HI_ := Lib.hid hI_
        have Hn_ := Lib.hid hn_
        clear hV_ ha_ hw_ hI_ hn_
        go_simp
        exact ⟨HW_.out.on ((Below.refl _ _).alloc (Nat.le_refl _) _), HI_.out.new (List.mem_cons_of_mem _ (List.mem_cons_self)) HO_.out HU_.out (fun _ _ => trivial) HW_.out.none.size Hn_.out⟩
      refine wpLsI_one rfl ?s14_ (fun v14_ => ?_)
      case s14_ =>
        intro S_ V_ w_ hw_ hV_ ha_ hn_ hI_
        have F_ := Lib.hid (show v10_ = .agg #[.int .i64 y1, .int .i64 y2, .int .i64 y3, .int .i64 y4, .int .i64 y5, .int .i64 y6] from (hI_.of (ha_ 10 (by decide) rfl (by kernel_rfl)) (hV_ 10 (by decide) rfl)))
        have HS_ := Lib.hid (show S_ 12 from ha_ 12 (by decide) rfl (by kernel_rfl))
        have HVV_ := Lib.hid (show V_ 12 = v12_ from hV_ 12 (by decide) rfl)
        have hx_ := Lib.hid (show ∃ b, V_ 12 = .pointer (some ⟨b, 0, none⟩) ∧ W6.heap.size ≤ b ∧ Blk w_ b 28 #[.int .i64 0, .int .i64 0, .int .i64 0, .int .i64 0, .int .i64 0, .int .i64 0] from hI_.slot (List.mem_cons_self) HS_.out hn_)
        have HW_ := Lib.hid hw_
        have HI_ := Lib.hid hI_
        have Hn_ := Lib.hid hn_
        clear hV_ ha_ hw_ hI_ hn_
        go_simp
        refine hx_.out.elim fun b_ hy_ => ?_
        have E_ := hy_.1
        have HN_ := Lib.hid hy_.2.1
        have hb_ := hy_.2.2
        have h8_ := F_.out
        rw [HVV_.out] at E_
        subst h8_ E_
        clear hx_ hy_ F_
        obtain ⟨⟨k0_, k1_, k2_, k3_, k4_, k5_⟩, f0_, f1_, f2_, f3_, f4_, f5_⟩ := hb_.c6
        have Hb_ := Lib.hid hb_
        clear hb_
        go_simp
        exact ⟨HW_.out.new_set HN_.out kept6, HI_.out.set (List.mem_cons_self) HO_.out HU_.out (fun _ _ => trivial) Hn_.out HS_.out HVV_.out kept6 (Hb_.out.st6 _ _ _ _ _ _)⟩
      refine wpLsI_one rfl ?s15_ (fun v15_ => ?_)
      case s15_ =>
        intro S_ V_ w_ hw_ hV_ ha_ hn_ hI_
        have F_ := Lib.hid (show v11_ = .agg #[.bool t1, .bool t2, .bool t3] from (hI_.of (ha_ 11 (by decide) rfl (by kernel_rfl)) (hV_ 11 (by decide) rfl)))
        have HS_ := Lib.hid (show S_ 13 from ha_ 13 (by decide) rfl (by kernel_rfl))
        have HVV_ := Lib.hid (show V_ 13 = v13_ from hV_ 13 (by decide) rfl)
        have hx_ := Lib.hid (show ∃ b, V_ 13 = .pointer (some ⟨b, 0, none⟩) ∧ W6.heap.size ≤ b ∧ Blk w_ b 45 #[.bool false, .bool false, .bool false] from hI_.slot (List.mem_cons_of_mem _ (List.mem_cons_self)) HS_.out hn_)
        have HW_ := Lib.hid hw_
        have HI_ := Lib.hid hI_
        have Hn_ := Lib.hid hn_
        clear hV_ ha_ hw_ hI_ hn_
        go_simp
        refine hx_.out.elim fun b_ hy_ => ?_
        have E_ := hy_.1
        have HN_ := Lib.hid hy_.2.1
        have hb_ := hy_.2.2
        have h8_ := F_.out
        rw [HVV_.out] at E_
        subst h8_ E_
        clear hx_ hy_ F_
        obtain ⟨k0_, k1_, k2_, f0_, f1_, f2_⟩ := hb_.c3
        have Hb_ := Lib.hid hb_
        clear hb_
        go_simp
        exact ⟨HW_.out.new_set HN_.out kept3, HI_.out.set (List.mem_cons_of_mem _ (List.mem_cons_self)) HO_.out HU_.out (fun _ _ => trivial) Hn_.out HS_.out HVV_.out kept3 (Hb_.out.st3 _ _ _)⟩
      refine wpLsI_nil fun V_ W7 hw_ hV_ hI_ => ?_
      obtain ⟨g0_W7, E12_, N0_W7, X0_W7⟩ : ∃ b, v12_ = .pointer (some ⟨b, 0, none⟩) ∧ W6.heap.size ≤ b ∧ Blk W7 b 28 #[.int .i64 y1, .int .i64 y2, .int .i64 y3, .int .i64 y4, .int .i64 y5, .int .i64 y6] := by rw [← show V_ 12 = v12_ from hV_ 12 (by decide) rfl]; exact hI_.done (List.mem_cons_self) ⟨show 12 < 16 by decide, rfl⟩ ⟨show 14 < 16 by decide, rfl⟩
      obtain ⟨g1_W7, E13_, N1_W7, X1_W7⟩ : ∃ b, v13_ = .pointer (some ⟨b, 0, none⟩) ∧ W6.heap.size ≤ b ∧ Blk W7 b 45 #[.bool t1, .bool t2, .bool t3] := by rw [← show V_ 13 = v13_ from hV_ 13 (by decide) rfl]; exact hI_.done (List.mem_cons_of_mem _ (List.mem_cons_self)) ⟨show 13 < 16 by decide, rfl⟩ ⟨show 15 < 16 by decide, rfl⟩
      subst E12_ E13_
      have h_W7 := hw_.none
      clear hV_ hI_ hw_ HU_ HO_
      simp only [tails]
      replace G := G.on h_W7
      replace X := X.on h_W7
      replace V0 := V0.on h_W7
      replace S := S.on h_W7
      replace X0_W6 := X0_W6.on h_W7
      replace X1_W6 := X1_W6.on h_W7
      have K7 := Lib.hid (after K.out h_W7)
      clear x0 x1 x2 x3 x4 x5 z0 z1 z2 cd g0 g1 h_W7 K RR
      obtain ⟨p0, p1, p2, p3, p4, p5⟩ := X0_W6.c6.1
      obtain ⟨q0, q1, q2', q3, q4, q5⟩ := X0_W7.c6.1
      obtain ⟨r0, r1, r2, -, -, -⟩ := X1_W6.c3
      obtain ⟨s0, s1, s2, -, -, -⟩ := X1_W7.c3
      have eb := box_neq_self y1 y2 y3 y4 y5 y6
      have eg := boxg_guard
      have eh := hits3_neq t1 t2 t3
      have eh2 := hits3_guard
      go_wp2_with fail
      go_roundw
      case rel => exact ⟨i + 1, rfl, Lib.hid hlt, G, X, V0, S, K7⟩
      case measure => simp [intOf]; omega
    · have hlt' : ¬ (i : Int) < 2 := by omega
      go_wp2_with (go_at_call 14; refine (slives_c _).mono ?_; rintro e_ w9 ⟨rfl, h9⟩)
      go_returns
      exact ⟨rfl, after (after HK.out K.out) h9⟩

set_option maxRecDepth 100000 in
theorem sweepSteps_lifted (os : Os) (started : os.Started) (H : Type) (enc : TypeId × Value → H) :
    ReturnsInHanded {} Try.checked os 8 .any (Rows.sweepStepsSpec.pre6 enc Try.prog Try.f8 Rows.sweepStepsRow.domain false) (Rows.sweepStepsSpec.post enc Try.prog Try.f8 false true false false) := by
  refine returnsInHanded_of_change (C := Try.checked) own started (by kernel_rfl) Try.func8
    (ChangeSpec.witness6 (enc := enc) (C := Try.checked) false ⟨#[], #[.agg #[.slice none 0 0, .int .i64 0], .agg #[.int .i64 0, .int .i64 0, .int .i64 0, .int .i64 0, .int .i64 0, .int .i64 0], .agg #[.int .i64 0, .int .i64 0, .int .i64 0], .int .i64 0], []⟩ 8 (by kernel_rfl) (by kernel_rfl) (by kernel_rfl) (by kernel_rfl)) ?_
  intro W base args ds gs before hval0 hW hcnd hsz
  have hval : ∀ (j : Nat) t v, Try.f8.params[j]? = some t → args[j]? = some v → Value.okWide Try.prog W .any base t v := hval0
  have hW' := hW
  obtain ⟨p, q, hA0, hV, rfl, hfz, hnd⟩ := hW
  have hA : DataW.TrodAll enc Try.prog W 0 (fun _ => true) true Try.f8.params.toList args.toList ds p := hA0
  rw [Try.params8] at hA hval
  obtain ⟨v0, vs0, d0, ds0, p_0, q_0, hargs, rfl, rfl, h0, r_0⟩ := trodAll_cons hA
  obtain ⟨v1, vs1, d1, ds1, p_1, q_1, rfl, rfl, rfl, h1, r_1⟩ := trodAll_cons r_0
  obtain ⟨v2, vs2, d2, ds2, p_2, q_2, rfl, rfl, rfl, h2, r_2⟩ := trodAll_cons r_1
  obtain ⟨v3, vs3, d3, ds3, p_3, q_3, rfl, rfl, rfl, h3, r_3⟩ := trodAll_cons r_2
  obtain ⟨rfl, rfl, rfl⟩ := trodAll_nil r_3
  obtain rfl : args = #[v0, v1, v2, v3] := by cases args; simp_all
  obtain ⟨rfl, rfl⟩ := trodVars_none hV
  obtain ⟨gq0, gn0, gc0, gF0, ge0, rfl, gl0, gm0, gi0, gw0, gv0⟩ := open_world Try.underlying24 Try.underlying22 (by kernel_rfl) (by kernel_rfl) Try.underlying3 (hval 0 24 v0 rfl rfl) h0
  obtain ⟨p1, q1, r1, s1, t1, u1, rfl, wp1, wq1, wr1, ws1, wt1, wu1⟩ := open_box Try.underlying28 Try.underlying26 (by kernel_rfl) (by kernel_rfl) (by kernel_rfl) Try.underlying3 (hval 1 28 v1 rfl rfl) h1
  obtain ⟨x2, y2, z2, rfl, wx2, wy2, wz2⟩ := open_vec Try.underlying26 (by kernel_rfl) (by kernel_rfl) Try.underlying3 (hval 2 26 v2 rfl rfl) h2
  obtain ⟨a3, rfl, rfl, rfl, w3⟩ := open_int Try.underlying3 (hval 3 3 v3 rfl rfl) h3
  refine (sweepSteps_c gq0 gn0 gc0 gF0 ge0 gl0 gm0 gw0 gv0 p1 q1 r1 s1 t1 u1 wp1 wq1 wr1 ws1 wt1 wu1 x2 y2 z2 wx2 wy2 wz2 a3 (in64_of_wf w3) W gi0).mono fun e W' ⟨he, hb⟩ => ?_
  subst he
  exact ⟨_, rfl, law_post laidOut (by kernel_rfl) rfl (by kernel_rfl) Try.underlying4 hW' rfl rfl rfl hb⟩

/-- The statement. -/
theorem sweepSteps_proved : Rows.SweepStepsSaid :=
  OpenClaim.holds_of_wide 8 Try.f8 rfl rfl rfl rfl rfl rfl rfl ⟨rfl, rfl, rfl, rfl, rfl⟩ rfl rfl rfl rfl rfl (by kernel_rfl) Try.func8 (by kernel_rfl)
    (of_decide_eq_true (by kernel_rfl)) (by unfold Func.isWrapper; first | (rw [if_pos (by decide +kernel)]; kernel_rfl) | (rw [if_neg (by decide +kernel)]; exact ⟨rfl, rfl⟩))
    (fun os started H enc _ => sweepSteps_lifted os started H enc)
end Go.Proofs.Ytckjpiioipkfcaa
