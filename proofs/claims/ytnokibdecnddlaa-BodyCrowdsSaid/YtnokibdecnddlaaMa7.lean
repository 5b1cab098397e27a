/- Texts that build one behind the other, laid together: Sched4 Bod5 Exch Bod6 Bod7 Many Went Mv2. -/
import Derived.Test.YtnokibdecnddlaaMa3
import Derived.Test.YtnokibdecnddlaaMa6
import Derived.Test.YtnokibdecnddlaaMa1
import Derived.Test.YtnokibdecnddlaaMa4
import Derived.Test.YtnokibdecnddlaaMa5
/- A region that draws its order: one invariant over what is laid; guarded operations. No program in sight. -/
namespace Go.Proofs.Ytnokibdecnddlaa
open Go.RowKit

section
variable {P : Program} {ops : Array Oper} {C : World → Prop} {ks : List Nat}
/-- Some value and world of which R holds. -/
def sumUponI (P : Program) (R : Rel) (w : World) : Result Next → Prop
  | .ok (.value u) w' => R u w'
  | .ok .skip w' => R undef w'
  | .ok (.enter f args) w' => w' = w ∧ Calls P f args w (fun e w'' => ∃ u, e = .returned u ∧ R u w'')
  | _ => False
def sumAtI (P : Program) (o : Oper) (a : Act) (R : Rel) (w : World) : Prop := sumUponI P R w ((execOp a.eval o).run P w)
theorem wp_of_sumAtI {o : Oper} {a : Act} {w : World} {R : Rel} {K : Act → World → Prop} {Q' : Exit → Act → World → Prop} (h : sumAtI P o a R w) (hk : ∀ v w', R v w' → K (a.put o.dst v) w') : o.wp P a w K Q' := by
  unfold sumAtI at h
  unfold Oper.wp
  generalize (execOp a.eval o).run P w = r at *
  cases r with
  | ok nx w' =>
    cases nx <;> simp only [sumUponI] at h <;> simp only [Oper.upon]
    case value u => exact hk _ _ h
    case skip => exact hk _ _ h
    case enter f args =>
      obtain ⟨e1, hc⟩ := h
      rw [e1]
      exact hc.mono fun e w'' ⟨u, he, hR⟩ => by subst he; exact hk _ _ hR
  | halt x w' => simp only [sumUponI] at h
theorem sumAtI.alike {o : Oper} {R : Rel} {w : World} {a b : Act} (hs : ∀ cs b, o.op ≠ .select cs b) (h : Alike ops o a b) (hy : sumAtI P o a R w) : sumAtI P o b R w := by
  unfold sumAtI at *
  rwa [← exec_alike hs h]
theorem sumAtI.mono {o : Oper} {a : Act} {R R' : Rel} {w : World} (hr : ∀ v w, R v w → R' v w) (h : sumAtI P o a R w) : sumAtI P o a R' w := by
  unfold sumAtI at *
  generalize (execOp a.eval o).run P w = r at *
  cases r with
  | ok nx w' =>
    cases nx <;> simp only [sumUponI] at h ⊢
    case value u => exact hr _ _ h
    case skip => exact hr _ _ h
    case enter f args => exact ⟨h.1, h.2.mono fun e w'' ⟨u, he, hR⟩ => ⟨u, he, hr _ _ hR⟩⟩
  | halt x w' => simp only [sumUponI] at h
/-- The same behind a guard. -/
def sumGI (P : Program) (ops : Array Oper) (o : Oper) (a : Act) (R : Rel) (w : World) : Prop :=
  (Region.wanted o (yielded ops a.tmps) = true ∧ sumAtI P o a R w) ∨ (Region.wanted o (yielded ops a.tmps) = false ∧ R undef w)
theorem sumGI.mono {o : Oper} {a : Act} {R R' : Rel} {w : World} (hr : ∀ v w, R v w → R' v w) (h : sumGI P ops o a R w) : sumGI P ops o a R' w :=
  h.imp (fun h => ⟨h.1, h.2.mono hr⟩) fun h => ⟨h.1, hr _ _ h.2⟩
theorem sumGI.alike {o : Oper} {R : Rel} {w : World} {a b : Act} (hs : ∀ cs b, o.op ≠ .select cs b) (h : Alike ops o a b) (hz : a.tmps.size = b.tmps.size) (hy : sumGI P ops o a R w) : sumGI P ops o b R w := by
  unfold sumGI at *
  rw [← wanted_alike h hz]
  exact hy.imp (fun h1 => ⟨h1.1, h1.2.alike hs h⟩) id
def upd (vs : Nat → Value) (i : Nat) (v : Value) : Nat → Value := fun j => if j = i then v else vs j
theorem upd_same (vs : Nat → Value) (i : Nat) (v : Value) : upd vs i v i = v := by unfold upd; rw [if_pos rfl]
theorem upd_ne {vs : Nat → Value} {i j : Nat} {v : Value} (h : j ≠ i) : upd vs i v j = vs j := by unfold upd; rw [if_neg h]
/-- Of what is laid, its values and the world. -/
abbrev InvT := (Nat → Prop) → (Nat → Value) → World → Prop
def andOf (S : Nat → Prop) (i : Nat) : Nat → Prop := fun j => j = i ∨ S j
def wpLsI (P : Program) (ops : Array Oper) (C : World → Prop) (I : InvT) (an : Nat → Nat → Bool) (ks0 : List Nat) (T : Act → World → Prop) : List Nat → List Oper → Nat → Act → (Nat → Value) → Prop
  | _, [], n, a, vs => ∀ V w', C w' → (∀ j, j < n → kd ks0 j = 2 → V j = vs j) → I (fun j => j < n ∧ kd ks0 j = 2) V w' → T a w'
  | [], _ :: _, _, _, _ => False
  | 0 :: ks, _ :: l, i, a, vs => wpLsI P ops C I an ks0 T ks l (i + 1) a vs
  | 1 :: ks, _ :: l, i, a, vs => wpLsI P ops C I an ks0 T ks l (i + 1) a vs
  | 2 :: ks, o :: l, i, a, vs => (∀ S V w', C w' → (∀ j, j < i → kd ks0 j = 2 → V j = vs j) → (∀ j, j < i → kd ks0 j = 2 → an i j = true → S j) → ¬ S i → I S V w' → sumGI P ops o a (fun v w => C w ∧ I (andOf S i) (upd V i v) w) w') ∧ ∀ v, wpLsI P ops C I an ks0 T ks l (i + 1) (a.put o.dst v) (upd vs i v)
  | (_ + 3) :: ks, _ :: l, i, a, vs => wpLsI P ops C I an ks0 T ks l (i + 1) a vs
section
variable {l : List Oper}
theorem ls_factsI {I : InvT} {an : Nat → Nat → Bool} {T : Act → World → Prop} : ∀ (r : List Oper) (kr : List Nat) (k : Nat) (a : Act) (vs : Nat → Value), l.drop k = r → ks.drop k = kr → k ≤ l.length → wpLsI P l.toArray C I an ks T kr r k a vs →
    ∀ V : Nat → Value, (∀ j, j < k → kd ks j = 2 → V j = vs j) → (∀ i o, k ≤ i → l.toArray[i]? = some o → kd ks i = 2 → ∀ S w', C w' → (∀ j, j < i → kd ks j = 2 → an i j = true → S j) → ¬ S i → I S V w' → sumGI P l.toArray o (stL l.toArray V (nums ks pL k i) a) (fun v w => C w ∧ I (andOf S i) (upd V i v) w) w') ∧
      ∀ w', C w' → I (fun j => j < l.length ∧ kd ks j = 2) V w' → T (stL l.toArray V (nums ks pL k l.length) a) w' := by
  intro r
  induction r with
  | nil =>
    intro kr k a vs hr _ hkl h V hvs
    have hk : k = l.length := by have : l.length ≤ k := by simpa using hr
                                 omega
    refine ⟨fun i o hi ho => ?_, fun w' h1 h2 => ?_⟩
    · have := (Array.getElem?_eq_some_iff.1 ho).1; simp at this; omega
    · rw [nums_none (Nat.le_of_eq hk.symm)]; unfold wpLsI at h; subst hk; exact h V w' h1 hvs h2
  | cons o r ih =>
    intro kr k a vs hr hkr hkl h V hvs
    obtain ⟨ho, hr', hlt⟩ := op_at hr
    have hdst : dstOf l.toArray k = o.dst := by unfold dstOf; rw [ho]; rfl
    cases kr with
    | nil => exact h.elim
    | cons c kr =>
      obtain ⟨hc, hkr'⟩ := kd_at hkr
      have skip : c ≠ 2 → wpLsI P l.toArray C I an ks T kr r (k + 1) a vs → (∀ i o, k ≤ i → l.toArray[i]? = some o → kd ks i = 2 → ∀ S w', C w' → (∀ j, j < i → kd ks j = 2 → an i j = true → S j) → ¬ S i → I S V w' → sumGI P l.toArray o (stL l.toArray V (nums ks pL k i) a) (fun v w => C w ∧ I (andOf S i) (upd V i v) w) w') ∧
          ∀ w', C w' → I (fun j => j < l.length ∧ kd ks j = 2) V w' → T (stL l.toArray V (nums ks pL k l.length) a) w' := fun hc2 h => by
        obtain ⟨h3, h4⟩ := ih kr (k + 1) a vs hr' hkr' hlt h V (fun j hj hj2 => hvs j (by rcases Nat.lt_or_eq_of_le (Nat.le_of_lt_succ hj) with e | e; exact e; subst e; omega) hj2)
        have hst : ∀ n, k < n → nums ks pL k n = nums ks pL (k + 1) n := fun n hn => by rw [nums_step hn, hc, if_neg (by simpa using hc2)]
        refine ⟨fun i o' hi ho' hk2 => ?_, fun w' h1 h2 => by rw [hst _ hlt]; exact h4 w' h1 h2⟩
        rcases Nat.lt_or_eq_of_le hi with h5 | h5
        · rw [hst i h5]; exact h3 i o' (by omega) ho' hk2
        · subst h5; omega
      match c, h, hc, skip with
      | 0, h, hc, skip => unfold wpLsI at h; exact skip (by omega) h
      | 1, h, hc, skip => unfold wpLsI at h; exact skip (by omega) h
      | 2, h, hc, _ =>
        unfold wpLsI at h
        obtain ⟨h3, h4⟩ := ih kr (k + 1) _ _ hr' hkr' hlt (h.2 (V k)) V (fun j hj hj2 => by rcases Nat.lt_or_eq_of_le (Nat.le_of_lt_succ hj) with e | e; exact (hvs j e hj2).trans (upd_ne (by omega)).symm; subst e; exact (upd_same _ _ _).symm)
        have hst : ∀ n, k < n → stL l.toArray V (nums ks pL k n) a = stL l.toArray V (nums ks pL (k + 1) n) (a.put o.dst (V k)) := fun n hn => by
          rw [nums_step hn, hc, if_pos (by simp), stL_cons, hdst]
        refine ⟨fun i o' hi ho' hk2 => ?_, fun w' h1 h2 => by rw [hst _ hlt]; exact h4 w' h1 h2⟩
        rcases Nat.lt_or_eq_of_le hi with h5 | h5
        · rw [hst i h5]; exact h3 i o' (by omega) ho' hk2
        · subst h5
          rw [nums_none (Nat.le_refl _)]
          rw [ho] at ho'
          obtain rfl := Option.some.inj ho'
          exact fun S w' h6 h8 h9 h10 => h.1 S V w' h6 hvs h8 h9 h10
      | c + 3, h, hc, skip => unfold wpLsI at h; exact skip (by omega) h
end
variable {anc : Nat → Nat → Prop}
variable {Q : Exit → Act → World → Prop} {V : Nat → Value} {a0 : Act}
/-- The l's that are laid. -/
def lsUp (ks : List Nat) (n : Nat) (listed : Array Bool) : Nat → Prop := fun j => j < n ∧ kd ks j = 2 ∧ up listed j = true
theorem lsUp_skip {listed : Array Bool} {n i : Nat} (hi : i < listed.size) (hk : kd ks i ≠ 2) : lsUp ks n (listed.setIfInBounds i true) = lsUp ks n listed := by
  funext j
  unfold lsUp
  rw [up_set hi]
  by_cases h : j = i
  · subst h; simp [hk]
  · rw [if_neg h]
theorem lsUp_add {listed : Array Bool} {n i : Nat} (hi : i < listed.size) (hn : i < n) (hk : kd ks i = 2) : lsUp ks n (listed.setIfInBounds i true) = andOf (lsUp ks n listed) i := by
  funext j
  unfold lsUp andOf
  rw [up_set hi]
  by_cases h : j = i
  · subst h; simp [hk, hn]
  · rw [if_neg h]; simp [h]
theorem lsUp_all {listed : Array Bool} {n : Nat} (h : ∀ i, i < n → kd ks i = 2 → up listed i = true) : lsUp ks n listed = fun j => j < n ∧ kd ks j = 2 := by
  funext j
  unfold lsUp
  exact propext ⟨fun h => ⟨h.1, h.2.1⟩, fun h1 => ⟨h1.1, h1.2, h j h1.1 h1.2⟩⟩
theorem Sch.phase1I (H : Sch ops ks anc) {Vq : Nat → Value} {I : InvT} {an : Nat → Nat → Bool} (han : ∀ i j, an i j = true → i < ops.size → j < ops.size → anc i j)
    (hC : ∀ w w', C w → Below w.heap.size w w' → C w') (hR : ∀ S V w w', C w → I S V w → Below w.heap.size w w' → I S V w')
    (hG : ∀ (i : Nat) (o : Oper), ops[i]? = some o → kd ks i < 2 → Owe P ops C (kd ks i) o (Vq i) (stL ops Vq (nums ks pQ 0 i) a0))
    (hL : ∀ V : Nat → Value, (∀ (i : Nat) (o : Oper), ops[i]? = some o → kd ks i = 2 → ∀ S w', C w' → (∀ j, j < i → kd ks j = 2 → an i j = true → S j) → ¬ S i → I S V w' → sumGI P ops o (stL ops V (nums ks pL 0 i) (stL ops Vq (nums ks pQ 0 ops.size) a0)) (fun v w => C w ∧ I (andOf S i) (upd V i v) w) w') ∧
      ∀ w', C w' → I (fun j => j < ops.size ∧ kd ks j = 2) V w' → wpList P ops (Exit.then (fun a w => Q .normal a w) (fun _ _ _ => False)) ((nums ks pT 0 ops.size).filterMap fun i => ops[i]?) (stL ops V (nums ks pL 0 ops.size) (stL ops Vq (nums ks pQ 0 ops.size) a0)) w') :
    ∀ (f : Nat) (listed : Array Bool) (V : Nat → Value) (w : World), listed.size = ops.size → Upw ops listed → cnt ops.size listed = f → (∀ i, kd ks i < 2 → V i = Vq i) → (∀ i, 3 ≤ kd ks i → up listed i = false) → C w →
      I (lsUp ks ops.size listed) V w → Go.wpAny P .any ops Q f listed (stL ops V ((nonT ks ops.size).filter (up listed)) a0) w := by
  intro f
  induction f with
  | zero =>
    intro listed V w hs hU hc hV hT hw hRs
    refine H.phase2 (V := V) (a0 := a0) (fun i o ho hk => ?_) 0 listed _ w hs hU hc (fun i hi _ => cnt_zero hc hi) (fun t _ => rfl) (stL_size _ _ _) ?_
    · have := hG i o ho (by omega)
      rw [show stL ops V (nums ks pQ 0 i) a0 = stL ops Vq (nums ks pQ 0 i) a0 from stL_same H.apart fun j => ⟨Iff.rfl, fun h => hV j (by have := (mem_nums.1 h).2; simpa [pQ] using this)⟩, hV i (by omega)]
      unfold Owe at this
      rwa [if_neg (by omega)] at this
    · exact finish listed V w hs hV hT hw hRs (fun i hi _ => cnt_zero hc hi)
  | succ f ih =>
    intro listed V w hs hU hc hV hT hw hRs
    by_cases hall : ∀ i, i < ops.size → kd ks i = 0 ∨ kd ks i = 2 → up listed i = true
    · refine H.phase2 (V := V) (a0 := a0) (fun i o ho hk => ?_) (f + 1) listed _ w hs hU hc hall (fun t _ => rfl) (stL_size _ _ _) ?_
      · have := hG i o ho (by omega)
        rw [show stL ops V (nums ks pQ 0 i) a0 = stL ops Vq (nums ks pQ 0 i) a0 from stL_same H.apart fun j => ⟨Iff.rfl, fun h => hV j (by have := (mem_nums.1 h).2; simpa [pQ] using this)⟩, hV i (by omega)]
        unfold Owe at this
        rwa [if_neg (by omega)] at this
      · exact finish listed V w hs hV hT hw hRs hall
    · refine ⟨fun hr => absurd hr (H.ready_ne hs (by omega)), fun i hi => ?_⟩
      obtain ⟨hu, o, ho, he⟩ := mem_ready.1 hi
      have hlt := (Array.getElem?_eq_some_iff.1 ho).1
      rw [getD_any (by omega)] at hu
      have hdst : dstOf ops i = o.dst := by unfold dstOf; rw [ho]; rfl
      have hup : ∀ j, anc i j → up listed j = true := fun j => H.anc_up hU i o j ho he
      have hk3 : kd ks i < 3 := by
        rcases Nat.lt_or_ge (kd ks i) 3 with h | h
        · exact h
        · exfalso
          apply hall
          intro j hj hk
          rcases H.tail i o ho h j hj with h1 | h1 | h1
          · omega
          · omega
          · exact hup j h1
      have hU' := hU.set (by omega) ho he
      have hs' : (listed.setIfInBounds i true).size = ops.size := by simp [hs]
      have hc' : cnt ops.size (listed.setIfInBounds i true) = f := by have := cnt_set hs hlt hu; omega
      have hT' : ∀ j, 3 ≤ kd ks j → up (listed.setIfInBounds i true) j = false := fun j hj => by
        rw [up_set (by omega), if_neg (fun e => by subst e; omega)]; exact hT j hj
      have hst : ∀ (V' : Nat → Value) (v : Value), (∀ j, j ≠ i → V' j = V j) → V' i = v → (stL ops V ((nonT ks ops.size).filter (up listed)) a0).put o.dst v = stL ops V' ((nonT ks ops.size).filter (up (listed.setIfInBounds i true))) a0 := fun V' v h1 h2 => by
        have e : (stL ops V ((nonT ks ops.size).filter (up listed)) a0).put o.dst v = stL ops V' ((nonT ks ops.size).filter (up listed) ++ [i]) a0 := by
          rw [stL_app, stL_cons, hdst, h2, show stL ops V' ((nonT ks ops.size).filter (up listed)) a0 = stL ops V ((nonT ks ops.size).filter (up listed)) a0 from stL_same H.apart fun j => ⟨Iff.rfl, fun h => h1 j (fun e => by subst e; exact absurd ((List.mem_filter.1 h).2.symm.trans hu) (by decide))⟩]
          rfl
        rw [e]
        refine stL_same H.apart fun j => ⟨?_, fun _ => rfl⟩
        rw [List.mem_append, List.mem_filter, List.mem_filter, List.mem_singleton, up_set (by omega), mem_nonT]
        constructor
        · rintro (⟨h3, h4⟩ | rfl)
          · exact ⟨h3, by split <;> first | rfl | exact h4⟩
          · exact ⟨⟨hlt, hk3⟩, by rw [if_pos rfl]⟩
        · rintro ⟨h3, h4⟩
          by_cases hji : j = i
          · exact .inr hji
          · rw [if_neg hji] at h4; exact .inl ⟨h3, h4⟩
      have hlooks : ∀ t ∈ o.looksAt ops, ∀ j, dstOf ops j = some t → (up listed j = true ∧ j < i ∧ (kd ks j < 2 ∨ (kd ks i = 2 ∧ kd ks j = 2))) ∨ 3 ≤ kd ks j := fun t ht j hj => by
        rcases H.looks i o ho t ht j hj with ⟨h1, h2⟩ | h1
        · exact .inl ⟨hup j h1, (H.lower i j h1).1, by omega⟩
        · exact .inr h1.2.2
      unfold wpOp
      rw [ho]
      dsimp only
      by_cases hk : kd ks i < 2
      · have hal : Alike ops o (stL ops Vq (nums ks pQ 0 i) a0) (stL ops V ((nonT ks ops.size).filter (up listed)) a0) := fun t ht => by
          refine stL_agree H.apart fun j hj => ?_
          rcases hlooks t ht j hj with ⟨h1, h2, h3⟩ | h3
          · exact ⟨⟨fun _ => List.mem_filter.2 ⟨mem_nonT.2 ⟨by omega, by omega⟩, h1⟩, fun _ => mem_nums.2 ⟨⟨Nat.zero_le _, h2⟩, by simp [pQ]; omega⟩⟩, fun _ => (hV j (by omega)).symm⟩
          · exact ⟨⟨fun h => (by have := (mem_nums.1 h).2; simp [pQ] at this; omega), fun h => (by have := (mem_nonT.1 (List.mem_filter.1 h).1).2; omega)⟩, fun h => (by have := (mem_nums.1 h).2; simp [pQ] at this; omega)⟩
        have hy0 := hG i o ho hk
        have hy : Gives P ops C o (V i) (stL ops V ((nonT ks ops.size).filter (up listed)) a0) := by
          rw [hV i hk]
          unfold Owe at hy0
          by_cases hz : kd ks i = 0
          · rw [if_pos hz] at hy0
            exact Gives.alike (H.sel i o · · ho) hal (by rw [stL_size, stL_size]) hy0
          · rw [if_neg hz] at hy0
            exact Gives.alike (H.sel i o · · ho) hal (by rw [stL_size, stL_size]) hy0.gives
        have hls : lsUp ks ops.size (listed.setIfInBounds i true) = lsUp ks ops.size listed := lsUp_skip (by omega) (by omega)
        rcases hy with ⟨hwn, hv⟩ | ⟨hwn, hv⟩
        · rw [if_pos hwn]
          refine .inl (wp_of_relAt (hv w hw) fun w' hb => ?_)
          rw [hst V (V i) (fun _ _ => rfl) rfl]
          exact ih _ V w' hs' hU' hc' hV hT' (hC _ _ hw hb) (by rw [hls]; exact hR _ _ _ _ hw hRs hb)
        · rw [if_neg (by rw [hwn]; decide), ← hv, hst V (V i) (fun _ _ => rfl) rfl]
          exact ih _ V w hs' hU' hc' hV hT' hw (by rw [hls]; exact hRs)
      · have hk2 : kd ks i = 2 := by omega
        have hal : Alike ops o (stL ops V (nums ks pL 0 i) (stL ops Vq (nums ks pQ 0 ops.size) a0)) (stL ops V ((nonT ks ops.size).filter (up listed)) a0) := fun t ht => by
          rw [show stL ops Vq (nums ks pQ 0 ops.size) a0 = stL ops V (nums ks pQ 0 ops.size) a0 from stL_same H.apart fun j => ⟨Iff.rfl, fun h => (hV j (by have := (mem_nums.1 h).2; simpa [pQ] using this)).symm⟩, ← stL_app]
          refine stL_agree H.apart fun j hj => ⟨?_, fun _ => rfl⟩
          rcases hlooks t ht j hj with ⟨h1, h2, h3⟩ | h3
          · refine ⟨fun _ => List.mem_filter.2 ⟨mem_nonT.2 ⟨by omega, by omega⟩, h1⟩, fun _ => ?_⟩
            rcases h3 with h3 | ⟨-, h3⟩
            · exact List.mem_append_left _ (mem_nums.2 ⟨⟨Nat.zero_le _, by omega⟩, by simp [pQ]; omega⟩)
            · exact List.mem_append_right _ (mem_nums.2 ⟨⟨Nat.zero_le _, h2⟩, by simp [pL, h3]⟩)
          · refine ⟨fun h => ?_, fun h => (by have := (mem_nonT.1 (List.mem_filter.1 h).1).2; omega)⟩
            rcases List.mem_append.1 h with h | h
            · have := (mem_nums.1 h).2; simp [pQ] at this; omega
            · have := (mem_nums.1 h).2; simp [pL] at this; omega
        have hls := lsUp_add (ks := ks) (n := ops.size) (listed := listed) (by omega) hlt hk2
        have hy := sumGI.alike (H.sel i o · · ho) hal (by rw [stL_size, stL_size, stL_size]) ((hL V).1 i o ho hk2 (lsUp ks ops.size listed) w hw (fun j hj1 hj2 hj3 => ⟨by omega, hj2, hup j (han i j hj3 hlt (by omega))⟩) (fun h => by have := h.2.2; rw [show up listed i = listed.getD i false from rfl, hu] at this; cases this) hRs)
        rcases hy with ⟨hwn, hy⟩ | ⟨hwn, hy⟩
        · rw [if_pos hwn]
          refine .inl (wp_of_sumAtI hy fun v w' hv => ?_)
          rw [hst (upd V i v) v (fun j hj => upd_ne hj) (upd_same _ _ _)]
          exact ih _ _ w' hs' hU' hc' (fun j hj => by rw [upd_ne (fun e => by subst e; omega)]; exact hV j hj) hT' hv.1 (by rw [hls]; exact hv.2)
        · rw [if_neg (by rw [hwn]; decide), hst (upd V i undef) undef (fun j hj => upd_ne hj) (upd_same _ _ _)]
          exact ih _ _ w hs' hU' hc' (fun j hj => by rw [upd_ne (fun e => by subst e; omega)]; exact hV j hj) hT' hw (by rw [hls]; exact hy.2)
where
  finish (listed : Array Bool) (V : Nat → Value) (w : World) (hs : listed.size = ops.size) (hV : ∀ i, kd ks i < 2 → V i = Vq i) (hT : ∀ i, 3 ≤ kd ks i → up listed i = false) (hw : C w) (hRs : I (lsUp ks ops.size listed) V w)
      (hall : ∀ i, i < ops.size → kd ks i = 0 ∨ kd ks i = 2 → up listed i = true) : wpList P ops (Exit.then (fun a w => Q .normal a w) (fun _ _ _ => False)) (((nums ks pT 0 ops.size).filter fun i => !up listed i).filterMap fun i => ops[i]?)
        (stL ops V ((nums ks pF 0 ops.size).filter fun i => !up listed i) (stL ops V ((nonT ks ops.size).filter (up listed)) a0)) w := by
    have h := (hL V).2 w hw (by rw [← lsUp_all (listed := listed) fun i hi hk => hall i hi (.inr hk)]; exact hRs)
    rw [show stL ops Vq (nums ks pQ 0 ops.size) a0 = stL ops V (nums ks pQ 0 ops.size) a0 from stL_same H.apart fun j => ⟨Iff.rfl, fun h => (hV j (by have := (mem_nums.1 h).2; simpa [pQ] using this)).symm⟩, ← stL_app] at h
    rw [← stL_app, List.filter_eq_self.2 (fun i hi => by
      have := (mem_nums.1 hi).2
      rw [hT i (by simpa [pT] using this)]; rfl)]
    rw [show stL ops V ((nonT ks ops.size).filter (up listed) ++ (nums ks pF 0 ops.size).filter fun i => !up listed i) a0 = stL ops V (nums ks pQ 0 ops.size ++ nums ks pL 0 ops.size) a0 from stL_same H.apart fun j => ⟨?_, fun _ => rfl⟩]
    · exact h
    · rw [List.mem_append, List.mem_filter, List.mem_filter, mem_nonT, mem_nums]
      simp only [pF, beq_iff_eq, Bool.not_eq_true']
      constructor
      · rintro (h1 | h1)
        · exact h1.1
        · exact ⟨h1.1.1.2, by omega⟩
      · intro h1
        cases hu : up listed j with
        | true => exact .inl ⟨h1, rfl⟩
        | false =>
          refine .inr ⟨⟨⟨Nat.zero_le _, h1.1⟩, ?_⟩, rfl⟩
          have h2 : ¬ (kd ks j = 0 ∨ kd ks j = 2) := fun h => by rw [hall j h1.1 h] at hu; cases hu
          omega

/-- But for the blocks D all lies as it lay. -/
def KeptD (D : List Nat) (w0 w : World) : Prop := Kept (fun b => b ∉ D) w0 w
section
variable {D : List Nat} {w0 w w' : World}
theorem KeptD.on (h : KeptD D w0 w) (k : Below w.heap.size w w') : KeptD D w0 w' := Kept.on h k
theorem KeptD.none (h : KeptD [] w0 w) : Below w0.heap.size w0 w := Kept.none h
theorem KeptD.blk {g : Nat} {t : TypeId} {cs : Array Value} (h : KeptD D w0 w) (hg : g ∉ D) (hb : Blk w0 g t cs) : Blk w g t cs := Kept.blk h hg hb
end
theorem wpLsI_nil {w0 : World} {D : List Nat} {I : InvT} {an : Nat → Nat → Bool} {ks0 : List Nat} {T : Act → World → Prop} {n : Nat} {a : Act} {vs : Nat → Value} (h : ∀ V w', KeptD D w0 w' → (∀ j, j < n → kd ks0 j = 2 → V j = vs j) → I (fun j => j < n ∧ kd ks0 j = 2) V w' → T a w') : wpLsI P ops (Msd w0 D) I an ks0 T [] [] n a vs := by
  unfold wpLsI; exact fun V w' hw => h V w' (msd_kept hw)
/-- An l without a guard. -/
theorem wpLsI_one {w0 : World} {D : List Nat} {I : InvT} {an : Nat → Nat → Bool} {ks0 : List Nat} {T : Act → World → Prop} {i : Nat} {a : Act} {vs : Nat → Value} {o : Oper} {l : List Oper} (hg : o.guard = none)
    (h1 : ∀ S V w', KeptD D w0 w' → (∀ j, j < i → kd ks0 j = 2 → V j = vs j) → (∀ j, j < i → kd ks0 j = 2 → an i j = true → S j) → ¬ S i → I S V w' → sumAtI P o a (fun v w => KeptD D w0 w ∧ I (andOf S i) (upd V i v) w) w') (h2 : ∀ v, wpLsI P ops (Msd w0 D) I an ks0 T ks l (i + 1) (a.put o.dst v) (upd vs i v)) :
    wpLsI P ops (Msd w0 D) I an ks0 T (2 :: ks) (o :: l) i a vs := by
  unfold wpLsI
  exact ⟨fun S V w' hw hV ha hn hI => .inl ⟨by simp [Region.wanted, hg], (h1 S V w' (msd_kept hw) hV ha hn hI).mono fun v w h => ⟨msd_of h.1, h.2⟩⟩, h2⟩
/-- An l behind a guard. -/
theorem wpLsI_grd {w0 : World} {D : List Nat} {I : InvT} {an : Nat → Nat → Bool} {ks0 : List Nat} {T : Act → World → Prop} {i : Nat} {a : Act} {vs : Nat → Value} {o : Oper} {l : List Oper}
    (h1 : ∀ S V w', KeptD D w0 w' → (∀ j, j < i → kd ks0 j = 2 → V j = vs j) → (∀ j, j < i → kd ks0 j = 2 → an i j = true → S j) → ¬ S i → I S V w' → sumGI P ops o a (fun v w => KeptD D w0 w ∧ I (andOf S i) (upd V i v) w) w') (h2 : ∀ v, wpLsI P ops (Msd w0 D) I an ks0 T ks l (i + 1) (a.put o.dst v) (upd vs i v)) :
    wpLsI P ops (Msd w0 D) I an ks0 T (2 :: ks) (o :: l) i a vs := by
  unfold wpLsI
  exact ⟨fun S V w' hw hV ha hn hI => (h1 S V w' (msd_kept hw) hV ha hn hI).mono fun v w h => ⟨msd_of h.1, h.2⟩, h2⟩
theorem wpLsI_skip {I : InvT} {an : Nat → Nat → Bool} {ks0 : List Nat} {T : Act → World → Prop} {i : Nat} {a : Act} {vs : Nat → Value} {o : Oper} {l : List Oper} {k : Nat} (h : wpLsI P ops C I an ks0 T ks l (i + 1) a vs) (hk : notTwo k := by exact trivial) : wpLsI P ops C I an ks0 T (k :: ks) (o :: l) i a vs := by
  match k, hk with
  | 0, _ => unfold wpLsI; exact h
  | 1, _ => unfold wpLsI; exact h
  | k + 3, _ => unfold wpLsI; exact h
theorem any_inv {Q : Exit → Act → World → Prop} {a : Act} {w : World} {l : List Oper} (ks : List Nat) (D : List Nat) (I : InvT) (hB : schedB0 l.toArray ks = true)
    (hR : ∀ S V w1 w2, Kept (fun b => b ∉ D) w w1 → I S V w1 → Below w1.heap.size w1 w2 → I S V w2) (h0 : ∀ V, I (fun _ => False) V w)
    (h : wpQs P l.toArray (Msd w D) (fun a' => wpLsI P l.toArray (Msd w D) I (ancB (Region.before l.toArray)) ks (fun a'' w'' => wpList P l.toArray (Exit.then (fun a w => Q .normal a w) (fun _ _ _ => False)) (tails ks l) a'' w'') ks l 0 a' (fun _ => undef)) ks l a) :
    Go.wpAny P .any l.toArray Q l.toArray.size (Array.replicate l.toArray.size false) a { w with drawn := w.drawn + 1 } := by
  have H := sch_of0 hB
  have hlen : ks.length = l.length := by simpa using H.len
  obtain ⟨Vq, h1, h2⟩ := qs_facts (l := l) (ks := ks) l ks 0 a rfl rfl h
  have e : l.length = l.toArray.size := by simp
  have h3 := fun V => ls_factsI (l := l) (ks := ks) l ks 0 _ _ rfl rfl (Nat.zero_le _) h2 V (fun j hj => by omega)
  rw [tails_eq (l := l) (ks := ks) l ks 0 rfl rfl hlen, e] at h3
  have hd0 : ∀ K : Nat → Prop, Kept K w { w with drawn := w.drawn + 1 } := fun K => ⟨rfl, rfl, rfl, Nat.le_refl _, fun _ _ _ => rfl⟩
  have := H.phase1I (C := Msd w D) (Q := Q) (a0 := a) (I := I) (an := ancB (Region.before l.toArray)) (fun i j h h1 h2 => ⟨h1, h2, h⟩) (Vq := Vq) (fun w1 w2 h4 h5 => msd_of ((msd_kept h4).trans (Kept.of_below h5))) (fun S V w1 w2 hw => hR S V w1 w2 (msd_kept hw)) (fun i o ho hk => h1 i o (Nat.zero_le _) ho hk)
    (fun V => ⟨fun i o ho hk => (h3 V).1 i o (Nat.zero_le _) ho hk, (h3 V).2⟩)
    l.toArray.size (Array.replicate l.toArray.size false) Vq { w with drawn := w.drawn + 1 } (by simp) (fun j o hj => by simp [up, Array.getElem?_replicate] at hj; split at hj <;> cases hj)
    (by simp only [cnt]; rw [List.countP_eq_length.2 (fun i _ => by simp [up, Array.getElem?_replicate]; split <;> rfl)]; simp) (fun _ _ => rfl) (fun i _ => by simp [up, Array.getElem?_replicate]; split <;> rfl) (msd_of (hd0 _))
    (by
      have e2 : lsUp ks l.toArray.size (Array.replicate l.toArray.size false) = fun _ => False := by
        funext j
        exact propext ⟨fun h => (by have := h.2.2; simp [up, Array.getElem?_replicate] at this; split at this <;> cases this), fun h => h.elim⟩
      rw [e2]
      exact hR _ _ w _ (Kept.refl _ _) (h0 Vq) ⟨rfl, rfl, rfl, Nat.le_refl _, fun _ _ => rfl⟩)
  have hf : (nonT ks l.toArray.size).filter (up (Array.replicate l.toArray.size false)) = [] := List.filter_eq_nil_iff.2 fun i _ => by simp [up, Array.getElem?_replicate]; split <;> simp
  rw [hf] at this
  exact this
/-- THE LAW: one invariant; the blocks D may be written. -/
theorem wp_inv {id : Nat} {Q : Exit → Act → World → Prop} {a : Act} {w : World} {l : List Oper} (ks : List Nat) (D : List Nat) (I : InvT) (hm : P.follows .mixedOrders = true) (hB : schedB0 l.toArray ks = true)
    (hR : ∀ S V w1 w2, Kept (fun b => b ∉ D) w w1 → I S V w1 → Below w1.heap.size w1 w2 → I S V w2) (h0 : ∀ V, I (fun _ => False) V w)
    (h : wpQs P l.toArray (Msd w D) (fun a' => wpLsI P l.toArray (Msd w D) I (ancB (Region.before l.toArray)) ks (fun a'' w'' => wpList P l.toArray (Exit.then (fun a w => Q .normal a w) (fun _ _ _ => False)) (tails ks l) a'' w'') ks l 0 a' (fun _ => undef)) ks l a) : (Code.region id l.toArray true).wp P Q a w :=
  wp_region_any hm (any_inv ks D I hB hR h0 h)
theorem in_inv {l' n id : Nat} {Q : Exit → Act → World → Prop} {a : Act} {w : World} {l : List Oper} (ks : List Nat) (D : List Nat) (I : InvT) (hm : P.follows .mixedOrders = true) (hB : schedB0 l.toArray ks = true)
    (hR : ∀ S V w1 w2, Kept (fun b => b ∉ D) w w1 → I S V w1 → Below w1.heap.size w1 w2 → I S V w2) (h0 : ∀ V, I (fun _ => False) V w) (hd : noDefer l.toArray = true) (hQ : ¬ LetsOut Q)
    (h : wpQs P l.toArray (Msd w D) (fun a' => wpLsI P l.toArray (Msd w D) I (ancB (Region.before l.toArray)) ks (fun a'' w'' => wpList P l.toArray (Exit.then (fun a w => Q .normal a w) (fun _ _ _ => False)) (tails ks l) a'' w'') ks l 0 a' (fun _ => undef)) ks l a) : (Code.region id l.toArray true).wpIn (Fence.wide.inRound l') n P Q a w :=
  wpIn_region_any hm (any_in hd hQ _ _ _ _ (any_inv ks D I hB hR h0 h))
attribute [go_sem] sumAtI sumUponI
end
end Go.Proofs.Ytnokibdecnddlaa

/- Bodies, the program's: a way that is cut; the speed along the ground, and up and down. -/
namespace Go.Proofs.Ytnokibdecnddlaa
open Go.RowKit
attribute [local go_sem] Oper.semAt_some

theorem bcut1_c (n : Int) (w : World) : Calls Try.prog 94 #[.int .i64 n] w fun r w' => r = .returned (.int .i64 (clI n)) ∧ Below w.heap.size w w' := by
  have hmn := @run_mn Try.prog
  have hmx := @run_mx Try.prog
  go_enter Try.func94, Try.ntmps94
  go_wp2_with fail
  go_returns
  exact ⟨rfl, Below.refl _ _⟩
set_option maxRecDepth 100000 in
set_option maxHeartbeats 8000000 in
theorem bcut_c (b : BD) (dx dy dz : Int) (w : World) : Calls Try.prog 68 #[.agg (bd9 b), .agg #[.int .i64 dx, .int .i64 dy, .int .i64 dz]] w fun r w' => r = .returned (.agg #[.int .i64 (fwI b.1 dx), .int .i64 (fwI b.2.1 dy), .int .i64 (fwI b.2.2.1 dz)]) ∧ Below w.heap.size w w' := by
  obtain ⟨x, y, z, sx, sy, sz, wd, ht, st⟩ := b
  unfold fwI
  simp only [bd9]
  have HA := Lib.hid (fun W => add_c x y z dx dy dz W)
  have HS := Lib.hid (fun W => sub_c (clI (addI x dx)) (clI (addI y dy)) (clI (addI z dz)) x y z W)
  generalize addI x dx = a1 at HA HS ⊢
  generalize addI y dy = a2 at HA HS ⊢
  generalize addI z dz = a3 at HA HS ⊢
  obtain ⟨N, hN⟩ : ∃ N, N = w.heap.size := ⟨_, rfl⟩
  obtain ⟨W, hW⟩ : ∃ W, W = ((w.alloc (.cells #[.int .i64 x, .int .i64 y, .int .i64 z, .int .i64 sx, .int .i64 sy, .int .i64 sz, .int .i64 wd, .int .i64 ht, .bool st] 35)).alloc (.cells #[.int .i64 dx, .int .i64 dy, .int .i64 dz] 26)).alloc (.cells #[.int .i64 0, .int .i64 0, .int .i64 0] 26) := ⟨_, rfl⟩
  have H : Below w.heap.size w W := by rw [hW]; go_grown
  have B : Blk W N 35 _ := Blk.eqw hW.symm (by rw [hN]; exact ((Blk.new' rfl).alloc _).alloc _)
  have D : Blk W (N + 1) 26 _ := Blk.eqw hW.symm (by rw [hN]; exact (Blk.new' (by simp)).alloc _)
  have R : Blk W (N + 1 + 1) 26 _ := Blk.eqw hW.symm (by rw [hN]; exact Blk.new' (by simp))
  go_enter Try.func68, Try.ntmps68
  go_upto_region 1 with (fail)
  rw [← hW, ← hN]
  have HN := Lib.hid hN
  clear hW hN
  have b0 := B.cell 0
  have b1 := B.cell 1
  have b2 := B.cell 2
  simp at b0 b1 b2
  obtain ⟨d0, d1, d2, -, -, -⟩ := D.c3
  go_upto_region 2 with (go_at_call 57; refine (HA.out _).mono ?_; rintro e_ w1 ⟨rfl, k1⟩)
  generalize hV : World.alloc w1 _ = W1
  have T : Blk W1 w1.heap.size 26 #[.int .i64 a1, .int .i64 a2, .int .i64 a3] := Blk.eqw hV (Blk.new' rfl)
  have h1 : Below w1.heap.size w1 W1 := by rw [← hV]; exact (Below.refl _ _).alloc (Nat.le_refl _) _
  have k2 := after k1 h1
  have HB := Lib.hid (B.on k2)
  have HR := Lib.hid (R.on k2)
  have HH := Lib.hid (after H k2)
  have HT := Lib.hid T
  generalize w1.heap.size = g at HT ⊢
  clear hV h1 k1 k2 B D R H b0 b1 b2 d0 d1 d2 T HA
  have b0 := fun d os => (HB.out.re d os).cell 0
  have b1 := fun d os => (HB.out.re d os).cell 1
  have b2 := fun d os => (HB.out.re d os).cell 2
  simp at b0 b1 b2
  have t0 := fun d os => (HT.out.re d os).cell 0
  have t1 := fun d os => (HT.out.re d os).cell 1
  have t2 := fun d os => (HT.out.re d os).cell 2
  simp at t0 t1 t2
  go_upto_region 3 with (fail)
  refine wp_region_last_below 16 (by kernel_rfl) rfl (by kernel_rfl) ?_
  simp only [List.take_succ_cons, List.take_zero, List.drop_succ_cons, List.drop_zero]
  repeat (go_big_quiet_step (first | (with_reducible exact Calls.regrown_of (bcut1_c _ _)) | (with_reducible exact Calls.regrown_of (HS.out _))))
  refine wpQuiet_nil ?_
  intro w' hw'
  obtain ⟨rg, rfl⟩ := hw'
  clear b0 b1 b2 t0 t1 t2
  have R := HR.out.re rg.d rg.os
  obtain ⟨r0, r1, r2, s0, s1, s2⟩ := R.c3
  have H := HH.out
  have hNw : w.heap.size ≤ N + 1 + 1 := by have := HN.out; omega
  go_wp2_with fail
  have R2 := R.st3 (.int .i64 (subI (clI a1) x)) (.int .i64 (subI (clI a2) y)) (.int .i64 (subI (clI a3) z))
  obtain ⟨d0, d1, d2, -, -, -⟩ := R2.c3
  exact bodyPost_ret (v := .agg #[.int .i64 (subI (clI a1) x), .int .i64 (subI (clI a2) y), .int .i64 (subI (clI a3) z)]) (by simp [results, Try.results68, go_sem, d0, d1, d2]) rfl ⟨rfl, by (repeat' (first | (with_reducible exact Below.refl _ _) | (with_reducible assumption) | (with_reducible refine Below.alloc ?_ ?_ _) | (with_reducible refine Below.drew ?_) | (with_reducible refine Below.setCell ?_ ?_ _) | (with_reducible refine after ?_ (below_regrown _ _ _)) | (refine after ?_ (by with_reducible assumption)) | go_size))⟩
theorem bwalk1_c (n : Int) (w : World) : Calls Try.prog 72 #[.int .i64 n] w fun r w' => r = .returned (.int .i64 (walkI n)) ∧ Below w.heap.size w w' := by
  have hmn := @run_mn Try.prog
  have hmx := @run_mx Try.prog
  unfold walkI
  go_enter Try.func72, Try.ntmps72
  go_wp2_with (go_at_call 73; refine (fmul_c _ _ _).mono ?_; rintro e_ w1 ⟨rfl, k1⟩)
  go_returns
  exact ⟨rfl, k1⟩
end Go.Proofs.Ytnokibdecnddlaa

/- Two variables that are set out of what they were, in a region that draws: the law's invariant. No program in sight. -/
namespace Go.Proofs.Ytnokibdecnddlaa
open Go.RowKit

/-- Store s into block b: o ahead of it, n behind it; p is what must be laid ahead of it. -/
structure StCfg where
  s : Nat
  p : Nat
  b : Nat
  t : TypeId
  o : Array Value
  n : Array Value
def StI (x : StCfg) : InvT := fun S _ w => (S x.s → S x.p) ∧ (¬ S x.s → Blk w x.b x.t x.o) ∧ (S x.s → Blk w x.b x.t x.n)
def ExI (x y : StCfg) (val : Nat → Value) : InvT := fun S V w => (∀ i, S i → i ≠ x.s → i ≠ y.s → V i = val i) ∧ StI x S V w ∧ StI y S V w
section
variable {x y : StCfg} {val : Nat → Value} {S : Nat → Prop} {V : Nat → Value} {w w' : World}
theorem StI.below (h : StI x S V w) (k : Below w.heap.size w w') : StI x S V w' := ⟨h.1, fun e => (h.2.1 e).on k, fun e => (h.2.2 e).on k⟩
theorem ExI.below (h : ExI x y val S V w) (k : Below w.heap.size w w') : ExI x y val S V w' := ⟨h.1, h.2.1.below k, h.2.2.below k⟩
theorem exI_zero (h1 : Blk w x.b x.t x.o) (h2 : Blk w y.b y.t y.o) : ExI x y val (fun _ => False) V w := ⟨fun _ h _ _ => h.elim, ⟨fun h => h.elim, fun _ => h1, fun h => h.elim⟩, ⟨fun h => h.elim, fun _ => h2, fun h => h.elim⟩⟩
theorem StI.lay {i : Nat} {v : Value} (h : StI x S V w) (hi : i ≠ x.s) (k : Below w.heap.size w w') : StI x (andOf S i) (upd V i v) w' :=
  ⟨fun e => .inr (h.1 (e.resolve_left fun e => hi e.symm)), fun e => (h.2.1 fun e' => e (.inr e')).on k, fun e => (h.2.2 (e.resolve_left fun e => hi e.symm)).on k⟩
theorem ExI.lay {i : Nat} {v : Value} (h : ExI x y val S V w) (hx : i ≠ x.s) (hy : i ≠ y.s) (hv : v = val i) (k : Below w.heap.size w w') : ExI x y val (andOf S i) (upd V i v) w' :=
  ⟨fun j hj h1 h2 => by
    by_cases e : j = i
    · rw [e, upd_same, hv]
    · rw [upd_ne e]; exact h.1 j (hj.resolve_left e) h1 h2, h.2.1.lay hx k, h.2.2.lay hy k⟩
theorem StI.far {i : Nat} {v : Value} {b : Nat} (h : StI x S V w) (hi : i ≠ x.s) (hb : x.b ≠ b) (k : Kept (fun c => c ≠ b) w w') : StI x (andOf S i) (upd V i v) w' :=
  ⟨fun e => .inr (h.1 (e.resolve_left fun e => hi e.symm)), fun e => k.blk hb (h.2.1 fun e' => e (.inr e')), fun e => k.blk hb (h.2.2 (e.resolve_left fun e => hi e.symm))⟩
theorem StI.set {v : Value} (hp : S x.p) (hb : Blk w' x.b x.t x.n) : StI x (andOf S x.s) (upd V x.s v) w' := ⟨fun _ => .inr hp, fun e => absurd (.inl rfl) e, fun _ => hb⟩
theorem ExI.fst {v : Value} (h : ExI x y val S V w) (hne : x.s ≠ y.s) (hp : S x.p) (hb : y.b ≠ x.b) (k : Kept (fun c => c ≠ x.b) w w') (hn : Blk w' x.b x.t x.n) : ExI x y val (andOf S x.s) (upd V x.s v) w' :=
  ⟨fun j hj h1 h2 => by rw [upd_ne h1]; exact h.1 j (hj.resolve_left h1) h1 h2, StI.set hp hn, h.2.2.far hne hb k⟩
theorem ExI.snd {v : Value} (h : ExI x y val S V w) (hne : x.s ≠ y.s) (hp : S y.p) (hb : x.b ≠ y.b) (k : Kept (fun c => c ≠ y.b) w w') (hn : Blk w' y.b y.t y.n) : ExI x y val (andOf S y.s) (upd V y.s v) w' :=
  ⟨fun j hj h1 h2 => by rw [upd_ne h2]; exact h.1 j (hj.resolve_left h2) h1 h2, h.2.1.far (Ne.symm hne) hb k, StI.set hp hn⟩
theorem ExI.old1 {i : Nat} (h : ExI x y val S V w) (hn : ¬ S i) (hi : x.p = i) : Blk w x.b x.t x.o := h.2.1.2.1 fun e => hn (hi ▸ h.2.1.1 e)
theorem ExI.old2 {i : Nat} (h : ExI x y val S V w) (hn : ¬ S i) (hi : y.p = i) : Blk w y.b y.t y.o := h.2.2.2.1 fun e => hn (hi ▸ h.2.2.1 e)
theorem ExI.be1 (h : ExI x y val S V w) (hn : ¬ S x.s) : Blk w x.b x.t x.o := h.2.1.2.1 hn
theorem ExI.be2 (h : ExI x y val S V w) (hn : ¬ S y.s) : Blk w y.b y.t y.o := h.2.2.2.1 hn
end
theorem keptD_set {D : List Nat} {w0 w w' : World} {b : Nat} (h : KeptD D w0 w) (hb : b ∈ D) (k : Kept (fun c => c ≠ b) w w') : KeptD D w0 w' := Kept.trans h (k.mono fun _ hc e => hc (e ▸ hb))
end Go.Proofs.Ytnokibdecnddlaa

/- Bodies, the program's: the speed along the ground. -/
namespace Go.Proofs.Ytnokibdecnddlaa
open Go.RowKit
attribute [local go_sem] Oper.semAt_some

/-- Two numbers of a body are set, in any order. -/
def WkI (N : Nat) (t : TypeId) (x y z sy wd ht a c : Int) (st : Bool) : InvT := fun S _ w => ∃ p q : Int, Blk w N t #[.int .i64 x, .int .i64 y, .int .i64 z, .int .i64 p, .int .i64 sy, .int .i64 q, .int .i64 wd, .int .i64 ht, .bool st] ∧ (S 10 → p = a) ∧ (S 13 → q = c)
section
variable {N : Nat} {t : TypeId} {x y z sy wd ht a c : Int} {st : Bool} {S : Nat → Prop} {V : Nat → Value} {w w' : World}
theorem wkI_zero {p q : Int} (h : Blk w N t #[.int .i64 x, .int .i64 y, .int .i64 z, .int .i64 p, .int .i64 sy, .int .i64 q, .int .i64 wd, .int .i64 ht, .bool st]) : WkI N t x y z sy wd ht a c st (fun _ => False) V w := ⟨p, q, h, fun h => h.elim, fun h => h.elim⟩
theorem WkI.below (h : WkI N t x y z sy wd ht a c st S V w) (k : Below w.heap.size w w') : WkI N t x y z sy wd ht a c st S V w' := by
  obtain ⟨p, q, h1, h2⟩ := h
  exact ⟨p, q, h1.on k, h2⟩
theorem WkI.one {p q : Int} {v : Value} (h : Blk w N t #[.int .i64 x, .int .i64 y, .int .i64 z, .int .i64 p, .int .i64 sy, .int .i64 q, .int .i64 wd, .int .i64 ht, .bool st]) (hq : S 13 → q = c) :
    WkI N t x y z sy wd ht a c st (andOf S 10) (upd V 10 v) (w.setCell ⟨N, 3, none⟩ (.int .i64 a)) := ⟨a, q, h.set_ 3 _, fun _ => rfl, fun e => hq (e.resolve_left (by decide))⟩
theorem WkI.two {p q : Int} {v : Value} (h : Blk w N t #[.int .i64 x, .int .i64 y, .int .i64 z, .int .i64 p, .int .i64 sy, .int .i64 q, .int .i64 wd, .int .i64 ht, .bool st]) (hp : S 10 → p = a) :
    WkI N t x y z sy wd ht a c st (andOf S 13) (upd V 13 v) (w.setCell ⟨N, 5, none⟩ (.int .i64 c)) := ⟨p, c, h.set_ 5 _, fun e => hp (e.resolve_left (by decide)), fun _ => rfl⟩
end
theorem kept_one {w : World} {N i : Nat} (u : Value) : Kept (fun c => c ≠ N) w (w.setCell ⟨N, i, none⟩ u) := (Kept.refl _ _).setCell (by simp) _
set_option maxRecDepth 100000 in
set_option maxHeartbeats 8000000 in
theorem bwalks_c (b : BD) (V : Value) (ix iz : Int) (j : Bool) (w : World) : Calls Try.prog 40 #[.agg (bd9 b), V, .agg #[.int .i64 ix, .int .i64 iz, .bool j]] w fun r w' => r = .returned (.agg (bd9 (walkB b ix iz))) ∧ Below w.heap.size w w' := by
  obtain ⟨x, y, z, sx, sy, sz, wd, ht, st⟩ := b
  unfold walkB
  simp only [bd9]
  have HX := Lib.hid (fun W => bwalk1_c ix W)
  have HZ := Lib.hid (fun W => bwalk1_c iz W)
  generalize walkI ix = a at HX ⊢
  generalize walkI iz = c at HZ ⊢
  obtain ⟨N, hN⟩ : ∃ N, N = w.heap.size := ⟨_, rfl⟩
  obtain ⟨W, hW⟩ : ∃ W, W = ((w.alloc (.cells #[.int .i64 x, .int .i64 y, .int .i64 z, .int .i64 sx, .int .i64 sy, .int .i64 sz, .int .i64 wd, .int .i64 ht, .bool st] 35)).alloc (.cells #[.int .i64 ix, .int .i64 iz, .bool j] 38)).alloc (.cells #[.int .i64 0, .int .i64 0, .int .i64 0, .int .i64 0, .int .i64 0, .int .i64 0, .int .i64 0, .int .i64 0, .bool false] 35) := ⟨_, rfl⟩
  have H : Below w.heap.size w W := by rw [hW]; go_grown
  have B : Blk W N 35 _ := Blk.eqw hW.symm (by rw [hN]; exact ((Blk.new' rfl).alloc _).alloc _)
  have D : Blk W (N + 1) 38 _ := Blk.eqw hW.symm (by rw [hN]; exact (Blk.new' (by simp)).alloc _)
  have R : Blk W (N + 1 + 1) 35 _ := Blk.eqw hW.symm (by rw [hN]; exact Blk.new' (by simp))
  have d0 := fun f d os => (D.sp (D := [N]) (by simp) f d os).cell 0
  have d1 := fun f d os => (D.sp (D := [N]) (by simp) f d os).cell 1
  simp only [List.getElem?_toArray, List.getElem?_cons_zero, List.getElem?_cons_succ] at d0 d1
  go_enter Try.func40, Try.ntmps40
  go_upto_region 2 with (fail)
  rw [← hW, ← hN]
  have HN := Lib.hid hN
  clear hW hN
  refine wp_inv [0, 0, 0, 0, 0, 0, 0, 0, 1, 1, 2, 1, 1, 2] [N] (WkI N 35 x y z sy wd ht a c st) (by kernel_rfl) (by kernel_rfl) (fun _ _ _ _ _ h k => h.below k) (fun _ => wkI_zero B) ?_
  repeat (first | (refine wpQs_s ?_) | (refine wpQs_q (fun K hK => ?_); go_simp; first | (refine hK _ ?_; clear hK K) | (apply Exists.intro; refine ⟨fun _ => ?_, hK _ ?_⟩; (first | ((with_reducible refine Calls.mono (HX.out _) ?_); exact fun _ _ h => h) | ((with_reducible refine Calls.mono (HZ.out _) ?_); exact fun _ _ h => h)); clear hK K)) | (refine wpQs_f (fun K hK => ?_); go_simp; refine hK _ ?_; clear hK K))
  refine wpQs_nil ?_
  repeat (refine wpLsI_skip ?_)
  refine wpLsI_one rfl ?s10 (fun v10_ => ?_)
  case s10 =>
    intro S_ V_ w_ hw_ hV_ ha_ hn_ hI_
    obtain ⟨p, q, hb, hp, hq⟩ := hI_
    have HF := Lib.hid (fun v => And.intro (keptD_set (b := N) hw_ (by simp) (kept_one (i := 3) (.int .i64 a))) (WkI.one (a := a) (c := c) (V := V_) (v := v) hb hq))
    have c3 := hb.cell 3
    have f3 := hb.frz 3
    clear hV_ ha_ hn_ hw_ hp hq hb
    go_simp
    exact HF.out _
  repeat (refine wpLsI_skip ?_)
  refine wpLsI_one rfl ?s13 (fun v13_ => ?_)
  case s13 =>
    intro S_ V_ w_ hw_ hV_ ha_ hn_ hI_
    obtain ⟨p, q, hb, hp, hq⟩ := hI_
    have HF := Lib.hid (fun v => And.intro (keptD_set (b := N) hw_ (by simp) (kept_one (i := 5) (.int .i64 c))) (WkI.two (a := a) (c := c) (V := V_) (v := v) hb hp))
    have c3 := hb.cell 5
    have f3 := hb.frz 5
    clear hV_ ha_ hn_ hw_ hp hq hb
    go_simp
    exact HF.out _
  refine wpLsI_nil fun V_ w2 hw_ hV_ hI_ => ?_
  obtain ⟨p, q, B2, hp, hq⟩ := hI_
  obtain rfl := hp ⟨show (10 : Nat) < 14 by decide, rfl⟩
  obtain rfl := hq ⟨show (13 : Nat) < 14 by decide, rfl⟩
  have R2 := hw_.blk (by simp; omega) R
  have H2 := H.trans (hw_.below (n := w.heap.size) H.size (fun b hb h => by have := HN.out; simp at h; omega))
  clear hV_ hw_ d0 d1 R H B D hp hq HX HZ
  simp only [tails]
  obtain ⟨⟨b0, b1, b2, b3, b4, b5, b6, b7, b8⟩, -⟩ := B2.c9
  obtain ⟨⟨r0, r1, r2, r3, r4, r5, r6, r7, r8⟩, f0, f1, f2, f3, f4, f5, f6, f7, f8⟩ := R2.c9
  have hNw : w.heap.size ≤ N + 1 + 1 := by have := HN.out; omega
  go_wp2_with fail
  have R2_ := R2.st9 (.int .i64 (x)) (.int .i64 (y)) (.int .i64 (z)) (.int .i64 (p)) (.int .i64 (sy)) (.int .i64 (q)) (.int .i64 (wd)) (.int .i64 (ht)) (.bool (st))
  obtain ⟨⟨d0, d1, d2, d3, d4, d5, d6, d7, d8⟩, -⟩ := R2_.c9
  exact bodyPost_ret (v := .agg #[.int .i64 (x), .int .i64 (y), .int .i64 (z), .int .i64 (p), .int .i64 (sy), .int .i64 (q), .int .i64 (wd), .int .i64 (ht), .bool (st)]) (by simp [results, Try.results40, go_sem, d0, d1, d2, d3, d4, d5, d6, d7, d8]) rfl ⟨rfl, sx9_below H2 hNw _ _ _ _ _ _ _ _ _⟩
end Go.Proofs.Ytnokibdecnddlaa

/- Bodies, the program's: the speed up and down. -/
namespace Go.Proofs.Ytnokibdecnddlaa
open Go.RowKit Go.Shelf
attribute [local go_sem] Oper.semAt_some

set_option maxRecDepth 100000 in
set_option maxHeartbeats 8000000 in
theorem brise1_c (jump less least x y z sx sy sz wd ht ix iz : Int) (st j : Bool) (N M g : Nat) (h1 : 0 ≤ less ∧ less ≤ 10000) (h2 : 0 ≤ least ∧ least ≤ 300000) (h3 : -300000 ≤ sy ∧ sy ≤ 300000) (w : World)
    (B : Blk w N 35 #[.int .i64 x, .int .i64 y, .int .i64 z, .int .i64 sx, .int .i64 sy, .int .i64 sz, .int .i64 wd, .int .i64 ht, .bool st]) (D : Blk w M 38 #[.int .i64 ix, .int .i64 iz, .bool j]) (P : Blk w g 93 #[.pointer (some ⟨N, 4, none⟩)]) (hMN : M ≠ N) (hgN : g ≠ N) :
    Calls Try.prog 74 #[.int .i64 jump, .int .i64 less, .int .i64 least, .pointer (some ⟨g, 0, none⟩), .pointer (some ⟨M, 0, none⟩)] w fun r w' => r = .returned (.tuple #[]) ∧ Kept (fun b => b ≠ N) w w' ∧
      Blk w' N 35 #[.int .i64 x, .int .i64 y, .int .i64 z, .int .i64 sx, .int .i64 (if j = true then jump else mxI (sy - less) (-least)), .int .i64 sz, .int .i64 wd, .int .i64 ht, .bool st] := by
  have hmx := @run_mx Try.prog
  have e1 : IntKind.i64.wrap (sy - less) = sy - less := IntWalk.i64_in _ (by omega)
  have e2 : IntKind.i64.wrap (-least) = -least := IntWalk.i64_in _ (by omega)
  have HB := Lib.hid B
  have HD := Lib.hid D
  have HP := Lib.hid P
  have HX := Lib.hid (And.intro hMN hgN)
  clear B D P hMN hgN h1 h2 h3
  have p0 := fun d os => (HP.out.re d os).cell 0
  have b4 := fun d os => (HB.out.re d os).cell 4
  simp only [List.getElem?_toArray, List.getElem?_cons_zero, List.getElem?_cons_succ] at p0 b4
  go_enter Try.func74, Try.ntmps74
  go_upto_region 0 with (fail)
  refine wp_region_last_below 10 (by kernel_rfl) rfl (by kernel_rfl) ?_
  simp only [List.take_succ_cons, List.take_zero, List.drop_succ_cons, List.drop_zero]
  repeat (go_big_quiet_step (fail))
  refine wpQuiet_nil ?_
  intro w' hw'
  obtain ⟨rg, rfl⟩ := hw'
  clear p0 b4 hmx
  obtain ⟨W1, hW1⟩ : ∃ W1, W1 = Go.Sort.grow (redrawn w rg.d) rg.os := ⟨_, rfl⟩
  have hb1 : Below w.heap.size w W1 := by rw [hW1]; exact below_regrown _ _ _
  rw [← hW1]
  clear hW1
  have b4 := (HB.out.on hb1).cell 4
  have f4 := (HB.out.on hb1).frz 4
  simp only [List.getElem?_toArray, List.getElem?_cons_zero, List.getElem?_cons_succ] at b4
  go_upto_region 1 with (fail)
  generalize hV : World.setCell W1 _ _ = W2
  have B2 : Blk W2 N 35 #[.int .i64 x, .int .i64 y, .int .i64 z, .int .i64 sx, .int .i64 (mxI (sy - less) (-least)), .int .i64 sz, .int .i64 wd, .int .i64 ht, .bool st] := Blk.eqw hV ((HB.out.on hb1).set_ 4 _)
  have K2 : Kept (fun b => b ≠ N) w W2 := by rw [← hV]; exact ((Kept.of_below hb1).mono fun _ _ => trivial).setCell (by simp) _
  have d2 := (K2.blk HX.out.1 HD.out).cell 2
  have p0 := (K2.blk HX.out.2 HP.out).cell 0
  have b4 := B2.cell 4
  have f4 := B2.frz 4
  simp only [List.getElem?_toArray, List.getElem?_cons_zero, List.getElem?_cons_succ] at d2 p0 b4
  have HB2 := Lib.hid B2
  have HK2 := Lib.hid K2
  clear hV B2 K2 hb1
  cases j
  · go_wp2_with fail
    go_returns
    exact ⟨rfl, HK2.out, HB2.out⟩
  · go_wp2_with fail
    go_returns
    exact ⟨rfl, HK2.out.setCell (by simp) _, HB2.out.set_ 4 _⟩
set_option maxRecDepth 100000 in
set_option maxHeartbeats 8000000 in
theorem brises_c (V : FuncId) (lv : Array Value) (val : Cl → Int) (b : BD) (ix iz : Int) (j : Bool) (M : Int) (hM : M ≤ 71000000000000) (hM0 : 0 ≤ M) (hB : BOk M b) (w : World)
    (eV : ∀ args w, (callFunc V args).run Try.prog w = .ok (.enter V args) w) (hV : Tells Try.prog V lv val w) :
    Calls Try.prog 41 #[.agg (bd9 b), .func (.func V) #[] lv, .agg #[.int .i64 ix, .int .i64 iz, .bool j]] w fun r w' => r = .returned (.agg (bd9 (riseB val b j))) ∧ Below w.heap.size w w' := by
  obtain ⟨hS, -⟩ := hB.box hM
  have hbox := hS.box (by omega) (by omega)
  have hund := hS.under (by omega) (by omega)
  have hbd := hS.bd
  have hsy := hB.sy
  have CB := fun W => bbox_c b (by have := hB.wd; omega) W
  have CC := fun W (h : Below w.heap.size w W) => pmClimbs_c V lv val (boxB b).1 (boxB b).2.1 (boxB b).2.2.1 (boxB b).2.2.2.1 (boxB b).2.2.2.2.1 (boxB b).2.2.2.2.2 hbox.1 W eV (hV.on h)
  have CW := fun W (h : Below w.heap.size w W) => pmWet_c V lv val (boxB b).1 (boxB b).2.1 (boxB b).2.2.1 (boxB b).2.2.2.1 (boxB b).2.2.2.2.1 (boxB b).2.2.2.2.2 hbox.1 W eV (hV.on h)
  have CS := fun W (h : Below w.heap.size w W) => pmStands_c V lv val (boxB b).1 (boxB b).2.1 (boxB b).2.2.1 (boxB b).2.2.2.1 (boxB b).2.2.2.2.1 (boxB b).2.2.2.2.2 (by omega) (by omega) hund.1 W eV (hV.on h)
  clear hS hbox hund hbd hV eV hM hM0 hB
  unfold riseB
  have fC : anyB val cliB (boxB b) = (cellsI (boxB b).1 (boxB b).2.1 (boxB b).2.2.1 (boxB b).2.2.2.1 (boxB b).2.2.2.2.1 (boxB b).2.2.2.2.2).any fun c => cliB (val c) := by unfold anyB; rfl
  have fW : anyB val wetB (boxB b) = (cellsI (boxB b).1 (boxB b).2.1 (boxB b).2.2.1 (boxB b).2.2.2.1 (boxB b).2.2.2.2.1 (boxB b).2.2.2.2.2).any fun c => wetB (val c) := by unfold anyB; rfl
  have fS : unB val (boxB b) = (cellsI (boxB b).1 (cutI ((boxB b).2.1 - 1)) (boxB b).2.2.1 (boxB b).2.2.2.1 (boxB b).2.1 (boxB b).2.2.2.2.2).any fun c => solB (val c) := by unfold unB; rfl
  rw [← fC] at CC
  rw [← fW] at CW
  rw [← fS] at CS
  clear fC fW fS
  generalize anyB val cliB (boxB b) = pc at CC ⊢
  generalize anyB val wetB (boxB b) = pw at CW ⊢
  generalize unB val (boxB b) = ps at CS ⊢
  generalize boxB b = bx at CB CC CW CS
  obtain ⟨x, y, z, sx, sy, sz, wd, ht, st⟩ := b
  obtain ⟨y1, y2, y3, y4, y5, y6⟩ := bx
  simp only [bd9, ag6] at *
  have HCB := Lib.hid CB
  have HCC := Lib.hid CC
  have HCW := Lib.hid CW
  have HCS := Lib.hid CS
  clear CB CC CW CS
  obtain ⟨N, hN⟩ : ∃ N, N = w.heap.size := ⟨_, rfl⟩
  obtain ⟨W, hW⟩ : ∃ W, W = ((w.alloc (.cells #[.int .i64 x, .int .i64 y, .int .i64 z, .int .i64 sx, .int .i64 sy, .int .i64 sz, .int .i64 wd, .int .i64 ht, .bool st] 35)).alloc (.cells #[.int .i64 ix, .int .i64 iz, .bool j] 38)).alloc (.cells #[.int .i64 0, .int .i64 0, .int .i64 0, .int .i64 0, .int .i64 0, .int .i64 0, .int .i64 0, .int .i64 0, .bool false] 35) := ⟨_, rfl⟩
  have H : Below w.heap.size w W := by rw [hW]; go_grown
  have B : Blk W N 35 _ := Blk.eqw hW.symm (by rw [hN]; exact ((Blk.new' rfl).alloc _).alloc _)
  have D : Blk W (N + 1) 38 _ := Blk.eqw hW.symm (by rw [hN]; exact (Blk.new' (by simp)).alloc _)
  have R : Blk W (N + 1 + 1) 35 _ := Blk.eqw hW.symm (by rw [hN]; exact Blk.new' (by simp))
  go_enter Try.func41, Try.ntmps41
  go_upto_region 1 with (fail)
  rw [← hW, ← hN]
  have HN := Lib.hid hN
  clear hW hN
  obtain ⟨⟨b0, b1, b2, b3, b4, b5, b6, b7, b8⟩, -⟩ := B.c9
  go_upto_region 2 with (go_at_call 23; refine (HCB.out _).mono ?_; rintro e_ w1 ⟨rfl, k1⟩)
  generalize hV : World.alloc (World.alloc w1 _) _ = W1
  have X : Blk W1 w1.heap.size 48 #[.int .i64 y1, .int .i64 y2, .int .i64 y3, .int .i64 y4, .int .i64 y5, .int .i64 y6] := Blk.eqw hV ((Blk.new' rfl).alloc _)
  have P : Blk W1 (w1.heap.size + 1) 93 #[.pointer (some ⟨N, 4, none⟩)] := Blk.eqw hV (Blk.new' (by simp))
  have hk : Below W.heap.size W W1 := by rw [← hV]; exact after k1 (((Below.refl _ _).alloc (Nat.le_refl _) _).alloc (by simp) _)
  have hgN := Nat.lt_of_lt_of_le R.lt k1.size
  replace B := B.on hk
  replace D := D.on hk
  replace R := R.on hk
  replace H := after H hk
  clear hV k1 hk b0 b1 b2 b3 b4 b5 b6 b7 b8 HCB
  generalize w1.heap.size = g at X P hgN ⊢
  have hn1 : N + 1 ≠ N := by omega
  have hn2 : N + 1 + 1 ≠ N := by omega
  have hn3 : g ≠ N := by omega
  have hn5 : g ≠ N + 1 := by omega
  have hn6 : g + 1 ≠ N + 1 := by omega
  have hn4 : g + 1 ≠ N := by omega
  have hNw : w.heap.size ≤ N + 1 + 1 := by have := HN.out; omega
  obtain ⟨hs1, hs2⟩ := hsy
  have HSY := Lib.hid (show -300000 ≤ sy ∧ sy ≤ 300000 by omega)
  clear hs1 hs2 hgN
  obtain ⟨⟨x0, x1, x2, x3, x4, x5⟩, -⟩ := X.c6
  cases pc
  · cases pw
    · go_upto_region 3 with first
        | (go_at_call 75; refine (HCC.out _ H).mono ?_; rintro e_ w2 ⟨rfl, k2⟩; replace B := B.on k2; replace D := D.on k2; replace R := R.on k2; replace X := X.on k2; replace P := P.on k2; replace H := after H k2; obtain ⟨⟨x0, x1, x2, x3, x4, x5⟩, -⟩ := X.c6; clear k2)
        | (go_at_call 76; refine (HCW.out _ H).mono ?_; rintro e_ w3 ⟨rfl, k3⟩; replace B := B.on k3; replace D := D.on k3; replace R := R.on k3; replace X := X.on k3; replace P := P.on k3; replace H := after H k3; obtain ⟨⟨x0, x1, x2, x3, x4, x5⟩, -⟩ := X.c6; clear k3)
      have d2 := D.cell 2
      have f2 := D.frz 2
      simp only [List.getElem?_toArray, List.getElem?_cons_zero, List.getElem?_cons_succ] at d2
      cases j
      · go_upto_region 4 with (go_at_call 77; refine (HCS.out _ H).mono ?_; rintro e_ w4 ⟨rfl, k4⟩; replace B := B.on k4; replace D := D.on k4; replace R := R.on k4; replace X := X.on k4; replace P := P.on k4; replace H := after H k4; have f2 := D.frz 2; have d2 := D.cell 2; clear k4)
        generalize hV : World.setCell _ _ _ = W5
        replace B := Blk.eqw hV (B.far (p := ⟨N + 1, 2, none⟩) (by dsimp only; omega) _)
        replace R := Blk.eqw hV (R.far (p := ⟨N + 1, 2, none⟩) (by dsimp only; omega) _)
        replace P := Blk.eqw hV (P.far (p := ⟨N + 1, 2, none⟩) (by dsimp only; omega) _)
        replace D : Blk W5 (N + 1) 38 #[.int .i64 ix, .int .i64 iz, .bool false] := Blk.eqw hV (D.set_ 2 _)
        replace H : Below w.heap.size w W5 := by rw [← hV]; exact H.setCell (p := ⟨N + 1, 2, none⟩) (by have := HN.out; dsimp only; omega) _
        clear hV d2 f2
        have hcl := brise1_c 28672 4096 262144 x y z sx sy sz wd ht ix iz st false N (N + 1) (g + 1) ⟨by decide, by decide⟩ ⟨by decide, by decide⟩ HSY.out _ B D P hn1 hn4
        have HCL := Lib.hid hcl
        clear hcl x0 x1 x2 x3 x4 x5 HCC HCW HCS
        go_upto_region 9 with (go_at_call 74; refine HCL.out.mono ?_; rintro e_ w6 ⟨rfl, k6, B6⟩; have HK5 := Lib.hid k6; have HB5 := Lib.hid (show Blk w6 N 35 #[.int .i64 x, .int .i64 y, .int .i64 z, .int .i64 sx, .int .i64 (riseI false false ps false sy), .int .i64 sz, .int .i64 wd, .int .i64 ht, .bool st] from B6); clear k6 B6)
        clear HCL
        have K5 := HK5.out
        replace H := H.trans (K5.below (n := w.heap.size) H.size (fun b hb e => by have := HN.out; omega))
        obtain ⟨⟨b0, b1, b2, b3, b4, b5, b6, b7, b8⟩, -⟩ := HB5.out.c9
        have R5 := K5.blk hn2 R
        obtain ⟨⟨r0, r1, r2, r3, r4, r5, r6, r7, r8⟩, f0, f1, f2, f3, f4, f5, f6, f7, f8⟩ := R5.c9
        clear HK5 K5 B D X P HB5 R
        go_wp2_with fail
        have R2_ := R5.st9 (.int .i64 (x)) (.int .i64 (y)) (.int .i64 (z)) (.int .i64 (sx)) (.int .i64 (riseI false false ps false sy)) (.int .i64 (sz)) (.int .i64 (wd)) (.int .i64 (ht)) (.bool (st))
        obtain ⟨⟨d0, d1, d2, d3, d4, d5, d6, d7, d8⟩, -⟩ := R2_.c9
        exact bodyPost_ret (v := .agg #[.int .i64 (x), .int .i64 (y), .int .i64 (z), .int .i64 (sx), .int .i64 (riseI false false ps false sy), .int .i64 (sz), .int .i64 (wd), .int .i64 (ht), .bool (st)]) (by simp [results, Try.results41, go_sem, d0, d1, d2, d3, d4, d5, d6, d7, d8]) rfl ⟨rfl, sx9_below H hNw _ _ _ _ _ _ _ _ _⟩
      · go_upto_region 4 with (go_at_call 77; refine (HCS.out _ H).mono ?_; rintro e_ w4 ⟨rfl, k4⟩; replace B := B.on k4; replace D := D.on k4; replace R := R.on k4; replace X := X.on k4; replace P := P.on k4; replace H := after H k4; have f2 := D.frz 2; have d2 := D.cell 2; clear k4)
        generalize hV : World.setCell _ _ _ = W5
        replace B := Blk.eqw hV (B.far (p := ⟨N + 1, 2, none⟩) (by dsimp only; omega) _)
        replace R := Blk.eqw hV (R.far (p := ⟨N + 1, 2, none⟩) (by dsimp only; omega) _)
        replace P := Blk.eqw hV (P.far (p := ⟨N + 1, 2, none⟩) (by dsimp only; omega) _)
        replace D : Blk W5 (N + 1) 38 #[.int .i64 ix, .int .i64 iz, .bool ps] := Blk.eqw hV (D.set_ 2 _)
        replace H : Below w.heap.size w W5 := by rw [← hV]; exact H.setCell (p := ⟨N + 1, 2, none⟩) (by have := HN.out; dsimp only; omega) _
        clear hV d2 f2
        have hcl := brise1_c 28672 4096 262144 x y z sx sy sz wd ht ix iz st ps N (N + 1) (g + 1) ⟨by decide, by decide⟩ ⟨by decide, by decide⟩ HSY.out _ B D P hn1 hn4
        have HCL := Lib.hid hcl
        clear hcl x0 x1 x2 x3 x4 x5 HCC HCW HCS
        go_upto_region 9 with (go_at_call 74; refine HCL.out.mono ?_; rintro e_ w6 ⟨rfl, k6, B6⟩; have HK5 := Lib.hid k6; have HB5 := Lib.hid (show Blk w6 N 35 #[.int .i64 x, .int .i64 y, .int .i64 z, .int .i64 sx, .int .i64 (riseI false false ps true sy), .int .i64 sz, .int .i64 wd, .int .i64 ht, .bool st] from B6); clear k6 B6)
        clear HCL
        have K5 := HK5.out
        replace H := H.trans (K5.below (n := w.heap.size) H.size (fun b hb e => by have := HN.out; omega))
        obtain ⟨⟨b0, b1, b2, b3, b4, b5, b6, b7, b8⟩, -⟩ := HB5.out.c9
        have R5 := K5.blk hn2 R
        obtain ⟨⟨r0, r1, r2, r3, r4, r5, r6, r7, r8⟩, f0, f1, f2, f3, f4, f5, f6, f7, f8⟩ := R5.c9
        clear HK5 K5 B D X P HB5 R
        go_wp2_with fail
        have R2_ := R5.st9 (.int .i64 (x)) (.int .i64 (y)) (.int .i64 (z)) (.int .i64 (sx)) (.int .i64 (riseI false false ps true sy)) (.int .i64 (sz)) (.int .i64 (wd)) (.int .i64 (ht)) (.bool (st))
        obtain ⟨⟨d0, d1, d2, d3, d4, d5, d6, d7, d8⟩, -⟩ := R2_.c9
        exact bodyPost_ret (v := .agg #[.int .i64 (x), .int .i64 (y), .int .i64 (z), .int .i64 (sx), .int .i64 (riseI false false ps true sy), .int .i64 (sz), .int .i64 (wd), .int .i64 (ht), .bool (st)]) (by simp [results, Try.results41, go_sem, d0, d1, d2, d3, d4, d5, d6, d7, d8]) rfl ⟨rfl, sx9_below H hNw _ _ _ _ _ _ _ _ _⟩
    · go_upto_region 8 with first
        | (go_at_call 75; refine (HCC.out _ H).mono ?_; rintro e_ w2 ⟨rfl, k2⟩; replace B := B.on k2; replace D := D.on k2; replace R := R.on k2; replace X := X.on k2; replace P := P.on k2; replace H := after H k2; obtain ⟨⟨x0, x1, x2, x3, x4, x5⟩, -⟩ := X.c6; clear k2)
        | (go_at_call 76; refine (HCW.out _ H).mono ?_; rintro e_ w3 ⟨rfl, k3⟩; replace B := B.on k3; replace D := D.on k3; replace R := R.on k3; replace X := X.on k3; replace P := P.on k3; replace H := after H k3; obtain ⟨⟨x0, x1, x2, x3, x4, x5⟩, -⟩ := X.c6; clear k3)
      have hcl := brise1_c 6144 1024 8192 x y z sx sy sz wd ht ix iz st j N (N + 1) (g + 1) ⟨by decide, by decide⟩ ⟨by decide, by decide⟩ HSY.out _ B D P hn1 hn4
      have HCL := Lib.hid hcl
      clear hcl x0 x1 x2 x3 x4 x5 HCC HCW HCS
      go_upto_region 9 with (go_at_call 74; refine HCL.out.mono ?_; rintro e_ w6 ⟨rfl, k6, B6⟩; have HK5 := Lib.hid k6; have HB5 := Lib.hid (show Blk w6 N 35 #[.int .i64 x, .int .i64 y, .int .i64 z, .int .i64 sx, .int .i64 (riseI false true ps j sy), .int .i64 sz, .int .i64 wd, .int .i64 ht, .bool st] from B6); clear k6 B6)
      clear HCL
      have K5 := HK5.out
      replace H := H.trans (K5.below (n := w.heap.size) H.size (fun b hb e => by have := HN.out; omega))
      obtain ⟨⟨b0, b1, b2, b3, b4, b5, b6, b7, b8⟩, -⟩ := HB5.out.c9
      have R5 := K5.blk hn2 R
      obtain ⟨⟨r0, r1, r2, r3, r4, r5, r6, r7, r8⟩, f0, f1, f2, f3, f4, f5, f6, f7, f8⟩ := R5.c9
      clear HK5 K5 B D X P HB5 R
      go_wp2_with fail
      have R2_ := R5.st9 (.int .i64 (x)) (.int .i64 (y)) (.int .i64 (z)) (.int .i64 (sx)) (.int .i64 (riseI false true ps j sy)) (.int .i64 (sz)) (.int .i64 (wd)) (.int .i64 (ht)) (.bool (st))
      obtain ⟨⟨d0, d1, d2, d3, d4, d5, d6, d7, d8⟩, -⟩ := R2_.c9
      exact bodyPost_ret (v := .agg #[.int .i64 (x), .int .i64 (y), .int .i64 (z), .int .i64 (sx), .int .i64 (riseI false true ps j sy), .int .i64 (sz), .int .i64 (wd), .int .i64 (ht), .bool (st)]) (by simp [results, Try.results41, go_sem, d0, d1, d2, d3, d4, d5, d6, d7, d8]) rfl ⟨rfl, sx9_below H hNw _ _ _ _ _ _ _ _ _⟩
  · go_upto_region 6 with (go_at_call 75; refine (HCC.out _ H).mono ?_; rintro e_ w2 ⟨rfl, k2⟩; replace B := B.on k2; replace D := D.on k2; replace R := R.on k2; replace X := X.on k2; replace P := P.on k2; replace H := after H k2; obtain ⟨⟨x0, x1, x2, x3, x4, x5⟩, -⟩ := X.c6; clear k2)
    have hcl := brise1_c 8192 4096 8192 x y z sx sy sz wd ht ix iz st j N (N + 1) (g + 1) ⟨by decide, by decide⟩ ⟨by decide, by decide⟩ HSY.out _ B D P hn1 hn4
    have HCL := Lib.hid hcl
    clear hcl x0 x1 x2 x3 x4 x5 HCC HCW HCS
    go_upto_region 9 with (go_at_call 74; refine HCL.out.mono ?_; rintro e_ w6 ⟨rfl, k6, B6⟩; have HK5 := Lib.hid k6; have HB5 := Lib.hid (show Blk w6 N 35 #[.int .i64 x, .int .i64 y, .int .i64 z, .int .i64 sx, .int .i64 (riseI true pw ps j sy), .int .i64 sz, .int .i64 wd, .int .i64 ht, .bool st] from B6); clear k6 B6)
    clear HCL
    have K5 := HK5.out
    replace H := H.trans (K5.below (n := w.heap.size) H.size (fun b hb e => by have := HN.out; omega))
    obtain ⟨⟨b0, b1, b2, b3, b4, b5, b6, b7, b8⟩, -⟩ := HB5.out.c9
    have R5 := K5.blk hn2 R
    obtain ⟨⟨r0, r1, r2, r3, r4, r5, r6, r7, r8⟩, f0, f1, f2, f3, f4, f5, f6, f7, f8⟩ := R5.c9
    clear HK5 K5 B D X P HB5 R
    go_wp2_with fail
    have R2_ := R5.st9 (.int .i64 (x)) (.int .i64 (y)) (.int .i64 (z)) (.int .i64 (sx)) (.int .i64 (riseI true pw ps j sy)) (.int .i64 (sz)) (.int .i64 (wd)) (.int .i64 (ht)) (.bool (st))
    obtain ⟨⟨d0, d1, d2, d3, d4, d5, d6, d7, d8⟩, -⟩ := R2_.c9
    exact bodyPost_ret (v := .agg #[.int .i64 (x), .int .i64 (y), .int .i64 (z), .int .i64 (sx), .int .i64 (riseI true pw ps j sy), .int .i64 (sz), .int .i64 (wd), .int .i64 (ht), .bool (st)]) (by simp [results, Try.results41, go_sem, d0, d1, d2, d3, d4, d5, d6, d7, d8]) rfl ⟨rfl, sx9_below H hNw _ _ _ _ _ _ _ _ _⟩
end Go.Proofs.Ytnokibdecnddlaa

/- Regions that lay new variables and store into them, in any order: an invariant. No program in sight. -/
namespace Go.Proofs.Ytnokibdecnddlaa
open Go.RowKit

/-- A new variable: the numbers of its allocation and its store, its type, its cells ahead of that and behind. -/
structure BoxCfg where
  a : Nat
  s : Nat
  t : TypeId
  z : Array Value
  c : Array Value
/-- Only blocks from n on of these types are turned. -/
structure StepTs (n : Nat) (ts : List TypeId) (w w' : World) : Prop where
  size : w.heap.size ≤ w'.heap.size
  keep : ∀ b, b < w.heap.size → (b < n ∨ ∀ t ∈ ts, ∀ cs, ¬ Blk w b t cs) → w'.heap[b]? = w.heap[b]?
section
variable {n N : Nat} {ts : List TypeId} {w w' : World} {B : List BoxCfg} {U : Nat → Rel} {S : Nat → Prop} {V : Nat → Value}
theorem StepTs.of_below (h : Below w.heap.size w w') : StepTs n ts w w' := ⟨h.size, fun b hb _ => h.block b hb⟩
theorem StepTs.blk {b : Nat} {t' : TypeId} {cs : Array Value} (h : StepTs n ts w w') (hb : Blk w b t' cs) (hne : t' ∉ ts) : Blk w' b t' cs :=
  (h.keep b hb.lt (.inr fun t ht ds hd => hne (by
    unfold Blk at hb hd
    rw [hb] at hd
    injection hd with hd; injection hd with h1 h2; exact h2 ▸ ht))).trans hb
theorem StepTs.old {b : Nat} {t' : TypeId} {cs : Array Value} (h : StepTs n ts w w') (hb : Blk w b t' cs) (hn : b < n) : Blk w' b t' cs := (h.keep b hb.lt (.inl hn)).trans hb
def BoxI (N : Nat) (x : BoxCfg) : InvT := fun S V w => (S x.s → S x.a) ∧ (S x.a → ∃ b, V x.a = .pointer (some ⟨b, 0, none⟩) ∧ N ≤ b ∧ (¬ S x.s → Blk w b x.t x.z) ∧ (S x.s → Blk w b x.t x.c))
def ManyI (N : Nat) (B : List BoxCfg) (U : Nat → Rel) : InvT := fun S V w =>
  (∀ i, S i → U i (V i) w) ∧ (∀ x ∈ B, BoxI N x S V w) ∧ (∀ x ∈ B, ∀ y ∈ B, x.a ≠ y.a → S x.a → S y.a → V x.a ≠ V y.a)
def OkB (B : List BoxCfg) : Prop := B.Pairwise (fun x y => x.a ≠ y.a ∧ x.s ≠ y.s ∧ x.a ≠ y.s ∧ x.s ≠ y.a) ∧ ∀ x ∈ B, x.a ≠ x.s
theorem pw_mem {α : Type} {R : α → α → Prop} : ∀ {l : List α}, l.Pairwise R → ∀ x ∈ l, ∀ y ∈ l, x = y ∨ R x y ∨ R y x := by
  intro l
  induction l with
  | nil => intro _ x hx; cases hx
  | cons a l ih =>
    intro h x hx y hy
    rw [List.pairwise_cons] at h
    rcases List.mem_cons.1 hx with e | hx' <;> rcases List.mem_cons.1 hy with e' | hy'
    · exact .inl (e.trans e'.symm)
    · exact .inr (.inl (e ▸ h.1 y hy'))
    · exact .inr (.inr (e' ▸ h.1 x hx'))
    · exact ih h.2 x hx' y hy'
theorem OkB.of (h : OkB B) {x y : BoxCfg} (hx : x ∈ B) (hy : y ∈ B) : x = y ∨ (x.a ≠ y.a ∧ x.s ≠ y.s ∧ x.a ≠ y.s ∧ x.s ≠ y.a) := by
  rcases pw_mem h.1 x hx y hy with e | e | e
  · exact .inl e
  · exact .inr e
  · exact .inr ⟨e.1.symm, e.2.1.symm, e.2.2.2.symm, e.2.2.1.symm⟩
/-- What the relations of the other operations must bear. -/
def Bears (N : Nat) (B : List BoxCfg) (U : Nat → Rel) : Prop := ∀ i v w w', U i v w → StepTs N (B.map (·.t)) w w' → U i v w'
theorem manyI_zero : ManyI N B U (fun _ => False) V w := ⟨fun _ h => h.elim, fun _ _ => ⟨fun h => h.elim, fun h => h.elim⟩, fun _ _ _ _ _ h => h.elim⟩
theorem ManyI.below (hU : Bears N B U) (h : ManyI N B U S V w) (hb : Below w.heap.size w w') : ManyI N B U S V w' :=
  ⟨fun i hi => hU i _ _ _ (h.1 i hi) (StepTs.of_below hb), fun x hx => ⟨(h.2.1 x hx).1, fun ha => by
    obtain ⟨b, h1, h2, h3, h4⟩ := (h.2.1 x hx).2 ha
    exact ⟨b, h1, h2, fun hs => (h3 hs).on hb, fun hs => (h4 hs).on hb⟩⟩, h.2.2⟩
/-- An operation that lays no such variable. -/
theorem ManyI.l {i : Nat} {v : Value} (hi : ∀ x ∈ B, x.a ≠ i ∧ x.s ≠ i) (hU : Bears N B U) (h : ManyI N B U S V w) (hb : Below w.heap.size w w') (hu : U i v w') : ManyI N B U (andOf S i) (upd V i v) w' := by
  have h := h.below hU hb
  refine ⟨fun j hj => ?_, fun x hx => ⟨fun hs => ?_, fun ha => ?_⟩, fun x hx y hy hne h1 h2 => ?_⟩
  · by_cases e : j = i
    · subst e; rw [upd_same]; exact hu
    · rw [upd_ne e]; exact h.1 j (hj.resolve_left e)
  · exact .inr ((h.2.1 x hx).1 (hs.resolve_left (hi x hx).2))
  · obtain ⟨b, h1, h2, h3, h4⟩ := (h.2.1 x hx).2 (ha.resolve_left (hi x hx).1)
    rw [upd_ne (hi x hx).1]
    exact ⟨b, h1, h2, fun hs => h3 fun k => hs (.inr k), fun hs => h4 (hs.resolve_left (hi x hx).2)⟩
  · rw [upd_ne (hi x hx).1, upd_ne (hi y hy).1]
    exact h.2.2 x hx y hy hne (h1.resolve_left (hi x hx).1) (h2.resolve_left (hi y hy).1)
/-- A variable is laid. -/
theorem ManyI.new {x : BoxCfg} (hx : x ∈ B) (hB : OkB B) (hU : Bears N B U) (hT : ∀ v w, U x.a v w) (hN : N ≤ w.heap.size) (hn : ¬ S x.a) (h : ManyI N B U S V w) : ManyI N B U (andOf S x.a) (upd V x.a (.pointer (some ⟨w.heap.size, 0, none⟩))) (w.alloc (.cells x.z x.t)) := by
  have hb : Below w.heap.size w (w.alloc (.cells x.z x.t)) := (Below.refl _ _).alloc (Nat.le_refl _) _
  have hs0 : ¬ S x.s := fun hs => hn ((h.2.1 x hx).1 hs)
  have hlt : ∀ y ∈ B, S y.a → V y.a ≠ .pointer (some ⟨w.heap.size, 0, none⟩) := fun y hy ha e => by
    obtain ⟨b, h1, h2, h3, h4⟩ := (h.2.1 y hy).2 ha
    have : b < w.heap.size := by
      by_cases hs : S y.s
      · exact (h4 hs).lt
      · exact (h3 hs).lt
    rw [h1] at e
    injection e with e; injection e with e; injection e with e
    omega
  have k := h.below hU hb
  refine ⟨fun j hj => ?_, fun y hy => ?_, fun y hy z hz hne h1 h2 => ?_⟩
  · by_cases e : j = x.a
    · subst e; exact hT _ _
    · rw [upd_ne e]; exact k.1 j (hj.resolve_left e)
  · rcases hB.of hy hx with rfl | ⟨e1, e2, e3, e4⟩
    · have hne := hB.2 y hy
      refine ⟨fun _ => .inl rfl, fun _ => ⟨w.heap.size, upd_same _ _ _, hN, fun _ => Blk.new w _ _, fun hs => absurd (hs.resolve_left hne.symm) hs0⟩⟩
    · refine ⟨fun hs => .inr ((k.2.1 y hy).1 (hs.resolve_left e4)), fun ha => ?_⟩
      obtain ⟨b, h1, h2, h3, h4⟩ := (k.2.1 y hy).2 (ha.resolve_left e1)
      rw [upd_ne e1]
      exact ⟨b, h1, h2, fun hs => h3 fun k => hs (.inr k), fun hs => h4 (hs.resolve_left e4)⟩
  · by_cases e1 : y.a = x.a
    · have e2 : z.a ≠ x.a := fun e => hne (e1.trans e.symm)
      rw [e1, upd_same, upd_ne e2]
      exact fun e => hlt z hz (h2.resolve_left e2) e.symm
    · by_cases e2 : z.a = x.a
      · rw [e2, upd_same, upd_ne e1]
        exact hlt y hy (h1.resolve_left e1)
      · rw [upd_ne e1, upd_ne e2]
        exact k.2.2 y hy z hz hne (h1.resolve_left e1) (h2.resolve_left e2)
/-- A variable is set. -/
theorem ManyI.set {x : BoxCfg} {b : Nat} {v : Value} (hx : x ∈ B) (hB : OkB B) (hU : Bears N B U) (hT : ∀ v w, U x.s v w) (hn : ¬ S x.s) (h : ManyI N B U S V w) (ha : S x.a) (hv : V x.a = .pointer (some ⟨b, 0, none⟩)) (hk : Kept (fun c => c ≠ b) w w') (hb : Blk w' b x.t x.c) : ManyI N B U (andOf S x.s) (upd V x.s v) w' := by
  have hne := hB.2 x hx
  obtain ⟨b', h1, h2, h3, h4⟩ := (h.2.1 x hx).2 ha
  obtain rfl : b = b' := by rw [hv] at h1; injection h1 with e; injection e with e; injection e
  have hz := h3 hn
  have hst : StepTs N (B.map (·.t)) w w' := ⟨hk.size, fun c hc hcc => hk.block c hc fun e => by
    subst e
    rcases hcc with h5 | h5
    · omega
    · exact h5 x.t (List.mem_map.2 ⟨x, hx, rfl⟩) _ hz⟩
  refine ⟨fun j hj => ?_, fun y hy => ?_, fun y hy z hz' hne' k1 k2 => ?_⟩
  · by_cases e : j = x.s
    · subst e; exact hT _ _
    · rw [upd_ne e]; exact hU _ _ _ _ (h.1 j (hj.resolve_left e)) hst
  · rcases hB.of hy hx with rfl | ⟨e1, e2, e3, e4⟩
    · refine ⟨fun _ => .inr ha, fun _ => ⟨b, by rw [upd_ne hne]; exact hv, h2, fun hs => absurd (.inl rfl) hs, fun _ => hb⟩⟩
    · refine ⟨fun hs => .inr ((h.2.1 y hy).1 (hs.resolve_left e2)), fun hya => ?_⟩
      obtain ⟨c, k1, k2, k3, k4⟩ := (h.2.1 y hy).2 (hya.resolve_left e3)
      have hcb : c ≠ b := fun e => h.2.2 y hy x hx e1 (hya.resolve_left e3) ha (by rw [k1, hv, e])
      rw [upd_ne e3]
      exact ⟨c, k1, k2, fun hs => hk.blk hcb (k3 fun k => hs (.inr k)), fun hs => hk.blk hcb (k4 (hs.resolve_left e2))⟩
  · have f1 : y.a ≠ x.s := by rcases hB.of hy hx with rfl | ⟨_, _, e3, _⟩; exact hne; exact e3
    have f2 : z.a ≠ x.s := by rcases hB.of hz' hx with rfl | ⟨_, _, e3, _⟩; exact hne; exact e3
    rw [upd_ne f1, upd_ne f2]
    exact h.2.2 y hy z hz' hne' (k1.resolve_left f1) (k2.resolve_left f2)
theorem ManyI.of {j : Nat} {v : Value} (h : ManyI N B U S V w) (hs : S j) (hv : V j = v) : U j v w := hv ▸ h.1 j hs
/-- At a store: where it goes. -/
theorem ManyI.slot {x : BoxCfg} (hx : x ∈ B) (h : ManyI N B U S V w) (ha : S x.a) (hn : ¬ S x.s) : ∃ b, V x.a = .pointer (some ⟨b, 0, none⟩) ∧ N ≤ b ∧ Blk w b x.t x.z := by
  obtain ⟨b, h1, h2, h3, _⟩ := (h.2.1 x hx).2 ha
  exact ⟨b, h1, h2, h3 hn⟩
theorem ManyI.done {x : BoxCfg} (hx : x ∈ B) (h : ManyI N B U S V w) (ha : S x.a) (hs : S x.s) : ∃ b, V x.a = .pointer (some ⟨b, 0, none⟩) ∧ N ≤ b ∧ Blk w b x.t x.c := by
  obtain ⟨b, h1, h2, _, h4⟩ := (h.2.1 x hx).2 ha
  exact ⟨b, h1, h2, h4 hs⟩
/-- A store into a new block keeps what was there. -/
theorem KeptD.new_set {w0 : World} {D : List Nat} {b : Nat} (h : KeptD D w0 w) (hb : w0.heap.size ≤ b) (hk : Kept (fun c => c ≠ b) w w') : KeptD D w0 w' :=
  ⟨hk.os.trans h.os, hk.tape.trans h.tape, hk.output.trans h.output, Nat.le_trans h.size hk.size, fun c hc hD => (hk.block c (Nat.lt_of_lt_of_le hc h.size) (by omega)).trans (h.block c hc hD)⟩
end
/-- Relations by the numbers of their operations. -/
def relsU : List (Nat × Rel) → Nat → Rel
  | [], _ => fun _ _ => True
  | (k, R) :: l, i => if i = k then R else relsU l i
section
variable {N : Nat} {B : List BoxCfg} {l : List (Nat × Rel)} {k : Nat}
theorem bears_nil : Bears N B (relsU []) := fun _ _ _ _ h _ => h
theorem bears_cons {R : Rel} (hR : ∀ v w w', R v w → StepTs N (B.map (·.t)) w w' → R v w') (h : Bears N B (relsU l)) : Bears N B (relsU ((k, R) :: l)) := fun i v w w' hv hs => by
  unfold relsU at *
  by_cases e : i = k
  · rw [if_pos e] at *; exact hR v w w' hv hs
  · rw [if_neg e] at *; exact h i v w w' hv hs
theorem bears_val {x : Value} (h : Bears N B (relsU l)) : Bears N B (relsU ((k, fun v _ => v = x) :: l)) := bears_cons (fun _ _ _ hv _ => hv) h
end
/-- THE LAW for new variables. -/
theorem wp_many {P : Program} {id : Nat} {Q : Exit → Act → World → Prop} {a : Act} {w : World} {l : List Oper} (ks : List Nat) (B : List BoxCfg) (U : Nat → Rel) (hm : P.follows .mixedOrders = true) (hB : schedB0 l.toArray ks = true) (hU : Bears w.heap.size B U)
    (h : wpQs P l.toArray (Msd w []) (fun a' => wpLsI P l.toArray (Msd w []) (ManyI w.heap.size B U) (ancB (Region.before l.toArray)) ks (fun a'' w'' => wpList P l.toArray (Exit.then (fun a w => Q .normal a w) (fun _ _ _ => False)) (tails ks l) a'' w'') ks l 0 a' (fun _ => undef)) ks l a) : (Code.region id l.toArray true).wp P Q a w :=
  wp_inv ks [] _ hm hB (fun _ _ _ _ _ h1 h2 => h1.below hU h2) (fun _ => manyI_zero) h
theorem in_many {P : Program} {l' n id : Nat} {Q : Exit → Act → World → Prop} {a : Act} {w : World} {l : List Oper} (ks : List Nat) (B : List BoxCfg) (U : Nat → Rel) (hm : P.follows .mixedOrders = true) (hB : schedB0 l.toArray ks = true) (hU : Bears w.heap.size B U) (hd : noDefer l.toArray = true) (hQ : ¬ LetsOut Q)
    (h : wpQs P l.toArray (Msd w []) (fun a' => wpLsI P l.toArray (Msd w []) (ManyI w.heap.size B U) (ancB (Region.before l.toArray)) ks (fun a'' w'' => wpList P l.toArray (Exit.then (fun a w => Q .normal a w) (fun _ _ _ => False)) (tails ks l) a'' w'') ks l 0 a' (fun _ => undef)) ks l a) : (Code.region id l.toArray true).wpIn (Fence.wide.inRound l') n P Q a w :=
  in_inv ks [] _ hm hB (fun _ _ _ _ _ h1 h2 => h1.below hU h2) (fun _ => manyI_zero) hd hQ h
end Go.Proofs.Ytnokibdecnddlaa

/- How far a box went along two axes: the program's, the document's. -/
namespace Go.Proofs.Ytnokibdecnddlaa
open Go.RowKit Go.Shelf
attribute [local go_sem] Oper.semAt_some

set_option maxHeartbeats 2000000 in
theorem pwent_c (x y : B6) (h : -100000000000000 ≤ x.1 ∧ x.1 ≤ 100000000000000) (h2 : -100000000000000 ≤ x.2.2.1 ∧ x.2.2.1 ≤ 100000000000000) (k : -100000000000000 ≤ y.1 ∧ y.1 ≤ 100000000000000) (k2 : -100000000000000 ≤ y.2.2.1 ∧ y.2.2.1 ≤ 100000000000000) (w : World) :
    Calls Try.prog 105 #[.agg (ag6 x), .agg (ag6 y)] w fun r w' => r = .returned (.int .i64 (wentI x y)) ∧ Below w.heap.size w w' := by
  obtain ⟨a, b, c, d, e, f⟩ := x
  obtain ⟨a', b', c', d', e', f'⟩ := y
  dsimp only at h h2 k k2
  simp only [ag6, wentI]
  have hmx := @run_mx Try.prog
  have U : Blk ((w.alloc (.cells #[.int .i64 a, .int .i64 b, .int .i64 c, .int .i64 d, .int .i64 e, .int .i64 f] 48)).alloc (.cells #[.int .i64 a', .int .i64 b', .int .i64 c', .int .i64 d', .int .i64 e', .int .i64 f'] 48)) w.heap.size 48 #[.int .i64 a, .int .i64 b, .int .i64 c, .int .i64 d, .int .i64 e, .int .i64 f] := (Blk.new' rfl).alloc _
  have D : Blk ((w.alloc (.cells #[.int .i64 a, .int .i64 b, .int .i64 c, .int .i64 d, .int .i64 e, .int .i64 f] 48)).alloc (.cells #[.int .i64 a', .int .i64 b', .int .i64 c', .int .i64 d', .int .i64 e', .int .i64 f'] 48)) (w.heap.size + 1) 48 #[.int .i64 a', .int .i64 b', .int .i64 c', .int .i64 d', .int .i64 e', .int .i64 f'] := Blk.new' (by simp)
  obtain ⟨u0, u1, u2, u3, u4, u5⟩ := U.re6
  obtain ⟨d0, d1, d2, d3, d4, d5⟩ := D.re6
  have r1 : -9223372036854775808 ≤ a' - a ∧ a' - a ≤ 9223372036854775807 := by omega
  have r2 : -9223372036854775808 ≤ c' - c ∧ c' - c ≤ 9223372036854775807 := by omega
  obtain ⟨r1, s1⟩ := r1
  obtain ⟨r2, s2⟩ := r2
  have e1 : IntKind.i64.wrap (a' - a) = a' - a := IntWalk.i64_in _ ⟨r1, s1⟩
  have e2 : IntKind.i64.wrap (c' - c) = c' - c := IntWalk.i64_in _ ⟨r2, s2⟩
  have m1 : -(a' - a) = a - a' := by omega
  have m2 : -(c' - c) = c - c' := by omega
  have b1 : -200000000000000 ≤ mxI (a' - a) (a - a') ∧ mxI (a' - a) (a - a') ≤ 200000000000000 := by unfold mxI; omega
  have b2 : -200000000000000 ≤ mxI (c' - c) (c - c') ∧ mxI (c' - c) (c - c') ≤ 200000000000000 := by unfold mxI; omega
  obtain ⟨b1, b3⟩ := b1
  obtain ⟨b2, b4⟩ := b2
  go_enter Try.func105, Try.ntmps105
  go_wp2_with fail
  refine wp_region_quiet_below (by kernel_rfl) (by kernel_rfl) ?_
  repeat (go_big_quiet_step (fail))
  refine wpQuiet_nil ?_
  intro w' hw'
  obtain ⟨rg, rfl⟩ := hw'
  clear u0 u1 u2 u3 u4 u5 d0 d1 d2 d3 d4 d5
  go_wp2_with fail
  go_returns
  refine ⟨rfl, ?_⟩
  (repeat' (first | (with_reducible exact Below.refl _ _) | (with_reducible assumption) | (with_reducible refine Below.alloc ?_ ?_ _) | (with_reducible refine Below.drew ?_) | (with_reducible refine Below.setCell ?_ ?_ _) | (with_reducible refine after ?_ (below_regrown _ _ _)) | (refine after ?_ (by with_reducible assumption)) | go_size))
set_option maxHeartbeats 2000000 in
theorem rwent_c (x y : B6) (h : -100000000000000 ≤ x.1 ∧ x.1 ≤ 100000000000000) (h2 : -100000000000000 ≤ x.2.2.1 ∧ x.2.2.1 ≤ 100000000000000) (k : -100000000000000 ≤ y.1 ∧ y.1 ≤ 100000000000000) (k2 : -100000000000000 ≤ y.2.2.1 ∧ y.2.2.1 ≤ 100000000000000) (w : World) :
    Calls Try.prog 83 #[.agg (ag6 x), .agg (ag6 y)] w fun r w' => r = .returned (.int .i64 (wentI x y)) ∧ Below w.heap.size w w' := by
  obtain ⟨a, b, c, d, e, f⟩ := x
  obtain ⟨a', b', c', d', e', f'⟩ := y
  dsimp only at h h2 k k2
  simp only [ag6, wentI]
  have hmx := @run_mx Try.prog
  have b1 : -200000000000000 ≤ mxI (a' - a) (a - a') ∧ mxI (a' - a) (a - a') ≤ 200000000000000 := by unfold mxI; omega
  have b2 : -200000000000000 ≤ mxI (c' - c) (c - c') ∧ mxI (c' - c) (c - c') ≤ 200000000000000 := by unfold mxI; omega
  have e1 : -9223372036854775808 ≤ a' - a ∧ a' - a ≤ 9223372036854775807 := by omega
  have e2 : -9223372036854775808 ≤ c' - c ∧ c' - c ≤ 9223372036854775807 := by omega
  have e3 : -9223372036854775808 ≤ a - a' ∧ a - a' ≤ 9223372036854775807 := by omega
  have e4 : -9223372036854775808 ≤ c - c' ∧ c - c' ≤ 9223372036854775807 := by omega
  obtain ⟨b1, b3⟩ := b1
  obtain ⟨b2, b4⟩ := b2
  obtain ⟨e1, f1⟩ := e1
  obtain ⟨e2, f2⟩ := e2
  obtain ⟨e3, f3⟩ := e3
  obtain ⟨e4, f4⟩ := e4
  go_enter Try.func83, Try.ntmps83
  go_wp2_with fail
  go_returns
  exact ⟨rfl, by (repeat' (first | (with_reducible exact Below.refl _ _) | (with_reducible assumption) | (with_reducible refine Below.alloc ?_ ?_ _) | (with_reducible refine Below.drew ?_) | (with_reducible refine Below.setCell ?_ ?_ _) | (with_reducible refine after ?_ (below_regrown _ _ _)) | (refine after ?_ (by with_reducible assumption)) | go_size))⟩
end Go.Proofs.Ytnokibdecnddlaa

/- The document's: a box that moves. -/
namespace Go.Proofs.Ytnokibdecnddlaa
open Go.RowKit Go.Shelf
attribute [local go_sem] Oper.semAt_some

set_option maxRecDepth 100000 in
set_option maxHeartbeats 8000000 in
theorem rsmove_c (q : Option Addr) (n cp : Nat) (F : Nat → Int) (els : Int) (x : B6) (dx dy dz M : Int) (hM : M ≤ 71500000000000) (hM0 : 0 ≤ M) (hB : Sm6 M x) (w : World) (hq : Iq w q n F) :
    Calls Try.prog 71 #[.agg #[.slice q n cp, .int .i64 els], .agg (ag6 x), .agg #[.int .i64 dx, .int .i64 dy, .int .i64 dz]] w fun r w' => r = .returned (moveT (fun c => atG n F els c.1 c.2.1 c.2.2) x dx dy dz) ∧ Below w.heap.size w w' := by
  obtain ⟨val, hval⟩ : ∃ val : Cl → Int, val = fun c => atG n F els c.1 c.2.1 c.2.2 := ⟨_, rfl⟩
  have s1 := al6_sm hB hM0 (by omega) val 1 dy
  have s2 := al6_sm (x := st1 val x dy) s1 (by omega) (by omega) val 0 dx
  have C1 := fun W (h : Below w.heap.size w W) => ralong_c q n cp F els x 1 dy M (by omega) hM0 hB W (hq.on h)
  have C2 := fun W (h : Below w.heap.size w W) => ralong_c q n cp F els (st1 val x dy) 0 dx (M + 10000000) (by omega) (by omega) s1 W (hq.on h)
  have C3 := fun W (h : Below w.heap.size w W) => ralong_c q n cp F els (st2 val x dx dy) 2 dz (M + 10000000 + 10000000) (by omega) (by omega) s2 W (hq.on h)
  rw [← hval] at C1 C2 C3 ⊢
  unfold moveT
  have e3 : st3 val x dx dy dz = (al6 val (st2 val x dx dy) 2 dz).1 := rfl
  have f3 : hz3 val x dx dy dz = (al6 val (st2 val x dx dy) 2 dz).2 := rfl
  have e2 : st2 val x dx dy = (al6 val (st1 val x dy) 0 dx).1 := rfl
  have f2 : hx2 val x dx dy = (al6 val (st1 val x dy) 0 dx).2 := rfl
  have e1 : st1 val x dy = (al6 val x 1 dy).1 := rfl
  have f1 : hy1 val x dy = (al6 val x 1 dy).2 := rfl
  rw [e3, f3, f2, f1]
  generalize al6 val (st2 val x dx dy) 2 dz = p3 at C3 ⊢
  rw [e2] at C3
  generalize al6 val (st1 val x dy) 0 dx = p2 at C2 C3 ⊢
  rw [e1] at C2
  generalize al6 val x 1 dy = p1 at C1 C2 ⊢
  obtain ⟨⟨a1, b1, c1, d1, g1, h1⟩, u1⟩ := p1
  obtain ⟨⟨a2, b2, c2, d2, g2, h2⟩, u2⟩ := p2
  obtain ⟨⟨a3, b3, c3, d3, g3, h3⟩, u3⟩ := p3
  obtain ⟨a, b, c, d, e, f⟩ := x
  simp only [alT, ag6] at C1 C2 C3 ⊢
  have HC1 := Lib.hid C1
  have HC2 := Lib.hid C2
  have HC3 := Lib.hid C3
  clear C1 C2 C3 s1 s2 hM hM0 hB hq e1 e2 e3 f1 f2 f3 hval
  obtain ⟨W, hW⟩ : ∃ W, W = ((((w.alloc (.cells #[.slice q n cp, .int .i64 els] 24)).alloc (.cells #[.int .i64 a, .int .i64 b, .int .i64 c, .int .i64 d, .int .i64 e, .int .i64 f] 48)).alloc (.cells #[.int .i64 dx, .int .i64 dy, .int .i64 dz] 26)).alloc (.cells #[.int .i64 0, .int .i64 0, .int .i64 0, .int .i64 0, .int .i64 0, .int .i64 0] 48)).alloc (.cells #[.bool false, .bool false, .bool false] 79) := ⟨_, rfl⟩
  have H : Below w.heap.size w W := by rw [hW]; go_grown
  obtain ⟨N, hN⟩ : ∃ N, N = w.heap.size := ⟨_, rfl⟩
  have G : Blk W N 24 _ := Blk.eqw hW.symm (by rw [hN]; exact ((((Blk.new' rfl).alloc _).alloc _).alloc _).alloc _)
  have U : Blk W (N + 1) 48 _ := Blk.eqw hW.symm (by rw [hN]; exact (((Blk.new' (by simp)).alloc _).alloc _).alloc _)
  have D : Blk W (N + 1 + 1) 26 _ := Blk.eqw hW.symm (by rw [hN]; exact ((Blk.new' (by simp)).alloc _).alloc _)
  have R0 : Blk W (N + 1 + 1 + 1) 48 _ := Blk.eqw hW.symm (by rw [hN]; exact (Blk.new' (by simp)).alloc _)
  have R1 : Blk W (N + 1 + 1 + 1 + 1) 79 _ := Blk.eqw hW.symm (by rw [hN]; exact Blk.new' (by simp))
  go_enter Try.func71, Try.ntmps71
  go_upto_region 1 with (fail)
  rw [← hW, ← hN]
  have HN := Lib.hid hN
  clear hW hN
  obtain ⟨u0, uu1, uu2, uu3, uu4, uu5⟩ := U.c6.1
  obtain ⟨v0, v1, v2, -, -, -⟩ := D.c3
  have g0 := G.cell 0
  have gg1 := G.cell 1
  go_upto_region 2 with (go_at_call 82; refine (HC1.out _ H).mono ?_; rintro e_ w1 ⟨rfl, k1⟩)
  generalize hV : World.alloc w1 _ = Y1
  have hy : Below w1.heap.size w1 Y1 := by rw [← hV]; exact (Below.refl _ _).alloc (Nat.le_refl _) _
  have U1 : Blk Y1 w1.heap.size 48 #[.int .i64 a1, .int .i64 b1, .int .i64 c1, .int .i64 d1, .int .i64 g1, .int .i64 h1] := Blk.eqw hV (Blk.new' rfl)
  replace G := (G.on k1).on hy
  replace D := (D.on k1).on hy
  replace R0 := (R0.on k1).on hy
  replace R1 := (R1.on k1).on hy
  replace H := after (after H k1) hy
  clear hV hy k1 u0 uu1 uu2 uu3 uu4 uu5 v0 v1 v2 g0 gg1 U
  generalize w1.heap.size = gu1 at U1 ⊢
  have U := U1
  clear U1
  obtain ⟨u0, uu1, uu2, uu3, uu4, uu5⟩ := U.c6.1
  obtain ⟨v0, v1, v2, -, -, -⟩ := D.c3
  have g0 := G.cell 0
  have gg1 := G.cell 1
  go_upto_region 3 with (go_at_call 82; refine (HC2.out _ H).mono ?_; rintro e_ w2 ⟨rfl, k2⟩)
  generalize hV : World.alloc w2 _ = Y2
  have hy : Below w2.heap.size w2 Y2 := by rw [← hV]; exact (Below.refl _ _).alloc (Nat.le_refl _) _
  have U2 : Blk Y2 w2.heap.size 48 #[.int .i64 a2, .int .i64 b2, .int .i64 c2, .int .i64 d2, .int .i64 g2, .int .i64 h2] := Blk.eqw hV (Blk.new' rfl)
  replace G := (G.on k2).on hy
  replace D := (D.on k2).on hy
  replace R0 := (R0.on k2).on hy
  replace R1 := (R1.on k2).on hy
  replace H := after (after H k2) hy
  clear hV hy k2 u0 uu1 uu2 uu3 uu4 uu5 v0 v1 v2 g0 gg1 U
  generalize w2.heap.size = gu2 at U2 ⊢
  have U := U2
  clear U2
  obtain ⟨u0, uu1, uu2, uu3, uu4, uu5⟩ := U.c6.1
  obtain ⟨v0, v1, v2, -, -, -⟩ := D.c3
  have g0 := G.cell 0
  have gg1 := G.cell 1
  go_upto_region 4 with (go_at_call 82; refine (HC3.out _ H).mono ?_; rintro e_ w3 ⟨rfl, k3⟩)
  generalize hV : World.alloc w3 _ = Y3
  have hy : Below w3.heap.size w3 Y3 := by rw [← hV]; exact (Below.refl _ _).alloc (Nat.le_refl _) _
  have U3 : Blk Y3 w3.heap.size 48 #[.int .i64 a3, .int .i64 b3, .int .i64 c3, .int .i64 d3, .int .i64 g3, .int .i64 h3] := Blk.eqw hV (Blk.new' rfl)
  replace G := (G.on k3).on hy
  replace D := (D.on k3).on hy
  replace R0 := (R0.on k3).on hy
  replace R1 := (R1.on k3).on hy
  replace H := after (after H k3) hy
  clear hV hy k3 u0 uu1 uu2 uu3 uu4 uu5 v0 v1 v2 g0 gg1 U
  generalize w3.heap.size = gu3 at U3 ⊢
  have U := U3
  clear U3
  obtain ⟨u0, uu1, uu2, uu3, uu4, uu5⟩ := U.c6.1
  obtain ⟨⟨r0, r1, r2, r3, r4, r5⟩, z0, z1, z2, z3, z4, z5⟩ := R0.c6
  obtain ⟨t0, t1, t2, tf0, tf1, tf2⟩ := R1.c3
  go_wp2_with fail
  have hNw : w.heap.size ≤ N := by rw [← HN.out]; exact Nat.le_refl _
  have X0 := ((((R0.st6 (.int .i64 a3) (.int .i64 b3) (.int .i64 c3) (.int .i64 d3) (.int .i64 g3) (.int .i64 h3)).far (p := ⟨N + 1 + 1 + 1 + 1, 0, none⟩) (by dsimp only; omega) (.bool u2)).far (p := ⟨N + 1 + 1 + 1 + 1, 1, none⟩) (by dsimp only; omega) (.bool u1)).far (p := ⟨N + 1 + 1 + 1 + 1, 2, none⟩) (by dsimp only; omega) (.bool u3))
  have X1 := (sx6_far R1 (show N + 1 + 1 + 1 + 1 ≠ N + 1 + 1 + 1 by omega) (.int .i64 a3) (.int .i64 b3) (.int .i64 c3) (.int .i64 d3) (.int .i64 g3) (.int .i64 h3)).st3 (.bool u2) (.bool u1) (.bool u3)
  obtain ⟨⟨m0, m1, m2, m3, m4, m5⟩, -, -, -, -, -, -⟩ := X0.c6
  obtain ⟨j0, j1, j2, -, -, -⟩ := X1.c3
  refine bodyPost_ret (v := .tuple #[.agg #[.int .i64 a3, .int .i64 b3, .int .i64 c3, .int .i64 d3, .int .i64 g3, .int .i64 h3], .agg #[.bool u2, .bool u1, .bool u3]]) (by simp [results, Try.f71, go_sem, m0, m1, m2, m3, m4, m5, j0, j1, j2]) rfl ⟨rfl, ?_⟩
  exact (((sx6_below H (by omega) _ _ _ _ _ _).setCell (p := ⟨N + 1 + 1 + 1 + 1, 0, none⟩) (by dsimp only; omega) _).setCell (p := ⟨N + 1 + 1 + 1 + 1, 1, none⟩) (by dsimp only; omega) _).setCell (p := ⟨N + 1 + 1 + 1 + 1, 2, none⟩) (by dsimp only; omega) _
end Go.Proofs.Ytnokibdecnddlaa
