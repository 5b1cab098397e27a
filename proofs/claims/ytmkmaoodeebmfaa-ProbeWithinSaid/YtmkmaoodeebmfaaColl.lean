/- The cells of a box, gathered. -/
import Derived.Test.YtmkmaoodeebmfaaFind
import Derived.Test.YtmkmaoodeebmfaaMeet2
namespace Go.Proofs.Ytmkmaoodeebmfaa
open Go.RowKit Go.Shelf
attribute [local go_sem] Oper.semAt_some

theorem wpListIn_append_run {F : Fence} {n' : Nat} {P : Program} (w : World) {ops : Array Oper} {rest : List Oper} {o : Oper} {a : Act} {Q : Exit → Act → World → Prop} (hgd : o.guard = none) (s x : Operand) (t tn : TypeId)
    (ho : o.op = .call { callee := .builtin .append, args := #[s, x], argTypes := #[t, tn] }) (vs vx : Value) (hs : a.eval s = vs) (hx : a.eval x = vx)
    (v' : Value) (w' : World) (hr : (Builtin.append_ #[t, tn] o.type #[vs, vx]).run P w = .ok v' w') (h : wpListIn F n' P ops Q rest (a.put o.dst v') w') : wpListIn F n' P ops Q (o :: rest) a w := by
  refine wpListIn_plain hgd fun K hK => ?_
  unfold Oper.wpIn
  refine ⟨?_, ?_⟩
  · simp [Oper.about, ho, resolve, Target.leads, Sem.run_pure]
  · rw [Oper.semAt_plain F _ _ (by rw [ho]; intro c hc'; cases hc')]
    simp [execOp, ho, resolve, invoke, builtin, hs, hx, hr, Result.andThen]
    exact hK _ _ h
theorem Iter.on {P : Program} {gf : Nat} {lb : Array Value} {α : Type} {encs : α → Array Value} {xs : List α} {cap : Nat → Prop} {w0 w1 : World} (h : Iter P gf lb encs xs cap w0) (hk : Kept cap w0 w1) : Iter P gf lb encs xs cap w1 :=
  fun m l J Jx W hW => h m l J Jx W (hk.trans hW)
set_option maxRecDepth 100000 in
set_option maxHeartbeats 8000000 in
theorem appseq_c (gf : FuncId) (lb : Array Value) (xs : List Cl) (cap : Nat → Prop) (w : World) (hL : xs.length ≤ 1000000) (eg : ∀ args w, (callFunc gf args).run Try.prog w = .ok (.enter gf args) w) (hit : Iter Try.prog gf lb encC xs cap w) (hcap : ∀ b, cap b → b < w.heap.size) :
    Calls Try.prog 59 #[.slice none 0 0, .func (.func gf) #[] lb] w fun r w' => ∃ v, r = .returned v ∧ Owns w' w.heap.size 40 3 enc3 v xs ∧ Below w.heap.size w w' := by
  obtain ⟨N, hN⟩ : ∃ N, N = w.heap.size := ⟨_, rfl⟩
  obtain ⟨W1, hW⟩ : ∃ W1, W1 = w.alloc (.cells #[.slice none 0 0] 38) := ⟨_, rfl⟩
  have H : Below w.heap.size w W1 := by rw [hW]; go_grown
  have A0 : Blk W1 N 38 #[.slice none 0 0] := by rw [hW, hN]; exact Blk.new' rfl
  have hs1 : W1.heap.size = N + 1 := by rw [hW, hN]; simp
  have hit1 := hit.on (Kept.of_below H)
  have hcap1 : ∀ b, cap b → b < W1.heap.size := fun b hb => by have := hcap b hb; rw [hs1, hN]; omega
  have HC := Lib.hid hcap
  have HS := Lib.hid hs1
  have HL := Lib.hid hL
  clear hit hL hcap hs1
  refine (callsIn_wide (n := 5)).1 (callsIn_of_wp_marks Try.func59 rfl trivial ?_ rfl)
  refine wpIn_wide.2 ?_
  simp only [Try.ntmps59, List.size_toArray, List.length_cons, List.length_nil, Nat.reduceAdd, Nat.reduceSub, Array.replicate_succ, Array.replicate_zero, List.push_toArray, List.append_toArray, List.nil_append, List.cons_append]
  go_wp2_with fail
  rw [← hW, ← hN]
  have HN := Lib.hid hN
  clear hW hN
  refine wp_range (m := 3) (gf := gf) (lb := lb) rfl eg hit1 hcap1 (fun _ => rfl)
    (fun Z i A => ∃ v, Blk A N 38 #[v] ∧ Hid (Owns A (max Z (N + 1)) 40 3 enc3 v (xs.take i)) ∧ Below w.heap.size w A)
    (fun Z k i A => False) ?_ ?_ (fun Z => ⟨_, A0, by rw [List.take_zero]; exact Owns.nil, H⟩) ?round ?done ?stop
  · rintro Z i A B ⟨v, h1, h2, h3⟩ hk
    exact ⟨v, hk.blk (fun h => by have := h.1; rw [HS.out] at this; omega) h1, h2.out.kept (fun g hg hgs => hk.block g hgs (fun h => by have := h.2; have := Nat.le_max_left Z (N + 1); omega)), h3.trans (hk.below h3.size (fun b hb h => by have := h.1; rw [HS.out, HN.out] at this; omega))⟩
  · rintro Z k i A B h _; exact h.elim
  case round =>
    rintro Z l i x A rfl hZ1 hZ2 hx ⟨v, h1, h2, h3⟩
    clear A0 H
    gi_wp2
    refine ⟨(Kept.refl _ _).alloc _, fun A2 hA2 hz2 => ?_⟩
    have hs1 := HS.out
    have hmx : max Z (N + 1) = Z := by omega
    rw [hmx] at h2
    replace h1 : Blk A2 N 38 #[v] := hA2.blk (show N ≠ W1.heap.size + 1 by omega) (h1.alloc _)
    have X : Blk A2 A.heap.size 40 #[.int .i64 x.1, .int .i64 x.2.1, .int .i64 x.2.2] := hA2.blk (show A.heap.size ≠ W1.heap.size + 1 by omega) (Blk.new' rfl)
    have V : Owns A2 Z 40 3 enc3 v (xs.take i) := (h2.out.on ((Below.refl _ _).alloc (Nat.le_refl _) _)).kept fun g hg hgs => hA2.block g hgs (show g ≠ W1.heap.size + 1 by omega)
    replace h3 : Below w.heap.size w A2 := (h3.alloc h3.size _).trans (hA2.below (by simp; have := h3.size; omega) (fun b hb => by rw [← HN.out] at hb; omega))
    have hz3 : Z ≤ A2.heap.size := by rw [hz2]; simp; omega
    have hi : i < xs.length := (List.getElem?_eq_some_iff.1 hx).1
    have htk : xs.take (i + 1) = xs.take i ++ [x] := by rw [List.take_add_one, hx]; rfl
    obtain ⟨A3, hA3⟩ : ∃ A3, A3 = A2.alloc (.cells #[.int .i64 x.1, .int .i64 x.2.1, .int .i64 x.2.2] 40) := ⟨_, rfl⟩
    have hb3 : Below A2.heap.size A2 A3 := by rw [hA3]; exact (Below.refl _ _).alloc (Nat.le_refl _) _
    have hNew : Blk A3 A2.heap.size 40 #[.int .i64 x.1, .int .i64 x.2.1, .int .i64 x.2.2] := by rw [hA3]; exact Blk.new' rfl
    obtain ⟨v', w', hrun, V2, -, hb2, g9, c9, rfl⟩ := run_push (P := Try.prog) (ts := 38) (ty := 38) (x := x) (b := A2.heap.size) Try.underlying38 infC rfl (by decide) (by decide) rfl (by simp [Value.oneCell']) (V.on hb3)
      (fun j u hu => by rw [hNew.cell j]; simpa using hu) (by rw [take_len (by omega)]; exact near24 hi HL.out) (Nat.le_trans hz3 hb3.size)
    generalize (xs.take i).length + 1 = n9 at hrun V2
    rw [← htk] at V2
    have O := (h1.on hb3).below hb2 (by omega)
    have f0 := O.frz 0
    have o0 := O.cell 0
    have hk3 : Kept (Keeps W1.heap.size Z cap) A2 w' := (Kept.of_below hb3).trans ⟨hb2.os, hb2.tape, hb2.output, hb2.size, fun b hb hK => hb2.block b (by
      rcases hK with h | h
      · exact h.2
      · have := HC.out b h; rw [← HN.out] at this; omega)⟩
    have hk4 := hk3.setCell (p := ⟨N, 0, none⟩) (fun h => by
      rcases h with h | h
      · have := h.1; dsimp only at this; omega
      · have := HC.out _ h; rw [← HN.out] at this; dsimp only at this; omega) (.slice (some ⟨g9, 0, none⟩) n9 c9)
    have hfin : Below w.heap.size w (w'.setCell ⟨N, 0, none⟩ (.slice (some ⟨g9, 0, none⟩) n9 c9)) := (after h3 hb3 |>.trans (hb2.mono (by rw [← HN.out]; omega))).setCell (p := ⟨N, 0, none⟩) (by rw [← HN.out]; exact Nat.le_refl _) _
    have V3 := V2.far (p := ⟨N, 0, none⟩) (show N < Z by omega) (.slice (some ⟨g9, 0, none⟩) n9 c9)
    rw [← hmx] at V3
    have HF := Lib.hid (And.intro hk4 (And.intro (O.set_ 0 (.slice (some ⟨g9, 0, none⟩) n9 c9)) (And.intro V3 hfin)))
    have v0 := h1.cell 0
    obtain ⟨x0, x1, x2, -, -, -⟩ := X.c3
    rw [hA3] at hrun
    clear hA2 hz2 hs1 hmx V hz3 hi htk hA3 hb3 hNew V2 hb2 O hk3 hk4 hfin V3 hx hZ1 hZ2 h2 h3 h1 X
    generalize A.heap.size = gx at x0 x1 x2 ⊢
    gi_wp2_with (gi_at_builtin; refine wpListIn_append_run _ rfl _ _ _ _ rfl _ _ rfl rfl _ _ hrun ?_)
    exact ⟨HF.out.1, _, HF.out.2.1, HF.out.2.2.1, HF.out.2.2.2⟩
  case done =>
    rintro Z A ⟨v, h1, h2, h3⟩ hK
    clear A0 H
    have v0 := h1.cell 0
    have HK := Lib.hid hK
    clear hK
    go_wp2_with fail
    refine leave_mark HK.out (v := v) (by simp [results, Try.f59, go_sem]) ⟨v, rfl, ?_, ?_⟩
    · have h := h2.out
      rw [List.take_length] at h
      refine Owns.mono ?_ (show w.heap.size ≤ max Z (N + 1) by rw [← HN.out]; omega)
      refine ⟨h.1, ?_⟩
      rcases h.2 with h0 | ⟨g, cp, cur, hv, hbg, hg, r⟩
      · exact .inl h0
      · refine .inr ⟨g, cp, cur, hv, hbg, (World.putObj_heap_other (fun e => ?_)).trans hg, r⟩
        rw [e, HK.out] at hg
        cases hg
    · exact putObj_below h3 (by rw [← HN.out, HS.out]; omega) _
  case stop =>
    rintro Z k i A hi h
    exact h.elim
theorem collect_c (gf : FuncId) (lb : Array Value) (xs : List Cl) (cap : Nat → Prop) (w : World) (hL : xs.length ≤ 1000000) (eg : ∀ args w, (callFunc gf args).run Try.prog w = .ok (.enter gf args) w) (hit : Iter Try.prog gf lb encC xs cap w) (hcap : ∀ b, cap b → b < w.heap.size) :
    Calls Try.prog 46 #[.func (.func gf) #[] lb] w fun r w' => ∃ v, r = .returned v ∧ Owns w' w.heap.size 40 3 enc3 v xs ∧ Below w.heap.size w w' := by
  have h := Lib.hid (appseq_c gf lb xs cap w hL eg hit hcap)
  clear hL eg hit hcap
  go_enter Try.func46, Try.ntmps46
  go_wp2_with (go_at_call 59; refine h.out.mono ?_; rintro e_ w1 ⟨v, rfl, h1, h2⟩)
  go_returns
  exact ⟨_, rfl, h1, h2⟩
set_option maxRecDepth 100000 in
set_option maxHeartbeats 2000000 in
theorem pcells_c (a b c d e f : Int) (hB : BoxOk a b c d e f) (hL : (cellsI a b c d e f).length ≤ 1000000) (w : World) :
    Calls Try.prog 21 #[.agg #[.int .i64 a, .int .i64 b, .int .i64 c, .int .i64 d, .int .i64 e, .int .i64 f]] w fun r w' => ∃ v, r = .returned v ∧ Owns w' w.heap.size 40 3 enc3 v (cellsI a b c d e f) ∧ Below w.heap.size w w' := by
  have hQ := Lib.hid fun W (hb : Blk W (w.heap.size + 1) 28 #[.int .i64 a, .int .i64 b, .int .i64 c, .int .i64 d, .int .i64 e, .int .i64 f]) => collect_c 60 #[.pointer (some ⟨w.heap.size + 1, 0, none⟩)] _ _ W hL (enters_of Try.func60 (by kernel_rfl) rfl) (each_it (w.heap.size + 1) a b c d e f hB W hb) (fun b hb' => by rw [hb']; exact hb.lt)
  clear hB hL
  have H : Below w.heap.size w ((w.alloc (.cells #[.int .i64 a, .int .i64 b, .int .i64 c, .int .i64 d, .int .i64 e, .int .i64 f] 28)).alloc (.cells #[.int .i64 a, .int .i64 b, .int .i64 c, .int .i64 d, .int .i64 e, .int .i64 f] 28)) := by go_grown
  have hs : ((w.alloc (.cells #[.int .i64 a, .int .i64 b, .int .i64 c, .int .i64 d, .int .i64 e, .int .i64 f] 28)).alloc (.cells #[.int .i64 a, .int .i64 b, .int .i64 c, .int .i64 d, .int .i64 e, .int .i64 f] 28)).heap.size = w.heap.size + 2 := by simp
  have HS := Lib.hid hs
  clear hs
  go_enter Try.func21, Try.ntmps21
  go_wp2_with first
    | (go_at_call 47; refine (peach_c _ _ _ _ _ _ _).mono ?_; rintro e_ w1 ⟨rfl, rfl⟩; try simp only [World.size_alloc])
    | (go_at_call 46; refine (hQ.out _ (Blk.new' (by simp))).mono ?_; rintro e_ w2 ⟨v, rfl, h1, h2⟩)
  go_returns
  exact ⟨_, rfl, h1.mono (by rw [HS.out]; omega), after H h2⟩
end Go.Proofs.Ytmkmaoodeebmfaa
