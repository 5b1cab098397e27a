/- The cells that a ray sees. -/
import Derived.Test.YtjlgcfdpfalbpaaRayK
namespace Go.Proofs.Ytjlgcfdpfalbpaa
open Go.RowKit Go.Shelf
attribute [local go_sem] Oper.semAt_some

theorem infC : (Try.prog.info? 29).map (fun i => (i.zero, i.size, i.bytes)) = some (some (.agg #[.int .i64 0, .int .i64 0, .int .i64 0]), 3, 24) := by kernel_rfl
theorem take_len {α : Type} {xs : List α} {i : Nat} (h : i ≤ xs.length) : (xs.take i).length = i := by rw [List.length_take]; omega
theorem near24 {i n : Nat} (h : i < n) (hn : n ≤ 1000000) : (i + 1) * 24 ≤ 140737488355328 := by omega
theorem Owns.mono {w : World} {b b' : Nat} {e : TypeId} {size : Nat} {α : Type} {enc : α → List Value} {v : Value} {xs : List α} (h : Owns w b e size enc v xs) (hb : b' ≤ b) : Owns w b' e size enc v xs := by
  refine ⟨h.1, ?_⟩
  rcases h.2 with h0 | ⟨g, cap, cur, hv, hbg, r⟩
  · exact .inl h0
  · exact .inr ⟨g, cap, cur, hv, Nat.le_trans hb hbg, r⟩
theorem wpListIn_append_run {F : Fence} {n' : Nat} {P : Program} (w : World) {ops : Array Oper} {rest : List Oper} {o : Oper} {a : Act} {Q : Exit → Act → World → Prop} (hgd : o.guard = none) (s x : Operand) (t tn : TypeId)
    (ho : o.op = .call { callee := .builtin .append, args := #[s, x], argTypes := #[t, tn] }) (vs vx : Value) (hs : a.eval s = vs) (hx : a.eval x = vx)
    (v' : Value) (w' : World) (hr : (Builtin.append_ #[t, tn] o.type #[vs, vx]).run P w = .ok v' w') (h : wpListIn F n' P ops Q rest (a.put o.dst v') w') : wpListIn F n' P ops Q (o :: rest) a w := by
  refine wpListIn_plain hgd fun K hK => ?_
  unfold Oper.wpIn
  refine ⟨?_, ?_⟩
  · simp [Oper.about, ho, resolve, Target.leads, Sem.run_pure]
  · rw [Oper.semAt_plain F _ _ (by rw [ho]; intro c hc'; cases hc')]
    simp [execOp, ho, resolve, invoke, builtin, hs, hx, hr, Result.andThen]
    exact hK _ _ h
theorem Iter.on {P : Program} {gf : Nat} {lb : Array Value} {α : Type} {encs : α → Array Value} {xs : List α} {cap : Nat → Prop} {w0 w1 : World} (h : Iter P gf lb encs xs cap w0) (hk : Kept cap w0 w1) : Iter P gf lb encs xs cap w1 :=
  fun m l J Jx W hW => h m l J Jx W (hk.trans hW)
theorem see_len (x y z a b c R : Int) : (seeL x y z a b c R).length ≤ 1000000 := by
  have h := trL_len (p := rpOf x y z (qI a) (qI b) (qI c)) (rchI_bd R).1 200 (0, 0, 0) (-1) 0
  have h2 := (rchI_bd R).2
  show (trL (rpOf x y z (qI a) (qI b) (qI c)) (rchI R) 200 (0, 0, 0) (-1) 0).length ≤ _
  omega
set_option maxRecDepth 100000 in
set_option maxHeartbeats 8000000 in
theorem cells_c (x y z a b c R : Int) (h46 : In46 x y z) (w : World) :
    Calls Try.prog 23 #[.agg #[.int .i64 x, .int .i64 y, .int .i64 z], .agg #[.int .i64 a, .int .i64 b, .int .i64 c], .int .i64 R] w fun r w' =>
      ∃ v, r = .returned v ∧ Owns w' w.heap.size 29 3 enc3 v ((seeL x y z a b c R).map (·.1)) ∧ Below w.heap.size w w' := by
  have HL := Lib.hid (see_len x y z a b c R)
  obtain ⟨W, hW⟩ : ∃ W, W = ((w.alloc (.cells #[.int .i64 x, .int .i64 y, .int .i64 z] 26)).alloc (.cells #[.int .i64 a, .int .i64 b, .int .i64 c] 26)).alloc (.cells #[.slice none 0 0] 55) := ⟨_, rfl⟩
  have H : Below w.heap.size w W := by rw [hW]; go_grown
  have b1 : Blk W w.heap.size 26 #[.int .i64 x, .int .i64 y, .int .i64 z] := by rw [hW]; exact ((Blk.new' rfl).alloc _).alloc _
  have b2 : Blk W (w.heap.size + 1) 26 #[.int .i64 a, .int .i64 b, .int .i64 c] := by rw [hW]; exact (Blk.new' (by simp)).alloc _
  have A0 : Blk W (w.heap.size + 1 + 1) 55 #[.slice none 0 0] := by rw [hW]; exact Blk.new' (by simp)
  have hs : W.heap.size = w.heap.size + 3 := by rw [hW]; simp
  obtain ⟨N, hN⟩ : ∃ N, N = w.heap.size := ⟨_, rfl⟩
  rw [← hN] at b1 b2 A0 hs
  refine (callsIn_wide (n := 5)).1 (callsIn_of_wp_marks Try.func23 rfl trivial ?_ rfl)
  refine wpIn_wide.2 ?_
  simp only [Try.ntmps23, List.size_toArray, List.length_cons, List.length_nil, Nat.reduceAdd, Nat.reduceSub, Array.replicate_succ, Array.replicate_zero, List.push_toArray, List.append_toArray, List.nil_append, List.cons_append]
  go_upto_region 2 with (fail)
  rw [← hW, ← hN]
  have HN := Lib.hid hN
  have HS0 := Lib.hid hs
  clear hW hN hs
  obtain ⟨p0, p1, p2, -, -, -⟩ := b1.c3
  obtain ⟨q0, q1, q2, -, -, -⟩ := b2.c3
  have HRT := Lib.hid fun w => rtrace_c x y z a b c R w
  go_wp2_with (go_at_call 22; refine (HRT.out _).mono ?_; rintro e_ W1 ⟨rfl, k1, t1, t2, t3⟩)
  clear p0 p1 p2 q0 q1 q2 b1 b2 HRT
  rw [HS0.out] at t1 t2 t3 ⊢
  have hs1 : N + 6 ≤ W1.heap.size := t3.lt
  replace A0 := A0.on k1
  replace H := after H k1
  have HS := Lib.hid hs1
  clear k1 HS0 hs1
  have hit := rayit h46 t1 t2 t3
  have hcap : ∀ x, (x = N + 3 ∨ x = N + 3 + 1 ∨ x = N + 3 + 1 + 1) → x < W1.heap.size := fun x hx => by have := HS.out; omega
  obtain ⟨L, hLe⟩ : ∃ L, L = seeL x y z a b c R := ⟨_, rfl⟩
  rw [← hLe] at hit HL
  have HLE := Lib.hid hLe
  clear t1 t2 t3 h46 hLe
  refine wp_range (m := 3) (gf := 41) (lb := #[.pointer (some ⟨N + 3, 0, none⟩), .pointer (some ⟨N + 3 + 1, 0, none⟩), .pointer (some ⟨N + 3 + 1 + 1, 0, none⟩)]) rfl ray_en hit hcap (fun _ => rfl)
    (fun Z i A => ∃ v, Blk A (N + 1 + 1) 55 #[v] ∧ Hid (Owns A (max Z (N + 6)) 29 3 enc3 v ((L.take i).map (·.1))) ∧ Below w.heap.size w A)
    (fun Z k i A => False) ?_ ?_ (fun Z => ⟨_, A0, by rw [List.take_zero]; exact Owns.nil, H⟩) ?round ?done ?stop
  · rintro Z i A B ⟨v, h1, h2, h3⟩ hk
    exact ⟨v, hk.blk (fun h => by have := h.1; have := HS.out; omega) h1, h2.out.kept (fun g hg hgs => hk.block g hgs (fun h => by have := h.2; have := Nat.le_max_left Z (N + 6); omega)), h3.trans (hk.below h3.size (fun b hb h => by have := h.1; have := HS.out; rw [← HN.out] at hb; omega))⟩
  · rintro Z k i A B h _; exact h.elim
  case round =>
    rintro Z l i x A rfl hZ1 hZ2 hx ⟨v, h1, h2, h3⟩
    clear A0 H hit hcap
    gi_wp2
    refine ⟨(Kept.refl _ _).alloc _, fun A2 hA2 hz2 => ?_⟩
    have hs1 := HS.out
    have hmx : max Z (N + 6) = Z := by omega
    rw [hmx] at h2
    replace h1 : Blk A2 (N + 1 + 1) 55 #[v] := hA2.blk (show N + 1 + 1 ≠ W1.heap.size + 1 by omega) (h1.alloc _)
    have X : Blk A2 A.heap.size 31 (hitA x.1 0 x.2.1 x.2.2) := hA2.blk (show A.heap.size ≠ W1.heap.size + 1 by omega) (Blk.new' rfl)
    have V : Owns A2 Z 29 3 enc3 v ((L.take i).map (·.1)) := (h2.out.on ((Below.refl _ _).alloc (Nat.le_refl _) _)).kept fun g hg hgs => hA2.block g hgs (show g ≠ W1.heap.size + 1 by omega)
    replace h3 : Below w.heap.size w A2 := (h3.alloc h3.size _).trans (hA2.below (by simp; have := h3.size; omega) (fun b hb => by rw [← HN.out] at hb; omega))
    have hz3 : Z ≤ A2.heap.size := by rw [hz2]; simp; omega
    have hi : i < L.length := (List.getElem?_eq_some_iff.1 hx).1
    have htk : (L.take (i + 1)).map (·.1) = (L.take i).map (·.1) ++ [x.1] := by rw [List.take_add_one, hx]; simp
    obtain ⟨A3, hA3⟩ : ∃ A3, A3 = A2.alloc (.cells #[.int .i64 x.1.1, .int .i64 x.1.2.1, .int .i64 x.1.2.2] 29) := ⟨_, rfl⟩
    have hb3 : Below A2.heap.size A2 A3 := by rw [hA3]; exact (Below.refl _ _).alloc (Nat.le_refl _) _
    have hNew : Blk A3 A2.heap.size 29 #[.int .i64 x.1.1, .int .i64 x.1.2.1, .int .i64 x.1.2.2] := by rw [hA3]; exact Blk.new' rfl
    have hll : ((L.take i).map (·.1)).length = i := by rw [List.length_map, take_len (by omega)]
    obtain ⟨v', w', hrun, V2, -, hb2, g9, c9, rfl⟩ := run_push (P := Try.prog) (ts := 55) (ty := 55) (x := x.1) (b := A2.heap.size) Try.underlying55 infC rfl (by decide) (by decide) rfl (by simp [Value.oneCell']) (V.on hb3)
      (fun j u hu => by rw [hNew.cell j]; simpa using hu) (by rw [hll]; exact near24 hi HL.out) (Nat.le_trans hz3 hb3.size)
    generalize ((L.take i).map (·.1)).length + 1 = n9 at hrun V2
    rw [← htk] at V2
    have O := (h1.on hb3).below hb2 (by omega)
    have f0 := O.frz 0
    have o0 := O.cell 0
    have hk3 : Kept (Keeps W1.heap.size Z (fun x => x = N + 3 ∨ x = N + 3 + 1 ∨ x = N + 3 + 1 + 1)) A2 w' := (Kept.of_below hb3).trans ⟨hb2.os, hb2.tape, hb2.output, hb2.size, fun b hb hK => hb2.block b (by
      rcases hK with h | h
      · exact h.2
      · omega)⟩
    have hk4 := hk3.setCell (p := ⟨N + 1 + 1, 0, none⟩) (fun h => by
      rcases h with h | h
      · have := h.1; dsimp only at this; omega
      · dsimp only at h; omega) (.slice (some ⟨g9, 0, none⟩) n9 c9)
    have hfin : Below w.heap.size w (w'.setCell ⟨N + 1 + 1, 0, none⟩ (.slice (some ⟨g9, 0, none⟩) n9 c9)) := (after h3 hb3 |>.trans (hb2.mono (by rw [← HN.out]; omega))).setCell (p := ⟨N + 1 + 1, 0, none⟩) (by rw [← HN.out]; dsimp only; omega) _
    have V3 := V2.far (p := ⟨N + 1 + 1, 0, none⟩) (show N + 1 + 1 < Z by omega) (.slice (some ⟨g9, 0, none⟩) n9 c9)
    rw [← hmx] at V3
    have HF := Lib.hid (And.intro hk4 (And.intro (O.set_ 0 (.slice (some ⟨g9, 0, none⟩) n9 c9)) (And.intro V3 hfin)))
    have v0 := h1.cell 0
    obtain ⟨⟨x0, x1, x2, x3, x4, x5⟩, -, -, -, -, -, -⟩ := X.c6
    rw [hA3] at hrun
    clear hA2 hz2 hs1 hmx V hz3 hi htk hA3 hb3 hNew V2 hb2 O hk3 hk4 hfin V3 hx hZ1 hZ2 h2 h3 h1 X hll
    generalize A.heap.size = gx at x0 x1 x2 x3 x4 x5 ⊢
    gi_wp2_with (gi_at_builtin; refine wpListIn_append_run _ rfl _ _ _ _ rfl _ _ rfl rfl _ _ hrun ?_)
    exact ⟨HF.out.1, _, HF.out.2.1, HF.out.2.2.1, HF.out.2.2.2⟩
  case done =>
    rintro Z A ⟨v, h1, h2, h3⟩ hK
    clear A0 H hit hcap
    have v0 := h1.cell 0
    have HK := Lib.hid hK
    clear hK
    go_wp2_with fail
    refine leave_mark HK.out (v := v) (by simp [results, Try.f23, go_sem]) ⟨v, rfl, ?_, ?_⟩
    · have h := h2.out
      rw [List.take_length, HLE.out] at h
      refine Owns.mono ?_ (show w.heap.size ≤ max Z (N + 6) by rw [← HN.out]; omega)
      refine ⟨h.1, ?_⟩
      rcases h.2 with h0 | ⟨g, cp, cur, hv, hbg, hg, r⟩
      · exact .inl h0
      · refine .inr ⟨g, cp, cur, hv, hbg, (World.putObj_heap_other (fun e => ?_)).trans hg, r⟩
        rw [e, HK.out] at hg
        cases hg
    · exact putObj_below h3 (by rw [← HN.out]; have := HS.out; omega) _
  case stop =>
    rintro Z k i A hi h
    exact h.elim
end Go.Proofs.Ytjlgcfdpfalbpaa
