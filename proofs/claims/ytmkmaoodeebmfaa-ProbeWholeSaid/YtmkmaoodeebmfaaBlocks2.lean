/- The blocks that a box overlaps: gathered, sorted, each once. -/
import Derived.Test.YtmkmaoodeebmfaaColl
import Derived.Test.YtmkmaoodeebmfaaMeet3
import Derived.Test.YtmkmaoodeebmfaaBlocks1
import Derived.Test.YtmkmaoodeebmfaaShelf
namespace Go.Proofs.Ytmkmaoodeebmfaa
open Go.RowKit Go.Shelf Go.Sort
attribute [local go_sem] Oper.semAt_some

theorem Owns.ne_mark {w : World} {base g n cap D size : Nat} {e : TypeId} {α : Type} {enc : α → List Value} {xs : List α} {o : Option (List Deferred)} (h : Owns w base e size enc (.slice (some ⟨g, 0, none⟩) n cap) xs) (hK : w.heap[D]? = some (.deferred o)) : g ≠ D := by
  rcases h.2 with ⟨h0, -⟩ | ⟨g', cp, cur, hv, hbg, hg, r⟩
  · cases h0
  · cases hv
    rintro rfl
    rw [hK] at hg; cases hg
theorem Owns.marked {w : World} {base D size : Nat} {v : Value} {e : TypeId} {α : Type} {enc : α → List Value} {xs : List α} {o : Option (List Deferred)} (h : Owns w base e size enc v xs) (hK : w.heap[D]? = some (.deferred o)) (o' : Obj) : Owns (w.putObj D o') base e size enc v xs := by
  refine ⟨h.1, ?_⟩
  rcases h.2 with h0 | ⟨g, cp, cur, hv, hbg, hg, r⟩
  · exact .inl h0
  · refine .inr ⟨g, cp, cur, hv, hbg, (World.putObj_heap_other (fun e => ?_)).trans hg, r⟩
    rw [e, hK] at hg
    cases hg
set_option maxRecDepth 100000 in
set_option maxHeartbeats 8000000 in
theorem pblocks_c (V : FuncId) (lv : Array Value) (val : Cl → Int) (a b c d e f : Int) (hB : BoxOk a b c d e f) (hL : (cellsI a b c d e f).length ≤ 1000000) (w : World)
    (eV : ∀ args w, (callFunc V args).run Try.prog w = .ok (.enter V args) w) (hV : Tells Try.prog V lv val w) :
    Calls Try.prog 33 #[.func (.func V) #[] lv, .agg #[.int .i64 a, .int .i64 b, .int .i64 c, .int .i64 d, .int .i64 e, .int .i64 f]] w fun r w' =>
      ∃ v, r = .returned v ∧ Owns w' w.heap.size 3 1 encI v (setL ((cellsI a b c d e f).map val)) ∧ Below w.heap.size w w' := by
  have HV := Lib.hid hV
  clear hV
  obtain ⟨W, hW⟩ : ∃ W, W = ((w.alloc (.cells #[.func (.func V) #[] lv] 31)).alloc (.cells #[.int .i64 a, .int .i64 b, .int .i64 c, .int .i64 d, .int .i64 e, .int .i64 f] 28)).alloc (.cells #[.slice none 0 0] 22) := ⟨_, rfl⟩
  have H : Below w.heap.size w W := by rw [hW]; go_grown
  have b0 : Blk W w.heap.size 31 #[.func (.func V) #[] lv] := by rw [hW]; exact ((Blk.new' rfl).alloc _).alloc _
  have b1 : Blk W (w.heap.size + 1) 28 #[.int .i64 a, .int .i64 b, .int .i64 c, .int .i64 d, .int .i64 e, .int .i64 f] := by rw [hW]; exact (Blk.new' (by simp)).alloc _
  have b2 : Blk W (w.heap.size + 1 + 1) 22 #[.slice none 0 0] := by rw [hW]; exact Blk.new' (by simp)
  have hs : W.heap.size = w.heap.size + 3 := by rw [hW]; simp
  obtain ⟨N, hN⟩ : ∃ N, N = w.heap.size := ⟨_, rfl⟩
  rw [← hN] at b0 b1 b2 hs
  have HL := Lib.hid hL
  clear hL
  refine (callsIn_wide (n := 5)).1 (callsIn_of_wp_marks Try.func33 rfl trivial ?_ rfl)
  refine wpIn_wide.2 ?_
  simp only [Try.ntmps33, List.size_toArray, List.length_cons, List.length_nil, Nat.reduceAdd, Nat.reduceSub, Array.replicate_succ, Array.replicate_zero, List.push_toArray, List.append_toArray, List.nil_append, List.cons_append]
  go_upto_region 2 with (fail)
  rw [← hW, ← hN]
  have HN := Lib.hid hN
  have HS0 := Lib.hid hs
  clear hW hN hs
  obtain ⟨a0, a1, a2, a3, a4, a5⟩ := b1.c6.1
  go_wp2_with (go_at_call 47; refine (peach_c _ _ _ _ _ _ _).mono ?_; rintro e_ w1 ⟨rfl, rfl⟩)
  generalize hV : World.alloc W _ = W1
  have bE : Blk W1 W.heap.size 28 #[.int .i64 a, .int .i64 b, .int .i64 c, .int .i64 d, .int .i64 e, .int .i64 f] := Blk.eqw hV (Blk.new' rfl)
  replace b0 := Blk.eqw hV (b0.alloc _)
  replace b2 := Blk.eqw hV (b2.alloc _)
  replace H : Below w.heap.size w W1 := by rw [← hV]; exact H.alloc H.size _
  have hs1 : W1.heap.size = N + 4 := by rw [← hV]; simp [HS0.out]
  rw [HS0.out] at bE ⊢
  clear hV a0 a1 a2 a3 a4 a5 b1
  have HS := Lib.hid hs1
  clear hs1 HS0
  generalize hxs : cellsI a b c d e f = xs at HL ⊢
  have hit := each_it (N + 3) a b c d e f hB W1 bE
  rw [hxs] at hit
  have HXS := Lib.hid hxs
  clear hxs
  refine wp_range (m := 3) (gf := 60) (lb := #[.pointer (some ⟨N + 3, 0, none⟩)]) rfl (enters_of Try.func60 (by kernel_rfl) rfl) hit (fun b hb => by rw [hb]; exact bE.lt) (fun _ => rfl)
    (fun Z i A => ∃ v, Blk A N 31 #[.func (.func V) #[] lv] ∧ Blk A (N + 1 + 1) 22 #[v] ∧ Hid (Owns A (max Z (N + 4)) 3 1 encI v ((xs.take i).map val)) ∧ Below w.heap.size w A)
    (fun Z k i A => False) ?_ ?_ (fun Z => ⟨_, b0, b2, by rw [List.take_zero]; exact Owns.nil, H⟩) ?round ?done ?stop
  · rintro Z i A B ⟨v, h0, h1, h2, h3⟩ hk
    have lt : ∀ n, n < 4 → ¬ Priv W1.heap.size Z (N + n) := fun n hn h => by have := h.1; rw [HS.out] at this; omega
    exact ⟨v, hk.blk (lt 0 (by omega)) h0, hk.blk (lt 2 (by omega)) h1, h2.out.kept (fun g hg hgs => hk.block g hgs (fun h => by have := h.2; have := Nat.le_max_left Z (N + 4); omega)), h3.trans (hk.below h3.size (fun b hb h => by have := h.1; rw [HS.out] at this; rw [← HN.out] at hb; omega))⟩
  · rintro Z k i A B h _; exact h.elim
  case round =>
    rintro Z l i x A rfl hZ1 hZ2 hx ⟨v, h0, h1, h2, h3⟩
    clear b0 b2 H bE hit
    gi_wp2
    refine ⟨(Kept.refl _ _).alloc _, fun A2 hA2 hz2 => ?_⟩
    have hs1 := HS.out
    have hmx : max Z (N + 4) = Z := by omega
    rw [hmx] at h2
    have keep : ∀ n t cs, n < 4 → Blk A (N + n) t cs → Blk A2 (N + n) t cs := fun n t cs hn h => hA2.blk (show N + n ≠ W1.heap.size + 1 by omega) (h.alloc _)
    replace h0 : Blk A2 N 31 #[.func (.func V) #[] lv] := keep 0 _ _ (by omega) h0
    replace h1 : Blk A2 (N + 1 + 1) 22 #[v] := keep 2 _ _ (by omega) h1
    have X : Blk A2 A.heap.size 40 #[.int .i64 x.1, .int .i64 x.2.1, .int .i64 x.2.2] := hA2.blk (show A.heap.size ≠ W1.heap.size + 1 by omega) (Blk.new' rfl)
    have V2 : Owns A2 Z 3 1 encI v ((xs.take i).map val) := (h2.out.on ((Below.refl _ _).alloc (Nat.le_refl _) _)).kept fun g hg hgs => hA2.block g hgs (show g ≠ W1.heap.size + 1 by omega)
    replace h3 : Below w.heap.size w A2 := (h3.alloc h3.size _).trans (hA2.below (by simp; have := h3.size; omega) (fun b hb => by rw [← HN.out] at hb; omega))
    have hz3 : Z ≤ A2.heap.size := by rw [hz2]; simp; omega
    have hi : i < xs.length := (List.getElem?_eq_some_iff.1 hx).1
    have HV1 : ∀ d os, Calls Try.prog V (#[.agg #[.int .i64 x.1, .int .i64 x.2.1, .int .i64 x.2.2]] ++ lv) (Go.Sort.grow (redrawn A2 d) os) fun r W' => r = .returned (.int .i64 (val x)) ∧ Below (Go.Sort.grow (redrawn A2 d) os).heap.size (Go.Sort.grow (redrawn A2 d) os) W' := fun d os =>
      HV.out x (Go.Sort.grow (redrawn A2 d) os) (h3.trans ((below_regrown A2 d os).mono h3.size))
    replace HV1 := Lib.hid HV1
    have HX := Lib.hid hx
    have HI := Lib.hid hi
    have HZ := Lib.hid (And.intro hZ1 (And.intro hmx hz3))
    generalize hval : val x = vl at HV1
    have HVL := Lib.hid hval
    clear hA2 hz2 keep hx hi hZ1 hZ2 hz3 hmx h2 hval
    have k0 := fun d os => (h0.re d os).cell 0
    have k2 := fun d os => (h1.re d os).cell 0
    obtain ⟨x0, x1, x2⟩ := X.re3
    clear X
    generalize A.heap.size = gx at x0 x1 x2 ⊢
    gi_wp2
    refine in_sched [0, 0, 0, 0, 2, 3, 3] (fun _ v w => ∃ b, v = .slice (some ⟨b, 0, none⟩) 1 1 ∧ Blk w b 3 #[.int .i64 vl]) (by kernel_rfl) (by kernel_rfl) (fun _ _ _ _ ⟨b, h1, h2⟩ h => ⟨b, h1, h2.on h⟩) (by kernel_rfl) (fun ⟨_, _, h⟩ => h) ?_
    repeat (first | (refine wpQs_s ?_) | (refine wpQs_q (fun K hK => ?_); go_simp; first | (refine hK _ ?_; clear hK K) | (apply Exists.intro; refine ⟨fun _ => ?_, hK _ ?_⟩; (exact HV1.out _ _); clear hK K)) | (refine wpQs_f (fun K hK => ?_); go_simp; refine hK _ ?_; clear hK K))
    refine wpQs_nil ?_
    repeat (first | (refine wpLs_skip ?_) | (refine wpLs_one ?lsA (fun v_ => ?_); case lsA => (intro w_ hw_ hp_; (go_simp; exact ⟨Kept.of_below ((Below.refl _ _).alloc (Nat.le_refl _) _), Blk.new' rfl⟩))))
    refine wpLs_nilB ?_
    simp only [tails]
    rintro A3 h7 ⟨-, b, rfl, hB3⟩
    have hz3 := HZ.out.2.2
    have hs1 := HS.out
    have hmx := HZ.out.2.1
    obtain ⟨v', w', hrun, V3, -, hb2, g9, c9, rfl⟩ := run_push (P := Try.prog) (ts := 22) (ty := 22) (x := vl) (b := b) Try.underlying22 infI rfl (by decide) (by decide) rfl (by simp [Value.oneCell']) (V2.on h7)
      (fun j u hu => by rw [hB3.cell j]; simpa using hu) (by have h1 := HI.out; have h2 := HL.out; rw [len_map_take h1]; omega) (Nat.le_trans hz3 h7.size)
    generalize ((xs.take i).map val).length + 1 = n9 at hrun V3
    rw [← HVL.out, ← map_push HX.out] at V3
    have hZ4 : N + 4 ≤ Z := by omega
    have O0 := (h0.on h7).below hb2 (show N < Z by omega)
    have O := (h1.on h7).below hb2 (show N + 1 + 1 < Z by omega)
    have f0 := O.frz 0
    have o0 := O.cell 0
    have hk3 : Kept (Keeps W1.heap.size Z (· = N + 3)) A2 w' := (Kept.of_below h7).trans ⟨hb2.os, hb2.tape, hb2.output, hb2.size, fun b hb hK => hb2.block b (by
      rcases hK with h | h
      · exact h.2
      · have : b = N + 3 := h; omega)⟩
    have hk4 := hk3.setCell (p := ⟨N + 1 + 1, 0, none⟩) (fun h => by
      rcases h with h | h
      · have := h.1; dsimp only at this; omega
      · exact absurd (show N + 1 + 1 = N + 3 from h) (by omega)) (.slice (some ⟨g9, 0, none⟩) n9 c9)
    have hfin : Below w.heap.size w (w'.setCell ⟨N + 1 + 1, 0, none⟩ (.slice (some ⟨g9, 0, none⟩) n9 c9)) := (after h3 h7 |>.trans (hb2.mono (by rw [← HN.out]; omega))).setCell (p := ⟨N + 1 + 1, 0, none⟩) (by rw [← HN.out]; dsimp only; omega) _
    have V4 := V3.far (p := ⟨N + 1 + 1, 0, none⟩) (show N + 1 + 1 < Z by omega) (.slice (some ⟨g9, 0, none⟩) n9 c9)
    rw [← hmx] at V4
    have HF := Lib.hid (And.intro hk4 (And.intro (O0.far (p := ⟨N + 1 + 1, 0, none⟩) (by dsimp only; omega) (.slice (some ⟨g9, 0, none⟩) n9 c9)) (And.intro (O.set_ 0 (.slice (some ⟨g9, 0, none⟩) n9 c9)) (And.intro V4 hfin))))
    clear hs1 hmx hZ4 hz3 V2 V3 O0 O hk3 hk4 hfin V4 h0 h1 h3 hb2 hB3 k0 k2 x0 x1 x2
    go_wp2_with (at_builtin; refine Lib.wpList_append_run _ rfl _ _ _ _ rfl _ _ rfl rfl _ _ hrun ?_)
    exact ⟨HF.out.1, _, HF.out.2.1, HF.out.2.2.1, HF.out.2.2.2⟩
  case done =>
    rintro Z A ⟨v, h0, h1, h2, h3⟩ hK
    clear b0 b2 H bE hit h0
    replace h2 := h2.out
    rw [List.take_length] at h2
    obtain ⟨q, cp, rfl, k1, k2, -, k4, k5⟩ := h2.form lenI
    have hbase : w.heap.size ≤ max Z (N + 4) := by rw [← HN.out]; omega
    have hml : (xs.map val).length = xs.length := by simp
    generalize hys : xs.map val = ys at h1 h2 k1 k2 k4 k5 hml
    rw [← HXS.out] at hys
    have HYS := Lib.hid hys
    clear hys
    have HB := Lib.hid hbase
    have HK := Lib.hid hK
    have HD := Lib.hid (show N + 4 = W1.heap.size from HS.out.symm)
    clear hK hbase k2 k4
    by_cases hn : ys.length = 0
    · obtain rfl : ys = [] := List.eq_nil_of_length_eq_zero hn
      have H2 := Lib.hid (And.intro h2 h3)
      have v0 : A.cell? ⟨N + 1 + 1, 0, none⟩ = some (.slice q 0 cp) := h1.cell 0
      clear h1
      clear k5 hml hn h2 h3 k1
      go_wp2_with first
        | (go_at_call 55; refine (Try.slices_Sort_int_none _ _ _).mono ?_; rintro e_ w2 ⟨rfl, rfl⟩)
        | (go_at_call 56; refine (Try.slices_Compact_int_empty _ _ _).mono ?_; rintro e_ w2 ⟨rfl, rfl⟩)
      refine leave_mark HK.out (v := .slice q 0 cp) (by simp [results, Try.f33, go_sem]) ⟨_, rfl, ?_, putObj_below H2.out.2 (by rw [← HN.out, HS.out]; omega) _⟩
      rw [HYS.out, setL_nil]
      exact (H2.out.1.mono HB.out).marked HK.out _
    · obtain ⟨g, rfl⟩ := k5 (by omega)
      have hne := h2.ne_mark HK.out
      obtain ⟨hH, hg, hbg, hnext⟩ := owns_sorted h2
      have hS : ∀ w, w = A → Calls Try.prog 55 #[.slice (some ⟨g, 0, none⟩) ys.length cp] w fun e w' => e = .returned (.tuple #[]) ∧ Owns w' (max Z (N + 4)) 3 1 encI (.slice (some ⟨g, 0, none⟩) ys.length cp) (sortL ys) ∧ A.grownBy w' (some g) := by
        rintro w rfl
        refine (Try.slices_Sort_int g 0 cp ys w hH hg (by have := HL.out; omega)).mono ?_
        rintro e_ w' ⟨rfl, n, os, rfl⟩
        exact ⟨rfl, hnext n os⟩
      have H2 := Lib.hid hS
      have H3 := Lib.hid h3
      have HNE := Lib.hid hne
      have hN2 := Lib.hid (show N + 1 + 1 ≠ g by omega)
      have O1 := Lib.hid h1
      have v0 : A.cell? ⟨N + 1 + 1, 0, none⟩ = some (.slice (some ⟨g, 0, none⟩) ys.length cp) := h1.cell 0
      have HBG := Lib.hid hbg
      clear hnext h3 hne hH hg h2 hml k5 hbg h1 hS
      go_upto_region 6 with (go_at_call 55; refine (H2.out _ rfl).mono ?_; rintro e_ W2 ⟨rfl, V2, hgr⟩)
      have HSZ := Lib.hid (Nat.le_trans (Array.getElem?_eq_some_iff.1 HK.out).1 hgr.size)
      have HK2 : W2.heap[W1.heap.size]? = some (.deferred (some [])) := (hgr.block _ (Array.getElem?_eq_some_iff.1 HK.out).1 (fun h => HNE.out (Option.some.inj h).symm)).trans HK.out
      have O2 : Blk W2 (N + 1 + 1) 22 #[.slice (some ⟨g, 0, none⟩) ys.length cp] := (hgr.block _ O1.out.lt (fun h => hN2.out (Option.some.inj h))).trans O1.out
      have H4 := Lib.hid (H3.out.grown hgr H3.out.size (fun k hk => by obtain rfl := Option.some.inj hk; exact Nat.le_trans HB.out HBG.out))
      have HK3 := Lib.hid HK2
      clear HK2 hgr v0
      rw [← sortL_len ys] at V2
      have hbg2 := Lib.hid (Nat.le_trans HB.out HBG.out)
      obtain ⟨hH, hsz, hcap, hnext⟩ := owns_compact V2
      rw [sortL_len] at hcap hsz
      have HNX := Lib.hid hnext
      have v0 : W2.cell? ⟨N + 1 + 1, 0, none⟩ = some (.slice (some ⟨g, 0, none⟩) ys.length cp) := O2.cell 0
      have hc : ∀ w, w = W2 → Calls Try.prog 56 #[.slice (some ⟨g, 0, none⟩) ys.length cp] w fun e w' => e = .returned (.slice (some ⟨g, 0, none⟩) (setL ys).length cp) ∧ Owns w' (max Z (N + 4)) 3 1 encI (.slice (some ⟨g, 0, none⟩) (setL ys).length cp) (setL ys) ∧ W2.grownBy w' (some g) := by
        rintro w rfl
        have := Try.slices_Compact_int g 0 cp (sortL ys) w hH (by rw [sortL_len]; exact hsz) (by rw [sortL_len]; exact hcap)
        rw [sortL_len] at this
        refine this.mono ?_
        rintro e_ w' ⟨rfl, n, rfl⟩
        have := HNX.out n
        rw [sortL_len] at this
        exact ⟨rfl, this⟩
      have HC := Lib.hid hc
      clear hc hH hsz hcap hnext V2 O2
      go_wp2_with (go_at_call 56; refine (HC.out _ rfl).mono ?_; rintro e_ w3 ⟨rfl, h5, h6⟩)
      have HK4 : w3.heap[W1.heap.size]? = some (.deferred (some [])) := (h6.block _ HSZ.out (fun h => HNE.out (Option.some.inj h).symm)).trans HK3.out
      refine leave_mark HK4 (v := .slice (some ⟨g, 0, none⟩) (setL ys).length cp) (by simp [results, Try.f33, go_sem]) ⟨_, rfl, ?_, putObj_below (H4.out.grown h6 H4.out.size (fun k hk => by obtain rfl := Option.some.inj hk; exact hbg2.out)) (by rw [← HN.out, HS.out]; omega) _⟩
      rw [HYS.out]
      exact (h5.mono HB.out).marked HK4 _
  case stop =>
    rintro Z k i A hi h
    exact h.elim
end Go.Proofs.Ytmkmaoodeebmfaa
