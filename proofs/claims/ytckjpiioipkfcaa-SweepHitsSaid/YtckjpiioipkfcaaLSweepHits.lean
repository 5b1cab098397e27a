/- SweepHits holds: any hits, any speed. -/
import Derived.Test.YtckjpiioipkfcaaHit1
import Derived.Test.YtckjpiioipkfcaaNear2
import Derived.Test.YtckjpiioipkfcaaSmall
import Derived.OpenShut
namespace Go.Proofs.Ytckjpiioipkfcaa
open Go.ChangeShapes Go.WideShapes Go.ChangeAt Go.RowKit Go.Shelf
attribute [local go_sem] Oper.semAt_some

section
variable {H : Type} {enc : TypeId × Value → H} {P : Program}
theorem okWide_arr {w : World} {r : Reach} {b0 n : Nat} {t e : TypeId} {v : Value} (ht : P.underlying t = some (.array n e)) (h : Value.okWide P w r b0 t v) : ∃ cs, v = .agg cs ∧ cs.size = P.cellsOf t := by
  simp only [Value.okWide, ht] at h
  obtain ⟨cs, h1, h2, _⟩ := h
  exact ⟨cs, h1, h2⟩
theorem open_bool3 {w : World} {r : Reach} {b0 base : Nat} {spare : Nat → Bool} {held : Bool} {t e : TypeId} {v : Value} {d : DataW H} {p : List MemPlace} (ht : P.underlying t = some (.array 3 e)) (he : P.underlying e = some .bool) (hC : P.cellsOf t = 3) (hE : P.cellsOf e = 1)
    (hv : Value.okWide P w r b0 t v) (h : DataW.Trod enc P w base spare held t v d p) : ∃ a b c : Bool, v = .agg #[.bool a, .bool b, .bool c] := by
  obtain ⟨cs, rfl, hsz⟩ := okWide_arr ht hv
  obtain ⟨fuel, h⟩ := h
  obtain ⟨l⟩ := cs
  have hl : l.length = 3 := hsz.trans hC
  obtain ⟨xs, m, _, _, _, hxl, hg⟩ := DataW.trod_array ht h
  have hval : (Value.agg ⟨l⟩).cells.toList = l := rfl
  rw [hval, hE] at hg
  match l, hl with
  | [v0, v1, v2], _ =>
    match xs, hxl with
    | [y0, y1, y2], _ =>
      have g0 := hg 0 (by omega)
      have g1 := hg 1 (by omega)
      have g2 := hg 2 (by omega)
      obtain ⟨a, ha, _⟩ := DataW.trod_bool (x := y0) he g0
      obtain ⟨b, hb, _⟩ := DataW.trod_bool (x := y1) he g1
      obtain ⟨c, hc, _⟩ := DataW.trod_bool (x := y2) he g2
      simp at ha hb hc
      subst ha hb hc
      exact ⟨a, b, c, rfl⟩
end
theorem hits_guard : Try.prog.eqGuardType Try.prog.depth 46 = false := by kernel_rfl
theorem hits_ne (h0 h1 h2 : Bool) (w : World) : (binOp .neq 46 (.agg #[.bool h0, .bool h1, .bool h2]) (.agg #[.bool false, .bool false, .bool false])).run Try.prog w = .ok (.bool (h0 || h1 || h2)) w := by
  cases h0 <;> cases h1 <;> cases h2 <;> kernel_rfl
set_option maxRecDepth 100000 in
theorem hits_any_c (h0 h1 h2 : Bool) (w : World) : Calls Try.prog 23 #[.agg #[.bool h0, .bool h1, .bool h2]] w fun r w' => r = .returned (.bool (h0 || h1 || h2)) ∧ Below w.heap.size w w' := by
  have hg := hits_guard
  have hn := fun w => hits_ne h0 h1 h2 w
  cases h0 <;> cases h1 <;> cases h2
  all_goals
    go_enter Try.func23, Try.ntmps23
    go_wp2_with fail
    go_returns
    exact ⟨rfl, (Below.refl _ _).alloc (Nat.le_refl _) _⟩
theorem raxis_v (x y z a v : Int) (h : axI x y z a = v) (w : World) : Calls Try.prog 22 #[.agg #[.int .i64 x, .int .i64 y, .int .i64 z], .int .i64 a] w fun e w' => e = .returned (.int .i64 v) ∧ Below w.heap.size w w' := by subst h; exact raxis_c x y z a w
set_option maxRecDepth 100000 in
set_option maxHeartbeats 8000000 in
theorem sweepHits_c (h0 h1 h2 : Bool) (x y z : Int) (_ : In64 x) (_ : In64 y) (_ : In64 z) (w : World) :
    Calls Try.prog 5 #[.agg #[.bool h0, .bool h1, .bool h2], .agg #[.int .i64 x, .int .i64 y, .int .i64 z]] w fun e w' => e = .returned (.bool true) ∧ Below w.heap.size w w' := by
  obtain ⟨W, hW⟩ : ∃ W, W = (w.alloc (.cells #[.bool h0, .bool h1, .bool h2] 45)).alloc (.cells #[.int .i64 x, .int .i64 y, .int .i64 z] 26) := ⟨_, rfl⟩
  have H : Below w.heap.size w W := by rw [hW]; go_grown
  have A : Blk W w.heap.size 45 #[.bool h0, .bool h1, .bool h2] := Blk.eqw hW.symm ((Blk.new' rfl).alloc _)
  have V : Blk W (w.heap.size + 1) 26 #[.int .i64 x, .int .i64 y, .int .i64 z] := Blk.eqw hW.symm (Blk.new' (by simp))
  go_enter Try.func5, Try.ntmps5
  go_upto_region 1 with (fail)
  rw [← hW]
  clear hW
  generalize w.heap.size + 1 = gv at V ⊢
  obtain ⟨ga, hga⟩ : ∃ ga, ga = w.heap.size := ⟨_, rfl⟩
  rw [← hga] at A ⊢
  have HGA := Lib.hid hga
  clear hga
  obtain ⟨v0, v1, v2, -, -, -⟩ := V.c3
  go_upto_region 2 with (go_at_call 20; refine (rcutv_c _ _ _ _).mono ?_; rintro e_ w1 ⟨rfl, k1⟩)
  generalize hV : World.alloc w1 _ = W1
  have hy : Below w1.heap.size w1 W1 := by rw [← hV]; exact (Below.refl _ _).alloc (Nat.le_refl _) _
  have S : Blk W1 w1.heap.size 26 #[.int .i64 (cutI x), .int .i64 (cutI y), .int .i64 (cutI z)] := Blk.eqw hV (Blk.new' rfl)
  replace A := (A.on k1).on hy
  replace H := after (after H k1) hy
  clear hV hy k1 v0 v1 v2 V
  generalize w1.heap.size = gs at S ⊢
  generalize cutI x = sx at S ⊢
  generalize cutI y = sy at S ⊢
  generalize cutI z = sz at S ⊢
  obtain ⟨a0, a1, a2, -, -, -⟩ := A.c3
  obtain ⟨s0, s1, s2, -, -, -⟩ := S.c3
  go_upto_region 3 with (go_at_call 21; refine (stop_c _ _ _ _ _ _ _).mono ?_; rintro e_ w2 ⟨rfl, k2⟩)
  generalize hV : World.alloc w2 _ = W2
  have hy : Below w2.heap.size w2 W2 := by rw [← hV]; exact (Below.refl _ _).alloc (Nat.le_refl _) _
  have T : Blk W2 w2.heap.size 26 #[.int .i64 (zb h0 sx), .int .i64 (zb h1 sy), .int .i64 (zb h2 sz)] := Blk.eqw hV (Blk.new' rfl)
  replace A := (A.on k2).on hy
  replace S := (S.on k2).on hy
  replace H := after (after H k2) hy
  clear hV hy k2 a0 a1 a2 s0 s1 s2
  generalize w2.heap.size = gt at T ⊢
  go_upto_region 4 with (fail)
  go_loopw [7] (fun kv wr => (kv = .int .i64 0 ∨ kv = .int .i64 1 ∨ kv = .int .i64 2 ∨ kv = .int .i64 3) ∧ Blk wr ga 45 #[.bool h0, .bool h1, .bool h2] ∧ Blk wr gs 26 #[.int .i64 sx, .int .i64 sy, .int .i64 sz] ∧ Blk wr gt 26 #[.int .i64 (zb h0 sx), .int .i64 (zb h1 sy), .int .i64 (zb h2 sz)] ∧ Hid (Below w.heap.size w wr)) (fun v _ => 3 - (intOf v).toNat)
  case atStart => exact ⟨.inl rfl, A, S, T, H⟩
  case round =>
    clear A S T H
    obtain ⟨hd, A, S, T, H⟩ := hrel
    rcases hd with rfl | rfl | rfl | rfl
    · cases h0
      · obtain ⟨a0, a1, a2, -, -, -⟩ := A.c3
        obtain ⟨s0, s1, s2, -, -, -⟩ := S.c3
        go_upto_region 7 with (go_at_call 22; refine (raxis_v _ _ _ _ sx rfl _).mono ?_; rintro e_ w5 ⟨rfl, h5⟩)
        replace A := A.on h5
        replace S := S.on h5
        replace T := T.on h5
        replace H := after H.out h5
        clear a0 a1 a2 s0 s1 s2 h5
        obtain ⟨a0, a1, a2, -, -, -⟩ := A.c3
        obtain ⟨t0, t1, t2, -, -, -⟩ := T.c3
        go_wp2_with (go_at_call 22; refine (raxis_v _ _ _ _ sx rfl _).mono ?_; rintro e_ w6 ⟨rfl, h6⟩)
        go_roundw
        case rel => exact ⟨.inr (.inl rfl), A.on h6, S.on h6, T.on h6, after H h6⟩
        case measure => simp [intOf]
      · obtain ⟨a0, a1, a2, -, -, -⟩ := A.c3
        obtain ⟨s0, s1, s2, -, -, -⟩ := S.c3
        go_upto_region 7 with (go_at_call 22; refine (raxis_v _ _ _ _ sx rfl _).mono ?_; rintro e_ w5 ⟨rfl, h5⟩)
        replace A := A.on h5
        replace S := S.on h5
        replace T := T.on h5
        replace H := after H.out h5
        clear a0 a1 a2 s0 s1 s2 h5
        obtain ⟨a0, a1, a2, -, -, -⟩ := A.c3
        obtain ⟨t0, t1, t2, -, -, -⟩ := T.c3
        go_wp2_with (go_at_call 22; refine (raxis_v _ _ _ _ 0 rfl _).mono ?_; rintro e_ w6 ⟨rfl, h6⟩)
        go_roundw
        case rel => exact ⟨.inr (.inl rfl), A.on h6, S.on h6, T.on h6, after H h6⟩
        case measure => simp [intOf]
    · cases h1
      · obtain ⟨a0, a1, a2, -, -, -⟩ := A.c3
        obtain ⟨s0, s1, s2, -, -, -⟩ := S.c3
        go_upto_region 7 with (go_at_call 22; refine (raxis_v _ _ _ _ sy rfl _).mono ?_; rintro e_ w5 ⟨rfl, h5⟩)
        replace A := A.on h5
        replace S := S.on h5
        replace T := T.on h5
        replace H := after H.out h5
        clear a0 a1 a2 s0 s1 s2 h5
        obtain ⟨a0, a1, a2, -, -, -⟩ := A.c3
        obtain ⟨t0, t1, t2, -, -, -⟩ := T.c3
        go_wp2_with (go_at_call 22; refine (raxis_v _ _ _ _ sy rfl _).mono ?_; rintro e_ w6 ⟨rfl, h6⟩)
        go_roundw
        case rel => exact ⟨.inr (.inr (.inl rfl)), A.on h6, S.on h6, T.on h6, after H h6⟩
        case measure => simp [intOf]
      · obtain ⟨a0, a1, a2, -, -, -⟩ := A.c3
        obtain ⟨s0, s1, s2, -, -, -⟩ := S.c3
        go_upto_region 7 with (go_at_call 22; refine (raxis_v _ _ _ _ sy rfl _).mono ?_; rintro e_ w5 ⟨rfl, h5⟩)
        replace A := A.on h5
        replace S := S.on h5
        replace T := T.on h5
        replace H := after H.out h5
        clear a0 a1 a2 s0 s1 s2 h5
        obtain ⟨a0, a1, a2, -, -, -⟩ := A.c3
        obtain ⟨t0, t1, t2, -, -, -⟩ := T.c3
        go_wp2_with (go_at_call 22; refine (raxis_v _ _ _ _ 0 rfl _).mono ?_; rintro e_ w6 ⟨rfl, h6⟩)
        go_roundw
        case rel => exact ⟨.inr (.inr (.inl rfl)), A.on h6, S.on h6, T.on h6, after H h6⟩
        case measure => simp [intOf]
    · cases h2
      · obtain ⟨a0, a1, a2, -, -, -⟩ := A.c3
        obtain ⟨s0, s1, s2, -, -, -⟩ := S.c3
        go_upto_region 7 with (go_at_call 22; refine (raxis_v _ _ _ _ sz rfl _).mono ?_; rintro e_ w5 ⟨rfl, h5⟩)
        replace A := A.on h5
        replace S := S.on h5
        replace T := T.on h5
        replace H := after H.out h5
        clear a0 a1 a2 s0 s1 s2 h5
        obtain ⟨a0, a1, a2, -, -, -⟩ := A.c3
        obtain ⟨t0, t1, t2, -, -, -⟩ := T.c3
        go_wp2_with (go_at_call 22; refine (raxis_v _ _ _ _ sz rfl _).mono ?_; rintro e_ w6 ⟨rfl, h6⟩)
        go_roundw
        case rel => exact ⟨.inr (.inr (.inr rfl)), A.on h6, S.on h6, T.on h6, after H h6⟩
        case measure => simp [intOf]
      · obtain ⟨a0, a1, a2, -, -, -⟩ := A.c3
        obtain ⟨s0, s1, s2, -, -, -⟩ := S.c3
        go_upto_region 7 with (go_at_call 22; refine (raxis_v _ _ _ _ sz rfl _).mono ?_; rintro e_ w5 ⟨rfl, h5⟩)
        replace A := A.on h5
        replace S := S.on h5
        replace T := T.on h5
        replace H := after H.out h5
        clear a0 a1 a2 s0 s1 s2 h5
        obtain ⟨a0, a1, a2, -, -, -⟩ := A.c3
        obtain ⟨t0, t1, t2, -, -, -⟩ := T.c3
        go_wp2_with (go_at_call 22; refine (raxis_v _ _ _ _ 0 rfl _).mono ?_; rintro e_ w6 ⟨rfl, h6⟩)
        go_roundw
        case rel => exact ⟨.inr (.inr (.inr rfl)), A.on h6, S.on h6, T.on h6, after H h6⟩
        case measure => simp [intOf]
    · clear S T
      have hA := fun W => hits_any_c h0 h1 h2 W
      cases h0 <;> cases h1 <;> cases h2
      all_goals
        have HA := Lib.hid hA
        clear hA
        obtain ⟨a0, a1, a2⟩ := A.re3
        go_upto_region 11 with (fail)
        refine wp_sched [0, 0, 0, 0, 0, 0, 0, 0, 0, 0, 0, 0, 0, 0, 0, 0, 0] (fun _ _ _ => True) (by kernel_rfl) (by kernel_rfl) (fun _ _ _ _ h _ => h) ?_
        repeat (first | (refine wpQs_s ?_) | (refine wpQs_q (fun K hK => ?_); go_simp; first | (refine hK _ ?_; clear hK K) | (apply Exists.intro; refine ⟨fun _ => ?_, hK _ ?_⟩; (first | exact HA.out _ | exact slives_c _); clear hK K)) | (refine wpQs_f (fun K hK => ?_); go_simp; refine hK _ ?_; clear hK K))
        refine wpQs_nil ?_
        repeat (first | (refine wpLs_skip ?_) | (refine wpLs_one ?lsA (fun v_ => ?_); case lsA => (intro w_ hw_ hp_; (fail))))
        refine wpLs_nilB ?_
        simp only [tails]
        intro W9 k9 _
        clear a0 a1 a2
        go_wp2_with fail
        go_returns
        exact ⟨rfl, after H.out k9⟩

set_option maxRecDepth 100000 in
theorem sweepHits_lifted (os : Os) (started : os.Started) (H : Type) (enc : TypeId × Value → H) :
    ReturnsInHanded {} Try.checked os 5 .any (Rows.sweepHitsSpec.pre6 enc Try.prog Try.f5 Rows.sweepHitsRow.domain false) (Rows.sweepHitsSpec.post enc Try.prog Try.f5 false true false false) := by
  refine returnsInHanded_of_change (C := Try.checked) own started (by kernel_rfl) Try.func5
    (ChangeSpec.witness6 (enc := enc) (C := Try.checked) false ⟨#[], #[.agg #[.bool false, .bool false, .bool false], .agg #[.int .i64 0, .int .i64 0, .int .i64 0]], []⟩ 8 (by kernel_rfl) (by kernel_rfl) (by kernel_rfl) (by kernel_rfl)) ?_
  intro W base args ds gs before hval0 hW hcnd hsz
  have hval : ∀ (j : Nat) t v, Try.f5.params[j]? = some t → args[j]? = some v → Value.okWide Try.prog W .any base t v := hval0
  have hW' := hW
  obtain ⟨p, q, hA0, hV, rfl, hfz, hnd⟩ := hW
  have hA : DataW.TrodAll enc Try.prog W 0 (fun _ => true) true Try.f5.params.toList args.toList ds p := hA0
  rw [Try.params5] at hA hval
  obtain ⟨v0, vs0, d0, ds0, p_0, q_0, hargs, rfl, rfl, h0, r_0⟩ := trodAll_cons hA
  obtain ⟨v1, vs1, d1, ds1, p_1, q_1, rfl, rfl, rfl, h1, r_1⟩ := trodAll_cons r_0
  obtain ⟨rfl, rfl, rfl⟩ := trodAll_nil r_1
  obtain rfl : args = #[v0, v1] := by cases args; simp_all
  obtain ⟨rfl, rfl⟩ := trodVars_none hV
  obtain ⟨p0, q0, r0, rfl⟩ := open_bool3 Try.underlying45 Try.underlying4 (by kernel_rfl) (by kernel_rfl) (hval 0 45 v0 rfl rfl) h0
  obtain ⟨x1, y1, z1, rfl, wx1, wy1, wz1⟩ := open_vec Try.underlying26 (by kernel_rfl) (by kernel_rfl) Try.underlying3 (hval 1 26 v1 rfl rfl) h1
  refine (sweepHits_c p0 q0 r0 x1 y1 z1 wx1 wy1 wz1 W).mono fun e W' ⟨he, hb⟩ => ?_
  subst he
  exact ⟨_, rfl, law_post laidOut (by kernel_rfl) rfl (by kernel_rfl) Try.underlying4 hW' rfl rfl rfl hb⟩

/-- The statement. -/
theorem sweepHits_proved : Rows.SweepHitsSaid :=
  OpenClaim.holds_of_wide 5 Try.f5 rfl rfl rfl rfl rfl rfl rfl ⟨rfl, rfl, rfl, rfl, rfl⟩ rfl rfl rfl rfl rfl (by kernel_rfl) Try.func5 (by kernel_rfl)
    (of_decide_eq_true (by kernel_rfl)) (by unfold Func.isWrapper; first | (rw [if_pos (by decide +kernel)]; kernel_rfl) | (rw [if_neg (by decide +kernel)]; exact ⟨rfl, rfl⟩))
    (fun os started H enc _ => sweepHits_lifted os started H enc)
end Go.Proofs.Ytckjpiioipkfcaa
