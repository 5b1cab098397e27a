/- The first cell that stops a ray. -/
import Derived.Test.YtjlgcfdpfalbpaaRayV
namespace Go.Proofs.Ytjlgcfdpfalbpaa
open Go.RowKit Go.Shelf
attribute [local go_sem] Oper.semAt_some

theorem find_no {α : Type} {l : List α} {q : α → Bool} (h : ∀ j x, j < l.length → l[j]? = some x → q x = false) : l.find? q = none := by
  rw [List.find?_eq_none]
  intro x hx
  obtain ⟨j, hj, e⟩ := List.mem_iff_getElem.1 hx
  rw [h j x hj (by rw [List.getElem?_eq_getElem hj, e])]; decide
theorem find_at {α : Type} {q : α → Bool} {x : α} : ∀ {l : List α} {i : Nat}, l[i]? = some x → q x = true → (∀ j y, j < i → l[j]? = some y → q y = false) → l.find? q = some x := by
  intro l
  induction l with
  | nil => intro i h; cases h
  | cons a l ih =>
    intro i h hq hn
    cases i with
    | zero =>
      obtain rfl : a = x := by simpa using h
      rw [List.find?_cons_of_pos hq]
    | succ i =>
      have ha := hn 0 a (by omega) rfl
      rw [List.find?_cons_of_neg (by rw [ha]; decide)]
      exact ih (by simpa using h) hq (fun j y hj hy => hn (j + 1) y (by omega) (by simpa using hy))
abbrev hitA (c : I3) (b f t : Int) : Array Value := #[.int .i64 c.1, .int .i64 c.2.1, .int .i64 c.2.2, .int .i64 b, .int .i64 f, .int .i64 t]
/-- The first one that is so; none. -/
def castV (val : I3 → Int) (o : Option RH) : Value := match o with
  | some h => .tuple #[.agg (hitA h.1 (val h.1) h.2.1 h.2.2), .bool true]
  | none => .tuple #[.agg (hitA (0, 0, 0) 0 0 0), .bool false]
theorem leave_none {F : Fence} {n : Nat} {P : Program} {fn : Func} {R : Ending → World → Prop} {tmps : Array Value} {w : World} {v : Value} (hv : (results fn tmps).run P w = .ok v w) (hR : R (.returned v) w) : bodyPostM F n P fn R .ret { tmps := tmps, defers := [] } w := ⟨v, hv, hR⟩
/-- What a ray from a place within 2^46 sees. -/
abbrev seeL (x y z a b c R : Int) : List RH := traceP (rpOf x y z (qI a) (qI b) (qI c)) (rchI R)
def In46 (x y z : Int) : Prop := (-70368744177664 ≤ x ∧ x ≤ 70368744177664) ∧ (-70368744177664 ≤ y ∧ y ≤ 70368744177664) ∧ (-70368744177664 ≤ z ∧ z ≤ 70368744177664)
theorem In46.cut {x y z : Int} (h : In46 x y z) : cutI x = x ∧ cutI y = y ∧ cutI z = z := by unfold In46 at h; unfold cutI; omega
theorem rayit {x y z a b c R : Int} (h : In46 x y z) {w : World} {n : Nat} (A : Blk w n 26 #[.int .i64 (cutI x), .int .i64 (cutI y), .int .i64 (cutI z)]) (B : Blk w (n + 1) 26 #[.int .i64 (qI a), .int .i64 (qI b), .int .i64 (qI c)]) (D : Blk w (n + 1 + 1) 3 #[.int .i64 (rchI R)]) :
    Iter Try.prog 41 #[.pointer (some ⟨n, 0, none⟩), .pointer (some ⟨n + 1, 0, none⟩), .pointer (some ⟨n + 1 + 1, 0, none⟩)] encH (seeL x y z a b c R) (fun b => b = n ∨ b = n + 1 ∨ b = n + 1 + 1) w := by
  obtain ⟨e1, e2, e3⟩ := h.cut
  rw [e1, e2, e3] at A
  exact trace_it n (n + 1) (n + 1 + 1) x y z (qI a) (qI b) (qI c) (rchI R) h.1 h.2.1 h.2.2 (qI_bd a) (qI_bd b) (qI_bd c) (rchI_bd R).1 (rchI_bd R).2 w A B D
theorem ray_en : ∀ args w, (callFunc 41 args).run Try.prog w = .ok (.enter 41 args) w := enters_of Try.func41 (by kernel_rfl) rfl
set_option maxRecDepth 100000 in
set_option maxHeartbeats 8000000 in
theorem cast_c (V : FuncId) (lv : Array Value) (val : I3 → Int) (x y z a b c R : Int) (h46 : In46 x y z) (w : World)
    (eV : ∀ args w, (callFunc V args).run Try.prog w = .ok (.enter V args) w) (hV : Tells Try.prog V lv val w) :
    Calls Try.prog 11 #[.func (.func V) #[] lv, .agg #[.int .i64 x, .int .i64 y, .int .i64 z], .agg #[.int .i64 a, .int .i64 b, .int .i64 c], .int .i64 R] w fun r w' =>
      r = .returned (castV val ((seeL x y z a b c R).find? fun h => !yldB (val h.1))) ∧ Below w.heap.size w w' := by
  have HV := Lib.hid hV
  clear hV
  obtain ⟨W, hW⟩ : ∃ W, W = ((((w.alloc (.cells #[.func (.func V) #[] lv] 35)).alloc (.cells #[.int .i64 x, .int .i64 y, .int .i64 z] 26)).alloc (.cells #[.int .i64 a, .int .i64 b, .int .i64 c] 26)).alloc (.cells #[.int .i64 0, .int .i64 0, .int .i64 0, .int .i64 0, .int .i64 0, .int .i64 0] 31)).alloc (.cells #[.bool false] 4) := ⟨_, rfl⟩
  have H : Below w.heap.size w W := by rw [hW]; go_grown
  have b0 : Blk W w.heap.size 35 #[.func (.func V) #[] lv] := by rw [hW]; exact ((((Blk.new' rfl).alloc _).alloc _).alloc _).alloc _
  have b1 : Blk W (w.heap.size + 1) 26 #[.int .i64 x, .int .i64 y, .int .i64 z] := by rw [hW]; exact (((Blk.new' (by simp)).alloc _).alloc _).alloc _
  have b2 : Blk W (w.heap.size + 1 + 1) 26 #[.int .i64 a, .int .i64 b, .int .i64 c] := by rw [hW]; exact ((Blk.new' (by simp)).alloc _).alloc _
  have b3 : Blk W (w.heap.size + 1 + 1 + 1) 31 #[.int .i64 0, .int .i64 0, .int .i64 0, .int .i64 0, .int .i64 0, .int .i64 0] := by rw [hW]; exact (Blk.new' (by simp)).alloc _
  have b4 : Blk W (w.heap.size + 1 + 1 + 1 + 1) 4 #[.bool false] := by rw [hW]; exact Blk.new' (by simp)
  have hs : W.heap.size = w.heap.size + 5 := by rw [hW]; simp
  obtain ⟨N, hN⟩ : ∃ N, N = w.heap.size := ⟨_, rfl⟩
  rw [← hN] at b0 b1 b2 b3 b4 hs
  refine (callsIn_wide (n := 5)).1 (callsIn_of_wp_marks Try.func11 rfl trivial ?_ rfl)
  refine wpIn_wide.2 ?_
  simp only [Try.ntmps11, List.size_toArray, List.length_cons, List.length_nil, Nat.reduceAdd, Nat.reduceSub, Array.replicate_succ, Array.replicate_zero, List.push_toArray, List.append_toArray, List.nil_append, List.cons_append]
  go_upto_region 1 with (fail)
  rw [← hW, ← hN]
  have HN := Lib.hid hN
  have HS0 := Lib.hid hs
  clear hW hN hs
  obtain ⟨p0, p1, p2, -, -, -⟩ := b1.c3
  obtain ⟨q0, q1, q2, -, -, -⟩ := b2.c3
  have HRT := Lib.hid fun w => rtrace_c x y z a b c R w
  go_wp2_with (go_at_call 22; refine (HRT.out _).mono ?_; rintro e_ w1 ⟨rfl, k1, t1, t2, t3⟩)
  clear p0 p1 p2 q0 q1 q2 b1 b2 HRT
  rw [HS0.out] at t1 t2 t3 ⊢
  have hs1 : N + 8 ≤ w1.heap.size := t3.lt
  replace b0 := b0.on k1
  replace b3 := b3.on k1
  replace b4 := b4.on k1
  replace H := after H k1
  have HS := Lib.hid hs1
  clear k1 HS0 hs1
  have hit := rayit h46 t1 t2 t3
  have hcap : ∀ x, (x = N + 5 ∨ x = N + 5 + 1 ∨ x = N + 5 + 1 + 1) → x < w1.heap.size := fun x hx => by have := HS.out; omega
  obtain ⟨L, hLe⟩ : ∃ L, L = seeL x y z a b c R := ⟨_, rfl⟩
  rw [← hLe] at hit
  have HL := Lib.hid hLe
  clear hLe
  clear t1 t2 t3 h46
  refine wp_range (m := 3) (gf := 41) (lb := #[.pointer (some ⟨N + 5, 0, none⟩), .pointer (some ⟨N + 5 + 1, 0, none⟩), .pointer (some ⟨N + 5 + 1 + 1, 0, none⟩)]) rfl ray_en hit hcap (fun _ => rfl)
    (fun Z i A => Hid (∀ j x, j < i → L[j]? = some x → (!yldB (val x.1)) = false) ∧ Blk A N 35 #[.func (.func V) #[] lv] ∧ Blk A (N + 1 + 1 + 1) 31 (hitA (0, 0, 0) 0 0 0) ∧ Blk A (N + 1 + 1 + 1 + 1) 4 #[.bool false] ∧ Below w.heap.size w A)
    (fun Z k i A => k = .ret ∧ Hid (∀ j x, j < i → L[j]? = some x → (!yldB (val x.1)) = false) ∧ ∃ x, Hid (L[i]? = some x ∧ (!yldB (val x.1)) = true) ∧ Blk A (N + 1 + 1 + 1) 31 (hitA x.1 (val x.1) x.2.1 x.2.2) ∧ Blk A (N + 1 + 1 + 1 + 1) 4 #[.bool true] ∧ Below w.heap.size w A)
    ?_ ?_ (fun Z => ⟨fun j x h => by omega, b0, b3, b4, H⟩) ?round ?done ?stop
  · rintro Z i A B ⟨h1, h2, h4, h5, h6⟩ hk
    have lt : ∀ n, n < 8 → ¬ Priv w1.heap.size Z (N + n) := fun n hn h => by have := h.1; have := HS.out; omega
    exact ⟨h1, hk.blk (lt 0 (by omega)) h2, hk.blk (lt 3 (by omega)) h4, hk.blk (lt 4 (by omega)) h5, h6.trans (hk.below h6.size (fun b hb h => by have := h.1; have := HS.out; rw [← HN.out] at hb; omega))⟩
  · rintro Z k i A B ⟨h1, h2, x, h3, h4, h5, h6⟩ hk
    have lt : ∀ n, n < 8 → ¬ Priv w1.heap.size Z (N + n) := fun n hn h => by have := h.1; have := HS.out; omega
    exact ⟨h1, h2, x, h3, hk.blk (lt 3 (by omega)) h4, hk.blk (lt 4 (by omega)) h5, h6.trans (hk.below h6.size (fun b hb h => by have := h.1; have := HS.out; rw [← HN.out] at hb; omega))⟩
  case round =>
    rintro Z l i x A rfl hZ1 hZ2 hx ⟨h1, h2, h4, h5, h6⟩
    clear b0 b3 b4 H hit hcap
    gi_wp2
    refine ⟨(Kept.refl _ _).alloc _, fun A2 hA2 hz2 => ?_⟩
    have hs2 : A2.heap.size = A.heap.size + 1 := by rw [hz2]; simp
    have hs1 := HS.out
    have keep : ∀ n t cs, n < 8 → Blk A (N + n) t cs → Blk A2 (N + n) t cs := fun n t cs hn h => hA2.blk (show N + n ≠ w1.heap.size + 1 by omega) (h.alloc _)
    replace h2 : Blk A2 N 35 #[.func (.func V) #[] lv] := keep 0 _ _ (by omega) h2
    replace h4 : Blk A2 (N + 1 + 1 + 1) 31 (hitA (0, 0, 0) 0 0 0) := keep 3 _ _ (by omega) h4
    replace h5 : Blk A2 (N + 1 + 1 + 1 + 1) 4 #[.bool false] := keep 4 _ _ (by omega) h5
    have X : Blk A2 A.heap.size 31 (hitA x.1 0 x.2.1 x.2.2) := hA2.blk (show A.heap.size ≠ w1.heap.size + 1 by omega) (Blk.new' rfl)
    have hw2 : w.heap.size ≤ w1.heap.size := by rw [← HN.out]; omega
    replace h6 : Below w.heap.size w A2 := (h6.alloc h6.size _).trans (hA2.below (by simp; omega) (fun b hb => by omega))
    have HX := Lib.hid hx
    have H1 := Lib.hid h1
    have HZ := Lib.hid (And.intro hZ1 hZ2)
    have HS2 := Lib.hid hs2
    have HA := Lib.hid hs1
    clear hA2 hz2 keep hx h1 hZ1 hZ2 hs2 hs1 hw2
    have k0 := h2.cell 0
    obtain ⟨⟨x0, x1, x2, x3, x4, x5⟩, y0, y1, y2, y3, y4, y5⟩ := X.c6
    generalize A.heap.size = gx at X HS2 HZ x0 x1 x2 x3 x4 x5 y0 y1 y2 y3 y4 y5 ⊢
    have hgx3 : N + 1 + 1 + 1 ≠ gx := by have := HZ.out; have := HA.out; omega
    have hgx4 : N + 1 + 1 + 1 + 1 ≠ gx := by have := HZ.out; have := HA.out; omega
    have HV1 := Lib.hid fun W (h : Below A2.heap.size A2 W) => HV.out x.1 W (after h6 h)
    cases hy : yldB (val x.1)
    · have HY := Lib.hid hy
      have hyc := Lib.hid fun w => (show Calls Try.prog 30 #[.int .i64 (val x.1)] w fun r w' => r = .returned (.bool false) ∧ w = w' from by rw [← hy]; exact yields_c _ w)
      clear hy
      gi_wp2_with first
        | (refine ⟨trivial, ?_⟩; gi_at_call 30; refine (CallsIn.inRound _ (callsIn_wide.2 (hyc.out _))).mono ?_; rintro e_ w4 ⟨rfl, rfl⟩)
        | (refine ⟨trivial, ?_⟩; refine (CallsIn.inRound _ (callsIn_wide.2 (HV1.out _ (Below.refl _ _)))).mono ?_; rintro e_ w3 ⟨rfl, k3⟩; clear x0 x1 x2 x3 x4 x5 y0 y1 y2 y3 y4 y5; replace X := X.on k3; replace h2 := h2.on k3; replace h4 := h4.on k3; replace h5 := h5.on k3; obtain ⟨⟨x0, x1, x2, x3, x4, x5⟩, y0, y1, y2, y3, y4, y5⟩ := X.c6; obtain ⟨⟨r0, r1, r2, r3, r4, r5⟩, f0, f1, f2, f3, f4, f5⟩ := h4.c6; obtain ⟨s0, g0⟩ := h5.c1)
      have n3 : ¬ Keeps w1.heap.size Z (fun x => x = N + 5 ∨ x = N + 5 + 1 ∨ x = N + 5 + 1 + 1) (N + 1 + 1 + 1) := fun h => by have := HA.out; rcases h with h | h | h | h; exact absurd h.1 (by omega); all_goals omega
      have n4 : ¬ Keeps w1.heap.size Z (fun x => x = N + 5 ∨ x = N + 5 + 1 ∨ x = N + 5 + 1 + 1) (N + 1 + 1 + 1 + 1) := fun h => by have := HA.out; rcases h with h | h | h | h; exact absurd h.1 (by omega); all_goals omega
      have ng : ¬ Keeps w1.heap.size Z (fun x => x = N + 5 ∨ x = N + 5 + 1 ∨ x = N + 5 + 1 + 1) gx := fun h => by have := HA.out; have := HZ.out; rcases h with h | h | h | h; exact absurd h.2 (by omega); all_goals omega
      have e6 := after h6 k3
      have hn := HN.out
      have hl := h6.size
      have hgz : w.heap.size ≤ gx := by have := HZ.out; have := HA.out; omega
      refine ⟨(((Kept.of_below k3).setCell (p := ⟨gx, 3, none⟩) ng _).trans (kept6.mono (fun b hb e => n3 (by rw [← e]; exact hb)))).setCell (p := ⟨N + 1 + 1 + 1 + 1, 0, none⟩) n4 _, rfl, H1.out, x, ⟨HX.out, by rw [HY.out]; rfl⟩,
        ((h4.far (p := ⟨gx, 3, none⟩) (by dsimp only; omega) _).st6 _ _ _ _ _ _).far (p := ⟨N + 1 + 1 + 1 + 1, 0, none⟩) (by dsimp only; omega) _, (kept6.blk (by omega) (h5.far (p := ⟨gx, 3, none⟩) (by dsimp only; omega) _)).set_ 0 _, ?_⟩
      rw [hn]
      exact ((e6.setCell (p := ⟨gx, 3, none⟩) hgz _).trans ((kept6 (b := w.heap.size + 1 + 1 + 1)).below (n := w.heap.size) (by simp; have := k3.size; omega) (fun b hb e => by omega))).setCell (p := ⟨w.heap.size + 1 + 1 + 1 + 1, 0, none⟩) (by dsimp only; omega) _
    · have HY := Lib.hid hy
      have hyc := Lib.hid fun w => (show Calls Try.prog 30 #[.int .i64 (val x.1)] w fun r w' => r = .returned (.bool true) ∧ w = w' from by rw [← hy]; exact yields_c _ w)
      clear hy
      gi_wp2_with first
        | (refine ⟨trivial, ?_⟩; gi_at_call 30; refine (CallsIn.inRound _ (callsIn_wide.2 (hyc.out _))).mono ?_; rintro e_ w4 ⟨rfl, rfl⟩)
        | (refine ⟨trivial, ?_⟩; refine (CallsIn.inRound _ (callsIn_wide.2 (HV1.out _ (Below.refl _ _)))).mono ?_; rintro e_ w3 ⟨rfl, k3⟩)
      exact ⟨Kept.of_below k3, fun j y hj hy => (by
          rcases Nat.lt_or_eq_of_le (Nat.le_of_lt_succ hj) with e | e
          · exact H1.out j y e hy
          · subst e; rw [HX.out] at hy; obtain rfl := Option.some.inj hy; rw [HY.out]; rfl), h2.on k3, h4.on k3, h5.on k3, after h6 k3⟩
  case done =>
    rintro Z A ⟨h1, -, h4, h5, h6⟩ hK
    clear b0 b3 b4 H hit hcap
    obtain ⟨⟨r0, r1, r2, r3, r4, r5⟩, f0, f1, f2, f3, f4, f5⟩ := h4.c6
    obtain ⟨s0, g0⟩ := h5.c1
    have HK := Lib.hid hK
    clear hK
    go_wp2_with fail
    have hs1 := HS.out
    have hn := HN.out
    have hf : L.find? (fun h => !yldB (val h.1)) = none := find_no h1.out
    have e4 := ((h4.st6 (.int .i64 0) (.int .i64 0) (.int .i64 0) (.int .i64 0) (.int .i64 0) (.int .i64 0)).far (p := ⟨N + 1 + 1 + 1 + 1, 0, none⟩) (by dsimp only; omega) (.bool false)).putObj (D := w1.heap.size) (by omega) (.deferred none)
    have e5 := ((kept6 (b := N + 1 + 1 + 1) (x := .int .i64 0) (y := .int .i64 0) (z := .int .i64 0) (p := .int .i64 0) (q := .int .i64 0) (r := .int .i64 0)).blk (by omega) h5).set_ 0 (.bool false)
    obtain ⟨⟨d0, d1, d2, d3, d4, d5⟩, -, -, -, -, -, -⟩ := e4.c6
    obtain ⟨d6, -⟩ := (e5.putObj (D := w1.heap.size) (by omega) (.deferred none)).c1
    have hK' := def_far (p := ⟨N + 1 + 1 + 1 + 1, 0, none⟩) (u := .bool false) (((kept6 (b := N + 1 + 1 + 1) (x := .int .i64 0) (y := .int .i64 0) (z := .int .i64 0) (p := .int .i64 0) (q := .int .i64 0) (r := .int .i64 0)).block _ (Array.getElem?_eq_some_iff.1 HK.out).1 (by omega)).trans HK.out) (by dsimp only; omega)
    refine leave_mark hK' (v := castV val none) (by simp [results, Try.f11, go_sem, castV, d0, d1, d2, d3, d4, d5, d6]) ⟨by rw [← HL.out, hf], ?_⟩
    rw [hn]
    exact putObj_below ((h6.trans ((kept6 (b := w.heap.size + 1 + 1 + 1)).below (n := w.heap.size) h6.size (fun b hb e => by omega))).setCell (p := ⟨w.heap.size + 1 + 1 + 1 + 1, 0, none⟩) (by dsimp only; omega) _) (by omega) _
  case stop =>
    rintro Z k i A hi ⟨rfl, h1, x, hx, h4, h5, h6⟩ hK
    clear b0 b3 b4 H hit hcap
    have HK := Lib.hid hK
    clear hK
    go_wp2_with fail
    have hs1 := HS.out
    have hn := HN.out
    have hf : L.find? (fun h => !yldB (val h.1)) = some x := find_at hx.out.1 hx.out.2 h1.out
    obtain ⟨⟨d0, d1, d2, d3, d4, d5⟩, -, -, -, -, -, -⟩ := (h4.putObj (D := w1.heap.size) (by omega) (.deferred none)).c6
    obtain ⟨d6, -⟩ := (h5.putObj (D := w1.heap.size) (by omega) (.deferred none)).c1
    refine leave_mark HK.out (v := castV val (some x)) (by simp [results, Try.f11, go_sem, castV, d0, d1, d2, d3, d4, d5, d6]) ⟨by rw [← HL.out, hf], ?_⟩
    exact putObj_below h6 (by omega) _
end Go.Proofs.Ytjlgcfdpfalbpaa
