/- The first cell of a box that is so. -/
import Derived.Test.YtmkmaoodeebmfaaEach
namespace Go.Proofs.Ytmkmaoodeebmfaa
open Go.RowKit Go.Shelf
attribute [local go_sem] Oper.semAt_some

theorem peach_c (a b c d e f : Int) (w : World) : Calls Try.prog 47 #[.agg #[.int .i64 a, .int .i64 b, .int .i64 c, .int .i64 d, .int .i64 e, .int .i64 f]] w fun r w' =>
    r = .returned (.func (.func 60) #[] #[.pointer (some ⟨w.heap.size, 0, none⟩)]) ∧ w' = w.alloc (.cells #[.int .i64 a, .int .i64 b, .int .i64 c, .int .i64 d, .int .i64 e, .int .i64 f] 28) := by
  have hmf : ∀ (fn : Fn) (first cap : Array Value) (w : World), (Instr.makeFunc fn first cap).run Try.prog w = .ok (.func fn first cap) w := fun _ _ _ _ => rfl
  go_enter Try.func47, Try.ntmps47
  go_wp2_with fail
  go_returns
  exact ⟨rfl, rfl⟩
theorem find_no {α : Type} {l : List α} {q : α → Bool} (h : ∀ j x, j < l.length → l[j]? = some x → q x = false) : l.find? q = none := by
  rw [List.find?_eq_none]
  intro x hx
  obtain ⟨j, hj, e⟩ := List.mem_iff_getElem.1 hx
  rw [h j x hj (by rw [List.getElem?_eq_getElem hj, e])]; decide
theorem find_at {α : Type} {q : α → Bool} {x : α} : ∀ {l : List α} {i : Nat}, l[i]? = some x → q x = true → (∀ j y, j < i → l[j]? = some y → q y = false) → l.find? q = some x := by
  intro l
  induction l with
  | nil => intro i h; cases h
  | cons a l ih =>
    intro i h hq hn
    cases i with
    | zero =>
      obtain rfl : a = x := by simpa using h
      rw [List.find?_cons_of_pos hq]
    | succ i =>
      have ha := hn 0 a (by omega) rfl
      rw [List.find?_cons_of_neg (by rw [ha]; decide)]
      exact ih (by simpa using h) hq (fun j y hj hy => hn (j + 1) y (by omega) (by simpa using hy))
/-- The first cell of which it is so; none. -/
def findV (o : Option Cl) : Value := match o with
  | some c => .tuple #[.agg #[.int .i64 c.1, .int .i64 c.2.1, .int .i64 c.2.2], .bool true]
  | none => .tuple #[.agg #[.int .i64 0, .int .i64 0, .int .i64 0], .bool false]
/-- A view's word: it tells val, and makes only new memory. -/
def Tells (P : Program) (V : FuncId) (lb : Array Value) (val : Cl → Int) (w : World) : Prop :=
  ∀ c W, Below w.heap.size w W → Calls P V (#[.agg #[.int .i64 c.1, .int .i64 c.2.1, .int .i64 c.2.2]] ++ lb) W fun r W' => r = .returned (.int .i64 (val c)) ∧ Below W.heap.size W W'
def Says (P : Program) (G : FuncId) (lb : Array Value) (p : Int → Bool) (w : World) : Prop :=
  ∀ n W, Below w.heap.size w W → Calls P G (#[.int .i64 n] ++ lb) W fun r W' => r = .returned (.bool (p n)) ∧ Below W.heap.size W W'
set_option maxRecDepth 100000 in
set_option maxHeartbeats 8000000 in
theorem find_c (V G : FuncId) (lv lg : Array Value) (val : Cl → Int) (p : Int → Bool) (a b c d e f : Int) (hB : BoxOk a b c d e f) (w : World)
    (eV : ∀ args w, (callFunc V args).run Try.prog w = .ok (.enter V args) w) (eG : ∀ args w, (callFunc G args).run Try.prog w = .ok (.enter G args) w) (hV : Tells Try.prog V lv val w) (hG : Says Try.prog G lg p w) :
    Calls Try.prog 30 #[.func (.func V) #[] lv, .agg #[.int .i64 a, .int .i64 b, .int .i64 c, .int .i64 d, .int .i64 e, .int .i64 f], .func (.func G) #[] lg] w fun r w' =>
      r = .returned (findV ((cellsI a b c d e f).find? fun x => p (val x))) ∧ Below w.heap.size w w' := by
  have HV := Lib.hid hV
  have HG := Lib.hid hG
  clear hV hG
  obtain ⟨W, hW⟩ : ∃ W, W = ((((w.alloc (.cells #[.func (.func V) #[] lv] 31)).alloc (.cells #[.int .i64 a, .int .i64 b, .int .i64 c, .int .i64 d, .int .i64 e, .int .i64 f] 28)).alloc (.cells #[.func (.func G) #[] lg] 55)).alloc (.cells #[.int .i64 0, .int .i64 0, .int .i64 0] 40)).alloc (.cells #[.bool false] 4) := ⟨_, rfl⟩
  have H : Below w.heap.size w W := by rw [hW]; go_grown
  have b0 : Blk W w.heap.size 31 #[.func (.func V) #[] lv] := by rw [hW]; exact ((((Blk.new' rfl).alloc _).alloc _).alloc _).alloc _
  have b1 : Blk W (w.heap.size + 1) 28 #[.int .i64 a, .int .i64 b, .int .i64 c, .int .i64 d, .int .i64 e, .int .i64 f] := by rw [hW]; exact (((Blk.new' (by simp)).alloc _).alloc _).alloc _
  have b2 : Blk W (w.heap.size + 1 + 1) 55 #[.func (.func G) #[] lg] := by rw [hW]; exact ((Blk.new' (by simp)).alloc _).alloc _
  have b3 : Blk W (w.heap.size + 1 + 1 + 1) 40 #[.int .i64 0, .int .i64 0, .int .i64 0] := by rw [hW]; exact (Blk.new' (by simp)).alloc _
  have b4 : Blk W (w.heap.size + 1 + 1 + 1 + 1) 4 #[.bool false] := by rw [hW]; exact Blk.new' (by simp)
  have hs : W.heap.size = w.heap.size + 5 := by rw [hW]; simp
  obtain ⟨N, hN⟩ : ∃ N, N = w.heap.size := ⟨_, rfl⟩
  rw [← hN] at b0 b1 b2 b3 b4 hs
  refine (callsIn_wide (n := 5)).1 (callsIn_of_wp_marks Try.func30 rfl trivial ?_ rfl)
  refine wpIn_wide.2 ?_
  simp only [Try.ntmps30, List.size_toArray, List.length_cons, List.length_nil, Nat.reduceAdd, Nat.reduceSub, Array.replicate_succ, Array.replicate_zero, List.push_toArray, List.append_toArray, List.nil_append, List.cons_append]
  go_upto_region 1 with (fail)
  rw [← hW, ← hN]
  have HN := Lib.hid hN
  have HS0 := Lib.hid hs
  clear hW hN hs
  obtain ⟨a0, a1, a2, a3, a4, a5⟩ := b1.c6.1
  go_wp2_with (go_at_call 47; refine (peach_c _ _ _ _ _ _ _).mono ?_; rintro e_ w1 ⟨rfl, rfl⟩)
  generalize hV : World.alloc W _ = W1
  have bE : Blk W1 W.heap.size 28 #[.int .i64 a, .int .i64 b, .int .i64 c, .int .i64 d, .int .i64 e, .int .i64 f] := Blk.eqw hV (Blk.new' rfl)
  replace b0 := Blk.eqw hV (b0.alloc _)
  replace b1 := Blk.eqw hV (b1.alloc _)
  replace b2 := Blk.eqw hV (b2.alloc _)
  replace b3 := Blk.eqw hV (b3.alloc _)
  replace b4 := Blk.eqw hV (b4.alloc _)
  replace H : Below w.heap.size w W1 := by rw [← hV]; exact H.alloc H.size _
  have hs1 : W1.heap.size = N + 6 := by rw [← hV]; simp [HS0.out]
  rw [HS0.out] at bE ⊢
  clear hV a0 a1 a2 a3 a4 a5
  have HS := Lib.hid hs1
  clear hs1 HS0
  refine wp_range (m := 3) (gf := 60) (lb := #[.pointer (some ⟨N + 5, 0, none⟩)]) rfl (enters_of Try.func60 (by kernel_rfl) rfl) (each_it (N + 5) a b c d e f hB W1 bE) (fun b hb => by rw [hb]; exact bE.lt) (fun _ => rfl)
    (fun Z i A => Hid (∀ j x, j < i → (cellsI a b c d e f)[j]? = some x → p (val x) = false) ∧ Blk A N 31 #[.func (.func V) #[] lv] ∧ Blk A (N + 1 + 1) 55 #[.func (.func G) #[] lg] ∧ Blk A (N + 1 + 1 + 1) 40 #[.int .i64 0, .int .i64 0, .int .i64 0] ∧ Blk A (N + 1 + 1 + 1 + 1) 4 #[.bool false] ∧ Below w.heap.size w A)
    (fun Z k i A => k = .ret ∧ Hid (∀ j x, j < i → (cellsI a b c d e f)[j]? = some x → p (val x) = false) ∧ ∃ x, Hid ((cellsI a b c d e f)[i]? = some x ∧ p (val x) = true) ∧ Blk A (N + 1 + 1 + 1) 40 #[.int .i64 x.1, .int .i64 x.2.1, .int .i64 x.2.2] ∧ Blk A (N + 1 + 1 + 1 + 1) 4 #[.bool true] ∧ Below w.heap.size w A)
    ?_ ?_ (fun Z => ⟨fun j x h => by omega, b0, b2, b3, b4, H⟩) ?round ?done ?stop
  · rintro Z i A B ⟨h1, h2, h3, h4, h5, h6⟩ hk
    have lt : ∀ n, n < 6 → ¬ Priv W1.heap.size Z (N + n) := fun n hn h => by have := h.1; rw [HS.out] at this; omega
    exact ⟨h1, hk.blk (lt 0 (by omega)) h2, hk.blk (lt 2 (by omega)) h3, hk.blk (lt 3 (by omega)) h4, hk.blk (lt 4 (by omega)) h5, h6.trans (hk.below h6.size (fun b hb h => by have := h.1; rw [HS.out] at this; rw [← HN.out] at hb; omega))⟩
  · rintro Z k i A B ⟨h1, h2, x, h3, h4, h5, h6⟩ hk
    have lt : ∀ n, n < 6 → ¬ Priv W1.heap.size Z (N + n) := fun n hn h => by have := h.1; rw [HS.out] at this; omega
    exact ⟨h1, h2, x, h3, hk.blk (lt 3 (by omega)) h4, hk.blk (lt 4 (by omega)) h5, h6.trans (hk.below h6.size (fun b hb h => by have := h.1; rw [HS.out] at this; rw [← HN.out] at hb; omega))⟩
  case round =>
    rintro Z l i x A rfl hZ1 hZ2 hx ⟨h1, h2, h3, h4, h5, h6⟩
    clear b0 b1 b2 b3 b4 H bE
    gi_wp2
    refine ⟨(Kept.refl _ _).alloc _, fun A2 hA2 hz2 => ?_⟩
    have hs2 : A2.heap.size = A.heap.size + 1 := by rw [hz2]; simp
    have hs1 := HS.out
    have keep : ∀ n t cs, n < 6 → Blk A (N + n) t cs → Blk A2 (N + n) t cs := fun n t cs hn h => hA2.blk (show N + n ≠ W1.heap.size + 1 by omega) (h.alloc _)
    replace h2 : Blk A2 N 31 #[.func (.func V) #[] lv] := keep 0 _ _ (by omega) h2
    replace h3 : Blk A2 (N + 1 + 1) 55 #[.func (.func G) #[] lg] := keep 2 _ _ (by omega) h3
    replace h4 : Blk A2 (N + 1 + 1 + 1) 40 #[.int .i64 0, .int .i64 0, .int .i64 0] := keep 3 _ _ (by omega) h4
    replace h5 : Blk A2 (N + 1 + 1 + 1 + 1) 4 #[.bool false] := keep 4 _ _ (by omega) h5
    have X : Blk A2 A.heap.size 40 #[.int .i64 x.1, .int .i64 x.2.1, .int .i64 x.2.2] := hA2.blk (show A.heap.size ≠ W1.heap.size + 1 by omega) (Blk.new' rfl)
    have hw2 : w.heap.size ≤ W1.heap.size := by rw [hs1, ← HN.out]; omega
    replace h6 : Below w.heap.size w A2 := (h6.alloc h6.size _).trans (hA2.below (by simp; omega) (fun b hb => by omega))
    have HX := Lib.hid hx
    have H1 := Lib.hid h1
    have HZ := Lib.hid (And.intro hZ1 hZ2)
    have HS2 := Lib.hid hs2
    clear hA2 hz2 keep hx h1 hZ1 hZ2 hs2 hs1 hw2
    have k0 := fun d os => (h2.re d os).cell 0
    have k2 := fun d os => (h3.re d os).cell 0
    obtain ⟨x0, x1, x2⟩ := X.re3
    generalize A.heap.size = gx at X HS2 HZ x0 x1 x2 ⊢
    cases hp : p (val x)
    · have HG1 : ∀ d os, Calls Try.prog G (#[.int .i64 (val x)] ++ lg) (Go.Sort.grow (redrawn A2 d) os) fun r W' => r = .returned (.bool false) ∧ Below (Go.Sort.grow (redrawn A2 d) os).heap.size (Go.Sort.grow (redrawn A2 d) os) W' := fun d os => by
        have := HG.out (val x) (Go.Sort.grow (redrawn A2 d) os) (h6.trans ((below_regrown A2 d os).mono h6.size)); rwa [hp] at this
      have HV1 : ∀ d os, Calls Try.prog V (#[.agg #[.int .i64 x.1, .int .i64 x.2.1, .int .i64 x.2.2]] ++ lv) (Go.Sort.grow (redrawn A2 d) os) fun r W' => r = .returned (.int .i64 (val x)) ∧ Below (Go.Sort.grow (redrawn A2 d) os).heap.size (Go.Sort.grow (redrawn A2 d) os) W' := fun d os =>
        HV.out x (Go.Sort.grow (redrawn A2 d) os) (h6.trans ((below_regrown A2 d os).mono h6.size))
      have HP := Lib.hid hp
      replace HG1 := Lib.hid HG1
      replace HV1 := Lib.hid HV1
      clear hp
      gi_wp2
      refine in_sched [0, 0, 0, 0, 0] (fun _ _ _ => True) (by kernel_rfl) (by kernel_rfl) (fun _ _ _ _ h _ => h) (by kernel_rfl) (fun ⟨_, _, h⟩ => h) ?_
      repeat (first | (refine wpQs_s ?_) | (refine wpQs_q (fun K hK => ?_); go_simp; first | (refine hK _ ?_; clear hK K) | (apply Exists.intro; refine ⟨fun _ => ?_, hK _ ?_⟩; (first | exact HV1.out _ _ | exact HG1.out _ _); clear hK K)) | (refine wpQs_f (fun K hK => ?_); go_simp; refine hK _ ?_; clear hK K))
      refine wpQs_nil ?_
      repeat (first | (refine wpLs_skip ?_) | (refine wpLs_one ?lsA (fun v_ => ?_); case lsA => (intro w_ hw_ hp_; (fail))))
      refine wpLs_nilB ?_
      simp only [tails]
      intro w3 h7 _
      simp only [wpList, Exit.then]
      go_at_K
      gi_wp2
      exact ⟨Kept.of_below h7, fun j y hj hy => (by
        rcases Nat.lt_or_eq_of_le (Nat.le_of_lt_succ hj) with e | e
        · exact H1.out j y e hy
        · subst e; rw [HX.out] at hy; obtain rfl := Option.some.inj hy; exact HP.out), h2.on h7, h3.on h7, h4.on h7, h5.on h7, after h6 h7⟩
    · have HG1 : ∀ d os, Calls Try.prog G (#[.int .i64 (val x)] ++ lg) (Go.Sort.grow (redrawn A2 d) os) fun r W' => r = .returned (.bool true) ∧ Below (Go.Sort.grow (redrawn A2 d) os).heap.size (Go.Sort.grow (redrawn A2 d) os) W' := fun d os => by
        have := HG.out (val x) (Go.Sort.grow (redrawn A2 d) os) (h6.trans ((below_regrown A2 d os).mono h6.size)); rwa [hp] at this
      have HV1 : ∀ d os, Calls Try.prog V (#[.agg #[.int .i64 x.1, .int .i64 x.2.1, .int .i64 x.2.2]] ++ lv) (Go.Sort.grow (redrawn A2 d) os) fun r W' => r = .returned (.int .i64 (val x)) ∧ Below (Go.Sort.grow (redrawn A2 d) os).heap.size (Go.Sort.grow (redrawn A2 d) os) W' := fun d os =>
        HV.out x (Go.Sort.grow (redrawn A2 d) os) (h6.trans ((below_regrown A2 d os).mono h6.size))
      have HP := Lib.hid hp
      replace HG1 := Lib.hid HG1
      replace HV1 := Lib.hid HV1
      clear hp
      gi_wp2
      refine in_sched [0, 0, 0, 0, 0] (fun _ _ _ => True) (by kernel_rfl) (by kernel_rfl) (fun _ _ _ _ h _ => h) (by kernel_rfl) (fun ⟨_, _, h⟩ => h) ?_
      repeat (first | (refine wpQs_s ?_) | (refine wpQs_q (fun K hK => ?_); go_simp; first | (refine hK _ ?_; clear hK K) | (apply Exists.intro; refine ⟨fun _ => ?_, hK _ ?_⟩; (first | exact HV1.out _ _ | exact HG1.out _ _); clear hK K)) | (refine wpQs_f (fun K hK => ?_); go_simp; refine hK _ ?_; clear hK K))
      refine wpQs_nil ?_
      repeat (first | (refine wpLs_skip ?_) | (refine wpLs_one ?lsA (fun v_ => ?_); case lsA => (intro w_ hw_ hp_; (fail))))
      refine wpLs_nilB ?_
      simp only [tails]
      intro w3 h7 _
      replace X := X.on h7
      replace h4 := h4.on h7
      replace h5 := h5.on h7
      clear x0 x1 x2
      obtain ⟨x0, x1, x2, -, -, -⟩ := X.c3
      obtain ⟨r0, r1, r2, f0, f1, f2⟩ := h4.c3
      obtain ⟨s0, g0⟩ := h5.c1
      simp only [wpList, Exit.then]
      go_at_K
      gi_wp2
      have hs1 := HS.out
      have n3 : ¬ Keeps W1.heap.size Z (· = N + 5) (N + 1 + 1 + 1) := fun h => by rcases h with h | h; exact absurd h.1 (by omega); exact absurd (show N + 1 + 1 + 1 = N + 5 from h) (by omega)
      have n4 : ¬ Keeps W1.heap.size Z (· = N + 5) (N + 1 + 1 + 1 + 1) := fun h => by rcases h with h | h; exact absurd h.1 (by omega); exact absurd (show N + 1 + 1 + 1 + 1 = N + 5 from h) (by omega)
      refine ⟨((((Kept.of_below h7).setCell (p := ⟨N + 1 + 1 + 1, 0, none⟩) n3 _).setCell (p := ⟨N + 1 + 1 + 1, 1, none⟩) n3 _).setCell (p := ⟨N + 1 + 1 + 1, 2, none⟩) n3 _).setCell (p := ⟨N + 1 + 1 + 1 + 1, 0, none⟩) n4 _, rfl, H1.out, x, ⟨HX.out, HP.out⟩,
        (h4.st3 _ _ _).far (by dsimp only; omega) _, (((h5.far (p := ⟨N + 1 + 1 + 1, 0, none⟩) (by dsimp only; omega) _).far (p := ⟨N + 1 + 1 + 1, 1, none⟩) (by dsimp only; omega) _).far (p := ⟨N + 1 + 1 + 1, 2, none⟩) (by dsimp only; omega) _).set_ 0 _, ?_⟩
      replace h6 := after h6 h7
      rw [← HN.out] at h6 ⊢
      exact (((h6.setCell (p := ⟨N + 1 + 1 + 1, 0, none⟩) (by dsimp only; omega) _).setCell (p := ⟨N + 1 + 1 + 1, 1, none⟩) (by dsimp only; omega) _).setCell (p := ⟨N + 1 + 1 + 1, 2, none⟩) (by dsimp only; omega) _).setCell (p := ⟨N + 1 + 1 + 1 + 1, 0, none⟩) (by dsimp only; omega) _
  case done =>
    rintro Z A ⟨h1, -, -, h4, h5, h6⟩ hK
    clear b0 b1 b2 b3 b4 H bE
    obtain ⟨r0, r1, r2, f0, f1, f2⟩ := h4.c3
    obtain ⟨s0, g0⟩ := h5.c1
    have HK := Lib.hid hK
    clear hK
    go_wp2_with fail
    have hs1 := HS.out
    have hf : (cellsI a b c d e f).find? (fun x => p (val x)) = none := find_no h1.out
    have e4 := ((h4.st3 (.int .i64 0) (.int .i64 0) (.int .i64 0)).far (p := ⟨N + 1 + 1 + 1 + 1, 0, none⟩) (by dsimp only; omega) (.bool false)).putObj (D := W1.heap.size) (by omega) (.deferred none)
    have e5 := (((h5.far (p := ⟨N + 1 + 1 + 1, 0, none⟩) (by dsimp only; omega) (.int .i64 0)).far (p := ⟨N + 1 + 1 + 1, 1, none⟩) (by dsimp only; omega) (.int .i64 0)).far (p := ⟨N + 1 + 1 + 1, 2, none⟩) (by dsimp only; omega) (.int .i64 0)).set_ 0 (.bool false)
    obtain ⟨d0, d1, d2, -, -, -⟩ := e4.c3
    obtain ⟨d3, -⟩ := (e5.putObj (D := W1.heap.size) (by omega) (.deferred none)).c1
    have hK' := def_far (p := ⟨N + 1 + 1 + 1 + 1, 0, none⟩) (u := .bool false) (def_far (p := ⟨N + 1 + 1 + 1, 2, none⟩) (u := .int .i64 0) (def_far (p := ⟨N + 1 + 1 + 1, 1, none⟩) (u := .int .i64 0) (def_far (p := ⟨N + 1 + 1 + 1, 0, none⟩) (u := .int .i64 0) HK.out (by dsimp only; omega)) (by dsimp only; omega)) (by dsimp only; omega)) (by dsimp only; omega)
    refine leave_mark hK' (v := findV none) (by simp [results, Try.f30, go_sem, findV, d0, d1, d2, d3]) ⟨by rw [hf], ?_⟩
    rw [← HN.out] at h6 ⊢
    exact putObj_below ((((h6.setCell (p := ⟨N + 1 + 1 + 1, 0, none⟩) (by dsimp only; omega) _).setCell (p := ⟨N + 1 + 1 + 1, 1, none⟩) (by dsimp only; omega) _).setCell (p := ⟨N + 1 + 1 + 1, 2, none⟩) (by dsimp only; omega) _).setCell (p := ⟨N + 1 + 1 + 1 + 1, 0, none⟩) (by dsimp only; omega) _) (by omega) _
  case stop =>
    rintro Z k i A hi ⟨rfl, h1, x, hx, h4, h5, h6⟩ hK
    clear b0 b1 b2 b3 b4 H bE
    obtain ⟨r0, r1, r2, -, -, -⟩ := h4.c3
    obtain ⟨s0, g0⟩ := h5.c1
    have HK := Lib.hid hK
    clear hK
    go_wp2_with fail
    have hs1 := HS.out
    have hf : (cellsI a b c d e f).find? (fun x => p (val x)) = some x := find_at hx.out.1 hx.out.2 h1.out
    obtain ⟨d0, d1, d2, -, -, -⟩ := (h4.putObj (D := W1.heap.size) (by omega) (.deferred none)).c3
    obtain ⟨d3, -⟩ := (h5.putObj (D := W1.heap.size) (by omega) (.deferred none)).c1
    refine leave_mark HK.out (v := findV (some x)) (by simp [results, Try.f30, go_sem, findV, d0, d1, d2, d3]) ⟨by rw [hf], ?_⟩
    rw [← HN.out] at h6 ⊢
    exact putObj_below h6 (by omega) _
end Go.Proofs.Ytmkmaoodeebmfaa
