/- What a box meets: any, Blocked, Wet, Climbs, Stands. -/
import Derived.Test.YtmkmaoodeebmfaaFind
import Derived.Test.YtmkmaoodeebmfaaProbe1
import Derived.Test.YtmkmaoodeebmfaaUnder2
namespace Go.Proofs.Ytmkmaoodeebmfaa
open Go.RowKit Go.Shelf
attribute [local go_sem] Oper.semAt_some

theorem Tells.on {P : Program} {V : FuncId} {lb : Array Value} {val : Cl → Int} {w W : World} (h : Tells P V lb val w) (H : Below w.heap.size w W) : Tells P V lb val W :=
  fun c X hX => h c X (H.trans (hX.mono H.size))
theorem Says.on {P : Program} {G : FuncId} {lb : Array Value} {p : Int → Bool} {w W : World} (h : Says P G lb p w) (H : Below w.heap.size w W) : Says P G lb p W :=
  fun c X hX => h c X (H.trans (hX.mono H.size))
theorem find_any {α : Type} (l : List α) (q : α → Bool) : l.any q = (l.find? q).isSome := by
  rw [Bool.eq_iff_iff, List.find?_isSome, List.any_eq_true]
set_option maxRecDepth 100000 in
set_option maxHeartbeats 2000000 in
theorem any_c (V G : FuncId) (lv lg : Array Value) (val : Cl → Int) (p : Int → Bool) (a b c d e f : Int) (hB : BoxOk a b c d e f) (w : World)
    (eV : ∀ args w, (callFunc V args).run Try.prog w = .ok (.enter V args) w) (eG : ∀ args w, (callFunc G args).run Try.prog w = .ok (.enter G args) w) (hV : Tells Try.prog V lv val w) (hG : Says Try.prog G lg p w) :
    Calls Try.prog 42 #[.func (.func V) #[] lv, .agg #[.int .i64 a, .int .i64 b, .int .i64 c, .int .i64 d, .int .i64 e, .int .i64 f], .func (.func G) #[] lg] w fun r w' =>
      r = .returned (.bool ((cellsI a b c d e f).any fun x => p (val x))) ∧ Below w.heap.size w w' := by
  have hF : ∀ W, Below w.heap.size w W → Calls Try.prog 30 #[.func (.func V) #[] lv, .agg #[.int .i64 a, .int .i64 b, .int .i64 c, .int .i64 d, .int .i64 e, .int .i64 f], .func (.func G) #[] lg] W fun r w' => r = .returned (findV ((cellsI a b c d e f).find? fun x => p (val x))) ∧ Below W.heap.size W w' :=
    fun W H => find_c V G lv lg val p a b c d e f hB W eV eG (hV.on H) (hG.on H)
  clear hV hG eV eG hB
  rw [find_any]
  generalize (cellsI a b c d e f).find? (fun x => p (val x)) = o at hF ⊢
  rcases o with - | ⟨x, y, z⟩
  all_goals
    simp only [findV, Option.isSome] at hF ⊢
    replace hF := Lib.hid hF
    go_enter Try.func42, Try.ntmps42
    go_wp2_with (go_at_call 30; refine (hF.out _ (by go_grown)).mono ?_; rintro e_ w1 ⟨rfl, h1⟩)
    go_returns
    exact ⟨rfl, (after ((Below.refl _ w).alloc (Nat.le_refl _) _) h1).alloc (by have := h1.size; simp at this; omega) _⟩
theorem says_of {G : FuncId} {p : Int → Bool} (h : ∀ n w, Calls Try.prog G #[.int .i64 n] w fun r w' => r = .returned (.bool (p n)) ∧ w = w') (w : World) : Says Try.prog G #[] p w :=
  fun n W _ => (h n W).mono fun r w' h => ⟨h.1, by rw [← h.2]; exact Below.refl _ _⟩
set_option maxRecDepth 100000 in
set_option maxHeartbeats 2000000 in
theorem pmBlocked_c (V : FuncId) (lv : Array Value) (val : Cl → Int) (a b c d e f : Int) (hB : BoxOk a b c d e f) (w : World)
    (eV : ∀ args w, (callFunc V args).run Try.prog w = .ok (.enter V args) w) (hV : Tells Try.prog V lv val w) :
    Calls Try.prog 12 #[.func (.func V) #[] lv, .agg #[.int .i64 a, .int .i64 b, .int .i64 c, .int .i64 d, .int .i64 e, .int .i64 f]] w fun r w' =>
      r = .returned (.bool ((cellsI a b c d e f).any fun x => solB (val x))) ∧ Below w.heap.size w w' := by
  have hF : ∀ W, Below w.heap.size w W → Calls Try.prog 42 #[.func (.func V) #[] lv, .agg #[.int .i64 a, .int .i64 b, .int .i64 c, .int .i64 d, .int .i64 e, .int .i64 f], .func (.func 43) #[] #[]] W fun r w' => r = .returned (.bool ((cellsI a b c d e f).any fun x => solB (val x))) ∧ Below W.heap.size W w' :=
    fun W H => any_c V 43 lv #[] val solB a b c d e f hB W eV (enters_of Try.func43 (by kernel_rfl) rfl) (hV.on H) (says_of solid_c _)
  replace hF := Lib.hid hF
  clear hV eV hB
  go_enter Try.func12, Try.ntmps12
  go_wp2_with (go_at_call 42; refine (hF.out _ (by go_grown)).mono ?_; rintro e_ w1 ⟨rfl, h1⟩)
  go_returns
  exact ⟨rfl, by (repeat' (first | (with_reducible exact Below.refl _ _) | (with_reducible assumption) | (with_reducible refine Below.alloc ?_ ?_ _) | (with_reducible refine Below.drew ?_) | (with_reducible refine Below.setCell ?_ ?_ _) | (with_reducible refine after ?_ (below_regrown _ _ _)) | (refine after ?_ (by with_reducible assumption)) | go_size))⟩
set_option maxRecDepth 100000 in
set_option maxHeartbeats 2000000 in
theorem pmWet_c (V : FuncId) (lv : Array Value) (val : Cl → Int) (a b c d e f : Int) (hB : BoxOk a b c d e f) (w : World)
    (eV : ∀ args w, (callFunc V args).run Try.prog w = .ok (.enter V args) w) (hV : Tells Try.prog V lv val w) :
    Calls Try.prog 14 #[.func (.func V) #[] lv, .agg #[.int .i64 a, .int .i64 b, .int .i64 c, .int .i64 d, .int .i64 e, .int .i64 f]] w fun r w' =>
      r = .returned (.bool ((cellsI a b c d e f).any fun x => wetB (val x))) ∧ Below w.heap.size w w' := by
  have hF : ∀ W, Below w.heap.size w W → Calls Try.prog 42 #[.func (.func V) #[] lv, .agg #[.int .i64 a, .int .i64 b, .int .i64 c, .int .i64 d, .int .i64 e, .int .i64 f], .func (.func 44) #[] #[]] W fun r w' => r = .returned (.bool ((cellsI a b c d e f).any fun x => wetB (val x))) ∧ Below W.heap.size W w' :=
    fun W H => any_c V 44 lv #[] val wetB a b c d e f hB W eV (enters_of Try.func44 (by kernel_rfl) rfl) (hV.on H) (says_of wet_c _)
  replace hF := Lib.hid hF
  clear hV eV hB
  go_enter Try.func14, Try.ntmps14
  go_wp2_with (go_at_call 42; refine (hF.out _ (by go_grown)).mono ?_; rintro e_ w1 ⟨rfl, h1⟩)
  go_returns
  exact ⟨rfl, by (repeat' (first | (with_reducible exact Below.refl _ _) | (with_reducible assumption) | (with_reducible refine Below.alloc ?_ ?_ _) | (with_reducible refine Below.drew ?_) | (with_reducible refine Below.setCell ?_ ?_ _) | (with_reducible refine after ?_ (below_regrown _ _ _)) | (refine after ?_ (by with_reducible assumption)) | go_size))⟩
set_option maxRecDepth 100000 in
set_option maxHeartbeats 2000000 in
theorem pmClimbs_c (V : FuncId) (lv : Array Value) (val : Cl → Int) (a b c d e f : Int) (hB : BoxOk a b c d e f) (w : World)
    (eV : ∀ args w, (callFunc V args).run Try.prog w = .ok (.enter V args) w) (hV : Tells Try.prog V lv val w) :
    Calls Try.prog 16 #[.func (.func V) #[] lv, .agg #[.int .i64 a, .int .i64 b, .int .i64 c, .int .i64 d, .int .i64 e, .int .i64 f]] w fun r w' =>
      r = .returned (.bool ((cellsI a b c d e f).any fun x => cliB (val x))) ∧ Below w.heap.size w w' := by
  have hF : ∀ W, Below w.heap.size w W → Calls Try.prog 42 #[.func (.func V) #[] lv, .agg #[.int .i64 a, .int .i64 b, .int .i64 c, .int .i64 d, .int .i64 e, .int .i64 f], .func (.func 45) #[] #[]] W fun r w' => r = .returned (.bool ((cellsI a b c d e f).any fun x => cliB (val x))) ∧ Below W.heap.size W w' :=
    fun W H => any_c V 45 lv #[] val cliB a b c d e f hB W eV (enters_of Try.func45 (by kernel_rfl) rfl) (hV.on H) (says_of climbs_c _)
  replace hF := Lib.hid hF
  clear hV eV hB
  go_enter Try.func16, Try.ntmps16
  go_wp2_with (go_at_call 42; refine (hF.out _ (by go_grown)).mono ?_; rintro e_ w1 ⟨rfl, h1⟩)
  go_returns
  exact ⟨rfl, by (repeat' (first | (with_reducible exact Below.refl _ _) | (with_reducible assumption) | (with_reducible refine Below.alloc ?_ ?_ _) | (with_reducible refine Below.drew ?_) | (with_reducible refine Below.setCell ?_ ?_ _) | (with_reducible refine after ?_ (below_regrown _ _ _)) | (refine after ?_ (by with_reducible assumption)) | go_size))⟩
set_option maxRecDepth 100000 in
set_option maxHeartbeats 2000000 in
theorem pmStands_c (V : FuncId) (lv : Array Value) (val : Cl → Int) (a b c d e f : Int) (h1 : -140737488355328 ≤ b) (h2 : b ≤ 140737488355328) (hB : BoxOk a (cutI (b - 1)) c d b f) (w : World)
    (eV : ∀ args w, (callFunc V args).run Try.prog w = .ok (.enter V args) w) (hV : Tells Try.prog V lv val w) :
    Calls Try.prog 18 #[.func (.func V) #[] lv, .agg #[.int .i64 a, .int .i64 b, .int .i64 c, .int .i64 d, .int .i64 e, .int .i64 f]] w fun r w' =>
      r = .returned (.bool ((cellsI a (cutI (b - 1)) c d b f).any fun x => solB (val x))) ∧ Below w.heap.size w w' := by
  have hF : ∀ W, Below w.heap.size w W → Calls Try.prog 12 #[.func (.func V) #[] lv, .agg #[.int .i64 a, .int .i64 (cutI (b - 1)), .int .i64 c, .int .i64 d, .int .i64 b, .int .i64 f]] W fun r w' => r = .returned (.bool ((cellsI a (cutI (b - 1)) c d b f).any fun x => solB (val x))) ∧ Below W.heap.size W w' :=
    fun W H => pmBlocked_c V lv val a (cutI (b - 1)) c d b f hB W eV (hV.on H)
  have hU := fun W => under_c a b c d e f h1 h2 W
  replace hF := Lib.hid hF
  replace hU := Lib.hid hU
  clear hV eV hB h1 h2
  generalize cutI (b - 1) = b' at hF hU ⊢
  go_enter Try.func18, Try.ntmps18
  go_wp2_with first
    | (go_at_call 23; refine (hU.out _).mono ?_; rintro e_ w1 ⟨rfl, h1⟩)
    | (go_at_call 12; refine (hF.out _ (after ((Below.refl _ w).alloc (Nat.le_refl _) _) h1)).mono ?_; rintro e_ w2 ⟨rfl, h2⟩)
  go_returns
  exact ⟨rfl, after (after ((Below.refl _ w).alloc (Nat.le_refl _) _) h1) h2⟩
end Go.Proofs.Ytmkmaoodeebmfaa
