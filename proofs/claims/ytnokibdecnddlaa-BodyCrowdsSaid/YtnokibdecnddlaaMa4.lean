/- Texts that build one behind the other, laid together: Each Find Probe1 Shut Bxs Off Under Under2 Meet1 Probe2 Probe3 Row Meet4 SwP SwP2 SwP3 SwP4 Free. -/
import Derived.Test.YtnokibdecnddlaaMa3
import Derived.Test.YtnokibdecnddlaaMa2
import Derived.Shelf.Abstract
import Derived.Shelf.RegionOpen
import Derived.OwnWalkIn
import Derived.TacticsInMore
import Derived.LoopNIn
import Derived.LoopIn
import Derived.Test.YtnokibdecnddlaaMa1
import Derived.Test.YtnokibdecnddlaaChecked
import Derived.Deep.Cut
import Derived.Test.YtnokibdecnddlaaRows
import Derived.ProofKit
import Derived.OpenShut
import Derived.Deep.Slices
import Derived.Lib.AppendZeros
import Derived.Deep.Upon
/- The cells of a box, one by one: what the iterator owes. -/
namespace Go.Proofs.Ytnokibdecnddlaa
open Go.RowKit Go.Shelf
attribute [local go_sem] Oper.semAt_some

/-- The cells that a box overlaps. -/
def cellsI (a b c d e f : Int) : List Cl := if isI a b c d e f then boxL (lowI a) (topI a d) (lowI b) (topI b e) (lowI c) (topI c f) else []
abbrev encC (c : Cl) : Array Value := #[.agg #[.int .i64 c.1, .int .i64 c.2.1, .int .i64 c.2.2]]
theorem topI_bd {n m : Int} : -2147483649 ≤ topI n m ∧ topI n m ≤ 2147483648 := by
  have := lowI_bd m
  unfold topI
  split <;> omega
set_option maxRecDepth 100000 in
set_option maxHeartbeats 8000000 in
theorem each_it (B : Nat) (a b c d e f : Int) (hB : BoxOk a b c d e f) (w : World) (hw : Blk w B 48 #[.int .i64 a, .int .i64 b, .int .i64 c, .int .i64 d, .int .i64 e, .int .i64 f]) :
    Iter Try.prog 121 #[.pointer (some ⟨B, 0, none⟩)] encC (cellsI a b c d e f) (· = B) w := by
  intro m l J Jx W hW hJ hJx hY h0
  have A := hW.blk rfl hw
  refine callsIn_of_wp Try.func121 rfl trivial ?_ rfl
  simp only [Try.ntmps121, List.size_toArray, List.length_cons, List.length_nil, Nat.reduceAdd, Nat.reduceSub, Array.replicate_succ, Array.replicate_zero, List.push_toArray, List.append_toArray, List.nil_append, List.cons_append]
  refine wpIn_wide.2 ?_
  obtain ⟨a0, a1, a2, a3, a4, a5⟩ := A.c6.1
  have HB := Lib.hid hB
  clear hB hw hW
  go_upto_region 1 with (go_at_call 122; refine (span_c a b c d e f HB.out _).mono ?_; rintro e_ w1 ⟨rfl, h1⟩)
  have hsz := h1.size
  generalize hV : World.alloc (World.alloc w1 _) _ = W2
  have X : Blk W2 w1.heap.size _ _ := Blk.eqw hV ((Blk.new' rfl).alloc _)
  have Y : Blk W2 (w1.heap.size + 1) _ _ := Blk.eqw hV (Blk.new' (by simp))
  have hz : W2.heap.size = w1.heap.size + 2 := by rw [← hV]; simp
  have hk : Below W.heap.size W W2 := by rw [← hV]; exact (h1.alloc hsz _).alloc (by simp; omega) _
  have hJ2 : ∀ Z, J Z 0 W2 := fun Z => hJ Z 0 W W2 (h0 Z) (Kept.of_below hk)
  clear hV hk h0 A a0 a1 a2 a3 a4 a5 h1
  generalize w1.heap.size = g at X Y hsz hz ⊢
  cases his : isI a b c d e f
  · have hx : cellsI a b c d e f = [] := by unfold cellsI; rw [his]; rfl
    have HX := Lib.hid hx
    obtain ⟨x0, x1, x2, -, -, -⟩ := X.c3
    clear hx X Y
    go_upto_region 2 with (fail)
    refine (wpIn_wide (n := m + 1)).1 ?_
    gi_loopw [6] (fun _ wr => J W2.heap.size 0 wr) (fun _ _ => 0)
    case atStart => exact hJ2 _
    case round =>
      gi_wp2
      go_end0
      exact ⟨⟨_, rfl⟩, W2.heap.size, by omega, .inl (by rw [HX.out]; exact hrel)⟩
  · rw [his] at X Y
    have hx : cellsI a b c d e f = rest1 (lowI a) (topI a d) (topI b e) (lowI c) (topI c f) (lowI b) := by unfold cellsI; rw [his, if_pos rfl]; rfl
    have HX := Lib.hid hx
    have HIS := Lib.hid his
    have HZ := Lib.hid hz
    clear hx his hz
    simp only [zI, if_true] at X Y
    obtain ⟨x0, x1, x2, -, -, -⟩ := X.c3
    obtain ⟨y0, y1, y2, -, -, -⟩ := Y.c3
    go_upto_region 2 with (fail)
    refine (wpIn_wide (n := m + 1)).1 ?_
    have lb := lowI_bd b
    have lc := lowI_bd c
    have la := lowI_bd a
    have tb := topI_bd (n := b) (m := e)
    have tc := topI_bd (n := c) (m := f)
    have ta := topI_bd (n := a) (m := d)
    have q1 := topI_low HB.out.b1 HB.out.e2 HB.out.be
    have q2 := topI_low HB.out.c1 HB.out.f2 HB.out.cf
    have q3 := topI_low HB.out.a1 HB.out.d2 HB.out.ad
    gi_loopw [6] (fun v wr => ∃ (y : Int) (i : Nat), v = .int .i64 y ∧ lowI b ≤ y ∧ y ≤ topI b e + 1 ∧ Hid ((cellsI a b c d e f).drop i = rest1 (lowI a) (topI a d) (topI b e) (lowI c) (topI c f) y) ∧ Hid (i ≤ (cellsI a b c d e f).length) ∧
      Blk wr g 74 #[.int .i64 (lowI a), .int .i64 (lowI b), .int .i64 (lowI c)] ∧ Blk wr (g + 1) 74 #[.int .i64 (topI a d), .int .i64 (topI b e), .int .i64 (topI c f)] ∧ Hid (g + 2 ≤ wr.heap.size) ∧ J (g + 2) i wr) (fun v _ => (topI b e + 1 - intOf v).toNat)
    case atStart => exact ⟨_, 0, rfl, Int.le_refl _, by omega, by rw [List.drop_zero]; exact HX.out, Nat.zero_le _, X, Y, Nat.le_of_eq HZ.out.symm, hJ2 _⟩
    case round =>
      clear X Y hJ2 x0 x1 x2 y0 y1 y2
      obtain ⟨y, i, rfl, hy1, hy2, hd, hil, X, Y, hsz2, hj⟩ := hrel
      obtain ⟨x0, x1, x2, -, -, -⟩ := X.c3
      obtain ⟨y0, y1, y2, -, -, -⟩ := Y.c3
      by_cases hy : y ≤ topI b e
      · have hd1 := Lib.hid (hd.out.trans (rest1_cons hy))
        gi_wp2
        obtain ⟨wo, rfl⟩ : ∃ wo : World, wo = wr := ⟨_, rfl⟩
        gi_loopw [7] (fun v wr => ∃ (z : Int) (i : Nat), v = .int .i64 z ∧ lowI c ≤ z ∧ z ≤ topI c f + 1 ∧ Hid ((cellsI a b c d e f).drop i = rest2 (lowI a) (topI a d) (topI b e) (lowI c) (topI c f) y z) ∧ Hid (i ≤ (cellsI a b c d e f).length) ∧
          Blk wr g 74 #[.int .i64 (lowI a), .int .i64 (lowI b), .int .i64 (lowI c)] ∧ Blk wr (g + 1) 74 #[.int .i64 (topI a d), .int .i64 (topI b e), .int .i64 (topI c f)] ∧ Hid (g + 2 ≤ wr.heap.size) ∧ J (g + 2) i wr) (fun v _ => (topI c f + 1 - intOf v).toNat)
        case atStart => exact ⟨_, i, rfl, Int.le_refl _, by omega, hd1.out, hil.out, X, Y, hsz2.out, hj⟩
        case round =>
          clear X Y x0 x1 x2 y0 y1 y2 hd hil hsz2 hj hd1
          obtain ⟨z, i, rfl, hz1, hz2, hd, hil, X, Y, hsz2, hj⟩ := hrel
          obtain ⟨x0, x1, x2, -, -, -⟩ := X.c3
          obtain ⟨y0, y1, y2, -, -, -⟩ := Y.c3
          by_cases hzt : z ≤ topI c f
          · have hd1 := Lib.hid (hd.out.trans (rest2_cons hzt))
            gi_wp2
            obtain ⟨wo2, rfl⟩ : ∃ wo : World, wo = wr := ⟨_, rfl⟩
            gi_loopw [8] (fun v wr => ∃ (x : Int) (i : Nat), v = .int .i64 x ∧ lowI a ≤ x ∧ x ≤ topI a d + 1 ∧ Hid ((cellsI a b c d e f).drop i = rest3 (lowI a) (topI a d) (topI b e) (lowI c) (topI c f) y z x) ∧ Hid (i ≤ (cellsI a b c d e f).length) ∧
              Blk wr g 74 #[.int .i64 (lowI a), .int .i64 (lowI b), .int .i64 (lowI c)] ∧ Blk wr (g + 1) 74 #[.int .i64 (topI a d), .int .i64 (topI b e), .int .i64 (topI c f)] ∧ Hid (g + 2 ≤ wr.heap.size) ∧ J (g + 2) i wr) (fun v _ => (topI a d + 1 - intOf v).toNat)
            case atStart => exact ⟨_, i, rfl, Int.le_refl _, by omega, hd1.out, hil.out, X, Y, hsz2.out, hj⟩
            case round =>
              clear X Y x0 x1 x2 y0 y1 y2 hd hil hsz2 hj hd1
              obtain ⟨x, i, rfl, hx1, hx2, hd, hil, X, Y, hsz2, hj⟩ := hrel
              obtain ⟨x0, x1, x2, -, -, -⟩ := X.c3
              obtain ⟨y0, y1, y2, -, -, -⟩ := Y.c3
              by_cases hxt : x ≤ topI a d
              · obtain ⟨c1, c2, c3⟩ := drop_cons (hd.out.trans (rest3_cons hxt))
                obtain ⟨fn, tmps, assign, body, hy', hR⟩ := hY (g + 2) i (x, y, z) wr (by omega) hsz2.out c1 hj
                have C2 := Lib.hid c2
                have C3 := Lib.hid c3
                clear c1 c2 c3
                gi_wp2
                refine hR.mono ?_
                rintro e_ W3 (⟨rfl, hj3, hk3⟩ | ⟨rfl, hjx3⟩)
                · replace X := hk3.blk (.inl ⟨hsz, by omega⟩) X
                  replace Y := hk3.blk (.inl ⟨by omega, by omega⟩) Y
                  have hsz3 := Lib.hid (Nat.le_trans hsz2.out hk3.size)
                  gi_wp2
                  go_roundw
                  case rel => exact ⟨x + 1, i + 1, rfl, by omega, by omega, C2.out, C3.out, X, Y, hsz3.out, hj3⟩
                  case measure => simp [intOf]; omega
                · gi_wp2
                  refine bodyPost_ret (results_none rfl _ _ _) rfl ?_
                  exact ⟨⟨_, rfl⟩, g + 2, by omega, .inr ⟨i, C3.out, hjx3⟩⟩
              · have hd1 := Lib.hid (hd.out.trans (rest3_nil (by omega)))
                gi_wp2
                go_roundw
                case rel => exact ⟨z + 1, i, rfl, by omega, by omega, hd1.out, hil.out, X, Y, hsz2.out, hj⟩
                case measure => simp [intOf]; omega
          · have hd1 := Lib.hid (hd.out.trans (rest2_nil (by omega)))
            gi_wp2
            go_roundw
            case rel => exact ⟨y + 1, i, rfl, by omega, by omega, hd1.out, hil.out, X, Y, hsz2.out, hj⟩
            case measure => simp [intOf]; omega
      · gi_wp2
        go_end0
        exact ⟨⟨_, rfl⟩, g + 2, by omega, .inl (by rw [← drop_nil (hd.out.trans (rest1_nil (by omega))) hil.out]; exact hj)⟩
end Go.Proofs.Ytnokibdecnddlaa

/- The first cell of a box that is so. -/
namespace Go.Proofs.Ytnokibdecnddlaa
open Go.RowKit Go.Shelf
attribute [local go_sem] Oper.semAt_some

theorem peach_c (a b c d e f : Int) (w : World) : Calls Try.prog 117 #[.agg #[.int .i64 a, .int .i64 b, .int .i64 c, .int .i64 d, .int .i64 e, .int .i64 f]] w fun r w' =>
    r = .returned (.func (.func 121) #[] #[.pointer (some ⟨w.heap.size, 0, none⟩)]) ∧ w' = w.alloc (.cells #[.int .i64 a, .int .i64 b, .int .i64 c, .int .i64 d, .int .i64 e, .int .i64 f] 48) := by
  have hmf : ∀ (fn : Fn) (first cap : Array Value) (w : World), (Instr.makeFunc fn first cap).run Try.prog w = .ok (.func fn first cap) w := fun _ _ _ _ => rfl
  go_enter Try.func117, Try.ntmps117
  go_wp2_with fail
  go_returns
  exact ⟨rfl, rfl⟩
theorem find_no {α : Type} {l : List α} {q : α → Bool} (h : ∀ j x, j < l.length → l[j]? = some x → q x = false) : l.find? q = none := by
  rw [List.find?_eq_none]
  intro x hx
  obtain ⟨j, hj, e⟩ := List.mem_iff_getElem.1 hx
  rw [h j x hj (by rw [List.getElem?_eq_getElem hj, e])]; decide
theorem find_at {α : Type} {q : α → Bool} {x : α} : ∀ {l : List α} {i : Nat}, l[i]? = some x → q x = true → (∀ j y, j < i → l[j]? = some y → q y = false) → l.find? q = some x := by
  intro l
  induction l with
  | nil => intro i h; cases h
  | cons a l ih =>
    intro i h hq hn
    cases i with
    | zero =>
      obtain rfl : a = x := by simpa using h
      rw [List.find?_cons_of_pos hq]
    | succ i =>
      have ha := hn 0 a (by omega) rfl
      rw [List.find?_cons_of_neg (by rw [ha]; decide)]
      exact ih (by simpa using h) hq (fun j y hj hy => hn (j + 1) y (by omega) (by simpa using hy))
/-- The first cell of which it is so; none. -/
def findV (o : Option Cl) : Value := match o with
  | some c => .tuple #[.agg #[.int .i64 c.1, .int .i64 c.2.1, .int .i64 c.2.2], .bool true]
  | none => .tuple #[.agg #[.int .i64 0, .int .i64 0, .int .i64 0], .bool false]
/-- A view's word: it tells val, and makes only new memory. -/
def Tells (P : Program) (V : FuncId) (lb : Array Value) (val : Cl → Int) (w : World) : Prop :=
  ∀ c W, Below w.heap.size w W → Calls P V (#[.agg #[.int .i64 c.1, .int .i64 c.2.1, .int .i64 c.2.2]] ++ lb) W fun r W' => r = .returned (.int .i64 (val c)) ∧ Below W.heap.size W W'
def Says (P : Program) (G : FuncId) (lb : Array Value) (p : Int → Bool) (w : World) : Prop :=
  ∀ n W, Below w.heap.size w W → Calls P G (#[.int .i64 n] ++ lb) W fun r W' => r = .returned (.bool (p n)) ∧ Below W.heap.size W W'
set_option maxRecDepth 100000 in
set_option maxHeartbeats 8000000 in
theorem find_c (V G : FuncId) (lv lg : Array Value) (val : Cl → Int) (p : Int → Bool) (a b c d e f : Int) (hB : BoxOk a b c d e f) (w : World)
    (eV : ∀ args w, (callFunc V args).run Try.prog w = .ok (.enter V args) w) (eG : ∀ args w, (callFunc G args).run Try.prog w = .ok (.enter G args) w) (hV : Tells Try.prog V lv val w) (hG : Says Try.prog G lg p w) :
    Calls Try.prog 112 #[.func (.func V) #[] lv, .agg #[.int .i64 a, .int .i64 b, .int .i64 c, .int .i64 d, .int .i64 e, .int .i64 f], .func (.func G) #[] lg] w fun r w' =>
      r = .returned (findV ((cellsI a b c d e f).find? fun x => p (val x))) ∧ Below w.heap.size w w' := by
  have HV := Lib.hid hV
  have HG := Lib.hid hG
  clear hV hG
  obtain ⟨W, hW⟩ : ∃ W, W = ((((w.alloc (.cells #[.func (.func V) #[] lv] 32)).alloc (.cells #[.int .i64 a, .int .i64 b, .int .i64 c, .int .i64 d, .int .i64 e, .int .i64 f] 48)).alloc (.cells #[.func (.func G) #[] lg] 85)).alloc (.cells #[.int .i64 0, .int .i64 0, .int .i64 0] 74)).alloc (.cells #[.bool false] 4) := ⟨_, rfl⟩
  have H : Below w.heap.size w W := by rw [hW]; go_grown
  have b0 : Blk W w.heap.size 32 #[.func (.func V) #[] lv] := by rw [hW]; exact ((((Blk.new' rfl).alloc _).alloc _).alloc _).alloc _
  have b1 : Blk W (w.heap.size + 1) 48 #[.int .i64 a, .int .i64 b, .int .i64 c, .int .i64 d, .int .i64 e, .int .i64 f] := by rw [hW]; exact (((Blk.new' (by simp)).alloc _).alloc _).alloc _
  have b2 : Blk W (w.heap.size + 1 + 1) 85 #[.func (.func G) #[] lg] := by rw [hW]; exact ((Blk.new' (by simp)).alloc _).alloc _
  have b3 : Blk W (w.heap.size + 1 + 1 + 1) 74 #[.int .i64 0, .int .i64 0, .int .i64 0] := by rw [hW]; exact (Blk.new' (by simp)).alloc _
  have b4 : Blk W (w.heap.size + 1 + 1 + 1 + 1) 4 #[.bool false] := by rw [hW]; exact Blk.new' (by simp)
  have hs : W.heap.size = w.heap.size + 5 := by rw [hW]; simp
  obtain ⟨N, hN⟩ : ∃ N, N = w.heap.size := ⟨_, rfl⟩
  rw [← hN] at b0 b1 b2 b3 b4 hs
  refine (callsIn_wide (n := 5)).1 (callsIn_of_wp_marks Try.func112 rfl trivial ?_ rfl)
  refine wpIn_wide.2 ?_
  simp only [Try.ntmps112, List.size_toArray, List.length_cons, List.length_nil, Nat.reduceAdd, Nat.reduceSub, Array.replicate_succ, Array.replicate_zero, List.push_toArray, List.append_toArray, List.nil_append, List.cons_append]
  go_upto_region 1 with (fail)
  rw [← hW, ← hN]
  have HN := Lib.hid hN
  have HS0 := Lib.hid hs
  clear hW hN hs
  obtain ⟨a0, a1, a2, a3, a4, a5⟩ := b1.c6.1
  go_wp2_with (go_at_call 117; refine (peach_c _ _ _ _ _ _ _).mono ?_; rintro e_ w1 ⟨rfl, rfl⟩)
  generalize hV : World.alloc W _ = W1
  have bE : Blk W1 W.heap.size 48 #[.int .i64 a, .int .i64 b, .int .i64 c, .int .i64 d, .int .i64 e, .int .i64 f] := Blk.eqw hV (Blk.new' rfl)
  replace b0 := Blk.eqw hV (b0.alloc _)
  replace b1 := Blk.eqw hV (b1.alloc _)
  replace b2 := Blk.eqw hV (b2.alloc _)
  replace b3 := Blk.eqw hV (b3.alloc _)
  replace b4 := Blk.eqw hV (b4.alloc _)
  replace H : Below w.heap.size w W1 := by rw [← hV]; exact H.alloc H.size _
  have hs1 : W1.heap.size = N + 6 := by rw [← hV]; simp [HS0.out]
  rw [HS0.out] at bE ⊢
  clear hV a0 a1 a2 a3 a4 a5
  have HS := Lib.hid hs1
  clear hs1 HS0
  refine wp_range (m := 3) (gf := 121) (lb := #[.pointer (some ⟨N + 5, 0, none⟩)]) rfl (enters_of Try.func121 (by kernel_rfl) rfl) (each_it (N + 5) a b c d e f hB W1 bE) (fun b hb => by rw [hb]; exact bE.lt) (fun _ => rfl)
    (fun Z i A => Hid (∀ j x, j < i → (cellsI a b c d e f)[j]? = some x → p (val x) = false) ∧ Blk A N 32 #[.func (.func V) #[] lv] ∧ Blk A (N + 1 + 1) 85 #[.func (.func G) #[] lg] ∧ Blk A (N + 1 + 1 + 1) 74 #[.int .i64 0, .int .i64 0, .int .i64 0] ∧ Blk A (N + 1 + 1 + 1 + 1) 4 #[.bool false] ∧ Below w.heap.size w A)
    (fun Z k i A => k = .ret ∧ Hid (∀ j x, j < i → (cellsI a b c d e f)[j]? = some x → p (val x) = false) ∧ ∃ x, Hid ((cellsI a b c d e f)[i]? = some x ∧ p (val x) = true) ∧ Blk A (N + 1 + 1 + 1) 74 #[.int .i64 x.1, .int .i64 x.2.1, .int .i64 x.2.2] ∧ Blk A (N + 1 + 1 + 1 + 1) 4 #[.bool true] ∧ Below w.heap.size w A)
    ?_ ?_ (fun Z => ⟨fun j x h => by omega, b0, b2, b3, b4, H⟩) ?round ?done ?stop
  · rintro Z i A B ⟨h1, h2, h3, h4, h5, h6⟩ hk
    have lt : ∀ n, n < 6 → ¬ Priv W1.heap.size Z (N + n) := fun n hn h => by have := h.1; rw [HS.out] at this; omega
    exact ⟨h1, hk.blk (lt 0 (by omega)) h2, hk.blk (lt 2 (by omega)) h3, hk.blk (lt 3 (by omega)) h4, hk.blk (lt 4 (by omega)) h5, h6.trans (hk.below h6.size (fun b hb h => by have := h.1; rw [HS.out] at this; rw [← HN.out] at hb; omega))⟩
  · rintro Z k i A B ⟨h1, h2, x, h3, h4, h5, h6⟩ hk
    have lt : ∀ n, n < 6 → ¬ Priv W1.heap.size Z (N + n) := fun n hn h => by have := h.1; rw [HS.out] at this; omega
    exact ⟨h1, h2, x, h3, hk.blk (lt 3 (by omega)) h4, hk.blk (lt 4 (by omega)) h5, h6.trans (hk.below h6.size (fun b hb h => by have := h.1; rw [HS.out] at this; rw [← HN.out] at hb; omega))⟩
  case round =>
    rintro Z l i x A rfl hZ1 hZ2 hx ⟨h1, h2, h3, h4, h5, h6⟩
    clear b0 b1 b2 b3 b4 H bE
    gi_wp2
    refine ⟨(Kept.refl _ _).alloc _, fun A2 hA2 hz2 => ?_⟩
    have hs2 : A2.heap.size = A.heap.size + 1 := by rw [hz2]; simp
    have hs1 := HS.out
    have keep : ∀ n t cs, n < 6 → Blk A (N + n) t cs → Blk A2 (N + n) t cs := fun n t cs hn h => hA2.blk (show N + n ≠ W1.heap.size + 1 by omega) (h.alloc _)
    replace h2 : Blk A2 N 32 #[.func (.func V) #[] lv] := keep 0 _ _ (by omega) h2
    replace h3 : Blk A2 (N + 1 + 1) 85 #[.func (.func G) #[] lg] := keep 2 _ _ (by omega) h3
    replace h4 : Blk A2 (N + 1 + 1 + 1) 74 #[.int .i64 0, .int .i64 0, .int .i64 0] := keep 3 _ _ (by omega) h4
    replace h5 : Blk A2 (N + 1 + 1 + 1 + 1) 4 #[.bool false] := keep 4 _ _ (by omega) h5
    have X : Blk A2 A.heap.size 74 #[.int .i64 x.1, .int .i64 x.2.1, .int .i64 x.2.2] := hA2.blk (show A.heap.size ≠ W1.heap.size + 1 by omega) (Blk.new' rfl)
    have hw2 : w.heap.size ≤ W1.heap.size := by rw [hs1, ← HN.out]; omega
    replace h6 : Below w.heap.size w A2 := (h6.alloc h6.size _).trans (hA2.below (by simp; omega) (fun b hb => by omega))
    have HX := Lib.hid hx
    have H1 := Lib.hid h1
    have HZ := Lib.hid (And.intro hZ1 hZ2)
    have HS2 := Lib.hid hs2
    clear hA2 hz2 keep hx h1 hZ1 hZ2 hs2 hs1 hw2
    have k0 := fun d os => (h2.re d os).cell 0
    have k2 := fun d os => (h3.re d os).cell 0
    obtain ⟨x0, x1, x2⟩ := X.re3
    generalize A.heap.size = gx at X HS2 HZ x0 x1 x2 ⊢
    cases hp : p (val x)
    · have HG1 : ∀ d os, Calls Try.prog G (#[.int .i64 (val x)] ++ lg) (Go.Sort.grow (redrawn A2 d) os) fun r W' => r = .returned (.bool false) ∧ Below (Go.Sort.grow (redrawn A2 d) os).heap.size (Go.Sort.grow (redrawn A2 d) os) W' := fun d os => by
        have := HG.out (val x) (Go.Sort.grow (redrawn A2 d) os) (h6.trans ((below_regrown A2 d os).mono h6.size)); rwa [hp] at this
      have HV1 : ∀ d os, Calls Try.prog V (#[.agg #[.int .i64 x.1, .int .i64 x.2.1, .int .i64 x.2.2]] ++ lv) (Go.Sort.grow (redrawn A2 d) os) fun r W' => r = .returned (.int .i64 (val x)) ∧ Below (Go.Sort.grow (redrawn A2 d) os).heap.size (Go.Sort.grow (redrawn A2 d) os) W' := fun d os =>
        HV.out x (Go.Sort.grow (redrawn A2 d) os) (h6.trans ((below_regrown A2 d os).mono h6.size))
      have HP := Lib.hid hp
      replace HG1 := Lib.hid HG1
      replace HV1 := Lib.hid HV1
      clear hp
      gi_wp2
      refine in_sched [0, 0, 0, 0, 0] (fun _ _ _ => True) (by kernel_rfl) (by kernel_rfl) (fun _ _ _ _ h _ => h) (by kernel_rfl) (fun ⟨_, _, h⟩ => h) ?_
      repeat (first | (refine wpQs_s ?_) | (refine wpQs_q (fun K hK => ?_); go_simp; first | (refine hK _ ?_; clear hK K) | (apply Exists.intro; refine ⟨fun _ => ?_, hK _ ?_⟩; (first | exact HV1.out _ _ | exact HG1.out _ _); clear hK K)) | (refine wpQs_f (fun K hK => ?_); go_simp; refine hK _ ?_; clear hK K))
      refine wpQs_nil ?_
      repeat (first | (refine wpLs_skip ?_) | (refine wpLs_one ?lsA (fun v_ => ?_); case lsA => (intro w_ hw_ hp_; (fail))))
      refine wpLs_nilB ?_
      simp only [tails]
      intro w3 h7 _
      simp only [wpList, Exit.then]
      go_at_K
      gi_wp2
      exact ⟨Kept.of_below h7, fun j y hj hy => (by
        rcases Nat.lt_or_eq_of_le (Nat.le_of_lt_succ hj) with e | e
        · exact H1.out j y e hy
        · subst e; rw [HX.out] at hy; obtain rfl := Option.some.inj hy; exact HP.out), h2.on h7, h3.on h7, h4.on h7, h5.on h7, after h6 h7⟩
    · have HG1 : ∀ d os, Calls Try.prog G (#[.int .i64 (val x)] ++ lg) (Go.Sort.grow (redrawn A2 d) os) fun r W' => r = .returned (.bool true) ∧ Below (Go.Sort.grow (redrawn A2 d) os).heap.size (Go.Sort.grow (redrawn A2 d) os) W' := fun d os => by
        have := HG.out (val x) (Go.Sort.grow (redrawn A2 d) os) (h6.trans ((below_regrown A2 d os).mono h6.size)); rwa [hp] at this
      have HV1 : ∀ d os, Calls Try.prog V (#[.agg #[.int .i64 x.1, .int .i64 x.2.1, .int .i64 x.2.2]] ++ lv) (Go.Sort.grow (redrawn A2 d) os) fun r W' => r = .returned (.int .i64 (val x)) ∧ Below (Go.Sort.grow (redrawn A2 d) os).heap.size (Go.Sort.grow (redrawn A2 d) os) W' := fun d os =>
        HV.out x (Go.Sort.grow (redrawn A2 d) os) (h6.trans ((below_regrown A2 d os).mono h6.size))
      have HP := Lib.hid hp
      replace HG1 := Lib.hid HG1
      replace HV1 := Lib.hid HV1
      clear hp
      gi_wp2
      refine in_sched [0, 0, 0, 0, 0] (fun _ _ _ => True) (by kernel_rfl) (by kernel_rfl) (fun _ _ _ _ h _ => h) (by kernel_rfl) (fun ⟨_, _, h⟩ => h) ?_
      repeat (first | (refine wpQs_s ?_) | (refine wpQs_q (fun K hK => ?_); go_simp; first | (refine hK _ ?_; clear hK K) | (apply Exists.intro; refine ⟨fun _ => ?_, hK _ ?_⟩; (first | exact HV1.out _ _ | exact HG1.out _ _); clear hK K)) | (refine wpQs_f (fun K hK => ?_); go_simp; refine hK _ ?_; clear hK K))
      refine wpQs_nil ?_
      repeat (first | (refine wpLs_skip ?_) | (refine wpLs_one ?lsA (fun v_ => ?_); case lsA => (intro w_ hw_ hp_; (fail))))
      refine wpLs_nilB ?_
      simp only [tails]
      intro w3 h7 _
      replace X := X.on h7
      replace h4 := h4.on h7
      replace h5 := h5.on h7
      clear x0 x1 x2
      obtain ⟨x0, x1, x2, -, -, -⟩ := X.c3
      obtain ⟨r0, r1, r2, f0, f1, f2⟩ := h4.c3
      obtain ⟨s0, g0⟩ := h5.c1
      simp only [wpList, Exit.then]
      go_at_K
      gi_wp2
      have hs1 := HS.out
      have n3 : ¬ Keeps W1.heap.size Z (· = N + 5) (N + 1 + 1 + 1) := fun h => by rcases h with h | h; exact absurd h.1 (by omega); exact absurd (show N + 1 + 1 + 1 = N + 5 from h) (by omega)
      have n4 : ¬ Keeps W1.heap.size Z (· = N + 5) (N + 1 + 1 + 1 + 1) := fun h => by rcases h with h | h; exact absurd h.1 (by omega); exact absurd (show N + 1 + 1 + 1 + 1 = N + 5 from h) (by omega)
      refine ⟨((((Kept.of_below h7).setCell (p := ⟨N + 1 + 1 + 1, 0, none⟩) n3 _).setCell (p := ⟨N + 1 + 1 + 1, 1, none⟩) n3 _).setCell (p := ⟨N + 1 + 1 + 1, 2, none⟩) n3 _).setCell (p := ⟨N + 1 + 1 + 1 + 1, 0, none⟩) n4 _, rfl, H1.out, x, ⟨HX.out, HP.out⟩,
        (h4.st3 _ _ _).far (by dsimp only; omega) _, (((h5.far (p := ⟨N + 1 + 1 + 1, 0, none⟩) (by dsimp only; omega) _).far (p := ⟨N + 1 + 1 + 1, 1, none⟩) (by dsimp only; omega) _).far (p := ⟨N + 1 + 1 + 1, 2, none⟩) (by dsimp only; omega) _).set_ 0 _, ?_⟩
      replace h6 := after h6 h7
      rw [← HN.out] at h6 ⊢
      exact (((h6.setCell (p := ⟨N + 1 + 1 + 1, 0, none⟩) (by dsimp only; omega) _).setCell (p := ⟨N + 1 + 1 + 1, 1, none⟩) (by dsimp only; omega) _).setCell (p := ⟨N + 1 + 1 + 1, 2, none⟩) (by dsimp only; omega) _).setCell (p := ⟨N + 1 + 1 + 1 + 1, 0, none⟩) (by dsimp only; omega) _
  case done =>
    rintro Z A ⟨h1, -, -, h4, h5, h6⟩ hK
    clear b0 b1 b2 b3 b4 H bE
    obtain ⟨r0, r1, r2, f0, f1, f2⟩ := h4.c3
    obtain ⟨s0, g0⟩ := h5.c1
    have HK := Lib.hid hK
    clear hK
    go_wp2_with fail
    have hs1 := HS.out
    have hf : (cellsI a b c d e f).find? (fun x => p (val x)) = none := find_no h1.out
    have e4 := ((h4.st3 (.int .i64 0) (.int .i64 0) (.int .i64 0)).far (p := ⟨N + 1 + 1 + 1 + 1, 0, none⟩) (by dsimp only; omega) (.bool false)).putObj (D := W1.heap.size) (by omega) (.deferred none)
    have e5 := (((h5.far (p := ⟨N + 1 + 1 + 1, 0, none⟩) (by dsimp only; omega) (.int .i64 0)).far (p := ⟨N + 1 + 1 + 1, 1, none⟩) (by dsimp only; omega) (.int .i64 0)).far (p := ⟨N + 1 + 1 + 1, 2, none⟩) (by dsimp only; omega) (.int .i64 0)).set_ 0 (.bool false)
    obtain ⟨d0, d1, d2, -, -, -⟩ := e4.c3
    obtain ⟨d3, -⟩ := (e5.putObj (D := W1.heap.size) (by omega) (.deferred none)).c1
    have hK' := def_far (p := ⟨N + 1 + 1 + 1 + 1, 0, none⟩) (u := .bool false) (def_far (p := ⟨N + 1 + 1 + 1, 2, none⟩) (u := .int .i64 0) (def_far (p := ⟨N + 1 + 1 + 1, 1, none⟩) (u := .int .i64 0) (def_far (p := ⟨N + 1 + 1 + 1, 0, none⟩) (u := .int .i64 0) HK.out (by dsimp only; omega)) (by dsimp only; omega)) (by dsimp only; omega)) (by dsimp only; omega)
    refine leave_mark hK' (v := findV none) (by simp [results, Try.f112, go_sem, findV, d0, d1, d2, d3]) ⟨by rw [hf], ?_⟩
    rw [← HN.out] at h6 ⊢
    exact putObj_below ((((h6.setCell (p := ⟨N + 1 + 1 + 1, 0, none⟩) (by dsimp only; omega) _).setCell (p := ⟨N + 1 + 1 + 1, 1, none⟩) (by dsimp only; omega) _).setCell (p := ⟨N + 1 + 1 + 1, 2, none⟩) (by dsimp only; omega) _).setCell (p := ⟨N + 1 + 1 + 1 + 1, 0, none⟩) (by dsimp only; omega) _) (by omega) _
  case stop =>
    rintro Z k i A hi ⟨rfl, h1, x, hx, h4, h5, h6⟩ hK
    clear b0 b1 b2 b3 b4 H bE
    obtain ⟨r0, r1, r2, -, -, -⟩ := h4.c3
    obtain ⟨s0, g0⟩ := h5.c1
    have HK := Lib.hid hK
    clear hK
    go_wp2_with fail
    have hs1 := HS.out
    have hf : (cellsI a b c d e f).find? (fun x => p (val x)) = some x := find_at hx.out.1 hx.out.2 h1.out
    obtain ⟨d0, d1, d2, -, -, -⟩ := (h4.putObj (D := W1.heap.size) (by omega) (.deferred none)).c3
    obtain ⟨d3, -⟩ := (h5.putObj (D := W1.heap.size) (by omega) (.deferred none)).c1
    refine leave_mark HK.out (v := findV (some x)) (by simp [results, Try.f112, go_sem, findV, d0, d1, d2, d3]) ⟨by rw [hf], ?_⟩
    rw [← HN.out] at h6 ⊢
    exact putObj_below h6 (by omega) _
end Go.Proofs.Ytnokibdecnddlaa

/- Blocks: which are solid, wet, climbed; rows of ints. -/
namespace Go.Proofs.Ytnokibdecnddlaa
open Go.RowKit

def solB (n : Int) : Bool := n == -1 || n == 1 || n == 2 || n == 3 || n == 5
def wetB (n : Int) : Bool := decide (8 ≤ n) && decide (n ≤ 15)
def cliB (n : Int) : Bool := n == 4
theorem sol_ways (n : Int) : ((n == -1) = true ∧ solB n = true) ∨ ((n == -1) = false ∧ (n == 1) = true ∧ solB n = true) ∨ ((n == -1) = false ∧ (n == 1) = false ∧ (n == 2) = true ∧ solB n = true) ∨
    ((n == -1) = false ∧ (n == 1) = false ∧ (n == 2) = false ∧ (n == 3) = true ∧ solB n = true) ∨ ((n == -1) = false ∧ (n == 1) = false ∧ (n == 2) = false ∧ (n == 3) = false ∧ (n == 5) = true ∧ solB n = true) ∨
    ((n == -1) = false ∧ (n == 1) = false ∧ (n == 2) = false ∧ (n == 3) = false ∧ (n == 5) = false ∧ solB n = false) := by
  unfold solB
  cases (n == -1) <;> cases (n == 1) <;> cases (n == 2) <;> cases (n == 3) <;> cases (n == 5) <;> simp
theorem wet_ways (n : Int) : (decide (8 ≤ n) = false ∧ wetB n = false) ∨ (decide (8 ≤ n) = true ∧ decide (n ≤ 15) = true ∧ decide (n < 16) = true ∧ wetB n = true) ∨ (decide (8 ≤ n) = true ∧ decide (n ≤ 15) = false ∧ decide (n < 16) = false ∧ wetB n = false) := by
  unfold wetB
  by_cases h1 : 8 ≤ n <;> by_cases h2 : n ≤ 15 <;> simp [h1, h2] <;> omega
theorem solid_c (n : Int) (w : World) : Calls Try.prog 113 #[.int .i64 n] w fun r w' => r = .returned (.bool (solB n)) ∧ w = w' := by
  rcases sol_ways n with ⟨h1, h⟩ | ⟨h1, h2, h⟩ | ⟨h1, h2, h3, h⟩ | ⟨h1, h2, h3, h4, h⟩ | ⟨h1, h2, h3, h4, h5, h⟩ | ⟨h1, h2, h3, h4, h5, h⟩
  all_goals
    rw [h]
    clear h
    go_enter Try.func113, Try.ntmps113
    go_wp2_with fail
    go_returns
    exact ⟨rfl, rfl⟩
theorem climbs_c (n : Int) (w : World) : Calls Try.prog 101 #[.int .i64 n] w fun r w' => r = .returned (.bool (cliB n)) ∧ w = w' := by
  go_enter Try.func101, Try.ntmps101
  go_wp2_with fail
  go_returns
  exact ⟨ret_b rfl, rfl⟩
theorem wet_c (n : Int) (w : World) : Calls Try.prog 102 #[.int .i64 n] w fun r w' => r = .returned (.bool (wetB n)) ∧ w = w' := by
  rcases wet_ways n with ⟨h1, h⟩ | ⟨h1, h2, h3, h⟩ | ⟨h1, h2, h3, h⟩
  all_goals
    rw [h]
    clear h
    go_enter Try.func102, Try.ntmps102
    go_wp2_with fail
    go_returns
    exact ⟨rfl, rfl⟩
theorem rsolid_c (n : Int) (w : World) : Calls Try.prog 52 #[.int .i64 n] w fun r w' => r = .returned (.bool (solB n)) ∧ w = w' := by
  rcases sol_ways n with ⟨h1, h⟩ | ⟨h1, h2, h⟩ | ⟨h1, h2, h3, h⟩ | ⟨h1, h2, h3, h4, h⟩ | ⟨h1, h2, h3, h4, h5, h⟩ | ⟨h1, h2, h3, h4, h5, h⟩
  all_goals
    rw [h]
    clear h
    go_enter Try.func52, Try.ntmps52
    go_wp2_with fail
    go_returns
    exact ⟨rfl, rfl⟩
theorem rwet_c (n : Int) (w : World) : Calls Try.prog 80 #[.int .i64 n] w fun r w' => r = .returned (.bool (wetB n)) ∧ w = w' := by
  rcases wet_ways n with ⟨h1, h⟩ | ⟨h1, h2, h3, h⟩ | ⟨h1, h2, h3, h⟩
  all_goals
    rw [h]
    clear h
    go_enter Try.func80, Try.ntmps80
    go_wp2_with fail
    go_returns
    exact ⟨rfl, rfl⟩
end Go.Proofs.Ytnokibdecnddlaa

/- From a walk that says 'true, and only new memory' to the row: the last step, whatever the arguments' make; and the opening of ways and boxes. -/
namespace Go.Proofs.Ytnokibdecnddlaa
open Go.ChangeShapes Go.WideShapes Go.ChangeAt Go.RowKit

theorem own : ownKnob Try.prog.godebug = none := by kernel_rfl
theorem laidOut : laidOutB Try.prog = true := by kernel_rfl

section
variable {H : Type} {enc : TypeId × Value → H} {P : Program}
theorem trodAll_below {W W' : World} (hl : laidOutB P = true) (hb : Below W.heap.size W W') :
    ∀ {ts : List TypeId} {vs : List Value} {ds : List (DataW H)} {ps : List MemPlace}, (∀ t ∈ ts, P.readableRec t = true ∧ t < P.types.size) →
      DataW.TrodAll enc P W 0 (fun _ => true) true ts vs ds ps → (∀ x ∈ ps, x.block < W.heap.size) →
      DataW.TrodAll enc P W' 0 (fun b => decide (b < W.heap.size)) true ts vs ds ps := by
  intro ts
  induction ts with
  | nil =>
    intro vs ds ps _ h _
    obtain ⟨rfl, rfl, rfl⟩ := trodAll_nil h
    exact trodAll_mk0
  | cons t ts ih =>
    intro vs ds ps hts h hp
    obtain ⟨v0, vs0, d0, ds0, p0, q0, rfl, rfl, rfl, h0, r0⟩ := trodAll_cons h
    obtain ⟨hr, hrow⟩ := hts t (List.mem_cons_self ..)
    exact trodAll_cons_mk (Below.trod hl hr hrow h0 hb fun x hx => hp x (by simp [hx])) (ih (fun t ht => hts t (List.mem_cons_of_mem _ ht)) r0 fun x hx => hp x (by simp [hx]))

theorem law_post {f : Func} {s : ChangeSpec} {tb : TypeId} {W W' : World} {args : Array Value} {ds gs : List (DataW H)} {before : List MemPlace}
    (hl : laidOutB P = true) (hts : (f.params.toList.all fun t => P.readableRec t && decide (t < P.types.size)) = true) (hvars : s.vars = []) (hrt : f.resultTypes = #[tb]) (htb : P.underlying tb = some .bool)
    (hW : DataW.Whole enc P f.params.toList s.vars false W args.toList ds gs before)
    (hres : (s.fn H (ds ++ gs)).results = [.lit (.bool true)]) (hargs : (s.fn H (ds ++ gs)).args = ds) (hv : (s.fn H (ds ++ gs)).vars = [])
    (hb : Below W.heap.size W W') : s.post enc P f false true false false W args (.bool true) W' := by
  have hlt : ∀ x ∈ before, x.block < W.heap.size := fun x hx => hW.lt x hx
  have hW0 := hW
  obtain ⟨p, q, hA, hV, hpq, hz, hn⟩ := hW
  rw [hvars] at hV
  obtain ⟨rfl, rfl⟩ := trodVars_none hV
  rw [List.append_nil] at hpq
  subst hpq
  refine ⟨ds, [], before, [], before, [], hW0, ?_, ?_, ?_, World.keptBut_mono (fun p hp => ⟨hp, Or.inr (Or.inl hp)⟩) (hb.frame (· ∈ before)), fun h => by cases h⟩
  · rw [hres, hrt]
    exact trodAll_mk1 (shut_bool htb true)
  · rw [hargs]
    refine trodAll_below hl hb (fun t ht => ?_) hA hlt
    have := List.all_eq_true.1 hts t ht
    simpa using this
  · rw [hvars, hv]
    exact rfl

/-! ### ways and boxes, opened -/
def vecFields (P : Program) (f0 f1 f2 : Field) (ti : TypeId) : Bool :=
  (f0.offset == 0 && f1.offset == 1 && f2.offset == 2) && ((f0.type == ti && f1.type == ti && f2.type == ti) && P.cellsOf ti == 1)
def boxFields (P : Program) (f0 f1 : Field) (tv : TypeId) : Bool :=
  (f0.offset == 0 && f1.offset == 3) && ((f0.type == tv && f1.type == tv) && P.cellsOf tv == 3)

theorem trod_vec {w : World} {base fuel : Nat} {spare : Nat → Bool} {held : Bool} {t ti : TypeId} {f0 f1 f2 : Field} {cs : List Value} {x : DataW H × List MemPlace} (hs : P.underlying t = some (.struct #[f0, f1, f2]))
    (hf : vecFields P f0 f1 f2 ti = true) (hi : P.underlying ti = some (.int .i64)) (hl : cs.length = 3) (h : DataW.trod enc P w base spare held fuel t cs = some x) :
    ∃ a b c, cs = [.int .i64 a, .int .i64 b, .int .i64 c] ∧ In64 a ∧ In64 b ∧ In64 c := by
  simp only [vecFields, Bool.and_eq_true, beq_iff_eq] at hf
  obtain ⟨⟨⟨o0, o1⟩, o2⟩, ⟨⟨t0, t1⟩, t2⟩, hc⟩ := hf
  obtain ⟨xs, n, _, _, _, hxl, hg⟩ := DataW.trod_struct hs h
  match cs, hl with
  | [v0, v1, v2], _ =>
    match xs, hxl with
    | [y0, y1, y2], _ =>
      have g0 := hg 0 f0 rfl
      have g1 := hg 1 f1 rfl
      have g2 := hg 2 f2 rfl
      rw [o0, t0, hc] at g0
      rw [o1, t1, hc] at g1
      rw [o2, t2, hc] at g2
      obtain ⟨a, ha, _, wa⟩ := DataW.trod_int (x := y0) hi g0
      obtain ⟨b, hb, _, wb⟩ := DataW.trod_int (x := y1) hi g1
      obtain ⟨c, hc', _, wc⟩ := DataW.trod_int (x := y2) hi g2
      simp at ha hb hc'
      subst ha hb hc'
      exact ⟨a, b, c, rfl, in64_of_wf wa, in64_of_wf wb, in64_of_wf wc⟩

theorem open_vec {w : World} {r : Reach} {b0 base : Nat} {spare : Nat → Bool} {held : Bool} {t ti : TypeId} {f0 f1 f2 : Field} {v : Value} {d : DataW H} {p : List MemPlace} (hs : P.underlying t = some (.struct #[f0, f1, f2]))
    (hf : vecFields P f0 f1 f2 ti = true) (hC : P.cellsOf t = 3) (hi : P.underlying ti = some (.int .i64)) (hv : Value.okWide P w r b0 t v) (h : DataW.Trod enc P w base spare held t v d p) :
    ∃ a b c, v = .agg #[.int .i64 a, .int .i64 b, .int .i64 c] ∧ In64 a ∧ In64 b ∧ In64 c := by
  obtain ⟨cs, rfl, hsz⟩ := okWide_struct hs hv
  obtain ⟨fuel, h⟩ := h
  obtain ⟨l⟩ := cs
  have hl : l.length = 3 := hsz.trans hC
  obtain ⟨a, b, c, hcs, wa, wb, wc⟩ := trod_vec hs hf hi hl (by simpa [Value.cells] using h)
  subst hcs
  exact ⟨a, b, c, rfl, wa, wb, wc⟩

theorem trod_box {w : World} {base fuel : Nat} {spare : Nat → Bool} {held : Bool} {t tv ti : TypeId} {g0 g1 f0 f1 f2 : Field} {cs : List Value} {x : DataW H × List MemPlace} (hb : P.underlying t = some (.struct #[g0, g1]))
    (hs : P.underlying tv = some (.struct #[f0, f1, f2])) (hg : boxFields P g0 g1 tv = true) (hf : vecFields P f0 f1 f2 ti = true) (hi : P.underlying ti = some (.int .i64)) (hl : cs.length = 6) (h : DataW.trod enc P w base spare held fuel t cs = some x) :
    ∃ a b c d e f, cs = [.int .i64 a, .int .i64 b, .int .i64 c, .int .i64 d, .int .i64 e, .int .i64 f] ∧ In64 a ∧ In64 b ∧ In64 c ∧ In64 d ∧ In64 e ∧ In64 f := by
  simp only [boxFields, Bool.and_eq_true, beq_iff_eq] at hg
  obtain ⟨⟨o0, o1⟩, ⟨t0, t1⟩, hc⟩ := hg
  obtain ⟨xs, n, _, _, _, hxl, hgg⟩ := DataW.trod_struct hb h
  match cs, hl with
  | [v0, v1, v2, v3, v4, v5], _ =>
    match xs, hxl with
    | [y0, y1], _ =>
      have k0 := hgg 0 g0 rfl
      have k1 := hgg 1 g1 rfl
      rw [o0, t0, hc] at k0
      rw [o1, t1, hc] at k1
      obtain ⟨a, b, c, e0, wa, wb, wc⟩ := trod_vec (x := y0) hs hf hi rfl k0
      obtain ⟨d, e, f, e1, wd, we, wf⟩ := trod_vec (x := y1) hs hf hi rfl k1
      simp at e0 e1
      obtain ⟨rfl, rfl, rfl⟩ := e0
      obtain ⟨rfl, rfl, rfl⟩ := e1
      exact ⟨a, b, c, d, e, f, rfl, wa, wb, wc, wd, we, wf⟩

theorem open_box {w : World} {r : Reach} {b0 base : Nat} {spare : Nat → Bool} {held : Bool} {t tv ti : TypeId} {g0 g1 f0 f1 f2 : Field} {v : Value} {d : DataW H} {p : List MemPlace} (hb : P.underlying t = some (.struct #[g0, g1]))
    (hs : P.underlying tv = some (.struct #[f0, f1, f2])) (hg : boxFields P g0 g1 tv = true) (hf : vecFields P f0 f1 f2 ti = true) (hC : P.cellsOf t = 6) (hi : P.underlying ti = some (.int .i64)) (hv : Value.okWide P w r b0 t v) (h : DataW.Trod enc P w base spare held t v d p) :
    ∃ a b c d e f, v = .agg #[.int .i64 a, .int .i64 b, .int .i64 c, .int .i64 d, .int .i64 e, .int .i64 f] ∧ In64 a ∧ In64 b ∧ In64 c ∧ In64 d ∧ In64 e ∧ In64 f := by
  obtain ⟨cs, rfl, hsz⟩ := okWide_struct hb hv
  obtain ⟨fuel, h⟩ := h
  obtain ⟨l⟩ := cs
  have hl : l.length = 6 := hsz.trans hC
  obtain ⟨a, b, c, d, e, f, hcs, wa⟩ := trod_box hb hs hg hf hi hl (by simpa [Value.cells] using h)
  subst hcs
  exact ⟨a, b, c, d, e, f, rfl, wa⟩
end
end Go.Proofs.Ytnokibdecnddlaa

/- Boxes in a row: what a slice of boxes reads, and how it is opened. -/
namespace Go.Proofs.Ytnokibdecnddlaa
open Go.ChangeShapes Go.WideShapes Go.ChangeAt Go.RowKit

/-- From cell o of block g on lie n boxes; number i's number j is F i j. -/
def Bxs (w : World) (g o n : Nat) (F : Nat → Nat → Int) : Prop := ∀ i, i < n → ∀ j, j < 6 → w.cell? ⟨g, o + (i * 6 + j), none⟩ = some (.int .i64 (F i j))
section
variable {w w' : World} {g o n : Nat} {F : Nat → Nat → Int}
theorem Bxs.on (h : Bxs w g o n F) (hb : Below w.heap.size w w') : Bxs w' g o n F := fun i hi j hj => by
  have h1 := h i hi j hj
  rw [cell_below hb (cell_lt h1)]; exact h1
theorem Bxs.far (h : Bxs w g o n F) {p : Addr} (hp : g ≠ p.block) (u : Value) : Bxs (w.setCell p u) g o n F := fun i hi j hj => by
  have h1 := h i hi j hj
  unfold World.cell? at *
  rw [Below.heap_setCell w p u g hp]
  exact h1
theorem Bxs.tail (h : Bxs w g o n F) : Bxs w g (o + 6) (n - 1) (fun i => F (i + 1)) := fun i hi j hj => by
  have h1 := h (i + 1) (by omega) j hj
  rwa [show o + ((i + 1) * 6 + j) = o + 6 + (i * 6 + j) by omega] at h1
theorem Bxs.lt (h : Bxs w g o n F) (hn : 0 < n) : g < w.heap.size := cell_lt (h 0 hn 0 (by omega))
theorem Bxs.at (h : Bxs w g o n F) {i : Nat} (hi : i < n) : w.cell? ⟨g, o + i * 6, none⟩ = some (.int .i64 (F i 0)) ∧ w.cell? ⟨g, o + i * 6 + 1, none⟩ = some (.int .i64 (F i 1)) ∧ w.cell? ⟨g, o + i * 6 + 2, none⟩ = some (.int .i64 (F i 2)) ∧
    w.cell? ⟨g, o + i * 6 + 3, none⟩ = some (.int .i64 (F i 3)) ∧ w.cell? ⟨g, o + i * 6 + 4, none⟩ = some (.int .i64 (F i 4)) ∧ w.cell? ⟨g, o + i * 6 + 5, none⟩ = some (.int .i64 (F i 5)) := by
  have h' := h i hi
  simp only [← Nat.add_assoc] at h'
  exact ⟨h' 0 (by omega), h' 1 (by omega), h' 2 (by omega), h' 3 (by omega), h' 4 (by omega), h' 5 (by omega)⟩
end

def intAt (w : World) (p : Addr) : Int := match w.cell? p with | some (.int .i64 x) => x | _ => 0
theorem intAt_eq {w : World} {p : Addr} {x : Int} (h : w.cell? p = some (.int .i64 x)) : intAt w p = x := by unfold intAt; rw [h]
section
variable {H : Type} {enc : TypeId × Value → H} {P : Program}
theorem open_boxes {w : World} {r : Reach} {b0 base : Nat} {spare : Nat → Bool} {held : Bool} {ts t tv ti : TypeId} {g0 g1 f0 f1 f2 : Field} {v : Value} {d : DataW H} {p : List MemPlace} (hts : P.underlying ts = some (.slice t)) (hb : P.underlying t = some (.struct #[g0, g1]))
    (hs : P.underlying tv = some (.struct #[f0, f1, f2])) (hg : boxFields P g0 g1 tv = true) (hf : vecFields P f0 f1 f2 ti = true) (hC : P.cellsOf t = 6) (hi : P.underlying ti = some (.int .i64)) (hv : Value.okWide P w r b0 ts v) (h : DataW.Trod enc P w base spare held ts v d p) :
    (∃ q cap, v = .slice q 0 cap) ∨ ∃ g o n cap F, v = .slice (some ⟨g, o, none⟩) n cap ∧ 0 < n ∧ n ≤ cap ∧ cap ≤ maxLen ∧ Bxs w g o n F ∧ ∀ i j, i < n → j < 6 → In64 (F i j) := by
  obtain ⟨a1, len1, cap1, rfl⟩ := okWide_slice hts hv
  obtain ⟨fuel, h⟩ := h
  rcases Go.Deep.open_slice hts h with ⟨hcs, _⟩ | ⟨a, len, cap, m, k, D, Pl, hcs, _, hl, hm, hmm, _, hel⟩
  · simp [Value.cells] at hcs
    obtain ⟨rfl, rfl, rfl⟩ := hcs
    exact .inl ⟨_, _, rfl⟩
  · simp [Value.cells] at hcs
    obtain ⟨rfl, rfl, rfl⟩ := hcs
    by_cases hn : len1 = 0
    · subst hn; exact .inl ⟨_, _, rfl⟩
    have hlm : len1 ≤ m := by rw [hmm]; split <;> omega
    obtain ⟨g, o, sp⟩ := a
    rw [hC] at hel
    have hrd : ∀ i, i < len1 → ∀ j, j < 6 → ∃ x, w.cell? ((Addr.mk g o sp).add (i * 6 + j)) = some (.int .i64 x) ∧ In64 x := by
      intro i hi' j hj
      obtain ⟨cs', hc, ht'⟩ := hel i (by omega)
      obtain ⟨_, hcl, hat⟩ := World.cells?_some hc
      obtain ⟨a, b, c, d, e, f, rfl, wa, wb, wc, wd, we, wf⟩ := trod_box hb hs hg hf hi hcl ht'
      have h1 := hat j hj
      rw [Go.Deep.add_add] at h1
      rw [h1]
      match j, hj with
      | 0, _ => exact ⟨a, rfl, wa⟩
      | 1, _ => exact ⟨b, rfl, wb⟩
      | 2, _ => exact ⟨c, rfl, wc⟩
      | 3, _ => exact ⟨d, rfl, wd⟩
      | 4, _ => exact ⟨e, rfl, we⟩
      | 5, _ => exact ⟨f, rfl, wf⟩
    have hsp : sp = none := by
      obtain ⟨x, hx, _⟩ := hrd 0 (by omega) 0 (by omega)
      exact cell_spot hx
    subst hsp
    have had : ∀ k, (Addr.mk g o none).add k = ⟨g, o + k, none⟩ := fun k => by
      unfold Addr.add
      by_cases hk : k = 0 <;> simp [hk]
    refine .inr ⟨g, o, len1, cap1, fun i j => intAt w ⟨g, o + (i * 6 + j), none⟩, rfl, by omega, hl, hm, fun i hi' j hj => ?_, fun i j hi' hj => ?_⟩
    · obtain ⟨x, hx, _⟩ := hrd i hi' j hj
      rw [had] at hx
      show _ = some (Value.int .i64 (intAt w ⟨g, o + (i * 6 + j), none⟩))
      rw [hx, intAt_eq hx]
    · obtain ⟨x, hx, hw⟩ := hrd i hi' j hj
      rw [had] at hx
      show In64 (intAt w ⟨g, o + (i * 6 + j), none⟩)
      rw [intAt_eq hx]; exact hw
end
end Go.Proofs.Ytnokibdecnddlaa

/- Stores into one block leave the others as they are. -/
namespace Go.Proofs.Ytnokibdecnddlaa
open Go.RowKit

section
variable {w W' v : World} {g b o n B i0 i1 i2 : Nat} {t : TypeId} {cs : Array Value} {F : Nat → Nat → Int} {x y z r s u : Value}
theorem Blk.off3 (h : Blk w g t cs) (hg : g ≠ b) (hW : W' = ((w.setCell ⟨b, i0, none⟩ x).setCell ⟨b, i1, none⟩ y).setCell ⟨b, i2, none⟩ z) : Blk W' g t cs := by
  rw [hW]; exact ((h.far (p := ⟨b, i0, none⟩) hg _).far (p := ⟨b, i1, none⟩) hg _).far (p := ⟨b, i2, none⟩) hg _
theorem Bxs.off3 (h : Bxs w g o n F) (hg : g ≠ b) (hW : W' = ((w.setCell ⟨b, i0, none⟩ x).setCell ⟨b, i1, none⟩ y).setCell ⟨b, i2, none⟩ z) : Bxs W' g o n F := by
  rw [hW]; exact ((h.far (p := ⟨b, i0, none⟩) hg _).far (p := ⟨b, i1, none⟩) hg _).far (p := ⟨b, i2, none⟩) hg _
theorem off_below3 (h : Below B v w) (hB : B ≤ b) (hW : W' = ((w.setCell ⟨b, i0, none⟩ x).setCell ⟨b, i1, none⟩ y).setCell ⟨b, i2, none⟩ z) : Below B v W' := by
  rw [hW]; exact ((h.setCell (p := ⟨b, i0, none⟩) hB _).setCell (p := ⟨b, i1, none⟩) hB _).setCell (p := ⟨b, i2, none⟩) hB _
theorem Blk.off6 (h : Blk w g t cs) (hg : g ≠ b) (hW : W' = (((((w.setCell ⟨b, 0, none⟩ x).setCell ⟨b, 1, none⟩ y).setCell ⟨b, 2, none⟩ z).setCell ⟨b, 3, none⟩ r).setCell ⟨b, 4, none⟩ s).setCell ⟨b, 5, none⟩ u) : Blk W' g t cs := by
  rw [hW]; exact (((((h.far (p := ⟨b, 0, none⟩) hg _).far (p := ⟨b, 1, none⟩) hg _).far (p := ⟨b, 2, none⟩) hg _).far (p := ⟨b, 3, none⟩) hg _).far (p := ⟨b, 4, none⟩) hg _).far (p := ⟨b, 5, none⟩) hg _
theorem Bxs.off6 (h : Bxs w g o n F) (hg : g ≠ b) (hW : W' = (((((w.setCell ⟨b, 0, none⟩ x).setCell ⟨b, 1, none⟩ y).setCell ⟨b, 2, none⟩ z).setCell ⟨b, 3, none⟩ r).setCell ⟨b, 4, none⟩ s).setCell ⟨b, 5, none⟩ u) : Bxs W' g o n F := by
  rw [hW]; exact (((((h.far (p := ⟨b, 0, none⟩) hg _).far (p := ⟨b, 1, none⟩) hg _).far (p := ⟨b, 2, none⟩) hg _).far (p := ⟨b, 3, none⟩) hg _).far (p := ⟨b, 4, none⟩) hg _).far (p := ⟨b, 5, none⟩) hg _
theorem off_below6 (h : Below B v w) (hB : B ≤ b) (hW : W' = (((((w.setCell ⟨b, 0, none⟩ x).setCell ⟨b, 1, none⟩ y).setCell ⟨b, 2, none⟩ z).setCell ⟨b, 3, none⟩ r).setCell ⟨b, 4, none⟩ s).setCell ⟨b, 5, none⟩ u) : Below B v W' := by
  rw [hW]; exact (((((h.setCell (p := ⟨b, 0, none⟩) hB _).setCell (p := ⟨b, 1, none⟩) hB _).setCell (p := ⟨b, 2, none⟩) hB _).setCell (p := ⟨b, 3, none⟩) hB _).setCell (p := ⟨b, 4, none⟩) hB _).setCell (p := ⟨b, 5, none⟩) hB _
theorem Bxs.re (h : Bxs w g o n F) (d : Nat) (os : Array Obj) : Bxs (Go.Sort.grow (redrawn w d) os) g o n F := h.on (below_regrown w d os)
end
end Go.Proofs.Ytnokibdecnddlaa

/- What is under a box: the document's. -/
namespace Go.Proofs.Ytnokibdecnddlaa
open Go.RowKit

set_option maxHeartbeats 1000000 in
theorem runder_c (a b c d e f : Int) (h1 : -140737488355328 ≤ b) (h2 : b ≤ 140737488355328) (w : World) : Calls Try.prog 81 #[.agg #[.int .i64 a, .int .i64 b, .int .i64 c, .int .i64 d, .int .i64 e, .int .i64 f]] w fun r w' => r = .returned (.agg #[.int .i64 a, .int .i64 (cutI (b - 1)), .int .i64 c, .int .i64 d, .int .i64 b, .int .i64 f]) ∧ Below w.heap.size w w' := by
  obtain ⟨W, hW⟩ : ∃ W, W = ((w.alloc (.cells #[.int .i64 a, .int .i64 b, .int .i64 c, .int .i64 d, .int .i64 e, .int .i64 f] 48)).alloc (.cells #[.int .i64 0, .int .i64 0, .int .i64 0, .int .i64 0, .int .i64 0, .int .i64 0] 48)).alloc (.cells #[.int .i64 a, .int .i64 b, .int .i64 c, .int .i64 d, .int .i64 e, .int .i64 f] 48) := ⟨_, rfl⟩
  have H : Below w.heap.size w W := by rw [hW]; go_grown
  have A : Blk W w.heap.size 48 #[.int .i64 a, .int .i64 b, .int .i64 c, .int .i64 d, .int .i64 e, .int .i64 f] := by rw [hW]; exact ((Blk.new' rfl).alloc _).alloc _
  have R : Blk W (w.heap.size + 1) 48 #[.int .i64 0, .int .i64 0, .int .i64 0, .int .i64 0, .int .i64 0, .int .i64 0] := by rw [hW]; exact (Blk.new' (by simp)).alloc _
  have O : Blk W (w.heap.size + 1 + 1) 48 #[.int .i64 a, .int .i64 b, .int .i64 c, .int .i64 d, .int .i64 e, .int .i64 f] := by rw [hW]; exact Blk.new' (by simp)
  obtain ⟨⟨a0, a1, a2, a3, a4, a5⟩, -, -, -, -, -, -⟩ := A.c6
  obtain ⟨⟨o0, o1, o2, o3, o4, o5⟩, p0, p1, p2, p3, p4, p5⟩ := O.c6
  obtain ⟨⟨r0, r1, r2, r3, r4, r5⟩, f0, f1, f2, f3, f4, f5⟩ := R.c6
  go_enter Try.func81, Try.ntmps81
  go_upto_region 2 with (fail)
  rw [← hW]
  clear hW
  go_wp2_with fail
  refine (rcut_c _ _).mono ?_; rintro e w1 ⟨rfl, rfl⟩
  go_upto_region 4 with (fail)
  clear a0 a1 a2 a3 a4 a5 o0 o1 o2 o3 o4 o5 p0 p1 p2 p3 p4 p5 r0 r1 r2 r3 r4 r5 f0 f1 f2 f3 f4 f5 A
  obtain ⟨W2, hW⟩ : ∃ W2, W2 = (W.setCell ⟨w.heap.size + 1 + 1, 1, none⟩ (.int .i64 (cutI (b - 1)))).setCell ⟨w.heap.size + 1 + 1, 4, none⟩ (.int .i64 b) := ⟨_, rfl⟩
  rw [← hW]
  replace O : Blk W2 (w.heap.size + 1 + 1) 48 #[.int .i64 a, .int .i64 (cutI (b - 1)), .int .i64 c, .int .i64 d, .int .i64 b, .int .i64 f] := by rw [hW]; exact (O.set_ 1 _).set_ 4 _
  replace R : Blk W2 (w.heap.size + 1) 48 #[.int .i64 0, .int .i64 0, .int .i64 0, .int .i64 0, .int .i64 0, .int .i64 0] := by rw [hW]; exact (R.far (by simp) _).far (by simp) _
  replace H : Below w.heap.size w W2 := by rw [hW]; exact (H.setCell (by simp; omega) _).setCell (by simp; omega) _
  clear hW
  obtain ⟨⟨o0, o1, o2, o3, o4, o5⟩, -, -, -, -, -, -⟩ := O.c6
  obtain ⟨⟨r0, r1, r2, r3, r4, r5⟩, f0, f1, f2, f3, f4, f5⟩ := R.c6
  go_wp2_with fail
  have R2 := R.st6 (.int .i64 (a)) (.int .i64 (cutI (b - 1))) (.int .i64 (c)) (.int .i64 (d)) (.int .i64 (b)) (.int .i64 (f))
  obtain ⟨⟨d0, d1, d2, d3, d4, d5⟩, -, -, -, -, -, -⟩ := R2.c6
  exact bodyPost_ret (v := .agg #[.int .i64 (a), .int .i64 (cutI (b - 1)), .int .i64 (c), .int .i64 (d), .int .i64 (b), .int .i64 (f)]) (by simp [results, Try.results81, go_sem, d0, d1, d2, d3, d4, d5]) rfl ⟨rfl, by (repeat' (first | (with_reducible exact Below.refl _ _) | (with_reducible assumption) | (with_reducible refine Below.alloc ?_ ?_ _) | (with_reducible refine Below.drew ?_) | (with_reducible refine Below.setCell ?_ ?_ _) | (with_reducible refine after ?_ (below_regrown _ _ _)) | (refine after ?_ (by with_reducible assumption)) | go_size))⟩
end Go.Proofs.Ytnokibdecnddlaa

/- What is under a box: the program's. -/
namespace Go.Proofs.Ytnokibdecnddlaa
open Go.RowKit

theorem sub_one {b : Int} (h1 : -140737488355328 ≤ b) (h2 : b ≤ 140737488355328) : subI b 1 = cutI (b - 1) := by
  unfold subI; rw [cutI_id h1 h2]; rfl
theorem cut_cut (b : Int) : cutI (cutI b) = cutI b := cutI_id (cutI_lo b) (cutI_hi b)
set_option maxHeartbeats 2000000 in
theorem under_raw (a b c d e f : Int) (h1 : -140737488355328 ≤ b) (h2 : b ≤ 140737488355328) (w : World) : Calls Try.prog 104 #[.agg #[.int .i64 a, .int .i64 b, .int .i64 c, .int .i64 d, .int .i64 e, .int .i64 f]] w fun r w' => r = .returned (.agg #[.int .i64 (wiI a 1 0 (cutI (b - 1))), .int .i64 (wiI b 1 1 (cutI (b - 1))), .int .i64 (wiI c 1 2 (cutI (b - 1))), .int .i64 (wiI d 1 0 b), .int .i64 (wiI e 1 1 b), .int .i64 (wiI f 1 2 b)]) ∧ Below w.heap.size w w' := by
  have U : Blk ((w.alloc (.cells #[.int .i64 a, .int .i64 b, .int .i64 c, .int .i64 d, .int .i64 e, .int .i64 f] 48)).alloc (.cells #[.int .i64 0, .int .i64 0, .int .i64 0, .int .i64 0, .int .i64 0, .int .i64 0] 48)) w.heap.size 48 #[.int .i64 a, .int .i64 b, .int .i64 c, .int .i64 d, .int .i64 e, .int .i64 f] := (Blk.new' rfl).alloc _
  have R0 : Blk ((w.alloc (.cells #[.int .i64 a, .int .i64 b, .int .i64 c, .int .i64 d, .int .i64 e, .int .i64 f] 48)).alloc (.cells #[.int .i64 0, .int .i64 0, .int .i64 0, .int .i64 0, .int .i64 0, .int .i64 0] 48)) (w.heap.size + 1) 48 #[.int .i64 0, .int .i64 0, .int .i64 0, .int .i64 0, .int .i64 0, .int .i64 0] := Blk.new' (by simp)
  obtain ⟨k0, k1, k2, k3, k4, k5⟩ := U.re6
  obtain ⟨⟨u0, u1, u2, u3, u4, u5⟩, -, -, -, -, -, -⟩ := U.c6
  have hs : ∀ w, Calls Try.prog 96 #[.int .i64 b, .int .i64 1] w fun e w' => e = .returned (.int .i64 (cutI (b - 1))) ∧ w = w' := fun w => by have := fsub_c b 1 w; rwa [sub_one h1 h2] at this
  go_enter Try.func104, Try.ntmps104
  go_upto_region 2 with (fail)
  refine wp_region_last_below 10 (by kernel_rfl) rfl (by kernel_rfl) ?_
  simp only [List.take_succ_cons, List.take_zero, List.drop_succ_cons, List.drop_zero]
  repeat (go_big_quiet_step (first | (go_at_call 96; exact Calls.regrown_of (calls_bel (hs _))) | exact Calls.regrown_of (with_c _ _ _ _ _ _)))
  refine wpQuiet_nil ?_
  intro w' hw'
  obtain ⟨rg, rfl⟩ := hw'
  have R := R0.re rg.d rg.os
  obtain ⟨⟨r0, r1, r2, r3, r4, r5⟩, f0, f1, f2, f3, f4, f5⟩ := R.c6
  go_wp2_with fail
  have R2 := R.st6 (.int .i64 (wiI a 1 0 (cutI (b - 1)))) (.int .i64 (wiI b 1 1 (cutI (b - 1)))) (.int .i64 (wiI c 1 2 (cutI (b - 1)))) (.int .i64 (wiI d 1 0 b)) (.int .i64 (wiI e 1 1 b)) (.int .i64 (wiI f 1 2 b))
  obtain ⟨⟨d0, d1, d2, d3, d4, d5⟩, -, -, -, -, -, -⟩ := R2.c6
  exact bodyPost_ret (v := .agg #[.int .i64 (wiI a 1 0 (cutI (b - 1))), .int .i64 (wiI b 1 1 (cutI (b - 1))), .int .i64 (wiI c 1 2 (cutI (b - 1))), .int .i64 (wiI d 1 0 b), .int .i64 (wiI e 1 1 b), .int .i64 (wiI f 1 2 b)]) (by simp [results, Try.results104, go_sem, d0, d1, d2, d3, d4, d5]) rfl ⟨rfl, by (repeat' (first | (with_reducible exact Below.refl _ _) | (with_reducible assumption) | (with_reducible refine Below.alloc ?_ ?_ _) | (with_reducible refine Below.drew ?_) | (with_reducible refine Below.setCell ?_ ?_ _) | (with_reducible refine after ?_ (below_regrown _ _ _)) | (refine after ?_ (by with_reducible assumption)) | go_size))⟩
theorem under_c (a b c d e f : Int) (h1 : -140737488355328 ≤ b) (h2 : b ≤ 140737488355328) (w : World) : Calls Try.prog 104 #[.agg #[.int .i64 a, .int .i64 b, .int .i64 c, .int .i64 d, .int .i64 e, .int .i64 f]] w fun r w' => r = .returned (.agg #[.int .i64 a, .int .i64 (cutI (b - 1)), .int .i64 c, .int .i64 d, .int .i64 b, .int .i64 f]) ∧ Below w.heap.size w w' := by
  have h := under_raw a b c d e f h1 h2 w
  rw [show wiI a 1 0 (cutI (b - 1)) = a from rfl, show wiI b 1 1 (cutI (b - 1)) = cutI (b - 1) from cut_cut _, show wiI c 1 2 (cutI (b - 1)) = c from rfl, show wiI d 1 0 b = d from rfl, show wiI e 1 1 b = b from cutI_id h1 h2, show wiI f 1 2 b = f from rfl] at h
  exact h
end Go.Proofs.Ytnokibdecnddlaa

/- What a box meets: any, Blocked, Wet, Climbs, Stands. -/
namespace Go.Proofs.Ytnokibdecnddlaa
open Go.RowKit Go.Shelf
attribute [local go_sem] Oper.semAt_some

theorem Tells.on {P : Program} {V : FuncId} {lb : Array Value} {val : Cl → Int} {w W : World} (h : Tells P V lb val w) (H : Below w.heap.size w W) : Tells P V lb val W :=
  fun c X hX => h c X (H.trans (hX.mono H.size))
theorem Says.on {P : Program} {G : FuncId} {lb : Array Value} {p : Int → Bool} {w W : World} (h : Says P G lb p w) (H : Below w.heap.size w W) : Says P G lb p W :=
  fun c X hX => h c X (H.trans (hX.mono H.size))
theorem find_any {α : Type} (l : List α) (q : α → Bool) : l.any q = (l.find? q).isSome := by
  rw [Bool.eq_iff_iff, List.find?_isSome, List.any_eq_true]
set_option maxHeartbeats 2000000 in
theorem any_c (V G : FuncId) (lv lg : Array Value) (val : Cl → Int) (p : Int → Bool) (a b c d e f : Int) (hB : BoxOk a b c d e f) (w : World)
    (eV : ∀ args w, (callFunc V args).run Try.prog w = .ok (.enter V args) w) (eG : ∀ args w, (callFunc G args).run Try.prog w = .ok (.enter G args) w) (hV : Tells Try.prog V lv val w) (hG : Says Try.prog G lg p w) :
    Calls Try.prog 100 #[.func (.func V) #[] lv, .agg #[.int .i64 a, .int .i64 b, .int .i64 c, .int .i64 d, .int .i64 e, .int .i64 f], .func (.func G) #[] lg] w fun r w' =>
      r = .returned (.bool ((cellsI a b c d e f).any fun x => p (val x))) ∧ Below w.heap.size w w' := by
  have hF : ∀ W, Below w.heap.size w W → Calls Try.prog 112 #[.func (.func V) #[] lv, .agg #[.int .i64 a, .int .i64 b, .int .i64 c, .int .i64 d, .int .i64 e, .int .i64 f], .func (.func G) #[] lg] W fun r w' => r = .returned (findV ((cellsI a b c d e f).find? fun x => p (val x))) ∧ Below W.heap.size W w' :=
    fun W H => find_c V G lv lg val p a b c d e f hB W eV eG (hV.on H) (hG.on H)
  clear hV hG eV eG hB
  rw [find_any]
  generalize (cellsI a b c d e f).find? (fun x => p (val x)) = o at hF ⊢
  rcases o with - | ⟨x, y, z⟩
  all_goals
    simp only [findV, Option.isSome] at hF ⊢
    replace hF := Lib.hid hF
    go_enter Try.func100, Try.ntmps100
    go_wp2_with (go_at_call 112; refine (hF.out _ (by go_grown)).mono ?_; rintro e_ w1 ⟨rfl, h1⟩)
    go_returns
    exact ⟨rfl, (after ((Below.refl _ w).alloc (Nat.le_refl _) _) h1).alloc (by have := h1.size; simp at this; omega) _⟩
theorem says_of {G : FuncId} {p : Int → Bool} (h : ∀ n w, Calls Try.prog G #[.int .i64 n] w fun r w' => r = .returned (.bool (p n)) ∧ w = w') (w : World) : Says Try.prog G #[] p w :=
  fun n W _ => (h n W).mono fun r w' h => ⟨h.1, by rw [← h.2]; exact Below.refl _ _⟩
set_option maxHeartbeats 2000000 in
theorem pmBlocked_c (V : FuncId) (lv : Array Value) (val : Cl → Int) (a b c d e f : Int) (hB : BoxOk a b c d e f) (w : World)
    (eV : ∀ args w, (callFunc V args).run Try.prog w = .ok (.enter V args) w) (hV : Tells Try.prog V lv val w) :
    Calls Try.prog 103 #[.func (.func V) #[] lv, .agg #[.int .i64 a, .int .i64 b, .int .i64 c, .int .i64 d, .int .i64 e, .int .i64 f]] w fun r w' =>
      r = .returned (.bool ((cellsI a b c d e f).any fun x => solB (val x))) ∧ Below w.heap.size w w' := by
  have hF : ∀ W, Below w.heap.size w W → Calls Try.prog 100 #[.func (.func V) #[] lv, .agg #[.int .i64 a, .int .i64 b, .int .i64 c, .int .i64 d, .int .i64 e, .int .i64 f], .func (.func 113) #[] #[]] W fun r w' => r = .returned (.bool ((cellsI a b c d e f).any fun x => solB (val x))) ∧ Below W.heap.size W w' :=
    fun W H => any_c V 113 lv #[] val solB a b c d e f hB W eV (enters_of Try.func113 (by kernel_rfl) rfl) (hV.on H) (says_of solid_c _)
  replace hF := Lib.hid hF
  clear hV eV hB
  go_enter Try.func103, Try.ntmps103
  go_wp2_with (go_at_call 100; refine (hF.out _ (by go_grown)).mono ?_; rintro e_ w1 ⟨rfl, h1⟩)
  go_returns
  exact ⟨rfl, by (repeat' (first | (with_reducible exact Below.refl _ _) | (with_reducible assumption) | (with_reducible refine Below.alloc ?_ ?_ _) | (with_reducible refine Below.drew ?_) | (with_reducible refine Below.setCell ?_ ?_ _) | (with_reducible refine after ?_ (below_regrown _ _ _)) | (refine after ?_ (by with_reducible assumption)) | go_size))⟩
set_option maxHeartbeats 2000000 in
theorem pmWet_c (V : FuncId) (lv : Array Value) (val : Cl → Int) (a b c d e f : Int) (hB : BoxOk a b c d e f) (w : World)
    (eV : ∀ args w, (callFunc V args).run Try.prog w = .ok (.enter V args) w) (hV : Tells Try.prog V lv val w) :
    Calls Try.prog 76 #[.func (.func V) #[] lv, .agg #[.int .i64 a, .int .i64 b, .int .i64 c, .int .i64 d, .int .i64 e, .int .i64 f]] w fun r w' =>
      r = .returned (.bool ((cellsI a b c d e f).any fun x => wetB (val x))) ∧ Below w.heap.size w w' := by
  have hF : ∀ W, Below w.heap.size w W → Calls Try.prog 100 #[.func (.func V) #[] lv, .agg #[.int .i64 a, .int .i64 b, .int .i64 c, .int .i64 d, .int .i64 e, .int .i64 f], .func (.func 102) #[] #[]] W fun r w' => r = .returned (.bool ((cellsI a b c d e f).any fun x => wetB (val x))) ∧ Below W.heap.size W w' :=
    fun W H => any_c V 102 lv #[] val wetB a b c d e f hB W eV (enters_of Try.func102 (by kernel_rfl) rfl) (hV.on H) (says_of wet_c _)
  replace hF := Lib.hid hF
  clear hV eV hB
  go_enter Try.func76, Try.ntmps76
  go_wp2_with (go_at_call 100; refine (hF.out _ (by go_grown)).mono ?_; rintro e_ w1 ⟨rfl, h1⟩)
  go_returns
  exact ⟨rfl, by (repeat' (first | (with_reducible exact Below.refl _ _) | (with_reducible assumption) | (with_reducible refine Below.alloc ?_ ?_ _) | (with_reducible refine Below.drew ?_) | (with_reducible refine Below.setCell ?_ ?_ _) | (with_reducible refine after ?_ (below_regrown _ _ _)) | (refine after ?_ (by with_reducible assumption)) | go_size))⟩
set_option maxHeartbeats 2000000 in
theorem pmClimbs_c (V : FuncId) (lv : Array Value) (val : Cl → Int) (a b c d e f : Int) (hB : BoxOk a b c d e f) (w : World)
    (eV : ∀ args w, (callFunc V args).run Try.prog w = .ok (.enter V args) w) (hV : Tells Try.prog V lv val w) :
    Calls Try.prog 75 #[.func (.func V) #[] lv, .agg #[.int .i64 a, .int .i64 b, .int .i64 c, .int .i64 d, .int .i64 e, .int .i64 f]] w fun r w' =>
      r = .returned (.bool ((cellsI a b c d e f).any fun x => cliB (val x))) ∧ Below w.heap.size w w' := by
  have hF : ∀ W, Below w.heap.size w W → Calls Try.prog 100 #[.func (.func V) #[] lv, .agg #[.int .i64 a, .int .i64 b, .int .i64 c, .int .i64 d, .int .i64 e, .int .i64 f], .func (.func 101) #[] #[]] W fun r w' => r = .returned (.bool ((cellsI a b c d e f).any fun x => cliB (val x))) ∧ Below W.heap.size W w' :=
    fun W H => any_c V 101 lv #[] val cliB a b c d e f hB W eV (enters_of Try.func101 (by kernel_rfl) rfl) (hV.on H) (says_of climbs_c _)
  replace hF := Lib.hid hF
  clear hV eV hB
  go_enter Try.func75, Try.ntmps75
  go_wp2_with (go_at_call 100; refine (hF.out _ (by go_grown)).mono ?_; rintro e_ w1 ⟨rfl, h1⟩)
  go_returns
  exact ⟨rfl, by (repeat' (first | (with_reducible exact Below.refl _ _) | (with_reducible assumption) | (with_reducible refine Below.alloc ?_ ?_ _) | (with_reducible refine Below.drew ?_) | (with_reducible refine Below.setCell ?_ ?_ _) | (with_reducible refine after ?_ (below_regrown _ _ _)) | (refine after ?_ (by with_reducible assumption)) | go_size))⟩
set_option maxHeartbeats 2000000 in
theorem pmStands_c (V : FuncId) (lv : Array Value) (val : Cl → Int) (a b c d e f : Int) (h1 : -140737488355328 ≤ b) (h2 : b ≤ 140737488355328) (hB : BoxOk a (cutI (b - 1)) c d b f) (w : World)
    (eV : ∀ args w, (callFunc V args).run Try.prog w = .ok (.enter V args) w) (hV : Tells Try.prog V lv val w) :
    Calls Try.prog 77 #[.func (.func V) #[] lv, .agg #[.int .i64 a, .int .i64 b, .int .i64 c, .int .i64 d, .int .i64 e, .int .i64 f]] w fun r w' =>
      r = .returned (.bool ((cellsI a (cutI (b - 1)) c d b f).any fun x => solB (val x))) ∧ Below w.heap.size w w' := by
  have hF : ∀ W, Below w.heap.size w W → Calls Try.prog 103 #[.func (.func V) #[] lv, .agg #[.int .i64 a, .int .i64 (cutI (b - 1)), .int .i64 c, .int .i64 d, .int .i64 b, .int .i64 f]] W fun r w' => r = .returned (.bool ((cellsI a (cutI (b - 1)) c d b f).any fun x => solB (val x))) ∧ Below W.heap.size W w' :=
    fun W H => pmBlocked_c V lv val a (cutI (b - 1)) c d b f hB W eV (hV.on H)
  have hU := fun W => under_c a b c d e f h1 h2 W
  replace hF := Lib.hid hF
  replace hU := Lib.hid hU
  clear hV eV hB h1 h2
  generalize cutI (b - 1) = b' at hF hU ⊢
  go_enter Try.func77, Try.ntmps77
  go_wp2_with first
    | (go_at_call 104; refine (hU.out _).mono ?_; rintro e_ w1 ⟨rfl, h1⟩)
    | (go_at_call 103; refine (hF.out _ (after ((Below.refl _ w).alloc (Nat.le_refl _) _) h1)).mono ?_; rintro e_ w2 ⟨rfl, h2⟩)
  go_returns
  exact ⟨rfl, after (after ((Below.refl _ w).alloc (Nat.le_refl _) _) h1) h2⟩
end Go.Proofs.Ytnokibdecnddlaa

/- A small world: what it tells of a cell. -/
namespace Go.Proofs.Ytnokibdecnddlaa
open Go.RowKit

/-- What a slice of ints reads. -/
def Iq (w : World) (q : Option Addr) (n : Nat) (F : Nat → Int) : Prop := 0 < n → ∃ g o, q = some ⟨g, o, none⟩ ∧ ∀ i, i < n → w.cell? ⟨g, o + i, none⟩ = some (.int .i64 (F i))
theorem Iq.on {w w' : World} {q : Option Addr} {n : Nat} {F : Nat → Int} (h : Iq w q n F) (hb : Below w.heap.size w w') : Iq w' q n F := fun hn => by
  obtain ⟨g, o, e, h1⟩ := h hn
  exact ⟨g, o, e, fun i hi => by rw [cell_below hb (cell_lt (h1 i hi))]; exact h1 i hi⟩
/-- What a small world of n blocks, and of one for all else, tells of a cell. -/
def atG (n : Nat) (F : Nat → Int) (els x y z : Int) : Int :=
  if y < 0 then 1 else if 0 ≤ x ∧ x < 6 ∧ y < 6 ∧ 0 ≤ z ∧ z < 6 then (if (y * 6 + z) * 6 + x < n then F ((y * 6 + z) * 6 + x).toNat else 0) else els
set_option maxHeartbeats 2000000 in
theorem at_c (q : Option Addr) (n c : Nat) (F : Nat → Int) (els x y z : Int) (w : World) (hq : Iq w q n F) :
    Calls Try.prog 39 #[.agg #[.slice q n c, .int .i64 els], .agg #[.int .i64 x, .int .i64 y, .int .i64 z]] w fun r w' => r = .returned (.int .i64 (atG n F els x y z)) ∧ Below w.heap.size w w' := by
  obtain ⟨W, hW⟩ : ∃ W, W = (w.alloc (.cells #[.slice q n c, .int .i64 els] 24)).alloc (.cells #[.int .i64 x, .int .i64 y, .int .i64 z] 74) := ⟨_, rfl⟩
  have H : Below w.heap.size w W := by rw [hW]; go_grown
  have A : Blk W w.heap.size 24 #[.slice q n c, .int .i64 els] := by rw [hW]; exact (Blk.new' rfl).alloc _
  have B : Blk W (w.heap.size + 1) 74 #[.int .i64 x, .int .i64 y, .int .i64 z] := by rw [hW]; exact Blk.new' (by simp)
  have a0 := A.cell 0
  have a1 := A.cell 1
  obtain ⟨b0, b1, b2, -, -, -⟩ := B.c3
  replace hq := hq.on H
  go_enter Try.func39, Try.ntmps39
  go_upto_region 1 with (fail)
  rw [← hW]
  clear hW A B
  generalize hv : w.heap.size = nw at a0 a1 b0 b1 b2 ⊢
  by_cases hy : y < 0
  · go_wp2_with fail
    go_returns
    exact ⟨ret_i (by unfold atG; rw [if_pos (by omega)]), by first | exact H | (rw [← hv]; exact H)⟩
  have hy' : 0 ≤ y := by omega
  by_cases hx : 0 ≤ x
  · by_cases hx6 : x < 6
    · by_cases hy6 : y < 6
      · by_cases hz : 0 ≤ z
        · by_cases hz6 : z < 6
          · obtain ⟨k, hk⟩ : ∃ k : Nat, (y * 6 + z) * 6 + x = k := ⟨((y * 6 + z) * 6 + x).toNat, by omega⟩
            have hG : atG n F els x y z = if k < n then F k else 0 := by
              unfold atG
              rw [if_neg (by omega), if_pos ⟨hx, hx6, hy6, hz, hz6⟩, hk]
              by_cases h : k < n <;> simp [h]
            replace hG : Hid (atG n F els x y z = if k < n then F k else 0) := hG
            by_cases hkn : k < n
            · obtain ⟨g, o, rfl, hI⟩ := hq (by omega)
              have hc := hI k hkn
              have hkn' : (k : Int) < n := by omega
              have hk0 : (0 : Int) ≤ k := by omega
              go_wp2_with fail
              go_returns
              exact ⟨ret_i (by rw [hG.out, if_pos hkn]), by first | exact H | (rw [← hv]; exact H)⟩
            · have hkn' : ¬ (k : Int) < n := by omega
              go_wp2_with fail
              go_returns
              exact ⟨ret_i (by rw [hG.out, if_neg hkn]), by first | exact H | (rw [← hv]; exact H)⟩
          · go_wp2_with fail
            go_returns
            exact ⟨ret_i (by unfold atG; rw [if_neg (by omega), if_neg (by omega)]), by first | exact H | (rw [← hv]; exact H)⟩
        · go_wp2_with fail
          go_returns
          exact ⟨ret_i (by unfold atG; rw [if_neg (by omega), if_neg (by omega)]), by first | exact H | (rw [← hv]; exact H)⟩
      · go_wp2_with fail
        go_returns
        exact ⟨ret_i (by unfold atG; rw [if_neg (by omega), if_neg (by omega)]), by first | exact H | (rw [← hv]; exact H)⟩
    · go_wp2_with fail
      go_returns
      exact ⟨ret_i (by unfold atG; rw [if_neg (by omega), if_neg (by omega)]), by first | exact H | (rw [← hv]; exact H)⟩
  · go_wp2_with fail
    go_returns
    exact ⟨ret_i (by unfold atG; rw [if_neg (by omega), if_neg (by omega)]), by first | exact H | (rw [← hv]; exact H)⟩
end Go.Proofs.Ytnokibdecnddlaa

/- A small world's view. -/
namespace Go.Proofs.Ytnokibdecnddlaa
open Go.RowKit

set_option maxHeartbeats 1000000 in
theorem view1_c (q : Option Addr) (n c : Nat) (F : Nat → Int) (els x y z : Int) (b : Nat) (w : World) (hb : Blk w b 24 #[.slice q n c, .int .i64 els]) (hq : Iq w q n F) :
    Calls Try.prog 38 #[.agg #[.int .i64 x, .int .i64 y, .int .i64 z], .pointer (some ⟨b, 0, none⟩)] w fun r w' => r = .returned (.int .i64 (atG n F els x y z)) ∧ Below w.heap.size w w' := by
  obtain ⟨W, hW⟩ : ∃ W, W = w.alloc (.cells #[.int .i64 x, .int .i64 y, .int .i64 z] 74) := ⟨_, rfl⟩
  have H : Below w.heap.size w W := by rw [hW]; go_grown
  have A := hb.on H
  have B : Blk W w.heap.size 74 #[.int .i64 x, .int .i64 y, .int .i64 z] := by rw [hW]; exact Blk.new' rfl
  have a0 := A.cell 0
  have a1 := A.cell 1
  obtain ⟨b0, b1, b2, -, -, -⟩ := B.c3
  replace hq := hq.on H
  go_enter Try.func38, Try.ntmps38
  go_upto_region 1 with (fail)
  rw [← hW]
  clear hW A B
  go_wp2_with fail
  refine (at_c q n c F els x y z _ hq).mono ?_; rintro e w1 ⟨rfl, h2⟩
  go_wp2_with fail
  go_returns
  exact ⟨rfl, after H h2⟩
end Go.Proofs.Ytnokibdecnddlaa

/- Rows that a call owns, and rows that are read: the elements of a list, each as its cells. No program in sight. -/
namespace Go.Proofs.Ytnokibdecnddlaa
open Go.RowKit

section
variable {P : Program} {w w' : World} {base : Nat} {e : TypeId} {size : Nat} {α : Type} {enc : α → List Value} {v : Value} {xs : List α}
/-- v owns a row in a block from base on. -/
def Owns (w : World) (base : Nat) (e : TypeId) (size : Nat) (enc : α → List Value) (v : Value) (xs : List α) : Prop := w.ownsRow base e size v xs.length (xs.flatMap enc)
/-- From q on lie the elements of xs. -/
def Rd (w : World) (q : Option Addr) (size : Nat) (enc : α → List Value) (xs : List α) : Prop :=
  0 < xs.length → ∃ g o, q = some ⟨g, o, none⟩ ∧ ∀ i x, xs[i]? = some x → ∀ j u, (enc x)[j]? = some u → w.cell? ⟨g, o + i * size + j, none⟩ = some u
theorem Rd.on {q : Option Addr} (h : Rd w q size enc xs) (hb : Below w.heap.size w w') : Rd w' q size enc xs := fun hn => by
  obtain ⟨g, o, hq, h1⟩ := h hn
  exact ⟨g, o, hq, fun i x hx j u hu => by rw [cell_below hb (cell_lt (h1 i x hx j u hu))]; exact h1 i x hx j u hu⟩
theorem Rd.at {g o : Nat} (h : Rd w (some ⟨g, o, none⟩) size enc xs) {i : Nat} {x : α} (hx : xs[i]? = some x) {j : Nat} {u : Value} (hu : (enc x)[j]? = some u) : w.cell? ⟨g, o + i * size + j, none⟩ = some u := by
  have hn : 0 < xs.length := by have := (List.getElem?_eq_some_iff.1 hx).1; omega
  obtain ⟨g', o', hq, h1⟩ := h hn
  cases hq
  exact h1 i x hx j u hu
theorem Rd.far {q : Option Addr} (h : Rd w q size enc xs) (hq : ∀ a, q = some a → base ≤ a.block) {p : Addr} (hp : p.block < base) (u : Value) : Rd (w.setCell p u) q size enc xs := fun hn => by
  obtain ⟨g, o, hg, h1⟩ := h hn
  have h2 := hq _ hg
  exact ⟨g, o, hg, fun i x hx j v hv => by
    have h3 := h1 i x hx j v hv
    unfold World.cell? at h3 ⊢
    rw [Below.heap_setCell w p u g (by dsimp only at h2; omega)]
    exact h3⟩
theorem Owns.nil : Owns w base e size enc (.slice none 0 0) ([] : List α) := ⟨by simp, .inl ⟨rfl, rfl⟩⟩
theorem flat_at (hl : ∀ x, (enc x).length = size) : ∀ (xs : List α) (i : Nat) (x : α), xs[i]? = some x → ∀ j u, (enc x)[j]? = some u → (xs.flatMap enc)[i * size + j]? = some u := by
  intro xs
  induction xs with
  | nil => intro i x h; cases h
  | cons y ys ih =>
    intro i x hx j u hu
    rw [List.flatMap_cons]
    have hj : j < size := by rw [← hl x]; exact (List.getElem?_eq_some_iff.1 hu).1
    cases i with
    | zero =>
      obtain rfl : y = x := by simpa using hx
      rw [List.getElem?_append_left (by rw [hl]; omega)]
      simpa using hu
    | succ i =>
      rw [List.getElem?_append_right (by rw [hl, Nat.succ_mul]; omega), hl, show (i + 1) * size + j - size = i * size + j by rw [Nat.succ_mul]; omega]
      exact ih i x (by simpa using hx) j u hu
theorem Owns.form (hl : ∀ x, (enc x).length = size) (h : Owns w base e size enc v xs) : ∃ q cap, v = .slice q xs.length cap ∧ xs.length ≤ cap ∧ cap ≤ maxLen ∧ Rd w q size enc xs ∧ (∀ a, q = some a → base ≤ a.block ∧ a.block < w.heap.size) ∧ (0 < xs.length → ∃ g, q = some ⟨g, 0, none⟩) := by
  rcases h.2 with ⟨hv, h0⟩ | ⟨g, cap, cur, hv, hb, hg, hc, hm, hs, ht⟩
  · exact ⟨none, 0, by rw [hv, h0], by omega, by omega, fun hn => by omega, fun a ha => (by cases ha), fun hn => by omega⟩
  · refine ⟨_, cap, hv, hc, hm, fun _ => ⟨g, 0, rfl, fun i x hx j u hu => ?_⟩, fun a ha => by cases ha; exact ⟨hb, (Array.getElem?_eq_some_iff.1 hg).1⟩, fun _ => ⟨g, rfl⟩⟩
    have h1 := flat_at hl xs i x hx j u hu
    rw [← ht] at h1
    have h2 := (List.getElem?_eq_some_iff.1 h1).1
    rw [List.length_take] at h2
    rw [List.getElem?_take_of_lt (by omega)] at h1
    rw [show 0 + i * size + j = i * size + j by omega]
    have := Blk.cell (w := w) (t := e) (cs := cur) hg (i * size + j)
    rw [this]
    simpa using h1
theorem Owns.on (h : Owns w base e size enc v xs) (hb : Below w.heap.size w w') : Owns w' base e size enc v xs := by
  refine ⟨h.1, ?_⟩
  rcases h.2 with h0 | ⟨g, cap, cur, hv, hbg, hg, r⟩
  · exact .inl h0
  · exact .inr ⟨g, cap, cur, hv, hbg, Blk.on hg hb, r⟩
/-- A store ahead of base leaves it. -/
theorem Owns.far (h : Owns w base e size enc v xs) {p : Addr} (hp : p.block < base) (u : Value) : Owns (w.setCell p u) base e size enc v xs := ownsRow_setCell_below h hp u
theorem Owns.kept (h : Owns w base e size enc v xs) (hk : ∀ g, base ≤ g → g < w.heap.size → w'.heap[g]? = w.heap[g]?) : Owns w' base e size enc v xs := by
  refine ⟨h.1, ?_⟩
  rcases h.2 with h0 | ⟨g, cap, cur, hv, hbg, hg, r⟩
  · exact .inl h0
  · exact .inr ⟨g, cap, cur, hv, hbg, (hk g hbg (Array.getElem?_eq_some_iff.1 hg).1).trans hg, r⟩
theorem Owns.block (h : Owns w base e size enc v xs) : ∀ k, v.ownBlock = some k → base ≤ k ∧ k < w.heap.size := World.ownsRow.lt h
/-- One element behind them. -/
theorem run_push {ts ty : TypeId} {z : Value} {bytes b : Nat} {x : α} (ht : P.underlying ts = some (.slice e)) (hi : (P.info? e).map (fun i => (i.zero, i.size, i.bytes)) = some (some z, size, bytes)) (hz : z.cells.size = size) (hs : 0 < size) (hby : 0 < bytes)
    (hl : (enc x).length = size) (h1 : ∀ u ∈ enc x, u.oneCell' = true) (hown : Owns w base e size enc v xs) (hx : ∀ j u, (enc x)[j]? = some u → w.cell? ⟨b, j, none⟩ = some u) (h47 : (xs.length + 1) * bytes ≤ 140737488355328) (hbase : base ≤ w.heap.size) :
    ∃ v' w', (Builtin.append_ #[ts, ts] ty #[v, .slice (some ⟨b, 0, none⟩) 1 1]).run P w = .ok v' w' ∧ Owns w' base e size enc v' (xs ++ [x]) ∧ w.grownBy w' v.ownBlock ∧ Below base w w' ∧ ∃ g cap, v' = .slice (some ⟨g, 0, none⟩) (xs.length + 1) cap := by
  obtain ⟨i, hi, hz0, hs0, hb0⟩ := info_parts hi
  have h63 : xs.length + 1 ≤ maxLen := by
    have : (xs.length + 1) * 1 ≤ (xs.length + 1) * bytes := Nat.mul_le_mul_left _ hby
    simp only [maxLen]; omega
  obtain ⟨v', w', h2, h3, h4, h5⟩ := run_append_own (P := P) w base ts ty e i z size bytes ht hi hz0 hs0 hb0 hz hs v xs.length (xs.flatMap enc) hown ⟨b, 0, none⟩ 1 1 (enc x) (by rw [hl]; omega) (fun j u hu => by
    have := hx j u hu
    unfold Addr.add
    by_cases hk : j = 0 <;> simp [hk] at this ⊢ <;> exact this) h1 h63 h47 hbase
  refine ⟨v', w', h2, ?_, h4, (Below.refl _ _).grown h4 hbase fun k hk => (hown.block k hk).1, ?_⟩
  · unfold Owns
    rw [List.length_append, List.flatMap_append, List.length_singleton, List.flatMap_singleton]
    exact h3
  · rcases h3.2 with ⟨hv, h0⟩ | ⟨g, cap, _, hv, _⟩
    · omega
    · exact ⟨g, cap, hv⟩
end
/-! ### whole numbers; cells -/
abbrev encI (n : Int) : List Value := [.int .i64 n]
abbrev enc3 (c : Int × Int × Int) : List Value := [.int .i64 c.1, .int .i64 c.2.1, .int .i64 c.2.2]
theorem len3 (c : Int × Int × Int) : (enc3 c).length = 3 := rfl
theorem lenI (n : Int) : (encI n).length = 1 := rfl
end Go.Proofs.Ytnokibdecnddlaa

/- The laws' view; the document's example. -/
namespace Go.Proofs.Ytnokibdecnddlaa
open Go.RowKit Go.Shelf
attribute [local go_sem] Oper.semAt_some

theorem ax_len {n m : Int} (h : n ≤ m) (h2 : m ≤ n + 1000000) : (topI n m + 1 - lowI n).toNat ≤ 18 := by
  unfold topI lowI cutI
  split <;> omega
theorem cells_len {a b c d e f : Int} (h1 : a ≤ d) (h2 : d ≤ a + 1000000) (h3 : b ≤ e) (h4 : e ≤ b + 1000000) (h5 : c ≤ f) (h6 : f ≤ c + 1000000) : (cellsI a b c d e f).length ≤ 1000000 := by
  unfold cellsI
  split
  · rw [boxL_length]
    have := Nat.mul_le_mul (ax_len h3 h4) (Nat.mul_le_mul (ax_len h5 h6) (ax_len h1 h2))
    omega
  · simp
theorem iq_of_rd {w : World} {q : Option Addr} {xs : List Int} (h : Rd w q 1 encI xs) : Iq w q xs.length (fun i => xs.getD i 0) := fun hn => by
  obtain ⟨g, o, hq, h1⟩ := h hn
  refine ⟨g, o, hq, fun i hi => ?_⟩
  have h2 : w.cell? ⟨g, o + i * 1, none⟩ = some (.int .i64 (xs[i]'hi)) := h1 i _ (List.getElem?_eq_getElem hi) 0 _ rfl
  rw [Nat.mul_one] at h2
  rw [h2]
  simp [List.getD_eq_getElem?_getD, List.getElem?_eq_getElem hi]
theorem view_c (v1 v2 : Value) (w : World) : Calls Try.prog 12 #[.agg #[v1, v2]] w fun r w' =>
    r = .returned (.func (.func 38) #[] #[.pointer (some ⟨w.heap.size, 0, none⟩)]) ∧ w' = w.alloc (.cells #[v1, v2] 24) := by
  have hmf : ∀ (fn : Fn) (first cap : Array Value) (w : World), (Instr.makeFunc fn first cap).run Try.prog w = .ok (.func fn first cap) w := fun _ _ _ _ => rfl
  go_enter Try.func12, Try.ntmps12
  go_wp2_with fail
  go_returns
  exact ⟨rfl, rfl⟩
theorem view_tells {q : Option Addr} {n c : Nat} {F : Nat → Int} {els : Int} {b : Nat} {w : World} (hb : Blk w b 24 #[.slice q n c, .int .i64 els]) (hq : Iq w q n F) :
    Tells Try.prog 38 #[.pointer (some ⟨b, 0, none⟩)] (fun x => atG n F els x.1 x.2.1 x.2.2) w :=
  fun x W h => view1_c q n c F els x.1 x.2.1 x.2.2 b W (hb.on h) (hq.on h)
theorem view_en : ∀ args w, (callFunc 38 args).run Try.prog w = .ok (.enter 38 args) w := enters_of Try.func38 (by kernel_rfl) rfl
end Go.Proofs.Ytnokibdecnddlaa

/- How far a box goes: plain. No program in sight. -/
namespace Go.Proofs.Ytnokibdecnddlaa
open Go.RowKit

theorem ofI_id {k : Int} (h1 : -2147483648 ≤ k) (h2 : k ≤ 2147483648) : ofI k = k * 65536 := by unfold ofI; omega
/-- The layers that lie ahead, the nearest first: each with the way to it. -/
def layU (top d : Int) : List (Int × Int) := (List.range ((top + d + 65535) / 65536 - (top + 65535) / 65536).toNat).map fun i : Nat => ((top + 65535) / 65536 + (i : Int), ((top + 65535) / 65536 + (i : Int)) * 65536 - top)
def layD (low d : Int) : List (Int × Int) := (List.range (low / 65536 - (low + d) / 65536).toNat).map fun i : Nat => (low / 65536 - 1 - (i : Int), (low / 65536 - (i : Int)) * 65536 - low)
def lays (low top d : Int) : List (Int × Int) := if 0 < d then layU top d else layD low d
/-- The nearest layer that stops it. -/
def axV (blk : Int → Bool) (low top d : Int) : Int × Bool := match (lays low top d).find? (fun kw => blk kw.1) with
  | some kw => (kw.2, true)
  | none => (d, false)
/-- Is the layer blocked? -/
def lyB (val : Cl → Int) (a b c d e f axis k : Int) : Bool :=
  (cellsI (wiI a axis 0 (k * 65536)) (wiI b axis 1 (k * 65536)) (wiI c axis 2 (k * 65536)) (wiI d axis 0 (k * 65536 + 65536)) (wiI e axis 1 (k * 65536 + 65536)) (wiI f axis 2 (k * 65536 + 65536))).any fun x => solB (val x)
def farI (d : Int) : Int := min (max d (-4194304)) 4194304
def axisV (val : Cl → Int) (a b c d e f axis dd : Int) : Int × Bool :=
  if axis < 0 ∨ 3 ≤ axis then (0, false) else axV (lyB val a b c d e f axis) (axI a b c axis) (axI d e f axis) (farI dd)
/-- A small box, not far from 0. -/
structure Sm (M a b c d e f : Int) : Prop where
  a1 : -M ≤ a
  b1 : -M ≤ b
  c1 : -M ≤ c
  a2 : a ≤ M
  b2 : b ≤ M
  c2 : c ≤ M
  ad : a ≤ d
  be : b ≤ e
  cf : c ≤ f
  da : d ≤ a + 1000000
  eb : e ≤ b + 1000000
  fc : f ≤ c + 1000000
theorem Sm.box {M a b c d e f : Int} (h : Sm M a b c d e f) (hM : M ≤ 100000000000000) : BoxOk a b c d e f := by
  obtain ⟨h1, h2, h3, h4, h5, h6, h7, h8, h9, h10, h11, h12⟩ := h
  exact ⟨by omega, by omega, by omega, by omega, by omega, by omega, by omega, by omega, by omega⟩
theorem Sm.cells {M a b c d e f : Int} (h : Sm M a b c d e f) : (cellsI a b c d e f).length ≤ 1000000 := cells_len h.ad h.da h.be h.eb h.cf h.fc
theorem wi_c {x axis i n : Int} (h1 : -140737488355328 ≤ n) (h2 : n ≤ 140737488355328) : wiI x axis i n = if i = axis then n else x := by unfold wiI; rw [cutI_id h1 h2]
theorem Sm.layer {M a b c d e f axis k : Int} (h : Sm M a b c d e f) (hM : M ≤ 73000000000000) (h1 : -(M + 10000000) ≤ k * 65536) (h2 : k * 65536 ≤ M + 10000000) :
    Sm (M + 10000000) (wiI a axis 0 (k * 65536)) (wiI b axis 1 (k * 65536)) (wiI c axis 2 (k * 65536)) (wiI d axis 0 (k * 65536 + 65536)) (wiI e axis 1 (k * 65536 + 65536)) (wiI f axis 2 (k * 65536 + 65536)) := by
  obtain ⟨h3, h4, h5, h6, h7, h8, h9, h10, h11, h12, h13, h14⟩ := h
  rw [wi_c (by omega) (by omega), wi_c (by omega) (by omega), wi_c (by omega) (by omega), wi_c (by omega) (by omega), wi_c (by omega) (by omega), wi_c (by omega) (by omega)]
  constructor <;> split <;> omega
theorem axI_sm {M a b c d e f axis : Int} (h : Sm M a b c d e f) (h0 : 0 ≤ M) : -M ≤ axI a b c axis ∧ axI a b c axis ≤ axI d e f axis ∧ axI d e f axis ≤ M + 1000000 := by
  obtain ⟨h3, h4, h5, h6, h7, h8, h9, h10, h11, h12, h13, h14⟩ := h
  unfold axI
  refine ⟨?_, ?_, ?_⟩ <;> (split; omega; split; omega; split; omega; omega)
theorem mem_lays {low top d k w : Int} (h : (k, w) ∈ lays low top d) :
    (0 < d ∧ w = k * 65536 - top ∧ 0 ≤ w ∧ w < d) ∨ (d < 0 ∧ w = (k + 1) * 65536 - low ∧ w ≤ 0 ∧ d < w) := by
  unfold lays at h
  split at h
  · left
    unfold layU at h
    obtain ⟨i, hi, e⟩ := List.mem_map.1 h
    rw [List.mem_range] at hi
    injection e with e1 e2
    refine ⟨by assumption, by omega, by omega, by omega⟩
  · right
    unfold layD at h
    obtain ⟨i, hi, e⟩ := List.mem_map.1 h
    rw [List.mem_range] at hi
    injection e with e1 e2
    refine ⟨by omega, by omega, by omega, by omega⟩
theorem farI_bd (d : Int) : -4194304 ≤ farI d ∧ farI d ≤ 4194304 := by unfold farI; omega
theorem axV_bd {blk : Int → Bool} {low top d : Int} : (0 ≤ d → 0 ≤ (axV blk low top d).1 ∧ (axV blk low top d).1 ≤ d) ∧ (d ≤ 0 → d ≤ (axV blk low top d).1 ∧ (axV blk low top d).1 ≤ 0) := by
  unfold axV
  split
  · rename_i kw h
    have := mem_lays (k := kw.1) (w := kw.2) (List.mem_of_find?_eq_some h)
    dsimp only
    omega
  · dsimp only; omega
theorem layU_len (top d : Int) : (layU top d).length = ((top + d + 65535) / 65536 - (top + 65535) / 65536).toNat := by simp [layU]
theorem layD_len (low d : Int) : (layD low d).length = (low / 65536 - (low + d) / 65536).toNat := by simp [layD]
theorem layU_at {top d : Int} {i : Nat} (h : i < (layU top d).length) : (layU top d)[i]? = some ((top + 65535) / 65536 + (i : Int), ((top + 65535) / 65536 + (i : Int)) * 65536 - top) := by
  rw [layU_len] at h; simp [layU, h]
theorem layD_at {low d : Int} {i : Nat} (h : i < (layD low d).length) : (layD low d)[i]? = some (low / 65536 - 1 - (i : Int), (low / 65536 - (i : Int)) * 65536 - low) := by
  rw [layD_len] at h; simp [layD, h]
end Go.Proofs.Ytnokibdecnddlaa

/- The nearest layer, told without a list. No program in sight. -/
namespace Go.Proofs.Ytnokibdecnddlaa
open Go.RowKit

theorem axV_up_hit {blk : Int → Bool} {low top d k : Int} (hd : 0 < d) (h0 : 0 ≤ k * 65536 - top) (h1 : k * 65536 - top < d) (hb : blk k = true) (hn : ∀ k', k' < k → 0 ≤ k' * 65536 - top → blk k' = false) : axV blk low top d = (k * 65536 - top, true) := by
  unfold axV lays
  rw [if_pos hd]
  have hi : (k - (top + 65535) / 65536).toNat < (layU top d).length := by rw [layU_len]; omega
  have ha := layU_at hi
  rw [show (top + 65535) / 65536 + ((k - (top + 65535) / 65536).toNat : Int) = k by omega] at ha
  rw [find_at (q := fun kw : Int × Int => blk kw.1) ha hb fun j y hj hy => ?_]
  have hj2 : j < (layU top d).length := by omega
  rw [layU_at hj2] at hy
  obtain rfl := Option.some.inj hy
  exact hn _ (by omega) (by omega)
theorem axV_up_none {blk : Int → Bool} {low top d : Int} (hd : 0 < d) (hn : ∀ k', 0 ≤ k' * 65536 - top → k' * 65536 - top < d → blk k' = false) : axV blk low top d = (d, false) := by
  unfold axV lays
  rw [if_pos hd, find_no fun j x hj hx => ?_]
  rw [layU_at hj] at hx
  rw [layU_len] at hj
  obtain rfl := Option.some.inj hx
  exact hn _ (by omega) (by omega)
theorem axV_dn_hit {blk : Int → Bool} {low top d k : Int} (hd : d < 0) (h0 : (k + 1) * 65536 - low ≤ 0) (h1 : d < (k + 1) * 65536 - low) (hb : blk k = true) (hn : ∀ k', k < k' → (k' + 1) * 65536 - low ≤ 0 → blk k' = false) : axV blk low top d = ((k + 1) * 65536 - low, true) := by
  unfold axV lays
  rw [if_neg (by omega)]
  have hi : (low / 65536 - 1 - k).toNat < (layD low d).length := by rw [layD_len]; omega
  have ha := layD_at hi
  rw [show low / 65536 - 1 - ((low / 65536 - 1 - k).toNat : Int) = k by omega, show low / 65536 - ((low / 65536 - 1 - k).toNat : Int) = k + 1 by omega] at ha
  rw [find_at (q := fun kw : Int × Int => blk kw.1) ha hb fun j y hj hy => ?_]
  have hj2 : j < (layD low d).length := by omega
  rw [layD_at hj2] at hy
  obtain rfl := Option.some.inj hy
  exact hn _ (by dsimp only; omega) (by dsimp only; omega)
theorem axV_dn_none {blk : Int → Bool} {low top d : Int} (hd : d < 0) (hn : ∀ k', (k' + 1) * 65536 - low ≤ 0 → d < (k' + 1) * 65536 - low → blk k' = false) : axV blk low top d = (d, false) := by
  unfold axV lays
  rw [if_neg (by omega), find_no fun j x hj hx => ?_]
  rw [layD_at hj] at hx
  rw [layD_len] at hj
  obtain rfl := Option.some.inj hx
  exact hn _ (by dsimp only; omega) (by dsimp only; omega)
theorem axV_zero (blk : Int → Bool) (low top : Int) : axV blk low top 0 = (0, false) := by
  have : lays low top 0 = [] := by unfold lays layD; simp
  unfold axV; rw [this]; rfl
end Go.Proofs.Ytnokibdecnddlaa

/- A box that goes: plain. No program in sight. -/
namespace Go.Proofs.Ytnokibdecnddlaa
open Go.RowKit

abbrev B6 := Int × Int × Int × Int × Int × Int
abbrev ag6 (x : B6) : Array Value := #[.int .i64 x.1, .int .i64 x.2.1, .int .i64 x.2.2.1, .int .i64 x.2.2.2.1, .int .i64 x.2.2.2.2.1, .int .i64 x.2.2.2.2.2]
def Sm6 (M : Int) (x : B6) : Prop := Sm M x.1 x.2.1 x.2.2.1 x.2.2.2.1 x.2.2.2.2.1 x.2.2.2.2.2
def ax6 (val : Cl → Int) (x : B6) (axis dd : Int) : Int × Bool := axisV val x.1 x.2.1 x.2.2.1 x.2.2.2.1 x.2.2.2.2.1 x.2.2.2.2.2 axis dd
def mv6 (x : B6) (axis n : Int) : B6 :=
  (addI x.1 (wiI 0 axis 0 n), addI x.2.1 (wiI 0 axis 1 n), addI x.2.2.1 (wiI 0 axis 2 n), addI x.2.2.2.1 (wiI 0 axis 0 n), addI x.2.2.2.2.1 (wiI 0 axis 1 n), addI x.2.2.2.2.2 (wiI 0 axis 2 n))
def al6 (val : Cl → Int) (x : B6) (axis dd : Int) : B6 × Bool := (mv6 x axis (ax6 val x axis dd).1, (ax6 val x axis dd).2)
theorem axisV_far (val : Cl → Int) (a b c d e f axis dd : Int) : -4194304 ≤ (axisV val a b c d e f axis dd).1 ∧ (axisV val a b c d e f axis dd).1 ≤ 4194304 := by
  unfold axisV
  split
  · simp
  · obtain ⟨h1, h2⟩ := farI_bd dd
    obtain ⟨h3, h4⟩ := axV_bd (blk := lyB val a b c d e f axis) (low := axI a b c axis) (top := axI d e f axis) (d := farI dd)
    omega
theorem addI_in {a b : Int} (h1 : -100000000000000 ≤ a) (h2 : a ≤ 100000000000000) (h3 : -10000000 ≤ b) (h4 : b ≤ 10000000) : addI a b = a + b := by
  unfold addI cutI; omega
theorem wi0 {axis i n : Int} (h1 : -10000000 ≤ n) (h2 : n ≤ 10000000) : wiI 0 axis i n = if i = axis then n else 0 := wi_c (by omega) (by omega)
theorem mv6_sm {M : Int} {x : B6} (h : Sm6 M x) (hM0 : 0 ≤ M) (hM : M ≤ 74000000000000) {axis n : Int} (h1 : -10000000 ≤ n) (h2 : n ≤ 10000000) : Sm6 (M + 10000000) (mv6 x axis n) := by
  obtain ⟨h3, h4, h5, h6, h7, h8, h9, h10, h11, h12, h13, h14⟩ := h
  unfold Sm6 mv6
  rw [wi0 h1 h2, wi0 h1 h2, wi0 h1 h2]
  dsimp only
  have q : ∀ i : Int, -10000000 ≤ (if i = axis then n else 0) ∧ (if i = axis then n else 0) ≤ 10000000 := fun i => by split <;> omega
  have q0 := q 0
  have q1 := q 1
  have q2 := q 2
  generalize (if (0 : Int) = axis then n else 0) = n0 at q0 ⊢
  generalize (if (1 : Int) = axis then n else 0) = n1 at q1 ⊢
  generalize (if (2 : Int) = axis then n else 0) = n2 at q2 ⊢
  rw [addI_in (by omega) (by omega) q0.1 q0.2, addI_in (by omega) (by omega) q1.1 q1.2, addI_in (by omega) (by omega) q2.1 q2.2, addI_in (by omega) (by omega) q0.1 q0.2, addI_in (by omega) (by omega) q1.1 q1.2, addI_in (by omega) (by omega) q2.1 q2.2]
  constructor <;> omega
theorem al6_sm {M : Int} {x : B6} (h : Sm6 M x) (hM0 : 0 ≤ M) (hM : M ≤ 74000000000000) (val : Cl → Int) (axis dd : Int) : Sm6 (M + 10000000) (al6 val x axis dd).1 := by
  obtain ⟨h1, h2⟩ := axisV_far val x.1 x.2.1 x.2.2.1 x.2.2.2.1 x.2.2.2.2.1 x.2.2.2.2.2 axis dd
  exact mv6_sm h hM0 hM (n := (ax6 val x axis dd).1) (by unfold ax6; omega) (by unfold ax6; omega)
/-- The box and the hits behind so many of the three ways. -/
def st1 (val : Cl → Int) (x : B6) (dy : Int) : B6 := (al6 val x 1 dy).1
def st2 (val : Cl → Int) (x : B6) (dx dy : Int) : B6 := (al6 val (st1 val x dy) 0 dx).1
def st3 (val : Cl → Int) (x : B6) (dx dy dz : Int) : B6 := (al6 val (st2 val x dx dy) 2 dz).1
def hy1 (val : Cl → Int) (x : B6) (dy : Int) : Bool := (al6 val x 1 dy).2
def hx2 (val : Cl → Int) (x : B6) (dx dy : Int) : Bool := (al6 val (st1 val x dy) 0 dx).2
def hz3 (val : Cl → Int) (x : B6) (dx dy dz : Int) : Bool := (al6 val (st2 val x dx dy) 2 dz).2
def moveT (val : Cl → Int) (x : B6) (dx dy dz : Int) : Value := .tuple #[.agg (ag6 (st3 val x dx dy dz)), .agg #[.bool (hx2 val x dx dy), .bool (hy1 val x dy), .bool (hz3 val x dx dy dz)]]
end Go.Proofs.Ytnokibdecnddlaa

/- A way in two parts. No program in sight. -/
namespace Go.Proofs.Ytnokibdecnddlaa
open Go.RowKit

theorem axV_up_cases (blk : Int → Bool) (low top : Int) {d : Int} (hd : 0 < d) :
    (∃ k, 0 ≤ k * 65536 - top ∧ k * 65536 - top < d ∧ blk k = true ∧ (∀ k', k' < k → 0 ≤ k' * 65536 - top → blk k' = false) ∧ axV blk low top d = (k * 65536 - top, true)) ∨
    ((∀ k', 0 ≤ k' * 65536 - top → k' * 65536 - top < d → blk k' = false) ∧ axV blk low top d = (d, false)) := by
  by_cases h : ∃ n : Nat, 0 ≤ ((top + 65535) / 65536 + (n : Int)) * 65536 - top ∧ ((top + 65535) / 65536 + (n : Int)) * 65536 - top < d ∧ blk ((top + 65535) / 65536 + (n : Int)) = true
  · left
    obtain ⟨n, hn⟩ := h
    induction n using Nat.strongRecOn with
    | ind n ih =>
      by_cases hm : ∃ m : Nat, m < n ∧ 0 ≤ ((top + 65535) / 65536 + (m : Int)) * 65536 - top ∧ ((top + 65535) / 65536 + (m : Int)) * 65536 - top < d ∧ blk ((top + 65535) / 65536 + (m : Int)) = true
      · obtain ⟨m, hmn, hm⟩ := hm
        exact ih m hmn hm
      · have hn2 : ∀ k', k' < (top + 65535) / 65536 + (n : Int) → 0 ≤ k' * 65536 - top → blk k' = false := fun k' h1 h2 => by
          cases hb : blk k' with
          | false => rfl
          | true =>
            exfalso
            apply hm
            refine ⟨(k' - (top + 65535) / 65536).toNat, by omega, ?_⟩
            rw [show (top + 65535) / 65536 + (((k' - (top + 65535) / 65536).toNat : Nat) : Int) = k' by omega]
            exact ⟨by omega, by omega, hb⟩
        exact ⟨_, hn.1, hn.2.1, hn.2.2, hn2, axV_up_hit hd hn.1 hn.2.1 hn.2.2 hn2⟩
  · right
    have hn : ∀ k', 0 ≤ k' * 65536 - top → k' * 65536 - top < d → blk k' = false := fun k' h1 h2 => by
      cases hb : blk k' with
      | false => rfl
      | true =>
        exfalso
        apply h
        refine ⟨(k' - (top + 65535) / 65536).toNat, ?_⟩
        rw [show (top + 65535) / 65536 + (((k' - (top + 65535) / 65536).toNat : Nat) : Int) = k' by omega]
        exact ⟨by omega, by omega, hb⟩
    exact ⟨hn, axV_up_none hd hn⟩
theorem axV_dn_cases (blk : Int → Bool) (low top : Int) {d : Int} (hd : d < 0) :
    (∃ k, (k + 1) * 65536 - low ≤ 0 ∧ d < (k + 1) * 65536 - low ∧ blk k = true ∧ (∀ k', k < k' → (k' + 1) * 65536 - low ≤ 0 → blk k' = false) ∧ axV blk low top d = ((k + 1) * 65536 - low, true)) ∨
    ((∀ k', (k' + 1) * 65536 - low ≤ 0 → d < (k' + 1) * 65536 - low → blk k' = false) ∧ axV blk low top d = (d, false)) := by
  by_cases h : ∃ n : Nat, (low / 65536 - (n : Int)) * 65536 - low ≤ 0 ∧ d < (low / 65536 - (n : Int)) * 65536 - low ∧ blk (low / 65536 - 1 - (n : Int)) = true
  · left
    obtain ⟨n, hn⟩ := h
    induction n using Nat.strongRecOn with
    | ind n ih =>
      by_cases hm : ∃ m : Nat, m < n ∧ (low / 65536 - (m : Int)) * 65536 - low ≤ 0 ∧ d < (low / 65536 - (m : Int)) * 65536 - low ∧ blk (low / 65536 - 1 - (m : Int)) = true
      · obtain ⟨m, hmn, hm⟩ := hm
        exact ih m hmn hm
      · have hn2 : ∀ k', low / 65536 - 1 - (n : Int) < k' → (k' + 1) * 65536 - low ≤ 0 → blk k' = false := fun k' h1 h2 => by
          cases hb : blk k' with
          | false => rfl
          | true =>
            exfalso
            apply hm
            refine ⟨(low / 65536 - 1 - k').toNat, by omega, ?_⟩
            rw [show low / 65536 - (((low / 65536 - 1 - k').toNat : Nat) : Int) = k' + 1 by omega, show low / 65536 - 1 - (((low / 65536 - 1 - k').toNat : Nat) : Int) = k' by omega]
            exact ⟨by omega, by omega, hb⟩
        have h1 : (low / 65536 - 1 - (n : Int) + 1) * 65536 - low ≤ 0 := by have := hn.1; omega
        have h2 : d < (low / 65536 - 1 - (n : Int) + 1) * 65536 - low := by have := hn.2.1; omega
        exact ⟨_, h1, h2, hn.2.2, hn2, axV_dn_hit hd h1 h2 hn.2.2 hn2⟩
  · right
    have hn : ∀ k', (k' + 1) * 65536 - low ≤ 0 → d < (k' + 1) * 65536 - low → blk k' = false := fun k' h1 h2 => by
      cases hb : blk k' with
      | false => rfl
      | true =>
        exfalso
        apply h
        refine ⟨(low / 65536 - 1 - k').toNat, ?_⟩
        rw [show low / 65536 - (((low / 65536 - 1 - k').toNat : Nat) : Int) = k' + 1 by omega, show low / 65536 - 1 - (((low / 65536 - 1 - k').toNat : Nat) : Int) = k' by omega]
        exact ⟨by omega, by omega, hb⟩
    exact ⟨hn, axV_dn_none hd hn⟩
/-- By a way in two parts of one side. -/
theorem axV_parts (blk : Int → Bool) (low top : Int) {d e : Int} (h : (0 ≤ d ∧ 0 ≤ e) ∨ (d ≤ 0 ∧ e ≤ 0)) :
    ((axV blk low top d).2 = true ∧ axV blk low top (d + e) = axV blk low top d) ∨
    (axV blk low top d = (d, false) ∧ d + (axV blk (low + d) (top + d) e).1 = (axV blk low top (d + e)).1 ∧ (axV blk (low + d) (top + d) e).2 = (axV blk low top (d + e)).2) := by
  by_cases hd0 : d = 0
  · subst hd0
    right
    rw [axV_zero, Int.add_zero, Int.add_zero, Int.zero_add, Int.zero_add]
    exact ⟨rfl, rfl, rfl⟩
  rcases (show (0 < d ∧ 0 ≤ e) ∨ (d < 0 ∧ e ≤ 0) by omega) with ⟨hd, he⟩ | ⟨hd, he⟩
  · rcases axV_up_cases blk low top hd with ⟨k, h1, h2, h3, h4, h5⟩ | ⟨h1, h2⟩
    · left
      rw [h5]
      exact ⟨rfl, axV_up_hit (by omega) h1 (by omega) h3 h4⟩
    · right
      refine ⟨h2, ?_⟩
      by_cases he0 : e = 0
      · subst he0
        rw [axV_zero, Int.add_zero, h2]
        exact ⟨by simp, rfl⟩
      · rcases axV_up_cases blk (low + d) (top + d) (show 0 < e by omega) with ⟨k, g1, g2, g3, g4, g5⟩ | ⟨g1, g2⟩
        · rw [g5, axV_up_hit (k := k) (by omega) (by omega) (by omega) g3 (fun k' hk hk2 => by
            by_cases hw : k' * 65536 - top < d
            · exact h1 k' hk2 hw
            · exact g4 k' hk (by omega))]
          exact ⟨by dsimp only; omega, rfl⟩
        · rw [g2, axV_up_none (by omega) (fun k' hk hk2 => by
            by_cases hw : k' * 65536 - top < d
            · exact h1 k' hk hw
            · exact g1 k' (by omega) (by omega))]
          exact ⟨rfl, rfl⟩
  · rcases axV_dn_cases blk low top hd with ⟨k, h1, h2, h3, h4, h5⟩ | ⟨h1, h2⟩
    · left
      rw [h5]
      exact ⟨rfl, axV_dn_hit (by omega) h1 (by omega) h3 h4⟩
    · right
      refine ⟨h2, ?_⟩
      by_cases he0 : e = 0
      · subst he0
        rw [axV_zero, Int.add_zero, h2]
        exact ⟨by simp, rfl⟩
      · rcases axV_dn_cases blk (low + d) (top + d) (show e < 0 by omega) with ⟨k, g1, g2, g3, g4, g5⟩ | ⟨g1, g2⟩
        · rw [g5, axV_dn_hit (k := k) (by omega) (by omega) (by omega) g3 (fun k' hk hk2 => by
            by_cases hw : d < (k' + 1) * 65536 - low
            · exact h1 k' hk2 hw
            · exact g4 k' hk (by omega))]
          exact ⟨by dsimp only; omega, rfl⟩
        · rw [g2, axV_dn_none (by omega) (fun k' hk hk2 => by
            by_cases hw : d < (k' + 1) * 65536 - low
            · exact h1 k' hk hw
            · exact g1 k' (by omega) (by omega))]
          exact ⟨rfl, rfl⟩
theorem lyB_same (val : Cl → Int) {M : Int} {x : B6} (h : Sm6 M x) (hM0 : 0 ≤ M) (hM : M ≤ 74000000000000) {axis n : Int} (h1 : -10000000 ≤ n) (h2 : n ≤ 10000000) (k : Int) :
    lyB val (mv6 x axis n).1 (mv6 x axis n).2.1 (mv6 x axis n).2.2.1 (mv6 x axis n).2.2.2.1 (mv6 x axis n).2.2.2.2.1 (mv6 x axis n).2.2.2.2.2 axis k = lyB val x.1 x.2.1 x.2.2.1 x.2.2.2.1 x.2.2.2.2.1 x.2.2.2.2.2 axis k := by
  obtain ⟨h3, h4, h5, h6, h7, h8, h9, h10, h11, h12, h13, h14⟩ := h
  have key : ∀ (a i m : Int), -100000000000000 ≤ a → a ≤ 100000000000000 → wiI (addI a (wiI 0 axis i n)) axis i m = wiI a axis i m := fun a i m g1 g2 => by
    rw [wi0 h1 h2]
    unfold wiI
    by_cases e : i = axis
    · rw [if_pos e, if_pos e]
    · rw [if_neg e, if_neg e, if_neg e, addI_in g1 g2 (by omega) (by omega)]; omega
  unfold lyB mv6
  dsimp only
  rw [key _ _ _ (by omega) (by omega), key _ _ _ (by omega) (by omega), key _ _ _ (by omega) (by omega), key _ _ _ (by omega) (by omega), key _ _ _ (by omega) (by omega), key _ _ _ (by omega) (by omega)]
theorem axI_mv {M : Int} {x : B6} (h : Sm6 M x) (hM0 : 0 ≤ M) (hM : M ≤ 74000000000000) {axis n : Int} (ha : 0 ≤ axis ∧ axis < 3) (h1 : -10000000 ≤ n) (h2 : n ≤ 10000000) :
    axI (mv6 x axis n).1 (mv6 x axis n).2.1 (mv6 x axis n).2.2.1 axis = axI x.1 x.2.1 x.2.2.1 axis + n ∧ axI (mv6 x axis n).2.2.2.1 (mv6 x axis n).2.2.2.2.1 (mv6 x axis n).2.2.2.2.2 axis = axI x.2.2.2.1 x.2.2.2.2.1 x.2.2.2.2.2 axis + n := by
  obtain ⟨h3, h4, h5, h6, h7, h8, h9, h10, h11, h12, h13, h14⟩ := h
  unfold mv6
  rw [wi0 h1 h2, wi0 h1 h2, wi0 h1 h2]
  rcases (show axis = 0 ∨ axis = 1 ∨ axis = 2 by omega) with rfl | rfl | rfl <;> simp only [axI] <;> constructor <;> simp <;> rw [addI_in (by omega) (by omega) h1 h2]
theorem far_in {d : Int} (h1 : -4194304 ≤ d) (h2 : d ≤ 4194304) : farI d = d := by unfold farI; omega
theorem parts6 (val : Cl → Int) {M : Int} {x : B6} (h : Sm6 M x) (hM0 : 0 ≤ M) (hM : M ≤ 74000000000000) {axis d e : Int} (ha : 0 ≤ axis ∧ axis < 3) (hs : (0 ≤ d ∧ 0 ≤ e) ∨ (d ≤ 0 ∧ e ≤ 0)) (d1 : -200000 ≤ d) (d2 : d ≤ 200000) (e1 : -200000 ≤ e) (e2 : e ≤ 200000) :
    ((ax6 val x axis d).2 = true ∧ ax6 val x axis (d + e) = ax6 val x axis d) ∨
    (ax6 val x axis d = (d, false) ∧ d + (ax6 val (mv6 x axis d) axis e).1 = (ax6 val x axis (d + e)).1 ∧ (ax6 val (mv6 x axis d) axis e).2 = (ax6 val x axis (d + e)).2) := by
  unfold ax6 axisV
  rw [if_neg (by omega), if_neg (by omega), if_neg (by omega), far_in (by omega) (by omega), far_in (by omega) (by omega), far_in (by omega) (by omega)]
  have hl : lyB val (mv6 x axis d).1 (mv6 x axis d).2.1 (mv6 x axis d).2.2.1 (mv6 x axis d).2.2.2.1 (mv6 x axis d).2.2.2.2.1 (mv6 x axis d).2.2.2.2.2 axis = lyB val x.1 x.2.1 x.2.2.1 x.2.2.2.1 x.2.2.2.2.1 x.2.2.2.2.2 axis := funext fun k => lyB_same val h hM0 hM (by omega) (by omega) k
  rw [hl, (axI_mv h hM0 hM ha (by omega) (by omega)).1, (axI_mv h hM0 hM ha (by omega) (by omega)).2]
  exact axV_parts _ _ _ hs
end Go.Proofs.Ytnokibdecnddlaa

/- A box that goes and is not blocked stays so: plain. No program in sight. -/
namespace Go.Proofs.Ytnokibdecnddlaa

/-- A layer that a box has a part of. -/
def inAx (lo hi k : Int) : Prop := thinI lo hi = false ∧ lowI lo ≤ k ∧ k ≤ topI lo hi
theorem mem_cellsI {a b c d e f : Int} {x : Cl} : x ∈ cellsI a b c d e f ↔ inAx a d x.1 ∧ inAx b e x.2.1 ∧ inAx c f x.2.2 := by
  unfold cellsI inAx isI
  cases h1 : thinI a d <;> cases h2 : thinI b e <;> cases h3 : thinI c f <;> simp [mem_boxL, and_assoc]
theorem inAx_iff {lo hi k : Int} (h1 : -140737488355328 ≤ lo) (h2 : hi ≤ 140737488355328) (h : lo ≤ hi) : inAx lo hi k ↔ (lo < hi ∧ lo < (k + 1) * 65536 ∧ k * 65536 < hi) ∨ (lo = hi ∧ k * 65536 < lo ∧ lo < (k + 1) * 65536) := by
  unfold inAx thinI topI lowI
  rw [cutI_id h1 (by omega), cutI_id (by omega) h2]
  simp only [Bool.and_eq_false_iff, beq_eq_false_iff_ne, ne_eq]
  constructor
  · rintro ⟨t, k1, k2⟩
    split at k2 <;> omega
  · intro hc
    refine ⟨by omega, by omega, ?_⟩
    split <;> omega
theorem inAx_cell {k : Int} (h1 : -100000000000000 ≤ k * 65536) (h2 : k * 65536 ≤ 100000000000000) : inAx (k * 65536) (k * 65536 + 65536) k := (inAx_iff (by omega) (by omega) (by omega)).2 (.inl ⟨by omega, by omega, by omega⟩)
theorem inAx_up {lo hi m k : Int} (h1 : -100000000000000 ≤ lo) (h2 : hi ≤ 100000000000000) (h : lo ≤ hi) (m1 : 0 ≤ m) (m2 : m ≤ 10000000) (hk : inAx (lo + m) (hi + m) k) : inAx lo hi k ∨ (0 ≤ k * 65536 - hi ∧ k * 65536 - hi < m) := by
  rw [inAx_iff (by omega) (by omega) (by omega)] at *
  omega
theorem inAx_dn {lo hi m k : Int} (h1 : -100000000000000 ≤ lo) (h2 : hi ≤ 100000000000000) (h : lo ≤ hi) (m1 : m ≤ 0) (m2 : -10000000 ≤ m) (hk : inAx (lo + m) (hi + m) k) : inAx lo hi k ∨ ((k + 1) * 65536 - lo ≤ 0 ∧ m < (k + 1) * 65536 - lo) := by
  rw [inAx_iff (by omega) (by omega) (by omega)] at *
  omega
def blk6 (val : Cl → Int) (x : B6) : Bool := (cellsI x.1 x.2.1 x.2.2.1 x.2.2.2.1 x.2.2.2.2.1 x.2.2.2.2.2).any fun c => solB (val c)
theorem blk6_false {val : Cl → Int} {x : B6} : blk6 val x = false ↔ ∀ c, inAx x.1 x.2.2.2.1 c.1 → inAx x.2.1 x.2.2.2.2.1 c.2.1 → inAx x.2.2.1 x.2.2.2.2.2 c.2.2 → solB (val c) = false := by
  unfold blk6
  rw [List.any_eq_false]
  constructor
  · intro h c h1 h2 h3
    simpa using h c (mem_cellsI.2 ⟨h1, h2, h3⟩)
  · intro h c hc
    obtain ⟨h1, h2, h3⟩ := mem_cellsI.1 hc
    simpa using h c h1 h2 h3
theorem lyB_false {val : Cl → Int} {a b c d e f axis k : Int} : lyB val a b c d e f axis k = false ↔ ∀ x : Cl, inAx (wiI a axis 0 (k * 65536)) (wiI d axis 0 (k * 65536 + 65536)) x.1 → inAx (wiI b axis 1 (k * 65536)) (wiI e axis 1 (k * 65536 + 65536)) x.2.1 → inAx (wiI c axis 2 (k * 65536)) (wiI f axis 2 (k * 65536 + 65536)) x.2.2 → solB (val x) = false := by
  have h := blk6_false (val := val) (x := (wiI a axis 0 (k * 65536), wiI b axis 1 (k * 65536), wiI c axis 2 (k * 65536), wiI d axis 0 (k * 65536 + 65536), wiI e axis 1 (k * 65536 + 65536), wiI f axis 2 (k * 65536 + 65536)))
  exact h
/-- Layers that are nearer than where it stops are not blocked. -/
theorem axV_near {blk : Int → Bool} {low top d m k : Int} (hm : (0 ≤ m ∧ m ≤ (axV blk low top d).1) ∨ ((axV blk low top d).1 ≤ m ∧ m ≤ 0)) :
    ((0 ≤ k * 65536 - top ∧ k * 65536 - top < m) → blk k = false) ∧ (((k + 1) * 65536 - low ≤ 0 ∧ m < (k + 1) * 65536 - low) → blk k = false) := by
  rcases (show d = 0 ∨ 0 < d ∨ d < 0 by omega) with rfl | hd | hd
  · rw [axV_zero] at hm
    dsimp only at hm
    exact ⟨fun h => by omega, fun h => by omega⟩
  · rcases axV_up_cases blk low top hd with ⟨k0, h1, h2, h3, h4, h5⟩ | ⟨h4, h5⟩
    · rw [h5] at hm; dsimp only at hm
      exact ⟨fun h => h4 k (by omega) h.1, fun h => by omega⟩
    · rw [h5] at hm; dsimp only at hm
      exact ⟨fun h => h4 k h.1 (by omega), fun h => by omega⟩
  · rcases axV_dn_cases blk low top hd with ⟨k0, h1, h2, h3, h4, h5⟩ | ⟨h4, h5⟩
    · rw [h5] at hm; dsimp only at hm
      exact ⟨fun h => by omega, fun h => h4 k (by omega) h.1⟩
    · rw [h5] at hm; dsimp only at hm
      exact ⟨fun h => by omega, fun h => h4 k h.1 (by omega)⟩
/-- THE LAW: wherever it is on its way, it is not blocked. -/
theorem free6 {val : Cl → Int} {M : Int} {x : B6} (h : Sm6 M x) (hM0 : 0 ≤ M) (hM : M ≤ 74000000000000) {axis dd m : Int} (ha : 0 ≤ axis ∧ axis < 3) (hx : blk6 val x = false)
    (hm : (0 ≤ m ∧ m ≤ (ax6 val x axis dd).1) ∨ ((ax6 val x axis dd).1 ≤ m ∧ m ≤ 0)) : blk6 val (mv6 x axis m) = false := by
  obtain ⟨f1, f2⟩ := axisV_far val x.1 x.2.1 x.2.2.1 x.2.2.2.1 x.2.2.2.2.1 x.2.2.2.2.2 axis dd
  have m1 : -10000000 ≤ m ∧ m ≤ 10000000 := by unfold ax6 at hm; omega
  clear f1 f2
  unfold ax6 axisV at hm
  rw [if_neg (by omega)] at hm
  have near := fun k => axV_near (k := k) hm
  clear hm
  obtain ⟨h3, h4, h5, h6, h7, h8, h9, h10, h11, h12, h13, h14⟩ := h
  obtain ⟨a, b, c, d, e, f⟩ := x
  dsimp only at *
  rw [blk6_false] at *
  dsimp only at *
  unfold mv6
  dsimp only
  rw [wi0 m1.1 m1.2, wi0 m1.1 m1.2, wi0 m1.1 m1.2]
  intro y
  rcases (show axis = 0 ∨ axis = 1 ∨ axis = 2 by omega) with rfl | rfl | rfl
  · have e0 : (if (0 : Int) = 0 then m else 0) = m := rfl
    have e1 : (if (1 : Int) = 0 then m else 0) = 0 := rfl
    have e2 : (if (2 : Int) = 0 then m else 0) = 0 := rfl
    rw [e0, e1, e2, addI_in (a := a) (by omega) (by omega) m1.1 m1.2, addI_in (a := b) (by omega) (by omega) (by omega) (by omega), addI_in (a := c) (by omega) (by omega) (by omega) (by omega), addI_in (a := d) (by omega) (by omega) m1.1 m1.2, addI_in (a := e) (by omega) (by omega) (by omega) (by omega), addI_in (a := f) (by omega) (by omega) (by omega) (by omega),
      Int.add_zero, Int.add_zero, Int.add_zero, Int.add_zero]
    intro k1 k2 k3
    obtain ⟨n1, n2⟩ := near y.1
    simp only [axI, ↓reduceIte] at n1 n2
    have lay : lyB val a b c d e f 0 y.1 = false → -100000000000000 ≤ y.1 * 65536 → y.1 * 65536 ≤ 100000000000000 → solB (val y) = false := fun hl r1 r2 => by
      rw [lyB_false] at hl
      refine hl y ?_ ?_ ?_
      · rw [wi_c (by omega) (by omega), wi_c (by omega) (by omega), if_pos rfl, if_pos rfl]; exact inAx_cell r1 r2
      · rw [wi_c (by omega) (by omega), wi_c (by omega) (by omega), if_neg (by decide), if_neg (by decide)]; exact k2
      · rw [wi_c (by omega) (by omega), wi_c (by omega) (by omega), if_neg (by decide), if_neg (by decide)]; exact k3
    rcases (show 0 ≤ m ∨ m ≤ 0 by omega) with hm | hm
    · rcases inAx_up (by omega) (by omega) h9 hm m1.2 k1 with g | g
      · exact hx y g k2 k3
      · exact lay (n1 g) (by omega) (by omega)
    · rcases inAx_dn (by omega) (by omega) h9 hm m1.1 k1 with g | g
      · exact hx y g k2 k3
      · exact lay (n2 g) (by omega) (by omega)
  · have e0 : (if (0 : Int) = 1 then m else 0) = 0 := rfl
    have e1 : (if (1 : Int) = 1 then m else 0) = m := rfl
    have e2 : (if (2 : Int) = 1 then m else 0) = 0 := rfl
    rw [e0, e1, e2, addI_in (a := a) (by omega) (by omega) (by omega) (by omega), addI_in (a := b) (by omega) (by omega) m1.1 m1.2, addI_in (a := c) (by omega) (by omega) (by omega) (by omega), addI_in (a := d) (by omega) (by omega) (by omega) (by omega), addI_in (a := e) (by omega) (by omega) m1.1 m1.2, addI_in (a := f) (by omega) (by omega) (by omega) (by omega),
      Int.add_zero, Int.add_zero, Int.add_zero, Int.add_zero]
    intro k1 k2 k3
    obtain ⟨n1, n2⟩ := near y.2.1
    simp [axI] at n1 n2
    have lay : lyB val a b c d e f 1 y.2.1 = false → -100000000000000 ≤ y.2.1 * 65536 → y.2.1 * 65536 ≤ 100000000000000 → solB (val y) = false := fun hl r1 r2 => by
      rw [lyB_false] at hl
      refine hl y ?_ ?_ ?_
      · rw [wi_c (by omega) (by omega), wi_c (by omega) (by omega), if_neg (by decide), if_neg (by decide)]; exact k1
      · rw [wi_c (by omega) (by omega), wi_c (by omega) (by omega), if_pos rfl, if_pos rfl]; exact inAx_cell r1 r2
      · rw [wi_c (by omega) (by omega), wi_c (by omega) (by omega), if_neg (by decide), if_neg (by decide)]; exact k3
    rcases (show 0 ≤ m ∨ m ≤ 0 by omega) with hm | hm
    · rcases inAx_up (by omega) (by omega) h10 hm m1.2 k2 with g | g
      · exact hx y k1 g k3
      · exact lay (n1 (by omega) (by omega)) (by omega) (by omega)
    · rcases inAx_dn (by omega) (by omega) h10 hm m1.1 k2 with g | g
      · exact hx y k1 g k3
      · exact lay (n2 (by omega) (by omega)) (by omega) (by omega)
  · have e0 : (if (0 : Int) = 2 then m else 0) = 0 := rfl
    have e1 : (if (1 : Int) = 2 then m else 0) = 0 := rfl
    have e2 : (if (2 : Int) = 2 then m else 0) = m := rfl
    rw [e0, e1, e2, addI_in (a := a) (by omega) (by omega) (by omega) (by omega), addI_in (a := b) (by omega) (by omega) (by omega) (by omega), addI_in (a := c) (by omega) (by omega) m1.1 m1.2, addI_in (a := d) (by omega) (by omega) (by omega) (by omega), addI_in (a := e) (by omega) (by omega) (by omega) (by omega), addI_in (a := f) (by omega) (by omega) m1.1 m1.2,
      Int.add_zero, Int.add_zero, Int.add_zero, Int.add_zero]
    intro k1 k2 k3
    obtain ⟨n1, n2⟩ := near y.2.2
    simp [axI] at n1 n2
    have lay : lyB val a b c d e f 2 y.2.2 = false → -100000000000000 ≤ y.2.2 * 65536 → y.2.2 * 65536 ≤ 100000000000000 → solB (val y) = false := fun hl r1 r2 => by
      rw [lyB_false] at hl
      refine hl y ?_ ?_ ?_
      · rw [wi_c (by omega) (by omega), wi_c (by omega) (by omega), if_neg (by decide), if_neg (by decide)]; exact k1
      · rw [wi_c (by omega) (by omega), wi_c (by omega) (by omega), if_neg (by decide), if_neg (by decide)]; exact k2
      · rw [wi_c (by omega) (by omega), wi_c (by omega) (by omega), if_pos rfl, if_pos rfl]; exact inAx_cell r1 r2
    rcases (show 0 ≤ m ∨ m ≤ 0 by omega) with hm | hm
    · rcases inAx_up (by omega) (by omega) h11 hm m1.2 k3 with g | g
      · exact hx y k1 k2 g
      · exact lay (n1 (by omega) (by omega)) (by omega) (by omega)
    · rcases inAx_dn (by omega) (by omega) h11 hm m1.1 k3 with g | g
      · exact hx y k1 k2 g
      · exact lay (n2 (by omega) (by omega)) (by omega) (by omega)
theorem free_al {val : Cl → Int} {M : Int} {x : B6} (h : Sm6 M x) (hM0 : 0 ≤ M) (hM : M ≤ 74000000000000) {axis : Int} (dd : Int) (ha : 0 ≤ axis ∧ axis < 3) (hx : blk6 val x = false) : blk6 val (al6 val x axis dd).1 = false :=
  free6 h hM0 hM ha hx (dd := dd) (by omega)
theorem free_st3 {val : Cl → Int} {M : Int} {x : B6} (h : Sm6 M x) (hM0 : 0 ≤ M) (hM : M ≤ 73000000000000) (dx dy dz : Int) (hx : blk6 val x = false) : blk6 val (st3 val x dx dy dz) = false := by
  have s1 := al6_sm h hM0 (by omega) val 1 dy
  have s2 := al6_sm (x := st1 val x dy) s1 (by omega) (by omega) val 0 dx
  exact free_al s2 (by omega) (by omega) dz (by decide) (free_al s1 (by omega) (by omega) dx (by decide) (free_al h hM0 (by omega) dy (by decide) hx))
end Go.Proofs.Ytnokibdecnddlaa
