/- The cells of a box, one by one: what the iterator owes. -/
import Derived.Test.YtmkmaoodeebmfaaSpan5
import Derived.Test.YtmkmaoodeebmfaaCells
import Derived.Test.YtmkmaoodeebmfaaRF
import Derived.Shelf.Abstract
import Derived.Shelf.RegionOpen
import Derived.OwnWalkIn
import Derived.TacticsInMore
import Derived.LoopNIn
import Derived.LoopIn
namespace Go.Proofs.Ytmkmaoodeebmfaa
open Go.RowKit Go.Shelf
attribute [local go_sem] Oper.semAt_some

/-- The cells that a box overlaps. -/
def cellsI (a b c d e f : Int) : List Cl := if isI a b c d e f then boxL (lowI a) (topI a d) (lowI b) (topI b e) (lowI c) (topI c f) else []
abbrev encC (c : Cl) : Array Value := #[.agg #[.int .i64 c.1, .int .i64 c.2.1, .int .i64 c.2.2]]
theorem topI_bd {n m : Int} : -2147483649 ≤ topI n m ∧ topI n m ≤ 2147483648 := by
  have := lowI_bd m
  unfold topI
  split <;> omega
set_option maxRecDepth 100000 in
set_option maxHeartbeats 8000000 in
theorem each_it (B : Nat) (a b c d e f : Int) (hB : BoxOk a b c d e f) (w : World) (hw : Blk w B 28 #[.int .i64 a, .int .i64 b, .int .i64 c, .int .i64 d, .int .i64 e, .int .i64 f]) :
    Iter Try.prog 60 #[.pointer (some ⟨B, 0, none⟩)] encC (cellsI a b c d e f) (· = B) w := by
  intro m l J Jx W hW hJ hJx hY h0
  have A := hW.blk rfl hw
  refine callsIn_of_wp Try.func60 rfl trivial ?_ rfl
  simp only [Try.ntmps60, List.size_toArray, List.length_cons, List.length_nil, Nat.reduceAdd, Nat.reduceSub, Array.replicate_succ, Array.replicate_zero, List.push_toArray, List.append_toArray, List.nil_append, List.cons_append]
  refine wpIn_wide.2 ?_
  obtain ⟨a0, a1, a2, a3, a4, a5⟩ := A.c6.1
  have HB := Lib.hid hB
  clear hB hw hW
  go_upto_region 1 with (go_at_call 61; refine (span_c a b c d e f HB.out _).mono ?_; rintro e_ w1 ⟨rfl, h1⟩)
  have hsz := h1.size
  generalize hV : World.alloc (World.alloc w1 _) _ = W2
  have X : Blk W2 w1.heap.size _ _ := Blk.eqw hV ((Blk.new' rfl).alloc _)
  have Y : Blk W2 (w1.heap.size + 1) _ _ := Blk.eqw hV (Blk.new' (by simp))
  have hz : W2.heap.size = w1.heap.size + 2 := by rw [← hV]; simp
  have hk : Below W.heap.size W W2 := by rw [← hV]; exact (h1.alloc hsz _).alloc (by simp; omega) _
  have hJ2 : ∀ Z, J Z 0 W2 := fun Z => hJ Z 0 W W2 (h0 Z) (Kept.of_below hk)
  clear hV hk h0 A a0 a1 a2 a3 a4 a5 h1
  generalize w1.heap.size = g at X Y hsz hz ⊢
  cases his : isI a b c d e f
  · have hx : cellsI a b c d e f = [] := by unfold cellsI; rw [his]; rfl
    have HX := Lib.hid hx
    obtain ⟨x0, x1, x2, -, -, -⟩ := X.c3
    clear hx X Y
    go_upto_region 2 with (fail)
    refine (wpIn_wide (n := m + 1)).1 ?_
    gi_loopw [6] (fun _ wr => J W2.heap.size 0 wr) (fun _ _ => 0)
    case atStart => exact hJ2 _
    case round =>
      gi_wp2
      go_end0
      exact ⟨⟨_, rfl⟩, W2.heap.size, by omega, .inl (by rw [HX.out]; exact hrel)⟩
  · rw [his] at X Y
    have hx : cellsI a b c d e f = rest1 (lowI a) (topI a d) (topI b e) (lowI c) (topI c f) (lowI b) := by unfold cellsI; rw [his, if_pos rfl]; rfl
    have HX := Lib.hid hx
    have HIS := Lib.hid his
    have HZ := Lib.hid hz
    clear hx his hz
    simp only [zI, if_true] at X Y
    obtain ⟨x0, x1, x2, -, -, -⟩ := X.c3
    obtain ⟨y0, y1, y2, -, -, -⟩ := Y.c3
    go_upto_region 2 with (fail)
    refine (wpIn_wide (n := m + 1)).1 ?_
    have lb := lowI_bd b
    have lc := lowI_bd c
    have la := lowI_bd a
    have tb := topI_bd (n := b) (m := e)
    have tc := topI_bd (n := c) (m := f)
    have ta := topI_bd (n := a) (m := d)
    have q1 := topI_low HB.out.b1 HB.out.e2 HB.out.be
    have q2 := topI_low HB.out.c1 HB.out.f2 HB.out.cf
    have q3 := topI_low HB.out.a1 HB.out.d2 HB.out.ad
    gi_loopw [6] (fun v wr => ∃ (y : Int) (i : Nat), v = .int .i64 y ∧ lowI b ≤ y ∧ y ≤ topI b e + 1 ∧ Hid ((cellsI a b c d e f).drop i = rest1 (lowI a) (topI a d) (topI b e) (lowI c) (topI c f) y) ∧ Hid (i ≤ (cellsI a b c d e f).length) ∧
      Blk wr g 40 #[.int .i64 (lowI a), .int .i64 (lowI b), .int .i64 (lowI c)] ∧ Blk wr (g + 1) 40 #[.int .i64 (topI a d), .int .i64 (topI b e), .int .i64 (topI c f)] ∧ Hid (g + 2 ≤ wr.heap.size) ∧ J (g + 2) i wr) (fun v _ => (topI b e + 1 - intOf v).toNat)
    case atStart => exact ⟨_, 0, rfl, Int.le_refl _, by omega, by rw [List.drop_zero]; exact HX.out, Nat.zero_le _, X, Y, Nat.le_of_eq HZ.out.symm, hJ2 _⟩
    case round =>
      clear X Y hJ2 x0 x1 x2 y0 y1 y2
      obtain ⟨y, i, rfl, hy1, hy2, hd, hil, X, Y, hsz2, hj⟩ := hrel
      obtain ⟨x0, x1, x2, -, -, -⟩ := X.c3
      obtain ⟨y0, y1, y2, -, -, -⟩ := Y.c3
      by_cases hy : y ≤ topI b e
      · have hd1 := Lib.hid (hd.out.trans (rest1_cons hy))
        gi_wp2
        obtain ⟨wo, rfl⟩ : ∃ wo : World, wo = wr := ⟨_, rfl⟩
        gi_loopw [7] (fun v wr => ∃ (z : Int) (i : Nat), v = .int .i64 z ∧ lowI c ≤ z ∧ z ≤ topI c f + 1 ∧ Hid ((cellsI a b c d e f).drop i = rest2 (lowI a) (topI a d) (topI b e) (lowI c) (topI c f) y z) ∧ Hid (i ≤ (cellsI a b c d e f).length) ∧
          Blk wr g 40 #[.int .i64 (lowI a), .int .i64 (lowI b), .int .i64 (lowI c)] ∧ Blk wr (g + 1) 40 #[.int .i64 (topI a d), .int .i64 (topI b e), .int .i64 (topI c f)] ∧ Hid (g + 2 ≤ wr.heap.size) ∧ J (g + 2) i wr) (fun v _ => (topI c f + 1 - intOf v).toNat)
        case atStart => exact ⟨_, i, rfl, Int.le_refl _, by omega, hd1.out, hil.out, X, Y, hsz2.out, hj⟩
        case round =>
          clear X Y x0 x1 x2 y0 y1 y2 hd hil hsz2 hj hd1
          obtain ⟨z, i, rfl, hz1, hz2, hd, hil, X, Y, hsz2, hj⟩ := hrel
          obtain ⟨x0, x1, x2, -, -, -⟩ := X.c3
          obtain ⟨y0, y1, y2, -, -, -⟩ := Y.c3
          by_cases hzt : z ≤ topI c f
          · have hd1 := Lib.hid (hd.out.trans (rest2_cons hzt))
            gi_wp2
            obtain ⟨wo2, rfl⟩ : ∃ wo : World, wo = wr := ⟨_, rfl⟩
            gi_loopw [8] (fun v wr => ∃ (x : Int) (i : Nat), v = .int .i64 x ∧ lowI a ≤ x ∧ x ≤ topI a d + 1 ∧ Hid ((cellsI a b c d e f).drop i = rest3 (lowI a) (topI a d) (topI b e) (lowI c) (topI c f) y z x) ∧ Hid (i ≤ (cellsI a b c d e f).length) ∧
              Blk wr g 40 #[.int .i64 (lowI a), .int .i64 (lowI b), .int .i64 (lowI c)] ∧ Blk wr (g + 1) 40 #[.int .i64 (topI a d), .int .i64 (topI b e), .int .i64 (topI c f)] ∧ Hid (g + 2 ≤ wr.heap.size) ∧ J (g + 2) i wr) (fun v _ => (topI a d + 1 - intOf v).toNat)
            case atStart => exact ⟨_, i, rfl, Int.le_refl _, by omega, hd1.out, hil.out, X, Y, hsz2.out, hj⟩
            case round =>
              clear X Y x0 x1 x2 y0 y1 y2 hd hil hsz2 hj hd1
              obtain ⟨x, i, rfl, hx1, hx2, hd, hil, X, Y, hsz2, hj⟩ := hrel
              obtain ⟨x0, x1, x2, -, -, -⟩ := X.c3
              obtain ⟨y0, y1, y2, -, -, -⟩ := Y.c3
              by_cases hxt : x ≤ topI a d
              · obtain ⟨c1, c2, c3⟩ := drop_cons (hd.out.trans (rest3_cons hxt))
                obtain ⟨fn, tmps, assign, body, hy', hR⟩ := hY (g + 2) i (x, y, z) wr (by omega) hsz2.out c1 hj
                have C2 := Lib.hid c2
                have C3 := Lib.hid c3
                clear c1 c2 c3
                gi_wp2
                refine hR.mono ?_
                rintro e_ W3 (⟨rfl, hj3, hk3⟩ | ⟨rfl, hjx3⟩)
                · replace X := hk3.blk (.inl ⟨hsz, by omega⟩) X
                  replace Y := hk3.blk (.inl ⟨by omega, by omega⟩) Y
                  have hsz3 := Lib.hid (Nat.le_trans hsz2.out hk3.size)
                  gi_wp2
                  go_roundw
                  case rel => exact ⟨x + 1, i + 1, rfl, by omega, by omega, C2.out, C3.out, X, Y, hsz3.out, hj3⟩
                  case measure => simp [intOf]; omega
                · gi_wp2
                  refine bodyPost_ret (results_none rfl _ _ _) rfl ?_
                  exact ⟨⟨_, rfl⟩, g + 2, by omega, .inr ⟨i, C3.out, hjx3⟩⟩
              · have hd1 := Lib.hid (hd.out.trans (rest3_nil (by omega)))
                gi_wp2
                go_roundw
                case rel => exact ⟨z + 1, i, rfl, by omega, by omega, hd1.out, hil.out, X, Y, hsz2.out, hj⟩
                case measure => simp [intOf]; omega
          · have hd1 := Lib.hid (hd.out.trans (rest2_nil (by omega)))
            gi_wp2
            go_roundw
            case rel => exact ⟨y + 1, i, rfl, by omega, by omega, hd1.out, hil.out, X, Y, hsz2.out, hj⟩
            case measure => simp [intOf]; omega
      · gi_wp2
        go_end0
        exact ⟨⟨_, rfl⟩, g + 2, by omega, .inl (by rw [← drop_nil (hd.out.trans (rest1_nil (by omega))) hil.out]; exact hj)⟩
end Go.Proofs.Ytmkmaoodeebmfaa
