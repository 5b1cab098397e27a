/- The document's cells of a box. -/
import Derived.Test.YtmkmaoodeebmfaaEach
import Derived.Test.YtmkmaoodeebmfaaRow
namespace Go.Proofs.Ytmkmaoodeebmfaa
open Go.RowKit
attribute [local go_sem] Oper.semAt_some

theorem infC : (Try.prog.info? 40).map (fun i => (i.zero, i.size, i.bytes)) = some (some (.agg #[.int .i64 0, .int .i64 0, .int .i64 0]), 3, 24) := by kernel_rfl
theorem Owns.mono {w : World} {base base' : Nat} {e : TypeId} {size : Nat} {α : Type} {enc : α → List Value} {v : Value} {xs : List α} (h : Owns w base e size enc v xs) (hb : base' ≤ base) : Owns w base' e size enc v xs := by
  refine ⟨h.1, ?_⟩
  rcases h.2 with h0 | ⟨g, cap, cur, hv, hbg, r⟩
  · exact .inl h0
  · exact .inr ⟨g, cap, cur, hv, by omega, r⟩
theorem take_push {α : Type} {xs t : List α} {a : α} {i : Nat} (h : xs.drop i = a :: t) : xs.take (i + 1) = xs.take i ++ [a] := by
  obtain ⟨h1, -, -⟩ := drop_cons h
  rw [List.take_add_one, h1]; rfl
theorem take_len {α : Type} {xs : List α} {i : Nat} (h : i ≤ xs.length) : (xs.take i).length = i := by rw [List.length_take]; omega
theorem near24 {i n : Nat} (h : i < n) (hn : n ≤ 1000000) : (i + 1) * 24 ≤ 140737488355328 := by omega
set_option maxRecDepth 100000 in
set_option maxHeartbeats 8000000 in
theorem rcells_c (a b c d e f : Int) (hB : BoxOk a b c d e f) (hL : (cellsI a b c d e f).length ≤ 1000000) (w : World) :
    Calls Try.prog 22 #[.agg #[.int .i64 a, .int .i64 b, .int .i64 c, .int .i64 d, .int .i64 e, .int .i64 f]] w fun r w' => ∃ v, r = .returned v ∧ Owns w' w.heap.size 40 3 enc3 v (cellsI a b c d e f) ∧ Below w.heap.size w w' := by
  have HB := Lib.hid hB
  have HL := Lib.hid hL
  clear hB hL
  obtain ⟨N, hN⟩ : ∃ N, N = w.heap.size := ⟨_, rfl⟩
  have HN := Lib.hid hN
  clear hN
  go_enter Try.func22, Try.ntmps22
  go_upto_region 3 with (go_at_call 48; refine (rspan_c a b c d e f _).mono ?_; rintro e_ w1 ⟨rfl, h1⟩)
  have hsz := h1.size
  generalize hV : World.alloc (World.alloc w1 _) _ = W2
  have X : Blk W2 w1.heap.size _ _ := Blk.eqw hV ((Blk.new' rfl).alloc _)
  have Y : Blk W2 (w1.heap.size + 1) _ _ := Blk.eqw hV (Blk.new' (by simp))
  have hz : W2.heap.size = w1.heap.size + 2 := by rw [← hV]; simp
  have hk : Below w.heap.size w W2 := by
    have h2 := after ((Below.refl _ w).alloc (Nat.le_refl _) _) h1
    simp at hsz
    rw [← hV]; exact (h2.alloc (by omega) _).alloc (by simp; omega) _
  clear hV h1
  simp at hsz
  have HS := Lib.hid hsz
  clear hsz
  generalize w1.heap.size = g at X Y HS hz ⊢
  cases his : isI a b c d e f
  · have hx : cellsI a b c d e f = [] := by unfold cellsI; rw [his]; rfl
    have HX := Lib.hid hx
    clear hx X Y
    go_wp2_with fail
    go_returns
    exact ⟨_, rfl, by rw [HX.out]; exact Owns.nil, hk⟩
  · rw [his] at X Y
    have hx : cellsI a b c d e f = rest1 (lowI a) (topI a d) (topI b e) (lowI c) (topI c f) (lowI b) := by unfold cellsI; rw [his, if_pos rfl]; rfl
    have HX := Lib.hid hx
    have HIS := Lib.hid his
    have HZ := Lib.hid hz
    clear hx his hz
    simp only [zI, if_true] at X Y
    obtain ⟨x0, x1, x2, -, -, -⟩ := X.c3
    obtain ⟨y0, y1, y2, -, -, -⟩ := Y.c3
    have lb := lowI_bd b
    have lc := lowI_bd c
    have la := lowI_bd a
    have tb := topI_bd (n := b) (m := e)
    have tc := topI_bd (n := c) (m := f)
    have ta := topI_bd (n := a) (m := d)
    have q1 := topI_low HB.out.b1 HB.out.e2 HB.out.be
    have q2 := topI_low HB.out.c1 HB.out.f2 HB.out.cf
    have q3 := topI_low HB.out.a1 HB.out.d2 HB.out.ad
    go_upto_region 6 with (fail)
    go_loopw [3, 7] (fun sl v wr => ∃ (y : Int) (i : Nat), v = .int .i64 y ∧ lowI b ≤ y ∧ y ≤ topI b e + 1 ∧ Hid ((cellsI a b c d e f).drop i = rest1 (lowI a) (topI a d) (topI b e) (lowI c) (topI c f) y) ∧ Hid (i ≤ (cellsI a b c d e f).length) ∧
      Blk wr g 40 #[.int .i64 (lowI a), .int .i64 (lowI b), .int .i64 (lowI c)] ∧ Blk wr (g + 1) 40 #[.int .i64 (topI a d), .int .i64 (topI b e), .int .i64 (topI c f)] ∧ Hid (g + 2 ≤ wr.heap.size) ∧ Hid (Owns wr (g + 2) 40 3 enc3 sl ((cellsI a b c d e f).take i)) ∧ Hid (Below w.heap.size w wr)) (fun _ v _ => (topI b e + 1 - intOf v).toNat)
    case atStart => exact ⟨_, 0, rfl, Int.le_refl _, by omega, by rw [List.drop_zero]; exact HX.out, Nat.zero_le _, X, Y, Nat.le_of_eq HZ.out.symm, by rw [List.take_zero]; exact Owns.nil, hk⟩
    case round =>
      clear X Y x0 x1 x2 y0 y1 y2 hk
      obtain ⟨y, i, rfl, hy1, hy2, hd, hil, X, Y, hsz2, hj, hk⟩ := hrel
      obtain ⟨x0, x1, x2, -, -, -⟩ := X.c3
      obtain ⟨y0, y1, y2, -, -, -⟩ := Y.c3
      by_cases hy : y ≤ topI b e
      · have hd1 := Lib.hid (hd.out.trans (rest1_cons hy))
        go_upto_region 9 with (fail)
        obtain ⟨wo, rfl⟩ : ∃ wo : World, wo = wr := ⟨_, rfl⟩
        go_loopw [3, 8] (fun sl v wr => ∃ (z : Int) (i : Nat), v = .int .i64 z ∧ lowI c ≤ z ∧ z ≤ topI c f + 1 ∧ Hid ((cellsI a b c d e f).drop i = rest2 (lowI a) (topI a d) (topI b e) (lowI c) (topI c f) y z) ∧ Hid (i ≤ (cellsI a b c d e f).length) ∧
          Blk wr g 40 #[.int .i64 (lowI a), .int .i64 (lowI b), .int .i64 (lowI c)] ∧ Blk wr (g + 1) 40 #[.int .i64 (topI a d), .int .i64 (topI b e), .int .i64 (topI c f)] ∧ Hid (g + 2 ≤ wr.heap.size) ∧ Hid (Owns wr (g + 2) 40 3 enc3 sl ((cellsI a b c d e f).take i)) ∧ Hid (Below w.heap.size w wr)) (fun _ v _ => (topI c f + 1 - intOf v).toNat)
        case atStart => exact ⟨_, i, rfl, Int.le_refl _, by omega, hd1.out, hil.out, X, Y, hsz2.out, hj, hk⟩
        case round =>
          clear X Y x0 x1 x2 y0 y1 y2 hd hil hsz2 hj hd1 hk
          obtain ⟨z, i, rfl, hz1, hz2, hd, hil, X, Y, hsz2, hj, hk⟩ := hrel
          obtain ⟨x0, x1, x2, -, -, -⟩ := X.c3
          obtain ⟨y0, y1, y2, -, -, -⟩ := Y.c3
          by_cases hzt : z ≤ topI c f
          · have hd1 := Lib.hid (hd.out.trans (rest2_cons hzt))
            go_upto_region 12 with (fail)
            obtain ⟨wo2, rfl⟩ : ∃ wo : World, wo = wr := ⟨_, rfl⟩
            go_loopw [3, 9] (fun sl v wr => ∃ (x : Int) (i : Nat), v = .int .i64 x ∧ lowI a ≤ x ∧ x ≤ topI a d + 1 ∧ Hid ((cellsI a b c d e f).drop i = rest3 (lowI a) (topI a d) (topI b e) (lowI c) (topI c f) y z x) ∧ Hid (i ≤ (cellsI a b c d e f).length) ∧
              Blk wr g 40 #[.int .i64 (lowI a), .int .i64 (lowI b), .int .i64 (lowI c)] ∧ Blk wr (g + 1) 40 #[.int .i64 (topI a d), .int .i64 (topI b e), .int .i64 (topI c f)] ∧ Hid (g + 2 ≤ wr.heap.size) ∧ Hid (Owns wr (g + 2) 40 3 enc3 sl ((cellsI a b c d e f).take i)) ∧ Hid (Below w.heap.size w wr)) (fun _ v _ => (topI a d + 1 - intOf v).toNat)
            case atStart => exact ⟨_, i, rfl, Int.le_refl _, by omega, hd1.out, hil.out, X, Y, hsz2.out, hj, hk⟩
            case round =>
              clear X Y x0 x1 x2 y0 y1 y2 hd hil hsz2 hj hd1 hk
              obtain ⟨x, i, rfl, hx1, hx2, hd, hil, X, Y, hsz2, hj, hk⟩ := hrel
              obtain ⟨x0, x1, x2, -, -, -⟩ := X.c3
              obtain ⟨y0, y1, y2, -, -, -⟩ := Y.c3
              by_cases hxt : x ≤ topI a d
              · have hdc := hd.out.trans (rest3_cons hxt)
                obtain ⟨c1, c2, c3⟩ := drop_cons hdc
                have hA : Below wr.heap.size wr (wr.alloc (.cells #[.int .i64 x, .int .i64 y, .int .i64 z] 40)) := (Below.refl _ _).alloc (Nat.le_refl _) _
                have hNew : Blk (wr.alloc (.cells #[.int .i64 x, .int .i64 y, .int .i64 z] 40)) wr.heap.size 40 #[.int .i64 x, .int .i64 y, .int .i64 z] := Blk.new' rfl
                obtain ⟨v', w', hrun, V2, -, hb2, -⟩ := run_push (P := Try.prog) (ts := 38) (ty := 38) (x := (x, y, z)) (b := wr.heap.size) Try.underlying38 infC rfl (by decide) (by decide) rfl (by simp [Value.oneCell']) (hj.out.on hA)
                  (fun j u hu => by rw [hNew.cell j]; simpa using hu) (by rw [take_len hil.out]; exact near24 c3 HL.out) (Nat.le_trans hsz2.out hA.size)
                rw [← take_push hdc] at V2
                have hk2 := Lib.hid ((after hk.out hA).trans (hb2.mono (by have := HS.out; omega)))
                replace X := (X.on hA).below hb2 (by omega)
                replace Y := (Y.on hA).below hb2 (by omega)
                have hsz3 := Lib.hid (Nat.le_trans (Nat.le_trans hsz2.out hA.size) hb2.size)
                have C2 := Lib.hid c2
                have C3 := Lib.hid c3
                have HV := Lib.hid V2
                clear hNew c1 c2 c3 hA hb2 hdc V2 hj hk
                go_wp2_with (at_builtin; refine Lib.wpList_append_run _ rfl _ _ _ _ rfl _ _ rfl rfl _ _ hrun ?_)
                go_roundw
                case rel => exact ⟨x + 1, i + 1, rfl, by omega, by omega, C2.out, C3.out, X, Y, hsz3.out, HV.out, hk2⟩
                case measure => simp [intOf]; omega
              · have hd1 := Lib.hid (hd.out.trans (rest3_nil (by omega)))
                go_wp2_with fail
                go_roundw
                case rel => exact ⟨z + 1, i, rfl, by omega, by omega, hd1.out, hil.out, X, Y, hsz2.out, hj, hk⟩
                case measure => simp [intOf]; omega
          · have hd1 := Lib.hid (hd.out.trans (rest2_nil (by omega)))
            go_wp2_with fail
            go_roundw
            case rel => exact ⟨y + 1, i, rfl, by omega, by omega, hd1.out, hil.out, X, Y, hsz2.out, hj, hk⟩
            case measure => simp [intOf]; omega
      · have hi := drop_nil (hd.out.trans (rest1_nil (by omega))) hil.out
        have HI := Lib.hid hi
        clear hi
        go_wp2_with fail
        go_returns
        exact ⟨_, rfl, by have h := hj.out; rw [HI.out, List.take_length] at h; exact h.mono (by have := HS.out; omega), hk.out⟩
end Go.Proofs.Ytmkmaoodeebmfaa
