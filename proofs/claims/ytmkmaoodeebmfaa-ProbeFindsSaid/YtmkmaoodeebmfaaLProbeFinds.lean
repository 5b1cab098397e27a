/- ProbeFinds holds: any small world, any box, any kind. -/
import Derived.Test.YtmkmaoodeebmfaaBlocks3
import Derived.Test.YtmkmaoodeebmfaaSmall
import Derived.Test.YtmkmaoodeebmfaaSelfs
namespace Go.Proofs.Ytmkmaoodeebmfaa
open Go.ChangeShapes Go.WideShapes Go.ChangeAt Go.RowKit Go.Shelf
attribute [local go_sem] Oper.semAt_some

/-- The first so many are searched for one. -/
def FirstAt (ys : List Int) (K : Int) (i : Nat) (at_ : Int) : Prop :=
  (at_ = -1 ∧ ∀ j y, j < i → ys[j]? = some y → y ≠ K) ∨ (∃ j : Nat, at_ = j ∧ j < i ∧ ys[j]? = some K ∧ ∀ k y, k < j → ys[k]? = some y → y ≠ K)
theorem first_find {xs : List Cl} {val : Cl → Int} {K at_ : Int} (h : FirstAt (xs.map val) K xs.length at_) :
    (xs.find? (fun x => val x == K) = none ∧ at_ = -1) ∨ ∃ j : Nat, ∃ x, at_ = j ∧ j < xs.length ∧ xs[j]? = some x ∧ xs.find? (fun x => val x == K) = some x := by
  rcases h with ⟨rfl, h⟩ | ⟨j, rfl, hj, h, hk⟩
  · left
    refine ⟨find_no fun j x hj hx => ?_, rfl⟩
    simpa using h j (val x) hj (by rw [List.getElem?_map, hx]; rfl)
  · right
    rw [List.getElem?_map] at h
    obtain ⟨x, hx, e⟩ := Option.map_eq_some_iff.1 h
    exact ⟨j, x, rfl, hj, hx, find_at hx (by simpa using e) fun k y hk' hy => by simpa using hk k (val y) hk' (by rw [List.getElem?_map, hy]; rfl)⟩
theorem Rd.at1 {w : World} {q : Option Addr} {xs : List Int} (h : Rd w q 1 encI xs) {i : Nat} {x : Int} (hx : xs[i]? = some x) : ∃ g o, q = some ⟨g, o, none⟩ ∧ w.cell? ⟨g, o + i, none⟩ = some (.int .i64 x) := by
  obtain ⟨g, o, hq, hI⟩ := h (by have := (List.getElem?_eq_some_iff.1 hx).1; omega)
  exact ⟨g, o, hq, by have := hI i x hx 0 _ rfl; simpa using this⟩
theorem Iq.far {w : World} {q : Option Addr} {n base : Nat} {F : Nat → Int} (h : Iq w q n F) (hq : ∀ a, q = some a → base ≤ a.block) {p : Addr} (hp : p.block < base) (u : Value) : Iq (w.setCell p u) q n F := fun hn => by
  obtain ⟨g, o, hg, h1⟩ := h hn
  have h2 := hq _ hg
  refine ⟨g, o, hg, fun i hi => ?_⟩
  have h3 := h1 i hi
  unfold World.cell? at h3 ⊢
  rw [Below.heap_setCell w p u g (by dsimp only at h2; omega)]
  exact h3
set_option maxRecDepth 100000 in
set_option maxHeartbeats 8000000 in
theorem probeFinds_c (q : Option Addr) (n c : Nat) (F : Nat → Int) (els : Int) (_ : n ≤ c) (hm : c ≤ maxLen) (hF : ∀ i, i < n → In64 (F i)) (he : In64 els) (pa pb pc pd pe pf : Int) (ha : In64 pa) (hb : In64 pb) (hc : In64 pc) (hd : In64 pd) (hee : In64 pe) (hf : In64 pf) (kd : Int) (hkd : In64 kd) (w : World) (hq : Iq w q n F) :
    Calls Try.prog 7 #[.agg #[.slice q n c, .int .i64 els], .agg #[.int .i64 pa, .int .i64 pb, .int .i64 pc, .int .i64 pd, .int .i64 pe, .int .i64 pf], .int .i64 kd] w fun e w' => e = .returned (.bool true) ∧ Below w.heap.size w w' := by
  have HGd := Lib.hid (fun W (h : Below w.heap.size w W) => rgood13_at q n c F els hm W (hq.on h) hF he)
  have HNr := Lib.hid (fun W => near_c pa pb pc pd pe pf true ha hb hc hd hee hf W)
  have HAr := Lib.hid (fun W => around_c kd 17 hkd.1 hkd.2 (by decide) W)
  have hk1 : 0 ≤ arI kd 17 ∧ arI kd 17 < 17 := ⟨arI_lo kd (by decide), arI_hi kd (by decide)⟩
  have da := near_bd true pa pd
  have db := near_bd true pb pe
  have dc := near_bd true pc pf
  clear hm hF he ha hb hc hd hee hf hq hkd
  obtain ⟨W0, hW0⟩ : ∃ W0, W0 = ((w.alloc (.cells #[.slice q n c, .int .i64 els] 24)).alloc (.cells #[.int .i64 pa, .int .i64 pb, .int .i64 pc, .int .i64 pd, .int .i64 pe, .int .i64 pf] 28)).alloc (.cells #[.int .i64 kd] 3) := ⟨_, rfl⟩
  have A0 : Blk W0 w.heap.size 24 #[.slice q n c, .int .i64 els] := by rw [hW0]; exact ((Blk.new' rfl).alloc _).alloc _
  have B0 : Blk W0 (w.heap.size + 1) 28 #[.int .i64 pa, .int .i64 pb, .int .i64 pc, .int .i64 pd, .int .i64 pe, .int .i64 pf] := by rw [hW0]; exact (Blk.new' (by simp)).alloc _
  have K0 : Blk W0 (w.heap.size + 1 + 1) 3 #[.int .i64 kd] := by rw [hW0]; exact Blk.new' (by simp)
  have H0 : Below w.heap.size w W0 := by rw [hW0]; go_grown
  have hs0 : W0.heap.size = w.heap.size + 3 := by rw [hW0]; simp
  go_enter Try.func7, Try.ntmps7
  go_upto_region 1 with (fail)
  rw [← hW0]
  clear hW0
  have a0 := A0.cell 0
  have a1 := A0.cell 1
  go_upto_region 2 with (go_at_call 9; refine (HGd.out _ H0).mono ?_; rintro e_ w1 ⟨q2, c2, rfl, R, k1, k2, h1, hat⟩)
  generalize hV : World.alloc w1 _ = W1
  have G : Blk W1 w1.heap.size _ _ := Blk.eqw hV (Blk.new' rfl)
  have h2 : Below w1.heap.size w1 W1 := by rw [← hV]; exact (Below.refl _ _).alloc (Nat.le_refl _) _
  have I := iq_of_rd (R.on h2)
  rw [show (goodL n F).length = min n 216 by simp [goodL]] at I
  replace B0 := (B0.on h1).on h2
  replace K0 := (K0.on h1).on h2
  replace H0 := after (after H0 h1) h2
  have hn1 : w.heap.size + 2 < w1.heap.size := by have := h1.size; omega
  replace hat : ∀ a, q2 = some a → w.heap.size + 3 ≤ a.block := fun a ha => by have := hat a ha; omega
  clear hV h1 h2 k1 k2 R a0 a1 A0 hs0
  generalize min n 216 = m at G I ⊢
  generalize w1.heap.size = g at G hn1 ⊢
  generalize (fun i => (goodL n F).getD i 0) = F2 at I
  generalize arI els 3 - 1 = els2 at G ⊢
  have g0 := G.cell 0
  have g1 := G.cell 1
  go_upto_region 3 with (go_at_call 10; refine (view_c _ _ _).mono ?_; rintro e_ w2 ⟨rfl, rfl⟩)
  generalize hV : World.alloc W1 _ = W2
  have V2 : Blk W2 W1.heap.size _ _ := Blk.eqw hV (Blk.new' rfl)
  have h2 : Below W1.heap.size W1 W2 := by rw [← hV]; exact (Below.refl _ _).alloc (Nat.le_refl _) _
  have hgl := G.lt
  replace I := I.on h2
  replace G := G.on h2
  replace B0 := B0.on h2
  replace K0 := K0.on h2
  replace H0 := after H0 h2
  have hn2 : w.heap.size + 2 < W1.heap.size := by omega
  clear hV h2 g0 g1 hgl
  generalize W1.heap.size = g2 at V2 hn2 ⊢
  obtain ⟨b0, b1, b2, b3, b4, b5⟩ := B0.c6.1
  go_upto_region 4 with (go_at_call 11; refine (HNr.out _).mono ?_; rintro e_ w3 ⟨rfl, h3⟩)
  generalize hV : World.alloc w3 _ = W3
  have X : Blk W3 w3.heap.size _ _ := Blk.eqw hV (Blk.new' rfl)
  have h2 : Below w3.heap.size w3 W3 := by rw [← hV]; exact (Below.refl _ _).alloc (Nat.le_refl _) _
  have hgl := Nat.lt_of_lt_of_le V2.lt h3.size
  replace I := (I.on h3).on h2
  replace G := (G.on h3).on h2
  replace V2 := (V2.on h3).on h2
  replace K0 := (K0.on h3).on h2
  replace H0 := after (after H0 h3) h2
  have hn3 : w.heap.size + 2 < w3.heap.size := by omega
  clear hV h2 h3 b0 b1 b2 b3 b4 b5 B0 hgl
  generalize w3.heap.size = gx at X hn3 ⊢
  generalize nearLo (unitI true) pa = a at da X
  generalize nearLo (unitI true) pb = b at db X
  generalize nearLo (unitI true) pc = c' at dc X
  generalize nearHi (unitI true) pa pd = d at da X
  generalize nearHi (unitI true) pb pe = e at db X
  generalize nearHi (unitI true) pc pf = f at dc X
  have B1 : BoxOk a b c' d e f := ⟨by omega, by omega, by omega, by omega, by omega, by omega, by omega, by omega, by omega⟩
  have L1 : (cellsI a b c' d e f).length ≤ 1000000 := cells_len (by omega) (by omega) (by omega) (by omega) (by omega) (by omega)
  have HB := Lib.hid (And.intro B1 L1)
  clear B1 L1 da db dc HGd HNr
  obtain ⟨kw, hkw⟩ : ∃ kw, kw = arI kd 17 := ⟨_, rfl⟩
  rw [← hkw] at HAr hk1
  have hk3 : -9223372036854775808 ≤ kw - 1 ∧ kw - 1 ≤ 9223372036854775807 := by omega
  obtain ⟨hk4, hk5⟩ := hk3
  clear hkw hk1
  have k0 : W3.cell? ⟨w.heap.size + 1 + 1, 0, none⟩ = some (.int .i64 kd) := K0.cell 0
  have kf := K0.frz 0
  go_upto_region 5 with (go_at_call 29; refine (HAr.out _).mono ?_; rintro e_ w4 ⟨rfl, rfl⟩)
  generalize hV : World.setCell W3 _ _ = W4
  have K1 : Blk W4 (w.heap.size + 1 + 1) 3 #[.int .i64 (kw - 1)] := by rw [← hV]; exact K0.set_ 0 _
  replace I : Iq W4 q2 m F2 := by rw [← hV]; exact I.far (base := w.heap.size + 3) hat (show w.heap.size + 1 + 1 < w.heap.size + 3 by omega) _
  replace G := Blk.eqw hV (G.far (show g ≠ w.heap.size + 1 + 1 by omega) _)
  replace V2 := Blk.eqw hV (V2.far (show g2 ≠ w.heap.size + 1 + 1 by omega) _)
  replace X := Blk.eqw hV (X.far (show gx ≠ w.heap.size + 1 + 1 by omega) _)
  replace H0 : Below w.heap.size w W4 := by rw [← hV]; exact H0.setCell (p := ⟨w.heap.size + 1 + 1, 0, none⟩) (by dsimp only; omega) _
  clear hV k0 kf K0 hat hn1 hn2 hn3 HAr hk4 hk5
  generalize kw - 1 = K at K1 ⊢
  obtain ⟨kb, hkb⟩ : ∃ kb, kb = w.heap.size + 1 + 1 := ⟨_, rfl⟩
  rw [← hkb] at K1 ⊢
  clear hkb
  have T0 := view_tells V2 I
  have T1 := Lib.hid fun W (h : Below W4.heap.size W4 W) => T0.on h
  have HI := Lib.hid fun W (h : Below W4.heap.size W4 W) => I.on h
  have HK := Lib.hid fun W (h : Below W4.heap.size W4 W) => K1.on h
  have HG := Lib.hid fun W (h : Below W4.heap.size W4 W) => G.on h
  have H40 := Lib.hid H0
  have HF := find_c 40 31 _ _ _ _ a b c' d e f HB.out.1 W4 view_en kind_en T0 (kind_says K1)
  have HW4 := Lib.hid (Below.refl W4.heap.size W4)
  clear T0 V2 I G K1 H0
  generalize hcl : cellsI a b c' d e f = xs at HF
  have HXS := Lib.hid hcl
  clear hcl
  generalize hfd : xs.find? (fun x => atG m F2 els2 x.1 x.2.1 x.2.2 == K) = o at HF
  have HFD := Lib.hid hfd
  clear hfd
  have P1 := Lib.hid fun W (hW : Below W4.heap.size W4 W) => pblocks_c 40 _ _ a b c' d e f HB.out.1 HB.out.2 W view_en (T1.out W hW)
  have Q1 := Lib.hid fun W => rcells_c a b c' d e f HB.out.1 HB.out.2 W
  have Q2 := Lib.hid fun W (hW : Below W4.heap.size W4 W) => rblocks_c q2 m c2 F2 els2 a b c' d e f HB.out.1 HB.out.2 W (HI.out W hW)
  have HL : Hid (xs.length ≤ 1000000) := by rw [← HXS.out]; exact HB.out.2
  have hmf : ∀ (fn : Fn) (first cap : Array Value) (w : World), (Instr.makeFunc fn first cap).run Try.prog w = .ok (.func fn first cap) w := fun _ _ _ _ => rfl
  rcases o with - | ⟨x, y, z⟩
  all_goals simp only [findV] at HF
  · replace HF := Lib.hid HF
    obtain ⟨x0, x1, x2, x3, x4, x5⟩ := X.c6.1
    go_upto_region 6 with (go_at_call 30; refine HF.out.mono ?_; rintro e_ w5 ⟨rfl, h5⟩)
    generalize hV : World.alloc w5 _ = W5
    have C : Blk W5 w5.heap.size 40 #[.int .i64 0, .int .i64 0, .int .i64 0] := Blk.eqw hV (Blk.new' rfl)
    have h2 : Below w5.heap.size w5 W5 := by rw [← hV]; exact (Below.refl _ _).alloc (Nat.le_refl _) _
    have KB : Below W4.heap.size W4 W5 := after h5 h2
    replace X := (X.on h5).on h2
    clear hV h5 h2 x0 x1 x2 x3 x4 x5
    generalize w5.heap.size = gc at C ⊢
    obtain ⟨x0, x1, x2, x3, x4, x5⟩ := X.c6.1
    go_upto_region 7 with (go_at_call 22; refine (Q1.out _).mono ?_; rintro e_ w6 ⟨v, rfl, V, h6⟩)
    rw [HXS.out] at V
    replace X := X.on h6
    replace C := C.on h6
    replace KB := after KB h6
    obtain ⟨q3, c3, rfl, k1, k2, R3, -, -⟩ := V.form len3
    clear V h6 x0 x1 x2 x3 x4 x5 k1 k2
    have G := HG.out _ KB
    have g0 := G.cell 0
    have g1 := G.cell 1
    obtain ⟨x0, x1, x2, x3, x4, x5⟩ := X.c6.1
    go_upto_region 8 with (go_at_call 32; refine (Q2.out _ KB).mono ?_; rintro e_ w7 ⟨v, rfl, V, h7⟩)
    rw [HXS.out] at V
    generalize hys : xs.map (fun x => atG m F2 els2 x.1 x.2.1 x.2.2) = ys at V
    have hyl : ys.length = xs.length := by rw [← hys]; simp
    have HYS := Lib.hid hys
    have HYL := Lib.hid hyl
    replace X := X.on h7
    replace C := C.on h7
    replace KB := after KB h7
    replace R3 := R3.on h7
    obtain ⟨q4, c4, rfl, k1, k2, R4, -, -⟩ := V.form lenI
    have HB4 := Lib.hid KB
    clear V h7 x0 x1 x2 x3 x4 x5 k1 k2 g0 g1 G hys hyl KB
    go_upto_region 10 with (fail)
    go_loopw [14, 15] (fun av iv wr => ∃ (i : Nat) (at_ : Int), iv = .int .i64 (i : Nat) ∧ av = .int .i64 at_ ∧ Hid (i ≤ ys.length) ∧ Hid (FirstAt ys K i at_) ∧ Hid (Below W4.heap.size W4 wr) ∧ Hid (Blk wr gx 28 #[.int .i64 a, .int .i64 b, .int .i64 c', .int .i64 d, .int .i64 e, .int .i64 f]) ∧ Hid (Blk wr gc 40 #[.int .i64 0, .int .i64 0, .int .i64 0]) ∧ Hid (Rd wr q3 3 enc3 xs) ∧ Hid (Rd wr q4 1 encI ys)) (fun _ v _ => ys.length - (intOf v).toNat)
    case atStart => exact ⟨0, -1, rfl, rfl, Nat.zero_le _, .inl ⟨rfl, fun j y h => by omega⟩, HB4, X, C, R3, R4⟩
    case round =>
      clear X C R3 R4 HB4
      obtain ⟨i, at_, rfl, rfl, hi, hat, hK, X, C, R3, R4⟩ := hrel
      by_cases hlt : i < ys.length
      · obtain ⟨y, hy⟩ : ∃ y, ys[i]? = some y := ⟨_, List.getElem?_eq_getElem hlt⟩
        have hlt' : (i : Int) < (ys.length : Int) := by omega
        obtain ⟨g4, o4, rfl, e0⟩ := R4.out.at1 hy
        have kk := (HK.out _ hK.out).cell 0
        obtain ⟨n2, n3, n5, n6⟩ := nexta hlt (by rw [HYL.out]; exact HL.out)
        have HY := Lib.hid hy
        clear hy
        have e0 := fun d os => cell_regrown e0 d os
        have kk := fun d os => (show _ = some (Value.int .i64 K) from cell_regrown kk d os)
        rcases hat.out with ⟨rfl, ho⟩ | ⟨j, rfl, ho⟩
        · have HO := Lib.hid ho
          clear ho
          by_cases hyk : y = K
          · subst hyk
            go_upto_region 12 with (fail)
            refine wp_region_quiet_below (by kernel_rfl) (by kernel_rfl) ?_
            repeat (go_big_quiet_step (fail))
            refine wpQuiet_nil ?_
            intro w' hw'
            obtain ⟨rg, rfl⟩ := hw'
            have h7 := below_regrown wr rg.d rg.os
            generalize Go.Sort.grow (redrawn wr rg.d) rg.os = W7 at h7 ⊢
            clear e0 kk
            go_wp2_with fail
            go_roundw
            case rel => exact ⟨i + 1, i, rfl, rfl, hlt, .inr ⟨i, rfl, by omega, HY.out, HO.out⟩, after hK.out h7, X.out.on h7, C.out.on h7, R3.out.on h7, R4.out.on h7⟩
            case measure => simp [intOf]; omega
          · have hb : (y == K) = false := by simpa using hyk
            have HYK := Lib.hid hyk
            clear hyk
            go_upto_region 12 with (fail)
            refine wp_region_quiet_below (by kernel_rfl) (by kernel_rfl) ?_
            repeat (go_big_quiet_step (fail))
            refine wpQuiet_nil ?_
            intro w' hw'
            obtain ⟨rg, rfl⟩ := hw'
            have h7 := below_regrown wr rg.d rg.os
            generalize Go.Sort.grow (redrawn wr rg.d) rg.os = W7 at h7 ⊢
            clear e0 kk
            go_wp2_with fail
            go_roundw
            case rel => exact ⟨i + 1, -1, rfl, rfl, hlt, .inl ⟨rfl, fun k u hk hu => by
              rcases Nat.lt_or_eq_of_le (Nat.le_of_lt_succ hk) with h | h
              · exact HO.out k u h hu
              · subst h; rw [HY.out] at hu; obtain rfl := Option.some.inj hu; exact HYK.out⟩, after hK.out h7, X.out.on h7, C.out.on h7, R3.out.on h7, R4.out.on h7⟩
            case measure => simp [intOf]; omega
        · have HO := Lib.hid ho
          clear ho
          have hj0 : decide ((j : Int) < 0) = false := by rw [decide_eq_false]; omega
          go_upto_region 12 with (fail)
          refine wp_region_quiet_below (by kernel_rfl) (by kernel_rfl) ?_
          repeat (go_big_quiet_step (fail))
          refine wpQuiet_nil ?_
          intro w' hw'
          obtain ⟨rg, rfl⟩ := hw'
          have h7 := below_regrown wr rg.d rg.os
          generalize Go.Sort.grow (redrawn wr rg.d) rg.os = W7 at h7 ⊢
          clear e0 kk
          go_wp2_with fail
          go_roundw
          case rel => exact ⟨i + 1, j, rfl, rfl, hlt, .inr ⟨j, rfl, by have := HO.out.1; omega, HO.out.2⟩, after hK.out h7, X.out.on h7, C.out.on h7, R3.out.on h7, R4.out.on h7⟩
          case measure => simp [intOf]; omega
      · have hlt' : ¬ (i : Int) < (ys.length : Int) := by omega
        have hi2 : i = xs.length := by have := hi.out; have := HYL.out; omega
        have hff := hat.out
        rw [hi2, ← HYS.out] at hff
        replace hff := first_find hff
        rw [HFD.out] at hff
        have cg := cell_guard
        have cs := cell_ne_self
        have hmx := @run_mx Try.prog
        obtain rfl : at_ = -1 := by
          rcases hff with ⟨-, h⟩ | ⟨_, _, -, -, -, h⟩
          · exact h
          · cases h
        have hm1 : True := trivial
        obtain ⟨z0, z1, z2⟩ := C.out.re3
        clear hff
        go_upto_region 14 with (fail)
        refine wp_region_quiet_below (by kernel_rfl) (by kernel_rfl) ?_
        repeat (go_big_quiet_step (fail))
        refine wpQuiet_nil ?_
        intro w' hw'
        obtain ⟨rg, rfl⟩ := hw'
        have h7 := below_regrown wr rg.d rg.os
        generalize Go.Sort.grow (redrawn wr rg.d) rg.os = W7 at h7 ⊢
        clear z0 z1 z2
        have X := X.out.on h7
        have R4 := R4.out.on h7
        have hK := after hK.out h7
        clear h7
        obtain ⟨x0, x1, x2, x3, x4, x5⟩ := X.c6.1
        go_upto_region 18 with (go_at_call 33; refine (P1.out _ hK).mono ?_; rintro e_ w8 ⟨v, rfl, V, h8⟩)
        rw [HXS.out, HYS.out] at V
        replace R4 := R4.on h8
        replace hK := after hK h8
        obtain ⟨q5, c5, rfl, k1, k2, R5, -, -⟩ := V.form lenI
        have hlen : (setL ys).length ≤ 1000000 := Nat.le_trans (setL_len ys) (by rw [HYL.out]; exact HL.out)
        have HSL := Lib.hid hlen
        have hyl2 : ys.length ≤ 1000000 := by rw [HYL.out]; exact HL.out
        have HYL2 := Lib.hid hyl2
        have hmm : ∀ x, x ∈ setL ys ↔ x ∈ ys := fun x => mem_setL
        have hpw := setL_lt ys
        have HMM := Lib.hid hmm
        have HPW := Lib.hid hpw
        clear V h8 k1 k2 x0 x1 x2 x3 x4 x5 X hlen hyl2 hmm hpw
        generalize setL ys = zs at R5 HSL HMM HPW ⊢
        go_loopw [17] (fun iv wr => ∃ (i : Nat), iv = .int .i64 (i : Nat) ∧ Hid (i ≤ zs.length) ∧ Hid (Below W4.heap.size W4 wr) ∧ Hid (Rd wr q4 1 encI ys) ∧ Hid (Rd wr q5 1 encI zs)) (fun v _ => zs.length - (intOf v).toNat)
        case atStart => exact ⟨0, rfl, Nat.zero_le _, hK, R4, R5⟩
        case round =>
          clear hK R4 R5
          obtain ⟨i, rfl, hi, hK, R4, R5⟩ := hrel
          by_cases hlt : i < zs.length
          · obtain ⟨u, hu⟩ : ∃ u, zs[i]? = some u := ⟨_, List.getElem?_eq_getElem hlt⟩
            have hlt' : (i : Int) < (zs.length : Int) := by omega
            have hA : ∀ W, Rd W q4 1 encI ys → Calls Try.prog 34 #[.slice q4 ys.length c4, .int .i64 u] W fun r w' => r = .returned (.bool true) ∧ w' = W := fun W hR => by
              have := among_c q4 c4 ys u HYL2.out W hR
              rwa [decide_eq_true ((HMM.out u).1 (List.mem_of_getElem? hu))] at this
            have HA := Lib.hid hA
            obtain ⟨n2, n3, n5, n6⟩ := nexta hlt HSL.out
            have HU := Lib.hid hu
            clear hu hA
            by_cases hi0 : i = 0
            · subst hi0
              go_upto_region 20 with (fail)
              refine wp_region_quiet_below (by kernel_rfl) (by kernel_rfl) ?_
              repeat (go_big_quiet_step (fail))
              refine wpQuiet_nil ?_
              intro w' hw'
              obtain ⟨rg, rfl⟩ := hw'
              have h9 := below_regrown wr rg.d rg.os
              generalize Go.Sort.grow (redrawn wr rg.d) rg.os = W9 at h9 ⊢
              obtain ⟨g5, o5, rfl, e0⟩ := (R5.out.on h9).at1 HU.out
              rw [Nat.add_zero] at e0
              go_wp2_with (go_at_call 34; refine (HA.out _ (R4.out.on h9)).mono ?_; rintro e_ w10 ⟨rfl, rfl⟩)
              go_roundw
              case rel => exact ⟨1, rfl, hlt, after hK.out h9, R4.out.on h9, R5.out.on h9⟩
              case measure => simp [intOf]; omega
            · obtain ⟨k, hk⟩ : ∃ k, i = k + 1 := ⟨i - 1, by omega⟩
              have hkl : k < zs.length := by omega
              obtain ⟨u2, hu2⟩ : ∃ u, zs[k]? = some u := ⟨_, List.getElem?_eq_getElem hkl⟩
              have hlt2 : ¬ u ≤ u2 := by
                have h1 := List.pairwise_iff_getElem.1 HPW.out k i hkl hlt (by omega)
                have h2 := HU.out
                rw [List.getElem?_eq_getElem hlt] at h2
                rw [List.getElem?_eq_getElem hkl] at hu2
                rw [Option.some.inj h2, Option.some.inj hu2] at h1
                omega
              obtain ⟨g5, o5, rfl, e0⟩ := R5.out.at1 HU.out
              obtain ⟨g6, o6, hq, e1⟩ := R5.out.at1 hu2
              obtain ⟨rfl, rfl⟩ : g5 = g6 ∧ o5 = o6 := by injection hq with h; injection h with h1 h2; exact ⟨h1, h2⟩
              have hp0 : 0 < i := by omega
              have hp1 : i ≠ 0 := by omega
              have hpos : decide ((0 : Int) < (i : Int)) = true := by rw [decide_eq_true]; omega
              have hwr : IntKind.i64.wrap ((i : Int) - 1) = (k : Int) := by rw [IntWalk.i64_in _ (by omega)]; omega
              have p0 : (0 : Int) ≤ k := by omega
              have p1 : (k : Int) < (zs.length : Int) := by omega
              have e0 := fun d os => cell_regrown e0 d os
              have e1 := fun d os => cell_regrown e1 d os
              clear hu2 hk hq
              go_upto_region 20 with (fail)
              refine wp_region_quiet_below (by kernel_rfl) (by kernel_rfl) ?_
              repeat (go_big_quiet_step (fail))
              refine wpQuiet_nil ?_
              intro w' hw'
              obtain ⟨rg, rfl⟩ := hw'
              have h9 := below_regrown wr rg.d rg.os
              generalize Go.Sort.grow (redrawn wr rg.d) rg.os = W9 at h9 ⊢
              clear e0 e1
              obtain ⟨g6, o6, hq, e3⟩ := (R5.out.on h9).at1 HU.out
              obtain ⟨rfl, rfl⟩ : g5 = g6 ∧ o5 = o6 := by injection hq with h; injection h with h1 h2; exact ⟨h1, h2⟩
              clear hwr p0 p1
              go_wp2_with (go_at_call 34; refine (HA.out _ (R4.out.on h9)).mono ?_; rintro e_ w10 ⟨rfl, rfl⟩)
              go_roundw
              case rel => exact ⟨i + 1, rfl, hlt, after hK.out h9, R4.out.on h9, R5.out.on h9⟩
              case measure => simp [intOf]; omega
          · have hlt' : ¬ (i : Int) < (zs.length : Int) := by omega
            clear hlt hi
            go_upto_region 25 with (fail)
            go_loopw [18] (fun iv w9 => ∃ (i : Nat), iv = .int .i64 (i : Nat) ∧ Hid (i ≤ ys.length) ∧ w9 = wr) (fun v _ => ys.length - (intOf v).toNat)
            case atStart => exact ⟨0, rfl, Nat.zero_le _, rfl⟩
            case round =>
              obtain ⟨i, rfl, hi, rfl⟩ := hrel
              by_cases hlt : i < ys.length
              · obtain ⟨u, hu⟩ : ∃ u, ys[i]? = some u := ⟨_, List.getElem?_eq_getElem hlt⟩
                have hlt' : (i : Int) < (ys.length : Int) := by omega
                have hA : ∀ W, Rd W q5 1 encI zs → Calls Try.prog 34 #[.slice q5 zs.length c5, .int .i64 u] W fun r w' => r = .returned (.bool true) ∧ w' = W := fun W hR => by
                  have := among_c q5 c5 zs u HSL.out W hR
                  rwa [decide_eq_true ((HMM.out u).2 (List.mem_of_getElem? hu))] at this
                have HA := Lib.hid hA
                obtain ⟨n2, n3, n5, n6⟩ := nexta hlt HYL2.out
                obtain ⟨g4, o4, rfl, e0⟩ := R4.out.at1 hu
                clear hu hA
                go_wp2_with (go_at_call 34; refine (HA.out _ R5.out).mono ?_; rintro e_ w10 ⟨rfl, rfl⟩)
                go_roundw
                case rel => exact ⟨i + 1, rfl, hlt, trivial⟩
                case measure => simp [intOf]; omega
              · have hlt' : ¬ (i : Int) < (ys.length : Int) := by omega
                go_wp2_with (go_at_call 20; refine (plives_c _).mono ?_; rintro e_ w10 ⟨rfl, h10⟩)
                go_returns
                exact ⟨rfl, after (after H40.out hK.out) h10⟩
  · replace HF := Lib.hid HF
    obtain ⟨x0, x1, x2, x3, x4, x5⟩ := X.c6.1
    go_upto_region 6 with (go_at_call 30; refine HF.out.mono ?_; rintro e_ w5 ⟨rfl, h5⟩)
    generalize hV : World.alloc w5 _ = W5
    have C : Blk W5 w5.heap.size 40 #[.int .i64 x, .int .i64 y, .int .i64 z] := Blk.eqw hV (Blk.new' rfl)
    have h2 : Below w5.heap.size w5 W5 := by rw [← hV]; exact (Below.refl _ _).alloc (Nat.le_refl _) _
    have KB : Below W4.heap.size W4 W5 := after h5 h2
    replace X := (X.on h5).on h2
    clear hV h5 h2 x0 x1 x2 x3 x4 x5
    generalize w5.heap.size = gc at C ⊢
    obtain ⟨x0, x1, x2, x3, x4, x5⟩ := X.c6.1
    go_upto_region 7 with (go_at_call 22; refine (Q1.out _).mono ?_; rintro e_ w6 ⟨v, rfl, V, h6⟩)
    rw [HXS.out] at V
    replace X := X.on h6
    replace C := C.on h6
    replace KB := after KB h6
    obtain ⟨q3, c3, rfl, k1, k2, R3, -, -⟩ := V.form len3
    clear V h6 x0 x1 x2 x3 x4 x5 k1 k2
    have G := HG.out _ KB
    have g0 := G.cell 0
    have g1 := G.cell 1
    obtain ⟨x0, x1, x2, x3, x4, x5⟩ := X.c6.1
    go_upto_region 8 with (go_at_call 32; refine (Q2.out _ KB).mono ?_; rintro e_ w7 ⟨v, rfl, V, h7⟩)
    rw [HXS.out] at V
    generalize hys : xs.map (fun x => atG m F2 els2 x.1 x.2.1 x.2.2) = ys at V
    have hyl : ys.length = xs.length := by rw [← hys]; simp
    have HYS := Lib.hid hys
    have HYL := Lib.hid hyl
    replace X := X.on h7
    replace C := C.on h7
    replace KB := after KB h7
    replace R3 := R3.on h7
    obtain ⟨q4, c4, rfl, k1, k2, R4, -, -⟩ := V.form lenI
    have HB4 := Lib.hid KB
    clear V h7 x0 x1 x2 x3 x4 x5 k1 k2 g0 g1 G hys hyl KB
    go_upto_region 10 with (fail)
    go_loopw [14, 15] (fun av iv wr => ∃ (i : Nat) (at_ : Int), iv = .int .i64 (i : Nat) ∧ av = .int .i64 at_ ∧ Hid (i ≤ ys.length) ∧ Hid (FirstAt ys K i at_) ∧ Hid (Below W4.heap.size W4 wr) ∧ Hid (Blk wr gx 28 #[.int .i64 a, .int .i64 b, .int .i64 c', .int .i64 d, .int .i64 e, .int .i64 f]) ∧ Hid (Blk wr gc 40 #[.int .i64 x, .int .i64 y, .int .i64 z]) ∧ Hid (Rd wr q3 3 enc3 xs) ∧ Hid (Rd wr q4 1 encI ys)) (fun _ v _ => ys.length - (intOf v).toNat)
    case atStart => exact ⟨0, -1, rfl, rfl, Nat.zero_le _, .inl ⟨rfl, fun j y h => by omega⟩, HB4, X, C, R3, R4⟩
    case round =>
      clear X C R3 R4 HB4
      obtain ⟨i, at_, rfl, rfl, hi, hat, hK, X, C, R3, R4⟩ := hrel
      by_cases hlt : i < ys.length
      · obtain ⟨y, hy⟩ : ∃ y, ys[i]? = some y := ⟨_, List.getElem?_eq_getElem hlt⟩
        have hlt' : (i : Int) < (ys.length : Int) := by omega
        obtain ⟨g4, o4, rfl, e0⟩ := R4.out.at1 hy
        have kk := (HK.out _ hK.out).cell 0
        obtain ⟨n2, n3, n5, n6⟩ := nexta hlt (by rw [HYL.out]; exact HL.out)
        have HY := Lib.hid hy
        clear hy
        have e0 := fun d os => cell_regrown e0 d os
        have kk := fun d os => (show _ = some (Value.int .i64 K) from cell_regrown kk d os)
        rcases hat.out with ⟨rfl, ho⟩ | ⟨j, rfl, ho⟩
        · have HO := Lib.hid ho
          clear ho
          by_cases hyk : y = K
          · subst hyk
            go_upto_region 12 with (fail)
            refine wp_region_quiet_below (by kernel_rfl) (by kernel_rfl) ?_
            repeat (go_big_quiet_step (fail))
            refine wpQuiet_nil ?_
            intro w' hw'
            obtain ⟨rg, rfl⟩ := hw'
            have h7 := below_regrown wr rg.d rg.os
            generalize Go.Sort.grow (redrawn wr rg.d) rg.os = W7 at h7 ⊢
            clear e0 kk
            go_wp2_with fail
            go_roundw
            case rel => exact ⟨i + 1, i, rfl, rfl, hlt, .inr ⟨i, rfl, by omega, HY.out, HO.out⟩, after hK.out h7, X.out.on h7, C.out.on h7, R3.out.on h7, R4.out.on h7⟩
            case measure => simp [intOf]; omega
          · have hb : (y == K) = false := by simpa using hyk
            have HYK := Lib.hid hyk
            clear hyk
            go_upto_region 12 with (fail)
            refine wp_region_quiet_below (by kernel_rfl) (by kernel_rfl) ?_
            repeat (go_big_quiet_step (fail))
            refine wpQuiet_nil ?_
            intro w' hw'
            obtain ⟨rg, rfl⟩ := hw'
            have h7 := below_regrown wr rg.d rg.os
            generalize Go.Sort.grow (redrawn wr rg.d) rg.os = W7 at h7 ⊢
            clear e0 kk
            go_wp2_with fail
            go_roundw
            case rel => exact ⟨i + 1, -1, rfl, rfl, hlt, .inl ⟨rfl, fun k u hk hu => by
              rcases Nat.lt_or_eq_of_le (Nat.le_of_lt_succ hk) with h | h
              · exact HO.out k u h hu
              · subst h; rw [HY.out] at hu; obtain rfl := Option.some.inj hu; exact HYK.out⟩, after hK.out h7, X.out.on h7, C.out.on h7, R3.out.on h7, R4.out.on h7⟩
            case measure => simp [intOf]; omega
        · have HO := Lib.hid ho
          clear ho
          have hj0 : decide ((j : Int) < 0) = false := by rw [decide_eq_false]; omega
          go_upto_region 12 with (fail)
          refine wp_region_quiet_below (by kernel_rfl) (by kernel_rfl) ?_
          repeat (go_big_quiet_step (fail))
          refine wpQuiet_nil ?_
          intro w' hw'
          obtain ⟨rg, rfl⟩ := hw'
          have h7 := below_regrown wr rg.d rg.os
          generalize Go.Sort.grow (redrawn wr rg.d) rg.os = W7 at h7 ⊢
          clear e0 kk
          go_wp2_with fail
          go_roundw
          case rel => exact ⟨i + 1, j, rfl, rfl, hlt, .inr ⟨j, rfl, by have := HO.out.1; omega, HO.out.2⟩, after hK.out h7, X.out.on h7, C.out.on h7, R3.out.on h7, R4.out.on h7⟩
          case measure => simp [intOf]; omega
      · have hlt' : ¬ (i : Int) < (ys.length : Int) := by omega
        have hi2 : i = xs.length := by have := hi.out; have := HYL.out; omega
        have hff := hat.out
        rw [hi2, ← HYS.out] at hff
        replace hff := first_find hff
        rw [HFD.out] at hff
        have cg := cell_guard
        have cs := cell_ne_self
        have hmx := @run_mx Try.prog
        obtain ⟨j, u, rfl, hj, hu, h⟩ : ∃ j : Nat, ∃ u, at_ = j ∧ j < xs.length ∧ xs[j]? = some u ∧ (x, y, z) = u := by
          rcases hff with ⟨h, -⟩ | ⟨j, u, h1, h2, h3, h⟩
          · cases h
          · exact ⟨j, u, h1, h2, h3, Option.some.inj h⟩
        subst h
        have hj0 : decide ((j : Int) ≥ 0) = true := by rw [decide_eq_true]; omega
        have hmj : mxI (j : Int) 0 = j := by unfold mxI; omega
        have hj1 : (0 : Int) ≤ j := by omega
        have hj2 : (j : Int) < (xs.length : Int) := by omega
        obtain ⟨g3, o3, rfl, hI3⟩ := R3.out (by omega)
        have y0 : wr.cell? ⟨g3, o3 + j * 3, none⟩ = some (.int .i64 x) := hI3 j _ hu 0 _ rfl
        have y1 : wr.cell? ⟨g3, o3 + j * 3 + 1, none⟩ = some (.int .i64 y) := hI3 j _ hu 1 _ rfl
        have y2 : wr.cell? ⟨g3, o3 + j * 3 + 2, none⟩ = some (.int .i64 z) := hI3 j _ hu 2 _ rfl
        have y0 := fun d os => cell_regrown y0 d os
        have y1 := fun d os => cell_regrown y1 d os
        have y2 := fun d os => cell_regrown y2 d os
        obtain ⟨z0, z1, z2⟩ := C.out.re3
        clear hff hI3 hj hu
        go_upto_region 14 with (fail)
        refine wp_region_quiet_below (by kernel_rfl) (by kernel_rfl) ?_
        repeat (go_big_quiet_step (fail))
        refine wpQuiet_nil ?_
        intro w' hw'
        obtain ⟨rg, rfl⟩ := hw'
        have h7 := below_regrown wr rg.d rg.os
        generalize Go.Sort.grow (redrawn wr rg.d) rg.os = W7 at h7 ⊢
        clear z0 z1 z2 y0 y1 y2
        have X := X.out.on h7
        have R4 := R4.out.on h7
        have hK := after hK.out h7
        clear h7
        obtain ⟨x0, x1, x2, x3, x4, x5⟩ := X.c6.1
        go_upto_region 18 with (go_at_call 33; refine (P1.out _ hK).mono ?_; rintro e_ w8 ⟨v, rfl, V, h8⟩)
        rw [HXS.out, HYS.out] at V
        replace R4 := R4.on h8
        replace hK := after hK h8
        obtain ⟨q5, c5, rfl, k1, k2, R5, -, -⟩ := V.form lenI
        have hlen : (setL ys).length ≤ 1000000 := Nat.le_trans (setL_len ys) (by rw [HYL.out]; exact HL.out)
        have HSL := Lib.hid hlen
        have hyl2 : ys.length ≤ 1000000 := by rw [HYL.out]; exact HL.out
        have HYL2 := Lib.hid hyl2
        have hmm : ∀ x, x ∈ setL ys ↔ x ∈ ys := fun x => mem_setL
        have hpw := setL_lt ys
        have HMM := Lib.hid hmm
        have HPW := Lib.hid hpw
        clear V h8 k1 k2 x0 x1 x2 x3 x4 x5 X hlen hyl2 hmm hpw
        generalize setL ys = zs at R5 HSL HMM HPW ⊢
        go_loopw [17] (fun iv wr => ∃ (i : Nat), iv = .int .i64 (i : Nat) ∧ Hid (i ≤ zs.length) ∧ Hid (Below W4.heap.size W4 wr) ∧ Hid (Rd wr q4 1 encI ys) ∧ Hid (Rd wr q5 1 encI zs)) (fun v _ => zs.length - (intOf v).toNat)
        case atStart => exact ⟨0, rfl, Nat.zero_le _, hK, R4, R5⟩
        case round =>
          clear hK R4 R5
          obtain ⟨i, rfl, hi, hK, R4, R5⟩ := hrel
          by_cases hlt : i < zs.length
          · obtain ⟨u, hu⟩ : ∃ u, zs[i]? = some u := ⟨_, List.getElem?_eq_getElem hlt⟩
            have hlt' : (i : Int) < (zs.length : Int) := by omega
            have hA : ∀ W, Rd W q4 1 encI ys → Calls Try.prog 34 #[.slice q4 ys.length c4, .int .i64 u] W fun r w' => r = .returned (.bool true) ∧ w' = W := fun W hR => by
              have := among_c q4 c4 ys u HYL2.out W hR
              rwa [decide_eq_true ((HMM.out u).1 (List.mem_of_getElem? hu))] at this
            have HA := Lib.hid hA
            obtain ⟨n2, n3, n5, n6⟩ := nexta hlt HSL.out
            have HU := Lib.hid hu
            clear hu hA
            by_cases hi0 : i = 0
            · subst hi0
              go_upto_region 20 with (fail)
              refine wp_region_quiet_below (by kernel_rfl) (by kernel_rfl) ?_
              repeat (go_big_quiet_step (fail))
              refine wpQuiet_nil ?_
              intro w' hw'
              obtain ⟨rg, rfl⟩ := hw'
              have h9 := below_regrown wr rg.d rg.os
              generalize Go.Sort.grow (redrawn wr rg.d) rg.os = W9 at h9 ⊢
              obtain ⟨g5, o5, rfl, e0⟩ := (R5.out.on h9).at1 HU.out
              rw [Nat.add_zero] at e0
              go_wp2_with (go_at_call 34; refine (HA.out _ (R4.out.on h9)).mono ?_; rintro e_ w10 ⟨rfl, rfl⟩)
              go_roundw
              case rel => exact ⟨1, rfl, hlt, after hK.out h9, R4.out.on h9, R5.out.on h9⟩
              case measure => simp [intOf]; omega
            · obtain ⟨k, hk⟩ : ∃ k, i = k + 1 := ⟨i - 1, by omega⟩
              have hkl : k < zs.length := by omega
              obtain ⟨u2, hu2⟩ : ∃ u, zs[k]? = some u := ⟨_, List.getElem?_eq_getElem hkl⟩
              have hlt2 : ¬ u ≤ u2 := by
                have h1 := List.pairwise_iff_getElem.1 HPW.out k i hkl hlt (by omega)
                have h2 := HU.out
                rw [List.getElem?_eq_getElem hlt] at h2
                rw [List.getElem?_eq_getElem hkl] at hu2
                rw [Option.some.inj h2, Option.some.inj hu2] at h1
                omega
              obtain ⟨g5, o5, rfl, e0⟩ := R5.out.at1 HU.out
              obtain ⟨g6, o6, hq, e1⟩ := R5.out.at1 hu2
              obtain ⟨rfl, rfl⟩ : g5 = g6 ∧ o5 = o6 := by injection hq with h; injection h with h1 h2; exact ⟨h1, h2⟩
              have hp0 : 0 < i := by omega
              have hp1 : i ≠ 0 := by omega
              have hpos : decide ((0 : Int) < (i : Int)) = true := by rw [decide_eq_true]; omega
              have hwr : IntKind.i64.wrap ((i : Int) - 1) = (k : Int) := by rw [IntWalk.i64_in _ (by omega)]; omega
              have p0 : (0 : Int) ≤ k := by omega
              have p1 : (k : Int) < (zs.length : Int) := by omega
              have e0 := fun d os => cell_regrown e0 d os
              have e1 := fun d os => cell_regrown e1 d os
              clear hu2 hk hq
              go_upto_region 20 with (fail)
              refine wp_region_quiet_below (by kernel_rfl) (by kernel_rfl) ?_
              repeat (go_big_quiet_step (fail))
              refine wpQuiet_nil ?_
              intro w' hw'
              obtain ⟨rg, rfl⟩ := hw'
              have h9 := below_regrown wr rg.d rg.os
              generalize Go.Sort.grow (redrawn wr rg.d) rg.os = W9 at h9 ⊢
              clear e0 e1
              obtain ⟨g6, o6, hq, e3⟩ := (R5.out.on h9).at1 HU.out
              obtain ⟨rfl, rfl⟩ : g5 = g6 ∧ o5 = o6 := by injection hq with h; injection h with h1 h2; exact ⟨h1, h2⟩
              clear hwr p0 p1
              go_wp2_with (go_at_call 34; refine (HA.out _ (R4.out.on h9)).mono ?_; rintro e_ w10 ⟨rfl, rfl⟩)
              go_roundw
              case rel => exact ⟨i + 1, rfl, hlt, after hK.out h9, R4.out.on h9, R5.out.on h9⟩
              case measure => simp [intOf]; omega
          · have hlt' : ¬ (i : Int) < (zs.length : Int) := by omega
            clear hlt hi
            go_upto_region 25 with (fail)
            go_loopw [18] (fun iv w9 => ∃ (i : Nat), iv = .int .i64 (i : Nat) ∧ Hid (i ≤ ys.length) ∧ w9 = wr) (fun v _ => ys.length - (intOf v).toNat)
            case atStart => exact ⟨0, rfl, Nat.zero_le _, rfl⟩
            case round =>
              obtain ⟨i, rfl, hi, rfl⟩ := hrel
              by_cases hlt : i < ys.length
              · obtain ⟨u, hu⟩ : ∃ u, ys[i]? = some u := ⟨_, List.getElem?_eq_getElem hlt⟩
                have hlt' : (i : Int) < (ys.length : Int) := by omega
                have hA : ∀ W, Rd W q5 1 encI zs → Calls Try.prog 34 #[.slice q5 zs.length c5, .int .i64 u] W fun r w' => r = .returned (.bool true) ∧ w' = W := fun W hR => by
                  have := among_c q5 c5 zs u HSL.out W hR
                  rwa [decide_eq_true ((HMM.out u).2 (List.mem_of_getElem? hu))] at this
                have HA := Lib.hid hA
                obtain ⟨n2, n3, n5, n6⟩ := nexta hlt HYL2.out
                obtain ⟨g4, o4, rfl, e0⟩ := R4.out.at1 hu
                clear hu hA
                go_wp2_with (go_at_call 34; refine (HA.out _ R5.out).mono ?_; rintro e_ w10 ⟨rfl, rfl⟩)
                go_roundw
                case rel => exact ⟨i + 1, rfl, hlt, trivial⟩
                case measure => simp [intOf]; omega
              · have hlt' : ¬ (i : Int) < (ys.length : Int) := by omega
                go_wp2_with (go_at_call 20; refine (plives_c _).mono ?_; rintro e_ w10 ⟨rfl, h10⟩)
                go_returns
                exact ⟨rfl, after (after H40.out hK.out) h10⟩

set_option maxRecDepth 100000 in
theorem probeFinds_lifted (os : Os) (started : os.Started) (H : Type) (enc : TypeId × Value → H) :
    ReturnsInHanded {} Try.checked os 7 .any (Rows.probeFindsSpec.pre6 enc Try.prog Try.f7 Rows.probeFindsRow.domain false) (Rows.probeFindsSpec.post enc Try.prog Try.f7 false true false false) := by
  refine returnsInHanded_of_change (C := Try.checked) own started (by kernel_rfl) Try.func7
    (ChangeSpec.witness6 (enc := enc) (C := Try.checked) false ⟨#[], #[.agg #[.slice none 0 0, .int .i64 0], .agg #[.int .i64 0, .int .i64 0, .int .i64 0, .int .i64 0, .int .i64 0, .int .i64 0], .int .i64 0], []⟩ 8 (by kernel_rfl) (by kernel_rfl) (by kernel_rfl) (by kernel_rfl)) ?_
  intro W base args ds gs before hval0 hW hcnd hsz
  have hval : ∀ (j : Nat) t v, Try.f7.params[j]? = some t → args[j]? = some v → Value.okWide Try.prog W .any base t v := hval0
  have hW' := hW
  obtain ⟨p, q, hA0, hV, rfl, hfz, hnd⟩ := hW
  have hA : DataW.TrodAll enc Try.prog W 0 (fun _ => true) true Try.f7.params.toList args.toList ds p := hA0
  rw [Try.params7] at hA hval
  obtain ⟨v0, vs0, d0, ds0, p_0, q_0, hargs, rfl, rfl, h0, r_0⟩ := trodAll_cons hA
  obtain ⟨v1, vs1, d1, ds1, p_1, q_1, rfl, rfl, rfl, h1, r_1⟩ := trodAll_cons r_0
  obtain ⟨v2, vs2, d2, ds2, p_2, q_2, rfl, rfl, rfl, h2, r_2⟩ := trodAll_cons r_1
  obtain ⟨rfl, rfl, rfl⟩ := trodAll_nil r_2
  obtain rfl : args = #[v0, v1, v2] := by cases args; simp_all
  obtain ⟨rfl, rfl⟩ := trodVars_none hV
  obtain ⟨gq0, gn0, gc0, gF0, ge0, rfl, gl0, gm0, gi0, gw0, gv0⟩ := open_world Try.underlying24 Try.underlying22 (by kernel_rfl) (by kernel_rfl) Try.underlying3 (hval 0 24 v0 rfl rfl) h0
  obtain ⟨p1, q1, r1, s1, t1, u1, rfl, wp1, wq1, wr1, ws1, wt1, wu1⟩ := open_box Try.underlying28 Try.underlying26 (by kernel_rfl) (by kernel_rfl) (by kernel_rfl) Try.underlying3 (hval 1 28 v1 rfl rfl) h1
  obtain ⟨a2, rfl, rfl, rfl, w2⟩ := open_int Try.underlying3 (hval 2 3 v2 rfl rfl) h2
  refine (probeFinds_c gq0 gn0 gc0 gF0 ge0 gl0 gm0 gw0 gv0 p1 q1 r1 s1 t1 u1 wp1 wq1 wr1 ws1 wt1 wu1 a2 (in64_of_wf w2) W gi0).mono fun e W' ⟨he, hb⟩ => ?_
  subst he
  exact ⟨_, rfl, law_post laidOut (by kernel_rfl) rfl (by kernel_rfl) Try.underlying4 hW' rfl rfl rfl hb⟩

/-- The statement. -/
theorem probeFinds_proved : Rows.ProbeFindsSaid :=
  OpenClaim.holds_of_wide 7 Try.f7 rfl rfl rfl rfl rfl rfl rfl ⟨rfl, rfl, rfl, rfl, rfl⟩ rfl rfl rfl rfl rfl (by kernel_rfl) Try.func7 (by kernel_rfl)
    (of_decide_eq_true (by kernel_rfl)) (by unfold Func.isWrapper; first | (rw [if_pos (by decide +kernel)]; kernel_rfl) | (rw [if_neg (by decide +kernel)]; exact ⟨rfl, rfl⟩))
    (fun os started H enc _ => probeFinds_lifted os started H enc)
end Go.Proofs.Ytmkmaoodeebmfaa
