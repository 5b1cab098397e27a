/- ProbeFits holds: any small world, any boxes. -/
import Derived.Test.YtmkmaoodeebmfaaFits1
import Derived.Test.YtmkmaoodeebmfaaMeet3
import Derived.Test.YtmkmaoodeebmfaaMeet4
import Derived.Test.YtmkmaoodeebmfaaSmall
import Derived.Test.YtmkmaoodeebmfaaRef2c
namespace Go.Proofs.Ytmkmaoodeebmfaa
open Go.ChangeShapes Go.WideShapes Go.ChangeAt Go.RowKit Go.Shelf
attribute [local go_sem] Oper.semAt_some

theorem infB : (Try.prog.info? 28).map (fun i => (i.zero, i.size, i.bytes)) = some (some (.agg #[.int .i64 0, .int .i64 0, .int .i64 0, .int .i64 0, .int .i64 0, .int .i64 0]), 6, 48) := by kernel_rfl
def nearB (F : Nat → Nat → Int) (k : Nat) : Bx := (nearLo (unitI true) (F k 0), nearLo (unitI true) (F k 1), nearLo (unitI true) (F k 2), nearHi (unitI true) (F k 0) (F k 3), nearHi (unitI true) (F k 1) (F k 4), nearHi (unitI true) (F k 2) (F k 5))
def nearsB (F : Nat → Nat → Int) (i : Nat) : List Bx := (List.range i).map (nearB F)
theorem nearsB_succ (F : Nat → Nat → Int) (i : Nat) : nearsB F (i + 1) = nearsB F i ++ [nearB F i] := by unfold nearsB; rw [List.range_succ, List.map_append]; rfl
theorem nearsB_len (F : Nat → Nat → Int) (i : Nat) : (nearsB F i).length = i := by simp [nearsB]
def freeB (r : Bool) (x : Bx) (l : List Bx) : Bool := r && !l.any (ovB x)
theorem freeB_push (r : Bool) (x y : Bx) (l : List Bx) : freeB r x (l ++ [y]) = (freeB r x l && !ovB x y) := by
  unfold freeB; rw [List.any_append]; cases r <;> cases l.any (ovB x) <;> simp
theorem next5 {i n : Nat} (h : i < n) (h5 : i < 5) : (0 : Int) ≤ i ∧ (i : Int) < n ∧ (i : Int) < 5 ∧ -9223372036854775808 ≤ (i : Int) + 1 ∧ (i : Int) + 1 ≤ 9223372036854775807 ∧ (i + 1) * 48 ≤ 140737488355328 := by omega
set_option maxRecDepth 100000 in
set_option maxHeartbeats 8000000 in
theorem probeFits_w (q : Option Addr) (n c : Nat) (F : Nat → Int) (els : Int) (hm : c ≤ maxLen) (hF : ∀ i, i < n → In64 (F i)) (he : In64 els) (pa pb pc pd pe pf : Int) (ha : In64 pa) (hb : In64 pb) (hc : In64 pc) (hd : In64 pd) (hee : In64 pe) (hf : In64 pf)
    (ql : Option Addr) (nl cl : Nat) (L : Nat → Nat → Int) (hnl : nl ≤ maxLen) (w : World) (hq : Iq w q n F) (hL : 0 < nl → ∃ g o, ql = some ⟨g, o, none⟩ ∧ Bxs w g o nl L) (hLi : ∀ i j, i < nl → j < 6 → In64 (L i j)) :
    Calls Try.prog 6 #[.agg #[.slice q n c, .int .i64 els], .agg #[.int .i64 pa, .int .i64 pb, .int .i64 pc, .int .i64 pd, .int .i64 pe, .int .i64 pf], .slice ql nl cl] w fun e w' => e = .returned (.bool true) ∧ Below w.heap.size w w' := by
  have HGd := Lib.hid (fun W (h : Below w.heap.size w W) => rgood13_c q n c F els hm W (hq.on h) hF he)
  have HNr := Lib.hid (fun W => near_c pa pb pc pd pe pf true ha hb hc hd hee hf W)
  have da := near_bd true pa pd
  have db := near_bd true pb pe
  have dc := near_bd true pc pf
  have HLi := Lib.hid hLi
  have HL := Lib.hid hL
  have HNL := Lib.hid hnl
  clear hm hF he ha hb hc hd hee hf hq hLi hL hnl
  have A0 : Blk ((w.alloc (.cells #[.slice q n c, .int .i64 els] 24)).alloc (.cells #[.int .i64 pa, .int .i64 pb, .int .i64 pc, .int .i64 pd, .int .i64 pe, .int .i64 pf] 28)) w.heap.size 24 #[.slice q n c, .int .i64 els] := (Blk.new' rfl).alloc _
  have B0 : Blk ((w.alloc (.cells #[.slice q n c, .int .i64 els] 24)).alloc (.cells #[.int .i64 pa, .int .i64 pb, .int .i64 pc, .int .i64 pd, .int .i64 pe, .int .i64 pf] 28)) (w.heap.size + 1) 28 #[.int .i64 pa, .int .i64 pb, .int .i64 pc, .int .i64 pd, .int .i64 pe, .int .i64 pf] := Blk.new' (by simp)
  have H0 : Below w.heap.size w ((w.alloc (.cells #[.slice q n c, .int .i64 els] 24)).alloc (.cells #[.int .i64 pa, .int .i64 pb, .int .i64 pc, .int .i64 pd, .int .i64 pe, .int .i64 pf] 28)) := by go_grown
  go_enter Try.func6, Try.ntmps6
  go_upto_region 1 with (fail)
  generalize hV : World.alloc (World.alloc w _) _ = W0
  rw [hV] at A0 B0 H0
  clear hV
  have a0 := A0.cell 0
  have a1 := A0.cell 1
  go_upto_region 2 with (go_at_call 9; refine (HGd.out _ H0).mono ?_; rintro e_ w1 ⟨q2, c2, rfl, R, k1, k2, h1⟩)
  generalize hV : World.alloc w1 _ = W1
  have G : Blk W1 w1.heap.size _ _ := Blk.eqw hV (Blk.new' rfl)
  have h2 : Below w1.heap.size w1 W1 := by rw [← hV]; exact (Below.refl _ _).alloc (Nat.le_refl _) _
  have I := iq_of_rd (R.on h2)
  rw [show (goodL n F).length = min n 216 by simp [goodL]] at I
  replace B0 := (B0.on h1).on h2
  replace H0 := after (after H0 h1) h2
  clear hV h1 h2 k1 k2 R a0 a1 A0
  generalize min n 216 = m at G I ⊢
  generalize w1.heap.size = g at G ⊢
  generalize (fun i => (goodL n F).getD i 0) = F2 at I
  generalize arI els 3 - 1 = els2 at G ⊢
  obtain ⟨b0, b1, b2, b3, b4, b5⟩ := B0.c6.1
  go_upto_region 3 with (go_at_call 11; refine (HNr.out _).mono ?_; rintro e_ w3 ⟨rfl, h3⟩)
  generalize hV : World.alloc w3 _ = W3
  have X : Blk W3 w3.heap.size _ _ := Blk.eqw hV (Blk.new' rfl)
  have h2 : Below w3.heap.size w3 W3 := by rw [← hV]; exact (Below.refl _ _).alloc (Nat.le_refl _) _
  replace I := (I.on h3).on h2
  replace G := (G.on h3).on h2
  replace H0 := after (after H0 h3) h2
  clear hV h2 h3 b0 b1 b2 b3 b4 b5 B0
  generalize w3.heap.size = gx at X ⊢
  generalize nearLo (unitI true) pa = a at da X
  generalize nearLo (unitI true) pb = b at db X
  generalize nearLo (unitI true) pc = c' at dc X
  generalize nearHi (unitI true) pa pd = d at da X
  generalize nearHi (unitI true) pb pe = e at db X
  generalize nearHi (unitI true) pc pf = f at dc X
  have B1 : BoxOk a b c' d e f := ⟨by omega, by omega, by omega, by omega, by omega, by omega, by omega, by omega, by omega⟩
  have L1 : (cellsI a b c' d e f).length ≤ 1000000 := cells_len (by omega) (by omega) (by omega) (by omega) (by omega) (by omega)
  have Q1 := Lib.hid fun W h => rfBlocked_c q2 m c2 F2 els2 a b c' d e f B1 L1 W h
  have P1 := Lib.hid fun V lv xs hxl W W' hR hV' => fits_c V lv (fun x => atG m F2 els2 x.1 x.2.1 x.2.2) (a, b, c', d, e, f) B1 W W' xs hxl hR hV'
  clear L1 da db dc HGd HNr
  have HB1 := Lib.hid B1
  clear B1 P1
  generalize hr : (cellsI a b c' d e f).any (fun x => solB (atG m F2 els2 x.1 x.2.1 x.2.2)) = r1 at Q1
  have HR := Lib.hid hr
  clear hr
  have g0 := G.cell 0
  have g1 := G.cell 1
  obtain ⟨x0, x1, x2, x3, x4, x5⟩ := X.c6.1
  go_upto_region 5 with (go_at_call 13; refine (Q1.out _ I).mono ?_; rintro e_ w4 ⟨rfl, h4⟩)
  replace I := I.on h4
  replace G := G.on h4
  replace X := X.on h4
  replace H0 := after H0 h4
  clear h4 g0 g1 x0 x1 x2 x3 x4 x5
  obtain ⟨M, hM⟩ : ∃ M, M = w4.heap.size := ⟨_, rfl⟩
  have hgM : g < M := by rw [hM]; exact G.lt
  have hxM : gx < M := by rw [hM]; exact X.lt
  have hwM : w.heap.size ≤ M := by rw [hM]; exact H0.size
  have HM := Lib.hid hM
  clear hM
  have IQ := Lib.hid fun W (h : Below M w4 W) => I.on (by have h' := h; rw [HM.out] at h'; exact h')
  go_upto_region 6 with (fail)
  go_loopw [9, 10, 11] (fun sl fv iv wr => ∃ i : Nat, iv = .int .i64 (i : Nat) ∧ Hid (i ≤ nl ∧ i ≤ 5) ∧ fv = .bool (freeB (!r1) (a, b, c', d, e, f) (nearsB L i)) ∧ Hid (Owns wr M 28 6 enc6 sl (nearsB L i)) ∧ Blk wr g 24 #[.slice q2 m c2, .int .i64 els2] ∧
    Blk wr gx 28 #[.int .i64 a, .int .i64 b, .int .i64 c', .int .i64 d, .int .i64 e, .int .i64 f] ∧ Hid (Below M w4 wr) ∧ Hid (M ≤ wr.heap.size) ∧ Hid (Below w.heap.size w wr)) (fun _ _ v _ => 5 - (intOf v).toNat)
  case atStart => exact ⟨0, rfl, ⟨Nat.zero_le _, by omega⟩, by unfold freeB nearsB; simp, Owns.nil, G, X, Below.refl _ _, Nat.le_of_eq HM.out, H0⟩
  case round =>
    clear G X I H0
    obtain ⟨i, rfl, hi, rfl, V, G, X, K, hs, H0⟩ := hrel
    by_cases hlt : i < nl
    · by_cases h5 : i < 5
      · obtain ⟨n1, n2, n3, n4, n5, n6⟩ := next5 hlt h5
        obtain ⟨gl, ol, rfl, hB⟩ := HL.out (by omega)
        obtain ⟨l0, l1, l2, l3, l4, l5⟩ := (hB.on H0.out).at hlt
        have hn := Lib.hid fun W => near_c (L i 0) (L i 1) (L i 2) (L i 3) (L i 4) (L i 5) true (HLi.out i 0 hlt (by omega)) (HLi.out i 1 hlt (by omega)) (HLi.out i 2 hlt (by omega)) (HLi.out i 3 hlt (by omega)) (HLi.out i 4 hlt (by omega)) (HLi.out i 5 hlt (by omega)) W
        have N6 := Lib.hid n6
        clear n6 hB
        go_upto_region 9 with (go_at_call 11; refine (hn.out _).mono ?_; rintro e_ w5 ⟨rfl, h6⟩)
        generalize hV : World.alloc w5 _ = W5
        have O : Blk W5 w5.heap.size 28 (enc6 (nearB L i)).toArray := Blk.eqw hV (Blk.new' rfl)
        have h7 : Below w5.heap.size w5 W5 := by rw [← hV]; exact (Below.refl _ _).alloc (Nat.le_refl _) _
        have hlo : wr.heap.size ≤ w5.heap.size := h6.size
        have V5 := (V.out.on h6).on h7
        replace G := (G.on h6).on h7
        replace X := (X.on h6).on h7
        replace K := (K.out.trans (h6.mono hs.out)).trans (h7.mono (Nat.le_trans hs.out hlo))
        replace H0 := after (after H0.out h6) h7
        have hob : ∀ k, Value.ownBlock u9 = some k → k < w5.heap.size := fun k hk => Nat.lt_of_lt_of_le (V.out.block k hk).2 hlo
        have hs5 : M ≤ W5.heap.size := Nat.le_trans (Nat.le_trans hs.out hlo) h7.size
        clear hV h6 h7 l0 l1 l2 l3 l4 l5 hlo V hs
        have hsu := nearsB_succ L i
        have hlen := nearsB_len L i
        generalize nearB L i = y at O hsu
        generalize w5.heap.size = go at O hob ⊢
        have hA : Below W5.heap.size W5 (W5.alloc (.cells (enc6 y).toArray 28)) := (Below.refl _ _).alloc (Nat.le_refl _) _
        have hNew : Blk (W5.alloc (.cells (enc6 y).toArray 28)) W5.heap.size 28 (enc6 y).toArray := Blk.new' rfl
        obtain ⟨v', w', hrun, V2, hgr, hb2, -⟩ := run_push (P := Try.prog) (ts := 48) (ty := 48) (x := y) (b := W5.heap.size) Try.underlying48 infB rfl (by decide) (by decide) rfl (by simp [Value.oneCell']) (V5.on hA)
          (fun j u hu => by rw [hNew.cell j]; simpa using hu) (by rw [hlen]; exact N6.out) (Nat.le_trans hs5 hA.size)
        rw [← hsu] at V2
        have O2 : Blk w' go 28 (enc6 y).toArray := ((Kept.refl (fun b => Value.ownBlock u9 ≠ some b) _).grown hgr (fun k hk h => h hk)).blk (fun h => absurd (hob _ h) (Nat.lt_irrefl _)) (O.on hA)
        replace G := (G.on hA).below hb2 hgM
        replace X := (X.on hA).below hb2 hxM
        replace K := (K.trans (hA.mono hs5)).trans hb2
        replace H0 := (after H0 hA).trans (hb2.mono hwM)
        have hs6 := Nat.le_trans (Nat.le_trans hs5 hA.size) hb2.size
        obtain ⟨o0, o1, o2, o3, o4, o5⟩ := O.c6.1
        have HV := Lib.hid V2
        clear hA hNew V2 hgr hb2 V5 hs5 hob O hlen
        go_upto_region 10 with (at_builtin; refine Lib.wpList_append_run _ rfl _ _ _ _ rfl _ _ rfl rfl _ _ hrun ?_)
        clear o0 o1 o2 o3 o4 o5
        obtain ⟨o0, o1, o2, o3, o4, o5⟩ := O2.c6.1
        obtain ⟨x0, x1, x2, x3, x4, x5⟩ := X.c6.1
        have hov := Lib.hid fun W => rover_c a b c' d e f y.1 y.2.1 y.2.2.1 y.2.2.2.1 y.2.2.2.2.1 y.2.2.2.2.2 W
        have hpush := freeB_push (!r1) (a, b, c', d, e, f) y (nearsB L i)
        rw [← hsu] at hpush
        generalize freeB (!r1) (a, b, c', d, e, f) (nearsB L i) = fr at hpush ⊢
        cases fr
        · have HP := Lib.hid hpush
          clear hpush hsu
          go_wp2_with fail
          go_roundw
          case rel => exact ⟨i + 1, rfl, ⟨hlt, h5⟩, by rw [HP.out]; rfl, HV.out, G, X, K, hs6, H0⟩
          case measure => simp [intOf]; omega
        · have HP := Lib.hid hpush
          clear hpush hsu
          go_wp2_with (go_at_call 27; refine (hov.out _).mono ?_; rintro e_ w8 ⟨rfl, h8⟩)
          go_roundw
          case rel => exact ⟨i + 1, rfl, ⟨hlt, h5⟩, by rw [HP.out]; rfl, HV.out.on h8, G.on h8, X.on h8, K.trans (h8.mono hs6), Nat.le_trans hs6 h8.size, after H0 h8⟩
          case measure => simp [intOf]; omega
      · have hc5 : ¬ (i : Int) < 5 := by omega
        have hlt' : (i : Int) < (nl : Int) := by omega
        have I := IQ.out wr K.out
        obtain ⟨q9, c9, rfl, k1, k2, R9, -, -⟩ := V.out.form len6
        have hle : (nearsB L i).length ≤ maxLen := Nat.le_trans k1 k2
        have hfr : freeB (!r1) (a, b, c', d, e, f) (nearsB L i) = (!((cellsI a b c' d e f).any fun x => solB (atG m F2 els2 x.1 x.2.1 x.2.2)) && !((nearsB L i).any (ovB (a, b, c', d, e, f)))) := by rw [HR.out]; rfl
        have hft := Lib.hid fun b9 W (hR : Rd W q9 6 enc6 (nearsB L i)) hT => fits_c 40 #[.pointer (some ⟨b9, 0, none⟩)] (fun x => atG m F2 els2 x.1 x.2.1 x.2.2) (a, b, c', d, e, f) HB1.out q9 c9 (nearsB L i) hle W hR view_en hT
        have hI9 := Lib.hid fun W (h : Below wr.heap.size wr W) => I.on h
        have R9' := Lib.hid fun W (h : Below wr.heap.size wr W) => R9.on h
        clear k1 k2 hle R9 I
        go_upto_region 11 with (fail)
        rw [← hfr] at hft
        generalize freeB (!r1) (a, b, c', d, e, f) (nearsB L i) = fr at hft ⊢
        have g0 := fun x y => (G.re x y).cell 0
        have g1 := fun x y => (G.re x y).cell 1
        obtain ⟨x0, x1, x2, x3, x4, x5⟩ := X.re6
        refine wp_sched [0, 2, 0, 0, 3, 1, 3, 3, 3, 3, 3] (fun _ v w => ∃ b9, v = .func (.func 40) #[] #[.pointer (some ⟨b9, 0, none⟩)] ∧ Tells Try.prog 40 #[.pointer (some ⟨b9, 0, none⟩)] (fun x => atG m F2 els2 x.1 x.2.1 x.2.2) w) (by kernel_rfl) (by kernel_rfl) (fun _ _ _ _ ⟨b, h1, h2⟩ h => ⟨b, h1, h2.on h⟩) ?_
        repeat (first | (refine wpQs_s ?_) | (refine wpQs_q (fun K hK => ?_); go_simp; first | (refine hK _ ?_; clear hK K) | (apply Exists.intro; refine ⟨fun _ => ?_, hK _ ?_⟩; (fail); clear hK K)) | (refine wpQs_f (fun K hK => ?_); go_simp; refine hK _ ?_; clear hK K))
        refine wpQs_nil ?_
        repeat (first | (refine wpLs_skip ?_) | (refine wpLs_one ?lsA (fun v_ => ?_); case lsA => (intro w_ hw_ hp_; (go_simp; refine (view_c _ _ _).mono ?_; rintro e_ w9 ⟨rfl, rfl⟩; exact ⟨_, rfl, Kept.of_below ((Below.refl _ _).alloc (Nat.le_refl _) _), _, rfl, view_tells (Blk.new' rfl) ((hI9.out _ (msd_kept hw_).none).on ((Below.refl _ _).alloc (Nat.le_refl _) _))⟩))))
        refine wpLs_nilB ?_
        simp only [tails]
        rintro W1 h1 ⟨-, b9, rfl, hT⟩
        go_wp2_with first
          | (go_at_call 28; refine (hft.out b9 _ (R9'.out _ h1) hT).mono ?_; rintro e_ w9 ⟨rfl, h9⟩)
          | (go_at_call 20; refine (plives_c _).mono ?_; rintro e_ w10 ⟨rfl, h10⟩)
        go_returns
        exact ⟨rfl, after (after (after H0.out h1) h9) h10⟩
    · have hlt' : ¬ (i : Int) < (nl : Int) := by omega
      have I := IQ.out wr K.out
      obtain ⟨q9, c9, rfl, k1, k2, R9, -, -⟩ := V.out.form len6
      have hle : (nearsB L i).length ≤ maxLen := Nat.le_trans k1 k2
      have hfr : freeB (!r1) (a, b, c', d, e, f) (nearsB L i) = (!((cellsI a b c' d e f).any fun x => solB (atG m F2 els2 x.1 x.2.1 x.2.2)) && !((nearsB L i).any (ovB (a, b, c', d, e, f)))) := by rw [HR.out]; rfl
      have hft := Lib.hid fun b9 W (hR : Rd W q9 6 enc6 (nearsB L i)) hT => fits_c 40 #[.pointer (some ⟨b9, 0, none⟩)] (fun x => atG m F2 els2 x.1 x.2.1 x.2.2) (a, b, c', d, e, f) HB1.out q9 c9 (nearsB L i) hle W hR view_en hT
      have hI9 := Lib.hid fun W (h : Below wr.heap.size wr W) => I.on h
      have R9' := Lib.hid fun W (h : Below wr.heap.size wr W) => R9.on h
      clear k1 k2 hle R9 I
      go_upto_region 11 with (fail)
      rw [← hfr] at hft
      generalize freeB (!r1) (a, b, c', d, e, f) (nearsB L i) = fr at hft ⊢
      have g0 := fun x y => (G.re x y).cell 0
      have g1 := fun x y => (G.re x y).cell 1
      obtain ⟨x0, x1, x2, x3, x4, x5⟩ := X.re6
      refine wp_sched [0, 2, 0, 0, 3, 1, 3, 3, 3, 3, 3] (fun _ v w => ∃ b9, v = .func (.func 40) #[] #[.pointer (some ⟨b9, 0, none⟩)] ∧ Tells Try.prog 40 #[.pointer (some ⟨b9, 0, none⟩)] (fun x => atG m F2 els2 x.1 x.2.1 x.2.2) w) (by kernel_rfl) (by kernel_rfl) (fun _ _ _ _ ⟨b, h1, h2⟩ h => ⟨b, h1, h2.on h⟩) ?_
      repeat (first | (refine wpQs_s ?_) | (refine wpQs_q (fun K hK => ?_); go_simp; first | (refine hK _ ?_; clear hK K) | (apply Exists.intro; refine ⟨fun _ => ?_, hK _ ?_⟩; (fail); clear hK K)) | (refine wpQs_f (fun K hK => ?_); go_simp; refine hK _ ?_; clear hK K))
      refine wpQs_nil ?_
      repeat (first | (refine wpLs_skip ?_) | (refine wpLs_one ?lsA (fun v_ => ?_); case lsA => (intro w_ hw_ hp_; (go_simp; refine (view_c _ _ _).mono ?_; rintro e_ w9 ⟨rfl, rfl⟩; exact ⟨_, rfl, Kept.of_below ((Below.refl _ _).alloc (Nat.le_refl _) _), _, rfl, view_tells (Blk.new' rfl) ((hI9.out _ (msd_kept hw_).none).on ((Below.refl _ _).alloc (Nat.le_refl _) _))⟩))))
      refine wpLs_nilB ?_
      simp only [tails]
      rintro W1 h1 ⟨-, b9, rfl, hT⟩
      go_wp2_with first
        | (go_at_call 28; refine (hft.out b9 _ (R9'.out _ h1) hT).mono ?_; rintro e_ w9 ⟨rfl, h9⟩)
        | (go_at_call 20; refine (plives_c _).mono ?_; rintro e_ w10 ⟨rfl, h10⟩)
      go_returns
      exact ⟨rfl, after (after (after H0.out h1) h9) h10⟩

theorem probeFits_c (q : Option Addr) (n c : Nat) (F : Nat → Int) (els : Int) (_ : n ≤ c) (hm : c ≤ maxLen) (hF : ∀ i, i < n → In64 (F i)) (he : In64 els) (pa pb pc pd pe pf : Int) (ha : In64 pa) (hb : In64 pb) (hc : In64 pc) (hd : In64 pd) (hee : In64 pe) (hf : In64 pf) (v : Value) (w : World) (hq : Iq w q n F)
    (hv : (∃ q cap, v = .slice q 0 cap) ∨ ∃ g o n cap F, v = .slice (some ⟨g, o, none⟩) n cap ∧ 0 < n ∧ n ≤ cap ∧ cap ≤ maxLen ∧ Bxs w g o n F ∧ ∀ i j, i < n → j < 6 → In64 (F i j)) :
    Calls Try.prog 6 #[.agg #[.slice q n c, .int .i64 els], .agg #[.int .i64 pa, .int .i64 pb, .int .i64 pc, .int .i64 pd, .int .i64 pe, .int .i64 pf], v] w fun e w' => e = .returned (.bool true) ∧ Below w.heap.size w w' := by
  rcases hv with ⟨ql, cl, rfl⟩ | ⟨gl, ol, nl, cl, L, rfl, h1, h2, h3, h4, h5⟩
  · exact probeFits_w q n c F els hm hF he pa pb pc pd pe pf ha hb hc hd hee hf ql 0 cl (fun _ _ => 0) (Nat.zero_le _) w hq (fun h => absurd h (by decide)) (fun i j h => absurd h (by omega))
  · exact probeFits_w q n c F els hm hF he pa pb pc pd pe pf ha hb hc hd hee hf _ nl cl L (Nat.le_trans h2 h3) w hq (fun _ => ⟨gl, ol, rfl, h4⟩) h5

set_option maxRecDepth 100000 in
theorem probeFits_lifted (os : Os) (started : os.Started) (H : Type) (enc : TypeId × Value → H) :
    ReturnsInHanded {} Try.checked os 6 .any (Rows.probeFitsSpec.pre6 enc Try.prog Try.f6 Rows.probeFitsRow.domain false) (Rows.probeFitsSpec.post enc Try.prog Try.f6 false true false false) := by
  refine returnsInHanded_of_change (C := Try.checked) own started (by kernel_rfl) Try.func6
    (ChangeSpec.witness6 (enc := enc) (C := Try.checked) false ⟨#[], #[.agg #[.slice none 0 0, .int .i64 0], .agg #[.int .i64 0, .int .i64 0, .int .i64 0, .int .i64 0, .int .i64 0, .int .i64 0], .slice none 0 0], []⟩ 8 (by kernel_rfl) (by kernel_rfl) (by kernel_rfl) (by kernel_rfl)) ?_
  intro W base args ds gs before hval0 hW hcnd hsz
  have hval : ∀ (j : Nat) t v, Try.f6.params[j]? = some t → args[j]? = some v → Value.okWide Try.prog W .any base t v := hval0
  have hW' := hW
  obtain ⟨p, q, hA0, hV, rfl, hfz, hnd⟩ := hW
  have hA : DataW.TrodAll enc Try.prog W 0 (fun _ => true) true Try.f6.params.toList args.toList ds p := hA0
  rw [Try.params6] at hA hval
  obtain ⟨v0, vs0, d0, ds0, p_0, q_0, hargs, rfl, rfl, h0, r_0⟩ := trodAll_cons hA
  obtain ⟨v1, vs1, d1, ds1, p_1, q_1, rfl, rfl, rfl, h1, r_1⟩ := trodAll_cons r_0
  obtain ⟨v2, vs2, d2, ds2, p_2, q_2, rfl, rfl, rfl, h2, r_2⟩ := trodAll_cons r_1
  obtain ⟨rfl, rfl, rfl⟩ := trodAll_nil r_2
  obtain rfl : args = #[v0, v1, v2] := by cases args; simp_all
  obtain ⟨rfl, rfl⟩ := trodVars_none hV
  obtain ⟨gq0, gn0, gc0, gF0, ge0, rfl, gl0, gm0, gi0, gw0, gv0⟩ := open_world Try.underlying24 Try.underlying22 (by kernel_rfl) (by kernel_rfl) Try.underlying3 (hval 0 24 v0 rfl rfl) h0
  obtain ⟨p1, q1, r1, s1, t1, u1, rfl, wp1, wq1, wr1, ws1, wt1, wu1⟩ := open_box Try.underlying28 Try.underlying26 (by kernel_rfl) (by kernel_rfl) (by kernel_rfl) Try.underlying3 (hval 1 28 v1 rfl rfl) h1
  have b2 := open_boxes Try.underlying48 Try.underlying28 Try.underlying26 (by kernel_rfl) (by kernel_rfl) (by kernel_rfl) Try.underlying3 (hval 2 48 v2 rfl rfl) h2
  refine (probeFits_c gq0 gn0 gc0 gF0 ge0 gl0 gm0 gw0 gv0 p1 q1 r1 s1 t1 u1 wp1 wq1 wr1 ws1 wt1 wu1 v2 W gi0 b2).mono fun e W' ⟨he, hb⟩ => ?_
  subst he
  exact ⟨_, rfl, law_post laidOut (by kernel_rfl) rfl (by kernel_rfl) Try.underlying4 hW' rfl rfl rfl hb⟩

/-- The statement. -/
theorem probeFits_proved : Rows.ProbeFitsSaid :=
  OpenClaim.holds_of_wide 6 Try.f6 rfl rfl rfl rfl rfl rfl rfl ⟨rfl, rfl, rfl, rfl, rfl⟩ rfl rfl rfl rfl rfl (by kernel_rfl) Try.func6 (by kernel_rfl)
    (of_decide_eq_true (by kernel_rfl)) (by unfold Func.isWrapper; first | (rw [if_pos (by decide +kernel)]; kernel_rfl) | (rw [if_neg (by decide +kernel)]; exact ⟨rfl, rfl⟩))
    (fun os started H enc _ => probeFits_lifted os started H enc)
end Go.Proofs.Ytmkmaoodeebmfaa
