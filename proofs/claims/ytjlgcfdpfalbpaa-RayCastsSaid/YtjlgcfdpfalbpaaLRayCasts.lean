/- RayCasts holds: the first cell that stops a ray is the document's, in any small world: any place near it (made one), any way, any reach. -/
import Derived.Test.YtjlgcfdpfalbpaaRayLv
import Derived.Test.YtjlgcfdpfalbpaaRayR4
import Derived.Test.YtjlgcfdpfalbpaaRayNr
import Derived.Test.YtjlgcfdpfalbpaaGood13
import Derived.Test.YtjlgcfdpfalbpaaMany
import Derived.Test.YtjlgcfdpfalbpaaSmall
namespace Go.Proofs.Ytjlgcfdpfalbpaa
open Go.ChangeShapes Go.WideShapes Go.ChangeAt Go.RowKit
attribute [local go_sem] Oper.semAt_some

set_option maxRecDepth 100000 in
set_option maxHeartbeats 16000000 in
theorem rcast_c (q : Option Addr) (n cp : Nat) (F : Nat → Int) (els : Int) (x y z a b c R : Int) (h46 : In46 x y z) (w : World) (hq : Iq w q n F) :
    Calls Try.prog 13 #[.agg #[.slice q n cp, .int .i64 els], .agg #[.int .i64 x, .int .i64 y, .int .i64 z], .agg #[.int .i64 a, .int .i64 b, .int .i64 c], .int .i64 R] w fun r w' =>
      r = .returned (castV (fun x => atG n F els x.1 x.2.1 x.2.2) ((seeL x y z a b c R).find? fun h => !yldB (atG n F els h.1.1 h.1.2.1 h.1.2.2))) ∧ Below w.heap.size w w' := by
  obtain ⟨W, hW⟩ : ∃ W, W = (((w.alloc (.cells #[.slice q n cp, .int .i64 els] 24)).alloc (.cells #[.int .i64 x, .int .i64 y, .int .i64 z] 26)).alloc (.cells #[.int .i64 a, .int .i64 b, .int .i64 c] 26)).alloc (.cells #[.int .i64 0, .int .i64 0, .int .i64 0, .int .i64 0, .int .i64 0, .int .i64 0] 37) := ⟨_, rfl⟩
  have H : Below w.heap.size w W := by rw [hW]; go_grown
  obtain ⟨N, hN⟩ : ∃ N, N = w.heap.size := ⟨_, rfl⟩
  have G : Blk W N 24 #[.slice q n cp, .int .i64 els] := Blk.eqw hW.symm (by rw [hN]; exact (((Blk.new' rfl).alloc _).alloc _).alloc _)
  have X : Blk W (N + 1) 26 #[.int .i64 x, .int .i64 y, .int .i64 z] := Blk.eqw hW.symm (by rw [hN]; exact ((Blk.new' (by simp)).alloc _).alloc _)
  have Y : Blk W (N + 1 + 1) 26 #[.int .i64 a, .int .i64 b, .int .i64 c] := Blk.eqw hW.symm (by rw [hN]; exact (Blk.new' (by simp)).alloc _)
  have E : Blk W (N + 1 + 1 + 1) 37 #[.int .i64 0, .int .i64 0, .int .i64 0, .int .i64 0, .int .i64 0, .int .i64 0] := Blk.eqw hW.symm (by rw [hN]; exact Blk.new' (by simp))
  have hqW := hq.on H
  have HTR := Lib.hid fun w => rtr_c x y z a b c R h46 w
  have hlen := see_len x y z a b c R
  clear hq h46
  obtain ⟨x0, x1, x2, -, -, -⟩ := X.c3
  obtain ⟨y0, y1, y2, -, -, -⟩ := Y.c3
  go_enter Try.func13, Try.ntmps13
  go_upto_region 1 with (fail)
  rw [← hW, ← hN]
  have HN := Lib.hid hN
  clear hW hN
  go_upto_region 2 with (go_at_call 21; refine (HTR.out _).mono ?_; rintro e_ w1 ⟨u, rfl, ho, k1⟩)
  replace G := G.on k1
  replace E := E.on k1
  have HQ := Lib.hid (hqW.on k1)
  have HK := Lib.hid (after H k1)
  obtain ⟨ql, cl, rfl, hcl, -, hrd, -, -⟩ := ho.form lenH
  have HRD := Lib.hid hrd
  clear x0 x1 x2 y0 y1 y2 k1 H X Y HTR ho hrd hcl hqW
  obtain ⟨L, hL⟩ : ∃ L, L = seeL x y z a b c R := ⟨_, rfl⟩
  rw [← hL] at HRD hlen ⊢
  have HLE := Lib.hid hL
  have HLN := Lib.hid hlen
  clear hL hlen
  go_upto_region 3 with (fail)
  go_loopw [11] (fun v wr => ∃ i : Nat, i ≤ L.length ∧ v = .int .i64 i ∧ Hid (∀ j h, j < i → L[j]? = some h → (!yldB (atG n F els h.1.1 h.1.2.1 h.1.2.2)) = false) ∧ Hid (Rd wr ql 6 encH6 L) ∧ Hid (Iq wr q n F) ∧ Blk wr N 24 #[.slice q n cp, .int .i64 els] ∧ Blk wr (N + 1 + 1 + 1) 37 #[.int .i64 0, .int .i64 0, .int .i64 0, .int .i64 0, .int .i64 0, .int .i64 0] ∧ Hid (Below w.heap.size w wr)) (fun v _ => L.length - (intOf v).toNat)
  case atStart => exact ⟨0, Nat.zero_le _, rfl, Lib.hid (fun j h hj => by omega), HRD, HQ, G, E, HK⟩
  case round =>
    clear G E HRD HQ HK
    obtain ⟨i, hi, rfl, hno, HRD, HQ, G, E, HK⟩ := hrel
    by_cases hil : i < L.length
    · obtain ⟨h, hx⟩ : ∃ h, L[i]? = some h := ⟨_, List.getElem?_eq_getElem hil⟩
      obtain ⟨go, oo, hqo, hro⟩ := HRD.out (by omega)
      subst hqo
      have c0 := fun d os => cell_regrown (show wr.cell? ⟨go, oo + i * 6, none⟩ = some (.int .i64 h.1.1) from hro i h hx 0 _ rfl) d os
      have c1 := fun d os => cell_regrown (show wr.cell? ⟨go, oo + i * 6 + 1, none⟩ = some (.int .i64 h.1.2.1) from hro i h hx 1 _ rfl) d os
      have c2 := fun d os => cell_regrown (show wr.cell? ⟨go, oo + i * 6 + 2, none⟩ = some (.int .i64 h.1.2.2) from hro i h hx 2 _ rfl) d os
      have g0 := fun d os => (G.re d os).cell 0
      have g1 := fun d os => (G.re d os).cell 1
      have hi0 : (0 : Int) ≤ i := by omega
      have hil2 : (i : Int) < L.length := by omega
      have hi9 : (i : Int) + 1 ≤ 9223372036854775807 := by have := HLN.out; omega
      have hi8 : -9223372036854775808 ≤ (i : Int) + 1 := by omega
      have HX := Lib.hid hx
      have HAT := Lib.hid fun d os => at_c q n cp F els h.1.1 h.1.2.1 h.1.2.2 (Go.Sort.grow (redrawn wr d) os) (HQ.out.on (below_regrown wr d os))
      clear hro hx
      go_wp2_with fail
      refine wp_sched [0, 0, 0, 0, 0, 0, 0, 3] (fun _ _ _ => True) (by kernel_rfl) (by kernel_rfl) (fun _ _ _ _ h _ => h) ?_
      repeat (first | (refine wpQs_s ?_) | (refine wpQs_q (fun K hK => ?_); go_simp; first | (refine hK _ ?_; clear hK K) | (apply Exists.intro; refine ⟨fun _ => ?_, hK _ ?_⟩; (exact HAT.out _ _); clear hK K)) | (refine wpQs_f (fun K hK => ?_); go_simp; refine hK _ ?_; clear hK K))
      refine wpQs_nil ?_
      repeat (first | (refine wpLs_skip ?_) | (refine wpLs_one ?lsA (fun v_ => ?_); case lsA => (intro w_ hw_ hp_; (fail))))
      refine wpLs_nilB ?_
      simp only [tails]
      intro w4 k4 _
      replace G := G.on k4
      replace E := E.on k4
      replace HRD := Lib.hid (HRD.out.on k4)
      replace HQ := Lib.hid (HQ.out.on k4)
      replace HK := Lib.hid (after HK.out k4)
      clear k4 c0 c1 c2 g0 g1 HAT
      obtain ⟨b, hb⟩ : ∃ b, b = atG n F els h.1.1 h.1.2.1 h.1.2.2 := ⟨_, rfl⟩
      rw [← hb]
      have HB := Lib.hid hb
      clear hb
      cases hy : yldB b
      · have hyc := Lib.hid fun w => (show Calls Try.prog 16 #[.int .i64 b] w fun r w' => r = .returned (.bool false) ∧ w = w' from by rw [← hy]; exact ryields_c _ w)
        have HY := Lib.hid hy
        have ro := HRD.out
        have c0 : w4.cell? ⟨go, oo + i * 6, none⟩ = some (.int .i64 h.1.1) := ro.at HX.out (j := 0) rfl
        have c1 : w4.cell? ⟨go, oo + i * 6 + 1, none⟩ = some (.int .i64 h.1.2.1) := ro.at HX.out (j := 1) rfl
        have c2 : w4.cell? ⟨go, oo + i * 6 + 2, none⟩ = some (.int .i64 h.1.2.2) := ro.at HX.out (j := 2) rfl
        have c3 : w4.cell? ⟨go, oo + i * 6 + 3, none⟩ = some (.int .i64 0) := ro.at HX.out (j := 3) rfl
        have c4 : w4.cell? ⟨go, oo + i * 6 + 4, none⟩ = some (.int .i64 h.2.1) := ro.at HX.out (j := 4) rfl
        have c5 : w4.cell? ⟨go, oo + i * 6 + 5, none⟩ = some (.int .i64 h.2.2) := ro.at HX.out (j := 5) rfl
        clear hy ro
        go_upto_region 9 with (go_at_call 16; refine (hyc.out _).mono ?_; rintro e_ w5 ⟨rfl, rfl⟩)
        generalize hV : World.alloc w4 _ = w5
        have D : Blk w5 w4.heap.size 37 #[.int .i64 h.1.1, .int .i64 h.1.2.1, .int .i64 h.1.2.2, .int .i64 0, .int .i64 h.2.1, .int .i64 h.2.2] := Blk.eqw hV (Blk.new' rfl)
        have k5 : Below w4.heap.size w4 w5 := by rw [← hV]; exact (Below.refl _ _).alloc (Nat.le_refl _) _
        have hgd : N + 1 + 1 + 1 < w4.heap.size := E.lt
        have hwd := HK.out.size
        replace E := E.on k5
        replace HK := Lib.hid (after HK.out k5)
        generalize w4.heap.size = gd at D hgd hwd ⊢
        clear hV k5 c0 c1 c2 c3 c4 c5 hyc HRD G HQ
        obtain ⟨⟨d0, d1, d2, d3, d4, d5⟩, s0, s1, s2, s3, s4, s5⟩ := D.c6
        go_upto_region 10 with (fail)
        generalize hV : World.setCell w5 _ _ = w6
        replace D : Blk w6 gd 37 #[.int .i64 h.1.1, .int .i64 h.1.2.1, .int .i64 h.1.2.2, .int .i64 b, .int .i64 h.2.1, .int .i64 h.2.2] := Blk.eqw hV (D.set_ 3 _)
        replace E := Blk.eqw hV (E.far (p := ⟨gd, 3, none⟩) (show N + 1 + 1 + 1 ≠ gd by omega) _)
        replace HK := Lib.hid (show Below w.heap.size w w6 by rw [← hV]; exact HK.out.setCell (p := ⟨gd, 3, none⟩) hwd _)
        clear hV d0 d1 d2 d3 d4 d5 s0 s1 s2 s3 s4 s5
        obtain ⟨⟨d0, d1, d2, d3, d4, d5⟩, -, -, -, -, -, -⟩ := D.c6
        obtain ⟨⟨e0, e1, e2, e3, e4, e5⟩, s0, s1, s2, s3, s4, s5⟩ := E.c6
        have hne : gd ≠ N + 1 + 1 + 1 := by omega
        go_wp2_with fail
        have E2 := E.st6 (.int .i64 h.1.1) (.int .i64 h.1.2.1) (.int .i64 h.1.2.2) (.int .i64 b) (.int .i64 h.2.1) (.int .i64 h.2.2)
        obtain ⟨⟨m0, m1, m2, m3, m4, m5⟩, -, -, -, -, -, -⟩ := E2.c6
        have hf := find_at HX.out (by rw [← HB.out, HY.out]; rfl) hno.out
        have hcv : castV (fun x => atG n F els x.1 x.2.1 x.2.2) (some h) = .tuple #[.agg #[.int .i64 h.1.1, .int .i64 h.1.2.1, .int .i64 h.1.2.2, .int .i64 b, .int .i64 h.2.1, .int .i64 h.2.2], .bool true] := by rw [HB.out]; rfl
        refine bodyPost_ret (v := .tuple #[.agg #[.int .i64 h.1.1, .int .i64 h.1.2.1, .int .i64 h.1.2.2, .int .i64 b, .int .i64 h.2.1, .int .i64 h.2.2], .bool true]) (by simp [results, Try.results13, go_sem, m0, m1, m2, m3, m4, m5]) rfl ⟨by rw [← HLE.out, hf, hcv], ?_⟩
        exact HK.out.trans (kept6.below HK.out.size (fun b hb => by have := HN.out; omega))
      · have hyc := Lib.hid fun w => (show Calls Try.prog 16 #[.int .i64 b] w fun r w' => r = .returned (.bool true) ∧ w = w' from by rw [← hy]; exact ryields_c _ w)
        have HY := Lib.hid hy
        clear hy
        go_wp2_with (go_at_call 16; refine (hyc.out _).mono ?_; rintro e_ w5 ⟨rfl, rfl⟩)
        go_roundw
        case rel => exact ⟨i + 1, by omega, by go_num, Lib.hid (fun j k hj hk => by
          rcases Nat.lt_or_eq_of_le (Nat.le_of_lt_succ hj) with e | e
          · exact hno.out j k e hk
          · rw [e, HX.out] at hk; obtain rfl := Option.some.inj hk; rw [← HB.out, HY.out]; rfl), HRD, HQ, G, E, HK⟩
        case measure => simp [intOf]; omega
    · have HE := Lib.hid (show L.find? (fun h => !yldB (atG n F els h.1.1 h.1.2.1 h.1.2.2)) = none from find_no (fun j h hj hx => hno.out j h (by omega) hx))
      have hil2 : ¬ (i : Int) < L.length := by omega
      obtain ⟨⟨e0, e1, e2, e3, e4, e5⟩, s0, s1, s2, s3, s4, s5⟩ := E.c6
      go_wp2_with fail
      have E2 := E.st6 (.int .i64 0) (.int .i64 0) (.int .i64 0) (.int .i64 0) (.int .i64 0) (.int .i64 0)
      obtain ⟨⟨m0, m1, m2, m3, m4, m5⟩, -, -, -, -, -, -⟩ := E2.c6
      refine bodyPost_ret (v := castV (fun x => atG n F els x.1 x.2.1 x.2.2) none) (by simp [results, Try.results13, go_sem, castV, m0, m1, m2, m3, m4, m5]) rfl ⟨by rw [← HLE.out, HE.out], ?_⟩
      exact HK.out.trans (kept6.below HK.out.size (fun b hb => by have := HN.out; omega))

theorem nearC_id {c : I3} {f : Int} (h : ∀ b, b < 3 → -2147483000 ≤ comp c b ∧ comp c b ≤ 2147483000) : nearC c.1 c.2.1 c.2.2 f = nearI c f := by
  have e : ∀ n : Int, -2147483648 ≤ n → n ≤ 2147483648 → ccI n = n := fun n h1 h2 => ccI_id h1 h2
  have h0 := h 0 (by omega)
  have h1 := h 1 (by omega)
  have h2 := h 2 (by omega)
  simp [comp] at h0 h1 h2
  have a0 := e c.1 (by omega) (by omega)
  have b0 := e c.2.1 (by omega) (by omega)
  have c0 := e c.2.2 (by omega) (by omega)
  have a1 := e (c.1 + -1) (by omega) (by omega)
  have b1 := e (c.2.1 + -1) (by omega) (by omega)
  have c1 := e (c.2.2 + -1) (by omega) (by omega)
  have a2 := e (c.1 + 1) (by omega) (by omega)
  have b2 := e (c.2.1 + 1) (by omega) (by omega)
  have c2 := e (c.2.2 + 1) (by omega) (by omega)
  unfold nearC nearI
  rw [a0, b0, c0, a0, b0, c0, a1, b1, c1, a2, b2, c2]
  rfl
/-- Of the first that stops: it is the first of all, or the one ahead does not stop. -/
theorem cast_facts {x y z a b c R : Int} (h46 : In46 x y z) {val : I3 → Int} {h : RH} (hf : (seeL x y z a b c R).find? (fun h => !yldB (val h.1)) = some h) :
    (h.2.1 < 0 ∧ h.2.2 = 0) ∨ ((0 ≤ h.2.1 ∧ h.2.1 < 6) ∧ yldB (val (nearC h.1.1 h.1.2.1 h.1.2.2 h.2.1)) = true) := by
  have hp := rp_ok (x := x) (y := y) (z := z) (qI_bd a) (qI_bd b) (qI_bd c)
  have hc := rp_cell (a := qI a) (b := qI b) (c := qI c) h46.1 h46.2.1 h46.2.2
  obtain ⟨_, i, hi, e, hno⟩ := List.find?_eq_some_iff_getElem.1 hf
  cases i with
  | zero =>
    left
    obtain ⟨r, hr⟩ := trL_first (p := rpOf x y z (qI a) (qI b) (qI c)) (R := rchI R) (f := 199) (k := (0, 0, 0)) (face := -1) (time := 0) (inR_of fun b hb => by
      have : kc (0, 0, 0) b = 0 := by rcases lt3 hb with rfl | rfl | rfl <;> rfl
      rw [this]; exact (rchI_bd R).1)
    have e2 : (seeL x y z a b c R)[0]? = some (cellK (rpOf x y z (qI a) (qI b) (qI c)) (0, 0, 0), -1, 0) := by
      show (trL (rpOf x y z (qI a) (qI b) (qI c)) (rchI R) (199 + 1) (0, 0, 0) (-1) 0)[0]? = _
      rw [hr]; rfl
    rw [List.getElem?_eq_getElem hi, e] at e2
    rw [Option.some.inj e2]
    exact ⟨by show (-1 : Int) < 0; decide, rfl⟩
  | succ i =>
    right
    have hi2 : i < (trL (rpOf x y z (qI a) (qI b) (qI c)) (rchI R) 200 (0, 0, 0) (-1) 0).length := Nat.lt_of_succ_lt hi
    have hy := trL_comes hp 200 (0, 0, 0) (-1) 0 i _ h (List.getElem?_eq_getElem hi2) ((List.getElem?_eq_getElem hi).trans (congrArg some e))
    obtain ⟨k', _, hk, ek⟩ := trL_mem 200 (0, 0, 0) (-1) 0 h (by rw [← e]; exact List.getElem_mem hi)
    have hb := (near_ok (k := k') hp hc (fun b hb => by have := inR_kc hk b hb; have := (rchI_bd R).2; omega)).2.2
    rw [← ek] at hb
    refine ⟨⟨hy.1, hy.2.1⟩, ?_⟩
    rw [nearC_id hb, ← hy.2.2]
    have := hno i (by omega)
    simpa using this
/-- What a cast tells, taken apart. -/
theorem castV_form (val : I3 → Int) (o : Option RH) (h : ∀ r, o = some r → (r.2.1 < 0 ∧ r.2.2 = 0) ∨ ((0 ≤ r.2.1 ∧ r.2.1 < 6) ∧ yldB (val (nearC r.1.1 r.1.2.1 r.1.2.2 r.2.1)) = true)) :
    ∃ (c0 c1 c2 b f t : Int) (ok : Bool), castV val o = .tuple #[.agg #[.int .i64 c0, .int .i64 c1, .int .i64 c2, .int .i64 b, .int .i64 f, .int .i64 t], .bool ok] ∧
      ((ok = false ∧ c0 = 0 ∧ c1 = 0 ∧ c2 = 0 ∧ b = 0 ∧ f = 0 ∧ t = 0) ∨ (ok = true ∧ f < 0 ∧ t = 0) ∨ (ok = true ∧ (0 ≤ f ∧ f < 6) ∧ yldB (val (nearC c0 c1 c2 f)) = true)) := by
  cases o with
  | none => exact ⟨0, 0, 0, 0, 0, 0, false, rfl, .inl ⟨rfl, rfl, rfl, rfl, rfl, rfl, rfl⟩⟩
  | some r =>
    rcases h r rfl with h | h
    · exact ⟨_, _, _, _, _, _, true, rfl, .inr (.inl ⟨rfl, h.1, h.2⟩)⟩
    · exact ⟨_, _, _, _, _, _, true, rfl, .inr (.inr ⟨rfl, h.1, h.2⟩)⟩
set_option maxRecDepth 100000 in
set_option maxHeartbeats 16000000 in
theorem rayCasts_c (q : Option Addr) (n c : Nat) (F : Nat → Int) (els : Int) (_ : n ≤ c) (hm : c ≤ maxLen) (hF : ∀ i, i < n → In64 (F i)) (he : In64 els) (x y z : Int) (hx : In64 x) (hy : In64 y) (hz : In64 z) (a b d : Int) (_ : In64 a) (_ : In64 b) (_ : In64 d) (R : Int) (_ : In64 R) (w : World) (hq : Iq w q n F) :
    Calls Try.prog 3 #[.agg #[.slice q n c, .int .i64 els], .agg #[.int .i64 x, .int .i64 y, .int .i64 z], .agg #[.int .i64 a, .int .i64 b, .int .i64 d], .int .i64 R] w fun e w' => e = .returned (.bool true) ∧ Below w.heap.size w w' := by
  have HGd := Lib.hid (fun W (h : Below w.heap.size w W) => rgood13_c q n c F els hm W (hq.on h) hF he)
  have HNr := Lib.hid (fun W => rnr_c x y z hx hy hz W)
  have bx := nrI_bd x
  have bY := nrI_bd y
  have bz := nrI_bd z
  clear hm hF he hx hy hz hq
  obtain ⟨W0, hW0⟩ : ∃ W0, W0 = ((w.alloc (.cells #[.slice q n c, .int .i64 els] 24)).alloc (.cells #[.int .i64 x, .int .i64 y, .int .i64 z] 26)).alloc (.cells #[.int .i64 a, .int .i64 b, .int .i64 d] 26) := ⟨_, rfl⟩
  have A0 : Blk W0 w.heap.size 24 #[.slice q n c, .int .i64 els] := by rw [hW0]; exact ((Blk.new' rfl).alloc _).alloc _
  have B0 : Blk W0 (w.heap.size + 1) 26 #[.int .i64 x, .int .i64 y, .int .i64 z] := by rw [hW0]; exact (Blk.new' (by simp)).alloc _
  have V0 : Blk W0 (w.heap.size + 1 + 1) 26 #[.int .i64 a, .int .i64 b, .int .i64 d] := by rw [hW0]; exact Blk.new' (by simp)
  have H0 : Below w.heap.size w W0 := by rw [hW0]; go_grown
  go_enter Try.func3, Try.ntmps3
  go_upto_region 1 with (fail)
  rw [← hW0]
  clear hW0
  have a0 := A0.cell 0
  have a1 := A0.cell 1
  go_upto_region 2 with (go_at_call 9; refine (HGd.out _ H0).mono ?_; rintro e_ w1 ⟨q2, c2, rfl, R1, k1, k2, h1⟩)
  generalize hV : World.alloc w1 _ = W1
  have G : Blk W1 w1.heap.size _ _ := Blk.eqw hV (Blk.new' rfl)
  have h2 : Below w1.heap.size w1 W1 := by rw [← hV]; exact (Below.refl _ _).alloc (Nat.le_refl _) _
  have I := iq_of_rd (R1.on h2)
  rw [show (goodL n F).length = min n 216 by simp [goodL]] at I
  replace B0 := (B0.on h1).on h2
  replace V0 := (V0.on h1).on h2
  replace H0 := after (after H0 h1) h2
  clear hV h1 h2 k1 k2 R1 a0 a1 A0 HGd
  generalize min n 216 = m at G I ⊢
  generalize w1.heap.size = g at G ⊢
  generalize (fun i => (goodL n F).getD i 0) = F2 at I
  generalize arI els 3 - 1 = els2 at G ⊢
  obtain ⟨b0, b1, b2, -, -, -⟩ := B0.c3
  go_upto_region 3 with (go_at_call 10; refine (HNr.out _).mono ?_; rintro e_ w3 ⟨rfl, h3⟩)
  generalize nrI x = ax at bx ⊢
  generalize nrI y = ay at bY ⊢
  generalize nrI z = az at bz ⊢
  generalize hV : World.alloc w3 _ = W3
  have X : Blk W3 w3.heap.size _ _ := Blk.eqw hV (Blk.new' rfl)
  have h2 : Below w3.heap.size w3 W3 := by rw [← hV]; exact (Below.refl _ _).alloc (Nat.le_refl _) _
  replace I := (I.on h3).on h2
  replace G := (G.on h3).on h2
  replace V0 := (V0.on h3).on h2
  replace H0 := after (after H0 h3) h2
  clear hV h2 h3 b0 b1 b2 B0 HNr
  generalize w3.heap.size = gx at X ⊢
  have h46 : In46 ax ay az := by unfold In46; omega
  have C1 := fun W b9 (h : Below W3.heap.size W3 W) (hb : Blk W b9 24 #[.slice q2 m c2, .int .i64 els2]) => cast_c 31 #[.pointer (some ⟨b9, 0, none⟩)] _ ax ay az a b d R h46 W view_en (view_tells hb (I.on h))
  have C2 := fun W (h : Below W3.heap.size W3 W) => rcast_c q2 m c2 F2 els2 ax ay az a b d R h46 W (I.on h)
  have hfm := castV_form (fun x => atG m F2 els2 x.1 x.2.1 x.2.2) ((seeL ax ay az a b d R).find? fun h => !yldB (atG m F2 els2 h.1.1 h.1.2.1 h.1.2.2)) (fun r hr => cast_facts (val := fun x => atG m F2 els2 x.1 x.2.1 x.2.2) h46 hr)
  obtain ⟨o0, o1, o2, ob, of, ot, ok, hov, hfm⟩ := hfm
  simp only [hov] at C1 C2
  have HC1 := Lib.hid C1
  have HC2 := Lib.hid C2
  have HFM := Lib.hid hfm
  have HAT := Lib.hid fun W (h : Below W3.heap.size W3 W) => at_c q2 m c2 F2 els2 (nearC o0 o1 o2 of).1 (nearC o0 o1 o2 of).2.1 (nearC o0 o1 o2 of).2.2 W (I.on h)
  have H1 := Lib.hid H0
  clear C1 C2 hov hfm h46 bx bY bz H0 I
  have g0 := fun dd os => (G.re dd os).cell 0
  have g1 := fun dd os => (G.re dd os).cell 1
  obtain ⟨x0, x1, x2⟩ := X.re3
  obtain ⟨v0, v1, v2⟩ := V0.re3
  have HU_ := Lib.hid (show Bears W3.heap.size [⟨9, 10, 31, #[.int .i64 0, .int .i64 0, .int .i64 0, .int .i64 0, .int .i64 0, .int .i64 0], #[.int .i64 o0, .int .i64 o1, .int .i64 o2, .int .i64 ob, .int .i64 of, .int .i64 ot]⟩] (relsU [(1, fun v w => ∃ b, v = .func (.func 31) #[] #[.pointer (some ⟨b, 0, none⟩)] ∧ Blk w b 24 #[.slice q2 m c2, .int .i64 els2]), (5, fun v _ => v = .tuple #[.agg #[.int .i64 o0, .int .i64 o1, .int .i64 o2, .int .i64 ob, .int .i64 of, .int .i64 ot], .bool ok]), (6, fun v _ => v = .tuple #[.agg #[.int .i64 o0, .int .i64 o1, .int .i64 o2, .int .i64 ob, .int .i64 of, .int .i64 ot], .bool ok]), (7, fun v _ => v = .agg #[.int .i64 o0, .int .i64 o1, .int .i64 o2, .int .i64 ob, .int .i64 of, .int .i64 ot]), (8, fun v _ => v = .bool ok), (11, fun v _ => v = .bool ok)]) from (bears_cons (fun v w w' ⟨b, h1, h2⟩ hs => ⟨b, h1, hs.blk h2 (by simp)⟩) (bears_val (bears_val (bears_val (bears_val (bears_val bears_nil)))))))
  have HO_ := Lib.hid (show OkB [⟨9, 10, 31, #[.int .i64 0, .int .i64 0, .int .i64 0, .int .i64 0, .int .i64 0, .int .i64 0], #[.int .i64 o0, .int .i64 o1, .int .i64 o2, .int .i64 ob, .int .i64 of, .int .i64 ot]⟩] from ⟨by simp, by simp⟩)
  refine wp_many [0, 2, 0, 0, 0, 2, 2, 2, 2, 2, 2, 2] _ _ (by kernel_rfl) (by kernel_rfl) HU_.out ?_
  repeat (first | (refine wpQs_s ?_) | (refine wpQs_q (fun K hK => ?_); go_simp; first | (refine hK _ ?_; clear hK K) | (apply Exists.intro; refine ⟨fun _ => ?_, hK _ ?_⟩; (fail); clear hK K)) | (refine wpQs_f (fun K hK => ?_); go_simp; refine hK _ ?_; clear hK K))
  refine wpQs_nil ?_
  refine wpLsI_skip ?_
  refine wpLsI_one rfl ?s1_ (fun v1_ => ?_)
  case s1_ =>
    intro S_ V_ w_ hw_ hV_ ha_ hn_ hI_
    have HW_ := Lib.hid hw_
    have HI_ := Lib.hid hI_
    have Hn_ := Lib.hid hn_
    clear hV_ ha_ hw_ hI_ hn_
    go_simp
    refine (view_c _ _ _).mono ?_
    rintro e_ w9 ⟨rfl, rfl⟩
    have h9 : Below w_.heap.size w_ (w_.alloc (.cells #[.slice q2 m c2, .int .i64 els2] 24)) := (Below.refl _ _).alloc (Nat.le_refl _) _
    exact ⟨_, rfl, HW_.out.on h9, HI_.out.l (by simp) HU_.out h9 ⟨_, rfl, Blk.new' rfl⟩⟩
  refine wpLsI_skip ?_
  refine wpLsI_skip ?_
  refine wpLsI_skip ?_
  refine wpLsI_one rfl ?s5_ (fun v5_ => ?_)
  case s5_ =>
    intro S_ V_ w_ hw_ hV_ ha_ hn_ hI_
    have F1_ := Lib.hid (hI_.of (ha_ 1 (by decide) rfl (by kernel_rfl)) (hV_ 1 (by decide) rfl))
    have HW_ := Lib.hid hw_
    have HI_ := Lib.hid hI_
    have Hn_ := Lib.hid hn_
    clear hV_ ha_ hw_ hI_ hn_
    go_simp
    obtain ⟨b9, E, hb⟩ := F1_.out
    subst E
    refine (HC1.out _ _ HW_.out.none hb).mono ?_
    rintro e_ w9 ⟨rfl, h9⟩
    exact ⟨_, rfl, HW_.out.on h9, HI_.out.l (by simp) HU_.out h9 rfl⟩
  refine wpLsI_one rfl ?s6_ (fun v6_ => ?_)
  case s6_ =>
    intro S_ V_ w_ hw_ hV_ ha_ hn_ hI_
    have F_ := Lib.hid (show v5_ = .tuple #[.agg #[.int .i64 o0, .int .i64 o1, .int .i64 o2, .int .i64 ob, .int .i64 of, .int .i64 ot], .bool ok] from (hI_.of (ha_ 5 (by decide) rfl (by kernel_rfl)) (hV_ 5 (by decide) rfl)))
    have HW_ := Lib.hid hw_
    have HI_ := Lib.hid hI_
    have Hn_ := Lib.hid hn_
    clear hV_ ha_ hw_ hI_ hn_
    go_simp
    have h8_ := F_.out
    subst h8_
    clear F_
    go_simp
    exact ⟨HW_.out, HI_.out.l (by simp) HU_.out (Below.refl _ _) rfl⟩
  refine wpLsI_one rfl ?s7_ (fun v7_ => ?_)
  case s7_ =>
    intro S_ V_ w_ hw_ hV_ ha_ hn_ hI_
    have F_ := Lib.hid (show v6_ = .tuple #[.agg #[.int .i64 o0, .int .i64 o1, .int .i64 o2, .int .i64 ob, .int .i64 of, .int .i64 ot], .bool ok] from (hI_.of (ha_ 6 (by decide) rfl (by kernel_rfl)) (hV_ 6 (by decide) rfl)))
    have HW_ := Lib.hid hw_
    have HI_ := Lib.hid hI_
    have Hn_ := Lib.hid hn_
    clear hV_ ha_ hw_ hI_ hn_
    go_simp
    have h8_ := F_.out
    subst h8_
    clear F_
    go_simp
    exact ⟨HW_.out, HI_.out.l (by simp) HU_.out (Below.refl _ _) rfl⟩
  refine wpLsI_one rfl ?s8_ (fun v8_ => ?_)
  case s8_ =>
    intro S_ V_ w_ hw_ hV_ ha_ hn_ hI_
    have F_ := Lib.hid (show v6_ = .tuple #[.agg #[.int .i64 o0, .int .i64 o1, .int .i64 o2, .int .i64 ob, .int .i64 of, .int .i64 ot], .bool ok] from (hI_.of (ha_ 6 (by decide) rfl (by kernel_rfl)) (hV_ 6 (by decide) rfl)))
    have HW_ := Lib.hid hw_
    have HI_ := Lib.hid hI_
    have Hn_ := Lib.hid hn_
    clear hV_ ha_ hw_ hI_ hn_
    go_simp
    have h8_ := F_.out
    subst h8_
    clear F_
    go_simp
    exact ⟨HW_.out, HI_.out.l (by simp) HU_.out (Below.refl _ _) rfl⟩
  refine wpLsI_one rfl ?s9_ (fun v9_ => ?_)
  case s9_ =>
    intro S_ V_ w_ hw_ hV_ ha_ hn_ hI_
    have HW_ := Lib.hid hw_
    have HI_ := Lib.hid hI_
    have Hn_ := Lib.hid hn_
    clear hV_ ha_ hw_ hI_ hn_
    go_simp
    exact ⟨HW_.out.on ((Below.refl _ _).alloc (Nat.le_refl _) _), HI_.out.new (List.mem_cons_self) HO_.out HU_.out (fun _ _ => trivial) HW_.out.none.size Hn_.out⟩
  refine wpLsI_one rfl ?s10_ (fun v10_ => ?_)
  case s10_ =>
    intro S_ V_ w_ hw_ hV_ ha_ hn_ hI_
    have F_ := Lib.hid (show v7_ = .agg #[.int .i64 o0, .int .i64 o1, .int .i64 o2, .int .i64 ob, .int .i64 of, .int .i64 ot] from (hI_.of (ha_ 7 (by decide) rfl (by kernel_rfl)) (hV_ 7 (by decide) rfl)))
    have HS_ := Lib.hid (show S_ 9 from ha_ 9 (by decide) rfl (by kernel_rfl))
    have HVV_ := Lib.hid (show V_ 9 = v9_ from hV_ 9 (by decide) rfl)
    have hx_ := Lib.hid (show ∃ b, V_ 9 = .pointer (some ⟨b, 0, none⟩) ∧ W3.heap.size ≤ b ∧ Blk w_ b 31 #[.int .i64 0, .int .i64 0, .int .i64 0, .int .i64 0, .int .i64 0, .int .i64 0] from hI_.slot (List.mem_cons_self) HS_.out hn_)
    have HW_ := Lib.hid hw_
    have HI_ := Lib.hid hI_
    have Hn_ := Lib.hid hn_
    clear hV_ ha_ hw_ hI_ hn_
    go_simp
    refine hx_.out.elim fun b_ hy_ => ?_
    have E_ := hy_.1
    have HN_ := Lib.hid hy_.2.1
    have hb_ := hy_.2.2
    have h8_ := F_.out
    rw [HVV_.out] at E_
    subst h8_ E_
    clear hx_ hy_ F_
    obtain ⟨⟨k0_, k1_, k2_, k3_, k4_, k5_⟩, f0_, f1_, f2_, f3_, f4_, f5_⟩ := hb_.c6
    have Hb_ := Lib.hid hb_
    clear hb_
    go_simp
    exact ⟨HW_.out.new_set HN_.out kept6, HI_.out.set (List.mem_cons_self) HO_.out HU_.out (fun _ _ => trivial) Hn_.out HS_.out HVV_.out kept6 (Hb_.out.st6 _ _ _ _ _ _)⟩
  refine wpLsI_one rfl ?s11_ (fun v11_ => ?_)
  case s11_ =>
    intro S_ V_ w_ hw_ hV_ ha_ hn_ hI_
    have F_ := Lib.hid (show v8_ = .bool ok from (hI_.of (ha_ 8 (by decide) rfl (by kernel_rfl)) (hV_ 8 (by decide) rfl)))
    have HW_ := Lib.hid hw_
    have HI_ := Lib.hid hI_
    have Hn_ := Lib.hid hn_
    clear hV_ ha_ hw_ hI_ hn_
    go_simp
    have h8_ := F_.out
    subst h8_
    clear F_
    go_simp
    exact ⟨HW_.out, HI_.out.l (by simp) HU_.out (Below.refl _ _) rfl⟩
  refine wpLsI_nil fun V_ W4 hw_ hV_ hI_ => ?_
  obtain ⟨g0_W4, E9_, N0_W4, X0_W4⟩ : ∃ b, v9_ = .pointer (some ⟨b, 0, none⟩) ∧ W3.heap.size ≤ b ∧ Blk W4 b 31 #[.int .i64 o0, .int .i64 o1, .int .i64 o2, .int .i64 ob, .int .i64 of, .int .i64 ot] := by rw [← show V_ 9 = v9_ from hV_ 9 (by decide) rfl]; exact hI_.done (List.mem_cons_self) ⟨show 9 < 12 by decide, rfl⟩ ⟨show 10 < 12 by decide, rfl⟩
  have K11_ : v11_ = .bool ok := hI_.of ⟨show 11 < 12 by decide, rfl⟩ (hV_ 11 (by decide) rfl)
  subst K11_
  subst E9_
  have h_W4 := hw_.none
  clear hV_ hI_ hw_ HU_ HO_
  simp only [tails]
  clear g0 g1 x0 x1 x2 v0 v1 v2
  replace G := G.on h_W4
  replace X := X.on h_W4
  replace V0 := V0.on h_W4
  have g0 := G.cell 0
  have g1 := G.cell 1
  obtain ⟨x0, x1, x2, -, -, -⟩ := X.c3
  obtain ⟨v0, v1, v2, -, -, -⟩ := V0.c3
  have HK4 := Lib.hid h_W4
  go_upto_region 5 with (go_at_call 13; refine (HC2.out _ HK4.out).mono ?_; rintro e_ w5 ⟨rfl, h5⟩)
  generalize hV : World.alloc w5 _ = W5
  have E : Blk W5 w5.heap.size 37 #[.int .i64 o0, .int .i64 o1, .int .i64 o2, .int .i64 ob, .int .i64 of, .int .i64 ot] := Blk.eqw hV (Blk.new' rfl)
  have h6 : Below W4.heap.size W4 W5 := by rw [← hV]; exact h5.alloc h5.size _
  generalize w5.heap.size = ge at E ⊢
  have D := X0_W4.on h6
  replace G := G.on h6
  have HK5 := Lib.hid (after HK4.out h6)
  clear hV h5 h6 x0 x1 x2 v0 v1 v2 g0 g1 X V0 X0_W4 h_W4
  have HBS := Lib.hid fun w => beside_c o0 o1 o2 ob of ot w
  have HLV := Lib.hid fun w => rlives_c w
  have cg := cell_guard
  have se := cell_ne_self o0 o1 o2
  obtain ⟨⟨d0, d1, d2, d3, d4, d5⟩, -, -, -, -, -, -⟩ := D.c6
  obtain ⟨⟨e0, e1, e2, e3, e4, e5⟩, -, -, -, -, -, -⟩ := E.c6
  rcases HFM.out with ⟨rfl, rfl, rfl, rfl, rfl, rfl, rfl⟩ | ⟨rfl, hf, rfl⟩ | ⟨rfl, hf, hy⟩
  · have hb : besV 0 0 0 0 = .tuple #[.agg #[.int .i64 (nearC 0 0 0 0).1, .int .i64 (nearC 0 0 0 0).2.1, .int .i64 (nearC 0 0 0 0).2.2], .bool true] := rfl
    have HB := Lib.hid fun w => (show Calls Try.prog 14 #[.agg #[.int .i64 0, .int .i64 0, .int .i64 0, .int .i64 0, .int .i64 0, .int .i64 0]] w fun r w' => r = .returned (.tuple #[.agg #[.int .i64 (nearC 0 0 0 0).1, .int .i64 (nearC 0 0 0 0).2.1, .int .i64 (nearC 0 0 0 0).2.2], .bool true]) ∧ Below w.heap.size w w' from by rw [← hb]; exact HBS.out w)
    clear hb
    go_upto_region 8 with (go_at_call 14; refine (HB.out _).mono ?_; rintro e_ w6 ⟨rfl, h6⟩)
    generalize hV : World.alloc w6 _ = W6
    have h7 : Below W5.heap.size W5 W6 := by rw [← hV]; exact h6.alloc h6.size _
    replace D := D.on h7
    clear hV d0 d1 d2 d3 d4 d5 e0 e1 e2 e3 e4 e5
    obtain ⟨⟨d0, d1, d2, d3, d4, d5⟩, -, -, -, -, -, -⟩ := D.c6
    go_wp2_with (go_at_call 15; refine (HLV.out _).mono ?_; rintro e_ w7 ⟨rfl, h8⟩)
    go_returns
    exact ⟨rfl, after H1.out (after (after HK5.out h7) h8)⟩
  · have hb : besV o0 o1 o2 of = .tuple #[.agg #[.int .i64 0, .int .i64 0, .int .i64 0], .bool false] := if_neg (by omega)
    have HB := Lib.hid fun w => (show Calls Try.prog 14 #[.agg #[.int .i64 o0, .int .i64 o1, .int .i64 o2, .int .i64 ob, .int .i64 of, .int .i64 0]] w fun r w' => r = .returned (.tuple #[.agg #[.int .i64 0, .int .i64 0, .int .i64 0], .bool false]) ∧ Below w.heap.size w w' from by rw [← hb]; exact HBS.out w)
    clear hb
    go_upto_region 8 with (go_at_call 14; refine (HB.out _).mono ?_; rintro e_ w6 ⟨rfl, h6⟩)
    generalize hV : World.alloc w6 _ = W6
    have h7 : Below W5.heap.size W5 W6 := by rw [← hV]; exact h6.alloc h6.size _
    replace D := D.on h7
    clear hV d0 d1 d2 d3 d4 d5 e0 e1 e2 e3 e4 e5
    obtain ⟨⟨d0, d1, d2, d3, d4, d5⟩, -, -, -, -, -, -⟩ := D.c6
    go_wp2_with (go_at_call 15; refine (HLV.out _).mono ?_; rintro e_ w7 ⟨rfl, h8⟩)
    go_returns
    exact ⟨rfl, after H1.out (after (after HK5.out h7) h8)⟩
  · have hb : besV o0 o1 o2 of = .tuple #[.agg #[.int .i64 (nearC o0 o1 o2 of).1, .int .i64 (nearC o0 o1 o2 of).2.1, .int .i64 (nearC o0 o1 o2 of).2.2], .bool true] := if_pos hf
    have HB := Lib.hid fun w => (show Calls Try.prog 14 #[.agg #[.int .i64 o0, .int .i64 o1, .int .i64 o2, .int .i64 ob, .int .i64 of, .int .i64 ot]] w fun r w' => r = .returned (.tuple #[.agg #[.int .i64 (nearC o0 o1 o2 of).1, .int .i64 (nearC o0 o1 o2 of).2.1, .int .i64 (nearC o0 o1 o2 of).2.2], .bool true]) ∧ Below w.heap.size w w' from by rw [← hb]; exact HBS.out w)
    have HYL := Lib.hid fun w => (show Calls Try.prog 16 #[.int .i64 (atG m F2 els2 (nearC o0 o1 o2 of).1 (nearC o0 o1 o2 of).2.1 (nearC o0 o1 o2 of).2.2)] w fun r w' => r = .returned (.bool true) ∧ w = w' from by rw [← hy]; exact ryields_c _ w)
    have hf2 : ¬ of < 0 := by omega
    clear hb hy hf
    generalize (nearC o0 o1 o2 of).1 = n0 at *
    generalize (nearC o0 o1 o2 of).2.1 = n1 at *
    generalize (nearC o0 o1 o2 of).2.2 = n2 at *
    generalize atG m F2 els2 n0 n1 n2 = bl at *
    go_upto_region 8 with (go_at_call 14; refine (HB.out _).mono ?_; rintro e_ w6 ⟨rfl, h6⟩)
    generalize hV : World.alloc w6 _ = W6
    have Q : Blk W6 w6.heap.size 29 #[.int .i64 n0, .int .i64 n1, .int .i64 n2] := Blk.eqw hV (Blk.new' rfl)
    have h7 : Below W5.heap.size W5 W6 := by rw [← hV]; exact h6.alloc h6.size _
    replace D := D.on h7
    replace G := G.on h7
    generalize w6.heap.size = gq at Q ⊢
    have HK7 := Lib.hid (after HK5.out h7)
    clear hV d0 d1 d2 d3 d4 d5 e0 e1 e2 e3 e4 e5 h6 h7
    obtain ⟨⟨d0, d1, d2, d3, d4, d5⟩, -, -, -, -, -, -⟩ := D.c6
    have g0 := G.cell 0
    have g1 := G.cell 1
    obtain ⟨q0, q1, q2, -, -, -⟩ := Q.c3
    go_wp2_with first
      | (go_at_call 17; refine (HAT.out _ HK7.out).mono ?_; rintro e_ w7 ⟨rfl, h8⟩)
      | (go_at_call 16; refine (HYL.out _).mono ?_; rintro e_ w8 ⟨rfl, rfl⟩)
      | (go_at_call 15; refine (HLV.out _).mono ?_; rintro e_ w9 ⟨rfl, h9⟩)
    go_returns
    exact ⟨rfl, after H1.out (after (after HK7.out h8) h9)⟩
set_option maxRecDepth 100000 in
theorem rayCasts_lifted (os : Os) (started : os.Started) (H : Type) (enc : TypeId × Value → H) :
    ReturnsInHanded {} Try.checked os 3 .any (Rows.rayCastsSpec.pre6 enc Try.prog Try.f3 Rows.rayCastsRow.domain false) (Rows.rayCastsSpec.post enc Try.prog Try.f3 false true false false) := by
  refine returnsInHanded_of_change (C := Try.checked) own started (by kernel_rfl) Try.func3
    (ChangeSpec.witness6 (enc := enc) (C := Try.checked) false ⟨#[], #[.agg #[.slice none 0 0, .int .i64 0], .agg #[.int .i64 0, .int .i64 0, .int .i64 0], .agg #[.int .i64 0, .int .i64 0, .int .i64 0], .int .i64 0], []⟩ 8 (by kernel_rfl) (by kernel_rfl) (by kernel_rfl) (by kernel_rfl)) ?_
  intro W base args ds gs before hval0 hW hcnd hsz
  have hval : ∀ (j : Nat) t v, Try.f3.params[j]? = some t → args[j]? = some v → Value.okWide Try.prog W .any base t v := hval0
  have hW' := hW
  obtain ⟨p, q, hA0, hV, rfl, hfz, hnd⟩ := hW
  have hA : DataW.TrodAll enc Try.prog W 0 (fun _ => true) true Try.f3.params.toList args.toList ds p := hA0
  rw [Try.params3] at hA hval
  obtain ⟨v0, vs0, d0, ds0, p_0, q_0, hargs, rfl, rfl, h0, r_0⟩ := trodAll_cons hA
  obtain ⟨v1, vs1, d1, ds1, p_1, q_1, rfl, rfl, rfl, h1, r_1⟩ := trodAll_cons r_0
  obtain ⟨v2, vs2, d2, ds2, p_2, q_2, rfl, rfl, rfl, h2, r_2⟩ := trodAll_cons r_1
  obtain ⟨v3, vs3, d3, ds3, p_3, q_3, rfl, rfl, rfl, h3, r_3⟩ := trodAll_cons r_2
  obtain ⟨rfl, rfl, rfl⟩ := trodAll_nil r_3
  obtain rfl : args = #[v0, v1, v2, v3] := by cases args; simp_all
  obtain ⟨rfl, rfl⟩ := trodVars_none hV
  obtain ⟨gq0, gn0, gc0, gF0, ge0, rfl, gl0, gm0, gi0, gw0, gv0⟩ := open_world Try.underlying24 Try.underlying22 (by kernel_rfl) (by kernel_rfl) Try.underlying3 (hval 0 24 v0 rfl rfl) h0
  obtain ⟨x1, y1, z1, rfl, wx1, wy1, wz1⟩ := open_vec Try.underlying26 (by kernel_rfl) (by kernel_rfl) Try.underlying3 (hval 1 26 v1 rfl rfl) h1
  obtain ⟨x2, y2, z2, rfl, wx2, wy2, wz2⟩ := open_vec Try.underlying26 (by kernel_rfl) (by kernel_rfl) Try.underlying3 (hval 2 26 v2 rfl rfl) h2
  obtain ⟨a3, rfl, rfl, rfl, w3⟩ := open_int Try.underlying3 (hval 3 3 v3 rfl rfl) h3
  refine (rayCasts_c gq0 gn0 gc0 gF0 ge0 gl0 gm0 gw0 gv0 x1 y1 z1 wx1 wy1 wz1 x2 y2 z2 wx2 wy2 wz2 a3 (in64_of_wf w3) W gi0).mono fun e W' ⟨he, hb⟩ => ?_
  subst he
  exact ⟨_, rfl, law_post laidOut (by kernel_rfl) rfl (by kernel_rfl) Try.underlying4 hW' rfl rfl rfl hb⟩

/-- The statement. -/
theorem rayCasts_proved : Rows.RayCastsSaid :=
  OpenClaim.holds_of_wide 3 Try.f3 rfl rfl rfl rfl rfl rfl rfl ⟨rfl, rfl, rfl, rfl, rfl⟩ rfl rfl rfl rfl rfl (by kernel_rfl) Try.func3 (by kernel_rfl)
    (of_decide_eq_true (by kernel_rfl)) (by unfold Func.isWrapper; first | (rw [if_pos (by decide +kernel)]; kernel_rfl) | (rw [if_neg (by decide +kernel)]; exact ⟨rfl, rfl⟩))
    (fun os started H enc _ => rayCasts_lifted os started H enc)
end Go.Proofs.Ytjlgcfdpfalbpaa
