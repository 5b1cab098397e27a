/- The document's ray. -/
import Derived.Test.YtjlgcfdpfalbpaaRayR2
import Derived.Test.YtjlgcfdpfalbpaaRayR3
import Derived.Test.YtjlgcfdpfalbpaaRowApp
namespace Go.Proofs.Ytjlgcfdpfalbpaa
open Go.RowKit Go.Shelf
attribute [local go_sem] Oper.semAt_some

theorem lenX (x : X4) : (encX x).length = 4 := rfl
theorem posn_step {x : X4} {L : List X4} {k : Nat} (h : ahB x (L.getD k (0, 0, 0, 0)) = true) : posn x L (k + 1) = posn x L k := by unfold posn; rw [if_pos h]; cases k <;> rfl
theorem posn_stop {x : X4} {L : List X4} {k : Nat} (h : ahB x (L.getD k (0, 0, 0, 0)) = false) : posn x L (k + 1) = k + 1 := by rw [posn, h]; rfl
theorem oneX {x : X4} {u : Value} (h : u ∈ encX x) : u.oneCell' = true := by simp [encX] at h; rcases h with rfl | rfl | rfl | rfl <;> rfl
abbrev encH6 (h : RH) : List Value := [.int .i64 h.1.1, .int .i64 h.1.2.1, .int .i64 h.1.2.2, .int .i64 0, .int .i64 h.2.1, .int .i64 h.2.2]
theorem infH : (Try.prog.info? 37).map (fun i => (i.zero, i.size, i.bytes)) = some (some (.agg #[.int .i64 0, .int .i64 0, .int .i64 0, .int .i64 0, .int .i64 0, .int .i64 0]), 6, 48) := by kernel_rfl
theorem oneH {h : RH} {u : Value} (k : u ∈ encH6 h) : u.oneCell' = true := by simp [encH6] at k; rcases k with rfl | rfl | rfl | rfl | rfl | rfl <;> rfl
theorem lenH (h : RH) : (encH6 h).length = 6 := rfl
theorem owns_one {w : World} {base g : Nat} {e : TypeId} {size : Nat} {α : Type} {enc : α → List Value} {x : α} {cs : Array Value} (h : Blk w g e cs) (hb : base ≤ g) (hc : cs.toList = enc x) (hs : (enc x).length = size) : Owns w base e size enc (.slice (some ⟨g, 0, none⟩) 1 1) [x] := by
  have hcs : cs.size = size := by rw [← hs, ← hc]; rfl
  refine ⟨by simp [hs], .inr ⟨g, 1, cs, rfl, hb, h, Nat.le_refl _, by decide, by rw [hcs]; omega, ?_⟩⟩
  simp only [List.length_singleton, List.flatMap_singleton]
  rw [List.take_of_length_le (by rw [hc, hs]; omega), hc]
theorem mer_in {p : Rp} {m a i : Nat} {L : List X4} (h : Mer p m a i L) : ∀ x ∈ L, ∃ b : Nat, b < 3 ∧ x.1 = b ∧ x ∈ crA p m b := by
  intro x hx
  obtain ⟨b, hb, hb3⟩ := h.axes x hx
  have hf : x ∈ L.filter (axQ b) := List.mem_filter.2 ⟨hx, by simp [hb]⟩
  refine ⟨b, hb3, hb, ?_⟩
  rcases Nat.lt_trichotomy b a with e | e | e
  · rw [h.done b e] at hf; exact hf
  · rw [e, h.now] at hf; rw [e]; exact List.mem_of_mem_take hf
  · rw [h.rest b e] at hf; cases hf
theorem crA_mem {p : Rp} {m b : Nat} {x : X4} (h : x ∈ crA p m b) : ∃ j : Nat, j < m ∧ comp p.s b ≠ 0 ∧ x = ((b : Int), comp p.u b, comp p.l b + 65536 * (j : Int), comp p.s b) := by
  by_cases hs : comp p.s b = 0
  · rw [crA_none hs] at h; cases h
  · obtain ⟨j, hj, e⟩ := List.mem_iff_getElem.1 h
    rw [crA_len hs] at hj
    have e2 := crA_at (p := p) hs hj
    rw [List.getElem?_eq_getElem (by rw [crA_len hs]; exact hj), e] at e2
    exact ⟨j, hj, hs, Option.some.inj e2⟩
theorem three_len : ∀ L : List X4, (∀ x ∈ L, ∃ b : Nat, x.1 = b ∧ b < 3) → L.length ≤ (L.filter (axQ 0)).length + (L.filter (axQ 1)).length + (L.filter (axQ 2)).length
  | [], _ => by simp
  | x :: L, h => by
    have ih := three_len L fun y hy => h y (List.mem_cons_of_mem _ hy)
    obtain ⟨b, hb, hb3⟩ := h x List.mem_cons_self
    have e : ∀ c : Nat, (List.filter (axQ c) (x :: L)).length = (if b = c then 1 else 0) + (L.filter (axQ c)).length := fun c => by
      by_cases hc : b = c
      · rw [List.filter_cons_of_pos (by simp [hb, hc]), if_pos hc, List.length_cons]; omega
      · rw [List.filter_cons_of_neg (by simp [hb]; omega), if_neg hc]; omega
    rw [e 0, e 1, e 2, List.length_cons]
    rcases lt3 hb3 with rfl | rfl | rfl <;> simp <;> omega
theorem crA_few (p : Rp) (m b : Nat) : (crA p m b).length ≤ m := by unfold crA; split <;> simp
theorem mer_len {p : Rp} {m a i : Nat} {L : List X4} (hm : m ≤ 66) (h : Mer p m a i L) : L.length ≤ 100000 := by
  have h3 := three_len L h.axes
  have hf : ∀ b, (L.filter (axQ b)).length ≤ 66 := fun b => by
    rcases Nat.lt_trichotomy b a with e | e | e
    · rw [h.done b e]; exact Nat.le_trans (crA_few p m b) hm
    · rw [e, h.now, List.length_take]; have := crA_few p m a; omega
    · rw [h.rest b e]; simp
  have := hf 0; have := hf 1; have := hf 2
  omega
theorem rnear_e (x y z : Int) (hx : -2147483000 ≤ x ∧ x ≤ 2147483000) (hy : -2147483000 ≤ y ∧ y ≤ 2147483000) (hz : -2147483000 ≤ z ∧ z ≤ 2147483000) (w : World) : Calls Try.prog 19 #[.agg #[.int .i64 x, .int .i64 y, .int .i64 z]] w fun r w' => r = .returned (.agg (nearP x y z)) ∧ Below w.heap.size w w' := by
  rw [← nearA_eq hx hy hz]; exact rnear_c x y z w
/-- Bounds of what is sorted. -/
theorem mer_bd {p : Rp} {m a i : Nat} {L : List X4} (hp : RpOk p) (hm : m ≤ 1000) (h : Mer p m a i L) : ∀ x ∈ L, (0 ≤ x.2.2.1 ∧ x.2.2.1 ≤ 100000000) ∧ (0 ≤ x.2.2.2 ∧ x.2.2.2 ≤ 1048576) := by
  intro x hx
  obtain ⟨b, hb3, _, hx2⟩ := mer_in h x hx
  obtain ⟨j, hj, _, e⟩ := crA_mem hx2
  have h1 := hp.l0 b hb3
  have h2 := hp.s0 b hb3
  rw [e]
  simp only
  omega
theorem refL_in {p : Rp} {R : Int} {k : K3} {bb : Nat} {us lf sp : Int} {r : List X4} (h : inR R (bump k bb) = true) : refL p R k (((bb : Int), us, lf, sp) :: r) = (cellK p (bump k bb), 2 * (bb : Int) + 1 - us, quoI lf sp) :: refL p R (bump k bb) r := by
  show (if inR R (bump k bb) then _ else _) = _
  rw [if_pos h]; rfl
theorem refL_out {p : Rp} {R : Int} {k : K3} {bb : Nat} {us lf sp : Int} {r : List X4} (h : inR R (bump k bb) = false) : refL p R k (((bb : Int), us, lf, sp) :: r) = [] := by
  show (if inR R (bump k bb) then _ else _) = _
  rw [h]; rfl
theorem out_len {p : Rp} {R : Int} {outs l : List RH} (hR : 0 ≤ R) (hR2 : R ≤ 64) (h : outs ++ l = traceP p R) : outs.length ≤ 200 := by
  have h1 := trL_len (p := p) hR 200 (0, 0, 0) (-1) 0
  have h2 := congrArg List.length h
  rw [List.length_append] at h2
  have e : (traceP p R).length = (trL p R 200 (0, 0, 0) (-1) 0).length := rfl
  omega
theorem rd_kept {w w' : World} {q : Option Addr} {size : Nat} {α : Type} {enc : α → List Value} {xs : List α} {K : Nat → Prop} (h : Rd w q size enc xs) (k : Kept K w w') (hK : ∀ a, q = some a → K a.block) : Rd w' q size enc xs := fun hn => by
  obtain ⟨g, o, hq, h1⟩ := h hn
  exact ⟨g, o, hq, fun i x hx j u hu => by
    have h2 := h1 i x hx j u hu
    have h3 : K g := hK _ hq
    rw [World.cell?_of_block (a := ⟨g, o + i * size + j, none⟩) (k.block g (cell_lt h2) h3)]
    exact h2⟩
theorem rd_below2 {w w' : World} {n : Nat} {q : Option Addr} {size : Nat} {α : Type} {enc : α → List Value} {xs : List α} (h : Rd w q size enc xs) (k : Below n w w') (hK : ∀ a, q = some a → a.block < n) : Rd w' q size enc xs := fun hn => by
  obtain ⟨g, o, hq, h1⟩ := h hn
  exact ⟨g, o, hq, fun i x hx j u hu => by
    have h3 : g < n := hK _ hq
    rw [cell_below k (p := ⟨g, o + i * size + j, none⟩) h3]
    exact h1 i x hx j u hu⟩
theorem near_vals {cx cy cz us n0 n1 n2 : Int} {bb : Nat} (hb : bb < 3) (hu : us = 0 ∨ us = 1) (h : nearI (cx, cy, cz) (2 * (bb : Int) + us) = (n0, n1, n2)) :
    (nearP cx cy cz)[(2 * (bb : Int) + us).toNat * 3]? = some (.int .i64 n0) ∧ (nearP cx cy cz)[(2 * (bb : Int) + us).toNat * 3 + 1]? = some (.int .i64 n1) ∧ (nearP cx cy cz)[(2 * (bb : Int) + us).toNat * 3 + 2]? = some (.int .i64 n2) := by
  rcases lt3 hb with rfl | rfl | rfl <;> rcases hu with rfl | rfl <;> simp [nearI] at h <;> obtain ⟨rfl, rfl, rfl⟩ := h <;> exact ⟨rfl, rfl, rfl⟩
theorem near_ok {p : Rp} {k : K3} (hp : RpOk p) (hc : CellOk p) (hk : ∀ b, b < 3 → kc k b ≤ 65) : Sm3 p.c ∧ Sm3 (cellK p k) ∧ ∀ b, b < 3 → -2147483000 ≤ comp (cellK p k) b ∧ comp (cellK p k) b ≤ 2147483000 := by
  have c0 := hc 0 (by omega)
  have c1 := hc 1 (by omega)
  have c2 := hc 2 (by omega)
  have k0 := hk 0 (by omega)
  have k1 := hk 1 (by omega)
  have k2 := hk 2 (by omega)
  have u0 := hp.u0 0 (by omega)
  have u1 := hp.u0 1 (by omega)
  have u2 := hp.u0 2 (by omega)
  simp [comp] at c0 c1 c2 u0 u1 u2
  simp [kc] at k0 k1 k2
  have e0 : -2147483000 ≤ (cellK p k).1 ∧ (cellK p k).1 ≤ 2147483000 := by unfold cellK stepI; simp only; rcases u0 with e | e <;> rw [e] <;> simp <;> omega
  have e1 : -2147483000 ≤ (cellK p k).2.1 ∧ (cellK p k).2.1 ≤ 2147483000 := by unfold cellK stepI; simp only; rcases u1 with e | e <;> rw [e] <;> simp <;> omega
  have e2 : -2147483000 ≤ (cellK p k).2.2 ∧ (cellK p k).2.2 ≤ 2147483000 := by unfold cellK stepI; simp only; rcases u2 with e | e <;> rw [e] <;> simp <;> omega
  refine ⟨⟨by omega, by omega, by omega⟩, ⟨by omega, by omega, by omega⟩, fun b hb => ?_⟩
  rcases lt3 hb with rfl | rfl | rfl
  · exact e0
  · exact e1
  · exact e2
theorem rnear_k {p : Rp} {k : K3} {cx cy cz : Int} (hp : RpOk p) (hc : CellOk p) (hk : ∀ b, b < 3 → kc k b ≤ 65) (he : cellK p k = (cx, cy, cz)) (w : World) :
    Calls Try.prog 19 #[.agg #[.int .i64 cx, .int .i64 cy, .int .i64 cz]] w fun r w' => r = .returned (.agg (nearP cx cy cz)) ∧ Below w.heap.size w w' := by
  have h := (near_ok hp hc hk).2.2
  rw [he] at h
  exact rnear_e cx cy cz (h 0 (by omega)) (h 1 (by omega)) (h 2 (by omega)) w
set_option maxRecDepth 100000 in
set_option maxHeartbeats 16000000 in
theorem rtr_c (x y z a b c R : Int) (h46 : In46 x y z) (w : World) :
    Calls Try.prog 21 #[.agg #[.int .i64 x, .int .i64 y, .int .i64 z], .agg #[.int .i64 a, .int .i64 b, .int .i64 c], .int .i64 R] w fun r w' =>
      ∃ u, r = .returned u ∧ Owns w' w.heap.size 37 6 encH6 u (seeL x y z a b c R) ∧ Below w.heap.size w w' := by
  have hmn := @run_mn Try.prog
  have hmx := @run_mx Try.prog
  obtain ⟨W, hW⟩ : ∃ W, W = (w.alloc (.cells #[.int .i64 x, .int .i64 y, .int .i64 z] 26)).alloc (.cells #[.int .i64 a, .int .i64 b, .int .i64 c] 26) := ⟨_, rfl⟩
  have H : Below w.heap.size w W := by rw [hW]; go_grown
  obtain ⟨N, hN⟩ : ∃ N, N = w.heap.size := ⟨_, rfl⟩
  have X : Blk W N 26 #[.int .i64 x, .int .i64 y, .int .i64 z] := Blk.eqw hW.symm (by rw [hN]; exact (Blk.new' rfl).alloc _)
  have Y : Blk W (N + 1) 26 #[.int .i64 a, .int .i64 b, .int .i64 c] := Blk.eqw hW.symm (by rw [hN]; exact Blk.new' (by simp))
  have HWY := Lib.hid fun w => rway_c a b c w
  go_enter Try.func21, Try.ntmps21
  go_upto_region 1 with (fail)
  rw [← hW, ← hN]
  have HN := Lib.hid hN
  clear hW hN
  obtain ⟨y0, y1, y2, -, -, -⟩ := Y.c3
  have hr1 : ∀ x, mnI (mxI x 0) 64 = rchI x := fun _ => rfl
  go_upto_region 3 with (go_at_call 34; refine (HWY.out _).mono ?_; rintro e_ w1 ⟨rfl, k1⟩)
  generalize hg : w1.heap.size = g
  generalize hV : World.alloc w1 _ = w2
  have Z : Blk w2 g 26 #[.int .i64 (qI a), .int .i64 (qI b), .int .i64 (qI c)] := Blk.eqw hV (Blk.new' hg.symm)
  have k2 : Below W.heap.size W w2 := by rw [← hV]; exact k1.alloc k1.size _
  have HG := Lib.hid (show N + 2 ≤ g ∧ g < w2.heap.size by
    have := k1.size
    have := Y.lt
    exact ⟨by omega, Z.lt⟩)
  replace X := X.on k2
  replace H := after H k2
  clear y0 y1 y2 k1 k2 hV hg Y HWY hr1
  obtain ⟨rb1, rb2⟩ := rchI_bd R
  generalize hRR : rchI R = RR at rb1 rb2 ⊢
  obtain ⟨m, hm⟩ : ∃ m : Nat, (m : Int) = RR + 2 := ⟨(RR + 2).toNat, by omega⟩
  have HM := Lib.hid hm
  have hmb : m ≤ 66 := by omega
  obtain ⟨p, hp⟩ : ∃ p, p = rpOf x y z (qI a) (qI b) (qI c) := ⟨_, rfl⟩
  have hseen : seeL x y z a b c R = traceP p RR := by rw [hp, ← hRR]
  have HSEE := Lib.hid hseen
  have hok : RpOk p := by rw [hp]; exact rp_ok (qI_bd a) (qI_bd b) (qI_bd c)
  have hcell : CellOk p := by rw [hp]; exact rp_cell h46.1 h46.2.1 h46.2.2
  have HP := Lib.hid (And.intro hok hcell)
  have hcr : ∀ (ax : Nat), ax < 3 → ∀ w, Calls Try.prog 35 #[.agg #[.int .i64 x, .int .i64 y, .int .i64 z], .agg #[.int .i64 (qI a), .int .i64 (qI b), .int .i64 (qI c)], .int .i64 ax, .int .i64 (RR + 2)] w fun r w' =>
      ∃ u, r = .returned u ∧ Owns w' w.heap.size 70 4 encX u (crA p m ax) ∧ Below w.heap.size w w' := fun ax hax w => by
    rw [hp, ← crW_rp _ _ _ _ _ _ m hax, ← hm]
    refine cross_c x y z (qI a) (qI b) (qI c) ax m _ _ rfl rfl ?_ ?_ (by omega) w
    · obtain ⟨h1, h2, h3⟩ := h46
      rcases lt3 hax with rfl | rfl | rfl
      · exact h1
      · exact h2
      · exact h3
    · rcases lt3 hax with rfl | rfl | rfl
      · exact qI_bd a
      · exact qI_bd b
      · exact qI_bd c
  have HCR := Lib.hid hcr
  have hpc : (#[.int .i64 (lowI x), .int .i64 (lowI y), .int .i64 (lowI z)] : Array Value) = #[.int .i64 p.c.1, .int .i64 p.c.2.1, .int .i64 p.c.2.2] := by rw [hp]; rfl
  have HPC := Lib.hid hpc
  clear hcr hRR hp hseen hok hcell hm hpc h46
  have HK := Lib.hid H
  have HMB := Lib.hid (And.intro hmb (And.intro rb1 rb2))
  clear H
  go_upto_region 5 with (fail)
  go_loopw [8, 9] (fun l t wr => ∃ (ax : Nat) (L : List X4), ax ≤ 3 ∧ t = .int .i64 ax ∧ Hid (Mer p m ax 0 L) ∧ Hid (Owns wr (N + 2) 70 4 encX l L) ∧ Hid (L = [] → l = .slice none 0 0) ∧ Blk wr N 26 #[.int .i64 x, .int .i64 y, .int .i64 z] ∧ Blk wr g 26 #[.int .i64 (qI a), .int .i64 (qI b), .int .i64 (qI c)] ∧ Hid (Below w.heap.size w wr)) (fun _ t _ => 3 - (intOf t).toNat)
  case atStart => exact ⟨0, [], by omega, rfl, mer_zero p m, Owns.nil, fun _ => rfl, X, Z, HK⟩
  case round =>
    clear X Z HK
    obtain ⟨ax, L, hax, rfl, hmer, hl, hnil, X, Z, HK⟩ := hrel
    by_cases hlt : ax < 3
    · obtain ⟨x0, x1, x2, -, -, -⟩ := X.c3
      obtain ⟨z0, z1, z2, -, -, -⟩ := Z.c3
      have hm1 : RR + 2 ≤ 9223372036854775807 := by have := HMB.out; omega
      have hm2 : -9223372036854775808 ≤ RR + 2 := by have := HMB.out; omega
      have hax3 : (ax : Int) < 3 := by omega
      go_wp2_with (go_at_call 35; refine (HCR.out ax hlt _).mono ?_; rintro e_ w3 ⟨uo, rfl, ho, k3⟩)
      have hl3 := Lib.hid (hl.out.on k3)
      replace X := X.on k3
      replace Z := Z.on k3
      have HK3 := Lib.hid (after HK.out k3)
      obtain ⟨qo, co, rfl, hco, -, hro, -, -⟩ := ho.form lenX
      have HRO := Lib.hid hro
      have hlo : (crA p m ax).length ≤ 66 := by
        have := HMB.out
        unfold crA; split <;> simp <;> omega
      have HLO := Lib.hid (And.intro hlo hco)
      clear x0 x1 x2 z0 z1 z2 ho hl HK k3 hro hlo hco
      generalize hno : (crA p m ax).length = no at HLO ⊢
      have HNO := Lib.hid hno
      clear hno
      go_upto_region 9 with (fail)
      obtain ⟨wo, rfl⟩ : ∃ wo : World, wo = w3 := ⟨_, rfl⟩
      go_loopw [8, 11] (fun l t wr => ∃ (i : Nat) (L : List X4), i ≤ no ∧ t = .int .i64 i ∧ Hid (Mer p m ax i L) ∧ Hid (Owns wr (N + 2) 70 4 encX l L) ∧ Hid (L = [] → l = .slice none 0 0) ∧ Hid (Rd wr qo 4 encX (crA p m ax)) ∧ Blk wr N 26 #[.int .i64 x, .int .i64 y, .int .i64 z] ∧ Blk wr g 26 #[.int .i64 (qI a), .int .i64 (qI b), .int .i64 (qI c)] ∧ Hid (Below w.heap.size w wr)) (fun _ t _ => no - (intOf t).toNat)
      case atStart => exact ⟨0, L, Nat.zero_le _, rfl, hmer, hl3, hnil, HRO, X, Z, HK3⟩
      case round =>
        clear X Z HK3 hmer hl3 hnil HRO
        obtain ⟨i, L, hi, rfl, hmer, hl, hnil, HRO, X, Z, HK⟩ := hrel
        by_cases hil : i < no
        · obtain ⟨xi, hxi⟩ : ∃ xi, (crA p m ax)[i]? = some xi := ⟨_, List.getElem?_eq_getElem (by rw [HNO.out]; exact hil)⟩
          have hil2 : (i : Int) < no := by omega
          have hi0 : (0 : Int) ≤ i := by omega
          have hi9 : (i : Int) + 1 ≤ 9223372036854775807 := by have := HLO.out; omega
          have hi8 : -9223372036854775808 ≤ (i : Int) + 1 := by omega
          obtain ⟨go, oo, hqo, hro⟩ := HRO.out (by rw [HNO.out]; omega)
          subst hqo
          have hmx : Mer p m ax (i + 1) (insX L xi) := hmer.out.ins hlt ((HP.out.1.s0 ax hlt).1) hxi
          have hbL := mer_bd HP.out.1 (by have := HMB.out; omega) hmer.out
          have hbx := (mer_bd HP.out.1 (by have := HMB.out; omega) hmx) xi (by unfold insX; simp)
          obtain ⟨q, cap, rfl, hcap, hcapm, hrd, hqb, hq0⟩ := hl.out.form lenX
          have hml : cap ≤ 9223372036854775807 := by unfold maxLen at hcapm; exact hcapm
          have HMX := Lib.hid hmx
          have HBL := Lib.hid hbL
          have HBX := Lib.hid hbx
          have HXI := Lib.hid hxi
          have HRD := Lib.hid hrd
          have HQ := Lib.hid (And.intro hqb hq0)
          have HCAP := Lib.hid (And.intro hcap hml)
          clear hmx hbL hbx hxi hrd hqb hq0 hcap hcapm hml hro
          go_upto_region 12 with (fail)
          obtain ⟨wo2, rfl⟩ : ∃ wo2 : World, wo2 = wr := ⟨_, rfl⟩
          go_loopw [12] (fun t wr => ∃ k : Nat, k ≤ L.length ∧ t = .int .i64 k ∧ Hid (posn xi L L.length = posn xi L k) ∧ Hid (Owns wr (N + 2) 70 4 encX (.slice q L.length cap) L) ∧ Hid (Rd wr q 4 encX L) ∧ Hid (Rd wr (some ⟨go, oo, none⟩) 4 encX (crA p m ax)) ∧ Blk wr N 26 #[.int .i64 x, .int .i64 y, .int .i64 z] ∧ Blk wr g 26 #[.int .i64 (qI a), .int .i64 (qI b), .int .i64 (qI c)] ∧ Hid (Below w.heap.size w wr)) (fun t _ => (intOf t).toNat)
          case atStart => exact ⟨L.length, Nat.le_refl _, rfl, Lib.hid rfl, hl, HRD, HRO, X, Z, HK⟩
          case round =>
            clear X Z HK hl HRD HRO
            obtain ⟨k, hk, rfl, hpos, hl, HRD, HRO, X, Z, HK⟩ := hrel
            by_cases hk0 : 0 < k
            · have hk1 : decide ((0 : Int) < (k : Int)) = true := by simpa using hk0
              have hk2 : (0 : Int) < (k : Int) := by omega
              obtain ⟨g0, o0, hg0, hr0⟩ := HRD.out (by omega)
              subst hg0
              obtain ⟨yk, hyk⟩ : ∃ yk, L[k - 1]? = some yk := ⟨_, List.getElem?_eq_getElem (by omega)⟩
              have hlen : (k : Int) - 1 < (L.length : Int) := by omega
              have hk3 : (0 : Int) ≤ (k : Int) - 1 := by omega
              have hkn : ((k : Int) - 1).toNat = k - 1 := by omega
              have hw1 : IntKind.i64.wrap ((k : Int) - 1) = (k : Int) - 1 := IntWalk.i64_in _ (by have := HCAP.out; omega)
              have hgd : L.getD (k - 1) (0, 0, 0, 0) = yk := by rw [List.getD_eq_getElem?_getD, hyk]; rfl
              have hbk := HBL.out yk (List.mem_of_getElem? hyk)
              have HAH := Lib.hid fun w => ahead_c xi yk HBX.out.1 HBX.out.2 hbk.1 hbk.2 w
              have ro := HRO.out
              have c0 := fun d os => cell_regrown (show wr.cell? ⟨go, oo + i * 4, none⟩ = some (.int .i64 xi.1) from ro.at HXI.out (j := 0) rfl) d os
              have c1 := fun d os => cell_regrown (show wr.cell? ⟨go, oo + i * 4 + 1, none⟩ = some (.int .i64 xi.2.1) from ro.at HXI.out (j := 1) rfl) d os
              have c2 := fun d os => cell_regrown (show wr.cell? ⟨go, oo + i * 4 + 2, none⟩ = some (.int .i64 xi.2.2.1) from ro.at HXI.out (j := 2) rfl) d os
              have c3 := fun d os => cell_regrown (show wr.cell? ⟨go, oo + i * 4 + 3, none⟩ = some (.int .i64 xi.2.2.2) from ro.at HXI.out (j := 3) rfl) d os
              have d0 := fun d os => cell_regrown (show wr.cell? ⟨g0, o0 + (k - 1) * 4, none⟩ = some (.int .i64 yk.1) from hr0 _ _ hyk 0 _ rfl) d os
              have d1 := fun d os => cell_regrown (show wr.cell? ⟨g0, o0 + (k - 1) * 4 + 1, none⟩ = some (.int .i64 yk.2.1) from hr0 _ _ hyk 1 _ rfl) d os
              have d2 := fun d os => cell_regrown (show wr.cell? ⟨g0, o0 + (k - 1) * 4 + 2, none⟩ = some (.int .i64 yk.2.2.1) from hr0 _ _ hyk 2 _ rfl) d os
              have d3 := fun d os => cell_regrown (show wr.cell? ⟨g0, o0 + (k - 1) * 4 + 3, none⟩ = some (.int .i64 yk.2.2.2) from hr0 _ _ hyk 3 _ rfl) d os
              have HKP := Lib.hid (show k = (k - 1) + 1 by omega)
              have HGD := Lib.hid hgd
              clear hyk hbk hgd ro hr0
              cases hah : ahB xi yk
              · as_aux_lemma =>
                have HAV := Lib.hid hah
                rw [hah] at HAH
                clear hah
                go_wp2_with fail
                refine wp_region_quiet_below (by kernel_rfl) (by kernel_rfl) ?_
                repeat (go_big_quiet_step (exact Calls.regrown_of (HAH.out _)))
                refine wpQuiet_nil ?_
                intro w' hw'
                obtain ⟨rg, rfl⟩ := hw'
                generalize hW4 : Go.Sort.grow (redrawn wr rg.d) rg.os = w4
                have k4 : Below wr.heap.size wr w4 := by rw [← hW4]; exact below_regrown wr _ _
                clear hW4 c0 c1 c2 c3 d0 d1 d2 d3
                have HF := Lib.hid (And.intro (show L.length ≤ cap from HCAP.out.1) (And.intro (hl.out.on k4) (And.intro (HRD.out.on k4) (And.intro (HRO.out.on k4) (And.intro (X.on k4) (And.intro (Z.on k4) (after HK.out k4)))))))
                clear k4 hl HRD HRO X Z HK
                have hcl : (k : Int) ≤ (cap : Int) := by have := HF.out.1; omega
                have hcl0 : (0 : Int) ≤ (k : Int) := by omega
                have hkl : (k : Int) ≤ (L.length : Int) := by omega
                have hc0 : ¬ cap = 0 := by have := HF.out.1; omega
                have hc1 : k ≤ cap := by have := HF.out.1; omega
                have HLB := Lib.hid (show L.length ≤ 100000 from mer_len HMB.out.1 hmer.out)
                have HPOS := Lib.hid (show posn xi L L.length = k from by rw [hpos.out, HKP.out, posn_stop (by rw [HGD.out]; exact HAV.out)])
                obtain ⟨v1, w5, hrun1, O1, hb1⟩ := run_rows (P := Try.prog) (ts := 66) (ty := 66) (enc := encX) (w := w4) (base := w4.heap.size) (xs := ([] : List X4)) (ys := L.take k) (q := some ⟨g0, o0, none⟩) (m := k) (c := cap) (v := .slice none 0 0) Try.underlying66 infX rfl (by decide) (by decide) lenX (fun _ _ u hu => oneX hu) Owns.nil (by rw [List.length_take]; omega) (by omega) (HF.out.2.2.1.take k) (by have := HLB.out; simp; omega) (Nat.le_refl _)
                rw [List.nil_append] at O1
                have hA : Below w5.heap.size w5 (w5.alloc (.cells #[.int .i64 xi.1, .int .i64 xi.2.1, .int .i64 xi.2.2.1, .int .i64 xi.2.2.2] 70)) := (Below.refl _ _).alloc (Nat.le_refl _) _
                have hNew : Blk (w5.alloc (.cells #[.int .i64 xi.1, .int .i64 xi.2.1, .int .i64 xi.2.2.1, .int .i64 xi.2.2.2] 70)) w5.heap.size 70 #[.int .i64 xi.1, .int .i64 xi.2.1, .int .i64 xi.2.2.1, .int .i64 xi.2.2.2] := Blk.new' rfl
                obtain ⟨v2, w6, hrun2, O2, -, hb2, -⟩ := run_push (P := Try.prog) (ts := 66) (ty := 66) (enc := encX) (x := xi) (b := w5.heap.size) Try.underlying66 infX rfl (by decide) (by decide) rfl (fun u hu => oneX hu) (O1.on hA)
                  (fun j u hu => by rw [hNew.cell j]; simpa using hu) (by have := HLB.out; rw [List.length_take]; omega) (Nat.le_trans hb1.size hA.size)
                have ro := HF.out.2.2.2.1.on hb1
                have c0 : w5.cell? ⟨go, oo + i * 4, none⟩ = some (.int .i64 xi.1) := ro.at HXI.out (j := 0) rfl
                have c1 : w5.cell? ⟨go, oo + i * 4 + 1, none⟩ = some (.int .i64 xi.2.1) := ro.at HXI.out (j := 1) rfl
                have c2 : w5.cell? ⟨go, oo + i * 4 + 2, none⟩ = some (.int .i64 xi.2.2.1) := ro.at HXI.out (j := 2) rfl
                have c3 : w5.cell? ⟨go, oo + i * 4 + 3, none⟩ = some (.int .i64 xi.2.2.2) := ro.at HXI.out (j := 3) rfl
                clear ro hNew
                by_cases hcn : cap = k
                · have hkL : L.drop k = [] := List.drop_eq_nil_iff.2 (by have := HF.out.1; omega)
                  obtain ⟨v3, w7, hrun3, O3, hb3⟩ := run_rows (P := Try.prog) (ts := 66) (ty := 66) (enc := encX) (w := w6) (base := w4.heap.size) (ys := L.drop k) (q := some ⟨g0, o0, none⟩) (m := L.length - k) (c := cap - k) Try.underlying66 infX rfl (by decide) (by decide) lenX (fun _ _ u hu => oneX hu) O2 (by simp) (by have := HF.out.1; omega) (by rw [hkL]; exact Rd.none) (by have := HLB.out; simp; omega) (Nat.le_trans (Nat.le_trans hb1.size hA.size) hb2.size)
                  have hins : L.take k ++ [xi] ++ L.drop k = insX L xi := by unfold insX; rw [HPOS.out]
                  rw [hins] at O3
                  have hbb := ((hb1.trans (hA.mono hb1.size)).trans hb2).trans hb3
                  have hn4 : N + 2 ≤ w4.heap.size := by have := HF.out.2.2.2.2.2.2.size; have := HG.out; have := HF.out.2.2.2.2.2.1.lt; omega
                  have HEND := Lib.hid (And.intro (O3.mono hn4) (And.intro (HF.out.2.2.2.1.on hbb) (And.intro (HF.out.2.2.2.2.1.on hbb) (And.intro (HF.out.2.2.2.2.2.1.on hbb) (after HF.out.2.2.2.2.2.2 hbb)))))
                  clear O3 O2 hb1 hb2 hb3 hA hins hbb hn4
                  go_wp2_with first
                    | (at_builtin; refine Lib.wpList_append_run _ rfl _ _ _ _ rfl _ _ rfl rfl _ _ hrun1 ?_)
                    | (at_builtin; refine Lib.wpList_append_run _ rfl _ _ _ _ rfl _ _ rfl rfl _ _ hrun2 ?_)
                    | (at_builtin; refine Lib.wpList_append_run _ rfl _ _ _ _ rfl _ _ rfl rfl _ _ hrun3 ?_)
                  go_roundw
                  case rel => exact ⟨i + 1, insX L xi, by omega, by go_num, HMX, HEND.out.1, Lib.hid (fun h => absurd h (by unfold insX; simp)), HEND.out.2.1, HEND.out.2.2.1, HEND.out.2.2.2.1, HEND.out.2.2.2.2⟩
                  case measure => simp [intOf]; omega
                · obtain ⟨v3, w7, hrun3, O3, hb3⟩ := run_rows (P := Try.prog) (ts := 66) (ty := 66) (enc := encX) (w := w6) (base := w4.heap.size) (ys := L.drop k) (q := some ⟨g0, o0 + k * 4, none⟩) (m := L.length - k) (c := cap - k) Try.underlying66 infX rfl (by decide) (by decide) lenX (fun _ _ u hu => oneX hu) O2 (by simp) (by have := HF.out.1; omega) ((HF.out.2.2.1.on (hb1.trans (hA.mono hb1.size) |>.trans hb2)).drop k) (by have := HLB.out; simp; omega) (Nat.le_trans (Nat.le_trans hb1.size hA.size) hb2.size)
                  have hins : L.take k ++ [xi] ++ L.drop k = insX L xi := by unfold insX; rw [HPOS.out]
                  rw [hins] at O3
                  have hbb := ((hb1.trans (hA.mono hb1.size)).trans hb2).trans hb3
                  have hn4 : N + 2 ≤ w4.heap.size := by have := HF.out.2.2.2.2.2.2.size; have := HG.out; have := HF.out.2.2.2.2.2.1.lt; omega
                  have HEND := Lib.hid (And.intro (O3.mono hn4) (And.intro (HF.out.2.2.2.1.on hbb) (And.intro (HF.out.2.2.2.2.1.on hbb) (And.intro (HF.out.2.2.2.2.2.1.on hbb) (after HF.out.2.2.2.2.2.2 hbb)))))
                  clear O3 O2 hb1 hb2 hb3 hA hins hbb hn4
                  go_wp2_with first
                    | (at_builtin; refine Lib.wpList_append_run _ rfl _ _ _ _ rfl _ _ rfl rfl _ _ hrun1 ?_)
                    | (at_builtin; refine Lib.wpList_append_run _ rfl _ _ _ _ rfl _ _ rfl rfl _ _ hrun2 ?_)
                    | (at_builtin; refine Lib.wpList_append_run _ rfl _ _ _ _ rfl _ _ rfl rfl _ _ hrun3 ?_)
                  go_roundw
                  case rel => exact ⟨i + 1, insX L xi, by omega, by go_num, HMX, HEND.out.1, Lib.hid (fun h => absurd h (by unfold insX; simp)), HEND.out.2.1, HEND.out.2.2.1, HEND.out.2.2.2.1, HEND.out.2.2.2.2⟩
                  case measure => simp [intOf]; omega
              · as_aux_lemma =>
                have HAV := Lib.hid hah
                rw [hah] at HAH
                clear hah
                go_wp2_with fail
                refine wp_region_quiet_below (by kernel_rfl) (by kernel_rfl) ?_
                repeat (go_big_quiet_step (exact Calls.regrown_of (HAH.out _)))
                refine wpQuiet_nil ?_
                intro w' hw'
                obtain ⟨rg, rfl⟩ := hw'
                generalize hW4 : Go.Sort.grow (redrawn wr rg.d) rg.os = w4
                have k4 : Below wr.heap.size wr w4 := by rw [← hW4]; exact below_regrown wr _ _
                clear hW4 c0 c1 c2 c3 d0 d1 d2 d3
                have HF := Lib.hid (And.intro (hl.out.on k4) (And.intro (HRD.out.on k4) (And.intro (HRO.out.on k4) (And.intro (X.on k4) (And.intro (Z.on k4) (after HK.out k4))))))
                clear k4 hl HRD HRO X Z HK
                have hkl : (k : Int) - 1 ≤ 9223372036854775807 := by have := HCAP.out; omega
                have hkl2 : -9223372036854775808 ≤ (k : Int) - 1 := by omega
                go_wp2_with fail
                go_roundw
                case rel => exact ⟨k - 1, by omega, by have := HKP.out; congr 1; omega, Lib.hid (by rw [hpos.out, HKP.out]; exact posn_step (by rw [HGD.out]; exact HAV.out)), HF.out.1, HF.out.2.1, HF.out.2.2.1, HF.out.2.2.2.1, HF.out.2.2.2.2.1, HF.out.2.2.2.2.2⟩
                case measure => simp [intOf]; omega
            · obtain rfl : k = 0 := by omega
              by_cases hLn : L = []
              · as_aux_lemma =>
                subst hLn
                have hq := hnil.out rfl
                simp only [List.length_nil, Value.slice.injEq, true_and] at hq
                obtain ⟨rfl, rfl⟩ := hq
                go_wp2_with fail
                refine wp_region_quiet_below (by kernel_rfl) (by kernel_rfl) ?_
                repeat (go_big_quiet_step (fail))
                refine wpQuiet_nil ?_
                intro w' hw'
                obtain ⟨rg, rfl⟩ := hw'
                generalize hW4 : Go.Sort.grow (redrawn wr rg.d) rg.os = w4
                have k4 : Below wr.heap.size wr w4 := by rw [← hW4]; exact below_regrown wr _ _
                clear hW4
                have HF := Lib.hid (And.intro (show ([] : List X4).length ≤ 0 from Nat.le_refl _) (And.intro (hl.out.on k4) (And.intro (HRD.out.on k4) (And.intro (HRO.out.on k4) (And.intro (X.on k4) (And.intro (Z.on k4) (after HK.out k4)))))))
                have HLB := Lib.hid (show ([] : List X4).length ≤ 100000 from mer_len HMB.out.1 hmer.out)
                have HPOS := Lib.hid (show posn xi ([] : List X4) ([] : List X4).length = 0 from rfl)
                obtain ⟨v1, w5, hrun1, O1, hb1⟩ := run_rows (P := Try.prog) (ts := 66) (ty := 66) (enc := encX) (w := w4) (base := w4.heap.size) (xs := ([] : List X4)) (ys := ([] : List X4).take 0) (q := none) (m := 0) (c := 0) (v := .slice none 0 0) Try.underlying66 infX rfl (by decide) (by decide) lenX (fun _ _ u hu => oneX hu) Owns.nil (by simp) (by omega) (Rd.none) (by have := HLB.out; simp <;> omega) (Nat.le_refl _)
                rw [List.nil_append] at O1
                have hA : Below w5.heap.size w5 (w5.alloc (.cells #[.int .i64 xi.1, .int .i64 xi.2.1, .int .i64 xi.2.2.1, .int .i64 xi.2.2.2] 70)) := (Below.refl _ _).alloc (Nat.le_refl _) _
                have hNew : Blk (w5.alloc (.cells #[.int .i64 xi.1, .int .i64 xi.2.1, .int .i64 xi.2.2.1, .int .i64 xi.2.2.2] 70)) w5.heap.size 70 #[.int .i64 xi.1, .int .i64 xi.2.1, .int .i64 xi.2.2.1, .int .i64 xi.2.2.2] := Blk.new' rfl
                obtain ⟨v2, w6, hrun2, O2, -, hb2, -⟩ := run_push (P := Try.prog) (ts := 66) (ty := 66) (enc := encX) (x := xi) (b := w5.heap.size) Try.underlying66 infX rfl (by decide) (by decide) rfl (fun u hu => oneX hu) (O1.on hA)
                  (fun j u hu => by rw [hNew.cell j]; simpa using hu) (by have := HLB.out; rw [List.length_take]; omega) (Nat.le_trans hb1.size hA.size)
                have ro := HF.out.2.2.2.1.on hb1
                have c0 : w5.cell? ⟨go, oo + i * 4, none⟩ = some (.int .i64 xi.1) := ro.at HXI.out (j := 0) rfl
                have c1 : w5.cell? ⟨go, oo + i * 4 + 1, none⟩ = some (.int .i64 xi.2.1) := ro.at HXI.out (j := 1) rfl
                have c2 : w5.cell? ⟨go, oo + i * 4 + 2, none⟩ = some (.int .i64 xi.2.2.1) := ro.at HXI.out (j := 2) rfl
                have c3 : w5.cell? ⟨go, oo + i * 4 + 3, none⟩ = some (.int .i64 xi.2.2.2) := ro.at HXI.out (j := 3) rfl
                clear ro hNew
                obtain ⟨v3, w7, hrun3, O3, hb3⟩ := run_rows (P := Try.prog) (ts := 66) (ty := 66) (enc := encX) (w := w6) (base := w4.heap.size) (ys := ([] : List X4).drop 0) (q := none) (m := ([] : List X4).length - 0) (c := 0) Try.underlying66 infX rfl (by decide) (by decide) lenX (fun _ _ u hu => oneX hu) O2 (by simp) (by have := HF.out.1; omega) (Rd.none) (by have := HLB.out; simp <;> omega) (Nat.le_trans (Nat.le_trans hb1.size hA.size) hb2.size)
                have hins : ([] : List X4).take 0 ++ [xi] ++ ([] : List X4).drop 0 = insX ([] : List X4) xi := by unfold insX; rw [HPOS.out]
                rw [hins] at O3
                have hbb := ((hb1.trans (hA.mono hb1.size)).trans hb2).trans hb3
                have hn4 : N + 2 ≤ w4.heap.size := by have := HF.out.2.2.2.2.2.2.size; have := HG.out; have := HF.out.2.2.2.2.2.1.lt; omega
                have HEND := Lib.hid (And.intro (O3.mono hn4) (And.intro (HF.out.2.2.2.1.on hbb) (And.intro (HF.out.2.2.2.2.1.on hbb) (And.intro (HF.out.2.2.2.2.2.1.on hbb) (after HF.out.2.2.2.2.2.2 hbb)))))
                clear O3 O2 hb1 hb2 hb3 hA hins hbb hn4
                go_wp2_with first
                  | (at_builtin; refine Lib.wpList_append_run _ rfl _ _ _ _ rfl _ _ rfl rfl _ _ hrun1 ?_)
                  | (at_builtin; refine Lib.wpList_append_run _ rfl _ _ _ _ rfl _ _ rfl rfl _ _ hrun2 ?_)
                  | (at_builtin; refine Lib.wpList_append_run _ rfl _ _ _ _ rfl _ _ rfl rfl _ _ hrun3 ?_)
                go_roundw
                case rel => exact ⟨i + 1, insX ([] : List X4) xi, by omega, by go_num, HMX, HEND.out.1, Lib.hid (fun h => absurd h (by unfold insX; simp)), HEND.out.2.1, HEND.out.2.2.1, HEND.out.2.2.2.1, HEND.out.2.2.2.2⟩
                case measure => simp [intOf]; omega
              · as_aux_lemma =>
                have hLp : 0 < L.length := List.length_pos_iff.2 hLn
                obtain ⟨g0, o0, hg0, hr0⟩ := HRD.out hLp
                subst hg0
                clear hr0 hLn
                go_wp2_with fail
                refine wp_region_quiet_below (by kernel_rfl) (by kernel_rfl) ?_
                repeat (go_big_quiet_step (fail))
                refine wpQuiet_nil ?_
                intro w' hw'
                obtain ⟨rg, rfl⟩ := hw'
                generalize hW4 : Go.Sort.grow (redrawn wr rg.d) rg.os = w4
                have k4 : Below wr.heap.size wr w4 := by rw [← hW4]; exact below_regrown wr _ _
                clear hW4
                have HF := Lib.hid (And.intro (show L.length ≤ cap from HCAP.out.1) (And.intro (hl.out.on k4) (And.intro (HRD.out.on k4) (And.intro (HRO.out.on k4) (And.intro (X.on k4) (And.intro (Z.on k4) (after HK.out k4)))))))
                have hc0 : ¬ cap = 0 := by have := HF.out.1; omega
                have HLB := Lib.hid (show L.length ≤ 100000 from mer_len HMB.out.1 hmer.out)
                have HPOS := Lib.hid (show posn xi L L.length = 0 from hpos.out)
                obtain ⟨v1, w5, hrun1, O1, hb1⟩ := run_rows (P := Try.prog) (ts := 66) (ty := 66) (enc := encX) (w := w4) (base := w4.heap.size) (xs := ([] : List X4)) (ys := L.take 0) (q := some ⟨g0, o0, none⟩) (m := 0) (c := cap) (v := .slice none 0 0) Try.underlying66 infX rfl (by decide) (by decide) lenX (fun _ _ u hu => oneX hu) Owns.nil (by simp) (by omega) (HF.out.2.2.1.take 0) (by have := HLB.out; simp <;> omega) (Nat.le_refl _)
                rw [List.nil_append] at O1
                have hA : Below w5.heap.size w5 (w5.alloc (.cells #[.int .i64 xi.1, .int .i64 xi.2.1, .int .i64 xi.2.2.1, .int .i64 xi.2.2.2] 70)) := (Below.refl _ _).alloc (Nat.le_refl _) _
                have hNew : Blk (w5.alloc (.cells #[.int .i64 xi.1, .int .i64 xi.2.1, .int .i64 xi.2.2.1, .int .i64 xi.2.2.2] 70)) w5.heap.size 70 #[.int .i64 xi.1, .int .i64 xi.2.1, .int .i64 xi.2.2.1, .int .i64 xi.2.2.2] := Blk.new' rfl
                obtain ⟨v2, w6, hrun2, O2, -, hb2, -⟩ := run_push (P := Try.prog) (ts := 66) (ty := 66) (enc := encX) (x := xi) (b := w5.heap.size) Try.underlying66 infX rfl (by decide) (by decide) rfl (fun u hu => oneX hu) (O1.on hA)
                  (fun j u hu => by rw [hNew.cell j]; simpa using hu) (by have := HLB.out; rw [List.length_take]; omega) (Nat.le_trans hb1.size hA.size)
                have ro := HF.out.2.2.2.1.on hb1
                have c0 : w5.cell? ⟨go, oo + i * 4, none⟩ = some (.int .i64 xi.1) := ro.at HXI.out (j := 0) rfl
                have c1 : w5.cell? ⟨go, oo + i * 4 + 1, none⟩ = some (.int .i64 xi.2.1) := ro.at HXI.out (j := 1) rfl
                have c2 : w5.cell? ⟨go, oo + i * 4 + 2, none⟩ = some (.int .i64 xi.2.2.1) := ro.at HXI.out (j := 2) rfl
                have c3 : w5.cell? ⟨go, oo + i * 4 + 3, none⟩ = some (.int .i64 xi.2.2.2) := ro.at HXI.out (j := 3) rfl
                clear ro hNew
                obtain ⟨v3, w7, hrun3, O3, hb3⟩ := run_rows (P := Try.prog) (ts := 66) (ty := 66) (enc := encX) (w := w6) (base := w4.heap.size) (ys := L.drop 0) (q := some ⟨g0, o0, none⟩) (m := L.length - 0) (c := cap) Try.underlying66 infX rfl (by decide) (by decide) lenX (fun _ _ u hu => oneX hu) O2 (by simp) (by have := HF.out.1; omega) ((HF.out.2.2.1.on (hb1.trans (hA.mono hb1.size) |>.trans hb2))) (by have := HLB.out; simp <;> omega) (Nat.le_trans (Nat.le_trans hb1.size hA.size) hb2.size)
                have hins : L.take 0 ++ [xi] ++ L.drop 0 = insX L xi := by unfold insX; rw [HPOS.out]
                rw [hins] at O3
                have hbb := ((hb1.trans (hA.mono hb1.size)).trans hb2).trans hb3
                have hn4 : N + 2 ≤ w4.heap.size := by have := HF.out.2.2.2.2.2.2.size; have := HG.out; have := HF.out.2.2.2.2.2.1.lt; omega
                have HEND := Lib.hid (And.intro (O3.mono hn4) (And.intro (HF.out.2.2.2.1.on hbb) (And.intro (HF.out.2.2.2.2.1.on hbb) (And.intro (HF.out.2.2.2.2.2.1.on hbb) (after HF.out.2.2.2.2.2.2 hbb)))))
                clear O3 O2 hb1 hb2 hb3 hA hins hbb hn4
                go_wp2_with first
                  | (at_builtin; refine Lib.wpList_append_run _ rfl _ _ _ _ rfl _ _ rfl rfl _ _ hrun1 ?_)
                  | (at_builtin; refine Lib.wpList_append_run _ rfl _ _ _ _ rfl _ _ rfl rfl _ _ hrun2 ?_)
                  | (at_builtin; refine Lib.wpList_append_run _ rfl _ _ _ _ rfl _ _ rfl rfl _ _ hrun3 ?_)
                go_roundw
                case rel => exact ⟨i + 1, insX L xi, by omega, by go_num, HMX, HEND.out.1, Lib.hid (fun h => absurd h (by unfold insX; simp)), HEND.out.2.1, HEND.out.2.2.1, HEND.out.2.2.2.1, HEND.out.2.2.2.2⟩
                case measure => simp [intOf]; omega
        · have hin : i = no := by omega
          have HMN := Lib.hid (show Mer p m (ax + 1) 0 L from (by
            have h := hmer.out
            rw [hin, ← HNO.out] at h
            exact h.next))
          have hil2 : ¬ (i : Int) < no := by omega
          have hax9 : (ax : Int) + 1 ≤ 9223372036854775807 := by omega
          have hax8 : -9223372036854775808 ≤ (ax : Int) + 1 := by omega
          clear hin hmer HRO
          go_wp2_with fail
          go_roundw
          case rel => exact ⟨ax + 1, L, by omega, by go_num, HMN, hl, hnil, X, Z, HK⟩
          case measure => simp [intOf]; omega
    · obtain rfl : ax = 3 := by omega
      obtain ⟨q, cap, rfl, hcap, hcapm, hrd, hqb, -⟩ := hl.out.form lenX
      have hml : cap ≤ 9223372036854775807 := by unfold maxLen at hcapm; exact hcapm
      have HRD := Lib.hid hrd
      have hin0 : inR RR (0, 0, 0) = true := inR_of fun b hb => by
        have : kc (0, 0, 0) b = 0 := by rcases lt3 hb with rfl | rfl | rfl <;> rfl
        rw [this]; exact HMB.out.2.1
      have htr : traceP p RR = (cellK p (0, 0, 0), -1, 0) :: refL p RR (0, 0, 0) L := tr_ref p RR m (fun b hb => (HP.out.1.s0 b hb).1) HMB.out.2.2 (by have := HM.out; omega) 200 (0, 0, 0) L (-1) 0 rfl hin0 hmer.out.sorted hmer.out.fast hmer.out.axes (fun b hb => by
        have : kc (0, 0, 0) b = 0 := by rcases lt3 hb with rfl | rfl | rfl <;> rfl
        rw [this, List.drop_zero]; exact hmer.out.done b hb)
      have HTR := Lib.hid htr
      have HIN0 := Lib.hid hin0
      have hLl := mer_len HMB.out.1 hmer.out
      have HLL := Lib.hid (And.intro hLl (And.intro hcap hml))
      have HQB0 := Lib.hid fun a ha => (hqb a ha).2
      clear hcap hcapm hrd hl hnil htr hin0 hLl hml hqb
      obtain ⟨x0, x1, x2, -, -, -⟩ := X.c3
      have HOF := Lib.hid fun w => rof_c x y z w
      have hax : ¬ ((3 : Nat) : Int) < 3 := by omega
      clear hlt hax
      go_upto_region 19 with (go_at_call 24; refine (HOF.out _).mono ?_; rintro e_ w3 ⟨rfl, k3⟩)
      clear x0 x1 x2 HOF
      have hz3 : g < w3.heap.size := Nat.lt_of_lt_of_le Z.lt k3.size
      have HZW := Lib.hid k3.size
      replace X := X.on k3
      replace HRD := Lib.hid (HRD.out.on k3)
      replace HK := Lib.hid (after HK.out k3)
      clear k3 Z
      generalize hg3 : w3.heap.size = g3 at hz3 ⊢
      generalize hV : World.alloc w3 _ = w4
      have hz4 : w4.heap.size = g3 + 1 := by rw [← hV]; simp [hg3]
      have D : Blk w4 g3 29 #[.int .i64 p.c.1, .int .i64 p.c.2.1, .int .i64 p.c.2.2] := by rw [← HPC.out]; exact Blk.eqw hV (Blk.new' hg3.symm)
      have k4 : Below w3.heap.size w3 w4 := by rw [← hV]; exact (Below.refl _ _).alloc (Nat.le_refl _) _
      replace X := X.on k4
      replace HRD := Lib.hid (HRD.out.on k4)
      replace HK := Lib.hid (after HK.out k4)
      have HQB := Lib.hid (fun (a : Addr) (ha : q = some a) => show a.block < g3 by have := HQB0.out a ha; have := HZW.out; omega)
      have HG3 := Lib.hid (show N + 2 ≤ g3 by have := HG.out; omega)
      clear hV hg3 k4 hz3
      obtain ⟨d0, d1, d2, -, -, -⟩ := D.c3
      go_upto_region 20 with (fail)
      generalize hV : World.alloc w4 _ = w5
      have hz5 : w5.heap.size = g3 + 2 := by rw [← hV]; simp [hz4]
      have E : Blk w5 (g3 + 1) 37 #[.int .i64 p.c.1, .int .i64 p.c.2.1, .int .i64 p.c.2.2, .int .i64 0, .int .i64 (-1), .int .i64 0] := Blk.eqw hV (Blk.new' hz4.symm)
      have k5 : Below w4.heap.size w4 w5 := by rw [← hV]; exact (Below.refl _ _).alloc (Nat.le_refl _) _
      replace X := X.on k5
      replace D := D.on k5
      replace HRD := Lib.hid (HRD.out.on k5)
      replace HK := Lib.hid (after HK.out k5)
      clear hV k5 hz4 d0 d1 d2
      obtain ⟨⟨e0, e1, e2, e3, e4, e5⟩, -, -, -, -, -, -⟩ := E.c6
      go_upto_region 21 with (fail)
      generalize hV : World.alloc w5 _ = w6
      have hz6 : w6.heap.size = g3 + 3 := by rw [← hV]; simp [hz5]
      have O : Blk w6 (g3 + 2) 37 #[.int .i64 p.c.1, .int .i64 p.c.2.1, .int .i64 p.c.2.2, .int .i64 0, .int .i64 (-1), .int .i64 0] := Blk.eqw hV (Blk.new' hz5.symm)
      have k6 : Below w5.heap.size w5 w6 := by rw [← hV]; exact (Below.refl _ _).alloc (Nat.le_refl _) _
      replace X := X.on k6
      replace D := D.on k6
      replace E := E.on k6
      replace HRD := Lib.hid (HRD.out.on k6)
      replace HK := Lib.hid (after HK.out k6)
      clear hV k6 hz5 e0 e1 e2 e3 e4 e5
      have hc0 : cellK p (0, 0, 0) = p.c := by simp [cellK]
      have hO : Owns w6 (g3 + 2) 37 6 encH6 (.slice (some ⟨g3 + 2, 0, none⟩) 1 1) [(cellK p (0, 0, 0), -1, 0)] := owns_one O (Nat.le_refl _) (by rw [hc0]) rfl
      have HO := Lib.hid hO
      rw [← hc0] at E
      have HSZ := Lib.hid (show g3 + 3 ≤ w6.heap.size from Nat.le_of_eq hz6.symm)
      clear hO O hz6 hc0
      have HMER := Lib.hid (And.intro hmer.out.axes (mer_in hmer.out))
      clear hmer
      go_upto_region 22 with (fail)
      go_loopw [16, 17] (fun o t wr => ∃ (i : Nat) (k : K3) (face time : Int) (outs : List RH), i ≤ L.length ∧ t = .int .i64 i ∧ Hid (inR RR k = true ∧ outs ++ refL p RR k (L.drop i) = traceP p RR) ∧ Hid (Owns wr (g3 + 2) 37 6 encH6 o outs) ∧
        Blk wr (g3 + 1) 37 #[.int .i64 (cellK p k).1, .int .i64 (cellK p k).2.1, .int .i64 (cellK p k).2.2, .int .i64 0, .int .i64 face, .int .i64 time] ∧ Blk wr g3 29 #[.int .i64 p.c.1, .int .i64 p.c.2.1, .int .i64 p.c.2.2] ∧ Hid (Rd wr q 4 encX L) ∧ Hid (g3 + 3 ≤ wr.heap.size) ∧ Hid (Below w.heap.size w wr)) (fun _ t _ => L.length - (intOf t).toNat)
      case atStart => exact ⟨0, (0, 0, 0), -1, 0, _, Nat.zero_le _, rfl, ⟨HIN0.out, by rw [HTR.out, List.drop_zero]; rfl⟩, HO, E, D, HRD, HSZ, HK⟩
      case round =>
        clear X D E HO HRD HSZ HK
        obtain ⟨i, k, face, time, outs, hi, rfl, hst, hO, E, D, HRD, HSZ, HK⟩ := hrel
        by_cases hil : i < L.length
        · obtain ⟨xi, hxi⟩ : ∃ xi, L[i]? = some xi := ⟨_, List.getElem?_eq_getElem hil⟩
          obtain ⟨go, oo, hqo, hro⟩ := HRD.out (by omega)
          subst hqo
          obtain ⟨bb, hb3, hxb, hxm⟩ := HMER.out.2 xi (List.mem_of_getElem? hxi)
          obtain ⟨jj, hj, hs0, hxe⟩ := crA_mem hxm
          have hdr : L.drop i = xi :: L.drop (i + 1) := by
            rw [List.drop_eq_getElem_cons hil]
            rw [List.getElem?_eq_getElem hil] at hxi
            rw [Option.some.inj hxi]
          have hst2 := hst.out
          rw [hdr] at hst2
          have hnb := near_fore HP.out.1 (k := k) hb3
          have hul := HP.out.1.u0 bb hb3
          have hsl := HP.out.1.s0 bb hb3
          have hk64 := inR_kc hst2.1
          have HK64 := Lib.hid hk64
          rcases hck : cellK p k with ⟨cx, cy, cz⟩
          rw [hck] at E hnb
          have HNR := Lib.hid fun w => rnear_k HP.out.1 HP.out.2 (fun b hb => by have := HK64.out b hb; have := HMB.out; omega) hck w
          clear hck hdr hxm hst hk64
          generalize hus : comp p.u bb = us at hxe hnb hul
          generalize hsp : comp p.s bb = sp at hxe hs0 hsl
          generalize hlf : comp p.l bb + 65536 * (jj : Int) = lf at hxe
          subst hxe
          have HQU := Lib.hid fun w => calls_bel (quotient_c lf sp (by unfold cutI; omega) w)
          have hi9 : (i : Int) + 1 ≤ 9223372036854775807 := by have := HLL.out; omega
          have hi8 : -9223372036854775808 ≤ (i : Int) + 1 := by omega
          have hi0 : (0 : Int) ≤ (i : Int) := by omega
          have hil2 : (i : Int) < (L.length : Int) := by omega
          generalize hqv : quoI lf sp = tm at HQU
          have HQV := Lib.hid hqv
          have HOK := Lib.hid (near_ok (k := bump k bb) HP.out.1 HP.out.2 (fun b hb => by have := HK64.out b hb; have := HMB.out; rw [kc_bump k hb3 hb]; split <;> omega))
          have HHB := Lib.hid (And.intro hb3 (And.intro hs0 (And.intro hsl hul)))
          have c0 : wr.cell? ⟨go, oo + i * 4, none⟩ = some (.int .i64 (bb : Int)) := hro i _ hxi 0 _ rfl
          have c1 : wr.cell? ⟨go, oo + i * 4 + 1, none⟩ = some (.int .i64 us) := hro i _ hxi 1 _ rfl
          have c2 : wr.cell? ⟨go, oo + i * 4 + 2, none⟩ = some (.int .i64 lf) := hro i _ hxi 2 _ rfl
          have c3 : wr.cell? ⟨go, oo + i * 4 + 3, none⟩ = some (.int .i64 sp) := hro i _ hxi 3 _ rfl
          have HNB := Lib.hid hnb
          have HST := Lib.hid hst2
          clear hro hxi hxb hs0 hsl hqv hlf hsp hus hnb hst2
          rcases hcn : cellK p (bump k bb) with ⟨n0x, n1x, n2x⟩
          have hnv := near_vals (cx := cx) (cy := cy) (cz := cz) hb3 hul (HNB.out.trans hcn)
          have HNV := Lib.hid hnv
          clear hnv
          have hfar : ∀ v, inR RR (bump k bb) = v → ∀ w, Calls Try.prog 38 #[.agg #[.int .i64 p.c.1, .int .i64 p.c.2.1, .int .i64 p.c.2.2], .agg #[.int .i64 n0x, .int .i64 n1x, .int .i64 n2x], .int .i64 RR] w fun r w' => r = .returned (.bool (!v)) ∧ Below w.heap.size w w' := fun v hv w => by
            have h := far_c p.c (cellK p (bump k bb)) RR HOK.out.1 HOK.out.2.1 w
            rw [far_in HP.out.1 HMB.out.2.1, hv, hcn] at h
            exact h
          have HFAR := Lib.hid hfar
          have HCN := Lib.hid hcn
          clear hcn hfar
          go_upto_region 25 with (fail)
          generalize hV : World.alloc wr _ = w7
          have k7 : Below wr.heap.size wr w7 := by rw [← hV]; exact (Below.refl _ _).alloc (Nat.le_refl _) _
          have XB : Blk w7 wr.heap.size 70 #[.int .i64 (bb : Int), .int .i64 us, .int .i64 lf, .int .i64 sp] := Blk.eqw hV (Blk.new' rfl)
          replace E := E.on k7
          replace D := D.on k7
          replace hO := Lib.hid (hO.out.on k7)
          replace HRD := Lib.hid (HRD.out.on k7)
          replace HK := Lib.hid (after HK.out k7)
          have HSZ7 := Lib.hid (show g3 + 3 ≤ wr.heap.size ∧ wr.heap.size < w7.heap.size from ⟨HSZ.out, XB.lt⟩)
          generalize wr.heap.size = gx at XB HSZ7 ⊢
          clear hV k7 c0 c1 c2 c3 HSZ
          obtain ⟨⟨e0, e1, e2, e3, e4, e5⟩, -, -, -, -, -, -⟩ := E.c6
          go_upto_region 26 with (go_at_call 19; refine (HNR.out _).mono ?_; rintro e_ w8 ⟨rfl, k8⟩)
          clear e0 e1 e2 e3 e4 e5
          generalize hV : World.alloc w8 _ = w9
          have k9 : Below w7.heap.size w7 w9 := by rw [← hV]; exact k8.alloc k8.size _
          have NB : Blk w9 w8.heap.size 47 (nearP cx cy cz) := Blk.eqw hV (Blk.new' rfl)
          generalize w8.heap.size = gn at NB ⊢
          replace XB := XB.on k9
          replace E := E.on k9
          replace D := D.on k9
          replace hO := Lib.hid (hO.out.on k9)
          replace HRD := Lib.hid (HRD.out.on k9)
          replace HK := Lib.hid (after HK.out k9)
          replace HSZ7 := Lib.hid (show g3 + 3 ≤ w9.heap.size by have := HSZ7.out; have := k9.size; omega)
          clear hV k8 k9
          have hw0 : IntKind.i64.wrap (2 * (bb : Int)) = 2 * (bb : Int) := IntWalk.i64_in _ (by omega)
          have hw1 : IntKind.i64.wrap (2 * (bb : Int) + us) = 2 * (bb : Int) + us := IntWalk.i64_in _ (by omega)
          have hw2 : IntKind.i64.wrap (2 * (bb : Int) + 1) = 2 * (bb : Int) + 1 := IntWalk.i64_in _ (by omega)
          have hw3 : IntKind.i64.wrap (2 * (bb : Int) + 1 - us) = 2 * (bb : Int) + 1 - us := IntWalk.i64_in _ (by omega)
          have hw4 : 0 ≤ 2 * (bb : Int) + us := by omega
          have hw5 : 2 * (bb : Int) + us < 6 := by omega
          have f0 := fun d os => (XB.re d os).cell 0
          have f1 := fun d os => (XB.re d os).cell 1
          have f2 := fun d os => (XB.re d os).cell 2
          have f3 := fun d os => (XB.re d os).cell 3
          have n0 := fun d os => ((NB.re d os).cell ((2 * (bb : Int) + us).toNat * 3)).trans HNV.out.1
          have n1 := fun d os => ((NB.re d os).cell ((2 * (bb : Int) + us).toNat * 3 + 1)).trans HNV.out.2.1
          have n2 := fun d os => ((NB.re d os).cell ((2 * (bb : Int) + us).toNat * 3 + 2)).trans HNV.out.2.2
          refine wp_sched [0, 0, 0, 0, 0, 0, 0, 0, 0, 0, 0, 0, 0, 0, 0, 0, 0, 0, 0, 0, 0, 3] (fun _ _ _ => True) (by kernel_rfl) (by kernel_rfl) (fun _ _ _ _ h _ => h) ?_
          repeat (first | (refine wpQs_s ?_) | (refine wpQs_q (fun K hK => ?_); go_simp; first | (refine hK _ ?_; clear hK K) | (apply Exists.intro; refine ⟨fun _ => ?_, hK _ ?_⟩; (exact HQU.out _); clear hK K)) | (refine wpQs_f (fun K hK => ?_); go_simp; refine hK _ ?_; clear hK K))
          refine wpQs_nil ?_
          repeat (first | (refine wpLs_skip ?_) | (refine wpLs_one ?lsA (fun v_ => ?_); case lsA => (intro w_ hw_ hp_; (fail))))
          refine wpLs_nilB ?_
          simp only [tails]
          intro w10 k10 _
          clear f0 f1 f2 f3 n0 n1 n2 NB XB hw0 hw1 hw2 hw3 hw4 hw5
          replace E := E.on k10
          replace D := D.on k10
          replace hO := Lib.hid (hO.out.on k10)
          replace HRD := Lib.hid (HRD.out.on k10)
          replace HK := Lib.hid (after HK.out k10)
          replace HSZ7 := Lib.hid (Nat.le_trans HSZ7.out k10.size)
          clear k10
          obtain ⟨⟨e0, e1, e2, e3, e4, e5⟩, s0, s1, s2, s3, s4, s5⟩ := E.c6
          go_upto_region 27 with (fail)
          generalize hV : World.setCell (World.setCell (World.setCell (World.setCell (World.setCell (World.setCell w10 _ _) _ _) _ _) _ _) _ _) _ _ = w11
          have K11 : Kept (fun c => c ≠ g3 + 1) w10 w11 := by rw [← hV]; exact kept6
          replace E : Blk w11 (g3 + 1) 37 #[.int .i64 n0x, .int .i64 n1x, .int .i64 n2x, .int .i64 0, .int .i64 (2 * (bb : Int) + 1 - us), .int .i64 tm] := Blk.eqw hV (E.st6 _ _ _ _ _ _)
          clear hV e0 e1 e2 e3 e4 e5 s0 s1 s2 s3 s4 s5
          replace D := K11.blk (show g3 ≠ g3 + 1 by omega) D
          replace hO := Lib.hid (hO.out.kept (fun g hg hgs => K11.block g hgs (show g ≠ g3 + 1 by omega)))
          replace HRD := Lib.hid (rd_kept HRD.out K11 (fun (a : Addr) ha => show a.block ≠ g3 + 1 by have := HQB.out a ha; omega))
          replace HK := Lib.hid (HK.out.trans (K11.below (n := w.heap.size) HK.out.size (fun b hb => show b ≠ g3 + 1 by have := HN.out; have := HG3.out; omega)))
          replace HSZ7 := Lib.hid (Nat.le_trans HSZ7.out K11.size)
          clear K11
          obtain ⟨⟨e0, e1, e2, e3, e4, e5⟩, -, -, -, -, -, -⟩ := E.c6
          obtain ⟨d0, d1, d2, -, -, -⟩ := D.c3
          cases hv : inR RR (bump k bb)
          · have HF1 := Lib.hid (HFAR.out false hv)
            have HE := Lib.hid (show outs = traceP p RR by
              have h := HST.out.2
              rw [refL_out hv] at h
              simpa using h)
            clear hv HFAR
            go_wp2_with (go_at_call 38; refine (HF1.out _).mono ?_; rintro e_ w12 ⟨rfl, k12⟩)
            go_returns
            exact ⟨_, rfl, by rw [HSEE.out, ← HE.out]; exact (hO.out.on k12).mono (by have := HN.out; have := HG3.out; omega), after HK.out k12⟩
          · have HF1 := Lib.hid (HFAR.out true hv)
            have HV := Lib.hid hv
            clear hv HFAR
            go_upto_region 28 with (go_at_call 38; refine (HF1.out _).mono ?_; rintro e_ w12 ⟨rfl, k12⟩)
            clear e0 e1 e2 e3 e4 e5 d0 d1 d2
            replace E := E.on k12
            replace D := D.on k12
            replace hO := Lib.hid (hO.out.on k12)
            replace HRD := Lib.hid (HRD.out.on k12)
            replace HK := Lib.hid (after HK.out k12)
            replace HSZ7 := Lib.hid (Nat.le_trans HSZ7.out k12.size)
            clear k12
            obtain ⟨⟨e0, e1, e2, e3, e4, e5⟩, -, -, -, -, -, -⟩ := E.c6
            have hA : Below w12.heap.size w12 (w12.alloc (.cells #[.int .i64 n0x, .int .i64 n1x, .int .i64 n2x, .int .i64 0, .int .i64 (2 * (bb : Int) + 1 - us), .int .i64 tm] 37)) := (Below.refl _ _).alloc (Nat.le_refl _) _
            have hNew : Blk (w12.alloc (.cells #[.int .i64 n0x, .int .i64 n1x, .int .i64 n2x, .int .i64 0, .int .i64 (2 * (bb : Int) + 1 - us), .int .i64 tm] 37)) w12.heap.size 37 #[.int .i64 n0x, .int .i64 n1x, .int .i64 n2x, .int .i64 0, .int .i64 (2 * (bb : Int) + 1 - us), .int .i64 tm] := Blk.new' rfl
            have hol : outs.length ≤ 200 := out_len HMB.out.2.1 HMB.out.2.2 HST.out.2
            obtain ⟨v', w', hrun, V2, -, hb2, -⟩ := run_push (P := Try.prog) (ts := 50) (ty := 50) (enc := encH6) (x := ((n0x, n1x, n2x), 2 * (bb : Int) + 1 - us, tm)) (b := w12.heap.size) Try.underlying50 infH rfl (by decide) (by decide) rfl (fun u hu => oneH hu) (hO.out.on hA)
              (fun j u hu => by rw [hNew.cell j]; simpa using hu) (by omega) (by have := HSZ7.out; have := hA.size; omega)
            have HO2 := Lib.hid V2
            have hbz := HSZ7.out
            have HF := Lib.hid (And.intro ((E.on hA).below hb2 (by omega)) (And.intro ((D.on hA).below hb2 (by omega)) (And.intro (rd_below2 (HRD.out.on hA) hb2 (fun a ha => by have := HQB.out a ha; omega)) (And.intro (Nat.le_trans (Nat.le_trans hbz hA.size) hb2.size) ((after HK.out hA).trans (hb2.mono (by have := HN.out; have := HG3.out; omega)))))))
            have HEQ := Lib.hid (show (outs ++ [((n0x, n1x, n2x), 2 * (bb : Int) + 1 - us, tm)]) ++ refL p RR (bump k bb) (L.drop (i + 1)) = traceP p RR by
              have h := HST.out.2
              rw [refL_in HV.out, HCN.out, HQV.out] at h
              rw [List.append_assoc]
              exact h)
            clear hA hNew hol V2 hb2 E D hO HRD HK hbz
            go_wp2_with (at_builtin; refine Lib.wpList_append_run _ rfl _ _ _ _ rfl _ _ rfl rfl _ _ hrun ?_)
            go_roundw
            case rel => exact ⟨i + 1, bump k bb, 2 * (bb : Int) + 1 - us, tm, _, by omega, by go_num, ⟨HV.out, HEQ.out⟩, HO2, by rw [HCN.out]; exact HF.out.1, HF.out.2.1, HF.out.2.2.1, HF.out.2.2.2.1, HF.out.2.2.2.2⟩
            case measure => simp [intOf]; omega
        · have HE := Lib.hid (show outs = traceP p RR by
            have h := hst.out.2
            rw [List.drop_eq_nil_iff.2 (by omega)] at h
            simpa [refL] using h)
          have hil2 : ¬ (i : Int) < (L.length : Int) := by omega
          go_wp2_with fail
          go_returns
          exact ⟨_, rfl, by rw [HSEE.out, ← HE.out]; exact hO.out.mono (by have := HN.out; have := HG3.out; omega), HK.out⟩
end Go.Proofs.Ytjlgcfdpfalbpaa
