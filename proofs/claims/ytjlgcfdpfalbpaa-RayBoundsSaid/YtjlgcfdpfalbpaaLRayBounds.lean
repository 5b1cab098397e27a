/- RayBounds holds: it sees at most three times the reach, and 3, cells, each once, each beside the one ahead, at times that do not fall: any place (made one within 2^46), any way, any reach. -/
import Derived.Test.YtjlgcfdpfalbpaaRayLv
import Derived.Test.YtjlgcfdpfalbpaaRayR4
import Derived.Lib.QuietBelow
namespace Go.Proofs.Ytjlgcfdpfalbpaa
open Go.ChangeShapes Go.WideShapes Go.ChangeAt Go.RowKit
attribute [local go_sem] Oper.semAt_some

/-- What is asked of the cells, and of the times. -/
structure SeeOk (L : List RH) (a0 a1 a2 most : Int) : Prop where
  one : 1 ≤ L.length
  most : (L.length : Int) ≤ 3 * most + 3
  first : ∃ f t, L[0]? = some ((a0, a1, a2), f, t)
  beside : ∀ (i : Nat) (y z : RH), L[i]? = some y → L[i + 1]? = some z → ∃ f : Nat, f < 6 ∧ y.1 = nearI z.1 f
  once : ∀ (i k : Nat) (y z : RH), k < i → L[k]? = some y → L[i]? = some z → y.1 ≠ z.1
  late : ∀ (i : Nat) (y z : RH), L[i]? = some y → L[i + 1]? = some z → y.2.2 ≤ z.2.2
  zero : ∀ y : RH, L[0]? = some y → 0 ≤ y.2.2
  small : ∀ y : RH, y ∈ L → (-2147483000 ≤ y.1.1 ∧ y.1.1 ≤ 2147483000) ∧ (-2147483000 ≤ y.1.2.1 ∧ y.1.2.1 ≤ 2147483000) ∧ (-2147483000 ≤ y.1.2.2 ∧ y.1.2.2 ≤ 2147483000)
theorem pair_at {α : Type} {R : α → α → Prop} {l : List α} (h : l.Pairwise R) {i k : Nat} {y z : α} (hk : k < i) (hy : l[k]? = some y) (hz : l[i]? = some z) : R y z := by
  obtain ⟨h1, e1⟩ := List.getElem?_eq_some_iff.1 hy
  obtain ⟨h2, e2⟩ := List.getElem?_eq_some_iff.1 hz
  have := List.pairwise_iff_getElem.1 h k i h1 h2 hk
  rwa [e1, e2] at this
theorem see_ok {x y z : Int} (h46 : In46 x y z) (a b c R : Int) : SeeOk (seeL x y z a b c R) (lowI x) (lowI y) (lowI z) (mnI (mxI R 0) 64) := by
  have hp : RpOk (rpOf x y z (qI a) (qI b) (qI c)) := rp_ok (qI_bd a) (qI_bd b) (qI_bd c)
  have hc : CellOk (rpOf x y z (qI a) (qI b) (qI c)) := rp_cell h46.1 h46.2.1 h46.2.2
  obtain ⟨r0, r1⟩ := rchI_bd R
  have e : seeL x y z a b c R = trL (rpOf x y z (qI a) (qI b) (qI c)) (rchI R) 200 (0, 0, 0) (-1) 0 := rfl
  have er : mnI (mxI R 0) 64 = rchI R := rfl
  have hin : inR (rchI R) (0, 0, 0) = true := inR_of fun b hb => by rcases lt3 hb with rfl | rfl | rfl <;> simpa [kc] using r0
  obtain ⟨r, hr⟩ := trL_first (p := rpOf x y z (qI a) (qI b) (qI c)) (f := 199) (face := -1) (time := 0) hin
  have hl := trL_len (p := rpOf x y z (qI a) (qI b) (qI c)) r0 200 (0, 0, 0) (-1) 0
  have e0 : cellK (rpOf x y z (qI a) (qI b) (qI c)) (0, 0, 0) = (lowI x, lowI y, lowI z) := by unfold cellK rpOf; simp
  rw [e0] at hr
  refine ⟨?_, ?_, ?_, ?_, ?_, ?_, ?_, ?_⟩
  · rw [e, hr]; simp
  · rw [e, er]; simp [sumK] at hl; omega
  · rw [e, hr]; exact ⟨_, _, rfl⟩
  · intro i y z hy hz
    obtain ⟨h1, h2, h3⟩ := trL_comes hp 200 _ _ _ i y z hy hz
    exact ⟨z.2.1.toNat, by omega, by rw [Int.toNat_of_nonneg h1]; exact h3⟩
  · intro i k y z hk hy hz
    exact pair_at (trL_once hp 200 _ _ _) hk hy hz
  · intro i y z hy hz
    exact pair_at (trace_late hp r1) (Nat.lt_succ_self i) hy hz
  · intro y hy
    rw [e, hr] at hy
    obtain rfl := Option.some.inj hy
    exact Int.le_refl _
  · intro y hy
    obtain ⟨k, -, hk, he⟩ := trL_mem 200 _ _ _ y hy
    have hk2 : ∀ b, b < 3 → kc k b ≤ 65 := fun b hb => by have := inR_kc hk b hb; omega
    have := (near_ok hp hc hk2).2.2
    rw [← he] at this
    exact ⟨this 0 (by omega), this 1 (by omega), this 2 (by omega)⟩
theorem near_at (x y z : Int) {k : Nat} (hk : k < 6) : (nearP x y z)[k * 3]? = some (.int .i64 (nearI (x, y, z) k).1) ∧ (nearP x y z)[k * 3 + 1]? = some (.int .i64 (nearI (x, y, z) k).2.1) ∧ (nearP x y z)[k * 3 + 2]? = some (.int .i64 (nearI (x, y, z) k).2.2) := by
  have : k = 0 ∨ k = 1 ∨ k = 2 ∨ k = 3 ∨ k = 4 ∨ k = 5 := by omega
  rcases this with rfl | rfl | rfl | rfl | rfl | rfl <;> exact ⟨rfl, rfl, rfl⟩
def ceqB (a b : I3) : Bool := a.1 == b.1 && (a.2.1 == b.2.1 && a.2.2 == b.2.2)
theorem ceqB_iff {a b : I3} : ceqB a b = true ↔ a = b := by
  obtain ⟨a0, a1, a2⟩ := a
  obtain ⟨b0, b1, b2⟩ := b
  simp [ceqB]
theorem cell_guard : Try.prog.eqGuardType Try.prog.depth 29 = false := by kernel_rfl
theorem cell_eq (a b c a' b' c' : Int) (w : World) : (binOp .eql 29 (.agg #[.int .i64 a, .int .i64 b, .int .i64 c]) (.agg #[.int .i64 a', .int .i64 b', .int .i64 c'])).run Try.prog w = .ok (.bool (ceqB (a, b, c) (a', b', c'))) w := by
  rw [run_eql_struct]
  unfold ceqB
  simp [go_sem]
  by_cases h1 : a = a' <;> by_cases h2 : b = b' <;> by_cases h3 : c = c' <;> simp [h1, h2, h3]
theorem cell_ne_self (a b c : Int) (w : World) : (binOp .neq 29 (.agg #[.int .i64 a, .int .i64 b, .int .i64 c]) (.agg #[.int .i64 a, .int .i64 b, .int .i64 c])).run Try.prog w = .ok (.bool false) w := by
  rw [run_neq_struct]
  simp [go_sem]
theorem seq_nil (f : FuncId) (lb : Array Value) (w : World) : (binOp .eql 53 (.func (.func f) #[] lb) .nilFunc).run Try.prog w = .ok (.bool false) w := by kernel_rfl
theorem seq_guard : Try.prog.eqGuardType Try.prog.depth 53 = false := by kernel_rfl
theorem from46 (x y z : Int) : In46 (fromI x) (fromI y) (fromI z) := ⟨from_46 x, from_46 y, from_46 z⟩
/-- Is one of the first k neighbours the one ahead? -/
def besB (c p : I3) (k : Nat) : Bool := (List.range k).any fun j => ceqB (nearI c j) p
theorem besB_zero (c p : I3) : besB c p 0 = false := rfl
theorem besB_succ (c p : I3) (k : Nat) : besB c p (k + 1) = (besB c p k || ceqB (nearI c k) p) := by simp [besB, List.range_succ]
theorem besB_all {c p : I3} {f : Nat} (hf : f < 6) (h : p = nearI c f) : besB c p 6 = true := by
  unfold besB
  rw [List.any_eq_true]
  exact ⟨f, by simpa using hf, ceqB_iff.2 h.symm⟩
set_option maxRecDepth 100000 in
set_option maxHeartbeats 16000000 in
theorem rayBounds_c (x y z : Int) (_ : In64 x) (_ : In64 y) (_ : In64 z) (a b c : Int) (_ : In64 a) (_ : In64 b) (_ : In64 c) (R : Int) (_ : In64 R) (w : World) :
    Calls Try.prog 6 #[.agg #[.int .i64 x, .int .i64 y, .int .i64 z], .agg #[.int .i64 a, .int .i64 b, .int .i64 c], .int .i64 R] w fun e w' => e = .returned (.bool true) ∧ Below w.heap.size w w' := by
  have hmn := @run_mn Try.prog
  have hmx := @run_mx Try.prog
  have h46 := from46 x y z
  have HFR := Lib.hid fun w => rfrom_c x y z w
  generalize fromI x = ax at h46 HFR
  generalize fromI y = ay at h46 HFR
  generalize fromI z = az at h46 HFR
  have HOF := Lib.hid fun w => rof_c ax ay az w
  have HRT := Lib.hid fun w => rtrace_c ax ay az a b c R w
  have HCE := Lib.hid fun w => cells_c ax ay az a b c R h46 w
  have HLN := Lib.hid (see_len ax ay az a b c R)
  have hso := see_ok h46 a b c R
  have hmb : 0 ≤ mnI (mxI R 0) 64 ∧ mnI (mxI R 0) 64 ≤ 64 := rchI_bd R
  generalize hmm : mnI (mxI R 0) 64 = mo at hso hmb
  have HSO := Lib.hid hso
  clear hso
  obtain ⟨W, hW⟩ : ∃ W, W = ((w.alloc (.cells #[.int .i64 x, .int .i64 y, .int .i64 z] 26)).alloc (.cells #[.int .i64 a, .int .i64 b, .int .i64 c] 26)).alloc (.cells #[.bool false] 4) := ⟨_, rfl⟩
  have H : Below w.heap.size w W := by rw [hW]; go_grown
  obtain ⟨N, hN⟩ : ∃ N, N = w.heap.size := ⟨_, rfl⟩
  have A : Blk W N 26 #[.int .i64 x, .int .i64 y, .int .i64 z] := Blk.eqw hW.symm (by rw [hN]; exact ((Blk.new' rfl).alloc _).alloc _)
  have V : Blk W (N + 1) 26 #[.int .i64 a, .int .i64 b, .int .i64 c] := Blk.eqw hW.symm (by rw [hN]; exact (Blk.new' (by simp)).alloc _)
  have B : Blk W (N + 1 + 1) 4 #[.bool false] := Blk.eqw hW.symm (by rw [hN]; exact Blk.new' (by simp))
  have hsW : W.heap.size = N + 3 := by rw [hW, hN]; simp
  have HSW := Lib.hid hsW
  clear hsW
  refine (callsIn_wide (n := 5)).1 (callsIn_of_wp_marks Try.func6 rfl trivial ?_ rfl)
  refine wpIn_wide.2 ?_
  simp only [Try.ntmps6, List.size_toArray, List.length_cons, List.length_nil, Nat.reduceAdd, Nat.reduceSub, Array.replicate_succ, Array.replicate_zero, List.push_toArray, List.append_toArray, List.nil_append, List.cons_append]
  go_upto_region 1 with (fail)
  rw [← hW, ← hN]
  have HN := Lib.hid hN
  clear hW hN
  obtain ⟨a0, a1, a2, -, -, -⟩ := A.c3
  go_upto_region 2 with (go_at_call 20; refine (HFR.out _).mono ?_; rintro e_ w1 ⟨rfl, h1⟩)
  generalize hV : World.alloc w1 _ = w2
  have P : Blk w2 w1.heap.size 26 #[.int .i64 ax, .int .i64 ay, .int .i64 az] := Blk.eqw hV (Blk.new' rfl)
  have h2 : Below W.heap.size W w2 := by rw [← hV]; exact h1.alloc h1.size _
  replace V := V.on h2
  replace B := B.on h2
  replace H := after H h2
  have hgp : N + 3 ≤ w1.heap.size := by rw [← HSW.out]; exact h1.size
  generalize w1.heap.size = gp at P hgp ⊢
  have HGP := Lib.hid hgp
  clear hV h1 h2 a0 a1 a2 A HFR hgp
  obtain ⟨p0, p1, p2, -, -, -⟩ := P.c3
  obtain ⟨v0, v1, v2, -, -, -⟩ := V.c3
  go_upto_region 3 with (go_at_call 23; refine (HCE.out _).mono ?_; rintro e_ w3 ⟨v, rfl, ho, h3⟩; obtain ⟨qv, cv, rfl, -, -, hrv, -, -⟩ := ho.form len3)
  replace P := P.on h3
  replace V := V.on h3
  replace B := B.on h3
  replace H := after H h3
  have HRV := Lib.hid hrv
  clear p0 p1 p2 v0 v1 v2 hrv ho h3 HCE
  obtain ⟨L, hLe⟩ : ∃ L, L = seeL ax ay az a b c R := ⟨_, rfl⟩
  rw [← hLe] at HLN HSO HRV
  have HLE := Lib.hid hLe
  try simp only [← hLe]
  clear hLe
  have hl1 := HSO.out.one
  have hl2 := HSO.out.most
  obtain ⟨f0, t0, hf0⟩ := HSO.out.first
  obtain ⟨gv, ov, hqv, hrv⟩ := HRV.out (by rw [List.length_map]; omega)
  subst hqv
  have hx0 : (L.map (·.1))[0]? = some (lowI ax, lowI ay, lowI az) := by rw [List.getElem?_map, hf0]; rfl
  have k0 : w3.cell? ⟨gv, ov, none⟩ = some (.int .i64 (lowI ax)) := by have := hrv 0 _ hx0 0 _ rfl; simpa using this
  have k1 : w3.cell? ⟨gv, ov + 1, none⟩ = some (.int .i64 (lowI ay)) := by have := hrv 0 _ hx0 1 _ rfl; simpa using this
  have k2 : w3.cell? ⟨gv, ov + 2, none⟩ = some (.int .i64 (lowI az)) := by have := hrv 0 _ hx0 2 _ rfl; simpa using this
  have HRD := Lib.hid hrv
  clear hrv hf0 hx0
  go_upto_region 4 with (fail)
  have wm1 : IntKind.i64.wrap (3 * mo) = 3 * mo := IntWalk.i64_in _ (by omega)
  have wm2 : IntKind.i64.wrap (3 * mo + 3) = 3 * mo + 3 := IntWalk.i64_in _ (by omega)
  have hn1 : ¬ (L.length < 1) := by omega
  have hn2 : ¬ ((L.length : Int) < 1) := by omega
  have hn3 : ¬ (3 * mo + 3 < (L.length : Int)) := by omega
  have hn4 : (0 : Int) < (L.length : Int) := by omega
  have hn5 : 0 < L.length := by omega
  have q0 := fun d os => cell_regrown k0 d os
  have q1 := fun d os => cell_regrown k1 d os
  have q2 := fun d os => cell_regrown k2 d os
  obtain ⟨p0, p1, p2⟩ := P.re3
  have se := cell_ne_self (lowI ax) (lowI ay) (lowI az)
  have cg := cell_guard
  clear k0 k1 k2
  refine wp_region_quiet_below (by kernel_rfl) (by kernel_rfl) ?_
  repeat (go_big_quiet_step (exact Calls.regrown_of (HOF.out _)))
  refine wpQuiet_nil ?_
  intro w' hw'
  obtain ⟨rg, rfl⟩ := hw'
  generalize hW4 : Go.Sort.grow (redrawn w3 rg.d) rg.os = W4
  have h4 : Below w3.heap.size w3 W4 := by rw [← hW4]; exact below_regrown _ _ _
  clear hW4 q0 q1 q2 p0 p1 p2 se wm1 wm2 hn1 hn2 hn3 hn4 hn5
  go_upto_region 7 with (fail)
  replace P := P.on h4
  replace V := V.on h4
  replace B := B.on h4
  replace H := after H h4
  have HRW : Hid (∀ (i : Nat) (y : RH), L[i]? = some y → W4.cell? ⟨gv, ov + i * 3, none⟩ = some (.int .i64 y.1.1) ∧ W4.cell? ⟨gv, ov + i * 3 + 1, none⟩ = some (.int .i64 y.1.2.1) ∧ W4.cell? ⟨gv, ov + i * 3 + 2, none⟩ = some (.int .i64 y.1.2.2)) := Lib.hid fun i y hy => by
    have hx : (L.map (·.1))[i]? = some y.1 := by rw [List.getElem?_map, hy]; rfl
    have b0 := HRD.out i _ hx 0 _ rfl
    have b1 := HRD.out i _ hx 1 _ rfl
    have b2 := HRD.out i _ hx 2 _ rfl
    exact ⟨(cell_below h4 (cell_lt b0)).trans b0, (cell_below h4 (cell_lt b1)).trans b1, (cell_below h4 (cell_lt b2)).trans b2⟩
  have hl9 := HLN.out
  clear h4 HRD HRV HOF
  go_loopw [10] (fun v wr => ∃ i : Nat, i < L.length ∧ v = .int .i64 ((i : Int) + 1) ∧ Below W4.heap.size W4 wr) (fun v _ => L.length - (intOf v).toNat)
  case atStart => exact ⟨0, hl1, rfl, Below.refl _ _⟩
  case round =>
    obtain ⟨j, hj, rfl, hnx⟩ := hrel
    by_cases hlt : j + 1 < L.length
    · obtain ⟨zz, hz⟩ : ∃ x, L[j + 1]? = some x := ⟨_, List.getElem?_eq_getElem hlt⟩
      obtain ⟨yy, hy⟩ : ∃ x, L[j]? = some x := ⟨_, List.getElem?_eq_getElem hj⟩
      obtain ⟨ff, hff, hbs⟩ := HSO.out.beside j yy zz hy hz
      have hsm := HSO.out.small zz (List.mem_of_getElem? hz)
      obtain ⟨z0, z1, z2⟩ := HRW.out _ _ hz
      obtain ⟨y0, y1, y2⟩ := HRW.out _ _ hy
      have HNE : Hid (∀ (k : Nat) (x : RH), k < j + 1 → L[k]? = some x → ceqB x.1 zz.1 = false) := Lib.hid fun k x hk hx => by
        have := HSO.out.once (j + 1) k x zz hk hx hz
        cases e : ceqB x.1 zz.1
        · rfl
        · exact absurd (ceqB_iff.1 e) this
      have hBE : Hid (besB zz.1 yy.1 6 = true) := Lib.hid (besB_all hff hbs)
      have HNR := Lib.hid fun w => rnear_e zz.1.1 zz.1.2.1 zz.1.2.2 hsm.1 hsm.2.1 hsm.2.2 w
      clear hbs hff hsm hz hy
      obtain ⟨⟨zx, zy, zz⟩, zf, zt⟩ := zz
      obtain ⟨⟨yx, yy, yz⟩, yf, yt⟩ := yy
      dsimp only at z0 z1 z2 y0 y1 y2 HNE hBE HNR
      have hzl := cell_lt z0
      have z0' := (hnx.cell (p := ⟨gv, ov + (j + 1) * 3, none⟩) hzl).trans z0
      have z1' := (hnx.cell (p := ⟨gv, ov + (j + 1) * 3 + 1, none⟩) hzl).trans z1
      have z2' := (hnx.cell (p := ⟨gv, ov + (j + 1) * 3 + 2, none⟩) hzl).trans z2
      have hi1 : (j : Int) + 1 < (L.length : Int) := by omega
      have hi0 : (0 : Int) ≤ (j : Int) + 1 := by omega
      go_upto_region 10 with (go_at_call 19; refine (HNR.out _).mono ?_; rintro e_ w5 ⟨rfl, h5⟩)
      generalize hV : World.alloc w5 _ = w6
      have G : Blk w6 w5.heap.size 47 (nearP zx zy zz) := Blk.eqw hV (Blk.new' rfl)
      have h6 : Below W4.heap.size W4 w6 := after hnx (by rw [← hV]; exact h5.alloc h5.size _)
      generalize w5.heap.size = gn at G ⊢
      clear hV h5 z0' z1' z2' HNR
      go_upto_region 12 with (fail)
      have HI := Lib.hid (And.intro hi1 hi0)
      clear hi1 hi0
      go_loopw [12, 13] (fun b k wr2 => ∃ m : Nat, m ≤ 6 ∧ k = .int .i64 m ∧ b = .bool (besB (zx, zy, zz) (yx, yy, yz) m) ∧ Below w6.heap.size w6 wr2) (fun _ k _ => 6 - (intOf k).toNat)
      case atStart => exact ⟨0, by omega, rfl, by rw [besB_zero], Below.refl _ _⟩
      case round =>
        obtain ⟨m, hm, rfl, rfl, hn2⟩ := hrel
        by_cases hm6 : m < 6
        · have hbs := besB_succ (zx, zy, zz) (yx, yy, yz) m
          have hm1 : (m : Int) < 6 := by omega
          have hm0 : (0 : Int) ≤ (m : Int) := by omega
          cases hb : besB (zx, zy, zz) (yx, yy, yz) m
          · rw [hb, Bool.false_or] at hbs
            obtain ⟨n0, n1, n2⟩ := near_at zx zy zz hm6
            have HB := Lib.hid hbs
            clear hbs hb
            generalize nearI (zx, zy, zz) m = nn at n0 n1 n2 HB
            obtain ⟨nx, ny, nz⟩ := nn
            have GG := G.on hn2
            go_upto_region 14 with (fail)
            have g0 := fun d os => ((GG.re d os).cell (m * 3)).trans n0
            have g1 := fun d os => ((GG.re d os).cell (m * 3 + 1)).trans n1
            have g2 := fun d os => ((GG.re d os).cell (m * 3 + 2)).trans n2
            have hyl := cell_lt y0
            have hh := after h6 hn2
            have k0 := fun d os => cell_regrown ((cell_below hh (p := ⟨gv, ov + j * 3, none⟩) hyl).trans y0) d os
            have k1 := fun d os => cell_regrown ((cell_below hh (p := ⟨gv, ov + j * 3 + 1, none⟩) hyl).trans y1) d os
            have k2 := fun d os => cell_regrown ((cell_below hh (p := ⟨gv, ov + j * 3 + 2, none⟩) hyl).trans y2) d os
            have wj1 : IntKind.i64.wrap ((j : Int) + 1 - 1) = j := by rw [show (j : Int) + 1 - 1 = j by omega]; exact IntWalk.i64_in _ (by omega)
            have wj2 : IntKind.i64.wrap (j : Int) = j := IntWalk.i64_in _ (by omega)
            have hj0 : (0 : Int) ≤ (j : Int) := by omega
            have hj1 : (j : Int) < (L.length : Int) := by omega
            have hj2 : ¬ (L.length : Int) ≤ (j : Int) := by omega
            have ce := cell_eq nx ny nz yx yy yz
            have cg := cell_guard
            clear n0 n1 n2 hyl hh
            refine wp_region_quiet_below (by kernel_rfl) (by kernel_rfl) ?_
            repeat (go_big_quiet_step (fail))
            refine wpQuiet_nil ?_
            intro w' hw'
            obtain ⟨rg, rfl⟩ := hw'
            clear g0 g1 g2 k0 k1 k2 ce cg wj1 wj2 hj2
            go_wp2_with fail
            exact ⟨⟨m + 1, hm6, by go_num, by rw [HB.out], after hn2 (below_regrown _ _ _)⟩, next_less' hm6⟩
          · rw [hb, Bool.true_or] at hbs
            have HB := Lib.hid hbs
            clear hbs hb
            go_upto_region 14 with (fail)
            refine wp_region_quiet_below (by kernel_rfl) (by kernel_rfl) ?_
            repeat (go_big_quiet_step (fail))
            refine wpQuiet_nil ?_
            intro w' hw'
            obtain ⟨rg, rfl⟩ := hw'
            go_wp2_with fail
            exact ⟨⟨m + 1, hm6, by go_num, by rw [HB.out], after hn2 (below_regrown _ _ _)⟩, next_less' hm6⟩
        · obtain rfl : m = 6 := by omega
          rw [hBE.out]
          go_upto_region 18 with (fail)
          replace h6 := after h6 hn2
          generalize wr = w7 at h6 hn2 ⊢
          clear hn2 G hBE
          go_loopw [14] (fun k wr2 => ∃ m : Nat, m ≤ j + 1 ∧ k = .int .i64 m ∧ Below w7.heap.size w7 wr2) (fun k _ => j + 1 - (intOf k).toNat)
          case atStart => exact ⟨0, by omega, rfl, Below.refl _ _⟩
          case round =>
            obtain ⟨m, hm, rfl, hn2⟩ := hrel
            have hi1 := HI.out.1
            by_cases hmj : m < j + 1
            · obtain ⟨xx, hx⟩ : ∃ x, L[m]? = some x := ⟨_, List.getElem?_eq_getElem (by omega)⟩
              have hne := HNE.out m xx hmj hx
              obtain ⟨x0, x1, x2⟩ := HRW.out _ _ hx
              clear hx
              obtain ⟨⟨xx, xy, xz⟩, xf, xt⟩ := xx
              dsimp only at x0 x1 x2 hne
              have hm1 : (m : Int) < (j : Int) + 1 := by omega
              have hm0 : (0 : Int) ≤ (m : Int) := by omega
              have hm2 : (m : Int) < (L.length : Int) := by omega
              have hj0 : (0 : Int) ≤ (j : Int) + 1 := by omega
              go_upto_region 20 with (fail)
              have hh := after h6 hn2
              have xl := cell_lt x0
              have zl := cell_lt z0
              have k0 := fun d os => cell_regrown ((cell_below hh (p := ⟨gv, ov + m * 3, none⟩) xl).trans x0) d os
              have k1 := fun d os => cell_regrown ((cell_below hh (p := ⟨gv, ov + m * 3 + 1, none⟩) xl).trans x1) d os
              have k2 := fun d os => cell_regrown ((cell_below hh (p := ⟨gv, ov + m * 3 + 2, none⟩) xl).trans x2) d os
              have c0 := fun d os => cell_regrown ((cell_below hh (p := ⟨gv, ov + (j + 1) * 3, none⟩) zl).trans z0) d os
              have c1 := fun d os => cell_regrown ((cell_below hh (p := ⟨gv, ov + (j + 1) * 3 + 1, none⟩) zl).trans z1) d os
              have c2 := fun d os => cell_regrown ((cell_below hh (p := ⟨gv, ov + (j + 1) * 3 + 2, none⟩) zl).trans z2) d os
              have ce := cell_eq xx xy xz zx zy zz
              rw [hne] at ce
              have cg := cell_guard
              clear x0 x1 x2 xl zl hh hne
              refine wp_region_quiet_below (by kernel_rfl) (by kernel_rfl) ?_
              repeat (go_big_quiet_step (fail))
              refine wpQuiet_nil ?_
              intro w' hw'
              obtain ⟨rg, rfl⟩ := hw'
              clear k0 k1 k2 c0 c1 c2 ce cg
              go_wp2_with fail
              exact ⟨⟨m + 1, hmj, by go_num, after hn2 (below_regrown _ _ _)⟩, next_less' hmj⟩
            · obtain rfl : m = j + 1 := by omega
              clear hm
              go_wp2_with fail
              exact ⟨⟨j + 1, hlt, by go_num, after h6 hn2⟩, by show L.length - ((j : Int) + 1 + 1).toNat < L.length - ((j : Int) + 1).toNat; omega⟩
    · have hjl : ¬ ((j : Int) + 1 < (L.length : Int)) := by omega
      clear hlt hj HRW
      replace P := P.on hnx
      replace V := V.on hnx
      replace B := B.on hnx
      replace H := after H hnx
      clear hnx
      obtain ⟨p0, p1, p2, -, -, -⟩ := P.c3
      obtain ⟨v0, v1, v2, -, -, -⟩ := V.c3
      go_upto_region 23 with (go_at_call 22; refine (HRT.out _).mono ?_; rintro e_ w5 ⟨rfl, h6, t1, t2, t3⟩)
      clear p0 p1 p2 v0 v1 v2 HRT hjl
      have hgn : gp < wr.heap.size := P.lt
      have hgb : N + 1 + 1 < wr.heap.size := B.lt
      replace B := B.on h6
      replace H := after H h6
      have hit := rayit h46 t1 t2 t3
      have hnw := t3.lt
      generalize wr.heap.size = nr at t1 t2 t3 hit hnw hgn hgb ⊢
      rw [← HLE.out] at hit
      clear t1 t2 t3 h6 P V
      have sn := seq_nil
      have sg := seq_guard
      go_upto_region 26 with (fail)
      generalize hV : World.alloc w5 _ = w6
      have C0 : Blk w6 w5.heap.size 3 #[.int .i64 0] := Blk.eqw hV (Blk.new' rfl)
      have h7 : Below w5.heap.size w5 w6 := by rw [← hV]; exact (Below.refl _ _).alloc (Nat.le_refl _) _
      replace B := B.on h7
      replace H := after H h7
      have hit2 := hit.on (Kept.of_below h7)
      have hz6 : w5.heap.size < w6.heap.size := C0.lt
      generalize w5.heap.size = gc at C0 hnw hz6 h7 ⊢
      clear hV h7 hit sn sg
      go_wp2_with fail
      have HZ := Lib.hid (show N + 3 ≤ nr ∧ nr + 1 + 1 < gc ∧ gc < w6.heap.size from ⟨by omega, hnw, hz6⟩)
      clear hnw hz6 hgn hgb
      have hcap : ∀ x, (x = nr ∨ x = nr + 1 ∨ x = nr + 1 + 1) → x < w6.heap.size := fun x hx => by have := HZ.out; omega
      have HK := Lib.hid H
      clear H
      refine wp_range (m := 3) (gf := 41) (lb := #[.pointer (some ⟨nr, 0, none⟩), .pointer (some ⟨nr + 1, 0, none⟩), .pointer (some ⟨nr + 1 + 1, 0, none⟩)]) rfl ray_en hit2 hcap (fun _ => rfl)
        (fun Z i A => (∃ t : Int, Blk A gc 3 #[.int .i64 t] ∧ Hid (∀ y : RH, L[i]? = some y → t ≤ y.2.2)) ∧ Blk A (N + 1 + 1) 4 #[.bool false] ∧ Hid (Below w.heap.size w A))
        (fun Z k i A => False) ?_ ?_ (fun Z => ⟨⟨0, C0, Lib.hid HSO.out.zero⟩, B, HK⟩) ?round ?done ?stop
      · rintro Z i A B ⟨⟨t, h1, h2⟩, h6, h7⟩ hk
        have lt : ∀ n, n < w6.heap.size → ¬ Priv w6.heap.size Z n := fun n hn h => by have := h.1; omega
        have hz := HZ.out
        exact ⟨⟨t, hk.blk (lt _ (by omega)) h1, h2⟩, hk.blk (lt _ (by omega)) h6, Lib.hid (h7.out.trans (hk.below h7.out.size (fun b hb h => by have := h.1; rw [← HN.out] at hb; omega)))⟩
      · rintro Z k i A B h _; exact h.elim
      case round =>
        rintro Z l i x A rfl hZ1 hZ2 hx ⟨⟨t, h1, h2⟩, h6, h7⟩
        clear C0 B HK hit2 hcap
        gi_wp2
        refine ⟨(Kept.refl _ _).alloc _, fun A2 hA2 hz2 => ?_⟩
        have hz := HZ.out
        have keep : ∀ n t cs, n < w6.heap.size → Blk A n t cs → Blk A2 n t cs := fun n t cs hn h => hA2.blk (show n ≠ w6.heap.size + 1 by omega) (h.alloc _)
        replace h1 := keep _ _ _ (by omega) h1
        replace h6 := keep _ _ _ (by omega) h6
        have X : Blk A2 A.heap.size 31 (hitA x.1 0 x.2.1 x.2.2) := hA2.blk (show A.heap.size ≠ w6.heap.size + 1 by omega) (Blk.new' rfl)
        have hwz := h7.out.size
        have H7 := Lib.hid (show Below w.heap.size w A2 from (h7.out.alloc hwz _).trans (hA2.below (by simp; omega) (fun b hb => show b ≠ w6.heap.size + 1 by rw [← HN.out] at hb; omega)))
        have htl := h2.out x hx
        have hnt : ¬ (x.2.2 < t) := by omega
        have HNX : Hid (∀ y : RH, L[i + 1]? = some y → x.2.2 ≤ y.2.2) := Lib.hid fun y hy => HSO.out.late i x y hx hy
        obtain ⟨⟨x0, x1, x2, x3, x4, x5⟩, -, -, -, -, -, -⟩ := X.c6
        obtain ⟨c0, f0⟩ := h1.c1
        have HA := Lib.hid (show w6.heap.size + 2 ≤ A.heap.size by omega)
        clear hA2 hz2 keep hZ1 hZ2 h7 hwz hx h2 htl
        generalize A.heap.size = gx at X x0 x1 x2 x3 x4 x5 HA ⊢
        repeat (first | go_values | gi_guarded | gi_step | gi_upon)
        have hz := HZ.out
        refine ⟨(Kept.refl _ _).setCell (p := ⟨gc, 0, none⟩) (fun h => ?_) _, ⟨x.2.2, h1.set_ 0 _, HNX⟩, h6.far (p := ⟨gc, 0, none⟩) (by dsimp only; omega) _, Lib.hid (H7.out.setCell (p := ⟨gc, 0, none⟩) (by rw [← HN.out]; dsimp only; omega) _)⟩
        rcases h with h | h
        · have := h.1; dsimp only at this; omega
        · dsimp only at h; omega
      case done =>
        rintro Z A ⟨-, h6, h7⟩ hK
        clear C0 B HK hit2 hcap
        have HK := Lib.hid hK
        clear hK
        go_wp2_with (go_at_call 15; refine (rlives_c _).mono ?_; rintro e_ w10 ⟨rfl, h10⟩; replace h6 := h6.on h10; obtain ⟨q6, f6⟩ := h6.c1)
        have hz := HZ.out
        have hl0 := (Array.getElem?_eq_some_iff.1 HK.out).1
        have hD1 := (h10.block _ hl0).trans HK.out
        have h6' := h6.set_ 0 (.bool true)
        obtain ⟨d6, -⟩ := (h6'.putObj (D := w6.heap.size) (by omega) (.deferred none)).c1
        refine leave_mark (def_far (p := ⟨N + 1 + 1, 0, none⟩) (u := .bool true) hD1 (by dsimp only; omega)) (v := .bool true) (by simp [results, Try.f6, go_sem, d6]) ⟨rfl, ?_⟩
        exact putObj_below ((after h7.out h10).setCell (p := ⟨N + 1 + 1, 0, none⟩) (by rw [← HN.out]; dsimp only; omega) _) (by rw [← HN.out]; omega) _
      case stop =>
        rintro Z k i A hi h
        exact h.elim
set_option maxRecDepth 100000 in
theorem rayBounds_lifted (os : Os) (started : os.Started) (H : Type) (enc : TypeId × Value → H) :
    ReturnsInHanded {} Try.checked os 6 .any (Rows.rayBoundsSpec.pre6 enc Try.prog Try.f6 Rows.rayBoundsRow.domain false) (Rows.rayBoundsSpec.post enc Try.prog Try.f6 false true false false) := by
  refine returnsInHanded_of_change (C := Try.checked) own started (by kernel_rfl) Try.func6
    (ChangeSpec.witness6 (enc := enc) (C := Try.checked) false ⟨#[], #[.agg #[.int .i64 0, .int .i64 0, .int .i64 0], .agg #[.int .i64 0, .int .i64 0, .int .i64 0], .int .i64 0], []⟩ 8 (by kernel_rfl) (by kernel_rfl) (by kernel_rfl) (by kernel_rfl)) ?_
  intro W base args ds gs before hval0 hW hcnd hsz
  have hval : ∀ (j : Nat) t v, Try.f6.params[j]? = some t → args[j]? = some v → Value.okWide Try.prog W .any base t v := hval0
  have hW' := hW
  obtain ⟨p, q, hA0, hV, rfl, hfz, hnd⟩ := hW
  have hA : DataW.TrodAll enc Try.prog W 0 (fun _ => true) true Try.f6.params.toList args.toList ds p := hA0
  rw [Try.params6] at hA hval
  obtain ⟨v0, vs0, d0, ds0, p_0, q_0, hargs, rfl, rfl, h0, r_0⟩ := trodAll_cons hA
  obtain ⟨v1, vs1, d1, ds1, p_1, q_1, rfl, rfl, rfl, h1, r_1⟩ := trodAll_cons r_0
  obtain ⟨v2, vs2, d2, ds2, p_2, q_2, rfl, rfl, rfl, h2, r_2⟩ := trodAll_cons r_1
  obtain ⟨rfl, rfl, rfl⟩ := trodAll_nil r_2
  obtain rfl : args = #[v0, v1, v2] := by cases args; simp_all
  obtain ⟨rfl, rfl⟩ := trodVars_none hV
  obtain ⟨x0, y0, z0, rfl, wx0, wy0, wz0⟩ := open_vec Try.underlying26 (by kernel_rfl) (by kernel_rfl) Try.underlying3 (hval 0 26 v0 rfl rfl) h0
  obtain ⟨x1, y1, z1, rfl, wx1, wy1, wz1⟩ := open_vec Try.underlying26 (by kernel_rfl) (by kernel_rfl) Try.underlying3 (hval 1 26 v1 rfl rfl) h1
  obtain ⟨a2, rfl, rfl, rfl, w2⟩ := open_int Try.underlying3 (hval 2 3 v2 rfl rfl) h2
  refine (rayBounds_c x0 y0 z0 wx0 wy0 wz0 x1 y1 z1 wx1 wy1 wz1 a2 (in64_of_wf w2) W).mono fun e W' ⟨he, hb⟩ => ?_
  subst he
  exact ⟨_, rfl, law_post laidOut (by kernel_rfl) rfl (by kernel_rfl) Try.underlying4 hW' rfl rfl rfl hb⟩

/-- The statement. -/
theorem rayBounds_proved : Rows.RayBoundsSaid :=
  OpenClaim.holds_of_wide 6 Try.f6 rfl rfl rfl rfl rfl rfl rfl ⟨rfl, rfl, rfl, rfl, rfl⟩ rfl rfl rfl rfl rfl (by kernel_rfl) Try.func6 (by kernel_rfl)
    (of_decide_eq_true (by kernel_rfl)) (by unfold Func.isWrapper; first | (rw [if_pos (by decide +kernel)]; kernel_rfl) | (rw [if_neg (by decide +kernel)]; exact ⟨rfl, rfl⟩))
    (fun os started H enc _ => rayBounds_lifted os started H enc)
end Go.Proofs.Ytjlgcfdpfalbpaa
