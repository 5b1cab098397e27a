/- RayStraight holds: along an axis a ray sees so many cells in a row as its reach, and one; the same by a way of another size: any place (made one within 2^46), any axis and side, any reach, any two sizes. -/
import Derived.Test.YtjlgcfdpfalbpaaRayLv
import Derived.Test.YtjlgcfdpfalbpaaRayR4
import Derived.Test.YtjlgcfdpfalbpaaSched2
import Derived.Lib.QuietBelow
namespace Go.Proofs.Ytjlgcfdpfalbpaa
open Go.ChangeShapes Go.WideShapes Go.ChangeAt Go.RowKit
attribute [local go_sem] Oper.semAt_some

/-- So many neighbours on. -/
def goI (c : I3) (f : Nat) : Nat → I3
  | 0 => c
  | j + 1 => nearI (goI c f j) f
theorem goI_cell {p : Rp} (hp : RpOk p) {a f : Nat} (ha : a < 3) (hf : (f : Int) = 2 * a + comp p.u a) : ∀ j : Nat, cellK p (kA a j) = goI p.c f j
  | 0 => by rcases lt3 ha with rfl | rfl | rfl <;> simp [kA, cellK, goI]
  | j + 1 => by
    show _ = nearI (goI p.c f j) f
    rw [← goI_cell hp ha hf j, hf, near_fore hp ha, kA_bump ha]
theorem straight (x y z R n : Int) {f a : Nat} (ha : a < 3) (hf : f = 2 * a ∧ n < 0 ∨ f = 2 * a + 1 ∧ 0 < n) (hn : -65536 ≤ n ∧ n ≤ 65536) :
    (seeL x y z (wiI 0 (a : Int) 0 n) (wiI 0 (a : Int) 1 n) (wiI 0 (a : Int) 2 n) R).map (·.1) = (List.range ((rchI R).toNat + 1)).map (goI (lowI x, lowI y, lowI z) f) := by
  have hp : RpOk (rpOf x y z (qI (wiI 0 (a : Int) 0 n)) (qI (wiI 0 (a : Int) 1 n)) (qI (wiI 0 (a : Int) 2 n))) := rp_ok (qI_bd _) (qI_bd _) (qI_bd _)
  have hc : cutI n = n := by unfold cutI; omega
  have hq : qI n = n := by unfold qI mnI mxI; omega
  have hq0 : qI 0 = 0 := by decide
  obtain ⟨r0, r1⟩ := rchI_bd R
  have hsn : sdS n ≠ 0 := by unfold sdS; split <;> omega
  have hs0 : sdS 0 = 0 := by decide
  have hu : (f : Int) = 2 * a + rupI n := by unfold rupI; split <;> omega
  have hall : comp (rpOf x y z (qI (wiI 0 (a : Int) 0 n)) (qI (wiI 0 (a : Int) 1 n)) (qI (wiI 0 (a : Int) 2 n))).s a ≠ 0 ∧ (∀ b, b < 3 → b ≠ a → comp (rpOf x y z (qI (wiI 0 (a : Int) 0 n)) (qI (wiI 0 (a : Int) 1 n)) (qI (wiI 0 (a : Int) 2 n))).s b = 0) ∧
      comp (rpOf x y z (qI (wiI 0 (a : Int) 0 n)) (qI (wiI 0 (a : Int) 1 n)) (qI (wiI 0 (a : Int) 2 n))).u a = rupI n := by
    rcases lt3 ha with rfl | rfl | rfl
    · refine ⟨?_, fun b hb hba => ?_, ?_⟩
      · simpa [comp, rpOf, wiI, hc, hq] using hsn
      · rcases lt3 hb with rfl | rfl | rfl
        · exact absurd rfl hba
        · simp [comp, rpOf, wiI, hq0, hs0]
        · simp [comp, rpOf, wiI, hq0, hs0]
      · simp [comp, rpOf, wiI, hc, hq]
    · refine ⟨?_, fun b hb hba => ?_, ?_⟩
      · simpa [comp, rpOf, wiI, hc, hq] using hsn
      · rcases lt3 hb with rfl | rfl | rfl
        · simp [comp, rpOf, wiI, hq0, hs0]
        · exact absurd rfl hba
        · simp [comp, rpOf, wiI, hq0, hs0]
      · simp [comp, rpOf, wiI, hc, hq]
    · refine ⟨?_, fun b hb hba => ?_, ?_⟩
      · simpa [comp, rpOf, wiI, hc, hq] using hsn
      · rcases lt3 hb with rfl | rfl | rfl
        · simp [comp, rpOf, wiI, hq0, hs0]
        · simp [comp, rpOf, wiI, hq0, hs0]
        · exact absurd rfl hba
      · simp [comp, rpOf, wiI, hc, hq]
  obtain ⟨h1, h2, h3⟩ := hall
  have hk0 : kA a 0 = (0, 0, 0) := by rcases lt3 ha with rfl | rfl | rfl <;> rfl
  have h := trL_axis (R := rchI R) ha (fun b hb => (hp.s0 b hb).1) h1 h2 r0 r1 ((rchI R).toNat + 1) 0 200 (-1) 0 (by omega) (by omega)
  rw [hk0] at h
  refine Eq.trans h (List.map_congr_left fun j _ => ?_)
  rw [Nat.zero_add, goI_cell hp ha (f := f) (by rw [h3]; exact hu)]
  rfl
theorem near_at (x y z : Int) {k : Nat} (hk : k < 6) : (nearP x y z)[k * 3]? = some (.int .i64 (nearI (x, y, z) k).1) ∧ (nearP x y z)[k * 3 + 1]? = some (.int .i64 (nearI (x, y, z) k).2.1) ∧ (nearP x y z)[k * 3 + 2]? = some (.int .i64 (nearI (x, y, z) k).2.2) := by
  have : k = 0 ∨ k = 1 ∨ k = 2 ∨ k = 3 ∨ k = 4 ∨ k = 5 := by omega
  rcases this with rfl | rfl | rfl | rfl | rfl | rfl <;> exact ⟨rfl, rfl, rfl⟩
theorem goI_bd {c : I3} {B : Int} (h : (-B ≤ c.1 ∧ c.1 ≤ B) ∧ (-B ≤ c.2.1 ∧ c.2.1 ≤ B) ∧ (-B ≤ c.2.2 ∧ c.2.2 ≤ B)) {f : Nat} (hf : f < 6) : ∀ j : Nat, (-B - j ≤ (goI c f j).1 ∧ (goI c f j).1 ≤ B + j) ∧ (-B - j ≤ (goI c f j).2.1 ∧ (goI c f j).2.1 ≤ B + j) ∧ (-B - j ≤ (goI c f j).2.2 ∧ (goI c f j).2.2 ≤ B + j)
  | 0 => by simpa [goI] using h
  | j + 1 => by
    have ih := goI_bd h hf j
    have e : goI c f (j + 1) = nearI (goI c f j) f := rfl
    rw [e]
    generalize goI c f j = d at ih
    have : f = 0 ∨ f = 1 ∨ f = 2 ∨ f = 3 ∨ f = 4 ∨ f = 5 := by omega
    rcases this with rfl | rfl | rfl | rfl | rfl | rfl <;> simp [nearI] <;> omega
theorem low_bd {n : Int} (h : -70368744177664 ≤ n ∧ n ≤ 70368744177664) : -1073741824 ≤ lowI n ∧ lowI n ≤ 1073741824 := by
  have : cutI n = n := by unfold cutI; omega
  unfold lowI
  rw [this]; omega
theorem cell_guard : Try.prog.eqGuardType Try.prog.depth 29 = false := by kernel_rfl
theorem cell_ne_self (a b c : Int) (w : World) : (binOp .neq 29 (.agg #[.int .i64 a, .int .i64 b, .int .i64 c]) (.agg #[.int .i64 a, .int .i64 b, .int .i64 c])).run Try.prog w = .ok (.bool false) w := by
  rw [run_neq_struct]
  simp [go_sem]
theorem from46 (x y z : Int) : In46 (fromI x) (fromI y) (fromI z) := ⟨from_46 x, from_46 y, from_46 z⟩
/-- A face is an axis and a side. -/
theorem face_at (face : Int) : ∃ f a : Nat, f < 6 ∧ a < 3 ∧ arI face 6 = f ∧ (f : Int).tdiv 2 = a ∧ (f = 2 * a ∧ (f : Int).tmod 2 = 0 ∨ f = 2 * a + 1 ∧ (f : Int).tmod 2 = 1) := by
  have h1 := arI_lo face (m := 6) (by decide)
  have h2 := arI_hi face (m := 6) (by decide)
  refine ⟨(arI face 6).toNat, (arI face 6).toNat / 2, by omega, by omega, by omega, by rw [Int.tdiv_eq_ediv_of_nonneg (by omega)]; omega, ?_⟩
  rw [Int.tmod_eq_emod_of_nonneg (by omega)]
  omega
set_option maxRecDepth 100000 in
set_option maxHeartbeats 16000000 in
theorem rayStraight_c (x y z : Int) (_ : In64 x) (_ : In64 y) (_ : In64 z) (face : Int) (hfc : In64 face) (R : Int) (_ : In64 R) (sa : Int) (hsa : InU16 sa) (sb : Int) (hsb : InU16 sb) (w : World) :
    Calls Try.prog 7 #[.agg #[.int .i64 x, .int .i64 y, .int .i64 z], .int .i64 face, .int .i64 R, .int .u16 sa, .int .u16 sb] w fun e w' => e = .returned (.bool true) ∧ Below w.heap.size w w' := by
  have hmn := @run_mn Try.prog
  have hmx := @run_mx Try.prog
  have h46 := from46 x y z
  have HFR := Lib.hid fun w => rfrom_c x y z w
  generalize fromI x = ax at h46 HFR
  generalize fromI y = ay at h46 HFR
  generalize fromI z = az at h46 HFR
  have HOF := Lib.hid fun w => rof_c ax ay az w
  have HAR := Lib.hid fun w => around_c face 6 hfc.1 hfc.2 (by decide) w
  obtain ⟨f, a, hf6, ha3, har, hdiv, hcase⟩ := face_at face
  rw [har] at HAR
  have hmb : 0 ≤ mnI (mxI R 0) 64 ∧ mnI (mxI R 0) 64 ≤ 64 := rchI_bd R
  obtain ⟨K, hK⟩ : ∃ K, K = (rchI R).toNat := ⟨_, rfl⟩
  have hmm : mnI (mxI R 0) 64 = (K : Int) := by rw [hK]; exact (Int.toNat_of_nonneg (rchI_bd R).1).symm
  have hK64 : K ≤ 64 := by omega
  clear hmb hfc har
  unfold InU16 at hsa hsb
  obtain ⟨n1, m1, HC1, HC2, hn1, hm1⟩ : ∃ n1 m1 : Int, (Hid (∀ w, Calls Try.prog 23 #[.agg #[.int .i64 ax, .int .i64 ay, .int .i64 az], .agg #[.int .i64 (wiI 0 a 0 n1), .int .i64 (wiI 0 a 1 n1), .int .i64 (wiI 0 a 2 n1)], .int .i64 R] w fun r w' =>
      ∃ v, r = .returned v ∧ Owns w' w.heap.size 29 3 enc3 v ((List.range (K + 1)).map (goI (lowI ax, lowI ay, lowI az) f)) ∧ Below w.heap.size w w')) ∧
      (Hid (∀ w, Calls Try.prog 23 #[.agg #[.int .i64 ax, .int .i64 ay, .int .i64 az], .agg #[.int .i64 (wiI 0 a 0 m1), .int .i64 (wiI 0 a 1 m1), .int .i64 (wiI 0 a 2 m1)], .int .i64 R] w fun r w' =>
      ∃ v, r = .returned v ∧ Owns w' w.heap.size 29 3 enc3 v ((List.range (K + 1)).map (goI (lowI ax, lowI ay, lowI az) f)) ∧ Below w.heap.size w w')) ∧
      (f = 2 * a ∧ n1 = -(1 + sa) ∨ f = 2 * a + 1 ∧ n1 = 1 + sa) ∧ (f = 2 * a ∧ m1 = -(1 + sb) ∨ f = 2 * a + 1 ∧ m1 = 1 + sb) := by
    have mk : ∀ n : Int, (f = 2 * a ∧ n < 0 ∨ f = 2 * a + 1 ∧ 0 < n) → (-65536 ≤ n ∧ n ≤ 65536) → Hid (∀ w, Calls Try.prog 23 #[.agg #[.int .i64 ax, .int .i64 ay, .int .i64 az], .agg #[.int .i64 (wiI 0 a 0 n), .int .i64 (wiI 0 a 1 n), .int .i64 (wiI 0 a 2 n)], .int .i64 R] w fun r w' =>
      ∃ v, r = .returned v ∧ Owns w' w.heap.size 29 3 enc3 v ((List.range (K + 1)).map (goI (lowI ax, lowI ay, lowI az) f)) ∧ Below w.heap.size w w') := fun n h1 h2 => Lib.hid fun w => by
      rw [hK, ← straight ax ay az R n ha3 h1 h2]
      exact cells_c ax ay az _ _ _ R h46 w
    rcases hcase with ⟨e, -⟩ | ⟨e, -⟩
    · exact ⟨-(1 + sa), -(1 + sb), mk _ (.inl ⟨e, by omega⟩) (by omega), mk _ (.inl ⟨e, by omega⟩) (by omega), .inl ⟨e, rfl⟩, .inl ⟨e, rfl⟩⟩
    · exact ⟨1 + sa, 1 + sb, mk _ (.inr ⟨e, by omega⟩) (by omega), mk _ (.inr ⟨e, by omega⟩) (by omega), .inr ⟨e, rfl⟩, .inr ⟨e, rfl⟩⟩
  have hcb := Lib.hid (fun j => goI_bd (c := (lowI ax, lowI ay, lowI az)) (B := 1073741824) ⟨low_bd h46.1, low_bd h46.2.1, low_bd h46.2.2⟩ hf6 j)
  have hf0 : (0 : Int) ≤ (f : Int) := by omega
  have hf5 : (f : Int) < 6 := by omega
  clear hK h46
  go_enter Try.func7, Try.ntmps7
  go_upto_region 3 with first
    | (go_at_call 25; refine (HAR.out _).mono ?_; rintro e_ w1 ⟨rfl, rfl⟩)
    | (go_at_call 20; refine (HFR.out _).mono ?_; rintro e_ w1 ⟨rfl, h1⟩)
  generalize hV : World.alloc w1 _ = w2
  have P : Blk w2 w1.heap.size 26 #[.int .i64 ax, .int .i64 ay, .int .i64 az] := Blk.eqw hV (Blk.new' rfl)
  have hs1 : (w.alloc (.cells #[.int .i64 x, .int .i64 y, .int .i64 z] 26)).heap.size ≤ w1.heap.size := h1.size
  have H : Below w.heap.size w w2 := by rw [← hV]; exact (after ((Below.refl _ w).alloc (Nat.le_refl _) _) h1).alloc (by simp at hs1; omega) _
  generalize w1.heap.size = gp at P ⊢
  clear hV h1 hs1 HFR HAR
  obtain ⟨hmd, h13, h14⟩ : ∃ b : Int, (f : Int).tmod 2 = b ∧ (b = 0 ∧ n1 = -(1 + sa) ∧ m1 = -(1 + sb) ∨ b = 1 ∧ n1 = 1 + sa ∧ m1 = 1 + sb) := by
    rcases hcase with ⟨e, hm⟩ | ⟨e, hm⟩
    · exact ⟨0, hm, .inl ⟨rfl, by omega, by omega⟩⟩
    · exact ⟨1, hm, .inr ⟨rfl, by omega, by omega⟩⟩
  clear hn1 hm1 hcase
  have hlo : 0 ≤ sa ∧ sa ≤ 65535 ∧ 0 ≤ sb ∧ sb ≤ 65535 := ⟨hsa.1, hsa.2, hsb.1, hsb.2⟩
  obtain ⟨XS, hXS⟩ : ∃ XS, XS = (List.range (K + 1)).map (goI (lowI ax, lowI ay, lowI az) f) := ⟨_, rfl⟩
  have hXl : XS.length = K + 1 := by rw [hXS]; simp
  have HXA : Hid (∀ j : Nat, j ≤ K → XS[j]? = some (goI (lowI ax, lowI ay, lowI az) f j)) := Lib.hid fun j hj => by rw [hXS, List.getElem?_map, List.getElem?_range (by omega)]; rfl
  rw [← hXS] at HC1 HC2
  clear hXS
  have HST : Hid (∀ (v : Value) (w w' : World), (∃ q c, v = .slice q (K + 1) c ∧ Rd w q 3 enc3 XS) → Below w.heap.size w w' → ∃ q c, v = .slice q (K + 1) c ∧ Rd w' q 3 enc3 XS) := Lib.hid fun v w w' ⟨q, c, e, h⟩ hb => ⟨q, c, e, h.on hb⟩
  have HG1 : Hid (∀ W, Calls Try.prog 23 #[.agg #[.int .i64 ax, .int .i64 ay, .int .i64 az], .agg #[.int .i64 (wiI 0 a 0 n1), .int .i64 (wiI 0 a 1 n1), .int .i64 (wiI 0 a 2 n1)], .int .i64 R] W fun r w' => ∃ u, r = .returned u ∧ (Kept (fun _ => True) W w' ∧ ∃ q c, u = .slice q (K + 1) c ∧ Rd w' q 3 enc3 XS)) := Lib.hid fun W => (HC1.out W).mono fun r w' ⟨v, e, ho, hb⟩ => by
    obtain ⟨q, cp, rfl, -, -, hr, -, -⟩ := ho.form len3
    exact ⟨_, e, (Kept.of_below hb).mono fun _ _ => trivial, q, cp, by rw [hXl], hr⟩
  have HG2 : Hid (∀ W, Calls Try.prog 23 #[.agg #[.int .i64 ax, .int .i64 ay, .int .i64 az], .agg #[.int .i64 (wiI 0 a 0 m1), .int .i64 (wiI 0 a 1 m1), .int .i64 (wiI 0 a 2 m1)], .int .i64 R] W fun r w' => ∃ u, r = .returned u ∧ (Kept (fun _ => True) W w' ∧ ∃ q c, u = .slice q (K + 1) c ∧ Rd w' q 3 enc3 XS)) := Lib.hid fun W => (HC2.out W).mono fun r w' ⟨v, e, ho, hb⟩ => by
    obtain ⟨q, cp, rfl, -, -, hr, -, -⟩ := ho.form len3
    exact ⟨_, e, (Kept.of_below hb).mono fun _ _ => trivial, q, cp, by rw [hXl], hr⟩
  clear HC1 HC2 hsa hsb
  have wa : IntKind.i64.wrap (a : Int) = a := IntWalk.i64_in _ (by omega)
  rcases h14 with ⟨rfl, rfl, rfl⟩ | ⟨rfl, rfl, rfl⟩
  · go_upto_region 8 with (fail)
    obtain ⟨p0, p1, p2⟩ := P.re3
    refine wp_sched [0, 0, 0, 0, 0, 0, 0, 2, 3] (fun _ v w => ∃ q c, v = .slice q (K + 1) c ∧ Rd w q 3 enc3 XS) (by kernel_rfl) (by kernel_rfl) (fun _ v w w' h hb => HST.out v w w' h hb) ?_
    repeat (first | (refine wpQs_s ?_) | (refine wpQs_q (fun K hK => ?_); go_simp; first | (refine hK _ ?_; clear hK K) | (apply Exists.intro; refine ⟨fun _ => ?_, hK _ ?_⟩; (exact rwith_c _ _ _ _ _ _); clear hK K)) | (refine wpQs_f (fun K hK => ?_); go_simp; refine hK _ ?_; clear hK K))
    refine wpQs_nil ?_
    repeat (first | (refine wpLs_skip ?_) | (refine wpLs_one ?lsA (fun v_ => ?_); case lsA => (intro w_ hw_ hp_; (go_simp; refine (HG1.out _).mono ?_; rintro e_ w9 ⟨u, rfl, hk, q, c, hu, hr⟩; exact ⟨u, rfl, hk, q, ⟨c, hu⟩, hr⟩))))
    refine wpLs_nilB ?_
    simp only [tails]
    rintro W1 h1 ⟨-, q1, c1, rfl, hr1⟩
    replace P := P.on h1
    replace H := after H h1
    clear p0 p1 p2 h1
    go_upto_region 9 with (fail)
    obtain ⟨p0, p1, p2⟩ := P.re3
    refine wp_sched [0, 0, 0, 0, 0, 0, 0, 2, 3] (fun _ v w => ∃ q c, v = .slice q (K + 1) c ∧ Rd w q 3 enc3 XS) (by kernel_rfl) (by kernel_rfl) (fun _ v w w' h hb => HST.out v w w' h hb) ?_
    repeat (first | (refine wpQs_s ?_) | (refine wpQs_q (fun K hK => ?_); go_simp; first | (refine hK _ ?_; clear hK K) | (apply Exists.intro; refine ⟨fun _ => ?_, hK _ ?_⟩; (exact rwith_c _ _ _ _ _ _); clear hK K)) | (refine wpQs_f (fun K hK => ?_); go_simp; refine hK _ ?_; clear hK K))
    refine wpQs_nil ?_
    repeat (first | (refine wpLs_skip ?_) | (refine wpLs_one ?lsA (fun v_ => ?_); case lsA => (intro w_ hw_ hp_; (go_simp; refine (HG2.out _).mono ?_; rintro e_ w9 ⟨u, rfl, hk, q, c, hu, hr⟩; exact ⟨u, rfl, hk, q, ⟨c, hu⟩, hr⟩))))
    refine wpLs_nilB ?_
    simp only [tails]
    rintro W2 h2 ⟨-, q2, c2, rfl, hr2⟩
    replace P := P.on h2
    replace H := after H h2
    replace hr1 := hr1.on h2
    clear p0 p1 p2 h2 HG1 HG2 HST hdiv h13 wa
    obtain ⟨p0, p1, p2, -, -, -⟩ := P.c3
    have R1 := Lib.hid hr1
    have R2 := Lib.hid hr2
    clear hr1 hr2
    go_upto_region 14 with (go_at_call 24; refine (HOF.out _).mono ?_; rintro e_ w5 ⟨rfl, h5⟩)
    generalize hV : World.alloc w5 _ = w6
    have C : Blk w6 w5.heap.size 29 #[.int .i64 (lowI ax), .int .i64 (lowI ay), .int .i64 (lowI az)] := Blk.eqw hV (Blk.new' rfl)
    have h6 : Below W2.heap.size W2 w6 := by rw [← hV]; exact h5.alloc h5.size _
    have hwg : w.heap.size ≤ w5.heap.size := Nat.le_trans H.size h5.size
    replace H := after H h6
    have hgc : W2.heap.size ≤ w5.heap.size := h5.size
    have hgl := C.lt
    generalize w5.heap.size = gc at C hgc hgl hwg ⊢
    have Q1 : Hid (∃ g o, q1 = some ⟨g, o, none⟩ ∧ g < gc ∧ ∀ i x, XS[i]? = some x → w6.cell? ⟨g, o + i * 3, none⟩ = some (.int .i64 x.1) ∧ w6.cell? ⟨g, o + i * 3 + 1, none⟩ = some (.int .i64 x.2.1) ∧ w6.cell? ⟨g, o + i * 3 + 2, none⟩ = some (.int .i64 x.2.2)) := Lib.hid (by
      obtain ⟨g, o, hq, h⟩ := R1.out (by omega)
      have hg := cell_lt (h 0 _ (HXA.out 0 (by omega)) 0 _ rfl)
      exact ⟨g, o, hq, Nat.lt_of_lt_of_le hg hgc, fun i x hx => ⟨(cell_below h6 (p := ⟨g, o + i * 3, none⟩) hg).trans (h i x hx 0 _ rfl), (cell_below h6 (p := ⟨g, o + i * 3 + 1, none⟩) hg).trans (h i x hx 1 _ rfl), (cell_below h6 (p := ⟨g, o + i * 3 + 2, none⟩) hg).trans (h i x hx 2 _ rfl)⟩⟩)
    have Q2 : Hid (∃ g o, q2 = some ⟨g, o, none⟩ ∧ g < gc ∧ ∀ i x, XS[i]? = some x → w6.cell? ⟨g, o + i * 3, none⟩ = some (.int .i64 x.1) ∧ w6.cell? ⟨g, o + i * 3 + 1, none⟩ = some (.int .i64 x.2.1) ∧ w6.cell? ⟨g, o + i * 3 + 2, none⟩ = some (.int .i64 x.2.2)) := Lib.hid (by
      obtain ⟨g, o, hq, h⟩ := R2.out (by omega)
      have hg := cell_lt (h 0 _ (HXA.out 0 (by omega)) 0 _ rfl)
      exact ⟨g, o, hq, Nat.lt_of_lt_of_le hg hgc, fun i x hx => ⟨(cell_below h6 (p := ⟨g, o + i * 3, none⟩) hg).trans (h i x hx 0 _ rfl), (cell_below h6 (p := ⟨g, o + i * 3 + 1, none⟩) hg).trans (h i x hx 1 _ rfl), (cell_below h6 (p := ⟨g, o + i * 3 + 2, none⟩) hg).trans (h i x hx 2 _ rfl)⟩⟩)
    obtain ⟨g1, o1, rfl, hg1, r1⟩ := Q1.out
    obtain ⟨g2, o2, rfl, hg2, r2⟩ := Q2.out
    have X1 := Lib.hid r1
    have X2 := Lib.hid r2
    clear hV h5 h6 p0 p1 p2 P R1 R2 Q1 Q2 r1 r2 HOF
    have HG := Lib.hid (And.intro hwg (And.intro hg1 (And.intro hg2 hgl)))
    clear hwg hg1 hg2 hgl hgc
    go_upto_region 15 with (fail)
    go_loopw [19] (fun i wr => ∃ k : Nat, k ≤ K + 1 ∧ i = .int .i64 k ∧ Blk wr gc 29 #[.int .i64 (goI (lowI ax, lowI ay, lowI az) f k).1, .int .i64 (goI (lowI ax, lowI ay, lowI az) f k).2.1, .int .i64 (goI (lowI ax, lowI ay, lowI az) f k).2.2] ∧ Hid (Kept (fun b => b ≠ gc) w6 wr) ∧ Hid (Below w.heap.size w wr)) (fun i _ => K + 1 - (intOf i).toNat)
    case atStart => exact ⟨0, Nat.zero_le _, rfl, C, Lib.hid (Kept.refl _ _), Lib.hid H⟩
    case round =>
      clear C H
      obtain ⟨k, hk, rfl, C, HKP, HB⟩ := hrel
      by_cases hlt : k ≤ K
      · as_aux_lemma =>
        obtain ⟨b0, b1, b2⟩ := hcb.out k
        have hx := HXA.out k hlt
        have hstep : Hid (goI (lowI ax, lowI ay, lowI az) f (k + 1) = nearI (goI (lowI ax, lowI ay, lowI az) f k) f) := Lib.hid rfl
        obtain ⟨e0, e1, e2⟩ := X1.out k _ hx
        obtain ⟨i0, i1, i2⟩ := X2.out k _ hx
        generalize goI (lowI ax, lowI ay, lowI az) f k = dd at C hstep e0 e1 e2 i0 i1 i2 b0 b1 b2
        obtain ⟨dx, dy, dz⟩ := dd
        dsimp only at C e0 e1 e2 i0 i1 i2 b0 b1 b2
        have hg := HG.out
        have get : ∀ g o v, g < gc → w6.cell? ⟨g, o, none⟩ = some v → wr.cell? ⟨g, o, none⟩ = some v := fun g o v h1 h2 => by
          rw [World.cell?_of_block (a := ⟨g, o, none⟩) (HKP.out.block g (cell_lt h2) (by omega))]; exact h2
        replace e0 := get _ _ _ hg.2.1 e0
        replace e1 := get _ _ _ hg.2.1 e1
        replace e2 := get _ _ _ hg.2.1 e2
        replace i0 := get _ _ _ hg.2.2.1 i0
        replace i1 := get _ _ _ hg.2.2.1 i1
        replace i2 := get _ _ _ hg.2.2.1 i2
        have HNR := Lib.hid fun w => rnear_e dx dy dz (by omega) (by omega) (by omega) w
        obtain ⟨n0, n1, n2⟩ := near_at dx dy dz hf6
        generalize nearI (dx, dy, dz) f = nn at n0 n1 n2 hstep
        obtain ⟨nx, ny, nz⟩ := nn
        dsimp only at n0 n1 n2
        have hk1 : (k : Int) ≤ (K : Int) := by omega
        have hk0 : (0 : Int) ≤ (k : Int) := by omega
        have hk2 : (k : Int) < (K : Int) + 1 := by omega
        have hk3 : k < K + 1 := by omega
        clear hx get b0 b1 b2 hg
        go_upto_region 17 with (fail)
        have q0 := fun d os => cell_regrown e0 d os
        have q1 := fun d os => cell_regrown e1 d os
        have q2 := fun d os => cell_regrown e2 d os
        have j0 := fun d os => cell_regrown i0 d os
        have j1 := fun d os => cell_regrown i1 d os
        have j2 := fun d os => cell_regrown i2 d os
        obtain ⟨c0, c1, c2⟩ := C.re3
        have se := cell_ne_self dx dy dz
        have cg := cell_guard
        clear e0 e1 e2 i0 i1 i2
        refine wp_region_quiet_below (by kernel_rfl) (by kernel_rfl) ?_
        repeat (go_big_quiet_step (fail))
        refine wpQuiet_nil ?_
        intro w' hw'
        obtain ⟨rg, rfl⟩ := hw'
        generalize hW9 : Go.Sort.grow (redrawn wr rg.d) rg.os = W9
        have h9 : Below wr.heap.size wr W9 := by rw [← hW9]; exact below_regrown _ _ _
        clear hW9 q0 q1 q2 j0 j1 j2 c0 c1 c2 se cg
        replace C := C.on h9
        obtain ⟨c0, c1, c2, f0, f1, f2⟩ := C.c3
        go_upto_region 20 with (go_at_call 19; refine (HNR.out _).mono ?_; rintro e_ w10 ⟨rfl, h10⟩)
        generalize hV : World.alloc w10 _ = w11
        have G : Blk w11 w10.heap.size 47 (nearP dx dy dz) := Blk.eqw hV (Blk.new' rfl)
        have h11 : Below W9.heap.size W9 w11 := by rw [← hV]; exact h10.alloc h10.size _
        generalize w10.heap.size = gn at G ⊢
        have g0 := (G.cell (f * 3)).trans n0
        have g1 := (G.cell (f * 3 + 1)).trans n1
        have g2 := (G.cell (f * 3 + 2)).trans n2
        clear hV h10 c0 c1 c2 f0 f1 f2 n0 n1 n2 G
        replace C := C.on h11
        obtain ⟨c0, c1, c2, f0, f1, f2⟩ := C.c3
        have HKQ := Lib.hid ((HKP.out.on h9).on h11)
        have HBQ := Lib.hid (after (after HB.out h9) h11)
        clear HKP HB h9 h11
        go_wp2_with fail
        have hwg := HG.out.1
        exact ⟨⟨k + 1, by omega, by go_num, by rw [hstep.out]; exact C.st3 _ _ _, Lib.hid (((HKQ.out.setCell (p := ⟨gc, 0, none⟩) (by simp) _).setCell (p := ⟨gc, 1, none⟩) (by simp) _).setCell (p := ⟨gc, 2, none⟩) (by simp) _), Lib.hid (((HBQ.out.setCell (p := ⟨gc, 0, none⟩) hwg _).setCell (p := ⟨gc, 1, none⟩) hwg _).setCell (p := ⟨gc, 2, none⟩) hwg _)⟩, next_less' hk3⟩
      · as_aux_lemma =>
        obtain rfl : k = K + 1 := by omega
        have hkn : ¬ ((K : Int) + 1 ≤ (K : Int)) := by omega
        go_wp2_with (go_at_call 15; refine (rlives_c _).mono ?_; rintro e_ w10 ⟨rfl, h10⟩)
        go_returns
        exact ⟨rfl, after HB.out h10⟩
  · go_upto_region 8 with (fail)
    obtain ⟨p0, p1, p2⟩ := P.re3
    refine wp_sched [0, 0, 0, 0, 0, 0, 0, 2, 3] (fun _ v w => ∃ q c, v = .slice q (K + 1) c ∧ Rd w q 3 enc3 XS) (by kernel_rfl) (by kernel_rfl) (fun _ v w w' h hb => HST.out v w w' h hb) ?_
    repeat (first | (refine wpQs_s ?_) | (refine wpQs_q (fun K hK => ?_); go_simp; first | (refine hK _ ?_; clear hK K) | (apply Exists.intro; refine ⟨fun _ => ?_, hK _ ?_⟩; (exact rwith_c _ _ _ _ _ _); clear hK K)) | (refine wpQs_f (fun K hK => ?_); go_simp; refine hK _ ?_; clear hK K))
    refine wpQs_nil ?_
    repeat (first | (refine wpLs_skip ?_) | (refine wpLs_one ?lsA (fun v_ => ?_); case lsA => (intro w_ hw_ hp_; (go_simp; refine (HG1.out _).mono ?_; rintro e_ w9 ⟨u, rfl, hk, q, c, hu, hr⟩; exact ⟨u, rfl, hk, q, ⟨c, hu⟩, hr⟩))))
    refine wpLs_nilB ?_
    simp only [tails]
    rintro W1 h1 ⟨-, q1, c1, rfl, hr1⟩
    replace P := P.on h1
    replace H := after H h1
    clear p0 p1 p2 h1
    go_upto_region 9 with (fail)
    obtain ⟨p0, p1, p2⟩ := P.re3
    refine wp_sched [0, 0, 0, 0, 0, 0, 0, 2, 3] (fun _ v w => ∃ q c, v = .slice q (K + 1) c ∧ Rd w q 3 enc3 XS) (by kernel_rfl) (by kernel_rfl) (fun _ v w w' h hb => HST.out v w w' h hb) ?_
    repeat (first | (refine wpQs_s ?_) | (refine wpQs_q (fun K hK => ?_); go_simp; first | (refine hK _ ?_; clear hK K) | (apply Exists.intro; refine ⟨fun _ => ?_, hK _ ?_⟩; (exact rwith_c _ _ _ _ _ _); clear hK K)) | (refine wpQs_f (fun K hK => ?_); go_simp; refine hK _ ?_; clear hK K))
    refine wpQs_nil ?_
    repeat (first | (refine wpLs_skip ?_) | (refine wpLs_one ?lsA (fun v_ => ?_); case lsA => (intro w_ hw_ hp_; (go_simp; refine (HG2.out _).mono ?_; rintro e_ w9 ⟨u, rfl, hk, q, c, hu, hr⟩; exact ⟨u, rfl, hk, q, ⟨c, hu⟩, hr⟩))))
    refine wpLs_nilB ?_
    simp only [tails]
    rintro W2 h2 ⟨-, q2, c2, rfl, hr2⟩
    replace P := P.on h2
    replace H := after H h2
    replace hr1 := hr1.on h2
    clear p0 p1 p2 h2 HG1 HG2 HST hdiv h13 wa
    obtain ⟨p0, p1, p2, -, -, -⟩ := P.c3
    have R1 := Lib.hid hr1
    have R2 := Lib.hid hr2
    clear hr1 hr2
    go_upto_region 14 with (go_at_call 24; refine (HOF.out _).mono ?_; rintro e_ w5 ⟨rfl, h5⟩)
    generalize hV : World.alloc w5 _ = w6
    have C : Blk w6 w5.heap.size 29 #[.int .i64 (lowI ax), .int .i64 (lowI ay), .int .i64 (lowI az)] := Blk.eqw hV (Blk.new' rfl)
    have h6 : Below W2.heap.size W2 w6 := by rw [← hV]; exact h5.alloc h5.size _
    have hwg : w.heap.size ≤ w5.heap.size := Nat.le_trans H.size h5.size
    replace H := after H h6
    have hgc : W2.heap.size ≤ w5.heap.size := h5.size
    have hgl := C.lt
    generalize w5.heap.size = gc at C hgc hgl hwg ⊢
    have Q1 : Hid (∃ g o, q1 = some ⟨g, o, none⟩ ∧ g < gc ∧ ∀ i x, XS[i]? = some x → w6.cell? ⟨g, o + i * 3, none⟩ = some (.int .i64 x.1) ∧ w6.cell? ⟨g, o + i * 3 + 1, none⟩ = some (.int .i64 x.2.1) ∧ w6.cell? ⟨g, o + i * 3 + 2, none⟩ = some (.int .i64 x.2.2)) := Lib.hid (by
      obtain ⟨g, o, hq, h⟩ := R1.out (by omega)
      have hg := cell_lt (h 0 _ (HXA.out 0 (by omega)) 0 _ rfl)
      exact ⟨g, o, hq, Nat.lt_of_lt_of_le hg hgc, fun i x hx => ⟨(cell_below h6 (p := ⟨g, o + i * 3, none⟩) hg).trans (h i x hx 0 _ rfl), (cell_below h6 (p := ⟨g, o + i * 3 + 1, none⟩) hg).trans (h i x hx 1 _ rfl), (cell_below h6 (p := ⟨g, o + i * 3 + 2, none⟩) hg).trans (h i x hx 2 _ rfl)⟩⟩)
    have Q2 : Hid (∃ g o, q2 = some ⟨g, o, none⟩ ∧ g < gc ∧ ∀ i x, XS[i]? = some x → w6.cell? ⟨g, o + i * 3, none⟩ = some (.int .i64 x.1) ∧ w6.cell? ⟨g, o + i * 3 + 1, none⟩ = some (.int .i64 x.2.1) ∧ w6.cell? ⟨g, o + i * 3 + 2, none⟩ = some (.int .i64 x.2.2)) := Lib.hid (by
      obtain ⟨g, o, hq, h⟩ := R2.out (by omega)
      have hg := cell_lt (h 0 _ (HXA.out 0 (by omega)) 0 _ rfl)
      exact ⟨g, o, hq, Nat.lt_of_lt_of_le hg hgc, fun i x hx => ⟨(cell_below h6 (p := ⟨g, o + i * 3, none⟩) hg).trans (h i x hx 0 _ rfl), (cell_below h6 (p := ⟨g, o + i * 3 + 1, none⟩) hg).trans (h i x hx 1 _ rfl), (cell_below h6 (p := ⟨g, o + i * 3 + 2, none⟩) hg).trans (h i x hx 2 _ rfl)⟩⟩)
    obtain ⟨g1, o1, rfl, hg1, r1⟩ := Q1.out
    obtain ⟨g2, o2, rfl, hg2, r2⟩ := Q2.out
    have X1 := Lib.hid r1
    have X2 := Lib.hid r2
    clear hV h5 h6 p0 p1 p2 P R1 R2 Q1 Q2 r1 r2 HOF
    have HG := Lib.hid (And.intro hwg (And.intro hg1 (And.intro hg2 hgl)))
    clear hwg hg1 hg2 hgl hgc
    go_upto_region 15 with (fail)
    go_loopw [19] (fun i wr => ∃ k : Nat, k ≤ K + 1 ∧ i = .int .i64 k ∧ Blk wr gc 29 #[.int .i64 (goI (lowI ax, lowI ay, lowI az) f k).1, .int .i64 (goI (lowI ax, lowI ay, lowI az) f k).2.1, .int .i64 (goI (lowI ax, lowI ay, lowI az) f k).2.2] ∧ Hid (Kept (fun b => b ≠ gc) w6 wr) ∧ Hid (Below w.heap.size w wr)) (fun i _ => K + 1 - (intOf i).toNat)
    case atStart => exact ⟨0, Nat.zero_le _, rfl, C, Lib.hid (Kept.refl _ _), Lib.hid H⟩
    case round =>
      clear C H
      obtain ⟨k, hk, rfl, C, HKP, HB⟩ := hrel
      by_cases hlt : k ≤ K
      · as_aux_lemma =>
        obtain ⟨b0, b1, b2⟩ := hcb.out k
        have hx := HXA.out k hlt
        have hstep : Hid (goI (lowI ax, lowI ay, lowI az) f (k + 1) = nearI (goI (lowI ax, lowI ay, lowI az) f k) f) := Lib.hid rfl
        obtain ⟨e0, e1, e2⟩ := X1.out k _ hx
        obtain ⟨i0, i1, i2⟩ := X2.out k _ hx
        generalize goI (lowI ax, lowI ay, lowI az) f k = dd at C hstep e0 e1 e2 i0 i1 i2 b0 b1 b2
        obtain ⟨dx, dy, dz⟩ := dd
        dsimp only at C e0 e1 e2 i0 i1 i2 b0 b1 b2
        have hg := HG.out
        have get : ∀ g o v, g < gc → w6.cell? ⟨g, o, none⟩ = some v → wr.cell? ⟨g, o, none⟩ = some v := fun g o v h1 h2 => by
          rw [World.cell?_of_block (a := ⟨g, o, none⟩) (HKP.out.block g (cell_lt h2) (by omega))]; exact h2
        replace e0 := get _ _ _ hg.2.1 e0
        replace e1 := get _ _ _ hg.2.1 e1
        replace e2 := get _ _ _ hg.2.1 e2
        replace i0 := get _ _ _ hg.2.2.1 i0
        replace i1 := get _ _ _ hg.2.2.1 i1
        replace i2 := get _ _ _ hg.2.2.1 i2
        have HNR := Lib.hid fun w => rnear_e dx dy dz (by omega) (by omega) (by omega) w
        obtain ⟨n0, n1, n2⟩ := near_at dx dy dz hf6
        generalize nearI (dx, dy, dz) f = nn at n0 n1 n2 hstep
        obtain ⟨nx, ny, nz⟩ := nn
        dsimp only at n0 n1 n2
        have hk1 : (k : Int) ≤ (K : Int) := by omega
        have hk0 : (0 : Int) ≤ (k : Int) := by omega
        have hk2 : (k : Int) < (K : Int) + 1 := by omega
        have hk3 : k < K + 1 := by omega
        clear hx get b0 b1 b2 hg
        go_upto_region 17 with (fail)
        have q0 := fun d os => cell_regrown e0 d os
        have q1 := fun d os => cell_regrown e1 d os
        have q2 := fun d os => cell_regrown e2 d os
        have j0 := fun d os => cell_regrown i0 d os
        have j1 := fun d os => cell_regrown i1 d os
        have j2 := fun d os => cell_regrown i2 d os
        obtain ⟨c0, c1, c2⟩ := C.re3
        have se := cell_ne_self dx dy dz
        have cg := cell_guard
        clear e0 e1 e2 i0 i1 i2
        refine wp_region_quiet_below (by kernel_rfl) (by kernel_rfl) ?_
        repeat (go_big_quiet_step (fail))
        refine wpQuiet_nil ?_
        intro w' hw'
        obtain ⟨rg, rfl⟩ := hw'
        generalize hW9 : Go.Sort.grow (redrawn wr rg.d) rg.os = W9
        have h9 : Below wr.heap.size wr W9 := by rw [← hW9]; exact below_regrown _ _ _
        clear hW9 q0 q1 q2 j0 j1 j2 c0 c1 c2 se cg
        replace C := C.on h9
        obtain ⟨c0, c1, c2, f0, f1, f2⟩ := C.c3
        go_upto_region 20 with (go_at_call 19; refine (HNR.out _).mono ?_; rintro e_ w10 ⟨rfl, h10⟩)
        generalize hV : World.alloc w10 _ = w11
        have G : Blk w11 w10.heap.size 47 (nearP dx dy dz) := Blk.eqw hV (Blk.new' rfl)
        have h11 : Below W9.heap.size W9 w11 := by rw [← hV]; exact h10.alloc h10.size _
        generalize w10.heap.size = gn at G ⊢
        have g0 := (G.cell (f * 3)).trans n0
        have g1 := (G.cell (f * 3 + 1)).trans n1
        have g2 := (G.cell (f * 3 + 2)).trans n2
        clear hV h10 c0 c1 c2 f0 f1 f2 n0 n1 n2 G
        replace C := C.on h11
        obtain ⟨c0, c1, c2, f0, f1, f2⟩ := C.c3
        have HKQ := Lib.hid ((HKP.out.on h9).on h11)
        have HBQ := Lib.hid (after (after HB.out h9) h11)
        clear HKP HB h9 h11
        go_wp2_with fail
        have hwg := HG.out.1
        exact ⟨⟨k + 1, by omega, by go_num, by rw [hstep.out]; exact C.st3 _ _ _, Lib.hid (((HKQ.out.setCell (p := ⟨gc, 0, none⟩) (by simp) _).setCell (p := ⟨gc, 1, none⟩) (by simp) _).setCell (p := ⟨gc, 2, none⟩) (by simp) _), Lib.hid (((HBQ.out.setCell (p := ⟨gc, 0, none⟩) hwg _).setCell (p := ⟨gc, 1, none⟩) hwg _).setCell (p := ⟨gc, 2, none⟩) hwg _)⟩, next_less' hk3⟩
      · as_aux_lemma =>
        obtain rfl : k = K + 1 := by omega
        have hkn : ¬ ((K : Int) + 1 ≤ (K : Int)) := by omega
        go_wp2_with (go_at_call 15; refine (rlives_c _).mono ?_; rintro e_ w10 ⟨rfl, h10⟩)
        go_returns
        exact ⟨rfl, after HB.out h10⟩
set_option maxRecDepth 100000 in
theorem rayStraight_lifted (os : Os) (started : os.Started) (H : Type) (enc : TypeId × Value → H) :
    ReturnsInHanded {} Try.checked os 7 .any (Rows.rayStraightSpec.pre6 enc Try.prog Try.f7 Rows.rayStraightRow.domain false) (Rows.rayStraightSpec.post enc Try.prog Try.f7 false true false false) := by
  refine returnsInHanded_of_change (C := Try.checked) own started (by kernel_rfl) Try.func7
    (ChangeSpec.witness6 (enc := enc) (C := Try.checked) false ⟨#[], #[.agg #[.int .i64 0, .int .i64 0, .int .i64 0], .int .i64 0, .int .i64 0, .int .u16 0, .int .u16 0], []⟩ 8 (by kernel_rfl) (by kernel_rfl) (by kernel_rfl) (by kernel_rfl)) ?_
  intro W base args ds gs before hval0 hW hcnd hsz
  have hval : ∀ (j : Nat) t v, Try.f7.params[j]? = some t → args[j]? = some v → Value.okWide Try.prog W .any base t v := hval0
  have hW' := hW
  obtain ⟨p, q, hA0, hV, rfl, hfz, hnd⟩ := hW
  have hA : DataW.TrodAll enc Try.prog W 0 (fun _ => true) true Try.f7.params.toList args.toList ds p := hA0
  rw [Try.params7] at hA hval
  obtain ⟨v0, vs0, d0, ds0, p_0, q_0, hargs, rfl, rfl, h0, r_0⟩ := trodAll_cons hA
  obtain ⟨v1, vs1, d1, ds1, p_1, q_1, rfl, rfl, rfl, h1, r_1⟩ := trodAll_cons r_0
  obtain ⟨v2, vs2, d2, ds2, p_2, q_2, rfl, rfl, rfl, h2, r_2⟩ := trodAll_cons r_1
  obtain ⟨v3, vs3, d3, ds3, p_3, q_3, rfl, rfl, rfl, h3, r_3⟩ := trodAll_cons r_2
  obtain ⟨v4, vs4, d4, ds4, p_4, q_4, rfl, rfl, rfl, h4, r_4⟩ := trodAll_cons r_3
  obtain ⟨rfl, rfl, rfl⟩ := trodAll_nil r_4
  obtain rfl : args = #[v0, v1, v2, v3, v4] := by cases args; simp_all
  obtain ⟨rfl, rfl⟩ := trodVars_none hV
  obtain ⟨x0, y0, z0, rfl, wx0, wy0, wz0⟩ := open_vec Try.underlying26 (by kernel_rfl) (by kernel_rfl) Try.underlying3 (hval 0 26 v0 rfl rfl) h0
  obtain ⟨a1, rfl, rfl, rfl, w1⟩ := open_int Try.underlying3 (hval 1 3 v1 rfl rfl) h1
  obtain ⟨a2, rfl, rfl, rfl, w2⟩ := open_int Try.underlying3 (hval 2 3 v2 rfl rfl) h2
  obtain ⟨a3, rfl, rfl, rfl, w3⟩ := open_int Try.underlying59 (hval 3 59 v3 rfl rfl) h3
  obtain ⟨a4, rfl, rfl, rfl, w4⟩ := open_int Try.underlying59 (hval 4 59 v4 rfl rfl) h4
  refine (rayStraight_c x0 y0 z0 wx0 wy0 wz0 a1 (in64_of_wf w1) a2 (in64_of_wf w2) a3 (inU16_of_wf w3) a4 (inU16_of_wf w4) W).mono fun e W' ⟨he, hb⟩ => ?_
  subst he
  exact ⟨_, rfl, law_post laidOut (by kernel_rfl) rfl (by kernel_rfl) Try.underlying4 hW' rfl rfl rfl hb⟩

/-- The statement. -/
theorem rayStraight_proved : Rows.RayStraightSaid :=
  OpenClaim.holds_of_wide 7 Try.f7 rfl rfl rfl rfl rfl rfl rfl ⟨rfl, rfl, rfl, rfl, rfl⟩ rfl rfl rfl rfl rfl (by kernel_rfl) Try.func7 (by kernel_rfl)
    (of_decide_eq_true (by kernel_rfl)) (by unfold Func.isWrapper; first | (rw [if_pos (by decide +kernel)]; kernel_rfl) | (rw [if_neg (by decide +kernel)]; exact ⟨rfl, rfl⟩))
    (fun os started H enc _ => rayStraight_lifted os started H enc)
end Go.Proofs.Ytjlgcfdpfalbpaa
