/- RayTraces holds: what a ray sees, by which face, and when, is the document's: any place (made one within 2^46), any way, any reach. -/
import Derived.Test.YtjlgcfdpfalbpaaRayLv
import Derived.Test.YtjlgcfdpfalbpaaRayR4
import Derived.Lib.QuietBelow
namespace Go.Proofs.Ytjlgcfdpfalbpaa
open Go.ChangeShapes Go.WideShapes Go.ChangeAt Go.RowKit
attribute [local go_sem] Oper.semAt_some

/-- A region that draws its order in a round of a range over a function: all quiet, guards let. -/
theorem in_quiet_below {P : Program} {l' n id : Nat} {Q : Exit → Act → World → Prop} {a : Act} {w : World} {l : List Oper} (hm : P.follows .mixedOrders = true) (hB : Region.lexB .any l.toArray = true) (hd : noDefer l.toArray = true) (hQ : ¬ LetsOut Q)
    (h : wpQuiet P l.toArray (fun w' => ∃ p : Regrown, w' = Go.Sort.grow (redrawn w p.d) p.os) (fun a' => ∀ w', (∃ p : Regrown, w' = Go.Sort.grow (redrawn w p.d) p.os) → Q .normal a' w') l a) : (Code.region id l.toArray true).wpIn (Fence.wide.inRound l') n P Q a w := by
  simp only [Region.lexB, Bool.and_eq_true] at hB
  refine wpIn_region_any hm (any_in hd hQ _ _ _ _ (wpAny_of_quiet (C := fun w' => ∃ p : Regrown, w' = Go.Sort.grow (redrawn w p.d) p.os) (Q := fun a' => ∀ w', (∃ p : Regrown, w' = Go.Sort.grow (redrawn w p.d) p.os) → Q .normal a' w') (fun _ w' hw' h => h w' hw') _ _ _ _ ⟨⟨w.drawn + 1, #[]⟩, by rw [Go.Sort.grow_empty]; rfl⟩ ?_))
  have := wpAnyQ_lex (C := fun w' => ∃ p : Regrown, w' = Go.Sort.grow (redrawn w p.d) p.os) (md := .any) hB.1 l 0 (Array.replicate l.toArray.size false) a (by simp) (by simpa using hB.2) h
  simpa using this
theorem cell_guard : Try.prog.eqGuardType Try.prog.depth 29 = false := by kernel_rfl
theorem cell_ne_self (a b c : Int) (w : World) : (binOp .neq 29 (.agg #[.int .i64 a, .int .i64 b, .int .i64 c]) (.agg #[.int .i64 a, .int .i64 b, .int .i64 c])).run Try.prog w = .ok (.bool false) w := by
  rw [run_neq_struct]
  simp [go_sem]
theorem seq_nil (f : FuncId) (lb : Array Value) (w : World) : (binOp .eql 53 (.func (.func f) #[] lb) .nilFunc).run Try.prog w = .ok (.bool false) w := by kernel_rfl
theorem seq_guard : Try.prog.eqGuardType Try.prog.depth 53 = false := by kernel_rfl
theorem from46 (x y z : Int) : In46 (fromI x) (fromI y) (fromI z) := ⟨from_46 x, from_46 y, from_46 z⟩
set_option maxRecDepth 100000 in
set_option maxHeartbeats 16000000 in
theorem rayTraces_c (x y z : Int) (_ : In64 x) (_ : In64 y) (_ : In64 z) (a b c : Int) (_ : In64 a) (_ : In64 b) (_ : In64 c) (R : Int) (_ : In64 R) (w : World) :
    Calls Try.prog 5 #[.agg #[.int .i64 x, .int .i64 y, .int .i64 z], .agg #[.int .i64 a, .int .i64 b, .int .i64 c], .int .i64 R] w fun e w' => e = .returned (.bool true) ∧ Below w.heap.size w w' := by
  have h46 := from46 x y z
  have HFR := Lib.hid fun w => rfrom_c x y z w
  generalize fromI x = ax at h46 HFR
  generalize fromI y = ay at h46 HFR
  generalize fromI z = az at h46 HFR
  have HTR := Lib.hid fun w => rtr_c ax ay az a b c R h46 w
  have HRT := Lib.hid fun w => rtrace_c ax ay az a b c R w
  have HCE := Lib.hid fun w => cells_c ax ay az a b c R h46 w
  have HLN := Lib.hid (see_len ax ay az a b c R)
  obtain ⟨W, hW⟩ : ∃ W, W = ((w.alloc (.cells #[.int .i64 x, .int .i64 y, .int .i64 z] 26)).alloc (.cells #[.int .i64 a, .int .i64 b, .int .i64 c] 26)).alloc (.cells #[.bool false] 4) := ⟨_, rfl⟩
  have H : Below w.heap.size w W := by rw [hW]; go_grown
  obtain ⟨N, hN⟩ : ∃ N, N = w.heap.size := ⟨_, rfl⟩
  have A : Blk W N 26 #[.int .i64 x, .int .i64 y, .int .i64 z] := Blk.eqw hW.symm (by rw [hN]; exact ((Blk.new' rfl).alloc _).alloc _)
  have V : Blk W (N + 1) 26 #[.int .i64 a, .int .i64 b, .int .i64 c] := Blk.eqw hW.symm (by rw [hN]; exact (Blk.new' (by simp)).alloc _)
  have B : Blk W (N + 1 + 1) 4 #[.bool false] := Blk.eqw hW.symm (by rw [hN]; exact Blk.new' (by simp))
  have hsW : W.heap.size = N + 3 := by rw [hW, hN]; simp
  have HSW := Lib.hid hsW
  clear hsW
  refine (callsIn_wide (n := 5)).1 (callsIn_of_wp_marks Try.func5 rfl trivial ?_ rfl)
  refine wpIn_wide.2 ?_
  simp only [Try.ntmps5, List.size_toArray, List.length_cons, List.length_nil, Nat.reduceAdd, Nat.reduceSub, Array.replicate_succ, Array.replicate_zero, List.push_toArray, List.append_toArray, List.nil_append, List.cons_append]
  go_upto_region 1 with (fail)
  rw [← hW, ← hN]
  have HN := Lib.hid hN
  clear hW hN
  obtain ⟨a0, a1, a2, -, -, -⟩ := A.c3
  go_upto_region 2 with (go_at_call 20; refine (HFR.out _).mono ?_; rintro e_ w1 ⟨rfl, h1⟩)
  generalize hV : World.alloc w1 _ = w2
  have P : Blk w2 w1.heap.size 26 #[.int .i64 ax, .int .i64 ay, .int .i64 az] := Blk.eqw hV (Blk.new' rfl)
  have h2 : Below W.heap.size W w2 := by rw [← hV]; exact h1.alloc h1.size _
  replace V := V.on h2
  replace B := B.on h2
  replace H := after H h2
  have hgp : N + 3 ≤ w1.heap.size := by rw [← HSW.out]; exact h1.size
  have hgw : w1.heap.size < w2.heap.size := P.lt
  generalize w1.heap.size = gp at P hgp hgw ⊢
  clear hV h1 h2 a0 a1 a2 A HFR
  obtain ⟨p0, p1, p2, -, -, -⟩ := P.c3
  obtain ⟨v0, v1, v2, -, -, -⟩ := V.c3
  go_upto_region 3 with (go_at_call 21; refine (HTR.out _).mono ?_; rintro e_ w3 ⟨u, rfl, ho, h3⟩; obtain ⟨ql, cl, rfl, hcl, -, hrd, hqb, -⟩ := ho.form lenH)
  generalize hV : World.alloc w3 _ = w4
  have S : Blk w4 w3.heap.size 50 #[.slice ql (seeL ax ay az a b c R).length cl] := Blk.eqw hV (Blk.new' rfl)
  have h4 : Below w3.heap.size w3 w4 := by rw [← hV]; exact (Below.refl _ _).alloc (Nat.le_refl _) _
  have h5 := after h3 h4
  replace P := P.on h5
  replace V := V.on h5
  replace B := B.on h5
  replace H := after H h5
  have HRD := Lib.hid (hrd.on h4)
  have HQB := Lib.hid (fun (a : Addr) (ha : ql = some a) => (hqb a ha).2)
  have hps : gp < w3.heap.size := Nat.lt_of_lt_of_le hgw h3.size
  have HGP := Lib.hid hgp
  clear hgp hgw
  clear hV h3 h4 h5 ho hrd hqb hcl p0 p1 p2 v0 v1 v2 HTR
  obtain ⟨p0, p1, p2, -, -, -⟩ := P.c3
  obtain ⟨v0, v1, v2, -, -, -⟩ := V.c3
  generalize hgs : w3.heap.size = gs at S HQB hps ⊢
  clear hgs
  go_upto_region 4 with (go_at_call 22; refine (HRT.out _).mono ?_; rintro e_ w5 ⟨rfl, h6, t1, t2, t3⟩)
  clear p0 p1 p2 v0 v1 v2 HRT
  have hz4 : gs < w4.heap.size := S.lt
  replace P := P.on h6
  replace V := V.on h6
  replace B := B.on h6
  replace S := S.on h6
  replace H := after H h6
  replace HRD := Lib.hid (HRD.out.on h6)
  have hit := rayit h46 t1 t2 t3
  have hnw := t3.lt
  have hs6 := h6.size
  generalize w4.heap.size = nr at t1 t2 t3 hit hnw hz4 hs6 ⊢
  clear t1 t2 t3 h6
  obtain ⟨L, hLe⟩ : ∃ L, L = seeL ax ay az a b c R := ⟨_, rfl⟩
  rw [← hLe] at hit S HRD HLN HCE ⊢
  clear hLe
  have sn := seq_nil
  have sg := seq_guard
  go_upto_region 7 with (fail)
  generalize hV : World.alloc w5 _ = w6
  have C0 : Blk w6 w5.heap.size 3 #[.int .i64 0] := Blk.eqw hV (Blk.new' rfl)
  have h7 : Below w5.heap.size w5 w6 := by rw [← hV]; exact (Below.refl _ _).alloc (Nat.le_refl _) _
  replace P := P.on h7
  replace V := V.on h7
  replace B := B.on h7
  replace S := S.on h7
  replace H := after H h7
  replace HRD := Lib.hid (HRD.out.on h7)
  have hit2 := hit.on (Kept.of_below h7)
  have hz6 : w5.heap.size < w6.heap.size := C0.lt
  generalize w5.heap.size = gc at C0 hnw hs6 hz6 h7 ⊢
  clear hV h7 hit
  clear sn sg
  go_wp2_with fail
  have HZ := Lib.hid (show N + 3 ≤ gc ∧ gp < gs ∧ gs < gc ∧ nr + 1 + 1 < gc ∧ gc < w6.heap.size ∧ N + 3 ≤ gp from ⟨by have := HGP.out; omega, hps, by omega, hnw, hz6, HGP.out⟩)
  have hcap : ∀ x, (x = nr ∨ x = nr + 1 ∨ x = nr + 1 + 1) → x < w6.heap.size := fun x hx => by have := HZ.out; omega
  have HK := Lib.hid H
  clear H
  refine wp_range (m := 3) (gf := 41) (lb := #[.pointer (some ⟨nr, 0, none⟩), .pointer (some ⟨nr + 1, 0, none⟩), .pointer (some ⟨nr + 1 + 1, 0, none⟩)]) rfl ray_en hit2 hcap (fun _ => rfl)
    (fun Z i A => Blk A gc 3 #[.int .i64 (i : Int)] ∧ Blk A gs 50 #[.slice ql L.length cl] ∧ Hid (Rd A ql 6 encH6 L) ∧ Blk A gp 26 #[.int .i64 ax, .int .i64 ay, .int .i64 az] ∧ Blk A (N + 1) 26 #[.int .i64 a, .int .i64 b, .int .i64 c] ∧ Blk A (N + 1 + 1) 4 #[.bool false] ∧ Hid (Below w.heap.size w A))
    (fun Z k i A => False) ?_ ?_ (fun Z => ⟨C0, S, HRD, P, V, B, HK⟩) ?round ?done ?stop
  · rintro Z i A B ⟨h1, h2, h3, h4, h5, h6, h7⟩ hk
    have lt : ∀ n, n < w6.heap.size → ¬ Priv w6.heap.size Z n := fun n hn h => by have := h.1; omega
    have hz := HZ.out
    exact ⟨hk.blk (lt _ (by omega)) h1, hk.blk (lt _ (by omega)) h2, Lib.hid (rd_kept h3.out hk (fun x hx => lt _ (by have := HQB.out x hx; omega))), hk.blk (lt _ (by omega)) h4, hk.blk (lt _ (by omega)) h5, hk.blk (lt _ (by omega)) h6, Lib.hid (h7.out.trans (hk.below h7.out.size (fun b hb h => by have := h.1; rw [← HN.out] at hb; omega)))⟩
  · rintro Z k i A B h _; exact h.elim
  case round =>
    rintro Z l i x A rfl hZ1 hZ2 hx ⟨h1, h2, h3, h4, h5, h6, h7⟩
    clear C0 S HRD P V B HK hit2 hcap
    gi_wp2
    refine ⟨(Kept.refl _ _).alloc _, fun A2 hA2 hz2 => ?_⟩
    have hz := HZ.out
    have keep : ∀ n t cs, n < w6.heap.size → Blk A n t cs → Blk A2 n t cs := fun n t cs hn h => hA2.blk (show n ≠ w6.heap.size + 1 by omega) (h.alloc _)
    replace h1 := keep _ _ _ (by omega) h1
    replace h2 := keep _ _ _ (by omega) h2
    replace h4 := keep _ _ _ (by omega) h4
    replace h5 := keep _ _ _ (by omega) h5
    replace h6 := keep _ _ _ (by omega) h6
    have h3' := Lib.hid (rd_kept (h3.out.on ((Below.refl _ A).alloc (Nat.le_refl _) (.cells (hitA x.1 0 x.2.1 x.2.2) 31))) hA2 (fun y hy => show y.block ≠ w6.heap.size + 1 by have := HQB.out y hy; omega))
    have X : Blk A2 A.heap.size 31 (hitA x.1 0 x.2.1 x.2.2) := hA2.blk (show A.heap.size ≠ w6.heap.size + 1 by omega) (Blk.new' rfl)
    have hs2 : A2.heap.size = A.heap.size + 1 := by rw [hz2]; simp
    have hwz := h7.out.size
    have H7 := Lib.hid (show Below w.heap.size w A2 from (h7.out.alloc hwz _).trans (hA2.below (by simp; omega) (fun b hb => show b ≠ w6.heap.size + 1 by rw [← HN.out] at hb; omega)))
    have hil : i < L.length := (List.getElem?_eq_some_iff.1 hx).1
    have hi1 : (i : Int) < (L.length : Int) := by omega
    have hi0 : (0 : Int) ≤ (i : Int) := by omega
    have hi9 : (i : Int) + 1 ≤ 9223372036854775807 := by have := HLN.out; omega
    have hi8 : -9223372036854775808 ≤ (i : Int) + 1 := by omega
    obtain ⟨go, oo, hqo, hro⟩ := h3'.out (by omega)
    subst hqo
    have HX := Lib.hid hx
    have HH := Lib.hid (And.intro hZ1 (And.intro hZ2 hs2))
    have HKK := Lib.hid (show gc < w6.heap.size ∧ w6.heap.size + 2 ≤ Z ∧ Z ≤ A.heap.size from ⟨by omega, hZ1, hZ2⟩)
    have c0 := h1.cell 0
    have s0 := h2.cell 0
    clear hA2 hz2 keep hZ1 hZ2 hs2 hz h3 h7 hwz
    have HRO := Lib.hid hro
    have hi7 : ¬ L.length ≤ i := by omega
    clear hro
    repeat (first | go_values | gi_guarded | gi_step | gi_upon)
    have cq := fun d os => (h1.re d os).cell 0
    have sq := fun d os => (h2.re d os).cell 0
    have x0 := fun d os => (X.re d os).cell 0
    have x1 := fun d os => (X.re d os).cell 1
    have x2 := fun d os => (X.re d os).cell 2
    have x3 := fun d os => (X.re d os).cell 3
    have x4 := fun d os => (X.re d os).cell 4
    have x5 := fun d os => (X.re d os).cell 5
    have e0 := fun d os => cell_regrown (show A2.cell? ⟨go, oo + i * 6, none⟩ = some (.int .i64 x.1.1) from HRO.out i x hx 0 _ rfl) d os
    have e1 := fun d os => cell_regrown (show A2.cell? ⟨go, oo + i * 6 + 1, none⟩ = some (.int .i64 x.1.2.1) from HRO.out i x hx 1 _ rfl) d os
    have e2 := fun d os => cell_regrown (show A2.cell? ⟨go, oo + i * 6 + 2, none⟩ = some (.int .i64 x.1.2.2) from HRO.out i x hx 2 _ rfl) d os
    have e4 := fun d os => cell_regrown (show A2.cell? ⟨go, oo + i * 6 + 4, none⟩ = some (.int .i64 x.2.1) from HRO.out i x hx 4 _ rfl) d os
    have e5 := fun d os => cell_regrown (show A2.cell? ⟨go, oo + i * 6 + 5, none⟩ = some (.int .i64 x.2.2) from HRO.out i x hx 5 _ rfl) d os
    have se := cell_ne_self x.1.1 x.1.2.1 x.1.2.2
    have cg := cell_guard
    clear hx
    refine in_quiet_below (by kernel_rfl) (by kernel_rfl) (by kernel_rfl) (fun ⟨_, _, h⟩ => h) ?_
    repeat (go_big_quiet_step (fail))
    refine wpQuiet_nil ?_
    intro w' hw'
    obtain ⟨rg, rfl⟩ := hw'
    generalize hW7 : Go.Sort.grow (redrawn A2 rg.d) rg.os = W7
    have h7 : Below A2.heap.size A2 W7 := by rw [← hW7]; exact below_regrown _ _ _
    clear hW7 cq sq x0 x1 x2 x3 x4 x5 e0 e1 e2 e4 e5 se cg c0 s0
    replace h1 := h1.on h7
    have c0 := h1.cell 0
    have f0 := h1.frz 0
    gi_wp2
    have hz := HZ.out
    have hk := HKK.out
    have k9 : Kept (fun b => b ≠ gc) W7 (W7.setCell ⟨gc, 0, none⟩ (.int .i64 ((i : Int) + 1))) := (Kept.refl _ _).setCell (by simp) _
    refine ⟨(Kept.of_below h7).setCell (p := ⟨gc, 0, none⟩) (fun h => ?_) _, h1.set_ 0 _, k9.blk (by omega) (h2.on h7), Lib.hid (rd_kept (h3'.out.on h7) k9 (fun y hy => ?_)), k9.blk (by omega) (h4.on h7), k9.blk (by omega) (h5.on h7), k9.blk (by omega) (h6.on h7), Lib.hid ((after H7.out h7).setCell (p := ⟨gc, 0, none⟩) ?_ _)⟩
    · rcases h with h | h
      · have := h.1; dsimp only at this; omega
      · dsimp only at h; omega
    · have := HQB.out y hy; omega
    · rw [← HN.out]; dsimp only; omega
  case done =>
    rintro Z A ⟨h1, h2, h3, h4, h5, h6, h7⟩ hK
    clear C0 S HRD P V B HK hit2 hcap
    have HK := Lib.hid hK
    clear hK
    obtain ⟨p0, p1, p2, -, -, -⟩ := h4.c3
    obtain ⟨v0, v1, v2, -, -, -⟩ := h5.c3
    have b0 := h1.cell 0
    go_upto_region 15 with (go_at_call 23; refine (HCE.out _).mono ?_; rintro e_ w8 ⟨v, rfl, ho, h8⟩; obtain ⟨qv, cv, rfl, -, -, hrv, -, -⟩ := ho.form len3)
    replace h1 := h1.on h8
    replace h2 := h2.on h8
    replace h6 := h6.on h8
    have h7' := after h7.out h8
    have HD : Hid (w8.heap[w6.heap.size]? = some (.deferred (some []))) := Lib.hid ((h8.block _ (Array.getElem?_eq_some_iff.1 HK.out).1).trans HK.out)
    have HRD8 := Lib.hid (h3.out.on h8)
    have HRV := Lib.hid hrv
    have H7 := Lib.hid h7'
    clear h3 h4 h5 h7 h7' h8 ho hrv p0 p1 p2 v0 v1 v2 b0 HCE HK
    have b0 := h1.cell 0
    have s0 := h2.cell 0
    go_upto_region 18 with (fail)
    have hz0 : 0 ≤ L.length := Nat.zero_le _
    go_loopw [13] (fun i wr => ∃ k : Nat, k ≤ L.length ∧ i = .int .i64 k ∧ Below w8.heap.size w8 wr) (fun i _ => L.length - (intOf i).toNat)
    case atStart => exact ⟨0, hz0, rfl, Below.refl _ _⟩
    case round =>
      obtain ⟨k, hk, rfl, hnx⟩ := hrel
      clear b0 s0
      replace h1 := h1.on hnx
      replace h2 := h2.on hnx
      have b0 := h1.cell 0
      by_cases hlt : k < L.length
      · obtain ⟨x, hx⟩ : ∃ x, L[k]? = some x := ⟨_, List.getElem?_eq_getElem hlt⟩
        obtain ⟨go, oo, hqo, hro⟩ := HRD8.out (by omega)
        obtain ⟨gv, ov, hqv, hrv⟩ := HRV.out (by rw [List.length_map]; omega)
        subst hqo hqv
        have hx2 : (L.map (·.1))[k]? = some x.1 := by rw [List.getElem?_map, hx]; rfl
        have a0 : w8.cell? ⟨go, oo + k * 6, none⟩ = some (.int .i64 x.1.1) := hro k x hx 0 _ rfl
        have a1 : w8.cell? ⟨go, oo + k * 6 + 1, none⟩ = some (.int .i64 x.1.2.1) := hro k x hx 1 _ rfl
        have a2 : w8.cell? ⟨go, oo + k * 6 + 2, none⟩ = some (.int .i64 x.1.2.2) := hro k x hx 2 _ rfl
        have c0 : w8.cell? ⟨gv, ov + k * 3, none⟩ = some (.int .i64 x.1.1) := hrv k x.1 hx2 0 _ rfl
        have c1 : w8.cell? ⟨gv, ov + k * 3 + 1, none⟩ = some (.int .i64 x.1.2.1) := hrv k x.1 hx2 1 _ rfl
        have c2 : w8.cell? ⟨gv, ov + k * 3 + 2, none⟩ = some (.int .i64 x.1.2.2) := hrv k x.1 hx2 2 _ rfl
        have ha := cell_lt a0
        have hc := cell_lt c0
        clear hro hrv
        have hk1 : (k : Int) < (L.length : Int) := by omega
        have hk0 : (0 : Int) ≤ (k : Int) := by omega
        go_upto_region 20 with (fail)
        have e0 := fun d os => cell_regrown ((hnx.cell (p := ⟨go, oo + k * 6, none⟩) ha).trans a0) d os
        have e1 := fun d os => cell_regrown ((hnx.cell (p := ⟨go, oo + k * 6 + 1, none⟩) ha).trans a1) d os
        have e2 := fun d os => cell_regrown ((hnx.cell (p := ⟨go, oo + k * 6 + 2, none⟩) ha).trans a2) d os
        have i0 := fun d os => cell_regrown ((hnx.cell (p := ⟨gv, ov + k * 3, none⟩) hc).trans c0) d os
        have i1 := fun d os => cell_regrown ((hnx.cell (p := ⟨gv, ov + k * 3 + 1, none⟩) hc).trans c1) d os
        have i2 := fun d os => cell_regrown ((hnx.cell (p := ⟨gv, ov + k * 3 + 2, none⟩) hc).trans c2) d os
        have sq := fun d os => (h2.re d os).cell 0
        have se := cell_ne_self x.1.1 x.1.2.1 x.1.2.2
        have cg := cell_guard
        clear a0 a1 a2 c0 c1 c2 ha hc hx hx2
        refine wp_region_quiet_below (by kernel_rfl) (by kernel_rfl) ?_
        repeat (go_big_quiet_step (fail))
        refine wpQuiet_nil ?_
        intro w' hw'
        obtain ⟨rg, rfl⟩ := hw'
        generalize hW9 : Go.Sort.grow (redrawn wr rg.d) rg.os = W9
        have h9 : Below wr.heap.size wr W9 := by rw [← hW9]; exact below_regrown _ _ _
        clear hW9 e0 e1 e2 i0 i1 i2 sq se cg
        go_wp2_with fail
        have hkw : wrap64 ((k : Int) + 1) = k + 1 := next64 (Nat.le_refl 1000000) (by decide) (by have := HLN.out; omega)
        exact ⟨⟨k + 1, hlt, next_val hkw, after hnx h9⟩, next_less hlt hkw⟩
      · obtain rfl : k = L.length := by omega
        have HNX := Lib.hid hnx
        go_wp2_with (go_at_call 15; refine (rlives_c _).mono ?_; rintro e_ w10 ⟨rfl, h10⟩; replace h6 := (h6.on HNX.out).on h10; obtain ⟨q6, f6⟩ := h6.c1)
        have hz := HZ.out
        have hD0 := HD.out
        have hl0 := (Array.getElem?_eq_some_iff.1 hD0).1
        have hl1 := Nat.lt_of_lt_of_le hl0 HNX.out.size
        have hD1 := (h10.block _ hl1).trans ((HNX.out.block _ hl0).trans hD0)
        have h6' := h6.set_ 0 (.bool true)
        obtain ⟨d6, -⟩ := (h6'.putObj (D := w6.heap.size) (by omega) (.deferred none)).c1
        refine leave_mark (def_far (p := ⟨N + 1 + 1, 0, none⟩) (u := .bool true) hD1 (by dsimp only; omega)) (v := .bool true) (by simp [results, Try.f5, go_sem, d6]) ⟨rfl, ?_⟩
        exact putObj_below ((after (after H7.out HNX.out) h10).setCell (p := ⟨N + 1 + 1, 0, none⟩) (by rw [← HN.out]; dsimp only; omega) _) (by rw [← HN.out]; omega) _
  case stop =>
    rintro Z k i A hi h
    exact h.elim
set_option maxRecDepth 100000 in
theorem rayTraces_lifted (os : Os) (started : os.Started) (H : Type) (enc : TypeId × Value → H) :
    ReturnsInHanded {} Try.checked os 5 .any (Rows.rayTracesSpec.pre6 enc Try.prog Try.f5 Rows.rayTracesRow.domain false) (Rows.rayTracesSpec.post enc Try.prog Try.f5 false true false false) := by
  refine returnsInHanded_of_change (C := Try.checked) own started (by kernel_rfl) Try.func5
    (ChangeSpec.witness6 (enc := enc) (C := Try.checked) false ⟨#[], #[.agg #[.int .i64 0, .int .i64 0, .int .i64 0], .agg #[.int .i64 0, .int .i64 0, .int .i64 0], .int .i64 0], []⟩ 8 (by kernel_rfl) (by kernel_rfl) (by kernel_rfl) (by kernel_rfl)) ?_
  intro W base args ds gs before hval0 hW hcnd hsz
  have hval : ∀ (j : Nat) t v, Try.f5.params[j]? = some t → args[j]? = some v → Value.okWide Try.prog W .any base t v := hval0
  have hW' := hW
  obtain ⟨p, q, hA0, hV, rfl, hfz, hnd⟩ := hW
  have hA : DataW.TrodAll enc Try.prog W 0 (fun _ => true) true Try.f5.params.toList args.toList ds p := hA0
  rw [Try.params5] at hA hval
  obtain ⟨v0, vs0, d0, ds0, p_0, q_0, hargs, rfl, rfl, h0, r_0⟩ := trodAll_cons hA
  obtain ⟨v1, vs1, d1, ds1, p_1, q_1, rfl, rfl, rfl, h1, r_1⟩ := trodAll_cons r_0
  obtain ⟨v2, vs2, d2, ds2, p_2, q_2, rfl, rfl, rfl, h2, r_2⟩ := trodAll_cons r_1
  obtain ⟨rfl, rfl, rfl⟩ := trodAll_nil r_2
  obtain rfl : args = #[v0, v1, v2] := by cases args; simp_all
  obtain ⟨rfl, rfl⟩ := trodVars_none hV
  obtain ⟨x0, y0, z0, rfl, wx0, wy0, wz0⟩ := open_vec Try.underlying26 (by kernel_rfl) (by kernel_rfl) Try.underlying3 (hval 0 26 v0 rfl rfl) h0
  obtain ⟨x1, y1, z1, rfl, wx1, wy1, wz1⟩ := open_vec Try.underlying26 (by kernel_rfl) (by kernel_rfl) Try.underlying3 (hval 1 26 v1 rfl rfl) h1
  obtain ⟨a2, rfl, rfl, rfl, w2⟩ := open_int Try.underlying3 (hval 2 3 v2 rfl rfl) h2
  refine (rayTraces_c x0 y0 z0 wx0 wy0 wz0 x1 y1 z1 wx1 wy1 wz1 a2 (in64_of_wf w2) W).mono fun e W' ⟨he, hb⟩ => ?_
  subst he
  exact ⟨_, rfl, law_post laidOut (by kernel_rfl) rfl (by kernel_rfl) Try.underlying4 hW' rfl rfl rfl hb⟩

/-- The statement. -/
theorem rayTraces_proved : Rows.RayTracesSaid :=
  OpenClaim.holds_of_wide 5 Try.f5 rfl rfl rfl rfl rfl rfl rfl ⟨rfl, rfl, rfl, rfl, rfl⟩ rfl rfl rfl rfl rfl (by kernel_rfl) Try.func5 (by kernel_rfl)
    (of_decide_eq_true (by kernel_rfl)) (by unfold Func.isWrapper; first | (rw [if_pos (by decide +kernel)]; kernel_rfl) | (rw [if_neg (by decide +kernel)]; exact ⟨rfl, rfl⟩))
    (fun os started H enc _ => rayTraces_lifted os started H enc)
end Go.Proofs.Ytjlgcfdpfalbpaa
