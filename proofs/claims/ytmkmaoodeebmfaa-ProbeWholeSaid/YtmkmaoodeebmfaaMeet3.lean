/- The document's blocks of a box; whether it is blocked, in water, on a ladder. -/
import Derived.Test.YtmkmaoodeebmfaaMeet2
import Derived.Test.YtmkmaoodeebmfaaProbe1
import Derived.Test.YtmkmaoodeebmfaaProbe2
import Derived.Test.YtmkmaoodeebmfaaGood13
import Derived.Test.YtmkmaoodeebmfaaUnder
namespace Go.Proofs.Ytmkmaoodeebmfaa
open Go.RowKit
attribute [local go_sem] Oper.semAt_some

theorem nexti {i n : Nat} (h : i < n) (hn : n ≤ 1000000) : ((i : Int) + 1 = ((i + 1 : Nat) : Int)) ∧ (0 : Int) ≤ i ∧ (i : Int) < n ∧ (i + 1) * 8 ≤ 140737488355328 ∧ -9223372036854775808 ≤ (i : Int) + 1 ∧ (i : Int) + 1 ≤ 9223372036854775807 := by omega
theorem Rd.below {w w' : World} {base : Nat} {q : Option Addr} {size : Nat} {α : Type} {enc : α → List Value} {xs : List α} (h : Rd w q size enc xs) (hb : Below base w w') (hq : ∀ a, q = some a → a.block < base) : Rd w' q size enc xs := fun hn => by
  obtain ⟨g, o, hg, h1⟩ := h hn
  have h2 := hq _ hg
  exact ⟨g, o, hg, fun i x hx j u hu => by rw [cell_below (p := ⟨g, o + i * size + j, none⟩) hb h2]; exact h1 i x hx j u hu⟩
theorem len_map_take {α β : Type} {xs : List α} {f : α → β} {i : Nat} (h : i < xs.length) : ((xs.take i).map f).length = i := by simp; omega
theorem map_push {α β : Type} {xs : List α} {f : α → β} {i : Nat} {x : α} (h : xs[i]? = some x) : (xs.take (i + 1)).map f = (xs.take i).map f ++ [f x] := by
  rw [List.take_add_one, h]; simp
set_option maxRecDepth 100000 in
set_option maxHeartbeats 8000000 in
theorem rblocks_c (q : Option Addr) (n cp : Nat) (F : Nat → Int) (els : Int) (a b c d e f : Int) (hB : BoxOk a b c d e f) (hL : (cellsI a b c d e f).length ≤ 1000000) (w : World) (hq : Iq w q n F) :
    Calls Try.prog 32 #[.agg #[.slice q n cp, .int .i64 els], .agg #[.int .i64 a, .int .i64 b, .int .i64 c, .int .i64 d, .int .i64 e, .int .i64 f]] w fun r w' =>
      ∃ v, r = .returned v ∧ Owns w' w.heap.size 3 1 encI v ((cellsI a b c d e f).map fun x => atG n F els x.1 x.2.1 x.2.2) ∧ Below w.heap.size w w' := by
  obtain ⟨W, hW⟩ : ∃ W, W = (w.alloc (.cells #[.slice q n cp, .int .i64 els] 24)).alloc (.cells #[.int .i64 a, .int .i64 b, .int .i64 c, .int .i64 d, .int .i64 e, .int .i64 f] 28) := ⟨_, rfl⟩
  have H : Below w.heap.size w W := by rw [hW]; go_grown
  have A : Blk W w.heap.size 24 #[.slice q n cp, .int .i64 els] := by rw [hW]; exact (Blk.new' rfl).alloc _
  have B : Blk W (w.heap.size + 1) 28 #[.int .i64 a, .int .i64 b, .int .i64 c, .int .i64 d, .int .i64 e, .int .i64 f] := by rw [hW]; exact Blk.new' (by simp)
  have hs : W.heap.size = w.heap.size + 2 := by rw [hW]; simp
  obtain ⟨N, hN⟩ : ∃ N, N = w.heap.size := ⟨_, rfl⟩
  rw [← hN] at A B hs
  go_enter Try.func32, Try.ntmps32
  go_upto_region 1 with (fail)
  rw [← hW, ← hN]
  have HN := Lib.hid hN
  have HS := Lib.hid hs
  have HL := Lib.hid hL
  clear hN hs hL hW
  obtain ⟨b0, b1, b2, b3, b4, b5⟩ := B.c6.1
  go_upto_region 2 with (go_at_call 22; refine (rcells_c a b c d e f hB HL.out _).mono ?_; rintro e_ w1 ⟨v, rfl, V, h1⟩)
  clear b0 b1 b2 b3 b4 b5 B
  replace A := A.on h1
  have hs1 := Lib.hid (Nat.le_trans (Nat.le_of_eq HS.out.symm) h1.size)
  have H1 := Lib.hid (after H h1)
  clear H h1
  obtain ⟨M, hM⟩ : ∃ M, M = w1.heap.size := ⟨_, rfl⟩
  have HM2 := Lib.hid (show N + 2 ≤ M by rw [hM]; exact hs1.out)
  have HM := Lib.hid hM
  clear hM
  have hq1 := Lib.hid (fun w' (h : Below w.heap.size w w') => hq.on h)
  clear hq
  generalize hxs : cellsI a b c d e f = xs at V HL ⊢
  have HXS := Lib.hid hxs
  clear hxs hB
  obtain ⟨q2, c2, rfl, k1, k2, k3, k4, -⟩ := V.form len3
  have K2 := Lib.hid k2
  have K4 := Lib.hid (fun a h => (HM.out ▸ (k4 a h).2 : a.block < M))
  have V0 := Lib.hid V
  clear k2 k4 V
  go_upto_region 4 with (fail)
  go_loopw [6, 7] (fun sl iv wr => ∃ (i : Nat), iv = .int .i64 (i : Nat) ∧ Hid (i ≤ xs.length) ∧ Blk wr N 24 #[.slice q n cp, .int .i64 els] ∧ Rd wr q2 3 enc3 xs ∧ Hid (M ≤ wr.heap.size) ∧ Hid (Owns wr M 3 1 encI sl ((xs.take i).map fun x => atG n F els x.1 x.2.1 x.2.2)) ∧ Hid (Below w.heap.size w wr)) (fun _ v _ => xs.length - (intOf v).toNat)
  case atStart => exact ⟨0, rfl, Nat.zero_le _, A, k3, Nat.le_of_eq HM.out, by rw [List.take_zero]; exact Owns.nil, H1.out⟩
  case round =>
    clear A k3 hs1 V0 H1
    obtain ⟨i, rfl, hi, A, R, hs, V, H⟩ := hrel
    by_cases hlt : i < xs.length
    · obtain ⟨x, hx⟩ : ∃ x, xs[i]? = some x := ⟨_, List.getElem?_eq_getElem hlt⟩
      have hlt' : (i : Int) < (xs.length : Int) := by omega
      obtain ⟨g, o, rfl, hI⟩ := R (by omega)
      have e0 : wr.cell? ⟨g, o + i * 3, none⟩ = some (.int .i64 x.1) := hI i x hx 0 _ rfl
      have e1 : wr.cell? ⟨g, o + i * 3 + 1, none⟩ = some (.int .i64 x.2.1) := hI i x hx 1 _ rfl
      have e2 : wr.cell? ⟨g, o + i * 3 + 2, none⟩ = some (.int .i64 x.2.2) := hI i x hx 2 _ rfl
      obtain ⟨-, n2, n3, n4, n5, n6⟩ := nexti hlt HL.out
      have N4 := Lib.hid n4
      have hat : ∀ d os, Calls Try.prog 36 #[.agg #[.slice q n cp, .int .i64 els], .agg #[.int .i64 x.1, .int .i64 x.2.1, .int .i64 x.2.2]] (Go.Sort.grow (redrawn wr d) os) fun r w' => r = .returned (.int .i64 (atG n F els x.1 x.2.1 x.2.2)) ∧ Below (Go.Sort.grow (redrawn wr d) os).heap.size (Go.Sort.grow (redrawn wr d) os) w' := fun d os =>
        at_c q n cp F els x.1 x.2.1 x.2.2 _ (hq1.out _ (H.out.trans ((below_regrown wr d os).mono H.out.size)))
      generalize hval : atG n F els x.1 x.2.1 x.2.2 = vl at hat
      have HVL := Lib.hid hval
      have HX := Lib.hid hx
      replace hat := Lib.hid hat
      clear n4 hval hx hI
      have hs2 := hs.out
      go_upto_region 6 with (fail)
      have a0 := fun d os => (A.re d os).cell 0
      have a1 := fun d os => (A.re d os).cell 1
      have e0 := fun d os => cell_regrown e0 d os
      have e1 := fun d os => cell_regrown e1 d os
      have e2 := fun d os => cell_regrown e2 d os
      refine wp_sched [0, 0, 0, 0, 0, 0, 0, 2, 3, 3] (fun _ v w => ∃ b, v = .slice (some ⟨b, 0, none⟩) 1 1 ∧ Blk w b 3 #[.int .i64 vl] ∧ M ≤ b) (by kernel_rfl) (by kernel_rfl) (fun _ _ _ _ ⟨b, h1, h2, h3⟩ h => ⟨b, h1, h2.on h, h3⟩) ?_
      repeat (first | (refine wpQs_s ?_) | (refine wpQs_q (fun K hK => ?_); go_simp; first | (refine hK _ ?_; clear hK K) | (apply Exists.intro; refine ⟨fun _ => ?_, hK _ ?_⟩; (exact hat.out _ _); clear hK K)) | (refine wpQs_f (fun K hK => ?_); go_simp; refine hK _ ?_; clear hK K))
      refine wpQs_nil ?_
      repeat (first | (refine wpLs_skip ?_) | (refine wpLs_one ?lsA (fun v_ => ?_); case lsA => (intro w_ hw_ hp_; (go_simp; exact ⟨Kept.of_below ((Below.refl _ _).alloc (Nat.le_refl _) _), Blk.new' rfl, Nat.le_trans hs2 (msd_kept hw_).size⟩))))
      refine wpLs_nilB ?_
      simp only [tails]
      rintro W1 h1 ⟨-, b, rfl, hB, hb⟩
      have hbj := hB.cell 0
      replace A := A.on h1
      replace R := R.on h1
      replace V := V.out.on h1
      have hs1 : M ≤ W1.heap.size := Nat.le_trans hs2 h1.size
      obtain ⟨v', w', hrun, V2, -, hb2, -⟩ := run_push (P := Try.prog) (ts := 22) (ty := 22) (x := vl) (b := b) Try.underlying22 infI rfl (by decide) (by decide) rfl (by simp [Value.oneCell']) V
        (fun j u hu => by rw [hB.cell j]; simpa using hu) (by rw [len_map_take hlt]; exact N4.out) hs1
      rw [← HVL.out, ← map_push (f := fun x : Cl => atG n F els x.1 x.2.1 x.2.2) HX.out] at V2
      replace A := A.below hb2 (by have := HM2.out; omega)
      have R2 : Rd w' (some ⟨g, o, none⟩) 3 enc3 xs := R.below hb2 K4.out
      have hs3 := Lib.hid (Nat.le_trans hs1 hb2.size)
      have HV := Lib.hid V2
      have H2 := Lib.hid ((after H.out h1).trans (hb2.mono (by have := HN.out; have := HM2.out; omega)))
      clear hB hbj V V2 R hb2 hb hs1 hs2
      go_wp2_with (at_builtin; refine Lib.wpList_append_run _ rfl _ _ _ _ rfl _ _ rfl rfl _ _ hrun ?_)
      go_roundw
      case rel => exact ⟨i + 1, rfl, hlt, A, R2, hs3.out, HV.out, H2⟩
      case measure => simp [intOf]; omega
    · have hi2 : i = xs.length := by have := hi.out; omega
      have hlt' : ¬ (i : Int) < (xs.length : Int) := by omega
      go_wp2_with fail
      go_returns
      refine ⟨_, rfl, ?_, H.out⟩
      have h := V.out
      rw [hi2, List.take_length, ← HXS.out] at h
      have hb : w.heap.size ≤ M := by have := HN.out; have := HM2.out; omega
      exact h.mono hb
set_option maxRecDepth 100000 in
set_option maxHeartbeats 8000000 in
theorem rfBlocked_c (q : Option Addr) (n cp : Nat) (F : Nat → Int) (els : Int) (a b c d e f : Int) (hB : BoxOk a b c d e f) (hL : (cellsI a b c d e f).length ≤ 1000000) (w : World) (hq : Iq w q n F) :
    Calls Try.prog 13 #[.agg #[.slice q n cp, .int .i64 els], .agg #[.int .i64 a, .int .i64 b, .int .i64 c, .int .i64 d, .int .i64 e, .int .i64 f]] w fun r w' =>
      r = .returned (.bool ((cellsI a b c d e f).any fun x => solB (atG n F els x.1 x.2.1 x.2.2))) ∧ Below w.heap.size w w' := by
  have hQ : ∀ W, Below w.heap.size w W → Calls Try.prog 32 #[.agg #[.slice q n cp, .int .i64 els], .agg #[.int .i64 a, .int .i64 b, .int .i64 c, .int .i64 d, .int .i64 e, .int .i64 f]] W fun r w' =>
      ∃ v, r = .returned v ∧ Owns w' W.heap.size 3 1 encI v ((cellsI a b c d e f).map fun x => atG n F els x.1 x.2.1 x.2.2) ∧ Below W.heap.size W w' := fun W h => rblocks_c q n cp F els a b c d e f hB hL W (hq.on h)
  have hv : ((cellsI a b c d e f).any fun x => solB (atG n F els x.1 x.2.1 x.2.2)) = ((cellsI a b c d e f).map fun x => atG n F els x.1 x.2.1 x.2.2).any solB := by rw [List.any_map]; rfl
  rw [hv]
  have hlen : ((cellsI a b c d e f).map fun x => atG n F els x.1 x.2.1 x.2.2).length ≤ 1000000 := by rw [List.length_map]; exact hL
  clear hv hq hB hL
  generalize (cellsI a b c d e f).map (fun x => atG n F els x.1 x.2.1 x.2.2) = xs at hQ hlen ⊢
  have HL := Lib.hid hlen
  replace hQ := Lib.hid hQ
  clear hlen
  go_enter Try.func13, Try.ntmps13
  go_upto_region 2 with (go_at_call 32; refine (hQ.out _ (by go_grown)).mono ?_; rintro e_ w1 ⟨v, rfl, V, h1⟩)
  have H := Lib.hid (after (((Below.refl _ w).alloc (Nat.le_refl _) _).alloc (by simp) _) h1)
  obtain ⟨q2, c2, rfl, k1, k2, k3, -, -⟩ := V.form lenI
  clear k2 V h1
  go_upto_region 3 with (fail)
  go_loopw [6] (fun iv wr => wr = w1 ∧ ∃ (i : Nat), iv = .int .i64 (i : Nat) ∧ Hid (i ≤ xs.length) ∧ Hid ((xs.take i).any solB = false)) (fun v _ => xs.length - (intOf v).toNat)
  case atStart => exact ⟨rfl, 0, rfl, Nat.zero_le _, by rw [List.take_zero]; rfl⟩
  case round =>
    obtain ⟨rfl, i, rfl, hi, hno⟩ := hrel
    by_cases hlt : i < xs.length
    · obtain ⟨x, hx⟩ : ∃ x, xs[i]? = some x := ⟨_, List.getElem?_eq_getElem hlt⟩
      have hlt' : (i : Int) < (xs.length : Int) := by omega
      obtain ⟨g, o, rfl, hI⟩ := k3 (by omega)
      have e0 : wr.cell? ⟨g, o + i * 1, none⟩ = some (.int .i64 x) := hI i x hx 0 _ rfl
      rw [Nat.mul_one] at e0
      obtain ⟨-, n2, n3, n4, n5, n6⟩ := nexti hlt HL.out
      have HX := Lib.hid hx
      clear n4 hx hI
      cases hp : solB x
      · have hv0 := fun w => rsolid_c x w
        rw [hp] at hv0
        have HP := Lib.hid hp
        clear hp
        go_wp2_with (go_at_call 37; refine (hv0 _).mono ?_; rintro e_ w3 ⟨rfl, rfl⟩)
        go_roundw
        case rel => exact ⟨trivial, i + 1, rfl, hlt, by show _ = false; rw [List.take_add_one, List.any_append, hno.out, HX.out]; simp [HP.out]⟩
        case measure => simp [intOf]; omega
      · have hv0 := fun w => rsolid_c x w
        rw [hp] at hv0
        have HP := Lib.hid hp
        clear hp
        go_wp2_with (go_at_call 37; refine (hv0 _).mono ?_; rintro e_ w3 ⟨rfl, rfl⟩)
        go_returns
        exact ⟨ret_b (List.any_eq_true.2 ⟨x, List.mem_of_getElem? HX.out, HP.out⟩).symm, H.out⟩
    · have hi2 : i = xs.length := by have := hi.out; omega
      have hlt' : ¬ (i : Int) < (xs.length : Int) := by omega
      go_wp2_with fail
      go_returns
      refine ⟨ret_b ?_, H.out⟩
      have := hno.out
      rw [hi2, List.take_length] at this
      exact this.symm
set_option maxRecDepth 100000 in
set_option maxHeartbeats 8000000 in
theorem rfWet_c (q : Option Addr) (n cp : Nat) (F : Nat → Int) (els : Int) (a b c d e f : Int) (hB : BoxOk a b c d e f) (hL : (cellsI a b c d e f).length ≤ 1000000) (w : World) (hq : Iq w q n F) :
    Calls Try.prog 15 #[.agg #[.slice q n cp, .int .i64 els], .agg #[.int .i64 a, .int .i64 b, .int .i64 c, .int .i64 d, .int .i64 e, .int .i64 f]] w fun r w' =>
      r = .returned (.bool ((cellsI a b c d e f).any fun x => wetB (atG n F els x.1 x.2.1 x.2.2))) ∧ Below w.heap.size w w' := by
  have hQ : ∀ W, Below w.heap.size w W → Calls Try.prog 32 #[.agg #[.slice q n cp, .int .i64 els], .agg #[.int .i64 a, .int .i64 b, .int .i64 c, .int .i64 d, .int .i64 e, .int .i64 f]] W fun r w' =>
      ∃ v, r = .returned v ∧ Owns w' W.heap.size 3 1 encI v ((cellsI a b c d e f).map fun x => atG n F els x.1 x.2.1 x.2.2) ∧ Below W.heap.size W w' := fun W h => rblocks_c q n cp F els a b c d e f hB hL W (hq.on h)
  have hv : ((cellsI a b c d e f).any fun x => wetB (atG n F els x.1 x.2.1 x.2.2)) = ((cellsI a b c d e f).map fun x => atG n F els x.1 x.2.1 x.2.2).any wetB := by rw [List.any_map]; rfl
  rw [hv]
  have hlen : ((cellsI a b c d e f).map fun x => atG n F els x.1 x.2.1 x.2.2).length ≤ 1000000 := by rw [List.length_map]; exact hL
  clear hv hq hB hL
  generalize (cellsI a b c d e f).map (fun x => atG n F els x.1 x.2.1 x.2.2) = xs at hQ hlen ⊢
  have HL := Lib.hid hlen
  replace hQ := Lib.hid hQ
  clear hlen
  go_enter Try.func15, Try.ntmps15
  go_upto_region 2 with (go_at_call 32; refine (hQ.out _ (by go_grown)).mono ?_; rintro e_ w1 ⟨v, rfl, V, h1⟩)
  have H := Lib.hid (after (((Below.refl _ w).alloc (Nat.le_refl _) _).alloc (by simp) _) h1)
  obtain ⟨q2, c2, rfl, k1, k2, k3, -, -⟩ := V.form lenI
  clear k2 V h1
  go_upto_region 3 with (fail)
  go_loopw [6] (fun iv wr => wr = w1 ∧ ∃ (i : Nat), iv = .int .i64 (i : Nat) ∧ Hid (i ≤ xs.length) ∧ Hid ((xs.take i).any wetB = false)) (fun v _ => xs.length - (intOf v).toNat)
  case atStart => exact ⟨rfl, 0, rfl, Nat.zero_le _, by rw [List.take_zero]; rfl⟩
  case round =>
    obtain ⟨rfl, i, rfl, hi, hno⟩ := hrel
    by_cases hlt : i < xs.length
    · obtain ⟨x, hx⟩ : ∃ x, xs[i]? = some x := ⟨_, List.getElem?_eq_getElem hlt⟩
      have hlt' : (i : Int) < (xs.length : Int) := by omega
      obtain ⟨g, o, rfl, hI⟩ := k3 (by omega)
      have e0 : wr.cell? ⟨g, o + i * 1, none⟩ = some (.int .i64 x) := hI i x hx 0 _ rfl
      rw [Nat.mul_one] at e0
      obtain ⟨-, n2, n3, n4, n5, n6⟩ := nexti hlt HL.out
      have HX := Lib.hid hx
      clear n4 hx hI
      cases hp : wetB x
      · have hv0 := fun w => rwet_c x w
        rw [hp] at hv0
        have HP := Lib.hid hp
        clear hp
        go_wp2_with (go_at_call 38; refine (hv0 _).mono ?_; rintro e_ w3 ⟨rfl, rfl⟩)
        go_roundw
        case rel => exact ⟨trivial, i + 1, rfl, hlt, by show _ = false; rw [List.take_add_one, List.any_append, hno.out, HX.out]; simp [HP.out]⟩
        case measure => simp [intOf]; omega
      · have hv0 := fun w => rwet_c x w
        rw [hp] at hv0
        have HP := Lib.hid hp
        clear hp
        go_wp2_with (go_at_call 38; refine (hv0 _).mono ?_; rintro e_ w3 ⟨rfl, rfl⟩)
        go_returns
        exact ⟨ret_b (List.any_eq_true.2 ⟨x, List.mem_of_getElem? HX.out, HP.out⟩).symm, H.out⟩
    · have hi2 : i = xs.length := by have := hi.out; omega
      have hlt' : ¬ (i : Int) < (xs.length : Int) := by omega
      go_wp2_with fail
      go_returns
      refine ⟨ret_b ?_, H.out⟩
      have := hno.out
      rw [hi2, List.take_length] at this
      exact this.symm
set_option maxRecDepth 100000 in
set_option maxHeartbeats 8000000 in
theorem rfClimbs_c (q : Option Addr) (n cp : Nat) (F : Nat → Int) (els : Int) (a b c d e f : Int) (hB : BoxOk a b c d e f) (hL : (cellsI a b c d e f).length ≤ 1000000) (w : World) (hq : Iq w q n F) :
    Calls Try.prog 17 #[.agg #[.slice q n cp, .int .i64 els], .agg #[.int .i64 a, .int .i64 b, .int .i64 c, .int .i64 d, .int .i64 e, .int .i64 f]] w fun r w' =>
      r = .returned (.bool ((cellsI a b c d e f).any fun x => cliB (atG n F els x.1 x.2.1 x.2.2))) ∧ Below w.heap.size w w' := by
  have hQ : ∀ W, Below w.heap.size w W → Calls Try.prog 32 #[.agg #[.slice q n cp, .int .i64 els], .agg #[.int .i64 a, .int .i64 b, .int .i64 c, .int .i64 d, .int .i64 e, .int .i64 f]] W fun r w' =>
      ∃ v, r = .returned v ∧ Owns w' W.heap.size 3 1 encI v ((cellsI a b c d e f).map fun x => atG n F els x.1 x.2.1 x.2.2) ∧ Below W.heap.size W w' := fun W h => rblocks_c q n cp F els a b c d e f hB hL W (hq.on h)
  have hv : ((cellsI a b c d e f).any fun x => cliB (atG n F els x.1 x.2.1 x.2.2)) = ((cellsI a b c d e f).map fun x => atG n F els x.1 x.2.1 x.2.2).any cliB := by rw [List.any_map]; rfl
  rw [hv]
  have hlen : ((cellsI a b c d e f).map fun x => atG n F els x.1 x.2.1 x.2.2).length ≤ 1000000 := by rw [List.length_map]; exact hL
  clear hv hq hB hL
  generalize (cellsI a b c d e f).map (fun x => atG n F els x.1 x.2.1 x.2.2) = xs at hQ hlen ⊢
  have HL := Lib.hid hlen
  replace hQ := Lib.hid hQ
  clear hlen
  go_enter Try.func17, Try.ntmps17
  go_upto_region 2 with (go_at_call 32; refine (hQ.out _ (by go_grown)).mono ?_; rintro e_ w1 ⟨v, rfl, V, h1⟩)
  have H := Lib.hid (after (((Below.refl _ w).alloc (Nat.le_refl _) _).alloc (by simp) _) h1)
  obtain ⟨q2, c2, rfl, k1, k2, k3, -, -⟩ := V.form lenI
  clear k2 V h1
  go_upto_region 3 with (fail)
  go_loopw [6] (fun iv wr => wr = w1 ∧ ∃ (i : Nat), iv = .int .i64 (i : Nat) ∧ Hid (i ≤ xs.length) ∧ Hid ((xs.take i).any cliB = false)) (fun v _ => xs.length - (intOf v).toNat)
  case atStart => exact ⟨rfl, 0, rfl, Nat.zero_le _, by rw [List.take_zero]; rfl⟩
  case round =>
    obtain ⟨rfl, i, rfl, hi, hno⟩ := hrel
    by_cases hlt : i < xs.length
    · obtain ⟨x, hx⟩ : ∃ x, xs[i]? = some x := ⟨_, List.getElem?_eq_getElem hlt⟩
      have hlt' : (i : Int) < (xs.length : Int) := by omega
      obtain ⟨g, o, rfl, hI⟩ := k3 (by omega)
      have e0 : wr.cell? ⟨g, o + i * 1, none⟩ = some (.int .i64 x) := hI i x hx 0 _ rfl
      rw [Nat.mul_one] at e0
      obtain ⟨-, n2, n3, n4, n5, n6⟩ := nexti hlt HL.out
      have HX := Lib.hid hx
      clear n4 hx hI
      cases hp : cliB x
      · have hv0 := show (x == 4) = cliB x from rfl
        rw [hp] at hv0
        have HP := Lib.hid hp
        clear hp
        go_wp2_with (go_at_call 38; refine (hv0 _).mono ?_; rintro e_ w3 ⟨rfl, rfl⟩)
        go_roundw
        case rel => exact ⟨trivial, i + 1, rfl, hlt, by show _ = false; rw [List.take_add_one, List.any_append, hno.out, HX.out]; simp [HP.out]⟩
        case measure => simp [intOf]; omega
      · have hv0 := show (x == 4) = cliB x from rfl
        rw [hp] at hv0
        have HP := Lib.hid hp
        clear hp
        go_wp2_with (go_at_call 38; refine (hv0 _).mono ?_; rintro e_ w3 ⟨rfl, rfl⟩)
        go_returns
        exact ⟨ret_b (List.any_eq_true.2 ⟨x, List.mem_of_getElem? HX.out, HP.out⟩).symm, H.out⟩
    · have hi2 : i = xs.length := by have := hi.out; omega
      have hlt' : ¬ (i : Int) < (xs.length : Int) := by omega
      go_wp2_with fail
      go_returns
      refine ⟨ret_b ?_, H.out⟩
      have := hno.out
      rw [hi2, List.take_length] at this
      exact this.symm
set_option maxHeartbeats 2000000 in
theorem rfStands_c (q : Option Addr) (n cp : Nat) (F : Nat → Int) (els : Int) (a b c d e f : Int) (hU : ∀ w, Calls Try.prog 24 #[.agg #[.int .i64 a, .int .i64 b, .int .i64 c, .int .i64 d, .int .i64 e, .int .i64 f]] w fun r w' => r = .returned (.agg #[.int .i64 a, .int .i64 (cutI (b - 1)), .int .i64 c, .int .i64 d, .int .i64 b, .int .i64 f]) ∧ Below w.heap.size w w')
    (hB : BoxOk a (cutI (b - 1)) c d b f) (hL : (cellsI a (cutI (b - 1)) c d b f).length ≤ 1000000) (w : World) (hq : Iq w q n F) :
    Calls Try.prog 19 #[.agg #[.slice q n cp, .int .i64 els], .agg #[.int .i64 a, .int .i64 b, .int .i64 c, .int .i64 d, .int .i64 e, .int .i64 f]] w fun r w' =>
      r = .returned (.bool ((cellsI a (cutI (b - 1)) c d b f).any fun x => solB (atG n F els x.1 x.2.1 x.2.2))) ∧ Below w.heap.size w w' := by
  obtain ⟨W, hW⟩ : ∃ W, W = (w.alloc (.cells #[.slice q n cp, .int .i64 els] 24)).alloc (.cells #[.int .i64 a, .int .i64 b, .int .i64 c, .int .i64 d, .int .i64 e, .int .i64 f] 28) := ⟨_, rfl⟩
  have H : Below w.heap.size w W := by rw [hW]; go_grown
  have A : Blk W w.heap.size 24 #[.slice q n cp, .int .i64 els] := by rw [hW]; exact (Blk.new' rfl).alloc _
  have B : Blk W (w.heap.size + 1) 28 #[.int .i64 a, .int .i64 b, .int .i64 c, .int .i64 d, .int .i64 e, .int .i64 f] := by rw [hW]; exact Blk.new' (by simp)
  have hS : ∀ x y, Calls Try.prog 13 #[.agg #[.slice q n cp, .int .i64 els], .agg #[.int .i64 a, .int .i64 (cutI (b - 1)), .int .i64 c, .int .i64 d, .int .i64 b, .int .i64 f]] (Go.Sort.grow (redrawn W x) y) fun r w' =>
      r = .returned (.bool ((cellsI a (cutI (b - 1)) c d b f).any fun x => solB (atG n F els x.1 x.2.1 x.2.2))) ∧ Below (Go.Sort.grow (redrawn W x) y).heap.size (Go.Sort.grow (redrawn W x) y) w' := fun x y =>
    rfBlocked_c q n cp F els a (cutI (b - 1)) c d b f hB hL _ (hq.on (H.trans ((below_regrown W x y).mono H.size)))
  have HS := Lib.hid hS
  have HU := Lib.hid (fun x y => hU (Go.Sort.grow (redrawn W x) y))
  clear hS hB hL hq hU
  generalize (cellsI a (cutI (b - 1)) c d b f).any (fun x => solB (atG n F els x.1 x.2.1 x.2.2)) = res at HS ⊢
  generalize cutI (b - 1) = b' at HS HU ⊢
  have a0 := fun x y => (A.re x y).cell 0
  have a1 := fun x y => (A.re x y).cell 1
  obtain ⟨b0, b1, b2, b3, b4, b5⟩ := B.re6
  go_enter Try.func19, Try.ntmps19
  go_upto_region 1 with (fail)
  rw [← hW]
  clear hW
  refine wp_sched [0, 0, 0, 0, 0] (fun _ _ _ => True) (by kernel_rfl) (by kernel_rfl) (fun _ _ _ _ h _ => h) ?_
  repeat (first | (refine wpQs_s ?_) | (refine wpQs_q (fun K hK => ?_); go_simp; first | (refine hK _ ?_; clear hK K) | (apply Exists.intro; refine ⟨fun _ => ?_, hK _ ?_⟩; (first | exact HU.out _ _ | exact HS.out _ _); clear hK K)) | (refine wpQs_f (fun K hK => ?_); go_simp; refine hK _ ?_; clear hK K))
  refine wpQs_nil ?_
  repeat (first | (refine wpLs_skip ?_) | (refine wpLs_one ?lsA (fun v_ => ?_); case lsA => (intro w_ hw_ hp_; (fail))))
  refine wpLs_nilB ?_
  simp only [tails]
  intro W1 h1 _
  go_wp2_with fail
  go_returns
  exact ⟨rfl, after H h1⟩
end Go.Proofs.Ytmkmaoodeebmfaa
