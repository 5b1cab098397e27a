/- Texts that build one behind the other, laid together: Meet3 RAx Mov Alo Swl Near2 Small SwP5 Went Mv1 Mv2. -/
import Derived.Test.YtckjpiioipkfcaaLSweepFreeZ4
import Derived.Test.YtckjpiioipkfcaaLSweepFreeZ3
import Derived.Test.YtckjpiioipkfcaaLSweepFreeZ1
/- The document's blocks of a box; whether it is blocked, in water, on a ladder. -/
namespace Go.Proofs.Ytckjpiioipkfcaa
open Go.RowKit
attribute [local go_sem] Oper.semAt_some

theorem nexti {i n : Nat} (h : i < n) (hn : n ≤ 1000000) : ((i : Int) + 1 = ((i + 1 : Nat) : Int)) ∧ (0 : Int) ≤ i ∧ (i : Int) < n ∧ (i + 1) * 8 ≤ 140737488355328 ∧ -9223372036854775808 ≤ (i : Int) + 1 ∧ (i : Int) + 1 ≤ 9223372036854775807 := by omega
theorem Rd.below {w w' : World} {base : Nat} {q : Option Addr} {size : Nat} {α : Type} {enc : α → List Value} {xs : List α} (h : Rd w q size enc xs) (hb : Below base w w') (hq : ∀ a, q = some a → a.block < base) : Rd w' q size enc xs := fun hn => by
  obtain ⟨g, o, hg, h1⟩ := h hn
  have h2 := hq _ hg
  exact ⟨g, o, hg, fun i x hx j u hu => by rw [cell_below (p := ⟨g, o + i * size + j, none⟩) hb h2]; exact h1 i x hx j u hu⟩
theorem len_map_take {α β : Type} {xs : List α} {f : α → β} {i : Nat} (h : i < xs.length) : ((xs.take i).map f).length = i := by simp; omega
theorem map_push {α β : Type} {xs : List α} {f : α → β} {i : Nat} {x : α} (h : xs[i]? = some x) : (xs.take (i + 1)).map f = (xs.take i).map f ++ [f x] := by
  rw [List.take_add_one, h]; simp
set_option maxRecDepth 100000 in
set_option maxHeartbeats 8000000 in
theorem rblocks_c (q : Option Addr) (n cp : Nat) (F : Nat → Int) (els : Int) (a b c d e f : Int) (hB : BoxOk a b c d e f) (hL : (cellsI a b c d e f).length ≤ 1000000) (w : World) (hq : Iq w q n F) :
    Calls Try.prog 42 #[.agg #[.slice q n cp, .int .i64 els], .agg #[.int .i64 a, .int .i64 b, .int .i64 c, .int .i64 d, .int .i64 e, .int .i64 f]] w fun r w' =>
      ∃ v, r = .returned v ∧ Owns w' w.heap.size 3 1 encI v ((cellsI a b c d e f).map fun x => atG n F els x.1 x.2.1 x.2.2) ∧ Below w.heap.size w w' := by
  obtain ⟨W, hW⟩ : ∃ W, W = (w.alloc (.cells #[.slice q n cp, .int .i64 els] 24)).alloc (.cells #[.int .i64 a, .int .i64 b, .int .i64 c, .int .i64 d, .int .i64 e, .int .i64 f] 28) := ⟨_, rfl⟩
  have H : Below w.heap.size w W := by rw [hW]; go_grown
  have A : Blk W w.heap.size 24 #[.slice q n cp, .int .i64 els] := by rw [hW]; exact (Blk.new' rfl).alloc _
  have B : Blk W (w.heap.size + 1) 28 #[.int .i64 a, .int .i64 b, .int .i64 c, .int .i64 d, .int .i64 e, .int .i64 f] := by rw [hW]; exact Blk.new' (by simp)
  have hs : W.heap.size = w.heap.size + 2 := by rw [hW]; simp
  obtain ⟨N, hN⟩ : ∃ N, N = w.heap.size := ⟨_, rfl⟩
  rw [← hN] at A B hs
  go_enter Try.func42, Try.ntmps42
  go_upto_region 1 with (fail)
  rw [← hW, ← hN]
  have HN := Lib.hid hN
  have HS := Lib.hid hs
  have HL := Lib.hid hL
  clear hN hs hL hW
  obtain ⟨b0, b1, b2, b3, b4, b5⟩ := B.c6.1
  go_upto_region 2 with (go_at_call 59; refine (rcells_c a b c d e f hB HL.out _).mono ?_; rintro e_ w1 ⟨v, rfl, V, h1⟩)
  clear b0 b1 b2 b3 b4 b5 B
  replace A := A.on h1
  have hs1 := Lib.hid (Nat.le_trans (Nat.le_of_eq HS.out.symm) h1.size)
  have H1 := Lib.hid (after H h1)
  clear H h1
  obtain ⟨M, hM⟩ : ∃ M, M = w1.heap.size := ⟨_, rfl⟩
  have HM2 := Lib.hid (show N + 2 ≤ M by rw [hM]; exact hs1.out)
  have HM := Lib.hid hM
  clear hM
  have hq1 := Lib.hid (fun w' (h : Below w.heap.size w w') => hq.on h)
  clear hq
  generalize hxs : cellsI a b c d e f = xs at V HL ⊢
  have HXS := Lib.hid hxs
  clear hxs hB
  obtain ⟨q2, c2, rfl, k1, k2, k3, k4, -⟩ := V.form len3
  have K2 := Lib.hid k2
  have K4 := Lib.hid (fun a h => (HM.out ▸ (k4 a h).2 : a.block < M))
  have V0 := Lib.hid V
  clear k2 k4 V
  go_upto_region 4 with (fail)
  go_loopw [6, 7] (fun sl iv wr => ∃ (i : Nat), iv = .int .i64 (i : Nat) ∧ Hid (i ≤ xs.length) ∧ Blk wr N 24 #[.slice q n cp, .int .i64 els] ∧ Rd wr q2 3 enc3 xs ∧ Hid (M ≤ wr.heap.size) ∧ Hid (Owns wr M 3 1 encI sl ((xs.take i).map fun x => atG n F els x.1 x.2.1 x.2.2)) ∧ Hid (Below w.heap.size w wr)) (fun _ v _ => xs.length - (intOf v).toNat)
  case atStart => exact ⟨0, rfl, Nat.zero_le _, A, k3, Nat.le_of_eq HM.out, by rw [List.take_zero]; exact Owns.nil, H1.out⟩
  case round =>
    clear A k3 hs1 V0 H1
    obtain ⟨i, rfl, hi, A, R, hs, V, H⟩ := hrel
    by_cases hlt : i < xs.length
    · obtain ⟨x, hx⟩ : ∃ x, xs[i]? = some x := ⟨_, List.getElem?_eq_getElem hlt⟩
      have hlt' : (i : Int) < (xs.length : Int) := by omega
      obtain ⟨g, o, rfl, hI⟩ := R (by omega)
      have e0 : wr.cell? ⟨g, o + i * 3, none⟩ = some (.int .i64 x.1) := hI i x hx 0 _ rfl
      have e1 : wr.cell? ⟨g, o + i * 3 + 1, none⟩ = some (.int .i64 x.2.1) := hI i x hx 1 _ rfl
      have e2 : wr.cell? ⟨g, o + i * 3 + 2, none⟩ = some (.int .i64 x.2.2) := hI i x hx 2 _ rfl
      obtain ⟨-, n2, n3, n4, n5, n6⟩ := nexti hlt HL.out
      have N4 := Lib.hid n4
      have hat : ∀ d os, Calls Try.prog 31 #[.agg #[.slice q n cp, .int .i64 els], .agg #[.int .i64 x.1, .int .i64 x.2.1, .int .i64 x.2.2]] (Go.Sort.grow (redrawn wr d) os) fun r w' => r = .returned (.int .i64 (atG n F els x.1 x.2.1 x.2.2)) ∧ Below (Go.Sort.grow (redrawn wr d) os).heap.size (Go.Sort.grow (redrawn wr d) os) w' := fun d os =>
        at_c q n cp F els x.1 x.2.1 x.2.2 _ (hq1.out _ (H.out.trans ((below_regrown wr d os).mono H.out.size)))
      generalize hval : atG n F els x.1 x.2.1 x.2.2 = vl at hat
      have HVL := Lib.hid hval
      have HX := Lib.hid hx
      replace hat := Lib.hid hat
      clear n4 hval hx hI
      have hs2 := hs.out
      go_upto_region 6 with (fail)
      have a0 := fun d os => (A.re d os).cell 0
      have a1 := fun d os => (A.re d os).cell 1
      have e0 := fun d os => cell_regrown e0 d os
      have e1 := fun d os => cell_regrown e1 d os
      have e2 := fun d os => cell_regrown e2 d os
      refine wp_sched [0, 0, 0, 0, 0, 0, 0, 2, 3, 3] (fun _ v w => ∃ b, v = .slice (some ⟨b, 0, none⟩) 1 1 ∧ Blk w b 3 #[.int .i64 vl] ∧ M ≤ b) (by kernel_rfl) (by kernel_rfl) (fun _ _ _ _ ⟨b, h1, h2, h3⟩ h => ⟨b, h1, h2.on h, h3⟩) ?_
      repeat (first | (refine wpQs_s ?_) | (refine wpQs_q (fun K hK => ?_); go_simp; first | (refine hK _ ?_; clear hK K) | (apply Exists.intro; refine ⟨fun _ => ?_, hK _ ?_⟩; (exact hat.out _ _); clear hK K)) | (refine wpQs_f (fun K hK => ?_); go_simp; refine hK _ ?_; clear hK K))
      refine wpQs_nil ?_
      repeat (first | (refine wpLs_skip ?_) | (refine wpLs_one ?lsA (fun v_ => ?_); case lsA => (intro w_ hw_ hp_; (go_simp; exact ⟨Kept.of_below ((Below.refl _ _).alloc (Nat.le_refl _) _), Blk.new' rfl, Nat.le_trans hs2 (msd_kept hw_).size⟩))))
      refine wpLs_nilB ?_
      simp only [tails]
      rintro W1 h1 ⟨-, b, rfl, hB, hb⟩
      have hbj := hB.cell 0
      replace A := A.on h1
      replace R := R.on h1
      replace V := V.out.on h1
      have hs1 : M ≤ W1.heap.size := Nat.le_trans hs2 h1.size
      obtain ⟨v', w', hrun, V2, -, hb2, -⟩ := run_push (P := Try.prog) (ts := 22) (ty := 22) (x := vl) (b := b) Try.underlying22 infI rfl (by decide) (by decide) rfl (by simp [Value.oneCell']) V
        (fun j u hu => by rw [hB.cell j]; simpa using hu) (by rw [len_map_take hlt]; exact N4.out) hs1
      rw [← HVL.out, ← map_push (f := fun x : Cl => atG n F els x.1 x.2.1 x.2.2) HX.out] at V2
      replace A := A.below hb2 (by have := HM2.out; omega)
      have R2 : Rd w' (some ⟨g, o, none⟩) 3 enc3 xs := R.below hb2 K4.out
      have hs3 := Lib.hid (Nat.le_trans hs1 hb2.size)
      have HV := Lib.hid V2
      have H2 := Lib.hid ((after H.out h1).trans (hb2.mono (by have := HN.out; have := HM2.out; omega)))
      clear hB hbj V V2 R hb2 hb hs1 hs2
      go_wp2_with (at_builtin; refine Lib.wpList_append_run _ rfl _ _ _ _ rfl _ _ rfl rfl _ _ hrun ?_)
      go_roundw
      case rel => exact ⟨i + 1, rfl, hlt, A, R2, hs3.out, HV.out, H2⟩
      case measure => simp [intOf]; omega
    · have hi2 : i = xs.length := by have := hi.out; omega
      have hlt' : ¬ (i : Int) < (xs.length : Int) := by omega
      go_wp2_with fail
      go_returns
      refine ⟨_, rfl, ?_, H.out⟩
      have h := V.out
      rw [hi2, List.take_length, ← HXS.out] at h
      have hb : w.heap.size ≤ M := by have := HN.out; have := HM2.out; omega
      exact h.mono hb
set_option maxRecDepth 100000 in
set_option maxHeartbeats 8000000 in
theorem rfBlocked_c (q : Option Addr) (n cp : Nat) (F : Nat → Int) (els : Int) (a b c d e f : Int) (hB : BoxOk a b c d e f) (hL : (cellsI a b c d e f).length ≤ 1000000) (w : World) (hq : Iq w q n F) :
    Calls Try.prog 26 #[.agg #[.slice q n cp, .int .i64 els], .agg #[.int .i64 a, .int .i64 b, .int .i64 c, .int .i64 d, .int .i64 e, .int .i64 f]] w fun r w' =>
      r = .returned (.bool ((cellsI a b c d e f).any fun x => solB (atG n F els x.1 x.2.1 x.2.2))) ∧ Below w.heap.size w w' := by
  have hQ : ∀ W, Below w.heap.size w W → Calls Try.prog 42 #[.agg #[.slice q n cp, .int .i64 els], .agg #[.int .i64 a, .int .i64 b, .int .i64 c, .int .i64 d, .int .i64 e, .int .i64 f]] W fun r w' =>
      ∃ v, r = .returned v ∧ Owns w' W.heap.size 3 1 encI v ((cellsI a b c d e f).map fun x => atG n F els x.1 x.2.1 x.2.2) ∧ Below W.heap.size W w' := fun W h => rblocks_c q n cp F els a b c d e f hB hL W (hq.on h)
  have hv : ((cellsI a b c d e f).any fun x => solB (atG n F els x.1 x.2.1 x.2.2)) = ((cellsI a b c d e f).map fun x => atG n F els x.1 x.2.1 x.2.2).any solB := by rw [List.any_map]; rfl
  rw [hv]
  have hlen : ((cellsI a b c d e f).map fun x => atG n F els x.1 x.2.1 x.2.2).length ≤ 1000000 := by rw [List.length_map]; exact hL
  clear hv hq hB hL
  generalize (cellsI a b c d e f).map (fun x => atG n F els x.1 x.2.1 x.2.2) = xs at hQ hlen ⊢
  have HL := Lib.hid hlen
  replace hQ := Lib.hid hQ
  clear hlen
  go_enter Try.func26, Try.ntmps26
  go_upto_region 2 with (go_at_call 42; refine (hQ.out _ (by go_grown)).mono ?_; rintro e_ w1 ⟨v, rfl, V, h1⟩)
  have H := Lib.hid (after (((Below.refl _ w).alloc (Nat.le_refl _) _).alloc (by simp) _) h1)
  obtain ⟨q2, c2, rfl, k1, k2, k3, -, -⟩ := V.form lenI
  clear k2 V h1
  go_upto_region 3 with (fail)
  go_loopw [6] (fun iv wr => wr = w1 ∧ ∃ (i : Nat), iv = .int .i64 (i : Nat) ∧ Hid (i ≤ xs.length) ∧ Hid ((xs.take i).any solB = false)) (fun v _ => xs.length - (intOf v).toNat)
  case atStart => exact ⟨rfl, 0, rfl, Nat.zero_le _, by rw [List.take_zero]; rfl⟩
  case round =>
    obtain ⟨rfl, i, rfl, hi, hno⟩ := hrel
    by_cases hlt : i < xs.length
    · obtain ⟨x, hx⟩ : ∃ x, xs[i]? = some x := ⟨_, List.getElem?_eq_getElem hlt⟩
      have hlt' : (i : Int) < (xs.length : Int) := by omega
      obtain ⟨g, o, rfl, hI⟩ := k3 (by omega)
      have e0 : wr.cell? ⟨g, o + i * 1, none⟩ = some (.int .i64 x) := hI i x hx 0 _ rfl
      rw [Nat.mul_one] at e0
      obtain ⟨-, n2, n3, n4, n5, n6⟩ := nexti hlt HL.out
      have HX := Lib.hid hx
      clear n4 hx hI
      cases hp : solB x
      · have hv0 := fun w => rsolid_c x w
        rw [hp] at hv0
        have HP := Lib.hid hp
        clear hp
        go_wp2_with (go_at_call 43; refine (hv0 _).mono ?_; rintro e_ w3 ⟨rfl, rfl⟩)
        go_roundw
        case rel => exact ⟨trivial, i + 1, rfl, hlt, by show _ = false; rw [List.take_add_one, List.any_append, hno.out, HX.out]; simp [HP.out]⟩
        case measure => simp [intOf]; omega
      · have hv0 := fun w => rsolid_c x w
        rw [hp] at hv0
        have HP := Lib.hid hp
        clear hp
        go_wp2_with (go_at_call 43; refine (hv0 _).mono ?_; rintro e_ w3 ⟨rfl, rfl⟩)
        go_returns
        exact ⟨ret_b (List.any_eq_true.2 ⟨x, List.mem_of_getElem? HX.out, HP.out⟩).symm, H.out⟩
    · have hi2 : i = xs.length := by have := hi.out; omega
      have hlt' : ¬ (i : Int) < (xs.length : Int) := by omega
      go_wp2_with fail
      go_returns
      refine ⟨ret_b ?_, H.out⟩
      have := hno.out
      rw [hi2, List.take_length] at this
      exact this.symm
set_option maxHeartbeats 2000000 in
theorem rfStands_c (q : Option Addr) (n cp : Nat) (F : Nat → Int) (els : Int) (a b c d e f : Int) (hU : ∀ w, Calls Try.prog 61 #[.agg #[.int .i64 a, .int .i64 b, .int .i64 c, .int .i64 d, .int .i64 e, .int .i64 f]] w fun r w' => r = .returned (.agg #[.int .i64 a, .int .i64 (cutI (b - 1)), .int .i64 c, .int .i64 d, .int .i64 b, .int .i64 f]) ∧ Below w.heap.size w w')
    (hB : BoxOk a (cutI (b - 1)) c d b f) (hL : (cellsI a (cutI (b - 1)) c d b f).length ≤ 1000000) (w : World) (hq : Iq w q n F) :
    Calls Try.prog 46 #[.agg #[.slice q n cp, .int .i64 els], .agg #[.int .i64 a, .int .i64 b, .int .i64 c, .int .i64 d, .int .i64 e, .int .i64 f]] w fun r w' =>
      r = .returned (.bool ((cellsI a (cutI (b - 1)) c d b f).any fun x => solB (atG n F els x.1 x.2.1 x.2.2))) ∧ Below w.heap.size w w' := by
  obtain ⟨W, hW⟩ : ∃ W, W = (w.alloc (.cells #[.slice q n cp, .int .i64 els] 24)).alloc (.cells #[.int .i64 a, .int .i64 b, .int .i64 c, .int .i64 d, .int .i64 e, .int .i64 f] 28) := ⟨_, rfl⟩
  have H : Below w.heap.size w W := by rw [hW]; go_grown
  have A : Blk W w.heap.size 24 #[.slice q n cp, .int .i64 els] := by rw [hW]; exact (Blk.new' rfl).alloc _
  have B : Blk W (w.heap.size + 1) 28 #[.int .i64 a, .int .i64 b, .int .i64 c, .int .i64 d, .int .i64 e, .int .i64 f] := by rw [hW]; exact Blk.new' (by simp)
  have hS : ∀ x y, Calls Try.prog 26 #[.agg #[.slice q n cp, .int .i64 els], .agg #[.int .i64 a, .int .i64 (cutI (b - 1)), .int .i64 c, .int .i64 d, .int .i64 b, .int .i64 f]] (Go.Sort.grow (redrawn W x) y) fun r w' =>
      r = .returned (.bool ((cellsI a (cutI (b - 1)) c d b f).any fun x => solB (atG n F els x.1 x.2.1 x.2.2))) ∧ Below (Go.Sort.grow (redrawn W x) y).heap.size (Go.Sort.grow (redrawn W x) y) w' := fun x y =>
    rfBlocked_c q n cp F els a (cutI (b - 1)) c d b f hB hL _ (hq.on (H.trans ((below_regrown W x y).mono H.size)))
  have HS := Lib.hid hS
  have HU := Lib.hid (fun x y => hU (Go.Sort.grow (redrawn W x) y))
  clear hS hB hL hq hU
  generalize (cellsI a (cutI (b - 1)) c d b f).any (fun x => solB (atG n F els x.1 x.2.1 x.2.2)) = res at HS ⊢
  generalize cutI (b - 1) = b' at HS HU ⊢
  have a0 := fun x y => (A.re x y).cell 0
  have a1 := fun x y => (A.re x y).cell 1
  obtain ⟨b0, b1, b2, b3, b4, b5⟩ := B.re6
  go_enter Try.func46, Try.ntmps46
  go_upto_region 1 with (fail)
  rw [← hW]
  clear hW
  refine wp_sched [0, 0, 0, 0, 0] (fun _ _ _ => True) (by kernel_rfl) (by kernel_rfl) (fun _ _ _ _ h _ => h) ?_
  repeat (first | (refine wpQs_s ?_) | (refine wpQs_q (fun K hK => ?_); go_simp; first | (refine hK _ ?_; clear hK K) | (apply Exists.intro; refine ⟨fun _ => ?_, hK _ ?_⟩; (first | exact HU.out _ _ | exact HS.out _ _); clear hK K)) | (refine wpQs_f (fun K hK => ?_); go_simp; refine hK _ ?_; clear hK K))
  refine wpQs_nil ?_
  repeat (first | (refine wpLs_skip ?_) | (refine wpLs_one ?lsA (fun v_ => ?_); case lsA => (intro w_ hw_ hp_; (fail))))
  refine wpLs_nilB ?_
  simp only [tails]
  intro W1 h1 _
  go_wp2_with fail
  go_returns
  exact ⟨rfl, after H h1⟩
end Go.Proofs.Ytckjpiioipkfcaa

/- The document's: how far a box goes along an axis. -/
namespace Go.Proofs.Ytckjpiioipkfcaa
open Go.RowKit Go.Shelf
attribute [local go_sem] Oper.semAt_some

set_option maxRecDepth 100000 in
set_option maxHeartbeats 8000000 in
theorem rsaxis_c (q : Option Addr) (n cp : Nat) (F : Nat → Int) (els : Int) (a b c d e f axis dd M : Int) (hM : M ≤ 100000000000) (hM0 : 0 ≤ M) (hB : Sm M a b c d e f) (w : World) (hq : Iq w q n F) :
    Calls Try.prog 18 #[.agg #[.slice q n cp, .int .i64 els], .agg #[.int .i64 a, .int .i64 b, .int .i64 c, .int .i64 d, .int .i64 e, .int .i64 f], .int .i64 axis, .int .i64 dd] w fun r w' =>
      r = .returned (axT (axisV (fun x => atG n F els x.1 x.2.1 x.2.2) a b c d e f axis dd)) ∧ Below w.heap.size w w' := by
  obtain ⟨W, hW⟩ : ∃ W, W = (w.alloc (.cells #[.slice q n cp, .int .i64 els] 24)).alloc (.cells #[.int .i64 a, .int .i64 b, .int .i64 c, .int .i64 d, .int .i64 e, .int .i64 f] 28) := ⟨_, rfl⟩
  have H : Below w.heap.size w W := by rw [hW]; go_grown
  have A : Blk W w.heap.size 24 #[.slice q n cp, .int .i64 els] := by rw [hW]; exact (Blk.new' rfl).alloc _
  have B : Blk W (w.heap.size + 1) 28 #[.int .i64 a, .int .i64 b, .int .i64 c, .int .i64 d, .int .i64 e, .int .i64 f] := by rw [hW]; exact Blk.new' (by simp)
  obtain ⟨N, hN⟩ : ∃ N, N = w.heap.size := ⟨_, rfl⟩
  rw [← hN] at A B
  have hmn := @run_mn Try.prog
  have hmx := @run_mx Try.prog
  have HQ := Lib.hid fun W (h : Below w.heap.size w W) => hq.on h
  clear hq
  go_enter Try.func18, Try.ntmps18
  go_upto_region 1 with (fail)
  rw [← hW, ← hN]
  have HN := Lib.hid hN
  clear hW hN
  by_cases hax : axis < 0 ∨ 3 ≤ axis
  · have hv : axisV (fun x => atG n F els x.1 x.2.1 x.2.2) a b c d e f axis dd = (0, false) := by unfold axisV; rw [if_pos hax]
    have HVV := Lib.hid hv
    clear hv
    rcases hax with hax | hax
    · go_wp2_with fail
      go_returns
      exact ⟨by rw [HVV.out]; rfl, H⟩
    · have h2 : 2 < axis := by omega
      have h3 : ¬ axis < 0 := by omega
      go_wp2_with fail
      go_returns
      exact ⟨by rw [HVV.out]; rfl, H⟩
  · have y1 : ¬ axis < 0 := by omega
    have y2 : ¬ 2 < axis := by omega
    have hv : axisV (fun x => atG n F els x.1 x.2.1 x.2.2) a b c d e f axis dd = axV (lyB (fun x => atG n F els x.1 x.2.1 x.2.2) a b c d e f axis) (axI a b c axis) (axI d e f axis) (farI dd) := by unfold axisV; rw [if_neg hax]
    have HVV := Lib.hid hv
    clear hv hax
    go_upto_region 4 with (fail)
    have hfe : mnI (mxI dd (-4194304)) 4194304 = farI dd := rfl
    rw [hfe]
    clear hfe hmn hmx
    obtain ⟨fb1, fb2⟩ := farI_bd dd
    generalize farI dd = df at HVV fb1 fb2 ⊢
    obtain ⟨b0, b1, b2, b3, b4, b5⟩ := B.c6.1
    go_upto_region 5 with (go_at_call 22; refine (raxis_c _ _ _ _ _).mono ?_; rintro e_ w1 ⟨rfl, h1⟩)
    replace A := A.on h1
    replace B := B.on h1
    replace H := after H h1
    clear b0 b1 b2 b3 b4 b5 h1
    obtain ⟨b0, b1, b2, b3, b4, b5⟩ := B.c6.1
    go_upto_region 7 with (go_at_call 22; refine (raxis_c _ _ _ _ _).mono ?_; rintro e_ w2 ⟨rfl, h1⟩)
    replace A := A.on h1
    replace B := B.on h1
    replace H := after H h1
    clear b0 b1 b2 b3 b4 b5 h1
    obtain ⟨l1, l2, l3⟩ := axI_sm (axis := axis) hB hM0
    generalize axI a b c axis = low at HVV l1 l2 ⊢
    generalize axI d e f axis = top at HVV l2 l3 ⊢
    have HSM := Lib.hid hB
    have HBD := Lib.hid (And.intro hM (And.intro hM0 (And.intro l1 (And.intro l2 (And.intro l3 (And.intro fb1 fb2))))))
    clear hB
    have hsee : ∀ k, -(M + 10000000) ≤ k * 65536 → k * 65536 ≤ M + 10000000 → ∀ W, Below w.heap.size w W → Calls Try.prog 26 #[.agg #[.slice q n cp, .int .i64 els], .agg #[.int .i64 (wiI a axis 0 (k * 65536)), .int .i64 (wiI b axis 1 (k * 65536)), .int .i64 (wiI c axis 2 (k * 65536)), .int .i64 (wiI d axis 0 (k * 65536 + 65536)), .int .i64 (wiI e axis 1 (k * 65536 + 65536)), .int .i64 (wiI f axis 2 (k * 65536 + 65536))]] W fun r w' =>
        r = .returned (.bool (lyB (fun x => atG n F els x.1 x.2.1 x.2.2) a b c d e f axis k)) ∧ Below W.heap.size W w' := fun k h1 h2 W hW => by
      have hsm := HSM.out.layer (axis := axis) (k := k) (by omega) h1 h2
      exact rfBlocked_c q n cp F els _ _ _ _ _ _ (hsm.box (by omega)) hsm.cells W (HQ.out W hW)
    generalize hbl : lyB (fun x => atG n F els x.1 x.2.1 x.2.2) a b c d e f axis = blk at hsee
    rw [hbl] at HVV
    have HSEE := Lib.hid hsee
    clear hsee hbl hM hM0 l1 l2 l3 fb1 fb2
    rcases (show 0 < df ∨ df < 0 ∨ df = 0 by omega) with hd | hd | hd
    · have e1 : ¬ df < 0 := by omega
      have e2 : (df == 0) = false := by simp; omega
      have e3 : df ≠ 0 := by omega
      go_loopw [12] (fun v wr => ∃ iv : Int, v = .int .i64 iv ∧ -1 ≤ iv ∧ iv ≤ 70 ∧ Hid (∀ k', k' < top / 65536 + iv → 0 ≤ k' * 65536 - top → k' * 65536 - top < df → blk k' = false) ∧ Blk wr N 24 #[.slice q n cp, .int .i64 els] ∧ Blk wr (N + 1) 28 #[.int .i64 a, .int .i64 b, .int .i64 c, .int .i64 d, .int .i64 e, .int .i64 f] ∧ Hid (Below w.heap.size w wr)) (fun v _ => (70 - intOf v).toNat)
      case atStart => exact ⟨-1, rfl, by omega, by omega, fun k' h1 h2 _ => by omega, A, B, H⟩
      case round =>
        clear A B H
        obtain ⟨iv, rfl, i1, i2, hsee, A, B, H⟩ := hrel
        obtain ⟨hM, hM0, l1, l2, l3, fb1, fb2⟩ := HBD.out
        by_cases hlt : iv < 70
        · have t1 : -9223372036854775808 ≤ top / 65536 + iv := by omega
          have t2 : top / 65536 + iv ≤ 9223372036854775807 := by omega
          have t3 : -9223372036854775808 ≤ (top / 65536 + iv) * 65536 := by omega
          have t4 : (top / 65536 + iv) * 65536 ≤ 9223372036854775807 := by omega
          have t5 : -9223372036854775808 ≤ (top / 65536 + iv) * 65536 - top := by omega
          have t6 : (top / 65536 + iv) * 65536 - top ≤ 9223372036854775807 := by omega
          have u1 : -9223372036854775808 ≤ low / 65536 - iv := by omega
          have u2 : low / 65536 - iv ≤ 9223372036854775807 := by omega
          have u3 : -9223372036854775808 ≤ low / 65536 - iv + 1 := by omega
          have u4 : low / 65536 - iv + 1 ≤ 9223372036854775807 := by omega
          have u5 : -9223372036854775808 ≤ (low / 65536 - iv + 1) * 65536 := by omega
          have u6 : (low / 65536 - iv + 1) * 65536 ≤ 9223372036854775807 := by omega
          have u7 : -9223372036854775808 ≤ (low / 65536 - iv + 1) * 65536 - low := by omega
          have u8 : (low / 65536 - iv + 1) * 65536 - low ≤ 9223372036854775807 := by omega
          go_upto_region 14 with (go_at_call 32; refine (rdiv_c _ _ (by omega) (by omega) (by decide) _).mono ?_; rintro e_ w3 ⟨rfl, rfl⟩)
          clear t1 t2 t3 t4 t5 t6 u1 u2 u3 u4 u5 u6 u7 u8
          obtain ⟨k, hk⟩ : ∃ k, k = top / 65536 + iv := ⟨_, rfl⟩
          rw [← hk]
          obtain ⟨way, hway⟩ : ∃ way, way = k * 65536 - top := ⟨_, rfl⟩
          rw [← hway]
          have k1 : -9223372036854775808 ≤ k * 65536 := by omega
          have k2 : k * 65536 ≤ 9223372036854775807 := by omega
          have k3 : -9223372036854775808 ≤ k * 65536 + 65536 := by omega
          have k4 : k * 65536 + 65536 ≤ 9223372036854775807 := by omega
          have k5 : -(M + 10000000) ≤ k * 65536 := by omega
          have k6 : k * 65536 ≤ M + 10000000 := by omega
          have hS := HSEE.out k k5 k6
          have HK := Lib.hid hk
          have HW := Lib.hid hway
          clear hk hway l1 l2 l3 fb1 fb2 hM hM0 k5 k6
          have i3 : -9223372036854775808 ≤ iv + 1 := by omega
          have i4 : iv + 1 ≤ 9223372036854775807 := by omega
          rcases (show way < 0 ∨ (¬ way < 0 ∧ df ≤ way) ∨ (¬ way < 0 ∧ ¬ df ≤ way) by omega) with h1 | ⟨h1, h2⟩ | ⟨h1, h2⟩
          · clear hS k1 k2 k3 k4
            go_wp2_with fail
            go_roundw
            case rel => exact ⟨iv + 1, rfl, by omega, by omega, fun k' h1 h2 h3 => (by
            by_cases e : k' = k
            · subst e; have := HW.out; omega
            · exact hsee.out k' (by have := HK.out; omega) h2 h3), A, B, H⟩
            case measure => simp [intOf]; omega
          · clear hS k1 k2 k3 k4
            go_wp2_with fail
            go_roundw
            case rel => exact ⟨iv + 1, rfl, by omega, by omega, fun k' h1 h2 h3 => (by
            by_cases e : k' = k
            · subst e; have := HW.out; omega
            · exact hsee.out k' (by have := HK.out; omega) h2 h3), A, B, H⟩
            case measure => simp [intOf]; omega
          · obtain ⟨b0, b1, b2, b3, b4, b5⟩ := B.c6.1
            go_upto_region 16 with (fail)
            generalize hV : World.alloc wr _ = W5
            have X : Blk W5 wr.heap.size _ _ := Blk.eqw hV (Blk.new' rfl)
            have h5 : Below wr.heap.size wr W5 := by rw [← hV]; exact (Below.refl _ _).alloc (Nat.le_refl _) _
            have hNl := A.lt
            have hBl := B.lt
            have hNw := H.out.size
            replace A := A.on h5
            replace B := B.on h5
            replace H := after H.out h5
            clear hV h5 b0 b1 b2 b3 b4 b5
            generalize wr.heap.size = g at X hNl hBl hNw ⊢
            obtain ⟨⟨x0, x1, x2, x3, x4, x5⟩, f0, f1, f2, f3, f4, f5⟩ := X.c6
            go_upto_region 17 with (go_at_call 16; refine (rwith_c _ _ _ _ _ _).mono ?_; rintro e_ w4 ⟨rfl, h5⟩; replace X := X.on h5; obtain ⟨⟨x0, x1, x2, x3, x4, x5⟩, f0, f1, f2, f3, f4, f5⟩ := X.c6)
            generalize hV : World.setCell (World.setCell (World.setCell w4 _ _) _ _) _ _ = W6
            have X2 : Blk W6 g 28 #[.int .i64 (wiI a axis 0 (k * 65536)), .int .i64 (wiI b axis 1 (k * 65536)), .int .i64 (wiI c axis 2 (k * 65536)), .int .i64 d, .int .i64 e, .int .i64 f] := Blk.eqw hV (((X.set_ 0 _).set_ 1 _).set_ 2 _)
            replace A := Blk.eqw hV ((((A.on h5).far (p := ⟨g, 0, none⟩) (by dsimp only; omega) _).far (p := ⟨g, 1, none⟩) (by dsimp only; omega) _).far (p := ⟨g, 2, none⟩) (by dsimp only; omega) _)
            replace B := Blk.eqw hV ((((B.on h5).far (p := ⟨g, 0, none⟩) (by dsimp only; omega) _).far (p := ⟨g, 1, none⟩) (by dsimp only; omega) _).far (p := ⟨g, 2, none⟩) (by dsimp only; omega) _)
            replace H : Below w.heap.size w W6 := by rw [← hV]; exact (((after H h5).setCell (p := ⟨g, 0, none⟩) hNw _).setCell (p := ⟨g, 1, none⟩) hNw _).setCell (p := ⟨g, 2, none⟩) hNw _
            clear hV h5 x0 x1 x2 x3 x4 x5 f0 f1 f2 f3 f4 f5 X
            obtain ⟨⟨x0, x1, x2, x3, x4, x5⟩, f0, f1, f2, f3, f4, f5⟩ := X2.c6
            go_upto_region 18 with (go_at_call 16; refine (rwith_c _ _ _ _ _ _).mono ?_; rintro e_ w5 ⟨rfl, h5⟩; replace X2 := X2.on h5; obtain ⟨⟨x0, x1, x2, x3, x4, x5⟩, f0, f1, f2, f3, f4, f5⟩ := X2.c6)
            generalize hV : World.setCell (World.setCell (World.setCell w5 _ _) _ _) _ _ = W7
            have X3 : Blk W7 g 28 #[.int .i64 (wiI a axis 0 (k * 65536)), .int .i64 (wiI b axis 1 (k * 65536)), .int .i64 (wiI c axis 2 (k * 65536)), .int .i64 (wiI d axis 0 (k * 65536 + 65536)), .int .i64 (wiI e axis 1 (k * 65536 + 65536)), .int .i64 (wiI f axis 2 (k * 65536 + 65536))] := Blk.eqw hV (((X2.set_ 3 _).set_ 4 _).set_ 5 _)
            replace A := Blk.eqw hV ((((A.on h5).far (p := ⟨g, 3, none⟩) (by dsimp only; omega) _).far (p := ⟨g, 4, none⟩) (by dsimp only; omega) _).far (p := ⟨g, 5, none⟩) (by dsimp only; omega) _)
            replace B := Blk.eqw hV ((((B.on h5).far (p := ⟨g, 3, none⟩) (by dsimp only; omega) _).far (p := ⟨g, 4, none⟩) (by dsimp only; omega) _).far (p := ⟨g, 5, none⟩) (by dsimp only; omega) _)
            replace H : Below w.heap.size w W7 := by rw [← hV]; exact (((after H h5).setCell (p := ⟨g, 3, none⟩) hNw _).setCell (p := ⟨g, 4, none⟩) hNw _).setCell (p := ⟨g, 5, none⟩) hNw _
            clear hV h5 x0 x1 x2 x3 x4 x5 f0 f1 f2 f3 f4 f5 X2 k1 k2 k3 k4
            obtain ⟨x0, x1, x2, x3, x4, x5⟩ := X3.c6.1
            have a0 := A.cell 0
            have a1 := A.cell 1
            replace hS := hS W7 H
            cases hb : blk k
            · rw [hb] at hS
              have HS := Lib.hid hS
              have HB := Lib.hid hb
              clear hS hb
              go_wp2_with (go_at_call 26; refine HS.out.mono ?_; rintro e_ w8 ⟨rfl, h8⟩)
              go_roundw
              case rel => exact ⟨iv + 1, rfl, by omega, by omega, fun k' h1 h2 h3 => (by
                by_cases e : k' = k
                · subst e; exact HB.out
                · exact hsee.out k' (by have := HK.out; omega) h2 h3), A.on h8, B.on h8, after H h8⟩
              case measure => simp [intOf]; omega
            · rw [hb] at hS
              have HS := Lib.hid hS
              have HB := Lib.hid hb
              clear hS hb
              go_wp2_with (go_at_call 26; refine HS.out.mono ?_; rintro e_ w8 ⟨rfl, h8⟩)
              go_returns
              refine ⟨?_, after H h8⟩
              have hkk := HK.out
              have hww := HW.out
              rw [HVV.out, axV_up_hit hd (by omega) (by omega) HB.out fun k' h3 h4 => hsee.out k' (by omega) h4 (by omega), hww]
              rfl
        · have i5 : iv = 70 := by omega
          subst i5
          go_wp2_with fail
          go_returns
          refine ⟨?_, H.out⟩
          rw [HVV.out, axV_up_none hd fun k' h1 h2 => hsee.out k' (by omega) h1 h2]
          rfl
    · have e1 : ¬ 0 < df := by omega
      have e2 : (df == 0) = false := by simp; omega
      have e3 : df ≠ 0 := by omega
      go_loopw [12] (fun v wr => ∃ iv : Int, v = .int .i64 iv ∧ -1 ≤ iv ∧ iv ≤ 70 ∧ Hid (∀ k', low / 65536 - iv < k' → (k' + 1) * 65536 - low ≤ 0 → df < (k' + 1) * 65536 - low → blk k' = false) ∧ Blk wr N 24 #[.slice q n cp, .int .i64 els] ∧ Blk wr (N + 1) 28 #[.int .i64 a, .int .i64 b, .int .i64 c, .int .i64 d, .int .i64 e, .int .i64 f] ∧ Hid (Below w.heap.size w wr)) (fun v _ => (70 - intOf v).toNat)
      case atStart => exact ⟨-1, rfl, by omega, by omega, fun k' h1 h2 _ => by omega, A, B, H⟩
      case round =>
        clear A B H
        obtain ⟨iv, rfl, i1, i2, hsee, A, B, H⟩ := hrel
        obtain ⟨hM, hM0, l1, l2, l3, fb1, fb2⟩ := HBD.out
        by_cases hlt : iv < 70
        · have t1 : -9223372036854775808 ≤ top / 65536 + iv := by omega
          have t2 : top / 65536 + iv ≤ 9223372036854775807 := by omega
          have t3 : -9223372036854775808 ≤ (top / 65536 + iv) * 65536 := by omega
          have t4 : (top / 65536 + iv) * 65536 ≤ 9223372036854775807 := by omega
          have t5 : -9223372036854775808 ≤ (top / 65536 + iv) * 65536 - top := by omega
          have t6 : (top / 65536 + iv) * 65536 - top ≤ 9223372036854775807 := by omega
          have u1 : -9223372036854775808 ≤ low / 65536 - iv := by omega
          have u2 : low / 65536 - iv ≤ 9223372036854775807 := by omega
          have u3 : -9223372036854775808 ≤ low / 65536 - iv + 1 := by omega
          have u4 : low / 65536 - iv + 1 ≤ 9223372036854775807 := by omega
          have u5 : -9223372036854775808 ≤ (low / 65536 - iv + 1) * 65536 := by omega
          have u6 : (low / 65536 - iv + 1) * 65536 ≤ 9223372036854775807 := by omega
          have u7 : -9223372036854775808 ≤ (low / 65536 - iv + 1) * 65536 - low := by omega
          have u8 : (low / 65536 - iv + 1) * 65536 - low ≤ 9223372036854775807 := by omega
          go_upto_region 14 with (go_at_call 32; refine (rdiv_c _ _ (by omega) (by omega) (by decide) _).mono ?_; rintro e_ w3 ⟨rfl, rfl⟩)
          clear t1 t2 t3 t4 t5 t6 u1 u2 u3 u4 u5 u6 u7 u8
          obtain ⟨k, hk⟩ : ∃ k, k = low / 65536 - iv := ⟨_, rfl⟩
          rw [← hk]
          obtain ⟨way, hway⟩ : ∃ way, way = (k + 1) * 65536 - low := ⟨_, rfl⟩
          rw [← hway]
          have k1 : -9223372036854775808 ≤ k * 65536 := by omega
          have k2 : k * 65536 ≤ 9223372036854775807 := by omega
          have k3 : -9223372036854775808 ≤ k * 65536 + 65536 := by omega
          have k4 : k * 65536 + 65536 ≤ 9223372036854775807 := by omega
          have k5 : -(M + 10000000) ≤ k * 65536 := by omega
          have k6 : k * 65536 ≤ M + 10000000 := by omega
          have hS := HSEE.out k k5 k6
          have HK := Lib.hid hk
          have HW := Lib.hid hway
          clear hk hway l1 l2 l3 fb1 fb2 hM hM0 k5 k6
          have i3 : -9223372036854775808 ≤ iv + 1 := by omega
          have i4 : iv + 1 ≤ 9223372036854775807 := by omega
          rcases (show 0 < way ∨ (¬ 0 < way ∧ way ≤ df) ∨ (¬ 0 < way ∧ ¬ way ≤ df) by omega) with h1 | ⟨h1, h2⟩ | ⟨h1, h2⟩
          · clear hS k1 k2 k3 k4
            go_wp2_with fail
            go_roundw
            case rel => exact ⟨iv + 1, rfl, by omega, by omega, fun k' h1 h2 h3 => (by
            by_cases e : k' = k
            · subst e; have := HW.out; omega
            · exact hsee.out k' (by have := HK.out; omega) h2 h3), A, B, H⟩
            case measure => simp [intOf]; omega
          · clear hS k1 k2 k3 k4
            go_wp2_with fail
            go_roundw
            case rel => exact ⟨iv + 1, rfl, by omega, by omega, fun k' h1 h2 h3 => (by
            by_cases e : k' = k
            · subst e; have := HW.out; omega
            · exact hsee.out k' (by have := HK.out; omega) h2 h3), A, B, H⟩
            case measure => simp [intOf]; omega
          · obtain ⟨b0, b1, b2, b3, b4, b5⟩ := B.c6.1
            go_upto_region 16 with (fail)
            generalize hV : World.alloc wr _ = W5
            have X : Blk W5 wr.heap.size _ _ := Blk.eqw hV (Blk.new' rfl)
            have h5 : Below wr.heap.size wr W5 := by rw [← hV]; exact (Below.refl _ _).alloc (Nat.le_refl _) _
            have hNl := A.lt
            have hBl := B.lt
            have hNw := H.out.size
            replace A := A.on h5
            replace B := B.on h5
            replace H := after H.out h5
            clear hV h5 b0 b1 b2 b3 b4 b5
            generalize wr.heap.size = g at X hNl hBl hNw ⊢
            obtain ⟨⟨x0, x1, x2, x3, x4, x5⟩, f0, f1, f2, f3, f4, f5⟩ := X.c6
            go_upto_region 17 with (go_at_call 16; refine (rwith_c _ _ _ _ _ _).mono ?_; rintro e_ w4 ⟨rfl, h5⟩; replace X := X.on h5; obtain ⟨⟨x0, x1, x2, x3, x4, x5⟩, f0, f1, f2, f3, f4, f5⟩ := X.c6)
            generalize hV : World.setCell (World.setCell (World.setCell w4 _ _) _ _) _ _ = W6
            have X2 : Blk W6 g 28 #[.int .i64 (wiI a axis 0 (k * 65536)), .int .i64 (wiI b axis 1 (k * 65536)), .int .i64 (wiI c axis 2 (k * 65536)), .int .i64 d, .int .i64 e, .int .i64 f] := Blk.eqw hV (((X.set_ 0 _).set_ 1 _).set_ 2 _)
            replace A := Blk.eqw hV ((((A.on h5).far (p := ⟨g, 0, none⟩) (by dsimp only; omega) _).far (p := ⟨g, 1, none⟩) (by dsimp only; omega) _).far (p := ⟨g, 2, none⟩) (by dsimp only; omega) _)
            replace B := Blk.eqw hV ((((B.on h5).far (p := ⟨g, 0, none⟩) (by dsimp only; omega) _).far (p := ⟨g, 1, none⟩) (by dsimp only; omega) _).far (p := ⟨g, 2, none⟩) (by dsimp only; omega) _)
            replace H : Below w.heap.size w W6 := by rw [← hV]; exact (((after H h5).setCell (p := ⟨g, 0, none⟩) hNw _).setCell (p := ⟨g, 1, none⟩) hNw _).setCell (p := ⟨g, 2, none⟩) hNw _
            clear hV h5 x0 x1 x2 x3 x4 x5 f0 f1 f2 f3 f4 f5 X
            obtain ⟨⟨x0, x1, x2, x3, x4, x5⟩, f0, f1, f2, f3, f4, f5⟩ := X2.c6
            go_upto_region 18 with (go_at_call 16; refine (rwith_c _ _ _ _ _ _).mono ?_; rintro e_ w5 ⟨rfl, h5⟩; replace X2 := X2.on h5; obtain ⟨⟨x0, x1, x2, x3, x4, x5⟩, f0, f1, f2, f3, f4, f5⟩ := X2.c6)
            generalize hV : World.setCell (World.setCell (World.setCell w5 _ _) _ _) _ _ = W7
            have X3 : Blk W7 g 28 #[.int .i64 (wiI a axis 0 (k * 65536)), .int .i64 (wiI b axis 1 (k * 65536)), .int .i64 (wiI c axis 2 (k * 65536)), .int .i64 (wiI d axis 0 (k * 65536 + 65536)), .int .i64 (wiI e axis 1 (k * 65536 + 65536)), .int .i64 (wiI f axis 2 (k * 65536 + 65536))] := Blk.eqw hV (((X2.set_ 3 _).set_ 4 _).set_ 5 _)
            replace A := Blk.eqw hV ((((A.on h5).far (p := ⟨g, 3, none⟩) (by dsimp only; omega) _).far (p := ⟨g, 4, none⟩) (by dsimp only; omega) _).far (p := ⟨g, 5, none⟩) (by dsimp only; omega) _)
            replace B := Blk.eqw hV ((((B.on h5).far (p := ⟨g, 3, none⟩) (by dsimp only; omega) _).far (p := ⟨g, 4, none⟩) (by dsimp only; omega) _).far (p := ⟨g, 5, none⟩) (by dsimp only; omega) _)
            replace H : Below w.heap.size w W7 := by rw [← hV]; exact (((after H h5).setCell (p := ⟨g, 3, none⟩) hNw _).setCell (p := ⟨g, 4, none⟩) hNw _).setCell (p := ⟨g, 5, none⟩) hNw _
            clear hV h5 x0 x1 x2 x3 x4 x5 f0 f1 f2 f3 f4 f5 X2 k1 k2 k3 k4
            obtain ⟨x0, x1, x2, x3, x4, x5⟩ := X3.c6.1
            have a0 := A.cell 0
            have a1 := A.cell 1
            replace hS := hS W7 H
            cases hb : blk k
            · rw [hb] at hS
              have HS := Lib.hid hS
              have HB := Lib.hid hb
              clear hS hb
              go_wp2_with (go_at_call 26; refine HS.out.mono ?_; rintro e_ w8 ⟨rfl, h8⟩)
              go_roundw
              case rel => exact ⟨iv + 1, rfl, by omega, by omega, fun k' h1 h2 h3 => (by
                by_cases e : k' = k
                · subst e; exact HB.out
                · exact hsee.out k' (by have := HK.out; omega) h2 h3), A.on h8, B.on h8, after H h8⟩
              case measure => simp [intOf]; omega
            · rw [hb] at hS
              have HS := Lib.hid hS
              have HB := Lib.hid hb
              clear hS hb
              go_wp2_with (go_at_call 26; refine HS.out.mono ?_; rintro e_ w8 ⟨rfl, h8⟩)
              go_returns
              refine ⟨?_, after H h8⟩
              have hkk := HK.out
              have hww := HW.out
              rw [HVV.out, axV_dn_hit hd (by omega) (by omega) HB.out fun k' h3 h4 => hsee.out k' (by omega) h4 (by omega), hww]
              rfl
        · have i5 : iv = 70 := by omega
          subst i5
          go_wp2_with fail
          go_returns
          refine ⟨?_, H.out⟩
          rw [HVV.out, axV_dn_none hd fun k' h1 h2 => hsee.out k' (by omega) h1 h2]
          rfl
    · subst hd
      have e1 : ¬ (0 : Int) < 0 := by decide
      go_loopw [12] (fun v wr => ∃ iv : Int, v = .int .i64 iv ∧ -1 ≤ iv ∧ iv ≤ 70 ∧ Hid (Below w.heap.size w wr)) (fun v _ => (70 - intOf v).toNat)
      case atStart => exact ⟨-1, rfl, by omega, by omega, H⟩
      case round =>
        clear A B H
        obtain ⟨iv, rfl, i1, i2, H⟩ := hrel
        obtain ⟨hM, hM0, l1, l2, l3, fb1, fb2⟩ := HBD.out
        by_cases hlt : iv < 70
        · have t1 : -9223372036854775808 ≤ top / 65536 + iv := by omega
          have t2 : top / 65536 + iv ≤ 9223372036854775807 := by omega
          have t3 : -9223372036854775808 ≤ (top / 65536 + iv) * 65536 := by omega
          have t4 : (top / 65536 + iv) * 65536 ≤ 9223372036854775807 := by omega
          have t5 : -9223372036854775808 ≤ (top / 65536 + iv) * 65536 - top := by omega
          have t6 : (top / 65536 + iv) * 65536 - top ≤ 9223372036854775807 := by omega
          go_wp2_with (go_at_call 32; refine (rdiv_c _ _ (by omega) (by omega) (by decide) _).mono ?_; rintro e_ w3 ⟨rfl, rfl⟩)
          go_roundw
          case rel => exact ⟨iv + 1, rfl, by omega, by omega, H⟩
          case measure => simp [intOf]; omega
        · have i5 : iv = 70 := by omega
          subst i5
          go_wp2_with fail
          go_returns
          refine ⟨?_, H.out⟩
          rw [HVV.out, axV_zero]
          rfl
end Go.Proofs.Ytckjpiioipkfcaa

/- A box moved. -/
namespace Go.Proofs.Ytckjpiioipkfcaa
open Go.RowKit Go.Shelf
attribute [local go_sem] Oper.semAt_some

set_option maxHeartbeats 2000000 in
theorem smove_c (a b c d e f x y z : Int) (w : World) : Calls Try.prog 57 #[.agg #[.int .i64 a, .int .i64 b, .int .i64 c, .int .i64 d, .int .i64 e, .int .i64 f], .agg #[.int .i64 x, .int .i64 y, .int .i64 z]] w fun r w' => r = .returned (.agg #[.int .i64 (addI a x), .int .i64 (addI b y), .int .i64 (addI c z), .int .i64 (addI d x), .int .i64 (addI e y), .int .i64 (addI f z)]) ∧ Below w.heap.size w w' := by
  have U : Blk (((w.alloc (.cells (bV6 a b c d e f) 28)).alloc (.cells #[.int .i64 x, .int .i64 y, .int .i64 z] 26)).alloc (.cells (bV6 0 0 0 0 0 0) 28)) w.heap.size 28 (bV6 a b c d e f) := ((Blk.new' rfl).alloc _).alloc _
  have V : Blk (((w.alloc (.cells (bV6 a b c d e f) 28)).alloc (.cells #[.int .i64 x, .int .i64 y, .int .i64 z] 26)).alloc (.cells (bV6 0 0 0 0 0 0) 28)) (w.heap.size + 1) 26 #[.int .i64 x, .int .i64 y, .int .i64 z] := (Blk.new' (by simp)).alloc _
  have R0 : Blk (((w.alloc (.cells (bV6 a b c d e f) 28)).alloc (.cells #[.int .i64 x, .int .i64 y, .int .i64 z] 26)).alloc (.cells (bV6 0 0 0 0 0 0) 28)) (w.heap.size + 1 + 1) 28 (bV6 0 0 0 0 0 0) := Blk.new' (by simp)
  obtain ⟨k0, k1, k2, k3, k4, k5⟩ := U.re6
  obtain ⟨l0, l1, l2⟩ := V.re3
  go_enter Try.func57, Try.ntmps57
  go_wp2_with fail
  refine wp_region_last_below 9 (by kernel_rfl) rfl (by kernel_rfl) ?_
  simp only [List.take_succ_cons, List.take_zero, List.drop_succ_cons, List.drop_zero]
  repeat (go_big_quiet_step (exact Calls.regrown_of (add_c _ _ _ _ _ _ _)))
  refine wpQuiet_nil ?_
  intro w' hw'
  obtain ⟨rg, rfl⟩ := hw'
  have R := R0.re rg.d rg.os
  obtain ⟨⟨r0, r1, r2, r3, r4, r5⟩, s0, s1, s2, s3, s4, s5⟩ := R.c6
  go_wp2_with fail
  have R2 := R.st6 (.int .i64 (addI a x)) (.int .i64 (addI b y)) (.int .i64 (addI c z)) (.int .i64 (addI d x)) (.int .i64 (addI e y)) (.int .i64 (addI f z))
  obtain ⟨⟨d0, d1, d2, d3, d4, d5⟩, -, -, -, -, -, -⟩ := R2.c6
  exact bodyPost_ret (v := .agg #[.int .i64 (addI a x), .int .i64 (addI b y), .int .i64 (addI c z), .int .i64 (addI d x), .int .i64 (addI e y), .int .i64 (addI f z)]) (by simp [results, Try.results57, go_sem, d0, d1, d2, d3, d4, d5]) rfl ⟨rfl, by (repeat' (first | (with_reducible exact Below.refl _ _) | (with_reducible assumption) | (with_reducible refine Below.alloc ?_ ?_ _) | (with_reducible refine Below.drew ?_) | (with_reducible refine Below.setCell ?_ ?_ _) | (with_reducible refine after ?_ (below_regrown _ _ _)) | (refine after ?_ (by with_reducible assumption)) | go_size))⟩
set_option maxHeartbeats 2000000 in
theorem srmove_c (a b c d e f x y z : Int) (w : World) : Calls Try.prog 15 #[.agg #[.int .i64 a, .int .i64 b, .int .i64 c, .int .i64 d, .int .i64 e, .int .i64 f], .agg #[.int .i64 x, .int .i64 y, .int .i64 z]] w fun r w' => r = .returned (.agg #[.int .i64 (addI a x), .int .i64 (addI b y), .int .i64 (addI c z), .int .i64 (addI d x), .int .i64 (addI e y), .int .i64 (addI f z)]) ∧ Below w.heap.size w w' := by
  have U : Blk (((w.alloc (.cells (bV6 a b c d e f) 28)).alloc (.cells #[.int .i64 x, .int .i64 y, .int .i64 z] 26)).alloc (.cells (bV6 0 0 0 0 0 0) 28)) w.heap.size 28 (bV6 a b c d e f) := ((Blk.new' rfl).alloc _).alloc _
  have V : Blk (((w.alloc (.cells (bV6 a b c d e f) 28)).alloc (.cells #[.int .i64 x, .int .i64 y, .int .i64 z] 26)).alloc (.cells (bV6 0 0 0 0 0 0) 28)) (w.heap.size + 1) 26 #[.int .i64 x, .int .i64 y, .int .i64 z] := (Blk.new' (by simp)).alloc _
  have R0 : Blk (((w.alloc (.cells (bV6 a b c d e f) 28)).alloc (.cells #[.int .i64 x, .int .i64 y, .int .i64 z] 26)).alloc (.cells (bV6 0 0 0 0 0 0) 28)) (w.heap.size + 1 + 1) 28 (bV6 0 0 0 0 0 0) := Blk.new' (by simp)
  obtain ⟨k0, k1, k2, k3, k4, k5⟩ := U.re6
  obtain ⟨l0, l1, l2⟩ := V.re3
  go_enter Try.func15, Try.ntmps15
  go_wp2_with fail
  refine wp_region_last_below 9 (by kernel_rfl) rfl (by kernel_rfl) ?_
  simp only [List.take_succ_cons, List.take_zero, List.drop_succ_cons, List.drop_zero]
  repeat (go_big_quiet_step (exact Calls.regrown_of (raddv_c _ _ _ _ _ _ _)))
  refine wpQuiet_nil ?_
  intro w' hw'
  obtain ⟨rg, rfl⟩ := hw'
  have R := R0.re rg.d rg.os
  obtain ⟨⟨r0, r1, r2, r3, r4, r5⟩, s0, s1, s2, s3, s4, s5⟩ := R.c6
  go_wp2_with fail
  have R2 := R.st6 (.int .i64 (addI a x)) (.int .i64 (addI b y)) (.int .i64 (addI c z)) (.int .i64 (addI d x)) (.int .i64 (addI e y)) (.int .i64 (addI f z))
  obtain ⟨⟨d0, d1, d2, d3, d4, d5⟩, -, -, -, -, -, -⟩ := R2.c6
  exact bodyPost_ret (v := .agg #[.int .i64 (addI a x), .int .i64 (addI b y), .int .i64 (addI c z), .int .i64 (addI d x), .int .i64 (addI e y), .int .i64 (addI f z)]) (by simp [results, Try.results15, go_sem, d0, d1, d2, d3, d4, d5]) rfl ⟨rfl, by (repeat' (first | (with_reducible exact Below.refl _ _) | (with_reducible assumption) | (with_reducible refine Below.alloc ?_ ?_ _) | (with_reducible refine Below.drew ?_) | (with_reducible refine Below.setCell ?_ ?_ _) | (with_reducible refine after ?_ (below_regrown _ _ _)) | (refine after ?_ (by with_reducible assumption)) | go_size))⟩
end Go.Proofs.Ytckjpiioipkfcaa

/- A box that goes along an axis. -/
namespace Go.Proofs.Ytckjpiioipkfcaa
open Go.RowKit Go.Shelf
attribute [local go_sem] Oper.semAt_some

def alT (p : B6 × Bool) : Value := .tuple #[.agg (ag6 p.1), .bool p.2]
set_option maxRecDepth 100000 in
set_option maxHeartbeats 4000000 in
theorem palong_c (V : FuncId) (lv : Array Value) (val : Cl → Int) (x : B6) (axis dd M : Int) (hM : M ≤ 100000000000) (hM0 : 0 ≤ M) (hB : Sm6 M x) (w : World)
    (eV : ∀ args w, (callFunc V args).run Try.prog w = .ok (.enter V args) w) (hV : Tells Try.prog V lv val w) :
    Calls Try.prog 39 #[.func (.func V) #[] lv, .agg (ag6 x), .int .i64 axis, .int .i64 dd] w fun r w' => r = .returned (alT (al6 (val) x axis dd)) ∧ Below w.heap.size w w' := by
  have HC := Lib.hid fun W (h : Below w.heap.size w W) => saxis_c V lv val x.1 x.2.1 x.2.2.1 x.2.2.2.1 x.2.2.2.2.1 x.2.2.2.2.2 axis dd M hM hM0 hB W eV (hV.on h)
  have hal : al6 (val) x axis dd = (mv6 x axis (ax6 (val) x axis dd).1, (ax6 (val) x axis dd).2) := rfl
  rw [hal]
  unfold ax6 mv6
  obtain ⟨a, b, c, d, e, f⟩ := x
  simp only [ag6] at HC ⊢
  generalize axisV (val) a b c d e f axis dd = r at HC ⊢
  obtain ⟨n, hit⟩ := r
  simp only [axT] at HC ⊢
  clear hV eV hM hM0 hB hal
  obtain ⟨W0, hW0⟩ : ∃ W0, W0 = ((w).alloc (.cells #[.int .i64 a, .int .i64 b, .int .i64 c, .int .i64 d, .int .i64 e, .int .i64 f] 28)).alloc (.cells #[.int .i64 0, .int .i64 0, .int .i64 0, .int .i64 0, .int .i64 0, .int .i64 0] 28) := ⟨_, rfl⟩
  have U : Blk W0 (w.heap.size) 28 _ := Blk.eqw hW0.symm ((Blk.new' (by simp)).alloc _)
  have R0 : Blk W0 (w.heap.size + 1) 28 _ := Blk.eqw hW0.symm (Blk.new' (by simp))
  have H0 : Below w.heap.size w W0 := by rw [hW0]; go_grown
  have XA : True := trivial
  go_enter Try.func39, Try.ntmps39
  go_upto_region 1 with (fail)
  rw [← hW0]
  clear hW0
  obtain ⟨u0, u1, u2, u3, u4, u5⟩ := U.c6.1
  have XB : True := trivial
  go_upto_region 2 with (go_at_call 13; refine (HC.out _ H0).mono ?_; rintro e_ w1 ⟨rfl, h1⟩)
  replace U := U.on h1
  have R := R0.on h1
  replace H0 := after H0 h1
  clear u0 u1 u2 u3 u4 u5 h1 R0 HC
  obtain ⟨u0, u1, u2, u3, u4, u5⟩ := U.re6
  refine wp_sched [0, 0, 0, 0, 0, 0, 1, 3, 3] (fun _ _ _ => True) (by kernel_rfl) (by kernel_rfl) (fun _ _ _ _ h _ => h) ?_
  repeat (first | (refine wpQs_s ?_) | (refine wpQs_q (fun K hK => ?_); go_simp; first | (refine hK _ ?_; clear hK K) | (apply Exists.intro; refine ⟨fun _ => ?_, hK _ ?_⟩; (first | exact with_c _ _ _ _ _ _ | exact smove_c _ _ _ _ _ _ _ _ _ _); clear hK K)) | (refine wpQs_f (fun K hK => ?_); go_simp; refine hK _ ?_; clear hK K))
  refine wpQs_nil ?_
  repeat (first | (refine wpLs_skip ?_) | (refine wpLs_one ?lsA (fun v_ => ?_); case lsA => (intro w_ hw_ hp_; (fail))))
  refine wpLs_nilB ?_
  simp only [tails]
  intro W2 h2 _
  clear u0 u1 u2 u3 u4 u5
  replace R := R.on h2
  replace H0 := after H0 h2
  obtain ⟨⟨r0, r1, r2, r3, r4, r5⟩, s0, s1, s2, s3, s4, s5⟩ := R.c6
  go_wp2_with fail
  have R2 := R.st6 (.int .i64 (addI a (wiI 0 axis 0 n))) (.int .i64 (addI b (wiI 0 axis 1 n))) (.int .i64 (addI c (wiI 0 axis 2 n))) (.int .i64 (addI d (wiI 0 axis 0 n))) (.int .i64 (addI e (wiI 0 axis 1 n))) (.int .i64 (addI f (wiI 0 axis 2 n)))
  obtain ⟨⟨d0, d1, d2, d3, d4, d5⟩, -, -, -, -, -, -⟩ := R2.c6
  exact bodyPost_ret (v := alT ((addI a (wiI 0 axis 0 n), addI b (wiI 0 axis 1 n), addI c (wiI 0 axis 2 n), addI d (wiI 0 axis 0 n), addI e (wiI 0 axis 1 n), addI f (wiI 0 axis 2 n)), hit)) (by simp [results, Try.f39, go_sem, alT, d0, d1, d2, d3, d4, d5]) rfl ⟨rfl, by (repeat' (first | (with_reducible exact Below.refl _ _) | (with_reducible assumption) | (with_reducible refine Below.alloc ?_ ?_ _) | (with_reducible refine Below.drew ?_) | (with_reducible refine Below.setCell ?_ ?_ _) | (with_reducible refine after ?_ (below_regrown _ _ _)) | (refine after ?_ (by with_reducible assumption)) | go_size))⟩
set_option maxRecDepth 100000 in
set_option maxHeartbeats 4000000 in
theorem ralong_c (q : Option Addr) (n' cp : Nat) (F : Nat → Int) (els : Int) (x : B6) (axis dd M : Int) (hM : M ≤ 100000000000) (hM0 : 0 ≤ M) (hB : Sm6 M x) (w : World)
    (hq : Iq w q n' F) :
    Calls Try.prog 41 #[.agg #[.slice q n' cp, .int .i64 els], .agg (ag6 x), .int .i64 axis, .int .i64 dd] w fun r w' => r = .returned (alT (al6 (fun c => atG n' F els c.1 c.2.1 c.2.2) x axis dd)) ∧ Below w.heap.size w w' := by
  have HC := Lib.hid fun W (h : Below w.heap.size w W) => rsaxis_c q n' cp F els x.1 x.2.1 x.2.2.1 x.2.2.2.1 x.2.2.2.2.1 x.2.2.2.2.2 axis dd M hM hM0 hB W (hq.on h)
  have hal : al6 (fun c => atG n' F els c.1 c.2.1 c.2.2) x axis dd = (mv6 x axis (ax6 (fun c => atG n' F els c.1 c.2.1 c.2.2) x axis dd).1, (ax6 (fun c => atG n' F els c.1 c.2.1 c.2.2) x axis dd).2) := rfl
  rw [hal]
  unfold ax6 mv6
  obtain ⟨a, b, c, d, e, f⟩ := x
  simp only [ag6] at HC ⊢
  generalize axisV (fun c => atG n' F els c.1 c.2.1 c.2.2) a b c d e f axis dd = r at HC ⊢
  obtain ⟨n, hit⟩ := r
  simp only [axT] at HC ⊢
  clear hq hM hM0 hB hal
  obtain ⟨W0, hW0⟩ : ∃ W0, W0 = ((w.alloc (.cells #[.slice q n' cp, .int .i64 els] 24)).alloc (.cells #[.int .i64 a, .int .i64 b, .int .i64 c, .int .i64 d, .int .i64 e, .int .i64 f] 28)).alloc (.cells #[.int .i64 0, .int .i64 0, .int .i64 0, .int .i64 0, .int .i64 0, .int .i64 0] 28) := ⟨_, rfl⟩
  have U : Blk W0 (w.heap.size + 1) 28 _ := Blk.eqw hW0.symm ((Blk.new' (by simp)).alloc _)
  have R0 : Blk W0 (w.heap.size + 1 + 1) 28 _ := Blk.eqw hW0.symm (Blk.new' (by simp))
  have H0 : Below w.heap.size w W0 := by rw [hW0]; go_grown
  have XA : Blk W0 w.heap.size 24 #[.slice q n' cp, .int .i64 els] := Blk.eqw hW0.symm (((Blk.new' rfl).alloc _).alloc _)
  go_enter Try.func41, Try.ntmps41
  go_upto_region 1 with (fail)
  rw [← hW0]
  clear hW0
  obtain ⟨u0, u1, u2, u3, u4, u5⟩ := U.c6.1
  obtain ⟨g0, g1⟩ : W0.cell? ⟨w.heap.size, 0, none⟩ = _ ∧ W0.cell? ⟨w.heap.size, 1, none⟩ = _ := ⟨XA.cell 0, XA.cell 1⟩
  go_upto_region 2 with (go_at_call 18; refine (HC.out _ H0).mono ?_; rintro e_ w1 ⟨rfl, h1⟩)
  replace U := U.on h1
  have R := R0.on h1
  replace H0 := after H0 h1
  clear u0 u1 u2 u3 u4 u5 h1 R0 HC
  obtain ⟨u0, u1, u2, u3, u4, u5⟩ := U.re6
  refine wp_sched [0, 0, 0, 0, 0, 0, 1, 3, 3] (fun _ _ _ => True) (by kernel_rfl) (by kernel_rfl) (fun _ _ _ _ h _ => h) ?_
  repeat (first | (refine wpQs_s ?_) | (refine wpQs_q (fun K hK => ?_); go_simp; first | (refine hK _ ?_; clear hK K) | (apply Exists.intro; refine ⟨fun _ => ?_, hK _ ?_⟩; (first | exact rwith_c _ _ _ _ _ _ | exact srmove_c _ _ _ _ _ _ _ _ _ _); clear hK K)) | (refine wpQs_f (fun K hK => ?_); go_simp; refine hK _ ?_; clear hK K))
  refine wpQs_nil ?_
  repeat (first | (refine wpLs_skip ?_) | (refine wpLs_one ?lsA (fun v_ => ?_); case lsA => (intro w_ hw_ hp_; (fail))))
  refine wpLs_nilB ?_
  simp only [tails]
  intro W2 h2 _
  clear u0 u1 u2 u3 u4 u5
  replace R := R.on h2
  replace H0 := after H0 h2
  obtain ⟨⟨r0, r1, r2, r3, r4, r5⟩, s0, s1, s2, s3, s4, s5⟩ := R.c6
  go_wp2_with fail
  have R2 := R.st6 (.int .i64 (addI a (wiI 0 axis 0 n))) (.int .i64 (addI b (wiI 0 axis 1 n))) (.int .i64 (addI c (wiI 0 axis 2 n))) (.int .i64 (addI d (wiI 0 axis 0 n))) (.int .i64 (addI e (wiI 0 axis 1 n))) (.int .i64 (addI f (wiI 0 axis 2 n)))
  obtain ⟨⟨d0, d1, d2, d3, d4, d5⟩, -, -, -, -, -, -⟩ := R2.c6
  exact bodyPost_ret (v := alT ((addI a (wiI 0 axis 0 n), addI b (wiI 0 axis 1 n), addI c (wiI 0 axis 2 n), addI d (wiI 0 axis 0 n), addI e (wiI 0 axis 1 n), addI f (wiI 0 axis 2 n)), hit)) (by simp [results, Try.f41, go_sem, alT, d0, d1, d2, d3, d4, d5]) rfl ⟨rfl, by (repeat' (first | (with_reducible exact Below.refl _ _) | (with_reducible assumption) | (with_reducible refine Below.alloc ?_ ?_ _) | (with_reducible refine Below.drew ?_) | (with_reducible refine Below.setCell ?_ ?_ _) | (with_reducible refine after ?_ (below_regrown _ _ _)) | (refine after ?_ (by with_reducible assumption)) | go_size))⟩
end Go.Proofs.Ytckjpiioipkfcaa

/- Down; the laws' way; the document's example of layer 15. -/
namespace Go.Proofs.Ytckjpiioipkfcaa
open Go.RowKit Go.Shelf
attribute [local go_sem] Oper.semAt_some

set_option maxHeartbeats 4000000 in
theorem drop_c (V : FuncId) (lv : Array Value) (val : Cl → Int) (a b c d e f most M : Int) (hM : M ≤ 100000000000) (hM0 : 0 ≤ M) (hB : Sm M a b c d e f) (hm1 : -1000000000 ≤ most) (hm2 : most ≤ 1000000000) (w : World)
    (eV : ∀ args w, (callFunc V args).run Try.prog w = .ok (.enter V args) w) (hV : Tells Try.prog V lv val w) :
    Calls Try.prog 19 #[.func (.func V) #[] lv, .agg #[.int .i64 a, .int .i64 b, .int .i64 c, .int .i64 d, .int .i64 e, .int .i64 f], .int .i64 most] w fun r w' => r = .returned (.int .i64 (-(axisV val a b c d e f 1 (-mxI most 0)).1)) ∧ Below w.heap.size w w' := by
  have hx1 : -1000000000 ≤ mxI most 0 := by unfold mxI; omega
  have hx2 : mxI most 0 ≤ 1000000000 := by unfold mxI; omega
  have hfar := axisV_far val a b c d e f 1 (-mxI most 0)
  have hmx := @run_mx Try.prog
  have HC := Lib.hid fun W (h : Below w.heap.size w W) => saxis_c V lv val a b c d e f 1 (-mxI most 0) M hM hM0 hB W eV (hV.on h)
  generalize axisV val a b c d e f 1 (-mxI most 0) = r at HC hfar ⊢
  obtain ⟨n, hit⟩ := r
  dsimp only at hfar ⊢
  simp only [axT] at HC
  obtain ⟨mx, hmm⟩ : ∃ mx, mx = mxI most 0 := ⟨_, rfl⟩
  rw [← hmm] at HC hx1 hx2
  have e1 : -9223372036854775808 ≤ -mx := by omega
  have e2 : -mx ≤ 9223372036854775807 := by omega
  have e3 : -9223372036854775808 ≤ -n := by omega
  have e4 : -n ≤ 9223372036854775807 := by omega
  have hmx1 : ∀ (ts : Array TypeId) (t : TypeId) (w : World), (Builtin.max_ ts t #[.int .i64 most, .int .i64 0]).run Try.prog w = .ok (.int .i64 mx) w := fun ts t w => by rw [hmx, ← hmm]
  clear hmx hmm hV eV hB hM hM0 hm1 hm2 hfar
  have U : Blk (w.alloc (.cells #[.int .i64 a, .int .i64 b, .int .i64 c, .int .i64 d, .int .i64 e, .int .i64 f] 28)) w.heap.size 28 _ := Blk.new' rfl
  have H0 : Below w.heap.size w (w.alloc (.cells #[.int .i64 a, .int .i64 b, .int .i64 c, .int .i64 d, .int .i64 e, .int .i64 f] 28)) := (Below.refl _ _).alloc (Nat.le_refl _) _
  obtain ⟨u0, u1, u2, u3, u4, u5⟩ := U.c6.1
  go_enter Try.func19, Try.ntmps19
  go_wp2_with (go_at_call 13; refine (HC.out _ H0).mono ?_; rintro e_ w1 ⟨rfl, h1⟩)
  go_returns
  exact ⟨rfl, after H0 h1⟩
def wayI (n : Int) : Int := arI n 786433 - 393216
theorem wayI_bd (n : Int) : -393216 ≤ wayI n ∧ wayI n ≤ 393216 := by
  have h1 := arI_lo n (m := 786433) (by omega)
  have h2 := arI_hi n (m := 786433) (by omega)
  unfold wayI; omega
set_option maxHeartbeats 4000000 in
theorem way_c (x y z : Int) (hx : In64 x) (hy : In64 y) (hz : In64 z) (w : World) : Calls Try.prog 17 #[.agg #[.int .i64 x, .int .i64 y, .int .i64 z]] w fun r w' => r = .returned (.agg #[.int .i64 (wayI x), .int .i64 (wayI y), .int .i64 (wayI z)]) ∧ Below w.heap.size w w' := by
  have U : Blk ((w.alloc (.cells #[.int .i64 x, .int .i64 y, .int .i64 z] 26)).alloc (.cells #[.int .i64 0, .int .i64 0, .int .i64 0] 26)) w.heap.size 26 #[.int .i64 x, .int .i64 y, .int .i64 z] := (Blk.new' rfl).alloc _
  have R0 : Blk ((w.alloc (.cells #[.int .i64 x, .int .i64 y, .int .i64 z] 26)).alloc (.cells #[.int .i64 0, .int .i64 0, .int .i64 0] 26)) (w.heap.size + 1) 26 #[.int .i64 0, .int .i64 0, .int .i64 0] := Blk.new' (by simp)
  have CA := Lib.hid fun (n : Int) (hn : In64 n) W => calls_bel (around_c n 786433 hn.1 hn.2 (by omega) W)
  unfold wayI
  have lx := arI_lo x (m := 786433) (by omega)
  have gx := arI_hi x (m := 786433) (by omega)
  have wx : IntKind.i64.wrap (arI x 786433 - 393216) = arI x 786433 - 393216 := IntWalk.i64_in _ (by omega)
  have ly := arI_lo y (m := 786433) (by omega)
  have gy := arI_hi y (m := 786433) (by omega)
  have wy : IntKind.i64.wrap (arI y 786433 - 393216) = arI y 786433 - 393216 := IntWalk.i64_in _ (by omega)
  have lz := arI_lo z (m := 786433) (by omega)
  have gz := arI_hi z (m := 786433) (by omega)
  have wz : IntKind.i64.wrap (arI z 786433 - 393216) = arI z 786433 - 393216 := IntWalk.i64_in _ (by omega)
  clear lx ly lz gx gy gz
  obtain ⟨k0, k1, k2⟩ := U.re3
  go_enter Try.func17, Try.ntmps17
  go_wp2_with fail
  refine wp_region_last_below 13 (by kernel_rfl) rfl (by kernel_rfl) ?_
  simp only [List.take_succ_cons, List.take_zero, List.drop_succ_cons, List.drop_zero]
  repeat (go_big_quiet_step (exact Calls.regrown_of (CA.out _ (by assumption) _)))
  refine wpQuiet_nil ?_
  intro w' hw'
  obtain ⟨rg, rfl⟩ := hw'
  have R := R0.re rg.d rg.os
  obtain ⟨r0, r1, r2, s0, s1, s2⟩ := R.c3
  go_wp2_with fail
  have R2 := R.st3 (.int .i64 (arI x 786433 - 393216)) (.int .i64 (arI y 786433 - 393216)) (.int .i64 (arI z 786433 - 393216))
  obtain ⟨d0, d1, d2, -, -, -⟩ := R2.c3
  exact bodyPost_ret (v := .agg #[.int .i64 (arI x 786433 - 393216), .int .i64 (arI y 786433 - 393216), .int .i64 (arI z 786433 - 393216)]) (by simp [results, Try.results17, go_sem, d0, d1, d2]) rfl ⟨rfl, by (repeat' (first | (with_reducible exact Below.refl _ _) | (with_reducible assumption) | (with_reducible refine Below.alloc ?_ ?_ _) | (with_reducible refine Below.drew ?_) | (with_reducible refine Below.setCell ?_ ?_ _) | (with_reducible refine after ?_ (below_regrown _ _ _)) | (refine after ?_ (by with_reducible assumption)) | go_size))⟩
theorem lives15 : axisV (fun x => atG 0 (fun _ => 0) 0 x.1 x.2.1 x.2.2) 0 32768 0 65536 98304 65536 1 (-65536) = (-32768, true) := by decide +kernel
set_option maxHeartbeats 4000000 in
theorem slives_c (w : World) : Calls Try.prog 14 #[] w fun r w' => r = .returned (.bool true) ∧ Below w.heap.size w w' := by
  have T1 : ∀ W b, Blk W b 24 #[.slice none 0 0, .int .i64 0] → Tells Try.prog 30 #[.pointer (some ⟨b, 0, none⟩)] (fun x => atG 0 (fun _ => 0) 0 x.1 x.2.1 x.2.2) W := fun W b h => view_tells h (fun h => by omega)
  have c1 := fun W b (h : Blk W b 24 #[.slice none 0 0, .int .i64 0]) => saxis_c 30 #[.pointer (some ⟨b, 0, none⟩)] _ 0 32768 0 65536 98304 65536 1 (-65536) 100000 (by decide) (by decide) ⟨by decide, by decide, by decide, by decide, by decide, by decide, by decide, by decide, by decide, by decide, by decide, by decide⟩ W view_en (T1 W b h)
  rw [lives15] at c1
  simp only [axT] at c1
  have C1 := Lib.hid c1
  clear c1 T1
  go_enter Try.func14, Try.ntmps14
  go_upto_region 2 with (fail)
  have B : Blk (w.alloc (.cells #[.int .i64 0, .int .i64 32768, .int .i64 0, .int .i64 65536, .int .i64 98304, .int .i64 65536] 28)) w.heap.size 28 _ := Blk.new' rfl
  have H0 : Below w.heap.size w (w.alloc (.cells #[.int .i64 0, .int .i64 32768, .int .i64 0, .int .i64 65536, .int .i64 98304, .int .i64 65536] 28)) := (Below.refl _ _).alloc (Nat.le_refl _) _
  obtain ⟨x0, x1, x2, x3, x4, x5⟩ := B.re6
  refine wp_sched [0, 2, 0, 2, 2, 2, 2, 2, 2] (fun i v w => match i with | 1 => ∃ b9, v = .func (.func 30) #[] #[.pointer (some ⟨b9, 0, none⟩)] ∧ Blk w b9 24 #[.slice none 0 0, .int .i64 0] | 3 => v = .tuple #[.int .i64 (-32768), .bool true] | 4 => v = .tuple #[.int .i64 (-32768), .bool true] | 5 => v = .int .i64 (-32768) | 7 => v = .int .i64 (-32768) | _ => v = .bool true) (by kernel_rfl) (by kernel_rfl) (fun i v w w' h hb => by match i, h with | 1, h => obtain ⟨b, h1, h2⟩ := h; exact ⟨b, h1, h2.on hb⟩ | 0, h => exact h | 2, h => exact h | 3, h => exact h | 4, h => exact h | 5, h => exact h | 6, h => exact h | 7, h => exact h | n + 8, h => exact h) ?_
  repeat (first | (refine wpQs_s ?_) | (refine wpQs_q (fun K hK => ?_); go_simp; first | (refine hK _ ?_; clear hK K) | (apply Exists.intro; refine ⟨fun _ => ?_, hK _ ?_⟩; (fail); clear hK K)) | (refine wpQs_f (fun K hK => ?_); go_simp; refine hK _ ?_; clear hK K))
  refine wpQs_nil ?_
  refine wpLs_skip ?_
  refine wpLs_one ?lsA (fun v_ => ?_)
  case lsA => (intro w_ hw_ hp_; (first | (go_simp; refine (view_c _ _ _).mono ?_; rintro e_ w9 ⟨rfl, rfl⟩; exact ⟨_, rfl, Kept.of_below ((Below.refl _ _).alloc (Nat.le_refl _) _), _, rfl, Blk.new' rfl⟩) | (dsimp only at hF_; have h8 := hF_.2 (by kernel_rfl); have E := h8; subst E; go_simp <;> first | exact Kept.refl _ _ | exact ⟨Kept.refl _ _, rfl⟩) | (dsimp only at hF_; have h8 := hF_.1.2 (by kernel_rfl); have E := h8; subst E; go_simp <;> first | exact Kept.refl _ _ | exact ⟨Kept.refl _ _, rfl⟩) | (dsimp only at hF_; have h8 := hF_.2 (by kernel_rfl); obtain ⟨b9, E, hb⟩ := h8; subst E; go_simp; refine (C1.out _ _ hb).mono ?_; rintro e_ w9 ⟨rfl, h9⟩; exact ⟨rfl, Kept.of_below h9⟩)))
  refine wpLs_skip ?_
  refine wpLs_oneF ?lsA (fun v_ => ?_)
  case lsA => (intro w_ hw_ hp_ hF_; (first | (go_simp; refine (view_c _ _ _).mono ?_; rintro e_ w9 ⟨rfl, rfl⟩; exact ⟨_, rfl, Kept.of_below ((Below.refl _ _).alloc (Nat.le_refl _) _), _, rfl, Blk.new' rfl⟩) | (dsimp only at hF_; have h8 := hF_.2 (by kernel_rfl); have E := h8; subst E; go_simp <;> first | exact Kept.refl _ _ | exact ⟨Kept.refl _ _, rfl⟩) | (dsimp only at hF_; have h8 := hF_.1.2 (by kernel_rfl); have E := h8; subst E; go_simp <;> first | exact Kept.refl _ _ | exact ⟨Kept.refl _ _, rfl⟩) | (dsimp only at hF_; have h8 := hF_.2 (by kernel_rfl); obtain ⟨b9, E, hb⟩ := h8; subst E; go_simp; refine (C1.out _ _ hb).mono ?_; rintro e_ w9 ⟨rfl, h9⟩; exact ⟨rfl, Kept.of_below h9⟩)))
  refine wpLs_oneF ?lsA (fun v_ => ?_)
  case lsA => (intro w_ hw_ hp_ hF_; (first | (go_simp; refine (view_c _ _ _).mono ?_; rintro e_ w9 ⟨rfl, rfl⟩; exact ⟨_, rfl, Kept.of_below ((Below.refl _ _).alloc (Nat.le_refl _) _), _, rfl, Blk.new' rfl⟩) | (dsimp only at hF_; have h8 := hF_.2 (by kernel_rfl); have E := h8; subst E; go_simp <;> first | exact Kept.refl _ _ | exact ⟨Kept.refl _ _, rfl⟩) | (dsimp only at hF_; have h8 := hF_.1.2 (by kernel_rfl); have E := h8; subst E; go_simp <;> first | exact Kept.refl _ _ | exact ⟨Kept.refl _ _, rfl⟩) | (dsimp only at hF_; have h8 := hF_.2 (by kernel_rfl); obtain ⟨b9, E, hb⟩ := h8; subst E; go_simp; refine (C1.out _ _ hb).mono ?_; rintro e_ w9 ⟨rfl, h9⟩; exact ⟨rfl, Kept.of_below h9⟩)))
  refine wpLs_oneF ?lsA (fun v_ => ?_)
  case lsA => (intro w_ hw_ hp_ hF_; (first | (go_simp; refine (view_c _ _ _).mono ?_; rintro e_ w9 ⟨rfl, rfl⟩; exact ⟨_, rfl, Kept.of_below ((Below.refl _ _).alloc (Nat.le_refl _) _), _, rfl, Blk.new' rfl⟩) | (dsimp only at hF_; have h8 := hF_.2 (by kernel_rfl); have E := h8; subst E; go_simp <;> first | exact Kept.refl _ _ | exact ⟨Kept.refl _ _, rfl⟩) | (dsimp only at hF_; have h8 := hF_.1.2 (by kernel_rfl); have E := h8; subst E; go_simp <;> first | exact Kept.refl _ _ | exact ⟨Kept.refl _ _, rfl⟩) | (dsimp only at hF_; have h8 := hF_.2 (by kernel_rfl); obtain ⟨b9, E, hb⟩ := h8; subst E; go_simp; refine (C1.out _ _ hb).mono ?_; rintro e_ w9 ⟨rfl, h9⟩; exact ⟨rfl, Kept.of_below h9⟩)))
  refine wpLs_oneF ?lsA (fun v_ => ?_)
  case lsA => (intro w_ hw_ hp_ hF_; (first | (go_simp; refine (view_c _ _ _).mono ?_; rintro e_ w9 ⟨rfl, rfl⟩; exact ⟨_, rfl, Kept.of_below ((Below.refl _ _).alloc (Nat.le_refl _) _), _, rfl, Blk.new' rfl⟩) | (dsimp only at hF_; have h8 := hF_.2 (by kernel_rfl); have E := h8; subst E; go_simp <;> first | exact Kept.refl _ _ | exact ⟨Kept.refl _ _, rfl⟩) | (dsimp only at hF_; have h8 := hF_.1.2 (by kernel_rfl); have E := h8; subst E; go_simp <;> first | exact Kept.refl _ _ | exact ⟨Kept.refl _ _, rfl⟩) | (dsimp only at hF_; have h8 := hF_.2 (by kernel_rfl); obtain ⟨b9, E, hb⟩ := h8; subst E; go_simp; refine (C1.out _ _ hb).mono ?_; rintro e_ w9 ⟨rfl, h9⟩; exact ⟨rfl, Kept.of_below h9⟩)))
  refine wpLs_oneF ?lsA (fun v_ => ?_)
  case lsA => (intro w_ hw_ hp_ hF_; (first | (go_simp; refine (view_c _ _ _).mono ?_; rintro e_ w9 ⟨rfl, rfl⟩; exact ⟨_, rfl, Kept.of_below ((Below.refl _ _).alloc (Nat.le_refl _) _), _, rfl, Blk.new' rfl⟩) | (dsimp only at hF_; have h8 := hF_.2 (by kernel_rfl); have E := h8; subst E; go_simp <;> first | exact Kept.refl _ _ | exact ⟨Kept.refl _ _, rfl⟩) | (dsimp only at hF_; have h8 := hF_.1.2 (by kernel_rfl); have E := h8; subst E; go_simp <;> first | exact Kept.refl _ _ | exact ⟨Kept.refl _ _, rfl⟩) | (dsimp only at hF_; have h8 := hF_.2 (by kernel_rfl); obtain ⟨b9, E, hb⟩ := h8; subst E; go_simp; refine (C1.out _ _ hb).mono ?_; rintro e_ w9 ⟨rfl, h9⟩; exact ⟨rfl, Kept.of_below h9⟩)))
  refine wpLs_oneF ?lsA (fun v_ => ?_)
  case lsA => (intro w_ hw_ hp_ hF_; (first | (go_simp; refine (view_c _ _ _).mono ?_; rintro e_ w9 ⟨rfl, rfl⟩; exact ⟨_, rfl, Kept.of_below ((Below.refl _ _).alloc (Nat.le_refl _) _), _, rfl, Blk.new' rfl⟩) | (dsimp only at hF_; have h8 := hF_.2 (by kernel_rfl); have E := h8; subst E; go_simp <;> first | exact Kept.refl _ _ | exact ⟨Kept.refl _ _, rfl⟩) | (dsimp only at hF_; have h8 := hF_.1.2 (by kernel_rfl); have E := h8; subst E; go_simp <;> first | exact Kept.refl _ _ | exact ⟨Kept.refl _ _, rfl⟩) | (dsimp only at hF_; have h8 := hF_.2 (by kernel_rfl); obtain ⟨b9, E, hb⟩ := h8; subst E; go_simp; refine (C1.out _ _ hb).mono ?_; rintro e_ w9 ⟨rfl, h9⟩; exact ⟨rfl, Kept.of_below h9⟩)))
  refine wpLs_nilB ?_
  simp only [tails]
  rintro W1 h1 ⟨⟨⟨⟨⟨⟨⟨-, b9, rfl, -⟩, rfl⟩, rfl⟩, rfl⟩, rfl⟩, rfl⟩, rfl⟩
  clear x0 x1 x2 x3 x4 x5
  go_wp2_with fail
  go_returns
  exact ⟨rfl, after H0 h1⟩
end Go.Proofs.Ytckjpiioipkfcaa

/- A box made near a small world: what is known of it. -/
namespace Go.Proofs.Ytckjpiioipkfcaa
open Go.RowKit Go.Shelf

theorem nearx_c (a b c d e f : Int) (halves : Bool) (ha : In64 a) (hb : In64 b) (hc : In64 c) (hd : In64 d) (he : In64 e) (hf : In64 f) (w : World) :
    Calls Try.prog 11 #[.agg #[.int .i64 a, .int .i64 b, .int .i64 c, .int .i64 d, .int .i64 e, .int .i64 f], .bool halves] w fun r w' => ∃ y : B6, r = .returned (.agg (ag6 y)) ∧ Sm6 600000 y ∧ Below w.heap.size w w' := by
  refine (near_c a b c d e f halves ha hb hc hd he hf w).mono ?_
  rintro r w' ⟨h1, h2⟩
  have da := near_bd halves a d
  have db := near_bd halves b e
  have dc := near_bd halves c f
  refine ⟨(nearLo (unitI halves) a, nearLo (unitI halves) b, nearLo (unitI halves) c, nearHi (unitI halves) a d, nearHi (unitI halves) b e, nearHi (unitI halves) c f), h1, ?_, h2⟩
  constructor <;> dsimp only <;> omega
theorem nearz_c (a b c d e f : Int) (halves : Bool) (ha : In64 a) (hb : In64 b) (hc : In64 c) (hd : In64 d) (he : In64 e) (hf : In64 f) (w : World) :
    Calls Try.prog 11 #[.agg #[.int .i64 a, .int .i64 b, .int .i64 c, .int .i64 d, .int .i64 e, .int .i64 f], .bool halves] w fun r w' => ∃ y : B6, r = .returned (.agg (ag6 y)) ∧ Sm6 600000 y ∧ y.2.2.2.2.1 ≤ 900000 ∧ Below w.heap.size w w' := by
  refine (near_c a b c d e f halves ha hb hc hd he hf w).mono ?_
  rintro r w' ⟨h1, h2⟩
  have da := near_bd halves a d
  have db := near_bd halves b e
  have dc := near_bd halves c f
  refine ⟨(nearLo (unitI halves) a, nearLo (unitI halves) b, nearLo (unitI halves) c, nearHi (unitI halves) a d, nearHi (unitI halves) b e, nearHi (unitI halves) c f), h1, ?_, ?_, h2⟩
  · constructor <;> dsimp only <;> omega
  · dsimp only; omega
end Go.Proofs.Ytckjpiioipkfcaa

/- A small world, opened. -/
namespace Go.Proofs.Ytckjpiioipkfcaa
open Go.ChangeShapes Go.WideShapes Go.ChangeAt Go.RowKit

section
variable {H : Type} {enc : TypeId × Value → H} {P : Program}
def gFields (P : Program) (f0 f1 : Field) (ts ti : TypeId) : Bool := f0.offset == 0 && f1.offset == 1 && (f0.type == ts && f1.type == ti) && (P.cellsOf ts == 1 && P.cellsOf ti == 1)
theorem open_ints {w : World} {base fuel : Nat} {spare : Nat → Bool} {held : Bool} {ts ti : TypeId} {v : Value} {x : DataW H × List MemPlace} (hts : P.underlying ts = some (.slice ti)) (hc : P.cellsOf ti = 1) (hi : P.underlying ti = some (.int .i64))
    (h : DataW.trod enc P w base spare held fuel ts [v] = some x) : ∃ q n c F, v = .slice q n c ∧ n ≤ c ∧ c ≤ maxLen ∧ Iq w q n F ∧ ∀ i, i < n → In64 (F i) := by
  rcases Go.Deep.open_slice1 hts hc h with ⟨hcs, _⟩ | ⟨a, len, cap, m, k, V, D, Pl, hcs, _, hl, hm, hmm, _, hel⟩
  · simp at hcs
    subst hcs
    exact ⟨none, 0, 0, fun _ => 0, rfl, Nat.le_refl _, by decide, fun h => by omega, fun i h => by omega⟩
  · simp at hcs
    subst hcs
    have hlm : len ≤ m := by rw [hmm]; split <;> omega
    obtain ⟨g, o, sp⟩ := a
    have hrd : ∀ i, i < len → ∃ x, w.cell? ((Addr.mk g o sp).add i) = some (.int .i64 x) ∧ In64 x := by
      intro i hi'
      obtain ⟨h1, h2⟩ := hel i (by omega)
      obtain ⟨x, hx, _, wx⟩ := DataW.trod_int hi h2
      simp at hx
      exact ⟨x, by rw [h1, hx], in64_of_wf wx⟩
    refine ⟨some ⟨g, o, sp⟩, len, cap, fun i => intAt w ⟨g, o + i, none⟩, rfl, hl, hm, fun hn => ?_, fun i hi' => ?_⟩
    all_goals
      have hsp : sp = none := by
        obtain ⟨x, hx, _⟩ := hrd 0 (by omega)
        exact cell_spot hx
      subst hsp
      have had : ∀ k, (Addr.mk g o none).add k = ⟨g, o + k, none⟩ := fun k => by
        unfold Addr.add
        by_cases hk : k = 0 <;> simp [hk]
    · refine ⟨g, o, rfl, fun i hi' => ?_⟩
      obtain ⟨x, hx, _⟩ := hrd i hi'
      rw [had] at hx
      show _ = some (Value.int .i64 (intAt w ⟨g, o + i, none⟩))
      rw [hx, intAt_eq hx]
    · obtain ⟨x, hx, hw⟩ := hrd i hi'
      rw [had] at hx
      show In64 (intAt w ⟨g, o + i, none⟩)
      rw [intAt_eq hx]; exact hw
theorem open_world {w : World} {r : Reach} {b0 base : Nat} {spare : Nat → Bool} {held : Bool} {t ts ti : TypeId} {f0 f1 : Field} {v : Value} {d : DataW H} {p : List MemPlace} (hb : P.underlying t = some (.struct #[f0, f1]))
    (hts : P.underlying ts = some (.slice ti)) (hg : gFields P f0 f1 ts ti = true) (hC : P.cellsOf t = 2) (hi : P.underlying ti = some (.int .i64)) (hv : Value.okWide P w r b0 t v) (h : DataW.Trod enc P w base spare held t v d p) :
    ∃ q n c F els, v = .agg #[.slice q n c, .int .i64 els] ∧ n ≤ c ∧ c ≤ maxLen ∧ Iq w q n F ∧ (∀ i, i < n → In64 (F i)) ∧ In64 els := by
  obtain ⟨cs, rfl, hsz⟩ := okWide_struct hb hv
  obtain ⟨fuel, h⟩ := h
  obtain ⟨l⟩ := cs
  have hl : l.length = 2 := hsz.trans hC
  have h2 : DataW.trod enc P w base spare held fuel t l = some (d, p) := by simpa [Value.cells] using h
  simp only [gFields, Bool.and_eq_true, beq_iff_eq] at hg
  obtain ⟨⟨⟨o0, o1⟩, t0, t1⟩, c0, c1⟩ := hg
  obtain ⟨xs, n, _, _, _, hxl, hgg⟩ := DataW.trod_struct hb h2
  match l, hl with
  | [v0, v1], _ =>
    match xs, hxl with
    | [y0, y1], _ =>
      have k0 := hgg 0 f0 rfl
      have k1 := hgg 1 f1 rfl
      rw [o0, t0, c0] at k0
      rw [o1, t1, c1] at k1
      obtain ⟨q, n, c, F, e0, a1, a2, a3, a4⟩ := open_ints (x := y0) hts c1 hi (v := v0) k0
      obtain ⟨els, e1, _, wx⟩ := DataW.trod_int (x := y1) hi k1
      simp at e1
      subst e0 e1
      exact ⟨q, n, c, F, els, rfl, a1, a2, a3, a4, in64_of_wf wx⟩
end
end Go.Proofs.Ytckjpiioipkfcaa

/- A box that steps up: plain. No program in sight. -/
namespace Go.Proofs.Ytckjpiioipkfcaa

def unB (val : Cl → Int) (x : B6) : Bool := (cellsI x.1 (cutI (x.2.1 - 1)) x.2.2.1 x.2.2.2.1 x.2.1 x.2.2.2.2.2).any fun c => solB (val c)
def wentI (x y : B6) : Int := mxI (y.1 - x.1) (x.1 - y.1) + mxI (y.2.2.1 - x.2.2.1) (x.2.2.1 - y.2.2.1)
section
variable (val : Cl → Int) (x : B6) (dx dy dz up : Int)
def hi1 : B6 × Bool := al6 val x 1 (mnI up 65536)
def rise : Int := (hi1 val x up).1.2.1 - x.2.1
def oA : B6 × Bool := al6 val (hi1 val x up).1 0 dx
def oB : B6 × Bool := al6 val (oA val x dx up).1 2 dz
def oC : B6 × Bool := al6 val (oB val x dx dz up).1 1 (-rise val x up)
abbrev ah3 (h : Bool × Bool × Bool) : Array Value := #[.bool h.1, .bool h.2.1, .bool h.2.2]
abbrev bhT (p : B6 × Bool × Bool × Bool) : Value := .tuple #[.agg (ag6 p.1), .agg (ah3 p.2)]
/-- Does it step up? -/
def stepOf (y c : B6) (u0 u1 u2 sa sb st : Bool) (up n1 n2 : Int) : B6 × Bool × Bool × Bool :=
  if ((u0 || u2) && decide (0 < up) && st && decide (n2 < n1)) = true then (c, sa, true, sb) else (y, u0, u1, u2)
def stepV : B6 × Bool × Bool × Bool :=
  stepOf (st3 val x dx dy dz) (oC val x dx dz up).1 (hx2 val x dx dy) (hy1 val x dy) (hz3 val x dx dy dz) (oA val x dx up).2 (oB val x dx dz up).2 (unB val x) up (wentI x (oC val x dx dz up).1) (wentI x (st3 val x dx dy dz))
variable {val x dx dy dz up}
theorem stepOf_no {y c : B6} {u0 u1 u2 sa sb st : Bool} {up n1 n2 : Int} (h : (u0 = false ∧ u2 = false) ∨ up ≤ 0 ∨ st = false ∨ n1 ≤ n2) : stepOf y c u0 u1 u2 sa sb st up n1 n2 = (y, u0, u1, u2) := by
  unfold stepOf
  refine if_neg fun e => ?_
  simp only [Bool.and_eq_true, Bool.or_eq_true, decide_eq_true_eq] at e
  obtain ⟨⟨⟨e1, e2⟩, e3⟩, e4⟩ := e
  rcases h with ⟨rfl, rfl⟩ | h | rfl | h
  · simp at e1
  · omega
  · cases e3
  · omega
theorem stepOf_yes {y c : B6} {u0 u1 u2 sa sb : Bool} {up n1 n2 : Int} (h : u0 = true ∨ u2 = true) (h1 : 0 < up) (h2 : n2 < n1) : stepOf y c u0 u1 u2 sa sb true up n1 n2 = (c, sa, true, sb) := by
  unfold stepOf
  refine if_pos ?_
  simp only [Bool.and_eq_true, Bool.or_eq_true, decide_eq_true_eq]
  exact ⟨⟨⟨h, h1⟩, trivial⟩, h2⟩
theorem hi1_sm {M : Int} (h : Sm6 M x) (hM0 : 0 ≤ M) (hM : M ≤ 1000000000000) : Sm6 (M + 10000000) (hi1 val x up).1 := al6_sm h hM0 (by omega) val 1 _
theorem oA_sm {M : Int} (h : Sm6 M x) (hM0 : 0 ≤ M) (hM : M ≤ 1000000000000) : Sm6 (M + 20000000) (oA val x dx up).1 := by
  have := al6_sm (hi1_sm (val := val) (up := up) h hM0 hM) (by omega) (by omega) val 0 dx
  rwa [show M + 10000000 + 10000000 = M + 20000000 by omega] at this
theorem oB_sm {M : Int} (h : Sm6 M x) (hM0 : 0 ≤ M) (hM : M ≤ 1000000000000) : Sm6 (M + 30000000) (oB val x dx dz up).1 := by
  have := al6_sm (oA_sm (val := val) (up := up) (dx := dx) h hM0 hM) (by omega) (by omega) val 2 dz
  rwa [show M + 20000000 + 10000000 = M + 30000000 by omega] at this
theorem oC_sm {M : Int} (h : Sm6 M x) (hM0 : 0 ≤ M) (hM : M ≤ 1000000000000) : Sm6 (M + 40000000) (oC val x dx dz up).1 := by
  have := al6_sm (oB_sm (val := val) (up := up) (dx := dx) (dz := dz) h hM0 hM) (by omega) (by omega) val 1 (-rise val x up)
  rwa [show M + 30000000 + 10000000 = M + 40000000 by omega] at this
theorem st3_sm {M : Int} (h : Sm6 M x) (hM0 : 0 ≤ M) (hM : M ≤ 1000000000000) : Sm6 (M + 30000000) (st3 val x dx dy dz) := by
  have s1 := al6_sm h hM0 (by omega) val 1 dy
  have s2 := al6_sm (x := st1 val x dy) s1 (by omega) (by omega) val 0 dx
  have s3 := al6_sm (x := st2 val x dx dy) s2 (by omega) (by omega) val 2 dz
  rwa [show M + 10000000 + 10000000 + 10000000 = M + 30000000 by omega] at s3
theorem Sm6.bd {M : Int} (h : Sm6 M x) : (-M ≤ x.1 ∧ x.1 ≤ M) ∧ (-M ≤ x.2.1 ∧ x.2.1 ≤ M) ∧ (-M ≤ x.2.2.1 ∧ x.2.2.1 ≤ M) := ⟨⟨h.a1, h.a2⟩, ⟨h.b1, h.b2⟩, ⟨h.c1, h.c2⟩⟩
theorem Sm6.under {M : Int} (h : Sm6 M x) (hM0 : 0 ≤ M) (hM : M ≤ 1000000000000) : BoxOk x.1 (cutI (x.2.1 - 1)) x.2.2.1 x.2.2.2.1 x.2.1 x.2.2.2.2.2 ∧ (cellsI x.1 (cutI (x.2.1 - 1)) x.2.2.1 x.2.2.2.1 x.2.1 x.2.2.2.2.2).length ≤ 1000000 := by
  obtain ⟨h1, h2, h3, h4, h5, h6, h7, h8, h9, h10, h11, h12⟩ := h
  rw [cutI_id (by omega) (by omega)]
  exact ⟨⟨by omega, by omega, by omega, by omega, by omega, by omega, by omega, by omega, by omega⟩, cells_len (by omega) (by omega) (by omega) (by omega) (by omega) (by omega)⟩
end
end Go.Proofs.Ytckjpiioipkfcaa

/- How far a box went along two axes: the program's, the document's. -/
namespace Go.Proofs.Ytckjpiioipkfcaa
open Go.RowKit Go.Shelf
attribute [local go_sem] Oper.semAt_some

set_option maxHeartbeats 2000000 in
theorem pwent_c (x y : B6) (h : -1000000000000 ≤ x.1 ∧ x.1 ≤ 1000000000000) (h2 : -1000000000000 ≤ x.2.2.1 ∧ x.2.2.1 ≤ 1000000000000) (k : -1000000000000 ≤ y.1 ∧ y.1 ≤ 1000000000000) (k2 : -1000000000000 ≤ y.2.2.1 ∧ y.2.2.1 ≤ 1000000000000) (w : World) :
    Calls Try.prog 45 #[.agg (ag6 x), .agg (ag6 y)] w fun r w' => r = .returned (.int .i64 (wentI x y)) ∧ Below w.heap.size w w' := by
  obtain ⟨a, b, c, d, e, f⟩ := x
  obtain ⟨a', b', c', d', e', f'⟩ := y
  dsimp only at h h2 k k2
  simp only [ag6, wentI]
  have hmx := @run_mx Try.prog
  have U : Blk ((w.alloc (.cells #[.int .i64 a, .int .i64 b, .int .i64 c, .int .i64 d, .int .i64 e, .int .i64 f] 28)).alloc (.cells #[.int .i64 a', .int .i64 b', .int .i64 c', .int .i64 d', .int .i64 e', .int .i64 f'] 28)) w.heap.size 28 #[.int .i64 a, .int .i64 b, .int .i64 c, .int .i64 d, .int .i64 e, .int .i64 f] := (Blk.new' rfl).alloc _
  have D : Blk ((w.alloc (.cells #[.int .i64 a, .int .i64 b, .int .i64 c, .int .i64 d, .int .i64 e, .int .i64 f] 28)).alloc (.cells #[.int .i64 a', .int .i64 b', .int .i64 c', .int .i64 d', .int .i64 e', .int .i64 f'] 28)) (w.heap.size + 1) 28 #[.int .i64 a', .int .i64 b', .int .i64 c', .int .i64 d', .int .i64 e', .int .i64 f'] := Blk.new' (by simp)
  obtain ⟨u0, u1, u2, u3, u4, u5⟩ := U.re6
  obtain ⟨d0, d1, d2, d3, d4, d5⟩ := D.re6
  have r1 : -9223372036854775808 ≤ a' - a ∧ a' - a ≤ 9223372036854775807 := by omega
  have r2 : -9223372036854775808 ≤ c' - c ∧ c' - c ≤ 9223372036854775807 := by omega
  obtain ⟨r1, s1⟩ := r1
  obtain ⟨r2, s2⟩ := r2
  have e1 : IntKind.i64.wrap (a' - a) = a' - a := IntWalk.i64_in _ ⟨r1, s1⟩
  have e2 : IntKind.i64.wrap (c' - c) = c' - c := IntWalk.i64_in _ ⟨r2, s2⟩
  have m1 : -(a' - a) = a - a' := by omega
  have m2 : -(c' - c) = c - c' := by omega
  have b1 : -2000000000000 ≤ mxI (a' - a) (a - a') ∧ mxI (a' - a) (a - a') ≤ 2000000000000 := by unfold mxI; omega
  have b2 : -2000000000000 ≤ mxI (c' - c) (c - c') ∧ mxI (c' - c) (c - c') ≤ 2000000000000 := by unfold mxI; omega
  obtain ⟨b1, b3⟩ := b1
  obtain ⟨b2, b4⟩ := b2
  go_enter Try.func45, Try.ntmps45
  go_wp2_with fail
  refine wp_region_quiet_below (by kernel_rfl) (by kernel_rfl) ?_
  repeat (go_big_quiet_step (fail))
  refine wpQuiet_nil ?_
  intro w' hw'
  obtain ⟨rg, rfl⟩ := hw'
  clear u0 u1 u2 u3 u4 u5 d0 d1 d2 d3 d4 d5
  go_wp2_with fail
  go_returns
  refine ⟨rfl, ?_⟩
  (repeat' (first | (with_reducible exact Below.refl _ _) | (with_reducible assumption) | (with_reducible refine Below.alloc ?_ ?_ _) | (with_reducible refine Below.drew ?_) | (with_reducible refine Below.setCell ?_ ?_ _) | (with_reducible refine after ?_ (below_regrown _ _ _)) | (refine after ?_ (by with_reducible assumption)) | go_size))
set_option maxHeartbeats 2000000 in
theorem rwent_c (x y : B6) (h : -1000000000000 ≤ x.1 ∧ x.1 ≤ 1000000000000) (h2 : -1000000000000 ≤ x.2.2.1 ∧ x.2.2.1 ≤ 1000000000000) (k : -1000000000000 ≤ y.1 ∧ y.1 ≤ 1000000000000) (k2 : -1000000000000 ≤ y.2.2.1 ∧ y.2.2.1 ≤ 1000000000000) (w : World) :
    Calls Try.prog 47 #[.agg (ag6 x), .agg (ag6 y)] w fun r w' => r = .returned (.int .i64 (wentI x y)) ∧ Below w.heap.size w w' := by
  obtain ⟨a, b, c, d, e, f⟩ := x
  obtain ⟨a', b', c', d', e', f'⟩ := y
  dsimp only at h h2 k k2
  simp only [ag6, wentI]
  have hmx := @run_mx Try.prog
  have b1 : -2000000000000 ≤ mxI (a' - a) (a - a') ∧ mxI (a' - a) (a - a') ≤ 2000000000000 := by unfold mxI; omega
  have b2 : -2000000000000 ≤ mxI (c' - c) (c - c') ∧ mxI (c' - c) (c - c') ≤ 2000000000000 := by unfold mxI; omega
  have e1 : -9223372036854775808 ≤ a' - a ∧ a' - a ≤ 9223372036854775807 := by omega
  have e2 : -9223372036854775808 ≤ c' - c ∧ c' - c ≤ 9223372036854775807 := by omega
  have e3 : -9223372036854775808 ≤ a - a' ∧ a - a' ≤ 9223372036854775807 := by omega
  have e4 : -9223372036854775808 ≤ c - c' ∧ c - c' ≤ 9223372036854775807 := by omega
  obtain ⟨b1, b3⟩ := b1
  obtain ⟨b2, b4⟩ := b2
  obtain ⟨e1, f1⟩ := e1
  obtain ⟨e2, f2⟩ := e2
  obtain ⟨e3, f3⟩ := e3
  obtain ⟨e4, f4⟩ := e4
  go_enter Try.func47, Try.ntmps47
  go_wp2_with fail
  go_returns
  exact ⟨rfl, by (repeat' (first | (with_reducible exact Below.refl _ _) | (with_reducible assumption) | (with_reducible refine Below.alloc ?_ ?_ _) | (with_reducible refine Below.drew ?_) | (with_reducible refine Below.setCell ?_ ?_ _) | (with_reducible refine after ?_ (below_regrown _ _ _)) | (refine after ?_ (by with_reducible assumption)) | go_size))⟩
end Go.Proofs.Ytckjpiioipkfcaa

/- A box that moves: along the three axes. -/
namespace Go.Proofs.Ytckjpiioipkfcaa
open Go.RowKit Go.Shelf
attribute [local go_sem] Oper.semAt_some

theorem arr3_at (a b c : Int) (w : World) : (Instr.index 67 (.agg #[.int .i64 a, .int .i64 b, .int .i64 c]) (.int .i64 0)).run Try.prog w = .ok (.int .i64 a) w ∧ (Instr.index 67 (.agg #[.int .i64 a, .int .i64 b, .int .i64 c]) (.int .i64 1)).run Try.prog w = .ok (.int .i64 b) w ∧ (Instr.index 67 (.agg #[.int .i64 a, .int .i64 b, .int .i64 c]) (.int .i64 2)).run Try.prog w = .ok (.int .i64 c) w := by
  refine ⟨?_, ?_, ?_⟩ <;> simp [Instr.index, asIntOf, go_sem]
theorem sx6_far {w : World} {N g : Nat} {t : TypeId} {cs : Array Value} (V : Blk w g t cs) (h : g ≠ N) (v0 v1 v2 v3 v4 v5 : Value) : Blk ((((((w.setCell ⟨N, 0, none⟩ v0).setCell ⟨N, 1, none⟩ v1).setCell ⟨N, 2, none⟩ v2).setCell ⟨N, 3, none⟩ v3).setCell ⟨N, 4, none⟩ v4).setCell ⟨N, 5, none⟩ v5) g t cs :=
  (((((V.far (p := ⟨N, 0, none⟩) h _).far (p := ⟨N, 1, none⟩) h _).far (p := ⟨N, 2, none⟩) h _).far (p := ⟨N, 3, none⟩) h _).far (p := ⟨N, 4, none⟩) h _).far (p := ⟨N, 5, none⟩) h _
theorem sx6_below {w w0 : World} {N n : Nat} (H : Below n w0 w) (h : n ≤ N) (v0 v1 v2 v3 v4 v5 : Value) : Below n w0 ((((((w.setCell ⟨N, 0, none⟩ v0).setCell ⟨N, 1, none⟩ v1).setCell ⟨N, 2, none⟩ v2).setCell ⟨N, 3, none⟩ v3).setCell ⟨N, 4, none⟩ v4).setCell ⟨N, 5, none⟩ v5) :=
  (((((H.setCell (p := ⟨N, 0, none⟩) h _).setCell (p := ⟨N, 1, none⟩) h _).setCell (p := ⟨N, 2, none⟩) h _).setCell (p := ⟨N, 3, none⟩) h _).setCell (p := ⟨N, 4, none⟩) h _).setCell (p := ⟨N, 5, none⟩) h _
set_option maxRecDepth 100000 in
set_option maxHeartbeats 8000000 in
theorem pmove_c (V : FuncId) (lv : Array Value) (val : Cl → Int) (x : B6) (dx dy dz M : Int) (hM : M ≤ 10000000000) (hM0 : 0 ≤ M) (hB : Sm6 M x) (w : World)
    (eV : ∀ args w, (callFunc V args).run Try.prog w = .ok (.enter V args) w) (hV : Tells Try.prog V lv val w) :
    Calls Try.prog 24 #[.func (.func V) #[] lv, .agg (ag6 x), .agg #[.int .i64 dx, .int .i64 dy, .int .i64 dz]] w fun r w' => r = .returned (moveT val x dx dy dz) ∧ Below w.heap.size w w' := by
  have s1 := al6_sm hB hM0 (by omega) val 1 dy
  have s2 := al6_sm (x := st1 val x dy) s1 (by omega) (by omega) val 0 dx
  have C1 := fun W (h : Below w.heap.size w W) => palong_c V lv val x 1 dy M (by omega) hM0 hB W eV (hV.on h)
  have C2 := fun W (h : Below w.heap.size w W) => palong_c V lv val (st1 val x dy) 0 dx (M + 10000000) (by omega) (by omega) s1 W eV (hV.on h)
  have C3 := fun W (h : Below w.heap.size w W) => palong_c V lv val (st2 val x dx dy) 2 dz (M + 10000000 + 10000000) (by omega) (by omega) s2 W eV (hV.on h)
  unfold moveT
  have e3 : st3 val x dx dy dz = (al6 val (st2 val x dx dy) 2 dz).1 := rfl
  have f3 : hz3 val x dx dy dz = (al6 val (st2 val x dx dy) 2 dz).2 := rfl
  have e2 : st2 val x dx dy = (al6 val (st1 val x dy) 0 dx).1 := rfl
  have f2 : hx2 val x dx dy = (al6 val (st1 val x dy) 0 dx).2 := rfl
  have e1 : st1 val x dy = (al6 val x 1 dy).1 := rfl
  have f1 : hy1 val x dy = (al6 val x 1 dy).2 := rfl
  rw [e3, f3, f2, f1]
  generalize al6 val (st2 val x dx dy) 2 dz = p3 at C3 ⊢
  rw [e2] at C3
  generalize al6 val (st1 val x dy) 0 dx = p2 at C2 C3 ⊢
  rw [e1] at C2
  generalize al6 val x 1 dy = p1 at C1 C2 ⊢
  obtain ⟨⟨a1, b1, c1, d1, g1, h1⟩, u1⟩ := p1
  obtain ⟨⟨a2, b2, c2, d2, g2, h2⟩, u2⟩ := p2
  obtain ⟨⟨a3, b3, c3, d3, g3, h3⟩, u3⟩ := p3
  obtain ⟨a, b, c, d, e, f⟩ := x
  simp only [alT, ag6] at C1 C2 C3 ⊢
  have HC1 := Lib.hid C1
  have HC2 := Lib.hid C2
  have HC3 := Lib.hid C3
  clear C1 C2 C3 s1 s2 hM hM0 hB eV hV e1 e2 e3 f1 f2 f3
  obtain ⟨W, hW⟩ : ∃ W, W = ((((w.alloc (.cells #[.int .i64 a, .int .i64 b, .int .i64 c, .int .i64 d, .int .i64 e, .int .i64 f] 28)).alloc (.cells #[.int .i64 dx, .int .i64 dy, .int .i64 dz] 26)).alloc (.cells #[.int .i64 0, .int .i64 0, .int .i64 0, .int .i64 0, .int .i64 0, .int .i64 0] 28)).alloc (.cells #[.bool false, .bool false, .bool false] 46)).alloc (.cells #[.bool false, .bool false, .bool false] 46) := ⟨_, rfl⟩
  have H : Below w.heap.size w W := by rw [hW]; go_grown
  obtain ⟨N, hN⟩ : ∃ N, N = w.heap.size := ⟨_, rfl⟩
  have U : Blk W N 28 _ := Blk.eqw hW.symm (by rw [hN]; exact ((((Blk.new' rfl).alloc _).alloc _).alloc _).alloc _)
  have D : Blk W (N + 1) 26 _ := Blk.eqw hW.symm (by rw [hN]; exact (((Blk.new' (by simp)).alloc _).alloc _).alloc _)
  have R0 : Blk W (N + 1 + 1) 28 _ := Blk.eqw hW.symm (by rw [hN]; exact ((Blk.new' (by simp)).alloc _).alloc _)
  have R1 : Blk W (N + 1 + 1 + 1) 46 _ := Blk.eqw hW.symm (by rw [hN]; exact (Blk.new' (by simp)).alloc _)
  have T0 : Blk W (N + 1 + 1 + 1 + 1) 46 _ := Blk.eqw hW.symm (by rw [hN]; exact Blk.new' (by simp))
  have ix0 := fun w => (arr3_at 1 0 2 w).1
  have ix1 := fun w => (arr3_at 1 0 2 w).2.1
  have ix2 := fun w => (arr3_at 1 0 2 w).2.2
  go_enter Try.func24, Try.ntmps24
  go_upto_region 2 with (fail)
  rw [← hW, ← hN]
  have HN := Lib.hid hN
  clear hW hN
  go_upto_region 3 with (fail)
  go_loopw [10, 12] (fun _ kv wr => ((kv = .int .i64 0 ∧ Blk wr N 28 #[.int .i64 a, .int .i64 b, .int .i64 c, .int .i64 d, .int .i64 e, .int .i64 f] ∧ Blk wr (N + 1 + 1 + 1 + 1) 46 #[.bool false, .bool false, .bool false]) ∨ (kv = .int .i64 1 ∧ Blk wr N 28 #[.int .i64 a1, .int .i64 b1, .int .i64 c1, .int .i64 d1, .int .i64 g1, .int .i64 h1] ∧ Blk wr (N + 1 + 1 + 1 + 1) 46 #[.bool false, .bool u1, .bool false]) ∨ (kv = .int .i64 2 ∧ Blk wr N 28 #[.int .i64 a2, .int .i64 b2, .int .i64 c2, .int .i64 d2, .int .i64 g2, .int .i64 h2] ∧ Blk wr (N + 1 + 1 + 1 + 1) 46 #[.bool u2, .bool u1, .bool false]) ∨ (kv = .int .i64 3 ∧ Blk wr N 28 #[.int .i64 a3, .int .i64 b3, .int .i64 c3, .int .i64 d3, .int .i64 g3, .int .i64 h3] ∧ Blk wr (N + 1 + 1 + 1 + 1) 46 #[.bool u2, .bool u1, .bool u3])) ∧ Blk wr (N + 1) 26 #[.int .i64 dx, .int .i64 dy, .int .i64 dz] ∧ Blk wr (N + 1 + 1) 28 #[.int .i64 0, .int .i64 0, .int .i64 0, .int .i64 0, .int .i64 0, .int .i64 0] ∧ Blk wr (N + 1 + 1 + 1) 46 #[.bool false, .bool false, .bool false] ∧ Hid (Below w.heap.size w wr)) (fun _ v _ => 3 - (intOf v).toNat)
  case atStart => exact ⟨.inl ⟨rfl, U, T0⟩, D, R0, R1, H⟩
  case round =>
    clear U T0 D R0 R1 H
    obtain ⟨hd, D, R0, R1, H⟩ := hrel
    have hNw : w.heap.size ≤ N := by rw [← HN.out]; exact Nat.le_refl _
    rcases hd with ⟨rfl, U, T0⟩ | ⟨rfl, U, T0⟩ | ⟨rfl, U, T0⟩ | ⟨rfl, U, T0⟩
    · have hc := fun x y => HC1.out (Go.Sort.grow (redrawn _ x) y) (after H.out (below_regrown _ x y))
      have CC := Lib.hid hc
      clear hc
      obtain ⟨u0, uu1, uu2, uu3, uu4, uu5⟩ := U.re6
      obtain ⟨v0, v1, v2⟩ := D.re3
      go_upto_region 5 with (fail)
      refine wp_sched [1, 1, 0, 0, 0, 0, 0, 0, 0, 0, 1, 3, 3, 3] (fun _ _ _ => True) (by kernel_rfl) (by kernel_rfl) (fun _ _ _ _ h _ => h) ?_
      repeat (first | (refine wpQs_s ?_) | (refine wpQs_q (fun K hK => ?_); go_simp; first | (refine hK _ ?_; clear hK K) | (apply Exists.intro; refine ⟨fun _ => ?_, hK _ ?_⟩; (first | exact CC.out _ _ | exact axis_e _ _ _ _ _ rfl _); clear hK K)) | (refine wpQs_f (fun K hK => ?_); go_simp; refine hK _ ?_; clear hK K))
      refine wpQs_nil ?_
      repeat (first | (refine wpLs_skip ?_) | (refine wpLs_one ?lsA (fun v_ => ?_); case lsA => (intro w_ hw_ hp_; (fail))))
      refine wpLs_nilB ?_
      simp only [tails]
      intro W5 k5 _
      clear u0 uu1 uu2 uu3 uu4 uu5 v0 v1 v2
      replace U := U.on k5
      replace T0 := T0.on k5
      have t1 := T0.cell 1
      have tf := T0.frz 1
      obtain ⟨⟨r0, r1, r2, r3, r4, r5⟩, z0, z1, z2, z3, z4, z5⟩ := U.c6
      go_wp2_with fail
      go_roundw
      case rel => exact ⟨.inr (.inl ⟨rfl, (U.st6 (.int .i64 a1) (.int .i64 b1) (.int .i64 c1) (.int .i64 d1) (.int .i64 g1) (.int .i64 h1)).far (p := ⟨N + 1 + 1 + 1 + 1, 1, none⟩) (by dsimp only; omega) _, (sx6_far T0 (by omega) (.int .i64 a1) (.int .i64 b1) (.int .i64 c1) (.int .i64 d1) (.int .i64 g1) (.int .i64 h1)).set_ 1 (.bool u1)⟩), (sx6_far (D.on k5) (by omega) (.int .i64 a1) (.int .i64 b1) (.int .i64 c1) (.int .i64 d1) (.int .i64 g1) (.int .i64 h1)).far (p := ⟨N + 1 + 1 + 1 + 1, 1, none⟩) (by dsimp only; omega) _, (sx6_far (R0.on k5) (by omega) (.int .i64 a1) (.int .i64 b1) (.int .i64 c1) (.int .i64 d1) (.int .i64 g1) (.int .i64 h1)).far (p := ⟨N + 1 + 1 + 1 + 1, 1, none⟩) (by dsimp only; omega) _, (sx6_far (R1.on k5) (by omega) (.int .i64 a1) (.int .i64 b1) (.int .i64 c1) (.int .i64 d1) (.int .i64 g1) (.int .i64 h1)).far (p := ⟨N + 1 + 1 + 1 + 1, 1, none⟩) (by dsimp only; omega) _, (sx6_below (after H.out k5) hNw (.int .i64 a1) (.int .i64 b1) (.int .i64 c1) (.int .i64 d1) (.int .i64 g1) (.int .i64 h1)).setCell (p := ⟨N + 1 + 1 + 1 + 1, 1, none⟩) (by dsimp only; omega) _⟩
      case measure => simp [intOf]
    · have hc := fun x y => HC2.out (Go.Sort.grow (redrawn _ x) y) (after H.out (below_regrown _ x y))
      have CC := Lib.hid hc
      clear hc
      obtain ⟨u0, uu1, uu2, uu3, uu4, uu5⟩ := U.re6
      obtain ⟨v0, v1, v2⟩ := D.re3
      go_upto_region 5 with (fail)
      refine wp_sched [1, 1, 0, 0, 0, 0, 0, 0, 0, 0, 1, 3, 3, 3] (fun _ _ _ => True) (by kernel_rfl) (by kernel_rfl) (fun _ _ _ _ h _ => h) ?_
      repeat (first | (refine wpQs_s ?_) | (refine wpQs_q (fun K hK => ?_); go_simp; first | (refine hK _ ?_; clear hK K) | (apply Exists.intro; refine ⟨fun _ => ?_, hK _ ?_⟩; (first | exact CC.out _ _ | exact axis_e _ _ _ _ _ rfl _); clear hK K)) | (refine wpQs_f (fun K hK => ?_); go_simp; refine hK _ ?_; clear hK K))
      refine wpQs_nil ?_
      repeat (first | (refine wpLs_skip ?_) | (refine wpLs_one ?lsA (fun v_ => ?_); case lsA => (intro w_ hw_ hp_; (fail))))
      refine wpLs_nilB ?_
      simp only [tails]
      intro W5 k5 _
      clear u0 uu1 uu2 uu3 uu4 uu5 v0 v1 v2
      replace U := U.on k5
      replace T0 := T0.on k5
      have t0 := T0.cell 0
      have tf := T0.frz 0
      obtain ⟨⟨r0, r1, r2, r3, r4, r5⟩, z0, z1, z2, z3, z4, z5⟩ := U.c6
      go_wp2_with fail
      go_roundw
      case rel => exact ⟨.inr (.inr (.inl ⟨rfl, (U.st6 (.int .i64 a2) (.int .i64 b2) (.int .i64 c2) (.int .i64 d2) (.int .i64 g2) (.int .i64 h2)).far (p := ⟨N + 1 + 1 + 1 + 1, 0, none⟩) (by dsimp only; omega) _, (sx6_far T0 (by omega) (.int .i64 a2) (.int .i64 b2) (.int .i64 c2) (.int .i64 d2) (.int .i64 g2) (.int .i64 h2)).set_ 0 (.bool u2)⟩)), (sx6_far (D.on k5) (by omega) (.int .i64 a2) (.int .i64 b2) (.int .i64 c2) (.int .i64 d2) (.int .i64 g2) (.int .i64 h2)).far (p := ⟨N + 1 + 1 + 1 + 1, 0, none⟩) (by dsimp only; omega) _, (sx6_far (R0.on k5) (by omega) (.int .i64 a2) (.int .i64 b2) (.int .i64 c2) (.int .i64 d2) (.int .i64 g2) (.int .i64 h2)).far (p := ⟨N + 1 + 1 + 1 + 1, 0, none⟩) (by dsimp only; omega) _, (sx6_far (R1.on k5) (by omega) (.int .i64 a2) (.int .i64 b2) (.int .i64 c2) (.int .i64 d2) (.int .i64 g2) (.int .i64 h2)).far (p := ⟨N + 1 + 1 + 1 + 1, 0, none⟩) (by dsimp only; omega) _, (sx6_below (after H.out k5) hNw (.int .i64 a2) (.int .i64 b2) (.int .i64 c2) (.int .i64 d2) (.int .i64 g2) (.int .i64 h2)).setCell (p := ⟨N + 1 + 1 + 1 + 1, 0, none⟩) (by dsimp only; omega) _⟩
      case measure => simp [intOf]
    · have hc := fun x y => HC3.out (Go.Sort.grow (redrawn _ x) y) (after H.out (below_regrown _ x y))
      have CC := Lib.hid hc
      clear hc
      obtain ⟨u0, uu1, uu2, uu3, uu4, uu5⟩ := U.re6
      obtain ⟨v0, v1, v2⟩ := D.re3
      go_upto_region 5 with (fail)
      refine wp_sched [1, 1, 0, 0, 0, 0, 0, 0, 0, 0, 1, 3, 3, 3] (fun _ _ _ => True) (by kernel_rfl) (by kernel_rfl) (fun _ _ _ _ h _ => h) ?_
      repeat (first | (refine wpQs_s ?_) | (refine wpQs_q (fun K hK => ?_); go_simp; first | (refine hK _ ?_; clear hK K) | (apply Exists.intro; refine ⟨fun _ => ?_, hK _ ?_⟩; (first | exact CC.out _ _ | exact axis_e _ _ _ _ _ rfl _); clear hK K)) | (refine wpQs_f (fun K hK => ?_); go_simp; refine hK _ ?_; clear hK K))
      refine wpQs_nil ?_
      repeat (first | (refine wpLs_skip ?_) | (refine wpLs_one ?lsA (fun v_ => ?_); case lsA => (intro w_ hw_ hp_; (fail))))
      refine wpLs_nilB ?_
      simp only [tails]
      intro W5 k5 _
      clear u0 uu1 uu2 uu3 uu4 uu5 v0 v1 v2
      replace U := U.on k5
      replace T0 := T0.on k5
      have t2 := T0.cell 2
      have tf := T0.frz 2
      obtain ⟨⟨r0, r1, r2, r3, r4, r5⟩, z0, z1, z2, z3, z4, z5⟩ := U.c6
      go_wp2_with fail
      go_roundw
      case rel => exact ⟨.inr (.inr (.inr ⟨rfl, (U.st6 (.int .i64 a3) (.int .i64 b3) (.int .i64 c3) (.int .i64 d3) (.int .i64 g3) (.int .i64 h3)).far (p := ⟨N + 1 + 1 + 1 + 1, 2, none⟩) (by dsimp only; omega) _, (sx6_far T0 (by omega) (.int .i64 a3) (.int .i64 b3) (.int .i64 c3) (.int .i64 d3) (.int .i64 g3) (.int .i64 h3)).set_ 2 (.bool u3)⟩)), (sx6_far (D.on k5) (by omega) (.int .i64 a3) (.int .i64 b3) (.int .i64 c3) (.int .i64 d3) (.int .i64 g3) (.int .i64 h3)).far (p := ⟨N + 1 + 1 + 1 + 1, 2, none⟩) (by dsimp only; omega) _, (sx6_far (R0.on k5) (by omega) (.int .i64 a3) (.int .i64 b3) (.int .i64 c3) (.int .i64 d3) (.int .i64 g3) (.int .i64 h3)).far (p := ⟨N + 1 + 1 + 1 + 1, 2, none⟩) (by dsimp only; omega) _, (sx6_far (R1.on k5) (by omega) (.int .i64 a3) (.int .i64 b3) (.int .i64 c3) (.int .i64 d3) (.int .i64 g3) (.int .i64 h3)).far (p := ⟨N + 1 + 1 + 1 + 1, 2, none⟩) (by dsimp only; omega) _, (sx6_below (after H.out k5) hNw (.int .i64 a3) (.int .i64 b3) (.int .i64 c3) (.int .i64 d3) (.int .i64 g3) (.int .i64 h3)).setCell (p := ⟨N + 1 + 1 + 1 + 1, 2, none⟩) (by dsimp only; omega) _⟩
      case measure => simp [intOf]
    · have x0 := fun f d os => (U.sp (D := [N + 1 + 1, N + 1 + 1 + 1]) (by simp; omega) f d os).c6.1
      have y0 := fun f d os => (T0.sp (D := [N + 1 + 1, N + 1 + 1 + 1]) (by simp; omega) f d os).c3
      go_upto_region 7 with (fail)
      refine wp_two [0, 0, 2, 2] 2 (N + 1 + 1) 28 (#[.int .i64 a3, .int .i64 b3, .int .i64 c3, .int .i64 d3, .int .i64 g3, .int .i64 h3]) 3 (N + 1 + 1 + 1) 46 (#[.bool u2, .bool u1, .bool u3]) (by omega) (by kernel_rfl) (by kernel_rfl) ?_
      repeat (first | (refine wpQs_s ?_) | (refine wpQs_q (fun K hK => ?_); go_simp; first | (refine hK _ ?_; clear hK K) | (apply Exists.intro; refine ⟨fun _ => ?_, hK _ ?_⟩; (fail); clear hK K)) | (refine wpQs_f (fun K hK => ?_); go_simp; refine hK _ ?_; clear hK K))
      refine wpQs_nil ?_
      repeat (refine wpLs_skip ?_)
      refine wpLs_one ?s1 (fun _ => ?_)
      case s1 =>
        intro w_ hw_ hp_
        have L2 := hp_.blk (by simp [Ds2]) R0
        obtain ⟨⟨q0, q1, q2, q3, q4, q5⟩, f0, f1, f2, f3, f4, f5⟩ := L2.c6
        go_simp
        exact two_fst (by decide) kept6 (L2.st6 _ _ _ _ _ _)
      refine wpLs_one ?s2 (fun _ => ?_)
      case s2 =>
        intro w_ hw_ hp_
        have T2 := hp_.blk (by simp [Ds2]) R1
        obtain ⟨q0, q1, q2, f0, f1, f2⟩ := T2.c3
        go_simp
        exact two_snd (by decide) kept3 (T2.st3 _ _ _)
      refine wpLs_nilD ?_
      simp only [tails]
      rintro w1 k1 ⟨⟨-, r1⟩, r2⟩
      obtain ⟨⟨m0, m1, m2, m3, m4, m5⟩, -, -, -, -, -, -⟩ := (r1.1 rfl).c6
      obtain ⟨j0, j1, j2, -, -, -⟩ := (r2.2 rfl).c3
      clear r1 r2 x0 y0
      go_wp2_with fail
      refine bodyPost_ret (v := .tuple #[.agg #[.int .i64 a3, .int .i64 b3, .int .i64 c3, .int .i64 d3, .int .i64 g3, .int .i64 h3], .agg #[.bool u2, .bool u1, .bool u3]]) (by simp [results, Try.f24, go_sem, m0, m1, m2, m3, m4, m5, j0, j1, j2]) rfl ⟨rfl, ?_⟩
      exact H.out.trans (k1.below H.out.size (fun b hb => by simp; omega))
end Go.Proofs.Ytckjpiioipkfcaa

/- The document's: a box that moves. -/
namespace Go.Proofs.Ytckjpiioipkfcaa
open Go.RowKit Go.Shelf
attribute [local go_sem] Oper.semAt_some

set_option maxRecDepth 100000 in
set_option maxHeartbeats 8000000 in
theorem rsmove_c (q : Option Addr) (n cp : Nat) (F : Nat → Int) (els : Int) (x : B6) (dx dy dz M : Int) (hM : M ≤ 10000000000) (hM0 : 0 ≤ M) (hB : Sm6 M x) (w : World) (hq : Iq w q n F) :
    Calls Try.prog 25 #[.agg #[.slice q n cp, .int .i64 els], .agg (ag6 x), .agg #[.int .i64 dx, .int .i64 dy, .int .i64 dz]] w fun r w' => r = .returned (moveT (fun c => atG n F els c.1 c.2.1 c.2.2) x dx dy dz) ∧ Below w.heap.size w w' := by
  obtain ⟨val, hval⟩ : ∃ val : Cl → Int, val = fun c => atG n F els c.1 c.2.1 c.2.2 := ⟨_, rfl⟩
  have s1 := al6_sm hB hM0 (by omega) val 1 dy
  have s2 := al6_sm (x := st1 val x dy) s1 (by omega) (by omega) val 0 dx
  have C1 := fun W (h : Below w.heap.size w W) => ralong_c q n cp F els x 1 dy M (by omega) hM0 hB W (hq.on h)
  have C2 := fun W (h : Below w.heap.size w W) => ralong_c q n cp F els (st1 val x dy) 0 dx (M + 10000000) (by omega) (by omega) s1 W (hq.on h)
  have C3 := fun W (h : Below w.heap.size w W) => ralong_c q n cp F els (st2 val x dx dy) 2 dz (M + 10000000 + 10000000) (by omega) (by omega) s2 W (hq.on h)
  rw [← hval] at C1 C2 C3 ⊢
  unfold moveT
  have e3 : st3 val x dx dy dz = (al6 val (st2 val x dx dy) 2 dz).1 := rfl
  have f3 : hz3 val x dx dy dz = (al6 val (st2 val x dx dy) 2 dz).2 := rfl
  have e2 : st2 val x dx dy = (al6 val (st1 val x dy) 0 dx).1 := rfl
  have f2 : hx2 val x dx dy = (al6 val (st1 val x dy) 0 dx).2 := rfl
  have e1 : st1 val x dy = (al6 val x 1 dy).1 := rfl
  have f1 : hy1 val x dy = (al6 val x 1 dy).2 := rfl
  rw [e3, f3, f2, f1]
  generalize al6 val (st2 val x dx dy) 2 dz = p3 at C3 ⊢
  rw [e2] at C3
  generalize al6 val (st1 val x dy) 0 dx = p2 at C2 C3 ⊢
  rw [e1] at C2
  generalize al6 val x 1 dy = p1 at C1 C2 ⊢
  obtain ⟨⟨a1, b1, c1, d1, g1, h1⟩, u1⟩ := p1
  obtain ⟨⟨a2, b2, c2, d2, g2, h2⟩, u2⟩ := p2
  obtain ⟨⟨a3, b3, c3, d3, g3, h3⟩, u3⟩ := p3
  obtain ⟨a, b, c, d, e, f⟩ := x
  simp only [alT, ag6] at C1 C2 C3 ⊢
  have HC1 := Lib.hid C1
  have HC2 := Lib.hid C2
  have HC3 := Lib.hid C3
  clear C1 C2 C3 s1 s2 hM hM0 hB hq e1 e2 e3 f1 f2 f3 hval
  obtain ⟨W, hW⟩ : ∃ W, W = ((((w.alloc (.cells #[.slice q n cp, .int .i64 els] 24)).alloc (.cells #[.int .i64 a, .int .i64 b, .int .i64 c, .int .i64 d, .int .i64 e, .int .i64 f] 28)).alloc (.cells #[.int .i64 dx, .int .i64 dy, .int .i64 dz] 26)).alloc (.cells #[.int .i64 0, .int .i64 0, .int .i64 0, .int .i64 0, .int .i64 0, .int .i64 0] 28)).alloc (.cells #[.bool false, .bool false, .bool false] 45) := ⟨_, rfl⟩
  have H : Below w.heap.size w W := by rw [hW]; go_grown
  obtain ⟨N, hN⟩ : ∃ N, N = w.heap.size := ⟨_, rfl⟩
  have G : Blk W N 24 _ := Blk.eqw hW.symm (by rw [hN]; exact ((((Blk.new' rfl).alloc _).alloc _).alloc _).alloc _)
  have U : Blk W (N + 1) 28 _ := Blk.eqw hW.symm (by rw [hN]; exact (((Blk.new' (by simp)).alloc _).alloc _).alloc _)
  have D : Blk W (N + 1 + 1) 26 _ := Blk.eqw hW.symm (by rw [hN]; exact ((Blk.new' (by simp)).alloc _).alloc _)
  have R0 : Blk W (N + 1 + 1 + 1) 28 _ := Blk.eqw hW.symm (by rw [hN]; exact (Blk.new' (by simp)).alloc _)
  have R1 : Blk W (N + 1 + 1 + 1 + 1) 45 _ := Blk.eqw hW.symm (by rw [hN]; exact Blk.new' (by simp))
  go_enter Try.func25, Try.ntmps25
  go_upto_region 1 with (fail)
  rw [← hW, ← hN]
  have HN := Lib.hid hN
  clear hW hN
  obtain ⟨u0, uu1, uu2, uu3, uu4, uu5⟩ := U.c6.1
  obtain ⟨v0, v1, v2, -, -, -⟩ := D.c3
  have g0 := G.cell 0
  have gg1 := G.cell 1
  go_upto_region 2 with (go_at_call 41; refine (HC1.out _ H).mono ?_; rintro e_ w1 ⟨rfl, k1⟩)
  generalize hV : World.alloc w1 _ = Y1
  have hy : Below w1.heap.size w1 Y1 := by rw [← hV]; exact (Below.refl _ _).alloc (Nat.le_refl _) _
  have U1 : Blk Y1 w1.heap.size 28 #[.int .i64 a1, .int .i64 b1, .int .i64 c1, .int .i64 d1, .int .i64 g1, .int .i64 h1] := Blk.eqw hV (Blk.new' rfl)
  replace G := (G.on k1).on hy
  replace D := (D.on k1).on hy
  replace R0 := (R0.on k1).on hy
  replace R1 := (R1.on k1).on hy
  replace H := after (after H k1) hy
  clear hV hy k1 u0 uu1 uu2 uu3 uu4 uu5 v0 v1 v2 g0 gg1 U
  generalize w1.heap.size = gu1 at U1 ⊢
  have U := U1
  clear U1
  obtain ⟨u0, uu1, uu2, uu3, uu4, uu5⟩ := U.c6.1
  obtain ⟨v0, v1, v2, -, -, -⟩ := D.c3
  have g0 := G.cell 0
  have gg1 := G.cell 1
  go_upto_region 3 with (go_at_call 41; refine (HC2.out _ H).mono ?_; rintro e_ w2 ⟨rfl, k2⟩)
  generalize hV : World.alloc w2 _ = Y2
  have hy : Below w2.heap.size w2 Y2 := by rw [← hV]; exact (Below.refl _ _).alloc (Nat.le_refl _) _
  have U2 : Blk Y2 w2.heap.size 28 #[.int .i64 a2, .int .i64 b2, .int .i64 c2, .int .i64 d2, .int .i64 g2, .int .i64 h2] := Blk.eqw hV (Blk.new' rfl)
  replace G := (G.on k2).on hy
  replace D := (D.on k2).on hy
  replace R0 := (R0.on k2).on hy
  replace R1 := (R1.on k2).on hy
  replace H := after (after H k2) hy
  clear hV hy k2 u0 uu1 uu2 uu3 uu4 uu5 v0 v1 v2 g0 gg1 U
  generalize w2.heap.size = gu2 at U2 ⊢
  have U := U2
  clear U2
  obtain ⟨u0, uu1, uu2, uu3, uu4, uu5⟩ := U.c6.1
  obtain ⟨v0, v1, v2, -, -, -⟩ := D.c3
  have g0 := G.cell 0
  have gg1 := G.cell 1
  go_upto_region 4 with (go_at_call 41; refine (HC3.out _ H).mono ?_; rintro e_ w3 ⟨rfl, k3⟩)
  generalize hV : World.alloc w3 _ = Y3
  have hy : Below w3.heap.size w3 Y3 := by rw [← hV]; exact (Below.refl _ _).alloc (Nat.le_refl _) _
  have U3 : Blk Y3 w3.heap.size 28 #[.int .i64 a3, .int .i64 b3, .int .i64 c3, .int .i64 d3, .int .i64 g3, .int .i64 h3] := Blk.eqw hV (Blk.new' rfl)
  replace G := (G.on k3).on hy
  replace D := (D.on k3).on hy
  replace R0 := (R0.on k3).on hy
  replace R1 := (R1.on k3).on hy
  replace H := after (after H k3) hy
  clear hV hy k3 u0 uu1 uu2 uu3 uu4 uu5 v0 v1 v2 g0 gg1 U
  generalize w3.heap.size = gu3 at U3 ⊢
  have U := U3
  clear U3
  obtain ⟨u0, uu1, uu2, uu3, uu4, uu5⟩ := U.c6.1
  obtain ⟨⟨r0, r1, r2, r3, r4, r5⟩, z0, z1, z2, z3, z4, z5⟩ := R0.c6
  obtain ⟨t0, t1, t2, tf0, tf1, tf2⟩ := R1.c3
  go_wp2_with fail
  have hNw : w.heap.size ≤ N := by rw [← HN.out]; exact Nat.le_refl _
  have X0 := ((((R0.st6 (.int .i64 a3) (.int .i64 b3) (.int .i64 c3) (.int .i64 d3) (.int .i64 g3) (.int .i64 h3)).far (p := ⟨N + 1 + 1 + 1 + 1, 0, none⟩) (by dsimp only; omega) (.bool u2)).far (p := ⟨N + 1 + 1 + 1 + 1, 1, none⟩) (by dsimp only; omega) (.bool u1)).far (p := ⟨N + 1 + 1 + 1 + 1, 2, none⟩) (by dsimp only; omega) (.bool u3))
  have X1 := (sx6_far R1 (show N + 1 + 1 + 1 + 1 ≠ N + 1 + 1 + 1 by omega) (.int .i64 a3) (.int .i64 b3) (.int .i64 c3) (.int .i64 d3) (.int .i64 g3) (.int .i64 h3)).st3 (.bool u2) (.bool u1) (.bool u3)
  obtain ⟨⟨m0, m1, m2, m3, m4, m5⟩, -, -, -, -, -, -⟩ := X0.c6
  obtain ⟨j0, j1, j2, -, -, -⟩ := X1.c3
  refine bodyPost_ret (v := .tuple #[.agg #[.int .i64 a3, .int .i64 b3, .int .i64 c3, .int .i64 d3, .int .i64 g3, .int .i64 h3], .agg #[.bool u2, .bool u1, .bool u3]]) (by simp [results, Try.f25, go_sem, m0, m1, m2, m3, m4, m5, j0, j1, j2]) rfl ⟨rfl, ?_⟩
  exact (((sx6_below H (by omega) _ _ _ _ _ _).setCell (p := ⟨N + 1 + 1 + 1 + 1, 0, none⟩) (by dsimp only; omega) _).setCell (p := ⟨N + 1 + 1 + 1 + 1, 1, none⟩) (by dsimp only; omega) _).setCell (p := ⟨N + 1 + 1 + 1 + 1, 2, none⟩) (by dsimp only; omega) _
end Go.Proofs.Ytckjpiioipkfcaa
