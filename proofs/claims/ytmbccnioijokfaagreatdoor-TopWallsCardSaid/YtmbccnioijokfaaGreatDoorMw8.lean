/- Texts that build one behind the other, laid together: TbO TbU TbS TbS2 TbL TbL2 WdT WdT2 WdT3 HereT IdxP WdR NewT QueP QueA QueF QueH FlowT Flow2 SimT LinN. -/
import Derived.Test.YtmbccnioijokfaaGreatDoorMw7
import Derived.Test.YtmbccnioijokfaaGreatDoorMw1
import Derived.Test.YtmbccnioijokfaaGreatDoorMw5
import Derived.Test.YtmbccnioijokfaaGreatDoorMw2
import Derived.Test.YtmbccnioijokfaaGreatDoorMw4
import Derived.Test.YtmbccnioijokfaaGreatDoorMw3
import Derived.WideKeyArgs
import Derived.DeepKeys4
import Derived.MapViews
import Derived.Maps.OwnSet
import Derived.Lib.SliceRun
import Derived.Great.BuildSlice
import Derived.Laws.RangeString
import Derived.Laws.RangeAny
namespace Go.Proofs.YtmbccnioijokfaaGreatDoor
open Go.RowKit
attribute [local go_sem] Oper.semAt_some
theorem CutA.lowA {B C g0 : Nat} {xs : List Nat} {v : Value} {w : World} (h : CutA C g0 xs v w) (hb : B ≤ C) : CutA B g0 xs v w := by
  obtain ⟨q, c, h1, h2⟩ := h
  exact ⟨q, c, h1, h2.imp_left fun h => h.lowB hb⟩
theorem rd_keep {w w' : World} {q : Option Addr} {size : Nat} {α : Type} {enc : α → List Value} {xs : List α} {K : Nat → Prop} (h : Rd w q size enc xs) (hk : Kept K w w') (hK : ∀ a, q = some a → K a.block) : Rd w' q size enc xs := fun hn => by
  obtain ⟨g, o, hq, h1⟩ := h hn
  refine ⟨g, o, hq, fun i x hx j u hu => ?_⟩
  have h2 := h1 i x hx j u hu
  rw [World.cell?_of_block (hk.block g (cell_lt h2) (hK _ hq))]
  exact h2
theorem sumAt_append {P : Program} {D : List Nat} {o : Oper} {a : Act} {R : Rel} {w : World} (s x : Operand) (t tn : TypeId) (ho : o.op = .call { callee := .builtin .append, args := #[s, x], argTypes := #[t, tn] }) (vs vx : Value) (hs : a.eval s = vs) (hx : a.eval x = vx)
    (v' : Value) (w' : World) (hr : (Builtin.append_ #[t, tn] o.type #[vs, vx]).run P w = .ok v' w') (hk : Kept (fun b => b ∉ D) w w') (hR : R v' w') : sumAt P D o a R w := by
  have e : (execOp a.eval o).run P w = .ok (.value v') w' := by simp [execOp, ho, resolve, invoke, builtin, hs, hx, hr, Result.andThen]
  unfold sumAt
  rw [e]
  exact ⟨hk, hR⟩
def OutR (t s a g : Nat) (se li : Int) (xs : List Nat) (w : World) (r : Ending) (w' : World) : Prop := r = .returned (.pointer (some ⟨a, 0, none⟩)) ∧ Kept (fun b => b ≠ t) w w' ∧ ∃ q c, Blk w' t 135 #[.pointer (some ⟨s, 0, none⟩), .int .i64 se, .int .i64 li, .slice q xs.length c] ∧ CutA w.heap.size g xs (.slice q xs.length c) w'
set_option maxRecDepth 100000 in
set_option maxHeartbeats 4000000 in
theorem tout_c (t s g n c a : Nat) (se li : Int) (xs : List Nat) (w : World) (hB : Blk w t 135 #[.pointer (some ⟨s, 0, none⟩), .int .i64 se, .int .i64 li, .slice (some ⟨g, 0, none⟩) xs.length c]) (hx : Rd w (some ⟨g, 0, none⟩) 1 encA xs) (hc : xs.length ≤ c) (hcm : c ≤ maxLen) (hm : xs.length ≤ 1000) (hn : xs[n]? = some a) (hgt : g ≠ t) :
    Calls Tryz.prog 86 #[.pointer (some ⟨t, 0, none⟩), .int .i64 n] w fun r w' => OutR t s a g se li (xs.eraseIdx n) w r w' := by
  have hnl : n < xs.length := (List.getElem?_eq_some_iff.1 hn).1
  have hel : (xs.eraseIdx n).length = xs.length - 1 := by rw [List.length_eraseIdx, if_pos hnl]
  unfold maxLen at hcm
  have r0 : w.cell? ⟨g, n, none⟩ = some (.pointer (some ⟨a, 0, none⟩)) := by have := hx.at hn (j := 0) rfl; simpa using this
  have HRUN := Lib.hid fun W (h : Below w.heap.size w W) => run_cut hnl (hx.on h) hc hm
  have hn0 : (0 : Int) ≤ n := by omega
  have hn1 : (n : Int) < (xs.length : Int) := by omega
  have hn2 : -9223372036854775808 ≤ (n : Int) + 1 ∧ (n : Int) + 1 ≤ 9223372036854775807 := by omega
  have hn3 : (n : Int) + 1 ≤ (c : Int) := by omega
  have hn4 : (n : Int) + 1 ≤ (xs.length : Int) := by omega
  have hw : IntKind.i64.wrap ((n : Int) + 1) = (n : Int) + 1 := IntWalk.i64_in _ (by omega)
  have hn5 : n ≤ c := by omega
  have hn8 : (0 : Int) ≤ (n : Int) + 1 := by omega
  have hn6 : n + 1 ≤ c := by omega
  have hn7 : n + 1 ≤ xs.length := by omega
  have t3 := fun d os => (hB.re d os).cell 3
  have HB := Lib.hid hB
  have HGT := Lib.hid hgt
  have HEL := Lib.hid hel
  clear hn hx hB hel hgt
  go_enter Tryz.func86, Tryz.ntmps86
  have t3' := HB.out.cell 3
  go_upto_region 2 with (fail)
  clear t3'
  by_cases hcn : c = n + 1
  · subst hcn
    have hxl : xs.length = n + 1 := by omega
    have HXL := Lib.hid hxl
    have ha1 : (n : Int) ≤ (n : Int) + 1 := by omega
    have ha2 : (n : Int) + 1 ≤ (n : Int) + 1 := by omega
    clear hxl
    refine wp_sched [0, 0, 0, 0, 0, 0, 0, 0, 0, 0, 0, 0, 0, 0, 0, 2, 1, 1, 3] (fun _ v w' => CutA w.heap.size g (xs.eraseIdx n) v w') (by kernel_rfl) (by kernel_rfl) (fun _ _ _ _ h k => h.on k) ?_
    repeat (first | (refine wpQs_s ?_) | (refine wpQs_q (fun K hK => ?_); go_simp; first | (refine hK _ ?_; clear hK K) | (apply Exists.intro; refine ⟨fun _ => ?_, hK _ ?_⟩; (fail); clear hK K)) | (refine wpQs_f (fun K hK => ?_); go_simp; refine hK _ ?_; clear hK K))
    refine wpQs_nil ?_
    repeat (first | (refine wpLs_skip ?_) | (refine wpLs_one ?lsA (fun v_ => ?_); case lsA => (intro w_ hw_ hp_; (obtain ⟨v9, w9, hr9, hC9, hb9⟩ := HRUN.out w_ (msd_kept hw_).none; rw [Nat.sub_self, if_pos rfl, show xs.length - (n + 1) = 0 by have := HXL.out; omega] at hr9; exact sumAt_append _ _ _ _ rfl _ _ rfl rfl v9 w9 hr9 ((Kept.of_below hb9).mono fun _ _ => trivial) (hC9.lowA (msd_kept hw_).none.size)))))
    refine wpLs_nilB ?_
    simp only [tails]
    rintro W3 h3 ⟨-, q, c2, rfl, hC⟩
    have hB3 := HB.out.on h3
    have f3 := hB3.frz 3
    have k3 := hB3.cell 3
    have HB3 := Lib.hid hB3
    have HC := Lib.hid hC
    have H3 := Lib.hid h3
    clear hB3 hC h3 t3 r0 HRUN
    go_wp2_with fail
    go_returns
    refine ⟨rfl, ((Kept.of_below H3.out).mono fun _ _ => trivial).setCell (p := ⟨t, 3, none⟩) (by simp) _, q, c2, HB3.out.set_ 3 _, q, c2, rfl, ?_⟩
    rcases HC.out with h | ⟨h1, h2, h4⟩
    · refine .inl (h.keep (K := fun b => b ≠ t) ((Kept.refl _ _).setCell (p := ⟨t, 3, none⟩) (by simp) _) fun b hb e => ?_)
      obtain ⟨-, cur, h5⟩ := own_at h hb
      subst e
      exact absurd (one_type h5 HB3.out) (by decide)
    · exact .inr ⟨h1, h2, rd_keep h4 (K := fun b => b ≠ t) ((Kept.refl _ _).setCell (p := ⟨t, 3, none⟩) (by simp) _) (fun a ha => by rw [h2] at ha; obtain rfl := Option.some.inj ha; exact HGT.out)⟩
  · have tok_ := trivial
    clear tok_
    refine wp_sched [0, 0, 0, 0, 0, 0, 0, 0, 0, 0, 0, 0, 0, 0, 0, 2, 1, 1, 3] (fun _ v w' => CutA w.heap.size g (xs.eraseIdx n) v w') (by kernel_rfl) (by kernel_rfl) (fun _ _ _ _ h k => h.on k) ?_
    repeat (first | (refine wpQs_s ?_) | (refine wpQs_q (fun K hK => ?_); go_simp; first | (refine hK _ ?_; clear hK K) | (apply Exists.intro; refine ⟨fun _ => ?_, hK _ ?_⟩; (fail); clear hK K)) | (refine wpQs_f (fun K hK => ?_); go_simp; refine hK _ ?_; clear hK K))
    refine wpQs_nil ?_
    repeat (first | (refine wpLs_skip ?_) | (refine wpLs_one ?lsA (fun v_ => ?_); case lsA => (intro w_ hw_ hp_; (obtain ⟨v9, w9, hr9, hC9, hb9⟩ := HRUN.out w_ (msd_kept hw_).none; rw [if_neg (by omega)] at hr9; exact sumAt_append _ _ _ _ rfl _ _ rfl rfl v9 w9 hr9 ((Kept.of_below hb9).mono fun _ _ => trivial) (hC9.lowA (msd_kept hw_).none.size)))))
    refine wpLs_nilB ?_
    simp only [tails]
    rintro W3 h3 ⟨-, q, c2, rfl, hC⟩
    have hB3 := HB.out.on h3
    have f3 := hB3.frz 3
    have k3 := hB3.cell 3
    have HB3 := Lib.hid hB3
    have HC := Lib.hid hC
    have H3 := Lib.hid h3
    clear hB3 hC h3 t3 r0 HRUN
    go_wp2_with fail
    go_returns
    refine ⟨rfl, ((Kept.of_below H3.out).mono fun _ _ => trivial).setCell (p := ⟨t, 3, none⟩) (by simp) _, q, c2, HB3.out.set_ 3 _, q, c2, rfl, ?_⟩
    rcases HC.out with h | ⟨h1, h2, h4⟩
    · refine .inl (h.keep (K := fun b => b ≠ t) ((Kept.refl _ _).setCell (p := ⟨t, 3, none⟩) (by simp) _) fun b hb e => ?_)
      obtain ⟨-, cur, h5⟩ := own_at h hb
      subst e
      exact absurd (one_type h5 HB3.out) (by decide)
    · exact .inr ⟨h1, h2, rd_keep h4 (K := fun b => b ≠ t) ((Kept.refl _ _).setCell (p := ⟨t, 3, none⟩) (by simp) _) (fun a ha => by rw [h2] at ha; obtain rfl := Option.some.inj ha; exact HGT.out)⟩
end Go.Proofs.YtmbccnioijokfaaGreatDoor

namespace Go.Proofs.YtmbccnioijokfaaGreatDoor
open Go.RowKit
attribute [local go_sem] Oper.semAt_some
theorem push_cut {B0 g0 b a : Nat} {xs : List Nat} {v : Value} {W : World} (h : CutA B0 g0 xs v W) (hx : W.cell? ⟨b, 0, none⟩ = some (.pointer (some ⟨a, 0, none⟩))) (hb : B0 ≤ W.heap.size) (hm : xs.length ≤ 1000) :
    ∃ q c w', (Builtin.append_ #[133, 133] 133 #[v, .slice (some ⟨b, 0, none⟩) 1 1]).run Tryz.prog W = .ok (.slice q (xs.length + 1) c) w' ∧ Owns w' B0 128 1 encA (.slice q (xs.length + 1) c) (xs ++ [a]) ∧ Below B0 W w' := by
  have one : ∀ x : Nat, ∀ u ∈ encA x, u.oneCell' = true := fun x u hu => by simp at hu; rw [hu]; rfl
  have hcell : ∀ j u, (encA a)[j]? = some u → W.cell? ⟨b, j, none⟩ = some u := fun j u hu => by
    cases j with
    | zero => rw [hx]; simpa using hu
    | succ j => cases hu
  obtain ⟨q, c, rfl, h | ⟨rfl, h1, h2⟩⟩ := h
  · obtain ⟨v', w', h3, h4, -, h6, g, cp, rfl⟩ := run_push (P := Tryz.prog) (w := W) (base := B0) (e := 128) (size := 1) (enc := encA) (v := .slice q xs.length c) (xs := xs) (ts := 133) (ty := 133) (z := .pointer none) (bytes := 8) (b := b) (x := a) Tryz.underlying133 infP rfl (by decide) (by decide) rfl (one a) h hcell (by omega) hb
    exact ⟨_, cp, w', h3, h4, h6⟩
  · have hy : Rd W (some ⟨b, 0, none⟩) 1 encA [a] := fun _ => ⟨b, 0, rfl, fun i x hx' j u hu => by
      cases i with
      | zero =>
        obtain rfl : a = x := by simpa using hx'
        have := hcell j u hu
        simpa using this
      | succ i => cases hx'⟩
    obtain ⟨cap, w', h3, h4, h5⟩ := run_fresh (P := Tryz.prog) (w := W) (e := 128) (size := 1) (enc := encA) (xs := xs) (ys := [a]) (q := q) (q2 := some ⟨b, 0, none⟩) (c := xs.length) (c2 := 1) (ts := 133) (ty := 133) (z := .pointer none) (bytes := 8) Tryz.underlying133 infP rfl (by decide) lenA (fun x _ => one x) (fun x _ => one x) h2 hy (by simp) (by simp; omega)
    exact ⟨_, cap, w', h3, h4.lowB hb, h5.mono hb⟩
theorem erase_map {α β : Type} (f : α → β) : ∀ (l : List α) (n : Nat), (l.map f).eraseIdx n = (l.eraseIdx n).map f
  | [], _ => rfl
  | _ :: _, 0 => rfl
  | x :: l, n + 1 => by rw [List.map_cons, List.eraseIdx_cons_succ, List.eraseIdx_cons_succ, List.map_cons, erase_map f l n]
theorem perm_touch {α : Type} {l : List α} {n : Nat} {x : α} (h : l[n]? = some x) : (l.eraseIdx n ++ [x]).Perm l := by
  induction l generalizing n with
  | nil => cases h
  | cons y l ih =>
    cases n with
    | zero =>
      obtain rfl : y = x := by simpa using h
      exact List.perm_append_comm
    | succ n => exact (ih (by simpa using h)).cons y
theorem TbAt.relay {w w' : World} {t s d : Nat} {v v' : Value} {L L' : List (Nat × TI)} {Ms Mi : Nat → Prop} {T T' : TS} (h : TbAt w t s d v L Ms Mi T) (hk : Kept (fun b => b ≠ t) w w') (hB : Blk w' t 135 #[.pointer (some ⟨s, 0, none⟩), .int .i64 T'.seed, .int .i64 T'.lim, v']) (row : Owns w' 0 128 1 encA v' (L'.map (·.1)))
    (hp : L.Perm L') (hl : L'.map (·.2) = T'.l) (hd : T'.d = T.d) : TbAt w' t s d v' L' Ms Mi T' := by
  have no : ∀ b, b = s ∨ Ms b ∨ Mi b → b ≠ t := fun b hb e => by
    subst e
    rcases hb with rfl | hb | hb
    · exact absurd (one_type h.st.blk h.blk) (by decide)
    · rcases (h.st.disk.mine hb).2.2 _ _ h.blk with h | h <;> revert h <;> decide
    · obtain ⟨t', cur, h1, h2⟩ := its_type h.its hb
      have h3 := one_type h1 h.blk
      subst h3
      rcases h2 with h | h | h <;> revert h <;> decide
  have u8 : ∀ b cs, Blk w b 5 cs → b ≠ t := fun b cs hB' e => by
    subst e
    exact absurd (one_type hB' h.blk) (by decide)
  refine ⟨hB, ?_, row, its_perm hp Mi ((itsA_fit L).kept h.its hk (fun b hb => no b (.inr (.inr hb))) u8), hl⟩
  rw [hd]
  exact ⟨hk.blk (no s (.inl rfl)) h.st.blk, h.st.disk.kept hk (fun b hb => no b (.inr (.inl hb))) (fun b hb => by
    rcases hb with hb | ⟨cur, hb⟩
    · omega
    · exact u8 b cur hb), Nat.zero_le _⟩
def TouchR (t s d a : Nat) (L : List (Nat × TI)) (Ms Mi : Nat → Prop) (T : TS) (w : World) (r : Ending) (w' : World) : Prop := r = .returned (.pointer (some ⟨a, 0, none⟩)) ∧ ∃ v, TbAt w' t s d v L Ms Mi T ∧ Kept (fun b => b ≠ t) w w' ∧ ∀ b, v.ownBlock = some b → w.heap.size ≤ b
set_option maxRecDepth 100000 in
set_option maxHeartbeats 4000000 in
theorem ttouch_c (t s d n a : Nat) (i : TI) (v : Value) (L : List (Nat × TI)) (Ms Mi : Nat → Prop) (T : TS) (w : World) (h : TbAt w t s d v L Ms Mi T) (hm : L.length ≤ 1000) (hn : L[n]? = some (a, i)) :
    Calls Tryz.prog 80 #[.pointer (some ⟨t, 0, none⟩), .int .i64 n] w fun r w' => TouchR t s d a (L.eraseIdx n ++ [(a, i)]) Ms Mi { T with l := T.l.eraseIdx n ++ [i] } w r w' := by
  have hnl : n < L.length := (List.getElem?_eq_some_iff.1 hn).1
  have hll : (L.map (·.1)).length = L.length := List.length_map _
  obtain ⟨q, c, hv, hc1, hc2, hrd, hq1, hq2⟩ := h.row.form lenA
  obtain ⟨g, rfl⟩ := hq2 (by omega)
  have hB := h.blk
  rw [hv] at hB
  have hgt : g ≠ t := fun e => by
    have := own_at h.row (b := g) (by rw [hv]; rfl)
    obtain ⟨-, cur, h5⟩ := this
    subst e
    exact absurd (one_type h5 h.blk) (by decide)
  have HO := Lib.hid (tout_c t s g n c a T.seed T.lim (L.map (·.1)) w hB hrd hc1 hc2 (by omega) (by rw [List.getElem?_map, hn]; rfl) hgt)
  have hel : ((L.map (·.1)).eraseIdx n).length ≤ 1000 := by rw [List.length_eraseIdx]; split <;> omega
  have hxs : (L.map (·.1)).eraseIdx n = (L.eraseIdx n).map (·.1) := erase_map _ _ _
  rw [hxs] at HO hel
  have HT := Lib.hid h
  have HN := Lib.hid hn
  have HF : Hid (∀ (w2 : World) (q : Option Addr) (c : Nat), Kept (fun b => b ≠ t) w w2 → Owns w2 w.heap.size 128 1 encA (.slice q (((L.eraseIdx n).map (·.1)).length + 1) c) ((L.eraseIdx n).map (·.1) ++ [a]) → Blk w2 t 135 #[.pointer (some ⟨s, 0, none⟩), .int .i64 T.seed, .int .i64 T.lim, .slice q (((L.eraseIdx n).map (·.1)).length + 1) c] → TouchR t s d a (L.eraseIdx n ++ [(a, i)]) Ms Mi { T with l := T.l.eraseIdx n ++ [i] } w (.returned (.pointer (some ⟨a, 0, none⟩))) w2) := Lib.hid fun w2 q c hk ho hb => by
    refine ⟨rfl, _, HT.out.relay hk hb ?_ (perm_touch HN.out).symm ?_ rfl, hk, fun b hb' => (own_at ho hb').1⟩
    · rw [List.map_append]; exact ho.lowB (Nat.zero_le _)
    · rw [List.map_append, ← erase_map, HT.out.l]; rfl
  have HTL := Lib.hid h.blk.lt
  clear h hv hB hrd hq1 hq2 hgt hxs hc1 hc2 hll hn
  generalize (L.eraseIdx n).map (·.1) = xs at *
  go_enter Tryz.func80, Tryz.ntmps80
  go_upto_region 2 with (go_at_call 86; refine HO.out.mono ?_; rintro e_ w1 ⟨rfl, k1, q1, c1, b1, r1⟩; have K1 := Lib.hid k1; have B1 := Lib.hid b1; have R1 := Lib.hid r1; clear k1 b1 r1)
  have t3 := B1.out.cell 3
  obtain ⟨W, hW⟩ : ∃ W, W = w1.alloc (.cells #[.pointer (some ⟨a, 0, none⟩)] 128) := ⟨_, rfl⟩
  have hw1 : Below w1.heap.size w1 W := by rw [hW]; exact (Below.refl _ _).alloc (Nat.le_refl _) _
  have X : Blk W w1.heap.size 128 #[.pointer (some ⟨a, 0, none⟩)] := by rw [hW]; exact Blk.new' rfl
  obtain ⟨q2, c2, w2, hrun, ho, hb2⟩ := push_cut (R1.out.on hw1) (X.cell 0) (Nat.le_trans K1.out.size hw1.size) hel
  have hB2 := ((B1.out.on hw1).below hb2 HTL.out)
  have f3 := hB2.frz 3
  have k3 := hB2.cell 3
  rw [hW] at hrun
  have hk2 : Kept (fun b => b ≠ t) w w2 := ⟨hb2.os.trans (hw1.os.trans K1.out.os), hb2.tape.trans (hw1.tape.trans K1.out.tape), hb2.output.trans (hw1.output.trans K1.out.output), Nat.le_trans K1.out.size (Nat.le_trans hw1.size hb2.size), fun b hb hK => (hb2.block b hb).trans ((hw1.block b (Nat.lt_of_lt_of_le hb K1.out.size)).trans (K1.out.block b hb hK))⟩
  have HG := Lib.hid (HF.out (w2.setCell ⟨t, 3, none⟩ (.slice q2 (xs.length + 1) c2)) q2 c2 (hk2.setCell (by simp) _) (ho.keep (K := fun b => b ≠ t) ((Kept.refl _ _).setCell (by simp) _) (fun b hb e => by
    obtain ⟨-, cur, h5⟩ := own_at ho hb
    subst e
    exact absurd (one_type h5 hB2) (by decide))) (hB2.set_ 3 _))
  clear hw1 X ho hb2 hB2 hk2 hW
  go_wp2_with (at_builtin; refine Lib.wpList_append_run _ rfl _ _ _ _ rfl _ _ rfl rfl _ _ hrun ?_)
  go_returns
  exact HG.out
end Go.Proofs.YtmbccnioijokfaaGreatDoor

namespace Go.Proofs.YtmbccnioijokfaaGreatDoor
open Go.RowKit
attribute [local go_sem] Oper.semAt_some
section
variable {w w' : World} {t s d a : Nat} {v : Value} {R : List (Nat × TI)} {Ms Mi M : Nat → Prop} {T : TS} {i : TI}
theorem TbAt.item (h : TbAt w t s d v (R ++ [(a, i)]) Ms Mi T) : ∃ A, ItA a i w A ∧ (∀ b, A b → Mi b) ∧ ∀ (i' : TI) (w' : World), Aft (ItA a i') w A w' →
    ∃ Mi', TbAt w' t s d v (R ++ [(a, i')]) Ms Mi' { T with l := R.map (·.2) ++ [i'] } ∧ ∀ b, Mi' b → Mi b ∨ w.heap.size ≤ b := by
  have hp : (R ++ [(a, i)]).Perm ((a, i) :: R) := List.perm_append_comm
  obtain ⟨A, B, h1, h2, hd, hM⟩ : ItsA ((a, i) :: R) w Mi := its_perm hp Mi h.its
  refine ⟨A, h1, fun b hb => (hM b).2 (.inl hb), fun i' w' k => ?_⟩
  have hk := k.kept
  have no : ∀ b, b = t ∨ b = s ∨ Ms b ∨ v.ownBlock = some b → ¬ A b := fun b hb hA => by
    obtain ⟨t', cur, h3, h4⟩ := h1.type hA
    rcases hb with rfl | rfl | hb | hb
    · obtain rfl := one_type h3 h.blk
      rcases h4 with h | h | h <;> revert h <;> decide
    · obtain rfl := one_type h3 h.st.blk
      rcases h4 with h | h | h <;> revert h <;> decide
    · rcases (h.st.disk.mine hb).2.2 _ _ h3 with rfl | rfl <;> rcases h4 with h | h | h <;> revert h <;> decide
    · obtain ⟨-, cur', h5⟩ := own_at h.row hb
      obtain rfl := one_type h3 h5
      rcases h4 with h | h | h <;> revert h <;> decide
  obtain ⟨Mi', k1, k2, k3⟩ := both_left (M := Mi) (itA_fit a i) (itsA_fit R) h1 h2 hd hM k
  refine ⟨Mi', ⟨hk.blk (no t (.inl rfl)) h.blk, ⟨hk.blk (no s (.inr (.inl rfl))) h.st.blk, h.st.disk.kept hk (fun b hb => no b (.inr (.inr (.inl hb)))) (fun b hb => by
    rcases hb with hb | ⟨cur, hb⟩
    · omega
    · exact fun hA => (itA_fit a i).nob h1 b hA cur hb), Nat.zero_le _⟩, ?_, its_perm (List.perm_append_comm (l₁ := [(a, i')])) Mi' k1, by rw [List.map_append]; rfl⟩, k2⟩
  have hrow := h.row.keep hk fun b hb => no b (.inr (.inr (.inr hb)))
  rw [List.map_append] at hrow ⊢
  exact hrow
theorem ItA.turn {w3 w4 w5 : World} {c : Nat} {Mc : Nat → Prop} {cs' : List Int} {d' : Bool} (hB : Blk w3 a 142 #[.pointer (some ⟨c, 0, none⟩), .bool i.dirty, .int .i64 i.pins]) (hC : ChA c i.x i.z i.cs w3 Mc) (hM : ∀ b, M b ↔ b = a ∨ Mc b) (h4 : w4 = w3.setCell ⟨a, 1, none⟩ (.bool d')) (k : Aft (ChA c i.x i.z cs') w4 Mc w5) :
    Aft (ItA a { i with cs := cs', dirty := d' }) w3 M w5 := by
  have hna : ¬ Mc a := fun h => by
    obtain ⟨t', cur, h1, h2⟩ := hC.type h
    obtain rfl := one_type h1 hB
    rcases h2 with h | h <;> revert h <;> decide
  have hB4 : Blk w4 a 142 #[.pointer (some ⟨c, 0, none⟩), .bool d', .int .i64 i.pins] := by rw [h4]; exact hB.set_ 1 _
  have hB5 := k.blk hna hB4
  have hs : w4.heap.size = w3.heap.size := by rw [h4]; simp [World.setCell]
  obtain ⟨Mc', k1, k2, k3⟩ := k
  refine ⟨fun b => b = a ∨ Mc' b, ⟨c, Mc', hB5, k1, fun _ => Iff.rfl⟩, fun b hb => ?_, ?_⟩
  · rcases hb with rfl | hb
    · exact .inl ((hM _).2 (.inl rfl))
    · rw [hs] at k2
      exact (k2 b hb).imp_left fun h => (hM b).2 (.inr h)
  · have h5 : Kept (fun b => ¬ M b) w3 w4 := by rw [h4]; exact (Kept.refl _ _).setCell (fun h => h ((hM _).2 (.inl rfl))) _
    exact h5.trans (k3.mono fun b hb h => hb ((hM b).2 (.inr h)))
end
end Go.Proofs.YtmbccnioijokfaaGreatDoor

namespace Go.Proofs.YtmbccnioijokfaaGreatDoor
open Go.RowKit
attribute [local go_sem] Oper.semAt_some
theorem or_dirty (d : Bool) (x : Int) (b : Int) : (d = true → (d || (x != b)) = true) ∧ (d = false → (d || (x != b)) = (x != b)) := by cases d <;> simp
set_option maxRecDepth 100000 in
set_option maxHeartbeats 8000000 in
theorem tset_c (t n : Nat) (T : TS) (i : TI) (x y z b : Int) (w : World) (M : Nat → Prop) (h : TbA t T w M) (hx : In64 x) (hz : In64 z) (hn : T.l.length ≤ 1000) (hf : T.find (chkOf x z) = n) (hi : T.l[n]? = some i) (hp : i.is (chkOf x z) = true) (hy : inY y = true) (hb : mayK b = true) :
    Calls Tryz.prog 249 #[.pointer (some ⟨t, 0, none⟩), .agg #[.int .i64 x, .int .i64 y, .int .i64 z], .int .i64 b] w fun r w' => r = .returned (.int .i64 0) ∧ Aft (TbA t { T with l := T.l.eraseIdx n ++ [i.set x y z b] }) w M w' := by
  obtain ⟨s, d, v, L, Ms, Mi, h, hM⟩ := h
  obtain ⟨W, hW⟩ : ∃ W, W = w.alloc (.cells #[.int .i64 x, .int .i64 y, .int .i64 z] 43) := ⟨_, rfl⟩
  have H : Below w.heap.size w W := by rw [hW]; exact (Below.refl _ _).alloc (Nat.le_refl _) _
  have C : Blk W w.heap.size 43 #[.int .i64 x, .int .i64 y, .int .i64 z] := by rw [hW]; exact Blk.new' rfl
  have h1 := h.on H
  have hll : L.length = T.l.length := by rw [← h.l, List.length_map]
  obtain ⟨a, hLn⟩ : ∃ a, L[n]? = some (a, i) := by
    rw [← h.l, List.getElem?_map] at hi
    cases hp' : L[n]? with
    | none => rw [hp'] at hi; cases hi
    | some pr =>
      rw [hp'] at hi
      obtain rfl : pr.2 = i := by simpa using hi
      exact ⟨pr.1, rfl⟩
  have hii : i.x = x / 16 ∧ i.z = z / 16 := posB_iff.1 hp
  have HC := Lib.hid (cchunk_c x y z hx hz W)
  have HF := Lib.hid fun W2 (h2 : Below W.heap.size W W2) => tfind_c t s d v L Ms Mi T (x / 16) (z / 16) W2 (h1.on h2) hn
  rw [show T.find (x / 16, z / 16) = (n : Int) from hf] at HF
  have HI := Lib.hid fun W2 => cindex_c x y z hx hz W2
  rw [idxT_yes hy] at HI
  have HMY := Lib.hid fun W2 => bmayk_c b W2
  rw [hb] at HMY
  have HTT := Lib.hid fun W2 (h2 : Below W.heap.size W W2) => ttouch_c t s d n a i v L Ms Mi T W2 (h1.on h2) (by omega) hLn
  have HX := Lib.hid (And.intro hx (And.intro hz (And.intro hy (And.intro hb hii))))
  have HCC := Lib.hid C
  have HH := Lib.hid H
  have HM := Lib.hid hM
  have HT0 := Lib.hid h
  obtain ⟨c0, c1, c2, -, -, -⟩ := C.c3
  have hn0 : (0 : Int) ≤ n := by omega
  have HLT := Lib.hid (show (L.eraseIdx n).map (·.2) = T.l.eraseIdx n by rw [← erase_map, h.l])
  clear h hx hz hn hf hi hp hy hb H C h1 hll hLn hii hM
  go_enter Tryz.func249, Tryz.ntmps249
  go_upto_region 1 with (fail)
  rw [← hW]
  clear hW
  go_upto_region 2 with first
    | (go_at_call 108; refine HC.out.mono ?_; rintro e_ w1 ⟨rfl, g1⟩; have G1 := Lib.hid g1; have HF2 := Lib.hid (HF.out w1 g1); clear g1)
    | (go_at_call 79; refine HF2.out.mono ?_; rintro e_ w2 ⟨rfl, g2⟩; have G2 := Lib.hid (after G1.out g2); clear g2)
  clear c0 c1 c2
  obtain ⟨c0, c1, c2, -, -, -⟩ := (HCC.out.on G2.out).c3
  have HI2 := Lib.hid (HI.out w2)
  clear HF HC HF2 G1
  go_upto_region 7 with (go_at_call 208; refine HI2.out.mono ?_; rintro e_ w3 ⟨rfl, g3⟩; have G3 := Lib.hid (after G2.out g3); clear g3)
  clear c0 c1 c2
  have HM2 := Lib.hid (HMY.out w3)
  clear HI HI2
  go_upto_region 9 with (go_at_call 142; refine HM2.out.mono ?_; rintro e_ w4 ⟨rfl, g4⟩; have G4 := Lib.hid (after G3.out g4); clear g4)
  have HT4 := Lib.hid (HTT.out w4 G4.out)
  clear HMY HM2 HTT
  go_upto_region 10 with (go_at_call 80; refine HT4.out.mono ?_; rintro e_ w5 ⟨rfl, v5, t5, k5, o5⟩; have T5 := Lib.hid t5; have K5 := Lib.hid k5; have O5 := Lib.hid o5; clear t5 k5 o5)
  obtain ⟨Ai, hIt, hAi, hre⟩ := T5.out.item
  obtain ⟨c, Mc, hIB, hCh, hMA⟩ := hIt
  have i0 := fun d os => (hIB.re d os).cell 0
  have hCB := K5.out.blk (show w.heap.size ≠ t by have := HT0.out.blk.lt; omega) (HCC.out.on G4.out)
  obtain ⟨c0, c1, c2⟩ := hCB.re3
  have HCA := Lib.hid fun d os => chat_c c x y z i.x i.z i.cs (Go.Sort.grow (redrawn w5 d) os) Mc ((chA_fit _ _ _ _).on hCh (below_regrown _ _ _)) HX.out.1 HX.out.2.1 HX.out.2.2.2.2.1.symm HX.out.2.2.2.2.2.symm
  rw [atT_yes HX.out.2.2.1] at HCA
  have HIB := Lib.hid hIB
  have HCH := Lib.hid hCh
  have HCB := Lib.hid hCB
  have HRE := Lib.hid (And.intro hMA (And.intro hAi hre))
  clear hIB hCh hCB hMA hAi hre
  refine wp_region_quiet_below (by kernel_rfl) (by kernel_rfl) ?_
  repeat (go_big_quiet_step (exact Calls.regrown_of (HCA.out _ _)))
  refine wpQuiet_nil ?_
  intro w' hw'
  obtain ⟨rg, rfl⟩ := hw'
  obtain ⟨W6, hW6⟩ : ∃ W6, W6 = Go.Sort.grow (redrawn w5 rg.d) rg.os := ⟨_, rfl⟩
  have h6 : Below w5.heap.size w5 W6 := by rw [hW6]; exact below_regrown _ _ _
  rw [← hW6]
  have HB6 := Lib.hid (HIB.out.on h6)
  have H6 := Lib.hid h6
  clear hW6 i0 c0 c1 c2 h6 HCA
  obtain ⟨i0, i1, i2, if0, if1, if2⟩ := HB6.out.c3
  have hor := or_dirty i.dirty (chB i.cs x y z) b
  have HOR := Lib.hid hor
  have fin : ∀ (d' : Bool) (w7 : World), w7 = W6.setCell ⟨a, 1, none⟩ (.bool d') → d' = (i.dirty || (chB i.cs x y z != b)) → ∀ w9, Aft (ChA c i.x i.z (i.cs.set (idxI x y z).toNat b)) w7 Mc w9 → Aft (TbA t { T with l := T.l.eraseIdx n ++ [i.set x y z b] }) w M w9 := fun d' w7 h7 hd w9 k => by
    obtain ⟨r1, r2, r3⟩ := HRE.out
    have k1 := ItA.turn HB6.out ((chA_fit c i.x i.z i.cs).on HCH.out H6.out) r1 h7 k
    rw [hd] at k1
    have k2 : Aft (ItA a (i.set x y z b)) w5 Ai w9 := Aft.ahead H6.out k1
    obtain ⟨Mi', t9, m9⟩ := r3 _ w9 k2
    rw [HLT.out] at t9
    have k4 := K5.out
    have k9 := k2.kept
    have g4 : Below w.heap.size w w4 := after HH.out G4.out
    refine ⟨TbM t s v5 Ms Mi', ⟨s, d, v5, _, Ms, Mi', t9, fun _ => Iff.rfl⟩, fun b' hb' => ?_, ?_⟩
    · rcases hb' with rfl | rfl | hb' | hb' | hb'
      · exact .inl ((HM.out _).2 (.inl rfl))
      · exact .inl ((HM.out _).2 (.inr (.inl rfl)))
      · exact .inl ((HM.out _).2 (.inr (.inr (.inl hb'))))
      · exact .inr (Nat.le_trans g4.size (O5.out _ hb'))
      · rcases m9 b' hb' with h | h
        · exact .inl ((HM.out _).2 (.inr (.inr (.inr (.inr h)))))
        · exact .inr (Nat.le_trans g4.size (Nat.le_trans k4.size h))
    · refine ⟨k9.os.trans (k4.os.trans g4.os), k9.tape.trans (k4.tape.trans g4.tape), k9.output.trans (k4.output.trans g4.output), Nat.le_trans g4.size (Nat.le_trans k4.size k9.size), fun b' hb' hn' => ?_⟩
      have e1 := g4.block b' hb'
      have e2 := k4.block b' (Nat.lt_of_lt_of_le hb' g4.size) (fun e => hn' ((HM.out _).2 (.inl e)))
      have e3 := k9.block b' (Nat.lt_of_lt_of_le hb' (Nat.le_trans g4.size k4.size)) (fun e => hn' ((HM.out _).2 (.inr (.inr (.inr (.inr (r2 _ e)))))))
      exact e3.trans (e2.trans e1)
  have FIN := Lib.hid fin
  clear hor fin
  have HST := Lib.hid fun (w7 : World) (hc : ChA c i.x i.z i.cs w7 Mc) => chset_c c x y z i.x i.z b i.cs w7 Mc hc HX.out.1 HX.out.2.1 HX.out.2.2.2.2.1.symm HX.out.2.2.2.2.2.symm HX.out.2.2.1 HX.out.2.2.2.1
  have key : ∀ (d' : Bool) (w7 : World), w7 = W6.setCell ⟨a, 1, none⟩ (.bool d') → ChA c i.x i.z i.cs w7 Mc ∧ Blk w7 w.heap.size 43 #[.int .i64 x, .int .i64 y, .int .i64 z] ∧ Blk w7 a 142 #[.pointer (some ⟨c, 0, none⟩), .bool d', .int .i64 i.pins] := fun d' w7 h7 => by
    have hk7 : Kept (fun b => b ≠ a) W6 w7 := by rw [h7]; exact (Kept.refl _ _).setCell (by simp) _
    refine ⟨(chA_fit c i.x i.z i.cs).kept ((chA_fit c i.x i.z i.cs).on HCH.out H6.out) hk7 (fun b' hb' e => ?_) (fun b' cs' hb' e => ?_), hk7.blk (fun e => ?_) (HCB.out.on H6.out), by rw [h7]; exact HB6.out.set_ 1 _⟩
    · subst e
      obtain ⟨t', cur, h1, h2⟩ := HCH.out.type hb'
      obtain rfl := one_type h1 HIB.out
      rcases h2 with h | h <;> revert h <;> decide
    · subst e
      exact absurd (one_type hb' HB6.out) (by decide)
    · rw [e] at HCB
      exact absurd (one_type HCB.out HIB.out) (by decide)
  have KEY := Lib.hid key
  clear key
  generalize hcb : chB i.cs x y z = cb at *
  clear hcb
  cases hd : i.dirty
  · rw [hd] at i1
    have HD := Lib.hid hd
    cases hne : (cb != b)
    · have HNE := Lib.hid hne
      go_upto_region 12 with (fail)
      obtain ⟨w7, hw7⟩ : ∃ w7, w7 = W6.setCell ⟨a, 1, none⟩ (.bool false) := ⟨_, rfl⟩
      rw [← hw7]
      obtain ⟨hc7, hb7, hi7⟩ := KEY.out false w7 hw7
      have j0 := fun d os => (hi7.re d os).cell 0
      obtain ⟨e0, e1, e2⟩ := hb7.re3
      have HC7 := Lib.hid hc7
      have F7 := Lib.hid (FIN.out false w7 hw7 (by rw [HD.out]; simp [HNE.out]))
      clear hw7 hc7 hb7 hi7 i0 i1 i2 if0 if1 if2
      refine wp_sched [0, 0, 0, 0, 0, 0, 3, 3] (fun _ _ _ => True) (by kernel_rfl) (by kernel_rfl) (fun _ _ _ _ h _ => h) ?_
      repeat (first | (refine wpQs_s ?_) | (refine wpQs_q (fun K hK => ?_); go_simp; first | (refine hK _ ?_; clear hK K) | (apply Exists.intro; refine ⟨fun _ => ?_, hK _ ?_⟩; (fail); clear hK K)) | (refine wpQs_f (fun K hK => ?_); go_simp; refine hK _ ?_; clear hK K))
      refine wpQs_nil ?_
      repeat (first | (refine wpLs_skip ?_) | (refine wpLs_one ?lsA (fun v_ => ?_); case lsA => (intro w_ hw_ hp_; (fail))))
      refine wpLs_nilB ?_
      simp only [tails]
      intro W8 h8 _
      have HS8 := Lib.hid (HST.out W8 ((chA_fit _ _ _ _).on HC7.out h8))
      have H8 := Lib.hid h8
      clear h8 j0 e0 e1 e2
      go_wp2_with (go_at_call 305; refine HS8.out.mono ?_; rintro e_ w9 ⟨rfl, k9⟩; have K9 := Lib.hid k9; clear k9)
      go_returns
      exact ⟨rfl, F7.out w9 (Aft.ahead H8.out K9.out)⟩
    · have HNE := Lib.hid hne
      go_upto_region 12 with (fail)
      obtain ⟨w7, hw7⟩ : ∃ w7, w7 = W6.setCell ⟨a, 1, none⟩ (.bool true) := ⟨_, rfl⟩
      rw [← hw7]
      obtain ⟨hc7, hb7, hi7⟩ := KEY.out true w7 hw7
      have j0 := fun d os => (hi7.re d os).cell 0
      obtain ⟨e0, e1, e2⟩ := hb7.re3
      have HC7 := Lib.hid hc7
      have F7 := Lib.hid (FIN.out true w7 hw7 (by rw [HD.out]; simp [HNE.out]))
      clear hw7 hc7 hb7 hi7 i0 i1 i2 if0 if1 if2
      refine wp_sched [0, 0, 0, 0, 0, 0, 3, 3] (fun _ _ _ => True) (by kernel_rfl) (by kernel_rfl) (fun _ _ _ _ h _ => h) ?_
      repeat (first | (refine wpQs_s ?_) | (refine wpQs_q (fun K hK => ?_); go_simp; first | (refine hK _ ?_; clear hK K) | (apply Exists.intro; refine ⟨fun _ => ?_, hK _ ?_⟩; (fail); clear hK K)) | (refine wpQs_f (fun K hK => ?_); go_simp; refine hK _ ?_; clear hK K))
      refine wpQs_nil ?_
      repeat (first | (refine wpLs_skip ?_) | (refine wpLs_one ?lsA (fun v_ => ?_); case lsA => (intro w_ hw_ hp_; (fail))))
      refine wpLs_nilB ?_
      simp only [tails]
      intro W8 h8 _
      have HS8 := Lib.hid (HST.out W8 ((chA_fit _ _ _ _).on HC7.out h8))
      have H8 := Lib.hid h8
      clear h8 j0 e0 e1 e2
      go_wp2_with (go_at_call 305; refine HS8.out.mono ?_; rintro e_ w9 ⟨rfl, k9⟩; have K9 := Lib.hid k9; clear k9)
      go_returns
      exact ⟨rfl, F7.out w9 (Aft.ahead H8.out K9.out)⟩
  · rw [hd] at i1
    have HD := Lib.hid hd
    go_upto_region 12 with (fail)
    obtain ⟨w7, hw7⟩ : ∃ w7, w7 = W6.setCell ⟨a, 1, none⟩ (.bool true) := ⟨_, rfl⟩
    rw [← hw7]
    obtain ⟨hc7, hb7, hi7⟩ := KEY.out true w7 hw7
    have j0 := fun d os => (hi7.re d os).cell 0
    obtain ⟨e0, e1, e2⟩ := hb7.re3
    have HC7 := Lib.hid hc7
    have F7 := Lib.hid (FIN.out true w7 hw7 (by rw [HD.out]; simp ))
    clear hw7 hc7 hb7 hi7 i0 i1 i2 if0 if1 if2
    refine wp_sched [0, 0, 0, 0, 0, 0, 3, 3] (fun _ _ _ => True) (by kernel_rfl) (by kernel_rfl) (fun _ _ _ _ h _ => h) ?_
    repeat (first | (refine wpQs_s ?_) | (refine wpQs_q (fun K hK => ?_); go_simp; first | (refine hK _ ?_; clear hK K) | (apply Exists.intro; refine ⟨fun _ => ?_, hK _ ?_⟩; (fail); clear hK K)) | (refine wpQs_f (fun K hK => ?_); go_simp; refine hK _ ?_; clear hK K))
    refine wpQs_nil ?_
    repeat (first | (refine wpLs_skip ?_) | (refine wpLs_one ?lsA (fun v_ => ?_); case lsA => (intro w_ hw_ hp_; (fail))))
    refine wpLs_nilB ?_
    simp only [tails]
    intro W8 h8 _
    have HS8 := Lib.hid (HST.out W8 ((chA_fit _ _ _ _).on HC7.out h8))
    have H8 := Lib.hid h8
    clear h8 j0 e0 e1 e2
    go_wp2_with (go_at_call 305; refine HS8.out.mono ?_; rintro e_ w9 ⟨rfl, k9⟩; have K9 := Lib.hid k9; clear k9)
    go_returns
    exact ⟨rfl, F7.out w9 (Aft.ahead H8.out K9.out)⟩
end Go.Proofs.YtmbccnioijokfaaGreatDoor

namespace Go.Proofs.YtmbccnioijokfaaGreatDoor
open Go.RowKit
attribute [local go_sem] Oper.semAt_some
structure Bare (S : DS) : Prop where
  safe : S.safe = []
  l : S.l = []
  room : 0 ≤ S.room ∧ S.room ≤ 1048576
  waits : S.waits = 0
  fails : S.fails = 0
theorem Bare.ok {S : DS} (h : Bare S) : DOk S 1000 1000000 where
  rise := by rw [h.safe]; exact List.Pairwise.nil
  keys := by rw [h.safe, h.l]; intro p hp; cases hp
  many := by rw [h.safe, h.l]; decide
  size := by rw [h.safe, h.l]; intro p hp; cases hp
  room := h.room
  waits := .inl h.waits
  fails := by rw [h.fails]; decide
theorem Bare.load {S : DS} (h : Bare S) (id : Int) (hm : mayId id = true) : loadV S id = ([], 0, false) := by
  have hg : ∀ k, S.get k = none := fun k => by
    unfold DS.get DS.now
    rw [h.safe, h.l]
    rfl
  have hr : ∀ k, recAt S k = (0, [], 3) := fun k => by
    unfold recAt
    rw [hg]
    exact read_short (by decide)
  unfold loadV
  rw [if_pos hm]
  unfold ofV
  rw [hr, hr, if_neg (by decide), if_neg (by decide)]
  rfl
def idI (x z : Int) : Int := (x + 524288) * 2 * 524288 + z + 524288 + 1
theorem idI_may {x z : Int} (hx : -524288 ≤ x ∧ x < 524288) (hz : -524288 ≤ z ∧ z < 524288) : mayId (idI x z) = true := by
  unfold mayId idI
  simp
  omega
set_option maxRecDepth 100000 in
set_option maxHeartbeats 1000000 in
theorem tid_c (x z : Int) (hx : -524288 ≤ x ∧ x < 524288) (hz : -524288 ≤ z ∧ z < 524288) (w : World) : Calls Tryz.prog 78 #[.agg #[.int .i64 x, .int .i64 z]] w fun r w' => r = .returned (.tuple #[.int .i64 (idI x z), .bool true]) ∧ Below w.heap.size w w' := by
  have U : Blk (w.alloc (.cells #[.int .i64 x, .int .i64 z] 123)) w.heap.size 123 #[.int .i64 x, .int .i64 z] := Blk.new' rfl
  obtain ⟨u0, u1, -, -⟩ := U.pair
  obtain ⟨x1, x2⟩ := hx
  obtain ⟨z1, z2⟩ := hz
  unfold idI
  go_enter Tryz.func78, Tryz.ntmps78
  go_wp2_with fail
  go_returns
  exact ⟨rfl, (Below.refl _ _).alloc (Nat.le_refl _) _⟩
set_option maxRecDepth 100000 in
set_option maxHeartbeats 1000000 in
theorem troom_c (t s d : Nat) (v : Value) (L : List (Nat × TI)) (Ms Mi : Nat → Prop) (T : TS) (w : World) (h : TbAt w t s d v L Ms Mi T) (hl : (T.l.length : Int) < T.lim) :
    Calls Tryz.prog 81 #[.pointer (some ⟨t, 0, none⟩)] w fun r w' => r = .returned (.int .i64 0) ∧ Below w.heap.size w w' := by
  obtain ⟨q, c, hv, -⟩ := h.row.form lenA
  have hB := h.blk
  rw [hv, List.length_map, show L.length = T.l.length by rw [← h.l, List.length_map]] at hB
  have t2 := fun d os => (hB.re d os).cell 2
  have t3 := fun d os => (hB.re d os).cell 3
  clear hB hv h
  go_enter Tryz.func81, Tryz.ntmps81
  go_upto_region 1 with (fail)
  refine wp_region_quiet_below (by kernel_rfl) (by kernel_rfl) ?_
  repeat (go_big_quiet_step (fail))
  refine wpQuiet_nil ?_
  intro w' hw'
  obtain ⟨rg, rfl⟩ := hw'
  go_wp2_with fail
  go_returns
  exact ⟨rfl, below_regrown w _ _⟩
def NewOf (x z : Int) (cs : List Int) (B0 : Nat) (v : Value) (w : World) : Prop := ∃ c M, v = .pointer (some ⟨c, 0, none⟩) ∧ ChA c x z cs w M ∧ ∀ b, M b → B0 ≤ b
theorem NewOf.on {x z : Int} {cs : List Int} {B0 : Nat} {v : Value} {w w' : World} (h : NewOf x z cs B0 v w) (hb : Below w.heap.size w w') : NewOf x z cs B0 v w' := by
  obtain ⟨c, M, h1, h2, h3⟩ := h
  exact ⟨c, M, h1, (chA_fit _ _ _ _).on h2 hb, h3⟩
def newI (seed x z : Int) : TI := ⟨x, z, genL seed x z, false, 0⟩
theorem TbAt.more {w w' : World} {t s d a c : Nat} {v v' : Value} {L : List (Nat × TI)} {Ms Mi Mc M : Nat → Prop} {T : TS} {it : TI} (h : TbAt w t s d v L Ms Mi T) (hM : ∀ b, M b ↔ TbM t s v Ms Mi b) (hk : Kept (fun b => b ≠ t ∧ v.ownBlock ≠ some b) w w')
    (hB : Blk w' t 135 #[.pointer (some ⟨s, 0, none⟩), .int .i64 T.seed, .int .i64 T.lim, v']) (row : Owns w' 0 128 1 encA v' (L.map (·.1) ++ [a])) (hrow : ∀ b, v'.ownBlock = some b → v.ownBlock = some b ∨ w.heap.size ≤ b)
    (hI : Blk w' a 142 #[.pointer (some ⟨c, 0, none⟩), .bool it.dirty, .int .i64 it.pins]) (hC : ChA c it.x it.z it.cs w' Mc) (ha : w.heap.size ≤ a) (hMc : ∀ b, Mc b → w.heap.size ≤ b) :
    Aft (TbA t { T with l := T.l ++ [it] }) w M w' := by
  have own : ∀ b, v.ownBlock = some b → ∃ cur, Blk w b 128 cur := fun b hb => (own_at h.row hb).2
  have no : ∀ b, b = s ∨ Ms b ∨ Mi b → b ≠ t ∧ v.ownBlock ≠ some b := fun b hb => by
    have key : ∀ t' cur, Blk w b t' cur → t' = 135 ∨ t' = 128 → False := fun t' cur hB' ht => by
      rcases hb with rfl | hb | hb
      · have h3 := one_type h.st.blk hB'
        rcases ht with e | e <;> rw [e] at h3 <;> revert h3 <;> decide
      · rcases (h.st.disk.mine hb).2.2 _ _ hB' with h3 | h3 <;> rcases ht with e | e <;> rw [e] at h3 <;> revert h3 <;> decide
      · obtain ⟨t2, cur2, h1, h2⟩ := its_type h.its hb
        have h3 := one_type h1 hB'
        subst h3
        rcases ht with e | e <;> rw [e] at h2 <;> rcases h2 with h | h | h <;> revert h <;> decide
    refine ⟨fun e => ?_, fun e => ?_⟩
    · subst e
      exact key _ _ h.blk (.inl rfl)
    · obtain ⟨cur, h5⟩ := own b e
      exact key _ _ h5 (.inr rfl)
  have u8 : ∀ b cs, Blk w b 5 cs → b ≠ t ∧ v.ownBlock ≠ some b := fun b cs hB' => by
    refine ⟨fun e => ?_, fun e => ?_⟩
    · subst e
      exact absurd (one_type hB' h.blk) (by decide)
    · obtain ⟨cur, h5⟩ := own b e
      exact absurd (one_type hB' h5) (by decide)
  have hIt : ItA a it w' (fun b => b = a ∨ Mc b) := ⟨c, Mc, hI, hC, fun _ => Iff.rfl⟩
  have hold := (itsA_fit L).kept h.its hk (fun b hb => no b (.inr (.inr hb))) u8
  have hits : ItsA (L ++ [(a, it)]) w' (fun b => (b = a ∨ Mc b) ∨ Mi b) := its_perm (List.perm_append_comm (l₁ := [(a, it)])) _ ⟨fun b => b = a ∨ Mc b, Mi, hIt, hold, fun b hb hb2 => by
    have h1 := (itsA_fit L).lt h.its b hb2
    rcases hb with rfl | hb
    · omega
    · have := hMc b hb; omega, fun _ => Iff.rfl⟩
  refine ⟨TbM t s v' Ms (fun b => (b = a ∨ Mc b) ∨ Mi b), ⟨s, d, v', L ++ [(a, it)], Ms, _, ⟨hB, ⟨hk.blk (no s (.inl rfl)) h.st.blk, h.st.disk.kept hk (fun b hb => no b (.inr (.inl hb))) (fun b hb => by
    rcases hb with hb | ⟨cur, hb⟩
    · omega
    · exact u8 b cur hb), Nat.zero_le _⟩, by rw [List.map_append]; exact row, hits, by rw [List.map_append, h.l]; rfl⟩, fun _ => Iff.rfl⟩, fun b hb => ?_, hk.mono fun b hb => ⟨fun e => hb ((hM b).2 (.inl e)), fun e => hb ((hM b).2 (.inr (.inr (.inr (.inl e)))))⟩⟩
  rcases hb with rfl | rfl | hb | hb | ((rfl | hb) | hb)
  · exact .inl ((hM _).2 (.inl rfl))
  · exact .inl ((hM _).2 (.inr (.inl rfl)))
  · exact .inl ((hM _).2 (.inr (.inr (.inl hb))))
  · exact (hrow b hb).imp_left fun h => (hM b).2 (.inr (.inr (.inr (.inl h))))
  · exact .inr ha
  · exact .inr (hMc b hb)
  · exact .inl ((hM b).2 (.inr (.inr (.inr (.inr hb)))))
end Go.Proofs.YtmbccnioijokfaaGreatDoor

namespace Go.Proofs.YtmbccnioijokfaaGreatDoor
open Go.RowKit
attribute [local go_sem] Oper.semAt_some
set_option maxRecDepth 100000 in
set_option maxHeartbeats 8000000 in
theorem tload_c (t : Nat) (T : TS) (px pz : Int) (w : World) (M : Nat → Prop) (h : TbA t T w M) (hx : -524288 ≤ px ∧ px < 524288) (hz : -524288 ≤ pz ∧ pz < 524288) (hn : T.l.length ≤ 1000) (hlim : (T.l.length : Int) < T.lim) (hf : T.find (px, pz) = -1) (hd : Bare T.d) :
    Calls Tryz.prog 42 #[.pointer (some ⟨t, 0, none⟩), .agg #[.int .i64 px, .int .i64 pz]] w fun r w' => r = .returned (.int .i64 0) ∧ Aft (TbA t { T with l := T.l ++ [newI T.seed px pz] }) w M w' := by
  obtain ⟨s, d, v, L, Ms, Mi, h, hM⟩ := h
  obtain ⟨W, hW⟩ : ∃ W, W = w.alloc (.cells #[.int .i64 px, .int .i64 pz] 123) := ⟨_, rfl⟩
  have H : Below w.heap.size w W := by rw [hW]; exact (Below.refl _ _).alloc (Nat.le_refl _) _
  have X : Blk W w.heap.size 123 #[.int .i64 px, .int .i64 pz] := by rw [hW]; exact Blk.new' rfl
  have h1 := h.on H
  have HI := Lib.hid (tid_c px pz hx hz W)
  have HF := Lib.hid fun W2 (h2 : Below W.heap.size W W2) => tfind_c t s d v L Ms Mi T px pz W2 (h1.on h2) hn
  rw [hf] at HF
  have HR := Lib.hid fun W2 (h2 : Below W.heap.size W W2) => troom_c t s d v L Ms Mi T W2 (h1.on h2) hlim
  have HL := Lib.hid fun W2 (h2 : Below W.heap.size W W2) => sload_c 0 s d Ms T.d 1000 W2 (h1.on h2).st hd.ok (by decide) (idI px pz) (Nat.zero_le _)
  rw [hd.load _ (idI_may hx hz)] at HL
  have HMK := Lib.hid fun W2 => chmake_c T.seed px pz (by omega) (by omega) W2
  have HX := Lib.hid X
  have HH := Lib.hid H
  have HT := Lib.hid h1
  have HT0 := Lib.hid h
  have HM := Lib.hid hM
  have HN := Lib.hid hn
  obtain ⟨p0, p1, -, -⟩ := X.pair
  clear h X H h1 hd hf hlim hn hM hx hz
  generalize idI px pz = id at *
  go_enter Tryz.func42, Tryz.ntmps42
  go_upto_region 1 with (fail)
  rw [← hW]
  clear hW
  go_upto_region 4 with (go_at_call 78; refine HI.out.mono ?_; rintro e_ w1 ⟨rfl, g1⟩; have G1 := Lib.hid g1; clear g1)
  clear p0 p1
  obtain ⟨p0, p1, -, -⟩ := (HX.out.on G1.out).pair
  have HF1 := Lib.hid (HF.out w1 G1.out)
  clear HF HI
  go_upto_region 8 with (go_at_call 79; refine HF1.out.mono ?_; rintro e_ w2 ⟨rfl, g2⟩; have G2 := Lib.hid (after G1.out g2); clear g2)
  have HR2 := Lib.hid (HR.out w2 G2.out)
  clear HR HF1 p0 p1
  go_upto_region 11 with (go_at_call 81; refine HR2.out.mono ?_; rintro e_ w3 ⟨rfl, g3⟩; have G3 := Lib.hid (after G2.out g3); clear g3)
  have HL3 := Lib.hid (HL.out w3 G3.out)
  have t0 := (HT.out.on G3.out).blk.cell 0
  clear HR2 HL
  go_upto_region 12 with (go_at_call 82; refine HL3.out.mono ?_; rintro e_ w4 ⟨⟨q4, n4, c4⟩, rfl, s4, r4, g4⟩; have G4 := Lib.hid (after G3.out g4); have hl4 := s4.len; rw [r4] at hl4; have hn4 : n4 = 0 := (by simpa using hl4.symm); subst hn4; simp only [slV]; clear s4 r4 g4 hl4)
  clear HL3 t0
  obtain ⟨p0, p1, -, -⟩ := (HX.out.on G4.out).pair
  have HRD := Lib.hid (chread0_c px pz q4 c4 w4)
  go_upto_region 14 with (go_at_call 83; refine HRD.out.mono ?_; rintro e_ w5 ⟨rfl, g5⟩; have G5 := Lib.hid (after G4.out g5); clear g5)
  clear p0 p1 HRD
  obtain ⟨p0, p1⟩ := (HX.out.on G5.out).rep
  have t1 := fun d os => (((HT.out.on G5.out).blk).re d os).cell 1
  refine wp_sched [0, 0, 0, 0, 0, 2, 3] (fun _ v w' => NewOf px pz (genL T.seed px pz) w.heap.size v w') (by kernel_rfl) (by kernel_rfl) (fun _ _ _ _ h k => h.on k) ?_
  repeat (first | (refine wpQs_s ?_) | (refine wpQs_q (fun K hK => ?_); go_simp; first | (refine hK _ ?_; clear hK K) | (apply Exists.intro; refine ⟨fun _ => ?_, hK _ ?_⟩; (fail); clear hK K)) | (refine wpQs_f (fun K hK => ?_); go_simp; refine hK _ ?_; clear hK K))
  refine wpQs_nil ?_
  repeat (first | (refine wpLs_skip ?_) | (refine wpLs_one ?lsA (fun v_ => ?_); case lsA => (intro w_ hw_ hp_; (go_simp; refine (HMK.out _).mono ?_; rintro e_ w9 ⟨c, Mc, rfl, h1, h2, h3⟩; exact ⟨_, rfl, Kept.of_below h3, c, Mc, rfl, h1, fun b hb => Nat.le_trans (Nat.le_trans (after HH.out G5.out).size (msd_kept hw_).size) (h2 b hb)⟩))))
  refine wpLs_nilB ?_
  simp only [tails]
  rintro W6 h6 ⟨-, c, Mc, rfl, hCh, hMc⟩
  clear p0 p1 t1
  have HCH := Lib.hid hCh
  have HMC := Lib.hid hMc
  have G6 := Lib.hid (after G5.out h6)
  clear hCh hMc h6
  go_upto_region 15 with (fail)
  have hT6 := HT.out.on G6.out
  have t3 := hT6.blk.cell 3
  obtain ⟨W7, hW7⟩ : ∃ W7, W7 = W6.alloc (.cells #[.pointer (some ⟨c, 0, none⟩), .bool false, .int .i64 0] 142) := ⟨_, rfl⟩
  obtain ⟨W8, hW8⟩ : ∃ W8, W8 = W7.alloc (.cells #[.pointer (some ⟨W6.heap.size, 0, none⟩)] 128) := ⟨_, rfl⟩
  have h7 : Below W6.heap.size W6 W7 := by rw [hW7]; exact (Below.refl _ _).alloc (Nat.le_refl _) _
  have h8 : Below W7.heap.size W7 W8 := by rw [hW8]; exact (Below.refl _ _).alloc (Nat.le_refl _) _
  have h68 := after h7 h8
  have I8 : Blk W8 W6.heap.size 142 #[.pointer (some ⟨c, 0, none⟩), .bool false, .int .i64 0] := (Blk.fresh hW7).on h8
  have Y8 : Blk W8 W7.heap.size 128 #[.pointer (some ⟨W6.heap.size, 0, none⟩)] := Blk.fresh hW8
  have hT8 := hT6.on h68
  have hll : (L.map (·.1)).length ≤ 1000 := by rw [List.length_map, show L.length = T.l.length by rw [← HT0.out.l, List.length_map]]; exact HN.out
  obtain ⟨g, cp, w9, hrun, ho, hg9, hgo⟩ := run_push_at (P := Tryz.prog) (w := W8) (base := 0) (e := 128) (size := 1) (enc := encA) (v := v) (xs := L.map (·.1)) (ts := 133) (ty := 133) (z := .pointer none) (bytes := 8) (b := W7.heap.size) (x := W6.heap.size) Tryz.underlying133 infP rfl (by decide) (by decide) rfl (by intro u hu; simp at hu; rw [hu]; rfl) hT8.row (fun j u hu => by rw [Y8.cell j]; simpa using hu) (by omega) (Nat.zero_le _)
  have hvo : ∀ b, v.ownBlock = some b → b < w.heap.size ∧ ∃ cur, Blk W8 b 128 cur := fun b hb => ⟨(HT0.out.row.block b hb).2, (own_at hT8.row hb).2⟩
  have k9 : Kept (fun b => v.ownBlock ≠ some b) W8 w9 := ⟨hg9.os, hg9.tape, hg9.output, hg9.size, fun b hb hK => hg9.block b hb (Ne.symm hK)⟩
  have hwW : Below w.heap.size w W8 := after (after HH.out G6.out) h68
  have B9 := k9.blk (fun e => by obtain ⟨-, cur, h5⟩ := hvo t e; exact absurd (one_type h5 hT8.blk) (by decide)) hT8.blk
  have f3 := B9.frz 3
  have k3 := B9.cell 3
  have FIN := Lib.hid (show Aft (TbA t { T with l := T.l ++ [newI T.seed px pz] }) w M (w9.setCell ⟨t, 3, none⟩ (.slice (some ⟨g, 0, none⟩) ((L.map (·.1)).length + 1) cp)) from by
    have hst : Kept (fun b => b ≠ t) w9 (w9.setCell ⟨t, 3, none⟩ (.slice (some ⟨g, 0, none⟩) ((L.map (·.1)).length + 1) cp)) := (Kept.refl _ _).setCell (by simp) _
    have htl := HT0.out.blk.lt
    have hsz6 : w.heap.size ≤ W6.heap.size := (after HH.out G6.out).size
    refine HT0.out.more HM.out (a := W6.heap.size) (c := c) (Mc := Mc) (it := newI T.seed px pz) ?_ (B9.set_ 3 _) (ho.keep hst fun b hb e => ?_) (fun b hb => ?_) (hst.blk (by omega) (k9.blk (fun e => by have := (hvo _ e).1; omega) I8)) ?_ hsz6 HMC.out
    · exact ((Kept.of_below hwW).mono (K' := fun b => b ≠ t ∧ v.ownBlock ≠ some b) fun _ _ => trivial).trans ((k9.mono fun b hb => hb.2).trans (hst.mono fun b hb => hb.1))
    · obtain ⟨-, cur, h5⟩ := own_at ho hb
      subst e
      exact absurd (one_type h5 B9) (by decide)
    · simp [Value.ownBlock] at hb
      subst hb
      rcases hgo with h | h
      · exact .inl h
      · exact .inr (Nat.le_trans hwW.size h)
    · have c8 := (chA_fit c px pz (genL T.seed px pz)).on HCH.out h68
      have c9 := (chA_fit c px pz (genL T.seed px pz)).kept c8 k9 (fun b hb e => by have := (hvo b e).1; have := HMC.out b hb; omega) (fun b cs hb e => by obtain ⟨-, cur, h5⟩ := hvo b e; exact absurd (one_type hb h5) (by decide))
      exact (chA_fit c px pz (genL T.seed px pz)).kept c9 hst (fun b hb e => by have := HMC.out b hb; omega) (fun b cs hb e => by subst e; exact absurd (one_type hb B9) (by decide)))
  have hs7 : W7.heap.size = W6.heap.size + 1 := by rw [hW7]; simp
  rw [hs7, hW8, hW7] at hrun
  clear hT6 h7 h8 h68 I8 Y8 hT8 hll ho hg9 hgo hvo k9 hwW B9 hs7 hW7 hW8
  go_wp2_with (at_builtin; refine Lib.wpList_append_run _ rfl _ _ _ _ rfl _ _ rfl rfl _ _ hrun ?_)
  go_returns
  exact ⟨rfl, by have := FIN.out; rwa [List.length_map] at this⟩
end Go.Proofs.YtmbccnioijokfaaGreatDoor

namespace Go.Proofs.YtmbccnioijokfaaGreatDoor
open Go.RowKit
attribute [local go_sem] Oper.semAt_some
abbrev encCh (c : Int × Int × Int × Int) : List Value := [.int .i64 c.1, .int .i64 c.2.1, .int .i64 c.2.2.1, .int .i64 c.2.2.2]
theorem lenCh (c : Int × Int × Int × Int) : (encCh c).length = 4 := rfl
def WdA (wd t : Nat) (T : TS) (k : Nat) : Asn := fun w M => ∃ v xs Mt, Blk w wd 114 #[.pointer (some ⟨t, 0, none⟩), v] ∧ Owns w 0 307 4 encCh v xs ∧ xs.length ≤ k ∧ TbA t T w Mt ∧ ∀ b, M b ↔ b = wd ∨ v.ownBlock = some b ∨ Mt b
section
variable {w w' : World} {wd t k : Nat} {M K : Nat → Prop} {T : TS}
def WdT (ty : TypeId) : Prop := ty = 114 ∨ ty = 307 ∨ TbT ty
theorem WdA.type (h : WdA wd t T k w M) {b : Nat} (hb : M b) : b < w.heap.size ∧ ∀ ty cs, Blk w b ty cs → WdT ty := by
  obtain ⟨v, xs, Mt, h1, h2, -, h3, hM⟩ := h
  rcases (hM b).1 hb with rfl | hb | hb
  · exact ⟨h1.lt, fun ty cs hB => .inl (one_type hB h1)⟩
  · obtain ⟨-, cur, h4⟩ := own_at h2 hb
    exact ⟨h4.lt, fun ty cs hB => .inr (.inl (one_type hB h4))⟩
  · exact ⟨(h3.type hb).1, fun ty cs hB => .inr (.inr ((h3.type hb).2 ty cs hB))⟩
theorem wdA_fit (wd t : Nat) (T : TS) (k : Nat) : Asn.Fit 5 (WdA wd t T k) where
  lt := fun h b hb => (h.type hb).1
  nob := fun h b hb cs hB => by
    rcases (h.type hb).2 _ _ hB with h | h | h | h | h | h | h | h | h | h <;> revert h <;> decide
  kept := fun ⟨v, xs, Mt, h1, h2, h3, h4, hM⟩ hk k1 k2 => ⟨v, xs, Mt, hk.blk (k1 _ ((hM _).2 (.inl rfl))) h1, h2.keep hk (fun b hb => k1 b ((hM b).2 (.inr (.inl hb)))), h3, (tbA_fit t T).kept h4 hk (fun b hb => k1 b ((hM b).2 (.inr (.inr hb)))) k2, hM⟩
theorem tb_no {b : Nat} {ty : TypeId} {cs : Array Value} {Mt : Nat → Prop} (h : TbA t T w Mt) (hB : Blk w b ty cs) (ht : ¬ TbT ty) : ¬ Mt b := fun hb => ht ((h.type hb).2 _ _ hB)
theorem no_world : ¬ TbT 114 := by
  intro h
  rcases h with h | h | h | h | h | h | h | h <;> revert h <;> decide
theorem no_change : ¬ TbT 307 := by
  intro h
  rcases h with h | h | h | h | h | h | h | h <;> revert h <;> decide
end
set_option maxRecDepth 100000 in
set_option maxHeartbeats 1000000 in
theorem wtable_c (wd t k : Nat) (T : TS) (w : World) (M : Nat → Prop) (h : WdA wd t T k w M) : Calls Tryz.prog 30 #[.pointer (some ⟨wd, 0, none⟩)] w fun r w' => r = .returned (.pointer (some ⟨t, 0, none⟩)) ∧ w = w' := by
  obtain ⟨v, xs, Mt, h1, -⟩ := h
  have c0 := h1.cell 0
  clear h1
  go_enter Tryz.func30, Tryz.ntmps30
  go_wp2_with fail
  go_returns
  exact ⟨rfl, rfl⟩
abbrev viewV (t : Nat) : Value := .func (.func 67) #[.pointer (some ⟨t, 0, none⟩)] #[]
set_option maxRecDepth 100000 in
set_option maxHeartbeats 1000000 in
theorem wview_c (wd t k : Nat) (T : TS) (w : World) (M : Nat → Prop) (h : WdA wd t T k w M) : Calls Tryz.prog 29 #[.pointer (some ⟨wd, 0, none⟩)] w fun r w' => r = .returned (viewV t) ∧ w = w' := by
  obtain ⟨v, xs, Mt, h1, -⟩ := h
  have hmf : ∀ (fn : Fn) (first cap : Array Value) (w : World), (Instr.makeFunc fn first cap).run Tryz.prog w = .ok (.func fn first cap) w := fun _ _ _ _ => rfl
  have c0 := h1.cell 0
  clear h1
  go_enter Tryz.func29, Tryz.ntmps29
  go_wp2_with fail
  go_returns
  exact ⟨rfl, rfl⟩
end Go.Proofs.YtmbccnioijokfaaGreatDoor

namespace Go.Proofs.YtmbccnioijokfaaGreatDoor
open Go.RowKit
attribute [local go_sem] Oper.semAt_some
theorem view_tells {t : Nat} {T : TS} {w : World} {M : Nat → Prop} (h : TbA t T w M) (hn : T.l.length ≤ 1000) : Tells Tryz.prog 67 (.pointer (some ⟨t, 0, none⟩)) (fun c => T.at c.1 c.2.1 c.2.2) w := by
  intro c hc W hb
  obtain ⟨s, d, v, L, Ms, Mi, h1, -⟩ := (tbA_fit t T).on h hb
  exact tat_c t s d v L Ms Mi T c.1 c.2.1 c.2.2 hc.1 hc.2 W h1 hn
theorem at_e {t : Nat} {T : TS} {w : World} {M : Nat → Prop} (x y z : Int) (hx : In64 x) (hz : In64 z) (h : TbA t T w M) (hn : T.l.length ≤ 1000) :
    Calls Tryz.prog 67 #[.pointer (some ⟨t, 0, none⟩), .agg #[.int .i64 x, .int .i64 y, .int .i64 z]] w fun r w' => r = .returned (.int .i64 (T.at x y z)) ∧ Below w.heap.size w w' :=
  view_tells h hn (x, y, z) ⟨hx, hz⟩ w (.refl _ _)
end Go.Proofs.YtmbccnioijokfaaGreatDoor

namespace Go.Proofs.YtmbccnioijokfaaGreatDoor
open Go.RowKit
attribute [local go_sem] Oper.semAt_some
def ChgR (N : Nat) (v : Value) (xs : List (Int × Int × Int × Int)) (v' : Value) (w : World) : Prop := Owns w 0 307 4 encCh v' xs ∧ ∀ b, v'.ownBlock = some b → v.ownBlock = some b ∨ N ≤ b
def ChgL (N : Nat) (c : Int × Int × Int × Int) (v : Value) (w : World) : Prop := ∃ b, v = .slice (some ⟨b, 0, none⟩) 1 1 ∧ N ≤ b ∧ Blk w b 307 #[.int .i64 c.1, .int .i64 c.2.1, .int .i64 c.2.2.1, .int .i64 c.2.2.2]
def wsR (N : Nat) (v : Value) (xs : List (Int × Int × Int × Int)) (c : Int × Int × Int × Int) : Nat → Rel := fun i v' w => match i with | 8 => ChgL N c v' w | 9 => ChgR N v (xs ++ [c]) v' w | _ => True
theorem wsR_on {N : Nat} {v : Value} {xs : List (Int × Int × Int × Int)} {c : Int × Int × Int × Int} (hv : ∀ b, v.ownBlock = some b → b < N) : ∀ i v' (w w' : World), wsR N v xs c i v' w → (if i = 9 then Below w.heap.size w w' else Kept (fun b => v.ownBlock ≠ some b) w w') → wsR N v xs c i v' w'
  | 8, _, _, _, ⟨b, h1, h2, h3⟩, hk => ⟨b, h1, h2, (show Kept _ _ _ from hk).blk (fun e => by have := hv b e; omega) h3⟩
  | 9, _, _, _, ⟨h1, h2⟩, hk => ⟨h1.on hk, h2⟩
  | 0, _, _, _, _, _ => trivial
  | 1, _, _, _, _, _ => trivial
  | 2, _, _, _, _, _ => trivial
  | 3, _, _, _, _, _ => trivial
  | 4, _, _, _, _, _ => trivial
  | 5, _, _, _, _, _ => trivial
  | 6, _, _, _, _, _ => trivial
  | 7, _, _, _, _, _ => trivial
  | n + 10, _, _, _, _, _ => trivial
theorem infCh : (Tryz.prog.info? 307).map (fun i => (i.zero, i.size, i.bytes)) = some (some (.agg #[.int .i64 0, .int .i64 0, .int .i64 0, .int .i64 0]), 4, 32) := by kernel_rfl
theorem chg_push {N : Nat} {v v8 : Value} {xs : List (Int × Int × Int × Int)} {c : Int × Int × Int × Int} {W : World} (hO : Owns W 0 307 4 encCh v xs) (h8 : ChgL N c v8 W) (hl : xs.length ≤ 1000000) (hN : N ≤ W.heap.size) :
    ∃ v' w', (Builtin.append_ #[112, 112] 112 #[v, v8]).run Tryz.prog W = .ok v' w' ∧ Kept (fun b => b ∉ v.ownBlock.toList) W w' ∧ ChgR N v (xs ++ [c]) v' w' := by
  obtain ⟨b, rfl, hb, hB⟩ := h8
  obtain ⟨g, cp, w9, hrun, ho, hg9, hgo⟩ := run_push_at (P := Tryz.prog) (w := W) (base := 0) (e := 307) (size := 4) (enc := encCh) (v := v) (xs := xs) (ts := 112) (ty := 112) (bytes := 32) (b := b) (x := c) Tryz.underlying112 infCh rfl (by decide) (by decide) rfl (by intro u hu; simp [encCh] at hu; rcases hu with rfl | rfl | rfl | rfl <;> rfl) hO (fun j u hu => by rw [hB.cell j]; simpa [encCh] using hu) (by omega) (Nat.zero_le _)
  refine ⟨_, w9, hrun, ⟨hg9.os, hg9.tape, hg9.output, hg9.size, fun k hk hK => hg9.block k hk (fun e => hK (by rw [Option.mem_toList]; exact e.symm))⟩, ho, fun k hk => ?_⟩
  simp [Value.ownBlock] at hk
  subst hk
  exact hgo.imp_right (Nat.le_trans hN)
set_option maxRecDepth 100000 in
set_option maxHeartbeats 4000000 in
theorem wset_c (wd t k n : Nat) (T : TS) (i : TI) (x y z b : Int) (w : World) (M : Nat → Prop) (h : WdA wd t T k w M) (hx : In64 x) (hz : In64 z) (hn : T.l.length ≤ 1000) (hf : T.find (chkOf x z) = n) (hi : T.l[n]? = some i) (hp : i.is (chkOf x z) = true) (hy : inY y = true) (hb : mayK b = true) (hk : k ≤ 1000000) :
    Calls Tryz.prog 191 #[.pointer (some ⟨wd, 0, none⟩), .agg #[.int .i64 x, .int .i64 y, .int .i64 z], .int .i64 b] w fun r w' => r = .returned (.int .i64 0) ∧ Aft (WdA wd t { T with l := T.l.eraseIdx n ++ [i.set x y z b] } (k + 1)) w M w' := by
  obtain ⟨v, xs, Mt, h1, h2, h3, h4, hM⟩ := h
  obtain ⟨W, hW⟩ : ∃ W, W = w.alloc (.cells #[.int .i64 x, .int .i64 y, .int .i64 z] 43) := ⟨_, rfl⟩
  have H : Below w.heap.size w W := by rw [hW]; exact (Below.refl _ _).alloc (Nat.le_refl _) _
  have C : Blk W w.heap.size 43 #[.int .i64 x, .int .i64 y, .int .i64 z] := Blk.fresh hW
  have HAT := Lib.hid fun W2 (g : Below w.heap.size w W2) => at_e x y z hx hz ((tbA_fit t T).on h4 g) hn
  have HST := Lib.hid fun W2 (g : Below w.heap.size w W2) => tset_c t n T i x y z b W2 Mt ((tbA_fit t T).on h4 g) hx hz hn hf hi hp hy hb
  have HB := Lib.hid h1
  have HO := Lib.hid h2
  have HL := Lib.hid (And.intro h3 hk)
  have HM := Lib.hid hM
  have HT0 := Lib.hid h4
  have HC := Lib.hid C
  have HH := Lib.hid H
  have w0 := fun d os => ((h1.on H).re d os).cell 0
  obtain ⟨c0, c1, c2⟩ := C.re3
  have wf := h1.frz 0
  generalize hT2 : ({ T with l := T.l.eraseIdx n ++ [i.set x y z b] } : TS) = T2 at *
  clear hT2
  clear h1 h2 h3 h4 hM H C hx hz hn hf hi hp hy hb hk
  go_enter Tryz.func191, Tryz.ntmps191
  go_upto_region 1 with (fail)
  rw [← hW]
  clear hW
  refine wp_region_quiet_below (by kernel_rfl) (by kernel_rfl) ?_
  repeat (go_big_quiet_step (exact Calls.regrown_of (HAT.out _ (after HH.out (below_regrown _ _ _)))))
  refine wpQuiet_nil ?_
  intro w' hw'
  obtain ⟨rg, rfl⟩ := hw'
  obtain ⟨W1, hW1⟩ : ∃ W1, W1 = Go.Sort.grow (redrawn W rg.d) rg.os := ⟨_, rfl⟩
  have h1 : Below W.heap.size W W1 := by rw [hW1]; exact below_regrown _ _ _
  rw [← hW1]
  have G1 := Lib.hid (after HH.out h1)
  have HC1 := Lib.hid (HC.out.on h1)
  clear hW1 h1 w0 c0 c1 c2 HH HC HAT
  have w0 := fun d os => ((HB.out.on G1.out).re d os).cell 0
  obtain ⟨c0, c1, c2⟩ := HC1.out.re3
  generalize T.at x y z = was at *
  go_upto_region 2 with (fail)
  refine wp_sched [0, 0, 0, 0, 0, 0, 3, 3] (fun _ _ _ => True) (by kernel_rfl) (by kernel_rfl) (fun _ _ _ _ h _ => h) ?_
  repeat (first | (refine wpQs_s ?_) | (refine wpQs_q (fun K hK => ?_); go_simp; first | (refine hK _ ?_; clear hK K) | (apply Exists.intro; refine ⟨fun _ => ?_, hK _ ?_⟩; (fail); clear hK K)) | (refine wpQs_f (fun K hK => ?_); go_simp; refine hK _ ?_; clear hK K))
  refine wpQs_nil ?_
  repeat (first | (refine wpLs_skip ?_) | (refine wpLs_one ?lsA (fun v_ => ?_); case lsA => (intro w_ hw_ hp_; (fail))))
  refine wpLs_nilB ?_
  simp only [tails]
  intro W2 g2 _
  have G2 := Lib.hid (after G1.out g2)
  have HC2 := Lib.hid (HC1.out.on g2)
  have HS2 := Lib.hid (HST.out W2 G2.out)
  clear g2 w0 c0 c1 c2 HST HC1
  go_upto_region 3 with (go_at_call 249; refine HS2.out.mono ?_; rintro e_ w3 ⟨rfl, k3⟩; have K3 := Lib.hid k3; clear k3)
  have hwd : ∀ (w9 : World), Kept (fun b' => ¬ Mt b') W2 w9 → Blk w9 wd 114 #[.pointer (some ⟨t, 0, none⟩), v] ∧ Owns w9 0 307 4 encCh v xs := fun w9 k => by
    refine ⟨k.blk (tb_no HT0.out HB.out no_world) (HB.out.on G2.out), (HO.out.on G2.out).keep k fun b' hb hMt => ?_⟩
    obtain ⟨-, cur, h5⟩ := own_at HO.out hb
    exact tb_no HT0.out h5 no_change hMt
  have HWD := Lib.hid hwd
  clear hwd
  cases hne : (was != b)
  · go_wp2_with fail
    go_returns
    obtain ⟨Mt', t3, m3, k3⟩ := K3.out
    obtain ⟨b3, o3⟩ := HWD.out _ k3
    refine ⟨rfl, fun b' => b' = wd ∨ v.ownBlock = some b' ∨ Mt' b', ⟨v, xs, Mt', b3, o3, by have := HL.out.1; omega, t3, fun _ => Iff.rfl⟩, fun b' hb' => ?_, ?_⟩
    · rcases hb' with hb' | hb' | hb'
      · exact .inl ((HM.out _).2 (.inl hb'))
      · exact .inl ((HM.out _).2 (.inr (.inl hb')))
      · exact (m3 _ hb').imp (fun h => (HM.out _).2 (.inr (.inr h))) fun h => Nat.le_trans G2.out.size h
    · exact ((Kept.of_below G2.out).mono fun _ _ => trivial).trans (k3.mono fun b' hb' hMt => hb' ((HM.out _).2 (.inr (.inr hMt))))
  · obtain ⟨Mt', t3, m3, k3⟩ := K3.out
    obtain ⟨b3, o3⟩ := HWD.out _ k3
    have K3' := Lib.hid k3
    have HT3 := Lib.hid t3
    have HB3 := Lib.hid b3
    have HO3 := Lib.hid o3
    have hvn : ∀ b', v.ownBlock = some b' → b' < w3.heap.size := fun b' hb' => (o3.block b' hb').2
    have hvw : v.ownBlock ≠ some wd := fun e => by
      obtain ⟨-, cur, h5⟩ := own_at o3 e
      exact absurd (one_type h5 b3) (by decide)
    have hvc : v.ownBlock ≠ some w.heap.size := fun e => by have := (HO.out.block _ e).2; omega
    have hc3 : Blk w3 w.heap.size 43 #[.int .i64 x, .int .i64 y, .int .i64 z] := k3.blk (fun e => by have := (tbA_fit t T).lt HT0.out _ e; omega) HC2.out
    have w0 := fun f d os => (b3.sp (not_row hvw) f d os).cell 1
    have c0 := fun f d os => (hc3.sp (not_row hvc) f d os).cell 0
    have c1 := fun f d os => (hc3.sp (not_row hvc) f d os).cell 1
    have c2 := fun f d os => (hc3.sp (not_row hvc) f d os).cell 2
    have HVN := Lib.hid hvn
    have HVW := Lib.hid hvw
    have hm3 := Lib.hid m3
    clear t3 m3 k3 b3 o3 hvn hvw hvc hc3
    go_upto_region 4 with (fail)
    refine wp_schedR [0, 0, 0, 0, 0, 0, 0, 0, 2, 2, 1, 1, 3] 9 (v.ownBlock) (wsR w3.heap.size v xs (x, y, z, b)) (by kernel_rfl) (by kernel_rfl) (wsR_on HVN.out) ?_
    repeat (first | (refine wpQs_s ?_) | (refine wpQs_q (fun K hK => ?_); go_simp; first | (refine hK _ ?_; clear hK K) | (apply Exists.intro; refine ⟨fun _ => ?_, hK _ ?_⟩; (fail); clear hK K)) | (refine wpQs_f (fun K hK => ?_); go_simp; refine hK _ ?_; clear hK K))
    refine wpQs_nil ?_
    refine wpLs_skip ?_
    refine wpLs_skip ?_
    refine wpLs_skip ?_
    refine wpLs_skip ?_
    refine wpLs_skip ?_
    refine wpLs_skip ?_
    refine wpLs_skip ?_
    refine wpLs_skip ?_
    refine wpLs_one ?lsA (fun v_ => ?_)
    case lsA => (intro w_ hw_ hp_; (first | (dsimp only at hF_; obtain ⟨v9, w9, hr9, hk9, hR9⟩ := chg_push (HO3.out.on (msd_row hw_ hp_)) (hF_.2 (by kernel_rfl)) (by have := HL.out; omega) (msd_kept hw_).size; exact sumAt_append _ _ _ _ rfl _ _ rfl rfl v9 w9 hr9 hk9 hR9) | (go_simp; exact ⟨Kept.of_below ((Below.refl _ _).alloc (Nat.le_refl _) _), _, rfl, (msd_kept hw_).size, Blk.new' rfl⟩)))
    refine wpLs_oneF ?lsA (fun v_ => ?_)
    case lsA => (intro w_ hw_ hp_ hF_; (first | (dsimp only at hF_; obtain ⟨v9, w9, hr9, hk9, hR9⟩ := chg_push (HO3.out.on (msd_row hw_ hp_)) (hF_.2 (by kernel_rfl)) (by have := HL.out; omega) (msd_kept hw_).size; exact sumAt_append _ _ _ _ rfl _ _ rfl rfl v9 w9 hr9 hk9 hR9) | (go_simp; exact ⟨Kept.of_below ((Below.refl _ _).alloc (Nat.le_refl _) _), _, rfl, (msd_kept hw_).size, Blk.new' rfl⟩)))
    refine wpLs_skip ?_
    refine wpLs_skip ?_
    refine wpLs_skip ?_
    refine wpLs_nilD ?_
    simp only [tails]
    rintro W5 k5 ⟨-, ho9, hr9⟩
    obtain ⟨q9, c9, rfl, -⟩ := ho9.form lenCh
    have hB5 := k5.blk (not_row HVW.out) HB3.out
    have f1 := hB5.frz 1
    have fin : Aft (WdA wd t T2 (k + 1)) w M (W5.setCell ⟨wd, 1, none⟩ (.slice q9 (xs ++ [(x, y, z, b)]).length c9)) := by
      have hst : Kept (fun b => b ≠ wd) W5 (W5.setCell ⟨wd, 1, none⟩ (.slice q9 (xs ++ [(x, y, z, b)]).length c9)) := (Kept.refl _ _).setCell (by simp) _
      have g2 := G2.out
      have k3 := K3'.out
      have sz : w3.heap.size ≤ W5.heap.size := k5.size
      have hwt := HB3.out.lt
      refine ⟨fun b' => b' = wd ∨ (Value.slice q9 (xs ++ [(x, y, z, b)]).length c9).ownBlock = some b' ∨ Mt' b', ⟨_, xs ++ [(x, y, z, b)], Mt', hB5.set_ 1 _, ho9.keep hst fun b' hb' e => ?_, by rw [List.length_append, List.length_singleton]; have := HL.out.1; omega, ?_, fun _ => Iff.rfl⟩, fun b' hb' => ?_, ?_⟩
      · obtain ⟨-, cur, h5⟩ := own_at ho9 hb'
        subst e
        exact absurd (one_type h5 hB5) (by decide)
      · refine (tbA_fit t T2).kept ((tbA_fit t T2).kept HT3.out k5 (fun b' hb' hr => ?_) fun b' cs hb' hr => ?_) hst (fun b' hb' e => ?_) fun b' cs hb' e => ?_
        · rw [Option.mem_toList] at hr
          obtain ⟨-, cur, h5⟩ := own_at HO3.out hr
          exact tb_no HT3.out h5 no_change hb'
        · rw [Option.mem_toList] at hr
          obtain ⟨-, cur, h5⟩ := own_at HO3.out hr
          exact absurd (one_type hb' h5) (by decide)
        · subst e
          exact tb_no HT3.out HB3.out no_world hb'
        · subst e
          exact absurd (one_type hb' hB5) (by decide)
      · rcases hb' with hb' | hb' | hb'
        · exact .inl ((HM.out _).2 (.inl hb'))
        · rcases hr9 _ hb' with h | h
          · exact .inl ((HM.out _).2 (.inr (.inl h)))
          · exact .inr (Nat.le_trans g2.size (Nat.le_trans k3.size h))
        · exact (hm3.out _ hb').imp (fun h => (HM.out _).2 (.inr (.inr h))) fun h => Nat.le_trans g2.size h
      · refine ((Kept.of_below g2).mono (K' := fun b => ¬ M b) fun _ _ => trivial).trans ((k3.mono fun b' hb' hMt => hb' ((HM.out _).2 (.inr (.inr hMt)))).trans ((k5.mono fun b' hb' hr => ?_).trans (hst.mono fun b' hb' e => hb' ((HM.out _).2 (.inl e)))))
        rw [Option.mem_toList] at hr
        exact hb' ((HM.out _).2 (.inr (.inl hr)))
    rw [show (xs ++ [(x, y, z, b)]).length = xs.length + 1 by simp] at fin
    have e1 := hB5.cell 1
    have FIN := Lib.hid fin
    clear fin ho9 hr9 k5 hB5 w0 c0 c1 c2
    go_wp2_with fail
    go_returns
    exact ⟨rfl, FIN.out⟩
end Go.Proofs.YtmbccnioijokfaaGreatDoor

namespace Go.Proofs.YtmbccnioijokfaaGreatDoor
open Go.RowKit
attribute [local go_sem] Oper.semAt_some
abbrev encP (p : Int × Int) : List Value := [.int .i64 p.1, .int .i64 p.2]
theorem lenP (p : Int × Int) : (encP p).length = 2 := rfl
theorem infPos : (Tryz.prog.info? 123).map (fun i => (i.zero, i.size, i.bytes)) = some (some (.agg #[.int .i64 0, .int .i64 0]), 2, 16) := by kernel_rfl
def plOf (p : Nat × TI) : Int × Int := (p.2.x, p.2.z)
def TS.here (T : TS) : List (Int × Int) := T.l.map fun i => (i.x, i.z)
def HereI (w wr : World) (xs : List (Int × Int)) (v : Value) : Prop := Owns wr w.heap.size 123 2 encP v xs ∧ Below w.heap.size w wr
def HereR (w : World) (xs : List (Int × Int)) (r : Ending) (w' : World) : Prop := ∃ v, r = .returned v ∧ Owns w' w.heap.size 123 2 encP v xs ∧ Below w.heap.size w w'
theorem pos_push {B : Nat} {v : Value} {xs : List (Int × Int)} {p : Int × Int} {W : World} {b : Nat} (hO : Owns W B 123 2 encP v xs) (h8 : Blk W b 123 #[.int .i64 p.1, .int .i64 p.2]) (hl : xs.length ≤ 1000000) (hB : B ≤ W.heap.size) :
    ∃ q c w', (Builtin.append_ #[166, 166] 166 #[v, .slice (some ⟨b, 0, none⟩) 1 1]).run Tryz.prog W = .ok (.slice q (xs.length + 1) c) w' ∧ Owns w' B 123 2 encP (.slice q (xs.length + 1) c) (xs ++ [p]) ∧ Below B W w' := by
  obtain ⟨v', w', hrun, V2, -, hb2, g2, c2, rfl⟩ := run_push (P := Tryz.prog) (ts := 166) (ty := 166) (x := p) (b := b) Tryz.underlying166 infPos rfl (by decide) (by decide) rfl (by intro u hu; simp [encP] at hu; rcases hu with rfl | rfl <;> rfl) hO (fun j u hu => by rw [h8.cell j]; simpa [encP] using hu) (by omega) hB
  exact ⟨_, _, w', hrun, V2, hb2⟩
set_option maxRecDepth 100000 in
set_option maxHeartbeats 4000000 in
theorem there_c (t : Nat) (T : TS) (w : World) (M : Nat → Prop) (h : TbA t T w M) (hn : T.l.length ≤ 1000) :
    Calls Tryz.prog 104 #[.pointer (some ⟨t, 0, none⟩)] w fun r w' => HereR w T.here r w' := by
  obtain ⟨s, d, v, L, Ms, Mi, h, -⟩ := h
  have hll : L.length = T.l.length := by rw [← h.l, List.length_map]
  obtain ⟨q, cap, hv, hc1, hc2, hrd, -⟩ := h.row.form lenA
  have hB := h.blk
  rw [hv, show (L.map (·.1)).length = L.length by simp] at hB
  have t3 := hB.cell 3
  have hrow : ∀ k p, L[k]? = some p → ∀ W, Below w.heap.size w W → ∃ g o c vv, q = some ⟨g, o, none⟩ ∧ W.cell? ⟨g, o + k, none⟩ = some (.pointer (some ⟨p.1, 0, none⟩)) ∧ Blk W p.1 142 #[.pointer (some ⟨c, 0, none⟩), .bool p.2.dirty, .int .i64 p.2.pins] ∧ Blk W c 186 #[.int .i64 p.2.x, .int .i64 p.2.z, vv] := fun k p hk W hb => by
    have hkl := (List.getElem?_eq_some_iff.1 hk).1
    obtain ⟨g, o, hq, h1⟩ := hrd.on hb (by simp; omega)
    obtain ⟨M', ⟨c, Mc, hI, ⟨vv, R, hC, -⟩, -⟩, -⟩ := its_mem (h.on hb).its (List.mem_of_getElem? hk)
    refine ⟨g, o, c, vv, hq, ?_, hI, hC⟩
    have := h1 k p.1 (by rw [List.getElem?_map, hk]; rfl) 0 _ rfl
    simpa using this
  have HROW := Lib.hid hrow
  have hth : T.here = L.map plOf := by unfold TS.here; rw [← h.l, List.map_map]; rfl
  rw [hth]
  have hLn : L.length ≤ 1000 := by omega
  have HC2 := Lib.hid hc2
  clear h hll hv hc1 hc2 hrd hB hrow hth hn
  go_enter Tryz.func104, Tryz.ntmps104
  go_upto_region 3 with (fail)
  go_loopw [3, 5, 11] (fun v x i wr => ∃ (k : Nat), k ≤ L.length ∧ i = .int .i64 k ∧ Hid (HereI w wr ((L.map plOf).take k) v)) (fun _ _ i _ => L.length - (intOf i).toNat)
  case atStart => exact ⟨0, Nat.zero_le _, rfl, ⟨Owns.nil, Below.refl _ _⟩⟩
  case round =>
    obtain ⟨k, hk, rfl, hI⟩ := hrel
    by_cases hlt : k < L.length
    · obtain ⟨p, hp⟩ : ∃ p, L[k]? = some p := ⟨_, List.getElem?_eq_getElem hlt⟩
      obtain ⟨g, o, c, vv, rfl, r0, hIB, hCB⟩ := HROW.out k p hp wr hI.out.2
      have i0 := hIB.cell 0
      have c0 := hCB.cell 0
      have c1 := hCB.cell 1
      have HPL := Lib.hid fun W => cplace_c p.2.x p.2.z W
      have hk0 : (0 : Int) ≤ k := by omega
      have hk1 : (k : Int) < (L.length : Int) := by omega
      have hw : IntKind.i64.wrap ((k : Int) + 1) = (k : Int) + 1 := IntWalk.i64_in _ (by omega)
      have hst : (L.map plOf).take (k + 1) = (L.map plOf).take k ++ [(p.2.x, p.2.z)] := by
        rw [List.take_add_one, List.getElem?_map, hp]; rfl
      have hln : ((L.map plOf).take k).length = k := by simp; omega
      have HST := Lib.hid hst
      have HLN := Lib.hid hln
      clear hst hln hIB hCB hp
      go_upto_region 5 with (fail)
      go_upto_region 6 with first
        | (go_at_call 120; refine (HPL.out _).mono ?_; rintro e_ w1 ⟨rfl, g1⟩; have G1 := Lib.hid g1; clear g1)
        | (at_builtin; obtain ⟨q2, c2, w2, hrun, ho, hb2⟩ := pos_push (W := w1.alloc (.cells #[.int .i64 p.2.x, .int .i64 p.2.z] 123)) (p := (p.2.x, p.2.z)) ((hI.out.1.on G1.out).on (bel_alloc _ _)) (Blk.new' rfl) (by rw [HLN.out]; omega) (Nat.le_trans hI.out.2.size (Nat.le_trans G1.out.size (bel_alloc _ _).size)); rw [HLN.out] at hrun ho; have HO2 := Lib.hid (And.intro ho (after' (after hI.out.2 G1.out) (Nat.le_refl _) (bel_alloc _ _) |>.trans (hb2.mono (by simp)))); clear ho hb2; refine Lib.wpList_append_run _ rfl _ _ _ _ rfl _ _ rfl rfl _ _ hrun ?_)
      have HF : Hid (HereI w w2 ((L.map plOf).take (k + 1)) (.slice q2 (k + 1) c2)) := Lib.hid (by rw [HST.out]; exact HO2.out)
      go_wp2_with fail
      exact ⟨⟨k + 1, hlt, by go_num, HF⟩, by simp [intOf]; omega⟩
    · obtain rfl : k = L.length := by omega
      have hk1 : ¬ ((L.length : Int) < (L.length : Int)) := by omega
      have ht : (L.map plOf).take L.length = L.map plOf := List.take_of_length_le (by simp)
      rw [ht] at hI
      clear ht
      go_wp2_with fail
      go_returns
      exact ⟨_, rfl, hI.out.1, hI.out.2⟩
end Go.Proofs.YtmbccnioijokfaaGreatDoor

namespace Go.Proofs.YtmbccnioijokfaaGreatDoor
open Go.RowKit Go.Shelf
attribute [local go_sem] Oper.semAt_some
set_option maxRecDepth 100000 in
set_option maxHeartbeats 4000000 in
theorem pidx_c (q : Option Addr) (cp : Nat) (xs : List (Int × Int)) (hm : xs.length ≤ 1000000) (p : Int × Int) (w : World) (hR : Rd w q 2 encP xs) :
    Calls Tryz.prog 299 #[.slice q xs.length cp, .agg #[.int .i64 p.1, .int .i64 p.2]] w fun r w' => ∃ k : Int, r = .returned (.int .i64 k) ∧ FirstIs (fun j => ((xs[j]?).map fun x => posB p.1 p.2 x.1 x.2).getD false) xs.length k ∧ Below w.heap.size w w' := by
  obtain ⟨W, hW⟩ : ∃ W, W = w.alloc (.cells #[.int .i64 p.1, .int .i64 p.2] 123) := ⟨_, rfl⟩
  have H : Below w.heap.size w W := by rw [hW]; exact bel_alloc _ _
  have X : Blk W w.heap.size 123 #[.int .i64 p.1, .int .i64 p.2] := Blk.fresh hW
  have HM := Lib.hid (show xs.length ≤ maxLen by unfold maxLen; omega)
  have pe := pos_eq
  have pg := pos_guard
  have hR2 := Lib.hid (hR.on H)
  have HH := Lib.hid H
  have HX := Lib.hid X
  clear hm hR H X
  go_enter Tryz.func299, Tryz.ntmps299
  go_upto_region 2 with (fail)
  rw [← hW]
  clear hW
  go_loopw [5, 8] (fun _ iv wr => ∃ (i : Nat), iv = .int .i64 (i : Nat) ∧ Hid (i ≤ xs.length) ∧ Hid (∀ j, j < i → ((xs[j]?).map fun x => posB p.1 p.2 x.1 x.2).getD false = false) ∧ Hid (Below W.heap.size W wr)) (fun _ v _ => xs.length - (intOf v).toNat)
  case atStart => exact ⟨0, rfl, Nat.zero_le _, Lib.hid (fun j hj => by omega), Below.refl _ _⟩
  case round =>
    obtain ⟨i, rfl, hi, hno, H⟩ := hrel
    by_cases hlt : i < xs.length
    · obtain ⟨x, hx⟩ : ∃ x, xs[i]? = some x := ⟨_, List.getElem?_eq_getElem hlt⟩
      have hlt' : (i : Int) < (xs.length : Int) := by omega
      obtain ⟨g, o, rfl, hI⟩ := (hR2.out.on H.out) (by omega)
      have h0 : wr.cell? ⟨g, o + i * 2, none⟩ = some (.int .i64 x.1) := hI i x hx 0 _ rfl
      have h1 : wr.cell? ⟨g, o + i * 2 + 1, none⟩ = some (.int .i64 x.2) := hI i x hx 1 _ rfl
      have e0 := fun d os => cell_regrown h0 d os
      have e1 := fun d os => cell_regrown h1 d os
      obtain ⟨y0, y1⟩ := (HX.out.on H.out).rep
      obtain ⟨n2, n3, n5, n6⟩ := nextx hlt HM.out
      have HXI := Lib.hid hx
      clear hx hI h0 h1
      cases hp : posB p.1 p.2 x.1 x.2
      · have HP := Lib.hid (show ((xs[i]?).map fun x => posB p.1 p.2 x.1 x.2).getD false = false by rw [HXI.out]; exact hp)
        go_upto_region 4 with (fail)
        refine wp_region_quiet_below (by kernel_rfl) (by kernel_rfl) ?_
        repeat (go_big_quiet_step (fail))
        refine wpQuiet_nil ?_
        intro w' hw'
        obtain ⟨rg, rfl⟩ := hw'
        clear e0 e1 y0 y1
        go_wp2_with fail
        exact ⟨⟨i + 1, by go_num, hlt, Lib.hid (fun j hj => by
          rcases Nat.lt_or_eq_of_le (Nat.le_of_lt_succ hj) with h | rfl
          · exact hno.out j h
          · exact HP.out), Lib.hid (after H.out (below_regrown _ _ _))⟩, by simp [intOf]; omega⟩
      · have HP := Lib.hid (show ((xs[i]?).map fun x => posB p.1 p.2 x.1 x.2).getD false = true by rw [HXI.out]; exact hp)
        go_upto_region 4 with (fail)
        refine wp_region_quiet_below (by kernel_rfl) (by kernel_rfl) ?_
        repeat (go_big_quiet_step (fail))
        refine wpQuiet_nil ?_
        intro w' hw'
        obtain ⟨rg, rfl⟩ := hw'
        clear e0 e1 y0 y1
        go_wp2_with fail
        go_returns
        exact ⟨(i : Int), rfl, .inr ⟨i, hlt, rfl, HP.out, hno.out⟩, after HH.out (after H.out (below_regrown _ _ _))⟩
    · have hi2 : i = xs.length := by have := hi.out; omega
      have hlt' : ¬ (i : Int) < (xs.length : Int) := by omega
      go_wp2_with fail
      go_returns
      exact ⟨-1, rfl, .inl ⟨rfl, fun j hj => hno.out j (by omega)⟩, after HH.out H.out⟩
theorem first_any {xs : List (Int × Int)} {p : Int × Int} {k : Int} (h : FirstIs (fun j => ((xs[j]?).map fun x => posB p.1 p.2 x.1 x.2).getD false) xs.length k) : decide (0 ≤ k) = decide (p ∈ xs) := by
  rcases h with ⟨rfl, h⟩ | ⟨m, hm, rfl, h1, -⟩
  · rw [decide_eq_false (by omega), decide_eq_false]
    intro hp
    obtain ⟨j, hj⟩ := List.getElem?_of_mem hp
    have := h j (List.getElem?_eq_some_iff.1 hj).1
    dsimp only at this
    rw [hj] at this
    simp [posB] at this
  · rw [decide_eq_true (by omega), decide_eq_true]
    obtain ⟨x, hx⟩ : ∃ x, xs[m]? = some x := ⟨_, List.getElem?_eq_getElem hm⟩
    dsimp only at h1
    rw [hx] at h1
    have h2 := posB_iff.1 h1
    rw [show p = x from Prod.ext h2.1 h2.2]
    exact List.mem_of_getElem? hx
theorem pcont_c (q : Option Addr) (cp : Nat) (xs : List (Int × Int)) (hm : xs.length ≤ 1000000) (p : Int × Int) (w : World) (hR : Rd w q 2 encP xs) :
    Calls Tryz.prog 236 #[.slice q xs.length cp, .agg #[.int .i64 p.1, .int .i64 p.2]] w fun r w' => r = .returned (.bool (decide (p ∈ xs))) ∧ Below w.heap.size w w' := by
  obtain ⟨W, hW⟩ : ∃ W, W = w.alloc (.cells #[.int .i64 p.1, .int .i64 p.2] 123) := ⟨_, rfl⟩
  have H : Below w.heap.size w W := by rw [hW]; exact bel_alloc _ _
  have X : Blk W w.heap.size 123 #[.int .i64 p.1, .int .i64 p.2] := Blk.fresh hW
  have HI := Lib.hid (pidx_c q cp xs hm p W (hR.on H))
  have HH := Lib.hid H
  obtain ⟨x0, x1, -, -⟩ := X.pair
  clear hm hR H X
  go_enter Tryz.func236, Tryz.ntmps236
  go_upto_region 1 with (fail)
  rw [← hW]
  clear hW
  go_wp2_with (go_at_call 299; refine HI.out.mono ?_; rintro e_ w1 ⟨k, rfl, hk, g1⟩; have HK := Lib.hid hk; have G1 := Lib.hid g1; clear hk g1)
  go_returns
  exact ⟨congrArg (fun b => Ending.returned (.bool b)) (first_any HK.out), after HH.out G1.out⟩
end Go.Proofs.YtmbccnioijokfaaGreatDoor

namespace Go.Proofs.YtmbccnioijokfaaGreatDoor
open Go.RowKit Go.Shelf
attribute [local go_sem] Oper.semAt_some
def ringL (a b : Int) : List (Int × Int) := [(a, b), (a - 1, b), (a + 1, b), (a, b - 1), (a, b + 1)]
def TS.ready (T : TS) (x z : Int) : Bool := (ringL (x / 16) (z / 16)).all fun p => decide (p ∈ T.here)
theorem ring_get {a b : Int} {k : Nat} (hk : k < 5) : ∃ p, (ringL a b)[k]? = some p := ⟨_, List.getElem?_eq_getElem hk⟩
theorem all_stop {l : List (Int × Int)} {q : Int × Int → Bool} {k : Nat} {p : Int × Int} (h : l[k]? = some p) (hq : q p = false) : l.all q = false := by
  rw [List.all_eq_false]
  exact ⟨p, List.mem_of_getElem? h, by rw [hq]; decide⟩
theorem all_go {l : List (Int × Int)} {q : Int × Int → Bool} (h : ∀ (j : Nat) (p : Int × Int), l[j]? = some p → q p = true) : l.all q = true := by
  rw [List.all_eq_true]
  intro x hx
  obtain ⟨j, hj⟩ := List.getElem?_of_mem hx
  exact h j x hj
theorem at5_0 (a0 a1 a2 a3 a4 a5 a6 a7 a8 a9 : Value) (w : World) : (Instr.index 297 (.agg #[a0, a1, a2, a3, a4, a5, a6, a7, a8, a9]) (.int .i64 0)).run Tryz.prog w = .ok (.agg #[a0, a1]) w := by kernel_rfl
theorem at5_1 (a0 a1 a2 a3 a4 a5 a6 a7 a8 a9 : Value) (w : World) : (Instr.index 297 (.agg #[a0, a1, a2, a3, a4, a5, a6, a7, a8, a9]) (.int .i64 1)).run Tryz.prog w = .ok (.agg #[a2, a3]) w := by kernel_rfl
theorem at5_2 (a0 a1 a2 a3 a4 a5 a6 a7 a8 a9 : Value) (w : World) : (Instr.index 297 (.agg #[a0, a1, a2, a3, a4, a5, a6, a7, a8, a9]) (.int .i64 2)).run Tryz.prog w = .ok (.agg #[a4, a5]) w := by kernel_rfl
theorem at5_3 (a0 a1 a2 a3 a4 a5 a6 a7 a8 a9 : Value) (w : World) : (Instr.index 297 (.agg #[a0, a1, a2, a3, a4, a5, a6, a7, a8, a9]) (.int .i64 3)).run Tryz.prog w = .ok (.agg #[a6, a7]) w := by kernel_rfl
theorem at5_4 (a0 a1 a2 a3 a4 a5 a6 a7 a8 a9 : Value) (w : World) : (Instr.index 297 (.agg #[a0, a1, a2, a3, a4, a5, a6, a7, a8, a9]) (.int .i64 4)).run Tryz.prog w = .ok (.agg #[a8, a9]) w := by kernel_rfl
set_option maxRecDepth 100000 in
set_option maxHeartbeats 4000000 in
theorem wready_c (wd t k : Nat) (T : TS) (x y z : Int) (w : World) (M : Nat → Prop) (h : WdA wd t T k w M) (hx : -1000000000000000 ≤ x ∧ x ≤ 1000000000000000) (hz : -1000000000000000 ≤ z ∧ z ≤ 1000000000000000) (hn : T.l.length ≤ 1000) :
    Calls Tryz.prog 181 #[.pointer (some ⟨wd, 0, none⟩), .agg #[.int .i64 x, .int .i64 y, .int .i64 z]] w fun r w' => r = .returned (.bool (T.ready x z)) ∧ Below w.heap.size w w' := by
  obtain ⟨v, xs, Mt, h1, -, -, h4, -⟩ := h
  obtain ⟨W, hW⟩ : ∃ W, W = w.alloc (.cells #[.int .i64 x, .int .i64 y, .int .i64 z] 43) := ⟨_, rfl⟩
  have H : Below w.heap.size w W := by rw [hW]; exact (Below.refl _ _).alloc (Nat.le_refl _) _
  have C : Blk W w.heap.size 43 #[.int .i64 x, .int .i64 y, .int .i64 z] := Blk.fresh hW
  have HHR := Lib.hid (there_c t T W Mt ((tbA_fit t T).on h4 H) hn)
  have HCH := Lib.hid fun W2 => cchunk_c x y z (by unfold In64; omega) (by unfold In64; omega) W2
  have HBE := Lib.hid fun W2 => cbeside_c (x / 16) (z / 16) (by omega) (by omega) W2
  have hlen : T.here.length ≤ 1000 := by unfold TS.here; rw [List.length_map]; exact hn
  have HC := Lib.hid C
  have HH := Lib.hid H
  have w0 := (h1.on H).cell 0
  unfold TS.ready
  generalize x / 16 = a at *
  generalize z / 16 = b at *
  generalize T.here = xh at *
  clear h1 h4 H C hx hz hn
  go_enter Tryz.func181, Tryz.ntmps181
  go_upto_region 1 with (fail)
  rw [← hW]
  clear hW
  go_upto_region 2 with (go_at_call 104; refine HHR.out.mono ?_; rintro e_ w1 ⟨v1, rfl, o1, g1⟩; have O1 := Lib.hid o1; have G1 := Lib.hid g1; clear o1 g1)
  clear w0
  obtain ⟨c0, c1, c2, -, -, -⟩ := (HC.out.on G1.out).c3
  go_upto_region 3 with first
    | (go_at_call 108; refine (HCH.out _).mono ?_; rintro e_ w2 ⟨rfl, g2⟩; have O2 := Lib.hid (O1.out.on g2); have G2 := Lib.hid (after G1.out g2); clear g2)
    | (go_at_call 235; refine (HBE.out _).mono ?_; rintro e_ w3 ⟨rfl, g3⟩; have G3 := Lib.hid (after G2.out g3); have O3 := Lib.hid (O2.out.on g3); clear g3)
  unfold besides
  obtain ⟨q, cp, rfl, -, -, hrd, -⟩ := O3.out.form lenP
  have HRD := Lib.hid hrd
  clear hrd c0 c1 c2 HCH HBE O1 O2 O3
  go_loopw [7, 16] (fun _ iv wr => ∃ (k : Nat), iv = .int .i64 (k : Nat) ∧ Hid (k ≤ 5) ∧ Hid (∀ (j : Nat) (p : Int × Int), j < k → (ringL a b)[j]? = some p → decide (p ∈ xh) = true) ∧ Hid (Below w3.heap.size w3 wr)) (fun _ v _ => 5 - (intOf v).toNat)
  case atStart => exact ⟨0, rfl, Lib.hid (by omega), Lib.hid (fun j p hj => by omega), Lib.hid (Below.refl _ _)⟩
  case round =>
    obtain ⟨k, rfl, hk, hno, H⟩ := hrel
    by_cases hlt : k < 5
    · have hlt' : (k : Int) < 5 := by omega
      obtain ⟨p, hp⟩ := ring_get (a := a) (b := b) hlt
      have HP := Lib.hid hp
      have hcase : k = 0 ∨ k = 1 ∨ k = 2 ∨ k = 3 ∨ k = 4 := by omega
      have HCO := Lib.hid fun (W1 : World) (h : Below w3.heap.size w3 W1) => pcont_c q cp xh (by omega) p W1 (HRD.out.on h)
      have HK := Lib.hid hlt
      clear hp
      have i0 := at5_0
      have i1 := at5_1
      have i2 := at5_2
      have i3 := at5_3
      have i4 := at5_4
      cases hd : decide (p ∈ xh)
      · rw [hd] at HCO
        have HD := Lib.hid hd
        clear hd
        rcases hcase with rfl | rfl | rfl | rfl | rfl
        · obtain rfl : (a, b) = p := Option.some.inj HP.out
          obtain ⟨W5, hW5⟩ : ∃ W5, W5 = wr.alloc (.cells #[.int .i64 (a), .int .i64 (b)] 123) := ⟨_, rfl⟩
          have h5 : Below wr.heap.size wr W5 := by rw [hW5]; exact bel_alloc _ _
          have x0 := (Blk.fresh hW5).cell 0
          have x1 := (Blk.fresh hW5).cell 1
          have HC5 := Lib.hid (HCO.out W5 (after H.out h5))
          go_upto_region 5 with (fail)
          rw [← hW5]
          clear hW5
          go_wp2_with (go_at_call 236; refine HC5.out.mono ?_; rintro e_ w4 ⟨rfl, g4⟩; have G4 := Lib.hid (after (after H.out h5) g4); clear g4)
          go_returns
          exact ⟨congrArg (fun b => Ending.returned (.bool b)) (all_stop HP.out HD.out).symm, after (after HH.out G3.out) G4.out⟩
        · obtain rfl : (a - 1, b) = p := Option.some.inj HP.out
          obtain ⟨W5, hW5⟩ : ∃ W5, W5 = wr.alloc (.cells #[.int .i64 (a - 1), .int .i64 (b)] 123) := ⟨_, rfl⟩
          have h5 : Below wr.heap.size wr W5 := by rw [hW5]; exact bel_alloc _ _
          have x0 := (Blk.fresh hW5).cell 0
          have x1 := (Blk.fresh hW5).cell 1
          have HC5 := Lib.hid (HCO.out W5 (after H.out h5))
          go_upto_region 5 with (fail)
          rw [← hW5]
          clear hW5
          go_wp2_with (go_at_call 236; refine HC5.out.mono ?_; rintro e_ w4 ⟨rfl, g4⟩; have G4 := Lib.hid (after (after H.out h5) g4); clear g4)
          go_returns
          exact ⟨congrArg (fun b => Ending.returned (.bool b)) (all_stop HP.out HD.out).symm, after (after HH.out G3.out) G4.out⟩
        · obtain rfl : (a + 1, b) = p := Option.some.inj HP.out
          obtain ⟨W5, hW5⟩ : ∃ W5, W5 = wr.alloc (.cells #[.int .i64 (a + 1), .int .i64 (b)] 123) := ⟨_, rfl⟩
          have h5 : Below wr.heap.size wr W5 := by rw [hW5]; exact bel_alloc _ _
          have x0 := (Blk.fresh hW5).cell 0
          have x1 := (Blk.fresh hW5).cell 1
          have HC5 := Lib.hid (HCO.out W5 (after H.out h5))
          go_upto_region 5 with (fail)
          rw [← hW5]
          clear hW5
          go_wp2_with (go_at_call 236; refine HC5.out.mono ?_; rintro e_ w4 ⟨rfl, g4⟩; have G4 := Lib.hid (after (after H.out h5) g4); clear g4)
          go_returns
          exact ⟨congrArg (fun b => Ending.returned (.bool b)) (all_stop HP.out HD.out).symm, after (after HH.out G3.out) G4.out⟩
        · obtain rfl : (a, b - 1) = p := Option.some.inj HP.out
          obtain ⟨W5, hW5⟩ : ∃ W5, W5 = wr.alloc (.cells #[.int .i64 (a), .int .i64 (b - 1)] 123) := ⟨_, rfl⟩
          have h5 : Below wr.heap.size wr W5 := by rw [hW5]; exact bel_alloc _ _
          have x0 := (Blk.fresh hW5).cell 0
          have x1 := (Blk.fresh hW5).cell 1
          have HC5 := Lib.hid (HCO.out W5 (after H.out h5))
          go_upto_region 5 with (fail)
          rw [← hW5]
          clear hW5
          go_wp2_with (go_at_call 236; refine HC5.out.mono ?_; rintro e_ w4 ⟨rfl, g4⟩; have G4 := Lib.hid (after (after H.out h5) g4); clear g4)
          go_returns
          exact ⟨congrArg (fun b => Ending.returned (.bool b)) (all_stop HP.out HD.out).symm, after (after HH.out G3.out) G4.out⟩
        · obtain rfl : (a, b + 1) = p := Option.some.inj HP.out
          obtain ⟨W5, hW5⟩ : ∃ W5, W5 = wr.alloc (.cells #[.int .i64 (a), .int .i64 (b + 1)] 123) := ⟨_, rfl⟩
          have h5 : Below wr.heap.size wr W5 := by rw [hW5]; exact bel_alloc _ _
          have x0 := (Blk.fresh hW5).cell 0
          have x1 := (Blk.fresh hW5).cell 1
          have HC5 := Lib.hid (HCO.out W5 (after H.out h5))
          go_upto_region 5 with (fail)
          rw [← hW5]
          clear hW5
          go_wp2_with (go_at_call 236; refine HC5.out.mono ?_; rintro e_ w4 ⟨rfl, g4⟩; have G4 := Lib.hid (after (after H.out h5) g4); clear g4)
          go_returns
          exact ⟨congrArg (fun b => Ending.returned (.bool b)) (all_stop HP.out HD.out).symm, after (after HH.out G3.out) G4.out⟩
      · rw [hd] at HCO
        have hno2 : ∀ (j : Nat) (p : Int × Int), j < k + 1 → (ringL a b)[j]? = some p → decide (p ∈ xh) = true := fun j p' hj hp' => by
          rcases Nat.lt_or_eq_of_le (Nat.le_of_lt_succ hj) with h | rfl
          · exact hno.out j p' h hp'
          · rw [HP.out] at hp'
            obtain rfl := Option.some.inj hp'
            exact hd
        have HN2 := Lib.hid hno2
        clear hd hno2 hno
        rcases hcase with rfl | rfl | rfl | rfl | rfl
        · obtain rfl : (a, b) = p := Option.some.inj HP.out
          obtain ⟨W5, hW5⟩ : ∃ W5, W5 = wr.alloc (.cells #[.int .i64 (a), .int .i64 (b)] 123) := ⟨_, rfl⟩
          have h5 : Below wr.heap.size wr W5 := by rw [hW5]; exact bel_alloc _ _
          have x0 := (Blk.fresh hW5).cell 0
          have x1 := (Blk.fresh hW5).cell 1
          have HC5 := Lib.hid (HCO.out W5 (after H.out h5))
          go_upto_region 5 with (fail)
          rw [← hW5]
          clear hW5
          go_wp2_with (go_at_call 236; refine HC5.out.mono ?_; rintro e_ w4 ⟨rfl, g4⟩; have G4 := Lib.hid (after (after H.out h5) g4); clear g4)
          exact ⟨⟨1, by go_num, Lib.hid (by omega), Lib.hid HN2.out, G4⟩, by simp [intOf]⟩
        · obtain rfl : (a - 1, b) = p := Option.some.inj HP.out
          obtain ⟨W5, hW5⟩ : ∃ W5, W5 = wr.alloc (.cells #[.int .i64 (a - 1), .int .i64 (b)] 123) := ⟨_, rfl⟩
          have h5 : Below wr.heap.size wr W5 := by rw [hW5]; exact bel_alloc _ _
          have x0 := (Blk.fresh hW5).cell 0
          have x1 := (Blk.fresh hW5).cell 1
          have HC5 := Lib.hid (HCO.out W5 (after H.out h5))
          go_upto_region 5 with (fail)
          rw [← hW5]
          clear hW5
          go_wp2_with (go_at_call 236; refine HC5.out.mono ?_; rintro e_ w4 ⟨rfl, g4⟩; have G4 := Lib.hid (after (after H.out h5) g4); clear g4)
          exact ⟨⟨2, by go_num, Lib.hid (by omega), Lib.hid HN2.out, G4⟩, by simp [intOf]⟩
        · obtain rfl : (a + 1, b) = p := Option.some.inj HP.out
          obtain ⟨W5, hW5⟩ : ∃ W5, W5 = wr.alloc (.cells #[.int .i64 (a + 1), .int .i64 (b)] 123) := ⟨_, rfl⟩
          have h5 : Below wr.heap.size wr W5 := by rw [hW5]; exact bel_alloc _ _
          have x0 := (Blk.fresh hW5).cell 0
          have x1 := (Blk.fresh hW5).cell 1
          have HC5 := Lib.hid (HCO.out W5 (after H.out h5))
          go_upto_region 5 with (fail)
          rw [← hW5]
          clear hW5
          go_wp2_with (go_at_call 236; refine HC5.out.mono ?_; rintro e_ w4 ⟨rfl, g4⟩; have G4 := Lib.hid (after (after H.out h5) g4); clear g4)
          exact ⟨⟨3, by go_num, Lib.hid (by omega), Lib.hid HN2.out, G4⟩, by simp [intOf]⟩
        · obtain rfl : (a, b - 1) = p := Option.some.inj HP.out
          obtain ⟨W5, hW5⟩ : ∃ W5, W5 = wr.alloc (.cells #[.int .i64 (a), .int .i64 (b - 1)] 123) := ⟨_, rfl⟩
          have h5 : Below wr.heap.size wr W5 := by rw [hW5]; exact bel_alloc _ _
          have x0 := (Blk.fresh hW5).cell 0
          have x1 := (Blk.fresh hW5).cell 1
          have HC5 := Lib.hid (HCO.out W5 (after H.out h5))
          go_upto_region 5 with (fail)
          rw [← hW5]
          clear hW5
          go_wp2_with (go_at_call 236; refine HC5.out.mono ?_; rintro e_ w4 ⟨rfl, g4⟩; have G4 := Lib.hid (after (after H.out h5) g4); clear g4)
          exact ⟨⟨4, by go_num, Lib.hid (by omega), Lib.hid HN2.out, G4⟩, by simp [intOf]⟩
        · obtain rfl : (a, b + 1) = p := Option.some.inj HP.out
          obtain ⟨W5, hW5⟩ : ∃ W5, W5 = wr.alloc (.cells #[.int .i64 (a), .int .i64 (b + 1)] 123) := ⟨_, rfl⟩
          have h5 : Below wr.heap.size wr W5 := by rw [hW5]; exact bel_alloc _ _
          have x0 := (Blk.fresh hW5).cell 0
          have x1 := (Blk.fresh hW5).cell 1
          have HC5 := Lib.hid (HCO.out W5 (after H.out h5))
          go_upto_region 5 with (fail)
          rw [← hW5]
          clear hW5
          go_wp2_with (go_at_call 236; refine HC5.out.mono ?_; rintro e_ w4 ⟨rfl, g4⟩; have G4 := Lib.hid (after (after H.out h5) g4); clear g4)
          exact ⟨⟨5, by go_num, Lib.hid (by omega), Lib.hid HN2.out, G4⟩, by simp [intOf]⟩
    · have hk5 : k = 5 := by have := hk.out; omega
      subst hk5
      go_wp2_with fail
      go_returns
      exact ⟨congrArg (fun b => Ending.returned (.bool b)) (all_go fun j p hp => hno.out j p (show j < (ringL a b).length from (List.getElem?_eq_some_iff.1 hp).1) hp).symm, after (after HH.out G3.out) H.out⟩
end Go.Proofs.YtmbccnioijokfaaGreatDoor

namespace Go.Proofs.YtmbccnioijokfaaGreatDoor
open Go.RowKit Go.Shelf
attribute [local go_sem] Oper.semAt_some
theorem snew_t (R : Int) (w : World) :
    Calls Tryz.prog 161 #[.int .i64 R] w fun r w' => ∃ s d Ms, r = .returned (.pointer (some ⟨s, 0, none⟩)) ∧ StoreIs w' 0 Ms s d (newS R) ∧ (∀ b, Ms b → w.heap.size ≤ b) ∧ w.heap.size ≤ s ∧ Below w.heap.size w w' := by
  have HN := Lib.hid (new_c R 0 w (Nat.zero_le _))
  go_enter Tryz.func161, Tryz.ntmps161
  go_wp2_with (go_at_call 209; refine HN.out.mono ?_; rintro e_ w1 ⟨d, M, rfl, D1, n1, h1⟩)
  go_returns
  obtain ⟨W2, hW⟩ : ∃ W2, W2 = w1.alloc (.cells #[.pointer (some ⟨d, 0, none⟩)] 151) := ⟨_, rfl⟩
  rw [← hW]
  have C := Blk.fresh hW
  have h2 : Below w1.heap.size w1 W2 := by rw [hW]; exact bel_alloc _ _
  exact ⟨_, d, M, rfl, ⟨C, D1.on h2, Nat.zero_le _⟩, n1, h1.size, after h1 h2⟩
def limI (n : Int) : Int := mnI (mxI n 1) 16
def newT (seed lim R : Int) : TS := ⟨seed, limI lim, [], newS R⟩
def NewTR (seed lim R : Int) (w : World) (r : Ending) (w' : World) : Prop := ∃ t M, r = .returned (.pointer (some ⟨t, 0, none⟩)) ∧ TbA t (newT seed lim R) w' M ∧ (∀ b, M b → w.heap.size ≤ b) ∧ Below w.heap.size w w'
theorem tnew_c (seed lim R : Int) (w : World) : Calls Tryz.prog 113 #[.int .i64 seed, .int .i64 lim, .int .i64 R] w fun r w' => NewTR seed lim R w r w' := by
  have HN := Lib.hid (snew_t R w)
  have hmn := @run_mn Tryz.prog
  have hmx := @run_mx Tryz.prog
  go_enter Tryz.func113, Tryz.ntmps113
  go_wp2_with (go_at_call 161; refine HN.out.mono ?_; rintro e_ w1 ⟨s, d, Ms, rfl, D1, n1, n2, h1⟩)
  go_returns
  obtain ⟨W2, hW⟩ : ∃ W2, W2 = w1.alloc (.cells #[.pointer (some ⟨s, 0, none⟩), .int .i64 seed, .int .i64 (limI lim), .slice none 0 0] 135) := ⟨_, rfl⟩
  have C := Blk.fresh hW
  have h2 : Below w1.heap.size w1 W2 := by rw [hW]; exact bel_alloc _ _
  unfold limI at hW
  rw [← hW]
  refine ⟨_, TbM w1.heap.size s (.slice none 0 0) Ms (fun _ => False), rfl, ⟨s, d, _, [], Ms, fun _ => False, ⟨C, D1.on h2, Owns.nil, fun _ h => h, rfl⟩, fun _ => Iff.rfl⟩, fun b hb => ?_, after h1 h2⟩
  rcases hb with rfl | rfl | hb | hb | hb
  · exact h1.size
  · exact n2
  · exact n1 _ hb
  · cases hb
  · cases hb
def NewWR (seed lim R : Int) (w : World) (r : Ending) (w' : World) : Prop := ∃ wd t M, r = .returned (.pointer (some ⟨wd, 0, none⟩)) ∧ WdA wd t (newT seed lim R) 0 w' M ∧ (∀ b, M b → w.heap.size ≤ b) ∧ Below w.heap.size w w'
theorem wnew_c (seed lim R : Int) (w : World) : Calls Tryz.prog 72 #[.int .i64 seed, .int .i64 lim, .int .i64 R] w fun r w' => NewWR seed lim R w r w' := by
  have HN := Lib.hid (tnew_c seed lim R w)
  go_enter Tryz.func72, Tryz.ntmps72
  go_wp2_with (go_at_call 113; refine HN.out.mono ?_; rintro e_ w1 ⟨t, Mt, rfl, T1, n1, h1⟩)
  go_returns
  obtain ⟨W2, hW⟩ : ∃ W2, W2 = w1.alloc (.cells #[.pointer (some ⟨t, 0, none⟩), .slice none 0 0] 114) := ⟨_, rfl⟩
  have C := Blk.fresh hW
  have h2 : Below w1.heap.size w1 W2 := by rw [hW]; exact bel_alloc _ _
  rw [← hW]
  refine ⟨_, t, fun b => b = w1.heap.size ∨ Value.ownBlock (.slice none 0 0) = some b ∨ Mt b, rfl, ⟨.slice none 0 0, [], Mt, C, Owns.nil, Nat.zero_le _, (tbA_fit t _).on T1 h2, fun _ => Iff.rfl⟩, fun b hb => ?_, after h1 h2⟩
  rcases hb with rfl | hb | hb
  · exact h1.size
  · cases hb
  · exact n1 _ hb
end Go.Proofs.YtmbccnioijokfaaGreatDoor

namespace Go.Proofs.YtmbccnioijokfaaGreatDoor
open Go.RowKit Go.Maps
attribute [local go_sem] Oper.semAt_some
def kc (c : Cl) : Lit := .string (keyBytes [.int .i64 c.1, .int .i64 c.2.1, .int .i64 c.2.2])
abbrev cellV (c : Cl) : Value := .agg #[.int .i64 c.1, .int .i64 c.2.1, .int .i64 c.2.2]
def In3 (c : Cl) : Prop := In64 c.1 ∧ In64 c.2.1 ∧ In64 c.2.2
theorem kt : Tryz.prog.keyType 43 = true := by kernel_rfl
abbrev QI := Int × Cl
abbrev encQ (x : QI) : List Value := [.int .i64 x.1, .int .i64 x.2.1, .int .i64 x.2.2.1, .int .i64 x.2.2.2]
theorem lenQ (x : QI) : (encQ x).length = 4 := rfl
structure QS where
  room : Int
  lost : Int
  l : List QI
def atQ (l : List QI) (c : Cl) : Int := match l.find? fun p => decide (p.2 = c) with
  | some p => p.1
  | none => 0
def hasQ (l : List QI) (c : Cl) : Bool := l.any fun p => decide (p.2 = c)
abbrev DU := DataW Unit
structure Tell (D : DU) (l : List QI) : Prop where
  size : Maps.size D = l.length
  has : ∀ c, In3 c → Maps.has D (kc c) = hasQ l c
  at_ : ∀ c, In3 c → D.atKey (kc c) (.lit (.int .i64 0)) = .lit (.int .i64 (atQ l c))
  far : ∀ p ∈ l, In3 p.2 ∧ In64 p.1
theorem tell_nil : Tell (.map []) [] := ⟨rfl, fun _ _ => rfl, fun _ _ => rfl, fun p hp => by cases hp⟩
end Go.Proofs.YtmbccnioijokfaaGreatDoor

namespace Go.Proofs.YtmbccnioijokfaaGreatDoor
open Go.RowKit Go.Maps
attribute [local go_sem] Oper.semAt_some
noncomputable abbrev RI : Value → Option (DU × List MemPlace) := plainElem Tryz.prog 3
def QA (q : Nat) (Q : QS) : Asn := fun w M => ∃ v m D, Blk w q 175 #[.int .i64 Q.room, .int .i64 Q.lost, v, .map (some m)] ∧ Owns w 0 92 4 encQ v Q.l ∧ w.ownsMap Tryz.prog 43 RI m Q.l.length D ∧ Tell D Q.l ∧ ∀ b, M b ↔ b = q ∨ v.ownBlock = some b ∨ b = m
theorem qmap_kept {w w' : World} {K : Nat → Prop} {m n : Nat} {D : DU} (h : w.ownsMap Tryz.prog 43 RI m n D) (hk : Kept K w w') (hm : K m) : w'.ownsMap Tryz.prog 43 RI m n D := by
  have hlt := h.lt
  obtain ⟨es, clock, hb, F, hs, hD⟩ := h
  exact ⟨es, clock, (hk.block m hlt hm).trans hb, F, hs, hD⟩
theorem map_no {w : World} {m n : Nat} {D : DU} {ty : TypeId} {cs : Array Value} (h : w.ownsMap Tryz.prog 43 RI m n D) : ¬ Blk w m ty cs := fun hB => by
  obtain ⟨es, clock, hb, -⟩ := h
  unfold Blk at hB
  rw [hb] at hB
  cases hB
def QT (ty : TypeId) : Prop := ty = 175 ∨ ty = 92
section
variable {w w' : World} {q : Nat} {Q : QS} {M K : Nat → Prop}
theorem QA.type (h : QA q Q w M) {b : Nat} (hb : M b) : b < w.heap.size ∧ ∀ ty cs, Blk w b ty cs → QT ty := by
  obtain ⟨v, m, D, h1, h2, h3, -, hM⟩ := h
  rcases (hM b).1 hb with rfl | hb | rfl
  · exact ⟨h1.lt, fun ty cs hB => .inl (one_type hB h1)⟩
  · obtain ⟨-, cur, h4⟩ := own_at h2 hb
    exact ⟨h4.lt, fun ty cs hB => .inr (one_type hB h4)⟩
  · exact ⟨h3.lt, fun ty cs hB => absurd hB (map_no h3)⟩
theorem qA_fit (q : Nat) (Q : QS) : Asn.Fit 5 (QA q Q) where
  lt := fun h b hb => (h.type hb).1
  nob := fun h b hb cs hB => by
    rcases (h.type hb).2 _ _ hB with h | h <;> revert h <;> decide
  kept := fun ⟨v, m, D, h1, h2, h3, h4, hM⟩ hk k1 k2 => ⟨v, m, D, hk.blk (k1 _ ((hM _).2 (.inl rfl))) h1, h2.keep hk (fun b hb => k1 b ((hM b).2 (.inr (.inl hb)))), qmap_kept h3 hk (k1 _ ((hM _).2 (.inr (.inr rfl)))), h4, hM⟩
end
def newQ (room : Int) : QS := ⟨mnI (mxI room 1) 4096, 0, []⟩
def NewQR (room : Int) (w : World) (r : Ending) (w' : World) : Prop := ∃ q M, r = .returned (.pointer (some ⟨q, 0, none⟩)) ∧ QA q (newQ room) w' M ∧ (∀ b, M b → w.heap.size ≤ b) ∧ Below w.heap.size w w'
theorem qnew_c (room : Int) (w : World) : Calls Tryz.prog 111 #[.int .i64 room] w fun r w' => NewQR room w r w' := by
  have hmn := @run_mn Tryz.prog
  have hmx := @run_mx Tryz.prog
  have hmm := @run_makeMap Tryz.prog
  go_enter Tryz.func111, Tryz.ntmps111
  go_wp2_with fail
  go_returns
  obtain ⟨W1, hW1⟩ : ∃ W1, W1 = w.alloc (.map #[] 0) := ⟨_, rfl⟩
  have hm : W1.ownsMap Tryz.prog 43 RI w.heap.size 0 (.map []) := by rw [hW1]; exact World.ownsMap_made _ _ _ _
  have hs1 : W1.heap.size = w.heap.size + 1 := by rw [hW1]; simp
  have h1 : Below w.heap.size w W1 := by rw [hW1]; exact bel_alloc _ _
  rw [← hW1]
  obtain ⟨W2, hW2⟩ : ∃ W2, W2 = W1.alloc (.cells #[.int .i64 (mnI (mxI room 1) 4096), .int .i64 0, .slice none 0 0, .map (some w.heap.size)] 175) := ⟨_, rfl⟩
  have h2 : Below W1.heap.size W1 W2 := by rw [hW2]; exact bel_alloc _ _
  have C := Blk.fresh hW2
  rw [hs1] at C
  rw [← hW2]
  refine ⟨w.heap.size + 1, fun b => b = w.heap.size + 1 ∨ Value.ownBlock (.slice none 0 0) = some b ∨ b = w.heap.size, rfl, ⟨_, w.heap.size, .map [], C, Owns.nil, qmap_kept (K := fun _ => True) hm ((Kept.of_below h2).mono fun _ _ => trivial) trivial, tell_nil, fun _ => Iff.rfl⟩, fun b hb => ?_, after h1 h2⟩
  rcases hb with rfl | hb | rfl
  · exact Nat.le_succ _
  · cases hb
  · exact Nat.le_refl _
end Go.Proofs.YtmbccnioijokfaaGreatDoor

namespace Go.Proofs.YtmbccnioijokfaaGreatDoor
open Go.RowKit Go.Maps
attribute [local go_sem] Oper.semAt_some
abbrev encCl (c : Cl) : List Value := [.int .i64 c.1, .int .i64 c.2.1, .int .i64 c.2.2]
theorem lenCl (c : Cl) : (encCl c).length = 3 := rfl
def DueR (q : Nat) (Q' : QS) (out : List Cl) (w : World) (M : Nat → Prop) (r : Ending) (w' : World) : Prop := ∃ v, r = .returned v ∧ Owns w' w.heap.size 43 3 encCl v out ∧ Aft (QA q Q') w M w'
set_option maxRecDepth 100000 in
set_option maxHeartbeats 1000000 in
theorem qdel0_c (q : Option Addr) (n cp : Nat) (hn : q = none → n = 0 ∧ cp = 0) (hc : n ≤ cp) (w : World) : Calls Tryz.prog 273 #[.slice q n cp, .int .i64 0, .int .i64 0] w fun r w' => r = .returned (.slice q n cp) ∧ w = w' := by
  have h1 : (n : Int) ≤ (cp : Int) := by omega
  have h2 : (0 : Int) ≤ (n : Int) := by omega
  rcases q with _ | a
  · obtain ⟨rfl, rfl⟩ := hn rfl
    go_enter Tryz.func273, Tryz.ntmps273
    go_wp2_with fail
    go_returns
    exact ⟨rfl, rfl⟩
  · clear hn
    go_enter Tryz.func273, Tryz.ntmps273
    go_wp2_with fail
    go_returns
    exact ⟨rfl, rfl⟩
theorem due_same {q : Nat} {Q : QS} {w : World} {M : Nat → Prop} {a b v d : Value} (h : QA q Q w M) (hB : Blk w q 175 #[a, b, v, d]) : ∀ w', w' = w.setCell ⟨q, 2, none⟩ v → DueR q Q [] w M (.returned (.slice none 0 0)) w' := by
  rintro w' rfl
  refine ⟨_, rfl, Owns.nil, ?_⟩
  have hk : Kept (fun b => b ≠ q) w (w.setCell ⟨q, 2, none⟩ v) := (Kept.refl _ _).setCell (by simp) _
  obtain ⟨v', m, D, h1, h2, h3, h4, hM⟩ := h
  have e : (#[a, b, v, d] : Array Value) = #[.int .i64 Q.room, .int .i64 Q.lost, v', .map (some m)] := by
    unfold Blk at hB h1
    rw [hB] at h1
    simpa using h1
  simp at e
  obtain ⟨rfl, rfl, rfl, rfl⟩ := e
  have hB2 := h1.set_ 2 v
  refine ⟨M, ⟨v, m, D, hB2, h2.keep hk fun b hb e => ?_, qmap_kept h3 hk (fun e => map_no h3 (by rw [e]; exact h1)), h4, hM⟩, fun b hb => .inl hb, hk.mono fun b hb e => hb ((hM _).2 (.inl e))⟩
  obtain ⟨-, cur, h5⟩ := own_at h2 hb
  subst e
  exact absurd (one_type h5 h1) (by decide)
set_option maxRecDepth 100000 in
set_option maxHeartbeats 4000000 in
theorem qdue0_c (q : Nat) (Q : QS) (now many : Int) (hl : Q.l = []) (w : World) (M : Nat → Prop) (h : QA q Q w M) :
    Calls Tryz.prog 202 #[.pointer (some ⟨q, 0, none⟩), .int .i64 now, .int .i64 many] w fun r w' => DueR q Q [] w M r w' := by
  have HQ := Lib.hid h
  obtain ⟨v, m, D, h1, h2, -⟩ := h
  rw [hl] at h2
  obtain ⟨q0, cp, rfl, hc1, -, -, -, -⟩ := h2.form lenQ
  have hq0 : q0 = none → ([] : List QI).length = 0 ∧ cp = 0 := fun e => by
    rcases h2.2 with ⟨hv, -⟩ | ⟨g, cap, cur, hv, -⟩
    · cases hv; exact ⟨rfl, rfl⟩
    · cases hv; cases e
  have HD := Lib.hid fun W => qdel0_c q0 0 cp hq0 (Nat.zero_le _) W
  have b2 := h1.cell 2
  have f2 := h1.frz 2
  have HF := Lib.hid (due_same HQ.out h1)
  have hcp : (0 : Int) ≤ (cp : Int) := by omega
  clear h1 h2 hq0 hc1 hl
  rcases q0 with _ | a
  · go_enter Tryz.func202, Tryz.ntmps202
    go_upto_region 2 with (fail)
    refine wp_loop_rounds 1 ?_
    rw [rounds_succ]
    go_upto_region 6 with (fail)
    refine wp_loop_rounds 1 ?_
    rw [rounds_succ]
    go_wp2_with (go_at_call 273; refine (HD.out _).mono ?_; rintro e_ w1 ⟨rfl, rfl⟩)
    go_returns
    exact HF.out _ rfl
  · go_enter Tryz.func202, Tryz.ntmps202
    go_upto_region 2 with (fail)
    refine wp_loop_rounds 1 ?_
    rw [rounds_succ]
    go_upto_region 6 with (fail)
    refine wp_loop_rounds 1 ?_
    rw [rounds_succ]
    go_wp2_with (go_at_call 273; refine (HD.out _).mono ?_; rintro e_ w1 ⟨rfl, rfl⟩)
    go_returns
    exact HF.out _ rfl
set_option maxRecDepth 100000 in
set_option maxHeartbeats 4000000 in
theorem qdue2_c (q : Nat) (Q : QS) (x : QI) (now many : Int) (hl : Q.l = [x]) (hx : now < x.1) (w : World) (M : Nat → Prop) (h : QA q Q w M) :
    Calls Tryz.prog 202 #[.pointer (some ⟨q, 0, none⟩), .int .i64 now, .int .i64 many] w fun r w' => DueR q Q [] w M r w' := by
  have HQ := Lib.hid h
  obtain ⟨v, m, D, h1, h2, -⟩ := h
  rw [hl] at h2
  obtain ⟨q0, cp, rfl, hc1, -, hrd, -, hq0⟩ := h2.form lenQ
  obtain ⟨g, rfl⟩ := hq0 (by simp)
  have hrd' := hrd (by simp)
  obtain ⟨g', o', e, h5⟩ := hrd'
  simp at e
  obtain ⟨rfl, rfl⟩ := e
  have r0 : w.cell? ⟨g, 0, none⟩ = some (.int .i64 x.1) := h5 0 x rfl 0 _ rfl
  simp only [List.length_singleton] at hc1
  have HD := Lib.hid fun W => qdel0_c (some ⟨g, 0, none⟩) 1 cp (fun e => by cases e) hc1 W
  have b2 := h1.cell 2
  have f2 := h1.frz 2
  have HF := Lib.hid (due_same HQ.out h1)
  have hcp : (0 : Int) ≤ (cp : Int) := by omega
  have hcp1 : (1 : Int) ≤ (cp : Int) := by omega
  have hx1 : ¬ x.1 ≤ now := by omega
  clear h1 h2 hc1 hl hrd h5 hx hq0
  by_cases hm : (0 : Int) < many
  · go_enter Tryz.func202, Tryz.ntmps202
    go_upto_region 2 with (fail)
    refine wp_loop_rounds 1 ?_
    rw [rounds_succ]
    go_upto_region 6 with (fail)
    refine wp_loop_rounds 1 ?_
    rw [rounds_succ]
    go_wp2_with (go_at_call 273; refine (HD.out _).mono ?_; rintro e_ w1 ⟨rfl, rfl⟩)
    go_returns
    exact HF.out _ rfl
  · go_enter Tryz.func202, Tryz.ntmps202
    go_upto_region 2 with (fail)
    refine wp_loop_rounds 1 ?_
    rw [rounds_succ]
    go_upto_region 6 with (fail)
    refine wp_loop_rounds 1 ?_
    rw [rounds_succ]
    go_wp2_with (go_at_call 273; refine (HD.out _).mono ?_; rintro e_ w1 ⟨rfl, rfl⟩)
    go_returns
    exact HF.out _ rfl
end Go.Proofs.YtmbccnioijokfaaGreatDoor

namespace Go.Proofs.YtmbccnioijokfaaGreatDoor
open Go.RowKit Go.Maps
attribute [local go_sem] Oper.semAt_some
theorem infCl : (Tryz.prog.info? 43).map (fun i => (i.zero, i.size, i.bytes)) = some (some (.agg #[.int .i64 0, .int .i64 0, .int .i64 0]), 3, 24) := by kernel_rfl
theorem cl_push {B : Nat} {v : Value} {xs : List Cl} {p : Cl} {W : World} {b : Nat} (hO : Owns W B 43 3 encCl v xs) (h8 : Blk W b 43 #[.int .i64 p.1, .int .i64 p.2.1, .int .i64 p.2.2]) (hl : xs.length ≤ 1000000) (hB : B ≤ W.heap.size) :
    ∃ q c w', (Builtin.append_ #[47, 47] 47 #[v, .slice (some ⟨b, 0, none⟩) 1 1]).run Tryz.prog W = .ok (.slice q (xs.length + 1) c) w' ∧ Owns w' B 43 3 encCl (.slice q (xs.length + 1) c) (xs ++ [p]) ∧ Below B W w' := by
  obtain ⟨v', w', hrun, V2, -, hb2, g2, c2, rfl⟩ := run_push (P := Tryz.prog) (ts := 47) (ty := 47) (x := p) (b := b) Tryz.underlying47 infCl rfl (by decide) (by decide) rfl (by intro u hu; simp [encCl] at hu; rcases hu with rfl | rfl | rfl <;> rfl) hO (fun j u hu => by rw [h8.cell j]; simpa [encCl] using hu) (by omega) hB
  exact ⟨_, _, w', hrun, V2, hb2⟩
end Go.Proofs.YtmbccnioijokfaaGreatDoor

namespace Go.Proofs.YtmbccnioijokfaaGreatDoor
open Go.RowKit Go.Maps
attribute [local go_sem] Oper.semAt_some
def dlyI (n : Int) : Int := if fallB n then 2 else if wetB n then 5 else 0
theorem delay_c (n : Int) (w : World) : Calls Tryz.prog 251 #[.int .i64 n] w fun r w' => r = .returned (.int .i64 (dlyI n)) ∧ w = w' := by
  have HF := Lib.hid (falls_c n w)
  have HW := Lib.hid (wet_c n w)
  unfold dlyI
  cases h1 : fallB n
  · rw [h1] at HF
    cases h2 : wetB n
    · rw [h2] at HW
      clear h1 h2
      go_enter Tryz.func251, Tryz.ntmps251
      go_wp2_with first
        | (go_at_call 275; refine HF.out.mono ?_; rintro e_ w1 ⟨rfl, rfl⟩)
        | (go_at_call 259; refine HW.out.mono ?_; rintro e_ w1 ⟨rfl, rfl⟩)
      go_returns
      exact ⟨rfl, rfl⟩
    · rw [h2] at HW
      clear h1 h2
      go_enter Tryz.func251, Tryz.ntmps251
      go_wp2_with first
        | (go_at_call 275; refine HF.out.mono ?_; rintro e_ w1 ⟨rfl, rfl⟩)
        | (go_at_call 259; refine HW.out.mono ?_; rintro e_ w1 ⟨rfl, rfl⟩)
      go_returns
      exact ⟨rfl, rfl⟩
  · rw [h1] at HF
    clear h1
    go_enter Tryz.func251, Tryz.ntmps251
    go_wp2_with (go_at_call 275; refine HF.out.mono ?_; rintro e_ w1 ⟨rfl, rfl⟩)
    go_returns
    exact ⟨rfl, rfl⟩
def nearL (c : Cl) : List Cl := [(c.1 - 1, c.2.1, c.2.2), (c.1 + 1, c.2.1, c.2.2), (c.1, c.2.1 - 1, c.2.2), (c.1, c.2.1 + 1, c.2.2), (c.1, c.2.1, c.2.2 - 1), (c.1, c.2.1, c.2.2 + 1)]
def Mid (c : Cl) : Prop := (-1000000000 ≤ c.1 ∧ c.1 ≤ 1000000000) ∧ (-1000000000 ≤ c.2.1 ∧ c.2.1 ≤ 1000000000) ∧ (-1000000000 ≤ c.2.2 ∧ c.2.2 ≤ 1000000000)
def nearV (c : Cl) : Array Value := #[.int .i64 (c.1 - 1), .int .i64 c.2.1, .int .i64 c.2.2, .int .i64 (c.1 + 1), .int .i64 c.2.1, .int .i64 c.2.2, .int .i64 c.1, .int .i64 (c.2.1 - 1), .int .i64 c.2.2, .int .i64 c.1, .int .i64 (c.2.1 + 1), .int .i64 c.2.2, .int .i64 c.1, .int .i64 c.2.1, .int .i64 (c.2.2 - 1), .int .i64 c.1, .int .i64 c.2.1, .int .i64 (c.2.2 + 1)]
theorem cc_mid {n : Int} (h : -1000000001 ≤ n ∧ n ≤ 1000000001) : ccI n = n := by unfold ccI mnI mxI; omega
theorem near_mid {c : Cl} (h : Mid c) : nearA c.1 c.2.1 c.2.2 = nearV c := by
  obtain ⟨h1, h2, h3⟩ := h
  simp only [nearA, nearV]
  have e1 := cc_mid (n := c.1) (by omega)
  have e2 := cc_mid (n := c.2.1) (by omega)
  have e3 := cc_mid (n := c.2.2) (by omega)
  rw [e1, e2, e3, e1, e2, e3, cc_mid (n := c.1 + -1) (by omega), cc_mid (n := c.1 + 1) (by omega), cc_mid (n := c.2.1 + -1) (by omega), cc_mid (n := c.2.1 + 1) (by omega), cc_mid (n := c.2.2 + -1) (by omega), cc_mid (n := c.2.2 + 1) (by omega)]
  simp only [Int.sub_eq_add_neg]
theorem cnear_m (c : Cl) (h : Mid c) (w : World) : Calls Tryz.prog 186 #[cellV c] w fun r w' => r = .returned (.agg (nearV c)) ∧ Below w.heap.size w w' := by
  have := cnear_c c.1 c.2.1 c.2.2 w
  rw [near_mid h] at this
  exact this
end Go.Proofs.YtmbccnioijokfaaGreatDoor

namespace Go.Proofs.YtmbccnioijokfaaGreatDoor
open Go.RowKit Go.Maps
attribute [local go_sem] Oper.semAt_some
def wakeL (val : Cl → Int) (c : Cl) : List Cl := (c :: nearL c).filter fun d => decide (0 < dlyI (val d))
def RowCl (w : World) (xs : List Cl) (r : Ending) (w' : World) : Prop := ∃ v, r = .returned v ∧ Owns w' w.heap.size 43 3 encCl v xs ∧ Below w.heap.size w w'
def Sl7 (N : Nat) (c : Cl) (v : Value) (w : World) : Prop := ∃ g cap, v = .slice (some ⟨g, 0, none⟩) 7 cap ∧ Owns w N 43 3 encCl (.slice (some ⟨g, 0, none⟩) 7 cap) (c :: nearL c)
def Sl1 (c : Cl) (v : Value) (w : World) : Prop := ∃ b, v = .slice (some ⟨b, 0, none⟩) 1 1 ∧ Blk w b 43 #[.int .i64 c.1, .int .i64 c.2.1, .int .i64 c.2.2]
def wkR (N : Nat) (c : Cl) : Nat → Rel := fun i v w => match i with | 1 => Sl1 c v w | 3 => Sl7 N c v w | 4 => v = .int .i64 7 | _ => True
theorem wkR_on {N : Nat} {c : Cl} : ∀ i v (w w' : World), wkR N c i v w → Below w.heap.size w w' → wkR N c i v w'
  | 1, _, _, _, ⟨b, h1, h2⟩, hb => ⟨b, h1, h2.on hb⟩
  | 3, _, _, _, ⟨g, cap, h1, h2⟩, hb => ⟨g, cap, h1, h2.on hb⟩
  | 4, _, _, _, h, _ => h
  | 0, _, _, _, _, _ => trivial
  | 2, _, _, _, _, _ => trivial
  | _ + 5, _, _, _, _, _ => trivial
theorem rd_near {w : World} {g : Nat} {t : TypeId} {c : Cl} (h : Blk w g t (nearV c)) : Rd w (some ⟨g, 0, none⟩) 3 encCl (nearL c) := fun _ => by
  refine ⟨g, 0, rfl, fun i x hx j u hu => ?_⟩
  have hi : i < 6 := (List.getElem?_eq_some_iff.1 hx).1
  have hj : j < 3 := (List.getElem?_eq_some_iff.1 hu).1
  rw [h.cell]
  have hi' : i = 0 ∨ i = 1 ∨ i = 2 ∨ i = 3 ∨ i = 4 ∨ i = 5 := by omega
  have hj' : j = 0 ∨ j = 1 ∨ j = 2 := by omega
  rcases hi' with rfl | rfl | rfl | rfl | rfl | rfl <;> (obtain rfl := Option.some.inj hx; rcases hj' with rfl | rfl | rfl <;> exact hu)
theorem one_cl : ∀ xs : List Cl, ∀ x ∈ xs, ∀ u ∈ encCl x, u.oneCell' = true := fun _ x _ u hu => by simp [encCl] at hu; rcases hu with rfl | rfl | rfl <;> rfl
theorem rd_one {w : World} {b : Nat} {c : Cl} (h : Blk w b 43 #[.int .i64 c.1, .int .i64 c.2.1, .int .i64 c.2.2]) : Rd w (some ⟨b, 0, none⟩) 3 encCl [c] := fun _ => by
  refine ⟨b, 0, rfl, fun i x hx j u hu => ?_⟩
  have hi : i < 1 := (List.getElem?_eq_some_iff.1 hx).1
  have hj : j < 3 := (List.getElem?_eq_some_iff.1 hu).1
  obtain rfl : i = 0 := by omega
  obtain rfl := Option.some.inj hx
  have hj' : j = 0 ∨ j = 1 ∨ j = 2 := by omega
  rw [h.cell]
  rcases hj' with rfl | rfl | rfl <;> exact hu
theorem run_seven {w : World} {b g N : Nat} {c : Cl} {t : TypeId} (h1 : Blk w b 43 #[.int .i64 c.1, .int .i64 c.2.1, .int .i64 c.2.2]) (h2 : Blk w g t (nearV c)) (hN : N ≤ w.heap.size) :
    ∃ v' w', (Builtin.append_ #[47, 47] 47 #[.slice (some ⟨b, 0, none⟩) 1 1, .slice (some ⟨g, 0, none⟩) 6 6]).run Tryz.prog w = .ok v' w' ∧ Below w.heap.size w w' ∧ Sl7 N c v' w' := by
  obtain ⟨cap, w', hrun, ho, hb⟩ := run_fresh (P := Tryz.prog) (ts := 47) (ty := 47) (c := 1) (c2 := 6) Tryz.underlying47 infCl rfl (by decide) lenCl (one_cl _) (one_cl _) (rd_one h1) (rd_near h2) (by simp [nearL]) (by simp [nearL])
  exact ⟨_, w', hrun, hb, _, cap, rfl, ho.lowB hN⟩
theorem far_near {c : Cl} (h : Mid c) : ∀ d ∈ c :: nearL c, FarC d := fun d hd => by
  obtain ⟨h1, h2, h3⟩ := h
  simp [nearL] at hd
  unfold FarC In64
  rcases hd with rfl | rfl | rfl | rfl | rfl | rfl | rfl <;> (try dsimp only) <;> omega
def WkIf (N : Nat) (w wr : World) (xs : List Cl) (v : Value) : Prop := Owns wr N 43 3 encCl v xs ∧ Below w.heap.size w wr
set_option maxRecDepth 100000 in
set_option maxHeartbeats 4000000 in
theorem wakes_c (t : Nat) (val : Cl → Int) (c : Cl) (hc : Mid c) (w : World) (hV : Tells Tryz.prog 67 (.pointer (some ⟨t, 0, none⟩)) val w) :
    Calls Tryz.prog 250 #[viewV t, cellV c] w fun r w' => RowCl w (wakeL val c) r w' := by
  generalize hxs : wakeL val c = xs
  unfold wakeL at hxs
  have HXS := Lib.hid hxs
  clear hxs
  obtain ⟨W, hW⟩ : ∃ W, W = w.alloc (.cells #[.int .i64 c.1, .int .i64 c.2.1, .int .i64 c.2.2] 43) := ⟨_, rfl⟩
  have H : Below w.heap.size w W := by rw [hW]; exact bel_alloc _ _
  have C : Blk W w.heap.size 43 #[.int .i64 c.1, .int .i64 c.2.1, .int .i64 c.2.2] := Blk.fresh hW
  have HNE := Lib.hid fun W2 => cnear_m c hc W2
  have HV := Lib.hid hV
  have HC := Lib.hid C
  have HH := Lib.hid H
  have HMID := Lib.hid hc
  obtain ⟨c0, c1, c2, -, -, -⟩ := C.c3
  clear hV H C hc
  go_enter Tryz.func250, Tryz.ntmps250
  go_upto_region 2 with (fail)
  rw [← hW]
  clear hW
  have hone := Lib.hid (show (nearV c).all (·.oneCell') = true by simp [nearV, Value.oneCell'])
  go_upto_region 3 with first
    | (go_at_call 186; refine (HNE.out _).mono ?_; rintro e_ w1 ⟨rfl, g1⟩; have G1 := Lib.hid (after HH.out g1); have HC1 := Lib.hid (HC.out.on g1); clear g1)
    | (refine wpList_store_rowTo rfl 257 _ _ rfl rfl w1.heap.size (nearV c) rfl rfl 257 _ (Blk.new' rfl) (by kernel_rfl) rfl hone.out ?_)
  obtain ⟨W1, hW1⟩ : ∃ W1, W1 = w1.alloc (.cells #[.int .i64 0, .int .i64 0, .int .i64 0, .int .i64 0, .int .i64 0, .int .i64 0, .int .i64 0, .int .i64 0, .int .i64 0, .int .i64 0, .int .i64 0, .int .i64 0, .int .i64 0, .int .i64 0, .int .i64 0, .int .i64 0, .int .i64 0, .int .i64 0] 257) := ⟨_, rfl⟩
  have g1 : Below w1.heap.size w1 W1 := by rw [hW1]; exact bel_alloc _ _
  have X1 := Blk.fresh hW1
  rw [← hW1]
  obtain ⟨W2, hW2⟩ : ∃ W2, W2 = W1.setRow w1.heap.size (nearV c) := ⟨_, rfl⟩
  have g2 : Below w1.heap.size w1 W2 := by rw [hW2]; exact below_row g1 (Nat.le_refl _) _
  have X2 : Blk W2 w1.heap.size 257 (nearV c) := by rw [hW2]; exact X1.row _
  rw [← hW2]
  have HX2 := Lib.hid X2
  have G2 := Lib.hid (after G1.out g2)
  have HC2 := Lib.hid (HC1.out.on g2)
  clear hW1 g1 X1 hW2 g2 X2 c0 c1 c2 hone
  obtain ⟨c0, c1, c2⟩ := HC2.out.re3
  refine wp_sched [0, 2, 0, 2, 2, 0] (wkR w.heap.size c) (by kernel_rfl) (by kernel_rfl) (wkR_on) ?_
  repeat (first | (refine wpQs_s ?_) | (refine wpQs_q (fun K hK => ?_); go_simp; first | (refine hK _ ?_; clear hK K) | (apply Exists.intro; refine ⟨fun _ => ?_, hK _ ?_⟩; (fail); clear hK K)) | (refine wpQs_f (fun K hK => ?_); go_simp; refine hK _ ?_; clear hK K))
  refine wpQs_nil ?_
  refine wpLs_skip ?_
  refine wpLs_one ?lsA (fun v_ => ?_)
  case lsA => (intro w_ hw_ hp_; (first | (dsimp only at hF_; obtain ⟨b9, rfl, hB9⟩ := (show Sl1 _ _ _ from hF_.2 (by kernel_rfl)); obtain ⟨v9, w9, hr9, hb9, hS9⟩ := run_seven hB9 (HX2.out.on (msd_kept hw_).none) (Nat.le_trans G2.out.size (msd_kept hw_).size); exact sumAt_append _ _ _ _ rfl _ _ rfl rfl v9 w9 hr9 ((Kept.of_below hb9).mono fun _ _ => trivial) hS9) | (dsimp only at hF_; obtain ⟨g9, c9, rfl, -⟩ := (show Sl7 _ _ _ _ from hF_.2 (by kernel_rfl)); go_simp; exact ⟨Kept.refl _ _, rfl⟩) | (go_simp; exact ⟨Kept.of_below ((Below.refl _ _).alloc (Nat.le_refl _) _), _, rfl, Blk.new' rfl⟩)))
  refine wpLs_skip ?_
  refine wpLs_oneF ?lsA (fun v_ => ?_)
  case lsA => (intro w_ hw_ hp_ hF_; (first | (dsimp only at hF_; obtain ⟨b9, rfl, hB9⟩ := (show Sl1 _ _ _ from hF_.2 (by kernel_rfl)); obtain ⟨v9, w9, hr9, hb9, hS9⟩ := run_seven hB9 (HX2.out.on (msd_kept hw_).none) (Nat.le_trans G2.out.size (msd_kept hw_).size); exact sumAt_append _ _ _ _ rfl _ _ rfl rfl v9 w9 hr9 ((Kept.of_below hb9).mono fun _ _ => trivial) hS9) | (dsimp only at hF_; obtain ⟨g9, c9, rfl, -⟩ := (show Sl7 _ _ _ _ from hF_.2 (by kernel_rfl)); go_simp; exact ⟨Kept.refl _ _, rfl⟩) | (go_simp; exact ⟨Kept.of_below ((Below.refl _ _).alloc (Nat.le_refl _) _), _, rfl, Blk.new' rfl⟩)))
  refine wpLs_oneF ?lsA (fun v_ => ?_)
  case lsA => (intro w_ hw_ hp_ hF_; (first | (dsimp only at hF_; obtain ⟨b9, rfl, hB9⟩ := (show Sl1 _ _ _ from hF_.2 (by kernel_rfl)); obtain ⟨v9, w9, hr9, hb9, hS9⟩ := run_seven hB9 (HX2.out.on (msd_kept hw_).none) (Nat.le_trans G2.out.size (msd_kept hw_).size); exact sumAt_append _ _ _ _ rfl _ _ rfl rfl v9 w9 hr9 ((Kept.of_below hb9).mono fun _ _ => trivial) hS9) | (dsimp only at hF_; obtain ⟨g9, c9, rfl, -⟩ := (show Sl7 _ _ _ _ from hF_.2 (by kernel_rfl)); go_simp; exact ⟨Kept.refl _ _, rfl⟩) | (go_simp; exact ⟨Kept.of_below ((Below.refl _ _).alloc (Nat.le_refl _) _), _, rfl, Blk.new' rfl⟩)))
  refine wpLs_skip ?_
  refine wpLs_nilB ?_
  simp only [tails]
  rintro W3 h3 ⟨⟨⟨-, b9, rfl, -⟩, g7, c7, rfl, ho7⟩, h4⟩
  obtain rfl : _ = Value.int .i64 7 := h4
  have G3 := Lib.hid (after G2.out h3)
  have HFAR := Lib.hid (far_near HMID.out)
  have hrd := (ho7.form lenCl)
  obtain ⟨q', cap', hv', -, -, hrd, -⟩ := hrd
  have e1 : q' = some ⟨g7, 0, none⟩ := by simp at hv'; exact hv'.1.symm
  subst e1
  have HRD := Lib.hid hrd
  have hlen : (c :: nearL c).length = 7 := rfl
  generalize c :: nearL c = L at *
  clear hrd hv' ho7 c0 c1 c2 HX2 HC2 HMID HNE HC1 h3
  go_upto_region 4 with (fail)
  simp only [Act.put]
  go_simp
  go_loopw [5, 8, 16] (fun v x i wr => ∃ (k : Nat), i = .int .i64 (k : Nat) ∧ Hid (k ≤ 7) ∧ Hid (WkIf W3.heap.size w wr ((L.take k).filter fun d => decide (0 < dlyI (val d))) v) ∧ Hid (Below W3.heap.size W3 wr)) (fun _ _ i _ => 7 - (intOf i).toNat)
  case atStart => exact ⟨0, rfl, Lib.hid (by omega), Lib.hid ⟨Owns.nil, G3.out⟩, Lib.hid (Below.refl _ _)⟩
  case round =>
    obtain ⟨k, rfl, hk, hI, hB⟩ := hrel
    by_cases hlt : k < 7
    · have hlt' : (k : Int) < 7 := by omega
      have hk0 : (0 : Int) ≤ k := by omega
      have hw : IntKind.i64.wrap ((k : Int) + 1) = (k : Int) + 1 := IntWalk.i64_in _ (by omega)
      obtain ⟨d, hd⟩ : ∃ d, L[k]? = some d := ⟨_, List.getElem?_eq_getElem (by omega)⟩
      have hrd := HRD.out.on hB.out
      have r0 : wr.cell? ⟨g7, 0 + k * 3, none⟩ = some (.int .i64 d.1) := hrd.at hd (j := 0) rfl
      have r1 : wr.cell? ⟨g7, 0 + k * 3 + 1, none⟩ = some (.int .i64 d.2.1) := hrd.at hd (j := 1) rfl
      have r2 : wr.cell? ⟨g7, 0 + k * 3 + 2, none⟩ = some (.int .i64 d.2.2) := hrd.at hd (j := 2) rfl
      have hfd := HFAR.out d (List.mem_of_getElem? hd)
      have hst : L.take (k + 1) = L.take k ++ [d] := by rw [List.take_add_one, hd]; rfl
      have HST := Lib.hid hst
      simp only [Nat.zero_add] at r0 r1 r2
      obtain ⟨W4, hW4⟩ : ∃ W4, W4 = wr.alloc (.cells #[.int .i64 d.1, .int .i64 d.2.1, .int .i64 d.2.2] 43) := ⟨_, rfl⟩
      have h4 : Below wr.heap.size wr W4 := by rw [hW4]; exact bel_alloc _ _
      have X4 := Blk.fresh hW4
      have HAT := Lib.hid (HV.out d hfd W4 (after (after hI.out.2 h4) (Below.refl _ _)))
      obtain ⟨x0, x1, x2, -, -, -⟩ := X4.c3
      clear hd hrd hst hfd
      go_upto_region 6 with (fail)
      rw [← hW4]
      clear hW4 r0 r1 r2
      have HBI := Lib.hid (And.intro hI.out hB.out)
      have H4 := Lib.hid h4
      have HX4 := Lib.hid X4
      clear h4 X4
      generalize hval : val d = vd at *
      have HVAL := Lib.hid hval
      have HDL := Lib.hid fun W => delay_c vd W
      cases hgt : decide (0 < dlyI vd)
      · have hgt' : ¬ (0 : Int) < dlyI vd := of_decide_eq_false hgt
        have HGT := Lib.hid hgt
        clear hgt hval
        go_wp2_with first
          | (go_at_call 67; refine HAT.out.mono ?_; rintro e_ w5 ⟨rfl, g5⟩; have G5 := Lib.hid g5; clear g5)
          | (go_at_call 251; refine (HDL.out _).mono ?_; rintro e_ w6 ⟨rfl, rfl⟩)
        have hb5 := after H4.out G5.out
        exact ⟨⟨k + 1, by go_num, Lib.hid hlt, Lib.hid ⟨by rw [HST.out, List.filter_append]; simp only [List.filter_cons, List.filter_nil, HVAL.out, HGT.out]; rw [if_neg (by decide), List.append_nil]; exact HBI.out.1.1.on hb5, after HBI.out.1.2 hb5⟩, Lib.hid (after HBI.out.2 hb5)⟩, by simp [intOf]; omega⟩
      · have hgt' : (0 : Int) < dlyI vd := of_decide_eq_true hgt
        have HGT := Lib.hid hgt
        have hln : ((L.take k).filter fun d => decide (0 < dlyI (val d))).length ≤ 1000000 := Nat.le_trans (List.length_filter_le _ _) (by rw [List.length_take]; omega)
        have HLN := Lib.hid hln
        clear hgt hval hln
        go_upto_region 7 with first
          | (go_at_call 67; refine HAT.out.mono ?_; rintro e_ w5 ⟨rfl, g5⟩; have G5 := Lib.hid g5; clear g5)
          | (go_at_call 251; refine (HDL.out _).mono ?_; rintro e_ w6 ⟨rfl, rfl⟩)
        clear x0 x1 x2
        obtain ⟨x0, x1, x2, -, -, -⟩ := (HX4.out.on G5.out).c3
        have HO5 := Lib.hid (HBI.out.1.1.on (after H4.out G5.out))
        have hN5 : W3.heap.size ≤ w5.heap.size := (after HBI.out.2 (after H4.out G5.out)).size
        obtain ⟨q6, c6, w7, hrun, ho, hb7⟩ := cl_push (W := w5.alloc (.cells #[.int .i64 d.1, .int .i64 d.2.1, .int .i64 d.2.2] 43)) (p := d) (HO5.out.on (bel_alloc _ _)) (Blk.new' rfl) HLN.out (by simp; omega)
        have HF := Lib.hid (And.intro ho hb7)
        clear ho hb7
        go_wp2_with (at_builtin; refine Lib.wpList_append_run _ rfl _ _ _ _ rfl _ _ rfl rfl _ _ hrun ?_)
        have hb5 := after (after H4.out G5.out) (bel_alloc w5 (.cells #[.int .i64 d.1, .int .i64 d.2.1, .int .i64 d.2.2] 43))
        have hb3 := (after HBI.out.2 hb5).trans HF.out.2
        exact ⟨⟨k + 1, by go_num, Lib.hid hlt, Lib.hid ⟨by rw [HST.out, List.filter_append]; simp only [List.filter_cons, List.filter_nil, HVAL.out, HGT.out]; rw [if_pos trivial]; exact HF.out.1, after G3.out hb3⟩, Lib.hid hb3⟩, by simp [intOf]; omega⟩
    · have hk7 : k = 7 := by have := hk.out; omega
      subst hk7
      have ht : L.take 7 = L := List.take_of_length_le (by omega)
      rw [ht, HXS.out] at hI
      have HI := Lib.hid (And.intro (hI.out.1.lowB G3.out.size) hI.out.2)
      clear hI ht
      go_wp2_with fail
      go_returns
      exact ⟨_, rfl, HI.out.1, HI.out.2⟩
end Go.Proofs.YtmbccnioijokfaaGreatDoor

namespace Go.Proofs.YtmbccnioijokfaaGreatDoor
open Go.RowKit Go.Maps
attribute [local go_sem] Oper.semAt_some
structure SS where
  T : TS
  k : Nat
  Q : QS
  budget : Int
  now : Int
  d : Nat
structure SimAt (w : World) (s wd t q : Nat) (occ : Value) (S : SS) (v : Value) (ds : List Cl) (Mw Mq : Nat → Prop) : Prop where
  blk : Blk w s 111 #[.pointer (some ⟨q, 0, none⟩), .pointer (some ⟨wd, 0, none⟩), .int .i64 S.budget, .int .i64 S.now, occ, v]
  row : Owns w 0 43 3 encCl v ds
  len : ds.length ≤ S.d
  wd : WdA wd t S.T S.k w Mw
  q : QA q S.Q w Mq
  apart : ∀ b, Mw b → ¬ Mq b
def SimM (s : Nat) (v : Value) (Mw Mq : Nat → Prop) (b : Nat) : Prop := b = s ∨ v.ownBlock = some b ∨ Mw b ∨ Mq b
def SimA (s wd t q : Nat) (occ : Value) (S : SS) : Asn := fun w M => ∃ v ds Mw Mq, SimAt w s wd t q occ S v ds Mw Mq ∧ ∀ b, M b ↔ SimM s v Mw Mq b
def SimTy (ty : TypeId) : Prop := ty = 111 ∨ ty = 43 ∨ WdT ty ∨ QT ty
theorem sim_no : ¬ WdT 111 ∧ ¬ QT 111 ∧ ¬ WdT 43 ∧ ¬ QT 43 := by
  refine ⟨fun h => ?_, fun h => ?_, fun h => ?_, fun h => ?_⟩
  · rcases h with h | h | h | h | h | h | h | h | h | h <;> revert h <;> decide
  · rcases h with h | h <;> revert h <;> decide
  · rcases h with h | h | h | h | h | h | h | h | h | h <;> revert h <;> decide
  · rcases h with h | h <;> revert h <;> decide
section
variable {w w' : World} {s wd t q : Nat} {occ v : Value} {S : SS} {ds : List Cl} {Mw Mq M K : Nat → Prop}
theorem SimAt.type (h : SimAt w s wd t q occ S v ds Mw Mq) {b : Nat} (hb : SimM s v Mw Mq b) : b < w.heap.size ∧ ∀ ty cs, Blk w b ty cs → SimTy ty := by
  rcases hb with rfl | hb | hb | hb
  · exact ⟨h.blk.lt, fun ty cs hB => .inl (one_type hB h.blk)⟩
  · obtain ⟨-, cur, h4⟩ := own_at h.row hb
    exact ⟨h4.lt, fun ty cs hB => .inr (.inl (one_type hB h4))⟩
  · exact ⟨(h.wd.type hb).1, fun ty cs hB => .inr (.inr (.inl ((h.wd.type hb).2 ty cs hB)))⟩
  · exact ⟨(h.q.type hb).1, fun ty cs hB => .inr (.inr (.inr ((h.q.type hb).2 ty cs hB)))⟩
theorem SimAt.kept (h : SimAt w s wd t q occ S v ds Mw Mq) (hk : Kept K w w') (k1 : ∀ b, SimM s v Mw Mq b → K b) (k2 : ∀ b cs, Blk w b 5 cs → K b) : SimAt w' s wd t q occ S v ds Mw Mq where
  blk := hk.blk (k1 _ (.inl rfl)) h.blk
  row := h.row.keep hk fun b hb => k1 b (.inr (.inl hb))
  len := h.len
  wd := (wdA_fit wd t S.T S.k).kept h.wd hk (fun b hb => k1 b (.inr (.inr (.inl hb)))) k2
  q := (qA_fit q S.Q).kept h.q hk (fun b hb => k1 b (.inr (.inr (.inr hb)))) k2
  apart := h.apart
theorem SimAt.on (h : SimAt w s wd t q occ S v ds Mw Mq) (hb : Below w.heap.size w w') : SimAt w' s wd t q occ S v ds Mw Mq := h.kept ((Kept.of_below hb).mono (K' := fun _ => True) fun _ _ => trivial) (fun _ _ => trivial) (fun _ _ _ => trivial)
theorem simA_fit (s wd t q : Nat) (occ : Value) (S : SS) : Asn.Fit 5 (SimA s wd t q occ S) where
  lt := fun ⟨v, ds, Mw, Mq, h, hM⟩ b hb => (h.type ((hM b).1 hb)).1
  nob := fun ⟨v, ds, Mw, Mq, h, hM⟩ b hb cs hB => by
    rcases (h.type ((hM b).1 hb)).2 _ _ hB with h | h | h | h
    · revert h; decide
    · revert h; decide
    · rcases h with h | h | h | h | h | h | h | h | h | h <;> revert h <;> decide
    · rcases h with h | h <;> revert h <;> decide
  kept := fun ⟨v, ds, Mw, Mq, h, hM⟩ hk k1 k2 => ⟨v, ds, Mw, Mq, h.kept hk (fun b hb => k1 b ((hM b).2 hb)) k2, hM⟩
theorem SimAt.s_no (h : SimAt w s wd t q occ S v ds Mw Mq) : ¬ Mw s ∧ ¬ Mq s := ⟨fun hb => sim_no.1 ((h.wd.type hb).2 _ _ h.blk), fun hb => sim_no.2.1 ((h.q.type hb).2 _ _ h.blk)⟩
theorem SimAt.r_no (h : SimAt w s wd t q occ S v ds Mw Mq) {b : Nat} (hb : v.ownBlock = some b) : ¬ Mw b ∧ ¬ Mq b ∧ b ≠ s := by
  obtain ⟨-, cur, h4⟩ := own_at h.row hb
  exact ⟨fun hb => sim_no.2.2.1 ((h.wd.type hb).2 _ _ h4), fun hb => sim_no.2.2.2 ((h.q.type hb).2 _ _ h4), fun e => by rw [e] at h4; exact absurd (one_type h4 h.blk) (by decide)⟩
theorem SimAt.world (h : SimAt w s wd t q occ S v ds Mw Mq) {T' : TS} {k' : Nat} (k : Aft (WdA wd t T' k') w Mw w') : Aft (SimA s wd t q occ { S with T := T', k := k' }) w (SimM s v Mw Mq) w' := by
  obtain ⟨Mw', k1, k2, k3⟩ := k
  refine ⟨SimM s v Mw' Mq, ⟨v, ds, Mw', Mq, ⟨k3.blk h.s_no.1 h.blk, h.row.keep k3 fun b hb => (h.r_no hb).1, h.len, k1, (qA_fit q S.Q).beside h.q k3 (fun b hb hb' => h.apart b hb' hb) ((wdA_fit wd t S.T S.k).nob h.wd), fun b hb hb' => ?_⟩, fun _ => Iff.rfl⟩, fun b hb => ?_, k3.mono fun b hb hMw => hb (.inr (.inr (.inl hMw)))⟩
  · rcases k2 b hb with h1 | h1
    · exact h.apart b h1 hb'
    · have := (h.q.type hb').1; omega
  · rcases hb with hb | hb | hb | hb
    · exact .inl (.inl hb)
    · exact .inl (.inr (.inl hb))
    · exact (k2 b hb).imp_left fun h => .inr (.inr (.inl h))
    · exact .inl (.inr (.inr (.inr hb)))
theorem SimAt.queue (h : SimAt w s wd t q occ S v ds Mw Mq) {Q' : QS} (k : Aft (QA q Q') w Mq w') : Aft (SimA s wd t q occ { S with Q := Q' }) w (SimM s v Mw Mq) w' := by
  obtain ⟨Mq', k1, k2, k3⟩ := k
  refine ⟨SimM s v Mw Mq', ⟨v, ds, Mw, Mq', ⟨k3.blk h.s_no.2 h.blk, h.row.keep k3 fun b hb => (h.r_no hb).2.1, h.len, (wdA_fit wd t S.T S.k).beside h.wd k3 (fun b hb hb' => h.apart b hb hb') ((qA_fit q S.Q).nob h.q), k1, fun b hb hb' => ?_⟩, fun _ => Iff.rfl⟩, fun b hb => ?_, k3.mono fun b hb hMw => hb (.inr (.inr (.inr hMw)))⟩
  · rcases k2 b hb' with h1 | h1
    · exact h.apart b hb h1
    · have := (h.wd.type hb).1; omega
  · rcases hb with hb | hb | hb | hb
    · exact .inl (.inl hb)
    · exact .inl (.inr (.inl hb))
    · exact .inl (.inr (.inr (.inl hb)))
    · exact (k2 b hb).imp_left fun h => .inr (.inr (.inr h))
theorem SimAt.self (h : SimAt w s wd t q occ S v ds Mw Mq) {occ' : Value} {S' : SS} (hk : Kept (fun b => b ≠ s) w w') (hB : Blk w' s 111 #[.pointer (some ⟨q, 0, none⟩), .pointer (some ⟨wd, 0, none⟩), .int .i64 S'.budget, .int .i64 S'.now, occ', v]) (hT : S'.T = S.T) (hkk : S'.k = S.k) (hQ : S'.Q = S.Q) (hd : S'.d = S.d) : SimAt w' s wd t q occ' S' v ds Mw Mq where
  blk := hB
  row := h.row.keep hk fun b hb => (h.r_no hb).2.2
  len := by rw [hd]; exact h.len
  wd := by rw [hT, hkk]; exact (wdA_fit wd t S.T S.k).kept h.wd hk (fun b hb e => h.s_no.1 (e ▸ hb)) fun b cs hb e => by rw [e] at hb; exact absurd (one_type hb h.blk) (by decide)
  q := by rw [hQ]; exact (qA_fit q S.Q).kept h.q hk (fun b hb e => h.s_no.2 (e ▸ hb)) fun b cs hb e => by rw [e] at hb; exact absurd (one_type hb h.blk) (by decide)
  apart := h.apart
end
end Go.Proofs.YtmbccnioijokfaaGreatDoor

namespace Go.Proofs.YtmbccnioijokfaaGreatDoor
open Go.RowKit
attribute [local go_sem] Oper.semAt_some
def digN (l : List UInt8) : Int := l.foldl (fun n c => n * 10 + ((c.toNat : Int) - 48)) 0
structure DigOk (l : List UInt8) : Prop where
  pos : 1 ≤ l.length
  len : l.length ≤ 15
  all : ∀ c ∈ l, 48 ≤ c.toNat ∧ c.toNat ≤ 57
instance (l : List UInt8) : Decidable (DigOk l) := decidable_of_iff (1 ≤ l.length ∧ l.length ≤ 15 ∧ ∀ c ∈ l, 48 ≤ c.toNat ∧ c.toNat ≤ 57) ⟨fun h => ⟨h.1, h.2.1, h.2.2⟩, fun h => ⟨h.1, h.2, h.3⟩⟩
theorem digN_snoc (l : List UInt8) (c : UInt8) : digN (l ++ [c]) = digN l * 10 + ((c.toNat : Int) - 48) := by simp [digN]
theorem digN_bd : ∀ (n : Nat) (l : List UInt8), l.length = n → (∀ c ∈ l, 48 ≤ c.toNat ∧ c.toNat ≤ 57) → 0 ≤ digN l ∧ digN l < 10 ^ n
  | 0, l, hl, _ => by
    obtain rfl := List.length_eq_zero_iff.1 hl
    decide
  | n + 1, l, hl, h => by
    have hne : l ≠ [] := by rintro rfl; simp at hl
    have e := List.dropLast_concat_getLast hne
    have ih := digN_bd n l.dropLast (by simp [hl]) fun c hc => h c ((List.dropLast_sublist l).subset hc)
    have hc := h _ (List.getLast_mem hne)
    rw [← e, digN_snoc]
    generalize l.getLast hne = c at *
    generalize digN l.dropLast = m at *
    have : (10 : Int) ^ (n + 1) = 10 ^ n * 10 := Int.pow_succ 10 n
    omega
theorem digN_take {l : List UInt8} (h : DigOk l) (i : Nat) : 0 ≤ digN (l.take i) ∧ digN (l.take i) < 1000000000000000 := by
  have h1 := digN_bd _ (l.take i) rfl fun c hc => h.all c (List.mem_of_mem_take hc)
  have h2 : (l.take i).length ≤ 15 := by rw [List.length_take]; have := h.len; omega
  have h3 : (10 : Int) ^ (l.take i).length ≤ 10 ^ 15 := by have := Nat.pow_le_pow_right (show 0 < 10 by decide) h2; exact_mod_cast this
  have h4 : (10 : Int) ^ 15 = 1000000000000000 := by decide
  omega
abbrev strA (l : List UInt8) : ByteArray := ⟨l.toArray⟩
structure NumW (s : ByteArray) (below : Bool) (d : List UInt8) : Prop where
  sign : Lib.hasPrefix s.data.toList [45] = below
  rest : Lib.trimPrefix s.data.toList [45] = d
  ok : DigOk d
def numV (below : Bool) (d : List UInt8) : Int := if below then -digN d else digN d
theorem iterPos_at (w : World) (s : ByteArray) (p : Nat) : (w.iter s p).iterPos w.heap.size = p := by simp [World.iterPos, World.iter_heap]
set_option maxRecDepth 100000 in
set_option maxHeartbeats 4000000 in
theorem number_c (s : ByteArray) (below : Bool) (d : List UInt8) (h : NumW s below d) (w : World) :
    Calls Tryz.prog 114 #[.string s] w fun r w' => r = .returned (.tuple #[.int .i64 (numV below d), .bool true]) ∧ Below w.heap.size w w' := by
  have HCP := Tryz.strings_CutPrefix s ⟨#[45]⟩ w
  rw [show ((⟨#[45]⟩ : ByteArray).data.toList) = [45] from rfl, h.sign, h.rest] at HCP
  have HCQ : Calls Tryz.prog 162 #[.string s, .string ⟨#[45]⟩] w fun e w' => e = .returned (.tuple #[.string (strA d), .bool below]) ∧ w = w' := HCP.mono fun _ _ h => ⟨h.1, h.2.symm⟩
  have HCP' := Lib.hid HCQ
  have hsz : (strA d).size = d.length := by simp [ByteArray.size]
  have hat : ∀ (i : Nat) (hi : i < (strA d).size) (c : UInt8), d[i]? = some c → (strA d)[i]'hi = c := fun i hi c hc => by
    have : (strA d)[i]'hi = d.toArray[i]'(by rw [hsz] at hi; simpa using hi) := rfl
    rw [this]
    simp only [List.getElem_toArray]
    exact Option.some.inj (by rw [← hc]; exact (List.getElem?_eq_getElem _).symm)
  have HD := Lib.hid (And.intro h.ok (And.intro hsz hat))
  have hit : ∀ i, Below w.heap.size w (w.iter (strA d) i) := fun i => by unfold World.iter; exact (Below.refl _ _).alloc (Nat.le_refl _) _
  have HIT := Lib.hid hit
  have hne : d.isEmpty = false := by
    have h1 := h.ok.pos
    cases d with
    | nil => simp at h1
    | cons _ _ => rfl
  have hle : ¬ (15 : Int) < (d.length : Int) := by have := h.ok.len; omega
  clear HCP HCQ h hsz hat hit
  go_enter Tryz.func114, Tryz.ntmps114
  go_upto_region 4 with (go_at_call 162; refine HCP'.out.mono ?_; rintro e_ w1 ⟨rfl, rfl⟩)
  go_loopw [6, 8] (fun n _ wr => ∃ i : Nat, i ≤ d.length ∧ n = .int .i64 (digN (d.take i)) ∧ wr = w.iter (strA d) i) (fun _ _ wr => d.length - wr.iterPos w.heap.size)
  case atStart => exact ⟨0, Nat.zero_le _, rfl, rfl⟩
  case round =>
    obtain ⟨i, hi, rfl, rfl⟩ := hrel
    by_cases hlt : i < d.length
    · obtain ⟨c, hc⟩ : ∃ c, d[i]? = some c := ⟨_, List.getElem?_eq_getElem hlt⟩
      have hlt2 : i < (strA d).size := by rw [HD.out.2.1]; exact hlt
      have hcc := HD.out.1.all c (List.mem_of_getElem? hc)
      have hnx := fun ty => run_next_ascii (P := Tryz.prog) w (strA d) i ty hlt2 (by rw [HD.out.2.2 i hlt2 c hc]; omega)
      rw [HD.out.2.2 i hlt2 c hc] at hnx
      have hstep : digN (d.take (i + 1)) = digN (d.take i) * 10 + ((c.toNat : Int) - 48) := by rw [List.take_add_one, hc]; exact digN_snoc _ _
      have hb1 := digN_take HD.out.1 i
      have hb2 := digN_take HD.out.1 (i + 1)
      rw [hstep] at hb2
      have HS := Lib.hid hstep
      generalize digN (d.take i) = m at *
      have hv : ∃ v : Int, v = (c.toNat : Int) := ⟨_, rfl⟩
      obtain ⟨v, hv⟩ := hv
      rw [← hv] at hnx hb2
      have hv1 : 48 ≤ v := by omega
      have hv2 : v ≤ 57 := by omega
      have n1 : ¬ v < 48 := by omega
      have n2 : ¬ 57 < v := by omega
      have HV := Lib.hid hv
      clear hv hcc hc hstep
      go_wp2_with fail
      refine ⟨⟨i + 1, hlt, by rw [HS.out, HV.out], rfl⟩, ?_⟩
      rw [iterPos_at, iterPos_at]
      omega
    · obtain rfl : i = d.length := by omega
      have hnx := fun ty => run_next_end (P := Tryz.prog) w (strA d) d.length ty (by rw [HD.out.2.1]; omega)
      rw [List.take_length]
      clear hlt hi
      have hng : wrap64 (-digN d) = -digN d := by
        have hb := digN_take HD.out.1 d.length
        rw [List.take_length] at hb
        unfold wrap64
        omega
      cases below
      · go_wp2_with fail
        go_returns
        exact ⟨rfl, HIT.out _⟩
      · go_wp2_with fail
        go_returns
        refine ⟨?_, HIT.out _⟩
        show Ending.returned (.tuple #[.int .i64 (wrap64 (-digN d)), .bool true]) = _
        rw [hng]
        rfl
end Go.Proofs.YtmbccnioijokfaaGreatDoor

