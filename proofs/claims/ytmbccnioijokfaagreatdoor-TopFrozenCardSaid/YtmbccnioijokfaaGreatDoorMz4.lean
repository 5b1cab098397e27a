/- Texts that build one behind the other, laid together: RunT2 Disk3 Disk4 Disk5 DiskM RunT3 StP StD StW StR StS StT IdxF LinA Each Find Meet1 Meet4 SwP SwP2 SwP3 SwP4 Free SwP5 Free2 Lay1. -/
import Derived.Test.YtmbccnioijokfaaGreatDoorMz3
import Derived.Test.YtmbccnioijokfaaGreatDoorMz1
import Derived.Test.YtmbccnioijokfaaGreatDoorMz2
import Derived.Maps.AppendAt
import Derived.Deep.Cut
import Derived.Test.YtmbccnioijokfaaGreatDoorChecked
import Derived.Shelf.Abstract
import Derived.Shelf.RegionOpen
import Derived.OwnWalkIn
import Derived.TacticsInMore
import Derived.LoopNIn
import Derived.LoopIn
namespace Go.Proofs.YtmbccnioijokfaaGreatDoor
open Go.RowKit
attribute [local go_sem] Oper.semAt_some
section
variable {w w' : World} {base g n cap size : Nat} {e : TypeId} {α : Type} {enc : α → List Value} {v : Value} {xs xs' : List α}
theorem Owns.store (h : Owns w base e size enc v xs) (hv : v = .slice (some ⟨g, 0, none⟩) n cap) (k : Nat) (u : Value) (hk : k < xs.length * size) (hl : xs'.length = xs.length) (hx : xs'.flatMap enc = (xs.flatMap enc).set k u) :
    Owns (w.setCell ⟨g, k, none⟩ u) base e size enc v xs' := by
  have h1 := h.1
  refine ⟨by rw [hx, List.length_set, h1, hl], ?_⟩
  rcases h.2 with ⟨hv', h0⟩ | ⟨g', cap', cur, hv', hb, hg, hc, hm, hs, ht⟩
  · rw [h0] at hk
    omega
  · rw [hv] at hv'
    obtain ⟨h2, h3, h4⟩ := Value.slice.inj hv'
    obtain rfl : g = g' := by simpa using h2
    subst h4
    refine .inr ⟨g, cap, cur.setIfInBounds k u, by rw [hv, h3, hl], hb, ?_, by omega, hm, by rw [Array.size_setIfInBounds]; exact hs, ?_⟩
    · have hB : Blk w g e cur := hg
      exact hB.set_ k u
    · rw [hl, hx, ← ht]
      rw [Array.toList_setIfInBounds, List.take_set]
theorem grown_kept {row : Option Nat} (h : w.grownBy w' row) : Kept (fun b => row ≠ some b) w w' := ⟨h.os, h.tape, h.output, h.size, fun b hb hK => h.block b hb (Ne.symm hK)⟩
end
theorem flat_lenRn : ∀ l : List Rn, (l.flatMap encR).length = l.length * 2
  | [] => rfl
  | x :: l => by rw [List.flatMap_cons, List.length_append, flat_lenRn l]; simp; omega
theorem flat_last (l : List Rn) (x : Rn) (m : Int) : (l ++ [(m, x.2)]).flatMap encR = ((l ++ [x]).flatMap encR).set (l.length * 2) (.int .i64 m) := by
  rw [List.flatMap_append, List.flatMap_append, List.set_append_right _ _ (by rw [flat_lenRn]; omega), flat_lenRn, Nat.sub_self]
  rfl
def PushR (w : World) (base : Nat) (row : Option Nat) (xs : List Rn) (r : Ending) (w' : World) : Prop :=
  ∃ v', r = .returned v' ∧ Owns w' base 235 2 encR v' xs ∧ Kept (fun b => row ≠ some b) w w'
set_option maxRecDepth 100000 in
set_option maxHeartbeats 4000000 in
theorem rpush_c (w : World) (base : Nat) (v : Value) (xs : List Rn) (r : Rn) (hO : Owns w base 235 2 encR v xs) (hn : ∀ x ∈ xs, 1 ≤ x.1) (hb : lenR xs ≤ 1000000) (hr : 0 ≤ r.1 ∧ r.1 ≤ 1000000) (hbase : base ≤ w.heap.size) (hlen : xs.length ≤ 1000000) :
    Calls Tryz.prog 221 #[v, .agg #[.int .i64 r.1, .int .i64 r.2]] w fun e w' => PushR w base v.ownBlock (pushR xs r) e w' := by
  obtain ⟨W, hW⟩ : ∃ W, W = w.alloc (.cells #[.int .i64 r.1, .int .i64 r.2] 235) := ⟨_, rfl⟩
  have H : Below w.heap.size w W := by rw [hW]; go_grown
  have X : Blk W w.heap.size 235 #[.int .i64 r.1, .int .i64 r.2] := by rw [hW]; exact Blk.new' rfl
  have hOW := hO.on H
  have hs : W.heap.size = w.heap.size + 1 := by rw [hW]; simp
  obtain ⟨q, cap, hv, hc1, hc2, hrd, hq1, hq2⟩ := hO.form lenRn
  have HO := Lib.hid hOW
  have HB := Lib.hid (And.intro hbase hs)
  have HH := Lib.hid H
  have HN := Lib.hid hn
  obtain ⟨x0, x1, -, -⟩ := X.pair
  have hcap : (xs.length : Int) ≤ 1000000 := by omega
  unfold pushR
  by_cases hr1 : r.1 < 1
  · rw [if_pos hr1]
    clear hOW hbase hs hO X H hrd hq1 hq2 hn hb
    subst hv
    go_enter Tryz.func221, Tryz.ntmps221
    go_upto_region 1 with (fail)
    rw [← hW]
    clear hW
    go_wp2_with fail
    go_returns
    exact ⟨_, rfl, HO.out, (Kept.of_below HH.out).mono (fun _ _ => trivial)⟩
  · rw [if_neg hr1]
    have hr1' : 1 ≤ r.1 := by omega
    have hpush : ∀ (W1 : World) (b : Nat), Below W.heap.size W W1 → (∀ j u, (encR r)[j]? = some u → W1.cell? ⟨b, j, none⟩ = some u) → ∃ v' w', (Builtin.append_ #[184, 184] 184 #[v, .slice (some ⟨b, 0, none⟩) 1 1]).run Tryz.prog W1 = .ok v' w' ∧ PushR w base v.ownBlock (xs ++ [r]) (.returned v') w' := fun W1 b h1 hx => by
      obtain ⟨v', w', h3, h4, h5, h6, -⟩ := run_push (P := Tryz.prog) (w := W1) (base := base) (e := 235) (size := 2) (enc := encR) (v := v) (xs := xs) (ts := 184) (ty := 184) (z := .agg #[.int .i64 0, .int .i64 0]) (bytes := 16) (b := b) (x := r) Tryz.underlying184 (by kernel_rfl) rfl (by decide) (by decide) rfl (by intro u hu; simp at hu; rcases hu with rfl | rfl <;> rfl) (HO.out.on h1) hx (by omega) (by have := h1.size; have := HB.out; omega)
      exact ⟨v', w', h3, v', rfl, h4, ((Kept.of_below (after HH.out h1)).mono (fun _ _ => trivial)).trans (grown_kept h5)⟩
    have HPU := Lib.hid hpush
    clear hpush
    cases hl : xs.getLast? with
    | none =>
      obtain rfl : xs = [] := by simpa using hl
      dsimp only
      clear hOW hbase hs hO H hrd hq1 hq2 hn hb hl hc1 hc2 hlen hcap
      subst hv
      go_enter Tryz.func221, Tryz.ntmps221
      go_upto_region 1 with (fail)
      rw [← hW]
      clear hW
      go_upto_region 4 with (fail)
      refine wp_region_quiet_below (by kernel_rfl) (by kernel_rfl) ?_
      repeat (go_big_quiet_step (fail))
      refine wpQuiet_nil ?_
      intro w' hw'
      obtain ⟨rg, rfl⟩ := hw'
      go_upto_region 7 with (fail)
      obtain ⟨W2, hW2⟩ : ∃ W2, W2 = Go.Sort.grow (redrawn W rg.d) rg.os := ⟨_, rfl⟩
      have h2 : Below W.heap.size W W2 := by rw [hW2]; exact below_regrown _ _ _
      rw [← hW2]
      clear hW2 x0 x1
      obtain ⟨y0, y1, -, -⟩ := (X.on h2).pair
      obtain ⟨v', w', hrun, hP⟩ := HPU.out (W2.alloc (.cells #[.int .i64 r.1, .int .i64 r.2] 235)) W2.heap.size (h2.alloc h2.size _) (fun j u hu => by
        rw [(Blk.new W2 235 _).cell j]
        simpa using hu)
      have HP := Lib.hid hP
      clear hP h2 X
      go_wp2_with (at_builtin; refine Lib.wpList_append_run _ rfl _ _ _ _ rfl _ _ rfl rfl _ _ hrun ?_)
      go_returns
      exact HP.out
    | some x =>
      dsimp only
      obtain ⟨ys, hys⟩ : ∃ ys, xs = ys ++ [x] := ⟨_, last_split hl⟩
      obtain ⟨m, hm⟩ : ∃ m, m = ys.length := ⟨_, rfl⟩
      have hlm : xs.length = m + 1 := by rw [hys, List.length_append, hm]; rfl
      have hxm : xs[m]? = some x := by rw [hys, hm]; simp
      obtain ⟨g, hg⟩ := hq2 (by omega)
      subst hg
      have y0 : W.cell? ⟨g, m * 2, none⟩ = some (.int .i64 x.1) := by have := (hrd.on H).at hxm (j := 0) (u := .int .i64 x.1) rfl; simpa using this
      have y1 : W.cell? ⟨g, m * 2 + 1, none⟩ = some (.int .i64 x.2) := by have := (hrd.on H).at hxm (j := 1) (u := .int .i64 x.2) rfl; simpa using this
      have hfz : W.frozen? ⟨g, m * 2, none⟩ = false := by
        rcases hOW.2 with ⟨h1, h2⟩ | ⟨g', cap', cur, h1, -, h2, -⟩
        · omega
        · rw [hv] at h1
          obtain ⟨h3, -, -⟩ := Value.slice.inj h1
          obtain rfl : g = g' := by simpa using h3
          exact Blk.frz (w := W) (t := 235) (cs := cur) h2 _
      have hx1 := hn x (List.mem_of_getElem? hxm)
      have hxb : x.1 + lenR ys = lenR xs := by rw [hys]; unfold lenR; rw [List.map_append, List.sum_append]; simp; omega
      have hyn : 0 ≤ lenR ys := by rw [lenR_cells (fun r hr => by have := hn r (by rw [hys]; exact List.mem_append_left _ hr); omega)]; omega
      have hx2 : x.1 ≤ 1000000 := by omega
      have hmm : (0 : Int) ≤ m := by omega
      have hmc : (m : Int) ≤ 1000000 := by omega
      have hdl : xs.dropLast = ys := by rw [hys]; simp
      have HYS := Lib.hid hys
      have HM := Lib.hid hm
      have HLM := Lib.hid hlm
      rw [hdl]
      have HV := Lib.hid hv
      rw [hlm] at hv
      have hml : (m : Int) < (m : Int) + 1 := by omega
      clear hOW hbase hs hO hrd hq1 hq2 hn hb hl hc1 hc2 hlen hcap hys hm hlm hxm hxb hyn hdl
      subst hv
      by_cases hxr : x.2 = r.2
      · rw [if_pos hxr]
        have hxb : (x.2 == r.2) = true := by simpa using hxr
        have HXR := Lib.hid hxr
        clear hxr
        have z0 := fun d os => cell_regrown y0 d os
        have z1 := fun d os => cell_regrown y1 d os
        obtain ⟨w0, w1⟩ := X.rep
        go_enter Tryz.func221, Tryz.ntmps221
        go_upto_region 1 with (fail)
        rw [← hW]
        clear hW
        go_upto_region 4 with (fail)
        refine wp_region_quiet_below (by kernel_rfl) (by kernel_rfl) ?_
        repeat (go_big_quiet_step (fail))
        refine wpQuiet_nil ?_
        intro w' hw'
        obtain ⟨rg, rfl⟩ := hw'
        go_upto_region 5 with (fail)
        obtain ⟨W2, hW2⟩ : ∃ W2, W2 = Go.Sort.grow (redrawn W rg.d) rg.os := ⟨_, rfl⟩
        have h2 : Below W.heap.size W W2 := by rw [hW2]; exact below_regrown _ _ _
        rw [← hW2]
        clear hW2 z0 z1 w0 w1 rg
        have z0 := fun d os => cell_regrown ((h2.cell (p := ⟨g, m * 2, none⟩) (cell_lt y0)).trans y0) d os
        obtain ⟨w0, w1⟩ := (X.on h2).rep
        refine wp_reg 8 (by kernel_rfl) (Nat.le_of_ble_eq_true (by kernel_rfl)) (by kernel_rfl) ?_
        simp only [List.take_succ_cons, List.take_zero, List.drop_succ_cons, List.drop_zero]
        repeat (refine wpRel_step (fun K hK => ?_); go_simp; first | (refine hK _ ?_; clear hK K) | (apply Exists.intro; refine ⟨fun _ => ?_, hK _ ?_⟩; (fail); clear hK K))
        refine wpRel_nil ?_
        intro W3 h4
        have h3 : Below W.heap.size W W3 := after h2 h4
        clear z0 w0 w1 h4
        have u0 := (h3.cell (p := ⟨g, m * 2, none⟩) (cell_lt y0)).trans y0
        have uf := (h3.frozen (p := ⟨g, m * 2, none⟩) (cell_lt y0)).trans hfz
        have HC := Lib.hid h3
        clear h2 h3
        go_wp2_with fail
        go_returns
        have hO3 := HO.out.on HC.out
        refine ⟨_, rfl, hO3.store (n := m + 1) (xs' := ys ++ [(x.1 + r.1, x.2)]) rfl (m * 2) _ (by rw [HLM.out]; omega) (by rw [HYS.out]; simp) ?_, ?_⟩
        · rw [HYS.out, HM.out]; exact flat_last ys x _
        · refine (((Kept.of_below (after HH.out HC.out)).mono (fun _ _ => trivial)).setCell (p := ⟨g, m * 2, none⟩) ?_ _)
          exact fun h => h rfl
      · rw [if_neg hxr]
        have hxb : (x.2 == r.2) = false := by simpa using hxr
        have z0 := fun d os => cell_regrown y0 d os
        have z1 := fun d os => cell_regrown y1 d os
        obtain ⟨w0, w1⟩ := X.rep
        clear hxr y0 y1 hfz hx1
        go_enter Tryz.func221, Tryz.ntmps221
        go_upto_region 1 with (fail)
        rw [← hW]
        clear hW
        go_upto_region 4 with (fail)
        refine wp_region_quiet_below (by kernel_rfl) (by kernel_rfl) ?_
        repeat (go_big_quiet_step (fail))
        refine wpQuiet_nil ?_
        intro w' hw'
        obtain ⟨rg, rfl⟩ := hw'
        go_upto_region 7 with (fail)
        obtain ⟨W2, hW2⟩ : ∃ W2, W2 = Go.Sort.grow (redrawn W rg.d) rg.os := ⟨_, rfl⟩
        have h2 : Below W.heap.size W W2 := by rw [hW2]; exact below_regrown _ _ _
        rw [← hW2]
        clear hW2 z0 z1 w0 w1 x0 x1
        obtain ⟨y0, y1, -, -⟩ := (X.on h2).pair
        obtain ⟨v', w', hrun, hP⟩ := HPU.out (W2.alloc (.cells #[.int .i64 r.1, .int .i64 r.2] 235)) W2.heap.size (h2.alloc h2.size _) (fun j u hu => by
          rw [(Blk.new W2 235 _).cell j]
          simpa using hu)
        have HP := Lib.hid hP
        clear hP h2 X
        go_wp2_with (at_builtin; refine Lib.wpList_append_run _ rfl _ _ _ _ rfl _ _ rfl rfl _ _ hrun ?_)
        go_returns
        exact HP.out
end Go.Proofs.YtmbccnioijokfaaGreatDoor

namespace Go.Proofs.YtmbccnioijokfaaGreatDoor
open Go.RowKit Go.Maps
attribute [local go_sem] Oper.semAt_some
def newS (R : Int) : DS := ⟨mnI (mxI R 0) 1048576, 0, 0, [], []⟩
set_option maxRecDepth 100000 in
set_option maxHeartbeats 2000000 in
theorem new_c (R : Int) (base : Nat) (w : World) (hb : base ≤ w.heap.size) :
    Calls Tryz.prog 209 #[.int .i64 R] w fun r w' => ∃ d M, r = .returned (.pointer (some ⟨d, 0, none⟩)) ∧ DiskIs w' base M d (newS R) ∧ (∀ b, M b → w.heap.size ≤ b) ∧ Below w.heap.size w w' := by
  have hmn := @run_mn Tryz.prog
  have hmx := @run_mx Tryz.prog
  have hmm := @run_makeMap Tryz.prog
  go_enter Tryz.func209, Tryz.ntmps209
  go_wp2_with fail
  go_returns
  obtain ⟨W1, hW1⟩ : ∃ W1, W1 = w.alloc (.map #[] 0) := ⟨_, rfl⟩
  have hm : W1.ownsMap Tryz.prog 3 RS w.heap.size 0 (DM []) := by rw [hW1]; exact World.ownsMap_made _ _ _ _
  have hs1 : W1.heap.size = w.heap.size + 1 := by rw [hW1]; simp
  have hb1 : Below w.heap.size w W1 := by rw [hW1]; exact (Below.refl _ _).alloc (Nat.le_refl _) _
  rw [← hW1]
  refine ⟨_, _, rfl, ⟨w.heap.size, .slice none 0 0, [], [], ⟨Blk.new' hs1.symm, hm.alloc _, Owns.nil, by omega, hb, fun p hp => (by cases hp), fun p hp => (by cases hp), rfl, rfl⟩, fun b => Iff.rfl⟩, fun b hb => ?_, hb1.alloc hb1.size _⟩
  rcases hb with rfl | rfl | hb
  · omega
  · exact Nat.le_refl _
  · cases hb
end Go.Proofs.YtmbccnioijokfaaGreatDoor

namespace Go.Proofs.YtmbccnioijokfaaGreatDoor
open Go.RowKit Go.Maps
attribute [local go_sem] Oper.semAt_some
def atL (l : List (Int × SL)) (k : Int) : SL := (getL l k).getD (none, 0, 0)
theorem atL_good {w : World} {base : Nat} {l : List (Int × SL)} (h : GoodL w base l) (k : Int) : GoodS w base (atL l k) ∧ (rdB w (atL l k)).length = sizeAt (cont w l) k := by
  unfold atL sizeAt
  rw [cont_get]
  cases hg : getL l k with
  | none => exact ⟨⟨Nat.le_refl _, by decide, fun h => absurd h (by decide)⟩, by rw [Option.getD_none, rdB_zero]; rfl⟩
  | some s => exact ⟨h.get hg, rfl⟩
theorem DiskAt.facts {w : World} {base d bm : Nat} {v : Value} {S : DS} {sv lv : List (Int × SL)} {N M : Nat} (h : DiskAt w base d bm v S sv lv) (hok : DOk S N M) : Rise sv ∧ (∀ p ∈ lv, In64 p.1) ∧ sv.length + lv.length ≤ N ∧ GoodL w base (nowL sv lv) ∧ cont w (nowL sv lv) = S.now ∧ Rise (nowL sv lv) ∧ lens (nowL sv lv) ≤ N * M := by
  have hr : Rise sv := cont_rise (w := w) (by rw [← h.safe]; exact hok.rise)
  have hc : cont w (nowL sv lv) = S.now := by rw [cont_now, ← h.safe, ← h.l]; rfl
  have hg := h.gs.now h.gl
  refine ⟨hr, fun p hp => ?_, ?_, hg, hc, rise_now hr, ?_⟩
  · exact hok.keys (p.1, rdB w p.2) (List.mem_append.2 (.inr (by rw [h.l]; exact List.mem_map.2 ⟨p, hp, rfl⟩)))
  · have := hok.many
    rw [h.safe, h.l, cont_len, cont_len] at this
    exact this
  · rw [lens_is hg, hc]; exact lenB_now hok
theorem at_le (l : List (Int × SL)) (k : Int) : (atL l k).2.1 ≤ lens l := by
  induction l with
  | nil => exact Nat.le_refl _
  | cons x r ih =>
    unfold atL at ih ⊢
    rw [getL_cons]
    simp only [lens, List.map_cons, List.sum_cons] at ih ⊢
    split
    · simp
    · omega
theorem bsOf_self (l : Bs) : bsOf (fun i => l.getD i 0) l.length = l := by
  apply List.ext_getElem?
  intro i
  rcases Nat.lt_or_ge i l.length with h | h
  · rw [bsOf_at h, List.getD_eq_getElem?_getD, List.getElem?_eq_getElem h]; rfl
  · rw [List.getElem?_eq_none (by rw [bsOf_len]; exact h), List.getElem?_eq_none h]
theorem clone_good {w : World} {base : Nat} {s : SL} (hs : GoodS w base s) (h47 : s.2.1 ≤ 140737488355328) :
    Calls Tryz.prog 214 #[slV s] w fun r w' => ∃ s' : SL, r = .returned (slV s') ∧ s'.2.1 = s.2.1 ∧ GoodS w' base s' ∧ rdB w' s' = rdB w s ∧ Below w.heap.size w w' := by
  refine (clone_c s.1 s.2.1 s.2.2 _ hs.cap h47 w hs.byq).mono ?_
  rintro r w' ⟨v, rfl, ho, hb⟩
  obtain ⟨s', rfl, hn, hg, hr⟩ := GoodS.own (base := base) ho
  refine ⟨s', rfl, hn, hg, ?_, hb⟩
  rw [hr, ← hs.len, bsOf_self]
def PutA (base : Nat) (b : Bs) (v : Value) (w : World) : Prop := ∃ s' : SL, v = slV s' ∧ GoodS w base s' ∧ rdB w s' = b
def PutB (base : Nat) (k : Int) (b : Bs) (v : Value) (w : World) : Prop := ∃ s' : SL, v = .agg #[.int .i64 k, slV s'] ∧ GoodS w base s' ∧ rdB w s' = b
def PutC (base : Nat) (k : Int) (b : Bs) (v : Value) (w : World) : Prop := ∃ (s' : SL) (g : Nat), v = .slice (some ⟨g, 0, none⟩) 1 1 ∧ Blk w g 293 #[.int .i64 k, slV s'] ∧ GoodS w base s' ∧ rdB w s' = b
theorem PutA.on {base : Nat} {b : Bs} {v : Value} {w w' : World} (h : PutA base b v w) (hb : Below w.heap.size w w') : PutA base b v w' := by
  obtain ⟨s', e, h1, h2⟩ := h
  exact ⟨s', e, (h1.on hb).1, by rw [(h1.on hb).2]; exact h2⟩
theorem PutB.on {base : Nat} {k : Int} {b : Bs} {v : Value} {w w' : World} (h : PutB base k b v w) (hb : Below w.heap.size w w') : PutB base k b v w' := by
  obtain ⟨s', e, h1, h2⟩ := h
  exact ⟨s', e, (h1.on hb).1, by rw [(h1.on hb).2]; exact h2⟩
theorem PutC.on {base : Nat} {k : Int} {b : Bs} {v : Value} {w w' : World} (h : PutC base k b v w) (hb : Below w.heap.size w w') : PutC base k b v w' := by
  obtain ⟨s', g, e, h0, h1, h2⟩ := h
  exact ⟨s', g, e, h0.on hb, (h1.on hb).1, by rw [(h1.on hb).2]; exact h2⟩
theorem DiskAt.apart {w : World} {base d bm : Nat} {v : Value} {S : DS} {sv lv : List (Int × SL)} (h : DiskAt w base d bm v S sv lv) : v.ownBlock ≠ some d ∧ v.ownBlock ≠ some bm ∧ bm ≠ d := by
  refine ⟨fun e => ?_, fun e => ?_, fun e => ?_⟩
  · obtain ⟨-, cur, hc⟩ := own_blk h.row e
    have := blk_one hc h.blk
    revert this; decide
  · obtain ⟨-, cur, hc⟩ := own_blk h.row e
    exact map_lt h.map _ _ _ hc
  · exact map_lt h.map _ _ _ (by rw [e]; exact h.blk)
end Go.Proofs.YtmbccnioijokfaaGreatDoor

namespace Go.Proofs.YtmbccnioijokfaaGreatDoor
open Go.RowKit Go.Maps
attribute [local go_sem] Oper.semAt_some
theorem lookok_c {w : World} {m n : Nat} {l : List (Int × SL)} {k : Int} (h : w.ownsMap Tryz.prog 3 RS m n (DM l)) (hk : In64 k) :
    (Instr.lookup 197 (.map (some m)) (.int .i64 k) true).run Tryz.prog w = .ok (.tuple #[slV (atL l k), .bool (getL l k).isSome]) w := by
  obtain ⟨v, ps, hrun, hv⟩ := h.look_ok lawI Tryz.underlying197 (zeroB w) (RS_mk (none, 0, 0)) (key64 hk)
  obtain ⟨s, rfl, e⟩ := RS_inv hv
  rw [hrun, has_DM]
  have e1 : (DM l).atKey (.int .i64 k) (.held (none, 0, 0)) = .held s := congrArg Prod.fst e
  rw [atKey_DM] at e1
  unfold atL
  cases hg : getL l k with
  | none => rw [hg] at e1; simp only [DataW.held.injEq] at e1; rw [← e1]; rfl
  | some s' => rw [hg] at e1; simp only [DataW.held.injEq] at e1; rw [e1]; rfl
def DS.get (S : DS) (k : Int) : Option Bs := getL S.now k
set_option maxRecDepth 100000 in
set_option maxHeartbeats 4000000 in
theorem get_c (base d : Nat) (M : Nat → Prop) (S : DS) (N : Nat) (w : World) (h : DiskIs w base M d S) (hok : DOk S N 1000000) (hN : N ≤ 100000) (k : Int) (hk : In64 k) :
    Calls Tryz.prog 165 #[.pointer (some ⟨d, 0, none⟩), .int .i64 k] w fun r w' => ∃ s : SL, r = .returned (.tuple #[slV s, .bool (S.get k).isSome]) ∧ GoodS w' base s ∧ rdB w' s = (S.get k).getD [] ∧ Below w.heap.size w w' := by
  obtain ⟨bm, v, sv, lv, hD, hM⟩ := h
  obtain ⟨hr, hkl, hcnt, hg, hc, hrn, hlens⟩ := hD.facts hok
  have HNW := Lib.hid (now_c base d bm v S sv lv w hD hr hkl (by omega))
  have HG := Lib.hid (atL_good hg k)
  have hsz := hok.now.2.2.2
  have hga : rdB w (atL (nowL sv lv) k) = (S.get k).getD [] := by
    unfold atL DS.get
    rw [← hc, cont_get]
    cases getL (nowL sv lv) k with
    | none => exact rdB_zero _ _ _
    | some s => rfl
  have his : (getL (nowL sv lv) k).isSome = (S.get k).isSome := by
    unfold DS.get
    rw [← hc, cont_get]
    cases getL (nowL sv lv) k <;> rfl
  have hle : (atL (nowL sv lv) k).2.1 ≤ 140737488355328 := Nat.le_trans (at_le _ _) (Nat.le_trans hlens (Nat.le_trans (Nat.mul_le_mul_right 1000000 hN) (by decide)))
  have HA := Lib.hid (And.intro hga (And.intro his hle))
  clear hD hM hr hkl hcnt hg hc hrn hlens hsz hga his hle
  go_enter Tryz.func165, Tryz.ntmps165
  go_upto_region 1 with (fail)
  go_wp2_with (go_at_call 213; refine HNW.out.mono ?_; rintro e_ w2 ⟨rfl, hm, hB2⟩; have hlk := lookok_c hm hk; simp only [slV] at hlk)
  have hg2 := HG.out.1.on hB2
  have HCL := Lib.hid (clone_good hg2.1 HA.out.2.2)
  refine HCL.out.mono ?_
  rintro e_ w3 ⟨⟨q', n', c'⟩, rfl, -, hgs, hrd, hb⟩
  simp only [slV]
  go_wp2_with fail
  go_returns
  exact ⟨(q', n', c'), by rw [HA.out.2.1]; rfl, hgs, by rw [hrd, hg2.2, HA.out.1], after hB2 hb⟩
end Go.Proofs.YtmbccnioijokfaaGreatDoor

namespace Go.Proofs.YtmbccnioijokfaaGreatDoor
open Go.RowKit Go.Maps
attribute [local go_sem] Oper.semAt_some
theorem bsOf_self' (b : Bs) : bsOf (fun i => b.getD i 0) b.length = b := by
  apply List.ext_getElem?
  intro i
  by_cases h : i < b.length
  · rw [bsOf_at h]; simp [h]
  · rw [List.getElem?_eq_none (by rw [bsOf_len]; omega), List.getElem?_eq_none (by omega)]
theorem Turn.out {w w' : World} {base : Nat} {M : Nat → Prop} {d : Nat} {S S' : DS} (h : Turn w base M d S' w') (h0 : DiskIs w base M d S) (hb : base ≤ w.heap.size) : Below base w w' ∧ base ≤ w'.heap.size ∧ ∃ M', DiskIs w' base M' d S' := by
  have h1 := h.below h0 hb
  obtain ⟨M', h2, -, -⟩ := h
  exact ⟨h1, Nat.le_trans hb h1.size, M', h2⟩
theorem bel_alloc (w : World) (o : Obj) : Below w.heap.size w (w.alloc o) := (Below.refl _ _).alloc (Nat.le_refl _) o
theorem bel_alloc' {n : Nat} {w : World} (h : n ≤ w.heap.size) (o : Obj) : Below n w (w.alloc o) := (Below.refl _ _).alloc h o
theorem GoodS.drop {w : World} {base g o n c : Nat} (h : GoodS w base (some ⟨g, o, none⟩, n, c)) {k : Nat} (hk : k ≤ n) (q : Option Addr) (hq : k < n → q = some ⟨g, o + k, none⟩) : GoodS w base (q, n - k, c - k) ∧ rdB w (q, n - k, c - k) = (rdB w (some ⟨g, o, none⟩, n, c)).drop k := by
  have hcap : n ≤ c := h.cap
  have hmost : c ≤ maxLen := h.most
  by_cases h0 : k < n
  · obtain ⟨g', o', F, hq', hB, hg⟩ := h.lies (show 0 < n by omega)
    obtain ⟨rfl, rfl⟩ : g = g' ∧ o = o' := by simpa using hq'
    have hB2 : Byt w g (o + k) (n - k) (fun i => F (k + i)) := fun i hi => by
      have := hB (k + i) (show k + i < n by omega)
      rwa [← Nat.add_assoc] at this
    refine ⟨⟨show n - k ≤ c - k by omega, show c - k ≤ maxLen by omega, fun _ => ⟨g, o + k, _, hq h0, hB2, hg⟩⟩, ?_⟩
    have hB' : Byt w g o n F := hB
    rw [hq h0, rdB_of hB2, rdB_of hB']
    apply List.ext_getElem?
    intro i
    rw [List.getElem?_drop]
    by_cases hi : i < n - k
    · rw [bsOf_at hi, bsOf_at (by omega)]
    · rw [List.getElem?_eq_none (by rw [bsOf_len]; omega), List.getElem?_eq_none (by rw [bsOf_len]; omega)]
  · obtain rfl : k = n := by omega
    rw [Nat.sub_self]
    refine ⟨⟨Nat.zero_le _, show c - k ≤ maxLen by omega, fun h => absurd h (Nat.lt_irrefl 0)⟩, ?_⟩
    rw [rdB_zero, List.drop_eq_nil_of_le (by rw [h.len]; exact Nat.le_refl _)]
end Go.Proofs.YtmbccnioijokfaaGreatDoor

namespace Go.Proofs.YtmbccnioijokfaaGreatDoor
open Go.RowKit
attribute [local go_sem] Oper.semAt_some
def RowR (w : World) (xs : List Rn) (r : Ending) (w' : World) : Prop := ∃ v, r = .returned v ∧ Owns w' w.heap.size 235 2 encR v xs ∧ Below w.heap.size w w'
theorem PushR.below {w w0 w' : World} {base : Nat} {e : TypeId} {v : Value} {xs ys : List Rn} {r : Ending} (h : PushR w base v.ownBlock ys r w') (hO : Owns w base e 2 encR v xs) (hb : Below base w0 w) (h0 : base ≤ w.heap.size) : ∃ v', r = .returned v' ∧ Owns w' base 235 2 encR v' ys ∧ Below base w0 w' := by
  obtain ⟨v', h1, h2, h3⟩ := h
  refine ⟨v', h1, h2, hb.trans (h3.below h0 fun b hb' e => ?_)⟩
  have := (hO.block b e).1
  omega
theorem ofR_take (cs : List Int) (k : Nat) (hk : k ≤ cs.length) : lenR (ofR (cs.take k)) = k ∧ ∀ x ∈ ofR (cs.take k), 1 ≤ x.1 := by
  constructor
  · unfold ofR
    rw [lenR_pushes _ (fun r hr => by obtain ⟨a, -, rfl⟩ := List.mem_map.1 hr; show (0 : Int) ≤ 1; decide)]
    have : ∀ l : List Int, lenR (l.map fun b => ((1 : Int), b)) = l.length := fun l => by
      induction l with
      | nil => rfl
      | cons a l ih => unfold lenR at *; rw [List.map_cons, List.map_cons, List.sum_cons, ih, List.length_cons]; omega
    rw [this, List.length_take, Nat.min_eq_left hk]
    simp [lenR]
  · exact pushes_pos no_runs _
theorem ofR_next {cs : List Int} {k : Nat} {c : Int} (h : cs[k]? = some c) : ofR (cs.take (k + 1)) = pushR (ofR (cs.take k)) (1, c) := by
  unfold ofR
  rw [take_at h, List.map_append]
  exact pushes_snoc _ _ _
set_option maxRecDepth 100000 in
set_option maxHeartbeats 4000000 in
theorem runof_c (w : World) (q : Option Addr) (c : Nat) (cs : List Int) (hR : Rd w q 1 encI cs) (hc : cs.length ≤ 1000000) :
    Calls Tryz.prog 171 #[.slice q cs.length c] w fun r w' => RowR w (ofR cs) r w' := by
  have HR := Lib.hid hR
  have HC := Lib.hid (show cs.length ≤ maxLen by unfold maxLen; omega)
  have HT := Lib.hid (ofR_take cs)
  have HL := Lib.hid hc
  clear hR hc
  go_enter Tryz.func171, Tryz.ntmps171
  go_upto_region 3 with (fail)
  go_loopw [3, 8] (fun x i wr => ∃ k : Nat, k ≤ cs.length ∧ i = .int .i64 k ∧ Hid (Owns wr w.heap.size 235 2 encR x (ofR (cs.take k))) ∧ Hid (Below w.heap.size w wr)) (fun _ i _ => cs.length - (intOf i).toNat)
  case atStart => exact ⟨0, Nat.zero_le _, rfl, Owns.nil, Below.refl _ _⟩
  case round =>
    obtain ⟨k, hk, rfl, hO, hnx⟩ := hrel
    by_cases hlt : k < cs.length
    · obtain ⟨p, hp⟩ := lt_at hlt
      obtain ⟨g, o, rfl, h1⟩ := HR.out.on hnx.out (by omega)
      have r0 : wr.cell? ⟨g, o + k, none⟩ = some (.int .i64 p) := by have := h1 k p hp 0 _ rfl; simpa using this
      obtain ⟨n2, n3, n5, n6⟩ := nextx hlt HC.out
      have hl := HT.out k hk
      have hl2 := lenR_pos hl.2
      have hl3 := HL.out
      have HP := Lib.hid (rpush_c wr w.heap.size _ _ (1, p) hO.out hl.2 (by omega) (by dsimp only; omega) hnx.out.size (by omega))
      rw [← ofR_next hp] at HP
      clear hp h1 hl hl2 hl3
      go_wp2_with (go_at_call 221; refine HP.out.mono ?_; intro r w1 h; obtain ⟨v', rfl, h2, h3⟩ := h.below hO.out hnx.out hnx.out.size; have H2 := Lib.hid h2; have H3 := Lib.hid h3; clear h2 h3 h)
      exact ⟨⟨k + 1, hlt, by go_num, H2, H3⟩, by simp [intOf]; omega⟩
    · obtain rfl : k = cs.length := by omega
      have hO2 := hO.out
      rw [List.take_length] at hO2
      have HO := Lib.hid hO2
      have hk1 : ¬ ((cs.length : Int) < (cs.length : Int)) := by omega
      clear hO2 hO
      go_wp2_with fail
      go_returns
      exact ⟨_, rfl, HO.out, hnx.out⟩
end Go.Proofs.YtmbccnioijokfaaGreatDoor

namespace Go.Proofs.YtmbccnioijokfaaGreatDoor
open Go.RowKit
def numF (F : Nat → B8) (k : Nat) : Nat → Int
  | 0 => 0
  | n + 1 => numF F k n * 256 + n8 (F (k + n))
theorem num_cong {F G : Nat → B8} {k j : Nat} : ∀ {n : Nat}, (∀ i, i < n → F (k + i) = G (j + i)) → numF F k n = numF G j n
  | 0, _ => rfl
  | n + 1, h => by
    unfold numF
    rw [num_cong (fun i hi => h i (by omega)), h n (by omega)]
theorem num_lo (F : Nat → B8) (k : Nat) : ∀ n, 0 ≤ numF F k n
  | 0 => Int.le_refl _
  | n + 1 => by
    have h1 := num_lo F k n
    have h2 := n8_lt (F (k + n))
    unfold numF
    omega
theorem num3 (F : Nat → B8) (k : Nat) : numF F k 3 < 16777216 := by
  have h0 := n8_lt (F (k + 0))
  have h1 := n8_lt (F (k + 1))
  have h2 := n8_lt (F (k + 2))
  simp only [numF]
  omega
theorem num4 (F : Nat → B8) (k : Nat) : numF F k 4 < 4294967296 := by
  have h0 := n8_lt (F (k + 0))
  have h1 := n8_lt (F (k + 1))
  have h2 := n8_lt (F (k + 2))
  have h3 := n8_lt (F (k + 3))
  simp only [numF]
  omega
abbrev fb (b : Bs) : Nat → B8 := fun i => b.getD i 0
open Classical in
noncomputable def readL (b : Bs) : Int × Bs × Int :=
  if b.length < 2 then (0, [], 3)
  else if ¬ okF (fb b) b.length then (0, [], 4)
  else if b.length < 9 then (0, [], 3)
  else if numF (fb b) 0 4 < 1 ∨ 1073741824 < numF (fb b) 0 4 ∨ 65536 < numF (fb b) 4 3 ∨ numF (fb b) 4 3 ≠ (b.length : Int) - 9 then (0, [], 2)
  else (numF (fb b) 0 4, (b.take (b.length - 2)).drop 7, 0)
theorem read_short {b : Bs} (h : b.length < 2) : readL b = (0, [], 3) := by unfold readL; rw [if_pos h]
theorem read_sum {b : Bs} (h : ¬ b.length < 2) (h1 : ¬ okF (fb b) b.length) : readL b = (0, [], 4) := by unfold readL; rw [if_neg h, if_pos h1]
theorem read_low {b : Bs} (h1 : okF (fb b) b.length) (h2 : b.length < 9) : readL b = (0, [], 3) := by
  unfold readL
  rw [if_neg (by have := h1.1; omega), if_neg (by simpa using h1), if_pos h2]
theorem read_form {b : Bs} (h1 : okF (fb b) b.length) (h2 : ¬ b.length < 9) (h3 : numF (fb b) 0 4 < 1 ∨ 1073741824 < numF (fb b) 0 4 ∨ 65536 < numF (fb b) 4 3 ∨ numF (fb b) 4 3 ≠ (b.length : Int) - 9) : readL b = (0, [], 2) := by
  unfold readL
  rw [if_neg (by omega), if_neg (by simpa using h1), if_neg h2, if_pos h3]
theorem read_good {b : Bs} (h1 : okF (fb b) b.length) (h2 : ¬ b.length < 9) (h3 : ¬ (numF (fb b) 0 4 < 1 ∨ 1073741824 < numF (fb b) 0 4 ∨ 65536 < numF (fb b) 4 3 ∨ numF (fb b) 4 3 ≠ (b.length : Int) - 9)) : readL b = (numF (fb b) 0 4, (b.take (b.length - 2)).drop 7, 0) := by
  unfold readL
  rw [if_neg (by omega), if_neg (by simpa using h1), if_neg h2, if_neg h3]
theorem read_cases (b : Bs) : (((readL b).2.2 = 3 ∨ (readL b).2.2 = 4 ∨ (readL b).2.2 = 2) ∧ (readL b).1 = 0 ∧ (readL b).2.1 = []) ∨
    ((readL b).2.2 = 0 ∧ 1 ≤ (readL b).1 ∧ (readL b).1 ≤ 1073741824 ∧ okF (fb b) b.length ∧ 9 ≤ b.length ∧ numF (fb b) 0 4 = (readL b).1 ∧ numF (fb b) 4 3 = (b.length : Int) - 9 ∧ (readL b).2.1 = (b.take (b.length - 2)).drop 7 ∧ (readL b).2.1.length = b.length - 9) := by
  by_cases h1 : b.length < 2
  · rw [read_short h1]; exact .inl ⟨.inl rfl, rfl, rfl⟩
  · by_cases h2 : okF (fb b) b.length
    · by_cases h3 : b.length < 9
      · rw [read_low h2 h3]; exact .inl ⟨.inl rfl, rfl, rfl⟩
      · by_cases h4 : numF (fb b) 0 4 < 1 ∨ 1073741824 < numF (fb b) 0 4 ∨ 65536 < numF (fb b) 4 3 ∨ numF (fb b) 4 3 ≠ (b.length : Int) - 9
        · rw [read_form h2 h3 h4]; exact .inl ⟨.inr (.inr rfl), rfl, rfl⟩
        · rw [read_good h2 h3 h4]
          exact .inr ⟨rfl, by dsimp only; omega, by dsimp only; omega, h2, by omega, rfl, by omega, rfl, by simp; omega⟩
    · rw [read_sum h1 h2]; exact .inl ⟨.inr (.inl rfl), rfl, rfl⟩
end Go.Proofs.YtmbccnioijokfaaGreatDoor

namespace Go.Proofs.YtmbccnioijokfaaGreatDoor
open Go.RowKit
attribute [local go_sem] Oper.semAt_some
theorem num_hi (F : Nat → B8) (k n : Nat) (h : n ≤ 3) : numF F k n ≤ 100000000 := by
  have h0 := n8_lt (F (k + 0))
  have h1 := n8_lt (F (k + 1))
  have h2 := n8_lt (F (k + 2))
  match n, h with
  | 0, _ => simp [numF]
  | 1, _ => simp only [numF]; omega
  | 2, _ => simp only [numF]; omega
  | 3, _ => simp only [numF]; omega
theorem shl_or (n : Int) (h0 : 0 ≤ n) (h1 : n ≤ 1000000000000) (x : B8) : bits .or .i64 (n * 256) (n8 x) = n * 256 + n8 x := by
  obtain ⟨N, rfl⟩ := Int.eq_ofNat_of_zero_le h0
  have hx : x.toNat < 2 ^ 8 := x.isLt
  have e : (2 ^ 8 * N ||| x.toNat) = 2 ^ 8 * N + x.toNat := (Nat.two_pow_add_eq_or_of_lt hx N).symm
  show IntKind.i64.wrap ((BitVec.ofInt 64 ((N : Int) * 256) ||| BitVec.ofInt 64 (x.toNat : Int)).toNat : Int) = (N : Int) * 256 + (x.toNat : Int)
  have e1 : (BitVec.ofInt 64 ((N : Int) * 256)).toNat = 2 ^ 8 * N := by rw [BitVec.toNat_ofInt]; omega
  have e2 : (BitVec.ofInt 64 (x.toNat : Int)).toNat = x.toNat := by rw [BitVec.toNat_ofInt]; omega
  rw [BitVec.toNat_or, e1, e2, e, IntKind.wrap_i64]
  omega
set_option maxRecDepth 100000 in
set_option maxHeartbeats 4000000 in
theorem stake_c (q : Option Addr) (n c : Nat) (F : Nat → B8) (hn : n ≤ 4) (hc : n ≤ c) (w : World) (hq : Byq w q n F) :
    Calls Tryz.prog 216 #[.slice q n c] w fun r w' => r = .returned (.int .i64 (numF F 0 n)) ∧ w = w' := by
  go_enter Tryz.func216, Tryz.ntmps216
  go_upto_region 3 with (fail)
  go_loopw [3, 8] (fun nv iv wr => ∃ k : Nat, k ≤ n ∧ iv = .int .i64 k ∧ nv = .int .i64 (numF F 0 k) ∧ wr = w) (fun _ iv _ => n - (intOf iv).toNat)
  case atStart => exact ⟨0, Nat.zero_le _, rfl, rfl, rfl⟩
  case round =>
    obtain ⟨k, hk, rfl, rfl, rfl⟩ := hrel
    by_cases hlt : k < n
    · obtain ⟨g, o, rfl, hB⟩ := hq (by omega)
      have hx := hB k hlt
      have hk0 : (0 : Int) ≤ k := by omega
      have hk1 : (k : Int) < n := by omega
      have hkc : k < c := by omega
      have hlo := num_lo F 0 k
      have hhi : numF F 0 k ≤ 100000000 := num_hi F 0 k (by omega)
      have x8 := n8_lt (F k)
      have hor := shl_or (numF F 0 k) hlo (by omega) (F k)
      have hnum : numF F 0 (k + 1) = numF F 0 k * 256 + n8 (F k) := by simp only [numF, Nat.zero_add]
      have HN := Lib.hid hnum
      clear hnum
      go_wp2_with fail
      exact ⟨⟨k + 1, hlt, by go_num, by rw [HN.out], trivial⟩, next_less' hlt⟩
    · obtain rfl : k = n := by omega
      have hk1 : ¬ ((k : Int) < (k : Int)) := by omega
      go_wp2_with fail
      go_returns
      exact ⟨rfl, rfl⟩
end Go.Proofs.YtmbccnioijokfaaGreatDoor

namespace Go.Proofs.YtmbccnioijokfaaGreatDoor
open Go.RowKit
attribute [local go_sem] Oper.semAt_some
theorem good_nil {w : World} {base : Nat} : GoodS w base (none, 0, 0) := ⟨Nat.le_refl _, Nat.zero_le _, fun h => absurd h (Nat.lt_irrefl 0)⟩
end Go.Proofs.YtmbccnioijokfaaGreatDoor

namespace Go.Proofs.YtmbccnioijokfaaGreatDoor
open Go.RowKit
attribute [local go_sem] Oper.semAt_some
def ReadR (base : Nat) (x : Int × Bs × Int) (r : Ending) (w w' : World) : Prop := ∃ s : SL, r = .returned (.tuple #[.int .i64 x.1, slV s, .int .i64 x.2.2]) ∧ GoodS w' base s ∧ rdB w' s = x.2.1 ∧ Below w.heap.size w w'
theorem read_none {base : Nat} {x : Int × Bs × Int} {e : Int} {w w' : World} (hx : x = (0, [], e)) (hw : Below w.heap.size w w') : ReadR base x (.returned (.tuple #[.int .i64 0, .slice none 0 0, .int .i64 e])) w w' := by
  subst hx
  exact ⟨(none, 0, 0), rfl, good_nil, rfl, hw⟩
theorem num_at {w : World} {g o n k j : Nat} {F : Nat → B8} (hB : Byt w g o n F) (h : k + j ≤ n) : Byq w (some ⟨g, o + k, none⟩) j (fun i => F (k + i)) := Byq.of fun i hi => by
  have := hB (k + i) (by omega)
  rwa [← Nat.add_assoc] at this
theorem num_sh (F : Nat → B8) (k n : Nat) : numF (fun i => F (k + i)) 0 n = numF F k n := num_cong fun i _ => by simp
theorem bs_take (b : Bs) {k : Nat} (h : k ≤ b.length) : bsOf (fb b) k = b.take k := by rw [← bsOf_take (fb b) h, bsOf_self']
theorem read_at {w w1 w2 : World} {base g m c1 : Nat} {b : Bs} {q : Option Addr} {cur : Array Value} (hC : Blk w1 g 5 cur) (hB : Byt w1 g 0 (m + 7) (fb b)) (k1 : m + 7 ≤ c1) (k2 : c1 ≤ maxLen) (hm : b.length = m + 9) (hq : 0 < m → q = some ⟨g, 7, none⟩) (hr : readL b = (numF (fb b) 0 4, (b.take (b.length - 2)).drop 7, 0)) (G1 : Below w.heap.size w w1) (G2 : Below w1.heap.size w1 w2) :
    ReadR base (readL b) (.returned (.tuple #[.int .i64 (numF (fb b) 0 4), .slice q m (c1 - 7), .int .i64 0])) w w2 := by
  rw [hr]
  have hg : GoodS w1 base (some ⟨g, 0, none⟩, m + 7, c1) := ⟨k1, k2, fun _ => ⟨g, 0, _, rfl, hB, .inr ⟨cur, hC⟩⟩⟩
  obtain ⟨h1, h2⟩ := hg.drop (k := 7) (Nat.le_add_left 7 m) q fun h => by rw [Nat.zero_add]; exact hq (by omega)
  rw [Nat.add_sub_cancel] at h1 h2
  obtain ⟨h3, h4⟩ := h1.on G2
  refine ⟨(q, m, c1 - 7), rfl, h3, ?_, after G1 G2⟩
  rw [h4, h2, rdB_of hB, bs_take b (by omega), hm]
  rfl
set_option maxRecDepth 100000 in
set_option maxHeartbeats 4000000 in
theorem sread_c (base : Nat) (s : SL) (w : World) (hs : GoodS w base s) (hz : s.2.1 ≤ 1000000) :
    Calls Tryz.prog 166 #[slV s] w fun r w' => ReadR base (readL (rdB w s)) r w w' := by
  have hl := hs.len
  have hq := hs.byq
  have hcap := hs.cap
  have hmost := hs.most
  generalize hb : rdB w s = b at hl hq ⊢
  replace hq : Byq w s.1 s.2.1 (fb b) := hq
  clear hs hb
  obtain ⟨q, n, c⟩ := s
  dsimp only at hl hq hcap hmost hz
  subst hl
  simp only [slV]
  by_cases h2 : okF (fb b) b.length
  · have h20 := h2.1
    have HT := Lib.hid (take_ok q b.length c (fb b) hcap hmost hz w hq h2)
    by_cases h9 : b.length < 9
    · have HR := Lib.hid (read_low h2 h9)
      have e7 : ((b.length - 2 : Nat) : Int) < 7 := by omega
      clear hq h2
      go_enter Tryz.func166, Tryz.ntmps166
      go_wp2_with (go_at_call 215; refine HT.out.mono ?_; rintro e_ w1 ⟨x1, rfl, o1, g1⟩; obtain ⟨q1, c1, rfl, -, -, -⟩ := own_byq o1; have G1 := Lib.hid g1; clear g1 o1)
      go_returns
      exact read_none HR.out G1.out
    · have hlen : (b.length - 2) = (b.length - 9) + 7 := by omega
      rw [hlen] at HT
      have H2 := Lib.hid (And.intro h2 h9)
      have HB9 := Lib.hid (show b.length = (b.length - 9) + 9 by omega)
      clear hq h2 h20 h9 hlen
      go_enter Tryz.func166, Tryz.ntmps166
      go_upto_region 6 with (go_at_call 215; refine HT.out.mono ?_; rintro e_ w1 ⟨x1, rfl, o1, g1⟩; obtain ⟨g, c1, cur, rfl, hbg, hC, k1, k2, k3, hB⟩ := own_form o1 (Nat.succ_pos _); clear o1 k3)
      generalize hm : b.length - 9 = m at *
      have hm9 : b.length = m + 9 := by have := HB9.out; omega
      have e7 : ¬ ((m : Int) + 7 < 7) := by omega
      have hN4 : ∀ d os, Calls Tryz.prog 216 #[.slice (some ⟨g, 0, none⟩) 4 c1] (Go.Sort.grow (redrawn w1 d) os) fun r w' => r = .returned (.int .i64 (numF (fb b) 0 4)) ∧ (Go.Sort.grow (redrawn w1 d) os) = w' := fun d os => stake_c _ 4 c1 (fb b) (by decide) (by omega) _ (Byq.of ((hB.re d os).le (by omega)))
      have hN3 : ∀ d os, Calls Tryz.prog 216 #[.slice (some ⟨g, 4, none⟩) 3 (c1 - 4)] (Go.Sort.grow (redrawn w1 d) os) fun r w' => r = .returned (.int .i64 (numF (fb b) 4 3)) ∧ (Go.Sort.grow (redrawn w1 d) os) = w' := fun d os => by
        rw [← num_sh]
        have := num_at (k := 4) (j := 3) (hB.re d os) (by omega)
        rw [Nat.zero_add] at this
        exact stake_c _ 3 (c1 - 4) _ (by decide) (by omega) _ this
      have HN4 := Lib.hid fun d os => calls_bel (hN4 d os)
      have HN3 := Lib.hid fun d os => calls_bel (hN3 d os)
      clear hN4 hN3
      have kc4 : 4 ≤ c1 := by omega
      have kc7 : 7 ≤ c1 := by omega
      refine wp_region_quiet_below (by kernel_rfl) (by kernel_rfl) ?_
      repeat (go_big_quiet_step (first | (with_reducible exact Calls.regrown_of (HN4.out _ _)) | (with_reducible exact Calls.regrown_of (HN3.out _ _))))
      refine wpQuiet_nil ?_
      intro w' hw'
      obtain ⟨rg, rfl⟩ := hw'
      generalize hq7 : (if c1 = 7 then (some ⟨g, 0, none⟩ : Option Addr) else some ⟨g, 7, none⟩) = q7
      have HQ7 := Lib.hid (show 0 < m → q7 = some ⟨g, 7, none⟩ from fun _ => by rw [← hq7, if_neg (by omega)])
      clear hq7
      have n40 := num_lo (fb b) 0 4
      have n41 := num4 (fb b) 0
      have n30 := num_lo (fb b) 4 3
      have n31 := num3 (fb b) 4
      clear HN4 HN3
      obtain ⟨V, hV⟩ : ∃ V, V = numF (fb b) 0 4 := ⟨_, rfl⟩
      obtain ⟨U, hU⟩ : ∃ U, U = numF (fb b) 4 3 := ⟨_, rfl⟩
      rw [← hV] at n40 n41 ⊢
      rw [← hU] at n30 n31 ⊢
      have G12 := Lib.hid (And.intro g1 (below_regrown w1 _ _ : Below w1.heap.size w1 (Go.Sort.grow (redrawn w1 rg.d) rg.os)))
      have HX := Lib.hid (And.intro hC hB)
      have HK := Lib.hid (And.intro k1 k2)
      have HV := Lib.hid hV
      have HU := Lib.hid hU
      have HM := Lib.hid hm9
      have HB8 := Lib.hid (show b.length - 9 = m from by omega)
      clear hC hB k1 k2 hV hU hm9 g1 hm HB9
      by_cases a1 : V < 1
      · have HR := Lib.hid (read_form H2.out.1 H2.out.2 (.inl (HV.out ▸ a1)))
        go_wp2_with fail
        go_returns
        exact read_none HR.out (after G12.out.1 G12.out.2)
      · by_cases a2 : 1073741824 < V
        · have HR := Lib.hid (read_form H2.out.1 H2.out.2 (.inr (.inl (HV.out ▸ a2))))
          go_wp2_with fail
          go_returns
          exact read_none HR.out (after G12.out.1 G12.out.2)
        · by_cases a3 : 65536 < U
          · have HR := Lib.hid (read_form H2.out.1 H2.out.2 (.inr (.inr (.inl (HU.out ▸ a3)))))
            go_wp2_with fail
            go_returns
            exact read_none HR.out (after G12.out.1 G12.out.2)
          · by_cases a4 : U = (m : Int)
            · have HR := Lib.hid (read_good H2.out.1 H2.out.2 (by rw [← HV.out, ← HU.out]; have := HM.out; omega))
              subst a4
              go_wp2_with fail
              go_returns
              rw [HV.out]
              exact read_at HX.out.1 HX.out.2 HK.out.1 HK.out.2 HM.out HQ7.out HR.out G12.out.1 G12.out.2
            · have HR := Lib.hid (read_form H2.out.1 H2.out.2 (.inr (.inr (.inr (by rw [← HU.out]; have := HM.out; omega)))))
              go_wp2_with fail
              go_returns
              exact read_none HR.out (after G12.out.1 G12.out.2)
  · have HR := Lib.hid (show readL b = (0, [], if b.length < 2 then 3 else 4) by
      split
      · rename_i h; exact read_short h
      · rename_i h; exact read_sum h h2)
    have HT := Lib.hid (take_no q b.length c (fb b) hcap hmost w hq h2 _ rfl)
    obtain ⟨E, hEe⟩ : ∃ E, E = (if b.length < 2 then (3 : Int) else 4) := ⟨_, rfl⟩
    rw [← hEe] at HR HT
    have hE : E ≠ 0 := by rw [hEe]; split <;> decide
    clear hEe
    clear hq h2
    go_enter Tryz.func166, Tryz.ntmps166
    go_wp2_with (go_at_call 215; refine HT.out.mono ?_; rintro e_ w1 ⟨rfl, g1⟩; have G1 := Lib.hid g1; clear g1)
    go_returns
    exact read_none HR.out G1.out
end Go.Proofs.YtmbccnioijokfaaGreatDoor

namespace Go.Proofs.YtmbccnioijokfaaGreatDoor
open Go.RowKit
attribute [local go_sem] Oper.semAt_some
noncomputable def recAt (S : DS) (k : Int) : Int × Bs × Int := readL ((S.get k).getD [])
noncomputable def ofV (S : DS) (id : Int) : Int × Int × Bs :=
  if (recAt S (2 * id)).2.2 = 0 then
    if (recAt S (2 * id + 1)).2.2 = 0 ∧ (recAt S (2 * id)).1 < (recAt S (2 * id + 1)).1 then (2 * id + 1, (recAt S (2 * id + 1)).1, (recAt S (2 * id + 1)).2.1)
    else (2 * id, (recAt S (2 * id)).1, (recAt S (2 * id)).2.1)
  else if (recAt S (2 * id + 1)).2.2 = 0 then (2 * id + 1, (recAt S (2 * id + 1)).1, (recAt S (2 * id + 1)).2.1)
  else (2 * id + 1, 0, [])
structure StoreIs (w : World) (base : Nat) (M : Nat → Prop) (s d : Nat) (S : DS) : Prop where
  blk : Blk w s 151 #[.pointer (some ⟨d, 0, none⟩)]
  disk : DiskIs w base M d S
  based : base ≤ s
theorem StoreIs.on {w w' : World} {base : Nat} {M : Nat → Prop} {s d : Nat} {S : DS} (h : StoreIs w base M s d S) (hb : Below w.heap.size w w') : StoreIs w' base M s d S := ⟨h.blk.on hb, h.disk.on hb, h.based⟩
theorem get_size {S : DS} {N M : Nat} (h : DOk S N M) (k : Int) : ((S.get k).getD []).length ≤ M := by
  unfold DS.get
  cases hg : getL S.now k with
  | none => simp
  | some b =>
    unfold getL at hg
    cases hf : S.now.find? fun p => p.1 == k with
    | none => rw [hf] at hg; cases hg
    | some p =>
      rw [hf] at hg
      obtain rfl : p.2 = b := by simpa using hg
      exact h.now.2.2.2 p (List.mem_of_find?_eq_some hf)
noncomputable def bestS (S : DS) (id : Int) : Nat → Int × Int × Bs
  | 0 => (2 * id + 1, 0, [])
  | k + 1 => if (recAt S (2 * id + k)).2.2 = 0 ∧ (bestS S id k).2.1 < (recAt S (2 * id + k)).1 then (2 * id + k, (recAt S (2 * id + k)).1, (recAt S (2 * id + k)).2.1) else bestS S id k
theorem recAt_pos {S : DS} {k : Int} (h : (recAt S k).2.2 = 0) : 1 ≤ (recAt S k).1 ∧ (recAt S k).1 ≤ 1073741824 := by
  unfold recAt at *
  rcases read_cases ((S.get k).getD []) with ⟨h1, -⟩ | ⟨-, h1, h2, -⟩
  · omega
  · exact ⟨h1, h2⟩
theorem recAt_no {S : DS} {k : Int} (h : (recAt S k).2.2 ≠ 0) : (recAt S k).1 = 0 ∧ (recAt S k).2.1 = [] := by
  unfold recAt at *
  rcases read_cases ((S.get k).getD []) with ⟨-, h1⟩ | ⟨h1, -⟩
  · exact h1
  · exact absurd h1 h
theorem recAt_int (S : DS) (k : Int) : 0 ≤ (recAt S k).1 ∧ (recAt S k).1 ≤ 1073741824 := by
  by_cases h : (recAt S k).2.2 = 0
  · have := recAt_pos h; omega
  · have := (recAt_no h).1; omega
theorem bestS_succ (S : DS) (id : Int) (k : Nat) : bestS S id (k + 1) = if (recAt S (2 * id + k)).2.2 = 0 ∧ (bestS S id k).2.1 < (recAt S (2 * id + k)).1 then (2 * id + k, (recAt S (2 * id + k)).1, (recAt S (2 * id + k)).2.1) else bestS S id k := rfl
theorem bestS_two (S : DS) (id : Int) : bestS S id 2 = ofV S id := by
  have p1 : (recAt S (2 * id)).2.2 = 0 → 1 ≤ (recAt S (2 * id)).1 := fun h => (recAt_pos h).1
  have p2 : (recAt S (2 * id + 1)).2.2 = 0 → 1 ≤ (recAt S (2 * id + 1)).1 := fun h => (recAt_pos h).1
  unfold ofV
  simp only [bestS, Int.natCast_zero, Int.add_zero, Int.natCast_one]
  by_cases h1 : (recAt S (2 * id)).2.2 = 0
  · have := p1 h1
    rw [if_pos (show (recAt S (2 * id)).2.2 = 0 ∧ 0 < (recAt S (2 * id)).1 from ⟨h1, by omega⟩), if_pos h1]
  · rw [if_neg (show ¬ ((recAt S (2 * id)).2.2 = 0 ∧ 0 < (recAt S (2 * id)).1) from fun h => h1 h.1), if_neg h1]
    by_cases h2 : (recAt S (2 * id + 1)).2.2 = 0
    · have := p2 h2
      rw [if_pos ⟨h2, by dsimp only; omega⟩, if_pos h2]
    · rw [if_neg (fun h => h2 h.1), if_neg h2]
theorem bestS_int (S : DS) (id : Int) : ∀ k, 0 ≤ (bestS S id k).2.1 ∧ (bestS S id k).2.1 ≤ 1073741824
  | 0 => by simp [bestS]
  | k + 1 => by
    unfold bestS
    split
    · exact recAt_int S _
    · exact bestS_int S id k
theorem idx20 (a b : Int) (w : World) : (Instr.index 230 (.agg #[.int .i64 a, .int .i64 b]) (.int .i64 0)).run Tryz.prog w = .ok (.int .i64 a) w := by kernel_rfl
theorem idx21 (a b : Int) (w : World) : (Instr.index 230 (.agg #[.int .i64 a, .int .i64 b]) (.int .i64 1)).run Tryz.prog w = .ok (.int .i64 b) w := by kernel_rfl
def RecR (base : Nat) (x : Int × Int × Bs) (r : Ending) (w w' : World) : Prop := ∃ sl : SL, r = .returned (.agg #[.int .i64 x.1, .int .i64 x.2.1, slV sl]) ∧ GoodS w' base sl ∧ rdB w' sl = x.2.2 ∧ Below w.heap.size w w'
def BestI (w : World) (base r t : Nat) (b : Int × Int × Bs) (wr : World) : Prop := Below w.heap.size w wr ∧ Blk wr r 190 #[.int .i64 0, .int .i64 0, .slice none 0 0] ∧ ∃ sl : SL, Blk wr t 190 #[.int .i64 b.1, .int .i64 b.2.1, slV sl] ∧ GoodS wr base sl ∧ rdB wr sl = b.2.2
theorem BestI.on {w wr wr' : World} {base r t : Nat} {b : Int × Int × Bs} (h : BestI w base r t b wr) (g : Below wr.heap.size wr wr') : BestI w base r t b wr' := by
  obtain ⟨h1, h2, sl, h3, h4, h5⟩ := h
  exact ⟨after h1 g, h2.on g, sl, h3.on g, (h4.on g).1, (h4.on g).2.trans h5⟩
theorem good_rec {W : World} {r base : Nat} {cs : Array Value} {sl : SL} (hB : Blk W r 190 cs) (hs : GoodS W base sl) (hb0 : base ≤ r) (u v x : Value) : GoodS (((W.setCell ⟨r, 0, none⟩ u).setCell ⟨r, 1, none⟩ v).setCell ⟨r, 2, none⟩ x) base sl ∧ rdB (((W.setCell ⟨r, 0, none⟩ u).setCell ⟨r, 1, none⟩ v).setCell ⟨r, 2, none⟩ x) sl = rdB W sl := by
  have hk : Kept (fun b => b ≠ r) W (((W.setCell ⟨r, 0, none⟩ u).setCell ⟨r, 1, none⟩ v).setCell ⟨r, 2, none⟩ x) := (((Kept.refl _ W).setCell (by simp) _).setCell (by simp) _).setCell (by simp) _
  refine hs.kept hk fun b hb e => ?_
  subst e
  rcases hb with hb | ⟨cur, hb⟩
  · omega
  · have := blk_one hb hB
    revert this
    decide
theorem BestI.put {w wr : World} {base r t : Nat} {b b' : Int × Int × Bs} {sl : SL} (h : BestI w base r t b wr) (hrt : r ≠ t) (hbt : base ≤ t) (hwt : w.heap.size ≤ t) (hs : GoodS wr base sl) (hr : rdB wr sl = b'.2.2) : BestI w base r t b' (((wr.setCell ⟨t, 0, none⟩ (.int .i64 b'.1)).setCell ⟨t, 1, none⟩ (.int .i64 b'.2.1)).setCell ⟨t, 2, none⟩ (slV sl)) := by
  obtain ⟨g1, h2, sl0, h3, -, -⟩ := h
  obtain ⟨k1, k2⟩ := good_rec h3 hs hbt (.int .i64 b'.1) (.int .i64 b'.2.1) (slV sl)
  exact ⟨far_below3 (Below.refl _ _) g1 hwt rfl, ((h2.far (p := ⟨t, 0, none⟩) hrt _).far (p := ⟨t, 1, none⟩) hrt _).far (p := ⟨t, 2, none⟩) hrt _, sl, h3.st3 _ _ _, k1, k2.trans hr⟩
set_option maxRecDepth 100000 in
set_option maxHeartbeats 4000000 in
theorem sof_c (base s d : Nat) (M : Nat → Prop) (S : DS) (N : Nat) (w : World) (h : StoreIs w base M s d S) (hok : DOk S N 1000000) (hN : N ≤ 100000) (id : Int) (h0 : 0 ≤ id) (h1 : id ≤ 1099511627776) (hbase : base ≤ w.heap.size) :
    Calls Tryz.prog 123 #[.pointer (some ⟨s, 0, none⟩), .int .i64 id] w fun r w' => RecR base (ofV S id) r w w' := by
  rw [← bestS_two]
  have HS := Lib.hid h
  have hB := h.blk
  have HG := Lib.hid fun (k : Int) (hk : In64 k) (W : World) (hb : Below w.heap.size w W) => get_c base d M S N W (h.disk.on hb) hok hN k hk
  have HZ := Lib.hid fun k => get_size hok k
  clear h hok hN
  have i20 := idx20 (2 * id) (2 * id + 1)
  have i21 := idx21 (2 * id) (2 * id + 1)
  go_enter Tryz.func123, Tryz.ntmps123
  go_upto_region 3 with (fail)
  obtain ⟨W0, hW0⟩ : ∃ W0, W0 = (w.alloc (.cells #[.int .i64 0, .int .i64 0, .slice none 0 0] 190)).alloc (.cells #[.int .i64 (2 * id + 1), .int .i64 0, .slice none 0 0] 190) := ⟨_, rfl⟩
  rw [← hW0]
  have HI0 : BestI w base w.heap.size (w.heap.size + 1) (bestS S id 0) W0 := by
    subst hW0
    have hs1 : (w.alloc (.cells #[.int .i64 0, .int .i64 0, .slice none 0 0] 190)).heap.size = w.heap.size + 1 := by simp
    refine ⟨(bel_alloc w _).trans (bel_alloc' (by rw [hs1]; omega) _), (Blk.new' rfl).on (bel_alloc _ _), (none, 0, 0), ?_, good_nil, rfl⟩
    rw [← hs1]
    exact Blk.new' rfl
  have HI := Lib.hid HI0
  have HT := Lib.hid (show w.heap.size ≠ w.heap.size + 1 ∧ base ≤ w.heap.size + 1 ∧ w.heap.size ≤ w.heap.size + 1 ∧ base ≤ w.heap.size from ⟨by omega, by omega, by omega, hbase⟩)
  generalize w.heap.size + 1 = t at *
  clear hW0 HI0 hbase
  go_loopw [23] (fun iv wr => ∃ k : Nat, k ≤ 2 ∧ iv = .int .i64 k ∧ BestI w base w.heap.size t (bestS S id k) wr) (fun iv _ => 2 - (intOf iv).toNat)
  case atStart => exact ⟨0, by omega, rfl, HI.out⟩
  case round =>
    obtain ⟨k, hk, hiv, hI⟩ := hrel
    rcases (by omega : k = 0 ∨ k = 1 ∨ k = 2) with rfl | rfl | rfl
    · obtain rfl : _ = Value.int .i64 0 := hiv
      have hn : (bestS S id (0 + 1)) = if (recAt S (2 * id)).2.2 = 0 ∧ (bestS S id 0).2.1 < (recAt S (2 * id)).1 then (2 * id, (recAt S (2 * id)).1, (recAt S (2 * id)).2.1) else bestS S id 0 := by rw [bestS_succ, show (2 * id + ((0 : Nat) : Int)) = 2 * id by omega]
      have HNx := Lib.hid hn
      have HI1 := Lib.hid hI
      have hBs : wr.cell? ⟨s, 0, none⟩ = some (.pointer (some ⟨d, 0, none⟩)) := (HS.out.blk.on HI1.out.1).cell 0
      clear hn hI
      generalize bestS S id 0 = b at *
      go_upto_region 6 with (go_at_call 165; refine (HG.out (2 * id) (by unfold In64; omega) _ HI1.out.1).mono ?_; rintro e_ w1 ⟨s1, rfl, hs1, hr1, gb1⟩)
      have HQ := Lib.hid (sread_c base s1 w1 hs1 (by rw [← hs1.len, hr1]; exact HZ.out _))
      rw [hr1] at HQ
      rw [show readL ((S.get (2 * id)).getD []) = recAt S (2 * id) from rfl] at HQ
      have HI2 := Lib.hid (HI1.out.on gb1)
      generalize recAt S (2 * id) = x at *
      obtain ⟨v, bd, e⟩ := x
      go_upto_region 7 with (go_at_call 166; refine HQ.out.mono ?_; rintro e_ w2 ⟨s2, rfl, hs2, hr2, gb2⟩)
      have HI := Lib.hid (HI2.out.on gb2)
      clear HI1 HI2 gb1 gb2 hs1 hr1 HQ
      obtain ⟨b1, b2, b3⟩ := b
      have HIc := HI.out
      obtain ⟨-, Br, sl, Bt, -, -⟩ := HIc
      obtain ⟨t0, t1, t2, f0, f1, f2⟩ := Bt.c3
      obtain ⟨qs, ns, cs⟩ := s2
      obtain ⟨ql, nl, cl⟩ := sl
      simp only [slV] at t2 ⊢
      have HS2 := Lib.hid (And.intro hs2 hr2)
      clear hs2 hr2 Br Bt
      by_cases he : e = 0
      · by_cases hv : b2 < v
        · have HE := Lib.hid (show bestS S id 1 = (2 * id, v, bd) from by rw [HNx.out, if_pos ⟨he, hv⟩])
          go_wp2_with fail
          have HP := HI.out.put (b' := (2 * id, v, bd)) (sl := (qs, ns, cs)) HT.out.1 HT.out.2.1 HT.out.2.2.1 HS2.out.1 HS2.out.2
          refine ⟨⟨1, by omega, rfl, ?_⟩, by decide⟩
          rw [HE.out]
          exact HP
        · have HE := Lib.hid (show bestS S id 1 = (b1, b2, b3) from by rw [HNx.out, if_neg (fun h => hv h.2)])
          go_wp2_with fail
          exact ⟨⟨1, by omega, rfl, by rw [HE.out]; exact HI.out⟩, by decide⟩
      · have HE := Lib.hid (show bestS S id 1 = (b1, b2, b3) from by rw [HNx.out, if_neg (fun h => he h.1)])
        go_wp2_with fail
        exact ⟨⟨1, by omega, rfl, by rw [HE.out]; exact HI.out⟩, by decide⟩
    · obtain rfl : _ = Value.int .i64 1 := hiv
      have hn : (bestS S id (1 + 1)) = if (recAt S (2 * id + 1)).2.2 = 0 ∧ (bestS S id 1).2.1 < (recAt S (2 * id + 1)).1 then (2 * id + 1, (recAt S (2 * id + 1)).1, (recAt S (2 * id + 1)).2.1) else bestS S id 1 := by rw [bestS_succ]; rfl
      have HNx := Lib.hid hn
      have HI1 := Lib.hid hI
      have hBs : wr.cell? ⟨s, 0, none⟩ = some (.pointer (some ⟨d, 0, none⟩)) := (HS.out.blk.on HI1.out.1).cell 0
      clear hn hI
      generalize bestS S id 1 = b at *
      go_upto_region 6 with (go_at_call 165; refine (HG.out (2 * id + 1) (by unfold In64; omega) _ HI1.out.1).mono ?_; rintro e_ w1 ⟨s1, rfl, hs1, hr1, gb1⟩)
      have HQ := Lib.hid (sread_c base s1 w1 hs1 (by rw [← hs1.len, hr1]; exact HZ.out _))
      rw [hr1] at HQ
      rw [show readL ((S.get (2 * id + 1)).getD []) = recAt S (2 * id + 1) from rfl] at HQ
      have HI2 := Lib.hid (HI1.out.on gb1)
      generalize recAt S (2 * id + 1) = x at *
      obtain ⟨v, bd, e⟩ := x
      go_upto_region 7 with (go_at_call 166; refine HQ.out.mono ?_; rintro e_ w2 ⟨s2, rfl, hs2, hr2, gb2⟩)
      have HI := Lib.hid (HI2.out.on gb2)
      clear HI1 HI2 gb1 gb2 hs1 hr1 HQ
      obtain ⟨b1, b2, b3⟩ := b
      have HIc := HI.out
      obtain ⟨-, Br, sl, Bt, -, -⟩ := HIc
      obtain ⟨t0, t1, t2, f0, f1, f2⟩ := Bt.c3
      obtain ⟨qs, ns, cs⟩ := s2
      obtain ⟨ql, nl, cl⟩ := sl
      simp only [slV] at t2 ⊢
      have HS2 := Lib.hid (And.intro hs2 hr2)
      clear hs2 hr2 Br Bt
      by_cases he : e = 0
      · by_cases hv : b2 < v
        · have HE := Lib.hid (show bestS S id 2 = (2 * id + 1, v, bd) from by rw [HNx.out, if_pos ⟨he, hv⟩])
          go_wp2_with fail
          have HP := HI.out.put (b' := (2 * id + 1, v, bd)) (sl := (qs, ns, cs)) HT.out.1 HT.out.2.1 HT.out.2.2.1 HS2.out.1 HS2.out.2
          refine ⟨⟨2, by omega, rfl, ?_⟩, by decide⟩
          rw [HE.out]
          exact HP
        · have HE := Lib.hid (show bestS S id 2 = (b1, b2, b3) from by rw [HNx.out, if_neg (fun h => hv h.2)])
          go_wp2_with fail
          exact ⟨⟨2, by omega, rfl, by rw [HE.out]; exact HI.out⟩, by decide⟩
      · have HE := Lib.hid (show bestS S id 2 = (b1, b2, b3) from by rw [HNx.out, if_neg (fun h => he h.1)])
        go_wp2_with fail
        exact ⟨⟨2, by omega, rfl, by rw [HE.out]; exact HI.out⟩, by decide⟩
    · obtain rfl : _ = Value.int .i64 2 := hiv
      obtain ⟨⟨b1, b2, b3⟩, hb⟩ : ∃ b, bestS S id 2 = b := ⟨_, rfl⟩
      rw [hb] at hI
      have HB := Lib.hid hb
      clear hb
      have HI := Lib.hid hI
      obtain ⟨-, Br, ⟨ql, nl, cl⟩, Bt, hg, hr⟩ := hI
      have HGR := Lib.hid (And.intro hg hr)
      simp only [slV] at Bt
      have HBr := Lib.hid Br
      obtain ⟨t0, t1, t2, f0, f1, f2⟩ := Bt.c3
      obtain ⟨r0, r1, r2, q0, q1, q2⟩ := Br.c3
      clear Br Bt hg hr
      go_wp2_with fail
      have R2 := HBr.out.st3 (.int .i64 b1) (.int .i64 b2) (.slice ql nl cl)
      obtain ⟨d0, d1, d2, -, -, -⟩ := R2.c3
      have hg := good_rec HBr.out HGR.out.1 HT.out.2.2.2 (.int .i64 b1) (.int .i64 b2) (.slice ql nl cl)
      refine bodyPost_ret (v := .agg #[.int .i64 b1, .int .i64 b2, .slice ql nl cl]) (by simp [results, Tryz.results123, go_sem, d0, d1, d2]) rfl ?_
      rw [HB.out]
      exact ⟨(ql, nl, cl), rfl, hg.1, hg.2.trans HGR.out.2, far_below3 (Below.refl _ _) HI.out.1 (Nat.le_refl _) rfl⟩
end Go.Proofs.YtmbccnioijokfaaGreatDoor

namespace Go.Proofs.YtmbccnioijokfaaGreatDoor
open Go.RowKit
attribute [local go_sem] Oper.semAt_some
theorem ofV_int (S : DS) (id : Int) : 0 ≤ (ofV S id).2.1 ∧ (ofV S id).2.1 ≤ 1073741824 := by
  rw [← bestS_two]; exact bestS_int S id 2
def mayId (id : Int) : Bool := decide (0 ≤ id) && decide (id ≤ 1099511627776)
theorem smay_c (id : Int) (w : World) : Calls Tryz.prog 122 #[.int .i64 id] w fun r w' => r = .returned (.bool (mayId id)) ∧ w = w' := by
  unfold mayId
  go_enter Tryz.func122, Tryz.ntmps122
  by_cases h1 : 0 ≤ id
  · by_cases h2 : id ≤ 1099511627776
    · go_wp2_with fail
      go_returns
      simp [h1, h2]
    · have h2' : 1099511627776 < id := by omega
      go_wp2_with fail
      go_returns
      simp [h2]
  · have h1' : id < 0 := by omega
    go_wp2_with fail
    go_returns
    simp
    omega
noncomputable def loadV (S : DS) (id : Int) : Bs × Int × Bool := if mayId id then ((ofV S id).2.2, (ofV S id).2.1, decide (0 < (ofV S id).2.1)) else ([], 0, false)
def LoadR (base : Nat) (x : Bs × Int × Bool) (r : Ending) (w w' : World) : Prop := ∃ sl : SL, r = .returned (.tuple #[slV sl, .int .i64 x.2.1, .bool x.2.2]) ∧ GoodS w' base sl ∧ rdB w' sl = x.1 ∧ Below w.heap.size w w'
set_option maxRecDepth 100000 in
set_option maxHeartbeats 4000000 in
theorem sload_c (base s d : Nat) (M : Nat → Prop) (S : DS) (N : Nat) (w : World) (h : StoreIs w base M s d S) (hok : DOk S N 1000000) (hN : N ≤ 100000) (id : Int) (hbase : base ≤ w.heap.size) :
    Calls Tryz.prog 82 #[.pointer (some ⟨s, 0, none⟩), .int .i64 id] w fun r w' => LoadR base (loadV S id) r w w' := by
  have HM := Lib.hid (smay_c id w)
  unfold loadV
  by_cases hm : mayId id = true
  · have hm2 : 0 ≤ id ∧ id ≤ 1099511627776 := by unfold mayId at hm; simpa using hm
    have HO := Lib.hid (sof_c base s d M S N w h hok hN id hm2.1 hm2.2 hbase)
    have HX := Lib.hid (ofV_int S id)
    rw [hm] at HM
    rw [if_pos hm]
    clear h hok hN hm
    generalize ofV S id = x at *
    obtain ⟨x1, x2, x3⟩ := x
    go_enter Tryz.func82, Tryz.ntmps82
    go_upto_region 4 with first
      | (go_at_call 122; refine HM.out.mono ?_; rintro e_ w' ⟨rfl, rfl⟩)
      | (go_at_call 123; refine HO.out.mono ?_; rintro e_ w1 ⟨⟨q, n, c⟩, rfl, hg, hr, g1⟩; dsimp only [slV] at *)
    obtain ⟨W2, hW⟩ : ∃ W2, W2 = w1.alloc (.cells #[.int .i64 x1, .int .i64 x2, .slice q n c] 190) := ⟨_, rfl⟩
    rw [← hW]
    have C := Blk.fresh hW
    have g2 : Below w1.heap.size w1 W2 := by rw [hW]; exact bel_alloc _ _
    have c0 := fun d os => (C.re d os).cell 1
    have c2 := fun d os => (C.re d os).cell 2
    have HG := Lib.hid (And.intro hg hr)
    have HB := Lib.hid (And.intro g1 g2)
    clear hg hr g1 g2 C hW
    refine wp_region_quiet_below (by kernel_rfl) (by kernel_rfl) ?_
    repeat (go_big_quiet_step (fail))
    refine wpQuiet_nil ?_
    intro w' hw'
    obtain ⟨rg, rfl⟩ := hw'
    clear c0 c2
    go_wp2_with fail
    go_returns
    obtain ⟨h1, h2⟩ := HG.out.1.on (after HB.out.2 (below_regrown W2 _ _))
    exact ⟨(q, n, c), rfl, h1, h2.trans HG.out.2, after (after HB.out.1 HB.out.2) (below_regrown W2 _ _)⟩
  · have hm' : mayId id = false := by simpa using hm
    rw [hm'] at HM
    rw [if_neg hm]
    clear h hok hN hm hm'
    go_enter Tryz.func82, Tryz.ntmps82
    go_wp2_with (go_at_call 122; refine HM.out.mono ?_; rintro e_ w' ⟨rfl, rfl⟩)
    go_returns
    exact ⟨(none, 0, 0), rfl, good_nil, rfl, Below.refl _ _⟩
theorem StoreIs.turn {w w' : World} {base : Nat} {M : Nat → Prop} {s d : Nat} {S S' : DS} (h : StoreIs w base M s d S) (ht : Turn w base M d S' w') : ∃ M', StoreIs w' base M' s d S' := by
  have hb := ht.blk h.disk h.blk (by decide)
  obtain ⟨M', h1, -, -⟩ := ht
  exact ⟨M', hb, h1, h.based⟩
end Go.Proofs.YtmbccnioijokfaaGreatDoor

namespace Go.Proofs.YtmbccnioijokfaaGreatDoor
open Go.RowKit Go.Shelf
attribute [local go_sem] Oper.semAt_some
abbrev enc1 (v : Value) : List Value := [v]
theorem len1 (v : Value) : (enc1 v).length = 1 := rfl
def SaysV (P : Program) (G : FuncId) (lb : Array Value) (vs : List Value) (q : Nat → Bool) (w : World) : Prop :=
  ∀ k v, vs[k]? = some v → ∀ W, Below w.heap.size w W → Calls P G (#[v] ++ lb) W fun r W' => r = .returned (.bool (q k)) ∧ Below W.heap.size W W'
def FirstIs (q : Nat → Bool) (n : Nat) (k : Int) : Prop := (k = -1 ∧ ∀ j, j < n → q j = false) ∨ ∃ m : Nat, m < n ∧ k = m ∧ q m = true ∧ ∀ j, j < m → q j = false
set_option maxRecDepth 100000 in
set_option maxHeartbeats 4000000 in
theorem tidxf_c (q : Option Addr) (cp : Nat) (vs : List Value) (hm : vs.length ≤ 1000000) (G : FuncId) (lg : Array Value) (p : Nat → Bool) (w : World) (hR : Rd w q 1 enc1 vs) (eG : ∀ args w, (callFunc G args).run Tryz.prog w = .ok (.enter G args) w) (hG : SaysV Tryz.prog G lg vs p w) :
    Calls Tryz.prog 118 #[.slice q vs.length cp, .func (.func G) #[] lg] w fun r w' => ∃ k : Int, r = .returned (.int .i64 k) ∧ FirstIs p vs.length k ∧ Below w.heap.size w w' := by
  have HM := Lib.hid (show vs.length ≤ maxLen by unfold maxLen; omega)
  have HG := Lib.hid hG
  clear hm hG
  go_enter Tryz.func118, Tryz.ntmps118
  go_upto_region 2 with (fail)
  go_loopw [8] (fun iv wr => ∃ (i : Nat), iv = .int .i64 (i : Nat) ∧ Hid (i ≤ vs.length) ∧ Rd wr q 1 enc1 vs ∧ Hid (∀ j, j < i → p j = false) ∧ Hid (Below w.heap.size w wr)) (fun v _ => vs.length - (intOf v).toNat)
  case atStart => exact ⟨0, rfl, Nat.zero_le _, hR, Lib.hid (fun j hj => by omega), Below.refl _ _⟩
  case round =>
    clear hR
    obtain ⟨i, rfl, hi, R, hno, H⟩ := hrel
    by_cases hlt : i < vs.length
    · obtain ⟨x, hx⟩ : ∃ x, vs[i]? = some x := ⟨_, List.getElem?_eq_getElem hlt⟩
      have hlt' : (i : Int) < (vs.length : Int) := by omega
      obtain ⟨g, o, rfl, hI⟩ := R (by omega)
      have e0 : wr.cell? ⟨g, o + i, none⟩ = some x := by have := hI i x hx 0 _ rfl; simpa using this
      obtain ⟨n2, n3, n5, n6⟩ := nextx hlt HM.out
      have hc := HG.out i x hx wr H.out
      clear hx hI
      cases hp : p i
      · rw [hp] at hc
        have HP := Lib.hid hp
        have HC := Lib.hid hc
        clear hp hc
        go_wp2_with (refine HC.out.mono ?_; rintro e_ w3 ⟨rfl, h3⟩)
        go_roundw
        case rel => exact ⟨i + 1, rfl, hlt, R.on h3, Lib.hid (fun j hj => by
          rcases Nat.lt_or_eq_of_le (Nat.le_of_lt_succ hj) with h | rfl
          · exact hno.out j h
          · exact HP.out), after H.out h3⟩
        case measure => simp [intOf]; omega
      · rw [hp] at hc
        have HP := Lib.hid hp
        have HC := Lib.hid hc
        clear hp hc
        go_wp2_with (refine HC.out.mono ?_; rintro e_ w3 ⟨rfl, h3⟩)
        go_returns
        exact ⟨(i : Int), rfl, .inr ⟨i, hlt, rfl, HP.out, hno.out⟩, after H.out h3⟩
    · have hi2 : i = vs.length := by have := hi.out; omega
      have hlt' : ¬ (i : Int) < (vs.length : Int) := by omega
      go_wp2_with fail
      go_returns
      exact ⟨-1, rfl, .inl ⟨rfl, fun j hj => hno.out j (by omega)⟩, H.out⟩
end Go.Proofs.YtmbccnioijokfaaGreatDoor

namespace Go.Proofs.YtmbccnioijokfaaGreatDoor
open Go.RowKit
attribute [local go_sem] Oper.semAt_some
abbrev encS (s : ByteArray) : List Value := [.string s]
theorem lenS (s : ByteArray) : (encS s).length = 1 := rfl
def ArgA (N a : Nat) (ws : List ByteArray) (w : World) : Prop := ∃ q c, Blk w a 58 #[.slice q ws.length c] ∧ ws.length ≤ c ∧ ws.length ≤ 1000000 ∧ (N ≤ w.heap.size ∧ a < N) ∧ (∀ b, q = some b → b.block ≠ a ∧ b.block < N) ∧ Rd w q 1 encS ws
theorem ArgA.bel {N a : Nat} {ws : List ByteArray} {w w' : World} (h : ArgA N a ws w) (hb : Below N w w') : ArgA N a ws w' := by
  obtain ⟨q, c, h1, h2, h3, ⟨h4, h4'⟩, h5, h6⟩ := h
  refine ⟨q, c, h1.below hb h4', h2, h3, ⟨Nat.le_trans h4 hb.size, h4'⟩, h5, fun hn => ?_⟩
  obtain ⟨g, o, hq, h7⟩ := h6 hn
  refine ⟨g, o, hq, fun i x hx j u hu => ?_⟩
  rw [← h7 i x hx j u hu]
  have hg := (h5 _ hq).2
  simp only [World.cell?, hb.block g hg]
theorem ArgA.on {N a : Nat} {ws : List ByteArray} {w w' : World} (h : ArgA N a ws w) (hb : Below w.heap.size w w') : ArgA N a ws w' := by
  have hN : N ≤ w.heap.size := by obtain ⟨q, c, -, -, -, ⟨h4, -⟩, -⟩ := h; exact h4
  exact h.bel (hb.mono hN)
theorem ArgA.le {N a : Nat} {ws : List ByteArray} {w : World} (h : ArgA N a ws w) : N ≤ w.heap.size ∧ a < N := by obtain ⟨q, c, -, -, -, h4, -⟩ := h; exact h4
set_option maxRecDepth 100000 in
set_option maxHeartbeats 1000000 in
theorem must_c (w : World) : Calls Tryz.prog 25 #[.bool true] w fun r w' => r = .returned (.tuple #[]) ∧ w = w' := by
  go_enter Tryz.func25, Tryz.ntmps25
  go_wp2_with fail
  go_returns
  exact ⟨rfl, rfl⟩
def tlA (g o c : Nat) : Addr := if c = 1 then ⟨g, o, none⟩ else ⟨g, o + 1, none⟩
theorem run_tl (g o n c : Nat) (hc : n + 1 ≤ c) (w : World) : (Instr.slice 48 (.slice (some ⟨g, o, none⟩) (n + 1) c) (some (.int .i64 1)) none none).run Tryz.prog w = .ok (.slice (some (tlA g o c)) n (c - 1)) w := by
  unfold tlA
  by_cases h : c = 1
  · subst h
    obtain rfl : n = 0 := by omega
    rw [if_pos rfl]
    simp [Instr.slice, Instr.sliceBounds, Instr.sliceBound, go_sem]
  · rw [if_neg h]
    have h1 : ¬ c = 1 := h
    have h2 : (1 : Int) ≤ (n : Int) + 1 := by omega
    simp [Instr.slice, Instr.sliceBounds, Instr.sliceBound, go_sem, h1, h2]
set_option maxRecDepth 100000 in
set_option maxHeartbeats 2000000 in
theorem word_c (N a : Nat) (s : ByteArray) (ws : List ByteArray) (w : World) (h : ArgA N a (s :: ws) w) :
    Calls Tryz.prog 24 #[.pointer (some ⟨a, 0, none⟩)] w fun r w' => r = .returned (.string s) ∧ ArgA N a ws w' ∧ Kept (fun b => b ≠ a) w w' := by
  obtain ⟨q, c, hB, hc, hm, hN, hq, hR⟩ := h
  obtain ⟨g, o, rfl, hI⟩ := hR (by simp)
  have hga : g ≠ a ∧ g < N := hq _ rfl
  have s0 : w.cell? ⟨g, o, none⟩ = some (.string s) := hI 0 s rfl 0 _ rfl
  rw [List.length_cons] at hB hc hm
  have a0 := hB.cell 0
  have f0 := hB.frz 0
  have htl := run_tl g o ws.length c hc
  have hpos : (0 : Int) < ((ws.length + 1 : Nat) : Int) := by omega
  have hfin : ArgA N a ws (w.setCell ⟨a, 0, none⟩ (.slice (some (tlA g o c)) ws.length (c - 1))) := by
    refine ⟨_, _, hB.set_ 0 _, by omega, by omega, ⟨by simp [World.setCell]; exact hN.1, hN.2⟩, fun b hb => ?_, fun hn => ?_⟩
    · obtain rfl := Option.some.inj hb
      unfold tlA
      split <;> exact hga
    · have hc1 : ¬ c = 1 := by omega
      refine ⟨g, o + 1, by unfold tlA; rw [if_neg hc1], fun i x hx j u hu => ?_⟩
      have := hI (i + 1) x (by simpa using hx) j u hu
      rw [World.cell?_setCell_other _ _ _ _ (fun he => hga.1 (congrArg Addr.block he).symm)]
      rw [← this]
      congr 2
      omega
  have HF := Lib.hid hfin
  have HK := Lib.hid (show Kept (fun b => b ≠ a) w (w.setCell ⟨a, 0, none⟩ (.slice (some (tlA g o c)) ws.length (c - 1))) from (Kept.refl _ _).setCell (by simp) _)
  clear hB hI hR hq hc hm hfin hga hN
  go_enter Tryz.func24, Tryz.ntmps24
  go_wp2_with (go_at_call 25; refine (must_c _).mono ?_; rintro e_ w1 ⟨rfl, rfl⟩)
  go_returns
  exact ⟨rfl, HF.out, HK.out⟩
set_option maxRecDepth 100000 in
set_option maxHeartbeats 1000000 in
theorem end_c (N a : Nat) (w : World) (h : ArgA N a [] w) :
    Calls Tryz.prog 74 #[.pointer (some ⟨a, 0, none⟩)] w fun r w' => r = .returned (.tuple #[]) ∧ w = w' := by
  obtain ⟨q, c, hB, -⟩ := h
  have a0 := hB.cell 0
  clear hB
  go_enter Tryz.func74, Tryz.ntmps74
  go_wp2_with (go_at_call 25; refine (must_c _).mono ?_; rintro e_ w1 ⟨rfl, rfl⟩)
  go_returns
  exact ⟨rfl, rfl⟩
end Go.Proofs.YtmbccnioijokfaaGreatDoor

namespace Go.Proofs.YtmbccnioijokfaaGreatDoor
open Go.RowKit Go.Shelf
attribute [local go_sem] Oper.semAt_some
def cellsI (a b c d e f : Int) : List Cl := if isI a b c d e f then boxL (lowI a) (topI a d) (lowI b) (topI b e) (lowI c) (topI c f) else []
abbrev encC (c : Cl) : Array Value := #[.agg #[.int .i64 c.1, .int .i64 c.2.1, .int .i64 c.2.2]]
theorem topI_bd {n m : Int} : -2147483649 ≤ topI n m ∧ topI n m ≤ 2147483648 := by
  have := lowI_bd m
  unfold topI
  split <;> omega
set_option maxRecDepth 100000 in
set_option maxHeartbeats 8000000 in
theorem each_it (B : Nat) (a b c d e f : Int) (hB : BoxOk a b c d e f) (w : World) (hw : Blk w B 210 #[.int .i64 a, .int .i64 b, .int .i64 c, .int .i64 d, .int .i64 e, .int .i64 f]) :
    Iter Tryz.prog 337 #[.pointer (some ⟨B, 0, none⟩)] encC (cellsI a b c d e f) (· = B) w := by
  intro m l J Jx W hW hJ hJx hY h0
  have A := hW.blk rfl hw
  refine callsIn_of_wp Tryz.func337 rfl trivial ?_ rfl
  simp only [Tryz.ntmps337, List.size_toArray, List.length_cons, List.length_nil, Nat.reduceAdd, Nat.reduceSub, Array.replicate_succ, Array.replicate_zero, List.push_toArray, List.append_toArray, List.nil_append, List.cons_append]
  refine wpIn_wide.2 ?_
  obtain ⟨a0, a1, a2, a3, a4, a5⟩ := A.c6.1
  have HB := Lib.hid hB
  clear hB hw hW
  go_upto_region 1 with (go_at_call 338; refine (span_c a b c d e f HB.out _).mono ?_; rintro e_ w1 ⟨rfl, h1⟩)
  have hsz := h1.size
  generalize hV : World.alloc (World.alloc w1 _) _ = W2
  have X : Blk W2 w1.heap.size _ _ := Blk.eqw hV ((Blk.new' rfl).alloc _)
  have Y : Blk W2 (w1.heap.size + 1) _ _ := Blk.eqw hV (Blk.new' (by simp))
  have hz : W2.heap.size = w1.heap.size + 2 := by rw [← hV]; simp
  have hk : Below W.heap.size W W2 := by rw [← hV]; exact (h1.alloc hsz _).alloc (by simp; omega) _
  have hJ2 : ∀ Z, J Z 0 W2 := fun Z => hJ Z 0 W W2 (h0 Z) (Kept.of_below hk)
  clear hV hk h0 A a0 a1 a2 a3 a4 a5 h1
  generalize w1.heap.size = g at X Y hsz hz ⊢
  cases his : isI a b c d e f
  · have hx : cellsI a b c d e f = [] := by unfold cellsI; rw [his]; rfl
    have HX := Lib.hid hx
    obtain ⟨x0, x1, x2, -, -, -⟩ := X.c3
    clear hx X Y
    go_upto_region 2 with (fail)
    refine (wpIn_wide (n := m + 1)).1 ?_
    gi_loopw [6] (fun _ wr => J W2.heap.size 0 wr) (fun _ _ => 0)
    case atStart => exact hJ2 _
    case round =>
      gi_wp2
      go_end0
      exact ⟨⟨_, rfl⟩, W2.heap.size, by omega, .inl (by rw [HX.out]; exact hrel)⟩
  · rw [his] at X Y
    have hx : cellsI a b c d e f = rest1 (lowI a) (topI a d) (topI b e) (lowI c) (topI c f) (lowI b) := by unfold cellsI; rw [his, if_pos rfl]; rfl
    have HX := Lib.hid hx
    have HIS := Lib.hid his
    have HZ := Lib.hid hz
    clear hx his hz
    simp only [zI, if_true] at X Y
    obtain ⟨x0, x1, x2, -, -, -⟩ := X.c3
    obtain ⟨y0, y1, y2, -, -, -⟩ := Y.c3
    go_upto_region 2 with (fail)
    refine (wpIn_wide (n := m + 1)).1 ?_
    have lb := lowI_bd b
    have lc := lowI_bd c
    have la := lowI_bd a
    have tb := topI_bd (n := b) (m := e)
    have tc := topI_bd (n := c) (m := f)
    have ta := topI_bd (n := a) (m := d)
    have q1 := topI_low HB.out.b1 HB.out.e2 HB.out.be
    have q2 := topI_low HB.out.c1 HB.out.f2 HB.out.cf
    have q3 := topI_low HB.out.a1 HB.out.d2 HB.out.ad
    gi_loopw [6] (fun v wr => ∃ (y : Int) (i : Nat), v = .int .i64 y ∧ lowI b ≤ y ∧ y ≤ topI b e + 1 ∧ Hid ((cellsI a b c d e f).drop i = rest1 (lowI a) (topI a d) (topI b e) (lowI c) (topI c f) y) ∧ Hid (i ≤ (cellsI a b c d e f).length) ∧
      Blk wr g 43 #[.int .i64 (lowI a), .int .i64 (lowI b), .int .i64 (lowI c)] ∧ Blk wr (g + 1) 43 #[.int .i64 (topI a d), .int .i64 (topI b e), .int .i64 (topI c f)] ∧ Hid (g + 2 ≤ wr.heap.size) ∧ J (g + 2) i wr) (fun v _ => (topI b e + 1 - intOf v).toNat)
    case atStart => exact ⟨_, 0, rfl, Int.le_refl _, by omega, by rw [List.drop_zero]; exact HX.out, Nat.zero_le _, X, Y, Nat.le_of_eq HZ.out.symm, hJ2 _⟩
    case round =>
      clear X Y hJ2 x0 x1 x2 y0 y1 y2
      obtain ⟨y, i, rfl, hy1, hy2, hd, hil, X, Y, hsz2, hj⟩ := hrel
      obtain ⟨x0, x1, x2, -, -, -⟩ := X.c3
      obtain ⟨y0, y1, y2, -, -, -⟩ := Y.c3
      by_cases hy : y ≤ topI b e
      · have hd1 := Lib.hid (hd.out.trans (rest1_cons hy))
        gi_wp2
        obtain ⟨wo, rfl⟩ : ∃ wo : World, wo = wr := ⟨_, rfl⟩
        gi_loopw [7] (fun v wr => ∃ (z : Int) (i : Nat), v = .int .i64 z ∧ lowI c ≤ z ∧ z ≤ topI c f + 1 ∧ Hid ((cellsI a b c d e f).drop i = rest2 (lowI a) (topI a d) (topI b e) (lowI c) (topI c f) y z) ∧ Hid (i ≤ (cellsI a b c d e f).length) ∧
          Blk wr g 43 #[.int .i64 (lowI a), .int .i64 (lowI b), .int .i64 (lowI c)] ∧ Blk wr (g + 1) 43 #[.int .i64 (topI a d), .int .i64 (topI b e), .int .i64 (topI c f)] ∧ Hid (g + 2 ≤ wr.heap.size) ∧ J (g + 2) i wr) (fun v _ => (topI c f + 1 - intOf v).toNat)
        case atStart => exact ⟨_, i, rfl, Int.le_refl _, by omega, hd1.out, hil.out, X, Y, hsz2.out, hj⟩
        case round =>
          clear X Y x0 x1 x2 y0 y1 y2 hd hil hsz2 hj hd1
          obtain ⟨z, i, rfl, hz1, hz2, hd, hil, X, Y, hsz2, hj⟩ := hrel
          obtain ⟨x0, x1, x2, -, -, -⟩ := X.c3
          obtain ⟨y0, y1, y2, -, -, -⟩ := Y.c3
          by_cases hzt : z ≤ topI c f
          · have hd1 := Lib.hid (hd.out.trans (rest2_cons hzt))
            gi_wp2
            obtain ⟨wo2, rfl⟩ : ∃ wo : World, wo = wr := ⟨_, rfl⟩
            gi_loopw [8] (fun v wr => ∃ (x : Int) (i : Nat), v = .int .i64 x ∧ lowI a ≤ x ∧ x ≤ topI a d + 1 ∧ Hid ((cellsI a b c d e f).drop i = rest3 (lowI a) (topI a d) (topI b e) (lowI c) (topI c f) y z x) ∧ Hid (i ≤ (cellsI a b c d e f).length) ∧
              Blk wr g 43 #[.int .i64 (lowI a), .int .i64 (lowI b), .int .i64 (lowI c)] ∧ Blk wr (g + 1) 43 #[.int .i64 (topI a d), .int .i64 (topI b e), .int .i64 (topI c f)] ∧ Hid (g + 2 ≤ wr.heap.size) ∧ J (g + 2) i wr) (fun v _ => (topI a d + 1 - intOf v).toNat)
            case atStart => exact ⟨_, i, rfl, Int.le_refl _, by omega, hd1.out, hil.out, X, Y, hsz2.out, hj⟩
            case round =>
              clear X Y x0 x1 x2 y0 y1 y2 hd hil hsz2 hj hd1
              obtain ⟨x, i, rfl, hx1, hx2, hd, hil, X, Y, hsz2, hj⟩ := hrel
              obtain ⟨x0, x1, x2, -, -, -⟩ := X.c3
              obtain ⟨y0, y1, y2, -, -, -⟩ := Y.c3
              by_cases hxt : x ≤ topI a d
              · obtain ⟨c1, c2, c3⟩ := drop_cons (hd.out.trans (rest3_cons hxt))
                obtain ⟨fn, tmps, assign, body, hy', hR⟩ := hY (g + 2) i (x, y, z) wr (by omega) hsz2.out c1 hj
                have C2 := Lib.hid c2
                have C3 := Lib.hid c3
                clear c1 c2 c3
                gi_wp2
                refine hR.mono ?_
                rintro e_ W3 (⟨rfl, hj3, hk3⟩ | ⟨rfl, hjx3⟩)
                · replace X := hk3.blk (.inl ⟨hsz, by omega⟩) X
                  replace Y := hk3.blk (.inl ⟨by omega, by omega⟩) Y
                  have hsz3 := Lib.hid (Nat.le_trans hsz2.out hk3.size)
                  gi_wp2
                  go_roundw
                  case rel => exact ⟨x + 1, i + 1, rfl, by omega, by omega, C2.out, C3.out, X, Y, hsz3.out, hj3⟩
                  case measure => simp [intOf]; omega
                · gi_wp2
                  refine bodyPost_ret (results_none rfl _ _ _) rfl ?_
                  exact ⟨⟨_, rfl⟩, g + 2, by omega, .inr ⟨i, C3.out, hjx3⟩⟩
              · have hd1 := Lib.hid (hd.out.trans (rest3_nil (by omega)))
                gi_wp2
                go_roundw
                case rel => exact ⟨z + 1, i, rfl, by omega, by omega, hd1.out, hil.out, X, Y, hsz2.out, hj⟩
                case measure => simp [intOf]; omega
          · have hd1 := Lib.hid (hd.out.trans (rest2_nil (by omega)))
            gi_wp2
            go_roundw
            case rel => exact ⟨y + 1, i, rfl, by omega, by omega, hd1.out, hil.out, X, Y, hsz2.out, hj⟩
            case measure => simp [intOf]; omega
      · gi_wp2
        go_end0
        exact ⟨⟨_, rfl⟩, g + 2, by omega, .inl (by rw [← drop_nil (hd.out.trans (rest1_nil (by omega))) hil.out]; exact hj)⟩
end Go.Proofs.YtmbccnioijokfaaGreatDoor

namespace Go.Proofs.YtmbccnioijokfaaGreatDoor
open Go.RowKit Go.Shelf
attribute [local go_sem] Oper.semAt_some
theorem peach_c (a b c d e f : Int) (w : World) : Calls Tryz.prog 301 #[.agg #[.int .i64 a, .int .i64 b, .int .i64 c, .int .i64 d, .int .i64 e, .int .i64 f]] w fun r w' =>
    r = .returned (.func (.func 337) #[] #[.pointer (some ⟨w.heap.size, 0, none⟩)]) ∧ w' = w.alloc (.cells #[.int .i64 a, .int .i64 b, .int .i64 c, .int .i64 d, .int .i64 e, .int .i64 f] 210) := by
  have hmf : ∀ (fn : Fn) (first cap : Array Value) (w : World), (Instr.makeFunc fn first cap).run Tryz.prog w = .ok (.func fn first cap) w := fun _ _ _ _ => rfl
  go_enter Tryz.func301, Tryz.ntmps301
  go_wp2_with fail
  go_returns
  exact ⟨rfl, rfl⟩
theorem find_no {α : Type} {l : List α} {q : α → Bool} (h : ∀ j x, j < l.length → l[j]? = some x → q x = false) : l.find? q = none := by
  rw [List.find?_eq_none]
  intro x hx
  obtain ⟨j, hj, e⟩ := List.mem_iff_getElem.1 hx
  rw [h j x hj (by rw [List.getElem?_eq_getElem hj, e])]; decide
theorem find_at {α : Type} {q : α → Bool} {x : α} : ∀ {l : List α} {i : Nat}, l[i]? = some x → q x = true → (∀ j y, j < i → l[j]? = some y → q y = false) → l.find? q = some x := by
  intro l
  induction l with
  | nil => intro i h; cases h
  | cons a l ih =>
    intro i h hq hn
    cases i with
    | zero =>
      obtain rfl : a = x := by simpa using h
      rw [List.find?_cons_of_pos hq]
    | succ i =>
      have ha := hn 0 a (by omega) rfl
      rw [List.find?_cons_of_neg (by rw [ha]; decide)]
      exact ih (by simpa using h) hq (fun j y hj hy => hn (j + 1) y (by omega) (by simpa using hy))
def findV (o : Option Cl) : Value := match o with
  | some c => .tuple #[.agg #[.int .i64 c.1, .int .i64 c.2.1, .int .i64 c.2.2], .bool true]
  | none => .tuple #[.agg #[.int .i64 0, .int .i64 0, .int .i64 0], .bool false]
def FarC (c : Cl) : Prop := In64 c.1 ∧ In64 c.2.2
theorem far_of {a b c d e f : Int} {i : Nat} {x : Cl} (h : (cellsI a b c d e f)[i]? = some x) : FarC x := by
  have hm := List.mem_of_getElem? h
  unfold cellsI at hm
  split at hm
  · have h1 := mem_boxL.1 hm
    have h2 := lowI_bd a
    have h3 := lowI_bd c
    have h4 := topI_bd (n := a) (m := d)
    have h5 := topI_bd (n := c) (m := f)
    unfold FarC In64
    omega
  · cases hm
def Tells (P : Program) (V : FuncId) (lb : Value) (val : Cl → Int) (w : World) : Prop :=
  ∀ c, FarC c → ∀ W, Below w.heap.size w W → Calls P V (#[lb, .agg #[.int .i64 c.1, .int .i64 c.2.1, .int .i64 c.2.2]]) W fun r W' => r = .returned (.int .i64 (val c)) ∧ Below W.heap.size W W'
def Says (P : Program) (G : FuncId) (lb : Array Value) (p : Int → Bool) (w : World) : Prop :=
  ∀ n W, Below w.heap.size w W → Calls P G (#[.int .i64 n] ++ lb) W fun r W' => r = .returned (.bool (p n)) ∧ Below W.heap.size W W'
set_option maxRecDepth 100000 in
set_option maxHeartbeats 8000000 in
theorem find_c (V G : FuncId) (lv : Value) (lg : Array Value) (val : Cl → Int) (p : Int → Bool) (a b c d e f : Int) (hB : BoxOk a b c d e f) (w : World)
    (eV : ∀ args w, (callFunc V args).run Tryz.prog w = .ok (.enter V args) w) (eG : ∀ args w, (callFunc G args).run Tryz.prog w = .ok (.enter G args) w) (hV : Tells Tryz.prog V lv val w) (hG : Says Tryz.prog G lg p w) :
    Calls Tryz.prog 238 #[.func (.func V) #[lv] #[], .agg #[.int .i64 a, .int .i64 b, .int .i64 c, .int .i64 d, .int .i64 e, .int .i64 f], .func (.func G) #[] lg] w fun r w' =>
      r = .returned (findV ((cellsI a b c d e f).find? fun x => p (val x))) ∧ Below w.heap.size w w' := by
  have HV := Lib.hid hV
  have HG := Lib.hid hG
  clear hV hG
  obtain ⟨W, hW⟩ : ∃ W, W = ((((w.alloc (.cells #[.func (.func V) #[lv] #[]] 74)).alloc (.cells #[.int .i64 a, .int .i64 b, .int .i64 c, .int .i64 d, .int .i64 e, .int .i64 f] 210)).alloc (.cells #[.func (.func G) #[] lg] 188)).alloc (.cells #[.int .i64 0, .int .i64 0, .int .i64 0] 43)).alloc (.cells #[.bool false] 4) := ⟨_, rfl⟩
  have H : Below w.heap.size w W := by rw [hW]; go_grown
  have b0 : Blk W w.heap.size 74 #[.func (.func V) #[lv] #[]] := by rw [hW]; exact ((((Blk.new' rfl).alloc _).alloc _).alloc _).alloc _
  have b1 : Blk W (w.heap.size + 1) 210 #[.int .i64 a, .int .i64 b, .int .i64 c, .int .i64 d, .int .i64 e, .int .i64 f] := by rw [hW]; exact (((Blk.new' (by simp)).alloc _).alloc _).alloc _
  have b2 : Blk W (w.heap.size + 1 + 1) 188 #[.func (.func G) #[] lg] := by rw [hW]; exact ((Blk.new' (by simp)).alloc _).alloc _
  have b3 : Blk W (w.heap.size + 1 + 1 + 1) 43 #[.int .i64 0, .int .i64 0, .int .i64 0] := by rw [hW]; exact (Blk.new' (by simp)).alloc _
  have b4 : Blk W (w.heap.size + 1 + 1 + 1 + 1) 4 #[.bool false] := by rw [hW]; exact Blk.new' (by simp)
  have hs : W.heap.size = w.heap.size + 5 := by rw [hW]; simp
  obtain ⟨N, hN⟩ : ∃ N, N = w.heap.size := ⟨_, rfl⟩
  rw [← hN] at b0 b1 b2 b3 b4 hs
  refine (callsIn_wide (n := 5)).1 (callsIn_of_wp_marks Tryz.func238 rfl trivial ?_ rfl)
  refine wpIn_wide.2 ?_
  simp only [Tryz.ntmps238, List.size_toArray, List.length_cons, List.length_nil, Nat.reduceAdd, Nat.reduceSub, Array.replicate_succ, Array.replicate_zero, List.push_toArray, List.append_toArray, List.nil_append, List.cons_append]
  go_upto_region 1 with (fail)
  rw [← hW, ← hN]
  have HN := Lib.hid hN
  have HS0 := Lib.hid hs
  clear hW hN hs
  obtain ⟨a0, a1, a2, a3, a4, a5⟩ := b1.c6.1
  go_wp2_with (go_at_call 301; refine (peach_c _ _ _ _ _ _ _).mono ?_; rintro e_ w1 ⟨rfl, rfl⟩)
  generalize hV : World.alloc W _ = W1
  have bE : Blk W1 W.heap.size 210 #[.int .i64 a, .int .i64 b, .int .i64 c, .int .i64 d, .int .i64 e, .int .i64 f] := Blk.eqw hV (Blk.new' rfl)
  replace b0 := Blk.eqw hV (b0.alloc _)
  replace b1 := Blk.eqw hV (b1.alloc _)
  replace b2 := Blk.eqw hV (b2.alloc _)
  replace b3 := Blk.eqw hV (b3.alloc _)
  replace b4 := Blk.eqw hV (b4.alloc _)
  replace H : Below w.heap.size w W1 := by rw [← hV]; exact H.alloc H.size _
  have hs1 : W1.heap.size = N + 6 := by rw [← hV]; simp [HS0.out]
  rw [HS0.out] at bE ⊢
  clear hV a0 a1 a2 a3 a4 a5
  have HS := Lib.hid hs1
  clear hs1 HS0
  refine wp_range (m := 3) (gf := 337) (lb := #[.pointer (some ⟨N + 5, 0, none⟩)]) rfl (enters_of Tryz.func337 (by kernel_rfl) rfl) (each_it (N + 5) a b c d e f hB W1 bE) (fun b hb => by rw [hb]; exact bE.lt) (fun _ => rfl)
    (fun Z i A => Hid (∀ j x, j < i → (cellsI a b c d e f)[j]? = some x → p (val x) = false) ∧ Blk A N 74 #[.func (.func V) #[lv] #[]] ∧ Blk A (N + 1 + 1) 188 #[.func (.func G) #[] lg] ∧ Blk A (N + 1 + 1 + 1) 43 #[.int .i64 0, .int .i64 0, .int .i64 0] ∧ Blk A (N + 1 + 1 + 1 + 1) 4 #[.bool false] ∧ Below w.heap.size w A)
    (fun Z k i A => k = .ret ∧ Hid (∀ j x, j < i → (cellsI a b c d e f)[j]? = some x → p (val x) = false) ∧ ∃ x, Hid ((cellsI a b c d e f)[i]? = some x ∧ p (val x) = true) ∧ Blk A (N + 1 + 1 + 1) 43 #[.int .i64 x.1, .int .i64 x.2.1, .int .i64 x.2.2] ∧ Blk A (N + 1 + 1 + 1 + 1) 4 #[.bool true] ∧ Below w.heap.size w A)
    ?_ ?_ (fun Z => ⟨fun j x h => by omega, b0, b2, b3, b4, H⟩) ?round ?done ?stop
  · rintro Z i A B ⟨h1, h2, h3, h4, h5, h6⟩ hk
    have lt : ∀ n, n < 6 → ¬ Priv W1.heap.size Z (N + n) := fun n hn h => by have := h.1; rw [HS.out] at this; omega
    exact ⟨h1, hk.blk (lt 0 (by omega)) h2, hk.blk (lt 2 (by omega)) h3, hk.blk (lt 3 (by omega)) h4, hk.blk (lt 4 (by omega)) h5, h6.trans (hk.below h6.size (fun b hb h => by have := h.1; rw [HS.out] at this; rw [← HN.out] at hb; omega))⟩
  · rintro Z k i A B ⟨h1, h2, x, h3, h4, h5, h6⟩ hk
    have lt : ∀ n, n < 6 → ¬ Priv W1.heap.size Z (N + n) := fun n hn h => by have := h.1; rw [HS.out] at this; omega
    exact ⟨h1, h2, x, h3, hk.blk (lt 3 (by omega)) h4, hk.blk (lt 4 (by omega)) h5, h6.trans (hk.below h6.size (fun b hb h => by have := h.1; rw [HS.out] at this; rw [← HN.out] at hb; omega))⟩
  case round =>
    rintro Z l i x A rfl hZ1 hZ2 hx ⟨h1, h2, h3, h4, h5, h6⟩
    clear b0 b1 b2 b3 b4 H bE
    gi_wp2
    refine ⟨(Kept.refl _ _).alloc _, fun A2 hA2 hz2 => ?_⟩
    have hs2 : A2.heap.size = A.heap.size + 1 := by rw [hz2]; simp
    have hs1 := HS.out
    have keep : ∀ n t cs, n < 6 → Blk A (N + n) t cs → Blk A2 (N + n) t cs := fun n t cs hn h => hA2.blk (show N + n ≠ W1.heap.size + 1 by omega) (h.alloc _)
    replace h2 : Blk A2 N 74 #[.func (.func V) #[lv] #[]] := keep 0 _ _ (by omega) h2
    replace h3 : Blk A2 (N + 1 + 1) 188 #[.func (.func G) #[] lg] := keep 2 _ _ (by omega) h3
    replace h4 : Blk A2 (N + 1 + 1 + 1) 43 #[.int .i64 0, .int .i64 0, .int .i64 0] := keep 3 _ _ (by omega) h4
    replace h5 : Blk A2 (N + 1 + 1 + 1 + 1) 4 #[.bool false] := keep 4 _ _ (by omega) h5
    have X : Blk A2 A.heap.size 43 #[.int .i64 x.1, .int .i64 x.2.1, .int .i64 x.2.2] := hA2.blk (show A.heap.size ≠ W1.heap.size + 1 by omega) (Blk.new' rfl)
    have hw2 : w.heap.size ≤ W1.heap.size := by rw [hs1, ← HN.out]; omega
    replace h6 : Below w.heap.size w A2 := (h6.alloc h6.size _).trans (hA2.below (by simp; omega) (fun b hb => by omega))
    have HX := Lib.hid hx
    have H1 := Lib.hid h1
    have HZ := Lib.hid (And.intro hZ1 hZ2)
    have HS2 := Lib.hid hs2
    clear hA2 hz2 keep hx h1 hZ1 hZ2 hs2 hs1 hw2
    have k0 := fun d os => (h2.re d os).cell 0
    have k2 := fun d os => (h3.re d os).cell 0
    obtain ⟨x0, x1, x2⟩ := X.re3
    generalize A.heap.size = gx at X HS2 HZ x0 x1 x2 ⊢
    cases hp : p (val x)
    · have HG1 : ∀ d os, Calls Tryz.prog G (#[.int .i64 (val x)] ++ lg) (Go.Sort.grow (redrawn A2 d) os) fun r W' => r = .returned (.bool false) ∧ Below (Go.Sort.grow (redrawn A2 d) os).heap.size (Go.Sort.grow (redrawn A2 d) os) W' := fun d os => by
        have := HG.out (val x) (Go.Sort.grow (redrawn A2 d) os) (h6.trans ((below_regrown A2 d os).mono h6.size)); rwa [hp] at this
      have HV1 : ∀ d os, Calls Tryz.prog V (#[lv, .agg #[.int .i64 x.1, .int .i64 x.2.1, .int .i64 x.2.2]]) (Go.Sort.grow (redrawn A2 d) os) fun r W' => r = .returned (.int .i64 (val x)) ∧ Below (Go.Sort.grow (redrawn A2 d) os).heap.size (Go.Sort.grow (redrawn A2 d) os) W' := fun d os =>
        HV.out x (far_of HX.out) (Go.Sort.grow (redrawn A2 d) os) (h6.trans ((below_regrown A2 d os).mono h6.size))
      have HP := Lib.hid hp
      replace HG1 := Lib.hid HG1
      replace HV1 := Lib.hid HV1
      clear hp
      gi_wp2
      refine in_sched [0, 0, 0, 0, 0] (fun _ _ _ => True) (by kernel_rfl) (by kernel_rfl) (fun _ _ _ _ h _ => h) (by kernel_rfl) (fun ⟨_, _, h⟩ => h) ?_
      repeat (first | (refine wpQs_s ?_) | (refine wpQs_q (fun K hK => ?_); go_simp; first | (refine hK _ ?_; clear hK K) | (apply Exists.intro; refine ⟨fun _ => ?_, hK _ ?_⟩; (first | exact HV1.out _ _ | exact HG1.out _ _); clear hK K)) | (refine wpQs_f (fun K hK => ?_); go_simp; refine hK _ ?_; clear hK K))
      refine wpQs_nil ?_
      repeat (first | (refine wpLs_skip ?_) | (refine wpLs_one ?lsA (fun v_ => ?_); case lsA => (intro w_ hw_ hp_; (fail))))
      refine wpLs_nilB ?_
      simp only [tails]
      intro w3 h7 _
      simp only [wpList, Exit.then]
      go_at_K
      gi_wp2
      exact ⟨Kept.of_below h7, fun j y hj hy => (by
        rcases Nat.lt_or_eq_of_le (Nat.le_of_lt_succ hj) with e | e
        · exact H1.out j y e hy
        · subst e; rw [HX.out] at hy; obtain rfl := Option.some.inj hy; exact HP.out), h2.on h7, h3.on h7, h4.on h7, h5.on h7, after h6 h7⟩
    · have HG1 : ∀ d os, Calls Tryz.prog G (#[.int .i64 (val x)] ++ lg) (Go.Sort.grow (redrawn A2 d) os) fun r W' => r = .returned (.bool true) ∧ Below (Go.Sort.grow (redrawn A2 d) os).heap.size (Go.Sort.grow (redrawn A2 d) os) W' := fun d os => by
        have := HG.out (val x) (Go.Sort.grow (redrawn A2 d) os) (h6.trans ((below_regrown A2 d os).mono h6.size)); rwa [hp] at this
      have HV1 : ∀ d os, Calls Tryz.prog V (#[lv, .agg #[.int .i64 x.1, .int .i64 x.2.1, .int .i64 x.2.2]]) (Go.Sort.grow (redrawn A2 d) os) fun r W' => r = .returned (.int .i64 (val x)) ∧ Below (Go.Sort.grow (redrawn A2 d) os).heap.size (Go.Sort.grow (redrawn A2 d) os) W' := fun d os =>
        HV.out x (far_of HX.out) (Go.Sort.grow (redrawn A2 d) os) (h6.trans ((below_regrown A2 d os).mono h6.size))
      have HP := Lib.hid hp
      replace HG1 := Lib.hid HG1
      replace HV1 := Lib.hid HV1
      clear hp
      gi_wp2
      refine in_sched [0, 0, 0, 0, 0] (fun _ _ _ => True) (by kernel_rfl) (by kernel_rfl) (fun _ _ _ _ h _ => h) (by kernel_rfl) (fun ⟨_, _, h⟩ => h) ?_
      repeat (first | (refine wpQs_s ?_) | (refine wpQs_q (fun K hK => ?_); go_simp; first | (refine hK _ ?_; clear hK K) | (apply Exists.intro; refine ⟨fun _ => ?_, hK _ ?_⟩; (first | exact HV1.out _ _ | exact HG1.out _ _); clear hK K)) | (refine wpQs_f (fun K hK => ?_); go_simp; refine hK _ ?_; clear hK K))
      refine wpQs_nil ?_
      repeat (first | (refine wpLs_skip ?_) | (refine wpLs_one ?lsA (fun v_ => ?_); case lsA => (intro w_ hw_ hp_; (fail))))
      refine wpLs_nilB ?_
      simp only [tails]
      intro w3 h7 _
      replace X := X.on h7
      replace h4 := h4.on h7
      replace h5 := h5.on h7
      clear x0 x1 x2
      obtain ⟨x0, x1, x2, -, -, -⟩ := X.c3
      obtain ⟨r0, r1, r2, f0, f1, f2⟩ := h4.c3
      obtain ⟨s0, g0⟩ := h5.c1
      simp only [wpList, Exit.then]
      go_at_K
      gi_wp2
      have hs1 := HS.out
      have n3 : ¬ Keeps W1.heap.size Z (· = N + 5) (N + 1 + 1 + 1) := fun h => by rcases h with h | h; exact absurd h.1 (by omega); exact absurd (show N + 1 + 1 + 1 = N + 5 from h) (by omega)
      have n4 : ¬ Keeps W1.heap.size Z (· = N + 5) (N + 1 + 1 + 1 + 1) := fun h => by rcases h with h | h; exact absurd h.1 (by omega); exact absurd (show N + 1 + 1 + 1 + 1 = N + 5 from h) (by omega)
      refine ⟨((((Kept.of_below h7).setCell (p := ⟨N + 1 + 1 + 1, 0, none⟩) n3 _).setCell (p := ⟨N + 1 + 1 + 1, 1, none⟩) n3 _).setCell (p := ⟨N + 1 + 1 + 1, 2, none⟩) n3 _).setCell (p := ⟨N + 1 + 1 + 1 + 1, 0, none⟩) n4 _, rfl, H1.out, x, ⟨HX.out, HP.out⟩,
        (h4.st3 _ _ _).far (by dsimp only; omega) _, (((h5.far (p := ⟨N + 1 + 1 + 1, 0, none⟩) (by dsimp only; omega) _).far (p := ⟨N + 1 + 1 + 1, 1, none⟩) (by dsimp only; omega) _).far (p := ⟨N + 1 + 1 + 1, 2, none⟩) (by dsimp only; omega) _).set_ 0 _, ?_⟩
      replace h6 := after h6 h7
      rw [← HN.out] at h6 ⊢
      exact (((h6.setCell (p := ⟨N + 1 + 1 + 1, 0, none⟩) (by dsimp only; omega) _).setCell (p := ⟨N + 1 + 1 + 1, 1, none⟩) (by dsimp only; omega) _).setCell (p := ⟨N + 1 + 1 + 1, 2, none⟩) (by dsimp only; omega) _).setCell (p := ⟨N + 1 + 1 + 1 + 1, 0, none⟩) (by dsimp only; omega) _
  case done =>
    rintro Z A ⟨h1, -, -, h4, h5, h6⟩ hK
    clear b0 b1 b2 b3 b4 H bE
    obtain ⟨r0, r1, r2, f0, f1, f2⟩ := h4.c3
    obtain ⟨s0, g0⟩ := h5.c1
    have HK := Lib.hid hK
    clear hK
    go_wp2_with fail
    have hs1 := HS.out
    have hf : (cellsI a b c d e f).find? (fun x => p (val x)) = none := find_no h1.out
    have e4 := ((h4.st3 (.int .i64 0) (.int .i64 0) (.int .i64 0)).far (p := ⟨N + 1 + 1 + 1 + 1, 0, none⟩) (by dsimp only; omega) (.bool false)).putObj (D := W1.heap.size) (by omega) (.deferred none)
    have e5 := (((h5.far (p := ⟨N + 1 + 1 + 1, 0, none⟩) (by dsimp only; omega) (.int .i64 0)).far (p := ⟨N + 1 + 1 + 1, 1, none⟩) (by dsimp only; omega) (.int .i64 0)).far (p := ⟨N + 1 + 1 + 1, 2, none⟩) (by dsimp only; omega) (.int .i64 0)).set_ 0 (.bool false)
    obtain ⟨d0, d1, d2, -, -, -⟩ := e4.c3
    obtain ⟨d3, -⟩ := (e5.putObj (D := W1.heap.size) (by omega) (.deferred none)).c1
    have hK' := def_far (p := ⟨N + 1 + 1 + 1 + 1, 0, none⟩) (u := .bool false) (def_far (p := ⟨N + 1 + 1 + 1, 2, none⟩) (u := .int .i64 0) (def_far (p := ⟨N + 1 + 1 + 1, 1, none⟩) (u := .int .i64 0) (def_far (p := ⟨N + 1 + 1 + 1, 0, none⟩) (u := .int .i64 0) HK.out (by dsimp only; omega)) (by dsimp only; omega)) (by dsimp only; omega)) (by dsimp only; omega)
    refine leave_mark hK' (v := findV none) (by simp [results, Tryz.f238, go_sem, findV, d0, d1, d2, d3]) ⟨by rw [hf], ?_⟩
    rw [← HN.out] at h6 ⊢
    exact putObj_below ((((h6.setCell (p := ⟨N + 1 + 1 + 1, 0, none⟩) (by dsimp only; omega) _).setCell (p := ⟨N + 1 + 1 + 1, 1, none⟩) (by dsimp only; omega) _).setCell (p := ⟨N + 1 + 1 + 1, 2, none⟩) (by dsimp only; omega) _).setCell (p := ⟨N + 1 + 1 + 1 + 1, 0, none⟩) (by dsimp only; omega) _) (by omega) _
  case stop =>
    rintro Z k i A hi ⟨rfl, h1, x, hx, h4, h5, h6⟩ hK
    clear b0 b1 b2 b3 b4 H bE
    obtain ⟨r0, r1, r2, -, -, -⟩ := h4.c3
    obtain ⟨s0, g0⟩ := h5.c1
    have HK := Lib.hid hK
    clear hK
    go_wp2_with fail
    have hs1 := HS.out
    have hf : (cellsI a b c d e f).find? (fun x => p (val x)) = some x := find_at hx.out.1 hx.out.2 h1.out
    obtain ⟨d0, d1, d2, -, -, -⟩ := (h4.putObj (D := W1.heap.size) (by omega) (.deferred none)).c3
    obtain ⟨d3, -⟩ := (h5.putObj (D := W1.heap.size) (by omega) (.deferred none)).c1
    refine leave_mark HK.out (v := findV (some x)) (by simp [results, Tryz.f238, go_sem, findV, d0, d1, d2, d3]) ⟨by rw [hf], ?_⟩
    rw [← HN.out] at h6 ⊢
    exact putObj_below h6 (by omega) _
end Go.Proofs.YtmbccnioijokfaaGreatDoor

namespace Go.Proofs.YtmbccnioijokfaaGreatDoor
open Go.RowKit Go.Shelf
attribute [local go_sem] Oper.semAt_some
theorem Tells.on {P : Program} {V : FuncId} {lb : Value} {val : Cl → Int} {w W : World} (h : Tells P V lb val w) (H : Below w.heap.size w W) : Tells P V lb val W :=
  fun c hc X hX => h c hc X (H.trans (hX.mono H.size))
theorem Says.on {P : Program} {G : FuncId} {lb : Array Value} {p : Int → Bool} {w W : World} (h : Says P G lb p w) (H : Below w.heap.size w W) : Says P G lb p W :=
  fun c X hX => h c X (H.trans (hX.mono H.size))
theorem find_any {α : Type} (l : List α) (q : α → Bool) : l.any q = (l.find? q).isSome := by
  rw [Bool.eq_iff_iff, List.find?_isSome, List.any_eq_true]
set_option maxRecDepth 100000 in
set_option maxHeartbeats 2000000 in
theorem any_c (V G : FuncId) (lv : Value) (lg : Array Value) (val : Cl → Int) (p : Int → Bool) (a b c d e f : Int) (hB : BoxOk a b c d e f) (w : World)
    (eV : ∀ args w, (callFunc V args).run Tryz.prog w = .ok (.enter V args) w) (eG : ∀ args w, (callFunc G args).run Tryz.prog w = .ok (.enter G args) w) (hV : Tells Tryz.prog V lv val w) (hG : Says Tryz.prog G lg p w) :
    Calls Tryz.prog 183 #[.func (.func V) #[lv] #[], .agg #[.int .i64 a, .int .i64 b, .int .i64 c, .int .i64 d, .int .i64 e, .int .i64 f], .func (.func G) #[] lg] w fun r w' =>
      r = .returned (.bool ((cellsI a b c d e f).any fun x => p (val x))) ∧ Below w.heap.size w w' := by
  have hF : ∀ W, Below w.heap.size w W → Calls Tryz.prog 238 #[.func (.func V) #[lv] #[], .agg #[.int .i64 a, .int .i64 b, .int .i64 c, .int .i64 d, .int .i64 e, .int .i64 f], .func (.func G) #[] lg] W fun r w' => r = .returned (findV ((cellsI a b c d e f).find? fun x => p (val x))) ∧ Below W.heap.size W w' :=
    fun W H => find_c V G lv lg val p a b c d e f hB W eV eG (hV.on H) (hG.on H)
  clear hV hG eV eG hB
  rw [find_any]
  generalize (cellsI a b c d e f).find? (fun x => p (val x)) = o at hF ⊢
  rcases o with - | ⟨x, y, z⟩
  all_goals
    simp only [findV, Option.isSome] at hF ⊢
    replace hF := Lib.hid hF
    go_enter Tryz.func183, Tryz.ntmps183
    go_wp2_with (go_at_call 238; refine (hF.out _ (by go_grown)).mono ?_; rintro e_ w1 ⟨rfl, h1⟩)
    go_returns
    exact ⟨rfl, (after ((Below.refl _ w).alloc (Nat.le_refl _) _) h1).alloc (by have := h1.size; simp at this; omega) _⟩
theorem says_of {G : FuncId} {p : Int → Bool} (h : ∀ n w, Calls Tryz.prog G #[.int .i64 n] w fun r w' => r = .returned (.bool (p n)) ∧ w = w') (w : World) : Says Tryz.prog G #[] p w :=
  fun n W _ => (h n W).mono fun r w' h => ⟨h.1, by rw [← h.2]; exact Below.refl _ _⟩
set_option maxRecDepth 100000 in
set_option maxHeartbeats 2000000 in
theorem pmBlocked_c (V : FuncId) (lv : Value) (val : Cl → Int) (a b c d e f : Int) (hB : BoxOk a b c d e f) (w : World)
    (eV : ∀ args w, (callFunc V args).run Tryz.prog w = .ok (.enter V args) w) (hV : Tells Tryz.prog V lv val w) :
    Calls Tryz.prog 137 #[.func (.func V) #[lv] #[], .agg #[.int .i64 a, .int .i64 b, .int .i64 c, .int .i64 d, .int .i64 e, .int .i64 f]] w fun r w' =>
      r = .returned (.bool ((cellsI a b c d e f).any fun x => solB (val x))) ∧ Below w.heap.size w w' := by
  have hF : ∀ W, Below w.heap.size w W → Calls Tryz.prog 183 #[.func (.func V) #[lv] #[], .agg #[.int .i64 a, .int .i64 b, .int .i64 c, .int .i64 d, .int .i64 e, .int .i64 f], .func (.func 144) #[] #[]] W fun r w' => r = .returned (.bool ((cellsI a b c d e f).any fun x => solB (val x))) ∧ Below W.heap.size W w' :=
    fun W H => any_c V 144 lv #[] val solB a b c d e f hB W eV (enters_of Tryz.func144 (by kernel_rfl) rfl) (hV.on H) (says_of solid_c _)
  replace hF := Lib.hid hF
  clear hV eV hB
  go_enter Tryz.func137, Tryz.ntmps137
  go_wp2_with (go_at_call 183; refine (hF.out _ (by go_grown)).mono ?_; rintro e_ w1 ⟨rfl, h1⟩)
  go_returns
  exact ⟨rfl, by (repeat' (first | (with_reducible exact Below.refl _ _) | (with_reducible assumption) | (with_reducible refine Below.alloc ?_ ?_ _) | (with_reducible refine Below.drew ?_) | (with_reducible refine Below.setCell ?_ ?_ _) | (with_reducible refine after ?_ (below_regrown _ _ _)) | (refine after ?_ (by with_reducible assumption)) | go_size))⟩
set_option maxRecDepth 100000 in
set_option maxHeartbeats 2000000 in
theorem pmWet_c (V : FuncId) (lv : Value) (val : Cl → Int) (a b c d e f : Int) (hB : BoxOk a b c d e f) (w : World)
    (eV : ∀ args w, (callFunc V args).run Tryz.prog w = .ok (.enter V args) w) (hV : Tells Tryz.prog V lv val w) :
    Calls Tryz.prog 267 #[.func (.func V) #[lv] #[], .agg #[.int .i64 a, .int .i64 b, .int .i64 c, .int .i64 d, .int .i64 e, .int .i64 f]] w fun r w' =>
      r = .returned (.bool ((cellsI a b c d e f).any fun x => wetB (val x))) ∧ Below w.heap.size w w' := by
  have hF : ∀ W, Below w.heap.size w W → Calls Tryz.prog 183 #[.func (.func V) #[lv] #[], .agg #[.int .i64 a, .int .i64 b, .int .i64 c, .int .i64 d, .int .i64 e, .int .i64 f], .func (.func 259) #[] #[]] W fun r w' => r = .returned (.bool ((cellsI a b c d e f).any fun x => wetB (val x))) ∧ Below W.heap.size W w' :=
    fun W H => any_c V 259 lv #[] val wetB a b c d e f hB W eV (enters_of Tryz.func259 (by kernel_rfl) rfl) (hV.on H) (says_of wet_c _)
  replace hF := Lib.hid hF
  clear hV eV hB
  go_enter Tryz.func267, Tryz.ntmps267
  go_wp2_with (go_at_call 183; refine (hF.out _ (by go_grown)).mono ?_; rintro e_ w1 ⟨rfl, h1⟩)
  go_returns
  exact ⟨rfl, by (repeat' (first | (with_reducible exact Below.refl _ _) | (with_reducible assumption) | (with_reducible refine Below.alloc ?_ ?_ _) | (with_reducible refine Below.drew ?_) | (with_reducible refine Below.setCell ?_ ?_ _) | (with_reducible refine after ?_ (below_regrown _ _ _)) | (refine after ?_ (by with_reducible assumption)) | go_size))⟩
set_option maxRecDepth 100000 in
set_option maxHeartbeats 2000000 in
theorem pmClimbs_c (V : FuncId) (lv : Value) (val : Cl → Int) (a b c d e f : Int) (hB : BoxOk a b c d e f) (w : World)
    (eV : ∀ args w, (callFunc V args).run Tryz.prog w = .ok (.enter V args) w) (hV : Tells Tryz.prog V lv val w) :
    Calls Tryz.prog 266 #[.func (.func V) #[lv] #[], .agg #[.int .i64 a, .int .i64 b, .int .i64 c, .int .i64 d, .int .i64 e, .int .i64 f]] w fun r w' =>
      r = .returned (.bool ((cellsI a b c d e f).any fun x => cliB (val x))) ∧ Below w.heap.size w w' := by
  have hF : ∀ W, Below w.heap.size w W → Calls Tryz.prog 183 #[.func (.func V) #[lv] #[], .agg #[.int .i64 a, .int .i64 b, .int .i64 c, .int .i64 d, .int .i64 e, .int .i64 f], .func (.func 313) #[] #[]] W fun r w' => r = .returned (.bool ((cellsI a b c d e f).any fun x => cliB (val x))) ∧ Below W.heap.size W w' :=
    fun W H => any_c V 313 lv #[] val cliB a b c d e f hB W eV (enters_of Tryz.func313 (by kernel_rfl) rfl) (hV.on H) (says_of climbs_c _)
  replace hF := Lib.hid hF
  clear hV eV hB
  go_enter Tryz.func266, Tryz.ntmps266
  go_wp2_with (go_at_call 183; refine (hF.out _ (by go_grown)).mono ?_; rintro e_ w1 ⟨rfl, h1⟩)
  go_returns
  exact ⟨rfl, by (repeat' (first | (with_reducible exact Below.refl _ _) | (with_reducible assumption) | (with_reducible refine Below.alloc ?_ ?_ _) | (with_reducible refine Below.drew ?_) | (with_reducible refine Below.setCell ?_ ?_ _) | (with_reducible refine after ?_ (below_regrown _ _ _)) | (refine after ?_ (by with_reducible assumption)) | go_size))⟩
set_option maxRecDepth 100000 in
set_option maxHeartbeats 2000000 in
theorem pmStands_c (V : FuncId) (lv : Value) (val : Cl → Int) (a b c d e f : Int) (h1 : -140737488355328 ≤ b) (h2 : b ≤ 140737488355328) (hB : BoxOk a (cutI (b - 1)) c d b f) (w : World)
    (eV : ∀ args w, (callFunc V args).run Tryz.prog w = .ok (.enter V args) w) (hV : Tells Tryz.prog V lv val w) :
    Calls Tryz.prog 140 #[.func (.func V) #[lv] #[], .agg #[.int .i64 a, .int .i64 b, .int .i64 c, .int .i64 d, .int .i64 e, .int .i64 f]] w fun r w' =>
      r = .returned (.bool ((cellsI a (cutI (b - 1)) c d b f).any fun x => solB (val x))) ∧ Below w.heap.size w w' := by
  have hF : ∀ W, Below w.heap.size w W → Calls Tryz.prog 137 #[.func (.func V) #[lv] #[], .agg #[.int .i64 a, .int .i64 (cutI (b - 1)), .int .i64 c, .int .i64 d, .int .i64 b, .int .i64 f]] W fun r w' => r = .returned (.bool ((cellsI a (cutI (b - 1)) c d b f).any fun x => solB (val x))) ∧ Below W.heap.size W w' :=
    fun W H => pmBlocked_c V lv val a (cutI (b - 1)) c d b f hB W eV (hV.on H)
  have hU := fun W => under_c a b c d e f h1 h2 W
  replace hF := Lib.hid hF
  replace hU := Lib.hid hU
  clear hV eV hB h1 h2
  generalize cutI (b - 1) = b' at hF hU ⊢
  go_enter Tryz.func140, Tryz.ntmps140
  go_wp2_with first
    | (go_at_call 185; refine (hU.out _).mono ?_; rintro e_ w1 ⟨rfl, h1⟩)
    | (go_at_call 137; refine (hF.out _ (after ((Below.refl _ w).alloc (Nat.le_refl _) _) h1)).mono ?_; rintro e_ w2 ⟨rfl, h2⟩)
  go_returns
  exact ⟨rfl, after (after ((Below.refl _ w).alloc (Nat.le_refl _) _) h1) h2⟩
end Go.Proofs.YtmbccnioijokfaaGreatDoor

namespace Go.Proofs.YtmbccnioijokfaaGreatDoor
open Go.RowKit Go.Shelf
attribute [local go_sem] Oper.semAt_some
theorem ax_len {n m : Int} (h : n ≤ m) (h2 : m ≤ n + 1000000) : (topI n m + 1 - lowI n).toNat ≤ 18 := by
  unfold topI lowI cutI
  split <;> omega
theorem cells_len {a b c d e f : Int} (h1 : a ≤ d) (h2 : d ≤ a + 1000000) (h3 : b ≤ e) (h4 : e ≤ b + 1000000) (h5 : c ≤ f) (h6 : f ≤ c + 1000000) : (cellsI a b c d e f).length ≤ 1000000 := by
  unfold cellsI
  split
  · rw [boxL_length]
    have := Nat.mul_le_mul (ax_len h3 h4) (Nat.mul_le_mul (ax_len h5 h6) (ax_len h1 h2))
    omega
  · simp
end Go.Proofs.YtmbccnioijokfaaGreatDoor

namespace Go.Proofs.YtmbccnioijokfaaGreatDoor
open Go.RowKit
theorem ofI_id {k : Int} (h1 : -2147483648 ≤ k) (h2 : k ≤ 2147483648) : ofI k = k * 65536 := by unfold ofI; omega
def layU (top d : Int) : List (Int × Int) := (List.range ((top + d + 65535) / 65536 - (top + 65535) / 65536).toNat).map fun i : Nat => ((top + 65535) / 65536 + (i : Int), ((top + 65535) / 65536 + (i : Int)) * 65536 - top)
def layD (low d : Int) : List (Int × Int) := (List.range (low / 65536 - (low + d) / 65536).toNat).map fun i : Nat => (low / 65536 - 1 - (i : Int), (low / 65536 - (i : Int)) * 65536 - low)
def lays (low top d : Int) : List (Int × Int) := if 0 < d then layU top d else layD low d
def axV (blk : Int → Bool) (low top d : Int) : Int × Bool := match (lays low top d).find? (fun kw => blk kw.1) with
  | some kw => (kw.2, true)
  | none => (d, false)
def lyB (val : Cl → Int) (a b c d e f axis k : Int) : Bool :=
  (cellsI (wiI a axis 0 (k * 65536)) (wiI b axis 1 (k * 65536)) (wiI c axis 2 (k * 65536)) (wiI d axis 0 (k * 65536 + 65536)) (wiI e axis 1 (k * 65536 + 65536)) (wiI f axis 2 (k * 65536 + 65536))).any fun x => solB (val x)
def farI (d : Int) : Int := min (max d (-4194304)) 4194304
def axisV (val : Cl → Int) (a b c d e f axis dd : Int) : Int × Bool :=
  if axis < 0 ∨ 3 ≤ axis then (0, false) else axV (lyB val a b c d e f axis) (axI a b c axis) (axI d e f axis) (farI dd)
structure Sm (M a b c d e f : Int) : Prop where
  a1 : -M ≤ a
  b1 : -M ≤ b
  c1 : -M ≤ c
  a2 : a ≤ M
  b2 : b ≤ M
  c2 : c ≤ M
  ad : a ≤ d
  be : b ≤ e
  cf : c ≤ f
  da : d ≤ a + 1000000
  eb : e ≤ b + 1000000
  fc : f ≤ c + 1000000
theorem Sm.box {M a b c d e f : Int} (h : Sm M a b c d e f) (hM : M ≤ 100000000000000) : BoxOk a b c d e f := by
  obtain ⟨h1, h2, h3, h4, h5, h6, h7, h8, h9, h10, h11, h12⟩ := h
  exact ⟨by omega, by omega, by omega, by omega, by omega, by omega, by omega, by omega, by omega⟩
theorem Sm.cells {M a b c d e f : Int} (h : Sm M a b c d e f) : (cellsI a b c d e f).length ≤ 1000000 := cells_len h.ad h.da h.be h.eb h.cf h.fc
theorem wi_c {x axis i n : Int} (h1 : -140737488355328 ≤ n) (h2 : n ≤ 140737488355328) : wiI x axis i n = if i = axis then n else x := by unfold wiI; rw [cutI_id h1 h2]
theorem Sm.layer {M a b c d e f axis k : Int} (h : Sm M a b c d e f) (hM : M ≤ 73000000000000) (h1 : -(M + 10000000) ≤ k * 65536) (h2 : k * 65536 ≤ M + 10000000) :
    Sm (M + 10000000) (wiI a axis 0 (k * 65536)) (wiI b axis 1 (k * 65536)) (wiI c axis 2 (k * 65536)) (wiI d axis 0 (k * 65536 + 65536)) (wiI e axis 1 (k * 65536 + 65536)) (wiI f axis 2 (k * 65536 + 65536)) := by
  obtain ⟨h3, h4, h5, h6, h7, h8, h9, h10, h11, h12, h13, h14⟩ := h
  rw [wi_c (by omega) (by omega), wi_c (by omega) (by omega), wi_c (by omega) (by omega), wi_c (by omega) (by omega), wi_c (by omega) (by omega), wi_c (by omega) (by omega)]
  constructor <;> split <;> omega
theorem axI_sm {M a b c d e f axis : Int} (h : Sm M a b c d e f) (h0 : 0 ≤ M) : -M ≤ axI a b c axis ∧ axI a b c axis ≤ axI d e f axis ∧ axI d e f axis ≤ M + 1000000 := by
  obtain ⟨h3, h4, h5, h6, h7, h8, h9, h10, h11, h12, h13, h14⟩ := h
  unfold axI
  refine ⟨?_, ?_, ?_⟩ <;> (split; omega; split; omega; split; omega; omega)
theorem mem_lays {low top d k w : Int} (h : (k, w) ∈ lays low top d) :
    (0 < d ∧ w = k * 65536 - top ∧ 0 ≤ w ∧ w < d) ∨ (d < 0 ∧ w = (k + 1) * 65536 - low ∧ w ≤ 0 ∧ d < w) := by
  unfold lays at h
  split at h
  · left
    unfold layU at h
    obtain ⟨i, hi, e⟩ := List.mem_map.1 h
    rw [List.mem_range] at hi
    injection e with e1 e2
    refine ⟨by assumption, by omega, by omega, by omega⟩
  · right
    unfold layD at h
    obtain ⟨i, hi, e⟩ := List.mem_map.1 h
    rw [List.mem_range] at hi
    injection e with e1 e2
    refine ⟨by omega, by omega, by omega, by omega⟩
theorem farI_bd (d : Int) : -4194304 ≤ farI d ∧ farI d ≤ 4194304 := by unfold farI; omega
theorem axV_bd {blk : Int → Bool} {low top d : Int} : (0 ≤ d → 0 ≤ (axV blk low top d).1 ∧ (axV blk low top d).1 ≤ d) ∧ (d ≤ 0 → d ≤ (axV blk low top d).1 ∧ (axV blk low top d).1 ≤ 0) := by
  unfold axV
  split
  · rename_i kw h
    have := mem_lays (k := kw.1) (w := kw.2) (List.mem_of_find?_eq_some h)
    dsimp only
    omega
  · dsimp only; omega
theorem layU_len (top d : Int) : (layU top d).length = ((top + d + 65535) / 65536 - (top + 65535) / 65536).toNat := by simp [layU]
theorem layD_len (low d : Int) : (layD low d).length = (low / 65536 - (low + d) / 65536).toNat := by simp [layD]
theorem layU_at {top d : Int} {i : Nat} (h : i < (layU top d).length) : (layU top d)[i]? = some ((top + 65535) / 65536 + (i : Int), ((top + 65535) / 65536 + (i : Int)) * 65536 - top) := by
  rw [layU_len] at h; simp [layU, h]
theorem layD_at {low d : Int} {i : Nat} (h : i < (layD low d).length) : (layD low d)[i]? = some (low / 65536 - 1 - (i : Int), (low / 65536 - (i : Int)) * 65536 - low) := by
  rw [layD_len] at h; simp [layD, h]
end Go.Proofs.YtmbccnioijokfaaGreatDoor

namespace Go.Proofs.YtmbccnioijokfaaGreatDoor
open Go.RowKit
theorem axV_up_none {blk : Int → Bool} {low top d : Int} (hd : 0 < d) (hn : ∀ k', 0 ≤ k' * 65536 - top → k' * 65536 - top < d → blk k' = false) : axV blk low top d = (d, false) := by
  unfold axV lays
  rw [if_pos hd, find_no fun j x hj hx => ?_]
  rw [layU_at hj] at hx
  rw [layU_len] at hj
  obtain rfl := Option.some.inj hx
  exact hn _ (by omega) (by omega)
theorem axV_dn_none {blk : Int → Bool} {low top d : Int} (hd : d < 0) (hn : ∀ k', (k' + 1) * 65536 - low ≤ 0 → d < (k' + 1) * 65536 - low → blk k' = false) : axV blk low top d = (d, false) := by
  unfold axV lays
  rw [if_neg (by omega), find_no fun j x hj hx => ?_]
  rw [layD_at hj] at hx
  rw [layD_len] at hj
  obtain rfl := Option.some.inj hx
  exact hn _ (by dsimp only; omega) (by dsimp only; omega)
theorem axV_zero (blk : Int → Bool) (low top : Int) : axV blk low top 0 = (0, false) := by
  have : lays low top 0 = [] := by unfold lays layD; simp
  unfold axV; rw [this]; rfl
end Go.Proofs.YtmbccnioijokfaaGreatDoor

namespace Go.Proofs.YtmbccnioijokfaaGreatDoor
open Go.RowKit
abbrev B6 := Int × Int × Int × Int × Int × Int
abbrev ag6 (x : B6) : Array Value := #[.int .i64 x.1, .int .i64 x.2.1, .int .i64 x.2.2.1, .int .i64 x.2.2.2.1, .int .i64 x.2.2.2.2.1, .int .i64 x.2.2.2.2.2]
def Sm6 (M : Int) (x : B6) : Prop := Sm M x.1 x.2.1 x.2.2.1 x.2.2.2.1 x.2.2.2.2.1 x.2.2.2.2.2
def ax6 (val : Cl → Int) (x : B6) (axis dd : Int) : Int × Bool := axisV val x.1 x.2.1 x.2.2.1 x.2.2.2.1 x.2.2.2.2.1 x.2.2.2.2.2 axis dd
def mv6 (x : B6) (axis n : Int) : B6 :=
  (addI x.1 (wiI 0 axis 0 n), addI x.2.1 (wiI 0 axis 1 n), addI x.2.2.1 (wiI 0 axis 2 n), addI x.2.2.2.1 (wiI 0 axis 0 n), addI x.2.2.2.2.1 (wiI 0 axis 1 n), addI x.2.2.2.2.2 (wiI 0 axis 2 n))
def al6 (val : Cl → Int) (x : B6) (axis dd : Int) : B6 × Bool := (mv6 x axis (ax6 val x axis dd).1, (ax6 val x axis dd).2)
theorem axisV_far (val : Cl → Int) (a b c d e f axis dd : Int) : -4194304 ≤ (axisV val a b c d e f axis dd).1 ∧ (axisV val a b c d e f axis dd).1 ≤ 4194304 := by
  unfold axisV
  split
  · simp
  · obtain ⟨h1, h2⟩ := farI_bd dd
    obtain ⟨h3, h4⟩ := axV_bd (blk := lyB val a b c d e f axis) (low := axI a b c axis) (top := axI d e f axis) (d := farI dd)
    omega
theorem addI_in {a b : Int} (h1 : -100000000000000 ≤ a) (h2 : a ≤ 100000000000000) (h3 : -10000000 ≤ b) (h4 : b ≤ 10000000) : addI a b = a + b := by
  unfold addI cutI; omega
theorem wi0 {axis i n : Int} (h1 : -10000000 ≤ n) (h2 : n ≤ 10000000) : wiI 0 axis i n = if i = axis then n else 0 := wi_c (by omega) (by omega)
theorem mv6_sm {M : Int} {x : B6} (h : Sm6 M x) (hM0 : 0 ≤ M) (hM : M ≤ 74000000000000) {axis n : Int} (h1 : -10000000 ≤ n) (h2 : n ≤ 10000000) : Sm6 (M + 10000000) (mv6 x axis n) := by
  obtain ⟨h3, h4, h5, h6, h7, h8, h9, h10, h11, h12, h13, h14⟩ := h
  unfold Sm6 mv6
  rw [wi0 h1 h2, wi0 h1 h2, wi0 h1 h2]
  dsimp only
  have q : ∀ i : Int, -10000000 ≤ (if i = axis then n else 0) ∧ (if i = axis then n else 0) ≤ 10000000 := fun i => by split <;> omega
  have q0 := q 0
  have q1 := q 1
  have q2 := q 2
  generalize (if (0 : Int) = axis then n else 0) = n0 at q0 ⊢
  generalize (if (1 : Int) = axis then n else 0) = n1 at q1 ⊢
  generalize (if (2 : Int) = axis then n else 0) = n2 at q2 ⊢
  rw [addI_in (by omega) (by omega) q0.1 q0.2, addI_in (by omega) (by omega) q1.1 q1.2, addI_in (by omega) (by omega) q2.1 q2.2, addI_in (by omega) (by omega) q0.1 q0.2, addI_in (by omega) (by omega) q1.1 q1.2, addI_in (by omega) (by omega) q2.1 q2.2]
  constructor <;> omega
theorem al6_sm {M : Int} {x : B6} (h : Sm6 M x) (hM0 : 0 ≤ M) (hM : M ≤ 74000000000000) (val : Cl → Int) (axis dd : Int) : Sm6 (M + 10000000) (al6 val x axis dd).1 := by
  obtain ⟨h1, h2⟩ := axisV_far val x.1 x.2.1 x.2.2.1 x.2.2.2.1 x.2.2.2.2.1 x.2.2.2.2.2 axis dd
  exact mv6_sm h hM0 hM (n := (ax6 val x axis dd).1) (by unfold ax6; omega) (by unfold ax6; omega)
def st1 (val : Cl → Int) (x : B6) (dy : Int) : B6 := (al6 val x 1 dy).1
def st2 (val : Cl → Int) (x : B6) (dx dy : Int) : B6 := (al6 val (st1 val x dy) 0 dx).1
def st3 (val : Cl → Int) (x : B6) (dx dy dz : Int) : B6 := (al6 val (st2 val x dx dy) 2 dz).1
def hy1 (val : Cl → Int) (x : B6) (dy : Int) : Bool := (al6 val x 1 dy).2
def hx2 (val : Cl → Int) (x : B6) (dx dy : Int) : Bool := (al6 val (st1 val x dy) 0 dx).2
def hz3 (val : Cl → Int) (x : B6) (dx dy dz : Int) : Bool := (al6 val (st2 val x dx dy) 2 dz).2
def moveT (val : Cl → Int) (x : B6) (dx dy dz : Int) : Value := .tuple #[.agg (ag6 (st3 val x dx dy dz)), .agg #[.bool (hx2 val x dx dy), .bool (hy1 val x dy), .bool (hz3 val x dx dy dz)]]
end Go.Proofs.YtmbccnioijokfaaGreatDoor

namespace Go.Proofs.YtmbccnioijokfaaGreatDoor
open Go.RowKit
theorem far_in {d : Int} (h1 : -4194304 ≤ d) (h2 : d ≤ 4194304) : farI d = d := by unfold farI; omega
end Go.Proofs.YtmbccnioijokfaaGreatDoor

namespace Go.Proofs.YtmbccnioijokfaaGreatDoor
def inAx (lo hi k : Int) : Prop := thinI lo hi = false ∧ lowI lo ≤ k ∧ k ≤ topI lo hi
theorem mem_cellsI {a b c d e f : Int} {x : Cl} : x ∈ cellsI a b c d e f ↔ inAx a d x.1 ∧ inAx b e x.2.1 ∧ inAx c f x.2.2 := by
  unfold cellsI inAx isI
  cases h1 : thinI a d <;> cases h2 : thinI b e <;> cases h3 : thinI c f <;> simp [mem_boxL, and_assoc]
theorem inAx_iff {lo hi k : Int} (h1 : -140737488355328 ≤ lo) (h2 : hi ≤ 140737488355328) (h : lo ≤ hi) : inAx lo hi k ↔ (lo < hi ∧ lo < (k + 1) * 65536 ∧ k * 65536 < hi) ∨ (lo = hi ∧ k * 65536 < lo ∧ lo < (k + 1) * 65536) := by
  unfold inAx thinI topI lowI
  rw [cutI_id h1 (by omega), cutI_id (by omega) h2]
  simp only [Bool.and_eq_false_iff, beq_eq_false_iff_ne, ne_eq]
  constructor
  · rintro ⟨t, k1, k2⟩
    split at k2 <;> omega
  · intro hc
    refine ⟨by omega, by omega, ?_⟩
    split <;> omega
def blk6 (val : Cl → Int) (x : B6) : Bool := (cellsI x.1 x.2.1 x.2.2.1 x.2.2.2.1 x.2.2.2.2.1 x.2.2.2.2.2).any fun c => solB (val c)
theorem blk6_false {val : Cl → Int} {x : B6} : blk6 val x = false ↔ ∀ c, inAx x.1 x.2.2.2.1 c.1 → inAx x.2.1 x.2.2.2.2.1 c.2.1 → inAx x.2.2.1 x.2.2.2.2.2 c.2.2 → solB (val c) = false := by
  unfold blk6
  rw [List.any_eq_false]
  constructor
  · intro h c h1 h2 h3
    simpa using h c (mem_cellsI.2 ⟨h1, h2, h3⟩)
  · intro h c hc
    obtain ⟨h1, h2, h3⟩ := mem_cellsI.1 hc
    simpa using h c h1 h2 h3
theorem lyB_false {val : Cl → Int} {a b c d e f axis k : Int} : lyB val a b c d e f axis k = false ↔ ∀ x : Cl, inAx (wiI a axis 0 (k * 65536)) (wiI d axis 0 (k * 65536 + 65536)) x.1 → inAx (wiI b axis 1 (k * 65536)) (wiI e axis 1 (k * 65536 + 65536)) x.2.1 → inAx (wiI c axis 2 (k * 65536)) (wiI f axis 2 (k * 65536 + 65536)) x.2.2 → solB (val x) = false := by
  have h := blk6_false (val := val) (x := (wiI a axis 0 (k * 65536), wiI b axis 1 (k * 65536), wiI c axis 2 (k * 65536), wiI d axis 0 (k * 65536 + 65536), wiI e axis 1 (k * 65536 + 65536), wiI f axis 2 (k * 65536 + 65536)))
  exact h
end Go.Proofs.YtmbccnioijokfaaGreatDoor

namespace Go.Proofs.YtmbccnioijokfaaGreatDoor
def unB (val : Cl → Int) (x : B6) : Bool := (cellsI x.1 (cutI (x.2.1 - 1)) x.2.2.1 x.2.2.2.1 x.2.1 x.2.2.2.2.2).any fun c => solB (val c)
def wentI (x y : B6) : Int := mxI (y.1 - x.1) (x.1 - y.1) + mxI (y.2.2.1 - x.2.2.1) (x.2.2.1 - y.2.2.1)
section
variable (val : Cl → Int) (x : B6) (dx dy dz up : Int)
def hi1 : B6 × Bool := al6 val x 1 (mnI up 65536)
def rise : Int := (hi1 val x up).1.2.1 - x.2.1
def oA : B6 × Bool := al6 val (hi1 val x up).1 0 dx
def oB : B6 × Bool := al6 val (oA val x dx up).1 2 dz
def oC : B6 × Bool := al6 val (oB val x dx dz up).1 1 (-rise val x up)
abbrev ah3 (h : Bool × Bool × Bool) : Array Value := #[.bool h.1, .bool h.2.1, .bool h.2.2]
abbrev bhT (p : B6 × Bool × Bool × Bool) : Value := .tuple #[.agg (ag6 p.1), .agg (ah3 p.2)]
def stepOf (y c : B6) (u0 u1 u2 sa sb st : Bool) (up n1 n2 : Int) : B6 × Bool × Bool × Bool :=
  if ((u0 || u2) && decide (0 < up) && st && decide (n2 < n1)) = true then (c, sa, true, sb) else (y, u0, u1, u2)
def stepV : B6 × Bool × Bool × Bool :=
  stepOf (st3 val x dx dy dz) (oC val x dx dz up).1 (hx2 val x dx dy) (hy1 val x dy) (hz3 val x dx dy dz) (oA val x dx up).2 (oB val x dx dz up).2 (unB val x) up (wentI x (oC val x dx dz up).1) (wentI x (st3 val x dx dy dz))
variable {val x dx dy dz up}
theorem stepOf_no {y c : B6} {u0 u1 u2 sa sb st : Bool} {up n1 n2 : Int} (h : (u0 = false ∧ u2 = false) ∨ up ≤ 0 ∨ st = false ∨ n1 ≤ n2) : stepOf y c u0 u1 u2 sa sb st up n1 n2 = (y, u0, u1, u2) := by
  unfold stepOf
  refine if_neg fun e => ?_
  simp only [Bool.and_eq_true, Bool.or_eq_true, decide_eq_true_eq] at e
  obtain ⟨⟨⟨e1, e2⟩, e3⟩, e4⟩ := e
  rcases h with ⟨rfl, rfl⟩ | h | rfl | h
  · simp at e1
  · omega
  · cases e3
  · omega
theorem stepOf_yes {y c : B6} {u0 u1 u2 sa sb : Bool} {up n1 n2 : Int} (h : u0 = true ∨ u2 = true) (h1 : 0 < up) (h2 : n2 < n1) : stepOf y c u0 u1 u2 sa sb true up n1 n2 = (c, sa, true, sb) := by
  unfold stepOf
  refine if_pos ?_
  simp only [Bool.and_eq_true, Bool.or_eq_true, decide_eq_true_eq]
  exact ⟨⟨⟨h, h1⟩, trivial⟩, h2⟩
theorem hi1_sm {M : Int} (h : Sm6 M x) (hM0 : 0 ≤ M) (hM : M ≤ 73000000000000) : Sm6 (M + 10000000) (hi1 val x up).1 := al6_sm h hM0 (by omega) val 1 _
theorem oA_sm {M : Int} (h : Sm6 M x) (hM0 : 0 ≤ M) (hM : M ≤ 73000000000000) : Sm6 (M + 20000000) (oA val x dx up).1 := by
  have := al6_sm (hi1_sm (val := val) (up := up) h hM0 hM) (by omega) (by omega) val 0 dx
  rwa [show M + 10000000 + 10000000 = M + 20000000 by omega] at this
theorem oB_sm {M : Int} (h : Sm6 M x) (hM0 : 0 ≤ M) (hM : M ≤ 73000000000000) : Sm6 (M + 30000000) (oB val x dx dz up).1 := by
  have := al6_sm (oA_sm (val := val) (up := up) (dx := dx) h hM0 hM) (by omega) (by omega) val 2 dz
  rwa [show M + 20000000 + 10000000 = M + 30000000 by omega] at this
theorem oC_sm {M : Int} (h : Sm6 M x) (hM0 : 0 ≤ M) (hM : M ≤ 73000000000000) : Sm6 (M + 40000000) (oC val x dx dz up).1 := by
  have := al6_sm (oB_sm (val := val) (up := up) (dx := dx) (dz := dz) h hM0 hM) (by omega) (by omega) val 1 (-rise val x up)
  rwa [show M + 30000000 + 10000000 = M + 40000000 by omega] at this
theorem st3_sm {M : Int} (h : Sm6 M x) (hM0 : 0 ≤ M) (hM : M ≤ 73000000000000) : Sm6 (M + 30000000) (st3 val x dx dy dz) := by
  have s1 := al6_sm h hM0 (by omega) val 1 dy
  have s2 := al6_sm (x := st1 val x dy) s1 (by omega) (by omega) val 0 dx
  have s3 := al6_sm (x := st2 val x dx dy) s2 (by omega) (by omega) val 2 dz
  rwa [show M + 10000000 + 10000000 + 10000000 = M + 30000000 by omega] at s3
theorem Sm6.bd {M : Int} (h : Sm6 M x) : (-M ≤ x.1 ∧ x.1 ≤ M) ∧ (-M ≤ x.2.1 ∧ x.2.1 ≤ M) ∧ (-M ≤ x.2.2.1 ∧ x.2.2.1 ≤ M) := ⟨⟨h.a1, h.a2⟩, ⟨h.b1, h.b2⟩, ⟨h.c1, h.c2⟩⟩
theorem Sm6.under {M : Int} (h : Sm6 M x) (hM0 : 0 ≤ M) (hM : M ≤ 73000000000000) : BoxOk x.1 (cutI (x.2.1 - 1)) x.2.2.1 x.2.2.2.1 x.2.1 x.2.2.2.2.2 ∧ (cellsI x.1 (cutI (x.2.1 - 1)) x.2.2.1 x.2.2.2.1 x.2.1 x.2.2.2.2.2).length ≤ 1000000 := by
  obtain ⟨h1, h2, h3, h4, h5, h6, h7, h8, h9, h10, h11, h12⟩ := h
  rw [cutI_id (by omega) (by omega)]
  exact ⟨⟨by omega, by omega, by omega, by omega, by omega, by omega, by omega, by omega, by omega⟩, cells_len (by omega) (by omega) (by omega) (by omega) (by omega) (by omega)⟩
end
end Go.Proofs.YtmbccnioijokfaaGreatDoor

namespace Go.Proofs.YtmbccnioijokfaaGreatDoor
theorem Sm6.mono {M M' : Int} {x : B6} (h : Sm6 M x) (hm : M ≤ M') : Sm6 M' x := by
  obtain ⟨h1, h2, h3, h4, h5, h6, h7, h8, h9, h10, h11, h12⟩ := h
  exact ⟨by omega, by omega, by omega, by omega, by omega, by omega, h7, h8, h9, h10, h11, h12⟩
section
variable {val : Cl → Int} {x : B6} {dx dy dz up M : Int}
theorem stepV_sm (h : Sm6 M x) (hM0 : 0 ≤ M) (hM : M ≤ 73000000000000) : Sm6 (M + 40000000) (stepV val x dx dy dz up).1 := by
  unfold stepV stepOf
  split
  · exact oC_sm h hM0 hM
  · exact (st3_sm h hM0 hM).mono (by omega)
theorem Sm6.box (h : Sm6 M x) (hM0 : 0 ≤ M) (hM : M ≤ 73000000000000) : BoxOk x.1 x.2.1 x.2.2.1 x.2.2.2.1 x.2.2.2.2.1 x.2.2.2.2.2 ∧ (cellsI x.1 x.2.1 x.2.2.1 x.2.2.2.1 x.2.2.2.2.1 x.2.2.2.2.2).length ≤ 1000000 := ⟨Sm.box h (by omega), Sm.cells h⟩
end
theorem axV_miss {blk : Int → Bool} {low top d : Int} (h : (axV blk low top d).2 = false) : (axV blk low top d).1 = d := by
  unfold axV at *
  split at h
  · cases h
  · rfl
theorem ax6_say (val : Cl → Int) (x : B6) {i m : Int} (hi : 0 ≤ i ∧ i < 3) (h1 : -4194304 ≤ m) (h2 : m ≤ 4194304) :
    (((0 ≤ m ∧ 0 ≤ (ax6 val x i m).1 ∧ (ax6 val x i m).1 ≤ m) ∨ (m ≤ 0 ∧ m ≤ (ax6 val x i m).1 ∧ (ax6 val x i m).1 ≤ 0))) ∧ ((ax6 val x i m).2 = false → (ax6 val x i m).1 = m) := by
  unfold ax6 axisV
  rw [if_neg (by omega), far_in h1 h2]
  obtain ⟨h3, h4⟩ := axV_bd (blk := lyB val x.1 x.2.1 x.2.2.1 x.2.2.2.1 x.2.2.2.2.1 x.2.2.2.2.2 i) (low := axI x.1 x.2.1 x.2.2.1 i) (top := axI x.2.2.2.1 x.2.2.2.2.1 x.2.2.2.2.2 i) (d := m)
  refine ⟨?_, axV_miss⟩
  rcases (show 0 ≤ m ∨ m ≤ 0 by omega) with h | h
  · exact .inl ⟨h, h3 h⟩
  · exact .inr ⟨h, h4 h⟩
end Go.Proofs.YtmbccnioijokfaaGreatDoor

namespace Go.Proofs.YtmbccnioijokfaaGreatDoor
open Go.RowKit Go.Shelf
attribute [local go_sem] Oper.semAt_some
theorem layers_c (a b c d e f axis dd : Int) (w : World) : Calls Tryz.prog 355 #[.agg #[.int .i64 a, .int .i64 b, .int .i64 c, .int .i64 d, .int .i64 e, .int .i64 f], .int .i64 axis, .int .i64 dd] w fun r w' =>
    r = .returned (.func (.func 362) #[] #[.pointer (some ⟨w.heap.size, 0, none⟩), .pointer (some ⟨w.heap.size + 1, 0, none⟩), .pointer (some ⟨w.heap.size + 1 + 1, 0, none⟩)]) ∧
    w' = ((w.alloc (.cells #[.int .i64 a, .int .i64 b, .int .i64 c, .int .i64 d, .int .i64 e, .int .i64 f] 210)).alloc (.cells #[.int .i64 axis] 3)).alloc (.cells #[.int .i64 dd] 3) := by
  have hmf : ∀ (fn : Fn) (first cap : Array Value) (w : World), (Instr.makeFunc fn first cap).run Tryz.prog w = .ok (.func fn first cap) w := fun _ _ _ _ => rfl
  go_enter Tryz.func355, Tryz.ntmps355
  go_wp2_with fail
  go_returns
  exact ⟨rfl, rfl⟩
abbrev encK (c : Int × Int) : Array Value := #[.int .i64 c.1, .int .i64 c.2]
theorem of_b (n v : Int) (h : ofI n = v) (w : World) : Calls Tryz.prog 244 #[.int .i64 n] w fun e w' => e = .returned (.int .i64 v) ∧ Below w.heap.size w w' := calls_bel (of_e n v h w)
theorem floor_v (n v : Int) (h : cutI n / 65536 = v) (w : World) : Calls Tryz.prog 237 #[.int .i64 n] w fun e w' => e = .returned (.int .i64 v) ∧ w = w' := by subst h; exact floor_c n w
set_option maxRecDepth 100000 in
set_option maxHeartbeats 8000000 in
theorem lay_it (B G D : Nat) (a b c d e f axis dd M : Int) (hM : M ≤ 73000000000000) (hM0 : 0 ≤ M) (hB : Sm M a b c d e f) (h1 : -4194304 ≤ dd) (h2 : dd ≤ 4194304) (w : World) (hb : Blk w B 210 #[.int .i64 a, .int .i64 b, .int .i64 c, .int .i64 d, .int .i64 e, .int .i64 f]) (hg : Blk w G 3 #[.int .i64 axis]) (hd : Blk w D 3 #[.int .i64 dd]) :
    Iter Tryz.prog 362 #[.pointer (some ⟨B, 0, none⟩), .pointer (some ⟨G, 0, none⟩), .pointer (some ⟨D, 0, none⟩)] encK (lays (axI a b c axis) (axI d e f axis) dd) (fun x => x = B ∨ x = G ∨ x = D) w := by
  intro m l J Jx W hW hJ hJx hY h0
  have A := hW.blk (.inl rfl) hb
  have A1 := hW.blk (.inr (.inl rfl)) hg
  have A2 := hW.blk (.inr (.inr rfl)) hd
  obtain ⟨l1, l2, l3⟩ := axI_sm (axis := axis) hB hM0
  clear hb hg hd hW hB
  refine callsIn_of_wp Tryz.func362 rfl trivial ?_ rfl
  simp only [Tryz.ntmps362, List.size_toArray, List.length_cons, List.length_nil, Nat.reduceAdd, Nat.reduceSub, Array.replicate_succ, Array.replicate_zero, List.push_toArray, List.append_toArray, List.nil_append, List.cons_append]
  refine wpIn_wide.2 ?_
  obtain ⟨a0, a1, a2, a3, a4, a5⟩ := A.re6
  have g0 := fun x y => (A1.re x y).cell 0
  clear A
  go_upto_region 0 with (fail)
  refine wp_sched [0, 0, 0, 0, 0, 0, 0, 0, 0, 0] (fun _ _ _ => True) (by kernel_rfl) (by kernel_rfl) (fun _ _ _ _ h _ => h) ?_
  repeat (first | (refine wpQs_s ?_) | (refine wpQs_q (fun K hK => ?_); go_simp; first | (refine hK _ ?_; clear hK K) | (apply Exists.intro; refine ⟨fun _ => ?_, hK _ ?_⟩; (exact axis_c _ _ _ _ _); clear hK K)) | (refine wpQs_f (fun K hK => ?_); go_simp; refine hK _ ?_; clear hK K))
  refine wpQs_nil ?_
  repeat (first | (refine wpLs_skip ?_) | (refine wpLs_one ?lsA (fun v_ => ?_); case lsA => (intro w_ hw_ hp_; (fail))))
  refine wpLs_nilB ?_
  simp only [tails]
  clear a0 a1 a2 a3 a4 a5 g0
  generalize hlo : axI a b c axis = low at l1 l2 hY ⊢
  generalize hto : axI d e f axis = top at l2 l3 hY ⊢
  intro W1 k1 _
  have HLO := Lib.hid hlo
  have HTO := Lib.hid hto
  clear hlo hto
  have hD := A2.on k1
  have d0 := hD.cell 0
  have hJ1 : ∀ Z, J Z 0 W1 := fun Z => hJ Z 0 W W1 (h0 Z) (Kept.of_below k1)
  have hsz := k1.size
  have hDl := A2.lt
  clear k1 h0 A1 A2
  by_cases hpos : 0 < dd
  · have hls : lays low top dd = layU top dd := by unfold lays; rw [if_pos hpos]
    rw [hls] at hY
    have HLS := Lib.hid hls
    have hlen := layU_len top dd
    have HLEN := Lib.hid hlen
    clear hls hlen
    go_upto_region 3 with (go_at_call 237; refine (floor_v _ ((top + 65535) / 65536) (by unfold cutI; omega) _).mono ?_; rintro e_ w2 ⟨rfl, rfl⟩)
    refine (wpIn_wide (n := m + 1)).1 ?_
    gi_loopw [7] (fun v wr => ∃ (kk : Int) (i : Nat), v = .int .i64 kk ∧ Hid (kk = (top + 65535) / 65536 + (i : Int)) ∧ Hid (i ≤ (layU top dd).length) ∧ Blk wr D 3 #[.int .i64 dd] ∧ Hid (W1.heap.size ≤ wr.heap.size) ∧ J W1.heap.size i wr) (fun v _ => ((top + dd + 65535) / 65536 + 1 - intOf v).toNat)
    case atStart => exact ⟨_, 0, rfl, Lib.hid (by omega), Nat.zero_le _, hD, Nat.le_refl _, hJ1 _⟩
    case round =>
      clear hD hJ1 d0
      obtain ⟨kk, i, rfl, hkk0, hi, hD, hsz2, hj⟩ := hrel
      have d0 := fun x y => (hD.re x y).cell 0
      have hkk := hkk0.out
      have hi2 := hi.out
      rw [HLEN.out] at hi2
      have b1 : -9223372036854775808 ≤ kk - 1 := by omega
      have b2 : kk + 1 ≤ 9223372036854775807 := by omega
      have b3 : -9223372036854775808 ≤ kk + 1 := by omega
      have b4 : kk - 1 ≤ 9223372036854775807 := by omega
      have b5 : -9223372036854775808 ≤ kk * 65536 - top := by omega
      have b6 : kk * 65536 - top ≤ 9223372036854775807 := by omega
      have hof : ofI (kk) = (kk) * 65536 := ofI_id (by omega) (by omega)
      have HOF := Lib.hid hof
      by_cases hlt : i < (layU top dd).length
      · have c1 : (layU top dd)[i]? = some (kk, kk * 65536 - top) := by rw [layU_at hlt, hkk]
        have C1 := Lib.hid c1
        have HI := Lib.hid hlt
        rw [HLEN.out] at hlt
        have hlt2 : kk * 65536 < top + dd := by omega
        clear hlt c1 hi2 hof hkk
        have hw : IntKind.i64.wrap (top + dd) = top + dd := IntWalk.i64_in _ (by omega)
        gi_wp2
        refine wpIn_wide.2 ?_
        refine wp_sched [0, 0, 0, 0, 0, 0] (fun _ _ _ => True) (by kernel_rfl) (by kernel_rfl) (fun _ _ _ _ h _ => h) ?_
        repeat (first | (refine wpQs_s ?_) | (refine wpQs_q (fun K hK => ?_); go_simp; first | (refine hK _ ?_; clear hK K) | (apply Exists.intro; refine ⟨fun _ => ?_, hK _ ?_⟩; (exact of_b _ _ HOF.out _); clear hK K)) | (refine wpQs_f (fun K hK => ?_); go_simp; refine hK _ ?_; clear hK K))
        refine wpQs_nil ?_
        repeat (first | (refine wpLs_skip ?_) | (refine wpLs_one ?lsA (fun v_ => ?_); case lsA => (intro w_ hw_ hp_; (fail))))
        refine wpLs_nilB ?_
        simp only [tails]
        intro W2 k2 _
        have HJ := Lib.hid (And.intro (hJ _ _ _ _ hj (Kept.of_below k2)) (Nat.le_trans hsz2.out k2.size))
        clear d0 hj
        simp only [wpList, Exit.then]
        go_at_K
        gi_wp2_with (refine ⟨trivial, ?_⟩; gi_at_call 244; refine (callsIn_wide.2 (of_b _ _ HOF.out _)).mono ?_; rintro e_ w3 ⟨rfl, k3⟩; obtain ⟨hj, hs2⟩ := HJ.out; have hs3 := Nat.le_trans hs2 k3.size; replace hD := (hD.on k2).on k3; obtain ⟨fn, tmps, assign, body, hy', hR⟩ := hY W1.heap.size i _ w3 hsz hs3 C1.out (hJ _ _ _ _ hj (Kept.of_below k3)))
        refine hR.mono ?_
        rintro e_ W3 (⟨rfl, hj3, hk3⟩ | ⟨rfl, hjx3⟩)
        · replace hD := hk3.blk (.inr (.inr (.inr rfl))) hD
          have hsz3 := Lib.hid (Nat.le_trans hs3 hk3.size)
          gi_wp2
          go_roundw
          case rel => exact ⟨kk + 1, i + 1, rfl, Lib.hid (by have := hkk0.out; omega), HI.out, hD, hsz3.out, hj3⟩
          case measure => have := hkk0.out; have := HI.out; rw [HLEN.out] at this; simp [intOf]; omega
        · gi_wp2
          refine bodyPost_ret (results_none rfl _ _ _) rfl ?_
          exact ⟨⟨_, rfl⟩, W1.heap.size, hsz, .inr ⟨i, by rw [HLO.out, HTO.out, HLS.out]; exact HI.out, hjx3⟩⟩
      · have hin : i = (layU top dd).length := Nat.le_antisymm hi.out (Nat.le_of_not_lt hlt)
        have hlt2 : ¬ kk * 65536 < top + dd := by rw [HLEN.out] at hin; omega
        have hw : IntKind.i64.wrap (top + dd) = top + dd := IntWalk.i64_in _ (by omega)
        have hw2 : True := trivial
        have HI := Lib.hid hin
        clear hlt hi2 hof hkk hin
        gi_wp2
        refine wpIn_wide.2 ?_
        refine wp_sched [0, 0, 0, 0, 0, 0] (fun _ _ _ => True) (by kernel_rfl) (by kernel_rfl) (fun _ _ _ _ h _ => h) ?_
        repeat (first | (refine wpQs_s ?_) | (refine wpQs_q (fun K hK => ?_); go_simp; first | (refine hK _ ?_; clear hK K) | (apply Exists.intro; refine ⟨fun _ => ?_, hK _ ?_⟩; (exact of_b _ _ HOF.out _); clear hK K)) | (refine wpQs_f (fun K hK => ?_); go_simp; refine hK _ ?_; clear hK K))
        refine wpQs_nil ?_
        repeat (first | (refine wpLs_skip ?_) | (refine wpLs_one ?lsA (fun v_ => ?_); case lsA => (intro w_ hw_ hp_; (fail))))
        refine wpLs_nilB ?_
        simp only [tails]
        intro W2 k2 _
        have HJ := Lib.hid (hJ _ _ _ _ hj (Kept.of_below k2))
        clear d0 hj
        simp only [wpList, Exit.then]
        go_at_K
        gi_wp2
        go_wp2_with fail
        refine bodyPost_ret (results_none rfl _ _ _) rfl ?_
        exact ⟨⟨_, rfl⟩, W1.heap.size, hsz, .inl (by rw [HLO.out, HTO.out, HLS.out, ← HI.out]; exact HJ.out)⟩
  · have hls : lays low top dd = layD low dd := by unfold lays; rw [if_neg hpos]
    rw [hls] at hY
    have HLS := Lib.hid hls
    have hlen := layD_len low dd
    have HLEN := Lib.hid hlen
    clear hls hlen
    go_upto_region 7 with (go_at_call 237; refine (floor_v _ (low / 65536) (by unfold cutI; omega) _).mono ?_; rintro e_ w2 ⟨rfl, rfl⟩)
    refine (wpIn_wide (n := m + 1)).1 ?_
    gi_loopw [8] (fun v wr => ∃ (kk : Int) (i : Nat), v = .int .i64 kk ∧ Hid (kk = low / 65536 - 1 - (i : Int)) ∧ Hid (i ≤ (layD low dd).length) ∧ Blk wr D 3 #[.int .i64 dd] ∧ Hid (W1.heap.size ≤ wr.heap.size) ∧ J W1.heap.size i wr) (fun v _ => (intOf v - (low + dd) / 65536 + 1).toNat)
    case atStart => exact ⟨_, 0, rfl, Lib.hid (by omega), Nat.zero_le _, hD, Nat.le_refl _, hJ1 _⟩
    case round =>
      clear hD hJ1 d0
      obtain ⟨kk, i, rfl, hkk0, hi, hD, hsz2, hj⟩ := hrel
      have d0 := fun x y => (hD.re x y).cell 0
      have hkk := hkk0.out
      have hi2 := hi.out
      rw [HLEN.out] at hi2
      have b1 : -9223372036854775808 ≤ kk - 1 := by omega
      have b2 : kk + 1 ≤ 9223372036854775807 := by omega
      have b3 : -9223372036854775808 ≤ kk + 1 := by omega
      have b4 : kk - 1 ≤ 9223372036854775807 := by omega
      have b5 : -9223372036854775808 ≤ (kk + 1) * 65536 - low := by omega
      have b6 : (kk + 1) * 65536 - low ≤ 9223372036854775807 := by omega
      have hof : ofI (kk + 1) = (kk + 1) * 65536 := ofI_id (by omega) (by omega)
      have HOF := Lib.hid hof
      by_cases hlt : i < (layD low dd).length
      · have c1 : (layD low dd)[i]? = some (kk, (kk + 1) * 65536 - low) := by rw [layD_at hlt, hkk]; congr 2; omega
        have C1 := Lib.hid c1
        have HI := Lib.hid hlt
        rw [HLEN.out] at hlt
        have hlt2 : (kk + 1) * 65536 > low + dd := by omega
        clear hlt c1 hi2 hof hkk
        have hw : IntKind.i64.wrap (low + dd) = low + dd := IntWalk.i64_in _ (by omega)
        have hw2 : IntKind.i64.wrap (kk + 1) = kk + 1 := IntWalk.i64_in _ (by omega)
        gi_wp2
        refine wpIn_wide.2 ?_
        refine wp_sched [0, 0, 0, 0, 0, 0, 0] (fun _ _ _ => True) (by kernel_rfl) (by kernel_rfl) (fun _ _ _ _ h _ => h) ?_
        repeat (first | (refine wpQs_s ?_) | (refine wpQs_q (fun K hK => ?_); go_simp; first | (refine hK _ ?_; clear hK K) | (apply Exists.intro; refine ⟨fun _ => ?_, hK _ ?_⟩; (exact of_b _ _ HOF.out _); clear hK K)) | (refine wpQs_f (fun K hK => ?_); go_simp; refine hK _ ?_; clear hK K))
        refine wpQs_nil ?_
        repeat (first | (refine wpLs_skip ?_) | (refine wpLs_one ?lsA (fun v_ => ?_); case lsA => (intro w_ hw_ hp_; (fail))))
        refine wpLs_nilB ?_
        simp only [tails]
        intro W2 k2 _
        have HJ := Lib.hid (And.intro (hJ _ _ _ _ hj (Kept.of_below k2)) (Nat.le_trans hsz2.out k2.size))
        clear d0 hj
        simp only [wpList, Exit.then]
        go_at_K
        gi_wp2_with (refine ⟨trivial, ?_⟩; gi_at_call 244; refine (callsIn_wide.2 (of_b _ _ HOF.out _)).mono ?_; rintro e_ w3 ⟨rfl, k3⟩; obtain ⟨hj, hs2⟩ := HJ.out; have hs3 := Nat.le_trans hs2 k3.size; replace hD := (hD.on k2).on k3; obtain ⟨fn, tmps, assign, body, hy', hR⟩ := hY W1.heap.size i _ w3 hsz hs3 C1.out (hJ _ _ _ _ hj (Kept.of_below k3)))
        refine hR.mono ?_
        rintro e_ W3 (⟨rfl, hj3, hk3⟩ | ⟨rfl, hjx3⟩)
        · replace hD := hk3.blk (.inr (.inr (.inr rfl))) hD
          have hsz3 := Lib.hid (Nat.le_trans hs3 hk3.size)
          gi_wp2
          go_roundw
          case rel => exact ⟨kk - 1, i + 1, rfl, Lib.hid (by have := hkk0.out; omega), HI.out, hD, hsz3.out, hj3⟩
          case measure => have := hkk0.out; have := HI.out; rw [HLEN.out] at this; simp [intOf]; omega
        · gi_wp2
          refine bodyPost_ret (results_none rfl _ _ _) rfl ?_
          exact ⟨⟨_, rfl⟩, W1.heap.size, hsz, .inr ⟨i, by rw [HLO.out, HTO.out, HLS.out]; exact HI.out, hjx3⟩⟩
      · have hin : i = (layD low dd).length := Nat.le_antisymm hi.out (Nat.le_of_not_lt hlt)
        have hlt2 : ¬ (kk + 1) * 65536 > low + dd := by rw [HLEN.out] at hin; omega
        have hw : IntKind.i64.wrap (low + dd) = low + dd := IntWalk.i64_in _ (by omega)
        have hw2 : IntKind.i64.wrap (kk + 1) = kk + 1 := IntWalk.i64_in _ (by omega)
        have HI := Lib.hid hin
        clear hlt hi2 hof hkk hin
        gi_wp2
        refine wpIn_wide.2 ?_
        refine wp_sched [0, 0, 0, 0, 0, 0, 0] (fun _ _ _ => True) (by kernel_rfl) (by kernel_rfl) (fun _ _ _ _ h _ => h) ?_
        repeat (first | (refine wpQs_s ?_) | (refine wpQs_q (fun K hK => ?_); go_simp; first | (refine hK _ ?_; clear hK K) | (apply Exists.intro; refine ⟨fun _ => ?_, hK _ ?_⟩; (exact of_b _ _ HOF.out _); clear hK K)) | (refine wpQs_f (fun K hK => ?_); go_simp; refine hK _ ?_; clear hK K))
        refine wpQs_nil ?_
        repeat (first | (refine wpLs_skip ?_) | (refine wpLs_one ?lsA (fun v_ => ?_); case lsA => (intro w_ hw_ hp_; (fail))))
        refine wpLs_nilB ?_
        simp only [tails]
        intro W2 k2 _
        have HJ := Lib.hid (hJ _ _ _ _ hj (Kept.of_below k2))
        clear d0 hj
        simp only [wpList, Exit.then]
        go_at_K
        gi_wp2
        go_end0
        exact ⟨⟨_, rfl⟩, W1.heap.size, hsz, .inl (by rw [HLO.out, HTO.out, HLS.out, ← HI.out]; exact HJ.out)⟩
end Go.Proofs.YtmbccnioijokfaaGreatDoor

