/- Texts that build one behind the other, laid together: DRef5 StE StF StI DRef6 SDo StC StM. -/
import Derived.Test.YtkopenemoddbbaaMa6
import Derived.Test.YtkopenemoddbbaaMa4
import Derived.Test.YtkopenemoddbbaaMa5
import Derived.Test.YtkopenemoddbbaaMa3
/- The document's disk: all is made safe; what is under way is lost, but the first bytes. -/
namespace Go.Proofs.Ytkopenemoddbbaa
open Go.RowKit Go.Maps
attribute [local go_sem] Oper.semAt_some

set_option maxRecDepth 100000 in
set_option maxHeartbeats 8000000 in
theorem rsync_c (base : Nat) (a b : SL) (S : DS) (sl ll : List (Int × SL)) (N : Nat) (w : World) (h : RefAt w base a b S sl ll) (hok : DOk S N 1000000) (hN : N ≤ 100000) (hbase : base ≤ w.heap.size) :
    Calls Try.prog 42 #[.agg (dv S a b)] w fun r w' => PutR base S.sync.1 S.sync.2 r w w' := by
  have HAS := Lib.hid fun w => rasked_c S a b hok.waits hok.fails w
  obtain ⟨e1, e2, e3⟩ := asked_same S
  have hok1 := hok.asked
  have hR1 : RefAt w base a b S.asked.1 sl ll := h.same e1 e2
  have hnow : S.asked.1.now = S.now := by unfold DS.now; rw [e1, e2]
  obtain ⟨W0, hW⟩ : ∃ W0, W0 = (w.alloc (.cells (dv S a b) 46)).alloc (.cells #[.int .i64 0, .int .i64 0, .int .i64 0, .slice none 0 0, .slice none 0 0] 46) := ⟨_, rfl⟩
  have hb0 : Below w.heap.size w W0 := by rw [hW]; go_grown
  have X0 : Blk W0 w.heap.size 46 (dv S a b) := by rw [hW]; exact (Blk.new' rfl).alloc _
  have Y0 : Blk W0 (w.heap.size + 1) 46 #[.int .i64 0, .int .i64 0, .int .i64 0, .slice none 0 0, .slice none 0 0] := by rw [hW]; exact Blk.new' (by simp)
  have HB0 := Lib.hid hb0
  have HR := Lib.hid hR1
  obtain ⟨aq, an, ac⟩ := a
  obtain ⟨q, n, c⟩ := b
  obtain rfl : n = ll.length := h.rb.len
  clear h hb0 hR1
  simp only [dv, slV] at hW X0 HAS ⊢
  obtain ⟨gx, hgq⟩ : ∃ gx, gx = w.heap.size := ⟨_, rfl⟩
  rw [← hgq] at X0 Y0
  have HGQ := Lib.hid hgq
  generalize hS1 : S.asked.1 = S1 at *
  obtain ⟨fl, hfl⟩ : ∃ fl, S.asked.2 = fl := ⟨_, rfl⟩
  rw [hfl] at HAS
  go_enter Try.func42, Try.ntmps42
  go_upto_region 1 with (fail)
  rw [← hW, ← hgq]
  clear hW hgq
  obtain ⟨⟨x0, x1, x2, x3, x4⟩, -⟩ := X0.c5
  go_upto_region 2 with (go_at_call 63; refine (HAS.out _).mono ?_; rintro e_ w1 ⟨rfl, h1⟩; clear x0 x1 x2 x3 x4; replace X0 := X0.on h1; obtain ⟨⟨x0, x1, x2, x3, x4⟩, f0, f1, f2, f3, f4⟩ := X0.c5)
  generalize hV : World.setCell (World.setCell (World.setCell (World.setCell (World.setCell w1 _ _) _ _) _ _) _ _) _ _ = w2
  have X2 : Blk w2 gx 46 #[.int .i64 S.room, .int .i64 S1.fails, .int .i64 S1.waits, .slice aq an ac, .slice q ll.length c] := Blk.eqw hV (X0.st5 _ _ _ _ _)
  have Y2 : Blk w2 (gx + 1) 46 #[.int .i64 0, .int .i64 0, .int .i64 0, .slice none 0 0, .slice none 0 0] := Blk.eqw hV ((kept5 _ _ _ _ _).blk (by omega) (Y0.on h1))
  have H2 : Below w.heap.size w w2 := by
    rw [← hV, HGQ.out]
    exact (after HB0.out h1).trans ((kept5 _ _ _ _ _).below (n := w.heap.size) (by have := HB0.out.size; have := h1.size; omega) (fun b hb e => by omega))
  clear hV x0 x1 x2 x3 x4 f0 f1 f2 f3 f4 X0 Y0 h1
  have HH2 := Lib.hid H2
  have HRW := Lib.hid (HR.out.on H2)
  clear H2
  cases fl with
  | true =>
    have hput : S.sync = (S1, 9) := by unfold DS.sync; rw [hfl, hS1]; rfl
    have HPU := Lib.hid hput
    clear hput
    obtain ⟨⟨x0, x1, x2, x3, x4⟩, -⟩ := X2.c5
    obtain ⟨⟨y0, y1, y2, y3, y4⟩, f0, f1, f2, f3, f4⟩ := Y2.c5
    go_wp2_with fail
    obtain ⟨⟨d0, d1, d2, d3, d4⟩, -⟩ := (Y2.st5 (.int .i64 S.room) (.int .i64 S1.fails) (.int .i64 S1.waits) (.slice aq an ac) (.slice q ll.length c)).c5
    have hk7 := kept5 (w := w2) (g := gx + 1) (.int .i64 S.room) (.int .i64 S1.fails) (.int .i64 S1.waits) (.slice aq an ac) (.slice q ll.length c)
    have hfin := HH2.out.trans (hk7.below (n := w.heap.size) HH2.out.size (fun b hb e => by have := HGQ.out; omega))
    refine bodyPost_ret (v := .tuple #[.agg #[.int .i64 S.room, .int .i64 S1.fails, .int .i64 S1.waits, .slice aq an ac, .slice q ll.length c], .int .i64 9]) (by simp [results, Try.f42, go_sem, d0, d1, d2, d3, d4]) rfl ?_
    rw [HPU.out]
    exact ⟨_, rfl, ⟨(aq, an, ac), (q, ll.length, c), sl, ll, by rw [← e3]; rfl, HR.out.on hfin⟩, hfin⟩
  | false =>
    have hput : S.sync = ({ S1 with safe := S.now, l := [] }, 0) := by unfold DS.sync; rw [hfl, hS1]; rfl
    have HPU := Lib.hid hput
    clear hput
    obtain ⟨hr, hcnt, hg, hc, hrn, hlens⟩ := HRW.out.facts hok1
    rw [hnow] at hc
    have HNW := Lib.hid (rnow_c base (aq, an, ac) (q, ll.length, c) S1 sl ll N w2 HRW.out hok1 hN)
    have hde : dv S1 (aq, an, ac) (q, ll.length, c) = #[.int .i64 S.room, .int .i64 S1.fails, .int .i64 S1.waits, .slice aq an ac, .slice q ll.length c] := by rw [← e3]; rfl
    rw [hde] at HNW
    have HG := Lib.hid (And.intro hg hc)
    clear hg hc hr hcnt hrn hlens hde
    obtain ⟨⟨x0, x1, x2, x3, x4⟩, -⟩ := X2.c5
    go_upto_region 6 with (go_at_call 64; refine HNW.out.mono ?_; rintro e_ w3 ⟨⟨vq, vn, vc⟩, rfl, hRV, h3⟩; simp only [slV]; clear x0 x1 x2 x3 x4; replace X2 := X2.on h3; replace Y2 := Y2.on h3; obtain ⟨⟨x0, x1, x2, x3, x4⟩, f0, f1, f2, f3, f4⟩ := X2.c5)
    have hbg : gx < w3.heap.size := X2.lt
    have X4 := (X2.set_ 3 (.slice vq vn vc)).set_ 4 (.slice none 0 0)
    have Y4 := (Y2.far (p := ⟨gx, 3, none⟩) (show gx + 1 ≠ gx by omega) (.slice vq vn vc)).far (p := ⟨gx, 4, none⟩) (show gx + 1 ≠ gx by omega) (.slice none 0 0)
    have H4 : Below w.heap.size w ((w3.setCell ⟨gx, 3, none⟩ (.slice vq vn vc)).setCell ⟨gx, 4, none⟩ (.slice none 0 0)) := ((after HH2.out h3).setCell (p := ⟨gx, 3, none⟩) (by rw [HGQ.out]; exact Nat.le_refl _) _).setCell (p := ⟨gx, 4, none⟩) (by rw [HGQ.out]; exact Nat.le_refl _) _
    have K4 : Kept (fun b => b ≠ gx) w3 ((w3.setCell ⟨gx, 3, none⟩ (.slice vq vn vc)).setCell ⟨gx, 4, none⟩ (.slice none 0 0)) := ((Kept.refl _ _).setCell (by simp) _).setCell (by simp) _
    obtain ⟨g1, g2⟩ := HG.out.1.on h3
    have hby : ∀ b, ByteBlk w3 base b → b ≠ gx := fun b hB e => by
      subst e
      rcases hB with hB | ⟨cur, hB⟩
      · have := HGQ.out; omega
      · have := blk_one hB X2; revert this; decide
    obtain ⟨g3, g4⟩ := g1.kept K4 hby
    have hRA : RefAt ((w3.setCell ⟨gx, 3, none⟩ (.slice vq vn vc)).setCell ⟨gx, 4, none⟩ (.slice none 0 0)) base (vq, vn, vc) (none, 0, 0) { S1 with safe := S.now, l := [] } (nowL sl ll) [] :=
      ⟨hRV.kept fun g cur hB => K4.blk (fun e => by subst e; have := blk_one hB X2; revert this; decide) hB, RowR.nil, g3, fun p hp => (by cases hp), by rw [g4, g2]; exact HG.out.2.symm, rfl⟩
    generalize World.setCell (World.setCell w3 _ _) _ _ = w4 at X4 Y4 H4 hRA ⊢
    have HRA := Lib.hid (And.intro hRA H4)
    clear K4 g1 g2 g3 g4 hby hRV hRA H4 X2 Y2 h3 x0 x1 x2 x3 x4 f0 f1 f2 f3 f4
    obtain ⟨⟨x0, x1, x2, x3, x4⟩, -⟩ := X4.c5
    obtain ⟨⟨y0, y1, y2, y3, y4⟩, f0, f1, f2, f3, f4⟩ := Y4.c5
    go_wp2_with fail
    obtain ⟨⟨d0, d1, d2, d3, d4⟩, -⟩ := (Y4.st5 (.int .i64 S.room) (.int .i64 S1.fails) (.int .i64 S1.waits) (.slice vq vn vc) (.slice none 0 0)).c5
    have hk7 := kept5 (w := w4) (g := gx + 1) (.int .i64 S.room) (.int .i64 S1.fails) (.int .i64 S1.waits) (.slice vq vn vc) (.slice none 0 0)
    have hfin := HRA.out.2.trans (hk7.below (n := w.heap.size) HRA.out.2.size (fun b hb e => by have := HGQ.out; omega))
    refine bodyPost_ret (v := .tuple #[.agg #[.int .i64 S.room, .int .i64 S1.fails, .int .i64 S1.waits, .slice vq vn vc, .slice none 0 0], .int .i64 0]) (by simp [results, Try.f42, go_sem, d0, d1, d2, d3, d4]) rfl ?_
    rw [HPU.out]
    exact ⟨_, rfl, ⟨(vq, vn, vc), (none, 0, 0), nowL sl ll, [], by simp only [dv, slV]; rw [← e3], HRA.out.1.off hk7 Y4 (by decide) (by have := HGQ.out; omega)⟩, hfin⟩
end Go.Proofs.Ytkopenemoddbbaa

/- The document's records of a disk: Of, Load, Save: the walks. -/
namespace Go.Proofs.Ytkopenemoddbbaa
open Go.RowKit Go.Maps
attribute [local go_sem] Oper.semAt_some

def OfR (base : Nat) (x : Int × Int × Bs) (r : Ending) (w w' : World) : Prop := ∃ q n c, r = .returned (.tuple #[.int .i64 x.1, .int .i64 x.2.1, .slice q n c]) ∧ GoodS w' base (q, n, c) ∧ rdB w' (q, n, c) = x.2.2 ∧ Below w.heap.size w w'
theorem ofR_none {base : Nat} {x : Int × Int × Bs} {k : Int} {w w' : World} (hx : x = (k, 0, [])) (hw : Below w.heap.size w w') : OfR base x (.returned (.tuple #[.int .i64 k, .int .i64 0, .slice none 0 0])) w w' := by
  subst hx
  exact ⟨none, 0, 0, rfl, good_nil, rfl, hw⟩
theorem ofR_some {base : Nat} {x : Int × Int × Bs} {k v : Int} {b : Bs} {q : Option Addr} {n c : Nat} {w w' : World} (hx : x = (k, v, b)) (hg : GoodS w' base (q, n, c)) (hr : rdB w' (q, n, c) = b) (hw : Below w.heap.size w w') : OfR base x (.returned (.tuple #[.int .i64 k, .int .i64 v, .slice q n c])) w w' := by
  subst hx
  exact ⟨q, n, c, rfl, hg, hr, hw⟩
set_option maxRecDepth 100000 in
set_option maxHeartbeats 4000000 in
theorem rsof_c (base : Nat) (a b : SL) (S : DS) (sl ll : List (Int × SL)) (N : Nat) (w : World) (h : RefAt w base a b S sl ll) (hok : DOk S N 1000000) (hN : N ≤ 100000) (id : Int) (h0 : 0 ≤ id) (h1 : id ≤ 1099511627776) :
    Calls Try.prog 61 #[.agg (dv S a b), .int .i64 id] w fun r w' => OfR base (ofV S id) r w w' := by
  obtain ⟨W0, hW⟩ : ∃ W0, W0 = w.alloc (.cells (dv S a b) 46) := ⟨_, rfl⟩
  have hb0 : Below w.heap.size w W0 := by rw [hW]; exact bel_alloc _ _
  have X0 : Blk W0 w.heap.size 46 (dv S a b) := by rw [hW]; exact Blk.new' rfl
  have HG := Lib.hid fun (k : Int) (W : World) (hW : Below W0.heap.size W0 W) => rget_c base a b S sl ll N W ((h.on hb0).on hW) hok hN k
  have HZ := Lib.hid fun k => get_size hok k
  obtain ⟨O, hO⟩ : ∃ O, ofV S id = O := ⟨_, rfl⟩
  rw [hO]
  have HO := Lib.hid hO
  clear hO h hok hN
  obtain ⟨aq, an, ac⟩ := a
  obtain ⟨bq, bn, bc⟩ := b
  simp only [dv, slV] at hW HG X0 ⊢
  go_enter Try.func61, Try.ntmps61
  go_upto_region 1 with (fail)
  rw [← hW]
  obtain ⟨⟨x0, x1, x2, x3, x4⟩, -⟩ := X0.c5
  have HX := Lib.hid X0
  have HB0 := Lib.hid hb0
  generalize hgx : w.heap.size = gx at *
  clear hW X0 hb0
  go_upto_region 2 with (go_at_call 66; refine (HG.out (2 * id) _ (Below.refl _ _)).mono ?_; rintro e_ w1 ⟨⟨q1, n1, c1⟩, rfl, hg1, hr1, hb1⟩; simp only [slV])
  have X1 := HX.out.on hb1
  obtain ⟨⟨x0', x1', x2', x3', x4'⟩, -⟩ := X1.c5
  have HB1 := Lib.hid hb1
  have HG1 := Lib.hid (And.intro hg1 hr1)
  clear X1 hb1 hg1 hr1 x0 x1 x2 x3 x4
  go_upto_region 3 with (go_at_call 66; refine (HG.out (2 * id + 1) _ HB1.out).mono ?_; rintro e_ w2 ⟨⟨q2, n2, c2⟩, rfl, hg2, hr2, hb2⟩; simp only [slV])
  have HB2 := Lib.hid (after HB1.out hb2)
  have k1 := HG1.out.1.on hb2
  have HR1 := Lib.hid (rread_c base (q1, n1, c1) w2 k1.1 (by rw [← k1.1.len, k1.2, HG1.out.2]; exact HZ.out _))
  rw [k1.2, HG1.out.2] at HR1
  have HR2 := Lib.hid fun W (hW : Below w2.heap.size w2 W) => rread_c base (q2, n2, c2) W (hg2.on hW).1 (by rw [← hg2.len, hr2]; exact HZ.out _)
  have HE2 := Lib.hid fun W (hW : Below w2.heap.size w2 W) => (hg2.on hW).2.trans hr2
  clear hg2 hr2 hb2 k1 HG1 HG x0' x1' x2' x3' x4'
  have HO2 := Lib.hid (show (recAt S (2 * id)).2.2 ≠ 0 → (recAt S (2 * id + 1)).2.2 ≠ 0 → O = (2 * id + 1, 0, []) from fun a b => by rw [← HO.out]; unfold ofV; rw [if_neg a, if_neg b])
  have HO3 := Lib.hid (show (recAt S (2 * id)).2.2 = 0 → ((recAt S (2 * id + 1)).2.2 = 0 → (recAt S (2 * id + 1)).1 ≤ (recAt S (2 * id)).1) → O = (2 * id, (recAt S (2 * id)).1, (recAt S (2 * id)).2.1) from fun a b => by rw [← HO.out]; unfold ofV; rw [if_pos a, if_neg (fun h => by have := b h.1; omega)])
  have HO4 := Lib.hid (show (recAt S (2 * id + 1)).2.2 = 0 → ((recAt S (2 * id)).2.2 = 0 → (recAt S (2 * id)).1 < (recAt S (2 * id + 1)).1) → O = (2 * id + 1, (recAt S (2 * id + 1)).1, (recAt S (2 * id + 1)).2.1) from fun a b => by
    rw [← HO.out]
    unfold ofV
    by_cases c : (recAt S (2 * id)).2.2 = 0
    · rw [if_pos c, if_pos ⟨a, b c⟩]
    · rw [if_neg c, if_pos a])
  rw [show readL ((S.get (2 * id)).getD []) = recAt S (2 * id) from rfl] at HR1
  generalize hy : recAt S (2 * id + 1) = y at *
  replace HE2 := Lib.hid fun W (hW : Below w2.heap.size w2 W) => congrArg readL (HE2.out W hW) |>.trans hy
  clear hy
  generalize recAt S (2 * id) = z at *
  obtain ⟨z1, z2, z3⟩ := z
  obtain ⟨y1, y2, y3⟩ := y
  clear HO
  go_upto_region 4 with (go_at_call 15; refine HR1.out.mono ?_; rintro e_ w3 ⟨⟨q3, n3, c3⟩, rfl, hg3, hr3, hb3⟩; simp only [slV])
  have HRR := HR2.out _ hb3
  rw [HE2.out _ hb3] at HRR
  have HR3 := Lib.hid HRR
  have HG3 := Lib.hid (And.intro hg3 hr3)
  have HB3 := Lib.hid (after HB2.out hb3)
  clear HRR hg3 hr3 hb3 HR2 HR1 HE2
  go_upto_region 5 with (go_at_call 15; refine HR3.out.mono ?_; rintro e_ w4 ⟨⟨q4, n4, c4⟩, rfl, hg4, hr4, hb4⟩; simp only [slV])
  subst hgx
  have HB4 := Lib.hid (after HB0.out (after HB3.out hb4))
  have HG4 := Lib.hid (And.intro hg4 hr4)
  have HG33 := Lib.hid (HG3.out.1.on hb4)
  clear hg4 hr4 hb4 HR3 HB3 HB2 HB1
  dsimp only at HO2 HO3 HO4 ⊢
  by_cases a1 : z3 = 0
  · by_cases a2 : y3 = 0
    · by_cases a3 : y1 ≤ z1
      · have HF := Lib.hid (HO3.out a1 fun _ => a3)
        go_wp2_with fail
        go_returns
        exact ofR_some HF.out HG33.out.1 (HG33.out.2.trans HG3.out.2) HB4.out
      · have HF := Lib.hid (HO4.out a2 fun _ => by omega)
        have a3' : z1 < y1 := by omega
        go_wp2_with fail
        go_returns
        exact ofR_some HF.out HG4.out.1 HG4.out.2 HB4.out
    · have HF := Lib.hid (HO3.out a1 fun h => absurd h a2)
      go_wp2_with fail
      go_returns
      exact ofR_some HF.out HG33.out.1 (HG33.out.2.trans HG3.out.2) HB4.out
  · by_cases a2 : y3 = 0
    · have HF := Lib.hid (HO4.out a2 fun h => absurd h a1)
      have b1 : (z3 != 0) = true := by simpa using a1
      have b2 : (z3 == 0) = false := by simpa using a1
      clear a1
      go_wp2_with fail
      go_returns
      exact ofR_some HF.out HG4.out.1 HG4.out.2 HB4.out
    · have HF := Lib.hid (HO2.out a1 a2)
      have b1 : (z3 != 0) = true := by simpa using a1
      have b2 : (y3 != 0) = true := by simpa using a2
      clear a1 a2
      go_wp2_with fail
      go_returns
      exact ofR_none HF.out HB4.out
set_option maxRecDepth 100000 in
set_option maxHeartbeats 4000000 in
theorem rsload_c (base : Nat) (a b : SL) (S : DS) (sl ll : List (Int × SL)) (N : Nat) (w : World) (h : RefAt w base a b S sl ll) (hok : DOk S N 1000000) (hN : N ≤ 100000) (id : Int) :
    Calls Try.prog 47 #[.agg (dv S a b), .int .i64 id] w fun r w' => LoadR base (loadV S id) r w w' := by
  obtain ⟨W0, hW⟩ : ∃ W0, W0 = w.alloc (.cells (dv S a b) 46) := ⟨_, rfl⟩
  have hb0 : Below w.heap.size w W0 := by rw [hW]; exact bel_alloc _ _
  have X0 : Blk W0 w.heap.size 46 (dv S a b) := by rw [hW]; exact Blk.new' rfl
  obtain ⟨L, hL⟩ : ∃ L, loadV S id = L := ⟨_, rfl⟩
  rw [hL]
  by_cases hm : mayId id = true
  · have hm2 : 0 ≤ id ∧ id ≤ 1099511627776 := by unfold mayId at hm; simpa using hm
    obtain ⟨i0, i1⟩ := hm2
    have HO := Lib.hid (rsof_c base a b S sl ll N W0 (h.on hb0) hok hN id i0 i1)
    rw [load_in hm] at hL
    generalize ofV S id = x at *
    obtain ⟨x1, x2, x3⟩ := x
    have HL := Lib.hid hL
    obtain ⟨aq, an, ac⟩ := a
    obtain ⟨bq, bn, bc⟩ := b
    simp only [dv, slV] at hW HO X0 ⊢
    clear h hok hN hm hL
    go_enter Try.func47, Try.ntmps47
    go_upto_region 1 with (fail)
    rw [← hW]
    obtain ⟨⟨y0, y1, y2, y3, y4⟩, -⟩ := X0.c5
    have HB0 := Lib.hid hb0
    clear hW X0 hb0
    go_wp2_with (go_at_call 61; refine HO.out.mono ?_; rintro e_ w1 ⟨q, n, c, rfl, hg, hr, hb⟩; have HG := Lib.hid (And.intro hg (And.intro hr hb)); clear hg hr hb)
    go_returns
    rw [← HL.out]
    exact ⟨(q, n, c), rfl, HG.out.1, HG.out.2.1, after HB0.out HG.out.2.2⟩
  · have hm' : mayId id = false := by simpa using hm
    rw [load_out hm'] at hL
    subst hL
    have hout : id < 0 ∨ 1099511627776 < id := by
      unfold mayId at hm
      by_cases h : id < 0
      · exact .inl h
      · by_cases h2 : 1099511627776 < id
        · exact .inr h2
        · exact absurd (by simp; omega) hm
    have HB0 := Lib.hid hb0
    obtain ⟨aq, an, ac⟩ := a
    obtain ⟨bq, bn, bc⟩ := b
    simp only [dv, slV] at hW ⊢
    clear h hok hN hm hm' X0 hb0
    by_cases hsg : id < 0
    · clear hout
      go_enter Try.func47, Try.ntmps47
      go_upto_region 1 with (fail)
      rw [← hW]
      clear hW
      go_wp2_with fail
      go_returns
      exact ⟨(none, 0, 0), rfl, good_nil, rfl, HB0.out⟩
    · have hsb : 1099511627776 < id := by omega
      clear hout
      go_enter Try.func47, Try.ntmps47
      go_upto_region 1 with (fail)
      rw [← hW]
      clear hW
      go_wp2_with fail
      go_returns
      exact ⟨(none, 0, 0), rfl, good_nil, rfl, HB0.out⟩
end Go.Proofs.Ytkopenemoddbbaa

/- The document's Save: the walk. -/
namespace Go.Proofs.Ytkopenemoddbbaa
open Go.RowKit Go.Maps
attribute [local go_sem] Oper.semAt_some

theorem RefIs.far {W W' : World} {base R : Nat} {v : Value} {S : DS} {cs : Array Value} (h : RefIs W base v S) (Y : Blk W R 46 cs) (hb : base ≤ R) (k : Kept (fun x => x ≠ R) W W') : RefIs W' base v S := by
  obtain ⟨a, b, sl, ll, e, h⟩ := h
  have hby : ∀ b, ByteBlk W base b → b ≠ R := fun b hb2 e => by subst e; exact not_by Y (by decide) hb hb2
  have hk : ∀ g cur, Blk W g 113 cur → Blk W' g 113 cur := fun g cur hB => k.blk (fun e => by subst e; have := blk_one hB Y; revert this; decide) hB
  obtain ⟨g1, g2⟩ := h.ga.kept k hby
  obtain ⟨g3, g4⟩ := h.gb.kept k hby
  exact ⟨a, b, sl, ll, e, h.ra.kept hk, h.rb.kept hk, g1, g3, by rw [g2]; exact h.safe, by rw [g4]; exact h.l⟩
/-- Behind the five stores of a whole document's disk into the result. -/
theorem put_fin {w W : World} {base R : Nat} {S : DS} {e : Int} {cs : Array Value} {x y z p q : Value} (h : RefIs W base (.agg #[x, y, z, p, q]) S) (Y : Blk W R 46 cs) (hb : base ≤ R) (hR : w.heap.size ≤ R) (H : Below w.heap.size w W) :
    PutR base S e (.returned (.tuple #[.agg #[x, y, z, p, q], .int .i64 e])) w (((((W.setCell ⟨R, 0, none⟩ x).setCell ⟨R, 1, none⟩ y).setCell ⟨R, 2, none⟩ z).setCell ⟨R, 3, none⟩ p).setCell ⟨R, 4, none⟩ q) :=
  ⟨_, rfl, h.far Y hb (kept5 _ _ _ _ _), H.trans ((kept5 _ _ _ _ _).below (n := w.heap.size) H.size (fun b hb e => by omega))⟩
set_option maxRecDepth 100000 in
set_option maxHeartbeats 4000000 in
theorem rssave_c (base : Nat) (a b : SL) (S : DS) (sl ll : List (Int × SL)) (N : Nat) (w : World) (h : RefAt w base a b S sl ll) (hok : DOk S N 1000000) (hN : N ≤ 90000) (id : Int) (s : SL) (hs : GoodS w base s) (hz : s.2.1 ≤ 1000000) (hbase : base ≤ w.heap.size) :
    Calls Try.prog 41 #[.agg (dv S a b), .int .i64 id, slV s] w fun r w' => PutR base (saveV S id (rdB w s)).1 (saveV S id (rdB w s)).2 r w w' := by
  obtain ⟨W0, hW⟩ : ∃ W0, W0 = (w.alloc (.cells (dv S a b) 46)).alloc (.cells #[.int .i64 0, .int .i64 0, .int .i64 0, .slice none 0 0, .slice none 0 0] 46) := ⟨_, rfl⟩
  have hb0 : Below w.heap.size w W0 := by rw [hW]; go_grown
  have X0 : Blk W0 w.heap.size 46 (dv S a b) := by rw [hW]; exact (Blk.new' rfl).alloc _
  have Y0 : Blk W0 (w.heap.size + 1) 46 #[.int .i64 0, .int .i64 0, .int .i64 0, .slice none 0 0, .slice none 0 0] := by rw [hW]; exact Blk.new' (by simp)
  have HR := Lib.hid fun W (hW : Below w.heap.size w W) => h.on hW
  have hslot := ofV_slot S id
  have hx := ofV_int S id
  obtain ⟨⟨S2, e2⟩, hSv⟩ : ∃ v, saveV S id (rdB w s) = v := ⟨_, rfl⟩
  rw [hSv]
  dsimp only
  unfold saveV at hSv
  have HOK := Lib.hid hok
  have HOF := Lib.hid fun i0 i1 => rsof_c base a b S sl ll N W0 (h.on hb0) hok (by omega) id i0 i1
  have HP := Lib.hid fun W (hW : Below w.heap.size w W) k (s : SL) (hs : GoodS W base s) (hz : s.2.1 ≤ 1000000) => rput_c base a b S sl ll N W (h.on hW) hok (by omega) k s hs hz (Nat.le_trans hbase hW.size)
  have HRI := Lib.hid fun W (hW : Below w.heap.size w W) => (⟨a, b, sl, ll, rfl, h.on hW⟩ : RefIs W base (.agg (dv S a b)) S)
  obtain ⟨aq, an, ac⟩ := a
  obtain ⟨bq, bn, bc⟩ := b
  obtain ⟨q, n, c⟩ := s
  have HWR := Lib.hid fun (v : Int) (hv : In64 v) (W : World) (hb : Below w.heap.size w W) => (rwrite_c base v hv (q, n, c) W (hs.on hb).1 hz)
  have HRD := Lib.hid fun (W : World) (hb : Below w.heap.size w W) => (hs.on hb).2
  generalize rdB w (q, n, c) = bb at *
  simp only [dv, slV] at hW X0 HOF HP HRI HWR ⊢
  obtain ⟨gx, hgq⟩ : ∃ gx, gx = w.heap.size := ⟨_, rfl⟩
  have hR : w.heap.size ≤ gx + 1 ∧ base ≤ gx + 1 := by omega
  have HRR := Lib.hid hR
  rw [← hgq] at X0 Y0
  have HY0 := Lib.hid Y0
  have HX0 := Lib.hid X0
  have HB0 := Lib.hid hb0
  clear h hok hs hz hR hb0
  by_cases hm : mayId id = true
  · have hm2 : 0 ≤ id ∧ id ≤ 1099511627776 := by unfold mayId at hm; simpa using hm
    obtain ⟨i0, i1⟩ := hm2
    have HO := Lib.hid (HOF.out i0 i1)
    rw [if_pos hm] at hSv
    generalize ofV S id = x at *
    obtain ⟨x1, x2, x3⟩ := x
    dsimp only at hSv hslot hx
    have HSV := Lib.hid hSv
    have HW1 := Lib.hid fun (W : World) (hb : Below w.heap.size w W) => HWR.out (x2 + 1) (by unfold In64; omega) W hb
    clear hm hSv HOF HWR
    go_enter Try.func41, Try.ntmps41
    go_upto_region 1 with (fail)
    rw [← hW, ← hgq]
    obtain ⟨⟨y0, y1, y2, y3, y4⟩, -⟩ := X0.c5
    clear hW hgq X0 Y0
    go_upto_region 4 with (go_at_call 61; refine HO.out.mono ?_; rintro e_ w1 ⟨q1, n1, c1, rfl, -, -, hb1⟩)
    have HB1 := Lib.hid (after HB0.out hb1)
    have HY1 := Lib.hid (HY0.out.on hb1)
    have HX1 := Lib.hid (HX0.out.on hb1)
    have HW2 := HW1.out w1 HB1.out
    rw [HRD.out w1 HB1.out] at HW2
    have HW3 := Lib.hid HW2
    clear HW2 hb1 y0 y1 y2 y3 y4 HW1 HO
    cases ho : writeL (x2 + 1) bb with
    | none =>
      rw [ho] at HW3 HSV
      obtain ⟨rfl, rfl⟩ : S = S2 ∧ (1 : Int) = e2 := by simpa using HSV.out
      clear ho HSV
      go_upto_region 5 with (go_at_call 11; refine HW3.out.mono ?_; rintro e_ w3 ⟨⟨q3, n3, c3⟩, rfl, -, -, -, g3⟩; dsimp only [slV, Option.isSome])
      have X3 := HX1.out.on g3
      have Y3 := HY1.out.on g3
      have HB3 := Lib.hid (after HB1.out g3)
      have HY3 := Lib.hid Y3
      obtain ⟨⟨y0, y1, y2, y3, y4⟩, -⟩ := X3.c5
      obtain ⟨⟨z0, z1, z2, z3, z4⟩, f0, f1, f2, f3, f4⟩ := Y3.c5
      clear g3 X3 Y3
      go_wp2_with fail
      obtain ⟨⟨d0, d1, d2, d3, d4⟩, -⟩ := (HY3.out.st5 (.int .i64 S.room) (.int .i64 S.fails) (.int .i64 S.waits) (.slice aq an ac) (.slice bq bn bc)).c5
      exact bodyPost_ret (v := .tuple #[.agg #[.int .i64 S.room, .int .i64 S.fails, .int .i64 S.waits, .slice aq an ac, .slice bq bn bc], .int .i64 1]) (by simp [results, Try.f41, go_sem, d0, d1, d2, d3, d4]) rfl (put_fin (HRI.out _ HB3.out) HY3.out HRR.out.2 HRR.out.1 HB3.out)
    | some rr =>
      rw [ho] at HW3 HSV
      clear ho
      go_upto_region 8 with (go_at_call 11; refine HW3.out.mono ?_; rintro e_ w3 ⟨⟨q3, n3, c3⟩, rfl, hg3, hr3, hz3, g3⟩; dsimp only [slV, Option.isSome, Option.getD] at *)
      have X3 := HX1.out.on g3
      have Y3 := HY1.out.on g3
      have HB3 := Lib.hid (after HB1.out g3)
      have HY3 := Lib.hid Y3
      obtain ⟨⟨y0, y1, y2, y3, y4⟩, -⟩ := X3.c5
      have hy : In64 (4 * id + 1 - x1) := by unfold In64; omega
      have hput := HP.out w3 HB3.out (4 * id + 1 - x1) (q3, n3, c3) hg3 (by dsimp only; omega)
      rw [hr3] at hput
      have hl := hg3.len
      rw [hr3] at hl
      have hok2 := HOK.out.put hy (b := rr) (by dsimp only at hl; omega)
      obtain ⟨⟨S3, e3⟩, hP⟩ : ∃ v, S.put (4 * id + 1 - x1) rr = v := ⟨_, rfl⟩
      rw [hP] at hput HSV hok2
      have HPU := Lib.hid hput
      have HOK2 := Lib.hid hok2
      dsimp only at HPU HSV HOK2
      clear hP hput hok2 hl hg3 hr3 hz3 g3 X3 Y3 hy
      go_upto_region 9 with (go_at_call 62; refine HPU.out.mono ?_; rintro e_ w4 ⟨v4, rfl, ⟨⟨aq3, an3, ac3⟩, ⟨bq3, bn3, bc3⟩, sl3, ll3, rfl, hR4⟩, hb4⟩; simp only [dv, slV])
      generalize hV : World.alloc w4 _ = w5
      have T5 : Blk w5 w4.heap.size 46 #[.int .i64 S3.room, .int .i64 S3.fails, .int .i64 S3.waits, .slice aq3 an3 ac3, .slice bq3 bn3 bc3] := Blk.eqw hV (Blk.new' rfl)
      have h5 : Below w4.heap.size w4 w5 := by rw [← hV]; exact bel_alloc _ _
      have hb5 := after hb4 h5
      have Y5 := HY3.out.on hb5
      have HB5 := Lib.hid (after HB3.out hb5)
      have HR5 := Lib.hid (hR4.on h5)
      have HT5 := Lib.hid T5
      have HY5 := Lib.hid Y5
      obtain ⟨⟨t0, t1, t2, t3, t4⟩, -⟩ := T5.c5
      obtain ⟨⟨z0, z1, z2, z3, z4⟩, f0, f1, f2, f3, f4⟩ := Y5.c5
      clear hV h5 hb5 hb4 hR4 T5 Y5 y0 y1 y2 y3 y4 HPU
      by_cases he : e3 = 0
      · have hv := HSV.out
        rw [if_pos he] at hv
        subst he
        have HV := Lib.hid hv
        clear hv HSV
        have HY := Lib.hid (rsync_c base (aq3, an3, ac3) (bq3, bn3, bc3) S3 sl3 ll3 (N + 1) w5 HR5.out HOK2.out (by omega) (Nat.le_trans hbase HB5.out.size))
        rw [HV.out] at HY
        simp only [dv, slV] at HY
        clear z0 z1 z2 z3 z4 f0 f1 f2 f3 f4
        go_upto_region 11 with (fail)
        go_wp2_with (go_at_call 42; refine HY.out.mono ?_; rintro e_ w6 ⟨v6, rfl, ⟨⟨aq4, an4, ac4⟩, ⟨bq4, bn4, bc4⟩, sl4, ll4, rfl, hR6⟩, hb6⟩; simp only [dv, slV]; have HB6 := Lib.hid (after HB5.out hb6); have HY6 := Lib.hid (HY5.out.on hb6); have HR6 := Lib.hid hR6; clear hb6 hR6; obtain ⟨⟨z0, z1, z2, z3, z4⟩, f0, f1, f2, f3, f4⟩ := HY6.out.c5)
        obtain ⟨⟨d0, d1, d2, d3, d4⟩, -⟩ := (HY6.out.st5 (.int .i64 S2.room) (.int .i64 S2.fails) (.int .i64 S2.waits) (.slice aq4 an4 ac4) (.slice bq4 bn4 bc4)).c5
        exact bodyPost_ret (v := .tuple #[.agg #[.int .i64 S2.room, .int .i64 S2.fails, .int .i64 S2.waits, .slice aq4 an4 ac4, .slice bq4 bn4 bc4], .int .i64 e2]) (by simp [results, Try.f41, go_sem, d0, d1, d2, d3, d4]) rfl (put_fin ((⟨_, _, _, _, rfl, HR6.out⟩ : RefIs w6 base (.agg (dv S2 (aq4, an4, ac4) (bq4, bn4, bc4))) S2)) HY6.out HRR.out.2 HRR.out.1 HB6.out)
      · have hv := HSV.out
        rw [if_neg he] at hv
        obtain ⟨rfl, rfl⟩ : S3 = S2 ∧ e3 = e2 := by simpa using hv
        clear hv HSV
        go_wp2_with fail
        obtain ⟨⟨d0, d1, d2, d3, d4⟩, -⟩ := (HY5.out.st5 (.int .i64 S3.room) (.int .i64 S3.fails) (.int .i64 S3.waits) (.slice aq3 an3 ac3) (.slice bq3 bn3 bc3)).c5
        exact bodyPost_ret (v := .tuple #[.agg #[.int .i64 S3.room, .int .i64 S3.fails, .int .i64 S3.waits, .slice aq3 an3 ac3, .slice bq3 bn3 bc3], .int .i64 e3]) (by simp [results, Try.f41, go_sem, d0, d1, d2, d3, d4]) rfl (put_fin ((⟨_, _, _, _, rfl, HR5.out⟩ : RefIs w5 base (.agg (dv S3 (aq3, an3, ac3) (bq3, bn3, bc3))) S3)) HY5.out HRR.out.2 HRR.out.1 HB5.out)
  · have hm' : mayId id = false := by simpa using hm
    rw [if_neg hm] at hSv
    obtain ⟨rfl, rfl⟩ : S = S2 ∧ (1 : Int) = e2 := by simpa using hSv
    have hout : id < 0 ∨ 1099511627776 < id := by
      unfold mayId at hm
      by_cases h : id < 0
      · exact .inl h
      · by_cases h2 : 1099511627776 < id
        · exact .inr h2
        · exact absurd (by simp; omega) hm
    clear hSv hm hm'
    obtain ⟨⟨y0, y1, y2, y3, y4⟩, -⟩ := X0.c5
    obtain ⟨⟨z0, z1, z2, z3, z4⟩, f0, f1, f2, f3, f4⟩ := Y0.c5
    clear X0 Y0
    by_cases hsg : id < 0
    · clear hout
      go_enter Try.func41, Try.ntmps41
      go_upto_region 1 with (fail)
      rw [← hW, ← hgq]
      clear hW hgq
      go_wp2_with fail
      obtain ⟨⟨d0, d1, d2, d3, d4⟩, -⟩ := (HY0.out.st5 (.int .i64 S.room) (.int .i64 S.fails) (.int .i64 S.waits) (.slice aq an ac) (.slice bq bn bc)).c5
      exact bodyPost_ret (v := .tuple #[.agg #[.int .i64 S.room, .int .i64 S.fails, .int .i64 S.waits, .slice aq an ac, .slice bq bn bc], .int .i64 1]) (by simp [results, Try.f41, go_sem, d0, d1, d2, d3, d4]) rfl (put_fin (HRI.out _ HB0.out) HY0.out HRR.out.2 HRR.out.1 HB0.out)
    · have hsb : 1099511627776 < id := by omega
      clear hout
      go_enter Try.func41, Try.ntmps41
      go_upto_region 1 with (fail)
      rw [← hW, ← hgq]
      clear hW hgq
      go_wp2_with fail
      obtain ⟨⟨d0, d1, d2, d3, d4⟩, -⟩ := (HY0.out.st5 (.int .i64 S.room) (.int .i64 S.fails) (.int .i64 S.waits) (.slice aq an ac) (.slice bq bn bc)).c5
      exact bodyPost_ret (v := .tuple #[.agg #[.int .i64 S.room, .int .i64 S.fails, .int .i64 S.waits, .slice aq an ac, .slice bq bn bc], .int .i64 1]) (by simp [results, Try.f41, go_sem, d0, d1, d2, d3, d4]) rfl (put_fin (HRI.out _ HB0.out) HY0.out HRR.out.2 HRR.out.1 HB0.out)
end Go.Proofs.Ytkopenemoddbbaa

/- The document's Spoil: the walk. -/
namespace Go.Proofs.Ytkopenemoddbbaa
open Go.ChangeShapes Go.WideShapes Go.ChangeAt Go.RowKit Go.Maps
attribute [local go_sem] Oper.semAt_some

def SpoR (base : Nat) (S : DS) (e : Bool) (r : Ending) (w w' : World) : Prop := ∃ v, r = .returned (.tuple #[v, .bool e]) ∧ RefIs w' base v S ∧ Below w.heap.size w w'
theorem putb_fin {w W : World} {base R : Nat} {S : DS} {e : Bool} {cs : Array Value} {x y z p q : Value} (h : RefIs W base (.agg #[x, y, z, p, q]) S) (Y : Blk W R 46 cs) (hb : base ≤ R) (hR : w.heap.size ≤ R) (H : Below w.heap.size w W) :
    SpoR base S e (.returned (.tuple #[.agg #[x, y, z, p, q], .bool e])) w (((((W.setCell ⟨R, 0, none⟩ x).setCell ⟨R, 1, none⟩ y).setCell ⟨R, 2, none⟩ z).setCell ⟨R, 3, none⟩ p).setCell ⟨R, 4, none⟩ q) :=
  ⟨_, rfl, h.far Y hb (kept5 _ _ _ _ _), H.trans ((kept5 _ _ _ _ _).below (n := w.heap.size) H.size (fun b hb e => by omega))⟩
set_option maxRecDepth 100000 in
set_option maxHeartbeats 4000000 in
theorem rspoil_c (base : Nat) (a b : SL) (S : DS) (sl ll : List (Int × SL)) (N : Nat) (w : World) (h : RefAt w base a b S sl ll) (hok : DOk S N 1000000) (hN : N ≤ 90000) (k : Int) (hk : In64 k) (at_ : Int) (x : B8) (hbase : base ≤ w.heap.size) :
    Calls Try.prog 46 #[.agg (dv S a b), .int .i64 k, .int .i64 at_, .int .u8 (n8 x)] w fun r w' => SpoR base (spoilV S k at_ x).1 (spoilV S k at_ x).2 r w w' := by
  obtain ⟨W0, hW⟩ : ∃ W0, W0 = (w.alloc (.cells (dv S a b) 46)).alloc (.cells #[.int .i64 0, .int .i64 0, .int .i64 0, .slice none 0 0, .slice none 0 0] 46) := ⟨_, rfl⟩
  have hb0 : Below w.heap.size w W0 := by rw [hW]; go_grown
  have X0 : Blk W0 w.heap.size 46 (dv S a b) := by rw [hW]; exact (Blk.new' rfl).alloc _
  have Y0 : Blk W0 (w.heap.size + 1) 46 #[.int .i64 0, .int .i64 0, .int .i64 0, .slice none 0 0, .slice none 0 0] := by rw [hW]; exact Blk.new' (by simp)
  have hsz := get_size hok k
  obtain ⟨⟨S2, e2⟩, hSv⟩ : ∃ v, spoilV S k at_ x = v := ⟨_, rfl⟩
  rw [hSv]
  dsimp only
  unfold spoilV at hSv
  have HGT := Lib.hid (rget_c base a b S sl ll N W0 (h.on hb0) hok (by omega) k)
  unfold GetR at HGT
  have hof := hok.fail (n := 0) (by decide)
  have HOKF := Lib.hid hof
  have HFL := Lib.hid fun W => rfail_c S a b 0 (by unfold In64; omega) W
  have HP := Lib.hid fun W (hW : Below w.heap.size w W) (s : SL) (hs : GoodS W base s) (hz : s.2.1 ≤ 1000000) => rput_c base a b (S.fail 0) sl ll N W ((h.on hW).same (by rw [fail0]) (by rw [fail0])) hof (by omega) k s hs hz (Nat.le_trans hbase hW.size)
  have HRI := Lib.hid fun W (hW : Below w.heap.size w W) => (⟨a, b, sl, ll, rfl, h.on hW⟩ : RefIs W base (.agg (dv S a b)) S)
  obtain ⟨aq, an, ac⟩ := a
  obtain ⟨bq, bn, bc⟩ := b
  simp only [dv, slV] at hW X0 HFL HP HRI ⊢
  generalize (S.get k).getD [] = bb at *
  generalize (S.get k).isSome = is at *
  obtain ⟨gx, hgq⟩ : ∃ gx, gx = w.heap.size := ⟨_, rfl⟩
  have hR : w.heap.size ≤ gx + 1 ∧ base ≤ gx + 1 := by omega
  have HRR := Lib.hid hR
  rw [← hgq] at X0 Y0
  have HY0 := Lib.hid Y0
  have HX0 := Lib.hid X0
  have HB0 := Lib.hid hb0
  clear h hok hof hR hb0
  by_cases h0 : 0 ≤ at_
  · by_cases h1 : at_ < (bb.length : Int)
    · obtain ⟨j, rfl⟩ := Int.eq_ofNat_of_zero_le h0
      rw [if_pos ⟨h0, h1⟩] at hSv
      have hj : j < bb.length := by omega
      have e1 : ((S.fail 0).put k (turnB bb j x)).1.sync.1 = S2 := congrArg Prod.fst hSv
      obtain rfl : true = e2 := congrArg Prod.snd hSv
      have HE := Lib.hid e1
      clear hSv e1
      go_enter Try.func46, Try.ntmps46
      go_upto_region 1 with (fail)
      rw [← hW, ← hgq]
      obtain ⟨⟨y0, y1, y2, y3, y4⟩, -⟩ := X0.c5
      clear hW hgq X0 Y0
      go_upto_region 2 with (go_at_call 66; refine HGT.out.mono ?_; rintro e_ w1 ⟨⟨q1, n1, c1⟩, rfl, hg1, hr1, hb1⟩; simp only [slV])
      have hl1 := hg1.len
      rw [hr1] at hl1
      dsimp only at hl1
      subst hl1
      go_upto_region 5 with (fail)
      have hq1 := hg1.byq
      rw [hr1] at hq1
      obtain ⟨x3, w3, hr3, o3, g3⟩ := run_app (P := Try.prog) (base := w1.heap.size) (ty := 22) Try.underlying22 inf8 (own_nil (F := fb bb)) hg1.cap hq1 (by dsimp only; omega) (Nat.le_refl _)
      rw [cat_0, Nat.zero_add] at o3
      obtain ⟨g, cs, cur, rfl, hbg, C, hsc, hsm, hsz1, D⟩ := own_form o3 (by dsimp only; omega)
      have hb3 := after hb1 g3
      have HB3 := Lib.hid (after HB0.out hb3)
      have X3 := HX0.out.on hb3
      have hX3 := Lib.hid X3
      have HY3b := Lib.hid hb3
      have HC := Lib.hid (And.intro C (And.intro D (And.intro hsz1 (And.intro hbg (And.intro hsc hsm)))))
      have d0 : w3.cell? ⟨g, 0 + j, none⟩ = some (.int .u8 (n8 (fb bb j))) := D j hj
      have f0 := C.frz j
      rw [Nat.zero_add] at d0
      obtain ⟨u, hu⟩ : ∃ u, fb bb j = u := ⟨_, rfl⟩
      rw [hu] at d0
      have HU := Lib.hid hu
      have hx8 := xor8 u x
      have hle1 := hb1.size
      have HLE := Lib.hid (show w.heap.size ≤ g from by have := HB0.out.size; omega)
      have HLB := Lib.hid (show W0.heap.size ≤ g from by omega)
      clear hu hg1 hr1 hb1 hq1 g3 hb3 X3 C D hsz1 hsc hsm hle1 hbg y0 y1 y2 y3 y4 HGT o3
      go_upto_region 7 with (at_builtin; refine Lib.wpList_append_run _ rfl _ _ _ _ rfl _ _ rfl rfl _ _ hr3 ?_)
      obtain ⟨W4, hV⟩ : ∃ W4, W4 = w3.setCell ⟨g, j, none⟩ (.int .u8 (n8 (u ^^^ x))) := ⟨_, rfl⟩
      rw [← hV]
      have D4 : Byt W4 g 0 bb.length (updB (fb bb) j (u ^^^ x)) := by rw [hV]; exact HC.out.2.1.put HC.out.1 HC.out.2.2.1 hj
      have C4 : ∃ cur', Blk W4 g 5 cur' := ⟨_, by rw [hV]; exact HC.out.1.set_ j _⟩
      have h4 : Below w.heap.size w W4 := by rw [hV]; exact HB3.out.setCell (p := ⟨g, j, none⟩) HLE.out _
      have hg4 : GoodS W4 base (some ⟨g, 0, none⟩, bb.length, cs) := ⟨HC.out.2.2.2.2.1, HC.out.2.2.2.2.2, fun _ => ⟨g, 0, _, rfl, D4, .inr C4⟩⟩
      have hr4 : rdB W4 (some ⟨g, 0, none⟩, bb.length, cs) = turnB bb j x := by
        rw [rdB_of D4]
        apply List.ext_getElem?
        intro i
        unfold turnB
        rw [show bb.getD j 0 = u from HU.out, List.getElem?_set]
        by_cases hi : i < bb.length
        · rw [bsOf_at hi]
          unfold updB
          by_cases e : j = i
          · subst e; simp [hi]
          · have e' : ¬ i = j := fun h => e h.symm
            simp [e, e', hi, fb]
        · rw [List.getElem?_eq_none (by rw [bsOf_len]; omega)]
          by_cases e : j = i
          · omega
          · rw [if_neg e, List.getElem?_eq_none (by omega)]
      have hne : gx ≠ g := by have := HX0.out.lt; have := HLB.out; omega
      have hne1 : gx + 1 ≠ g := by have := HY0.out.lt; have := HLB.out; omega
      have X4 : Blk W4 gx 46 #[.int .i64 S.room, .int .i64 S.fails, .int .i64 S.waits, .slice aq an ac, .slice bq bn bc] := by rw [hV]; exact hX3.out.far (p := ⟨g, j, none⟩) hne _
      have Y4 : Blk W4 (gx + 1) 46 #[.int .i64 0, .int .i64 0, .int .i64 0, .slice none 0 0, .slice none 0 0] := by
        rw [hV]
        exact (HY0.out.on HY3b.out).far (p := ⟨g, j, none⟩) hne1 _
      have HG4 := Lib.hid (And.intro hg4 hr4)
      have H4 := Lib.hid h4
      have HY4 := Lib.hid Y4
      obtain ⟨⟨y0, y1, y2, y3, y4⟩, -⟩ := X4.c5
      clear hV D4 C4 h4 hg4 hr4 hne hne1 X4 Y4 d0 f0 hx8 HC hX3 HB3 HU HLE HLB hr3
      have hP := fun W (hW : Below W4.heap.size W4 W) => HP.out W (after H4.out hW) (some ⟨g, 0, none⟩, bb.length, cs) (HG4.out.1.on hW).1 hsz
      have HPW := Lib.hid fun W (hW : Below W4.heap.size W4 W) => ((HG4.out.1.on hW).2.trans HG4.out.2)
      have hok4 := HOKF.out.put hk (b := turnB bb j x) (by rw [turnB_len]; exact hsz)
      have HPP := Lib.hid hP
      clear hP
      obtain ⟨⟨S4, e4⟩, hP4⟩ : ∃ v, (S.fail 0).put k (turnB bb j x) = v := ⟨_, rfl⟩
      rw [hP4] at hok4 HE
      dsimp only at hok4 HE
      have HP4 := Lib.hid hP4
      have HOK4 := Lib.hid hok4
      clear hP4 hok4
      go_upto_region 8 with first
        | (go_at_call 45; refine (HFL.out _).mono ?_; rintro e_ w5 ⟨rfl, hb5⟩; have hPU := HPP.out w5 hb5; rw [HPW.out w5 hb5, HP4.out] at hPU; have HPU := Lib.hid hPU; have HB5 := Lib.hid hb5; clear hPU hb5; dsimp only at HPU)
        | (go_at_call 62; refine HPU.out.mono ?_; rintro e_ w6 ⟨v6, rfl, ⟨⟨aq3, an3, ac3⟩, ⟨bq3, bn3, bc3⟩, sl3, ll3, rfl, hR6⟩, hb6⟩; simp only [dv, slV])
      generalize hV : World.alloc w6 _ = w7
      have T7 : Blk w7 w6.heap.size 46 #[.int .i64 S4.room, .int .i64 S4.fails, .int .i64 S4.waits, .slice aq3 an3 ac3, .slice bq3 bn3 bc3] := Blk.eqw hV (Blk.new' rfl)
      have h7 : Below w6.heap.size w6 w7 := by rw [← hV]; exact bel_alloc _ _
      have HB7 := Lib.hid (after HB5.out (after hb6 h7))
      have HB7' := Lib.hid (after H4.out HB7.out)
      have HR7 := Lib.hid (hR6.on h7)
      have HY := Lib.hid (rsync_c base (aq3, an3, ac3) (bq3, bn3, bc3) S4 sl3 ll3 (N + 1) w7 HR7.out HOK4.out (by omega) (Nat.le_trans hbase HB7'.out.size))
      obtain ⟨⟨S5, e5⟩, hS5⟩ : ∃ v, S4.sync = v := ⟨_, rfl⟩
      rw [hS5] at HY HE
      obtain rfl : S5 = S2 := HE.out
      simp only [dv, slV] at HY
      obtain ⟨⟨t0, t1, t2, t3, t4⟩, -⟩ := T7.c5
      clear hV hb6 h7 hR6 T7 HPU HPP HPW HP4 HE hS5 y0 y1 y2 y3 y4
      go_upto_region 9 with (go_at_call 42; refine HY.out.mono ?_; rintro e_ w8 ⟨v8, rfl, ⟨⟨aq4, an4, ac4⟩, ⟨bq4, bn4, bc4⟩, sl4, ll4, rfl, hR8⟩, hb8⟩; simp only [dv, slV])
      generalize hV : World.alloc w8 _ = w9
      have T9 : Blk w9 w8.heap.size 46 #[.int .i64 S5.room, .int .i64 S5.fails, .int .i64 S5.waits, .slice aq4 an4 ac4, .slice bq4 bn4 bc4] := Blk.eqw hV (Blk.new' rfl)
      have h9 : Below w8.heap.size w8 w9 := by rw [← hV]; exact bel_alloc _ _
      have HB9 := Lib.hid (after HB7'.out (after hb8 h9))
      have HR9 := Lib.hid (hR8.on h9)
      have HY9 := Lib.hid (HY4.out.on (after HB7.out (after hb8 h9)))
      obtain ⟨⟨t0', t1', t2', t3', t4'⟩, -⟩ := T9.c5
      obtain ⟨⟨z0, z1, z2, z3, z4⟩, f0, f1, f2, f3, f4⟩ := HY9.out.c5
      clear hV hb8 h9 hR8 T9 HY t0 t1 t2 t3 t4
      go_wp2_with fail
      obtain ⟨⟨d0, d1, d2, d3, d4⟩, -⟩ := (HY9.out.st5 (.int .i64 S5.room) (.int .i64 S5.fails) (.int .i64 S5.waits) (.slice aq4 an4 ac4) (.slice bq4 bn4 bc4)).c5
      exact bodyPost_ret (v := .tuple #[.agg #[.int .i64 S5.room, .int .i64 S5.fails, .int .i64 S5.waits, .slice aq4 an4 ac4, .slice bq4 bn4 bc4], .bool true]) (by simp [results, Try.f46, go_sem, d0, d1, d2, d3, d4]) rfl (putb_fin ((⟨_, _, _, _, rfl, HR9.out⟩ : RefIs w9 base (.agg (dv S5 (aq4, an4, ac4) (bq4, bn4, bc4))) S5)) HY9.out HRR.out.2 HRR.out.1 HB9.out)
    · rw [if_neg (fun h => h1 h.2)] at hSv
      obtain ⟨rfl, rfl⟩ : S = S2 ∧ false = e2 := ⟨congrArg Prod.fst hSv, congrArg Prod.snd hSv⟩
      have h1' : (bb.length : Int) ≤ at_ := by omega
      clear hSv
      go_enter Try.func46, Try.ntmps46
      go_upto_region 1 with (fail)
      rw [← hW, ← hgq]
      obtain ⟨⟨y0, y1, y2, y3, y4⟩, -⟩ := X0.c5
      clear hW hgq X0 Y0
      go_wp2_with (go_at_call 66; refine HGT.out.mono ?_; rintro e_ w1 ⟨⟨q1, n1, c1⟩, rfl, hg1, hr1, hb1⟩; simp only [slV]; have hl1 := hg1.len; rw [hr1] at hl1; dsimp only at hl1; subst hl1; have HB1 := Lib.hid (after HB0.out hb1); have HY1 := Lib.hid (HY0.out.on hb1); clear y0 y1 y2 y3 y4; obtain ⟨⟨y0, y1, y2, y3, y4⟩, -⟩ := (HX0.out.on hb1).c5; obtain ⟨⟨z0, z1, z2, z3, z4⟩, f0, f1, f2, f3, f4⟩ := HY1.out.c5; clear hb1 hg1 hr1)
      obtain ⟨⟨d0, d1, d2, d3, d4⟩, -⟩ := (HY1.out.st5 (.int .i64 S.room) (.int .i64 S.fails) (.int .i64 S.waits) (.slice aq an ac) (.slice bq bn bc)).c5
      exact bodyPost_ret (v := .tuple #[.agg #[.int .i64 S.room, .int .i64 S.fails, .int .i64 S.waits, .slice aq an ac, .slice bq bn bc], .bool false]) (by simp [results, Try.f46, go_sem, d0, d1, d2, d3, d4]) rfl (putb_fin (HRI.out _ HB1.out) HY1.out HRR.out.2 HRR.out.1 HB1.out)
  · have h0' : at_ < 0 := by omega
    rw [if_neg (fun h => h0 h.1)] at hSv
    obtain ⟨rfl, rfl⟩ : S = S2 ∧ false = e2 := ⟨congrArg Prod.fst hSv, congrArg Prod.snd hSv⟩
    clear hSv
    go_enter Try.func46, Try.ntmps46
    go_upto_region 1 with (fail)
    rw [← hW, ← hgq]
    obtain ⟨⟨y0, y1, y2, y3, y4⟩, -⟩ := X0.c5
    clear hW hgq X0 Y0
    go_wp2_with (go_at_call 66; refine HGT.out.mono ?_; rintro e_ w1 ⟨⟨q1, n1, c1⟩, rfl, hg1, hr1, hb1⟩; simp only [slV]; have HB1 := Lib.hid (after HB0.out hb1); have HY1 := Lib.hid (HY0.out.on hb1); clear y0 y1 y2 y3 y4; obtain ⟨⟨y0, y1, y2, y3, y4⟩, -⟩ := (HX0.out.on hb1).c5; obtain ⟨⟨z0, z1, z2, z3, z4⟩, f0, f1, f2, f3, f4⟩ := HY1.out.c5; clear hb1 hg1 hr1)
    obtain ⟨⟨d0, d1, d2, d3, d4⟩, -⟩ := (HY1.out.st5 (.int .i64 S.room) (.int .i64 S.fails) (.int .i64 S.waits) (.slice aq an ac) (.slice bq bn bc)).c5
    exact bodyPost_ret (v := .tuple #[.agg #[.int .i64 S.room, .int .i64 S.fails, .int .i64 S.waits, .slice aq an ac, .slice bq bn bc], .bool false]) (by simp [results, Try.f46, go_sem, d0, d1, d2, d3, d4]) rfl (putb_fin (HRI.out _ HB1.out) HY1.out HRR.out.2 HRR.out.1 HB1.out)
end Go.Proofs.Ytkopenemoddbbaa

/- The document's disk: what is under way is lost, but the first bytes. -/
namespace Go.Proofs.Ytkopenemoddbbaa
open Go.RowKit Go.Maps
attribute [local go_sem] Oper.semAt_some

set_option maxRecDepth 100000 in
set_option maxHeartbeats 8000000 in
theorem rcrash_c (base : Nat) (a b : SL) (S : DS) (sl ll : List (Int × SL)) (N : Nat) (w : World) (h : RefAt w base a b S sl ll) (hok : DOk S N 1000000) (hN : N ≤ 100000) (n : Int) (hbase : base ≤ w.heap.size) :
    Calls Try.prog 43 #[.agg (dv S a b), .int .i64 n] w fun r w' => PutR base (S.crash n).1 (S.crash n).2 r w w' := by
  have hmn := @run_mn Try.prog
  have hmx := @run_mx Try.prog
  obtain ⟨hr, hcnt, -, -, -, -⟩ := h.facts hok
  have hki := keep_is S n
  have hkl : keepB S n ≤ lenB S.l := Nat.min_le_right _ _
  have hle : lenB S.l ≤ 100000000000 := by
    refine Nat.le_trans (lenB_le (M := 1000000) fun p hp => hok.size p (List.mem_append.2 (.inr hp))) ?_
    have := hok.many
    rw [h.l, cont_len] at this ⊢; omega
  have he2 : (S.crash n).2 = (lenB S.l : Int) - (keepB S n : Int) := by unfold DS.crash; dsimp only; omega
  obtain ⟨g1, g2⟩ := crashR_good (k := keepB S n) h.ga h.gb
  have HX : Hid (GoodL w base (crashR sl ll (keepB S n)) ∧ (S.crash n).1.safe = cont w (crashR sl ll (keepB S n))) := Lib.hid ⟨g1, by rw [g2, ← h.safe, ← h.l]; rfl⟩
  have hls : lens ll = lenB S.l := by rw [lens_is h.gb, ← h.l]
  have hsz : ∀ p ∈ ll, p.2.2.1 ≤ 1000000 := fun p hp => by
    rw [← (h.gb p hp).len]
    exact hok.size (p.1, rdB w p.2) (List.mem_append.2 (.inr (by rw [h.l]; exact List.mem_map.2 ⟨p, hp, rfl⟩)))
  have hcap : ∀ p ∈ ll, p.2.2.1 ≤ p.2.2.2 ∧ p.2.2.2 ≤ maxLen := fun p hp => ⟨(h.gb p hp).cap, (h.gb p hp).most⟩
  have HK := Lib.hid (And.intro hsz hcap)
  have HE := Lib.hid he2
  obtain ⟨W0, hW⟩ : ∃ W0, W0 = (w.alloc (.cells (dv S a b) 46)).alloc (.cells #[.int .i64 0, .int .i64 0, .int .i64 0, .slice none 0 0, .slice none 0 0] 46) := ⟨_, rfl⟩
  have hb0 : Below w.heap.size w W0 := by rw [hW]; go_grown
  have X0 : Blk W0 w.heap.size 46 (dv S a b) := by rw [hW]; exact (Blk.new' rfl).alloc _
  have Y0 : Blk W0 (w.heap.size + 1) 46 #[.int .i64 0, .int .i64 0, .int .i64 0, .slice none 0 0, .slice none 0 0] := by rw [hW]; exact Blk.new' (by simp)
  have HB0 := Lib.hid hb0
  have HR0 := Lib.hid (h.on hb0)
  obtain ⟨aq, an, ac⟩ := a
  obtain ⟨q, nb, c⟩ := b
  obtain rfl : nb = ll.length := h.rb.len
  have HLN := Lib.hid (rlen_c (q, ll.length, c) ll W0 HR0.out.rb (by omega) (by omega))
  clear h hb0 hsz hcap g1 g2 he2
  rw [hls] at HLN
  simp only [dv, slV] at hW X0 HLN ⊢
  generalize keepB S n = kp at *
  generalize lenB S.l = tot at *
  obtain ⟨gx, hgq⟩ : ∃ gx, gx = w.heap.size := ⟨_, rfl⟩
  rw [← hgq] at X0 Y0
  have HGQ := Lib.hid hgq
  go_enter Try.func43, Try.ntmps43
  go_upto_region 1 with (fail)
  rw [← hW, ← hgq]
  clear hW hgq hls
  obtain ⟨⟨x0, x1, x2, x3, x4⟩, -⟩ := X0.c5
  go_upto_region 5 with (go_at_call 51; refine HLN.out.mono ?_; rintro e_ w1 ⟨rfl, rfl⟩)
  have HBc := Lib.hid (And.intro HR0.out.rb HR0.out.ra)
  clear x0 x1 x2 x3 x4 hki
  go_loopw [7, 9] (fun x i wr => ∃ (k : Nat) (s : List (Int × SL)) (kk : Nat) (va : SL), k ≤ ll.length ∧ i = .int .i64 k ∧ x = .int .i64 kk ∧ kk ≤ kp ∧ Hid (Rise s) ∧ Blk wr gx 46 #[.int .i64 S.room, .int .i64 S.fails, .int .i64 S.waits, slV va, .slice q ll.length c] ∧ Hid (RowR wr va s) ∧ Hid (crashR sl ll kp = crashR s (ll.drop k) kk) ∧ s.length ≤ sl.length + k ∧ Hid (Kept (fun b => b ≠ gx) W0 wr)) (fun _ i _ => ll.length - (intOf i).toNat)
  case atStart => exact ⟨0, sl, kp, (aq, an, ac), Nat.zero_le _, rfl, rfl, Nat.le_refl _, Lib.hid hr, X0, Lib.hid HBc.out.2, Lib.hid rfl, Nat.le_refl _, Lib.hid (Kept.refl _ _)⟩
  case round =>
    obtain ⟨k, s, kk, va, hk, rfl, rfl, hkk, HRS, X, HRV, HCR, hsl, HKP⟩ := hrel
    obtain ⟨vq, vn, vc⟩ := va
    simp only [slV] at X
    have hgw : gx < wr.heap.size := X.lt
    have FIN : Hid (∀ W v l, Kept (fun b => b ≠ gx) W0 W → Blk W gx 46 #[.int .i64 S.room, .int .i64 0, .int .i64 0, slV v, .slice none 0 0] → RowR W v l → crashR sl ll kp = l → Below w.heap.size w W ∧ Blk W (gx + 1) 46 #[.int .i64 0, .int .i64 0, .int .i64 0, .slice none 0 0, .slice none 0 0] ∧ RefAt W base v (none, 0, 0) (S.crash n).1 l []) := Lib.hid fun W v l hk hX hR hl => by
      subst hl
      have hB : Below w.heap.size w W := HB0.out.trans (hk.below (by have := HB0.out.size; omega) (fun b hb e => by have := HGQ.out; omega))
      obtain ⟨g3, g4⟩ := HX.out.1.on hB
      exact ⟨hB, hk.blk (by omega) Y0, hR, RowR.nil, g3, fun p hp => (by cases hp), by rw [g4]; exact HX.out.2, rfl⟩
    by_cases hlt : k < ll.length
    · obtain ⟨p, hp⟩ := lt_at hlt
      obtain ⟨g, cur, hq, hC, hrow⟩ := HBc.out.1.lies (by omega)
      dsimp only at hq
      subst hq
      obtain ⟨r0, r1⟩ := hrow k p hp
      have hgg : g ≠ gx := fun e => by subst e; have := blk_one hC X0; revert this; decide
      have r0' : wr.cell? ⟨g, k * 2, none⟩ = some (.int .i64 p.1) := by rw [World.cell?_of_block (a := ⟨g, k * 2, none⟩) (HKP.out.block g (cell_lt r0) hgg)]; exact r0
      have r1' : wr.cell? ⟨g, k * 2 + 1, none⟩ = some (slV p.2) := by rw [World.cell?_of_block (a := ⟨g, k * 2 + 1, none⟩) (HKP.out.block g (cell_lt r1) hgg)]; exact r1
      have hdr : ll.drop k = p :: ll.drop (k + 1) := by
        rw [List.drop_eq_getElem_cons hlt]
        rw [List.getElem?_eq_getElem hlt] at hp
        rw [Option.some.inj hp]
      have hps := HK.out.1 p (List.mem_of_getElem? hp)
      have hpc := HK.out.2 p (List.mem_of_getElem? hp)
      obtain ⟨pk, pq, pn, pc⟩ := p
      simp only [slV] at r0' r1' hps hpc
      rw [hdr] at HCR
      clear r0 r1 hp hdr hgg hrow hC
      obtain ⟨⟨x0, x1, x2, x3, x4⟩, -⟩ := X.c5
      have hk1 : (k : Int) < (ll.length : Int) := by omega
      have hk0 : (0 : Int) ≤ (k : Int) := by omega
      have hi3 : (k : Int) + 1 ≤ 9223372036854775807 := by omega
      have hi4 : -9223372036854775808 ≤ (k : Int) + 1 := by omega
      have hpc1 := hpc.1
      clear hpc
      by_cases hfit : pn ≤ kk
      · have hcr : Hid (crashR sl ll kp = crashR (putL s (pk, pq, pn, pc)) (ll.drop (k + 1)) (kk - pn)) := Lib.hid (by rw [HCR.out]; show (if pn ≤ kk then _ else _) = _; rw [if_pos hfit])
        have hfi : (pn : Int) ≤ (kk : Int) := by omega
        go_upto_region 8 with (fail)
        generalize hV : World.alloc wr _ = wa
        have U : Blk wa wr.heap.size 113 #[.int .i64 pk, .slice pq pn pc] := Blk.eqw hV (Blk.new' rfl)
        have ha : Below wr.heap.size wr wa := by rw [← hV]; exact (Below.refl _ _).alloc (Nat.le_refl _) _
        have hgu : gx < wr.heap.size := hgw
        generalize wr.heap.size = gu at U hgu ⊢
        replace X := X.on ha
        have HLY := Lib.hid (rlay_c (vq, vn, vc) s pk (pq, pn, pc) wa (HRV.out.on ha) HRS.out (by omega))
        simp only [slV] at HLY
        clear hV x0 x1 x2 x3 x4 r0' r1'
        have u0 := U.cell 0
        have u1 := U.cell 1
        obtain ⟨⟨x0, x1, x2, x3, x4⟩, f0, f1, f2, f3, f4⟩ := X.c5
        have hi1 : -9223372036854775808 ≤ (kk : Int) - (pn : Int) := by omega
        have hi2 : (kk : Int) - (pn : Int) ≤ 9223372036854775807 := by omega
        have HSB := Lib.hid (show (kk : Int) - (pn : Int) = ((kk - pn : Nat) : Int) by omega)
        go_wp2_with (go_at_call 65; refine HLY.out.mono ?_; rintro e_ w2 ⟨v, rfl, ho, h2⟩; obtain ⟨⟨b1, b2, b3⟩, rfl, hRN⟩ := RowR.of ho; simp only [slV]; clear x0 x1 x2 x3 x4 f0 f1 f2 f3 f4; replace X := X.on h2; obtain ⟨⟨x0, x1, x2, x3, x4⟩, f0, f1, f2, f3, f4⟩ := X.c5)
        have X9 := X.set_ 3 (.slice b1 b2 b3)
        have K9 : Kept (fun b => b ≠ gx) w2 (w2.setCell ⟨gx, 3, none⟩ (.slice b1 b2 b3)) := (Kept.refl _ _).setCell (by simp) _
        have hRN9 := hRN.kept (w' := w2.setCell ⟨gx, 3, none⟩ (.slice b1 b2 b3)) fun g cur hB => K9.blk (fun e => by subst e; have := blk_one hB X; revert this; decide) hB
        exact ⟨⟨k + 1, _, kk - pn, (b1, b2, b3), hlt, by go_num, by rw [HSB.out], by omega, Lib.hid (rise_putL HRS.out), X9, Lib.hid hRN9, hcr, by have := len_putL (pk, (pq, pn, pc)) s; omega, Lib.hid (((HKP.out.on ha).on h2).trans K9)⟩, next_less' hlt⟩
      · have hcr : Hid (crashR sl ll kp = putL s (pk, (pq, kk, pc))) := Lib.hid (by rw [HCR.out]; show (if pn ≤ kk then _ else _) = _; rw [if_neg hfit])
        have hfi : ¬ (pn : Int) ≤ (kk : Int) := by omega
        have hkc : kk ≤ pc := by omega
        have hkp : kk ≤ pn := by omega
        go_upto_region 8 with (fail)
        generalize hV : World.alloc wr _ = wa
        have U : Blk wa wr.heap.size 113 #[.int .i64 pk, .slice pq pn pc] := Blk.eqw hV (Blk.new' rfl)
        have ha : Below wr.heap.size wr wa := by rw [← hV]; exact (Below.refl _ _).alloc (Nat.le_refl _) _
        have hgu : gx < wr.heap.size := hgw
        generalize wr.heap.size = gu at U hgu ⊢
        replace X := X.on ha
        have HLY : Hid (∀ W, Below wa.heap.size wa W → Calls Try.prog 65 #[.slice vq vn vc, .agg #[.int .i64 pk, .slice pq kk pc]] W fun r w' => ∃ u, r = .returned u ∧ (Kept (fun _ => True) W w' ∧ RowV (putL s (pk, (pq, kk, pc))) u w')) := Lib.hid fun W hW => by
          refine (rlay_c (vq, vn, vc) s pk (pq, kk, pc) W ((HRV.out.on ha).on hW) HRS.out (by omega)).mono ?_
          rintro r w' ⟨v, rfl, ho, hb⟩
          obtain ⟨a2, rfl, hr2⟩ := RowR.of ho
          exact ⟨_, rfl, (Kept.of_below hb).mono fun _ _ => trivial, a2, rfl, hr2⟩
        clear hV x0 x1 x2 x3 x4 r0' r1'
        have u1 := U.cell 1
        go_upto_region 11 with (fail)
        clear u1
        have u0 := fun d os => (U.re d os).cell 0
        have u1 := fun d os => (U.re d os).cell 1
        have x3 : ∀ d os, (Go.Sort.grow (redrawn wa d) os).cell? ⟨gx, 3, none⟩ = some (.slice vq vn vc) := fun d os => (X.re d os).cell 3
        refine wp_sched [0, 0, 0, 0, 0, 0, 0, 0, 0, 2, 1, 3] (fun _ v w => RowV (putL s (pk, (pq, kk, pc))) v w) (by kernel_rfl) (by kernel_rfl) (fun _ v w w' h hb => RowV.on h hb) ?_
        repeat (first | (refine wpQs_s ?_) | (refine wpQs_q (fun K hK => ?_); go_simp; first | (refine hK _ ?_; clear hK K) | (apply Exists.intro; refine ⟨fun _ => ?_, hK _ ?_⟩; (fail); clear hK K)) | (refine wpQs_f (fun K hK => ?_); go_simp; refine hK _ ?_; clear hK K))
        refine wpQs_nil ?_
        repeat (first | (refine wpLs_skip ?_) | (refine wpLs_one ?lsA (fun v_ => ?_); case lsA => (intro w_ hw_ hp_; (go_simp; refine (HLY.out _ ((msd_kept hw_).none)).mono ?_; rintro e_ w9 ⟨u, rfl, hk, hu⟩; exact ⟨u, rfl, hk, hu⟩))))
        refine wpLs_nilB ?_
        simp only [tails]
        rintro w2 h2 ⟨-, ⟨b1, b2, b3⟩, rfl, hRN⟩
        simp only [slV]
        replace X := X.on h2
        clear u0 u1 x3
        obtain ⟨⟨x0, x1, x2, x3, x4⟩, f0, f1, f2, f3, f4⟩ := X.c5
        go_upto_region 12 with (fail)
        have X9 := X.set_ 3 (.slice b1 b2 b3)
        have K9 : Kept (fun b => b ≠ gx) w2 (w2.setCell ⟨gx, 3, none⟩ (.slice b1 b2 b3)) := (Kept.refl _ _).setCell (by simp) _
        have hRN9 := hRN.kept (w' := w2.setCell ⟨gx, 3, none⟩ (.slice b1 b2 b3)) fun g cur hB => K9.blk (fun e => by subst e; have := blk_one hB X; revert this; decide) hB
        have hkp9 := ((HKP.out.on ha).on h2).trans K9
        generalize World.setCell w2 _ _ = w3 at X9 hRN9 hkp9 ⊢
        clear X K9 hRN h2 ha U HLY HKP x0 x1 x2 x3 x4 f0 f1 f2 f3 f4
        obtain ⟨⟨x0, x1, x2, x3, x4⟩, f0, f1, f2, f3, f4⟩ := X9.c5
        go_upto_region 15 with (fail)
        have X10 := ((X9.set_ 4 (.slice none 0 0)).set_ 1 (.int .i64 0)).set_ 2 (.int .i64 0)
        have K10 : Kept (fun b => b ≠ gx) w3 (((w3.setCell ⟨gx, 4, none⟩ (.slice none 0 0)).setCell ⟨gx, 1, none⟩ (.int .i64 0)).setCell ⟨gx, 2, none⟩ (.int .i64 0)) := (((Kept.refl _ _).setCell (by simp) _).setCell (by simp) _).setCell (by simp) _
        have hR10 := hRN9.kept (w' := ((w3.setCell ⟨gx, 4, none⟩ (.slice none 0 0)).setCell ⟨gx, 1, none⟩ (.int .i64 0)).setCell ⟨gx, 2, none⟩ (.int .i64 0)) fun g cur hB => K10.blk (fun e => by subst e; have := blk_one hB X9; revert this; decide) hB
        obtain ⟨F1, F2, F3⟩ := FIN.out _ (b1, b2, b3) _ (hkp9.trans K10) X10 hR10 hcr.out
        generalize World.setCell (World.setCell (World.setCell w3 _ _) _ _) _ _ = w4 at X10 F1 F2 F3 ⊢
        have HF := Lib.hid (And.intro F1 F3)
        clear x0 x1 x2 x3 x4 f0 f1 f2 f3 f4 K10 hR10 F1 F3 FIN
        have x0 := X10.cell 0
        have x1 := X10.cell 1
        have x2 := X10.cell 2
        have x3 := X10.cell 3
        have x4 := X10.cell 4
        obtain ⟨⟨y0, y1, y2, y3, y4⟩, f0, f1, f2, f3, f4⟩ := F2.c5
        go_wp2_with fail
        obtain ⟨⟨d0, d1, d2, d3, d4⟩, -⟩ := (F2.st5 (.int .i64 S.room) (.int .i64 0) (.int .i64 0) (.slice b1 b2 b3) (.slice none 0 0)).c5
        have hk7 := kept5 (w := w4) (g := gx + 1) (.int .i64 S.room) (.int .i64 0) (.int .i64 0) (.slice b1 b2 b3) (.slice none 0 0)
        have hfin := HF.out.1.trans (hk7.below (n := w.heap.size) HF.out.1.size (fun b hb e => by have := HGQ.out; omega))
        refine bodyPost_ret (v := .tuple #[.agg #[.int .i64 S.room, .int .i64 0, .int .i64 0, (.slice b1 b2 b3), .slice none 0 0], .int .i64 ((tot : Int) - (kp : Int))]) (by simp [results, Try.f43, go_sem, d0, d1, d2, d3, d4]) rfl ?_
        rw [HE.out]
        exact ⟨_, rfl, ⟨(b1, b2, b3), (none, 0, 0), _, [], rfl, HF.out.2.off hk7 F2 (by decide) (by have := HGQ.out; omega)⟩, hfin⟩
    · obtain rfl : k = ll.length := by omega
      have hk1 : ¬ ((ll.length : Int) < (ll.length : Int)) := by omega
      have hcr : crashR sl ll kp = s := by rw [HCR.out, List.drop_length]; rfl
      have HCE := Lib.hid hcr
      clear hcr
      generalize wr = w3 at X HRV HKP hgw ⊢
      obtain ⟨⟨x0, x1, x2, x3, x4⟩, f0, f1, f2, f3, f4⟩ := X.c5
      go_upto_region 15 with (fail)
      have X10 := ((X.set_ 4 (.slice none 0 0)).set_ 1 (.int .i64 0)).set_ 2 (.int .i64 0)
      have K10 : Kept (fun b => b ≠ gx) w3 (((w3.setCell ⟨gx, 4, none⟩ (.slice none 0 0)).setCell ⟨gx, 1, none⟩ (.int .i64 0)).setCell ⟨gx, 2, none⟩ (.int .i64 0)) := (((Kept.refl _ _).setCell (by simp) _).setCell (by simp) _).setCell (by simp) _
      have hR10 := HRV.out.kept (w' := ((w3.setCell ⟨gx, 4, none⟩ (.slice none 0 0)).setCell ⟨gx, 1, none⟩ (.int .i64 0)).setCell ⟨gx, 2, none⟩ (.int .i64 0)) fun g cur hB => K10.blk (fun e => by subst e; have := blk_one hB X; revert this; decide) hB
      obtain ⟨F1, F2, F3⟩ := FIN.out _ (vq, vn, vc) _ (HKP.out.trans K10) X10 hR10 HCE.out
      generalize World.setCell (World.setCell (World.setCell w3 _ _) _ _) _ _ = w4 at X10 F1 F2 F3 ⊢
      have HF := Lib.hid (And.intro F1 F3)
      clear x0 x1 x2 x3 x4 f0 f1 f2 f3 f4 K10 hR10 F1 F3 FIN
      have x0 := X10.cell 0
      have x1 := X10.cell 1
      have x2 := X10.cell 2
      have x3 := X10.cell 3
      have x4 := X10.cell 4
      obtain ⟨⟨y0, y1, y2, y3, y4⟩, f0, f1, f2, f3, f4⟩ := F2.c5
      go_wp2_with fail
      obtain ⟨⟨d0, d1, d2, d3, d4⟩, -⟩ := (F2.st5 (.int .i64 S.room) (.int .i64 0) (.int .i64 0) (.slice vq vn vc) (.slice none 0 0)).c5
      have hk7 := kept5 (w := w4) (g := gx + 1) (.int .i64 S.room) (.int .i64 0) (.int .i64 0) (.slice vq vn vc) (.slice none 0 0)
      have hfin := HF.out.1.trans (hk7.below (n := w.heap.size) HF.out.1.size (fun b hb e => by have := HGQ.out; omega))
      refine bodyPost_ret (v := .tuple #[.agg #[.int .i64 S.room, .int .i64 0, .int .i64 0, (.slice vq vn vc), .slice none 0 0], .int .i64 ((tot : Int) - (kp : Int))]) (by simp [results, Try.f43, go_sem, d0, d1, d2, d3, d4]) rfl ?_
      rw [HE.out]
      exact ⟨_, rfl, ⟨(vq, vn, vc), (none, 0, 0), _, [], rfl, HF.out.2.off hk7 F2 (by decide) (by have := HGQ.out; omega)⟩, hfin⟩
end Go.Proofs.Ytkopenemoddbbaa

/- A deed: what it does. -/
namespace Go.Proofs.Ytkopenemoddbbaa
open Go.RowKit Go.Maps

noncomputable def doV (S : DS) (kind id nn : Int) (x : B8) (b : Bs) : DS :=
  if kind = 0 then (saveV S (arI id 4) b).1 else if kind = 1 then S.sync.1 else if kind = 2 then (S.crash (arI nn 60)).1 else if kind = 3 then S.fail (arI nn 5 - 2) else if kind = 4 then (spoilV S (arI nn 8) (arI id 25) x).1 else S
def Does9R (base d : Nat) (M : Nat → Prop) (S' : DS) (r : Ending) (w w' : World) : Prop := ∃ v' : Value, r = .returned (.tuple #[v', .bool true]) ∧ Turn w base M d S' w' ∧ RefIs w' base v' S'
theorem does_turn {w W2 w2 : World} {base d R : Nat} {M M' : Nat → Prop} {L : List Nat} {S' : DS} (hB : Below w.heap.size w W2) (hw : KeptD (R :: L) W2 w2) (hL : ∀ b, M b ↔ b ∈ L) (hR : w.heap.size ≤ R) (hD : DiskIs w2 base M' d S') (hM : ∀ b, M' b → M b ∨ W2.heap.size ≤ b) : Turn w base M d S' w2 :=
  ⟨M', hD, fun b hb => (hM b hb).imp id (Nat.le_trans hB.size), Kept.os hw |>.trans hB.os, Kept.tape hw |>.trans hB.tape, Kept.output hw |>.trans hB.output, Nat.le_trans hB.size (Kept.size hw), fun b hb hm => (Kept.block hw b (Nat.lt_of_lt_of_le hb hB.size) (fun h => by
    rcases List.mem_cons.1 h with e | h
    · omega
    · exact hm ((hL b).2 h))).trans (hB.block b hb)⟩
def evB (c : Nat) (E : Bool) (i : Nat) : Value := if i = c then .bool E else .bool true
abbrev zeroD : Array Value := #[.int .i64 0, .int .i64 0, .int .i64 0, .slice none 0 0, .slice none 0 0]
end Go.Proofs.Ytkopenemoddbbaa

/- Crashes: the plain law. No walk here. -/
namespace Go.Proofs.Ytkopenemoddbbaa

def mkS (s : List (Int × Bs)) : DS := ⟨0, 0, 0, s, []⟩
noncomputable def ofL (s : List (Int × Bs)) (k : Int) : Int × Int × Bs := ofV (mkS s) k
theorem mk_now (s : List (Int × Bs)) : (mkS s).now = s := rfl
theorem ofL_now (S : DS) (k : Int) : ofL S.now k = ofV S k := of_now (mk_now S.now) k
theorem of_torn {s : List (Int × Bs)} {m : Int} {x : Bs} (hr : Rise s) (hx : (readL x).2.2 ≠ 0) (j : Int) : ofL (putL s (toV (mkS s) m, x)) j = ofL s j := by
  have hn : (mkS (putL s (toV (mkS s) m, x))).now = putL (mkS s).now (toV (mkS s) m, x) := rfl
  have hs := ofV_slot (mkS s) m
  have hp := fun i => recAt_put (S := mkS s) hr hn i
  unfold ofL
  by_cases e : j = m
  · subst e
    rcases of_is (mkS s) j with ⟨a, b, c, d1, d2⟩ | ⟨a, b, c⟩
    · have h : ∀ i, (i = 2 * j ∨ i = 2 * j + 1) → (recAt (mkS (putL s (toV (mkS s) j, x))) i).2.2 ≠ 0 := fun i hi => by
        rw [hp]
        split
        · exact hx
        · rcases hi with rfl | rfl
          · exact d1
          · exact d2
      have h1 : ofV (mkS (putL s (toV (mkS s) j, x))) j = (2 * j + 1, 0, []) := by
        unfold ofV
        rw [if_neg (h _ (.inl rfl)), if_neg (h _ (.inr rfl))]
      rw [h1]
      exact Prod.ext a.symm (Prod.ext b.symm c.symm)
    · have h2 : recAt (mkS (putL s (toV (mkS s) j, x))) (ofV (mkS s) j).1 = ((ofV (mkS s) j).2.1, (ofV (mkS s) j).2.2, 0) := by
        rw [hp, if_neg (by unfold toV; omega), a]
      rw [of_top hs h2 fun h => ?_]
      rw [hp, if_pos (by unfold toV; rfl)] at h
      exact absurd h hx
  · refine of_other ?_ ?_
    · rw [hp, if_neg (by unfold toV; omega)]
    · rw [hp, if_neg (by unfold toV; omega)]

abbrev Told := Nat → Int
abbrev Bods := Nat → List Bs
def GoodC (told : Told) (bod : Bods) (s : List (Int × Bs)) : Prop := ∀ k : Nat, k < 4 → told k ≤ (ofL s k).2.1 ∧ ((ofL s k).2.1 = 0 ∨ (bod k)[((ofL s k).2.1 - 1).toNat]? = some (ofL s k).2.2)
def StepC (s : List (Int × Bs)) (w : Int × Bs) : Prop := ∃ (m : Nat) (b : Bs), m < 4 ∧ b.length ≤ 20 ∧ (ofL s m).2.1 < 1000 ∧ w = (toV (mkS s) m, newB (mkS s) m b)
def InvC (told : Told) (bod : Bods) : List (Int × Bs) → List (Int × Bs) → Prop
  | s, [] => GoodC told bod s
  | s, w :: l => GoodC told bod s ∧ StepC s w ∧ InvC told bod (putL s w) l
theorem ofL_int (s : List (Int × Bs)) (k : Int) : 0 ≤ (ofL s k).2.1 ∧ (ofL s k).2.1 ≤ 1073741824 := ofV_int _ _
theorem step_of {s : List (Int × Bs)} {m : Nat} {b : Bs} (hr : Rise s) (hb : b.length ≤ 20) (hv : (ofL s m).2.1 < 1000) :
    ofL (putL s (toV (mkS s) m, newB (mkS s) m b)) m = (toV (mkS s) m, (ofL s m).2.1 + 1, b) ∧ ∀ j : Int, j ≠ m → ofL (putL s (toV (mkS s) m, newB (mkS s) m b)) j = ofL s j :=
  of_after (S := mkS s) (S' := mkS (putL s (toV (mkS s) m, newB (mkS s) m b))) hr rfl (by unfold ofL at hv; omega) (by omega)
theorem step_mono {s : List (Int × Bs)} {w : Int × Bs} (hr : Rise s) (h : StepC s w) (k : Int) : (ofL s k).2.1 ≤ (ofL (putL s w) k).2.1 := by
  obtain ⟨m, b, hm, hb, hv, rfl⟩ := h
  obtain ⟨h1, h2⟩ := step_of hr hb hv
  by_cases e : k = m
  · subst e; rw [h1]; dsimp only; omega
  · rw [h2 k e]; exact Int.le_refl _
theorem inv_good {told : Told} {bod : Bods} : ∀ {l s : List (Int × Bs)}, InvC told bod s l → GoodC told bod s
  | [], _, h => h
  | _ :: _, _, h => h.1
theorem inv_mono {told : Told} {bod : Bods} (k : Int) : ∀ {l s : List (Int × Bs)}, Rise s → InvC told bod s l → (ofL s k).2.1 ≤ (ofL (nowL s l) k).2.1
  | [], _, _, _ => Int.le_refl _
  | _ :: _, _, hr, h => Int.le_trans (step_mono hr h.2.1 k) (inv_mono k (rise_putL hr) h.2.2)
theorem inv_last {told : Told} {bod : Bods} : ∀ {l s : List (Int × Bs)}, InvC told bod s l → GoodC told bod (nowL s l)
  | [], _, h => h
  | w :: l, s, h => by rw [nowL_cons]; exact inv_last h.2.2
theorem good_agree {told : Told} {bod bod' : Bods} {s : List (Int × Bs)} (h : GoodC told bod s) (ha : ∀ k : Nat, k < 4 → ∀ i : Nat, (i : Int) < (ofL s k).2.1 → (bod' k)[i]? = (bod k)[i]?) : GoodC told bod' s := fun k hk => by
  obtain ⟨h1, h2⟩ := h k hk
  refine ⟨h1, ?_⟩
  rcases h2 with h2 | h2
  · exact .inl h2
  · by_cases h0 : (ofL s k).2.1 = 0
    · exact .inl h0
    · refine .inr ?_
      have := (ofL_int s k).1
      rw [ha k hk _ (by omega)]
      exact h2
theorem inv_agree {told : Told} {bod bod' : Bods} : ∀ {l s : List (Int × Bs)}, Rise s → InvC told bod s l → (∀ k : Nat, k < 4 → ∀ i : Nat, (i : Int) < (ofL (nowL s l) k).2.1 → (bod' k)[i]? = (bod k)[i]?) → InvC told bod' s l
  | [], _, _, h, ha => good_agree h ha
  | w :: l, _, hr, h, ha => ⟨good_agree h.1 fun k hk i hi => ha k hk i (Int.lt_of_lt_of_le hi (inv_mono (l := w :: l) k hr h)), h.2.1, inv_agree (rise_putL hr) h.2.2 ha⟩
theorem inv_snoc {told : Told} {bod : Bods} {w : Int × Bs} : ∀ {l s : List (Int × Bs)}, InvC told bod s l → StepC (nowL s l) w → GoodC told bod (putL (nowL s l) w) → InvC told bod s (l ++ [w])
  | [], _, h, hs, hg => ⟨h, hs, hg⟩
  | _ :: _, _, h, hs, hg => ⟨h.1, h.2.1, inv_snoc h.2.2 hs hg⟩
theorem inv_crash {told : Told} {bod : Bods} : ∀ {l s : List (Int × Bs)} {n : Nat}, Rise s → InvC told bod s l → GoodC told bod (crashL s l n) ∧ ∀ k : Int, (ofL (crashL s l n) k).2.1 ≤ (ofL (nowL s l) k).2.1
  | [], _, _, _, h => ⟨h, fun _ => Int.le_refl _⟩
  | w :: l, s, n, hr, h => by
    unfold crashL
    split
    · exact inv_crash (rise_putL hr) h.2.2
    · rename_i hn
      obtain ⟨m, b, hm, hb, hv, rfl⟩ := h.2.1
      have hx : (readL ((newB (mkS s) m b).take n)).2.2 ≠ 0 := read_torn (by omega) (by dsimp only at hn; rw [newB_len] at hn; omega)
      have he := fun j => of_torn (m := m) hr hx j
      refine ⟨fun k hk => ?_, fun k => ?_⟩
      · dsimp only
        rw [he]
        exact h.1 k hk
      · dsimp only
        rw [he]
        exact inv_mono (l := _ :: l) k hr h
theorem inv_len {told : Told} {bod : Bods} : ∀ {l s : List (Int × Bs)}, InvC told bod s l → ∀ p ∈ l, 9 ≤ p.2.length
  | [], _, _, p, hp => by cases hp
  | w :: l, s, h, p, hp => by
    rcases List.mem_cons.1 hp with rfl | hp
    · obtain ⟨m, b, -, -, -, rfl⟩ := h.2.1
      dsimp only
      rw [newB_len]; omega
    · exact inv_len h.2.2 p hp
theorem inv_told {told told' : Told} {bod : Bods} {s : List (Int × Bs)} (h : GoodC told bod s) (ht : ∀ k : Nat, k < 4 → told' k ≤ (ofL s k).2.1) : GoodC told' bod s := fun k hk => ⟨ht k hk, (h k hk).2⟩

/-- What holds ahead of each deed. -/
structure CI (S : DS) (told : Told) (bod : Bods) (i : Nat) : Prop where
  inv : InvC told bod S.safe S.l
  ok : DOk S i 29
  room : S.room = 100000
  ver : ∀ k : Nat, k < 4 → (ofV S k).2.1 ≤ i
  lens : ∀ k : Nat, k < 4 → (bod k).length ≤ i
def bodN (bod : Bods) (m : Nat) (was : Int) (b : Bs) : Bods := fun k => if k = m then (bod m).take was.toNat ++ [b] else bod k
theorem CI.good {S : DS} {told : Told} {bod : Bods} {i : Nat} (h : CI S told bod i) (k : Nat) (hk : k < 4) : told k ≤ (ofV S k).2.1 ∧ 0 ≤ (ofV S k).2.1 ∧ (ofV S k).2.1 ≤ (bod k).length ∧ (0 < (ofV S k).2.1 → (bod k)[((ofV S k).2.1 - 1).toNat]? = some (ofV S k).2.2) := by
  have h1 := inv_last h.inv k hk
  have h2 : ofL (nowL S.safe S.l) k = ofV S k := ofL_now S k
  rw [h2] at h1
  have h3 := (ofV_int S k).1
  refine ⟨h1.1, h3, ?_, fun h0 => h1.2.resolve_left (by omega)⟩
  rcases h1.2 with h | h
  · omega
  · have := (List.getElem?_eq_some_iff.1 h).1
    omega
theorem CI.same {S S' : DS} {told : Told} {bod : Bods} {i : Nat} (h : CI S told bod i) (hs : S'.safe = S.safe) (hl : S'.l = S.l) (hr : S'.room = S.room) (hok : DOk S' (i + 1) 29) : CI S' told bod (i + 1) := by
  have hn : S'.now = S.now := by unfold DS.now; rw [hs, hl]
  refine ⟨by rw [hs, hl]; exact h.inv, hok, hr.trans h.room, fun k hk => ?_, fun k hk => Nat.le_succ_of_le (h.lens k hk)⟩
  rw [of_now hn k]
  have := h.ver k hk
  omega
theorem CI.synced {S S' : DS} {told : Told} {bod : Bods} {i : Nat} (h : CI S told bod i) (hs : S'.safe = S.now) (hl : S'.l = []) (hr : S'.room = S.room) (hok : DOk S' (i + 1) 29) : CI S' told bod (i + 1) := by
  have hn : S'.now = S.now := by unfold DS.now; rw [hs, hl]; rfl
  refine ⟨by rw [hs, hl]; exact inv_last h.inv, hok, hr.trans h.room, fun k hk => ?_, fun k hk => Nat.le_succ_of_le (h.lens k hk)⟩
  rw [of_now hn k]
  have := h.ver k hk
  omega
theorem CI.told' {S : DS} {told told' : Told} {bod : Bods} {i : Nat} (h : CI S told bod i) (ht : ∀ k : Nat, k < 4 → told' k = if lenB S.l = 0 then (ofV S k).2.1 else told k) : CI S told' bod i := by
  refine ⟨?_, h.ok, h.room, h.ver, h.lens⟩
  by_cases h0 : lenB S.l = 0
  · have hl : S.l = [] := by
      cases hS : S.l with
      | nil => rfl
      | cons w l =>
        have := inv_len h.inv w (by rw [hS]; exact List.mem_cons_self)
        rw [hS, lenB_cons] at h0
        omega
    have hi := h.inv
    rw [hl] at hi ⊢
    refine inv_told hi fun k hk => ?_
    rw [ht k hk, if_pos h0]
    have e : S.now = S.safe := by unfold DS.now; rw [hl]; rfl
    rw [← e, ofL_now]
    exact Int.le_refl _
  · have e : ∀ k : Nat, k < 4 → told' k = told k := fun k hk => by rw [ht k hk, if_neg h0]
    have key : ∀ (l s : List (Int × Bs)), InvC told bod s l → InvC told' bod s l := by
      intro l
      induction l with
      | nil => exact fun s h k hk => by rw [e k hk]; exact h k hk
      | cons w l ih => exact fun s h => ⟨fun k hk => by rw [e k hk]; exact h.1 k hk, h.2.1, ih _ h.2.2⟩
    exact key _ _ h.inv
theorem DOk.spoil {S : DS} {N M : Nat} {k at_ : Int} {x : B8} (h : DOk S N M) (hk : In64 k) : DOk (spoilV S k at_ x).1 (N + 1) M := by
  unfold spoilV
  split
  · exact ((h.fail (n := 0) (by decide)).put hk (by rw [turnB_len]; exact get_size h k)).sync
  · exact h.mono (by omega) (Nat.le_refl _)
theorem DOk.does {S : DS} {N : Nat} {kind id nn : Int} {x : B8} {b : Bs} (h : DOk S N 29) (hb : b.length ≤ 20) : DOk (doV S kind id nn x b) (N + 1) 29 := by
  have h0 : DOk S (N + 1) 29 := h.mono (by omega) (Nat.le_refl _)
  unfold doV
  split
  · exact h.save (by omega)
  · split
    · exact h0.sync
    · split
      · exact h0.crash _
      · split
        · exact h0.fail (by have := arI_hi nn (m := 5) (by decide); omega)
        · split
          · exact h.spoil (by have := arI_lo nn (m := 8) (by decide); have := arI_hi nn (m := 8) (by decide); unfold In64; omega)
          · exact h0
theorem put_room' (S : DS) (k : Int) (b : Bs) : (S.put k b).1.room = S.room := by
  have h := (asked_same S).2.2
  unfold DS.put
  split
  · exact h
  · split <;> exact h
theorem sync_room' (S : DS) : S.sync.1.room = S.room := by
  have h := (asked_same S).2.2
  unfold DS.sync
  split <;> exact h
theorem fail_room' (S : DS) (n : Int) : (S.fail n).room = S.room := by unfold DS.fail; split <;> rfl
theorem fail_same (S : DS) (n : Int) : (S.fail n).safe = S.safe ∧ (S.fail n).l = S.l := by unfold DS.fail; split <;> exact ⟨rfl, rfl⟩
theorem CI.sync {S : DS} {told : Told} {bod : Bods} {i : Nat} (h : CI S told bod i) : CI S.sync.1 told bod (i + 1) := by
  obtain ⟨e1, e2, e3⟩ := asked_same S
  have hok := (h.ok.mono (Nat.le_succ i) (Nat.le_refl 29)).sync
  unfold DS.sync at hok ⊢
  split
  · rename_i ha
    rw [if_pos ha] at hok
    exact h.same e1 e2 e3 hok
  · rename_i ha
    rw [if_neg ha] at hok
    exact h.synced rfl rfl e3 hok
theorem CI.crash {S : DS} {told : Told} {bod : Bods} {i : Nat} (h : CI S told bod i) (n : Int) : CI (S.crash n).1 told bod (i + 1) := by
  obtain ⟨h1, h2⟩ := inv_crash (n := keepB S n) h.ok.rise h.inv
  refine ⟨h1, (h.ok.mono (Nat.le_succ i) (Nat.le_refl 29)).crash n, h.room, fun k hk => ?_, fun k hk => Nat.le_succ_of_le (h.lens k hk)⟩
  have h3 := h2 k
  have h4 : ofL (nowL S.safe S.l) k = ofV S k := ofL_now S k
  have h5 := h.ver k hk
  have h6 : ofV (S.crash n).1 k = ofL (crashL S.safe S.l (keepB S n)) k := (ofL_now (S.crash n).1 k).symm
  rw [h6]
  rw [h4] at h3
  omega
/-- A save: what was under way stands, or one more record is. -/
theorem CI.save {S : DS} {told : Told} {bod : Bods} {i : Nat} (h : CI S told bod i) (hi : i < 40) {m : Nat} (hm : m < 4) {b : Bs} (hb : b.length ≤ 20) :
    ((ofV (saveV S m b).1 m).2.1 = (ofV S m).2.1 ∧ CI (saveV S m b).1 told bod (i + 1)) ∨
    ((ofV (saveV S m b).1 m).2.1 = (ofV S m).2.1 + 1 ∧ CI (saveV S m b).1 told (bodN bod m (ofV S m).2.1 b) (i + 1)) := by
  have hid : mayId (m : Int) = true := by unfold mayId; simp; omega
  have hv := h.ver m hm
  have hv0 := (ofV_int S m).1
  have hok := h.ok.save (id := (m : Int)) (b := b) (by omega)
  obtain ⟨e1, e2, e3⟩ := asked_same S
  rw [save_is hid (by omega) (by omega)] at hok ⊢
  have hrn := h.ok.now.1
  have hnow : nowL S.safe S.l = S.now := rfl
  have ho := fun k => ofL_now S k
  have hto : toV (mkS S.now) m = toV S m := by unfold toV; rw [← ho m]; rfl
  have hnb : newB (mkS S.now) m b = newB S m b := by unfold newB; rw [← ho m]; rfl
  obtain ⟨s1, s2⟩ := step_of (s := S.now) (m := m) hrn hb (by rw [ho]; omega)
  rw [hto, hnb, ho] at s1
  rw [hto, hnb] at s2
  have hg := h.good m hm
  -- one more under way
  have hin : InvC told (bodN bod m (ofV S m).2.1 b) S.safe (S.l ++ [(toV S m, newB S m b)]) := by
    have hag : InvC told (bodN bod m (ofV S m).2.1 b) S.safe S.l := by
      refine inv_agree h.ok.rise h.inv fun k hk j hj => ?_
      rw [hnow, ho] at hj
      unfold bodN
      split
      · rename_i e
        subst e
        have := hg.2.2.1
        rw [List.getElem?_append_left (by rw [List.length_take]; omega), List.getElem?_take_of_lt (by omega)]
      · rfl
    have hla := inv_last hag
    rw [hnow] at hla
    refine inv_snoc hag ⟨m, b, hm, hb, by rw [hnow, ho]; omega, by rw [hnow, hto, hnb]⟩ fun k hk => ?_
    rw [hnow]
    by_cases e : k = m
    · subst e
      rw [s1]
      have h1 := hg.1
      refine ⟨by dsimp only; omega, .inr ?_⟩
      dsimp only
      unfold bodN
      rw [if_pos rfl, List.getElem?_append_right (by rw [List.length_take]; omega), List.length_take, show (((ofV S k).2.1 + 1 - 1).toNat - min (ofV S k).2.1.toNat (bod k).length) = 0 by have := hg.2.2.1; omega]
      rfl
    · rw [s2 k (by omega)]
      exact hla k hk
  have hput : ∀ S', S'.now = putL S.now (toV S m, newB S m b) → (ofV S' m).2.1 = (ofV S m).2.1 + 1 ∧ ∀ k : Nat, k < 4 → (ofV S' k).2.1 ≤ ((i + 1 : Nat) : Int) := fun S' hn => by
    have h1 : ∀ k, ofV S' k = ofL (putL S.now (toV S m, newB S m b)) k := fun k => by rw [← hn, ofL_now]
    refine ⟨by rw [h1, s1], fun k hk => ?_⟩
    rw [h1]
    by_cases e : k = m
    · subst e; rw [s1]; dsimp only; omega
    · rw [s2 k (by omega), ho]; have := h.ver k hk; omega
  have hlens : ∀ k : Nat, k < 4 → (bodN bod m (ofV S m).2.1 b k).length ≤ i + 1 := fun k hk => by
    unfold bodN
    split
    · rw [List.length_append, List.length_take, List.length_singleton]; omega
    · exact Nat.le_succ_of_le (h.lens k hk)
  generalize hP : S.put (toV S m) (newB S m b) = P at *
  obtain ⟨P1, e⟩ := P
  unfold DS.put at hP
  split at hP
  · obtain ⟨rfl, rfl⟩ := Prod.mk.inj hP
    rw [if_neg (show ¬ ((9 : Int) = 0) by decide)] at hok ⊢
    exact .inl ⟨by rw [of_now (S := S) (by unfold DS.now; rw [e1, e2])], h.same e1 e2 e3 hok⟩
  · split at hP
    · obtain ⟨rfl, rfl⟩ := Prod.mk.inj hP
      rw [if_pos rfl] at hok ⊢
      refine .inr ?_
      have hn1 : DS.now { S.asked.1 with l := S.l ++ [(toV S m, newB S m b)] } = putL S.now (toV S m, newB S m b) := by
        unfold DS.now
        dsimp only
        rw [e1]
        exact nowL_snoc _ _ _
      obtain ⟨a1, a2, a3⟩ := asked_same { S.asked.1 with l := S.l ++ [(toV S m, newB S m b)] }
      unfold DS.sync at hok ⊢
      split
      · rename_i ha
        rw [if_pos ha] at hok
        have hn2 : DS.now (DS.asked { S.asked.1 with l := S.l ++ [(toV S m, newB S m b)] }).1 = putL S.now (toV S m, newB S m b) := by rw [← hn1]; unfold DS.now; rw [a1, a2]
        obtain ⟨q1, q2⟩ := hput _ hn2
        refine ⟨q1, ⟨?_, hok, a3.trans (e3.trans h.room), q2, hlens⟩⟩
        rw [a1, a2]
        dsimp only
        rw [e1]
        exact hin
      · rename_i ha
        rw [if_neg ha] at hok
        obtain ⟨q1, q2⟩ := hput { (DS.asked { S.asked.1 with l := S.l ++ [(toV S m, newB S m b)] }).1 with safe := DS.now { S.asked.1 with l := S.l ++ [(toV S m, newB S m b)] }, l := [] } hn1
        refine ⟨q1, ⟨?_, hok, a3.trans (e3.trans h.room), q2, hlens⟩⟩
        show GoodC _ _ _
        dsimp only
        rw [hn1]
        have := inv_last hin
        rw [nowL_snoc, hnow] at this
        exact this
    · obtain ⟨rfl, rfl⟩ := Prod.mk.inj hP
      rw [if_neg (show ¬ ((8 : Int) = 0) by decide)] at hok ⊢
      exact .inl ⟨by rw [of_now (S := S) (by unfold DS.now; rw [e1, e2])], h.same e1 e2 e3 hok⟩
/-- Any deed but a spoiling. -/
theorem CI.does {S : DS} {told : Told} {bod : Bods} {i : Nat} (h : CI S told bod i) (hi : i < 40) {kind id nn : Int} {x : B8} {m : Nat} (hm : arI id 4 = m) (hm4 : m < 4) (hk4 : kind ≠ 4) {b : Bs} (hb : b.length ≤ 20) :
    (¬ (kind = 0 ∧ (ofV S m).2.1 < (ofV (doV S kind id nn x b) m).2.1) ∧ CI (doV S kind id nn x b) told bod (i + 1)) ∨
    ((kind = 0 ∧ (ofV (doV S kind id nn x b) m).2.1 = (ofV S m).2.1 + 1) ∧ CI (doV S kind id nn x b) told (bodN bod m (ofV S m).2.1 b) (i + 1)) := by
  have hok := h.ok.does (kind := kind) (id := id) (nn := nn) (x := x) hb
  by_cases k0 : kind = 0
  · have e : doV S kind id nn x b = (saveV S m b).1 := by unfold doV; rw [if_pos k0, hm]
    rw [e]
    rcases h.save hi hm4 hb with ⟨h1, h2⟩ | ⟨h1, h2⟩
    · exact .inl ⟨fun h => by omega, h2⟩
    · exact .inr ⟨⟨k0, h1⟩, h2⟩
  · refine .inl ⟨fun h => k0 h.1, ?_⟩
    unfold doV at hok ⊢
    rw [if_neg k0] at hok ⊢
    split
    · exact h.sync
    · split
      · exact h.crash _
      · split
        · rename_i k1 k2 k3
          rw [if_neg k1, if_neg k2, if_pos k3] at hok
          exact h.same (fail_same S _).1 (fail_same S _).2 (fail_room' S _) hok
        · exact h.same rfl rfl rfl (h.ok.mono (Nat.le_succ i) (Nat.le_refl 29))
theorem ci_zero : CI (newS 100000) (fun _ => 0) (fun _ => []) 0 := by
  have e : ∀ k, ofL (newS 100000).safe k = (2 * k + 1, 0, []) := fun k => of_empty rfl k
  refine ⟨fun k _ => ?_, (newS_ok 100000).mono (Nat.le_refl _) (by decide), by unfold newS mnI mxI; decide, fun k _ => ?_, fun _ _ => Nat.le_refl _⟩
  · rw [e]; exact ⟨Int.le_refl _, .inl rfl⟩
  · rw [of_empty rfl]; exact Int.le_refl _
end Go.Proofs.Ytkopenemoddbbaa

/- Four rows of bytes, side by side; cells of four. -/
namespace Go.Proofs.Ytkopenemoddbbaa
open Go.RowKit Go.Maps
attribute [local go_sem] Oper.semAt_some

def c4 (f : Nat → Value) : Array Value := #[f 0, f 1, f 2, f 3]
theorem c4_at {w : World} {g : Nat} {t : TypeId} {f : Nat → Value} (h : Blk w g t (c4 f)) {k : Nat} (hk : k < 4) : w.cell? ⟨g, k, none⟩ = some (f k) := by
  rw [h.cell]
  match k, hk with
  | 0, _ => rfl
  | 1, _ => rfl
  | 2, _ => rfl
  | 3, _ => rfl
theorem c4_set {f : Nat → Value} {k : Nat} (hk : k < 4) (u : Value) : (c4 f).setIfInBounds k u = c4 (fun j => if j = k then u else f j) := by
  match k, hk with
  | 0, _ => rfl
  | 1, _ => rfl
  | 2, _ => rfl
  | 3, _ => rfl
abbrev encS (s : SL) : List Value := [slV s]
theorem lenS (s : SL) : (encS s).length = 1 := rfl
theorem infS : (Try.prog.info? 22).map (fun i => (i.zero, i.size, i.bytes)) = some (some (.slice none 0 0), 1, 24) := by kernel_rfl
theorem Owns.cut1 {w : World} {base : Nat} {e : TypeId} {α : Type} {enc : α → List Value} {q : Option Addr} {n c k : Nat} {xs : List α} (hl : ∀ x, (enc x).length = 1) (h : Owns w base e 1 enc (.slice q n c) xs) (hk : k ≤ xs.length) : Owns w base e 1 enc (.slice q k c) (xs.take k) := by
  have hfl : ∀ ys : List α, (ys.flatMap enc).length = ys.length := fun ys => by
    induction ys with
    | nil => rfl
    | cons y ys ih => rw [List.flatMap_cons, List.length_append, hl, ih, List.length_cons]; omega
  have htk : ∀ (ys : List α) (k : Nat), (ys.take k).flatMap enc = (ys.flatMap enc).take k := fun ys => by
    induction ys with
    | nil => intro k; simp
    | cons y ys ih =>
      intro k
      cases k with
      | zero => simp
      | succ k =>
        rw [List.take_succ_cons, List.flatMap_cons, List.flatMap_cons, ih, List.take_append, hl y, Nat.add_sub_cancel, List.take_of_length_le (l := enc y) (by rw [hl]; omega)]
  have hlt : (xs.take k).length = k := by rw [List.length_take]; omega
  refine ⟨by rw [hfl, Nat.mul_one], ?_⟩
  rcases h.2 with ⟨h1, h0⟩ | ⟨g, cap, cur, hv', hb, hg, hc, hm, hs, ht⟩
  · obtain ⟨rfl, -, rfl⟩ := Value.slice.inj h1
    exact .inl ⟨by congr 1; omega, by omega⟩
  · obtain ⟨rfl, e2, rfl⟩ := Value.slice.inj hv'
    rw [hlt, htk, ← ht, List.take_take]
    exact .inr ⟨g, _, cur, rfl, hb, hg, by omega, hm, hs, by congr 1; omega⟩
structure Rows4 (w : World) (base : Nat) (Rw : Nat → SL) (bod : Bods) : Prop where
  own : ∀ k, k < 4 → ∃ El : List SL, Owns w base 22 1 encS (slV (Rw k)) El ∧ (∀ s ∈ El, GoodS w base s) ∧ El.map (rdB w) = bod k
  apart : ∀ j k, j < 4 → k < 4 → j ≠ k → ∀ g, (slV (Rw j)).ownBlock = some g → (slV (Rw k)).ownBlock ≠ some g
theorem Rows4.zero (w : World) (base : Nat) : Rows4 w base (fun _ => (none, 0, 0)) (fun _ => []) := ⟨fun _ _ => ⟨[], Owns.nil, fun _ h => (by cases h), rfl⟩, fun _ _ _ _ _ g h => by cases h⟩
theorem Rows4.keep {w w' : World} {base : Nat} {Rw : Nat → SL} {bod : Bods} (h : Rows4 w base Rw bod) (hb : ∀ g cs, Blk w g 22 cs → Blk w' g 22 cs) (hg : ∀ sl : SL, GoodS w base sl → GoodS w' base sl ∧ rdB w' sl = rdB w sl) : Rows4 w' base Rw bod := by
  refine ⟨fun k hk => ?_, h.apart⟩
  obtain ⟨El, h1, h2, h3⟩ := h.own k hk
  refine ⟨El, ⟨h1.1, ?_⟩, fun s hs => (hg s (h2 s hs)).1, ?_⟩
  · rcases h1.2 with h0 | ⟨g, cap, cur, hv, hbg, hgg, r⟩
    · exact .inl h0
    · exact .inr ⟨g, cap, cur, hv, hbg, hb g cur hgg, r⟩
  · rw [← h3]
    exact List.map_congr_left fun s hs => (hg s (h2 s hs)).2
theorem Rows4.len {w : World} {base : Nat} {Rw : Nat → SL} {bod : Bods} (h : Rows4 w base Rw bod) {k : Nat} (hk : k < 4) : ∃ q c, Rw k = (q, (bod k).length, c) ∧ (bod k).length ≤ c ∧ c ≤ maxLen := by
  obtain ⟨El, h1, h2, h3⟩ := h.own k hk
  have hl : El.length = (bod k).length := by rw [← h3, List.length_map]
  obtain ⟨q, c, hv, hc, hm, -⟩ := h1.form lenS
  obtain ⟨⟨q', n', c'⟩, hR⟩ : ∃ x, Rw k = x := ⟨_, rfl⟩
  rw [hR] at hv
  obtain ⟨e1, e2, e3⟩ := Value.slice.inj hv
  replace e2 : n' = El.length := e2
  replace e3 : c' = c := e3
  exact ⟨q', c', by rw [hR, ← hl, ← e2], by omega, by omega⟩
theorem Rows4.at {w : World} {base : Nat} {Rw : Nat → SL} {bod : Bods} (h : Rows4 w base Rw bod) {k i : Nat} {b : Bs} (hk : k < 4) (hi : (bod k)[i]? = some b) : ∃ g, (Rw k).1 = some ⟨g, 0, none⟩ ∧ ∃ s : SL, w.cell? ⟨g, i, none⟩ = some (slV s) ∧ GoodS w base s ∧ rdB w s = b := by
  obtain ⟨El, h1, h2, h3⟩ := h.own k hk
  obtain ⟨q, c, hv, hc, hm, hrd, -, hz⟩ := h1.form lenS
  rw [← h3, List.getElem?_map] at hi
  cases he : El[i]? with
  | none => rw [he] at hi; cases hi
  | some s =>
    rw [he] at hi
    obtain rfl : rdB w s = b := by simpa using hi
    have hlt := (List.getElem?_eq_some_iff.1 he).1
    obtain ⟨g, rfl⟩ := hz (by omega)
    have h4 := hrd.at he (j := 0) (u := slV s) rfl
    rw [Nat.mul_one, Nat.zero_add, Nat.add_zero] at h4
    obtain ⟨⟨q', n', c'⟩, hR⟩ : ∃ x, Rw k = x := ⟨_, rfl⟩
    rw [hR] at hv
    obtain ⟨e1, -, -⟩ := Value.slice.inj hv
    exact ⟨g, by rw [hR]; exact e1, s, h4, h2 s (List.mem_of_getElem? he), rfl⟩
/-- One more behind so many of one row. -/
theorem Rows4.push {w : World} {base : Nat} {Rw : Nat → SL} {bod : Bods} (h : Rows4 w base Rw bod) {m : Nat} (hm : m < 4) {v : Int} (hv : v.toNat ≤ (bod m).length) (hlen : (bod m).length ≤ 1000) {sl : SL} (hs : GoodS w base sl) {b : Nat} (hb : w.cell? ⟨b, 0, none⟩ = some (slV sl)) (hbase : base ≤ w.heap.size) :
    ∃ R' w', (Builtin.append_ #[31, 31] 31 #[.slice (Rw m).1 v.toNat (Rw m).2.2, .slice (some ⟨b, 0, none⟩) 1 1]).run Try.prog w = .ok (slV R') w' ∧ Rows4 w' base (fun k => if k = m then R' else Rw k) (bodN bod m v (rdB w sl)) ∧ Kept (fun g => (slV (Rw m)).ownBlock ≠ some g) w w' := by
  obtain ⟨El, h1, h2, h3⟩ := h.own m hm
  have hEl : El.length = (bod m).length := by rw [← h3, List.length_map]
  obtain ⟨⟨q, n, c⟩, hR⟩ : ∃ x, Rw m = x := ⟨_, rfl⟩
  rw [hR] at h1
  have hcut := Owns.cut1 (k := v.toNat) lenS h1 (by omega)
  obtain ⟨v', w', hrun, O5, hgr, hloc, g9, c9, rfl⟩ := push_at (P := Try.prog) (ts := 31) (ty := 31) (x := sl) (b := b) Try.underlying31 infS rfl (by decide) (by decide) rfl (by simp [Value.oneCell', slV]) hcut
    (fun j u hu => by
      match j, hu with
      | 0, hu => simp at hu; subst hu; exact hb) (by rw [List.length_take]; omega) hbase
  have hk : Kept (fun g => (slV (q, n, c)).ownBlock ≠ some g) w w' := (Kept.refl _ w).grown hgr fun k e hne => hne (by rw [← e]; cases q <;> rfl)
  have hown : ∀ g, (slV (q, n, c)).ownBlock = some g → base ≤ g ∧ ∃ cur, Blk w g 22 cur := fun g hg => own_blk h1 hg
  have hgood : ∀ s : SL, GoodS w base s → GoodS w' base s ∧ rdB w' s = rdB w s := fun s hs => hs.kept hk fun x hx e => by
    obtain ⟨hl, cur, hc⟩ := hown x e
    rcases hx with hx | ⟨cur', hx⟩
    · omega
    · have := blk_one hc hx
      revert this; decide
  rw [hR]
  refine ⟨(some ⟨g9, 0, none⟩, (El.take v.toNat).length + 1, c9), w', hrun, ⟨fun k hk4 => ?_, fun i j hi hj hij g hg => ?_⟩, hk⟩
  · by_cases e : k = m
    · subst e
      rw [if_pos rfl]
      refine ⟨El.take v.toNat ++ [sl], O5, fun s hs' => ?_, ?_⟩
      · rcases List.mem_append.1 hs' with hs' | hs'
        · exact (hgood s (h2 s (List.mem_of_mem_take hs'))).1
        · obtain rfl : s = sl := by simpa using hs'
          exact (hgood s hs).1
      · unfold bodN
        have hmp : El.map (rdB w') = El.map (rdB w) := List.map_congr_left fun s hs => (hgood s (h2 s hs)).2
        rw [if_pos rfl, List.map_append, List.map_take, List.map_singleton, (hgood sl hs).2, ← h3, hmp]
    · rw [if_neg e]
      obtain ⟨E2, o1, o2, o3⟩ := h.own k hk4
      refine ⟨E2, own_kept o1 hk fun g hg hm2 => h.apart k m hk4 hm e g hg (by rw [hR]; exact hm2), fun s hs => (hgood s (o2 s hs)).1, ?_⟩
      unfold bodN
      rw [if_neg e, ← o3]
      exact List.map_congr_left fun s hs => (hgood s (o2 s hs)).2
  · -- blocks stay apart
    have hnew : ∀ k, k < 4 → k ≠ m → (slV (Rw k)).ownBlock ≠ some g9 := fun k hk4 hkm e => by
      obtain ⟨E2, o1, -, -⟩ := h.own k hk4
      rcases hloc with hl | hl
      · have e9 : (slV (q, n, c)).ownBlock = some g9 := by
          have : (Value.slice (some ⟨g9, 0, none⟩) ((El.take v.toNat).length + 1) c9).ownBlock = some g9 := rfl
          rw [← this, hl]
          cases q <;> rfl
        exact h.apart k m hk4 hm hkm g9 e (by rw [hR]; exact e9)
      · have e9 : g9 = w.heap.size := by
          have : (Value.slice (some ⟨g9, 0, none⟩) ((El.take v.toNat).length + 1) c9).ownBlock = some g9 := rfl
          rw [this] at hl
          exact Option.some.inj hl
        obtain ⟨-, cur, hB⟩ := own_blk o1 e
        have := hB.lt
        omega
    by_cases ei : i = m
    · rw [if_pos ei] at hg
      have hgg : g9 = g := Option.some.inj hg
      subst hgg
      rw [if_neg (fun e => hij (ei.trans e.symm))]
      exact hnew j hj (fun e => hij (ei.trans e.symm))
    · rw [if_neg ei] at hg
      by_cases ej : j = m
      · rw [if_pos ej]
        intro e
        have hgg : g9 = g := Option.some.inj e
        subst hgg
        exact hnew i hi ei hg
      · rw [if_neg ej]
        exact h.apart i j hi hj hij g hg
end Go.Proofs.Ytkopenemoddbbaa
