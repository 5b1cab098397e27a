/- The document's disk: all is made safe; what is under way is lost, but the first bytes. -/
import Derived.Test.YtlmjggbpophnfaaDRef4
import Derived.Test.YtlmjggbpophnfaaDisk6
namespace Go.Proofs.Ytlmjggbpophnfaa
open Go.RowKit Go.Maps
attribute [local go_sem] Oper.semAt_some

set_option maxRecDepth 100000 in
set_option maxHeartbeats 8000000 in
theorem rsync_c (base : Nat) (a b : SL) (S : DS) (sl ll : List (Int × SL)) (N : Nat) (w : World) (h : RefAt w base a b S sl ll) (hok : DOk S N 1000000) (hN : N ≤ 100000) (hbase : base ≤ w.heap.size) :
    Calls Try.prog 29 #[.agg (dv S a b)] w fun r w' => PutR base S.sync.1 S.sync.2 r w w' := by
  have HAS := Lib.hid fun w => rasked_c S a b hok.waits hok.fails w
  obtain ⟨e1, e2, e3⟩ := asked_same S
  have hok1 := hok.asked
  have hR1 : RefAt w base a b S.asked.1 sl ll := h.same e1 e2
  have hnow : S.asked.1.now = S.now := by unfold DS.now; rw [e1, e2]
  obtain ⟨W0, hW⟩ : ∃ W0, W0 = (w.alloc (.cells (dv S a b) 42)).alloc (.cells #[.int .i64 0, .int .i64 0, .int .i64 0, .slice none 0 0, .slice none 0 0] 42) := ⟨_, rfl⟩
  have hb0 : Below w.heap.size w W0 := by rw [hW]; go_grown
  have X0 : Blk W0 w.heap.size 42 (dv S a b) := by rw [hW]; exact (Blk.new' rfl).alloc _
  have Y0 : Blk W0 (w.heap.size + 1) 42 #[.int .i64 0, .int .i64 0, .int .i64 0, .slice none 0 0, .slice none 0 0] := by rw [hW]; exact Blk.new' (by simp)
  have HB0 := Lib.hid hb0
  have HR := Lib.hid hR1
  obtain ⟨aq, an, ac⟩ := a
  obtain ⟨q, n, c⟩ := b
  obtain rfl : n = ll.length := h.rb.len
  clear h hb0 hR1
  simp only [dv, slV] at hW X0 HAS ⊢
  obtain ⟨gx, hgq⟩ : ∃ gx, gx = w.heap.size := ⟨_, rfl⟩
  rw [← hgq] at X0 Y0
  have HGQ := Lib.hid hgq
  generalize hS1 : S.asked.1 = S1 at *
  obtain ⟨fl, hfl⟩ : ∃ fl, S.asked.2 = fl := ⟨_, rfl⟩
  rw [hfl] at HAS
  go_enter Try.func29, Try.ntmps29
  go_upto_region 1 with (fail)
  rw [← hW, ← hgq]
  clear hW hgq
  obtain ⟨⟨x0, x1, x2, x3, x4⟩, -⟩ := X0.c5
  go_upto_region 2 with (go_at_call 38; refine (HAS.out _).mono ?_; rintro e_ w1 ⟨rfl, h1⟩; clear x0 x1 x2 x3 x4; replace X0 := X0.on h1; obtain ⟨⟨x0, x1, x2, x3, x4⟩, f0, f1, f2, f3, f4⟩ := X0.c5)
  generalize hV : World.setCell (World.setCell (World.setCell (World.setCell (World.setCell w1 _ _) _ _) _ _) _ _) _ _ = w2
  have X2 : Blk w2 gx 42 #[.int .i64 S.room, .int .i64 S1.fails, .int .i64 S1.waits, .slice aq an ac, .slice q ll.length c] := Blk.eqw hV (X0.st5 _ _ _ _ _)
  have Y2 : Blk w2 (gx + 1) 42 #[.int .i64 0, .int .i64 0, .int .i64 0, .slice none 0 0, .slice none 0 0] := Blk.eqw hV ((kept5 _ _ _ _ _).blk (by omega) (Y0.on h1))
  have H2 : Below w.heap.size w w2 := by
    rw [← hV, HGQ.out]
    exact (after HB0.out h1).trans ((kept5 _ _ _ _ _).below (n := w.heap.size) (by have := HB0.out.size; have := h1.size; omega) (fun b hb e => by omega))
  clear hV x0 x1 x2 x3 x4 f0 f1 f2 f3 f4 X0 Y0 h1
  have HH2 := Lib.hid H2
  have HRW := Lib.hid (HR.out.on H2)
  clear H2
  cases fl with
  | true =>
    have hput : S.sync = (S1, 9) := by unfold DS.sync; rw [hfl, hS1]; rfl
    have HPU := Lib.hid hput
    clear hput
    obtain ⟨⟨x0, x1, x2, x3, x4⟩, -⟩ := X2.c5
    obtain ⟨⟨y0, y1, y2, y3, y4⟩, f0, f1, f2, f3, f4⟩ := Y2.c5
    go_wp2_with fail
    obtain ⟨⟨d0, d1, d2, d3, d4⟩, -⟩ := (Y2.st5 (.int .i64 S.room) (.int .i64 S1.fails) (.int .i64 S1.waits) (.slice aq an ac) (.slice q ll.length c)).c5
    have hk7 := kept5 (w := w2) (g := gx + 1) (.int .i64 S.room) (.int .i64 S1.fails) (.int .i64 S1.waits) (.slice aq an ac) (.slice q ll.length c)
    have hfin := HH2.out.trans (hk7.below (n := w.heap.size) HH2.out.size (fun b hb e => by have := HGQ.out; omega))
    refine bodyPost_ret (v := .tuple #[.agg #[.int .i64 S.room, .int .i64 S1.fails, .int .i64 S1.waits, .slice aq an ac, .slice q ll.length c], .int .i64 9]) (by simp [results, Try.f29, go_sem, d0, d1, d2, d3, d4]) rfl ?_
    rw [HPU.out]
    exact ⟨_, rfl, ⟨(aq, an, ac), (q, ll.length, c), sl, ll, by rw [← e3]; rfl, HR.out.on hfin⟩, hfin⟩
  | false =>
    have hput : S.sync = ({ S1 with safe := S.now, l := [] }, 0) := by unfold DS.sync; rw [hfl, hS1]; rfl
    have HPU := Lib.hid hput
    clear hput
    obtain ⟨hr, hcnt, hg, hc, hrn, hlens⟩ := HRW.out.facts hok1
    rw [hnow] at hc
    have HNW := Lib.hid (rnow_c base (aq, an, ac) (q, ll.length, c) S1 sl ll N w2 HRW.out hok1 hN)
    have hde : dv S1 (aq, an, ac) (q, ll.length, c) = #[.int .i64 S.room, .int .i64 S1.fails, .int .i64 S1.waits, .slice aq an ac, .slice q ll.length c] := by rw [← e3]; rfl
    rw [hde] at HNW
    have HG := Lib.hid (And.intro hg hc)
    clear hg hc hr hcnt hrn hlens hde
    obtain ⟨⟨x0, x1, x2, x3, x4⟩, -⟩ := X2.c5
    go_upto_region 6 with (go_at_call 33; refine HNW.out.mono ?_; rintro e_ w3 ⟨⟨vq, vn, vc⟩, rfl, hRV, h3⟩; simp only [slV]; clear x0 x1 x2 x3 x4; replace X2 := X2.on h3; replace Y2 := Y2.on h3; obtain ⟨⟨x0, x1, x2, x3, x4⟩, f0, f1, f2, f3, f4⟩ := X2.c5)
    have hbg : gx < w3.heap.size := X2.lt
    have X4 := (X2.set_ 3 (.slice vq vn vc)).set_ 4 (.slice none 0 0)
    have Y4 := (Y2.far (p := ⟨gx, 3, none⟩) (show gx + 1 ≠ gx by omega) (.slice vq vn vc)).far (p := ⟨gx, 4, none⟩) (show gx + 1 ≠ gx by omega) (.slice none 0 0)
    have H4 : Below w.heap.size w ((w3.setCell ⟨gx, 3, none⟩ (.slice vq vn vc)).setCell ⟨gx, 4, none⟩ (.slice none 0 0)) := ((after HH2.out h3).setCell (p := ⟨gx, 3, none⟩) (by rw [HGQ.out]; exact Nat.le_refl _) _).setCell (p := ⟨gx, 4, none⟩) (by rw [HGQ.out]; exact Nat.le_refl _) _
    have K4 : Kept (fun b => b ≠ gx) w3 ((w3.setCell ⟨gx, 3, none⟩ (.slice vq vn vc)).setCell ⟨gx, 4, none⟩ (.slice none 0 0)) := ((Kept.refl _ _).setCell (by simp) _).setCell (by simp) _
    obtain ⟨g1, g2⟩ := HG.out.1.on h3
    have hby : ∀ b, ByteBlk w3 base b → b ≠ gx := fun b hB e => by
      subst e
      rcases hB with hB | ⟨cur, hB⟩
      · have := HGQ.out; omega
      · have := blk_one hB X2; revert this; decide
    obtain ⟨g3, g4⟩ := g1.kept K4 hby
    have hRA : RefAt ((w3.setCell ⟨gx, 3, none⟩ (.slice vq vn vc)).setCell ⟨gx, 4, none⟩ (.slice none 0 0)) base (vq, vn, vc) (none, 0, 0) { S1 with safe := S.now, l := [] } (nowL sl ll) [] :=
      ⟨hRV.kept fun g cur hB => K4.blk (fun e => by subst e; have := blk_one hB X2; revert this; decide) hB, RowR.nil, g3, fun p hp => (by cases hp), by rw [g4, g2]; exact HG.out.2.symm, rfl⟩
    generalize World.setCell (World.setCell w3 _ _) _ _ = w4 at X4 Y4 H4 hRA ⊢
    have HRA := Lib.hid (And.intro hRA H4)
    clear K4 g1 g2 g3 g4 hby hRV hRA H4 X2 Y2 h3 x0 x1 x2 x3 x4 f0 f1 f2 f3 f4
    obtain ⟨⟨x0, x1, x2, x3, x4⟩, -⟩ := X4.c5
    obtain ⟨⟨y0, y1, y2, y3, y4⟩, f0, f1, f2, f3, f4⟩ := Y4.c5
    go_wp2_with fail
    obtain ⟨⟨d0, d1, d2, d3, d4⟩, -⟩ := (Y4.st5 (.int .i64 S.room) (.int .i64 S1.fails) (.int .i64 S1.waits) (.slice vq vn vc) (.slice none 0 0)).c5
    have hk7 := kept5 (w := w4) (g := gx + 1) (.int .i64 S.room) (.int .i64 S1.fails) (.int .i64 S1.waits) (.slice vq vn vc) (.slice none 0 0)
    have hfin := HRA.out.2.trans (hk7.below (n := w.heap.size) HRA.out.2.size (fun b hb e => by have := HGQ.out; omega))
    refine bodyPost_ret (v := .tuple #[.agg #[.int .i64 S.room, .int .i64 S1.fails, .int .i64 S1.waits, .slice vq vn vc, .slice none 0 0], .int .i64 0]) (by simp [results, Try.f29, go_sem, d0, d1, d2, d3, d4]) rfl ?_
    rw [HPU.out]
    exact ⟨_, rfl, ⟨(vq, vn, vc), (none, 0, 0), nowL sl ll, [], by simp only [dv, slV]; rw [← e3], HRA.out.1.off hk7 Y4 (by decide) (by have := HGQ.out; omega)⟩, hfin⟩
end Go.Proofs.Ytlmjggbpophnfaa
