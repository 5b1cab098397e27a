/- The document's disk: what is put. -/
import Derived.Test.YtlmjggbpophnfaaDRef3
namespace Go.Proofs.Ytlmjggbpophnfaa
open Go.RowKit Go.Maps
attribute [local go_sem] Oper.semAt_some

def RefIs (w : World) (base : Nat) (v : Value) (S : DS) : Prop := ∃ a b sl ll, v = .agg (dv S a b) ∧ RefAt w base a b S sl ll
/-- What a call that turns the document's disk hands back. -/
def PutR (base : Nat) (S : DS) (e : Int) (r : Ending) (w w' : World) : Prop := ∃ v, r = .returned (.tuple #[v, .int .i64 e]) ∧ RefIs w' base v S ∧ Below w.heap.size w w'
def RowV (l : List (Int × SL)) (v : Value) (w : World) : Prop := ∃ a' : SL, v = slV a' ∧ RowR w a' l
theorem RowV.on {l : List (Int × SL)} {v : Value} {w w' : World} (h : RowV l v w) (hb : Below w.heap.size w w') : RowV l v w' := by
  obtain ⟨a', e, h1⟩ := h
  exact ⟨a', e, h1.on hb⟩
theorem RowR.rd {w : World} {a : SL} {l : List (Int × SL)} (h : RowR w a l) : Rd w a.1 2 encW l := fun hn => by
  obtain ⟨g, cur, hq, -, hr⟩ := h.lies hn
  refine ⟨g, 0, hq, fun i x hx j u hu => ?_⟩
  obtain ⟨r0, r1⟩ := hr i x hx
  rw [Nat.zero_add]
  match j, hu with
  | 0, hu => simp at hu; subst hu; exact r0
  | 1, hu => simp at hu; subst hu; exact r1
theorem Blk.st5 {w : World} {g : Nat} {t : TypeId} {x y z p q : Value} (h : Blk w g t #[x, y, z, p, q]) (a b c d e : Value) : Blk (((((w.setCell ⟨g, 0, none⟩ a).setCell ⟨g, 1, none⟩ b).setCell ⟨g, 2, none⟩ c).setCell ⟨g, 3, none⟩ d).setCell ⟨g, 4, none⟩ e) g t #[a, b, c, d, e] := ((((h.set_ 0 a).set_ 1 b).set_ 2 c).set_ 3 d).set_ 4 e
theorem Blk.c5 {w : World} {g : Nat} {t : TypeId} {x y z p q : Value} (h : Blk w g t #[x, y, z, p, q]) : (w.cell? ⟨g, 0, none⟩ = some x ∧ w.cell? ⟨g, 1, none⟩ = some y ∧ w.cell? ⟨g, 2, none⟩ = some z ∧ w.cell? ⟨g, 3, none⟩ = some p ∧ w.cell? ⟨g, 4, none⟩ = some q) ∧ w.frozen? ⟨g, 0, none⟩ = false ∧ w.frozen? ⟨g, 1, none⟩ = false ∧ w.frozen? ⟨g, 2, none⟩ = false ∧ w.frozen? ⟨g, 3, none⟩ = false ∧ w.frozen? ⟨g, 4, none⟩ = false :=
  ⟨⟨h.cell 0, h.cell 1, h.cell 2, h.cell 3, h.cell 4⟩, h.frz 0, h.frz 1, h.frz 2, h.frz 3, h.frz 4⟩
theorem kept5 {w : World} {g : Nat} (a b c d e : Value) : Kept (fun x => x ≠ g) w (((((w.setCell ⟨g, 0, none⟩ a).setCell ⟨g, 1, none⟩ b).setCell ⟨g, 2, none⟩ c).setCell ⟨g, 3, none⟩ d).setCell ⟨g, 4, none⟩ e) :=
  (((((Kept.refl _ _).setCell (by simp) _).setCell (by simp) _).setCell (by simp) _).setCell (by simp) _).setCell (by simp) _
/-- A store into a block of another kind. -/
theorem RefAt.off {w w' : World} {base g : Nat} {a b : SL} {S : DS} {sl ll : List (Int × SL)} {t : TypeId} {cs : Array Value} (h : RefAt w base a b S sl ll) (hk : Kept (fun x => x ≠ g) w w') (hB : Blk w g t cs) (ht : t ≠ 75 ∧ t ≠ 5) (hg : base ≤ g) : RefAt w' base a b S sl ll := by
  have hby : ∀ x, ByteBlk w base x → x ≠ g := fun x hx e => by
    subst e
    rcases hx with hx | ⟨cur, hx⟩
    · omega
    · exact ht.2 (blk_one hB hx)
  have hW : ∀ x cur, Blk w x 75 cur → Blk w' x 75 cur := fun x cur hx => hk.blk (fun e => by subst e; exact ht.1 (blk_one hB hx)) hx
  obtain ⟨g1, g2⟩ := h.ga.kept hk hby
  obtain ⟨g3, g4⟩ := h.gb.kept hk hby
  exact ⟨h.ra.kept hW, h.rb.kept hW, g1, g3, by rw [g2]; exact h.safe, by rw [g4]; exact h.l⟩
set_option maxRecDepth 100000 in
set_option maxHeartbeats 8000000 in
theorem rput_c (base : Nat) (a b : SL) (S : DS) (sl ll : List (Int × SL)) (N : Nat) (w : World) (h : RefAt w base a b S sl ll) (hok : DOk S N 1000000) (hN : N ≤ 100000) (k : Int) (s : SL) (hs : GoodS w base s) (hz : s.2.1 ≤ 1000000) (hbase : base ≤ w.heap.size) :
    Calls Try.prog 28 #[.agg (dv S a b), .int .i64 k, slV s] w fun r w' => PutR base (S.put k (rdB w s)).1 (S.put k (rdB w s)).2 r w w' := by
  have HAS := Lib.hid fun w => rasked_c S a b hok.waits hok.fails w
  obtain ⟨e1, e2, e3⟩ := asked_same S
  have hok1 := hok.asked
  have hR1 : RefAt w base a b S.asked.1 sl ll := h.same e1 e2
  have hnow : S.asked.1.now = S.now := by unfold DS.now; rw [e1, e2]
  have HS := Lib.hid (And.intro hs hz)
  generalize hbb : rdB w s = bb
  have HBB := Lib.hid hbb
  obtain ⟨W0, hW⟩ : ∃ W0, W0 = (w.alloc (.cells (dv S a b) 42)).alloc (.cells #[.int .i64 0, .int .i64 0, .int .i64 0, .slice none 0 0, .slice none 0 0] 42) := ⟨_, rfl⟩
  have hb0 : Below w.heap.size w W0 := by rw [hW]; go_grown
  have X0 : Blk W0 w.heap.size 42 (dv S a b) := by rw [hW]; exact (Blk.new' rfl).alloc _
  have Y0 : Blk W0 (w.heap.size + 1) 42 #[.int .i64 0, .int .i64 0, .int .i64 0, .slice none 0 0, .slice none 0 0] := by rw [hW]; exact Blk.new' (by simp)
  have HB0 := Lib.hid hb0
  have HR := Lib.hid hR1
  obtain ⟨aq, an, ac⟩ := a
  obtain ⟨q, n, c⟩ := b
  obtain rfl : n = ll.length := h.rb.len
  clear hbb hs hz h hb0 hR1
  obtain ⟨sq, sn, sc⟩ := s
  simp only [dv, slV] at hW X0 HAS ⊢
  obtain ⟨gx, hgq⟩ : ∃ gx, gx = w.heap.size := ⟨_, rfl⟩
  rw [← hgq] at X0 Y0
  have HGQ := Lib.hid hgq
  generalize hS1 : S.asked.1 = S1 at *
  obtain ⟨fl, hfl⟩ : ∃ fl, S.asked.2 = fl := ⟨_, rfl⟩
  rw [hfl] at HAS
  go_enter Try.func28, Try.ntmps28
  go_upto_region 1 with (fail)
  rw [← hW, ← hgq]
  clear hW hgq
  obtain ⟨⟨x0, x1, x2, x3, x4⟩, -⟩ := X0.c5
  go_upto_region 2 with (go_at_call 38; refine (HAS.out _).mono ?_; rintro e_ w1 ⟨rfl, h1⟩; clear x0 x1 x2 x3 x4; replace X0 := X0.on h1; obtain ⟨⟨x0, x1, x2, x3, x4⟩, f0, f1, f2, f3, f4⟩ := X0.c5)
  generalize hV : World.setCell (World.setCell (World.setCell (World.setCell (World.setCell w1 _ _) _ _) _ _) _ _) _ _ = w2
  have X2 : Blk w2 gx 42 #[.int .i64 S.room, .int .i64 S1.fails, .int .i64 S1.waits, .slice aq an ac, .slice q ll.length c] := Blk.eqw hV (X0.st5 _ _ _ _ _)
  have Y2 : Blk w2 (gx + 1) 42 #[.int .i64 0, .int .i64 0, .int .i64 0, .slice none 0 0, .slice none 0 0] := Blk.eqw hV ((kept5 _ _ _ _ _).blk (by omega) (Y0.on h1))
  have H2 : Below w.heap.size w w2 := by
    rw [← hV, HGQ.out]
    exact (after HB0.out h1).trans ((kept5 _ _ _ _ _).below (n := w.heap.size) (by have := HB0.out.size; have := h1.size; omega) (fun b hb e => by omega))
  clear hV x0 x1 x2 x3 x4 f0 f1 f2 f3 f4 X0 Y0 h1
  have HH2 := Lib.hid H2
  have HRW := Lib.hid (HR.out.on H2)
  clear H2
  cases fl with
  | true =>
    have hput : S.put k bb = (S1, 9) := by unfold DS.put; rw [hfl, hS1]; rfl
    have HPU := Lib.hid hput
    clear hput
    obtain ⟨⟨x0, x1, x2, x3, x4⟩, -⟩ := X2.c5
    obtain ⟨⟨y0, y1, y2, y3, y4⟩, f0, f1, f2, f3, f4⟩ := Y2.c5
    go_wp2_with fail
    obtain ⟨⟨d0, d1, d2, d3, d4⟩, -⟩ := (Y2.st5 (.int .i64 S.room) (.int .i64 S1.fails) (.int .i64 S1.waits) (.slice aq an ac) (.slice q ll.length c)).c5
    have hfin : Below w.heap.size w (((((w2.setCell ⟨gx + 1, 0, none⟩ (.int .i64 S.room)).setCell ⟨gx + 1, 1, none⟩ (.int .i64 S1.fails)).setCell ⟨gx + 1, 2, none⟩ (.int .i64 S1.waits)).setCell ⟨gx + 1, 3, none⟩ (.slice aq an ac)).setCell ⟨gx + 1, 4, none⟩ (.slice q ll.length c)) := by
      rw [HGQ.out]
      exact HH2.out.trans ((kept5 _ _ _ _ _).below (n := w.heap.size) HH2.out.size (fun b hb e => by omega))
    refine bodyPost_ret (v := .tuple #[.agg #[.int .i64 S.room, .int .i64 S1.fails, .int .i64 S1.waits, .slice aq an ac, .slice q ll.length c], .int .i64 9]) (by simp [results, Try.f28, go_sem, d0, d1, d2, d3, d4]) rfl ?_
    rw [HPU.out]
    exact ⟨_, rfl, ⟨(aq, an, ac), (q, ll.length, c), sl, ll, by rw [← e3]; rfl, HR.out.on hfin⟩, hfin⟩
  | false =>
    obtain ⟨hr, hcnt, hg, hc, hrn, hlens⟩ := HRW.out.facts hok1
    have HNW := Lib.hid fun W hW => rnow_c base (aq, an, ac) (q, ll.length, c) S1 sl ll N W (HRW.out.on hW) hok1 hN
    rw [hnow] at hc
    obtain ⟨g1, g2⟩ := HS.out.1.on HH2.out
    rw [HBB.out] at g2
    have hlp : lens (putL (nowL sl ll) (k, (sq, sn, sc))) = lenB (putL S.now (k, bb)) := by rw [lens_is (hg.put g1), cont_put, hc, g2]
    have hll := len_now ll sl
    have hlp2 : lens (putL (nowL sl ll) (k, (sq, sn, sc))) ≤ 1000000000000 := by
      rw [hlp]
      have h1 := lenB_put (k, bb) (l := S.now) (by rw [← hc]; exact rise_map (rdB w2) hrn)
      rw [← hc, ← lens_is hg] at h1
      have h2 : bb.length = sn := by rw [← g2, g1.len]
      have h3 := HS.out.2
      have h4 : N * 1000000 ≤ 100000 * 1000000 := Nat.mul_le_mul_right _ hN
      dsimp only at h1 h3
      rw [← hc]
      omega
    have hrp : Rise (putL (nowL sl ll) (k, (sq, sn, sc))) := rise_putL hrn
    have hlq := len_putL (k, (sq, sn, sc)) (nowL sl ll)
    have HLY := Lib.hid fun W a' (h : RowR W a' (nowL sl ll)) => rlay_c a' _ k (sq, sn, sc) W h hrn (by omega)
    have HLN := Lib.hid fun W a' (h : RowR W a' (putL (nowL sl ll) (k, (sq, sn, sc)))) => rlen_c a' _ W h (by omega) hlp2
    have hfe : S.fits k bb = decide ((lens (putL (nowL sl ll) (k, (sq, sn, sc))) : Int) ≤ S.room) := by unfold DS.fits; rw [hlp]
    generalize putL (nowL sl ll) (k, (sq, sn, sc)) = pl at HLY HLN hfe hlp hlp2 hrp hlq
    have HF := Lib.hid (And.intro hg (And.intro hc (And.intro g1 g2)))
    have hcl : ll.length ≤ 100000 := by omega
    clear hg hc g1 g2 hlp hlp2 hrp hlq hll hlens hr hcnt hrn
    obtain ⟨⟨x0, x1, x2, x3, x4⟩, -⟩ := X2.c5
    go_upto_region 5 with (fail)
    generalize hV : World.alloc w2 _ = w3
    have U3 : Blk w3 w2.heap.size 75 #[.int .i64 k, .slice sq sn sc] := Blk.eqw hV (Blk.new' rfl)
    have h3 : Below w2.heap.size w2 w3 := by rw [← hV]; exact (Below.refl _ _).alloc (Nat.le_refl _) _
    have hgu : gx + 1 < w2.heap.size := Y2.lt
    generalize w2.heap.size = gu at U3 hgu ⊢
    replace X2 := X2.on h3
    replace Y2 := Y2.on h3
    have HH3 := Lib.hid h3
    clear hV x0 x1 x2 x3 x4 h3
    have u0 := fun d os => (U3.re d os).cell 0
    have u1 := fun d os => (U3.re d os).cell 1
    have x0 := fun d os => (X2.re d os).cell 0
    have x1 := fun d os => (X2.re d os).cell 1
    have x2 := fun d os => (X2.re d os).cell 2
    have x3 := fun d os => (X2.re d os).cell 3
    have x4 := fun d os => (X2.re d os).cell 4
    have HN2 : Hid (∀ W, Below w3.heap.size w3 W → Calls Try.prog 33 #[.agg #[.int .i64 S.room, .int .i64 S1.fails, .int .i64 S1.waits, .slice aq an ac, .slice q ll.length c]] W fun r w' => ∃ u, r = .returned u ∧ (Kept (fun _ => True) W w' ∧ RowV (nowL sl ll) u w')) := Lib.hid fun W hW => by
      have := HNW.out W (after HH3.out hW)
      rw [show dv S1 (aq, an, ac) (q, ll.length, c) = #[.int .i64 S.room, .int .i64 S1.fails, .int .i64 S1.waits, .slice aq an ac, .slice q ll.length c] by rw [← e3]; rfl] at this
      refine this.mono ?_
      rintro r w' ⟨a', rfl, hr, hb⟩
      exact ⟨_, rfl, (Kept.of_below hb).mono fun _ _ => trivial, a', rfl, hr⟩
    have HL2 : Hid (∀ W u, RowV (nowL sl ll) u W → Calls Try.prog 39 #[u, .agg #[.int .i64 k, .slice sq sn sc]] W fun r w' => ∃ u', r = .returned u' ∧ (Kept (fun _ => True) W w' ∧ RowV pl u' w')) := Lib.hid fun W u hu => by
      obtain ⟨a', rfl, hr⟩ := hu
      refine (HLY.out W a' hr).mono ?_
      rintro r w' ⟨v, rfl, ho, hb⟩
      obtain ⟨a2, rfl, hr2⟩ := RowR.of ho
      exact ⟨_, rfl, (Kept.of_below hb).mono fun _ _ => trivial, a2, rfl, hr2⟩
    have HL3 : Hid (∀ W u, RowV pl u W → Calls Try.prog 35 #[u] W fun r w' => r = .returned (.int .i64 (lens pl)) ∧ Kept (fun _ => True) W w') := Lib.hid fun W u hu => by
      obtain ⟨a', rfl, hr⟩ := hu
      refine (HLN.out W a' hr).mono ?_
      rintro r w' ⟨rfl, rfl⟩
      exact ⟨rfl, Kept.refl _ _⟩
    generalize hnl : nowL sl ll = nl at HN2 HL2 HF
    clear hnl HNW HLY HLN
    generalize (lens pl : Int) = nn at HL3 hfe
    obtain ⟨B0, hB0⟩ : ∃ B0, decide (S.room < nn) = B0 := ⟨_, rfl⟩
    have hfb : S.fits k bb = !B0 := by rw [hfe, ← hB0]; by_cases h : nn ≤ S.room <;> simp [h] <;> omega
    have HFB := Lib.hid hfb
    clear hfe hfb
    refine wp_sched [0, 2, 0, 2, 2, 0, 0, 2] (fun i v w => match i with | 1 => RowV nl v w | 3 => RowV pl v w | 4 => v = .int .i64 nn | 7 => v = .bool B0 | _ => True) (by kernel_rfl) (by kernel_rfl) (fun i v w w' h hb => by match i, h with | 1, h => exact RowV.on h hb | 3, h => exact RowV.on h hb | 4, h => exact h | 7, h => exact h | 0, _ => trivial | 2, _ => trivial | 5, _ => trivial | 6, _ => trivial | n + 8, _ => trivial) ?_
    repeat (first | (refine wpQs_s ?_) | (refine wpQs_q (fun K hK => ?_); go_simp; first | (refine hK _ ?_; clear hK K) | (apply Exists.intro; refine ⟨fun _ => ?_, hK _ ?_⟩; (fail); clear hK K)) | (refine wpQs_f (fun K hK => ?_); go_simp; refine hK _ ?_; clear hK K))
    refine wpQs_nil ?_
    refine wpLs_skip ?_
    refine wpLs_one ?lsA (fun v_ => ?_)
    case lsA => (intro w_ hw_ hp_; (first | (dsimp only at hF_; have h8 : _ = Value.int .i64 nn := hF_.2 (by kernel_rfl); have E := h8; subst E; go_simp <;> first | exact Kept.refl _ _ | exact ⟨Kept.refl _ _, rfl⟩) | (dsimp only at hF_; have h8 : RowV pl _ _ := hF_.2 (by kernel_rfl); go_simp; refine (HL3.out _ _ h8).mono ?_; exact fun _ _ h => h) | (dsimp only at hF_; have h8 : RowV nl _ _ := hF_.2 (by kernel_rfl); go_simp; refine (HL2.out _ _ h8).mono ?_; rintro e_ w9 ⟨u, rfl, hk, hu⟩; exact ⟨u, rfl, hk, hu⟩) | (go_simp; refine (HN2.out _ ((msd_kept hw_).none)).mono ?_; rintro e_ w9 ⟨u, rfl, hk, hu⟩; exact ⟨u, rfl, hk, hu⟩)))
    refine wpLs_skip ?_
    refine wpLs_oneF ?lsA (fun v_ => ?_)
    case lsA => (intro w_ hw_ hp_ hF_; (first | (dsimp only at hF_; have h8 : _ = Value.int .i64 nn := hF_.2 (by kernel_rfl); have E := h8; subst E; go_simp <;> first | exact Kept.refl _ _ | exact ⟨Kept.refl _ _, rfl⟩) | (dsimp only at hF_; have h8 : RowV pl _ _ := hF_.2 (by kernel_rfl); go_simp; refine (HL3.out _ _ h8).mono ?_; exact fun _ _ h => h) | (dsimp only at hF_; have h8 : RowV nl _ _ := hF_.2 (by kernel_rfl); go_simp; refine (HL2.out _ _ h8).mono ?_; rintro e_ w9 ⟨u, rfl, hk, hu⟩; exact ⟨u, rfl, hk, hu⟩) | (go_simp; refine (HN2.out _ ((msd_kept hw_).none)).mono ?_; rintro e_ w9 ⟨u, rfl, hk, hu⟩; exact ⟨u, rfl, hk, hu⟩)))
    refine wpLs_oneF ?lsA (fun v_ => ?_)
    case lsA => (intro w_ hw_ hp_ hF_; (first | (dsimp only at hF_; have h8 : _ = Value.int .i64 nn := hF_.2 (by kernel_rfl); have E := h8; subst E; go_simp <;> first | exact Kept.refl _ _ | exact ⟨Kept.refl _ _, rfl⟩) | (dsimp only at hF_; have h8 : RowV pl _ _ := hF_.2 (by kernel_rfl); go_simp; refine (HL3.out _ _ h8).mono ?_; exact fun _ _ h => h) | (dsimp only at hF_; have h8 : RowV nl _ _ := hF_.2 (by kernel_rfl); go_simp; refine (HL2.out _ _ h8).mono ?_; rintro e_ w9 ⟨u, rfl, hk, hu⟩; exact ⟨u, rfl, hk, hu⟩) | (go_simp; refine (HN2.out _ ((msd_kept hw_).none)).mono ?_; rintro e_ w9 ⟨u, rfl, hk, hu⟩; exact ⟨u, rfl, hk, hu⟩)))
    refine wpLs_skip ?_
    refine wpLs_skip ?_
    refine wpLs_oneF ?lsA (fun v_ => ?_)
    case lsA => (intro w_ hw_ hp_ hF_; (first | (dsimp only at hF_; have h8 : _ = Value.int .i64 nn := hF_.2 (by kernel_rfl); have E := h8; subst E; go_simp <;> first | exact Kept.refl _ _ | exact ⟨Kept.refl _ _, rfl⟩) | (dsimp only at hF_; have h8 : RowV pl _ _ := hF_.2 (by kernel_rfl); go_simp; refine (HL3.out _ _ h8).mono ?_; exact fun _ _ h => h) | (dsimp only at hF_; have h8 : RowV nl _ _ := hF_.2 (by kernel_rfl); go_simp; refine (HL2.out _ _ h8).mono ?_; rintro e_ w9 ⟨u, rfl, hk, hu⟩; exact ⟨u, rfl, hk, hu⟩) | (go_simp; refine (HN2.out _ ((msd_kept hw_).none)).mono ?_; rintro e_ w9 ⟨u, rfl, hk, hu⟩; exact ⟨u, rfl, hk, hu⟩)))
    refine wpLs_nilB ?_
    simp only [tails]
    rintro w4 h4 ⟨⟨⟨⟨-, -⟩, -⟩, rfl⟩, rfl⟩
    clear u0 u1 x0 x1 x2 x3 x4 hB0
    replace X2 := X2.on h4
    replace Y2 := Y2.on h4
    replace U3 := U3.on h4
    have H4 := Lib.hid (after (after HH2.out HH3.out) h4)
    have HR4 := Lib.hid ((HRW.out.on HH3.out).on h4)
    obtain ⟨g3, g4⟩ := HF.out.2.2.1.on (after HH3.out h4)
    have HG4 : Hid (GoodS w4 base (sq, sn, sc) ∧ rdB w4 (sq, sn, sc) = bb) := Lib.hid ⟨g3, by rw [g4]; exact HF.out.2.2.2⟩
    clear g3 g4 h4 HN2 HL2 HL3 HF HRW
    cases B0 with
    | true =>
      have hput : S.put k bb = (S1, 8) := by unfold DS.put; rw [hfl, hS1, HFB.out]; rfl
      have HPU := Lib.hid hput
      clear hput
      obtain ⟨⟨x0, x1, x2, x3, x4⟩, -⟩ := X2.c5
      obtain ⟨⟨y0, y1, y2, y3, y4⟩, f0, f1, f2, f3, f4⟩ := Y2.c5
      go_wp2_with fail
      obtain ⟨⟨d0, d1, d2, d3, d4⟩, -⟩ := (Y2.st5 (.int .i64 S.room) (.int .i64 S1.fails) (.int .i64 S1.waits) (.slice aq an ac) (.slice q ll.length c)).c5
      have hfin : Below w.heap.size w (((((w4.setCell ⟨gx + 1, 0, none⟩ (.int .i64 S.room)).setCell ⟨gx + 1, 1, none⟩ (.int .i64 S1.fails)).setCell ⟨gx + 1, 2, none⟩ (.int .i64 S1.waits)).setCell ⟨gx + 1, 3, none⟩ (.slice aq an ac)).setCell ⟨gx + 1, 4, none⟩ (.slice q ll.length c)) := by
        rw [HGQ.out]
        exact H4.out.trans ((kept5 _ _ _ _ _).below (n := w.heap.size) H4.out.size (fun b hb e => by omega))
      refine bodyPost_ret (v := .tuple #[.agg #[.int .i64 S.room, .int .i64 S1.fails, .int .i64 S1.waits, .slice aq an ac, .slice q ll.length c], .int .i64 8]) (by simp [results, Try.f28, go_sem, d0, d1, d2, d3, d4]) rfl ?_
      rw [HPU.out]
      exact ⟨_, rfl, ⟨(aq, an, ac), (q, ll.length, c), sl, ll, by rw [← e3]; rfl, HR.out.on hfin⟩, hfin⟩
    | false =>
      have hput : S.put k bb = ({ S1 with l := S.l ++ [(k, bb)] }, 0) := by unfold DS.put; rw [hfl, hS1, HFB.out]; rfl
      have HPU := Lib.hid hput
      clear hput
      obtain ⟨⟨x0, x1, x2, x3, x4⟩, -⟩ := X2.c5
      have hbc := HR4.out.rb.cap
      dsimp only at hbc
      obtain ⟨v5, w5, hrun5, O5, B5⟩ := run_rows (P := Try.prog) (w := w4) (base := w4.heap.size) (ts := 40) (ty := 40) Try.underlying40 infR rfl (by decide) (by decide) lenW (fun x _ u hu => by simp [encW] at hu; rcases hu with rfl | rfl <;> rfl) (Owns.nil) rfl hbc HR4.out.rb.rd (by simp; omega) (Nat.le_refl _)
      rw [List.nil_append] at O5
      have X5 := X2.on B5
      have U5 := U3.on B5
      go_upto_region 9 with (at_builtin; refine Lib.wpList_append_run _ rfl _ _ _ _ rfl _ _ rfl rfl _ _ hrun5 ?_)
      obtain ⟨v6, w6, hrun6, O6, B6, g6, c6, rfl⟩ := push_ok O5 k (sq, sn, sc) (by omega) B5.size
      simp only [slV] at hrun6
      have B46 := B5.trans B6
      have u0 : w5.cell? ⟨gu, 0, none⟩ = some (.int .i64 k) := U5.cell 0
      have u1 : w5.cell? ⟨gu, 1, none⟩ = some (.slice sq sn sc) := U5.cell 1
      have X6 := X2.on B46
      have Y6 := Y2.on B46
      clear x0 x1 x2 x3 x4 hrun5
      obtain ⟨⟨x0, x1, x2, x3, x4⟩, e0_, e1_, e2_, e3_, e4_⟩ := X6.c5
      go_upto_region 10 with (at_builtin; refine Lib.wpList_append_run _ rfl _ _ _ _ rfl _ _ rfl rfl _ _ hrun6 ?_)
      clear x0 x1 x2 x3 x4 e0_ e1_ e2_ e3_ e4_ u0 u1 hrun6
      have X7 := X6.set_ 4 (.slice (some ⟨g6, 0, none⟩) (ll.length + 1) c6)
      have Y7 := Y6.far (p := ⟨gx, 4, none⟩) (show gx + 1 ≠ gx by omega) (.slice (some ⟨g6, 0, none⟩) (ll.length + 1) c6)
      have O7 : Owns (w6.setCell ⟨gx, 4, none⟩ (.slice (some ⟨g6, 0, none⟩) (ll.length + 1) c6)) w4.heap.size 75 2 encW (.slice (some ⟨g6, 0, none⟩) (ll.length + 1) c6) (ll ++ [(k, (sq, sn, sc))]) := O6.far (p := ⟨gx, 4, none⟩) (show gx < w4.heap.size from X2.lt) _
      have H7 : Below w.heap.size w (w6.setCell ⟨gx, 4, none⟩ (.slice (some ⟨g6, 0, none⟩) (ll.length + 1) c6)) := (after H4.out B46).setCell (p := ⟨gx, 4, none⟩) (by rw [HGQ.out]; exact Nat.le_refl _) _
      have hR7 := HR.out.on H7
      obtain ⟨gs7, rd7⟩ := HS.out.1.on H7
      have RA7 : RefAt (w6.setCell ⟨gx, 4, none⟩ (.slice (some ⟨g6, 0, none⟩) (ll.length + 1) c6)) base (aq, an, ac) (some ⟨g6, 0, none⟩, ll.length + 1, c6) { S1 with l := S.l ++ [(k, bb)] } sl (ll ++ [(k, (sq, sn, sc))]) := by
        obtain ⟨a', ea, hra⟩ := RowR.of O7
        obtain ⟨a1, a2, a3⟩ := a'
        simp only [slV, Value.slice.injEq] at ea
        obtain ⟨rfl, rfl, rfl⟩ := ea
        refine ⟨hR7.ra, hra, hR7.ga, fun p hp => ?_, hR7.safe, ?_⟩
        · rcases List.mem_append.1 hp with hp | hp
          · exact hR7.gb p hp
          · obtain rfl : p = (k, (sq, sn, sc)) := by simpa using hp
            exact gs7
        · rw [cont_snoc, ← hR7.l, rd7, HBB.out, e2]
      generalize World.setCell w6 _ _ = w7 at X7 Y7 O7 H7 hR7 gs7 rd7 RA7 ⊢
      have HRA := Lib.hid (And.intro RA7 H7)
      clear O7 H7 hR7 gs7 rd7 RA7 X6 Y6 O6 B46 X5 U5 O5 B5 B6 U3 X2 Y2
      obtain ⟨⟨x0, x1, x2, x3, x4⟩, -⟩ := X7.c5
      obtain ⟨⟨y0, y1, y2, y3, y4⟩, f0, f1, f2, f3, f4⟩ := Y7.c5
      go_wp2_with fail
      obtain ⟨⟨d0, d1, d2, d3, d4⟩, -⟩ := (Y7.st5 (.int .i64 S.room) (.int .i64 S1.fails) (.int .i64 S1.waits) (.slice aq an ac) (.slice (some ⟨g6, 0, none⟩) (ll.length + 1) c6)).c5
      have hk7 := kept5 (w := w7) (g := gx + 1) (.int .i64 S.room) (.int .i64 S1.fails) (.int .i64 S1.waits) (.slice aq an ac) (.slice (some ⟨g6, 0, none⟩) (ll.length + 1) c6)
      have hfin : Below w.heap.size w (((((w7.setCell ⟨gx + 1, 0, none⟩ (.int .i64 S.room)).setCell ⟨gx + 1, 1, none⟩ (.int .i64 S1.fails)).setCell ⟨gx + 1, 2, none⟩ (.int .i64 S1.waits)).setCell ⟨gx + 1, 3, none⟩ (.slice aq an ac)).setCell ⟨gx + 1, 4, none⟩ (.slice (some ⟨g6, 0, none⟩) (ll.length + 1) c6)) := by
        exact HRA.out.2.trans (hk7.below (n := w.heap.size) HRA.out.2.size (fun b hb e => by have := HGQ.out; omega))
      refine bodyPost_ret (v := .tuple #[.agg #[.int .i64 S.room, .int .i64 S1.fails, .int .i64 S1.waits, .slice aq an ac, .slice (some ⟨g6, 0, none⟩) (ll.length + 1) c6], .int .i64 0]) (by simp [results, Try.f28, go_sem, d0, d1, d2, d3, d4]) rfl ?_
      rw [HPU.out]
      exact ⟨_, rfl, ⟨(aq, an, ac), (some ⟨g6, 0, none⟩, ll.length + 1, c6), sl, ll ++ [(k, (sq, sn, sc))], by simp only [dv, slV]; rw [← e3], HRA.out.1.off hk7 Y7 (by decide) (by rw [HGQ.out]; omega)⟩, hfin⟩
end Go.Proofs.Ytlmjggbpophnfaa
