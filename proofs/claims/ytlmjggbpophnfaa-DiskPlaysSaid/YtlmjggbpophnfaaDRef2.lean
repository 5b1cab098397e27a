/- The document's disk: all blobs, whether it fails, what is asked. -/
import Derived.Test.YtlmjggbpophnfaaDRef1
import Derived.Test.YtlmjggbpophnfaaDisk5
namespace Go.Proofs.Ytlmjggbpophnfaa
open Go.RowKit Go.Maps
attribute [local go_sem] Oper.semAt_some

abbrev dv (S : DS) (a b : SL) : Array Value := #[.int .i64 S.room, .int .i64 S.fails, .int .i64 S.waits, slV a, slV b]
structure RefAt (w : World) (base : Nat) (a b : SL) (S : DS) (sl ll : List (Int × SL)) : Prop where
  ra : RowR w a sl
  rb : RowR w b ll
  ga : GoodL w base sl
  gb : GoodL w base ll
  safe : S.safe = cont w sl
  l : S.l = cont w ll
theorem RefAt.on {w w' : World} {base : Nat} {a b : SL} {S : DS} {sl ll : List (Int × SL)} (h : RefAt w base a b S sl ll) (hb : Below w.heap.size w w') : RefAt w' base a b S sl ll :=
  ⟨h.ra.on hb, h.rb.on hb, (h.ga.on hb).1, (h.gb.on hb).1, by rw [(h.ga.on hb).2]; exact h.safe, by rw [(h.gb.on hb).2]; exact h.l⟩
theorem RefAt.turn {w w' : World} {base : Nat} {a b : SL} {S T T' : DS} {sl ll : List (Int × SL)} {M : Nat → Prop} {d : Nat} (h : RefAt w base a b S sl ll) (ht : Turn w base M d T' w') (h0 : DiskIs w base M d T) : RefAt w' base a b S sl ll := by
  have hk : ∀ g cur, Blk w g 75 cur → Blk w' g 75 cur := fun g cur hB => ht.blk h0 hB (by decide)
  obtain ⟨g1, g2⟩ := ht.goods h0 h.ga
  obtain ⟨g3, g4⟩ := ht.goods h0 h.gb
  exact ⟨h.ra.kept hk, h.rb.kept hk, g1, g3, by rw [g2]; exact h.safe, by rw [g4]; exact h.l⟩
theorem RefAt.facts {w : World} {base : Nat} {a b : SL} {S : DS} {sl ll : List (Int × SL)} {N M : Nat} (h : RefAt w base a b S sl ll) (hok : DOk S N M) : Rise sl ∧ sl.length + ll.length ≤ N ∧ GoodL w base (nowL sl ll) ∧ cont w (nowL sl ll) = S.now ∧ Rise (nowL sl ll) ∧ lens (nowL sl ll) ≤ N * M := by
  have hr : Rise sl := cont_rise (w := w) (by rw [← h.safe]; exact hok.rise)
  have hc : cont w (nowL sl ll) = S.now := by rw [cont_now, ← h.safe, ← h.l]; rfl
  have hg := h.ga.now h.gb
  refine ⟨hr, ?_, hg, hc, rise_now hr, ?_⟩
  · have := hok.many
    rw [h.safe, h.l, cont_len, cont_len] at this
    exact this
  · rw [lens_is hg, hc]; exact lenB_now hok
/-- One that is asked keeps its rows. -/
theorem RefAt.same {w : World} {base : Nat} {a b : SL} {S S' : DS} {sl ll : List (Int × SL)} (h : RefAt w base a b S sl ll) (hs : S'.safe = S.safe) (hl : S'.l = S.l) : RefAt w base a b S' sl ll := ⟨h.ra, h.rb, h.ga, h.gb, by rw [hs]; exact h.safe, by rw [hl]; exact h.l⟩
set_option maxHeartbeats 4000000 in
theorem rasked_c (S : DS) (a b : SL) (hw : S.waits = 0 ∨ S.waits = 1) (hf : 0 ≤ S.fails ∧ S.fails ≤ 9223372036854775807) (w : World) :
    Calls Try.prog 38 #[.agg (dv S a b)] w fun r w' => r = .returned (.tuple #[.agg (dv S.asked.1 a b), .bool S.asked.2]) ∧ Below w.heap.size w w' := by
  obtain ⟨q, n, c⟩ := a
  obtain ⟨q', n', c'⟩ := b
  simp only [dv, slV]
  rcases hw with hw | hw
  · by_cases hp : 0 < S.fails
    · have ha : S.asked = ({ S with fails := S.fails - 1 }, true) := by unfold DS.asked; rw [if_neg (by omega), if_pos hp]
      rw [ha]
      dsimp only
      rw [hw]
      go_enter Try.func38, Try.ntmps38
      go_wp2_with fail
      refine bodyPost_ret (v := .tuple #[.agg #[.int .i64 S.room, .int .i64 (S.fails - 1), .int .i64 0, .slice q n c, .slice q' n' c'], .bool true]) (by simp [results, Try.f38, go_sem]) rfl ⟨rfl, ?_⟩
      go_grown
    · have ha : S.asked = (S, false) := by unfold DS.asked; rw [if_neg (by omega), if_neg hp]
      rw [ha]
      dsimp only
      rw [hw]
      go_enter Try.func38, Try.ntmps38
      go_wp2_with fail
      refine bodyPost_ret (v := .tuple #[.agg #[.int .i64 S.room, .int .i64 S.fails, .int .i64 0, .slice q n c, .slice q' n' c'], .bool false]) (by simp [results, Try.f38, go_sem]) rfl ⟨rfl, ?_⟩
      go_grown
  · have ha : S.asked = ({ S with waits := 0 }, false) := by unfold DS.asked; rw [if_pos (by omega)]
    rw [ha]
    dsimp only
    rw [hw]
    go_enter Try.func38, Try.ntmps38
    go_wp2_with fail
    refine bodyPost_ret (v := .tuple #[.agg #[.int .i64 S.room, .int .i64 S.fails, .int .i64 0, .slice q n c, .slice q' n' c'], .bool false]) (by simp [results, Try.f38, go_sem]) rfl ⟨rfl, ?_⟩
    go_grown
set_option maxHeartbeats 4000000 in
theorem rfail_c (S : DS) (a b : SL) (n : Int) (hn : In64 n) (w : World) :
    Calls Try.prog 31 #[.agg (dv S a b), .int .i64 n] w fun r w' => r = .returned (.agg (dv (S.fail n) a b)) ∧ Below w.heap.size w w' := by
  have hmn := @run_mn Try.prog
  have hmx := @run_mx Try.prog
  obtain ⟨q, m, c⟩ := a
  obtain ⟨q', m', c'⟩ := b
  simp only [dv, slV]
  unfold In64 at hn
  by_cases h0 : n < 0
  · have e : S.fail n = { S with fails := min (-n) 1048576, waits := 1 } := by unfold DS.fail; rw [if_pos h0]
    have h1 : mnI (-(n + 1)) 1048575 + 1 = min (-n) 1048576 := by unfold mnI; omega
    have h2 : -1 ≤ mnI (-(n + 1)) 1048575 ∧ mnI (-(n + 1)) 1048575 ≤ 1048575 := by unfold mnI; omega
    rw [e, ← h1]
    dsimp only
    generalize hmq : mnI (-(n + 1)) 1048575 = mq at h1 h2
    clear h1 e
    go_enter Try.func31, Try.ntmps31
    go_wp2_with fail
    refine bodyPost_ret (v := .agg #[.int .i64 S.room, .int .i64 (mq + 1), .int .i64 1, .slice q m c, .slice q' m' c']) (by simp [results, Try.f31, go_sem]) rfl ⟨rfl, ?_⟩
    go_grown
  · have e : S.fail n = { S with fails := n, waits := 0 } := by unfold DS.fail; rw [if_neg h0]
    have h1 : mxI n 0 = n := by unfold mxI; omega
    rw [e]
    dsimp only
    go_enter Try.func31, Try.ntmps31
    go_wp2_with fail
    refine bodyPost_ret (v := .agg #[.int .i64 S.room, .int .i64 n, .int .i64 0, .slice q m c, .slice q' m' c']) (by simp [results, Try.f31, go_sem]) rfl ⟨rfl, ?_⟩
    go_grown
theorem rnew_c (R : Int) (w : World) :
    Calls Try.prog 20 #[.int .i64 R] w fun r w' => r = .returned (.agg (dv (newS R) (none, 0, 0) (none, 0, 0))) ∧ Below w.heap.size w w' := by
  have hmn := @run_mn Try.prog
  have hmx := @run_mx Try.prog
  simp only [dv, slV, newS]
  go_enter Try.func20, Try.ntmps20
  go_wp2_with fail
  refine bodyPost_ret (v := .agg #[.int .i64 (mnI (mxI R 0) 1048576), .int .i64 0, .int .i64 0, .slice none 0 0, .slice none 0 0]) (by simp [results, Try.f20, go_sem]) rfl ⟨rfl, ?_⟩
  go_grown
set_option maxRecDepth 100000 in
set_option maxHeartbeats 4000000 in
theorem rnow_c (base : Nat) (a b : SL) (S : DS) (sl ll : List (Int × SL)) (N : Nat) (w : World) (h : RefAt w base a b S sl ll) (hok : DOk S N 1000000) (hN : N ≤ 100000) :
    Calls Try.prog 33 #[.agg (dv S a b)] w fun r w' => ∃ a' : SL, r = .returned (slV a') ∧ RowR w' a' (nowL sl ll) ∧ Below w.heap.size w w' := by
  obtain ⟨hr, hcnt, -, -, -, -⟩ := h.facts hok
  have ha := h.ra
  have hb := h.rb
  clear h
  obtain ⟨aq, an, ac⟩ := a
  obtain ⟨q, n, c⟩ := b
  obtain rfl : n = ll.length := hb.len
  have hcap : ll.length ≤ c := hb.cap
  obtain ⟨W0, hW⟩ : ∃ W0, W0 = w.alloc (.cells #[.int .i64 S.room, .int .i64 S.fails, .int .i64 S.waits, .slice aq an ac, .slice q ll.length c] 42) := ⟨_, rfl⟩
  have hb0 : Below w.heap.size w W0 := by rw [hW]; exact (Below.refl _ _).alloc (Nat.le_refl _) _
  have X0 : Blk W0 w.heap.size 42 #[.int .i64 S.room, .int .i64 S.fails, .int .i64 S.waits, .slice aq an ac, .slice q ll.length c] := by rw [hW]; exact Blk.new' rfl
  replace ha := ha.on hb0
  have HH := Lib.hid (hb.on hb0)
  simp only [dv, slV]
  clear hb
  go_enter Try.func33, Try.ntmps33
  go_upto_region 3 with (fail)
  rw [← hW]
  have HB0 := Lib.hid hb0
  generalize hgq : w.heap.size = gx at X0 ⊢
  clear hW hb0 hgq
  go_loopw [3, 4] (fun x i wr => ∃ (k : Nat) (a' : SL), k ≤ ll.length ∧ i = .int .i64 k ∧ x = slV a' ∧ RowR wr a' (nowL sl (ll.take k)) ∧ Below W0.heap.size W0 wr) (fun _ i _ => ll.length - (intOf i).toNat)
  case atStart => exact ⟨0, (aq, an, ac), Nat.zero_le _, rfl, rfl, by rw [List.take_zero]; exact ha, Below.refl _ _⟩
  case round =>
    obtain ⟨k, ⟨vq, vn, vc⟩, hk, rfl, rfl, hR, hB⟩ := hrel
    simp only [slV]
    have x4 : wr.cell? ⟨gx, 4, none⟩ = some (.slice q ll.length c) := (X0.on hB).cell 4
    by_cases hlt : k < ll.length
    · obtain ⟨p, hp⟩ := lt_at hlt
      obtain ⟨g, cur, hq, hC, hrow⟩ := HH.out.lies (by omega)
      dsimp only at hq
      subst hq
      obtain ⟨r0, r1⟩ := hrow k p hp
      have r0' := (hB.cell (p := ⟨g, k * 2, none⟩) hC.lt).trans r0
      have r1' := (hB.cell (p := ⟨g, k * 2 + 1, none⟩) hC.lt).trans r1
      have hst : nowL sl (ll.take (k + 1)) = putL (nowL sl (ll.take k)) p := by rw [take_at hp, nowL_snoc]
      obtain ⟨pk, pq, pn, pc⟩ := p
      have HLY := Lib.hid (rlay_c (vq, vn, vc) _ pk (pq, pn, pc) wr hR (rise_now hr) (by have := len_now (ll.take k) sl; rw [List.length_take] at this; omega))
      simp only [slV] at r0' r1' HLY
      have HST := Lib.hid hst
      have HBB := Lib.hid hB
      have hk1 : (k : Int) < (ll.length : Int) := by omega
      have hk0 : (0 : Int) ≤ (k : Int) := by omega
      have hi3 : (k : Int) + 1 ≤ 9223372036854775807 := by omega
      have hi4 : -9223372036854775808 ≤ (k : Int) + 1 := by omega
      clear hp hrow r0 r1 hst hB hR
      go_wp2_with (go_at_call 39; refine HLY.out.mono ?_; rintro e_ w1 ⟨v, rfl, ho, h1⟩)
      obtain ⟨a', rfl, hR'⟩ := RowR.of ho
      exact ⟨⟨k + 1, a', hlt, by go_num, rfl, by rw [HST.out]; exact hR', after HBB.out h1⟩, next_less' hlt⟩
    · obtain rfl : k = ll.length := by omega
      rw [List.take_length] at hR
      have hk1 : ¬ ((ll.length : Int) < (ll.length : Int)) := by omega
      have HRR := Lib.hid hR
      have HBB := Lib.hid hB
      clear hR hB
      go_wp2_with fail
      go_returns
      exact ⟨vq, vn, vc, rfl, HRR.out, after HB0.out HBB.out⟩
end Go.Proofs.Ytlmjggbpophnfaa
