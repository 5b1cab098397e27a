/- A store's calls whose answers are known; the document's example. -/
import Derived.Test.YtkopenemoddbbaaStQ
namespace Go.Proofs.Ytkopenemoddbbaa
open Go.RowKit
attribute [local go_sem] Oper.semAt_some

theorem of_empty {S : DS} (h : S.now = []) (id : Int) : ofV S id = (2 * id + 1, 0, []) := by
  have e : ∀ j, recAt S j = (0, [], 3) := fun j => by
    unfold recAt DS.get
    rw [h]
    exact read_short (show ([] : Bs).length < 2 by decide)
  unfold ofV
  rw [e, e]
  rfl
theorem lives_plain : ∃ S1 S2 S3 : DS, saveV (newS 100) 7 [97] = (S1, 0) ∧ S1.fail 1 = S2 ∧ saveV S2 7 [98] = (S3, 9) ∧ loadV S3 7 = ([97], 1, true) ∧ DOk S1 1 10 ∧ DOk S2 1 10 ∧ DOk S3 1 10 := by
  have e0 : ofV (newS 100) 7 = (2 * 7 + 1, 0, []) := of_empty rfl 7
  obtain ⟨S1, h1, hc1, -, -, -, hok1, ho1, -⟩ := save_calm (S := newS 100) (N := 0) (M := 10) (id := 7) (b := [97]) ((newS_ok 100).mono (Nat.le_refl _) (by decide)) ⟨rfl, rfl⟩ (by decide) (by rw [e0]; decide) (by decide) (by decide) (by decide)
  have e1 : ofV S1 7 = (toV (newS 100) 7, 1, [97]) := by rw [ho1, e0]; rfl
  have hf : S1.fail 1 = { S1 with fails := 1, waits := 0 } := by unfold DS.fail; rw [if_neg (by decide)]
  have e2 : ofV (S1.fail 1) 7 = (toV (newS 100) 7, 1, [97]) := by rw [← e1]; exact of_now (by rw [hf]; rfl) 7
  have h3 := save_fails (S := S1.fail 1) (id := 7) (b := [98]) (by rw [hf]; show (0 : Int) < 1; decide) (by rw [hf]) (by decide) (by rw [e2]; decide) (by decide)
  have e3 : ofV { S1.fail 1 with fails := (S1.fail 1).fails - 1 } 7 = (toV (newS 100) 7, 1, [97]) := by rw [← e2]; exact of_now rfl 7
  refine ⟨S1, S1.fail 1, _, h1, rfl, h3, ?_, hok1, hok1.fail (by decide), ?_⟩
  · rw [load_in (by decide), e3]; rfl
  · have := hok1.fail (n := 1) (by decide)
    rw [hf] at this ⊢
    exact ⟨this.rise, this.keys, this.many, this.size, this.room, this.waits, by dsimp only; omega⟩
/-- What a store's call leaves as it was. -/
structure Stays (base : Nat) (W W' : World) : Prop where
  blk : ∀ {g : Nat} {t : TypeId} {cs : Array Value}, Blk W g t cs → t ≠ 90 ∧ t ≠ 92 → Blk W' g t cs
  good : ∀ {sl : SL}, GoodS W base sl → GoodS W' base sl ∧ rdB W' sl = rdB W sl
theorem Stays.of {base : Nat} {W W' : World} (h : Below W.heap.size W W') : Stays base W W' := ⟨fun hB _ => hB.on h, fun hs => hs.on h⟩
theorem Stays.trans {base : Nat} {W W' W'' : World} (h : Stays base W W') (k : Stays base W' W'') : Stays base W W'' := ⟨fun hB ht => k.blk (h.blk hB ht) ht, fun hs => by
  obtain ⟨h1, h2⟩ := h.good hs
  obtain ⟨h3, h4⟩ := k.good h1
  exact ⟨h3, h4.trans h2⟩⟩
/-- A store in a world, behind the base. -/
def SAt (w W : World) (s d : Nat) (S : DS) : Prop := ∃ M, StoreIs W w.heap.size M s d S ∧ Below w.heap.size w W ∧ w.heap.size ≤ W.heap.size
theorem SAt.on {w W W' : World} {s d : Nat} {S : DS} (h : SAt w W s d S) (hb : Below W.heap.size W W') : SAt w W' s d S := by
  obtain ⟨M, h1, h2, h3⟩ := h
  exact ⟨M, h1.on hb, after h2 hb, Nat.le_trans h3 hb.size⟩
theorem SAt.cell {w W : World} {s d : Nat} {S : DS} (h : SAt w W s d S) : W.cell? ⟨s, 0, none⟩ = some (.pointer (some ⟨d, 0, none⟩)) := by
  obtain ⟨M, h1, -, -⟩ := h
  exact h1.blk.cell 0
theorem SAt.turn {w W W' : World} {s d : Nat} {S S' : DS} {M : Nat → Prop} (h1 : StoreIs W w.heap.size M s d S) (h2 : Below w.heap.size w W) (h3 : w.heap.size ≤ W.heap.size) (t : Turn W w.heap.size M d S' W') : SAt w W' s d S' ∧ Stays w.heap.size W W' := by
  obtain ⟨k1, b1, -⟩ := t.out h1.disk h3
  refine ⟨?_, fun hB ht => t.blk h1.disk hB ht, fun hs => t.good h1.disk hs⟩
  obtain ⟨M', hS⟩ := h1.turn t
  exact ⟨M', hS, h2.trans k1, b1⟩
section
variable {w W : World} {s d : Nat} {S S' : DS}
theorem save_e (h : SAt w W s d S) {N : Nat} (hok : DOk S N 1000000) (hN : N ≤ 90000) {id : Int} {sl : SL} {b : Bs} {e : Int} (hs : GoodS W w.heap.size sl) (hz : sl.2.1 ≤ 1000000) (hb : rdB W sl = b) (hv : saveV S id b = (S', e)) :
    Calls Try.prog 18 #[.pointer (some ⟨s, 0, none⟩), .int .i64 id, .slice sl.1 sl.2.1 sl.2.2] W fun r w' => r = .returned (.int .i64 e) ∧ SAt w w' s d S' ∧ Stays w.heap.size W w' := by
  obtain ⟨M, h1, h2, h3⟩ := h
  have h4 := ssave_c w.heap.size s d M S N W h1 hok hN id sl hs hz h3
  rw [hb, hv] at h4
  refine h4.mono ?_
  rintro r w' ⟨rfl, t⟩
  exact ⟨rfl, SAt.turn h1 h2 h3 t⟩
theorem load_e (h : SAt w W s d S) {N : Nat} (hok : DOk S N 1000000) (hN : N ≤ 90000) {id : Int} {b : Bs} {v : Int} {is : Bool} (hv : loadV S id = (b, v, is)) :
    Calls Try.prog 19 #[.pointer (some ⟨s, 0, none⟩), .int .i64 id] W fun r w' => ∃ q n c, r = .returned (.tuple #[.slice q n c, .int .i64 v, .bool is]) ∧ GoodS w' w.heap.size (q, n, c) ∧ rdB w' (q, n, c) = b ∧ SAt w w' s d S ∧ Below W.heap.size W w' := by
  have h0 := h
  obtain ⟨M, h1, h2, h3⟩ := h
  have h4 := sload_c w.heap.size s d M S N W h1 hok (by omega) id h3
  rw [hv] at h4
  refine h4.mono ?_
  rintro r w' ⟨⟨q, n, c⟩, rfl, hg, hr, hb⟩
  exact ⟨q, n, c, rfl, hg, hr, h0.on hb, hb⟩
theorem sfail_e (h : SAt w W s d S) {n : Int} (hn : In64 n) (e : S.fail n = S') :
    Calls Try.prog 34 #[.pointer (some ⟨d, 0, none⟩), .int .i64 n] W fun r w' => r = .returned (.tuple #[]) ∧ SAt w w' s d S' ∧ Stays w.heap.size W w' := by
  obtain ⟨M, h1, h2, h3⟩ := h
  have h4 := fail_c w.heap.size d M S W h1.disk n hn
  rw [e] at h4
  refine h4.mono ?_
  rintro r w' ⟨rfl, t⟩
  exact ⟨rfl, SAt.turn h1 h2 h3 t⟩
end
set_option maxRecDepth 100000 in
set_option maxHeartbeats 4000000 in
theorem snew_e (R : Int) (w W : World) (hb : Below w.heap.size w W) :
    Calls Try.prog 17 #[.int .i64 R] W fun r w' => ∃ s d, r = .returned (.pointer (some ⟨s, 0, none⟩)) ∧ SAt w w' s d (newS R) ∧ Below W.heap.size W w' := by
  have HN := Lib.hid (new_c R w.heap.size W hb.size)
  go_enter Try.func17, Try.ntmps17
  go_wp2_with (go_at_call 35; refine HN.out.mono ?_; rintro e_ w1 ⟨d, M, rfl, D1, -, h1⟩)
  go_returns
  obtain ⟨W2, hW⟩ : ∃ W2, W2 = w1.alloc (.cells #[.pointer (some ⟨d, 0, none⟩)] 59) := ⟨_, rfl⟩
  rw [← hW]
  have C := Blk.fresh hW
  have h2 : Below w1.heap.size w1 W2 := by rw [hW]; exact bel_alloc _ _
  have h12 := after h1 h2
  exact ⟨_, d, rfl, ⟨M, ⟨C, D1.on h2, Nat.le_trans hb.size h1.size⟩, after hb h12, Nat.le_trans hb.size h12.size⟩, h12⟩
set_option maxRecDepth 100000 in
set_option maxHeartbeats 8000000 in
theorem slives_c (w : World) : Calls Try.prog 16 #[] w fun r w' => r = .returned (.bool true) ∧ Below w.heap.size w w' := by
  obtain ⟨S1, S2, S3, e1, e2, e3, e4, ok1, ok2, ok3⟩ := lives_plain
  have HE := Lib.hid (And.intro e1 (And.intro e2 (And.intro e3 e4)))
  have H0 := Lib.hid ((newS_ok 100).mono (Nat.le_refl _) (show 0 ≤ 1000000 by decide))
  have HO := Lib.hid (And.intro (ok1.mono (Nat.le_refl _) (show 10 ≤ 1000000 by decide)) (And.intro (ok2.mono (Nat.le_refl _) (show 10 ≤ 1000000 by decide)) (ok3.mono (Nat.le_refl _) (show 10 ≤ 1000000 by decide))))
  clear e1 e2 e3 e4 ok1 ok2 ok3
  go_enter Try.func16, Try.ntmps16
  go_upto_region 4 with (go_at_call 17; refine (snew_e 100 w w (Below.refl _ _)).mono ?_; rintro e_ w1 ⟨s, d, rfl, A1, -⟩)
  have L1 := lit_good (base := w.heap.size) (bs := [97]) (g := w1.heap.size) (w := w1.alloc (.cells #[.int .u8 97] 5)) (Blk.new' rfl) (by decide)
  have HS1 := Lib.hid (save_e (A1.on (bel_alloc w1 (.cells #[.int .u8 97] 5))) H0.out (by decide) L1.1 (show 1 ≤ 1000000 by decide) L1.2 HE.out.1)
  clear L1 A1
  go_upto_region 5 with (go_at_call 18; refine HS1.out.mono ?_; rintro e_ w2 ⟨rfl, A2, -⟩)
  have c2 := A2.cell
  have HS2 := Lib.hid (sfail_e A2 (n := 1) ⟨by decide, by decide⟩ HE.out.2.1)
  clear A2 HS1
  go_upto_region 6 with (go_at_call 34; refine HS2.out.mono ?_; rintro e_ w3 ⟨rfl, A3, -⟩)
  have L3 := lit_good (base := w.heap.size) (bs := [98]) (g := w3.heap.size) (w := w3.alloc (.cells #[.int .u8 98] 5)) (Blk.new' rfl) (by decide)
  have HS3 := Lib.hid (save_e (A3.on (bel_alloc w3 (.cells #[.int .u8 98] 5))) HO.out.2.1 (by decide) L3.1 (show 1 ≤ 1000000 by decide) L3.2 HE.out.2.2.1)
  clear L3 A3 HS2 c2
  go_upto_region 7 with (go_at_call 18; refine HS3.out.mono ?_; rintro e_ w4 ⟨rfl, A4, -⟩)
  have HS4 := Lib.hid (load_e A4 HO.out.2.2 (by decide) HE.out.2.2.2)
  clear A4 HS3
  go_upto_region 8 with (go_at_call 19; refine HS4.out.mono ?_; rintro e_ w5 ⟨q, n, c, rfl, hg, hr, A5, -⟩)
  have L7 := lit_good (base := w.heap.size) (bs := [97]) (g := w5.heap.size) (w := w5.alloc (.cells #[.int .u8 97] 5)) (Blk.new' rfl) (by decide)
  have hS := same_s (hg.on (bel_alloc w5 (.cells #[.int .u8 97] 5))).1 L7.1 (by rw [L7.2, (hg.on (bel_alloc w5 _)).2, hr])
  simp only [slV] at hS
  have HS := Lib.hid hS
  have HA := Lib.hid (A5.on (bel_alloc w5 (.cells #[.int .u8 97] 5)))
  clear L7 hS hg hr A5 HS4
  go_wp2_with (go_at_call 12; refine HS.out.mono ?_; rintro e_ w7 ⟨rfl, rfl⟩)
  go_returns
  obtain ⟨M, -, h2, -⟩ := HA.out
  exact ⟨rfl, h2⟩
end Go.Proofs.Ytkopenemoddbbaa
