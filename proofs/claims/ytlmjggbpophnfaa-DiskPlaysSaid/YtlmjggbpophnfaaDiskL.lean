/- The document's example of a disk; bytes that are alike; the first bytes. -/
import Derived.Test.YtlmjggbpophnfaaDisk6
import Derived.Test.YtlmjggbpophnfaaFix
import Derived.Laws.BytesArg
namespace Go.Proofs.Ytlmjggbpophnfaa
open Go.RowKit Go.Maps
attribute [local go_sem] Oper.semAt_some

/-- n bytes as a text. -/
def strF (F : Nat → B8) (n : Nat) : ByteArray := strOfNums ((List.range n).map fun i => n8 (F i))
theorem strF_cong {F G : Nat → B8} {n : Nat} (h : ∀ i, i < n → F i = G i) : strF F n = strF G n := by
  unfold strF
  congr 1
  apply List.map_congr_left
  intro i hi
  rw [h i (by simpa using hi)]
theorem conv_c (w : World) (q : Option Addr) (n c : Nat) (F : Nat → B8) (hq : Byq w q n F) :
    (convert 27 9 (.slice q n c)).run Try.prog w = .ok (.string (strF F n)) w := by
  by_cases hn : 0 < n
  · obtain ⟨g, o, rfl, B⟩ := hq hn
    exact run_convert_bytes_arg w 27 5 Try.underlying27 Try.underlying5 g o n c _ (by simp) (fun i hi => by rw [B i hi]; simp [hi]) 9 Try.underlying9
  · obtain rfl : n = 0 := by omega
    cases q with
    | none => rw [run_convert_bytes_nil w 27 5 Try.underlying27 Try.underlying5 0 c 9 Try.underlying9]; rfl
    | some a =>
      rw [run_convert_bytes_string w 27 9 5 _ 0 c Try.underlying27 Try.underlying5 Try.underlying9, run_bytesToString w _ 0 c [] (by simpa using run_loadCells_list (P := Try.prog) w a [] (fun j v hj => by cases hj))]
      rfl
theorem same_t (q1 : Option Addr) (n c1 : Nat) (F : Nat → B8) (q2 : Option Addr) (c2 : Nat) (G : Nat → B8) (h : ∀ i, i < n → F i = G i) (w : World) (b1 : Byq w q1 n F) (b2 : Byq w q2 n G) :
    Calls Try.prog 16 #[.slice q1 n c1, .slice q2 n c2] w fun r w' => r = .returned (.bool true) ∧ w = w' := by
  have h1 := conv_c w q1 n c1 F b1
  have h2 := conv_c w q2 n c2 G b2
  rw [← strF_cong h] at h2
  generalize strF F n = s at *
  go_enter Try.func16, Try.ntmps16
  go_wp2_with fail
  go_returns
  exact ⟨ret_b (by first | rfl | simp), rfl⟩
/-- Two slices that hold the same bytes. -/
theorem same_s {w : World} {b1 b2 : Nat} {s t : SL} (hs : GoodS w b1 s) (ht : GoodS w b2 t) (h : rdB w s = rdB w t) : Calls Try.prog 16 #[slV s, slV t] w fun r w' => r = .returned (.bool true) ∧ w = w' := by
  have h1 := hs.len
  have h2 := ht.len
  rw [h] at h1
  obtain ⟨q, n, c⟩ := s
  obtain ⟨q', n', c'⟩ := t
  dsimp only at h1 h2
  obtain rfl : n = n' := by omega
  exact same_t q n c _ q' c' _ (fun i _ => by rw [h]) w hs.byq ht.byq
theorem few_c (q : Option Addr) (n cap m : Nat) (hc : n ≤ cap) (w : World) :
    Calls Try.prog 11 #[.slice q n cap, .int .i64 m] w fun r w' => r = .returned (.slice q (min n m) cap) ∧ w = w' := by
  by_cases h : m < n
  · have h1 : (m : Int) < n := by omega
    have h2 : m ≤ cap := by omega
    go_enter Try.func11, Try.ntmps11
    go_wp2_with fail
    go_returns
    rw [Nat.min_eq_right (by omega)]
    exact ⟨rfl, rfl⟩
  · have h1 : ¬ (m : Int) < n := by omega
    go_enter Try.func11, Try.ntmps11
    go_wp2_with fail
    go_returns
    rw [Nat.min_eq_left (by omega)]
    exact ⟨rfl, rfl⟩
/-- Bytes that are written out. -/
def litB (bs : Bs) : Array Value := (bs.map fun x => .int .u8 (n8 x)).toArray
theorem lit_good {w : World} {g base : Nat} {bs : Bs} (h : Blk w g 5 (litB bs)) (hl : bs.length ≤ 1000) : GoodS w base (some ⟨g, 0, none⟩, bs.length, bs.length) ∧ rdB w (some ⟨g, 0, none⟩, bs.length, bs.length) = bs := by
  have hB : Byt w g 0 bs.length (fun i => bs.getD i 0) := fun i hi => by
    rw [Nat.zero_add, h.cell]
    unfold litB
    simp [hi]
  exact ⟨⟨Nat.le_refl _, Nat.le_trans hl (by decide), fun _ => ⟨g, 0, _, rfl, hB, .inr ⟨_, h⟩⟩⟩, by rw [rdB_of hB, bsOf_self]⟩
theorem put_lit (base d : Nat) (M : Nat → Prop) (S : DS) (N : Nat) (w : World) (h : DiskIs w base M d S) (hok : DOk S N 1000000) (hN : N ≤ 100000) (k : Int) (hk : In64 k) (g : Nat) (bs : Bs) (hB : Blk w g 5 (litB bs)) (hl : bs.length ≤ 1000) (hbase : base ≤ w.heap.size) :
    Calls Try.prog 10 #[.pointer (some ⟨d, 0, none⟩), .int .i64 k, .slice (some ⟨g, 0, none⟩) bs.length bs.length] w fun r w' => r = .returned (.int .i64 (S.put k bs).2) ∧ Turn w base M d (S.put k bs).1 w' := by
  obtain ⟨h1, h2⟩ := lit_good (base := base) hB hl
  have h3 := put_c base d M S N w h hok hN k hk _ h1 (by dsimp only; omega) hbase
  rw [h2] at h3
  exact h3
theorem Turn.out {w w' : World} {base : Nat} {M : Nat → Prop} {d : Nat} {S S' : DS} (h : Turn w base M d S' w') (h0 : DiskIs w base M d S) (hb : base ≤ w.heap.size) : Below base w w' ∧ base ≤ w'.heap.size ∧ ∃ M', DiskIs w' base M' d S' := by
  have h1 := h.below h0 hb
  obtain ⟨M', h2, -, -⟩ := h
  exact ⟨h1, Nat.le_trans hb h1.size, M', h2⟩
theorem bel_alloc (w : World) (o : Obj) : Below w.heap.size w (w.alloc o) := (Below.refl _ _).alloc (Nat.le_refl _) o
theorem bel_alloc' {n : Nat} {w : World} (h : n ≤ w.heap.size) (o : Obj) : Below n w (w.alloc o) := (Below.refl _ _).alloc h o
theorem lv_get : (((((newS 9).put 1 [1, 2, 3]).1.sync.1.put 1 [4, 5, 6, 7]).1.crash 2).1.get 1) = some [4, 5] := by decide
set_option maxRecDepth 100000 in
set_option maxHeartbeats 8000000 in
theorem lives8_c (w : World) : Calls Try.prog 17 #[] w fun r w' => r = .returned (.bool true) ∧ Below w.heap.size w w' := by
  have o0 := newS_ok 9
  go_enter Try.func17, Try.ntmps17
  go_upto_region 4 with (go_at_call 9; refine (new_c 9 w.heap.size w (Nat.le_refl _)).mono ?_; rintro e_ w1 ⟨d, M, rfl, D1, -, h1⟩)
  have i1 : In64 1 := ⟨by decide, by decide⟩
  have b1 := h1.size
  have HH := Lib.hid h1
  have HO := Lib.hid o0
  clear h1 o0
  go_upto_region 5 with (go_at_call 10; refine (put_lit w.heap.size d M _ 0 _ (D1.on (bel_alloc _ _)) (HO.out.mono (Nat.le_refl _) (by decide)) (by decide) 1 i1 w1.heap.size [1, 2, 3] (Blk.new' rfl) (by decide) (Nat.le_trans b1 (bel_alloc _ _).size)).mono ?_; rintro e_ w2 ⟨rfl, t2⟩)
  obtain ⟨k2, b2, M2, D2⟩ := t2.out (D1.on (bel_alloc _ _)) (Nat.le_trans b1 (bel_alloc _ _).size)
  have HH2 := Lib.hid ((HH.out.trans (bel_alloc' b1 _)).trans k2)
  have HO2 := Lib.hid ((HO.out.mono (Nat.le_refl _) (show 0 ≤ 1000000 by decide)).put (k := 1) (b := [1, 2, 3]) i1 (by decide))
  clear t2 k2 HH HO D1 b1
  go_upto_region 6 with (go_at_call 19; refine (sync_c w.heap.size d M2 _ 1 _ D2 HO2.out (by decide) b2).mono ?_; rintro e_ w3 ⟨rfl, t3⟩)
  obtain ⟨k3, b3, M3, D3⟩ := t3.out D2 b2
  have HH3 := Lib.hid (HH2.out.trans k3)
  have HO3 := Lib.hid HO2.out.sync
  clear t3 k3 HH2 HO2 D2 b2
  go_upto_region 7 with (go_at_call 10; refine (put_lit w.heap.size d M3 _ 1 _ (D3.on (bel_alloc _ _)) HO3.out (by decide) 1 i1 w3.heap.size [4, 5, 6, 7] (Blk.new' rfl) (by decide) (Nat.le_trans b3 (bel_alloc _ _).size)).mono ?_; rintro e_ w4 ⟨rfl, t4⟩)
  obtain ⟨k4, b4, M4, D4⟩ := t4.out (D3.on (bel_alloc _ _)) (Nat.le_trans b3 (bel_alloc _ _).size)
  have HH4 := Lib.hid ((HH3.out.trans (bel_alloc' b3 _)).trans k4)
  have HO4 := Lib.hid (HO3.out.put (k := 1) (b := [4, 5, 6, 7]) i1 (by decide))
  clear t4 k4 HH3 HO3 D3 b3
  go_upto_region 8 with (go_at_call 14; refine (crash_c w.heap.size d M4 _ 2 _ D4 HO4.out (by decide) 2).mono ?_; rintro e_ w5 ⟨rfl, t5⟩)
  obtain ⟨k5, b5, M5, D5⟩ := t5.out D4 b4
  have HH5 := Lib.hid (HH4.out.trans k5)
  have HO5 := Lib.hid (HO4.out.crash 2)
  have HG := Lib.hid (get_c w.heap.size d M5 _ 2 w5 D5 HO5.out (by decide) 1 i1)
  rw [lv_get] at HG
  clear t5 k5 HH4 HO4 D4 b4 D5 HO5
  go_upto_region 9 with (go_at_call 15; refine HG.out.mono ?_; rintro e_ w6 ⟨⟨q, n, c⟩, rfl, hg, hr, h6⟩; simp only [slV, Option.isSome_some])
  have L7 := lit_good (base := w.heap.size) (bs := [4, 5]) (g := w6.heap.size) (w := w6.alloc (.cells #[.int .u8 4, .int .u8 5] 5)) (Blk.new' rfl) (by decide)
  have hS := same_s (hg.on (bel_alloc w6 (.cells #[.int .u8 4, .int .u8 5] 5))).1 L7.1 (by rw [L7.2, (hg.on (bel_alloc w6 _)).2, hr]; rfl)
  simp only [slV] at hS
  have HS := Lib.hid hS
  have HH6 := Lib.hid (HH5.out.trans (h6.mono b5))
  have b6 := Nat.le_trans b5 h6.size
  clear L7 hS hg hr h6
  go_wp2_with (go_at_call 16; refine HS.out.mono ?_; rintro e_ w7 ⟨rfl, rfl⟩)
  go_returns
  exact ⟨rfl, HH6.out.trans (bel_alloc' b6 _)⟩
end Go.Proofs.Ytlmjggbpophnfaa
