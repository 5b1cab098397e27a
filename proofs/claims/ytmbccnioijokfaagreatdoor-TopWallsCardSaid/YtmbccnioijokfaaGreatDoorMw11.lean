/- Texts that build one behind the other, laid together: TopC LinE3 ScrT TopP WallT TopA TopZ TopW SandL WallL. -/
import Derived.Test.YtmbccnioijokfaaGreatDoorMw10
import Derived.Test.YtmbccnioijokfaaGreatDoorMw9
import Derived.Test.YtmbccnioijokfaaGreatDoorMw3
import Derived.Test.YtmbccnioijokfaaGreatDoorMw6
import Derived.Test.YtmbccnioijokfaaGreatDoorMw1
import Derived.Test.YtmbccnioijokfaaGreatDoorMw2
import Derived.Test.YtmbccnioijokfaaGreatDoorMw8
import Derived.Test.YtmbccnioijokfaaGreatDoorMw7
import Derived.Test.YtmbccnioijokfaaGreatDoorRows
import Derived.Test.YtmbccnioijokfaaGreatDoorCards
import Derived.Test.YtmbccnioijokfaaGreatDoorTie
import Derived.Deep.Slices
import Derived.Deep.DeepHandedRow
import Derived.Deep.DeepWitnessRowRef
import Derived.LaidLaws
import Derived.Lib.LaidU8
import Derived.ProofKit
import Derived.SevenTiedAt
namespace Go.Proofs.YtmbccnioijokfaaGreatDoor
open Go.RowKit Go.Maps
attribute [local go_sem] Oper.semAt_some
def T5 (seed : Int) : TS := ⟨seed, 9, [newI seed 0 0, newI seed 1 0, newI seed (-1) 0, newI seed 0 1, newI seed 0 (-1)], newS 200000⟩
def S5 (seed : Int) : SS := ⟨T5 seed, 0, newQ 4096, 8, 0, 0⟩
theorem high5 (seed : Int) : High (T5 seed) (fun _ => 0) where
  good := ⟨fun i hi => by
    unfold T5 at hi
    simp only [List.mem_cons, List.not_mem_nil, or_false] at hi
    rcases hi with rfl | rfl | rfl | rfl | rfl <;> exact newI_len _ _ _, by
    show List.Nodup [((0 : Int), (0 : Int)), (1, 0), (-1, 0), (0, 1), (0, -1)]
    decide⟩
  len := rfl
  ring := fun p hp => by
    unfold TS.here T5 newI
    revert hp
    unfold ringL
    simp
    rintro (rfl | rfl | rfl | rfl | rfl) <;> simp
  cell := fun c hc hy => by
    unfold TS.cell TS.at
    cases hf : (T5 seed).l.find? (TI.is (chkOf c.1 c.2.2)) with
    | some i =>
      have hi := List.mem_of_find?_eq_some hf
      unfold T5 at hi
      simp only [List.mem_cons, List.not_mem_nil, or_false] at hi
      rcases hi with rfl | rfl | rfl | rfl | rfl <;> exact new_high _ _ _ _ _ _ (by omega)
    | none =>
      exfalso
      rw [List.find?_eq_none] at hf
      have : chkOf c.1 c.2.2 ∈ (T5 seed).here := by
        unfold TS.here T5 newI
        revert hc
        unfold ringL
        simp
        rintro (h | h | h | h | h) <;> simp [h]
      obtain ⟨i, hi, he⟩ := List.mem_map.1 this
      exact hf i hi (is_iff.2 he)
theorem nw0 : NW ⟨#[48]⟩ 0 := num_ok (l := [48]) (by decide)
theorem nw1 : NW ⟨#[49]⟩ 1 := num_ok (l := [49]) (by decide)
theorem nwm : NW ⟨#[45, 49]⟩ (-1) := ⟨true, [49], ⟨rfl, rfl, by decide⟩, by decide⟩
def Sl (seed : Int) (k : Nat) : SS := ⟨{ T5 seed with l := (T5 seed).l.take k }, 0, newQ 4096, 8, 0, 0⟩
theorem bareS (seed : Int) (k : Nat) : Bare (Sl seed k).T.d := ⟨rfl, rfl, by show 0 ≤ (newS 200000).room ∧ (newS 200000).room ≤ 1048576; decide, rfl, rfl⟩
theorem kept_low {w0 w w' : World} {M : Nat → Prop} (hb : Below w0.heap.size w0 w) (hM : ∀ b, M b → w0.heap.size ≤ b) (k : Kept (fun b => ¬ M b) w w') : Below w0.heap.size w0 w' :=
  ⟨k.os.trans hb.os, k.tape.trans hb.tape, k.output.trans hb.output, Nat.le_trans hb.size k.size, fun b hb' => (k.block b (Nat.lt_of_lt_of_le hb' hb.size) (fun h => by have := hM b h; omega)).trans (hb.block b hb')⟩
theorem low_on {w0 w : World} {M M' : Nat → Prop} (hb : Below w0.heap.size w0 w) (hM : ∀ b, M b → w0.heap.size ≤ b) (m : ∀ b, M' b → M b ∨ w.heap.size ≤ b) : ∀ b, M' b → w0.heap.size ≤ b := fun b h => (m b h).elim (hM b) (Nat.le_trans hb.size)
theorem nw9 : NW ⟨#[57]⟩ 9 := num_ok (l := [57]) (by decide)
theorem nw8 : NW ⟨#[56]⟩ 8 := num_ok (l := [56]) (by decide)
theorem sz_line {ds : ByteArray} (h : ds.size ≤ 21) : ((worldA ++ ds) ++ worldB).size ≤ 1000 := by
  simp [ByteArray.size_append]
  have h1 : worldA.size = 6 := rfl
  have h2 : worldB.size = 4 := rfl
  omega
def BeginR (w : World) (r : Ending) (w' : World) : Prop := ∃ (n : Nat) (sh e s wd t q : Nat) (M : Nat → Prop), n < 1000 ∧ r = .returned (.pointer (some ⟨sh, 0, none⟩)) ∧ ShA sh e s wd t q occ0 (S5 n) none w' M ∧ (∀ b, M b → w.heap.size ≤ b) ∧ Below w.heap.size w w'
theorem sl_new (n : Int) : newSS (newT n 9 200000) 0 8 = Sl n 0 := by
  have h1 : limI 9 = 9 := by decide
  have h2 : mnI (mxI 8 1) 64 = 8 := by decide
  unfold newSS newT Sl T5
  rw [h1, h2]
  rfl
theorem sl_0 (n : Int) : ({ Sl n 0 with T := { (Sl n 0).T with l := (Sl n 0).T.l ++ [newI (Sl n 0).T.seed (0) (0)] } } : SS) = Sl n 1 := by
  unfold Sl T5
  simp
theorem slf_0 (n : Int) : (Sl n 0).T.find (0, 0) = -1 := by
  unfold Sl T5 TS.find
  simp [findI, newI]
theorem sl_1 (n : Int) : ({ Sl n 1 with T := { (Sl n 1).T with l := (Sl n 1).T.l ++ [newI (Sl n 1).T.seed (1) (0)] } } : SS) = Sl n 2 := by
  unfold Sl T5
  simp
theorem slf_1 (n : Int) : (Sl n 1).T.find (1, 0) = -1 := by
  unfold Sl T5 TS.find
  simp [findI, TI.is, newI, posB]
theorem sl_2 (n : Int) : ({ Sl n 2 with T := { (Sl n 2).T with l := (Sl n 2).T.l ++ [newI (Sl n 2).T.seed (-1) (0)] } } : SS) = Sl n 3 := by
  unfold Sl T5
  simp
theorem slf_2 (n : Int) : (Sl n 2).T.find (-1, 0) = -1 := by
  unfold Sl T5 TS.find
  simp [findI, TI.is, newI, posB]
theorem sl_3 (n : Int) : ({ Sl n 3 with T := { (Sl n 3).T with l := (Sl n 3).T.l ++ [newI (Sl n 3).T.seed (0) (1)] } } : SS) = Sl n 4 := by
  unfold Sl T5
  simp
theorem slf_3 (n : Int) : (Sl n 3).T.find (0, 1) = -1 := by
  unfold Sl T5 TS.find
  simp [findI, TI.is, newI, posB]
theorem sl_4 (n : Int) : ({ Sl n 4 with T := { (Sl n 4).T with l := (Sl n 4).T.l ++ [newI (Sl n 4).T.seed (0) (-1)] } } : SS) = Sl n 5 := by
  unfold Sl T5
  simp
theorem slf_4 (n : Int) : (Sl n 4).T.find (0, -1) = -1 := by
  unfold Sl T5 TS.find
  simp [findI, TI.is, newI, posB]
theorem lenS5 (seed : Int) (k : Nat) : (Sl seed k).T.l.length ≤ 1000 := by
  have : ((T5 seed).l.take k).length ≤ 5 := by rw [List.length_take]; exact Nat.min_le_right _ _
  show ((T5 seed).l.take k).length ≤ 1000
  omega
theorem limS5 (seed : Int) (k : Nat) (_ : k ≤ 5) : (((Sl seed k).T.l.length : Nat) : Int) < (Sl seed k).T.lim := by
  have : ((T5 seed).l.take k).length ≤ 5 := by rw [List.length_take]; exact Nat.min_le_right _ _
  show (((T5 seed).l.take k).length : Int) < 9
  omega
set_option maxRecDepth 100000 in
set_option maxHeartbeats 16000000 in
theorem begin_c (seed : Int) (h1 : -9223372036854775808 ≤ seed) (h2 : seed ≤ 9223372036854775807) (w : World) : Calls Tryz.prog 7 #[.int .i64 seed] w fun r w' => BeginR w r w' := by
  have har : 0 ≤ arI seed 1000 ∧ arI seed 1000 < 1000 := ⟨arI_lo seed (by decide), arI_hi seed (by decide)⟩
  have HAR := around_c seed 1000 h1 h2 (by decide)
  obtain ⟨n, hn⟩ := Int.eq_ofNat_of_zero_le har.1
  rw [hn] at HAR har
  have hn3 : n < 1000 := by omega
  have hdw := world_words hn3
  have hsz := dec_sz n (by omega)
  have HDC := Lib.hid fun W => dec_c 1000 n (by omega) (by omega) W
  generalize hds : strA (Lib.decDigits n) = ds at *
  have HDC' := Lib.hid HDC
  have hc1 := cat_run worldA ds (by have : worldA.size = 6 := rfl; omega)
  have hs1 : (ds.size : Int) ≤ 9223372036854775801 := by omega
  have hs2 : (ds.size : Int) ≤ 9223372036854775797 := by omega
  have hs3 : (6 : Int) + (ds.size : Int) + 4 ≤ 9223372036854775807 := by omega
  have hs4 : ((worldA ++ ds).size : Int) + 4 ≤ 9223372036854775807 := by have : worldA.size = 6 := rfl; simp [ByteArray.size_append]; omega
  have HAR' := Lib.hid HAR
  have HW := Lib.hid (And.intro hdw (And.intro hsz hn3))
  have HN := Lib.hid (lnew_c w)
  clear har HAR hn hdw hds hsz hn3
  go_enter Tryz.func7, Tryz.ntmps7
  go_upto_region 4 with (go_at_call 20; refine HN.out.mono ?_; rintro e_ w1 ⟨sh, e0, s0, wd0, t0, q0, M1, rfl, p1, m1, b1⟩; have H1 := Lib.hid (And.intro p1 (And.intro m1 b1)); clear p1 m1 b1)
  go_upto_region 5 with first
    | (go_at_call 8; refine (HAR'.out _).mono ?_; rintro e_ w2 ⟨rfl, rfl⟩)
    | (go_at_call 10; refine (HDC.out _).mono ?_; rintro e_ w2 ⟨rfl, g2⟩; have G2 := Lib.hid g2; clear g2)
    | (go_at_call 9; refine (lworld_c sh e0 s0 wd0 t0 q0 occ0 _ M1 w2 _ none ((shA_fit sh e0 s0 wd0 t0 q0 occ0 _ none).on H1.out.1 G2.out) ds ⟨#[57]⟩ ⟨#[56]⟩ n 9 8 (sz_line HW.out.2.1) HW.out.1.1 HW.out.1.2 nw9 nw8).mono ?_; rintro e_ w3 ⟨e1, s1, wd1, t1, q1, rfl, ⟨M3, p3, m3, k3⟩⟩; have H3 := Lib.hid (And.intro (show ShA sh e1 s1 wd1 t1 q1 occ0 (Sl n 0) none w3 M3 from (by rw [← sl_new]; exact p3)) (And.intro (low_on (after H1.out.2.2 G2.out) H1.out.2.1 m3) (kept_low (after H1.out.2.2 G2.out) H1.out.2.1 k3))); clear p3 m3 k3)
  go_upto_region 6 with (go_at_call 9; refine (lload_c sh e1 s1 wd1 t1 q1 occ0 (Sl n 0) M3 w3 ⟨#[108, 111, 97, 100, 32, 48, 32, 48]⟩ none H3.out.1 ⟨#[48]⟩ ⟨#[48]⟩ (0) (0) (by decide) (words_ok (by kernel_rfl)) nw0 nw0 (by decide) (by decide) (lenS5 n 0) (limS5 n 0 (by decide)) (slf_0 n) (bareS n 0)).mono ?_; rintro e_ w4 ⟨rfl, ⟨M4, p4, m4, k4⟩⟩; have H4 := Lib.hid (And.intro (show ShA sh e1 s1 wd1 t1 q1 occ0 (Sl n 1) none w4 M4 from (by rw [← sl_0]; exact p4)) (And.intro (low_on H3.out.2.2 H3.out.2.1 m4) (kept_low H3.out.2.2 H3.out.2.1 k4))); clear p4 m4 k4)
  go_upto_region 7 with (go_at_call 9; refine (lload_c sh e1 s1 wd1 t1 q1 occ0 (Sl n 1) M4 w4 ⟨#[108, 111, 97, 100, 32, 49, 32, 48]⟩ none H4.out.1 ⟨#[49]⟩ ⟨#[48]⟩ (1) (0) (by decide) (words_ok (by kernel_rfl)) nw1 nw0 (by decide) (by decide) (lenS5 n 1) (limS5 n 1 (by decide)) (slf_1 n) (bareS n 1)).mono ?_; rintro e_ w5 ⟨rfl, ⟨M5, p5, m5, k5⟩⟩; have H5 := Lib.hid (And.intro (show ShA sh e1 s1 wd1 t1 q1 occ0 (Sl n 2) none w5 M5 from (by rw [← sl_1]; exact p5)) (And.intro (low_on H4.out.2.2 H4.out.2.1 m5) (kept_low H4.out.2.2 H4.out.2.1 k5))); clear p5 m5 k5)
  go_upto_region 8 with (go_at_call 9; refine (lload_c sh e1 s1 wd1 t1 q1 occ0 (Sl n 2) M5 w5 ⟨#[108, 111, 97, 100, 32, 45, 49, 32, 48]⟩ none H5.out.1 ⟨#[45, 49]⟩ ⟨#[48]⟩ (-1) (0) (by decide) (words_ok (by kernel_rfl)) nwm nw0 (by decide) (by decide) (lenS5 n 2) (limS5 n 2 (by decide)) (slf_2 n) (bareS n 2)).mono ?_; rintro e_ w6 ⟨rfl, ⟨M6, p6, m6, k6⟩⟩; have H6 := Lib.hid (And.intro (show ShA sh e1 s1 wd1 t1 q1 occ0 (Sl n 3) none w6 M6 from (by rw [← sl_2]; exact p6)) (And.intro (low_on H5.out.2.2 H5.out.2.1 m6) (kept_low H5.out.2.2 H5.out.2.1 k6))); clear p6 m6 k6)
  go_upto_region 9 with (go_at_call 9; refine (lload_c sh e1 s1 wd1 t1 q1 occ0 (Sl n 3) M6 w6 ⟨#[108, 111, 97, 100, 32, 48, 32, 49]⟩ none H6.out.1 ⟨#[48]⟩ ⟨#[49]⟩ (0) (1) (by decide) (words_ok (by kernel_rfl)) nw0 nw1 (by decide) (by decide) (lenS5 n 3) (limS5 n 3 (by decide)) (slf_3 n) (bareS n 3)).mono ?_; rintro e_ w7 ⟨rfl, ⟨M7, p7, m7, k7⟩⟩; have H7 := Lib.hid (And.intro (show ShA sh e1 s1 wd1 t1 q1 occ0 (Sl n 4) none w7 M7 from (by rw [← sl_3]; exact p7)) (And.intro (low_on H6.out.2.2 H6.out.2.1 m7) (kept_low H6.out.2.2 H6.out.2.1 k7))); clear p7 m7 k7)
  go_upto_region 10 with (go_at_call 9; refine (lload_c sh e1 s1 wd1 t1 q1 occ0 (Sl n 4) M7 w7 ⟨#[108, 111, 97, 100, 32, 48, 32, 45, 49]⟩ none H7.out.1 ⟨#[48]⟩ ⟨#[45, 49]⟩ (0) (-1) (by decide) (words_ok (by kernel_rfl)) nw0 nwm (by decide) (by decide) (lenS5 n 4) (limS5 n 4 (by decide)) (slf_4 n) (bareS n 4)).mono ?_; rintro e_ w8 ⟨rfl, ⟨M8, p8, m8, k8⟩⟩; have H8 := Lib.hid (And.intro (show ShA sh e1 s1 wd1 t1 q1 occ0 (Sl n 5) none w8 M8 from (by rw [← sl_4]; exact p8)) (And.intro (low_on H7.out.2.2 H7.out.2.1 m8) (kept_low H7.out.2.2 H7.out.2.1 k8))); clear p8 m8 k8)
  obtain ⟨Me, hs1, hs2, -⟩ := H8.out.1
  have HEN := Lib.hid (lengine_c sh e1 w8 hs1)
  have HWH := Lib.hid (whole_c e1 s1 wd1 t1 q1 occ0 (Sl n 5) none Me w8 hs2)
  clear hs1 hs2
  go_wp2_with first
    | (go_at_call 14; refine HEN.out.mono ?_; rintro e_ w9 ⟨rfl, rfl⟩)
    | (go_at_call 13; refine HWH.out.mono ?_; rintro e_ w9 ⟨rfl, rfl⟩)
  go_returns
  exact ⟨n, sh, e1, s1, wd1, t1, q1, M8, HW.out.2.2, rfl, H8.out.1, H8.out.2.1, H8.out.2.2⟩
end Go.Proofs.YtmbccnioijokfaaGreatDoor

namespace Go.Proofs.YtmbccnioijokfaaGreatDoor
open Go.RowKit Go.Maps
attribute [local go_sem] Oper.semAt_some
def PurR (w0 : World) (Q : ByteArray → Prop) (r : Ending) (w' : World) : Prop := ∃ out, r = .returned (.string out) ∧ Q out ∧ Below w0.heap.size w0 w'
set_option maxRecDepth 100000 in
set_option maxHeartbeats 8000000 in
theorem line_p (sh e s wd t q : Nat) (occ : Value) (S : SS) (L : Option Lf) (M : Nat → Prop) (w : World) (h : ShA sh e s wd t q occ S L w M) (line word : ByteArray) (ws : List ByteArray) (hl : line.size ≤ 4294967296) (hw : wordsL line = word :: ws) (hlen : ws.length ≤ 900000) (F : FuncId) (i : Nat)
    (hf : ∀ b1 b2 b3 b4 b5, Instr.findNow .string (.string word) (mkE (doesL sh b1 b2 b3 b4 b5) 0) 0 = some (some (i, .func (.func F) #[.pointer (some ⟨sh, 0, none⟩)] #[])))
    (eF : ∀ args w, (callFunc F args).run Tryz.prog w = .ok (.enter F args) w) (Q : ByteArray → Prop)
    (hC : ∀ w1 N a w2, Below w.heap.size w w1 → Cmd w1 sh e s wd t q occ S L M N a ws w2 → Calls Tryz.prog F #[.pointer (some ⟨sh, 0, none⟩), .pointer (some ⟨a, 0, none⟩)] w2 fun r w' => PurR w1 Q r w') :
    Calls Tryz.prog 9 #[.pointer (some ⟨sh, 0, none⟩), .string line] w fun r w' => PurR w Q r w' := by
  have hmf : ∀ (fn : Fn) (first cap : Array Value) (w : World), (Instr.makeFunc fn first cap).run Tryz.prog w = .ok (.func fn first cap) w := fun _ _ _ _ => rfl
  have hnf := neq_nilf
  obtain ⟨W0, hW0⟩ : ∃ W0, W0 = w.alloc (.cells #[.string ⟨#[]⟩] 9) := ⟨_, rfl⟩
  have H0 : Below w.heap.size w W0 := by rw [hW0]; exact bel_alloc _ _
  have R0 : Blk W0 w.heap.size 9 #[.string ⟨#[]⟩] := Blk.fresh hW0
  have HWD := words_c line hl W0
  rw [hw] at HWD
  have HWD' := Lib.hid HWD
  have HX := Lib.hid (And.intro h (And.intro H0 (And.intro R0 hlen)))
  have HF := Lib.hid hf
  have HC := Lib.hid hC
  clear h hl hw hlen hf hC HWD H0 R0
  go_enter_defers Tryz.func9, Tryz.ntmps9
  go_upto_region 1 with (fail)
  rw [← hW0]
  clear hW0
  go_upto_region 2 with (go_at_call 21; refine HWD'.out.mono ?_; rintro e_ w1 ⟨A, rfl, a1, a2, a3, a4⟩; have H1 := Lib.hid (And.intro a1 (And.intro a2 (And.intro a3 a4))); clear a1 a2 a3 a4)
  obtain ⟨W2, hW2⟩ : ∃ W2, W2 = w1.alloc (.cells #[.slice (some ⟨A, 0, none⟩) (ws.length + 1) (ws.length + 1)] 58) := ⟨_, rfl⟩
  have g2 : Below w1.heap.size w1 W2 := by rw [hW2]; exact bel_alloc _ _
  have hs2 : W2.heap.size = w1.heap.size + 1 := by rw [hW2]; simp
  have B2 := Blk.fresh hW2
  obtain ⟨z0⟩ : Nonempty Unit := ⟨()⟩
  have a0 := B2.cell 0
  have hwp : (0 : Int) < ((ws.length + 1 : Nat) : Int) := by omega
  have hne : (((ws.length + 1 : Nat) : Int) == 0) = false := by simp; omega
  have hAr := Lib.hid (show ArgA W2.heap.size w1.heap.size (word :: ws) W2 from ⟨some ⟨A, 0, none⟩, ws.length + 1, B2, Nat.le_refl _, by have := HX.out.2.2.2; simp; omega, ⟨Nat.le_refl _, by omega⟩, fun b hb => by
    obtain rfl := Option.some.inj hb
    have := H1.out.2.1
    exact ⟨by dsimp only; omega, by dsimp only; omega⟩, H1.out.2.2.1.on g2⟩)
  have G2 := Lib.hid g2
  have HB2 := Lib.hid B2
  have HS2 := Lib.hid hs2
  rw [← hW2]
  clear hW2 g2 hs2 B2 z0
  have hSH2 := (shA_fit sh e s wd t q occ S L).on HX.out.1 (after (after HX.out.2.1 H1.out.2.2.2) G2.out)
  have HDO := Lib.hid (does_c sh e s wd t q occ S L M W2 hSH2)
  clear hSH2
  go_upto_region 6 with first
    | (go_at_call 23; refine HDO.out.mono ?_; rintro e_ w3 ⟨m, b1, b2, b3, b4, b5, rfl, hm, hx1, hx2, g3⟩; have H3 := Lib.hid (And.intro hm (And.intro hx1 (And.intro hx2 g3))); clear hm hx1 hx2 g3)
    | (go_at_call 24; refine (word_c _ _ word ws w3 (hAr.out.on H3.out.2.2.2)).mono ?_; rintro e_ w4 ⟨rfl, ar4, k4⟩; have H4 := Lib.hid (And.intro ar4 k4); have hlk := run_look (P := Tryz.prog) (mty := 61) (k := .string word) (v := .func (.func F) #[.pointer (some ⟨sh, 0, none⟩)] #[]) (i := i) Tryz.underlying61 Tryz.underlying9 trivial (H3.out.1.kept k4 (strM_ne H3.out.1 (HB2.out.on H3.out.2.2.2))) (HF.out b1 b2 b3 b4 b5); clear ar4 k4)
  have hb4 : Below w1.heap.size w1 w4 := bel_arg (w0 := w1) (a := w1.heap.size) (after G2.out H3.out.2.2.2) (Nat.le_refl _) H4.out.2
  have hC4 := HC.out w1 _ _ w4 (after HX.out.2.1 H1.out.2.2.2) ⟨(shA_fit sh e s wd t q occ S L).on HX.out.1 (after HX.out.2.1 H1.out.2.2.2), Nat.le_refl _, hb4, H4.out.1⟩
  have HCC := Lib.hid hC4
  have HB4 := Lib.hid hb4
  clear hb4 hC4 hlk
  go_wp2_with first
    | (go_at_call 25; refine (must_c _).mono ?_; rintro e_ w5 ⟨rfl, rfl⟩)
    | (refine HCC.out.mono ?_; rintro e_ w6 ⟨out, rfl, hq, k6⟩; have hR6 : Blk w6 w.heap.size 9 #[.string ⟨#[]⟩] := (((HX.out.2.2.1).on H1.out.2.2.2).on k6); have r6 := hR6.cell 0; have f6 := hR6.frz 0; have H6 := Lib.hid (And.intro hq (And.intro k6 hR6)); clear hq k6 hR6)
  refine leaves_cons (f := 22) (args := #[.pointer (some ⟨w.heap.size, 0, none⟩)]) (by simp) (by simp [go_sem]) ?_
  refine (catch_c _ _).mono ?_
  rintro e_ u_ w7 ⟨rfl, rfl, rfl⟩
  obtain ⟨hq, k6, hR6⟩ := H6.out
  have hR7 : Blk (w6.setCell ⟨w.heap.size, 0, none⟩ (.string out)) w.heap.size 9 #[.string out] := hR6.set_ 0 _
  have c7 := hR7.cell 0
  have hfin : PurR w Q (.returned (.string out)) (w6.setCell ⟨w.heap.size, 0, none⟩ (.string out)) :=
    ⟨out, rfl, hq, (after (after HX.out.2.1 H1.out.2.2.2) k6).setCell (p := ⟨w.heap.size, 0, none⟩) (Nat.le_refl _) _⟩
  have HFIN := Lib.hid hfin
  clear hfin hq k6 hR6 hR7
  simp [Leaves, settle, results, Tryz.results9, go_sem, c7]
  exact HFIN.out
theorem latp_c (sh e s wd t q : Nat) (occ : Value) (S : SS) (M : Nat → Prop) (w : World) (line : ByteArray) (L : Option Lf) (h : ShA sh e s wd t q occ S L w M) (s1 s2 s3 : ByteArray) (x y z : Int) (hl : line.size ≤ 1000) (hw : wordsL line = [⟨#[97, 116]⟩, s1, s2, s3]) (h1 : NW s1 x) (h2 : NW s2 y) (h3 : NW s3 z) (hx : In64 x) (hz : In64 z) (hn : S.T.l.length ≤ 1000) (hne : (S.T.cell (x, y, z) == -1) = false) :
    Calls Tryz.prog 9 #[.pointer (some ⟨sh, 0, none⟩), .string line] w fun r w' => r = .returned (.string (strA (blkN (S.T.cell (x, y, z))))) ∧ Below w.heap.size w w' := by
  refine (line_p sh e s wd t q occ S L M w h line _ _ (by omega) hw (by simp) 58 17 (fun _ _ _ _ _ => by kernel_rfl) (enters_of Tryz.func58 (by kernel_rfl) rfl) (fun out => out = strA (blkN (S.T.cell (x, y, z)))) (fun w1 N a w2 _ hc => ?_)).mono ?_
  · refine (cat_c w1 sh e s wd t q occ S L M N a s1 s2 s3 x y z h1 h2 h3 hx hz hn hne w2 hc).mono ?_
    rintro r w' ⟨rfl, k⟩
    exact ⟨_, rfl, rfl, k⟩
  · rintro r w' ⟨out, rfl, rfl, k⟩
    exact ⟨rfl, k⟩
theorem BldA.on {B b : Nat} {p : Value} {bs : List Value} {w w' : World} (h : BldA B b p bs w) (hb : Below w.heap.size w w') : BldA B b p bs w' := by
  obtain ⟨h1, v, h2, h3, h4⟩ := h
  have lt : ∀ {g : Nat} {o : Obj}, w.heap[g]? = some o → g < w.heap.size := fun h => (Array.getElem?_eq_some_iff.1 h).1
  refine ⟨h1, v, (hb.block b (lt h2)).trans h2, ⟨h3.1, ?_⟩, h4⟩
  rcases h3.2 with h5 | ⟨g, cap, cur, fz, h5, h6, h7, h8⟩
  · exact .inl h5
  · exact .inr ⟨g, cap, cur, fz, h5, h6, (hb.block g (lt h7)).trans h7, h8⟩
end Go.Proofs.YtmbccnioijokfaaGreatDoor

namespace Go.Proofs.YtmbccnioijokfaaGreatDoor
open Go.RowKit Go.Maps
attribute [local go_sem] Oper.semAt_some
abbrev lineA : ByteArray := ⟨#[108, 111, 97, 100, 32, 48, 32, 48]⟩
abbrev lineB : ByteArray := ⟨#[97, 116, 32, 48, 32, 48, 32, 48]⟩
abbrev scrS : ByteArray := ⟨#[108, 111, 97, 100, 32, 48, 32, 48, 10, 97, 116, 32, 48, 32, 48, 32, 48]⟩
abbrev sayA : ByteArray := ⟨#[111, 107, 10]⟩
abbrev sayB : ByteArray := ⟨#[115, 116, 111, 110, 101, 10]⟩
def Sr : SS := newSS (newT 1 9 200000) 0 16
def Sr1 : SS := { Sr with T := { Sr.T with l := Sr.T.l ++ [newI Sr.T.seed 0 0] } }
theorem stone0 : Sr1.T.cell (0, 0, 0) = 1 := by
  have h1 : Sr1.T.l.find? (TI.is (chkOf 0 0)) = some (newI 1 0 0) := by
    show [newI 1 0 0].find? (TI.is (chkOf 0 0)) = _
    have : (newI 1 0 0).is (chkOf 0 0) = true := by decide
    rw [List.find?_cons_of_pos this]
  unfold TS.cell TS.at
  rw [h1]
  show (newI 1 0 0).at 0 0 0 = 1
  unfold TI.at
  rw [if_neg (by decide), if_pos (by decide)]
  unfold chB newI genL
  dsimp only
  rw [List.getElem?_map, show (idxI 0 0 0).toNat = 0 by decide, List.getElem?_range (by decide)]
  show cellG 1 0 0 0 = 1
  unfold cellG ofB
  rw [if_neg (by omega), if_pos (by omega)]
set_option maxRecDepth 100000 in
set_option maxHeartbeats 16000000 in
theorem run_c (m : Int) (w : World) (hm : w.cell? ⟨0, 0, none⟩ = some (.int .i64 m)) : Calls Tryz.prog 26 #[.string scrS] w fun r w' => r = .returned (.string (sayA ++ sayB)) ∧ Below w.heap.size w w' := by
  have hm0 : 0 < w.heap.size := by
    rcases Nat.lt_or_ge 0 w.heap.size with h | h
    · exact h
    · simp [World.cell?, Array.getElem?_eq_none h] at hm
  have HN := Lib.hid (lnew_c w)
  have HM := Lib.hid (And.intro hm hm0)
  clear hm hm0
  go_enter Tryz.func26, Tryz.ntmps26
  go_upto_region 2 with (go_at_call 20; refine HN.out.mono ?_; rintro e_ w1 ⟨sh, e, s, wd, t, q, M1, rfl, p1, m1, b1⟩; have H1 := Lib.hid (And.intro p1 (And.intro m1 b1)); clear p1 m1 b1)
  go_upto_region 3 with (fail)
  obtain ⟨W2, hW2⟩ : ∃ W2, W2 = w1.alloc (.cells #[.pointer none, .slice none 0 0] 102) := ⟨_, rfl⟩
  have g2 : Below w1.heap.size w1 W2 := by rw [hW2]; exact bel_alloc _ _
  have hB2 : BldA w1.heap.size w1.heap.size (.pointer none) [] W2 := ⟨Nat.le_refl _, .slice none 0 0, Blk.fresh hW2, ⟨rfl, .inl ⟨rfl, rfl⟩⟩, by simp [Value.ownBlock]⟩
  have HB2 := Lib.hid (And.intro hB2 g2)
  have HBk := Lib.hid (show Blk W2 w1.heap.size 102 #[.pointer none, .slice none 0 0] from Blk.fresh hW2)
  rw [← hW2]
  clear hW2 hB2 g2
  have hsp := Tryz.strings_Split scrS ⟨#[10]⟩ m W2 (by decide) (by
    rw [Below.cell (after H1.out.2.2 HB2.out.2) HM.out.2]; exact HM.out.1) (by decide)
  rw [show Lib.countB scrS ⟨#[10]⟩ = 1 by kernel_rfl, show Lib.splitB ⟨#[10]⟩ 0 1 scrS = [lineA, lineB] by kernel_rfl] at hsp
  have HSP := Lib.hid hsp
  clear hsp
  go_upto_region 4 with (go_at_call 64; refine HSP.out.mono ?_; rintro e_ w3 ⟨rfl, h3⟩; have H3 := Lib.hid h3; clear h3)
  have hB3 : Blk w3 W2.heap.size 9 #[.string lineA, .string lineB] := by rw [H3.out]; exact Blk.new' rfl
  have g3 : Below W2.heap.size W2 w3 := by rw [H3.out]; exact bel_alloc _ _
  have c0 := hB3.cell 0
  have hwa := words_c lineA (by decide) w3
  rw [show wordsL lineA = [⟨#[108, 111, 97, 100]⟩, ⟨#[48]⟩, ⟨#[48]⟩] from words_ok (by kernel_rfl)] at hwa
  have HWA := Lib.hid hwa
  have HB3 := Lib.hid (And.intro hB3 g3)
  clear hB3 g3 hwa
  refine wp_loop_rounds 3 ?_
  rw [rounds_succ]
  go_upto_region 7 with (go_at_call 21; refine HWA.out.mono ?_; rintro e_ w4 ⟨A, rfl, -, -, -, g4⟩; have G4 := Lib.hid (after HB3.out.2 g4); have G34 := Lib.hid g4; clear g4)
  clear c0
  have HLA := Lib.hid (lload_c sh e s wd t q occ0 Sr M1 w4 lineA none ((shA_fit sh e s wd t q occ0 Sr none).on H1.out.1 (after HB2.out.2 G4.out)) ⟨#[48]⟩ ⟨#[48]⟩ 0 0 (by decide) (words_ok (by kernel_rfl)) nw0 nw0 (by decide) (by decide) (by decide) (by decide) (by decide) ⟨rfl, rfl, by show 0 ≤ (newS 200000).room ∧ (newS 200000).room ≤ 1048576; decide, rfl, rfl⟩)
  have hb1 : ¬ M1 w1.heap.size := fun h => absurd ((shA_fit sh e s wd t q occ0 Sr none).lt H1.out.1 _ h) (by omega)
  have hs2 : w1.heap.size < W2.heap.size := (HBk.out).lt
  have HLT := Lib.hid (And.intro hb1 hs2)
  clear hb1 hs2
  go_upto_region 8 with first
    | (go_at_call 9; refine HLA.out.mono ?_; rintro e_ w5 ⟨rfl, ⟨M5, p5, m5, k5⟩⟩; have H5 := Lib.hid (And.intro p5 (And.intro m5 k5)); have hBk5 := k5.blk HLT.out.1 (HBk.out.on G4.out); have hld5 : BldF w1.heap.size w1.heap.size [] w5 := .inl ⟨Nat.le_refl _, .slice none 0 0, hBk5, ⟨rfl, .inl ⟨rfl, rfl⟩⟩, by simp [Value.ownBlock]⟩; have H5B := Lib.hid (And.intro hld5 (hBk5.cell 1)); clear p5 m5 k5 hBk5 hld5)
    | (go_at_call 65; refine (bwrite_c w1.heap.size w1.heap.size [] _ w5 H5B.out.1 (by decide) (by have := H5.out.2.2.size; have := G4.out.size; have := HLT.out.2; omega)).mono ?_; rintro e_ w6 ⟨rfl, b6, g6, k6⟩; have H6 := Lib.hid (And.intro b6 (And.intro g6 (k6 _ H5B.out.2))); clear b6 g6 k6)
  go_wp2_with fail
  have hM5 : ∀ x, M5 x → x ≠ w1.heap.size := fun x hx he => by
    rcases H5.out.2.1 x hx with h | h
    · exact HLT.out.1 (he ▸ h)
    · have := G4.out.size; have := HLT.out.2; omega
  have hk6 : Kept (fun g => g ≠ w1.heap.size) w5 w6 := H6.out.2.2.mono fun g h => ⟨h, by simp [Value.ownBlock]⟩
  have hSh6 : ShA sh e s wd t q occ0 Sr1 none w6 M5 := (shA_fit sh e s wd t q occ0 Sr1 none).kept H5.out.1 hk6 hM5 fun x cs hx he => absurd (one_type (he ▸ hx) (H5.out.2.2.blk HLT.out.1 (HBk.out.on G4.out))) (by decide)
  have hrow6 : Blk w6 W2.heap.size 9 #[.string lineA, .string lineB] := hk6.blk (by have := HLT.out.2; omega) (H5.out.2.2.blk (fun h => absurd ((shA_fit sh e s wd t q occ0 Sr none).lt H1.out.1 _ h) (by have := HB2.out.2.size; omega)) (HB3.out.1.on (show Below w3.heap.size w3 w4 from G34.out)))
  have hb6 : Below w.heap.size w w6 := (kept_low (after (after H1.out.2.2 HB2.out.2) G4.out) H1.out.2.1 H5.out.2.2).trans (H6.out.2.1.mono H1.out.2.2.size)
  have HS6 := Lib.hid (And.intro hSh6 hb6)
  have c1 := hrow6.cell 1
  have hwb := words_c lineB (by decide) w6
  rw [show wordsL lineB = [⟨#[97, 116]⟩, ⟨#[48]⟩, ⟨#[48]⟩, ⟨#[48]⟩] from words_ok (by kernel_rfl)] at hwb
  have HWB := Lib.hid hwb
  clear hM5 hk6 hSh6 hrow6 hb6 hwb
  rw [rounds_succ]
  go_upto_region 7 with (go_at_call 21; refine HWB.out.mono ?_; rintro e_ w7 ⟨A7, rfl, -, -, -, g7⟩; have G7 := Lib.hid g7; clear g7)
  clear c1
  have hlb := latp_c sh e s wd t q occ0 Sr1 M5 w7 lineB none ((shA_fit sh e s wd t q occ0 Sr1 none).on HS6.out.1 G7.out) ⟨#[48]⟩ ⟨#[48]⟩ ⟨#[48]⟩ 0 0 0 (by decide) (words_ok (by kernel_rfl)) nw0 nw0 nw0 (by unfold In64; omega) (by unfold In64; omega) (by decide) (by rw [stone0]; decide)
  rw [stone0] at hlb
  have HLB := Lib.hid hlb
  clear hlb
  go_upto_region 8 with first
    | (go_at_call 9; refine HLB.out.mono ?_; rintro e_ w8 ⟨rfl, g8⟩; have G8 := Lib.hid g8; clear g8)
    | (go_at_call 65; refine (bwrite_c w1.heap.size w1.heap.size _ _ w8 (.inr ((H6.out.1.on G7.out).on G8.out)) (by decide) (by have := HS6.out.2.size; have := H6.out.1.lt; have := G7.out.size; have := G8.out.size; omega)).mono ?_; rintro e_ w9 ⟨rfl, b9, g9, -⟩; have H9 := Lib.hid (And.intro b9 g9); clear b9 g9)
  go_wp2_with fail
  rw [rounds_succ]
  have hstr := Tryz.Builder_String_k w1.heap.size w1.heap.size (sayA ++ sayB).data.toList w9 (.inr H9.out.1) (by decide)
  have HSTR := Lib.hid hstr
  clear hstr
  go_wp2_with (go_at_call 66; refine HSTR.out.mono ?_; rintro e_ w10 ⟨rfl, -, g10, -⟩; have G10 := Lib.hid g10; clear g10)
  go_returns
  exact ⟨rfl, ((HS6.out.2.trans ((G7.out.trans (G8.out.mono G7.out.size)).mono HS6.out.2.size)).trans (H9.out.2.mono H1.out.2.2.size)).trans (G10.out.mono H1.out.2.2.size)⟩
end Go.Proofs.YtmbccnioijokfaaGreatDoor

namespace Go.Proofs.YtmbccnioijokfaaGreatDoor
open Go.RowKit Go.Maps
theorem itoa_0 : strA (Lib.itoa 0) = ⟨#[48]⟩ := by
  unfold Lib.itoa
  rw [if_neg (by decide)]
  show strA (Lib.decDigits 0) = _
  rw [Lib.decDigits_one (by decide)]
  rfl
theorem dd (n : Nat) (h : ¬ n < 10) : Lib.decDigits n = Lib.decDigits (n / 10) ++ [UInt8.ofNat (48 + n % 10)] := by
  conv => lhs; rw [Lib.decDigits, dif_neg h]
theorem nwa : NW ⟨#[51, 54, 48, 52, 52, 56]⟩ 360448 := num_ok (l := [51, 54, 48, 52, 52, 56]) (by decide)
theorem nwc : NW ⟨#[52, 48, 48, 48, 48]⟩ 40000 := num_ok (l := [52, 48, 48, 48, 48]) (by decide)
theorem nwd : NW ⟨#[49, 48, 48, 48, 48, 48]⟩ 100000 := num_ok (l := [49, 48, 48, 48, 48, 48]) (by decide)
theorem sd5 (n : Int) : Sd (S5 n) (fun _ => 0) [] 0 0 0 := ⟨high5 n, rfl, by show 1 ≤ (newQ 4096).room; decide, rfl, Nat.le_refl _, Nat.le_refl _, rfl⟩
end Go.Proofs.YtmbccnioijokfaaGreatDoor

namespace Go.Proofs.YtmbccnioijokfaaGreatDoor
open Go.RowKit Go.Maps
theorem wtick_l (sh e s wd tq q : Nat) {S : SS} {glass : Bool} {t : Int} {K : Nat} (h0 : Sd S (wallF (wallB glass) 45) [] t K 0) (ht : 0 ≤ t ∧ t ≤ 90) (l : Lf) (hl : RoomB l.b) (occ : Value) (M : Nat → Prop) (w : World) (h : ShA sh e s wd tq q occ S (some l) w M) :
    Calls Tryz.prog 9 #[.pointer (some ⟨sh, 0, none⟩), .string ⟨#[116, 105, 99, 107, 32, 51]⟩] w fun r w' => (∃ o, r = .returned (.string o)) ∧ ∃ S' b', Sd S' (wallF (wallB glass) 45) [] (t + 3) K 0 ∧ RoomB b' ∧ Aft (ShA sh e s wd tq q (occV e) S' (some (l.go b'))) w M w' := by
  obtain ⟨S1, s1, r1, t1⟩ := wtick h0 (by omega) e s wd tq q l hl
  generalize stepB S.T.cell l.b l.x l.z l.j = b1 at *
  obtain ⟨S2, s2, r2, t2⟩ := wtick s1 (by omega) e s wd tq q (l.go b1) r1
  generalize stepB S1.T.cell (l.go b1).b (l.go b1).x (l.go b1).z (l.go b1).j = b2 at *
  obtain ⟨S3, s3, r3, t3⟩ := wtick s2 (by omega) e s wd tq q (l.go b2) r2
  generalize stepB S2.T.cell (l.go b2).b (l.go b2).x (l.go b2).z (l.go b2).j = b3 at *
  have s3' : Sd S3 (wallF (wallB glass) 45) [] (t + 3) K 0 := by
    rw [show t + 3 = t + 1 + 1 + 1 by omega]
    exact s3
  refine (ltick_c sh e s wd tq q M w _ 3 (by decide) (fun i => match i with | 0 => occ | _ + 1 => occV e) (fun i => match i with | 0 => S | 1 => S1 | 2 => S2 | _ + 3 => S3) (fun i => match i with | 0 => some l | 1 => some (l.go b1) | 2 => some (l.go b2) | _ + 3 => some (l.go b3)) (fun _ => 0) (fun _ => 0) rfl (fun _ _ => rfl) (fun i hi => by omega) (by show 0 ≤ S3.now ∧ S3.now < 100; rw [s3'.now]; omega) h ⟨#[51]⟩ (by decide) (words_ok (by kernel_rfl)) (num_ok (l := [51]) (by decide)) (fun i hi W M1 hA => ?_)).mono ?_
  · rcases (show i = 0 ∨ i = 1 ∨ i = 2 by omega) with rfl | rfl | rfl
    · exact t1 occ W M1 hA
    · exact t2 (occV e) W M1 hA
    · exact t3 (occV e) W M1 hA
  · rintro r w' ⟨rfl, k⟩
    exact ⟨⟨_, rfl⟩, S3, b3, s3', r3, k⟩
theorem nww1 : NW ⟨#[49, 51, 55, 54, 50, 53, 54]⟩ 1376256 := num_ok (l := [49, 51, 55, 54, 50, 53, 54]) (by decide)
theorem stone_ok : WordOk (blkN 1) ∧ WordOk (blkN 5) := ⟨⟨by decide, by decide⟩, ⟨by decide, by decide⟩⟩
end Go.Proofs.YtmbccnioijokfaaGreatDoor

namespace Go.Proofs.YtmbccnioijokfaaGreatDoor
open Go.RowKit Go.Maps
attribute [local go_sem] Oper.semAt_some
theorem alive_c (m : Int) (w : World) (hm : w.cell? ⟨0, 0, none⟩ = some (.int .i64 m)) : Calls Tryz.prog 11 #[] w fun r w' => r = .returned (.bool true) ∧ Below w.heap.size w w' := by
  have HR := run_c m w hm
  rw [show (sayA ++ sayB : ByteArray) = ⟨#[111, 107, 10, 115, 116, 111, 110, 101, 10]⟩ by kernel_rfl] at HR
  have HR' := Lib.hid HR
  clear HR hm
  go_enter Tryz.func11, Tryz.ntmps11
  go_wp2_with (go_at_call 26; refine HR'.out.mono ?_; rintro e_ w1 ⟨rfl, g1⟩; have G1 := Lib.hid g1; clear g1)
  go_returns
  exact ⟨rfl, G1.out⟩
end Go.Proofs.YtmbccnioijokfaaGreatDoor

namespace Go.Proofs.YtmbccnioijokfaaGreatDoor
open Go.RowKit Go.Maps
attribute [local go_sem] Oper.semAt_some
def RwR (N : Nat) (x z : Int) (v : Value) (w : World) : Prop := ∃ b, v = .slice (some ⟨b, 0, none⟩) 2 2 ∧ N ≤ b ∧ Blk w b 3 #[.int .i64 x, .int .i64 z]
def rwR (N : Nat) (x z : Int) : Nat → Rel := fun i v w => match i with | 13 => RwR N x z v w | _ => True
theorem rwR_on {N : Nat} {x z : Int} : ∀ i v (w w' : World), rwR N x z i v w → Below w.heap.size w w' → rwR N x z i v w'
  | 13, _, _, _, ⟨b, h1, h2, h3⟩, hb => ⟨b, h1, h2, h3.on hb⟩
  | 0, _, _, _, _, _ => trivial
  | 1, _, _, _, _, _ => trivial
  | 2, _, _, _, _, _ => trivial
  | 3, _, _, _, _, _ => trivial
  | 4, _, _, _, _, _ => trivial
  | 5, _, _, _, _, _ => trivial
  | 6, _, _, _, _, _ => trivial
  | 7, _, _, _, _, _ => trivial
  | 8, _, _, _, _, _ => trivial
  | 9, _, _, _, _, _ => trivial
  | 10, _, _, _, _, _ => trivial
  | 11, _, _, _, _, _ => trivial
  | 12, _, _, _, _, _ => trivial
  | _ + 14, _, _, _, _, _ => trivial
theorem rw_cells {w : World} {g : Nat} {x z : Int} (h : Blk w g 3 #[.int .i64 x, .int .i64 z]) : ∀ i y, [x, z][i]? = some y → w.cell? ⟨g, i, none⟩ = some (.int .i64 y) := fun i y hy => by
  obtain ⟨c0, c1, -, -⟩ := h.pair
  rcases i with _ | _ | i
  · obtain rfl : x = y := by simpa using hy
    exact c0
  · obtain rfl : z = y := by simpa using hy
    exact c1
  · simp at hy
theorem rem_bd (n : Int) : -100000000 < Int.tmod n 1000000 ∧ Int.tmod n 1000000 < 100000000 := by
  rcases (show 0 ≤ n ∨ n ≤ 0 by omega) with h | h
  · rw [Int.tmod_eq_emod_of_nonneg h]; omega
  · rw [tr_neg h]; omega
theorem row2_sz {x z : Int} (hx : -100000000 < x ∧ x < 100000000) (hz : -100000000 < z ∧ z < 100000000) : (strA (rowW [x, z])).size ≤ 20 := by
  rw [strA_sz]
  exact rowW_len [x, z] (by intro n hn; simp only [List.mem_cons, List.not_mem_nil, or_false] at hn; rcases hn with rfl | rfl <;> assumption)
end Go.Proofs.YtmbccnioijokfaaGreatDoor

namespace Go.Proofs.YtmbccnioijokfaaGreatDoor
open Go.RowKit Go.Maps
attribute [local go_sem] Oper.semAt_some
def WaI (w : World) (sh e s wd t q : Nat) (glass : Bool) (k : Int) (wr : World) : Prop := ∃ (S : SS) (K : Nat) (M : Nat → Prop), Sd S (wallF (wallB glass) k) [] 0 K 0 ∧ (K : Int) ≤ k ∧ ShA sh e s wd t q occ0 S none wr M ∧ (∀ g, M g → w.heap.size ≤ g) ∧ Below w.heap.size w wr
def WbI (w : World) (sh e s wd t q a : Nat) (glass : Bool) (i : Nat) (wr : World) : Prop := ∃ (occ : Value) (S : SS) (K : Nat) (b : BD) (x z : Int) (j : Bool) (M : Nat → Prop), Sd S (wallF (wallB glass) 45) [] (3 * (i : Int)) K 0 ∧ RoomB b ∧ ShA sh e s wd t q occ S (some ⟨a, b, x, z, j⟩) wr M ∧ (∀ g, M g → w.heap.size ≤ g) ∧ Below w.heap.size w wr
theorem rw_cells3 {w : World} {g : Nat} {x y z : Int} (h : Blk w g 3 #[.int .i64 x, .int .i64 y, .int .i64 z]) : ∀ i n, [x, y, z][i]? = some n → w.cell? ⟨g, i, none⟩ = some (.int .i64 n) := fun i n hn => by
  obtain ⟨c0, c1, c2, -, -, -⟩ := h.c3
  rcases i with _ | _ | _ | i
  · obtain rfl : x = n := by simpa using hn
    exact c0
  · obtain rfl : y = n := by simpa using hn
    exact c1
  · obtain rfl : z = n := by simpa using hn
    exact c2
  · simp at hn
theorem row3_sz {x y z : Int} (hx : -100000000 < x ∧ x < 100000000) (hy : -100000000 < y ∧ y < 100000000) (hz : -100000000 < z ∧ z < 100000000) : (strA (rowW [x, y, z])).size ≤ 30 := by
  rw [strA_sz]
  exact rowW_len [x, y, z] (by intro n hn; simp only [List.mem_cons, List.not_mem_nil, or_false] at hn; rcases hn with rfl | rfl | rfl <;> assumption)
theorem wline_false (w : World) (sh e s wd t q : Nat) {x y z : Int} (hc : inWall (x, y, z) = true) (wr W : World) (h : WaI w sh e s wd t q false (idxW (x, y, z)) wr) (hb : Below wr.heap.size wr W) :
    Calls Tryz.prog 9 #[.pointer (some ⟨sh, 0, none⟩), .string (((eq_edit ++ strA (rowW [x, y, z])) ++ eq_sp) ++ ⟨#[115, 116, 111, 110, 101]⟩)] W fun r w' => (∃ o, r = .returned (.string o)) ∧ WaI w sh e s wd t q false (idxW (x, y, z) + 1) w' := by
  obtain ⟨S, K, M, hS, hK, hA, hM, hB⟩ := h
  obtain ⟨hr, -⟩ := inWall_iff.1 hc
  dsimp only at hr
  have hk9 : K ≤ 900 := by
    have : idxW (x, y, z) ≤ 45 := by unfold idxW; dsimp only; omega
    omega
  obtain ⟨S', s', e'⟩ := wall_edit (glass := false) hS hc rfl hk9 e s wd t q
  have hx := (nw_itoa (n := x) (by omega) (by omega)).1
  have hy := (nw_itoa (n := y) (by omega) (by omega)).1
  have hz := (nw_itoa (n := z) (by omega) (by omega)).1
  have hsz := row3_sz (x := x) (y := y) (z := z) (by omega) (by omega) (by omega)
  have hw := edit_words (x := x) (y := y) (z := z) (by omega) (by omega) (by omega) (b := 1) (by first | exact stone_ok.1 | exact stone_ok.2)
  rw [show strA (blkN 1) = (⟨#[115, 116, 111, 110, 101]⟩ : ByteArray) by kernel_rfl] at hw
  have hl : (((eq_edit ++ strA (rowW [x, y, z])) ++ eq_sp) ++ (⟨#[115, 116, 111, 110, 101]⟩ : ByteArray)).size ≤ 1000 := by
    rw [ByteArray.size_append, ByteArray.size_append, ByteArray.size_append]
    have h1 : eq_edit.size = 5 := rfl
    have h2 : eq_sp.size = 1 := rfl
    have h3 : (⟨#[115, 116, 111, 110, 101]⟩ : ByteArray).size = 5 := rfl
    omega
  refine (ledit_c sh e s wd t q occ0 S M W _ none S' ((shA_fit sh e s wd t q occ0 S none).on hA hb) _ _ _ x y z 1 hl (by rw [hw, show strA (blkN 1) = (⟨#[115, 116, 111, 110, 101]⟩ : ByteArray) by kernel_rfl]) hx hy hz (by decide) e').mono ?_
  rintro r w' ⟨rfl, ⟨M', p, m, k⟩⟩
  exact ⟨⟨_, rfl⟩, S', K + 1, M', s', by omega, p, low_on (after hB hb) hM m, kept_low (after hB hb) hM k⟩
theorem wline_true (w : World) (sh e s wd t q : Nat) {x y z : Int} (hc : inWall (x, y, z) = true) (wr W : World) (h : WaI w sh e s wd t q true (idxW (x, y, z)) wr) (hb : Below wr.heap.size wr W) :
    Calls Tryz.prog 9 #[.pointer (some ⟨sh, 0, none⟩), .string (((eq_edit ++ strA (rowW [x, y, z])) ++ eq_sp) ++ ⟨#[103, 108, 97, 115, 115]⟩)] W fun r w' => (∃ o, r = .returned (.string o)) ∧ WaI w sh e s wd t q true (idxW (x, y, z) + 1) w' := by
  obtain ⟨S, K, M, hS, hK, hA, hM, hB⟩ := h
  obtain ⟨hr, -⟩ := inWall_iff.1 hc
  dsimp only at hr
  have hk9 : K ≤ 900 := by
    have : idxW (x, y, z) ≤ 45 := by unfold idxW; dsimp only; omega
    omega
  obtain ⟨S', s', e'⟩ := wall_edit (glass := true) hS hc rfl hk9 e s wd t q
  have hx := (nw_itoa (n := x) (by omega) (by omega)).1
  have hy := (nw_itoa (n := y) (by omega) (by omega)).1
  have hz := (nw_itoa (n := z) (by omega) (by omega)).1
  have hsz := row3_sz (x := x) (y := y) (z := z) (by omega) (by omega) (by omega)
  have hw := edit_words (x := x) (y := y) (z := z) (by omega) (by omega) (by omega) (b := 5) (by first | exact stone_ok.1 | exact stone_ok.2)
  rw [show strA (blkN 5) = (⟨#[103, 108, 97, 115, 115]⟩ : ByteArray) by kernel_rfl] at hw
  have hl : (((eq_edit ++ strA (rowW [x, y, z])) ++ eq_sp) ++ (⟨#[103, 108, 97, 115, 115]⟩ : ByteArray)).size ≤ 1000 := by
    rw [ByteArray.size_append, ByteArray.size_append, ByteArray.size_append]
    have h1 : eq_edit.size = 5 := rfl
    have h2 : eq_sp.size = 1 := rfl
    have h3 : (⟨#[103, 108, 97, 115, 115]⟩ : ByteArray).size = 5 := rfl
    omega
  refine (ledit_c sh e s wd t q occ0 S M W _ none S' ((shA_fit sh e s wd t q occ0 S none).on hA hb) _ _ _ x y z 5 hl (by rw [hw, show strA (blkN 5) = (⟨#[103, 108, 97, 115, 115]⟩ : ByteArray) by kernel_rfl]) hx hy hz (by decide) e').mono ?_
  rintro r w' ⟨rfl, ⟨M', p, m, k⟩⟩
  exact ⟨⟨_, rfl⟩, S', K + 1, M', s', by omega, p, low_on (after hB hb) hM m, kept_low (after hB hb) hM k⟩
theorem WaI.skip {w wr : World} {sh e s wd t q : Nat} {glass : Bool} {x y z : Int} (hr : 4 ≤ x ∧ x ≤ 6 ∧ 20 ≤ y ∧ y ≤ 24 ∧ 4 ≤ z ∧ z ≤ 6) (hc : inWall (x, y, z) = false) (h : WaI w sh e s wd t q glass (idxW (x, y, z)) wr) : WaI w sh e s wd t q glass (idxW (x, y, z) + 1) wr := by
  obtain ⟨S, K, M, hS, hK, hA⟩ := h
  rw [wall_skip hr hc rfl] at hS
  exact ⟨S, K, M, hS, by omega, hA⟩
theorem idx_step {x y z : Int} : idxW (x, y, z) + 1 = idxW (x, y, z + 1) ∧ idxW (x, y, 7) = idxW (x + 1, y, 4) ∧ idxW (7, y, 4) = idxW (4, y + 1, 4) := by
  unfold idxW
  dsimp only
  refine ⟨?_, ?_, ?_⟩ <;> omega
set_option maxRecDepth 100000 in
set_option maxHeartbeats 32000000 in
theorem topwalls_false (seed : Int) (h1 : -9223372036854775808 ≤ seed) (h2 : seed ≤ 9223372036854775807) (A1 : Option Addr) (n1 k1 : Nat) (F1 : Nat → InD) (hnk : n1 ≤ k1) (hkm : k1 ≤ maxLen) (mx : Int) (w : World) (hq : Rws 3 enIn w A1 n1 F1) (hm : w.cell? ⟨0, 0, none⟩ = some (.int .i64 mx)) :
    Calls Tryz.prog 4 #[.int .i64 seed, .slice A1 n1 k1, .bool false] w fun r w' => r = .returned (.bool true) ∧ Below w.heap.size w w' := by
  have hm0 : 0 < w.heap.size := by
    rcases Nat.lt_or_ge 0 w.heap.size with h | h
    · exact h
    · simp [World.cell?, Array.getElem?_eq_none h] at hm
  have HBG := Lib.hid (begin_c seed h1 h2 w)
  have HM := Lib.hid (And.intro hm (And.intro hm0 (And.intro hq (And.intro hnk hkm))))
  clear h1 h2 hm hm0 hq hnk hkm
  go_enter Tryz.func4, Tryz.ntmps4
  go_upto_region 8 with (go_at_call 7; refine HBG.out.mono ?_; rintro e_ w1 ⟨n, sh, e, s, wd, t, q, M1, hn, rfl, p1, m1, b1⟩; have H1 := Lib.hid (show WaI w sh e s wd t q false 0 w1 from ⟨S5 n, 0, M1, by rw [wall_zero]; exact sd5 n, by decide, p1, m1, b1⟩); clear p1 m1 b1 hn)
  go_loopw [9] (fun yv wr => ∃ y : Int, (20 ≤ y ∧ y ≤ 25) ∧ yv = .int .i64 y ∧ Hid (WaI w sh e s wd t q false (idxW (4, y, 4)) wr)) (fun yv _ => (25 - intOf yv).toNat)
  case atStart => exact ⟨20, by omega, rfl, H1⟩
  case round =>
    clear H1
    obtain ⟨y, hy, rfl, hI⟩ := hrel
    by_cases hly : y < 25
    · go_upto_region 11 with (fail)
      go_loopw [10] (fun xv wr => ∃ x : Int, (4 ≤ x ∧ x ≤ 7) ∧ xv = .int .i64 x ∧ Hid (WaI w sh e s wd t q false (idxW (x, y, 4)) wr)) (fun xv _ => (7 - intOf xv).toNat)
      case atStart => exact ⟨4, by omega, rfl, hI⟩
      case round =>
        clear hI
        obtain ⟨x, hx, rfl, hJ⟩ := hrel
        by_cases hlx : x < 7
        · go_upto_region 14 with (fail)
          go_loopw [11] (fun zv wr => ∃ z : Int, (4 ≤ z ∧ z ≤ 7) ∧ zv = .int .i64 z ∧ Hid (WaI w sh e s wd t q false (idxW (x, y, z)) wr)) (fun zv _ => (7 - intOf zv).toNat)
          case atStart => exact ⟨4, by omega, rfl, hJ⟩
          case round =>
            clear hJ
            obtain ⟨z, hz, rfl, hK⟩ := hrel
            by_cases hlz : z < 7
            · have q1 : z + 1 ≤ 9223372036854775807 := by omega
              have q2 : -9223372036854775808 ≤ z + 1 := by omega
              have hway : (y = 20 ∨ (y ≠ 20 ∧ y = 24) ∨ (y ≠ 20 ∧ y ≠ 24 ∧ x ≠ 5) ∨ (y ≠ 20 ∧ y ≠ 24 ∧ x = 5 ∧ z ≠ 5)) ∨ (y ≠ 20 ∧ y ≠ 24 ∧ x = 5 ∧ z = 5) := by omega
              have HR := Lib.hid (And.intro hx (And.intro hy (And.intro hz (And.intro hlx (And.intro hly hlz)))))
              rcases hway with hway | ⟨w1, w2, rfl, rfl⟩
              · have hin : inWall (x, y, z) = true := inWall_iff.2 ⟨⟨hx.1, by show x ≤ 6; omega, hy.1, by show y ≤ 24; omega, hz.1, by show z ≤ 6; omega⟩, by dsimp only; omega⟩
                have HLN := Lib.hid fun W (g : Below wr.heap.size wr W) => wline_false w sh e s wd t q hin wr W hK.out g
                have hrow := Lib.hid fun (g : Nat) (W : World) (hb : Blk W g 3 #[.int .i64 x, .int .i64 y, .int .i64 z]) => row_c [x, y, z] (by simp) (by intro n hn; simp only [List.mem_cons, List.not_mem_nil, or_false] at hn; rcases hn with rfl | rfl | rfl <;> omega) g 3 W hb.lt (rw_cells3 hb)
                have hsz := row3_sz (x := x) (y := y) (z := z) (by omega) (by omega) (by omega)
                generalize hrs : strA (rowW [x, y, z]) = rs at *
                have t1 : (rs.size : Int) ≤ 9223372036854775802 := by omega
                have HTT := Lib.hid (And.intro t1 hsz)
                have HQQ := Lib.hid (And.intro q1 q2)
                clear hin hK hx hy hz hrs hsz t1 q1 q2
                rcases hway with rfl | ⟨w1, rfl⟩ | ⟨w1, w2, w3⟩ | ⟨w1, w2, rfl, w3⟩
                · try (have b1 := (beq_eq_false_iff_ne (a := y) (b := 20)).2 w1)
                  try (have b2 := (beq_eq_false_iff_ne (a := y) (b := 24)).2 w2)
                  try (have b3 : (x != 5) = true := bne_iff_ne.2 w3)
                  try (have b4 : (z != 5) = true := bne_iff_ne.2 w3)
                  go_upto_region 17 with (fail)
                  have t1 := HTT.out.1
                  go_upto_region 15 with first
                    | (go_at_call 12; refine (hrow.out _ _ (Blk.new' rfl)).mono ?_; rintro e_ w5 ⟨rfl, g5⟩; have G5 := Lib.hid (after (bel_alloc _ _) g5); clear g5)
                    | (go_at_call 9; refine (HLN.out _ G5.out).mono ?_; rintro e_ w6 ⟨⟨o6, rfl⟩, hI6⟩; have H6 := Lib.hid hI6; clear hI6)
                  any_goals (exfalso; have h_ := HTT.out.2; omega)
                  clear t1
                  have q1 := HQQ.out.1
                  have q2 := HQQ.out.2
                  go_wp2_with fail
                  go_roundw
                  case rel => exact ⟨z + 1, by have := HR.out; omega, by go_num, by rw [← idx_step.1]; exact H6⟩
                  case measure => have := HR.out; simp [intOf]; omega
                · try (have b1 := (beq_eq_false_iff_ne (a := y) (b := 20)).2 w1)
                  try (have b2 := (beq_eq_false_iff_ne (a := y) (b := 24)).2 w2)
                  try (have b3 : (x != 5) = true := bne_iff_ne.2 w3)
                  try (have b4 : (z != 5) = true := bne_iff_ne.2 w3)
                  go_upto_region 17 with (fail)
                  have t1 := HTT.out.1
                  go_upto_region 15 with first
                    | (go_at_call 12; refine (hrow.out _ _ (Blk.new' rfl)).mono ?_; rintro e_ w5 ⟨rfl, g5⟩; have G5 := Lib.hid (after (bel_alloc _ _) g5); clear g5)
                    | (go_at_call 9; refine (HLN.out _ G5.out).mono ?_; rintro e_ w6 ⟨⟨o6, rfl⟩, hI6⟩; have H6 := Lib.hid hI6; clear hI6)
                  any_goals (exfalso; have h_ := HTT.out.2; omega)
                  clear t1
                  have q1 := HQQ.out.1
                  have q2 := HQQ.out.2
                  go_wp2_with fail
                  go_roundw
                  case rel => exact ⟨z + 1, by have := HR.out; omega, by go_num, by rw [← idx_step.1]; exact H6⟩
                  case measure => have := HR.out; simp [intOf]; omega
                · try (have b1 := (beq_eq_false_iff_ne (a := y) (b := 20)).2 w1)
                  try (have b2 := (beq_eq_false_iff_ne (a := y) (b := 24)).2 w2)
                  try (have b3 : (x != 5) = true := bne_iff_ne.2 w3)
                  try (have b4 : (z != 5) = true := bne_iff_ne.2 w3)
                  go_upto_region 17 with (fail)
                  have t1 := HTT.out.1
                  go_upto_region 15 with first
                    | (go_at_call 12; refine (hrow.out _ _ (Blk.new' rfl)).mono ?_; rintro e_ w5 ⟨rfl, g5⟩; have G5 := Lib.hid (after (bel_alloc _ _) g5); clear g5)
                    | (go_at_call 9; refine (HLN.out _ G5.out).mono ?_; rintro e_ w6 ⟨⟨o6, rfl⟩, hI6⟩; have H6 := Lib.hid hI6; clear hI6)
                  any_goals (exfalso; have h_ := HTT.out.2; omega)
                  clear t1
                  have q1 := HQQ.out.1
                  have q2 := HQQ.out.2
                  go_wp2_with fail
                  go_roundw
                  case rel => exact ⟨z + 1, by have := HR.out; omega, by go_num, by rw [← idx_step.1]; exact H6⟩
                  case measure => have := HR.out; simp [intOf]; omega
                · try (have b1 := (beq_eq_false_iff_ne (a := y) (b := 20)).2 w1)
                  try (have b2 := (beq_eq_false_iff_ne (a := y) (b := 24)).2 w2)
                  try (have b3 : (x != 5) = true := bne_iff_ne.2 w3)
                  try (have b4 : (z != 5) = true := bne_iff_ne.2 w3)
                  go_upto_region 17 with (fail)
                  have t1 := HTT.out.1
                  go_upto_region 15 with first
                    | (go_at_call 12; refine (hrow.out _ _ (Blk.new' rfl)).mono ?_; rintro e_ w5 ⟨rfl, g5⟩; have G5 := Lib.hid (after (bel_alloc _ _) g5); clear g5)
                    | (go_at_call 9; refine (HLN.out _ G5.out).mono ?_; rintro e_ w6 ⟨⟨o6, rfl⟩, hI6⟩; have H6 := Lib.hid hI6; clear hI6)
                  any_goals (exfalso; have h_ := HTT.out.2; omega)
                  clear t1
                  have q1 := HQQ.out.1
                  have q2 := HQQ.out.2
                  go_wp2_with fail
                  go_roundw
                  case rel => exact ⟨z + 1, by have := HR.out; omega, by go_num, by rw [← idx_step.1]; exact H6⟩
                  case measure => have := HR.out; simp [intOf]; omega
              · have hK2 := Lib.hid (WaI.skip (by omega) (by unfold inWall; simp; omega) hK.out)
                clear hK hx hy hz
                try (have b1 := (beq_eq_false_iff_ne (a := y) (b := 20)).2 w1)
                try (have b2 := (beq_eq_false_iff_ne (a := y) (b := 24)).2 w2)
                try (have b3 : (x != 5) = true := bne_iff_ne.2 w3)
                try (have b4 : (z != 5) = true := bne_iff_ne.2 w3)
                go_wp2_with fail
                go_roundw
                case rel => exact ⟨6, by omega, by go_num, by rw [show idxW (5, y, 6) = idxW (5, y, 5) + 1 by unfold idxW; dsimp only; omega]; exact hK2⟩
                case measure => simp [intOf]
            · obtain rfl : z = 7 := by omega
              have q1 : x + 1 ≤ 9223372036854775807 := by omega
              have q2 : -9223372036854775808 ≤ x + 1 := by omega
              go_wp2_with fail
              go_roundw
              case rel => exact ⟨x + 1, by omega, by go_num, by rw [show idxW (x + 1, y, 4) = idxW (x, y, 7) from (idx_step (x := x) (y := y) (z := 0)).2.1.symm]; exact hK⟩
              case measure => simp [intOf]; omega
        · obtain rfl : x = 7 := by omega
          have q1 : y + 1 ≤ 9223372036854775807 := by omega
          have q2 : -9223372036854775808 ≤ y + 1 := by omega
          go_wp2_with fail
          go_roundw
          case rel => exact ⟨y + 1, by omega, by go_num, by rw [show idxW (4, y + 1, 4) = idxW (7, y, 4) from (idx_step (x := 0) (y := y) (z := 0)).2.2.symm]; exact hJ⟩
          case measure => simp [intOf]; omega
    · obtain rfl : y = 25 := by omega
      obtain ⟨S, K, M, hS, -, hA, hML, hB⟩ := hI.out
      rw [show idxW (4, 25, 4) = 45 by decide] at hS
      have HE2 := lspawn_c sh e s wd t q occ0 S M wr ⟨#[115, 112, 97, 119, 110, 32, 51, 54, 48, 52, 52, 56, 32, 49, 51, 55, 54, 50, 53, 54, 32, 51, 54, 48, 52, 52, 56, 32, 52, 48, 48, 48, 48, 32, 49, 48, 48, 48, 48, 48]⟩ hA _ _ _ _ _ 360448 1376256 360448 40000 100000 bodyW (by decide) (words_ok (ws := [⟨#[115, 112, 97, 119, 110]⟩, ⟨#[51, 54, 48, 52, 52, 56]⟩, ⟨#[49, 51, 55, 54, 50, 53, 54]⟩, ⟨#[51, 54, 48, 52, 52, 56]⟩, ⟨#[52, 48, 48, 48, 48]⟩, ⟨#[49, 48, 48, 48, 48, 48]⟩]) (by kernel_rfl)) nwa nww1 nwa nwc nwd (fun W M hA => wspawn_e hS e s wd t q W M hA)
      rw [itoa_0] at HE2
      have HE2' := Lib.hid HE2
      have HAA := Lib.hid (And.intro hS (And.intro hML hB))
      clear HE2 hS hA hML hB hI hy hly
      go_upto_region 21 with (go_at_call 9; refine HE2'.out.mono ?_; rintro e_ w4 ⟨rfl, a, ⟨M4, p4, m4, k4⟩⟩; have H4 := Lib.hid (show WbI w sh e s wd t q a false 0 w4 from ⟨occ0, S, K, bodyW, 0, 0, false, M4, HAA.out.1, room_born, p4, low_on HAA.out.2.2 HAA.out.2.1 m4, kept_low HAA.out.2.2 HAA.out.2.1 k4⟩); clear p4 m4 k4)
      go_loopw [12] (fun iv wr => ∃ i : Nat, i ≤ 20 ∧ i ≤ n1 ∧ iv = .int .i64 i ∧ Hid (WbI w sh e s wd t q a false i wr)) (fun iv _ => 20 - (intOf iv).toNat)
      case atStart => exact ⟨0, by omega, Nat.zero_le _, rfl, H4⟩
      case round =>
        clear H4
        obtain ⟨i, hi, hi1, rfl, hI⟩ := hrel
        by_cases hlt : i < n1 ∧ i < 20
        · have g1 : (i : Int) < (n1 : Int) := by omega
          have g2 : (i : Int) < 20 := by omega
          have g0 : (0 : Int) ≤ (i : Int) := by omega
          obtain ⟨occ, S, K, b, x, z, j, M, hS, hR, hA, hML, hB⟩ := hI.out
          obtain ⟨⟨ix, iz, jj⟩, hin⟩ : ∃ inp, F1 i = inp := ⟨_, rfl⟩
          obtain ⟨gq, oq, rfl, hc0, hc1, hc2⟩ := (HM.out.2.2.1.on hB).in3 hlt.1 hin
          have hrx := rem_bd ix
          have hrz := rem_bd iz
          have hsr := row2_sz hrx hrz
          have hrow := fun (g : Nat) (W : World) (hb : Blk W g 3 #[.int .i64 (Int.tmod ix 1000000), .int .i64 (Int.tmod iz 1000000)]) => row_c [Int.tmod ix 1000000, Int.tmod iz 1000000] (by simp) (by intro y hy; simp only [List.mem_cons, List.not_mem_nil, or_false] at hy; rcases hy with rfl | rfl <;> assumption) g 2 W hb.lt (rw_cells hb)
          have htw := tell_words hrx hrz jj
          have HNX := Lib.hid (And.intro (nw_itoa hrx.1 hrx.2).1 (nw_itoa hrz.1 hrz.2).1)
          have hwx : IntKind.i64.wrap (Int.tmod ix 1000000) = Int.tmod ix 1000000 := IntWalk.i64_in _ (by omega)
          have hwz : IntKind.i64.wrap (Int.tmod iz 1000000) = Int.tmod iz 1000000 := IntWalk.i64_in _ (by omega)
          generalize strA (rowW [Int.tmod ix 1000000, Int.tmod iz 1000000]) = rs at *
          have ht1 : (rs.size : Int) ≤ 9223372036854775800 := by omega
          have ht2 : (7 : Int) + (rs.size : Int) ≤ 9223372036854775805 := by omega
          have ht3 : ((eq_tell0 ++ rs).size : Int) + 1 ≤ 9223372036854775807 := by have : eq_tell0.size = 7 := rfl; simp [ByteArray.size_append]; omega
          have ht4 : (((eq_tell0 ++ rs) ++ eq_sp).size : Int) + 1 ≤ 9223372036854775807 := by have : eq_tell0.size = 7 := rfl; have : eq_sp.size = 1 := rfl; simp [ByteArray.size_append]; omega
          have hls : (((eq_tell0 ++ rs) ++ eq_sp) ++ jA jj).size ≤ 1000 := by
            simp [ByteArray.size_append]
            have h1 : eq_tell0.size = 7 := rfl
            have h2 : eq_sp.size = 1 := rfl
            have h3 : (jA jj).size = 1 := by cases jj <;> rfl
            omega
          have HRW := Lib.hid hrow
          have HTW := Lib.hid (And.intro htw hls)
          have HST := Lib.hid (And.intro hS (And.intro hR (And.intro hA (And.intro hML hB))))
          have HLT := Lib.hid hlt
          have c0 := fun d os => cell_regrown (d := d) (os := os) hc0
          have c1 := fun d os => cell_regrown (d := d) (os := os) hc1
          clear hS hR hA hML hB hin hsr hrow htw hls hlt hrx hrz hc0 hc1 hI
          cases jj
          · go_upto_region 26 with (fail)
            clear hc2
            refine wp_sched [1, 0, 0, 0, 0, 0, 0, 0, 0, 0, 0, 0, 0, 2, 3, 3, 3, 1, 3, 3] (rwR w.heap.size (Int.tmod ix 1000000) (Int.tmod iz 1000000)) (by kernel_rfl) (by kernel_rfl) (rwR_on) ?_
            repeat (first | (refine wpQs_s ?_) | (refine wpQs_q (fun K hK => ?_); go_simp; first | (refine hK _ ?_; clear hK K) | (apply Exists.intro; refine ⟨fun _ => ?_, hK _ ?_⟩; (fail); clear hK K)) | (refine wpQs_f (fun K hK => ?_); go_simp; refine hK _ ?_; clear hK K))
            refine wpQs_nil ?_
            repeat (first | (refine wpLs_skip ?_) | (refine wpLs_one ?lsA (fun v_ => ?_); case lsA => (intro w_ hw_ hp_; ((go_simp; exact ⟨Kept.of_below (bel_alloc _ _), _, rfl, Nat.le_trans HST.out.2.2.2.2.size (msd_kept hw_).size, Blk.new' rfl⟩)))))
            refine wpLs_nilB ?_
            simp only [tails]
            rintro W3 h3 ⟨-, b3, rfl, hn3, hb3⟩
            have G3 := Lib.hid h3
            have HR3 := Lib.hid (HRW.out b3 W3 hb3)
            clear c0 c1 h3 hn3 hb3
            go_upto_region 27 with first
              | (go_at_call 12; refine HR3.out.mono ?_; rintro e_ w5 ⟨rfl, g5⟩; have G5 := Lib.hid (after G3.out g5); clear g5)
              | (go_at_call 9; refine (ltell_c sh e s wd t q occ S M w5 _ ⟨a, b, x, z, j⟩ ((shA_fit sh e s wd t q occ _ _).on HST.out.2.2.1 G5.out) ⟨#[48]⟩ _ _ (Int.tmod ix 1000000) (Int.tmod iz 1000000) false HTW.out.2 HTW.out.1 nw0 HNX.out.1 HNX.out.2).mono ?_; rintro e_ w6 ⟨rfl, ⟨M6, p6, m6, k6⟩⟩; have H6 := Lib.hid (And.intro p6 (And.intro (low_on (after HST.out.2.2.2.2 G5.out) HST.out.2.2.2.1 m6) (kept_low (after HST.out.2.2.2.2 G5.out) HST.out.2.2.2.1 k6))); clear p6 m6 k6)
            clear ht1 ht2 ht3 ht4 hwx hwz
            have HTK := Lib.hid (wtick_l sh e s wd t q HST.out.1 (by have := HLT.out.2; omega) _ HST.out.2.1 occ M6 w6 H6.out.1)
            go_upto_region 28 with (go_at_call 9; refine HTK.out.mono ?_; rintro e_ w7 ⟨⟨o7, rfl⟩, S', b', hS', hR', ⟨M7, p7, m7, k7⟩⟩; have H7 := Lib.hid (And.intro p7 (And.intro (low_on H6.out.2.2 H6.out.2.1 m7) (And.intro (kept_low H6.out.2.2 H6.out.2.1 k7) (And.intro hS' hR')))); clear p7 m7 k7 hS' hR')
            obtain ⟨Me, hs1, hs2, -⟩ := H7.out.1
            have HEN := Lib.hid (lengine_c sh e w7 hs1)
            have HWH := Lib.hid (whole_c e s wd t q (occV e) S' _ Me w7 hs2)
            obtain ⟨Ms, he, -⟩ := hs2
            have HBD := Lib.hid (ebody_c e s wd t q (occV e) S' _ w7 Ms he)
            clear hs1 he
            go_upto_region 30 with first
              | (go_at_call 14; refine HEN.out.mono ?_; rintro e_ w8 ⟨rfl, rfl⟩)
              | (go_at_call 13; refine HWH.out.mono ?_; rintro e_ w9 ⟨rfl, rfl⟩)
            go_upto_region 31 with first
              | (go_at_call 14; refine HEN.out.mono ?_; rintro e_ w8 ⟨rfl, rfl⟩)
              | (go_at_call 15; refine HBD.out.mono ?_; rintro e_ w9 ⟨rfl, g9⟩; have G9 := Lib.hid g9; clear g9)
            have hft := H7.out.2.2.2.2.foot
            have hwb := H7.out.2.2.2.2.wd
            obtain ⟨W8, hW8⟩ : ∃ W8, W8 = w9.alloc (.cells (bd9 b') 40) := ⟨_, rfl⟩
            have B8 := Blk.fresh hW8
            have G10 := Lib.hid (show Below w7.heap.size w7 W8 from after G9.out (by rw [hW8]; exact bel_alloc _ _))
            obtain ⟨f0, f1, f2, -, -, -, -, -, -⟩ := B8.c9.1
            have HOF := fun W => cellof_c b'.1 b'.2.1 b'.2.2.1 W
            rw [hft.1, hft.2.1] at HOF
            have hy1 := hft.2.2.1
            have hy2 := hft.2.2.2.1
            generalize lowI b'.2.1 = yy at HOF hy1 hy2
            have HOF' := Lib.hid HOF
            rw [← hW8]
            clear hW8 B8 HOF hft hwb
            go_upto_region 32 with (go_at_call 16; refine (HOF'.out _).mono ?_; rintro e_ w10 ⟨rfl, g10⟩; have G11 := Lib.hid (after G10.out g10); clear g10)
            obtain ⟨W11, hW11⟩ : ∃ W11, W11 = w10.alloc (.cells #[.int .i64 5, .int .i64 yy, .int .i64 5] 43) := ⟨_, rfl⟩
            obtain ⟨c0, c1, c2, -, -, -⟩ := (Blk.fresh hW11).c3
            have G12 := Lib.hid (show Below w7.heap.size w7 W11 from after G11.out (by rw [hW11]; exact bel_alloc _ _))
            rw [← hW11]
            have hF : WbI w sh e s wd t q a false (i + 1) W11 := ⟨occV e, S', K, b', _, _, _, M7, by rw [show (3 * ((i + 1 : Nat) : Int)) = 3 * (i : Int) + 3 by omega]; exact H7.out.2.2.2.1, H7.out.2.2.2.2, (shA_fit sh e s wd t q (occV e) S' _).on H7.out.1 G12.out, H7.out.2.1, after H7.out.2.2.1 G12.out⟩
            have HF := Lib.hid hF
            clear hW11 f0 f1 f2 hF
            go_wp2_with fail
            go_roundw
            case rel => exact ⟨i + 1, HLT.out.2, HLT.out.1, by go_num, HF⟩
            case measure => have := HLT.out.2; simp [intOf]; omega
          · go_upto_region 26 with (fail)
            clear hc2
            refine wp_sched [1, 0, 0, 0, 0, 0, 0, 0, 0, 0, 0, 0, 0, 2, 3, 3, 3, 1, 3, 3] (rwR w.heap.size (Int.tmod ix 1000000) (Int.tmod iz 1000000)) (by kernel_rfl) (by kernel_rfl) (rwR_on) ?_
            repeat (first | (refine wpQs_s ?_) | (refine wpQs_q (fun K hK => ?_); go_simp; first | (refine hK _ ?_; clear hK K) | (apply Exists.intro; refine ⟨fun _ => ?_, hK _ ?_⟩; (fail); clear hK K)) | (refine wpQs_f (fun K hK => ?_); go_simp; refine hK _ ?_; clear hK K))
            refine wpQs_nil ?_
            repeat (first | (refine wpLs_skip ?_) | (refine wpLs_one ?lsA (fun v_ => ?_); case lsA => (intro w_ hw_ hp_; ((go_simp; exact ⟨Kept.of_below (bel_alloc _ _), _, rfl, Nat.le_trans HST.out.2.2.2.2.size (msd_kept hw_).size, Blk.new' rfl⟩)))))
            refine wpLs_nilB ?_
            simp only [tails]
            rintro W3 h3 ⟨-, b3, rfl, hn3, hb3⟩
            have G3 := Lib.hid h3
            have HR3 := Lib.hid (HRW.out b3 W3 hb3)
            clear c0 c1 h3 hn3 hb3
            go_upto_region 27 with first
              | (go_at_call 12; refine HR3.out.mono ?_; rintro e_ w5 ⟨rfl, g5⟩; have G5 := Lib.hid (after G3.out g5); clear g5)
              | (go_at_call 9; refine (ltell_c sh e s wd t q occ S M w5 _ ⟨a, b, x, z, j⟩ ((shA_fit sh e s wd t q occ _ _).on HST.out.2.2.1 G5.out) ⟨#[48]⟩ _ _ (Int.tmod ix 1000000) (Int.tmod iz 1000000) true HTW.out.2 HTW.out.1 nw0 HNX.out.1 HNX.out.2).mono ?_; rintro e_ w6 ⟨rfl, ⟨M6, p6, m6, k6⟩⟩; have H6 := Lib.hid (And.intro p6 (And.intro (low_on (after HST.out.2.2.2.2 G5.out) HST.out.2.2.2.1 m6) (kept_low (after HST.out.2.2.2.2 G5.out) HST.out.2.2.2.1 k6))); clear p6 m6 k6)
            clear ht1 ht2 ht3 ht4 hwx hwz
            have HTK := Lib.hid (wtick_l sh e s wd t q HST.out.1 (by have := HLT.out.2; omega) _ HST.out.2.1 occ M6 w6 H6.out.1)
            go_upto_region 28 with (go_at_call 9; refine HTK.out.mono ?_; rintro e_ w7 ⟨⟨o7, rfl⟩, S', b', hS', hR', ⟨M7, p7, m7, k7⟩⟩; have H7 := Lib.hid (And.intro p7 (And.intro (low_on H6.out.2.2 H6.out.2.1 m7) (And.intro (kept_low H6.out.2.2 H6.out.2.1 k7) (And.intro hS' hR')))); clear p7 m7 k7 hS' hR')
            obtain ⟨Me, hs1, hs2, -⟩ := H7.out.1
            have HEN := Lib.hid (lengine_c sh e w7 hs1)
            have HWH := Lib.hid (whole_c e s wd t q (occV e) S' _ Me w7 hs2)
            obtain ⟨Ms, he, -⟩ := hs2
            have HBD := Lib.hid (ebody_c e s wd t q (occV e) S' _ w7 Ms he)
            clear hs1 he
            go_upto_region 30 with first
              | (go_at_call 14; refine HEN.out.mono ?_; rintro e_ w8 ⟨rfl, rfl⟩)
              | (go_at_call 13; refine HWH.out.mono ?_; rintro e_ w9 ⟨rfl, rfl⟩)
            go_upto_region 31 with first
              | (go_at_call 14; refine HEN.out.mono ?_; rintro e_ w8 ⟨rfl, rfl⟩)
              | (go_at_call 15; refine HBD.out.mono ?_; rintro e_ w9 ⟨rfl, g9⟩; have G9 := Lib.hid g9; clear g9)
            have hft := H7.out.2.2.2.2.foot
            have hwb := H7.out.2.2.2.2.wd
            obtain ⟨W8, hW8⟩ : ∃ W8, W8 = w9.alloc (.cells (bd9 b') 40) := ⟨_, rfl⟩
            have B8 := Blk.fresh hW8
            have G10 := Lib.hid (show Below w7.heap.size w7 W8 from after G9.out (by rw [hW8]; exact bel_alloc _ _))
            obtain ⟨f0, f1, f2, -, -, -, -, -, -⟩ := B8.c9.1
            have HOF := fun W => cellof_c b'.1 b'.2.1 b'.2.2.1 W
            rw [hft.1, hft.2.1] at HOF
            have hy1 := hft.2.2.1
            have hy2 := hft.2.2.2.1
            generalize lowI b'.2.1 = yy at HOF hy1 hy2
            have HOF' := Lib.hid HOF
            rw [← hW8]
            clear hW8 B8 HOF hft hwb
            go_upto_region 32 with (go_at_call 16; refine (HOF'.out _).mono ?_; rintro e_ w10 ⟨rfl, g10⟩; have G11 := Lib.hid (after G10.out g10); clear g10)
            obtain ⟨W11, hW11⟩ : ∃ W11, W11 = w10.alloc (.cells #[.int .i64 5, .int .i64 yy, .int .i64 5] 43) := ⟨_, rfl⟩
            obtain ⟨c0, c1, c2, -, -, -⟩ := (Blk.fresh hW11).c3
            have G12 := Lib.hid (show Below w7.heap.size w7 W11 from after G11.out (by rw [hW11]; exact bel_alloc _ _))
            rw [← hW11]
            have hF : WbI w sh e s wd t q a false (i + 1) W11 := ⟨occV e, S', K, b', _, _, _, M7, by rw [show (3 * ((i + 1 : Nat) : Int)) = 3 * (i : Int) + 3 by omega]; exact H7.out.2.2.2.1, H7.out.2.2.2.2, (shA_fit sh e s wd t q (occV e) S' _).on H7.out.1 G12.out, H7.out.2.1, after H7.out.2.2.1 G12.out⟩
            have HF := Lib.hid hF
            clear hW11 f0 f1 f2 hF
            go_wp2_with fail
            go_roundw
            case rel => exact ⟨i + 1, HLT.out.2, HLT.out.1, by go_num, HF⟩
            case measure => have := HLT.out.2; simp [intOf]; omega
        · obtain ⟨occ, S, K, b, x, z, j, M, hS, hR, hA, hML, hB⟩ := hI.out
          have HST := Lib.hid hB
          have hdone : ¬ ((i : Int) < (n1 : Int)) ∨ ((i : Int) < (n1 : Int) ∧ ¬ ((i : Int) < 20)) := by omega
          have HAL := Lib.hid (alive_c mx wr (by rw [Below.cell hB HM.out.2.1]; exact HM.out.1))
          clear hS hR hA hML hB hlt hI
          rcases hdone with g1 | ⟨g1, g2⟩
          · go_wp2_with (go_at_call 11; refine HAL.out.mono ?_; rintro e_ w10 ⟨rfl, g10⟩; have G10 := Lib.hid g10; clear g10)
            go_returns
            exact ⟨rfl, after HST.out G10.out⟩
          · go_wp2_with (go_at_call 11; refine HAL.out.mono ?_; rintro e_ w10 ⟨rfl, g10⟩; have G10 := Lib.hid g10; clear g10)
            go_returns
            exact ⟨rfl, after HST.out G10.out⟩
set_option maxRecDepth 100000 in
set_option maxHeartbeats 32000000 in
theorem topwalls_true (seed : Int) (h1 : -9223372036854775808 ≤ seed) (h2 : seed ≤ 9223372036854775807) (A1 : Option Addr) (n1 k1 : Nat) (F1 : Nat → InD) (hnk : n1 ≤ k1) (hkm : k1 ≤ maxLen) (mx : Int) (w : World) (hq : Rws 3 enIn w A1 n1 F1) (hm : w.cell? ⟨0, 0, none⟩ = some (.int .i64 mx)) :
    Calls Tryz.prog 4 #[.int .i64 seed, .slice A1 n1 k1, .bool true] w fun r w' => r = .returned (.bool true) ∧ Below w.heap.size w w' := by
  have hm0 : 0 < w.heap.size := by
    rcases Nat.lt_or_ge 0 w.heap.size with h | h
    · exact h
    · simp [World.cell?, Array.getElem?_eq_none h] at hm
  have HBG := Lib.hid (begin_c seed h1 h2 w)
  have HM := Lib.hid (And.intro hm (And.intro hm0 (And.intro hq (And.intro hnk hkm))))
  clear h1 h2 hm hm0 hq hnk hkm
  go_enter Tryz.func4, Tryz.ntmps4
  go_upto_region 8 with (go_at_call 7; refine HBG.out.mono ?_; rintro e_ w1 ⟨n, sh, e, s, wd, t, q, M1, hn, rfl, p1, m1, b1⟩; have H1 := Lib.hid (show WaI w sh e s wd t q true 0 w1 from ⟨S5 n, 0, M1, by rw [wall_zero]; exact sd5 n, by decide, p1, m1, b1⟩); clear p1 m1 b1 hn)
  go_loopw [9] (fun yv wr => ∃ y : Int, (20 ≤ y ∧ y ≤ 25) ∧ yv = .int .i64 y ∧ Hid (WaI w sh e s wd t q true (idxW (4, y, 4)) wr)) (fun yv _ => (25 - intOf yv).toNat)
  case atStart => exact ⟨20, by omega, rfl, H1⟩
  case round =>
    clear H1
    obtain ⟨y, hy, rfl, hI⟩ := hrel
    by_cases hly : y < 25
    · go_upto_region 11 with (fail)
      go_loopw [10] (fun xv wr => ∃ x : Int, (4 ≤ x ∧ x ≤ 7) ∧ xv = .int .i64 x ∧ Hid (WaI w sh e s wd t q true (idxW (x, y, 4)) wr)) (fun xv _ => (7 - intOf xv).toNat)
      case atStart => exact ⟨4, by omega, rfl, hI⟩
      case round =>
        clear hI
        obtain ⟨x, hx, rfl, hJ⟩ := hrel
        by_cases hlx : x < 7
        · go_upto_region 14 with (fail)
          go_loopw [11] (fun zv wr => ∃ z : Int, (4 ≤ z ∧ z ≤ 7) ∧ zv = .int .i64 z ∧ Hid (WaI w sh e s wd t q true (idxW (x, y, z)) wr)) (fun zv _ => (7 - intOf zv).toNat)
          case atStart => exact ⟨4, by omega, rfl, hJ⟩
          case round =>
            clear hJ
            obtain ⟨z, hz, rfl, hK⟩ := hrel
            by_cases hlz : z < 7
            · have q1 : z + 1 ≤ 9223372036854775807 := by omega
              have q2 : -9223372036854775808 ≤ z + 1 := by omega
              have hway : (y = 20 ∨ (y ≠ 20 ∧ y = 24) ∨ (y ≠ 20 ∧ y ≠ 24 ∧ x ≠ 5) ∨ (y ≠ 20 ∧ y ≠ 24 ∧ x = 5 ∧ z ≠ 5)) ∨ (y ≠ 20 ∧ y ≠ 24 ∧ x = 5 ∧ z = 5) := by omega
              have HR := Lib.hid (And.intro hx (And.intro hy (And.intro hz (And.intro hlx (And.intro hly hlz)))))
              rcases hway with hway | ⟨w1, w2, rfl, rfl⟩
              · have hin : inWall (x, y, z) = true := inWall_iff.2 ⟨⟨hx.1, by show x ≤ 6; omega, hy.1, by show y ≤ 24; omega, hz.1, by show z ≤ 6; omega⟩, by dsimp only; omega⟩
                have HLN := Lib.hid fun W (g : Below wr.heap.size wr W) => wline_true w sh e s wd t q hin wr W hK.out g
                have hrow := Lib.hid fun (g : Nat) (W : World) (hb : Blk W g 3 #[.int .i64 x, .int .i64 y, .int .i64 z]) => row_c [x, y, z] (by simp) (by intro n hn; simp only [List.mem_cons, List.not_mem_nil, or_false] at hn; rcases hn with rfl | rfl | rfl <;> omega) g 3 W hb.lt (rw_cells3 hb)
                have hsz := row3_sz (x := x) (y := y) (z := z) (by omega) (by omega) (by omega)
                generalize hrs : strA (rowW [x, y, z]) = rs at *
                have t1 : (rs.size : Int) ≤ 9223372036854775802 := by omega
                have HTT := Lib.hid (And.intro t1 hsz)
                have HQQ := Lib.hid (And.intro q1 q2)
                clear hin hK hx hy hz hrs hsz t1 q1 q2
                rcases hway with rfl | ⟨w1, rfl⟩ | ⟨w1, w2, w3⟩ | ⟨w1, w2, rfl, w3⟩
                · try (have b1 := (beq_eq_false_iff_ne (a := y) (b := 20)).2 w1)
                  try (have b2 := (beq_eq_false_iff_ne (a := y) (b := 24)).2 w2)
                  try (have b3 : (x != 5) = true := bne_iff_ne.2 w3)
                  try (have b4 : (z != 5) = true := bne_iff_ne.2 w3)
                  go_upto_region 17 with (fail)
                  have t1 := HTT.out.1
                  go_upto_region 15 with first
                    | (go_at_call 12; refine (hrow.out _ _ (Blk.new' rfl)).mono ?_; rintro e_ w5 ⟨rfl, g5⟩; have G5 := Lib.hid (after (bel_alloc _ _) g5); clear g5)
                    | (go_at_call 9; refine (HLN.out _ G5.out).mono ?_; rintro e_ w6 ⟨⟨o6, rfl⟩, hI6⟩; have H6 := Lib.hid hI6; clear hI6)
                  any_goals (exfalso; have h_ := HTT.out.2; omega)
                  clear t1
                  have q1 := HQQ.out.1
                  have q2 := HQQ.out.2
                  go_wp2_with fail
                  go_roundw
                  case rel => exact ⟨z + 1, by have := HR.out; omega, by go_num, by rw [← idx_step.1]; exact H6⟩
                  case measure => have := HR.out; simp [intOf]; omega
                · try (have b1 := (beq_eq_false_iff_ne (a := y) (b := 20)).2 w1)
                  try (have b2 := (beq_eq_false_iff_ne (a := y) (b := 24)).2 w2)
                  try (have b3 : (x != 5) = true := bne_iff_ne.2 w3)
                  try (have b4 : (z != 5) = true := bne_iff_ne.2 w3)
                  go_upto_region 17 with (fail)
                  have t1 := HTT.out.1
                  go_upto_region 15 with first
                    | (go_at_call 12; refine (hrow.out _ _ (Blk.new' rfl)).mono ?_; rintro e_ w5 ⟨rfl, g5⟩; have G5 := Lib.hid (after (bel_alloc _ _) g5); clear g5)
                    | (go_at_call 9; refine (HLN.out _ G5.out).mono ?_; rintro e_ w6 ⟨⟨o6, rfl⟩, hI6⟩; have H6 := Lib.hid hI6; clear hI6)
                  any_goals (exfalso; have h_ := HTT.out.2; omega)
                  clear t1
                  have q1 := HQQ.out.1
                  have q2 := HQQ.out.2
                  go_wp2_with fail
                  go_roundw
                  case rel => exact ⟨z + 1, by have := HR.out; omega, by go_num, by rw [← idx_step.1]; exact H6⟩
                  case measure => have := HR.out; simp [intOf]; omega
                · try (have b1 := (beq_eq_false_iff_ne (a := y) (b := 20)).2 w1)
                  try (have b2 := (beq_eq_false_iff_ne (a := y) (b := 24)).2 w2)
                  try (have b3 : (x != 5) = true := bne_iff_ne.2 w3)
                  try (have b4 : (z != 5) = true := bne_iff_ne.2 w3)
                  go_upto_region 17 with (fail)
                  have t1 := HTT.out.1
                  go_upto_region 15 with first
                    | (go_at_call 12; refine (hrow.out _ _ (Blk.new' rfl)).mono ?_; rintro e_ w5 ⟨rfl, g5⟩; have G5 := Lib.hid (after (bel_alloc _ _) g5); clear g5)
                    | (go_at_call 9; refine (HLN.out _ G5.out).mono ?_; rintro e_ w6 ⟨⟨o6, rfl⟩, hI6⟩; have H6 := Lib.hid hI6; clear hI6)
                  any_goals (exfalso; have h_ := HTT.out.2; omega)
                  clear t1
                  have q1 := HQQ.out.1
                  have q2 := HQQ.out.2
                  go_wp2_with fail
                  go_roundw
                  case rel => exact ⟨z + 1, by have := HR.out; omega, by go_num, by rw [← idx_step.1]; exact H6⟩
                  case measure => have := HR.out; simp [intOf]; omega
                · try (have b1 := (beq_eq_false_iff_ne (a := y) (b := 20)).2 w1)
                  try (have b2 := (beq_eq_false_iff_ne (a := y) (b := 24)).2 w2)
                  try (have b3 : (x != 5) = true := bne_iff_ne.2 w3)
                  try (have b4 : (z != 5) = true := bne_iff_ne.2 w3)
                  go_upto_region 17 with (fail)
                  have t1 := HTT.out.1
                  go_upto_region 15 with first
                    | (go_at_call 12; refine (hrow.out _ _ (Blk.new' rfl)).mono ?_; rintro e_ w5 ⟨rfl, g5⟩; have G5 := Lib.hid (after (bel_alloc _ _) g5); clear g5)
                    | (go_at_call 9; refine (HLN.out _ G5.out).mono ?_; rintro e_ w6 ⟨⟨o6, rfl⟩, hI6⟩; have H6 := Lib.hid hI6; clear hI6)
                  any_goals (exfalso; have h_ := HTT.out.2; omega)
                  clear t1
                  have q1 := HQQ.out.1
                  have q2 := HQQ.out.2
                  go_wp2_with fail
                  go_roundw
                  case rel => exact ⟨z + 1, by have := HR.out; omega, by go_num, by rw [← idx_step.1]; exact H6⟩
                  case measure => have := HR.out; simp [intOf]; omega
              · have hK2 := Lib.hid (WaI.skip (by omega) (by unfold inWall; simp; omega) hK.out)
                clear hK hx hy hz
                try (have b1 := (beq_eq_false_iff_ne (a := y) (b := 20)).2 w1)
                try (have b2 := (beq_eq_false_iff_ne (a := y) (b := 24)).2 w2)
                try (have b3 : (x != 5) = true := bne_iff_ne.2 w3)
                try (have b4 : (z != 5) = true := bne_iff_ne.2 w3)
                go_wp2_with fail
                go_roundw
                case rel => exact ⟨6, by omega, by go_num, by rw [show idxW (5, y, 6) = idxW (5, y, 5) + 1 by unfold idxW; dsimp only; omega]; exact hK2⟩
                case measure => simp [intOf]
            · obtain rfl : z = 7 := by omega
              have q1 : x + 1 ≤ 9223372036854775807 := by omega
              have q2 : -9223372036854775808 ≤ x + 1 := by omega
              go_wp2_with fail
              go_roundw
              case rel => exact ⟨x + 1, by omega, by go_num, by rw [show idxW (x + 1, y, 4) = idxW (x, y, 7) from (idx_step (x := x) (y := y) (z := 0)).2.1.symm]; exact hK⟩
              case measure => simp [intOf]; omega
        · obtain rfl : x = 7 := by omega
          have q1 : y + 1 ≤ 9223372036854775807 := by omega
          have q2 : -9223372036854775808 ≤ y + 1 := by omega
          go_wp2_with fail
          go_roundw
          case rel => exact ⟨y + 1, by omega, by go_num, by rw [show idxW (4, y + 1, 4) = idxW (7, y, 4) from (idx_step (x := 0) (y := y) (z := 0)).2.2.symm]; exact hJ⟩
          case measure => simp [intOf]; omega
    · obtain rfl : y = 25 := by omega
      obtain ⟨S, K, M, hS, -, hA, hML, hB⟩ := hI.out
      rw [show idxW (4, 25, 4) = 45 by decide] at hS
      have HE2 := lspawn_c sh e s wd t q occ0 S M wr ⟨#[115, 112, 97, 119, 110, 32, 51, 54, 48, 52, 52, 56, 32, 49, 51, 55, 54, 50, 53, 54, 32, 51, 54, 48, 52, 52, 56, 32, 52, 48, 48, 48, 48, 32, 49, 48, 48, 48, 48, 48]⟩ hA _ _ _ _ _ 360448 1376256 360448 40000 100000 bodyW (by decide) (words_ok (ws := [⟨#[115, 112, 97, 119, 110]⟩, ⟨#[51, 54, 48, 52, 52, 56]⟩, ⟨#[49, 51, 55, 54, 50, 53, 54]⟩, ⟨#[51, 54, 48, 52, 52, 56]⟩, ⟨#[52, 48, 48, 48, 48]⟩, ⟨#[49, 48, 48, 48, 48, 48]⟩]) (by kernel_rfl)) nwa nww1 nwa nwc nwd (fun W M hA => wspawn_e hS e s wd t q W M hA)
      rw [itoa_0] at HE2
      have HE2' := Lib.hid HE2
      have HAA := Lib.hid (And.intro hS (And.intro hML hB))
      clear HE2 hS hA hML hB hI hy hly
      go_upto_region 21 with (go_at_call 9; refine HE2'.out.mono ?_; rintro e_ w4 ⟨rfl, a, ⟨M4, p4, m4, k4⟩⟩; have H4 := Lib.hid (show WbI w sh e s wd t q a true 0 w4 from ⟨occ0, S, K, bodyW, 0, 0, false, M4, HAA.out.1, room_born, p4, low_on HAA.out.2.2 HAA.out.2.1 m4, kept_low HAA.out.2.2 HAA.out.2.1 k4⟩); clear p4 m4 k4)
      go_loopw [12] (fun iv wr => ∃ i : Nat, i ≤ 20 ∧ i ≤ n1 ∧ iv = .int .i64 i ∧ Hid (WbI w sh e s wd t q a true i wr)) (fun iv _ => 20 - (intOf iv).toNat)
      case atStart => exact ⟨0, by omega, Nat.zero_le _, rfl, H4⟩
      case round =>
        clear H4
        obtain ⟨i, hi, hi1, rfl, hI⟩ := hrel
        by_cases hlt : i < n1 ∧ i < 20
        · have g1 : (i : Int) < (n1 : Int) := by omega
          have g2 : (i : Int) < 20 := by omega
          have g0 : (0 : Int) ≤ (i : Int) := by omega
          obtain ⟨occ, S, K, b, x, z, j, M, hS, hR, hA, hML, hB⟩ := hI.out
          obtain ⟨⟨ix, iz, jj⟩, hin⟩ : ∃ inp, F1 i = inp := ⟨_, rfl⟩
          obtain ⟨gq, oq, rfl, hc0, hc1, hc2⟩ := (HM.out.2.2.1.on hB).in3 hlt.1 hin
          have hrx := rem_bd ix
          have hrz := rem_bd iz
          have hsr := row2_sz hrx hrz
          have hrow := fun (g : Nat) (W : World) (hb : Blk W g 3 #[.int .i64 (Int.tmod ix 1000000), .int .i64 (Int.tmod iz 1000000)]) => row_c [Int.tmod ix 1000000, Int.tmod iz 1000000] (by simp) (by intro y hy; simp only [List.mem_cons, List.not_mem_nil, or_false] at hy; rcases hy with rfl | rfl <;> assumption) g 2 W hb.lt (rw_cells hb)
          have htw := tell_words hrx hrz jj
          have HNX := Lib.hid (And.intro (nw_itoa hrx.1 hrx.2).1 (nw_itoa hrz.1 hrz.2).1)
          have hwx : IntKind.i64.wrap (Int.tmod ix 1000000) = Int.tmod ix 1000000 := IntWalk.i64_in _ (by omega)
          have hwz : IntKind.i64.wrap (Int.tmod iz 1000000) = Int.tmod iz 1000000 := IntWalk.i64_in _ (by omega)
          generalize strA (rowW [Int.tmod ix 1000000, Int.tmod iz 1000000]) = rs at *
          have ht1 : (rs.size : Int) ≤ 9223372036854775800 := by omega
          have ht2 : (7 : Int) + (rs.size : Int) ≤ 9223372036854775805 := by omega
          have ht3 : ((eq_tell0 ++ rs).size : Int) + 1 ≤ 9223372036854775807 := by have : eq_tell0.size = 7 := rfl; simp [ByteArray.size_append]; omega
          have ht4 : (((eq_tell0 ++ rs) ++ eq_sp).size : Int) + 1 ≤ 9223372036854775807 := by have : eq_tell0.size = 7 := rfl; have : eq_sp.size = 1 := rfl; simp [ByteArray.size_append]; omega
          have hls : (((eq_tell0 ++ rs) ++ eq_sp) ++ jA jj).size ≤ 1000 := by
            simp [ByteArray.size_append]
            have h1 : eq_tell0.size = 7 := rfl
            have h2 : eq_sp.size = 1 := rfl
            have h3 : (jA jj).size = 1 := by cases jj <;> rfl
            omega
          have HRW := Lib.hid hrow
          have HTW := Lib.hid (And.intro htw hls)
          have HST := Lib.hid (And.intro hS (And.intro hR (And.intro hA (And.intro hML hB))))
          have HLT := Lib.hid hlt
          have c0 := fun d os => cell_regrown (d := d) (os := os) hc0
          have c1 := fun d os => cell_regrown (d := d) (os := os) hc1
          clear hS hR hA hML hB hin hsr hrow htw hls hlt hrx hrz hc0 hc1 hI
          cases jj
          · go_upto_region 26 with (fail)
            clear hc2
            refine wp_sched [1, 0, 0, 0, 0, 0, 0, 0, 0, 0, 0, 0, 0, 2, 3, 3, 3, 1, 3, 3] (rwR w.heap.size (Int.tmod ix 1000000) (Int.tmod iz 1000000)) (by kernel_rfl) (by kernel_rfl) (rwR_on) ?_
            repeat (first | (refine wpQs_s ?_) | (refine wpQs_q (fun K hK => ?_); go_simp; first | (refine hK _ ?_; clear hK K) | (apply Exists.intro; refine ⟨fun _ => ?_, hK _ ?_⟩; (fail); clear hK K)) | (refine wpQs_f (fun K hK => ?_); go_simp; refine hK _ ?_; clear hK K))
            refine wpQs_nil ?_
            repeat (first | (refine wpLs_skip ?_) | (refine wpLs_one ?lsA (fun v_ => ?_); case lsA => (intro w_ hw_ hp_; ((go_simp; exact ⟨Kept.of_below (bel_alloc _ _), _, rfl, Nat.le_trans HST.out.2.2.2.2.size (msd_kept hw_).size, Blk.new' rfl⟩)))))
            refine wpLs_nilB ?_
            simp only [tails]
            rintro W3 h3 ⟨-, b3, rfl, hn3, hb3⟩
            have G3 := Lib.hid h3
            have HR3 := Lib.hid (HRW.out b3 W3 hb3)
            clear c0 c1 h3 hn3 hb3
            go_upto_region 27 with first
              | (go_at_call 12; refine HR3.out.mono ?_; rintro e_ w5 ⟨rfl, g5⟩; have G5 := Lib.hid (after G3.out g5); clear g5)
              | (go_at_call 9; refine (ltell_c sh e s wd t q occ S M w5 _ ⟨a, b, x, z, j⟩ ((shA_fit sh e s wd t q occ _ _).on HST.out.2.2.1 G5.out) ⟨#[48]⟩ _ _ (Int.tmod ix 1000000) (Int.tmod iz 1000000) false HTW.out.2 HTW.out.1 nw0 HNX.out.1 HNX.out.2).mono ?_; rintro e_ w6 ⟨rfl, ⟨M6, p6, m6, k6⟩⟩; have H6 := Lib.hid (And.intro p6 (And.intro (low_on (after HST.out.2.2.2.2 G5.out) HST.out.2.2.2.1 m6) (kept_low (after HST.out.2.2.2.2 G5.out) HST.out.2.2.2.1 k6))); clear p6 m6 k6)
            clear ht1 ht2 ht3 ht4 hwx hwz
            have HTK := Lib.hid (wtick_l sh e s wd t q HST.out.1 (by have := HLT.out.2; omega) _ HST.out.2.1 occ M6 w6 H6.out.1)
            go_upto_region 28 with (go_at_call 9; refine HTK.out.mono ?_; rintro e_ w7 ⟨⟨o7, rfl⟩, S', b', hS', hR', ⟨M7, p7, m7, k7⟩⟩; have H7 := Lib.hid (And.intro p7 (And.intro (low_on H6.out.2.2 H6.out.2.1 m7) (And.intro (kept_low H6.out.2.2 H6.out.2.1 k7) (And.intro hS' hR')))); clear p7 m7 k7 hS' hR')
            obtain ⟨Me, hs1, hs2, -⟩ := H7.out.1
            have HEN := Lib.hid (lengine_c sh e w7 hs1)
            have HWH := Lib.hid (whole_c e s wd t q (occV e) S' _ Me w7 hs2)
            obtain ⟨Ms, he, -⟩ := hs2
            have HBD := Lib.hid (ebody_c e s wd t q (occV e) S' _ w7 Ms he)
            clear hs1 he
            go_upto_region 30 with first
              | (go_at_call 14; refine HEN.out.mono ?_; rintro e_ w8 ⟨rfl, rfl⟩)
              | (go_at_call 13; refine HWH.out.mono ?_; rintro e_ w9 ⟨rfl, rfl⟩)
            go_upto_region 31 with first
              | (go_at_call 14; refine HEN.out.mono ?_; rintro e_ w8 ⟨rfl, rfl⟩)
              | (go_at_call 15; refine HBD.out.mono ?_; rintro e_ w9 ⟨rfl, g9⟩; have G9 := Lib.hid g9; clear g9)
            have hft := H7.out.2.2.2.2.foot
            have hwb := H7.out.2.2.2.2.wd
            obtain ⟨W8, hW8⟩ : ∃ W8, W8 = w9.alloc (.cells (bd9 b') 40) := ⟨_, rfl⟩
            have B8 := Blk.fresh hW8
            have G10 := Lib.hid (show Below w7.heap.size w7 W8 from after G9.out (by rw [hW8]; exact bel_alloc _ _))
            obtain ⟨f0, f1, f2, -, -, -, -, -, -⟩ := B8.c9.1
            have HOF := fun W => cellof_c b'.1 b'.2.1 b'.2.2.1 W
            rw [hft.1, hft.2.1] at HOF
            have hy1 := hft.2.2.1
            have hy2 := hft.2.2.2.1
            generalize lowI b'.2.1 = yy at HOF hy1 hy2
            have HOF' := Lib.hid HOF
            rw [← hW8]
            clear hW8 B8 HOF hft hwb
            go_upto_region 32 with (go_at_call 16; refine (HOF'.out _).mono ?_; rintro e_ w10 ⟨rfl, g10⟩; have G11 := Lib.hid (after G10.out g10); clear g10)
            obtain ⟨W11, hW11⟩ : ∃ W11, W11 = w10.alloc (.cells #[.int .i64 5, .int .i64 yy, .int .i64 5] 43) := ⟨_, rfl⟩
            obtain ⟨c0, c1, c2, -, -, -⟩ := (Blk.fresh hW11).c3
            have G12 := Lib.hid (show Below w7.heap.size w7 W11 from after G11.out (by rw [hW11]; exact bel_alloc _ _))
            rw [← hW11]
            have hF : WbI w sh e s wd t q a true (i + 1) W11 := ⟨occV e, S', K, b', _, _, _, M7, by rw [show (3 * ((i + 1 : Nat) : Int)) = 3 * (i : Int) + 3 by omega]; exact H7.out.2.2.2.1, H7.out.2.2.2.2, (shA_fit sh e s wd t q (occV e) S' _).on H7.out.1 G12.out, H7.out.2.1, after H7.out.2.2.1 G12.out⟩
            have HF := Lib.hid hF
            clear hW11 f0 f1 f2 hF
            go_wp2_with fail
            go_roundw
            case rel => exact ⟨i + 1, HLT.out.2, HLT.out.1, by go_num, HF⟩
            case measure => have := HLT.out.2; simp [intOf]; omega
          · go_upto_region 26 with (fail)
            clear hc2
            refine wp_sched [1, 0, 0, 0, 0, 0, 0, 0, 0, 0, 0, 0, 0, 2, 3, 3, 3, 1, 3, 3] (rwR w.heap.size (Int.tmod ix 1000000) (Int.tmod iz 1000000)) (by kernel_rfl) (by kernel_rfl) (rwR_on) ?_
            repeat (first | (refine wpQs_s ?_) | (refine wpQs_q (fun K hK => ?_); go_simp; first | (refine hK _ ?_; clear hK K) | (apply Exists.intro; refine ⟨fun _ => ?_, hK _ ?_⟩; (fail); clear hK K)) | (refine wpQs_f (fun K hK => ?_); go_simp; refine hK _ ?_; clear hK K))
            refine wpQs_nil ?_
            repeat (first | (refine wpLs_skip ?_) | (refine wpLs_one ?lsA (fun v_ => ?_); case lsA => (intro w_ hw_ hp_; ((go_simp; exact ⟨Kept.of_below (bel_alloc _ _), _, rfl, Nat.le_trans HST.out.2.2.2.2.size (msd_kept hw_).size, Blk.new' rfl⟩)))))
            refine wpLs_nilB ?_
            simp only [tails]
            rintro W3 h3 ⟨-, b3, rfl, hn3, hb3⟩
            have G3 := Lib.hid h3
            have HR3 := Lib.hid (HRW.out b3 W3 hb3)
            clear c0 c1 h3 hn3 hb3
            go_upto_region 27 with first
              | (go_at_call 12; refine HR3.out.mono ?_; rintro e_ w5 ⟨rfl, g5⟩; have G5 := Lib.hid (after G3.out g5); clear g5)
              | (go_at_call 9; refine (ltell_c sh e s wd t q occ S M w5 _ ⟨a, b, x, z, j⟩ ((shA_fit sh e s wd t q occ _ _).on HST.out.2.2.1 G5.out) ⟨#[48]⟩ _ _ (Int.tmod ix 1000000) (Int.tmod iz 1000000) true HTW.out.2 HTW.out.1 nw0 HNX.out.1 HNX.out.2).mono ?_; rintro e_ w6 ⟨rfl, ⟨M6, p6, m6, k6⟩⟩; have H6 := Lib.hid (And.intro p6 (And.intro (low_on (after HST.out.2.2.2.2 G5.out) HST.out.2.2.2.1 m6) (kept_low (after HST.out.2.2.2.2 G5.out) HST.out.2.2.2.1 k6))); clear p6 m6 k6)
            clear ht1 ht2 ht3 ht4 hwx hwz
            have HTK := Lib.hid (wtick_l sh e s wd t q HST.out.1 (by have := HLT.out.2; omega) _ HST.out.2.1 occ M6 w6 H6.out.1)
            go_upto_region 28 with (go_at_call 9; refine HTK.out.mono ?_; rintro e_ w7 ⟨⟨o7, rfl⟩, S', b', hS', hR', ⟨M7, p7, m7, k7⟩⟩; have H7 := Lib.hid (And.intro p7 (And.intro (low_on H6.out.2.2 H6.out.2.1 m7) (And.intro (kept_low H6.out.2.2 H6.out.2.1 k7) (And.intro hS' hR')))); clear p7 m7 k7 hS' hR')
            obtain ⟨Me, hs1, hs2, -⟩ := H7.out.1
            have HEN := Lib.hid (lengine_c sh e w7 hs1)
            have HWH := Lib.hid (whole_c e s wd t q (occV e) S' _ Me w7 hs2)
            obtain ⟨Ms, he, -⟩ := hs2
            have HBD := Lib.hid (ebody_c e s wd t q (occV e) S' _ w7 Ms he)
            clear hs1 he
            go_upto_region 30 with first
              | (go_at_call 14; refine HEN.out.mono ?_; rintro e_ w8 ⟨rfl, rfl⟩)
              | (go_at_call 13; refine HWH.out.mono ?_; rintro e_ w9 ⟨rfl, rfl⟩)
            go_upto_region 31 with first
              | (go_at_call 14; refine HEN.out.mono ?_; rintro e_ w8 ⟨rfl, rfl⟩)
              | (go_at_call 15; refine HBD.out.mono ?_; rintro e_ w9 ⟨rfl, g9⟩; have G9 := Lib.hid g9; clear g9)
            have hft := H7.out.2.2.2.2.foot
            have hwb := H7.out.2.2.2.2.wd
            obtain ⟨W8, hW8⟩ : ∃ W8, W8 = w9.alloc (.cells (bd9 b') 40) := ⟨_, rfl⟩
            have B8 := Blk.fresh hW8
            have G10 := Lib.hid (show Below w7.heap.size w7 W8 from after G9.out (by rw [hW8]; exact bel_alloc _ _))
            obtain ⟨f0, f1, f2, -, -, -, -, -, -⟩ := B8.c9.1
            have HOF := fun W => cellof_c b'.1 b'.2.1 b'.2.2.1 W
            rw [hft.1, hft.2.1] at HOF
            have hy1 := hft.2.2.1
            have hy2 := hft.2.2.2.1
            generalize lowI b'.2.1 = yy at HOF hy1 hy2
            have HOF' := Lib.hid HOF
            rw [← hW8]
            clear hW8 B8 HOF hft hwb
            go_upto_region 32 with (go_at_call 16; refine (HOF'.out _).mono ?_; rintro e_ w10 ⟨rfl, g10⟩; have G11 := Lib.hid (after G10.out g10); clear g10)
            obtain ⟨W11, hW11⟩ : ∃ W11, W11 = w10.alloc (.cells #[.int .i64 5, .int .i64 yy, .int .i64 5] 43) := ⟨_, rfl⟩
            obtain ⟨c0, c1, c2, -, -, -⟩ := (Blk.fresh hW11).c3
            have G12 := Lib.hid (show Below w7.heap.size w7 W11 from after G11.out (by rw [hW11]; exact bel_alloc _ _))
            rw [← hW11]
            have hF : WbI w sh e s wd t q a true (i + 1) W11 := ⟨occV e, S', K, b', _, _, _, M7, by rw [show (3 * ((i + 1 : Nat) : Int)) = 3 * (i : Int) + 3 by omega]; exact H7.out.2.2.2.1, H7.out.2.2.2.2, (shA_fit sh e s wd t q (occV e) S' _).on H7.out.1 G12.out, H7.out.2.1, after H7.out.2.2.1 G12.out⟩
            have HF := Lib.hid hF
            clear hW11 f0 f1 f2 hF
            go_wp2_with fail
            go_roundw
            case rel => exact ⟨i + 1, HLT.out.2, HLT.out.1, by go_num, HF⟩
            case measure => have := HLT.out.2; simp [intOf]; omega
        · obtain ⟨occ, S, K, b, x, z, j, M, hS, hR, hA, hML, hB⟩ := hI.out
          have HST := Lib.hid hB
          have hdone : ¬ ((i : Int) < (n1 : Int)) ∨ ((i : Int) < (n1 : Int) ∧ ¬ ((i : Int) < 20)) := by omega
          have HAL := Lib.hid (alive_c mx wr (by rw [Below.cell hB HM.out.2.1]; exact HM.out.1))
          clear hS hR hA hML hB hlt hI
          rcases hdone with g1 | ⟨g1, g2⟩
          · go_wp2_with (go_at_call 11; refine HAL.out.mono ?_; rintro e_ w10 ⟨rfl, g10⟩; have G10 := Lib.hid g10; clear g10)
            go_returns
            exact ⟨rfl, after HST.out G10.out⟩
          · go_wp2_with (go_at_call 11; refine HAL.out.mono ?_; rintro e_ w10 ⟨rfl, g10⟩; have G10 := Lib.hid g10; clear g10)
            go_returns
            exact ⟨rfl, after HST.out G10.out⟩
theorem topwalls_c (seed : Int) (h1 : -9223372036854775808 ≤ seed) (h2 : seed ≤ 9223372036854775807) (A1 : Option Addr) (n1 k1 : Nat) (F1 : Nat → InD) (hnk : n1 ≤ k1) (hkm : k1 ≤ maxLen) (glass : Bool) (mx : Int) (w : World) (hq : Rws 3 enIn w A1 n1 F1) (_ : ∀ i, i < n1 → In64 (F1 i).1 ∧ In64 (F1 i).2.1) (hm : w.cell? ⟨0, 0, none⟩ = some (.int .i64 mx)) (_ : TabOk w) :
    Calls Tryz.prog 4 #[.int .i64 seed, .slice A1 n1 k1, .bool glass] w fun r w' => r = .returned (.bool true) ∧ Below w.heap.size w w' := by
  cases glass
  · exact topwalls_false seed h1 h2 A1 n1 k1 F1 hnk hkm mx w hq hm
  · exact topwalls_true seed h1 h2 A1 n1 k1 F1 hnk hkm mx w hq hm
end Go.Proofs.YtmbccnioijokfaaGreatDoor

namespace Go.Proofs.YtmbccnioijokfaaGreatDoor
open Go.ChangeShapes Go.WideShapes Go.ChangeAt Go.RowKit Go.Sort
def tab32 : Array Value := #[.int .u8 0, .int .u8 1, .int .u8 28, .int .u8 2, .int .u8 29, .int .u8 14, .int .u8 24, .int .u8 3, .int .u8 30, .int .u8 22, .int .u8 20, .int .u8 15, .int .u8 25, .int .u8 17, .int .u8 4, .int .u8 8, .int .u8 31, .int .u8 27, .int .u8 13, .int .u8 23, .int .u8 21, .int .u8 19, .int .u8 16, .int .u8 7, .int .u8 26, .int .u8 12, .int .u8 18, .int .u8 6, .int .u8 11, .int .u8 5, .int .u8 10, .int .u8 9]
def tab64 : Array Value := #[.int .u8 0, .int .u8 1, .int .u8 56, .int .u8 2, .int .u8 57, .int .u8 49, .int .u8 28, .int .u8 3, .int .u8 61, .int .u8 58, .int .u8 42, .int .u8 50, .int .u8 38, .int .u8 29, .int .u8 17, .int .u8 4, .int .u8 62, .int .u8 47, .int .u8 59, .int .u8 36, .int .u8 45, .int .u8 43, .int .u8 51, .int .u8 22, .int .u8 53, .int .u8 39, .int .u8 33, .int .u8 30, .int .u8 24, .int .u8 18, .int .u8 12, .int .u8 5, .int .u8 63, .int .u8 55, .int .u8 48, .int .u8 27, .int .u8 60, .int .u8 41, .int .u8 37, .int .u8 16, .int .u8 46, .int .u8 35, .int .u8 44, .int .u8 21, .int .u8 52, .int .u8 32, .int .u8 23, .int .u8 11, .int .u8 54, .int .u8 26, .int .u8 40, .int .u8 15, .int .u8 34, .int .u8 20, .int .u8 31, .int .u8 10, .int .u8 25, .int .u8 14, .int .u8 19, .int .u8 9, .int .u8 13, .int .u8 8, .int .u8 7, .int .u8 6]
def tabAcc : Array Value := #[.int .u8 128, .int .u8 191, .int .u8 160, .int .u8 191, .int .u8 128, .int .u8 159, .int .u8 144, .int .u8 191, .int .u8 128, .int .u8 143, .int .u8 0, .int .u8 0, .int .u8 0, .int .u8 0, .int .u8 0, .int .u8 0, .int .u8 0, .int .u8 0, .int .u8 0, .int .u8 0, .int .u8 0, .int .u8 0, .int .u8 0, .int .u8 0, .int .u8 0, .int .u8 0, .int .u8 0, .int .u8 0, .int .u8 0, .int .u8 0, .int .u8 0, .int .u8 0]
def tabPow : Array Value := #[.int .u64 1, .int .u64 10, .int .u64 100, .int .u64 1000, .int .u64 10000, .int .u64 100000, .int .u64 1000000, .int .u64 10000000, .int .u64 100000000, .int .u64 1000000000, .int .u64 10000000000, .int .u64 100000000000, .int .u64 1000000000000, .int .u64 10000000000000, .int .u64 100000000000000, .int .u64 1000000000000000, .int .u64 10000000000000000, .int .u64 100000000000000000, .int .u64 1000000000000000000, .int .u64 10000000000000000000]
noncomputable def laidWorld (os : Os) : World :=
  let w0 := World.holding Tryz.prog os ⟨#[], #[], []⟩
  let put (h : Array Obj) (g : Nat) (cs : Array Value) : Array Obj := h.modify g fun
    | .cells _ t frozen => .cells cs t frozen
    | o => o
  { w0 with heap := put (put (put (put (put w0.heap 1 (Lib.firstTab.map fun z => Value.int .u8 z).toArray) 2 tabAcc) 3 tabPow) 4 tab32) 5 tab64 }
theorem tab_ok {W : World} (h : laidMet Tryz.prog Rows.topSandRow.laid W) : TabOk W := by
  obtain ⟨g, t, cs, fuel, p, h1, h2, h3, h4⟩ := Lib.laidMet.reads h (n := "internal/strconv.uint64pow10") (d := Rows.laid_internal_strconv_uint64pow10) (.tail _ (.tail _ (.head _)))
  obtain rfl := Option.some.inj ((show Tryz.prog.globalNamed "internal/strconv.uint64pow10" = some 3 by kernel_rfl).symm.trans h1)
  obtain rfl := Option.some.inj ((show (Tryz.prog.globals[3]?).map (·.type) = some 371 by kernel_rfl).symm.trans h2)
  have hd : (Rows.laid_internal_strconv_uint64pow10 : DataW Unit) = Lib.tabData .u64 Lib.pow10Tab := by kernel_rfl
  rw [hd] at h4
  have hc := Lib.cells_of_tab Tryz.underlying371 Tryz.underlying331 (by kernel_rfl) (by kernel_rfl) h4
  unfold TabOk Lib.TabIs
  rw [h3, ← hc]
end Go.Proofs.YtmbccnioijokfaaGreatDoor

namespace Go.Proofs.YtmbccnioijokfaaGreatDoor
open Go.ChangeShapes Go.WideShapes Go.ChangeAt Go.RowKit Go.Sort
theorem laid_metWall (os : Os) (args : Array Value) : laidMet Tryz.prog Rows.topWallsRow.laid ((laidWorld os).forCall (fun _ _ => 0) ⟨#[], args, []⟩).memory :=
  laidMet_of_run' 10 (by kernel_rfl) (by kernel_rfl)
abbrev openWallO : OpenSpec := OpenSpec.ofChange Rows.topWallsSpec
theorem witness_rowWall (os : Os) {H : Type} (enc : TypeId × Value → H) :
    openWallO.preRow enc Tryz.prog Tryz.f4 Rows.topWallsRow.domain false Rows.topWallsRow.laid ((laidWorld os).forCall (fun _ _ => 0) ⟨#[], #[.int .i64 0, .slice none 0 0, .bool false], []⟩).memory #[.int .i64 0, .slice none 0 0, .bool false] := by
  have hw : (DataW.whole enc Tryz.prog ((laidWorld os).forCall (fun _ _ => 0) ⟨#[], #[.int .i64 0, .slice none 0 0, .bool false], []⟩).memory Tryz.f4.params.toList openWallO.vars false #[Value.int .i64 0, Value.slice none 0 0, Value.bool false].toList 8).map (fun x => (x.1, x.2.1)) =
      some ([.lit (.int .i64 0), .nil, .lit (.bool false)], []) := by kernel_rfl
  obtain ⟨⟨x1, x2, x3⟩, hx, hx1⟩ := Option.map_eq_some_iff.1 hw
  simp only [Prod.mk.injEq] at hx1
  obtain ⟨rfl, rfl⟩ := hx1
  exact OpenSpec.preRow_of_cond 8 hx (by kernel_rfl) (fun k hk => by cases hk) (by kernel_rfl) (laid_metWall os _)
set_option maxRecDepth 100000 in
set_option maxHeartbeats 2000000 in
theorem topWalls_lifted (os : Os) (started : os.Started) (H : Type) (enc : TypeId × Value → H) (F : Stop.Interp) :
    ReturnsInHanded {} Tryz.checked os 4 .any (openWallO.preRow enc Tryz.prog Tryz.f4 Rows.topWallsRow.domain false Rows.topWallsRow.laid) ((openWallO.at F).post enc Tryz.prog Tryz.f4 false true false false) := by
  refine returnsInHanded_of_row (C := Tryz.checked) (s := openWallO) own started (by kernel_rfl) Tryz.func4
    (witness_row_atRef (enc := enc) (C := Tryz.checked) false (laidWorld os) #[.int .i64 0, .slice none 0 0, .bool false] rfl (by kernel_rfl) (by kernel_rfl) (by kernel_rfl) (witness_rowWall os enc)) ?_
  intro W base args ds gs before hval0 hW _ _ _ hL hsh _
  have hval : ∀ (j : Nat) t v, Tryz.f4.params[j]? = some t → args[j]? = some v → Value.okWide Tryz.prog W .any base t v := hval0
  have hW' := hW
  obtain ⟨p, q, hA0, hV, rfl, hfz, hnd⟩ := hW
  have hA : DataW.TrodAll enc Tryz.prog W 0 (fun _ => true) true Tryz.f4.params.toList args.toList ds p := hA0
  rw [Tryz.params4] at hA hval
  obtain ⟨v0, v1, v2, d0, d1, d2, p0, p1, p2, rfl, rfl, rfl, h0, h1, h2⟩ := trodAll_three hA
  obtain ⟨rfl, rfl⟩ := trodVars_none hV
  obtain ⟨a0, rfl, rfl, rfl, w0⟩ := open_int Tryz.underlying3 (hval 0 3 v0 rfl rfl) h0
  obtain ⟨A1, n1, k1, l1, rfl, b1, c1, e1, f1⟩ := open_ins Tryz.underlying29 Tryz.underlying33 (by kernel_rfl) (by kernel_rfl) Tryz.underlying3 Tryz.underlying4 (hval 1 29 v1 rfl rfl) h1
  obtain ⟨a2, rfl, rfl, rfl⟩ := open_bool Tryz.underlying4 (hval 2 4 v2 rfl rfl) h2
  obtain ⟨m, hm⟩ : ∃ m, W.cell? ⟨0, 0, none⟩ = some (.int .i64 m) := Tryz.laysM146.s1_3 W hsh
  refine (topwalls_c a0 (in64_of_wf w0).1 (in64_of_wf w0).2 A1 n1 k1 l1 b1 c1 a2 m W e1 f1 hm (tab_ok hL)).mono fun e W' ⟨he, hb⟩ => ?_
  subst he
  exact ⟨_, rfl, law_post laidOut (by kernel_rfl) rfl (by kernel_rfl) Tryz.underlying4 hW' rfl rfl rfl hb⟩
end Go.Proofs.YtmbccnioijokfaaGreatDoor

