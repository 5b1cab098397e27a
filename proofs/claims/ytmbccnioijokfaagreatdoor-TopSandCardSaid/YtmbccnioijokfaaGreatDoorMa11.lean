/- Texts that build one behind the other, laid together: TopP TopA TopS SandL. -/
import Derived.Test.YtmbccnioijokfaaGreatDoorMa10
import Derived.Test.YtmbccnioijokfaaGreatDoorRows
import Derived.Test.YtmbccnioijokfaaGreatDoorCards
import Derived.Test.YtmbccnioijokfaaGreatDoorTie
import Derived.Test.YtmbccnioijokfaaGreatDoorMa2
import Derived.Test.YtmbccnioijokfaaGreatDoorMa1
import Derived.Deep.Slices
import Derived.Test.YtmbccnioijokfaaGreatDoorMa3
import Derived.Deep.DeepHandedRow
import Derived.Deep.DeepWitnessRowRef
import Derived.LaidLaws
import Derived.Lib.LaidU8
import Derived.ProofKit
import Derived.SevenTiedAt
namespace Go.Proofs.YtmbccnioijokfaaGreatDoor
open Go.RowKit Go.Maps
abbrev eq_edit5 : ByteArray := ⟨#[101, 100, 105, 116, 32, 53, 32]⟩
abbrev eq_5sand : ByteArray := ⟨#[32, 53, 32, 115, 97, 110, 100]⟩
abbrev eq_at5 : ByteArray := ⟨#[97, 116, 32, 53, 32]⟩
abbrev eq_5 : ByteArray := ⟨#[32, 53]⟩
theorem sand_all : (List.range 5).all (fun n => wordsOk ((eq_edit5 ++ strA (dec3 (24 + n))) ++ eq_5sand) [⟨#[101, 100, 105, 116]⟩, ⟨#[53]⟩, strA (dec3 (24 + n)), ⟨#[53]⟩, strA (blkN 3)] && numOk (dec3 (24 + n)) (24 + n : Nat)) = true := by kernel_rfl
theorem at_all : (List.range 8).all (fun n => wordsOk ((eq_at5 ++ strA (dec3 (22 + n))) ++ eq_5) [⟨#[97, 116]⟩, ⟨#[53]⟩, strA (dec3 (22 + n)), ⟨#[53]⟩] && numOk (dec3 (22 + n)) (22 + n : Nat)) = true := by kernel_rfl
theorem sand_words {n : Nat} (h : n < 5) : wordsL ((eq_edit5 ++ strA (Lib.decDigits (24 + n))) ++ eq_5sand) = [⟨#[101, 100, 105, 116]⟩, ⟨#[53]⟩, strA (Lib.decDigits (24 + n)), ⟨#[53]⟩, strA (blkN 3)] ∧ NW (strA (Lib.decDigits (24 + n))) (24 + n : Nat) := by
  have h1 := all_range sand_all h
  rw [dec3_eq (24 + n) (by omega)]
  simp only [Bool.and_eq_true] at h1
  exact ⟨words_ok h1.1, num_ok h1.2⟩
theorem at_words {n : Nat} (h : n < 8) : wordsL ((eq_at5 ++ strA (Lib.decDigits (22 + n))) ++ eq_5) = [⟨#[97, 116]⟩, ⟨#[53]⟩, strA (Lib.decDigits (22 + n)), ⟨#[53]⟩] ∧ NW (strA (Lib.decDigits (22 + n))) (22 + n : Nat) := by
  have h1 := all_range at_all h
  rw [dec3_eq (22 + n) (by omega)]
  simp only [Bool.and_eq_true] at h1
  exact ⟨words_ok h1.1, num_ok h1.2⟩
theorem itoa_0 : strA (Lib.itoa 0) = ⟨#[48]⟩ := by
  unfold Lib.itoa
  rw [if_neg (by decide)]
  show strA (Lib.decDigits 0) = _
  rw [Lib.decDigits_one (by decide)]
  rfl
theorem dd (n : Nat) (h : ¬ n < 10) : Lib.decDigits n = Lib.decDigits (n / 10) ++ [UInt8.ofNat (48 + n % 10)] := by
  conv => lhs; rw [Lib.decDigits, dif_neg h]
theorem itoN_a : Lib.itoa 360448 = [51, 54, 48, 52, 52, 56] := by
  have h : Lib.decDigits 360448 = [51, 54, 48, 52, 52, 56] := by
    rw [dd 360448 (by decide), show 360448 / 10 = 36044 from rfl, dd 36044 (by decide), show 36044 / 10 = 3604 from rfl, dd 3604 (by decide), show 3604 / 10 = 360 from rfl, dec3_eq 360 (by decide)]
    decide
  unfold Lib.itoa
  rw [if_neg (by decide)]
  exact h
theorem itoN_b : Lib.itoa 1441792 = [49, 52, 52, 49, 55, 57, 50] := by
  have h : Lib.decDigits 1441792 = [49, 52, 52, 49, 55, 57, 50] := by
    rw [dd 1441792 (by decide), show 1441792 / 10 = 144179 from rfl, dd 144179 (by decide), show 144179 / 10 = 14417 from rfl, dd 14417 (by decide), show 14417 / 10 = 1441 from rfl, dd 1441 (by decide), show 1441 / 10 = 144 from rfl, dec3_eq 144 (by decide)]
    decide
  unfold Lib.itoa
  rw [if_neg (by decide)]
  exact h
theorem itoN_c : Lib.itoa 0 = [48] := by
  unfold Lib.itoa
  rw [if_neg (by decide)]
  exact Lib.decDigits_one (by decide)
theorem itoN_d : Lib.itoa 1 = [49] := by
  unfold Lib.itoa
  rw [if_neg (by decide)]
  exact Lib.decDigits_one (by decide)
theorem body_said : bodyS 360448 1441792 360448 0 0 0 true = ⟨#[51, 54, 48, 52, 52, 56, 32, 49, 52, 52, 49, 55, 57, 50, 32, 51, 54, 48, 52, 52, 56, 32, 48, 32, 48, 32, 48, 32, 49]⟩ := by
  show joinB [joinB [strA (Lib.itoa 360448), strA (Lib.itoa 1441792), strA (Lib.itoa 360448)], joinB [strA (Lib.itoa 0), strA (Lib.itoa 0), strA (Lib.itoa 0)], joinB [strA (Lib.itoa 1)]] = _
  rw [itoN_a, itoN_b, itoN_c, itoN_d]
  kernel_rfl
theorem nw5 : NW ⟨#[53]⟩ 5 := num_ok (l := [53]) (by decide)
theorem nw21 : NW ⟨#[50, 49]⟩ 21 := num_ok (l := [50, 49]) (by decide)
theorem nw30 : NW ⟨#[51, 48]⟩ 30 := num_ok (l := [51, 48]) (by decide)
theorem nwa : NW ⟨#[51, 54, 48, 52, 52, 56]⟩ 360448 := num_ok (l := [51, 54, 48, 52, 52, 56]) (by decide)
theorem nwb : NW ⟨#[49, 52, 52, 49, 55, 57, 50]⟩ 1441792 := num_ok (l := [49, 52, 52, 49, 55, 57, 50]) (by decide)
theorem nwc : NW ⟨#[52, 48, 48, 48, 48]⟩ 40000 := num_ok (l := [52, 48, 48, 48, 48]) (by decide)
theorem nwd : NW ⟨#[49, 48, 48, 48, 48, 48]⟩ 100000 := num_ok (l := [49, 48, 48, 48, 48, 48]) (by decide)
theorem sd5 (n : Int) : Sd (S5 n) (fun _ => 0) [] 0 0 0 := ⟨high5 n, rfl, by show 1 ≤ (newQ 4096).room; decide, rfl, Nat.le_refl _, Nat.le_refl _, rfl⟩
theorem stone_e (n : Int) (e s wd t q : Nat) : ∃ S', Sd S' fOne [] 0 1 0 ∧ ∀ W M, EngA e s wd t q occ0 (S5 n) none W M → Calls Tryz.prog 99 #[.pointer (some ⟨e, 0, none⟩), cellV (5, 21, 5), .int .i64 1] W fun r w' => r = .returned (.int .i64 0) ∧ Aft (EngA e s wd t q occ0 S' none) W M w' := by
  obtain ⟨S', s', e'⟩ := (sd5 n).edit0 s wd t q occ0 (5, 21, 5) 1 (by decide) (by decide) (by decide) (by decide) (by decide)
  exact ⟨S', s', fun W M hA => eedit_c e s wd t q occ0 (S5 n) S' none (5, 21, 5) 1 (fun l hl => by cases hl) (fun _ => rfl) W M hA fun W1 M1 g => e' W1 M1 g⟩
theorem free_c (g : Cl → Int) : ((cellsI 340448 1441792 340448 380448 1541792 380448).any fun c => solB (overF fOne g c)) = false := by kernel_rfl
theorem foot_c (g : Cl → Int) : ((cellsI 340448 (cutI (1441792 - 1)) 340448 380448 1441792 380448).any fun c => solB (overF fOne g c)) = true := by kernel_rfl
theorem spawn_e {S : SS} (h : Sd S fOne [] 0 1 0) (e s wd t q : Nat) (W : World) (M : Nat → Prop) (hA : EngA e s wd t q occ0 S none W M) :
    Calls Tryz.prog 92 #[.pointer (some ⟨e, 0, none⟩), .agg #[.int .i64 360448, .int .i64 1441792, .int .i64 360448], .int .i64 40000, .int .i64 100000] W fun r w' => r = .returned (.tuple #[.int .i64 0, .int .i64 0]) ∧ (∃ a, Aft (EngA e s wd t q occ0 S (some ⟨a, bodyD, 0, 0, false⟩)) W M w') ∧ Kept (fun b => b ≠ e) W w' :=
  espawn_c e s wd t q occ0 S 360448 1441792 360448 40000 100000 true (340448, 1441792, 340448, 380448, 1541792, 380448) (by decide) (by decide) (by decide) (h.high.ready (x := lowI 360448) (z := lowI 360448) (by decide) (by decide)) (by decide) (by decide) (by rw [h.high.len]; decide)
    (by constructor <;> decide) (by constructor <;> decide) (by decide) (by decide) (by rw [h.high.over]; exact free_c _) (by rw [h.high.over]; exact foot_c _) W M hA
theorem sand_f : ∀ m : Nat, m < 5 → wakeL (fTop m) (5, 24 + (m : Int), 5) = [(5, 24 + (m : Int), 5)] ∧ heldL (some (bodyL 0)) (5, 24 + (m : Int), 5) = false ∧ dlyI (fTop m (5, 24 + (m : Int), 5)) = 2 ∧ inMid (5, 24 + (m : Int), 5) = true := by decide
theorem sand_e {S : SS} (h : Sd S fOne [] 0 1 0) {m : Nat} (hm : m < 5) (e s wd t q a : Nat) : ∃ S', Sd S' (fTop m) [(2, (5, 24 + (m : Int), 5))] 0 2 0 ∧ ∀ W M, EngA e s wd t q occ0 S (some (bodyL a)) W M → Calls Tryz.prog 99 #[.pointer (some ⟨e, 0, none⟩), cellV (5, 24 + (m : Int), 5), .int .i64 3] W fun r w' => r = .returned (.int .i64 0) ∧ Aft (EngA e s wd t q occ0 S' (some (bodyL a))) W M w' := by
  obtain ⟨i1, i2, i3, i4⟩ := way_in m hm
  obtain ⟨g1, g2, g3, g4⟩ := sand_f m hm
  obtain ⟨S', s', e'⟩ := h.edit1 s wd t q occ0 (5, 24 + (m : Int), 5) (5, 24 + (m : Int), 5) 3 i3 (by decide) i1 g4 g1 (by decide) (by decide)
  refine ⟨S', ?_, fun W M hA => eedit_c e s wd t q occ0 S S' (some (bodyL a)) (5, 24 + (m : Int), 5) 3 (fun l hl => by obtain rfl := Option.some.inj hl; show (40000 : Int) ≤ 9223372036854775807; decide) (fun _ => g2) W M hA fun W1 M1 g => e' W1 M1 g⟩
  have : (0 : Int) + dlyI (updF fOne (5, 24 + (m : Int), 5) 3 (5, 24 + (m : Int), 5)) = 2 := by rw [show dlyI (updF fOne (5, 24 + (m : Int), 5) 3 (5, 24 + (m : Int), 5)) = 2 from g3]; rfl
  rw [this] at s'
  exact s'
def sumO (out : Nat → Int) : Nat → Int
  | 0 => 0
  | i + 1 => sumO out i + out i
theorem sumO_bd {out : Nat → Int} {n : Nat} (h : ∀ i, i < n → 0 ≤ out i ∧ out i ≤ 1) : ∀ i, i ≤ n → 0 ≤ sumO out i ∧ sumO out i ≤ i
  | 0, _ => by simp [sumO]
  | i + 1, hi => by
    have h1 := sumO_bd h i (by omega)
    have h2 := h i (by omega)
    show 0 ≤ sumO out i + out i ∧ sumO out i + out i ≤ ((i + 1 : Nat) : Int)
    omega
theorem tick_l (sh e s wd t q a : Nat) (M : Nat → Prop) (w : World) {S S' : SS} (hS : S'.now = 30) (c : Chain e s wd t q (bodyL a) 30 S S') (h : ShA sh e s wd t q occ0 S (some (bodyL a)) w M) :
    Calls Tryz.prog 9 #[.pointer (some ⟨sh, 0, none⟩), .string ⟨#[116, 105, 99, 107, 32, 51, 48]⟩] w fun r w' => (∃ o, r = .returned (.string o)) ∧ Aft (ShA sh e s wd t q (occV e) S' (some (bodyL a))) w M w' := by
  obtain ⟨seq, out, h0, hn, hs⟩ := c
  subst h0
  subst hn
  have hb := sumO_bd (n := 30) fun i hi => (hs i hi).2
  refine (ltick_c sh e s wd t q M w _ 30 (by decide) (fun i => match i with | 0 => occ0 | _ + 1 => occV e) seq (fun _ => some (bodyL a)) (sumO out) out rfl (fun _ _ => rfl) (fun i hi => ⟨(hb i hi).1, by have := (hb i hi).2; omega⟩) (by rw [hS]; decide) h ⟨#[51, 48]⟩ (by decide) (words_ok (by kernel_rfl)) nw30 (fun i hi W M1 hA => (hs i hi).1 _ W M1 hA)).mono ?_
  rintro r w' ⟨rfl, k⟩
  exact ⟨⟨_, rfl⟩, k⟩
end Go.Proofs.YtmbccnioijokfaaGreatDoor

namespace Go.Proofs.YtmbccnioijokfaaGreatDoor
open Go.RowKit Go.Maps
attribute [local go_sem] Oper.semAt_some
theorem alive_c (m : Int) (w : World) (hm : w.cell? ⟨0, 0, none⟩ = some (.int .i64 m)) : Calls Tryz.prog 11 #[] w fun r w' => r = .returned (.bool true) ∧ Below w.heap.size w w' := by
  have HR := run_c m w hm
  rw [show (sayA ++ sayB : ByteArray) = ⟨#[111, 107, 10, 115, 116, 111, 110, 101, 10]⟩ by kernel_rfl] at HR
  have HR' := Lib.hid HR
  clear HR hm
  go_enter Tryz.func11, Tryz.ntmps11
  go_wp2_with (go_at_call 26; refine HR'.out.mono ?_; rintro e_ w1 ⟨rfl, g1⟩; have G1 := Lib.hid g1; clear g1)
  go_returns
  exact ⟨rfl, G1.out⟩
end Go.Proofs.YtmbccnioijokfaaGreatDoor

namespace Go.Proofs.YtmbccnioijokfaaGreatDoor
open Go.RowKit Go.Maps
attribute [local go_sem] Oper.semAt_some
theorem gone_cell {S : SS} {K D : Nat} {t : Int} (h : Sd S fOne [] t K D) {i : Nat} (hi : i < 8) : S.T.cell (5, 22 + (i : Int), 5) = 0 := by
  have hin : ∀ i : Nat, i < 8 → inMid (5, 22 + (i : Int), 5) = true ∧ fOne (5, 22 + (i : Int), 5) = 0 := by decide
  exact (h.cell (hin i hi).1).trans (hin i hi).2
set_option maxRecDepth 100000 in
set_option maxHeartbeats 16000000 in
theorem topsand_c (seed up : Int) (h1 : -9223372036854775808 ≤ seed) (h2 : seed ≤ 9223372036854775807) (h3 : -9223372036854775808 ≤ up) (h4 : up ≤ 9223372036854775807) (mx : Int) (w : World) (hm : w.cell? ⟨0, 0, none⟩ = some (.int .i64 mx)) (hT : TabOk w) :
    Calls Tryz.prog 3 #[.int .i64 seed, .int .i64 up] w fun r w' => r = .returned (.bool true) ∧ Below w.heap.size w w' := by
  have hm0 : 0 < w.heap.size := by
    rcases Nat.lt_or_ge 0 w.heap.size with h | h
    · exact h
    · simp [World.cell?, Array.getElem?_eq_none h] at hm
  have har : 0 ≤ arI up 5 ∧ arI up 5 < 5 := ⟨arI_lo up (by decide), arI_hi up (by decide)⟩
  have HAR := around_c up 5 h3 h4 (by decide)
  obtain ⟨m, hmm⟩ := Int.eq_ofNat_of_zero_le har.1
  rw [hmm] at HAR har
  have hm5 : m < 5 := by omega
  have hsw := sand_words hm5
  have hsz := dec_sz (24 + m) (by omega)
  have HDC := Lib.hid fun W => dec_c 1000 (24 + m) (by omega) (by omega) W
  have hcast : ((24 + m : Nat) : Int) = 24 + (m : Int) := by omega
  rw [hcast] at hsw
  generalize hds : strA (Lib.decDigits (24 + m)) = ds at *
  have hdc : ∀ W, Calls Tryz.prog 10 #[.int .i64 (24 + (m : Int))] W fun r w' => r = .returned (.string ds) ∧ Below W.heap.size W w' := fun W => by
    have := HDC.out W
    rw [hcast] at this
    exact this
  have HDC' := Lib.hid hdc
  have hs1 : (ds.size : Int) ≤ 9223372036854775800 := by omega
  have hs2 : (ds.size : Int) ≤ 9223372036854775793 := by omega
  have hs3 : ((eq_edit5 ++ ds).size : Int) + 7 ≤ 9223372036854775807 := by have : eq_edit5.size = 7 := rfl; simp [ByteArray.size_append]; omega
  have hls : ((eq_edit5 ++ ds) ++ eq_5sand).size ≤ 1000 := by
    simp [ByteArray.size_append]
    have h1 : eq_edit5.size = 7 := rfl
    have h2 : eq_5sand.size = 7 := rfl
    omega
  have HAR' := Lib.hid HAR
  have HW := Lib.hid (And.intro hsw (And.intro hls hm5))
  have HBG := Lib.hid (begin_c seed h1 h2 w)
  have HM := Lib.hid (And.intro hm (And.intro hm0 hT))
  have hw24 : wrap64 (24 + (m : Int)) = 24 + (m : Int) := by unfold wrap64; omega
  have q1 : 24 + (m : Int) ≤ 9223372036854775807 := by omega
  have q2 : -9223372036854775808 ≤ 24 + (m : Int) := by omega
  clear har HAR hmm hsw hsz hcast hds hdc hls h1 h2 h3 h4 hm hm0 hT hm5 HDC
  go_enter Tryz.func3, Tryz.ntmps3
  go_upto_region 4 with (go_at_call 7; refine HBG.out.mono ?_; rintro e_ w1 ⟨n, sh, e, s, wd, t, q, M1, hn, rfl, p1, m1, b1⟩; have H1 := Lib.hid (And.intro p1 (And.intro m1 b1)); clear p1 m1 b1 hn)
  obtain ⟨Sa, sa, ea⟩ := stone_e n e s wd t q
  have HE1 := Lib.hid (ledit_c sh e s wd t q occ0 (S5 n) M1 w1 ⟨#[101, 100, 105, 116, 32, 53, 32, 50, 49, 32, 53, 32, 115, 116, 111, 110, 101]⟩ none Sa H1.out.1 ⟨#[53]⟩ ⟨#[50, 49]⟩ ⟨#[53]⟩ 5 21 5 1 (by decide) (words_ok (by kernel_rfl)) nw5 nw21 nw5 (by decide) ea)
  have SA := Lib.hid sa
  clear sa ea
  go_upto_region 6 with first
    | (go_at_call 8; refine (HAR'.out _).mono ?_; rintro e_ w2 ⟨rfl, rfl⟩)
    | (go_at_call 9; refine HE1.out.mono ?_; rintro e_ w3 ⟨rfl, ⟨M3, p3, m3, k3⟩⟩; have H3 := Lib.hid (And.intro p3 (And.intro (low_on H1.out.2.2 H1.out.2.1 m3) (kept_low H1.out.2.2 H1.out.2.1 k3))); clear p3 m3 k3)
  have HE2 := lspawn_c sh e s wd t q occ0 Sa M3 w3 ⟨#[115, 112, 97, 119, 110, 32, 51, 54, 48, 52, 52, 56, 32, 49, 52, 52, 49, 55, 57, 50, 32, 51, 54, 48, 52, 52, 56, 32, 52, 48, 48, 48, 48, 32, 49, 48, 48, 48, 48, 48]⟩ H3.out.1 _ _ _ _ _ 360448 1441792 360448 40000 100000 bodyD (by decide) (words_ok (ws := [⟨#[115, 112, 97, 119, 110]⟩, ⟨#[51, 54, 48, 52, 52, 56]⟩, ⟨#[49, 52, 52, 49, 55, 57, 50]⟩, ⟨#[51, 54, 48, 52, 52, 56]⟩, ⟨#[52, 48, 48, 48, 48]⟩, ⟨#[49, 48, 48, 48, 48, 48]⟩]) (by kernel_rfl)) nwa nwb nwa nwc nwd (fun W M hA => spawn_e SA.out e s wd t q W M hA)
  rw [itoa_0] at HE2
  have HE2' := Lib.hid HE2
  clear HE2
  go_upto_region 8 with (go_at_call 9; refine HE2'.out.mono ?_; rintro e_ w4 ⟨rfl, a, ⟨M4, p4, m4, k4⟩⟩; have H4 := Lib.hid (And.intro p4 (And.intro (low_on H3.out.2.2 H3.out.2.1 m4) (kept_low H3.out.2.2 H3.out.2.1 k4))); clear p4 m4 k4)
  obtain ⟨Sb, sb, eb⟩ := sand_e SA.out HW.out.2.2 e s wd t q a
  have HEB := Lib.hid eb
  obtain ⟨Sc, K5, D5, sc, cc⟩ := thirty (e := e) (s := s) (wd := wd) (tb := t) (q := q) (a := a) HW.out.2.2 (by decide) (by decide) sb
  have SC := Lib.hid (And.intro sc cc)
  clear sb sc cc eb
  go_upto_region 10 with first
    | (go_at_call 10; refine (HDC'.out _).mono ?_; rintro e_ w5 ⟨rfl, g5⟩; have G5 := Lib.hid g5; clear g5)
    | (go_at_call 9; refine (ledit_c sh e s wd t q occ0 Sa M4 w5 _ (some (bodyL a)) Sb ((shA_fit sh e s wd t q occ0 Sa _).on H4.out.1 G5.out) ⟨#[53]⟩ ds ⟨#[53]⟩ 5 (24 + (m : Int)) 5 3 HW.out.2.1 HW.out.1.1 nw5 HW.out.1.2 nw5 (by decide) HEB.out).mono ?_; rintro e_ w6 ⟨rfl, ⟨M6, p6, m6, k6⟩⟩; have H6 := Lib.hid (And.intro p6 (And.intro (low_on (after H4.out.2.2 G5.out) H4.out.2.1 m6) (kept_low (after H4.out.2.2 G5.out) H4.out.2.1 k6))); clear p6 m6 k6)
  have HTK := Lib.hid (tick_l sh e s wd t q a M6 w6 SC.out.1.now SC.out.2 H6.out.1)
  go_upto_region 11 with (go_at_call 9; refine HTK.out.mono ?_; rintro e_ w7 ⟨⟨o7, rfl⟩, ⟨M7, p7, m7, k7⟩⟩; have H7 := Lib.hid (And.intro p7 (And.intro (low_on H6.out.2.2 H6.out.2.1 m7) (kept_low H6.out.2.2 H6.out.2.1 k7))); clear p7 m7 k7)
  go_upto_region 12 with (fail)
  clear hs1 hs2 hs3 hw24 q1 q2
  go_loopw [7] (fun yv wr => ∃ i : Nat, i ≤ 8 ∧ yv = .int .i64 (22 + (i : Int)) ∧ Hid (Below w7.heap.size w7 wr)) (fun yv _ => 30 - (intOf yv).toNat)
  case atStart => exact ⟨0, Nat.zero_le _, rfl, Lib.hid (.refl _ _)⟩
  case round =>
    obtain ⟨i, hi, rfl, hI⟩ := hrel
    by_cases hlt : i < 8
    · have n1 : 22 + (i : Int) < 30 := by omega
      have haw := at_words hlt
      have hsz := dec_sz (22 + i) (by omega)
      have hdc : ∀ W, Calls Tryz.prog 10 #[.int .i64 (22 + (i : Int))] W fun r w' => r = .returned (.string (strA (Lib.decDigits (22 + i)))) ∧ Below W.heap.size W w' := fun W => by
        have := dec_c 1000 (22 + i) (by omega) (by omega) W
        rw [show ((22 + i : Nat) : Int) = 22 + (i : Int) by omega] at this
        exact this
      rw [show ((22 + i : Nat) : Int) = 22 + (i : Int) by omega] at haw
      generalize strA (Lib.decDigits (22 + i)) = dy at *
      have hls : ((eq_at5 ++ dy) ++ eq_5).size ≤ 1000 := by
        simp [ByteArray.size_append]
        have h1 : eq_at5.size = 5 := rfl
        have h2 : eq_5.size = 2 := rfl
        omega
      have hs1 : (dy.size : Int) ≤ 9223372036854775802 := by omega
      have hs2 : (dy.size : Int) ≤ 9223372036854775800 := by omega
      have hs3 : ((eq_at5 ++ dy).size : Int) + 2 ≤ 9223372036854775807 := by have : eq_at5.size = 5 := rfl; simp [ByteArray.size_append]; omega
      have HY := Lib.hid (And.intro haw hls)
      have HDY := Lib.hid hdc
      have hcell := gone_cell SC.out.1 hlt
      have HAT := Lib.hid (show ∀ W, Below w7.heap.size w7 W → Calls Tryz.prog 9 #[.pointer (some ⟨sh, 0, none⟩), .string ((eq_at5 ++ dy) ++ eq_5)] W fun r w' => r = .returned (.string ⟨#[97, 105, 114]⟩) ∧ Below W.heap.size W w' from fun W hW => by
        have := latp_c sh e s wd t q (occV e) Sc M7 W _ (some (bodyL a)) ((shA_fit sh e s wd t q (occV e) Sc _).on H7.out.1 hW) ⟨#[53]⟩ dy ⟨#[53]⟩ 5 (22 + (i : Int)) 5 hls haw.1 nw5 haw.2 nw5 (by unfold In64; omega) (by unfold In64; omega) (by rw [SC.out.1.high.len]; decide) (by rw [hcell]; decide)
        rw [hcell] at this
        exact this)
      have q3 : 22 + (i : Int) + 1 ≤ 9223372036854775807 := by omega
      have q4 : -9223372036854775808 ≤ 22 + (i : Int) + 1 := by omega
      have HLT := Lib.hid hlt
      clear haw hsz hdc hls hcell hlt
      go_wp2_with first
        | (go_at_call 10; refine (HDY.out _).mono ?_; rintro e_ w8 ⟨rfl, g8⟩; have G8 := Lib.hid (after hI.out g8); clear g8)
        | (go_at_call 9; refine (HAT.out _ G8.out).mono ?_; rintro e_ w9 ⟨rfl, g9⟩; have G9 := Lib.hid (after G8.out g9); clear g9)
      go_roundw
      case rel => exact ⟨i + 1, HLT.out, by go_num, G9⟩
      case measure => have := HLT.out; simp [intOf]; omega
    · obtain rfl : i = 8 := by omega
      have hb := hI.out
      have hbw := H7.out.2.2.trans (hb.mono H7.out.2.2.size)
      have hbd := lbody_c sh e s wd t q (occV e) Sc M7 wr ⟨#[98, 111, 100, 121, 32, 48]⟩ (bodyL a) ((shA_fit sh e s wd t q (occV e) Sc _).on H7.out.1 hb) ⟨#[48]⟩ (by decide) (words_ok (by kernel_rfl)) nw0 (HM.out.2.2.on hbw) (show Sm9 360448 by unfold Sm9; decide) (show Sm9 1441792 by unfold Sm9; decide) (show Sm9 360448 by unfold Sm9; decide) (show Sm9 0 by unfold Sm9; decide) (show Sm9 0 by unfold Sm9; decide) (show Sm9 0 by unfold Sm9; decide)
      rw [show bodyS (bodyL a).b.1 (bodyL a).b.2.1 (bodyL a).b.2.2.1 (bodyL a).b.2.2.2.1 (bodyL a).b.2.2.2.2.1 (bodyL a).b.2.2.2.2.2.1 (bodyL a).b.2.2.2.2.2.2.2.2 = _ from body_said] at hbd
      have HBD := Lib.hid hbd
      have HBW := Lib.hid hbw
      clear hbd hbw hb hlt
      go_wp2_with first
        | (go_at_call 9; refine HBD.out.mono ?_; rintro e_ w9 ⟨rfl, k9⟩; have H9 := Lib.hid (kept_low HBW.out H7.out.2.1 k9.kept); clear k9)
        | (go_at_call 11; refine (alive_c mx w9 (by rw [Below.cell H9.out HM.out.2.1]; exact HM.out.1)).mono ?_; rintro e_ w10 ⟨rfl, g10⟩; have G10 := Lib.hid g10; clear g10)
      go_returns
      exact ⟨rfl, after H9.out G10.out⟩
end Go.Proofs.YtmbccnioijokfaaGreatDoor

namespace Go.Proofs.YtmbccnioijokfaaGreatDoor
open Go.ChangeShapes Go.WideShapes Go.ChangeAt Go.RowKit Go.Sort
def tab32 : Array Value := #[.int .u8 0, .int .u8 1, .int .u8 28, .int .u8 2, .int .u8 29, .int .u8 14, .int .u8 24, .int .u8 3, .int .u8 30, .int .u8 22, .int .u8 20, .int .u8 15, .int .u8 25, .int .u8 17, .int .u8 4, .int .u8 8, .int .u8 31, .int .u8 27, .int .u8 13, .int .u8 23, .int .u8 21, .int .u8 19, .int .u8 16, .int .u8 7, .int .u8 26, .int .u8 12, .int .u8 18, .int .u8 6, .int .u8 11, .int .u8 5, .int .u8 10, .int .u8 9]
def tab64 : Array Value := #[.int .u8 0, .int .u8 1, .int .u8 56, .int .u8 2, .int .u8 57, .int .u8 49, .int .u8 28, .int .u8 3, .int .u8 61, .int .u8 58, .int .u8 42, .int .u8 50, .int .u8 38, .int .u8 29, .int .u8 17, .int .u8 4, .int .u8 62, .int .u8 47, .int .u8 59, .int .u8 36, .int .u8 45, .int .u8 43, .int .u8 51, .int .u8 22, .int .u8 53, .int .u8 39, .int .u8 33, .int .u8 30, .int .u8 24, .int .u8 18, .int .u8 12, .int .u8 5, .int .u8 63, .int .u8 55, .int .u8 48, .int .u8 27, .int .u8 60, .int .u8 41, .int .u8 37, .int .u8 16, .int .u8 46, .int .u8 35, .int .u8 44, .int .u8 21, .int .u8 52, .int .u8 32, .int .u8 23, .int .u8 11, .int .u8 54, .int .u8 26, .int .u8 40, .int .u8 15, .int .u8 34, .int .u8 20, .int .u8 31, .int .u8 10, .int .u8 25, .int .u8 14, .int .u8 19, .int .u8 9, .int .u8 13, .int .u8 8, .int .u8 7, .int .u8 6]
def tabAcc : Array Value := #[.int .u8 128, .int .u8 191, .int .u8 160, .int .u8 191, .int .u8 128, .int .u8 159, .int .u8 144, .int .u8 191, .int .u8 128, .int .u8 143, .int .u8 0, .int .u8 0, .int .u8 0, .int .u8 0, .int .u8 0, .int .u8 0, .int .u8 0, .int .u8 0, .int .u8 0, .int .u8 0, .int .u8 0, .int .u8 0, .int .u8 0, .int .u8 0, .int .u8 0, .int .u8 0, .int .u8 0, .int .u8 0, .int .u8 0, .int .u8 0, .int .u8 0, .int .u8 0]
def tabPow : Array Value := #[.int .u64 1, .int .u64 10, .int .u64 100, .int .u64 1000, .int .u64 10000, .int .u64 100000, .int .u64 1000000, .int .u64 10000000, .int .u64 100000000, .int .u64 1000000000, .int .u64 10000000000, .int .u64 100000000000, .int .u64 1000000000000, .int .u64 10000000000000, .int .u64 100000000000000, .int .u64 1000000000000000, .int .u64 10000000000000000, .int .u64 100000000000000000, .int .u64 1000000000000000000, .int .u64 10000000000000000000]
noncomputable def laidWorld (os : Os) : World :=
  let w0 := World.holding Tryz.prog os ⟨#[], #[], []⟩
  let put (h : Array Obj) (g : Nat) (cs : Array Value) : Array Obj := h.modify g fun
    | .cells _ t frozen => .cells cs t frozen
    | o => o
  { w0 with heap := put (put (put (put (put w0.heap 1 (Lib.firstTab.map fun z => Value.int .u8 z).toArray) 2 tabAcc) 3 tabPow) 4 tab32) 5 tab64 }
theorem laid_met (os : Os) (args : Array Value) : laidMet Tryz.prog Rows.topSandRow.laid ((laidWorld os).forCall (fun _ _ => 0) ⟨#[], args, []⟩).memory :=
  laidMet_of_run' 10 (by kernel_rfl) (by kernel_rfl)
theorem tab_ok {W : World} (h : laidMet Tryz.prog Rows.topSandRow.laid W) : TabOk W := by
  obtain ⟨g, t, cs, fuel, p, h1, h2, h3, h4⟩ := Lib.laidMet.reads h (n := "internal/strconv.uint64pow10") (d := Rows.laid_internal_strconv_uint64pow10) (.tail _ (.tail _ (.head _)))
  obtain rfl := Option.some.inj ((show Tryz.prog.globalNamed "internal/strconv.uint64pow10" = some 3 by kernel_rfl).symm.trans h1)
  obtain rfl := Option.some.inj ((show (Tryz.prog.globals[3]?).map (·.type) = some 371 by kernel_rfl).symm.trans h2)
  have hd : (Rows.laid_internal_strconv_uint64pow10 : DataW Unit) = Lib.tabData .u64 Lib.pow10Tab := by kernel_rfl
  rw [hd] at h4
  have hc := Lib.cells_of_tab Tryz.underlying371 Tryz.underlying331 (by kernel_rfl) (by kernel_rfl) h4
  unfold TabOk Lib.TabIs
  rw [h3, ← hc]
abbrev sandO : OpenSpec := OpenSpec.ofChange Rows.topSandSpec
theorem witness_row (os : Os) {H : Type} (enc : TypeId × Value → H) :
    sandO.preRow enc Tryz.prog Tryz.f3 Rows.topSandRow.domain false Rows.topSandRow.laid ((laidWorld os).forCall (fun _ _ => 0) ⟨#[], #[.int .i64 0, .int .i64 0], []⟩).memory #[.int .i64 0, .int .i64 0] := by
  have hw : (DataW.whole enc Tryz.prog ((laidWorld os).forCall (fun _ _ => 0) ⟨#[], #[.int .i64 0, .int .i64 0], []⟩).memory Tryz.f3.params.toList sandO.vars false #[Value.int .i64 0, Value.int .i64 0].toList 8).map (fun x => (x.1, x.2.1)) =
      some ([.lit (.int .i64 0), .lit (.int .i64 0)], []) := by kernel_rfl
  obtain ⟨⟨x1, x2, x3⟩, hx, hx1⟩ := Option.map_eq_some_iff.1 hw
  simp only [Prod.mk.injEq] at hx1
  obtain ⟨rfl, rfl⟩ := hx1
  exact OpenSpec.preRow_of_cond 8 hx (by kernel_rfl) (fun k hk => by cases hk) (by kernel_rfl) (laid_met os _)
set_option maxRecDepth 100000 in
set_option maxHeartbeats 2000000 in
theorem topSand_lifted (os : Os) (started : os.Started) (H : Type) (enc : TypeId × Value → H) (F : Stop.Interp) :
    ReturnsInHanded {} Tryz.checked os 3 .any (sandO.preRow enc Tryz.prog Tryz.f3 Rows.topSandRow.domain false Rows.topSandRow.laid) ((sandO.at F).post enc Tryz.prog Tryz.f3 false true false false) := by
  refine returnsInHanded_of_row (C := Tryz.checked) (s := sandO) own started (by kernel_rfl) Tryz.func3
    (witness_row_atRef (enc := enc) (C := Tryz.checked) false (laidWorld os) #[.int .i64 0, .int .i64 0] rfl (by kernel_rfl) (by kernel_rfl) (by kernel_rfl) (witness_row os enc)) ?_
  intro W base args ds gs before hval0 hW _ _ _ hL hsh _
  have hval : ∀ (j : Nat) t v, Tryz.f3.params[j]? = some t → args[j]? = some v → Value.okWide Tryz.prog W .any base t v := hval0
  have hW' := hW
  obtain ⟨p, q, hA0, hV, rfl, hfz, hnd⟩ := hW
  have hA : DataW.TrodAll enc Tryz.prog W 0 (fun _ => true) true Tryz.f3.params.toList args.toList ds p := hA0
  rw [Tryz.params3] at hA hval
  obtain ⟨v0, v1, d0, d1, p0, p1, rfl, rfl, rfl, h0, h1⟩ := trodAll_two hA
  obtain ⟨rfl, rfl⟩ := trodVars_none hV
  obtain ⟨a0, rfl, rfl, rfl, w0⟩ := open_int Tryz.underlying3 (hval 0 3 v0 rfl rfl) h0
  obtain ⟨a1, rfl, rfl, rfl, w1⟩ := open_int Tryz.underlying3 (hval 1 3 v1 rfl rfl) h1
  obtain ⟨m, hm⟩ : ∃ m, W.cell? ⟨0, 0, none⟩ = some (.int .i64 m) := Tryz.laysM146.s1_3 W hsh
  refine (topsand_c a0 a1 (in64_of_wf w0).1 (in64_of_wf w0).2 (in64_of_wf w1).1 (in64_of_wf w1).2 m W hm (tab_ok hL)).mono fun e W' ⟨he, hb⟩ => ?_
  subst he
  exact ⟨_, rfl, law_post laidOut (by kernel_rfl) rfl (by kernel_rfl) Tryz.underlying4 hW' rfl rfl rfl hb⟩
end Go.Proofs.YtmbccnioijokfaaGreatDoor

