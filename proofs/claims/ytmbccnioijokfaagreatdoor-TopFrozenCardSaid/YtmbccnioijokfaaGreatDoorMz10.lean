/- Texts that build one behind the other, laid together: DecI LinV TellP LinE3 ScrT TopP FrozT TopA TopZ SandL FrozL. -/
import Derived.Test.YtmbccnioijokfaaGreatDoorMz9
import Derived.Test.YtmbccnioijokfaaGreatDoorMz8
import Derived.Test.YtmbccnioijokfaaGreatDoorMz6
import Derived.Test.YtmbccnioijokfaaGreatDoorRows
import Derived.Test.YtmbccnioijokfaaGreatDoorCards
import Derived.Test.YtmbccnioijokfaaGreatDoorTie
import Derived.Test.YtmbccnioijokfaaGreatDoorMz2
import Derived.Test.YtmbccnioijokfaaGreatDoorMz3
import Derived.Deep.DeepHandedRow
import Derived.Deep.DeepWitnessRowRef
import Derived.LaidLaws
import Derived.Lib.LaidU8
import Derived.ProofKit
import Derived.SevenTiedAt
namespace Go.Proofs.YtmbccnioijokfaaGreatDoor
open Go.RowKit
attribute [local go_sem] Oper.semAt_some
theorem neg_sz (n : Nat) (h : n < 100000000) : (strA (45 :: Lib.decDigits n)).size ≤ 9 := by
  have := dec_len 7 n (by simpa using h)
  rw [strA_sz]
  simp
  omega
set_option maxRecDepth 100000 in
set_option maxHeartbeats 4000000 in
theorem decn_c : ∀ (k n : Nat), n < k → 0 < n → n < 100000000 → ∀ w : World, Calls Tryz.prog 10 #[.int .i64 (-(n : Int))] w fun r w' => r = .returned (.string (strA (45 :: Lib.decDigits n))) ∧ Below w.heap.size w w' := by
  intro k
  induction k with
  | zero => intro n hn _ _ w; omega
  | succ k ih =>
    intro n hn h0 hm w
    have hd : n % 10 < 10 := Nat.mod_lt _ (by decide)
    have hcv := conv_dig (n % 10) hd w
    have ht : Int.tmod (-(n : Int)) 10 = -((n % 10 : Nat) : Int) := by rw [Int.neg_tmod, Int.tmod_eq_emod_of_nonneg (by omega)]; omega
    have ht2 : Int.tmod (n : Int) 10 = ((n % 10 : Nat) : Int) := by rw [Int.tmod_eq_emod_of_nonneg (by omega)]; omega
    have hq : Int.tdiv (-(n : Int)) 10 = -((n / 10 : Nat) : Int) := by rw [Int.neg_tdiv, Int.tdiv_eq_ediv_of_nonneg (by omega)]; omega
    by_cases h : n < 10
    · have n2 : -10 < -(n : Int) := by omega
      have n3 : -(n : Int) < 10 := by omega
      have n4 : -(n : Int) < 0 := by omega
      have hnn : n % 10 = n := by omega
      rw [hnn] at hcv ht ht2
      obtain ⟨bd, hbd⟩ : ∃ bd, bd = UInt8.ofNat (48 + n) := ⟨_, rfl⟩
      rw [← hbd] at hcv
      have HD := Lib.hid (show Lib.decDigits n = [bd] by rw [hbd]; exact Lib.decDigits_one h)
      clear ih hd hnn h hbd hn hm hq
      go_enter Tryz.func10, Tryz.ntmps10
      go_wp2_with fail
      go_returns
      exact ⟨by rw [HD.out]; rfl, bel_alloc _ _⟩
    · have n3 : -(n : Int) < 10 := by omega
      have n2 : ¬ -10 < -(n : Int) := by omega
      have hi := fun W => ih (n / 10) (by omega) (by omega) (by omega) W
      have hde : strA (45 :: Lib.decDigits n) = strA (45 :: Lib.decDigits (n / 10)) ++ strA [UInt8.ofNat (48 + n % 10)] := by
        have e : Lib.decDigits n = Lib.decDigits (n / 10) ++ [UInt8.ofNat (48 + n % 10)] := by
          conv => lhs; rw [Lib.decDigits, dif_neg h]
        rw [e]
        generalize Lib.decDigits (n / 10) = a
        apply ByteArray.ext
        simp
      have hsz := neg_sz (n / 10) (by omega)
      generalize strA (45 :: Lib.decDigits (n / 10)) = t0 at hi hde hsz
      generalize strA (45 :: Lib.decDigits n) = t1 at hde ⊢
      subst hde
      have hwq : wrap64 (-((n / 10 : Nat) : Int)) = -((n / 10 : Nat) : Int) := by unfold wrap64; omega
      generalize n / 10 = m at *
      generalize n % 10 = d at *
      obtain ⟨bd, hbd⟩ : ∃ bd, bd = UInt8.ofNat (48 + d) := ⟨_, rfl⟩
      rw [← hbd] at hcv ⊢
      have hcat := cat_run t0 (strA [bd]) (by have : (strA [bd]).size = 1 := rfl; omega)
      have hs1 : (t0.size : Int) + ((strA [bd]).size : Int) ≤ 9223372036854775807 := by have : (strA [bd]).size = 1 := rfl; omega
      have hs2 : (t0.size : Int) + 1 ≤ 9223372036854775807 := by omega
      have HI := Lib.hid hi
      clear hi hsz ih hn hm h hbd
      by_cases h0d : d = 0
      · subst h0d
        rw [show (48 : Int) + ((0 : Nat) : Int) = 48 from rfl] at hcv
        rw [show -((0 : Nat) : Int) = 0 from rfl] at ht
        clear hd ht2
        go_enter Tryz.func10, Tryz.ntmps10
        go_wp2_with (go_at_call 10; refine (HI.out _).mono ?_; rintro e_ w1 ⟨rfl, g1⟩; have G1 := Lib.hid g1; clear g1)
        go_returns
        exact ⟨rfl, after (bel_alloc _ _) G1.out⟩
      · have k1 : -(d : Int) < 0 := by omega
        have k2 : -10 < -(d : Int) := by omega
        have k3 : 0 < d := by omega
        clear h0d hd h0
        go_enter Tryz.func10, Tryz.ntmps10
        go_wp2_with (go_at_call 10; refine (HI.out _).mono ?_; rintro e_ w1 ⟨rfl, g1⟩; have G1 := Lib.hid g1; clear g1)
        go_returns
        exact ⟨rfl, after (bel_alloc _ _) G1.out⟩
theorem deci_c (n : Int) (h1 : -100000000 < n) (h2 : n < 100000000) (w : World) : Calls Tryz.prog 10 #[.int .i64 n] w fun r w' => r = .returned (.string (strA (Lib.itoa n))) ∧ Below w.heap.size w w' := by
  rcases (show 0 ≤ n ∨ n < 0 by omega) with h | h
  · obtain ⟨m, rfl⟩ := Int.eq_ofNat_of_zero_le h
    rw [itoa_nn]
    exact dec_c (m + 1) m (Nat.lt_succ_self m) (by omega) w
  · obtain ⟨m, hm⟩ := Int.eq_ofNat_of_zero_le (show 0 ≤ -n by omega)
    obtain rfl : n = -(m : Int) := by omega
    rw [itoa_neg (by omega)]
    exact decn_c (m + 1) m (Nat.lt_succ_self m) (by omega) (by omega) w
abbrev rowW (l : List Int) : List UInt8 := joinL (l.map Lib.itoa)
theorem joinL_snoc : ∀ (ws : List (List UInt8)) (w : List UInt8), ws ≠ [] → joinL (ws ++ [w]) = joinL ws ++ 32 :: w
  | [], _, h => absurd rfl h
  | [v], w, _ => rfl
  | v :: u :: ws, w, _ => by
    have ih := joinL_snoc (u :: ws) w (by simp)
    show v ++ 32 :: joinL (u :: ws ++ [w]) = (v ++ 32 :: joinL (u :: ws)) ++ 32 :: w
    rw [ih, List.append_assoc]
    rfl
theorem rowW_len : ∀ l : List Int, (∀ x ∈ l, -100000000 < x ∧ x < 100000000) → (rowW l).length ≤ 10 * l.length
  | [], _ => Nat.zero_le _
  | [x], h => by
    have := (nw_itoa (h x (.head _)).1 (h x (.head _)).2).2.2
    show (Lib.itoa x).length ≤ 10
    omega
  | x :: y :: l, h => by
    have h1 := (nw_itoa (h x (.head _)).1 (h x (.head _)).2).2.2
    have h2 := rowW_len (y :: l) fun z hz => h z (.tail _ hz)
    show (Lib.itoa x ++ 32 :: rowW (y :: l)).length ≤ 10 * (y :: l).length.succ
    rw [List.length_append, List.length_cons]
    omega
theorem strA_app (a b : List UInt8) : strA (a ++ b) = strA a ++ strA b := by
  apply ByteArray.ext
  simp
set_option maxRecDepth 100000 in
set_option maxHeartbeats 4000000 in
theorem row_c (l : List Int) (hl : l.length ≤ 3) (hb : ∀ x ∈ l, -100000000 < x ∧ x < 100000000) (b cap : Nat) (w : World) (hlt : b < w.heap.size) (hc : ∀ i x, l[i]? = some x → w.cell? ⟨b, i, none⟩ = some (.int .i64 x)) :
    Calls Tryz.prog 12 #[.slice (some ⟨b, 0, none⟩) l.length cap] w fun r w' => r = .returned (.string (strA (rowW l))) ∧ Below w.heap.size w w' := by
  obtain ⟨n, hn⟩ : ∃ n, n = l.length := ⟨_, rfl⟩
  have HX := Lib.hid (And.intro hl (And.intro hb (And.intro hlt hc)))
  rw [← hn]
  have HNN := Lib.hid hn
  clear hl hb hlt hc hn
  go_enter Tryz.func12, Tryz.ntmps12
  go_upto_region 3 with (fail)
  go_loopw [3, 4] (fun s iv wr => ∃ i : Nat, i ≤ n ∧ iv = .int .i64 i ∧ s = .string (strA (rowW (l.take i))) ∧ Hid (Below w.heap.size w wr)) (fun _ iv _ => n - (intOf iv).toNat)
  case atStart => exact ⟨0, Nat.zero_le _, rfl, rfl, Lib.hid (.refl _ _)⟩
  case round =>
    obtain ⟨i, hi, rfl, rfl, hI⟩ := hrel
    by_cases hlt : i < n
    · obtain ⟨x, hx⟩ : ∃ x, l[i]? = some x := ⟨_, List.getElem?_eq_getElem (by rw [← HNN.out]; exact hlt)⟩
      have hxb := HX.out.2.1 x (List.mem_of_getElem? hx)
      have hcell := HX.out.2.2.2 i x hx
      have hcell2 : wr.cell? ⟨b, i, none⟩ = some (.int .i64 x) := by rw [← hcell]; exact Below.cell hI.out HX.out.2.2.1
      have hlt' : (i : Int) < (n : Int) := by omega
      have hlen := rowW_len (l.take i) fun y hy => HX.out.2.1 y (List.mem_of_mem_take hy)
      have hlen2 : (l.take i).length = i := by have := HNN.out; rw [List.length_take]; omega
      have hl3 := HX.out.1
      have hnn := HNN.out
      have hxs := (nw_itoa hxb.1 hxb.2).2.2
      have hdx := deci_c x hxb.1 hxb.2
      have hstep : l.take (i + 1) = l.take i ++ [x] := by rw [List.take_add_one, hx]; rfl
      have q3 : (i : Int) + 1 ≤ 9223372036854775807 := by omega
      have q4 : -9223372036854775808 ≤ (i : Int) + 1 := by omega
      have q0 : (0 : Int) ≤ (i : Int) := by omega
      have hs0 : ((strA (rowW (l.take i))).size : Int) + 1 ≤ 9223372036854775807 := by rw [strA_sz]; omega
      have hs1 : ((strA (rowW (l.take i))).size : Int) + ((strA (Lib.itoa x)).size : Int) ≤ 9223372036854775807 := by rw [strA_sz, strA_sz]; omega
      have hs2 : ((strA (rowW (l.take i))).size : Int) + 1 + ((strA (Lib.itoa x)).size : Int) ≤ 9223372036854775807 := by rw [strA_sz, strA_sz]; omega
      have hs3 : ((strA (rowW (l.take i)) ++ ⟨#[32]⟩).size : Int) + ((strA (Lib.itoa x)).size : Int) ≤ 9223372036854775807 := by
        have e1 : (strA (rowW (l.take i)) ++ ⟨#[32]⟩).size = (strA (rowW (l.take i))).size + 1 := by rw [ByteArray.size_append]; rfl
        rw [e1, strA_sz, strA_sz]
        omega
      have hnew : (i = 0 → strA (rowW (l.take (i + 1))) = strA (rowW (l.take i)) ++ strA (Lib.itoa x)) ∧ (0 < i → strA (rowW (l.take (i + 1))) = (strA (rowW (l.take i)) ++ ⟨#[32]⟩) ++ strA (Lib.itoa x)) := by
        rw [hstep]
        constructor
        · rintro rfl
          show strA (Lib.itoa x) = strA [] ++ strA (Lib.itoa x)
          rw [← strA_app]
          rfl
        · intro hi0
          have hne : (l.take i).map Lib.itoa ≠ [] := fun h => by
            have := congrArg List.length h
            rw [List.length_map, hlen2] at this
            simp at this
            omega
          show strA (joinL ((l.take i ++ [x]).map Lib.itoa)) = _
          rw [List.map_append, List.map_cons, List.map_nil, joinL_snoc _ _ hne, strA_app]
          show strA (rowW (l.take i)) ++ strA (32 :: Lib.itoa x) = (strA (rowW (l.take i)) ++ strA [32]) ++ strA (Lib.itoa x)
          rw [← strA_app, ← strA_app, ← strA_app, List.append_assoc]
          rfl
      have HN := Lib.hid hnew
      have HDX := Lib.hid hdx
      have HLT := Lib.hid hlt
      generalize strA (rowW (l.take i)) = s0 at *
      generalize strA (Lib.itoa x) = sx at *
      have HQ := Lib.hid (And.intro q3 (And.intro q4 (And.intro hs1 (And.intro hs3 hcell2))))
      clear hx hxb hcell hlen hlen2 hl3 hnn hxs hdx hstep hnew hlt hs0 hs1 hs2 hs3 q3 q4 q0 hcell2
      by_cases hi0 : 0 < i
      · have n1 : (0 : Int) < (i : Int) := by omega
        have HI0 := Lib.hid hi0
        have hsx : (s0.size : Int) ≤ 9223372036854775806 := by
          have := HQ.out.2.2.2.1
          rw [ByteArray.size_append, show (⟨#[32]⟩ : ByteArray).size = 1 from rfl] at this
          omega
        clear hi0
        go_upto_region 6 with (fail)
        clear n1
        go_upto_region 7 with (fail)
        clear hsx
        obtain ⟨s2, hs2⟩ : ∃ s2, s2 = s0 ++ ⟨#[32]⟩ := ⟨_, rfl⟩
        rw [← hs2]
        have HS2 := Lib.hid hs2
        have h3 := HQ.out.2.2.2.1
        rw [← hs2] at h3
        have hc := HQ.out.2.2.2.2
        have q0 : (0 : Int) ≤ (i : Int) := by omega
        clear hs2
        go_upto_region 4 with (go_at_call 10; refine (HDX.out _).mono ?_; rintro e_ w1 ⟨rfl, g1⟩; have G1 := Lib.hid (after hI.out g1); clear g1)
        clear h3 hc q0
        have q3 := HQ.out.1
        have q4 := HQ.out.2.1
        go_wp2_with fail
        go_roundw
        case rel => exact ⟨i + 1, HLT.out, by go_num, by rw [HN.out.2 HI0.out, HS2.out], G1⟩
        case measure => have := HLT.out; simp [intOf]; omega
      · obtain rfl : i = 0 := by omega
        have h1 := HQ.out.2.2.1
        have hc := HQ.out.2.2.2.2
        go_wp2_with (go_at_call 10; refine (HDX.out _).mono ?_; rintro e_ w1 ⟨rfl, g1⟩; have G1 := Lib.hid (after hI.out g1); clear g1)
        go_roundw
        case rel => exact ⟨0 + 1, HLT.out, by go_num, by rw [HN.out.1 trivial], G1⟩
        case measure => have := HLT.out; simp [intOf]; omega
    · obtain rfl : i = n := by omega
      have hlt' : ¬ (i : Int) < (i : Int) := by omega
      rw [show l.take i = l by rw [HNN.out, List.take_length]]
      clear hlt hi
      go_wp2_with fail
      go_returns
      exact ⟨rfl, hI.out⟩
end Go.Proofs.YtmbccnioijokfaaGreatDoor

namespace Go.Proofs.YtmbccnioijokfaaGreatDoor
open Go.RowKit Go.Maps
attribute [local go_sem] Oper.semAt_some
abbrev jA (j : Bool) : ByteArray := if j then ⟨#[49]⟩ else ⟨#[48]⟩
set_option maxRecDepth 100000 in
set_option maxHeartbeats 8000000 in
theorem ctell_false (w0 : World) (sh e s wd t q : Nat) (occ : Value) (S : SS) (l : Lf) (M : Nat → Prop) (N a : Nat) (s1 s2 s3 : ByteArray) (x z : Int) (h1 : NW s1 0) (h2 : NW s2 x) (h3 : NW s3 z) (w : World)
    (h : Cmd w0 sh e s wd t q occ S (some l) M N a [s1, s2, s3, ⟨#[48]⟩] w) :
    Calls Tryz.prog 53 #[.pointer (some ⟨sh, 0, none⟩), .pointer (some ⟨a, 0, none⟩)] w fun r w' => r = .returned (.string (strA [111, 107])) ∧ Aft (ShA sh e s wd t q occ S (some (l.say x z false))) w0 M w' := by
  have HC := Lib.hid h
  have H1 := Lib.hid (And.intro h1 (And.intro h2 h3))
  clear h h1 h2 h3
  go_enter Tryz.func53, Tryz.ntmps53
  go_upto_region 2 with (go_at_call 73; refine (num_c N a s1 0 H1.out.1 _ _ HC.out.arg).mono ?_; rintro e_ w1 ⟨rfl, a1, k1⟩; have C1 := Lib.hid (HC.out.eat a1 k1); clear a1 k1)
  go_upto_region 3 with (go_at_call 73; refine (num_c N a s2 x H1.out.2.1 _ _ C1.out.arg).mono ?_; rintro e_ w2 ⟨rfl, a2, k2⟩; have C2 := Lib.hid (C1.out.eat a2 k2); clear a2 k2)
  obtain ⟨W2, hW2⟩ : ∃ W2, W2 = w2.alloc (.cells #[.int .i64 x, .int .i64 0, .bool false] 81) := ⟨_, rfl⟩
  have hb2 : Below w2.heap.size w2 W2 := by rw [hW2]; exact bel_alloc _ _
  have B2 := Lib.hid (Blk.fresh hW2)
  have C3 := Lib.hid (show Cmd w0 sh e s wd t q occ S (some l) M N a [s3, ⟨#[48]⟩] W2 from ⟨C2.out.sh, C2.out.new, after C2.out.bel hb2, C2.out.arg.on hb2⟩)
  rw [← hW2]
  have hg0 : w0.heap.size ≤ w2.heap.size := C2.out.bel.size
  have hga : w2.heap.size ≠ a := by have := C2.out.arg.le; omega
  have hgN : N ≤ w2.heap.size := by have := C2.out.arg.le; omega
  generalize w2.heap.size = g at *
  have HG := Lib.hid (And.intro hg0 (And.intro hga hgN))
  clear hW2 hb2 hg0 hga hgN
  go_upto_region 4 with (go_at_call 73; refine (num_c N a s3 z H1.out.2.2 _ _ C3.out.arg).mono ?_; rintro e_ w3 ⟨rfl, a3, k3⟩; have C4 := Lib.hid (C3.out.eat a3 k3); have hB3 := k3.blk HG.out.2.1 B2.out; have B3 := Lib.hid hB3; obtain ⟨r0, r1, r2, f0, f1, f2⟩ := hB3.c3; clear a3 k3 hB3)
  obtain ⟨W4, hW4⟩ : ∃ W4, W4 = w3.setCell ⟨g, 1, none⟩ (.int .i64 z) := ⟨_, rfl⟩
  have hB4 : Blk W4 g 81 #[.int .i64 x, .int .i64 z, .bool false] := by rw [hW4]; exact B3.out.set_ 1 _
  have B4 := Lib.hid hB4
  have hbN : Below N w3 W4 := by rw [hW4]; exact (Below.refl _ _).setCell (p := ⟨g, 1, none⟩) HG.out.2.2 _
  have hb0 : Below w0.heap.size w3 W4 := by rw [hW4]; exact (Below.refl _ _).setCell (p := ⟨g, 1, none⟩) HG.out.1 _
  have C5 := Lib.hid (show Cmd w0 sh e s wd t q occ S (some l) M N a [⟨#[48]⟩] W4 from ⟨C4.out.sh, C4.out.new, C4.out.bel.trans hb0, C4.out.arg.bel hbN⟩)
  rw [← hW4]
  clear hW4 hB4 hbN hb0 r0 r1 r2 f0 f1 f2
  go_upto_region 6 with first
    | (go_at_call 24; refine (word_c N a _ _ _ C5.out.arg).mono ?_; rintro e_ w5 ⟨rfl, a5, k5⟩; have C6 := Lib.hid (C5.out.eat a5 k5); have hB5 := k5.blk HG.out.2.1 B4.out; have B5 := Lib.hid hB5; obtain ⟨r0, r1, r2, f0, f1, f2⟩ := hB5.c3; clear a5 k5 hB5)
    | (go_at_call 25; refine (must_c _).mono ?_; rintro e_ w6 ⟨rfl, rfl⟩)
  go_upto_region 7 with (fail)
  obtain ⟨W6, hW6⟩ : ∃ W6, W6 = w5.setCell ⟨g, 2, none⟩ (.bool false) := ⟨_, rfl⟩
  have hB6 : Blk W6 g 81 #[.int .i64 x, .int .i64 z, .bool false] := by rw [hW6]; exact B5.out.set_ 2 _
  have B6 := Lib.hid hB6
  have hbN : Below N w5 W6 := by rw [hW6]; exact (Below.refl _ _).setCell (p := ⟨g, 2, none⟩) HG.out.2.2 _
  have hb0 : Below w0.heap.size w5 W6 := by rw [hW6]; exact (Below.refl _ _).setCell (p := ⟨g, 2, none⟩) HG.out.1 _
  have C7 := Lib.hid (show Cmd w0 sh e s wd t q occ S (some l) M N a [] W6 from ⟨C6.out.sh, C6.out.new, C6.out.bel.trans hb0, C6.out.arg.bel hbN⟩)
  rw [← hW6]
  clear hW6 hB6 hbN hb0 r0 r1 r2 f0 f1 f2
  go_upto_region 8 with (go_at_call 74; refine (end_c N a _ C7.out.arg).mono ?_; rintro e_ w7 ⟨rfl, rfl⟩)
  obtain ⟨Me, hs1, hs2, hM⟩ := C7.out.here
  have c0 := fun d os => (B6.out.re d os).cell 0
  have c1 := fun d os => (B6.out.re d os).cell 1
  have c2 := fun d os => (B6.out.re d os).cell 2
  have p0 := fun d os => (hs1.re d os).cell 0
  have HS := Lib.hid (And.intro hs1 (And.intro hs2 hM))
  clear hs1 hs2 hM
  refine wp_sched [0, 0, 0, 0, 0, 0, 3, 3, 3, 3, 3] (fun _ _ _ => True) (by kernel_rfl) (by kernel_rfl) (fun _ _ _ _ h _ => h) ?_
  repeat (first | (refine wpQs_s ?_) | (refine wpQs_q (fun K hK => ?_); go_simp; first | (refine hK _ ?_; clear hK K) | (apply Exists.intro; refine ⟨fun _ => ?_, hK _ ?_⟩; (fail); clear hK K)) | (refine wpQs_f (fun K hK => ?_); go_simp; refine hK _ ?_; clear hK K))
  refine wpQs_nil ?_
  repeat (first | (refine wpLs_skip ?_) | (refine wpLs_one ?lsA (fun v_ => ?_); case lsA => (intro w_ hw_ hp_; (fail))))
  refine wpLs_nilB ?_
  simp only [tails]
  intro W8 g8 _
  have G8 := Lib.hid g8
  have HE8 := Lib.hid (etell_c e s wd t q occ S l x z false W8 Me ((engA_fit e s wd t q occ S (some l)).on HS.out.2.1 g8))
  clear g8 c0 c1 c2 p0
  go_wp2_with first
    | (go_at_call 95; refine HE8.out.mono ?_; rintro e_ w6 ⟨rfl, k6⟩; have K6 := Lib.hid k6; clear k6)
    | (go_at_call 75; refine (told1_c w6.heap.size .ok (w6.alloc (.cells #[.iface 121 (.int .i64 0)] 20)) (Blk.new' rfl) trivial (by decide)).mono ?_; rintro e_ w7 ⟨rfl, g7⟩; have G7 := Lib.hid (after (bel_alloc _ _) g7); clear g7)
  go_returns
  refine ⟨rfl, Aft.ahead (after C7.out.bel G8.out) (Aft.on (shA_fit sh e s wd t q occ S _) (ShA.turn (HS.out.1.on G8.out) ((engA_fit e s wd t q occ S _).on HS.out.2.1 G8.out) HS.out.2.2 K6.out) G7.out)⟩
set_option maxRecDepth 100000 in
set_option maxHeartbeats 8000000 in
theorem ctell_true (w0 : World) (sh e s wd t q : Nat) (occ : Value) (S : SS) (l : Lf) (M : Nat → Prop) (N a : Nat) (s1 s2 s3 : ByteArray) (x z : Int) (h1 : NW s1 0) (h2 : NW s2 x) (h3 : NW s3 z) (w : World)
    (h : Cmd w0 sh e s wd t q occ S (some l) M N a [s1, s2, s3, ⟨#[49]⟩] w) :
    Calls Tryz.prog 53 #[.pointer (some ⟨sh, 0, none⟩), .pointer (some ⟨a, 0, none⟩)] w fun r w' => r = .returned (.string (strA [111, 107])) ∧ Aft (ShA sh e s wd t q occ S (some (l.say x z true))) w0 M w' := by
  have HC := Lib.hid h
  have H1 := Lib.hid (And.intro h1 (And.intro h2 h3))
  clear h h1 h2 h3
  go_enter Tryz.func53, Tryz.ntmps53
  go_upto_region 2 with (go_at_call 73; refine (num_c N a s1 0 H1.out.1 _ _ HC.out.arg).mono ?_; rintro e_ w1 ⟨rfl, a1, k1⟩; have C1 := Lib.hid (HC.out.eat a1 k1); clear a1 k1)
  go_upto_region 3 with (go_at_call 73; refine (num_c N a s2 x H1.out.2.1 _ _ C1.out.arg).mono ?_; rintro e_ w2 ⟨rfl, a2, k2⟩; have C2 := Lib.hid (C1.out.eat a2 k2); clear a2 k2)
  obtain ⟨W2, hW2⟩ : ∃ W2, W2 = w2.alloc (.cells #[.int .i64 x, .int .i64 0, .bool false] 81) := ⟨_, rfl⟩
  have hb2 : Below w2.heap.size w2 W2 := by rw [hW2]; exact bel_alloc _ _
  have B2 := Lib.hid (Blk.fresh hW2)
  have C3 := Lib.hid (show Cmd w0 sh e s wd t q occ S (some l) M N a [s3, ⟨#[49]⟩] W2 from ⟨C2.out.sh, C2.out.new, after C2.out.bel hb2, C2.out.arg.on hb2⟩)
  rw [← hW2]
  have hg0 : w0.heap.size ≤ w2.heap.size := C2.out.bel.size
  have hga : w2.heap.size ≠ a := by have := C2.out.arg.le; omega
  have hgN : N ≤ w2.heap.size := by have := C2.out.arg.le; omega
  generalize w2.heap.size = g at *
  have HG := Lib.hid (And.intro hg0 (And.intro hga hgN))
  clear hW2 hb2 hg0 hga hgN
  go_upto_region 4 with (go_at_call 73; refine (num_c N a s3 z H1.out.2.2 _ _ C3.out.arg).mono ?_; rintro e_ w3 ⟨rfl, a3, k3⟩; have C4 := Lib.hid (C3.out.eat a3 k3); have hB3 := k3.blk HG.out.2.1 B2.out; have B3 := Lib.hid hB3; obtain ⟨r0, r1, r2, f0, f1, f2⟩ := hB3.c3; clear a3 k3 hB3)
  obtain ⟨W4, hW4⟩ : ∃ W4, W4 = w3.setCell ⟨g, 1, none⟩ (.int .i64 z) := ⟨_, rfl⟩
  have hB4 : Blk W4 g 81 #[.int .i64 x, .int .i64 z, .bool false] := by rw [hW4]; exact B3.out.set_ 1 _
  have B4 := Lib.hid hB4
  have hbN : Below N w3 W4 := by rw [hW4]; exact (Below.refl _ _).setCell (p := ⟨g, 1, none⟩) HG.out.2.2 _
  have hb0 : Below w0.heap.size w3 W4 := by rw [hW4]; exact (Below.refl _ _).setCell (p := ⟨g, 1, none⟩) HG.out.1 _
  have C5 := Lib.hid (show Cmd w0 sh e s wd t q occ S (some l) M N a [⟨#[49]⟩] W4 from ⟨C4.out.sh, C4.out.new, C4.out.bel.trans hb0, C4.out.arg.bel hbN⟩)
  rw [← hW4]
  clear hW4 hB4 hbN hb0 r0 r1 r2 f0 f1 f2
  go_upto_region 6 with first
    | (go_at_call 24; refine (word_c N a _ _ _ C5.out.arg).mono ?_; rintro e_ w5 ⟨rfl, a5, k5⟩; have C6 := Lib.hid (C5.out.eat a5 k5); have hB5 := k5.blk HG.out.2.1 B4.out; have B5 := Lib.hid hB5; obtain ⟨r0, r1, r2, f0, f1, f2⟩ := hB5.c3; clear a5 k5 hB5)
    | (go_at_call 25; refine (must_c _).mono ?_; rintro e_ w6 ⟨rfl, rfl⟩)
  go_upto_region 7 with (fail)
  obtain ⟨W6, hW6⟩ : ∃ W6, W6 = w5.setCell ⟨g, 2, none⟩ (.bool true) := ⟨_, rfl⟩
  have hB6 : Blk W6 g 81 #[.int .i64 x, .int .i64 z, .bool true] := by rw [hW6]; exact B5.out.set_ 2 _
  have B6 := Lib.hid hB6
  have hbN : Below N w5 W6 := by rw [hW6]; exact (Below.refl _ _).setCell (p := ⟨g, 2, none⟩) HG.out.2.2 _
  have hb0 : Below w0.heap.size w5 W6 := by rw [hW6]; exact (Below.refl _ _).setCell (p := ⟨g, 2, none⟩) HG.out.1 _
  have C7 := Lib.hid (show Cmd w0 sh e s wd t q occ S (some l) M N a [] W6 from ⟨C6.out.sh, C6.out.new, C6.out.bel.trans hb0, C6.out.arg.bel hbN⟩)
  rw [← hW6]
  clear hW6 hB6 hbN hb0 r0 r1 r2 f0 f1 f2
  go_upto_region 8 with (go_at_call 74; refine (end_c N a _ C7.out.arg).mono ?_; rintro e_ w7 ⟨rfl, rfl⟩)
  obtain ⟨Me, hs1, hs2, hM⟩ := C7.out.here
  have c0 := fun d os => (B6.out.re d os).cell 0
  have c1 := fun d os => (B6.out.re d os).cell 1
  have c2 := fun d os => (B6.out.re d os).cell 2
  have p0 := fun d os => (hs1.re d os).cell 0
  have HS := Lib.hid (And.intro hs1 (And.intro hs2 hM))
  clear hs1 hs2 hM
  refine wp_sched [0, 0, 0, 0, 0, 0, 3, 3, 3, 3, 3] (fun _ _ _ => True) (by kernel_rfl) (by kernel_rfl) (fun _ _ _ _ h _ => h) ?_
  repeat (first | (refine wpQs_s ?_) | (refine wpQs_q (fun K hK => ?_); go_simp; first | (refine hK _ ?_; clear hK K) | (apply Exists.intro; refine ⟨fun _ => ?_, hK _ ?_⟩; (fail); clear hK K)) | (refine wpQs_f (fun K hK => ?_); go_simp; refine hK _ ?_; clear hK K))
  refine wpQs_nil ?_
  repeat (first | (refine wpLs_skip ?_) | (refine wpLs_one ?lsA (fun v_ => ?_); case lsA => (intro w_ hw_ hp_; (fail))))
  refine wpLs_nilB ?_
  simp only [tails]
  intro W8 g8 _
  have G8 := Lib.hid g8
  have HE8 := Lib.hid (etell_c e s wd t q occ S l x z true W8 Me ((engA_fit e s wd t q occ S (some l)).on HS.out.2.1 g8))
  clear g8 c0 c1 c2 p0
  go_wp2_with first
    | (go_at_call 95; refine HE8.out.mono ?_; rintro e_ w6 ⟨rfl, k6⟩; have K6 := Lib.hid k6; clear k6)
    | (go_at_call 75; refine (told1_c w6.heap.size .ok (w6.alloc (.cells #[.iface 121 (.int .i64 0)] 20)) (Blk.new' rfl) trivial (by decide)).mono ?_; rintro e_ w7 ⟨rfl, g7⟩; have G7 := Lib.hid (after (bel_alloc _ _) g7); clear g7)
  go_returns
  refine ⟨rfl, Aft.ahead (after C7.out.bel G8.out) (Aft.on (shA_fit sh e s wd t q occ S _) (ShA.turn (HS.out.1.on G8.out) ((engA_fit e s wd t q occ S _).on HS.out.2.1 G8.out) HS.out.2.2 K6.out) G7.out)⟩
theorem ctell_c (w0 : World) (sh e s wd t q : Nat) (occ : Value) (S : SS) (l : Lf) (M : Nat → Prop) (N a : Nat) (s1 s2 s3 : ByteArray) (x z : Int) (j : Bool) (h1 : NW s1 0) (h2 : NW s2 x) (h3 : NW s3 z) (w : World)
    (h : Cmd w0 sh e s wd t q occ S (some l) M N a [s1, s2, s3, jA j] w) :
    Calls Tryz.prog 53 #[.pointer (some ⟨sh, 0, none⟩), .pointer (some ⟨a, 0, none⟩)] w fun r w' => r = .returned (.string (strA [111, 107])) ∧ Aft (ShA sh e s wd t q occ S (some (l.say x z j))) w0 M w' := by
  cases j
  · exact ctell_false w0 sh e s wd t q occ S l M N a s1 s2 s3 x z h1 h2 h3 w h
  · exact ctell_true w0 sh e s wd t q occ S l M N a s1 s2 s3 x z h1 h2 h3 w h
theorem ltell_c (sh e s wd t q : Nat) (occ : Value) (S : SS) (M : Nat → Prop) (w : World) (line : ByteArray) (l : Lf) (h : ShA sh e s wd t q occ S (some l) w M) (s1 s2 s3 : ByteArray) (x z : Int) (j : Bool) (hl : line.size ≤ 1000) (hw : wordsL line = [⟨#[116, 101, 108, 108]⟩, s1, s2, s3, jA j]) (h1 : NW s1 0) (h2 : NW s2 x) (h3 : NW s3 z) :
    Calls Tryz.prog 9 #[.pointer (some ⟨sh, 0, none⟩), .string line] w fun r w' => r = .returned (.string okS) ∧ Aft (ShA sh e s wd t q occ S (some (l.say x z j))) w M w' := by
  refine (line_m sh e s wd t q occ S (some l) M w h line _ _ (by omega) hw (by simp) 53 12 (fun _ _ _ _ _ => by kernel_rfl) (enters_of Tryz.func53 (by kernel_rfl) rfl) (fun A out => A = ShA sh e s wd t q occ S (some (l.say x z j)) ∧ out = okS) (fun w1 N a w2 _ hc => ?_)).mono ?_
  · refine (ctell_c w1 sh e s wd t q occ S l M N a s1 s2 s3 x z j h1 h2 h3 w2 hc).mono ?_
    rintro r w' ⟨rfl, k⟩
    exact ⟨_, _, rfl, shA_fit sh e s wd t q occ _ _, ⟨rfl, rfl⟩, k⟩
  · rintro r w' ⟨A, out, rfl, -, ⟨rfl, rfl⟩, k⟩
    exact ⟨rfl, k⟩
end Go.Proofs.YtmbccnioijokfaaGreatDoor

namespace Go.Proofs.YtmbccnioijokfaaGreatDoor
open Go.RowKit Go.Maps
abbrev eq_tell0 : ByteArray := ⟨#[116, 101, 108, 108, 32, 48, 32]⟩
abbrev eq_sp : ByteArray := ⟨#[32]⟩
abbrev eq_sp0 : ByteArray := ⟨#[32, 48]⟩
abbrev jL (j : Bool) : List UInt8 := if j then [49] else [48]
theorem jL_ok (j : Bool) : WordOk (jL j) := by cases j <;> exact ⟨by decide, by decide⟩
theorem tellw_ok : WordOk [116, 101, 108, 108] ∧ WordOk [48] ∧ WordOk [101, 100, 105, 116] := ⟨⟨by decide, by decide⟩, ⟨by decide, by decide⟩, ⟨by decide, by decide⟩⟩
section
variable {x y z : Int}
theorem tell_words (hx : -100000000 < x ∧ x < 100000000) (hz : -100000000 < z ∧ z < 100000000) (j : Bool) : wordsL (((eq_tell0 ++ strA (rowW [x, z])) ++ eq_sp) ++ jA j) = [⟨#[116, 101, 108, 108]⟩, ⟨#[48]⟩, strA (Lib.itoa x), strA (Lib.itoa z), jA j] := by
  have e : ((eq_tell0 ++ strA (rowW [x, z])) ++ eq_sp) ++ jA j = strA (joinL [[116, 101, 108, 108], [48], Lib.itoa x, Lib.itoa z, jL j]) := by
    rw [show eq_tell0 = strA [116, 101, 108, 108, 32, 48, 32] from rfl, show eq_sp = strA [32] from rfl, show jA j = strA (jL j) by cases j <;> rfl, ← strA_app, ← strA_app, ← strA_app]
    simp [rowW, joinL]
  rw [e, words_join (by simp)]
  · cases j <;> rfl
  · intro w hw
    simp only [List.mem_cons, List.not_mem_nil, or_false] at hw
    rcases hw with rfl | rfl | rfl | rfl | rfl
    · exact tellw_ok.1
    · exact tellw_ok.2.1
    · exact (nw_itoa hx.1 hx.2).2.1
    · exact (nw_itoa hz.1 hz.2).2.1
    · exact jL_ok j
theorem tell_words0 (hx : -100000000 < x ∧ x < 100000000) (hz : -100000000 < z ∧ z < 100000000) : wordsL ((eq_tell0 ++ strA (rowW [x, z])) ++ eq_sp0) = [⟨#[116, 101, 108, 108]⟩, ⟨#[48]⟩, strA (Lib.itoa x), strA (Lib.itoa z), jA false] := by
  rw [← tell_words hx hz false]
  congr 1
  rw [show eq_sp0 = eq_sp ++ jA false from rfl]
  simp only [ByteArray.append_assoc]
end
theorem nw_one {s : ByteArray} {m n : Int} (h1 : NW s m) (h2 : NW s n) : m = n := by
  obtain ⟨b, d, ⟨p1, p2, p3⟩, rfl⟩ := h1
  obtain ⟨b', d', ⟨q1, q2, q3⟩, rfl⟩ := h2
  obtain rfl : b = b' := p1.symm.trans q1
  obtain rfl : d = d' := p2.symm.trans q2
  rfl
theorem body_said_y {x y z sx sy sz x' y' z' sx' sy' sz' : Int} {st st' : Bool} (h : bodyS x y z sx sy sz st = bodyS x' y' z' sx' sy' sz' st')
    (a : ∀ n ∈ [x, y, z, sx, sy, sz], -100000000 < n ∧ n < 100000000) (b : ∀ n ∈ [x', y', z', sx', sy', sz'], -100000000 < n ∧ n < 100000000) : y = y' := by
  have key : ∀ {x y z sx sy sz : Int} {st : Bool}, (∀ n ∈ [x, y, z, sx, sy, sz], -100000000 < n ∧ n < 100000000) → wordsL (bodyS x y z sx sy sz st) = [strA (Lib.itoa x), strA (Lib.itoa y), strA (Lib.itoa z), strA (Lib.itoa sx), strA (Lib.itoa sy), strA (Lib.itoa sz), strA (Lib.itoa (if st then 1 else 0))] := fun {x y z sx sy sz st} a => by
    have e : bodyS x y z sx sy sz st = strA (joinL ([x, y, z, sx, sy, sz, if st then 1 else 0].map Lib.itoa)) := by
      show joinB [joinB [strA (Lib.itoa x), strA (Lib.itoa y), strA (Lib.itoa z)], joinB [strA (Lib.itoa sx), strA (Lib.itoa sy), strA (Lib.itoa sz)], joinB [strA (Lib.itoa (if st then 1 else 0))]] = _
      simp [joinB, joinL, Lib.join]
    rw [e, words_join (by simp)]
    · rfl
    · intro w hw
      obtain ⟨n, hn, rfl⟩ := List.mem_map.1 hw
      rw [show [x, y, z, sx, sy, sz, if st then 1 else 0] = [x, y, z, sx, sy, sz] ++ [if st then 1 else 0] from rfl] at hn
      rcases List.mem_append.1 hn with hn | hn
      · exact (nw_itoa (a n hn).1 (a n hn).2).2.1
      · obtain rfl := List.mem_singleton.1 hn
        exact (nw_itoa (by split <;> omega) (by split <;> omega)).2.1
  have h1 := key (st := st) a
  have h2 := key (st := st') b
  rw [h, h2] at h1
  have h3 : strA (Lib.itoa y') = strA (Lib.itoa y) := by injection h1 with _ h1; injection h1 with h1 _
  have ny := nw_itoa (a y (by simp)).1 (a y (by simp)).2
  have ny' := nw_itoa (b y' (by simp)).1 (b y' (by simp)).2
  rw [h3] at ny'
  exact nw_one ny.1 ny'.1
end Go.Proofs.YtmbccnioijokfaaGreatDoor

namespace Go.Proofs.YtmbccnioijokfaaGreatDoor
open Go.RowKit Go.Maps
attribute [local go_sem] Oper.semAt_some
def PurR (w0 : World) (Q : ByteArray → Prop) (r : Ending) (w' : World) : Prop := ∃ out, r = .returned (.string out) ∧ Q out ∧ Below w0.heap.size w0 w'
set_option maxRecDepth 100000 in
set_option maxHeartbeats 8000000 in
theorem line_p (sh e s wd t q : Nat) (occ : Value) (S : SS) (L : Option Lf) (M : Nat → Prop) (w : World) (h : ShA sh e s wd t q occ S L w M) (line word : ByteArray) (ws : List ByteArray) (hl : line.size ≤ 4294967296) (hw : wordsL line = word :: ws) (hlen : ws.length ≤ 900000) (F : FuncId) (i : Nat)
    (hf : ∀ b1 b2 b3 b4 b5, Instr.findNow .string (.string word) (mkE (doesL sh b1 b2 b3 b4 b5) 0) 0 = some (some (i, .func (.func F) #[.pointer (some ⟨sh, 0, none⟩)] #[])))
    (eF : ∀ args w, (callFunc F args).run Tryz.prog w = .ok (.enter F args) w) (Q : ByteArray → Prop)
    (hC : ∀ w1 N a w2, Below w.heap.size w w1 → Cmd w1 sh e s wd t q occ S L M N a ws w2 → Calls Tryz.prog F #[.pointer (some ⟨sh, 0, none⟩), .pointer (some ⟨a, 0, none⟩)] w2 fun r w' => PurR w1 Q r w') :
    Calls Tryz.prog 9 #[.pointer (some ⟨sh, 0, none⟩), .string line] w fun r w' => PurR w Q r w' := by
  have hmf : ∀ (fn : Fn) (first cap : Array Value) (w : World), (Instr.makeFunc fn first cap).run Tryz.prog w = .ok (.func fn first cap) w := fun _ _ _ _ => rfl
  have hnf := neq_nilf
  obtain ⟨W0, hW0⟩ : ∃ W0, W0 = w.alloc (.cells #[.string ⟨#[]⟩] 9) := ⟨_, rfl⟩
  have H0 : Below w.heap.size w W0 := by rw [hW0]; exact bel_alloc _ _
  have R0 : Blk W0 w.heap.size 9 #[.string ⟨#[]⟩] := Blk.fresh hW0
  have HWD := words_c line hl W0
  rw [hw] at HWD
  have HWD' := Lib.hid HWD
  have HX := Lib.hid (And.intro h (And.intro H0 (And.intro R0 hlen)))
  have HF := Lib.hid hf
  have HC := Lib.hid hC
  clear h hl hw hlen hf hC HWD H0 R0
  go_enter_defers Tryz.func9, Tryz.ntmps9
  go_upto_region 1 with (fail)
  rw [← hW0]
  clear hW0
  go_upto_region 2 with (go_at_call 21; refine HWD'.out.mono ?_; rintro e_ w1 ⟨A, rfl, a1, a2, a3, a4⟩; have H1 := Lib.hid (And.intro a1 (And.intro a2 (And.intro a3 a4))); clear a1 a2 a3 a4)
  obtain ⟨W2, hW2⟩ : ∃ W2, W2 = w1.alloc (.cells #[.slice (some ⟨A, 0, none⟩) (ws.length + 1) (ws.length + 1)] 58) := ⟨_, rfl⟩
  have g2 : Below w1.heap.size w1 W2 := by rw [hW2]; exact bel_alloc _ _
  have hs2 : W2.heap.size = w1.heap.size + 1 := by rw [hW2]; simp
  have B2 := Blk.fresh hW2
  obtain ⟨z0⟩ : Nonempty Unit := ⟨()⟩
  have a0 := B2.cell 0
  have hwp : (0 : Int) < ((ws.length + 1 : Nat) : Int) := by omega
  have hne : (((ws.length + 1 : Nat) : Int) == 0) = false := by simp; omega
  have hAr := Lib.hid (show ArgA W2.heap.size w1.heap.size (word :: ws) W2 from ⟨some ⟨A, 0, none⟩, ws.length + 1, B2, Nat.le_refl _, by have := HX.out.2.2.2; simp; omega, ⟨Nat.le_refl _, by omega⟩, fun b hb => by
    obtain rfl := Option.some.inj hb
    have := H1.out.2.1
    exact ⟨by dsimp only; omega, by dsimp only; omega⟩, H1.out.2.2.1.on g2⟩)
  have G2 := Lib.hid g2
  have HB2 := Lib.hid B2
  have HS2 := Lib.hid hs2
  rw [← hW2]
  clear hW2 g2 hs2 B2 z0
  have hSH2 := (shA_fit sh e s wd t q occ S L).on HX.out.1 (after (after HX.out.2.1 H1.out.2.2.2) G2.out)
  have HDO := Lib.hid (does_c sh e s wd t q occ S L M W2 hSH2)
  clear hSH2
  go_upto_region 6 with first
    | (go_at_call 23; refine HDO.out.mono ?_; rintro e_ w3 ⟨m, b1, b2, b3, b4, b5, rfl, hm, hx1, hx2, g3⟩; have H3 := Lib.hid (And.intro hm (And.intro hx1 (And.intro hx2 g3))); clear hm hx1 hx2 g3)
    | (go_at_call 24; refine (word_c _ _ word ws w3 (hAr.out.on H3.out.2.2.2)).mono ?_; rintro e_ w4 ⟨rfl, ar4, k4⟩; have H4 := Lib.hid (And.intro ar4 k4); have hlk := run_look (P := Tryz.prog) (mty := 61) (k := .string word) (v := .func (.func F) #[.pointer (some ⟨sh, 0, none⟩)] #[]) (i := i) Tryz.underlying61 Tryz.underlying9 trivial (H3.out.1.kept k4 (strM_ne H3.out.1 (HB2.out.on H3.out.2.2.2))) (HF.out b1 b2 b3 b4 b5); clear ar4 k4)
  have hb4 : Below w1.heap.size w1 w4 := bel_arg (w0 := w1) (a := w1.heap.size) (after G2.out H3.out.2.2.2) (Nat.le_refl _) H4.out.2
  have hC4 := HC.out w1 _ _ w4 (after HX.out.2.1 H1.out.2.2.2) ⟨(shA_fit sh e s wd t q occ S L).on HX.out.1 (after HX.out.2.1 H1.out.2.2.2), Nat.le_refl _, hb4, H4.out.1⟩
  have HCC := Lib.hid hC4
  have HB4 := Lib.hid hb4
  clear hb4 hC4 hlk
  go_wp2_with first
    | (go_at_call 25; refine (must_c _).mono ?_; rintro e_ w5 ⟨rfl, rfl⟩)
    | (refine HCC.out.mono ?_; rintro e_ w6 ⟨out, rfl, hq, k6⟩; have hR6 : Blk w6 w.heap.size 9 #[.string ⟨#[]⟩] := (((HX.out.2.2.1).on H1.out.2.2.2).on k6); have r6 := hR6.cell 0; have f6 := hR6.frz 0; have H6 := Lib.hid (And.intro hq (And.intro k6 hR6)); clear hq k6 hR6)
  refine leaves_cons (f := 22) (args := #[.pointer (some ⟨w.heap.size, 0, none⟩)]) (by simp) (by simp [go_sem]) ?_
  refine (catch_c _ _).mono ?_
  rintro e_ u_ w7 ⟨rfl, rfl, rfl⟩
  obtain ⟨hq, k6, hR6⟩ := H6.out
  have hR7 : Blk (w6.setCell ⟨w.heap.size, 0, none⟩ (.string out)) w.heap.size 9 #[.string out] := hR6.set_ 0 _
  have c7 := hR7.cell 0
  have hfin : PurR w Q (.returned (.string out)) (w6.setCell ⟨w.heap.size, 0, none⟩ (.string out)) :=
    ⟨out, rfl, hq, (after (after HX.out.2.1 H1.out.2.2.2) k6).setCell (p := ⟨w.heap.size, 0, none⟩) (Nat.le_refl _) _⟩
  have HFIN := Lib.hid hfin
  clear hfin hq k6 hR6 hR7
  simp [Leaves, settle, results, Tryz.results9, go_sem, c7]
  exact HFIN.out
theorem latp_c (sh e s wd t q : Nat) (occ : Value) (S : SS) (M : Nat → Prop) (w : World) (line : ByteArray) (L : Option Lf) (h : ShA sh e s wd t q occ S L w M) (s1 s2 s3 : ByteArray) (x y z : Int) (hl : line.size ≤ 1000) (hw : wordsL line = [⟨#[97, 116]⟩, s1, s2, s3]) (h1 : NW s1 x) (h2 : NW s2 y) (h3 : NW s3 z) (hx : In64 x) (hz : In64 z) (hn : S.T.l.length ≤ 1000) (hne : (S.T.cell (x, y, z) == -1) = false) :
    Calls Tryz.prog 9 #[.pointer (some ⟨sh, 0, none⟩), .string line] w fun r w' => r = .returned (.string (strA (blkN (S.T.cell (x, y, z))))) ∧ Below w.heap.size w w' := by
  refine (line_p sh e s wd t q occ S L M w h line _ _ (by omega) hw (by simp) 58 17 (fun _ _ _ _ _ => by kernel_rfl) (enters_of Tryz.func58 (by kernel_rfl) rfl) (fun out => out = strA (blkN (S.T.cell (x, y, z)))) (fun w1 N a w2 _ hc => ?_)).mono ?_
  · refine (cat_c w1 sh e s wd t q occ S L M N a s1 s2 s3 x y z h1 h2 h3 hx hz hn hne w2 hc).mono ?_
    rintro r w' ⟨rfl, k⟩
    exact ⟨_, rfl, rfl, k⟩
  · rintro r w' ⟨out, rfl, rfl, k⟩
    exact ⟨rfl, k⟩
theorem BldA.on {B b : Nat} {p : Value} {bs : List Value} {w w' : World} (h : BldA B b p bs w) (hb : Below w.heap.size w w') : BldA B b p bs w' := by
  obtain ⟨h1, v, h2, h3, h4⟩ := h
  have lt : ∀ {g : Nat} {o : Obj}, w.heap[g]? = some o → g < w.heap.size := fun h => (Array.getElem?_eq_some_iff.1 h).1
  refine ⟨h1, v, (hb.block b (lt h2)).trans h2, ⟨h3.1, ?_⟩, h4⟩
  rcases h3.2 with h5 | ⟨g, cap, cur, fz, h5, h6, h7, h8⟩
  · exact .inl h5
  · exact .inr ⟨g, cap, cur, fz, h5, h6, (hb.block g (lt h7)).trans h7, h8⟩
end Go.Proofs.YtmbccnioijokfaaGreatDoor

namespace Go.Proofs.YtmbccnioijokfaaGreatDoor
open Go.RowKit Go.Maps
attribute [local go_sem] Oper.semAt_some
abbrev lineA : ByteArray := ⟨#[108, 111, 97, 100, 32, 48, 32, 48]⟩
abbrev lineB : ByteArray := ⟨#[97, 116, 32, 48, 32, 48, 32, 48]⟩
abbrev scrS : ByteArray := ⟨#[108, 111, 97, 100, 32, 48, 32, 48, 10, 97, 116, 32, 48, 32, 48, 32, 48]⟩
abbrev sayA : ByteArray := ⟨#[111, 107, 10]⟩
abbrev sayB : ByteArray := ⟨#[115, 116, 111, 110, 101, 10]⟩
def Sr : SS := newSS (newT 1 9 200000) 0 16
def Sr1 : SS := { Sr with T := { Sr.T with l := Sr.T.l ++ [newI Sr.T.seed 0 0] } }
theorem stone0 : Sr1.T.cell (0, 0, 0) = 1 := by
  have h1 : Sr1.T.l.find? (TI.is (chkOf 0 0)) = some (newI 1 0 0) := by
    show [newI 1 0 0].find? (TI.is (chkOf 0 0)) = _
    have : (newI 1 0 0).is (chkOf 0 0) = true := by decide
    rw [List.find?_cons_of_pos this]
  unfold TS.cell TS.at
  rw [h1]
  show (newI 1 0 0).at 0 0 0 = 1
  unfold TI.at
  rw [if_neg (by decide), if_pos (by decide)]
  unfold chB newI genL
  dsimp only
  rw [List.getElem?_map, show (idxI 0 0 0).toNat = 0 by decide, List.getElem?_range (by decide)]
  show cellG 1 0 0 0 = 1
  unfold cellG ofB
  rw [if_neg (by omega), if_pos (by omega)]
set_option maxRecDepth 100000 in
set_option maxHeartbeats 16000000 in
theorem run_c (m : Int) (w : World) (hm : w.cell? ⟨0, 0, none⟩ = some (.int .i64 m)) : Calls Tryz.prog 26 #[.string scrS] w fun r w' => r = .returned (.string (sayA ++ sayB)) ∧ Below w.heap.size w w' := by
  have hm0 : 0 < w.heap.size := by
    rcases Nat.lt_or_ge 0 w.heap.size with h | h
    · exact h
    · simp [World.cell?, Array.getElem?_eq_none h] at hm
  have HN := Lib.hid (lnew_c w)
  have HM := Lib.hid (And.intro hm hm0)
  clear hm hm0
  go_enter Tryz.func26, Tryz.ntmps26
  go_upto_region 2 with (go_at_call 20; refine HN.out.mono ?_; rintro e_ w1 ⟨sh, e, s, wd, t, q, M1, rfl, p1, m1, b1⟩; have H1 := Lib.hid (And.intro p1 (And.intro m1 b1)); clear p1 m1 b1)
  go_upto_region 3 with (fail)
  obtain ⟨W2, hW2⟩ : ∃ W2, W2 = w1.alloc (.cells #[.pointer none, .slice none 0 0] 102) := ⟨_, rfl⟩
  have g2 : Below w1.heap.size w1 W2 := by rw [hW2]; exact bel_alloc _ _
  have hB2 : BldA w1.heap.size w1.heap.size (.pointer none) [] W2 := ⟨Nat.le_refl _, .slice none 0 0, Blk.fresh hW2, ⟨rfl, .inl ⟨rfl, rfl⟩⟩, by simp [Value.ownBlock]⟩
  have HB2 := Lib.hid (And.intro hB2 g2)
  have HBk := Lib.hid (show Blk W2 w1.heap.size 102 #[.pointer none, .slice none 0 0] from Blk.fresh hW2)
  rw [← hW2]
  clear hW2 hB2 g2
  have hsp := Tryz.strings_Split scrS ⟨#[10]⟩ m W2 (by decide) (by
    rw [Below.cell (after H1.out.2.2 HB2.out.2) HM.out.2]; exact HM.out.1) (by decide)
  rw [show Lib.countB scrS ⟨#[10]⟩ = 1 by kernel_rfl, show Lib.splitB ⟨#[10]⟩ 0 1 scrS = [lineA, lineB] by kernel_rfl] at hsp
  have HSP := Lib.hid hsp
  clear hsp
  go_upto_region 4 with (go_at_call 64; refine HSP.out.mono ?_; rintro e_ w3 ⟨rfl, h3⟩; have H3 := Lib.hid h3; clear h3)
  have hB3 : Blk w3 W2.heap.size 9 #[.string lineA, .string lineB] := by rw [H3.out]; exact Blk.new' rfl
  have g3 : Below W2.heap.size W2 w3 := by rw [H3.out]; exact bel_alloc _ _
  have c0 := hB3.cell 0
  have hwa := words_c lineA (by decide) w3
  rw [show wordsL lineA = [⟨#[108, 111, 97, 100]⟩, ⟨#[48]⟩, ⟨#[48]⟩] from words_ok (by kernel_rfl)] at hwa
  have HWA := Lib.hid hwa
  have HB3 := Lib.hid (And.intro hB3 g3)
  clear hB3 g3 hwa
  refine wp_loop_rounds 3 ?_
  rw [rounds_succ]
  go_upto_region 7 with (go_at_call 21; refine HWA.out.mono ?_; rintro e_ w4 ⟨A, rfl, -, -, -, g4⟩; have G4 := Lib.hid (after HB3.out.2 g4); have G34 := Lib.hid g4; clear g4)
  clear c0
  have HLA := Lib.hid (lload_c sh e s wd t q occ0 Sr M1 w4 lineA none ((shA_fit sh e s wd t q occ0 Sr none).on H1.out.1 (after HB2.out.2 G4.out)) ⟨#[48]⟩ ⟨#[48]⟩ 0 0 (by decide) (words_ok (by kernel_rfl)) nw0 nw0 (by decide) (by decide) (by decide) (by decide) (by decide) ⟨rfl, rfl, by show 0 ≤ (newS 200000).room ∧ (newS 200000).room ≤ 1048576; decide, rfl, rfl⟩)
  have hb1 : ¬ M1 w1.heap.size := fun h => absurd ((shA_fit sh e s wd t q occ0 Sr none).lt H1.out.1 _ h) (by omega)
  have hs2 : w1.heap.size < W2.heap.size := (HBk.out).lt
  have HLT := Lib.hid (And.intro hb1 hs2)
  clear hb1 hs2
  go_upto_region 8 with first
    | (go_at_call 9; refine HLA.out.mono ?_; rintro e_ w5 ⟨rfl, ⟨M5, p5, m5, k5⟩⟩; have H5 := Lib.hid (And.intro p5 (And.intro m5 k5)); have hBk5 := k5.blk HLT.out.1 (HBk.out.on G4.out); have hld5 : BldF w1.heap.size w1.heap.size [] w5 := .inl ⟨Nat.le_refl _, .slice none 0 0, hBk5, ⟨rfl, .inl ⟨rfl, rfl⟩⟩, by simp [Value.ownBlock]⟩; have H5B := Lib.hid (And.intro hld5 (hBk5.cell 1)); clear p5 m5 k5 hBk5 hld5)
    | (go_at_call 65; refine (bwrite_c w1.heap.size w1.heap.size [] _ w5 H5B.out.1 (by decide) (by have := H5.out.2.2.size; have := G4.out.size; have := HLT.out.2; omega)).mono ?_; rintro e_ w6 ⟨rfl, b6, g6, k6⟩; have H6 := Lib.hid (And.intro b6 (And.intro g6 (k6 _ H5B.out.2))); clear b6 g6 k6)
  go_wp2_with fail
  have hM5 : ∀ x, M5 x → x ≠ w1.heap.size := fun x hx he => by
    rcases H5.out.2.1 x hx with h | h
    · exact HLT.out.1 (he ▸ h)
    · have := G4.out.size; have := HLT.out.2; omega
  have hk6 : Kept (fun g => g ≠ w1.heap.size) w5 w6 := H6.out.2.2.mono fun g h => ⟨h, by simp [Value.ownBlock]⟩
  have hSh6 : ShA sh e s wd t q occ0 Sr1 none w6 M5 := (shA_fit sh e s wd t q occ0 Sr1 none).kept H5.out.1 hk6 hM5 fun x cs hx he => absurd (one_type (he ▸ hx) (H5.out.2.2.blk HLT.out.1 (HBk.out.on G4.out))) (by decide)
  have hrow6 : Blk w6 W2.heap.size 9 #[.string lineA, .string lineB] := hk6.blk (by have := HLT.out.2; omega) (H5.out.2.2.blk (fun h => absurd ((shA_fit sh e s wd t q occ0 Sr none).lt H1.out.1 _ h) (by have := HB2.out.2.size; omega)) (HB3.out.1.on (show Below w3.heap.size w3 w4 from G34.out)))
  have hb6 : Below w.heap.size w w6 := (kept_low (after (after H1.out.2.2 HB2.out.2) G4.out) H1.out.2.1 H5.out.2.2).trans (H6.out.2.1.mono H1.out.2.2.size)
  have HS6 := Lib.hid (And.intro hSh6 hb6)
  have c1 := hrow6.cell 1
  have hwb := words_c lineB (by decide) w6
  rw [show wordsL lineB = [⟨#[97, 116]⟩, ⟨#[48]⟩, ⟨#[48]⟩, ⟨#[48]⟩] from words_ok (by kernel_rfl)] at hwb
  have HWB := Lib.hid hwb
  clear hM5 hk6 hSh6 hrow6 hb6 hwb
  rw [rounds_succ]
  go_upto_region 7 with (go_at_call 21; refine HWB.out.mono ?_; rintro e_ w7 ⟨A7, rfl, -, -, -, g7⟩; have G7 := Lib.hid g7; clear g7)
  clear c1
  have hlb := latp_c sh e s wd t q occ0 Sr1 M5 w7 lineB none ((shA_fit sh e s wd t q occ0 Sr1 none).on HS6.out.1 G7.out) ⟨#[48]⟩ ⟨#[48]⟩ ⟨#[48]⟩ 0 0 0 (by decide) (words_ok (by kernel_rfl)) nw0 nw0 nw0 (by unfold In64; omega) (by unfold In64; omega) (by decide) (by rw [stone0]; decide)
  rw [stone0] at hlb
  have HLB := Lib.hid hlb
  clear hlb
  go_upto_region 8 with first
    | (go_at_call 9; refine HLB.out.mono ?_; rintro e_ w8 ⟨rfl, g8⟩; have G8 := Lib.hid g8; clear g8)
    | (go_at_call 65; refine (bwrite_c w1.heap.size w1.heap.size _ _ w8 (.inr ((H6.out.1.on G7.out).on G8.out)) (by decide) (by have := HS6.out.2.size; have := H6.out.1.lt; have := G7.out.size; have := G8.out.size; omega)).mono ?_; rintro e_ w9 ⟨rfl, b9, g9, -⟩; have H9 := Lib.hid (And.intro b9 g9); clear b9 g9)
  go_wp2_with fail
  rw [rounds_succ]
  have hstr := Tryz.Builder_String_k w1.heap.size w1.heap.size (sayA ++ sayB).data.toList w9 (.inr H9.out.1) (by decide)
  have HSTR := Lib.hid hstr
  clear hstr
  go_wp2_with (go_at_call 66; refine HSTR.out.mono ?_; rintro e_ w10 ⟨rfl, -, g10, -⟩; have G10 := Lib.hid g10; clear g10)
  go_returns
  exact ⟨rfl, ((HS6.out.2.trans ((G7.out.trans (G8.out.mono G7.out.size)).mono HS6.out.2.size)).trans (H9.out.2.mono H1.out.2.2.size)).trans (G10.out.mono H1.out.2.2.size)⟩
end Go.Proofs.YtmbccnioijokfaaGreatDoor

namespace Go.Proofs.YtmbccnioijokfaaGreatDoor
open Go.RowKit Go.Maps
theorem itoa_0 : strA (Lib.itoa 0) = ⟨#[48]⟩ := by
  unfold Lib.itoa
  rw [if_neg (by decide)]
  show strA (Lib.decDigits 0) = _
  rw [Lib.decDigits_one (by decide)]
  rfl
theorem dd (n : Nat) (h : ¬ n < 10) : Lib.decDigits n = Lib.decDigits (n / 10) ++ [UInt8.ofNat (48 + n % 10)] := by
  conv => lhs; rw [Lib.decDigits, dif_neg h]
theorem nwb : NW ⟨#[49, 52, 52, 49, 55, 57, 50]⟩ 1441792 := num_ok (l := [49, 52, 52, 49, 55, 57, 50]) (by decide)
theorem nwc : NW ⟨#[52, 48, 48, 48, 48]⟩ 40000 := num_ok (l := [52, 48, 48, 48, 48]) (by decide)
theorem nwd : NW ⟨#[49, 48, 48, 48, 48, 48]⟩ 100000 := num_ok (l := [49, 48, 48, 48, 48, 48]) (by decide)
end Go.Proofs.YtmbccnioijokfaaGreatDoor

namespace Go.Proofs.YtmbccnioijokfaaGreatDoor
open Go.RowKit Go.Maps
theorem nwn5 : NW ⟨#[53, 50, 52, 50, 56, 56]⟩ 524288 := num_ok (l := [53, 50, 52, 50, 56, 56]) (by decide)
theorem ftick_l (sh e s wd t q : Nat) {T : TS} {n : Int} (hT : High T (fun _ => 0)) (hn : 0 ≤ n ∧ n ≤ 90) {k : Nat} (hk : k ≤ 5) (l : Lf) (hl : FallB k l.b) (hj : l.j = false) (occ : Value) (M : Nat → Prop) (w : World) (h : ShA sh e s wd t q occ (SW T n) (some l) w M) :
    Calls Tryz.prog 9 #[.pointer (some ⟨sh, 0, none⟩), .string ⟨#[116, 105, 99, 107, 32, 49]⟩] w fun r w' => (∃ o, r = .returned (.string o)) ∧ ∃ b, FallB (k + 1) b ∧ Aft (ShA sh e s wd t q (occV e) (SW T (n + 1)) (some (l.go b))) w M w' := by
  obtain ⟨h1, h2⟩ := ftick hT (n := n) (by omega) e s wd t q hk l hl hj
  refine (ltick_c sh e s wd t q M w _ 1 (by decide) (fun i => match i with | 0 => occ | _ + 1 => occV e) (fun i => SW T (n + i)) (fun i => match i with | 0 => some l | _ + 1 => some (l.go (stepB T.cell l.b l.x l.z l.j))) (fun _ => 0) (fun _ => 0) rfl (fun _ _ => rfl) (fun i hi => by omega) (by show 0 ≤ n + ((1 : Nat) : Int) ∧ n + ((1 : Nat) : Int) < 100; omega) (by simpa using h) ⟨#[49]⟩ (by decide) (words_ok (by kernel_rfl)) nw1 (fun i hi W M1 hA => ?_)).mono ?_
  · obtain rfl : i = 0 := by omega
    have := h2 occ W M1 (by simpa using hA)
    simpa using this
  · rintro r w' ⟨rfl, k⟩
    exact ⟨⟨_, rfl⟩, _, h1, by simpa using k⟩
theorem stick_l (sh e s wd t q : Nat) {seed n : Int} (hn : 0 ≤ n ∧ n ≤ 40) {k : Nat} (hk : k ≤ 6) (l : Lf) (hl : FallB k l.b) (m : Nat) (hm : 1 ≤ m ∧ m ≤ 20) (line s1 : ByteArray) (hsz : line.size ≤ 1000) (hw : wordsL line = [⟨#[116, 105, 99, 107]⟩, s1]) (h1 : NW s1 m) (occ : Value) (M : Nat → Prop) (w : World) (h : ShA sh e s wd t q occ (SW (T4 seed) n) (some l) w M) :
    Calls Tryz.prog 9 #[.pointer (some ⟨sh, 0, none⟩), .string line] w fun r w' => (∃ o, r = .returned (.string o)) ∧ Aft (ShA sh e s wd t q (occV e) (SW (T4 seed) (n + m)) (some l)) w M w' := by
  obtain ⟨m, rfl⟩ : ∃ j, m = j + 1 := ⟨m - 1, by omega⟩
  refine (ltick_c sh e s wd t q M w line (m + 1) (by omega) (fun i => match i with | 0 => occ | _ + 1 => occV e) (fun i => SW (T4 seed) (n + i)) (fun _ => some l) (fun _ => 0) (fun _ => 0) rfl (fun _ _ => rfl) (fun i hi => by omega) (by show 0 ≤ n + ((m + 1 : Nat) : Int) ∧ n + ((m + 1 : Nat) : Int) < 100; omega) (by simpa using h) s1 hsz hw h1 (fun i hi W M1 hA => ?_)).mono ?_
  · have := stick (seed := seed) (n := n + (i : Int)) (by omega) e s wd t q hk l hl _ W M1 hA
    have e1 : n + ((i + 1 : Nat) : Int) = n + (i : Int) + 1 := by omega
    show Calls _ _ _ _ fun r w' => r = .returned (.int .i64 0) ∧ Aft (EngA e s wd t q (occV e) (SW (T4 seed) (n + ((i + 1 : Nat) : Int))) (some l)) W M1 w'
    rw [e1]
    exact this
  · rintro r w' ⟨rfl, k⟩
    exact ⟨⟨_, rfl⟩, k⟩
theorem tick_words {n : Nat} (h : n < 100000000) : wordsL (⟨#[116, 105, 99, 107, 32]⟩ ++ strA (Lib.decDigits n)) = [⟨#[116, 105, 99, 107]⟩, strA (Lib.decDigits n)] ∧ NW (strA (Lib.decDigits n)) n := by
  have h1 := nw_itoa (n := (n : Int)) (by omega) (by omega)
  rw [itoa_nn] at h1
  refine ⟨?_, h1.1⟩
  have e : (⟨#[116, 105, 99, 107, 32]⟩ ++ strA (Lib.decDigits n) : ByteArray) = strA (joinL [[116, 105, 99, 107], Lib.decDigits n]) := by
    rw [show (⟨#[116, 105, 99, 107, 32]⟩ : ByteArray) = strA [116, 105, 99, 107, 32] from rfl, ← strA_app]
    simp [joinL]
  rw [e, words_join (by simp)]
  · rfl
  · intro w hw
    simp only [List.mem_cons, List.not_mem_nil, or_false] at hw
    rcases hw with rfl | rfl
    · exact ⟨by decide, by decide⟩
    · exact h1.2.1
abbrev sayB9 (b : BD) : ByteArray := bodyS b.1 b.2.1 b.2.2.1 b.2.2.2.1 b.2.2.2.2.1 b.2.2.2.2.2.1 b.2.2.2.2.2.2.2.2
theorem FallB.sm {k : Nat} {b : BD} (h : FallB k b) : Sm9 b.1 ∧ Sm9 b.2.1 ∧ Sm9 b.2.2.1 ∧ Sm9 b.2.2.2.1 ∧ Sm9 b.2.2.2.2.1 ∧ Sm9 b.2.2.2.2.2.1 := by
  obtain ⟨h1, h2, h3, h4, h5, h6, -, -⟩ := h.ok
  unfold Sm9
  omega
theorem FallB.said {k : Nat} (hk : k ≤ 5) {b b' : BD} (h : FallB k b) (h' : FallB (k + 1) b') : sayB9 b' ≠ sayB9 b := fun e => by
  obtain ⟨h1, h2, h3, h4, h5, h6, -, -⟩ := h.ok
  obtain ⟨g1, g2, g3, g4, g5, g6, -, -⟩ := h'.ok
  have := body_said_y e (by intro n hn; simp only [List.mem_cons, List.not_mem_nil, or_false] at hn; rcases hn with rfl | rfl | rfl | rfl | rfl | rfl <;> omega) (by intro n hn; simp only [List.mem_cons, List.not_mem_nil, or_false] at hn; rcases hn with rfl | rfl | rfl | rfl | rfl | rfl <;> omega)
  rw [h.y, h'.y] at this
  have hkk : (((k + 1 : Nat) : Int)) * (((k + 1 : Nat) : Int) + 1) = (k : Int) * ((k : Int) + 1) + 2 * ((k : Int) + 1) := by
    rcases (show k = 0 ∨ k = 1 ∨ k = 2 ∨ k = 3 ∨ k = 4 ∨ k = 5 by omega) with rfl | rfl | rfl | rfl | rfl | rfl <;> decide
  rw [hkk] at this
  omega
theorem fbody_l (sh e s wd t q : Nat) (occ : Value) (S : SS) (M : Nat → Prop) (w : World) {k : Nat} (l : Lf) (hl : FallB k l.b) (hT : TabOk w) (h : ShA sh e s wd t q occ S (some l) w M) :
    Calls Tryz.prog 9 #[.pointer (some ⟨sh, 0, none⟩), .string ⟨#[98, 111, 100, 121, 32, 48]⟩] w fun r w' => r = .returned (.string (sayB9 l.b)) ∧ Aft (ShA sh e s wd t q occ S (some l)) w M w' := by
  obtain ⟨n1, n2, n3, n4, n5, n6⟩ := hl.sm
  exact lbody_c sh e s wd t q occ S M w ⟨#[98, 111, 100, 121, 32, 48]⟩ l h ⟨#[48]⟩ (by decide) (words_ok (by kernel_rfl)) nw0 hT n1 n2 n3 n4 n5 n6
theorem find4 (seed n : Int) : (SW (T4 seed) n).T.find (1, 0) = -1 := by
  unfold SW T4 T5 TS.find
  simp [findI, TI.is, newI, posB]
theorem find5 (seed n : Int) : (SW (T5 seed) n).T.find (1, 0) = ((1 : Nat) : Int) := by
  unfold SW T5 TS.find
  simp [findI, TI.is, newI, posB]
end Go.Proofs.YtmbccnioijokfaaGreatDoor

namespace Go.Proofs.YtmbccnioijokfaaGreatDoor
open Go.RowKit Go.Maps
attribute [local go_sem] Oper.semAt_some
theorem alive_c (m : Int) (w : World) (hm : w.cell? ⟨0, 0, none⟩ = some (.int .i64 m)) : Calls Tryz.prog 11 #[] w fun r w' => r = .returned (.bool true) ∧ Below w.heap.size w w' := by
  have HR := run_c m w hm
  rw [show (sayA ++ sayB : ByteArray) = ⟨#[111, 107, 10, 115, 116, 111, 110, 101, 10]⟩ by kernel_rfl] at HR
  have HR' := Lib.hid HR
  clear HR hm
  go_enter Tryz.func11, Tryz.ntmps11
  go_wp2_with (go_at_call 26; refine HR'.out.mono ?_; rintro e_ w1 ⟨rfl, g1⟩; have G1 := Lib.hid g1; clear g1)
  go_returns
  exact ⟨rfl, G1.out⟩
end Go.Proofs.YtmbccnioijokfaaGreatDoor

namespace Go.Proofs.YtmbccnioijokfaaGreatDoor
open Go.RowKit Go.Maps
attribute [local go_sem] Oper.semAt_some
def FrI (w : World) (sh e s wd t q a : Nat) (seed : Int) (i : Nat) (wr : World) : Prop := ∃ (occ : Value) (b : BD) (x z : Int) (M : Nat → Prop), FallB i b ∧ ShA sh e s wd t q occ (SW (T5 seed) i) (some ⟨a, b, x, z, false⟩) wr M ∧ (∀ g, M g → w.heap.size ≤ g) ∧ Below w.heap.size w wr
def RwR (N : Nat) (x z : Int) (v : Value) (w : World) : Prop := ∃ b, v = .slice (some ⟨b, 0, none⟩) 2 2 ∧ N ≤ b ∧ Blk w b 3 #[.int .i64 x, .int .i64 z]
def rwR (N : Nat) (x z : Int) : Nat → Rel := fun i v w => match i with | 13 => RwR N x z v w | _ => True
theorem rwR_on {N : Nat} {x z : Int} : ∀ i v (w w' : World), rwR N x z i v w → Below w.heap.size w w' → rwR N x z i v w'
  | 13, _, _, _, ⟨b, h1, h2, h3⟩, hb => ⟨b, h1, h2, h3.on hb⟩
  | 0, _, _, _, _, _ => trivial
  | 1, _, _, _, _, _ => trivial
  | 2, _, _, _, _, _ => trivial
  | 3, _, _, _, _, _ => trivial
  | 4, _, _, _, _, _ => trivial
  | 5, _, _, _, _, _ => trivial
  | 6, _, _, _, _, _ => trivial
  | 7, _, _, _, _, _ => trivial
  | 8, _, _, _, _, _ => trivial
  | 9, _, _, _, _, _ => trivial
  | 10, _, _, _, _, _ => trivial
  | 11, _, _, _, _, _ => trivial
  | 12, _, _, _, _, _ => trivial
  | _ + 14, _, _, _, _, _ => trivial
theorem rw_cells {w : World} {g : Nat} {x z : Int} (h : Blk w g 3 #[.int .i64 x, .int .i64 z]) : ∀ i y, [x, z][i]? = some y → w.cell? ⟨g, i, none⟩ = some (.int .i64 y) := fun i y hy => by
  obtain ⟨c0, c1, -, -⟩ := h.pair
  rcases i with _ | _ | i
  · obtain rfl : x = y := by simpa using hy
    exact c0
  · obtain rfl : z = y := by simpa using hy
    exact c1
  · simp at hy
theorem rem_bd (n : Int) : -100000000 < Int.tmod n 1000000 ∧ Int.tmod n 1000000 < 100000000 := by
  rcases (show 0 ≤ n ∨ n ≤ 0 by omega) with h | h
  · rw [Int.tmod_eq_emod_of_nonneg h]; omega
  · rw [tr_neg h]; omega
theorem row2_sz {x z : Int} (hx : -100000000 < x ∧ x < 100000000) (hz : -100000000 < z ∧ z < 100000000) : (strA (rowW [x, z])).size ≤ 20 := by
  rw [strA_sz]
  exact rowW_len [x, z] (by intro n hn; simp only [List.mem_cons, List.not_mem_nil, or_false] at hn; rcases hn with rfl | rfl <;> assumption)
theorem bytes_ne {a b : ByteArray} (h : a ≠ b) : ¬ a.toList = b.toList := by
  rw [ByteArray.toList_eq, ByteArray.toList_eq]
  intro e
  exact h (ByteArray.ext (Array.toList_inj.1 e))
set_option maxRecDepth 100000 in
set_option maxHeartbeats 32000000 in
theorem topfrozen_c (seed : Int) (h1 : -9223372036854775808 ≤ seed) (h2 : seed ≤ 9223372036854775807) (A1 : Option Addr) (n1 k1 : Nat) (F1 : Nat → InD) (hnk : n1 ≤ k1) (hkm : k1 ≤ maxLen) (ti : Int) (h3 : -9223372036854775808 ≤ ti) (h4 : ti ≤ 9223372036854775807) (mx : Int) (w : World) (hq : Rws 3 enIn w A1 n1 F1) (_ : ∀ i, i < n1 → In64 (F1 i).1 ∧ In64 (F1 i).2.1) (hm : w.cell? ⟨0, 0, none⟩ = some (.int .i64 mx)) (hT : TabOk w) :
    Calls Tryz.prog 5 #[.int .i64 seed, .slice A1 n1 k1, .int .i64 ti] w fun r w' => r = .returned (.bool true) ∧ Below w.heap.size w w' := by
  have hm0 : 0 < w.heap.size := by
    rcases Nat.lt_or_ge 0 w.heap.size with h | h
    · exact h
    · simp [World.cell?, Array.getElem?_eq_none h] at hm
  have HM := Lib.hid (And.intro hm (And.intro hm0 (And.intro hT (And.intro hq (And.intro hnk hkm)))))
  clear hm hm0 hT hq hnk hkm
  have har : 0 ≤ arI ti 20 ∧ arI ti 20 < 20 := ⟨arI_lo ti (by decide), arI_hi ti (by decide)⟩
  have HAR := around_c ti 20 h3 h4 (by decide)
  obtain ⟨m, hmm⟩ := Int.eq_ofNat_of_zero_le har.1
  rw [hmm] at HAR har
  have hm5 : m < 20 := by omega
  have htw := tick_words (n := 1 + m) (by omega)
  have hsz := dec_sz (1 + m) (by omega)
  have HDC := Lib.hid fun W => dec_c 1000 (1 + m) (by omega) (by omega) W
  have hcast : ((1 + m : Nat) : Int) = 1 + (m : Int) := by omega
  generalize hds : strA (Lib.decDigits (1 + m)) = ds at *
  have hdc : ∀ W, Calls Tryz.prog 10 #[.int .i64 (1 + (m : Int))] W fun r w' => r = .returned (.string ds) ∧ Below W.heap.size W w' := fun W => by
    have := HDC.out W
    rw [hcast] at this
    exact this
  have HDC' := Lib.hid hdc
  have hs1 : (ds.size : Int) ≤ 9223372036854775800 := by omega
  have hs2 : (5 : Int) + (ds.size : Int) ≤ 9223372036854775807 := by omega
  have hs4 : (ds.size : Int) ≤ 9223372036854775802 := by omega
  have hls : ((⟨#[116, 105, 99, 107, 32]⟩ : ByteArray) ++ ds).size ≤ 1000 := by
    rw [ByteArray.size_append]
    have h1 : (⟨#[116, 105, 99, 107, 32]⟩ : ByteArray).size = 5 := rfl
    omega
  have HAR' := Lib.hid HAR
  have HW := Lib.hid (And.intro htw (And.intro hls hm5))
  have HBG := Lib.hid (begin_c seed h1 h2 w)
  have hw1 : wrap64 (1 + (m : Int)) = 1 + (m : Int) := by unfold wrap64; omega
  have q1 : 1 + (m : Int) ≤ 9223372036854775807 := by omega
  have q2 : -9223372036854775808 ≤ 1 + (m : Int) := by omega
  clear har HAR hmm htw hsz hcast hds hdc hls h1 h2 h3 h4 hm5 HDC
  go_enter Tryz.func5, Tryz.ntmps5
  go_upto_region 4 with (go_at_call 7; refine HBG.out.mono ?_; rintro e_ w1 ⟨n, sh, e, s, wd, t, q, M1, hn, rfl, p1, m1, b1⟩; have H1 := Lib.hid (And.intro (show ShA sh e s wd t q occ0 (SW (T5 n) 0) none w1 M1 from p1) (And.intro m1 b1)); clear p1 m1 b1 hn)
  have HE2 := lspawn_c sh e s wd t q occ0 (SW (T5 n) 0) M1 w1 ⟨#[115, 112, 97, 119, 110, 32, 53, 50, 52, 50, 56, 56, 32, 49, 52, 52, 49, 55, 57, 50, 32, 53, 50, 52, 50, 56, 56, 32, 52, 48, 48, 48, 48, 32, 49, 48, 48, 48, 48, 48]⟩ H1.out.1 _ _ _ _ _ 524288 1441792 524288 40000 100000 bodyF (by decide) (words_ok (ws := [⟨#[115, 112, 97, 119, 110]⟩, ⟨#[53, 50, 52, 50, 56, 56]⟩, ⟨#[49, 52, 52, 49, 55, 57, 50]⟩, ⟨#[53, 50, 52, 50, 56, 56]⟩, ⟨#[52, 48, 48, 48, 48]⟩, ⟨#[49, 48, 48, 48, 48, 48]⟩]) (by kernel_rfl)) nwn5 nwb nwn5 nwc nwd (fun W M hA => fspawn_e n e s wd t q W M hA)
  rw [itoa_0] at HE2
  have HE2' := Lib.hid HE2
  clear HE2
  go_upto_region 6 with (go_at_call 9; refine HE2'.out.mono ?_; rintro e_ w4 ⟨rfl, a, ⟨M4, p4, m4, k4⟩⟩; have H4 := Lib.hid (show FrI w sh e s wd t q a n 0 w4 from ⟨occ0, bodyF, 0, 0, M4, fall_born, p4, low_on H1.out.2.2 H1.out.2.1 m4, kept_low H1.out.2.2 H1.out.2.1 k4⟩); clear p4 m4 k4)
  go_upto_region 7 with (fail)
  go_loopw [8] (fun iv wr => ∃ i : Nat, i ≤ 5 ∧ i ≤ n1 ∧ iv = .int .i64 i ∧ Hid (FrI w sh e s wd t q a n i wr)) (fun iv _ => 5 - (intOf iv).toNat)
  case atStart => exact ⟨0, by omega, Nat.zero_le _, rfl, H4⟩
  case round =>
    clear H4
    obtain ⟨i, hi, hi1, rfl, hI⟩ := hrel
    by_cases hlt : i < n1 ∧ i < 5
    · have g1 : (i : Int) < (n1 : Int) := by omega
      have g2 : (i : Int) < 5 := by omega
      have g0 : (0 : Int) ≤ (i : Int) := by omega
      obtain ⟨occ, b, x, z, M, hF, hS, hML, hB⟩ := hI.out
      obtain ⟨⟨ix, iz, jj⟩, hin⟩ : ∃ inp, F1 i = inp := ⟨_, rfl⟩
      obtain ⟨gq, oq, rfl, hc0, hc1, -⟩ := (HM.out.2.2.2.1.on hB).in3 hlt.1 hin
      have c0 := fun d os => cell_regrown (d := d) (os := os) hc0
      have c1 := fun d os => cell_regrown (d := d) (os := os) hc1
      have hrx := rem_bd ix
      have hrz := rem_bd iz
      have hsr := row2_sz hrx hrz
      have hrow := fun (g : Nat) (W : World) (hb : Blk W g 3 #[.int .i64 (Int.tmod ix 1000000), .int .i64 (Int.tmod iz 1000000)]) => row_c [Int.tmod ix 1000000, Int.tmod iz 1000000] (by simp) (by intro y hy; simp only [List.mem_cons, List.not_mem_nil, or_false] at hy; rcases hy with rfl | rfl <;> assumption) g 2 W hb.lt (rw_cells hb)
      have htw := tell_words0 hrx hrz
      have HNX := Lib.hid (And.intro (nw_itoa hrx.1 hrx.2).1 (nw_itoa hrz.1 hrz.2).1)
      have hwx : IntKind.i64.wrap (Int.tmod ix 1000000) = Int.tmod ix 1000000 := IntWalk.i64_in _ (by omega)
      have hwz : IntKind.i64.wrap (Int.tmod iz 1000000) = Int.tmod iz 1000000 := IntWalk.i64_in _ (by omega)
      generalize strA (rowW [Int.tmod ix 1000000, Int.tmod iz 1000000]) = rs at *
      have ht1 : (rs.size : Int) ≤ 9223372036854775800 := by omega
      have ht2 : (7 : Int) + (rs.size : Int) ≤ 9223372036854775805 := by omega
      have ht3 : ((eq_tell0 ++ rs).size : Int) + 2 ≤ 9223372036854775807 := by have : eq_tell0.size = 7 := rfl; simp [ByteArray.size_append]; omega
      have hls : ((eq_tell0 ++ rs) ++ eq_sp0).size ≤ 1000 := by
        simp [ByteArray.size_append]
        have h1 : eq_tell0.size = 7 := rfl
        have h2 : eq_sp0.size = 2 := rfl
        omega
      have HRW := Lib.hid hrow
      have HTW := Lib.hid (And.intro htw hls)
      have HST := Lib.hid (And.intro hF (And.intro hS (And.intro hML hB)))
      have HLT := Lib.hid hlt
      clear hF hS hML hB hin hc0 hc1 hsr hrow htw hls hlt hrx hrz
      go_upto_region 9 with (fail)
      refine wp_sched [1, 0, 0, 0, 0, 0, 0, 0, 0, 0, 0, 0, 0, 2, 3, 3, 3, 3] (rwR w.heap.size (Int.tmod ix 1000000) (Int.tmod iz 1000000)) (by kernel_rfl) (by kernel_rfl) (rwR_on) ?_
      repeat (first | (refine wpQs_s ?_) | (refine wpQs_q (fun K hK => ?_); go_simp; first | (refine hK _ ?_; clear hK K) | (apply Exists.intro; refine ⟨fun _ => ?_, hK _ ?_⟩; (fail); clear hK K)) | (refine wpQs_f (fun K hK => ?_); go_simp; refine hK _ ?_; clear hK K))
      refine wpQs_nil ?_
      repeat (first | (refine wpLs_skip ?_) | (refine wpLs_one ?lsA (fun v_ => ?_); case lsA => (intro w_ hw_ hp_; ((go_simp; exact ⟨Kept.of_below (bel_alloc _ _), _, rfl, Nat.le_trans HST.out.2.2.2.size (msd_kept hw_).size, Blk.new' rfl⟩)))))
      refine wpLs_nilB ?_
      simp only [tails]
      rintro W3 h3 ⟨-, b3, rfl, hn3, hb3⟩
      have G3 := Lib.hid h3
      have HR3 := Lib.hid (HRW.out b3 W3 hb3)
      clear c0 c1 h3 hn3 hb3
      go_upto_region 10 with first
        | (go_at_call 12; refine HR3.out.mono ?_; rintro e_ w5 ⟨rfl, g5⟩; have G5 := Lib.hid (after G3.out g5); clear g5)
        | (go_at_call 9; refine (ltell_c sh e s wd t q occ (SW (T5 n) i) M w5 _ ⟨a, b, x, z, false⟩ ((shA_fit sh e s wd t q occ _ _).on HST.out.2.1 G5.out) ⟨#[48]⟩ _ _ (Int.tmod ix 1000000) (Int.tmod iz 1000000) false HTW.out.2 HTW.out.1 nw0 HNX.out.1 HNX.out.2).mono ?_; rintro e_ w6 ⟨rfl, ⟨M6, p6, m6, k6⟩⟩; have H6 := Lib.hid (And.intro p6 (And.intro (low_on (after HST.out.2.2.2 G5.out) HST.out.2.2.1 m6) (kept_low (after HST.out.2.2.2 G5.out) HST.out.2.2.1 k6))); clear p6 m6 k6)
      have HTK := Lib.hid (ftick_l sh e s wd t q (high5 n) (n := (i : Int)) (by have := HLT.out.2; omega) (k := i) (by have := HLT.out.2; omega) _ HST.out.1 rfl occ M6 w6 H6.out.1)
      go_wp2_with (go_at_call 9; refine HTK.out.mono ?_; rintro e_ w7 ⟨⟨o7, rfl⟩, b', hF', ⟨M7, p7, m7, k7⟩⟩; have H7 := Lib.hid (show FrI w sh e s wd t q a n (i + 1) w7 from ⟨_, b', _, _, M7, hF', (show ((i + 1 : Nat) : Int) = (i : Int) + 1 by omega) ▸ p7, low_on H6.out.2.2 H6.out.2.1 m7, kept_low H6.out.2.2 H6.out.2.1 k7⟩); clear p7 m7 k7 hF')
      go_roundw
      case rel => exact ⟨i + 1, HLT.out.2, HLT.out.1, by go_num, H7⟩
      case measure => have := HLT.out.2; simp [intOf]; omega
    · obtain ⟨occ, b, x, z, M, hF, hS, hML, hB⟩ := hI.out
      have HST := Lib.hid (And.intro hF (And.intro hS (And.intro hML hB)))
      have HIB := Lib.hid hi
      have hdone : ¬ ((i : Int) < (n1 : Int)) ∨ ((i : Int) < (n1 : Int) ∧ ¬ ((i : Int) < 5)) := by omega
      clear hF hS hML hB hlt hI
      rcases hdone with g1 | ⟨g1, g2⟩
      · go_upto_region 12 with (go_at_call 9; refine (fbody_l sh e s wd t q occ (SW (T5 n) i) M wr ⟨a, b, x, z, false⟩ HST.out.1 (HM.out.2.2.1.on HST.out.2.2.2) HST.out.2.1).mono ?_; rintro e_ w5 ⟨rfl, ⟨M5, p5, m5, k5⟩⟩; have H5 := Lib.hid (And.intro p5 (And.intro (low_on HST.out.2.2.2 HST.out.2.2.1 m5) (kept_low HST.out.2.2.2 HST.out.2.2.1 k5))); clear p5 m5 k5)
        have HUN := Lib.hid (lunload_c sh e s wd t q occ (SW (T5 n) i) M5 w5 ⟨#[117, 110, 108, 111, 97, 100, 32, 49, 32, 48]⟩ _ H5.out.1 ⟨#[49]⟩ ⟨#[48]⟩ 1 0 (by decide) (words_ok (by kernel_rfl)) nw1 nw0 1 (newI n 1 0) (by show (T5 n).l.length ≤ 1000; rw [show (T5 n).l.length = 5 from rfl]; decide) (find5 n i) rfl rfl rfl (by show 2 < (T5 n).l.length; rw [show (T5 n).l.length = 5 from rfl]; decide))
        obtain ⟨o1, ho1⟩ : ∃ o1, o1 = sayB9 b := ⟨_, rfl⟩
        have HO1 := Lib.hid ho1
        simp only [show sayB9 (Lf.b ⟨a, b, x, z, false⟩) = o1 from ho1.symm]
        clear ho1
        go_upto_region 14 with (go_at_call 9; refine HUN.out.mono ?_; rintro e_ w6 ⟨rfl, ⟨M6, p6, m6, k6⟩⟩; have H6 := Lib.hid (And.intro (show ShA sh e s wd t q occ (SW (T4 n) i) _ w6 M6 from p6) (And.intro (low_on H5.out.2.2 H5.out.2.1 m6) (kept_low H5.out.2.2 H5.out.2.1 k6))); clear p6 m6 k6)
        go_upto_region 15 with first
          | (go_at_call 8; refine (HAR'.out _).mono ?_; rintro e_ w7 ⟨rfl, rfl⟩)
          | (go_at_call 10; refine (HDC'.out _).mono ?_; rintro e_ w8 ⟨rfl, g8⟩; have G8 := Lib.hid g8; clear g8)
          | (go_at_call 9; refine (stick_l sh e s wd t q (seed := n) (n := (i : Int)) (by have := HIB.out; omega) (k := i) (by have := HIB.out; omega) ⟨a, b, x, z, false⟩ HST.out.1 (1 + m) (by have := HW.out.2.2; omega) _ ds HW.out.2.1 HW.out.1.1 HW.out.1.2 occ M6 w8 ((shA_fit sh e s wd t q occ _ _).on H6.out.1 G8.out)).mono ?_; rintro e_ w9 ⟨⟨o9, rfl⟩, ⟨M9, p9, m9, k9⟩⟩; have H9 := Lib.hid (And.intro p9 (And.intro (low_on (after H6.out.2.2 G8.out) H6.out.2.1 m9) (kept_low (after H6.out.2.2 G8.out) H6.out.2.1 k9))); clear p9 m9 k9)
        have HB9 := fbody_l sh e s wd t q (occV e) _ M9 w9 ⟨a, b, x, z, false⟩ HST.out.1 (HM.out.2.2.1.on H9.out.2.2) H9.out.1
        rw [show sayB9 (Lf.b ⟨a, b, x, z, false⟩) = o1 from HO1.out.symm] at HB9
        have HB9' := Lib.hid HB9
        clear HB9 hs1 hs2 hs4 hw1 q1 q2
        go_wp2_with fail
        go_at_call 9
        refine HB9'.out.mono ?_
        rintro e_ w10 ⟨rfl, ⟨M10, p10, m10, k10⟩⟩
        have H10 := Lib.hid (And.intro p10 (And.intro (low_on H9.out.2.2 H9.out.2.1 m10) (kept_low H9.out.2.2 H9.out.2.1 k10)))
        clear p10 m10 k10
        have HLD := Lib.hid (lload_c sh e s wd t q (occV e) (SW (T4 n) ((i : Int) + ((1 + m : Nat) : Int))) M10 w10 ⟨#[108, 111, 97, 100, 32, 49, 32, 48]⟩ _ H10.out.1 ⟨#[49]⟩ ⟨#[48]⟩ 1 0 (by decide) (words_ok (by kernel_rfl)) nw1 nw0 (by decide) (by decide) (by show (T4 n).l.length ≤ 1000; rw [show (T4 n).l.length = 4 from rfl]; decide) (by show ((4 : Nat) : Int) < 9; decide) (find4 n _) ⟨rfl, rfl, by show 0 ≤ (newS 200000).room ∧ (newS 200000).room ≤ 1048576; decide, rfl, rfl⟩)
        go_upto_region 17 with (go_at_call 9; refine HLD.out.mono ?_; rintro e_ w11 ⟨rfl, ⟨M11, p11, m11, k11⟩⟩; have H11 := Lib.hid (And.intro (show ShA sh e s wd t q (occV e) (SW (T6 n) ((i : Int) + ((1 + m : Nat) : Int))) _ w11 M11 from p11) (And.intro (low_on H10.out.2.2 H10.out.2.1 m11) (kept_low H10.out.2.2 H10.out.2.1 k11))); clear p11 m11 k11)
        have HTK := Lib.hid (ftick_l sh e s wd t q (high6 n) (n := (i : Int) + ((1 + m : Nat) : Int)) (by have h1 := HIB.out; have h2 := HW.out.2.2; omega) (k := i) HIB.out ⟨a, b, x, z, false⟩ HST.out.1 rfl (occV e) M11 w11 H11.out.1)
        go_upto_region 18 with (go_at_call 9; refine HTK.out.mono ?_; rintro e_ w12 ⟨⟨o12, rfl⟩, b', hF', ⟨M12, p12, m12, k12⟩⟩; have H12 := Lib.hid (And.intro p12 (And.intro (low_on H11.out.2.2 H11.out.2.1 m12) (And.intro (kept_low H11.out.2.2 H11.out.2.1 k12) hF'))); clear p12 m12 k12 hF')
        have HB12 := fbody_l sh e s wd t q (occV e) _ M12 w12 _ H12.out.2.2.2 (HM.out.2.2.1.on H12.out.2.2.1) H12.out.1
        have hne : sayB9 b' ≠ o1 := by rw [HO1.out]; exact FallB.said HIB.out HST.out.1 H12.out.2.2.2
        generalize ho2 : sayB9 (Lf.go ⟨a, b, x, z, false⟩ b').b = o2 at HB12
        have ho3 : sayB9 b' = o2 := ho2
        rw [ho3] at hne
        have hn2 : ¬ o2.toList = o1.toList := bytes_ne hne
        have hn3 := Lib.hid (show (o2.toList == o1.toList) = false by rw [beq_eq_false_iff_ne]; exact hn2)
        have HB12' := Lib.hid HB12
        clear HB12 ho2 ho3
        go_wp2_with first
          | (go_at_call 9; refine HB12'.out.mono ?_; rintro e_ w13 ⟨rfl, ⟨M13, p13, m13, k13⟩⟩; have H13 := Lib.hid (kept_low H12.out.2.2.1 H12.out.2.1 k13); clear p13 m13 k13)
          | (go_at_call 11; refine (alive_c mx w13 (by rw [Below.cell H13.out HM.out.2.1]; exact HM.out.1)).mono ?_; rintro e_ w14 ⟨rfl, g14⟩; have G14 := Lib.hid g14; clear g14)
        go_returns
        exact ⟨by show Ending.returned (Value.bool (!(o2.toList == o1.toList))) = _; rw [hn3.out]; rfl, after H13.out G14.out⟩
      · go_upto_region 12 with (go_at_call 9; refine (fbody_l sh e s wd t q occ (SW (T5 n) i) M wr ⟨a, b, x, z, false⟩ HST.out.1 (HM.out.2.2.1.on HST.out.2.2.2) HST.out.2.1).mono ?_; rintro e_ w5 ⟨rfl, ⟨M5, p5, m5, k5⟩⟩; have H5 := Lib.hid (And.intro p5 (And.intro (low_on HST.out.2.2.2 HST.out.2.2.1 m5) (kept_low HST.out.2.2.2 HST.out.2.2.1 k5))); clear p5 m5 k5)
        have HUN := Lib.hid (lunload_c sh e s wd t q occ (SW (T5 n) i) M5 w5 ⟨#[117, 110, 108, 111, 97, 100, 32, 49, 32, 48]⟩ _ H5.out.1 ⟨#[49]⟩ ⟨#[48]⟩ 1 0 (by decide) (words_ok (by kernel_rfl)) nw1 nw0 1 (newI n 1 0) (by show (T5 n).l.length ≤ 1000; rw [show (T5 n).l.length = 5 from rfl]; decide) (find5 n i) rfl rfl rfl (by show 2 < (T5 n).l.length; rw [show (T5 n).l.length = 5 from rfl]; decide))
        obtain ⟨o1, ho1⟩ : ∃ o1, o1 = sayB9 b := ⟨_, rfl⟩
        have HO1 := Lib.hid ho1
        simp only [show sayB9 (Lf.b ⟨a, b, x, z, false⟩) = o1 from ho1.symm]
        clear ho1
        go_upto_region 14 with (go_at_call 9; refine HUN.out.mono ?_; rintro e_ w6 ⟨rfl, ⟨M6, p6, m6, k6⟩⟩; have H6 := Lib.hid (And.intro (show ShA sh e s wd t q occ (SW (T4 n) i) _ w6 M6 from p6) (And.intro (low_on H5.out.2.2 H5.out.2.1 m6) (kept_low H5.out.2.2 H5.out.2.1 k6))); clear p6 m6 k6)
        go_upto_region 15 with first
          | (go_at_call 8; refine (HAR'.out _).mono ?_; rintro e_ w7 ⟨rfl, rfl⟩)
          | (go_at_call 10; refine (HDC'.out _).mono ?_; rintro e_ w8 ⟨rfl, g8⟩; have G8 := Lib.hid g8; clear g8)
          | (go_at_call 9; refine (stick_l sh e s wd t q (seed := n) (n := (i : Int)) (by have := HIB.out; omega) (k := i) (by have := HIB.out; omega) ⟨a, b, x, z, false⟩ HST.out.1 (1 + m) (by have := HW.out.2.2; omega) _ ds HW.out.2.1 HW.out.1.1 HW.out.1.2 occ M6 w8 ((shA_fit sh e s wd t q occ _ _).on H6.out.1 G8.out)).mono ?_; rintro e_ w9 ⟨⟨o9, rfl⟩, ⟨M9, p9, m9, k9⟩⟩; have H9 := Lib.hid (And.intro p9 (And.intro (low_on (after H6.out.2.2 G8.out) H6.out.2.1 m9) (kept_low (after H6.out.2.2 G8.out) H6.out.2.1 k9))); clear p9 m9 k9)
        have HB9 := fbody_l sh e s wd t q (occV e) _ M9 w9 ⟨a, b, x, z, false⟩ HST.out.1 (HM.out.2.2.1.on H9.out.2.2) H9.out.1
        rw [show sayB9 (Lf.b ⟨a, b, x, z, false⟩) = o1 from HO1.out.symm] at HB9
        have HB9' := Lib.hid HB9
        clear HB9 hs1 hs2 hs4 hw1 q1 q2
        go_wp2_with fail
        go_at_call 9
        refine HB9'.out.mono ?_
        rintro e_ w10 ⟨rfl, ⟨M10, p10, m10, k10⟩⟩
        have H10 := Lib.hid (And.intro p10 (And.intro (low_on H9.out.2.2 H9.out.2.1 m10) (kept_low H9.out.2.2 H9.out.2.1 k10)))
        clear p10 m10 k10
        have HLD := Lib.hid (lload_c sh e s wd t q (occV e) (SW (T4 n) ((i : Int) + ((1 + m : Nat) : Int))) M10 w10 ⟨#[108, 111, 97, 100, 32, 49, 32, 48]⟩ _ H10.out.1 ⟨#[49]⟩ ⟨#[48]⟩ 1 0 (by decide) (words_ok (by kernel_rfl)) nw1 nw0 (by decide) (by decide) (by show (T4 n).l.length ≤ 1000; rw [show (T4 n).l.length = 4 from rfl]; decide) (by show ((4 : Nat) : Int) < 9; decide) (find4 n _) ⟨rfl, rfl, by show 0 ≤ (newS 200000).room ∧ (newS 200000).room ≤ 1048576; decide, rfl, rfl⟩)
        go_upto_region 17 with (go_at_call 9; refine HLD.out.mono ?_; rintro e_ w11 ⟨rfl, ⟨M11, p11, m11, k11⟩⟩; have H11 := Lib.hid (And.intro (show ShA sh e s wd t q (occV e) (SW (T6 n) ((i : Int) + ((1 + m : Nat) : Int))) _ w11 M11 from p11) (And.intro (low_on H10.out.2.2 H10.out.2.1 m11) (kept_low H10.out.2.2 H10.out.2.1 k11))); clear p11 m11 k11)
        have HTK := Lib.hid (ftick_l sh e s wd t q (high6 n) (n := (i : Int) + ((1 + m : Nat) : Int)) (by have h1 := HIB.out; have h2 := HW.out.2.2; omega) (k := i) HIB.out ⟨a, b, x, z, false⟩ HST.out.1 rfl (occV e) M11 w11 H11.out.1)
        go_upto_region 18 with (go_at_call 9; refine HTK.out.mono ?_; rintro e_ w12 ⟨⟨o12, rfl⟩, b', hF', ⟨M12, p12, m12, k12⟩⟩; have H12 := Lib.hid (And.intro p12 (And.intro (low_on H11.out.2.2 H11.out.2.1 m12) (And.intro (kept_low H11.out.2.2 H11.out.2.1 k12) hF'))); clear p12 m12 k12 hF')
        have HB12 := fbody_l sh e s wd t q (occV e) _ M12 w12 _ H12.out.2.2.2 (HM.out.2.2.1.on H12.out.2.2.1) H12.out.1
        have hne : sayB9 b' ≠ o1 := by rw [HO1.out]; exact FallB.said HIB.out HST.out.1 H12.out.2.2.2
        generalize ho2 : sayB9 (Lf.go ⟨a, b, x, z, false⟩ b').b = o2 at HB12
        have ho3 : sayB9 b' = o2 := ho2
        rw [ho3] at hne
        have hn2 : ¬ o2.toList = o1.toList := bytes_ne hne
        have hn3 := Lib.hid (show (o2.toList == o1.toList) = false by rw [beq_eq_false_iff_ne]; exact hn2)
        have HB12' := Lib.hid HB12
        clear HB12 ho2 ho3
        go_wp2_with first
          | (go_at_call 9; refine HB12'.out.mono ?_; rintro e_ w13 ⟨rfl, ⟨M13, p13, m13, k13⟩⟩; have H13 := Lib.hid (kept_low H12.out.2.2.1 H12.out.2.1 k13); clear p13 m13 k13)
          | (go_at_call 11; refine (alive_c mx w13 (by rw [Below.cell H13.out HM.out.2.1]; exact HM.out.1)).mono ?_; rintro e_ w14 ⟨rfl, g14⟩; have G14 := Lib.hid g14; clear g14)
        go_returns
        exact ⟨by show Ending.returned (Value.bool (!(o2.toList == o1.toList))) = _; rw [hn3.out]; rfl, after H13.out G14.out⟩
end Go.Proofs.YtmbccnioijokfaaGreatDoor

namespace Go.Proofs.YtmbccnioijokfaaGreatDoor
open Go.ChangeShapes Go.WideShapes Go.ChangeAt Go.RowKit Go.Sort
def tab32 : Array Value := #[.int .u8 0, .int .u8 1, .int .u8 28, .int .u8 2, .int .u8 29, .int .u8 14, .int .u8 24, .int .u8 3, .int .u8 30, .int .u8 22, .int .u8 20, .int .u8 15, .int .u8 25, .int .u8 17, .int .u8 4, .int .u8 8, .int .u8 31, .int .u8 27, .int .u8 13, .int .u8 23, .int .u8 21, .int .u8 19, .int .u8 16, .int .u8 7, .int .u8 26, .int .u8 12, .int .u8 18, .int .u8 6, .int .u8 11, .int .u8 5, .int .u8 10, .int .u8 9]
def tab64 : Array Value := #[.int .u8 0, .int .u8 1, .int .u8 56, .int .u8 2, .int .u8 57, .int .u8 49, .int .u8 28, .int .u8 3, .int .u8 61, .int .u8 58, .int .u8 42, .int .u8 50, .int .u8 38, .int .u8 29, .int .u8 17, .int .u8 4, .int .u8 62, .int .u8 47, .int .u8 59, .int .u8 36, .int .u8 45, .int .u8 43, .int .u8 51, .int .u8 22, .int .u8 53, .int .u8 39, .int .u8 33, .int .u8 30, .int .u8 24, .int .u8 18, .int .u8 12, .int .u8 5, .int .u8 63, .int .u8 55, .int .u8 48, .int .u8 27, .int .u8 60, .int .u8 41, .int .u8 37, .int .u8 16, .int .u8 46, .int .u8 35, .int .u8 44, .int .u8 21, .int .u8 52, .int .u8 32, .int .u8 23, .int .u8 11, .int .u8 54, .int .u8 26, .int .u8 40, .int .u8 15, .int .u8 34, .int .u8 20, .int .u8 31, .int .u8 10, .int .u8 25, .int .u8 14, .int .u8 19, .int .u8 9, .int .u8 13, .int .u8 8, .int .u8 7, .int .u8 6]
def tabAcc : Array Value := #[.int .u8 128, .int .u8 191, .int .u8 160, .int .u8 191, .int .u8 128, .int .u8 159, .int .u8 144, .int .u8 191, .int .u8 128, .int .u8 143, .int .u8 0, .int .u8 0, .int .u8 0, .int .u8 0, .int .u8 0, .int .u8 0, .int .u8 0, .int .u8 0, .int .u8 0, .int .u8 0, .int .u8 0, .int .u8 0, .int .u8 0, .int .u8 0, .int .u8 0, .int .u8 0, .int .u8 0, .int .u8 0, .int .u8 0, .int .u8 0, .int .u8 0, .int .u8 0]
def tabPow : Array Value := #[.int .u64 1, .int .u64 10, .int .u64 100, .int .u64 1000, .int .u64 10000, .int .u64 100000, .int .u64 1000000, .int .u64 10000000, .int .u64 100000000, .int .u64 1000000000, .int .u64 10000000000, .int .u64 100000000000, .int .u64 1000000000000, .int .u64 10000000000000, .int .u64 100000000000000, .int .u64 1000000000000000, .int .u64 10000000000000000, .int .u64 100000000000000000, .int .u64 1000000000000000000, .int .u64 10000000000000000000]
noncomputable def laidWorld (os : Os) : World :=
  let w0 := World.holding Tryz.prog os ⟨#[], #[], []⟩
  let put (h : Array Obj) (g : Nat) (cs : Array Value) : Array Obj := h.modify g fun
    | .cells _ t frozen => .cells cs t frozen
    | o => o
  { w0 with heap := put (put (put (put (put w0.heap 1 (Lib.firstTab.map fun z => Value.int .u8 z).toArray) 2 tabAcc) 3 tabPow) 4 tab32) 5 tab64 }
theorem tab_ok {W : World} (h : laidMet Tryz.prog Rows.topSandRow.laid W) : TabOk W := by
  obtain ⟨g, t, cs, fuel, p, h1, h2, h3, h4⟩ := Lib.laidMet.reads h (n := "internal/strconv.uint64pow10") (d := Rows.laid_internal_strconv_uint64pow10) (.tail _ (.tail _ (.head _)))
  obtain rfl := Option.some.inj ((show Tryz.prog.globalNamed "internal/strconv.uint64pow10" = some 3 by kernel_rfl).symm.trans h1)
  obtain rfl := Option.some.inj ((show (Tryz.prog.globals[3]?).map (·.type) = some 371 by kernel_rfl).symm.trans h2)
  have hd : (Rows.laid_internal_strconv_uint64pow10 : DataW Unit) = Lib.tabData .u64 Lib.pow10Tab := by kernel_rfl
  rw [hd] at h4
  have hc := Lib.cells_of_tab Tryz.underlying371 Tryz.underlying331 (by kernel_rfl) (by kernel_rfl) h4
  unfold TabOk Lib.TabIs
  rw [h3, ← hc]
end Go.Proofs.YtmbccnioijokfaaGreatDoor

namespace Go.Proofs.YtmbccnioijokfaaGreatDoor
open Go.ChangeShapes Go.WideShapes Go.ChangeAt Go.RowKit Go.Sort
theorem laid_metFroz (os : Os) (args : Array Value) : laidMet Tryz.prog Rows.topFrozenRow.laid ((laidWorld os).forCall (fun _ _ => 0) ⟨#[], args, []⟩).memory :=
  laidMet_of_run' 10 (by kernel_rfl) (by kernel_rfl)
abbrev openFrozO : OpenSpec := OpenSpec.ofChange Rows.topFrozenSpec
theorem witness_rowFroz (os : Os) {H : Type} (enc : TypeId × Value → H) :
    openFrozO.preRow enc Tryz.prog Tryz.f5 Rows.topFrozenRow.domain false Rows.topFrozenRow.laid ((laidWorld os).forCall (fun _ _ => 0) ⟨#[], #[.int .i64 0, .slice none 0 0, .int .i64 0], []⟩).memory #[.int .i64 0, .slice none 0 0, .int .i64 0] := by
  have hw : (DataW.whole enc Tryz.prog ((laidWorld os).forCall (fun _ _ => 0) ⟨#[], #[.int .i64 0, .slice none 0 0, .int .i64 0], []⟩).memory Tryz.f5.params.toList openFrozO.vars false #[Value.int .i64 0, Value.slice none 0 0, Value.int .i64 0].toList 8).map (fun x => (x.1, x.2.1)) =
      some ([.lit (.int .i64 0), .nil, .lit (.int .i64 0)], []) := by kernel_rfl
  obtain ⟨⟨x1, x2, x3⟩, hx, hx1⟩ := Option.map_eq_some_iff.1 hw
  simp only [Prod.mk.injEq] at hx1
  obtain ⟨rfl, rfl⟩ := hx1
  exact OpenSpec.preRow_of_cond 8 hx (by kernel_rfl) (fun k hk => by cases hk) (by kernel_rfl) (laid_metFroz os _)
set_option maxRecDepth 100000 in
set_option maxHeartbeats 2000000 in
theorem topFrozen_lifted (os : Os) (started : os.Started) (H : Type) (enc : TypeId × Value → H) (F : Stop.Interp) :
    ReturnsInHanded {} Tryz.checked os 5 .any (openFrozO.preRow enc Tryz.prog Tryz.f5 Rows.topFrozenRow.domain false Rows.topFrozenRow.laid) ((openFrozO.at F).post enc Tryz.prog Tryz.f5 false true false false) := by
  refine returnsInHanded_of_row (C := Tryz.checked) (s := openFrozO) own started (by kernel_rfl) Tryz.func5
    (witness_row_atRef (enc := enc) (C := Tryz.checked) false (laidWorld os) #[.int .i64 0, .slice none 0 0, .int .i64 0] rfl (by kernel_rfl) (by kernel_rfl) (by kernel_rfl) (witness_rowFroz os enc)) ?_
  intro W base args ds gs before hval0 hW _ _ _ hL hsh _
  have hval : ∀ (j : Nat) t v, Tryz.f5.params[j]? = some t → args[j]? = some v → Value.okWide Tryz.prog W .any base t v := hval0
  have hW' := hW
  obtain ⟨p, q, hA0, hV, rfl, hfz, hnd⟩ := hW
  have hA : DataW.TrodAll enc Tryz.prog W 0 (fun _ => true) true Tryz.f5.params.toList args.toList ds p := hA0
  rw [Tryz.params5] at hA hval
  obtain ⟨v0, v1, v2, d0, d1, d2, p0, p1, p2, rfl, rfl, rfl, h0, h1, h2⟩ := trodAll_three hA
  obtain ⟨rfl, rfl⟩ := trodVars_none hV
  obtain ⟨a0, rfl, rfl, rfl, w0⟩ := open_int Tryz.underlying3 (hval 0 3 v0 rfl rfl) h0
  obtain ⟨A1, n1, k1, l1, rfl, b1, c1, e1, f1⟩ := open_ins Tryz.underlying29 Tryz.underlying33 (by kernel_rfl) (by kernel_rfl) Tryz.underlying3 Tryz.underlying4 (hval 1 29 v1 rfl rfl) h1
  obtain ⟨a2, rfl, rfl, rfl, w2⟩ := open_int Tryz.underlying3 (hval 2 3 v2 rfl rfl) h2
  obtain ⟨m, hm⟩ : ∃ m, W.cell? ⟨0, 0, none⟩ = some (.int .i64 m) := Tryz.laysM146.s1_3 W hsh
  refine (topfrozen_c a0 (in64_of_wf w0).1 (in64_of_wf w0).2 A1 n1 k1 l1 b1 c1 a2 (in64_of_wf w2).1 (in64_of_wf w2).2 m W e1 f1 hm (tab_ok hL)).mono fun e W' ⟨he, hb⟩ => ?_
  subst he
  exact ⟨_, rfl, law_post laidOut (by kernel_rfl) rfl (by kernel_rfl) Tryz.underlying4 hW' rfl rfl rfl hb⟩
end Go.Proofs.YtmbccnioijokfaaGreatDoor

