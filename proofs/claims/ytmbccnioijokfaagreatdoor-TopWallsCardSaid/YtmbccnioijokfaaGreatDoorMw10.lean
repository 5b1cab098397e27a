/- Texts that build one behind the other, laid together: EngV LinT2 LinS LinW LinD LinE LinE2 LinS2 LinS3 LinS4 LinS5 TopL LinV DecT WrdP WordsP DecI TellP TopB. -/
import Derived.Test.YtmbccnioijokfaaGreatDoorMw9
import Derived.Lib.ItoaLen
import Derived.Defers
import Derived.Recover
import Derived.Test.YtmbccnioijokfaaGreatDoorMw3
import Derived.Test.YtmbccnioijokfaaGreatDoorMw2
import Derived.Test.YtmbccnioijokfaaGreatDoorMw8
import Derived.Test.YtmbccnioijokfaaGreatDoorMw1
import Derived.Test.YtmbccnioijokfaaGreatDoorMw4
import Derived.Laws.IdiomStrings
import Derived.KernelRfl
namespace Go.Proofs.YtmbccnioijokfaaGreatDoor
open Go.RowKit Go.Maps
attribute [local go_sem] Oper.semAt_some
abbrev putI3 (w : World) (a : Nat) (x z : Int) (j : Bool) : World := ((w.setCell ⟨a, 9, none⟩ (.int .i64 x)).setCell ⟨a, 10, none⟩ (.int .i64 z)).setCell ⟨a, 11, none⟩ (.bool j)
theorem keptI3 {K : Nat → Prop} {w0 w : World} (h : Kept K w0 w) {a : Nat} (ha : ¬ K a) (x z : Int) (j : Bool) : Kept K w0 (putI3 w a x z j) :=
  ((h.setCell (p := ⟨a, 9, none⟩) ha _).setCell (p := ⟨a, 10, none⟩) ha _).setCell (p := ⟨a, 11, none⟩) ha _
abbrev Lf.say (l : Lf) (x z : Int) (j : Bool) : Lf := ⟨l.a, l.b, x, z, j⟩
theorem EngAt.told {w : World} {e s wd t q : Nat} {occ : Value} {S : SS} {Ms : Nat → Prop} {l : Lf} (h : EngAt w e s wd t q occ S (some l) Ms) (x z : Int) (j : Bool) : EngAt (putI3 w l.a x z j) e s wd t q occ S (some (l.say x z j)) Ms where
  blk := (keptI3 (K := fun g => g ≠ l.a) (Kept.refl _ w) (fun h => h rfl) x z j).blk (fun he => (h.l_no rfl).2 he.symm) h.blk
  life := fun l' hl => by
    obtain rfl : l.say x z j = l' := Option.some.inj hl
    have h3 := (((h.life l rfl).set_ 9 (.int .i64 x)).set_ 10 (.int .i64 z)).set_ 11 (.bool j)
    simpa using h3
  sim := (simA_fit s wd t q occ S).kept h.sim (keptI3 (K := fun g => g ≠ l.a) (Kept.refl _ w) (fun h => h rfl) x z j) (fun b hb he => (h.l_no rfl).1 (he ▸ hb)) fun b cs hb he => absurd (one_type (he ▸ hb) (h.life l rfl)) (by decide)
set_option maxRecDepth 100000 in
set_option maxHeartbeats 4000000 in
theorem etell_c (e s wd t q : Nat) (occ : Value) (S : SS) (l : Lf) (x z : Int) (j : Bool) (w : World) (M : Nat → Prop) (h : EngA e s wd t q occ S (some l) w M) :
    Calls Tryz.prog 95 #[.pointer (some ⟨e, 0, none⟩), .int .i64 0, .agg #[.int .i64 x, .int .i64 z, .bool j]] w fun r w' => r = .returned (.int .i64 0) ∧ Aft (EngA e s wd t q occ S (some (l.say x z j))) w M w' := by
  obtain ⟨Ms, h, hM⟩ := h
  obtain ⟨W, hWe⟩ : ∃ W, W = w.alloc (.cells #[.int .i64 x, .int .i64 z, .bool j] 81) := ⟨_, rfl⟩
  have H : Below w.heap.size w W := by rw [hWe]; exact bel_alloc _ _
  have R : Blk W w.heap.size 81 #[.int .i64 x, .int .i64 z, .bool j] := by rw [hWe]; exact Blk.new' rfl
  have hE := h.on H
  have HAT := Lib.hid (eat0_c e s (some ⟨l.a, 0, none⟩) W hE.blk)
  obtain ⟨r0, r1, r2, -, -, -⟩ := R.c3
  have f9 := (hE.life l rfl).frz 9
  have f10 := (hE.life l rfl).frz 10
  have f11 := (hE.life l rfl).frz 11
  have m9 := (hE.life l rfl).cell 9
  have m10 := (hE.life l rfl).cell 10
  have m11 := (hE.life l rfl).cell 11
  have HX := Lib.hid (And.intro h (And.intro hM (And.intro H hE)))
  clear h hM H hE R
  go_enter Tryz.func95, Tryz.ntmps95
  go_upto_region 1 with (fail)
  rw [← hWe]
  clear hWe
  go_wp2_with (go_at_call 31; refine HAT.out.mono ?_; rintro e_ w1 ⟨rfl, rfl⟩)
  go_returns
  obtain ⟨h, hM, H, hE⟩ := HX.out
  refine ⟨rfl, M, ⟨Ms, hE.told x z j, fun b => ?_⟩, fun b hb => .inl hb, ?_⟩
  · rw [hM b]
    constructor
    · rintro (h1 | ⟨l', h1, h2⟩ | h1)
      · exact .inl h1
      · obtain rfl := Option.some.inj h1
        exact .inr (.inl ⟨_, rfl, h2⟩)
      · exact .inr (.inr h1)
    · rintro (h1 | ⟨l', h1, h2⟩ | h1)
      · exact .inl h1
      · obtain rfl := Option.some.inj h1
        exact .inr (.inl ⟨_, rfl, h2⟩)
      · exact .inr (.inr h1)
  · exact keptI3 ((Kept.of_below H).mono (K := fun b => ¬ M b) fun _ h => h) (fun hne => hne ((hM l.a).2 (.inr (.inl ⟨l, rfl, rfl⟩)))) x z j
end Go.Proofs.YtmbccnioijokfaaGreatDoor

namespace Go.Proofs.YtmbccnioijokfaaGreatDoor
open Go.RowKit Go.Maps
abbrev sL (s : ByteArray) : Nat := s.data.toList.length
theorem join_1 (s : ByteArray) : joinB [s] = s := by
  unfold joinB
  rw [List.map_cons, List.map_nil, Lib.join_one]
theorem join_len : ∀ (l : List (List UInt8)) (m : Nat), (∀ x ∈ l, x.length ≤ m) → (Lib.join l [32]).length ≤ l.length * (m + 1)
  | [], _, _ => by simp [Lib.join_nil]
  | [x], m, h => by
    rw [Lib.join_one]
    have := h x (by simp)
    simp
    omega
  | x :: y :: l, m, h => by
    have ih := join_len (y :: l) m fun z hz => h z (List.mem_cons_of_mem _ hz)
    have hx := h x (by simp)
    have e : Lib.join (x :: y :: l) [32] = x ++ [32] ++ Lib.join (y :: l) [32] := by simp [Lib.join, List.intercalate, List.intersperse]
    rw [e]
    simp only [List.length_append, List.length_cons, List.length_nil] at *
    have : (l.length + 1 + 1) * (m + 1) = (l.length + 1) * (m + 1) + (m + 1) := Nat.succ_mul _ _
    omega
theorem told_l (b : Nat) (xs : List TV) (h0 : 1 ≤ xs.length) (hl : xs.length ≤ 1000) (w : World) (hB : Blk w b 20 (xs.map TV.val).toArray) (hm : ∀ x ∈ xs, x.may w) (hs : ∀ x ∈ xs, sL x.str_ ≤ 1000000) :
    Calls Tryz.prog 75 #[.slice (some ⟨b, 0, none⟩) xs.length xs.length] w fun r w' => r = .returned (.string (joinB (xs.map TV.str_))) ∧ Below w.heap.size w w' := by
  refine told_c b xs h0 hl w (fun k x hx W hW => ?_) hm ?_
  · rw [(hB.on hW).cell]
    simp [hx]
  · have := join_len ((xs.map TV.str_).map (·.data.toList)) 1000000 fun y hy => by
      obtain ⟨z, hz, rfl⟩ := List.mem_map.1 hy
      obtain ⟨x, hx, rfl⟩ := List.mem_map.1 hz
      exact hs x hx
    rw [List.length_map, List.length_map] at this
    have h2 : xs.length * (1000000 + 1) ≤ 1000 * (1000000 + 1) := Nat.mul_le_mul_right _ hl
    omega
theorem itoa_sL {n : Int} (h : Sm9 n) : sL (strA (Lib.itoa n)) ≤ 21 := by
  have := Lib.itoa_length_le n h.1 h.2
  simpa [sL, strA] using this
theorem told1_c (b : Nat) (x : TV) (w : World) (hB : Blk w b 20 #[x.val]) (hm : x.may w) (hs : sL x.str_ ≤ 1000000) :
    Calls Tryz.prog 75 #[.slice (some ⟨b, 0, none⟩) 1 1] w fun r w' => r = .returned (.string x.str_) ∧ Below w.heap.size w w' := by
  have := told_l b [x] (by simp) (by simp) w hB (by simpa using hm) (by simpa using hs)
  rw [show List.map TV.str_ [x] = [x.str_] from rfl, join_1] at this
  exact this
theorem told2_c (b : Nat) (m n : Int) (w : World) (hB : Blk w b 20 #[.iface 3 (.int .i64 m), .iface 3 (.int .i64 n)]) (h1 : NumT w m) (h2 : NumT w n) :
    Calls Tryz.prog 75 #[.slice (some ⟨b, 0, none⟩) 2 2] w fun r w' => r = .returned (.string (joinB [strA (Lib.itoa m), strA (Lib.itoa n)])) ∧ Below w.heap.size w w' :=
  told_l b [.int m, .int n] (by simp) (by simp) w hB (fun x hx => by
    simp at hx
    rcases hx with rfl | rfl
    · exact h1
    · exact h2) (fun x hx => by
    simp at hx
    rcases hx with rfl | rfl
    · exact Nat.le_trans (itoa_sL h1.1) (by decide)
    · exact Nat.le_trans (itoa_sL h2.1) (by decide))
end Go.Proofs.YtmbccnioijokfaaGreatDoor

namespace Go.Proofs.YtmbccnioijokfaaGreatDoor
open Go.RowKit Go.Maps
attribute [local go_sem] Oper.semAt_some
def EngTy (ty : TypeId) : Prop := ty = 71 ∨ ty = 83 ∨ SimTy ty
theorem EngA.type {w : World} {e s wd t q : Nat} {occ : Value} {S : SS} {L : Option Lf} {M : Nat → Prop} (h : EngA e s wd t q occ S L w M) {b : Nat} (hb : M b) : b < w.heap.size ∧ ∀ ty cs, Blk w b ty cs → EngTy ty := by
  obtain ⟨Ms, h, hM⟩ := h
  exact h.type ((hM b).1 hb)
theorem sh_no : ¬ EngTy 79 := by
  intro h
  rcases h with h | h | h | h | h | h
  · revert h; decide
  · revert h; decide
  · revert h; decide
  · revert h; decide
  · rcases h with h | h | h | h | h | h | h | h | h | h <;> revert h <;> decide
  · rcases h with h | h <;> revert h <;> decide
def ShA (sh e s wd t q : Nat) (occ : Value) (S : SS) (L : Option Lf) : Asn := fun w M => ∃ Me, Blk w sh 79 #[.pointer (some ⟨e, 0, none⟩)] ∧ EngA e s wd t q occ S L w Me ∧ ∀ b, M b ↔ b = sh ∨ Me b
section
variable {w w' w0 : World} {sh e s wd t q : Nat} {occ occ' : Value} {S S' : SS} {L L' : Option Lf} {Me M : Nat → Prop}
theorem shA_fit (sh e s wd t q : Nat) (occ : Value) (S : SS) (L : Option Lf) : Asn.Fit 5 (ShA sh e s wd t q occ S L) where
  lt := fun ⟨Me, h1, h2, hM⟩ b hb => by
    rcases (hM b).1 hb with rfl | h
    · exact h1.lt
    · exact (h2.type h).1
  nob := fun ⟨Me, h1, h2, hM⟩ b hb cs hB => by
    rcases (hM b).1 hb with rfl | h
    · exact absurd (one_type hB h1) (by decide)
    · exact (engA_fit e s wd t q occ S L).nob h2 b h cs hB
  kept := fun ⟨Me, h1, h2, hM⟩ hk k1 k2 => ⟨Me, hk.blk (k1 _ ((hM _).2 (.inl rfl))) h1, (engA_fit e s wd t q occ S L).kept h2 hk (fun b hb => k1 b ((hM b).2 (.inr hb))) k2, hM⟩
theorem sh_not (h1 : Blk w sh 79 #[.pointer (some ⟨e, 0, none⟩)]) (h2 : EngA e s wd t q occ S L w Me) : ¬ Me sh := fun hb => sh_no ((h2.type hb).2 _ _ h1)
theorem ShA.turn (h1 : Blk w sh 79 #[.pointer (some ⟨e, 0, none⟩)]) (h2 : EngA e s wd t q occ S L w Me) (hM : ∀ b, M b ↔ b = sh ∨ Me b) (k : Aft (EngA e s wd t q occ' S' L') w Me w') : Aft (ShA sh e s wd t q occ' S' L') w M w' := by
  have hno := sh_not h1 h2
  obtain ⟨Me', k1, k2, k3⟩ := k
  refine ⟨fun b => b = sh ∨ Me' b, ⟨Me', k3.blk hno h1, k1, fun _ => Iff.rfl⟩, fun b hb => ?_, k3.mono fun b hb h => hb ((hM b).2 (.inr h))⟩
  rcases hb with rfl | hb
  · exact .inl ((hM _).2 (.inl rfl))
  · exact (k2 b hb).imp_left fun h => (hM b).2 (.inr h)
theorem bel_arg {a : Nat} (hb : Below w0.heap.size w0 w) (hN : w0.heap.size ≤ a) (k : Kept (fun b => b ≠ a) w w') : Below w0.heap.size w0 w' := hb.trans (k.below hb.size fun b h => by omega)
end
structure Cmd (w0 : World) (sh e s wd t q : Nat) (occ : Value) (S : SS) (L : Option Lf) (M : Nat → Prop) (N a : Nat) (ws : List ByteArray) (w : World) : Prop where
  sh : ShA sh e s wd t q occ S L w0 M
  new : w0.heap.size ≤ a
  bel : Below w0.heap.size w0 w
  arg : ArgA N a ws w
theorem Cmd.eat {w0 : World} {sh e s wd t q : Nat} {occ : Value} {S : SS} {L : Option Lf} {M : Nat → Prop} {N a : Nat} {ws ws' : List ByteArray} {w w' : World} (h : Cmd w0 sh e s wd t q occ S L M N a ws w) (h1 : ArgA N a ws' w') (h2 : Kept (fun b => b ≠ a) w w') : Cmd w0 sh e s wd t q occ S L M N a ws' w' := ⟨h.sh, h.new, bel_arg h.bel h.new h2, h1⟩
theorem Cmd.here {w0 : World} {sh e s wd t q : Nat} {occ : Value} {S : SS} {L : Option Lf} {M : Nat → Prop} {N a : Nat} {ws : List ByteArray} {w : World} (h : Cmd w0 sh e s wd t q occ S L M N a ws w) : ShA sh e s wd t q occ S L w M := (shA_fit sh e s wd t q occ S L).on h.sh h.bel
set_option maxRecDepth 100000 in
set_option maxHeartbeats 4000000 in
theorem cedit_c (w0 : World) (sh e s wd t q : Nat) (occ : Value) (S S' : SS) (L : Option Lf) (M : Nat → Prop) (N a : Nat) (s1 s2 s3 : ByteArray) (x y z b : Int) (h1 : NW s1 x) (h2 : NW s2 y) (h3 : NW s3 z) (hb : mayK b = true) (w : World)
    (h : Cmd w0 sh e s wd t q occ S L M N a [s1, s2, s3, strA (blkN b)] w)
    (hE : ∀ W M1, EngA e s wd t q occ S L W M1 → Calls Tryz.prog 99 #[.pointer (some ⟨e, 0, none⟩), cellV (x, y, z), .int .i64 b] W fun r w' => r = .returned (.int .i64 0) ∧ Aft (EngA e s wd t q occ S' L) W M1 w') :
    Calls Tryz.prog 55 #[.pointer (some ⟨sh, 0, none⟩), .pointer (some ⟨a, 0, none⟩)] w fun r w' => r = .returned (.string (strA [111, 107])) ∧ Aft (ShA sh e s wd t q occ S' L) w0 M w' := by
  have HC := Lib.hid h
  have H1 := Lib.hid (acell_c N a s1 s2 s3 x y z h1 h2 h3 _ w h.arg)
  have HB := Lib.hid hb
  have HE := Lib.hid hE
  clear h h1 h2 h3 hb hE
  go_enter Tryz.func55, Tryz.ntmps55
  go_upto_region 2 with (go_at_call 98; refine H1.out.mono ?_; rintro e_ w1 ⟨rfl, a1, k1⟩; have C1 := Lib.hid (HC.out.eat a1 k1); clear a1 k1)
  obtain ⟨W2, hW2⟩ : ∃ W2, W2 = w1.alloc (.cells #[.int .i64 x, .int .i64 y, .int .i64 z] 43) := ⟨_, rfl⟩
  have hb2 : Below w1.heap.size w1 W2 := by rw [hW2]; exact bel_alloc _ _
  have B2 := Lib.hid (Blk.fresh hW2)
  have C2 := Lib.hid (show Cmd w0 sh e s wd t q occ S L M N a [strA (blkN b)] W2 from ⟨C1.out.sh, C1.out.new, after C1.out.bel hb2, C1.out.arg.on hb2⟩)
  have H2 := Lib.hid (ablk_c N a b HB.out [] W2 C2.out.arg)
  rw [← hW2]
  have HG := Lib.hid (show w1.heap.size ≠ a by have := C1.out.arg.le; omega)
  clear hW2 hb2
  go_upto_region 4 with first
    | (go_at_call 96; refine H2.out.mono ?_; rintro e_ w3 ⟨rfl, a3, k3⟩; have C3 := Lib.hid (C2.out.eat a3 k3); have B3 := Lib.hid (k3.blk HG.out B2.out); clear a3 k3)
    | (go_at_call 74; refine (end_c N a _ C3.out.arg).mono ?_; rintro e_ w4 ⟨rfl, rfl⟩)
  obtain ⟨Me, hs1, hs2, hM⟩ := C3.out.here
  have c0 := fun d os => (B3.out.re d os).cell 0
  have c1 := fun d os => (B3.out.re d os).cell 1
  have c2 := fun d os => (B3.out.re d os).cell 2
  have p0 := fun d os => (hs1.re d os).cell 0
  have HS := Lib.hid (And.intro hs1 (And.intro hs2 hM))
  clear hs1 hs2 hM
  refine wp_sched [0, 0, 0, 0, 0, 0, 3, 3, 3, 3, 3] (fun _ _ _ => True) (by kernel_rfl) (by kernel_rfl) (fun _ _ _ _ h _ => h) ?_
  repeat (first | (refine wpQs_s ?_) | (refine wpQs_q (fun K hK => ?_); go_simp; first | (refine hK _ ?_; clear hK K) | (apply Exists.intro; refine ⟨fun _ => ?_, hK _ ?_⟩; (fail); clear hK K)) | (refine wpQs_f (fun K hK => ?_); go_simp; refine hK _ ?_; clear hK K))
  refine wpQs_nil ?_
  repeat (first | (refine wpLs_skip ?_) | (refine wpLs_one ?lsA (fun v_ => ?_); case lsA => (intro w_ hw_ hp_; (fail))))
  refine wpLs_nilB ?_
  simp only [tails]
  intro W5 g5 _
  have G5 := Lib.hid g5
  have HE5 := Lib.hid (HE.out W5 Me ((engA_fit e s wd t q occ S L).on HS.out.2.1 g5))
  clear g5 c0 c1 c2 p0
  go_wp2_with first
    | (go_at_call 99; refine HE5.out.mono ?_; rintro e_ w6 ⟨rfl, k6⟩; have K6 := Lib.hid k6; clear k6)
    | (go_at_call 75; refine (told1_c w6.heap.size .ok (w6.alloc (.cells #[.iface 121 (.int .i64 0)] 20)) (Blk.new' rfl) trivial (by decide)).mono ?_; rintro e_ w7 ⟨rfl, g7⟩; have G7 := Lib.hid (after (bel_alloc _ _) g7); clear g7)
  go_returns
  refine ⟨rfl, Aft.ahead (after C3.out.bel G5.out) (Aft.on (shA_fit sh e s wd t q occ S' L) (ShA.turn (HS.out.1.on G5.out) ((engA_fit e s wd t q occ S L).on HS.out.2.1 G5.out) HS.out.2.2 K6.out) G7.out)⟩
end Go.Proofs.YtmbccnioijokfaaGreatDoor

namespace Go.Proofs.YtmbccnioijokfaaGreatDoor
open Go.RowKit Go.Maps Go.Shelf Go.Lib
attribute [local go_sem] Oper.semAt_some
def isSp (n : Nat) : Bool := decide (n = 32)
theorem sp_c (x : Nat) (w : World) : Calls Tryz.prog 39 #[.int .i32 x] w fun r w' => r = .returned (.bool (isSp x)) ∧ w = w' := by
  unfold isSp
  by_cases h : x = 32
  · have h1 : ((x : Int) == 32) = true := by subst h; rfl
    go_enter Tryz.func39, Tryz.ntmps39
    go_wp2_with fail
    go_returns
    exact ⟨by simp [h], rfl⟩
  · have h1 : ((x : Int) == 32) = false := by simp; omega
    go_enter Tryz.func39, Tryz.ntmps39
    go_wp2_with fail
    go_returns
    exact ⟨by simp [h], rfl⟩
abbrev wordsL (s : ByteArray) : List ByteArray := goFieldsP isSp s
theorem sp_at (w : World) : PredAtRunes Tryz.prog 39 #[] isSp w := fun W x _ _ => (sp_c x W).mono fun e w' h => ⟨h.1, 0, by rw [← h.2]; rfl⟩
theorem words_c (s : ByteArray) (hs : s.size ≤ 4294967296) (w : World) : Calls Tryz.prog 21 #[.string s] w fun r w' => ∃ A, r = .returned (.slice (some ⟨A, 0, none⟩) (wordsL s).length (wordsL s).length) ∧ w.heap.size ≤ A ∧ A < w'.heap.size ∧ Rd w' (some ⟨A, 0, none⟩) 1 encS (wordsL s) ∧ Below w.heap.size w w' := by
  have HF := Lib.hid (Tryz.strings_FieldsFunc_runes 39 #[] (enters_of Tryz.func39 (by kernel_rfl) rfl) isSp s w hs (sp_at w))
  clear hs
  go_enter Tryz.func21, Tryz.ntmps21
  go_wp2_with (go_at_call 38; refine HF.out.mono ?_; rintro e_ w1 ⟨A, rfl, h1, h2, h3⟩; have H := Lib.hid (And.intro h1 (And.intro h2 h3)); clear h1 h2 h3)
  go_returns
  obtain ⟨h1, h2, h3⟩ := H.out
  have hO : Owns w1 w.heap.size 9 1 encS (.slice (some ⟨A, 0, none⟩) (wordsL s).length (wordsL s).length) (wordsL s) := by
    have e : ∀ l : List ByteArray, l.map Value.string = l.flatMap encS := fun l => by
      induction l with
      | nil => rfl
      | cons a l ih => rw [List.map_cons, List.flatMap_cons, ih]; rfl
    unfold Owns
    rw [← e (wordsL s)]
    exact h2
  obtain ⟨q, cap, hv, -, -, hrd, hlt, -⟩ := hO.form lenS
  injection hv with e1
  rw [← e1] at hrd hlt
  exact ⟨A, rfl, h1, (hlt _ rfl).2, hrd, h3⟩
theorem catch_c (p : Addr) (w : World) : CallsD Tryz.prog 22 #[.pointer (some p)] .returning w fun e u' w' => e = .returned (.tuple #[]) ∧ u' = .returning ∧ w' = w := by
  refine callsD_of_wpS Tryz.func22 rfl fun c₀ cs hu => ?_
  apply wpS_seq
  apply wpS_region
  simp [wpOpsS, go_sem, recoverD, hu, Tryz.ntmps22, Exit.thenS]
  refine wpS_of_wp ?_
  go_wp2_with fail
  cases c₀
  simp_all [bodyPostS, results, Tryz.results22]
end Go.Proofs.YtmbccnioijokfaaGreatDoor

namespace Go.Proofs.YtmbccnioijokfaaGreatDoor
open Go.RowKit Go.Maps
attribute [local go_sem] Oper.semAt_some
def doesL (sh b1 b2 b3 b4 b5 : Nat) : List (Value × Value) := [(.string ⟨#[119, 111, 114, 108, 100]⟩, .func (.func 40) #[.pointer (some ⟨sh, 0, none⟩)] #[]), (.string ⟨#[108, 111, 97, 100]⟩, .func (.func 76) #[] #[.pointer (some ⟨b1, 0, none⟩)]), (.string ⟨#[117, 110, 108, 111, 97, 100]⟩, .func (.func 76) #[] #[.pointer (some ⟨b2, 0, none⟩)]), (.string ⟨#[102, 108, 117, 115, 104]⟩, .func (.func 76) #[] #[.pointer (some ⟨b3, 0, none⟩)]), (.string ⟨#[112, 105, 110]⟩, .func (.func 76) #[] #[.pointer (some ⟨b4, 0, none⟩)]), (.string ⟨#[117, 110, 112, 105, 110]⟩, .func (.func 76) #[] #[.pointer (some ⟨b5, 0, none⟩)]), (.string ⟨#[102, 108, 117, 115, 104, 97, 108, 108]⟩, .func (.func 47) #[.pointer (some ⟨sh, 0, none⟩)] #[]), (.string ⟨#[102, 97, 105, 108]⟩, .func (.func 48) #[.pointer (some ⟨sh, 0, none⟩)] #[]), (.string ⟨#[99, 114, 97, 115, 104]⟩, .func (.func 49) #[.pointer (some ⟨sh, 0, none⟩)] #[]), (.string ⟨#[115, 97, 118, 101]⟩, .func (.func 50) #[.pointer (some ⟨sh, 0, none⟩)] #[]), (.string ⟨#[115, 112, 97, 119, 110]⟩, .func (.func 51) #[.pointer (some ⟨sh, 0, none⟩)] #[]), (.string ⟨#[107, 105, 108, 108]⟩, .func (.func 52) #[.pointer (some ⟨sh, 0, none⟩)] #[]), (.string ⟨#[116, 101, 108, 108]⟩, .func (.func 53) #[.pointer (some ⟨sh, 0, none⟩)] #[]), (.string ⟨#[112, 108, 97, 99, 101]⟩, .func (.func 54) #[.pointer (some ⟨sh, 0, none⟩)] #[]), (.string ⟨#[101, 100, 105, 116]⟩, .func (.func 55) #[.pointer (some ⟨sh, 0, none⟩)] #[]), (.string ⟨#[98, 114, 101, 97, 107]⟩, .func (.func 56) #[.pointer (some ⟨sh, 0, none⟩)] #[]), (.string ⟨#[108, 111, 111, 107]⟩, .func (.func 57) #[.pointer (some ⟨sh, 0, none⟩)] #[]), (.string ⟨#[97, 116]⟩, .func (.func 58) #[.pointer (some ⟨sh, 0, none⟩)] #[]), (.string ⟨#[116, 111, 112]⟩, .func (.func 59) #[.pointer (some ⟨sh, 0, none⟩)] #[]), (.string ⟨#[98, 111, 100, 121]⟩, .func (.func 60) #[.pointer (some ⟨sh, 0, none⟩)] #[]), (.string ⟨#[108, 105, 118, 101]⟩, .func (.func 61) #[.pointer (some ⟨sh, 0, none⟩)] #[]), (.string ⟨#[104, 101, 114, 101]⟩, .func (.func 62) #[.pointer (some ⟨sh, 0, none⟩)] #[]), (.string ⟨#[116, 105, 99, 107]⟩, .func (.func 63) #[.pointer (some ⟨sh, 0, none⟩)] #[])]
theorem ctable_c (sh f t : Nat) (w : World) : Calls Tryz.prog 41 #[.pointer (some ⟨sh, 0, none⟩), .func (.func f) #[.pointer (some ⟨t, 0, none⟩)] #[]] w fun r w' => r = .returned (.func (.func 76) #[] #[.pointer (some ⟨w.heap.size, 0, none⟩)]) ∧ w' = w.alloc (.cells #[.func (.func f) #[.pointer (some ⟨t, 0, none⟩)] #[]] 99) := by
  have hmf : ∀ (fn : Fn) (first cap : Array Value) (w : World), (Instr.makeFunc fn first cap).run Tryz.prog w = .ok (.func fn first cap) w := fun _ _ _ _ => rfl
  go_enter Tryz.func41, Tryz.ntmps41
  go_wp2_with fail
  go_returns
  exact ⟨rfl, rfl⟩
def BoxF (w : World) (bx f t : Nat) : Prop := Blk w bx 99 #[.func (.func f) #[.pointer (some ⟨t, 0, none⟩)] #[]]
def DoR (w : World) (sh t : Nat) (r : Ending) (w' : World) : Prop := ∃ m b1 b2 b3 b4 b5, r = .returned (.map (some m)) ∧ StrM m (doesL sh b1 b2 b3 b4 b5) w' ∧ BoxF w' b1 42 t ∧ BoxF w' b2 43 t ∧ Below w.heap.size w w'
theorem StrM.cast {m : Nat} {l l' : List (Value × Value)} {w : World} (h : StrM m l w) (e : l = l') : StrM m l' w := e ▸ h
theorem put_word {N m : Nat} {l : List (Value × Value)} {k val : Value} {w0 w : World} (h : StrM m l w) (hN : N ≤ m) (hb : Below N w0 w) (hi : MapKept.IsKey .string k) (hf : Instr.findNow .string k (mkE l 0) 0 = some none) :
    ∃ w', (Instr.mapUpdate 61 (.map (some m)) k val).run Tryz.prog w = .ok () w' ∧ StrM m (l ++ [(k, val)]) w' ∧ Kept (fun b => b ≠ m) w w' ∧ Below N w0 w' := by
  obtain ⟨w', h1, h2, h3⟩ := run_ins (P := Tryz.prog) (val := val) Tryz.underlying61 Tryz.underlying9 hi h hf
  exact ⟨w', h1, h2, h3, ⟨h3.os.trans hb.os, h3.tape.trans hb.tape, h3.output.trans hb.output, Nat.le_trans hb.size h3.size, fun b hb' => (h3.block b (Nat.lt_of_lt_of_le hb' (Nat.le_trans hN (Nat.le_of_lt h.lt))) (by omega)).trans (hb.block b hb')⟩⟩
set_option maxRecDepth 100000 in
set_option maxHeartbeats 16000000 in
theorem does_c (sh e s wd t q : Nat) (occ : Value) (S : SS) (L : Option Lf) (M : Nat → Prop) (w : World) (h : ShA sh e s wd t q occ S L w M) :
    Calls Tryz.prog 23 #[.pointer (some ⟨sh, 0, none⟩)] w fun r w' => DoR w sh t r w' := by
  have hmf : ∀ (fn : Fn) (first cap : Array Value) (w : World), (Instr.makeFunc fn first cap).run Tryz.prog w = .ok (.func fn first cap) w := fun _ _ _ _ => rfl
  have hmm := @run_makeMap Tryz.prog
  obtain ⟨Me, hs1, ⟨Ms, he, -⟩, -⟩ := h
  have p0 := hs1.cell 0
  have e0 := he.blk.cell 0
  have HSW := Lib.hid (sworld_c s wd t q occ S w Ms he.sim)
  obtain ⟨v, ds, Mw, Mq, hs, -⟩ := he.sim
  have HTB := Lib.hid (wtable_c wd t S.k S.T w Mw hs.wd)
  have hN : w.heap.size ≤ w.heap.size := Nat.le_refl _
  have g0 : Below w.heap.size w (w.alloc (.map #[] 0)) := bel_alloc _ _
  have m0 := strM_new w
  clear hs1 he hs
  obtain ⟨w1, r1, m1, k1, g1⟩ := put_word (k := .string ⟨#[119, 111, 114, 108, 100]⟩) (val := .func (.func 40) #[.pointer (some ⟨sh, 0, none⟩)] #[]) m0 hN g0 trivial (by kernel_rfl)
  clear m0 g0
  clear k1
  have neb1 : w1.heap.size ≠ w.heap.size := by have := m1.lt; omega
  have xb1 : BoxF (w1.alloc (.cells #[.func (.func 42) #[.pointer (some ⟨t, 0, none⟩)] #[]] 99)) w1.heap.size 42 t := Blk.new' rfl
  have a2 : Below w1.heap.size w1 (w1.alloc (.cells #[.func (.func 42) #[.pointer (some ⟨t, 0, none⟩)] #[]] 99)) := bel_alloc _ _
  have n2 := m1.on a2
  have g2' := after g1 a2
  obtain ⟨w2, r2, m2, k2, g2⟩ := put_word (k := .string ⟨#[108, 111, 97, 100]⟩) (val := .func (.func 76) #[] #[.pointer (some ⟨w1.heap.size, 0, none⟩)]) n2 hN g2' trivial (by kernel_rfl)
  clear a2 n2 g2' m1 g1
  replace xb1 := k2.blk (show w1.heap.size ≠ w.heap.size from neb1) xb1
  clear k2
  have neb2 : w2.heap.size ≠ w.heap.size := by have := m2.lt; omega
  have xb2 : BoxF (w2.alloc (.cells #[.func (.func 43) #[.pointer (some ⟨t, 0, none⟩)] #[]] 99)) w2.heap.size 43 t := Blk.new' rfl
  have a3 : Below w2.heap.size w2 (w2.alloc (.cells #[.func (.func 43) #[.pointer (some ⟨t, 0, none⟩)] #[]] 99)) := bel_alloc _ _
  have n3 := m2.on a3
  have g3' := after g2 a3
  replace xb1 := Blk.on xb1 a3
  obtain ⟨w3, r3, m3, k3, g3⟩ := put_word (k := .string ⟨#[117, 110, 108, 111, 97, 100]⟩) (val := .func (.func 76) #[] #[.pointer (some ⟨w2.heap.size, 0, none⟩)]) n3 hN g3' trivial (by kernel_rfl)
  clear a3 n3 g3' m2 g2
  replace xb1 := k3.blk (show w1.heap.size ≠ w.heap.size from neb1) xb1
  replace xb2 := k3.blk (show w2.heap.size ≠ w.heap.size from neb2) xb2
  clear k3
  have neb3 : w3.heap.size ≠ w.heap.size := by have := m3.lt; omega
  have xb3 : BoxF (w3.alloc (.cells #[.func (.func 44) #[.pointer (some ⟨t, 0, none⟩)] #[]] 99)) w3.heap.size 44 t := Blk.new' rfl
  have a4 : Below w3.heap.size w3 (w3.alloc (.cells #[.func (.func 44) #[.pointer (some ⟨t, 0, none⟩)] #[]] 99)) := bel_alloc _ _
  have n4 := m3.on a4
  have g4' := after g3 a4
  replace xb1 := Blk.on xb1 a4
  replace xb2 := Blk.on xb2 a4
  obtain ⟨w4, r4, m4, k4, g4⟩ := put_word (k := .string ⟨#[102, 108, 117, 115, 104]⟩) (val := .func (.func 76) #[] #[.pointer (some ⟨w3.heap.size, 0, none⟩)]) n4 hN g4' trivial (by kernel_rfl)
  clear a4 n4 g4' m3 g3
  replace xb1 := k4.blk (show w1.heap.size ≠ w.heap.size from neb1) xb1
  replace xb2 := k4.blk (show w2.heap.size ≠ w.heap.size from neb2) xb2
  replace xb3 := k4.blk (show w3.heap.size ≠ w.heap.size from neb3) xb3
  clear k4
  have neb4 : w4.heap.size ≠ w.heap.size := by have := m4.lt; omega
  have xb4 : BoxF (w4.alloc (.cells #[.func (.func 45) #[.pointer (some ⟨t, 0, none⟩)] #[]] 99)) w4.heap.size 45 t := Blk.new' rfl
  have a5 : Below w4.heap.size w4 (w4.alloc (.cells #[.func (.func 45) #[.pointer (some ⟨t, 0, none⟩)] #[]] 99)) := bel_alloc _ _
  have n5 := m4.on a5
  have g5' := after g4 a5
  replace xb1 := Blk.on xb1 a5
  replace xb2 := Blk.on xb2 a5
  replace xb3 := Blk.on xb3 a5
  obtain ⟨w5, r5, m5, k5, g5⟩ := put_word (k := .string ⟨#[112, 105, 110]⟩) (val := .func (.func 76) #[] #[.pointer (some ⟨w4.heap.size, 0, none⟩)]) n5 hN g5' trivial (by kernel_rfl)
  clear a5 n5 g5' m4 g4
  replace xb1 := k5.blk (show w1.heap.size ≠ w.heap.size from neb1) xb1
  replace xb2 := k5.blk (show w2.heap.size ≠ w.heap.size from neb2) xb2
  replace xb3 := k5.blk (show w3.heap.size ≠ w.heap.size from neb3) xb3
  replace xb4 := k5.blk (show w4.heap.size ≠ w.heap.size from neb4) xb4
  clear k5
  have neb5 : w5.heap.size ≠ w.heap.size := by have := m5.lt; omega
  have xb5 : BoxF (w5.alloc (.cells #[.func (.func 46) #[.pointer (some ⟨t, 0, none⟩)] #[]] 99)) w5.heap.size 46 t := Blk.new' rfl
  have a6 : Below w5.heap.size w5 (w5.alloc (.cells #[.func (.func 46) #[.pointer (some ⟨t, 0, none⟩)] #[]] 99)) := bel_alloc _ _
  have n6 := m5.on a6
  have g6' := after g5 a6
  replace xb1 := Blk.on xb1 a6
  replace xb2 := Blk.on xb2 a6
  replace xb3 := Blk.on xb3 a6
  replace xb4 := Blk.on xb4 a6
  obtain ⟨w6, r6, m6, k6, g6⟩ := put_word (k := .string ⟨#[117, 110, 112, 105, 110]⟩) (val := .func (.func 76) #[] #[.pointer (some ⟨w5.heap.size, 0, none⟩)]) n6 hN g6' trivial (by kernel_rfl)
  clear a6 n6 g6' m5 g5
  replace xb1 := k6.blk (show w1.heap.size ≠ w.heap.size from neb1) xb1
  replace xb2 := k6.blk (show w2.heap.size ≠ w.heap.size from neb2) xb2
  replace xb3 := k6.blk (show w3.heap.size ≠ w.heap.size from neb3) xb3
  replace xb4 := k6.blk (show w4.heap.size ≠ w.heap.size from neb4) xb4
  replace xb5 := k6.blk (show w5.heap.size ≠ w.heap.size from neb5) xb5
  clear k6
  obtain ⟨w7, r7, m7, k7, g7⟩ := put_word (k := .string ⟨#[102, 108, 117, 115, 104, 97, 108, 108]⟩) (val := .func (.func 47) #[.pointer (some ⟨sh, 0, none⟩)] #[]) m6 hN g6 trivial (by kernel_rfl)
  clear m6 g6
  replace xb1 := k7.blk (show w1.heap.size ≠ w.heap.size from neb1) xb1
  replace xb2 := k7.blk (show w2.heap.size ≠ w.heap.size from neb2) xb2
  replace xb3 := k7.blk (show w3.heap.size ≠ w.heap.size from neb3) xb3
  replace xb4 := k7.blk (show w4.heap.size ≠ w.heap.size from neb4) xb4
  replace xb5 := k7.blk (show w5.heap.size ≠ w.heap.size from neb5) xb5
  clear k7
  obtain ⟨w8, r8, m8, k8, g8⟩ := put_word (k := .string ⟨#[102, 97, 105, 108]⟩) (val := .func (.func 48) #[.pointer (some ⟨sh, 0, none⟩)] #[]) m7 hN g7 trivial (by kernel_rfl)
  clear m7 g7
  replace xb1 := k8.blk (show w1.heap.size ≠ w.heap.size from neb1) xb1
  replace xb2 := k8.blk (show w2.heap.size ≠ w.heap.size from neb2) xb2
  replace xb3 := k8.blk (show w3.heap.size ≠ w.heap.size from neb3) xb3
  replace xb4 := k8.blk (show w4.heap.size ≠ w.heap.size from neb4) xb4
  replace xb5 := k8.blk (show w5.heap.size ≠ w.heap.size from neb5) xb5
  clear k8
  obtain ⟨w9, r9, m9, k9, g9⟩ := put_word (k := .string ⟨#[99, 114, 97, 115, 104]⟩) (val := .func (.func 49) #[.pointer (some ⟨sh, 0, none⟩)] #[]) m8 hN g8 trivial (by kernel_rfl)
  clear m8 g8
  replace xb1 := k9.blk (show w1.heap.size ≠ w.heap.size from neb1) xb1
  replace xb2 := k9.blk (show w2.heap.size ≠ w.heap.size from neb2) xb2
  replace xb3 := k9.blk (show w3.heap.size ≠ w.heap.size from neb3) xb3
  replace xb4 := k9.blk (show w4.heap.size ≠ w.heap.size from neb4) xb4
  replace xb5 := k9.blk (show w5.heap.size ≠ w.heap.size from neb5) xb5
  clear k9
  obtain ⟨w10, r10, m10, k10, g10⟩ := put_word (k := .string ⟨#[115, 97, 118, 101]⟩) (val := .func (.func 50) #[.pointer (some ⟨sh, 0, none⟩)] #[]) m9 hN g9 trivial (by kernel_rfl)
  clear m9 g9
  replace xb1 := k10.blk (show w1.heap.size ≠ w.heap.size from neb1) xb1
  replace xb2 := k10.blk (show w2.heap.size ≠ w.heap.size from neb2) xb2
  replace xb3 := k10.blk (show w3.heap.size ≠ w.heap.size from neb3) xb3
  replace xb4 := k10.blk (show w4.heap.size ≠ w.heap.size from neb4) xb4
  replace xb5 := k10.blk (show w5.heap.size ≠ w.heap.size from neb5) xb5
  clear k10
  obtain ⟨w11, r11, m11, k11, g11⟩ := put_word (k := .string ⟨#[115, 112, 97, 119, 110]⟩) (val := .func (.func 51) #[.pointer (some ⟨sh, 0, none⟩)] #[]) m10 hN g10 trivial (by kernel_rfl)
  clear m10 g10
  replace xb1 := k11.blk (show w1.heap.size ≠ w.heap.size from neb1) xb1
  replace xb2 := k11.blk (show w2.heap.size ≠ w.heap.size from neb2) xb2
  replace xb3 := k11.blk (show w3.heap.size ≠ w.heap.size from neb3) xb3
  replace xb4 := k11.blk (show w4.heap.size ≠ w.heap.size from neb4) xb4
  replace xb5 := k11.blk (show w5.heap.size ≠ w.heap.size from neb5) xb5
  clear k11
  obtain ⟨w12, r12, m12, k12, g12⟩ := put_word (k := .string ⟨#[107, 105, 108, 108]⟩) (val := .func (.func 52) #[.pointer (some ⟨sh, 0, none⟩)] #[]) m11 hN g11 trivial (by kernel_rfl)
  clear m11 g11
  replace xb1 := k12.blk (show w1.heap.size ≠ w.heap.size from neb1) xb1
  replace xb2 := k12.blk (show w2.heap.size ≠ w.heap.size from neb2) xb2
  replace xb3 := k12.blk (show w3.heap.size ≠ w.heap.size from neb3) xb3
  replace xb4 := k12.blk (show w4.heap.size ≠ w.heap.size from neb4) xb4
  replace xb5 := k12.blk (show w5.heap.size ≠ w.heap.size from neb5) xb5
  clear k12
  obtain ⟨w13, r13, m13, k13, g13⟩ := put_word (k := .string ⟨#[116, 101, 108, 108]⟩) (val := .func (.func 53) #[.pointer (some ⟨sh, 0, none⟩)] #[]) m12 hN g12 trivial (by kernel_rfl)
  clear m12 g12
  replace xb1 := k13.blk (show w1.heap.size ≠ w.heap.size from neb1) xb1
  replace xb2 := k13.blk (show w2.heap.size ≠ w.heap.size from neb2) xb2
  replace xb3 := k13.blk (show w3.heap.size ≠ w.heap.size from neb3) xb3
  replace xb4 := k13.blk (show w4.heap.size ≠ w.heap.size from neb4) xb4
  replace xb5 := k13.blk (show w5.heap.size ≠ w.heap.size from neb5) xb5
  clear k13
  obtain ⟨w14, r14, m14, k14, g14⟩ := put_word (k := .string ⟨#[112, 108, 97, 99, 101]⟩) (val := .func (.func 54) #[.pointer (some ⟨sh, 0, none⟩)] #[]) m13 hN g13 trivial (by kernel_rfl)
  clear m13 g13
  replace xb1 := k14.blk (show w1.heap.size ≠ w.heap.size from neb1) xb1
  replace xb2 := k14.blk (show w2.heap.size ≠ w.heap.size from neb2) xb2
  replace xb3 := k14.blk (show w3.heap.size ≠ w.heap.size from neb3) xb3
  replace xb4 := k14.blk (show w4.heap.size ≠ w.heap.size from neb4) xb4
  replace xb5 := k14.blk (show w5.heap.size ≠ w.heap.size from neb5) xb5
  clear k14
  obtain ⟨w15, r15, m15, k15, g15⟩ := put_word (k := .string ⟨#[101, 100, 105, 116]⟩) (val := .func (.func 55) #[.pointer (some ⟨sh, 0, none⟩)] #[]) m14 hN g14 trivial (by kernel_rfl)
  clear m14 g14
  replace xb1 := k15.blk (show w1.heap.size ≠ w.heap.size from neb1) xb1
  replace xb2 := k15.blk (show w2.heap.size ≠ w.heap.size from neb2) xb2
  replace xb3 := k15.blk (show w3.heap.size ≠ w.heap.size from neb3) xb3
  replace xb4 := k15.blk (show w4.heap.size ≠ w.heap.size from neb4) xb4
  replace xb5 := k15.blk (show w5.heap.size ≠ w.heap.size from neb5) xb5
  clear k15
  obtain ⟨w16, r16, m16, k16, g16⟩ := put_word (k := .string ⟨#[98, 114, 101, 97, 107]⟩) (val := .func (.func 56) #[.pointer (some ⟨sh, 0, none⟩)] #[]) m15 hN g15 trivial (by kernel_rfl)
  clear m15 g15
  replace xb1 := k16.blk (show w1.heap.size ≠ w.heap.size from neb1) xb1
  replace xb2 := k16.blk (show w2.heap.size ≠ w.heap.size from neb2) xb2
  replace xb3 := k16.blk (show w3.heap.size ≠ w.heap.size from neb3) xb3
  replace xb4 := k16.blk (show w4.heap.size ≠ w.heap.size from neb4) xb4
  replace xb5 := k16.blk (show w5.heap.size ≠ w.heap.size from neb5) xb5
  clear k16
  obtain ⟨w17, r17, m17, k17, g17⟩ := put_word (k := .string ⟨#[108, 111, 111, 107]⟩) (val := .func (.func 57) #[.pointer (some ⟨sh, 0, none⟩)] #[]) m16 hN g16 trivial (by kernel_rfl)
  clear m16 g16
  replace xb1 := k17.blk (show w1.heap.size ≠ w.heap.size from neb1) xb1
  replace xb2 := k17.blk (show w2.heap.size ≠ w.heap.size from neb2) xb2
  replace xb3 := k17.blk (show w3.heap.size ≠ w.heap.size from neb3) xb3
  replace xb4 := k17.blk (show w4.heap.size ≠ w.heap.size from neb4) xb4
  replace xb5 := k17.blk (show w5.heap.size ≠ w.heap.size from neb5) xb5
  clear k17
  obtain ⟨w18, r18, m18, k18, g18⟩ := put_word (k := .string ⟨#[97, 116]⟩) (val := .func (.func 58) #[.pointer (some ⟨sh, 0, none⟩)] #[]) m17 hN g17 trivial (by kernel_rfl)
  clear m17 g17
  replace xb1 := k18.blk (show w1.heap.size ≠ w.heap.size from neb1) xb1
  replace xb2 := k18.blk (show w2.heap.size ≠ w.heap.size from neb2) xb2
  replace xb3 := k18.blk (show w3.heap.size ≠ w.heap.size from neb3) xb3
  replace xb4 := k18.blk (show w4.heap.size ≠ w.heap.size from neb4) xb4
  replace xb5 := k18.blk (show w5.heap.size ≠ w.heap.size from neb5) xb5
  clear k18
  obtain ⟨w19, r19, m19, k19, g19⟩ := put_word (k := .string ⟨#[116, 111, 112]⟩) (val := .func (.func 59) #[.pointer (some ⟨sh, 0, none⟩)] #[]) m18 hN g18 trivial (by kernel_rfl)
  clear m18 g18
  replace xb1 := k19.blk (show w1.heap.size ≠ w.heap.size from neb1) xb1
  replace xb2 := k19.blk (show w2.heap.size ≠ w.heap.size from neb2) xb2
  replace xb3 := k19.blk (show w3.heap.size ≠ w.heap.size from neb3) xb3
  replace xb4 := k19.blk (show w4.heap.size ≠ w.heap.size from neb4) xb4
  replace xb5 := k19.blk (show w5.heap.size ≠ w.heap.size from neb5) xb5
  clear k19
  obtain ⟨w20, r20, m20, k20, g20⟩ := put_word (k := .string ⟨#[98, 111, 100, 121]⟩) (val := .func (.func 60) #[.pointer (some ⟨sh, 0, none⟩)] #[]) m19 hN g19 trivial (by kernel_rfl)
  clear m19 g19
  replace xb1 := k20.blk (show w1.heap.size ≠ w.heap.size from neb1) xb1
  replace xb2 := k20.blk (show w2.heap.size ≠ w.heap.size from neb2) xb2
  replace xb3 := k20.blk (show w3.heap.size ≠ w.heap.size from neb3) xb3
  replace xb4 := k20.blk (show w4.heap.size ≠ w.heap.size from neb4) xb4
  replace xb5 := k20.blk (show w5.heap.size ≠ w.heap.size from neb5) xb5
  clear k20
  obtain ⟨w21, r21, m21, k21, g21⟩ := put_word (k := .string ⟨#[108, 105, 118, 101]⟩) (val := .func (.func 61) #[.pointer (some ⟨sh, 0, none⟩)] #[]) m20 hN g20 trivial (by kernel_rfl)
  clear m20 g20
  replace xb1 := k21.blk (show w1.heap.size ≠ w.heap.size from neb1) xb1
  replace xb2 := k21.blk (show w2.heap.size ≠ w.heap.size from neb2) xb2
  replace xb3 := k21.blk (show w3.heap.size ≠ w.heap.size from neb3) xb3
  replace xb4 := k21.blk (show w4.heap.size ≠ w.heap.size from neb4) xb4
  replace xb5 := k21.blk (show w5.heap.size ≠ w.heap.size from neb5) xb5
  clear k21
  obtain ⟨w22, r22, m22, k22, g22⟩ := put_word (k := .string ⟨#[104, 101, 114, 101]⟩) (val := .func (.func 62) #[.pointer (some ⟨sh, 0, none⟩)] #[]) m21 hN g21 trivial (by kernel_rfl)
  clear m21 g21
  replace xb1 := k22.blk (show w1.heap.size ≠ w.heap.size from neb1) xb1
  replace xb2 := k22.blk (show w2.heap.size ≠ w.heap.size from neb2) xb2
  replace xb3 := k22.blk (show w3.heap.size ≠ w.heap.size from neb3) xb3
  replace xb4 := k22.blk (show w4.heap.size ≠ w.heap.size from neb4) xb4
  replace xb5 := k22.blk (show w5.heap.size ≠ w.heap.size from neb5) xb5
  clear k22
  obtain ⟨w23, r23, m23, k23, g23⟩ := put_word (k := .string ⟨#[116, 105, 99, 107]⟩) (val := .func (.func 63) #[.pointer (some ⟨sh, 0, none⟩)] #[]) m22 hN g22 trivial (by kernel_rfl)
  clear m22 g22
  replace xb1 := k23.blk (show w1.heap.size ≠ w.heap.size from neb1) xb1
  replace xb2 := k23.blk (show w2.heap.size ≠ w.heap.size from neb2) xb2
  replace xb3 := k23.blk (show w3.heap.size ≠ w.heap.size from neb3) xb3
  replace xb4 := k23.blk (show w4.heap.size ≠ w.heap.size from neb4) xb4
  replace xb5 := k23.blk (show w5.heap.size ≠ w.heap.size from neb5) xb5
  clear k23
  have HF := Lib.hid (show DoR w sh t (.returned (.map (some w.heap.size))) w23 from ⟨w.heap.size, w1.heap.size, w2.heap.size, w3.heap.size, w4.heap.size, w5.heap.size, rfl, m23.cast (by kernel_rfl), xb1, xb2, g23⟩)
  clear xb1 neb1 xb2 neb2 xb3 neb3 xb4 neb4 xb5 neb5 m23 g23 hN
  go_enter Tryz.func23, Tryz.ntmps23
  go_wp2_with first
    | (go_at_call 27; refine HSW.out.mono ?_; rintro e_ w_ ⟨rfl, rfl⟩)
    | (go_at_call 30; refine HTB.out.mono ?_; rintro e_ w_ ⟨rfl, rfl⟩)
    | (go_at_call 41; refine (ctable_c sh _ t _).mono ?_; rintro e_ w_ ⟨rfl, rfl⟩)
  go_returns
  exact HF.out
end Go.Proofs.YtmbccnioijokfaaGreatDoor

namespace Go.Proofs.YtmbccnioijokfaaGreatDoor
open Go.RowKit Go.Maps
attribute [local go_sem] Oper.semAt_some
def CmdR (w0 : World) (M : Nat → Prop) (Q : Asn → ByteArray → Prop) (r : Ending) (w' : World) : Prop := ∃ A out, r = .returned (.string out) ∧ Asn.Fit 5 A ∧ Q A out ∧ Aft A w0 M w'
theorem StrM.kept {m : Nat} {l : List (Value × Value)} {w w' : World} {K : Nat → Prop} (h : StrM m l w) (k : Kept K w w') (hK : K m) : StrM m l w' := by
  have := h.lt
  unfold StrM at *
  rw [k.block m this hK]
  exact h
theorem strM_ne {m g : Nat} {l : List (Value × Value)} {w : World} {ty : TypeId} {cs : Array Value} (h : StrM m l w) (hB : Blk w g ty cs) : m ≠ g := fun e => by
  subst e
  unfold StrM at h
  unfold Blk at hB
  rw [h] at hB
  cases hB
theorem neq_nilf (fn : Fn) (x y : Array Value) (w : World) : (binOp .neq 60 (.func fn x y) .nilFunc).run Tryz.prog w = .ok (.bool true) w := by kernel_rfl
set_option maxRecDepth 100000 in
set_option maxHeartbeats 8000000 in
theorem line_m (sh e s wd t q : Nat) (occ : Value) (S : SS) (L : Option Lf) (M : Nat → Prop) (w : World) (h : ShA sh e s wd t q occ S L w M) (line word : ByteArray) (ws : List ByteArray) (hl : line.size ≤ 4294967296) (hw : wordsL line = word :: ws) (hlen : ws.length ≤ 900000) (F : FuncId) (i : Nat)
    (hf : ∀ b1 b2 b3 b4 b5, Instr.findNow .string (.string word) (mkE (doesL sh b1 b2 b3 b4 b5) 0) 0 = some (some (i, .func (.func F) #[.pointer (some ⟨sh, 0, none⟩)] #[])))
    (eF : ∀ args w, (callFunc F args).run Tryz.prog w = .ok (.enter F args) w) (Q : Asn → ByteArray → Prop)
    (hC : ∀ w1 N a w2, Below w.heap.size w w1 → Cmd w1 sh e s wd t q occ S L M N a ws w2 → Calls Tryz.prog F #[.pointer (some ⟨sh, 0, none⟩), .pointer (some ⟨a, 0, none⟩)] w2 fun r w' => CmdR w1 M Q r w') :
    Calls Tryz.prog 9 #[.pointer (some ⟨sh, 0, none⟩), .string line] w fun r w' => CmdR w M Q r w' := by
  have hmf : ∀ (fn : Fn) (first cap : Array Value) (w : World), (Instr.makeFunc fn first cap).run Tryz.prog w = .ok (.func fn first cap) w := fun _ _ _ _ => rfl
  have hnf := neq_nilf
  obtain ⟨W0, hW0⟩ : ∃ W0, W0 = w.alloc (.cells #[.string ⟨#[]⟩] 9) := ⟨_, rfl⟩
  have H0 : Below w.heap.size w W0 := by rw [hW0]; exact bel_alloc _ _
  have R0 : Blk W0 w.heap.size 9 #[.string ⟨#[]⟩] := Blk.fresh hW0
  have HWD := words_c line hl W0
  rw [hw] at HWD
  have HWD' := Lib.hid HWD
  have HX := Lib.hid (And.intro h (And.intro H0 (And.intro R0 hlen)))
  have HF := Lib.hid hf
  have HC := Lib.hid hC
  clear h hl hw hlen hf hC HWD H0 R0
  go_enter_defers Tryz.func9, Tryz.ntmps9
  go_upto_region 1 with (fail)
  rw [← hW0]
  clear hW0
  go_upto_region 2 with (go_at_call 21; refine HWD'.out.mono ?_; rintro e_ w1 ⟨A, rfl, a1, a2, a3, a4⟩; have H1 := Lib.hid (And.intro a1 (And.intro a2 (And.intro a3 a4))); clear a1 a2 a3 a4)
  obtain ⟨W2, hW2⟩ : ∃ W2, W2 = w1.alloc (.cells #[.slice (some ⟨A, 0, none⟩) (ws.length + 1) (ws.length + 1)] 58) := ⟨_, rfl⟩
  have g2 : Below w1.heap.size w1 W2 := by rw [hW2]; exact bel_alloc _ _
  have hs2 : W2.heap.size = w1.heap.size + 1 := by rw [hW2]; simp
  have B2 := Blk.fresh hW2
  obtain ⟨z0⟩ : Nonempty Unit := ⟨()⟩
  have a0 := B2.cell 0
  have hwp : (0 : Int) < ((ws.length + 1 : Nat) : Int) := by omega
  have hne : (((ws.length + 1 : Nat) : Int) == 0) = false := by simp; omega
  have hAr := Lib.hid (show ArgA W2.heap.size w1.heap.size (word :: ws) W2 from ⟨some ⟨A, 0, none⟩, ws.length + 1, B2, Nat.le_refl _, by have := HX.out.2.2.2; simp; omega, ⟨Nat.le_refl _, by omega⟩, fun b hb => by
    obtain rfl := Option.some.inj hb
    have := H1.out.2.1
    exact ⟨by dsimp only; omega, by dsimp only; omega⟩, H1.out.2.2.1.on g2⟩)
  have G2 := Lib.hid g2
  have HB2 := Lib.hid B2
  have HS2 := Lib.hid hs2
  rw [← hW2]
  clear hW2 g2 hs2 B2 z0
  have hSH2 := (shA_fit sh e s wd t q occ S L).on HX.out.1 (after (after HX.out.2.1 H1.out.2.2.2) G2.out)
  have HDO := Lib.hid (does_c sh e s wd t q occ S L M W2 hSH2)
  clear hSH2
  go_upto_region 6 with first
    | (go_at_call 23; refine HDO.out.mono ?_; rintro e_ w3 ⟨m, b1, b2, b3, b4, b5, rfl, hm, hx1, hx2, g3⟩; have H3 := Lib.hid (And.intro hm (And.intro hx1 (And.intro hx2 g3))); clear hm hx1 hx2 g3)
    | (go_at_call 24; refine (word_c _ _ word ws w3 (hAr.out.on H3.out.2.2.2)).mono ?_; rintro e_ w4 ⟨rfl, ar4, k4⟩; have H4 := Lib.hid (And.intro ar4 k4); have hlk := run_look (P := Tryz.prog) (mty := 61) (k := .string word) (v := .func (.func F) #[.pointer (some ⟨sh, 0, none⟩)] #[]) (i := i) Tryz.underlying61 Tryz.underlying9 trivial (H3.out.1.kept k4 (strM_ne H3.out.1 (HB2.out.on H3.out.2.2.2))) (HF.out b1 b2 b3 b4 b5); clear ar4 k4)
  have hb4 : Below w1.heap.size w1 w4 := bel_arg (w0 := w1) (a := w1.heap.size) (after G2.out H3.out.2.2.2) (Nat.le_refl _) H4.out.2
  have hC4 := HC.out w1 _ _ w4 (after HX.out.2.1 H1.out.2.2.2) ⟨(shA_fit sh e s wd t q occ S L).on HX.out.1 (after HX.out.2.1 H1.out.2.2.2), Nat.le_refl _, hb4, H4.out.1⟩
  have HCC := Lib.hid hC4
  have HB4 := Lib.hid hb4
  clear hb4 hC4 hlk
  go_wp2_with first
    | (go_at_call 25; refine (must_c _).mono ?_; rintro e_ w5 ⟨rfl, rfl⟩)
    | (refine HCC.out.mono ?_; rintro e_ w6 ⟨A6, out, rfl, hfit, hq, k6⟩; have hR6 : Blk w6 w.heap.size 9 #[.string ⟨#[]⟩] := (k6.kept.blk (fun hb => absurd ((shA_fit sh e s wd t q occ S L).lt HX.out.1 _ hb) (by omega)) ((HX.out.2.2.1).on H1.out.2.2.2)); have r6 := hR6.cell 0; have f6 := hR6.frz 0; have H6 := Lib.hid (And.intro hfit (And.intro hq (And.intro k6 hR6))); clear hfit hq k6 hR6)
  refine leaves_cons (f := 22) (args := #[.pointer (some ⟨w.heap.size, 0, none⟩)]) (by simp) (by simp [go_sem]) ?_
  refine (catch_c _ _).mono ?_
  rintro e_ u_ w7 ⟨rfl, rfl, rfl⟩
  obtain ⟨hfit, hq, ⟨M5, p5, m5, k5⟩, hR6⟩ := H6.out
  have hR7 : Blk (w6.setCell ⟨w.heap.size, 0, none⟩ (.string out)) w.heap.size 9 #[.string out] := hR6.set_ 0 _
  have c7 := hR7.cell 0
  have hfin : CmdR w M Q (.returned (.string out)) (w6.setCell ⟨w.heap.size, 0, none⟩ (.string out)) := by
    have hw1 : w.heap.size < w1.heap.size := Nat.lt_of_lt_of_le HX.out.2.2.1.lt H1.out.2.2.2.size
    have hb1 : Below w.heap.size w w1 := after HX.out.2.1 H1.out.2.2.2
    have hk6 : Kept (fun b => b ≠ w.heap.size) w6 (w6.setCell ⟨w.heap.size, 0, none⟩ (.string out)) := (Kept.refl _ _).setCell (by simp) _
    have hR : ∀ b, M5 b → b ≠ w.heap.size := fun b hb he => by
      rcases m5 b hb with h1 | h1
      · have := (shA_fit sh e s wd t q occ S L).lt HX.out.1 _ h1; omega
      · omega
    refine ⟨A6, out, rfl, hfit, hq, M5, hfit.kept p5 hk6 hR (fun b cs hB he => absurd (one_type (he ▸ hB) hR6) (by decide)), fun b hb => (m5 b hb).imp_right fun h => by omega, ?_⟩
    exact ((Kept.of_below hb1).trans k5).fresh (Nat.le_refl _) _
  have HFIN := Lib.hid hfin
  clear hfin hfit hq p5 m5 k5 hR6 hR7
  simp [Leaves, settle, results, Tryz.results9, go_sem, c7]
  exact HFIN.out
end Go.Proofs.YtmbccnioijokfaaGreatDoor

namespace Go.Proofs.YtmbccnioijokfaaGreatDoor
open Go.RowKit Go.Maps
attribute [local go_sem] Oper.semAt_some
set_option maxRecDepth 100000 in
set_option maxHeartbeats 8000000 in
theorem line_load (sh e s wd t q : Nat) (occ : Value) (S : SS) (L : Option Lf) (M : Nat → Prop) (w : World) (h : ShA sh e s wd t q occ S L w M) (line word : ByteArray) (ws : List ByteArray) (hl : line.size ≤ 4294967296) (hw : wordsL line = word :: ws) (hlen : ws.length ≤ 900000) (i : Nat)
    (hf : ∀ b1 b2 b3 b4 b5, Instr.findNow .string (.string word) (mkE (doesL sh b1 b2 b3 b4 b5) 0) 0 = some (some (i, .func (.func 76) #[] #[.pointer (some ⟨b1, 0, none⟩)])))
    (Q : Asn → ByteArray → Prop)
    (hC : ∀ w1 N a bx w2, Below w.heap.size w w1 → BoxF w2 bx 42 t → Cmd w1 sh e s wd t q occ S L M N a ws w2 → Calls Tryz.prog 76 #[.pointer (some ⟨a, 0, none⟩), .pointer (some ⟨bx, 0, none⟩)] w2 fun r w' => CmdR w1 M Q r w') :
    Calls Tryz.prog 9 #[.pointer (some ⟨sh, 0, none⟩), .string line] w fun r w' => CmdR w M Q r w' := by
  have hmf : ∀ (fn : Fn) (first cap : Array Value) (w : World), (Instr.makeFunc fn first cap).run Tryz.prog w = .ok (.func fn first cap) w := fun _ _ _ _ => rfl
  have hnf := neq_nilf
  obtain ⟨W0, hW0⟩ : ∃ W0, W0 = w.alloc (.cells #[.string ⟨#[]⟩] 9) := ⟨_, rfl⟩
  have H0 : Below w.heap.size w W0 := by rw [hW0]; exact bel_alloc _ _
  have R0 : Blk W0 w.heap.size 9 #[.string ⟨#[]⟩] := Blk.fresh hW0
  have HWD := words_c line hl W0
  rw [hw] at HWD
  have HWD' := Lib.hid HWD
  have HX := Lib.hid (And.intro h (And.intro H0 (And.intro R0 hlen)))
  have HF := Lib.hid hf
  have HC := Lib.hid hC
  clear h hl hw hlen hf hC HWD H0 R0
  go_enter_defers Tryz.func9, Tryz.ntmps9
  go_upto_region 1 with (fail)
  rw [← hW0]
  clear hW0
  go_upto_region 2 with (go_at_call 21; refine HWD'.out.mono ?_; rintro e_ w1 ⟨A, rfl, a1, a2, a3, a4⟩; have H1 := Lib.hid (And.intro a1 (And.intro a2 (And.intro a3 a4))); clear a1 a2 a3 a4)
  obtain ⟨W2, hW2⟩ : ∃ W2, W2 = w1.alloc (.cells #[.slice (some ⟨A, 0, none⟩) (ws.length + 1) (ws.length + 1)] 58) := ⟨_, rfl⟩
  have g2 : Below w1.heap.size w1 W2 := by rw [hW2]; exact bel_alloc _ _
  have hs2 : W2.heap.size = w1.heap.size + 1 := by rw [hW2]; simp
  have B2 := Blk.fresh hW2
  obtain ⟨z0⟩ : Nonempty Unit := ⟨()⟩
  have a0 := B2.cell 0
  have hwp : (0 : Int) < ((ws.length + 1 : Nat) : Int) := by omega
  have hne : (((ws.length + 1 : Nat) : Int) == 0) = false := by simp; omega
  have hAr := Lib.hid (show ArgA W2.heap.size w1.heap.size (word :: ws) W2 from ⟨some ⟨A, 0, none⟩, ws.length + 1, B2, Nat.le_refl _, by have := HX.out.2.2.2; simp; omega, ⟨Nat.le_refl _, by omega⟩, fun b hb => by
    obtain rfl := Option.some.inj hb
    have := H1.out.2.1
    exact ⟨by dsimp only; omega, by dsimp only; omega⟩, H1.out.2.2.1.on g2⟩)
  have G2 := Lib.hid g2
  have HB2 := Lib.hid B2
  have HS2 := Lib.hid hs2
  rw [← hW2]
  clear hW2 g2 hs2 B2 z0
  have hSH2 := (shA_fit sh e s wd t q occ S L).on HX.out.1 (after (after HX.out.2.1 H1.out.2.2.2) G2.out)
  have HDO := Lib.hid (does_c sh e s wd t q occ S L M W2 hSH2)
  clear hSH2
  go_upto_region 6 with first
    | (go_at_call 23; refine HDO.out.mono ?_; rintro e_ w3 ⟨m, b1, b2, b3, b4, b5, rfl, hm, hx1, hx2, g3⟩; have H3 := Lib.hid (And.intro hm (And.intro hx1 (And.intro hx2 g3))); clear hm hx1 hx2 g3)
    | (go_at_call 24; refine (word_c _ _ word ws w3 (hAr.out.on H3.out.2.2.2)).mono ?_; rintro e_ w4 ⟨rfl, ar4, k4⟩; have H4 := Lib.hid (And.intro ar4 k4); have hlk := run_look (P := Tryz.prog) (mty := 61) (k := .string word) (v := .func (.func 76) #[] #[.pointer (some ⟨b1, 0, none⟩)]) (i := i) Tryz.underlying61 Tryz.underlying9 trivial (H3.out.1.kept k4 (strM_ne H3.out.1 (HB2.out.on H3.out.2.2.2))) (HF.out b1 b2 b3 b4 b5); clear ar4 k4)
  have hb4 : Below w1.heap.size w1 w4 := bel_arg (w0 := w1) (a := w1.heap.size) (after G2.out H3.out.2.2.2) (Nat.le_refl _) H4.out.2
  have hC4 := HC.out w1 _ _ b1 w4 (after HX.out.2.1 H1.out.2.2.2) (H4.out.2.blk (fun he => by have hbx := H3.out.2.1; unfold BoxF at hbx; rw [he] at hbx; exact absurd (one_type hbx (HB2.out.on H3.out.2.2.2)) (by decide)) H3.out.2.1) ⟨(shA_fit sh e s wd t q occ S L).on HX.out.1 (after HX.out.2.1 H1.out.2.2.2), Nat.le_refl _, hb4, H4.out.1⟩
  have HCC := Lib.hid hC4
  have HB4 := Lib.hid hb4
  clear hb4 hC4 hlk
  go_wp2_with first
    | (go_at_call 25; refine (must_c _).mono ?_; rintro e_ w5 ⟨rfl, rfl⟩)
    | (refine HCC.out.mono ?_; rintro e_ w6 ⟨A6, out, rfl, hfit, hq, k6⟩; have hR6 : Blk w6 w.heap.size 9 #[.string ⟨#[]⟩] := (k6.kept.blk (fun hb => absurd ((shA_fit sh e s wd t q occ S L).lt HX.out.1 _ hb) (by omega)) ((HX.out.2.2.1).on H1.out.2.2.2)); have r6 := hR6.cell 0; have f6 := hR6.frz 0; have H6 := Lib.hid (And.intro hfit (And.intro hq (And.intro k6 hR6))); clear hfit hq k6 hR6)
  refine leaves_cons (f := 22) (args := #[.pointer (some ⟨w.heap.size, 0, none⟩)]) (by simp) (by simp [go_sem]) ?_
  refine (catch_c _ _).mono ?_
  rintro e_ u_ w7 ⟨rfl, rfl, rfl⟩
  obtain ⟨hfit, hq, ⟨M5, p5, m5, k5⟩, hR6⟩ := H6.out
  have hR7 : Blk (w6.setCell ⟨w.heap.size, 0, none⟩ (.string out)) w.heap.size 9 #[.string out] := hR6.set_ 0 _
  have c7 := hR7.cell 0
  have hfin : CmdR w M Q (.returned (.string out)) (w6.setCell ⟨w.heap.size, 0, none⟩ (.string out)) := by
    have hw1 : w.heap.size < w1.heap.size := Nat.lt_of_lt_of_le HX.out.2.2.1.lt H1.out.2.2.2.size
    have hb1 : Below w.heap.size w w1 := after HX.out.2.1 H1.out.2.2.2
    have hk6 : Kept (fun b => b ≠ w.heap.size) w6 (w6.setCell ⟨w.heap.size, 0, none⟩ (.string out)) := (Kept.refl _ _).setCell (by simp) _
    have hR : ∀ b, M5 b → b ≠ w.heap.size := fun b hb he => by
      rcases m5 b hb with h1 | h1
      · have := (shA_fit sh e s wd t q occ S L).lt HX.out.1 _ h1; omega
      · omega
    refine ⟨A6, out, rfl, hfit, hq, M5, hfit.kept p5 hk6 hR (fun b cs hB he => absurd (one_type (he ▸ hB) hR6) (by decide)), fun b hb => (m5 b hb).imp_right fun h => by omega, ?_⟩
    exact ((Kept.of_below hb1).trans k5).fresh (Nat.le_refl _) _
  have HFIN := Lib.hid hfin
  clear hfin hfit hq p5 m5 k5 hR6 hR7
  simp [Leaves, settle, results, Tryz.results9, go_sem, c7]
  exact HFIN.out
end Go.Proofs.YtmbccnioijokfaaGreatDoor

namespace Go.Proofs.YtmbccnioijokfaaGreatDoor
open Go.RowKit Go.Maps
attribute [local go_sem] Oper.semAt_some
theorem blkN_len (b : Int) : (blkN b).length ≤ 20 := by
  by_cases h : b < 0 ∨ 16 ≤ b
  · rw [blkN_out h]; decide
  · obtain ⟨n, rfl⟩ := Int.eq_ofNat_of_zero_le (show 0 ≤ b by omega)
    have : ∀ k : Nat, k < 16 → (blkN (k : Int)).length ≤ 20 := by decide
    exact this n (by omega)
set_option maxRecDepth 100000 in
set_option maxHeartbeats 4000000 in
theorem cat_c (w0 : World) (sh e s wd t q : Nat) (occ : Value) (S : SS) (L : Option Lf) (M : Nat → Prop) (N a : Nat) (s1 s2 s3 : ByteArray) (x y z : Int) (h1 : NW s1 x) (h2 : NW s2 y) (h3 : NW s3 z) (hx : In64 x) (hz : In64 z) (hn : S.T.l.length ≤ 1000) (hne : (S.T.cell (x, y, z) == -1) = false) (w : World)
    (h : Cmd w0 sh e s wd t q occ S L M N a [s1, s2, s3] w) :
    Calls Tryz.prog 58 #[.pointer (some ⟨sh, 0, none⟩), .pointer (some ⟨a, 0, none⟩)] w fun r w' => r = .returned (.string (strA (blkN (S.T.cell (x, y, z))))) ∧ Below w0.heap.size w0 w' := by
  have HC := Lib.hid h
  have H1 := Lib.hid (acell_c N a s1 s2 s3 x y z h1 h2 h3 _ w h.arg)
  have HX := Lib.hid (And.intro hx (And.intro hz hn))
  clear h h1 h2 h3 hx hz hn
  generalize hbb : S.T.cell (x, y, z) = bb at *
  have HBB := Lib.hid hbb
  clear hbb
  go_enter Tryz.func58, Tryz.ntmps58
  go_upto_region 2 with (go_at_call 98; refine H1.out.mono ?_; rintro e_ w1 ⟨rfl, a1, k1⟩; have C1 := Lib.hid (HC.out.eat a1 k1); clear a1 k1)
  obtain ⟨W2, hW2⟩ : ∃ W2, W2 = w1.alloc (.cells #[.int .i64 x, .int .i64 y, .int .i64 z] 43) := ⟨_, rfl⟩
  have hb2 : Below w1.heap.size w1 W2 := by rw [hW2]; exact bel_alloc _ _
  have B2 := Lib.hid (Blk.fresh hW2)
  have C2 := Lib.hid (show Cmd w0 sh e s wd t q occ S L M N a [] W2 from ⟨C1.out.sh, C1.out.new, after C1.out.bel hb2, C1.out.arg.on hb2⟩)
  rw [← hW2]
  clear hW2 hb2
  go_upto_region 3 with (go_at_call 74; refine (end_c N a _ C2.out.arg).mono ?_; rintro e_ w4 ⟨rfl, rfl⟩)
  obtain ⟨Me, hs1, hs2, hM⟩ := C2.out.here
  obtain ⟨Ms, he, -⟩ := hs2
  have c0 := fun d os => (B2.out.re d os).cell 0
  have c1 := fun d os => (B2.out.re d os).cell 1
  have c2 := fun d os => (B2.out.re d os).cell 2
  have p0 := fun d os => (hs1.re d os).cell 0
  have e0 := fun d os => (he.blk.re d os).cell 0
  have HSW := Lib.hid fun d os => sworld_c s wd t q occ S (Go.Sort.grow (redrawn W2 d) os) Ms ((simA_fit s wd t q occ S).on he.sim (below_regrown _ d os))
  obtain ⟨v, ds, Mw, Mq, hs, -⟩ := he.sim
  have HVW := Lib.hid fun d os => wview_c wd t S.k S.T (Go.Sort.grow (redrawn W2 d) os) Mw ((wdA_fit wd t S.T S.k).on hs.wd (below_regrown _ d os))
  have hat := fun d os => (hs.tells HX.out.2.2) (x, y, z) ⟨HX.out.1, HX.out.2.1⟩ (Go.Sort.grow (redrawn W2 d) os) (below_regrown _ d os)
  rw [HBB.out] at hat
  have HAT := Lib.hid hat
  clear hs1 he hs hM hat
  refine wp_region_quiet_below (by kernel_rfl) (by kernel_rfl) ?_
  repeat (go_big_quiet_step (first | exact Calls.regrown_of ((HSW.out _ _).mono fun _ _ ⟨he, hw⟩ => ⟨he, by rw [← hw]; exact Below.refl _ _⟩) | exact Calls.regrown_of ((HVW.out _ _).mono fun _ _ ⟨he, hw⟩ => ⟨he, by rw [← hw]; exact Below.refl _ _⟩) | exact Calls.regrown_of (HAT.out _ _)))
  refine wpQuiet_nil ?_
  intro w' hw'
  obtain ⟨rg, rfl⟩ := hw'
  obtain ⟨W3, hW3⟩ : ∃ W3, W3 = Go.Sort.grow (redrawn W2 rg.d) rg.os := ⟨_, rfl⟩
  have G3 := Lib.hid (show Below W2.heap.size W2 W3 by rw [hW3]; exact below_regrown _ _ _)
  rw [← hW3]
  clear hW3 c0 c1 c2 p0 e0
  have hsz : sL (TV.str (strA (blkN bb))).str_ ≤ 1000000 := by
    show (blkN bb).toArray.toList.length ≤ 1000000
    exact Nat.le_trans (blkN_len bb) (by decide)
  have HSZ := Lib.hid hsz
  clear hsz
  go_wp2_with first
    | (go_at_call 101; refine (bname_c bb _).mono ?_; rintro e_ w6 ⟨rfl, k6⟩; have K6 := Lib.hid k6; clear k6)
    | (go_at_call 75; refine (told1_c w6.heap.size (.str (strA (blkN bb))) (w6.alloc (.cells #[.iface 9 (.string (strA (blkN bb)))] 20)) (Blk.new' rfl) trivial HSZ.out).mono ?_; rintro e_ w7 ⟨rfl, g7⟩; have G7 := Lib.hid (after (bel_alloc _ _) g7); clear g7)
  go_returns
  exact ⟨rfl, after (after (after C2.out.bel G3.out) K6.out) G7.out⟩
end Go.Proofs.YtmbccnioijokfaaGreatDoor

namespace Go.Proofs.YtmbccnioijokfaaGreatDoor
open Go.RowKit Go.Maps
attribute [local go_sem] Oper.semAt_some
theorem or_c (b : Nat) (x : TV) (w : World) (hB : Blk w b 20 #[x.val]) (hm : x.may w) (hs : sL x.str_ ≤ 1000000) :
    Calls Tryz.prog 93 #[.int .i64 0, .slice (some ⟨b, 0, none⟩) 1 1] w fun r w' => r = .returned (.string x.str_) ∧ Below w.heap.size w w' := by
  have HT := Lib.hid (told1_c b x w hB hm hs)
  clear hB hm hs
  generalize x.str_ = s at *
  go_enter Tryz.func93, Tryz.ntmps93
  go_wp2_with (go_at_call 75; refine HT.out.mono ?_; rintro e_ w1 ⟨rfl, g1⟩; have G1 := Lib.hid g1; clear g1)
  go_returns
  exact ⟨rfl, G1.out⟩
def SpF (e s wd t q : Nat) (occ : Value) (S : SS) (b : BD) (Me : Nat → Prop) (N0 : Nat) (w : World) : Prop := ∃ a M', EngA e s wd t q occ S (some ⟨a, b, 0, 0, false⟩) w M' ∧ ∀ b, M' b → Me b ∨ N0 ≤ b
def spF (e s wd t q : Nat) (occ : Value) (S : SS) (b : BD) (Me : Nat → Prop) (N0 : Nat) : Nat → Rel := fun i v w => match i with
  | 7 => v = .tuple #[.int .i64 0, .int .i64 0] ∧ SpF e s wd t q occ S b Me N0 w
  | 8 => v = .tuple #[.int .i64 0, .int .i64 0]
  | 9 => v = .int .i64 0
  | 10 => v = .int .i64 0
  | 11 => v = .int .i64 0
  | _ => True
theorem spF_on {e s wd t q : Nat} {occ : Value} {S : SS} {b : BD} {Me : Nat → Prop} {N0 : Nat} : ∀ i v (w w' : World), spF e s wd t q occ S b Me N0 i v w → (if i = 7 then Below w.heap.size w w' else Kept (fun b => some e ≠ some b) w w') → spF e s wd t q occ S b Me N0 i v w'
  | 7, _, _, _, ⟨h1, a, M', h2, h3⟩, hb => ⟨h1, a, M', (engA_fit e s wd t q occ S _).on h2 (by simpa using hb), h3⟩
  | 8, _, _, _, h, _ => h
  | 9, _, _, _, h, _ => h
  | 10, _, _, _, h, _ => h
  | 11, _, _, _, h, _ => h
  | 0, _, _, _, _, _ => trivial
  | 1, _, _, _, _, _ => trivial
  | 2, _, _, _, _, _ => trivial
  | 3, _, _, _, _, _ => trivial
  | 4, _, _, _, _, _ => trivial
  | 5, _, _, _, _, _ => trivial
  | 6, _, _, _, _, _ => trivial
  | _ + 12, _, _, _, _, _ => trivial
set_option maxRecDepth 100000 in
set_option maxHeartbeats 8000000 in
theorem cspawn_c (w0 : World) (sh e s wd t q : Nat) (occ : Value) (S : SS) (M : Nat → Prop) (N a : Nat) (s1 s2 s3 s4 s5 : ByteArray) (x y z wi ht : Int) (b : BD) (h1 : NW s1 x) (h2 : NW s2 y) (h3 : NW s3 z) (h4 : NW s4 wi) (h5 : NW s5 ht) (w : World)
    (h : Cmd w0 sh e s wd t q occ S none M N a [s1, s2, s3, s4, s5] w)
    (hS : ∀ W M1, EngA e s wd t q occ S none W M1 → Calls Tryz.prog 92 #[.pointer (some ⟨e, 0, none⟩), .agg #[.int .i64 x, .int .i64 y, .int .i64 z], .int .i64 wi, .int .i64 ht] W fun r w' => r = .returned (.tuple #[.int .i64 0, .int .i64 0]) ∧ (∃ a, Aft (EngA e s wd t q occ S (some ⟨a, b, 0, 0, false⟩)) W M1 w') ∧ Kept (fun b => b ≠ e) W w') :
    Calls Tryz.prog 51 #[.pointer (some ⟨sh, 0, none⟩), .pointer (some ⟨a, 0, none⟩)] w fun r w' => r = .returned (.string (strA (Lib.itoa 0))) ∧ ∃ la, Aft (ShA sh e s wd t q occ S (some ⟨la, b, 0, 0, false⟩)) w0 M w' := by
  have HC := Lib.hid h
  have H1 := Lib.hid (vec_c N a s1 s2 s3 x y z h1 h2 h3 _ w h.arg)
  have HW := Lib.hid (And.intro h4 h5)
  have HS := Lib.hid hS
  clear h h1 h2 h3 h4 h5 hS
  go_enter Tryz.func51, Tryz.ntmps51
  go_upto_region 2 with (go_at_call 91; refine H1.out.mono ?_; rintro e_ w1 ⟨rfl, a1, k1⟩; have C1 := Lib.hid (HC.out.eat a1 k1); clear a1 k1)
  obtain ⟨W2, hW2⟩ : ∃ W2, W2 = w1.alloc (.cells #[.int .i64 x, .int .i64 y, .int .i64 z] 38) := ⟨_, rfl⟩
  have hb2 : Below w1.heap.size w1 W2 := by rw [hW2]; exact bel_alloc _ _
  have B2 := Lib.hid (Blk.fresh hW2)
  have C2 := Lib.hid (show Cmd w0 sh e s wd t q occ S none M N a [s4, s5] W2 from ⟨C1.out.sh, C1.out.new, after C1.out.bel hb2, C1.out.arg.on hb2⟩)
  rw [← hW2]
  have HG := Lib.hid (show w1.heap.size ≠ a by have := C1.out.arg.le; omega)
  clear hW2 hb2
  go_upto_region 4 with first
    | (go_at_call 73; refine (num_c N a s4 wi HW.out.1 _ _ C2.out.arg).mono ?_; rintro e_ w3 ⟨rfl, a3, k3⟩; have C3 := Lib.hid (C2.out.eat a3 k3); have B3 := Lib.hid (k3.blk HG.out B2.out); clear a3 k3)
    | (go_at_call 73; refine (num_c N a s5 ht HW.out.2 _ _ C3.out.arg).mono ?_; rintro e_ w4 ⟨rfl, a4, k4⟩; have C4 := Lib.hid (C3.out.eat a4 k4); have B4 := Lib.hid (k4.blk HG.out B3.out); clear a4 k4)
    | (go_at_call 74; refine (end_c N a _ C4.out.arg).mono ?_; rintro e_ w5 ⟨rfl, rfl⟩)
  obtain ⟨Me, hs1, hs2, hM⟩ := C4.out.here
  have hse : sh ≠ e := fun he => sh_not hs1 hs2 (by obtain ⟨Ms, h1, h2⟩ := hs2; exact (h2 _).2 (.inl he))
  have c0 := fun f d os => (B4.out.sp (D := [e]) (by
    obtain ⟨Ms, h1, -⟩ := hs2
    have := C1.out.bel.size
    simp
    rintro he
    have hB := B4.out
    rw [he] at hB
    exact absurd (one_type hB h1.blk) (by decide)) f d os).cell 0
  have c1 := fun f d os => (B4.out.sp (D := [e]) (by
    obtain ⟨Ms, h1, -⟩ := hs2
    simp
    rintro he
    have hB := B4.out
    rw [he] at hB
    exact absurd (one_type hB h1.blk) (by decide)) f d os).cell 1
  have c2 := fun f d os => (B4.out.sp (D := [e]) (by
    obtain ⟨Ms, h1, -⟩ := hs2
    simp
    rintro he
    have hB := B4.out
    rw [he] at hB
    exact absurd (one_type hB h1.blk) (by decide)) f d os).cell 2
  have p0 := fun f d os => (hs1.sp (D := [e]) (by simpa using hse) f d os).cell 0
  have HSS := Lib.hid (And.intro hs1 (And.intro hs2 (And.intro hM hse)))
  have HSP := Lib.hid fun W (g : Below w4.heap.size w4 W) => HS.out W Me ((engA_fit e s wd t q occ S none).on hs2 g)
  clear hs1 hs2 hM hse
  refine wp_schedR [0, 0, 0, 0, 0, 0, 0, 2, 2, 2, 2, 2, 3] 7 ((some e)) (spF e s wd t q occ S b Me w4.heap.size) (by kernel_rfl) (by kernel_rfl) (spF_on) ?_
  repeat (first | (refine wpQs_s ?_) | (refine wpQs_q (fun K hK => ?_); go_simp; first | (refine hK _ ?_; clear hK K) | (apply Exists.intro; refine ⟨fun _ => ?_, hK _ ?_⟩; (fail); clear hK K)) | (refine wpQs_f (fun K hK => ?_); go_simp; refine hK _ ?_; clear hK K))
  refine wpQs_nil ?_
  refine wpLs_skip ?_
  refine wpLs_skip ?_
  refine wpLs_skip ?_
  refine wpLs_skip ?_
  refine wpLs_skip ?_
  refine wpLs_skip ?_
  refine wpLs_skip ?_
  refine wpLs_one ?lsA (fun v_ => ?_)
  case lsA => (intro w_ hw_ hp_; (first | (dsimp only at hF_; have h8 := (show _ = _ from hF_.1.1.2 (by kernel_rfl)); subst h8; go_simp <;> first | exact Kept.refl _ _ | exact ⟨Kept.refl _ _, rfl⟩) | (dsimp only at hF_; have h8 := (show _ = _ from hF_.1.2 (by kernel_rfl)); subst h8; go_simp <;> first | exact Kept.refl _ _ | exact ⟨Kept.refl _ _, rfl⟩) | (dsimp only at hF_; have h8 := (show _ = _ from hF_.2 (by kernel_rfl)); subst h8; go_simp <;> first | exact Kept.refl _ _ | exact ⟨Kept.refl _ _, rfl⟩) | (dsimp only at hF_; have h8 := (show _ = _ ∧ _ from hF_.2 (by kernel_rfl)).1; subst h8; go_simp <;> first | exact Kept.refl _ _ | exact ⟨Kept.refl _ _, rfl⟩) | (go_simp; refine (HSP.out w_ (msd_row hw_ hp_)).mono ?_; rintro e_ w9 ⟨rfl, ⟨a9, M9, m9, n9, -⟩, k9⟩; exact ⟨_, rfl, k9.mono (by simp [DsR]), rfl, a9, M9, m9, fun b hb => (n9 b hb).imp_right (Nat.le_trans (msd_kept hw_).size)⟩)))
  refine wpLs_oneF ?lsA (fun v_ => ?_)
  case lsA => (intro w_ hw_ hp_ hF_; (first | (dsimp only at hF_; have h8 := (show _ = _ from hF_.1.1.2 (by kernel_rfl)); subst h8; go_simp <;> first | exact Kept.refl _ _ | exact ⟨Kept.refl _ _, rfl⟩) | (dsimp only at hF_; have h8 := (show _ = _ from hF_.1.2 (by kernel_rfl)); subst h8; go_simp <;> first | exact Kept.refl _ _ | exact ⟨Kept.refl _ _, rfl⟩) | (dsimp only at hF_; have h8 := (show _ = _ from hF_.2 (by kernel_rfl)); subst h8; go_simp <;> first | exact Kept.refl _ _ | exact ⟨Kept.refl _ _, rfl⟩) | (dsimp only at hF_; have h8 := (show _ = _ ∧ _ from hF_.2 (by kernel_rfl)).1; subst h8; go_simp <;> first | exact Kept.refl _ _ | exact ⟨Kept.refl _ _, rfl⟩) | (go_simp; refine (HSP.out w_ (msd_row hw_ hp_)).mono ?_; rintro e_ w9 ⟨rfl, ⟨a9, M9, m9, n9, -⟩, k9⟩; exact ⟨_, rfl, k9.mono (by simp [DsR]), rfl, a9, M9, m9, fun b hb => (n9 b hb).imp_right (Nat.le_trans (msd_kept hw_).size)⟩)))
  refine wpLs_oneF ?lsA (fun v_ => ?_)
  case lsA => (intro w_ hw_ hp_ hF_; (first | (dsimp only at hF_; have h8 := (show _ = _ from hF_.1.1.2 (by kernel_rfl)); subst h8; go_simp <;> first | exact Kept.refl _ _ | exact ⟨Kept.refl _ _, rfl⟩) | (dsimp only at hF_; have h8 := (show _ = _ from hF_.1.2 (by kernel_rfl)); subst h8; go_simp <;> first | exact Kept.refl _ _ | exact ⟨Kept.refl _ _, rfl⟩) | (dsimp only at hF_; have h8 := (show _ = _ from hF_.2 (by kernel_rfl)); subst h8; go_simp <;> first | exact Kept.refl _ _ | exact ⟨Kept.refl _ _, rfl⟩) | (dsimp only at hF_; have h8 := (show _ = _ ∧ _ from hF_.2 (by kernel_rfl)).1; subst h8; go_simp <;> first | exact Kept.refl _ _ | exact ⟨Kept.refl _ _, rfl⟩) | (go_simp; refine (HSP.out w_ (msd_row hw_ hp_)).mono ?_; rintro e_ w9 ⟨rfl, ⟨a9, M9, m9, n9, -⟩, k9⟩; exact ⟨_, rfl, k9.mono (by simp [DsR]), rfl, a9, M9, m9, fun b hb => (n9 b hb).imp_right (Nat.le_trans (msd_kept hw_).size)⟩)))
  refine wpLs_oneF ?lsA (fun v_ => ?_)
  case lsA => (intro w_ hw_ hp_ hF_; (first | (dsimp only at hF_; have h8 := (show _ = _ from hF_.1.1.2 (by kernel_rfl)); subst h8; go_simp <;> first | exact Kept.refl _ _ | exact ⟨Kept.refl _ _, rfl⟩) | (dsimp only at hF_; have h8 := (show _ = _ from hF_.1.2 (by kernel_rfl)); subst h8; go_simp <;> first | exact Kept.refl _ _ | exact ⟨Kept.refl _ _, rfl⟩) | (dsimp only at hF_; have h8 := (show _ = _ from hF_.2 (by kernel_rfl)); subst h8; go_simp <;> first | exact Kept.refl _ _ | exact ⟨Kept.refl _ _, rfl⟩) | (dsimp only at hF_; have h8 := (show _ = _ ∧ _ from hF_.2 (by kernel_rfl)).1; subst h8; go_simp <;> first | exact Kept.refl _ _ | exact ⟨Kept.refl _ _, rfl⟩) | (go_simp; refine (HSP.out w_ (msd_row hw_ hp_)).mono ?_; rintro e_ w9 ⟨rfl, ⟨a9, M9, m9, n9, -⟩, k9⟩; exact ⟨_, rfl, k9.mono (by simp [DsR]), rfl, a9, M9, m9, fun b hb => (n9 b hb).imp_right (Nat.le_trans (msd_kept hw_).size)⟩)))
  refine wpLs_oneF ?lsA (fun v_ => ?_)
  case lsA => (intro w_ hw_ hp_ hF_; (first | (dsimp only at hF_; have h8 := (show _ = _ from hF_.1.1.2 (by kernel_rfl)); subst h8; go_simp <;> first | exact Kept.refl _ _ | exact ⟨Kept.refl _ _, rfl⟩) | (dsimp only at hF_; have h8 := (show _ = _ from hF_.1.2 (by kernel_rfl)); subst h8; go_simp <;> first | exact Kept.refl _ _ | exact ⟨Kept.refl _ _, rfl⟩) | (dsimp only at hF_; have h8 := (show _ = _ from hF_.2 (by kernel_rfl)); subst h8; go_simp <;> first | exact Kept.refl _ _ | exact ⟨Kept.refl _ _, rfl⟩) | (dsimp only at hF_; have h8 := (show _ = _ ∧ _ from hF_.2 (by kernel_rfl)).1; subst h8; go_simp <;> first | exact Kept.refl _ _ | exact ⟨Kept.refl _ _, rfl⟩) | (go_simp; refine (HSP.out w_ (msd_row hw_ hp_)).mono ?_; rintro e_ w9 ⟨rfl, ⟨a9, M9, m9, n9, -⟩, k9⟩; exact ⟨_, rfl, k9.mono (by simp [DsR]), rfl, a9, M9, m9, fun b hb => (n9 b hb).imp_right (Nat.le_trans (msd_kept hw_).size)⟩)))
  refine wpLs_skip ?_
  refine wpLs_nilD ?_
  simp only [tails]
  rintro W6 k6 ⟨⟨⟨⟨⟨-, -, a6, M6, m6, n6⟩, -⟩, h9⟩, h10⟩, h11⟩
  have HK6 := Lib.hid (And.intro k6 (And.intro m6 n6))
  clear k6 m6 n6 c0 c1 c2 p0
  subst h10
  subst h11
  go_wp2_with (go_at_call 93; refine (or_c W6.heap.size (.int 0) (W6.alloc (.cells #[.iface 3 (.int .i64 0)] 20)) (Blk.new' rfl) ⟨by unfold Sm9; omega, .inl (by omega)⟩ (Nat.le_trans (itoa_sL (by unfold Sm9; omega)) (by decide))).mono ?_; rintro e_ w7 ⟨rfl, g7⟩; have G7 := Lib.hid (after (bel_alloc _ _) g7); clear g7)
  go_returns
  obtain ⟨hs1, hs2, hM, hse⟩ := HSS.out
  have heM : Me e := by obtain ⟨Ms, -, h2⟩ := hs2; exact (h2 e).2 (.inl rfl)
  refine ⟨rfl, a6, Aft.on (shA_fit sh e s wd t q occ S _) ⟨fun b => b = sh ∨ M6 b, ⟨M6, HK6.out.1.blk (by simpa using hse) hs1, HK6.out.2.1, fun _ => Iff.rfl⟩, fun b hb => ?_, (Kept.of_below C4.out.bel).trans (HK6.out.1.mono fun b hb => ?_)⟩ G7.out⟩
  · rcases hb with rfl | hb
    · exact .inl ((hM _).2 (.inl rfl))
    · exact (HK6.out.2.2 b hb).imp (fun h => (hM b).2 (.inr h)) (Nat.le_trans C4.out.bel.size)
  · have : b ≠ e := fun he => hb ((hM b).2 (.inr (he ▸ heM)))
    simpa using this
end Go.Proofs.YtmbccnioijokfaaGreatDoor

namespace Go.Proofs.YtmbccnioijokfaaGreatDoor
open Go.RowKit Go.Maps
attribute [local go_sem] Oper.semAt_some
def TkI (sh e s wd t q : Nat) (occ : Nat → Value) (S : Nat → SS) (L : Nat → Option Lf) (w0 : World) (M : Nat → Prop) (i : Nat) (w : World) : Prop := Aft (ShA sh e s wd t q (occ i) (S i) (L i)) w0 M w
set_option maxRecDepth 100000 in
set_option maxHeartbeats 8000000 in
theorem ctick_c (w0 : World) (sh e s wd t q : Nat) (n : Nat) (hn : 1 ≤ n ∧ n ≤ 100) (occ : Nat → Value) (S : Nat → SS) (L : Nat → Option Lf) (sm out : Nat → Int) (hs0 : sm 0 = 0) (hsm : ∀ i, i < n → sm (i + 1) = sm i + out i) (hsb : ∀ i, i ≤ n → 0 ≤ sm i ∧ sm i < 100) (hnow : 0 ≤ (S n).now ∧ (S n).now < 100) (M : Nat → Prop) (N a : Nat) (s1 : ByteArray) (h1 : NW s1 n) (w : World)
    (h : Cmd w0 sh e s wd t q (occ 0) (S 0) (L 0) M N a [s1] w)
    (hK : ∀ i, i < n → ∀ W M1, EngA e s wd t q (occ i) (S i) (L i) W M1 → Calls Tryz.prog 105 #[.pointer (some ⟨e, 0, none⟩)] W fun r w' => r = .returned (.int .i64 (out i)) ∧ Aft (EngA e s wd t q (occ (i + 1)) (S (i + 1)) (L (i + 1))) W M1 w') :
    Calls Tryz.prog 63 #[.pointer (some ⟨sh, 0, none⟩), .pointer (some ⟨a, 0, none⟩)] w fun r w' => r = .returned (.string (joinB [strA (Lib.itoa (sm n)), strA (Lib.itoa (S n).now)])) ∧ Aft (ShA sh e s wd t q (occ n) (S n) (L n)) w0 M w' := by
  have HC := Lib.hid h
  have H1 := Lib.hid (num_c N a s1 n h1 _ w h.arg)
  have HS := Lib.hid (And.intro hsm (And.intro hsb (And.intro hnow hn)))
  have HK := Lib.hid hK
  have HS0 := Lib.hid hs0
  have hn1 : (1 : Int) ≤ (n : Int) := by omega
  have hn2 : (n : Int) ≤ 100 := by omega
  clear h h1 hsm hsb hnow hK hn hs0
  go_enter Tryz.func63, Tryz.ntmps63
  go_upto_region 6 with first
    | (go_at_call 73; refine H1.out.mono ?_; rintro e_ w1 ⟨rfl, a1, k1⟩; have C1 := Lib.hid (HC.out.eat a1 k1); clear a1 k1)
    | (go_at_call 74; refine (end_c N a _ C1.out.arg).mono ?_; rintro e_ w4 ⟨rfl, rfl⟩)
    | (go_at_call 25; refine (must_c _).mono ?_; rintro e_ w5 ⟨rfl, rfl⟩)
  go_loopw [6, 19] (fun v iv wr => ∃ i : Nat, i ≤ n ∧ iv = .int .i64 i ∧ v = .int .i64 (sm i) ∧ Hid (TkI sh e s wd t q occ S L w0 M i wr)) (fun _ iv _ => n - (intOf iv).toNat)
  case atStart => exact ⟨0, Nat.zero_le _, rfl, by rw [HS0.out], Lib.hid (Aft.below C1.out.here C1.out.bel)⟩
  case round =>
    obtain ⟨i, hi, rfl, rfl, hI⟩ := hrel
    obtain ⟨M', ⟨Me', b1, b2, hM'⟩, m2, k2⟩ := hI.out
    have p0 := b1.cell 0
    have HP := Lib.hid (And.intro b1 (And.intro b2 (And.intro hM' (And.intro m2 k2))))
    by_cases hlt : i < n
    · have hlt' : (i : Int) < (n : Int) := by omega
      have HTK := Lib.hid (HK.out i hlt wr Me' b2)
      have hb1 := HS.out.2.1 i hi
      have hb2 := HS.out.2.1 (i + 1) hlt
      have hst := HS.out.1 i hlt
      have HST := Lib.hid hst
      have q1 : -9223372036854775808 ≤ sm i + out i := by omega
      have q2 : sm i + out i ≤ 9223372036854775807 := by omega
      have q3 : (i : Int) + 1 ≤ 9223372036854775807 := by omega
      have q4 : -9223372036854775808 ≤ (i : Int) + 1 := by omega
      clear b1 b2 hM' m2 k2 hst hb1 hb2
      go_wp2_with (go_at_call 105; refine HTK.out.mono ?_; rintro e_ w2 ⟨rfl, k3⟩; have K3 := Lib.hid k3; clear k3)
      go_roundw
      case rel => exact ⟨i + 1, hlt, by go_num, by rw [HST.out], Lib.hid (Aft.bind HP.out.2.2.2.1 HP.out.2.2.2.2 (ShA.turn HP.out.1 HP.out.2.1 HP.out.2.2.1 K3.out))⟩
      case measure => simp [intOf]; omega
    · obtain rfl : i = n := by omega
      have hlt' : ¬ (i : Int) < (i : Int) := by omega
      obtain ⟨Ms, he, -⟩ := b2
      have e0 := he.blk.cell 0
      have HNW := Lib.hid (snow_c s wd t q (occ i) (S i) wr Ms he.sim)
      have hsi := HS.out.2.1 i hi
      have HN1 := Lib.hid (show ∀ W, NumT W (sm i) from fun W => ⟨by unfold Sm9; omega, .inl hsi⟩)
      have HN2 := Lib.hid (show ∀ W, NumT W (S i).now from fun W => ⟨by have := HS.out.2.2.1; unfold Sm9; omega, .inl HS.out.2.2.1⟩)
      clear b1 hM' m2 k2 he hlt hsi
      go_wp2_with first
        | (go_at_call 35; refine HNW.out.mono ?_; rintro e_ w2 ⟨rfl, rfl⟩)
        | (go_at_call 75; refine (told2_c wr.heap.size (sm i) (S i).now (wr.alloc (.cells #[.iface 3 (.int .i64 (sm i)), .iface 3 (.int .i64 (S i).now)] 20)) (Blk.new' rfl) (HN1.out _) (HN2.out _)).mono ?_; rintro e_ w7 ⟨rfl, g7⟩; have G7 := Lib.hid (after (bel_alloc _ _) g7); clear g7)
      go_returns
      exact ⟨rfl, Aft.on (shA_fit sh e s wd t q _ _ _) hI.out G7.out⟩
end Go.Proofs.YtmbccnioijokfaaGreatDoor

namespace Go.Proofs.YtmbccnioijokfaaGreatDoor
open Go.RowKit Go.Maps
attribute [local go_sem] Oper.semAt_some
def CwR (w0 : World) (sh : Nat) (seed lim bu : Int) (M : Nat → Prop) (r : Ending) (w' : World) : Prop := ∃ e s wd t q, r = .returned (.string (strA [111, 107])) ∧ Aft (ShA sh e s wd t q occ0 (newSS (newT seed lim 200000) 0 bu) none) w0 M w'
set_option maxRecDepth 100000 in
set_option maxHeartbeats 8000000 in
theorem cworld_c (w0 : World) (sh e s wd t q : Nat) (occ : Value) (S : SS) (L : Option Lf) (M : Nat → Prop) (N a : Nat) (s1 s2 s3 : ByteArray) (seed lim bu : Int) (h1 : NW s1 seed) (h2 : NW s2 lim) (h3 : NW s3 bu) (w : World)
    (h : Cmd w0 sh e s wd t q occ S L M N a [s1, s2, s3] w) :
    Calls Tryz.prog 40 #[.pointer (some ⟨sh, 0, none⟩), .pointer (some ⟨a, 0, none⟩)] w fun r w' => CwR w0 sh seed lim bu M r w' := by
  have HC := Lib.hid h
  have HW := Lib.hid (And.intro h1 (And.intro h2 h3))
  clear h h1 h2 h3
  go_enter Tryz.func40, Tryz.ntmps40
  go_upto_region 3 with first
    | (go_at_call 73; refine (num_c N a s1 seed HW.out.1 _ _ HC.out.arg).mono ?_; rintro e_ w3 ⟨rfl, a3, k3⟩; have C3 := Lib.hid (HC.out.eat a3 k3); clear a3 k3)
    | (go_at_call 73; refine (num_c N a s2 lim HW.out.2.1 _ _ C3.out.arg).mono ?_; rintro e_ w4 ⟨rfl, a4, k4⟩; have C4 := Lib.hid (C3.out.eat a4 k4); clear a4 k4)
    | (go_at_call 73; refine (num_c N a s3 bu HW.out.2.2 _ _ C4.out.arg).mono ?_; rintro e_ w5 ⟨rfl, a5, k5⟩; have C5 := Lib.hid (C4.out.eat a5 k5); clear a5 k5)
    | (go_at_call 74; refine (end_c N a _ C5.out.arg).mono ?_; rintro e_ w6 ⟨rfl, rfl⟩)
  have HN := Lib.hid (enew_c seed lim 200000 bu w5)
  go_upto_region 4 with (go_at_call 37; refine HN.out.mono ?_; rintro e_ w7 ⟨e', s', wd', t', q', M', rfl, hA, hn, hb⟩; have HA := Lib.hid (And.intro hA (And.intro hn hb)); clear hA hn hb; obtain ⟨Me, hs1, hs2, hM⟩ := C5.out.here; have p7 := (hs1.on HA.out.2.2).cell 0; have f7 := (hs1.on HA.out.2.2).frz 0; have HS := Lib.hid (And.intro hs1 (And.intro hs2 hM)); clear hs1 hs2 hM)
  obtain ⟨W8, hW8⟩ : ∃ W8, W8 = w7.setCell ⟨sh, 0, none⟩ (.pointer (some ⟨e', 0, none⟩)) := ⟨_, rfl⟩
  have HW8 := Lib.hid hW8
  rw [← hW8]
  clear hW8 p7 f7
  go_wp2_with (go_at_call 75; refine (told1_c W8.heap.size .ok (W8.alloc (.cells #[.iface 121 (.int .i64 0)] 20)) (Blk.new' rfl) trivial (by decide)).mono ?_; rintro e_ w9 ⟨rfl, g9⟩; have G9 := Lib.hid (after (bel_alloc _ _) g9); clear g9)
  go_returns
  obtain ⟨hs1, hs2, hM⟩ := HS.out
  obtain ⟨hA, hn, hb⟩ := HA.out
  have hsM' : ¬ M' sh := fun h => by have := hn sh h; have := hs1.lt; omega
  have hk8 : Kept (fun b => b ≠ sh) w7 W8 := by rw [HW8.out]; exact (Kept.refl _ _).setCell (by simp) _
  have hB8 : Blk W8 sh 79 #[.pointer (some ⟨e', 0, none⟩)] := by rw [HW8.out]; exact (hs1.on hb).set_ 0 _
  have hE8 : EngA e' s' wd' t' q' occ0 (newSS (newT seed lim 200000) 0 bu) none W8 M' := (engA_fit e' s' wd' t' q' occ0 _ none).kept hA hk8 (fun b hb he => hsM' (he ▸ hb)) fun b cs hB he => absurd (one_type (he ▸ hB) (hs1.on hb)) (by decide)
  refine ⟨e', s', wd', t', q', rfl, Aft.on (shA_fit sh e' s' wd' t' q' occ0 _ none) ⟨fun b => b = sh ∨ M' b, ⟨M', hB8, hE8, fun _ => Iff.rfl⟩, fun b hb' => ?_, ?_⟩ G9.out⟩
  · rcases hb' with rfl | hb'
    · exact .inl ((hM _).2 (.inl rfl))
    · exact .inr (Nat.le_trans C5.out.bel.size (hn b hb'))
  · exact (Kept.of_below (after C5.out.bel hb)).trans (hk8.mono fun b hb' he => hb' ((hM b).2 (.inl he)))
set_option maxRecDepth 100000 in
set_option maxHeartbeats 8000000 in
theorem cload_c (w0 : World) (sh e s wd t q : Nat) (occ : Value) (S : SS) (L : Option Lf) (M : Nat → Prop) (N a : Nat) (s1 s2 : ByteArray) (px pz : Int) (h1 : NW s1 px) (h2 : NW s2 pz) (hx : -524288 ≤ px ∧ px < 524288) (hz : -524288 ≤ pz ∧ pz < 524288) (hn : S.T.l.length ≤ 1000) (hlim : (S.T.l.length : Int) < S.T.lim) (hf : S.T.find (px, pz) = -1) (hd : Bare S.T.d) (w : World) (bx : Nat) (hbx : Blk w bx 99 #[.func (.func 42) #[.pointer (some ⟨t, 0, none⟩)] #[]])
    (h : Cmd w0 sh e s wd t q occ S L M N a [s1, s2] w) :
    Calls Tryz.prog 76 #[.pointer (some ⟨a, 0, none⟩), .pointer (some ⟨bx, 0, none⟩)] w fun r w' => r = .returned (.string (strA [111, 107])) ∧ Aft (ShA sh e s wd t q occ { S with T := { S.T with l := S.T.l ++ [newI S.T.seed px pz] } } L) w0 M w' := by
  have HC := Lib.hid h
  have H1 := Lib.hid (apos_c N a s1 s2 px pz h1 h2 _ w h.arg)
  have hba : bx ≠ a := fun he => by
    obtain ⟨q, c, hB, -⟩ := h.arg
    rw [he] at hbx
    exact absurd (one_type hbx hB) (by decide)
  have HX := Lib.hid (And.intro hbx hba)
  have HL := Lib.hid fun w1 Mt (g : TbA t S.T w1 Mt) => tload_c t S.T px pz w1 Mt g hx hz hn hlim hf hd
  clear h h1 h2 hbx hba hx hz hn hlim hf hd
  go_enter Tryz.func76, Tryz.ntmps76
  go_upto_region 2 with (go_at_call 77; refine H1.out.mono ?_; rintro e_ w1 ⟨rfl, a1, k1⟩; have C1 := Lib.hid (HC.out.eat a1 k1); have X1 := Lib.hid (k1.blk HX.out.2 HX.out.1); clear a1 k1)
  obtain ⟨W2, hW2⟩ : ∃ W2, W2 = w1.alloc (.cells #[.int .i64 px, .int .i64 pz] 123) := ⟨_, rfl⟩
  have hb2 : Below w1.heap.size w1 W2 := by rw [hW2]; exact bel_alloc _ _
  obtain ⟨c0, c1, -, -⟩ := (Blk.fresh hW2).pair
  have x0 := (X1.out.on hb2).cell 0
  have C2 := Lib.hid (show Cmd w0 sh e s wd t q occ S L M N a [] W2 from ⟨C1.out.sh, C1.out.new, after C1.out.bel hb2, C1.out.arg.on hb2⟩)
  rw [← hW2]
  clear hW2 hb2
  obtain ⟨Me, hs1, hs2, hM⟩ := C2.out.here
  have HS := Lib.hid (And.intro hs1 (And.intro hs2 hM))
  have HLD : Calls Tryz.prog 42 #[.pointer (some ⟨t, 0, none⟩), .agg #[.int .i64 px, .int .i64 pz]] W2 fun r w' => r = .returned (.int .i64 0) ∧ Aft (EngA e s wd t q occ { S with T := { S.T with l := S.T.l ++ [newI S.T.seed px pz] } } L) W2 Me w' := by
    obtain ⟨Ms, he, hMe⟩ := hs2
    obtain ⟨v, ds, Mw, Mq, hs, hMs⟩ := he.sim
    obtain ⟨v', xs, Mt, g1, g2, g3, g4, hMw⟩ := hs.wd
    refine (HL.out W2 Mt g4).mono ?_
    rintro r w' ⟨rfl, k⟩
    refine ⟨rfl, ?_⟩
    have hwd : ¬ Mt wd := tb_no g4 g1 no_world
    have hrow : ∀ b, v'.ownBlock = some b → ¬ Mt b := fun b hb => by
      obtain ⟨-, cur, hc⟩ := own_at g2 hb
      exact tb_no g4 hc no_change
    obtain ⟨Mt', k1, k2, k3⟩ := k
    have kw : Aft (WdA wd t { S.T with l := S.T.l ++ [newI S.T.seed px pz] } S.k) W2 Mw w' := by
      refine ⟨fun b => b = wd ∨ v'.ownBlock = some b ∨ Mt' b, ⟨v', xs, Mt', k3.blk hwd g1, g2.keep k3 hrow, g3, k1, fun _ => Iff.rfl⟩, fun b hb => ?_, k3.mono fun b hb h => hb ((hMw b).2 (.inr (.inr h)))⟩
      rcases hb with rfl | hb | hb
      · exact .inl ((hMw _).2 (.inl rfl))
      · exact .inl ((hMw _).2 (.inr (.inl hb)))
      · exact (k2 b hb).imp_left fun h => (hMw b).2 (.inr (.inr h))
    exact (he.turn ((hs.world kw).under hMs)).under hMe
  have HLD' := Lib.hid HLD
  clear hs1 hs2 hM HLD
  go_wp2_with first
    | (go_at_call 74; refine (end_c N a _ C2.out.arg).mono ?_; rintro e_ w4 ⟨rfl, rfl⟩)
    | (go_at_call 42; refine HLD'.out.mono ?_; rintro e_ w6 ⟨rfl, k6⟩; have K6 := Lib.hid k6; clear k6)
    | (go_at_call 75; refine (told1_c w6.heap.size .ok (w6.alloc (.cells #[.iface 121 (.int .i64 0)] 20)) (Blk.new' rfl) trivial (by decide)).mono ?_; rintro e_ w7 ⟨rfl, g7⟩; have G7 := Lib.hid (after (bel_alloc _ _) g7); clear g7)
  go_returns
  exact ⟨rfl, Aft.ahead C2.out.bel (Aft.on (shA_fit sh e s wd t q occ _ L) (ShA.turn HS.out.1 HS.out.2.1 HS.out.2.2 K6.out) G7.out)⟩
end Go.Proofs.YtmbccnioijokfaaGreatDoor

namespace Go.Proofs.YtmbccnioijokfaaGreatDoor
open Go.RowKit Go.Maps
abbrev okS : ByteArray := strA [111, 107]
section
variable (sh e s wd t q : Nat) (occ : Value) (S : SS) (M : Nat → Prop) (w : World) (line : ByteArray)
theorem lload_c (L : Option Lf) (h : ShA sh e s wd t q occ S L w M) (s1 s2 : ByteArray) (px pz : Int) (hl : line.size ≤ 1000) (hw : wordsL line = [⟨#[108, 111, 97, 100]⟩, s1, s2]) (h1 : NW s1 px) (h2 : NW s2 pz) (hx : -524288 ≤ px ∧ px < 524288) (hz : -524288 ≤ pz ∧ pz < 524288) (hn : S.T.l.length ≤ 1000) (hlim : (S.T.l.length : Int) < S.T.lim) (hf : S.T.find (px, pz) = -1) (hd : Bare S.T.d) :
    Calls Tryz.prog 9 #[.pointer (some ⟨sh, 0, none⟩), .string line] w fun r w' => r = .returned (.string okS) ∧ Aft (ShA sh e s wd t q occ { S with T := { S.T with l := S.T.l ++ [newI S.T.seed px pz] } } L) w M w' := by
  refine (line_load sh e s wd t q occ S L M w h line _ _ (by omega) hw (by simp) 1 (fun _ _ _ _ _ => by kernel_rfl) (fun A out => A = ShA sh e s wd t q occ { S with T := { S.T with l := S.T.l ++ [newI S.T.seed px pz] } } L ∧ out = okS) (fun w1 N a bx w2 _ hbx hc => ?_)).mono ?_
  · refine (cload_c w1 sh e s wd t q occ S L M N a s1 s2 px pz h1 h2 hx hz hn hlim hf hd w2 bx hbx hc).mono ?_
    rintro r w' ⟨rfl, k⟩
    exact ⟨_, _, rfl, shA_fit sh e s wd t q occ _ L, ⟨rfl, rfl⟩, k⟩
  · rintro r w' ⟨A, out, rfl, -, ⟨rfl, rfl⟩, k⟩
    exact ⟨rfl, k⟩
theorem lworld_c (L : Option Lf) (h : ShA sh e s wd t q occ S L w M) (s1 s2 s3 : ByteArray) (seed lim bu : Int) (hl : line.size ≤ 1000) (hw : wordsL line = [⟨#[119, 111, 114, 108, 100]⟩, s1, s2, s3]) (h1 : NW s1 seed) (h2 : NW s2 lim) (h3 : NW s3 bu) :
    Calls Tryz.prog 9 #[.pointer (some ⟨sh, 0, none⟩), .string line] w fun r w' => CwR w sh seed lim bu M r w' := by
  refine (line_m sh e s wd t q occ S L M w h line _ _ (by omega) hw (by simp) 40 0 (fun _ _ _ _ _ => by kernel_rfl) (enters_of Tryz.func40 (by kernel_rfl) rfl) (fun A out => out = okS ∧ ∃ e s wd t q, A = ShA sh e s wd t q occ0 (newSS (newT seed lim 200000) 0 bu) none) (fun w1 N a w2 _ hc => ?_)).mono ?_
  · refine (cworld_c w1 sh e s wd t q occ S L M N a s1 s2 s3 seed lim bu h1 h2 h3 w2 hc).mono ?_
    rintro r w' ⟨e', s', wd', t', q', rfl, k⟩
    exact ⟨_, _, rfl, shA_fit sh e' s' wd' t' q' occ0 _ none, ⟨rfl, _, _, _, _, _, rfl⟩, k⟩
  · rintro r w' ⟨A, out, rfl, -, ⟨rfl, e', s', wd', t', q', rfl⟩, k⟩
    exact ⟨e', s', wd', t', q', rfl, k⟩
theorem ledit_c (L : Option Lf) (S' : SS) (h : ShA sh e s wd t q occ S L w M) (s1 s2 s3 : ByteArray) (x y z b : Int) (hl : line.size ≤ 1000) (hw : wordsL line = [⟨#[101, 100, 105, 116]⟩, s1, s2, s3, strA (blkN b)]) (h1 : NW s1 x) (h2 : NW s2 y) (h3 : NW s3 z) (hb : mayK b = true)
    (hE : ∀ W M1, EngA e s wd t q occ S L W M1 → Calls Tryz.prog 99 #[.pointer (some ⟨e, 0, none⟩), cellV (x, y, z), .int .i64 b] W fun r w' => r = .returned (.int .i64 0) ∧ Aft (EngA e s wd t q occ S' L) W M1 w') :
    Calls Tryz.prog 9 #[.pointer (some ⟨sh, 0, none⟩), .string line] w fun r w' => r = .returned (.string okS) ∧ Aft (ShA sh e s wd t q occ S' L) w M w' := by
  refine (line_m sh e s wd t q occ S L M w h line _ _ (by omega) hw (by simp) 55 14 (fun _ _ _ _ _ => by kernel_rfl) (enters_of Tryz.func55 (by kernel_rfl) rfl) (fun A out => A = ShA sh e s wd t q occ S' L ∧ out = okS) (fun w1 N a w2 _ hc => ?_)).mono ?_
  · refine (cedit_c w1 sh e s wd t q occ S S' L M N a s1 s2 s3 x y z b h1 h2 h3 hb w2 hc hE).mono ?_
    rintro r w' ⟨rfl, k⟩
    exact ⟨_, _, rfl, shA_fit sh e s wd t q occ _ L, ⟨rfl, rfl⟩, k⟩
  · rintro r w' ⟨A, out, rfl, -, ⟨rfl, rfl⟩, k⟩
    exact ⟨rfl, k⟩
theorem lspawn_c (h : ShA sh e s wd t q occ S none w M) (s1 s2 s3 s4 s5 : ByteArray) (x y z wi ht : Int) (b : BD) (hl : line.size ≤ 1000) (hw : wordsL line = [⟨#[115, 112, 97, 119, 110]⟩, s1, s2, s3, s4, s5]) (h1 : NW s1 x) (h2 : NW s2 y) (h3 : NW s3 z) (h4 : NW s4 wi) (h5 : NW s5 ht)
    (hS : ∀ W M1, EngA e s wd t q occ S none W M1 → Calls Tryz.prog 92 #[.pointer (some ⟨e, 0, none⟩), .agg #[.int .i64 x, .int .i64 y, .int .i64 z], .int .i64 wi, .int .i64 ht] W fun r w' => r = .returned (.tuple #[.int .i64 0, .int .i64 0]) ∧ (∃ a, Aft (EngA e s wd t q occ S (some ⟨a, b, 0, 0, false⟩)) W M1 w') ∧ Kept (fun b => b ≠ e) W w') :
    Calls Tryz.prog 9 #[.pointer (some ⟨sh, 0, none⟩), .string line] w fun r w' => r = .returned (.string (strA (Lib.itoa 0))) ∧ ∃ la, Aft (ShA sh e s wd t q occ S (some ⟨la, b, 0, 0, false⟩)) w M w' := by
  refine (line_m sh e s wd t q occ S none M w h line _ _ (by omega) hw (by simp) 51 10 (fun _ _ _ _ _ => by kernel_rfl) (enters_of Tryz.func51 (by kernel_rfl) rfl) (fun A out => (∃ la, A = ShA sh e s wd t q occ S (some ⟨la, b, 0, 0, false⟩)) ∧ out = strA (Lib.itoa 0)) (fun w1 N a w2 _ hc => ?_)).mono ?_
  · refine (cspawn_c w1 sh e s wd t q occ S M N a s1 s2 s3 s4 s5 x y z wi ht b h1 h2 h3 h4 h5 w2 hc hS).mono ?_
    rintro r w' ⟨rfl, la, k⟩
    exact ⟨_, _, rfl, shA_fit sh e s wd t q occ _ _, ⟨⟨la, rfl⟩, rfl⟩, k⟩
  · rintro r w' ⟨A, out, rfl, -, ⟨⟨la, rfl⟩, rfl⟩, k⟩
    exact ⟨rfl, la, k⟩
end
theorem ltick_c (sh e s wd t q : Nat) (M : Nat → Prop) (w : World) (line : ByteArray) (n : Nat) (hn : 1 ≤ n ∧ n ≤ 100) (occ : Nat → Value) (S : Nat → SS) (L : Nat → Option Lf) (sm out : Nat → Int) (hs0 : sm 0 = 0) (hsm : ∀ i, i < n → sm (i + 1) = sm i + out i) (hsb : ∀ i, i ≤ n → 0 ≤ sm i ∧ sm i < 100) (hnow : 0 ≤ (S n).now ∧ (S n).now < 100) (h : ShA sh e s wd t q (occ 0) (S 0) (L 0) w M) (s1 : ByteArray) (hl : line.size ≤ 1000) (hw : wordsL line = [⟨#[116, 105, 99, 107]⟩, s1]) (h1 : NW s1 n)
    (hK : ∀ i, i < n → ∀ W M1, EngA e s wd t q (occ i) (S i) (L i) W M1 → Calls Tryz.prog 105 #[.pointer (some ⟨e, 0, none⟩)] W fun r w' => r = .returned (.int .i64 (out i)) ∧ Aft (EngA e s wd t q (occ (i + 1)) (S (i + 1)) (L (i + 1))) W M1 w') :
    Calls Tryz.prog 9 #[.pointer (some ⟨sh, 0, none⟩), .string line] w fun r w' => r = .returned (.string (joinB [strA (Lib.itoa (sm n)), strA (Lib.itoa (S n).now)])) ∧ Aft (ShA sh e s wd t q (occ n) (S n) (L n)) w M w' := by
  refine (line_m sh e s wd t q (occ 0) (S 0) (L 0) M w h line _ _ (by omega) hw (by simp) 63 22 (fun _ _ _ _ _ => by kernel_rfl) (enters_of Tryz.func63 (by kernel_rfl) rfl) (fun A o => A = ShA sh e s wd t q (occ n) (S n) (L n) ∧ o = joinB [strA (Lib.itoa (sm n)), strA (Lib.itoa (S n).now)]) (fun w1 N a w2 _ hc => ?_)).mono ?_
  · refine (ctick_c w1 sh e s wd t q n hn occ S L sm out hs0 hsm hsb hnow M N a s1 h1 w2 hc hK).mono ?_
    rintro r w' ⟨rfl, k⟩
    exact ⟨_, _, rfl, shA_fit sh e s wd t q _ _ _, ⟨rfl, rfl⟩, k⟩
  · rintro r w' ⟨A, o, rfl, -, ⟨rfl, rfl⟩, k⟩
    exact ⟨rfl, k⟩
end Go.Proofs.YtmbccnioijokfaaGreatDoor

namespace Go.Proofs.YtmbccnioijokfaaGreatDoor
open Go.RowKit Go.Maps
attribute [local go_sem] Oper.semAt_some
abbrev jA (j : Bool) : ByteArray := if j then ⟨#[49]⟩ else ⟨#[48]⟩
set_option maxRecDepth 100000 in
set_option maxHeartbeats 8000000 in
theorem ctell_false (w0 : World) (sh e s wd t q : Nat) (occ : Value) (S : SS) (l : Lf) (M : Nat → Prop) (N a : Nat) (s1 s2 s3 : ByteArray) (x z : Int) (h1 : NW s1 0) (h2 : NW s2 x) (h3 : NW s3 z) (w : World)
    (h : Cmd w0 sh e s wd t q occ S (some l) M N a [s1, s2, s3, ⟨#[48]⟩] w) :
    Calls Tryz.prog 53 #[.pointer (some ⟨sh, 0, none⟩), .pointer (some ⟨a, 0, none⟩)] w fun r w' => r = .returned (.string (strA [111, 107])) ∧ Aft (ShA sh e s wd t q occ S (some (l.say x z false))) w0 M w' := by
  have HC := Lib.hid h
  have H1 := Lib.hid (And.intro h1 (And.intro h2 h3))
  clear h h1 h2 h3
  go_enter Tryz.func53, Tryz.ntmps53
  go_upto_region 2 with (go_at_call 73; refine (num_c N a s1 0 H1.out.1 _ _ HC.out.arg).mono ?_; rintro e_ w1 ⟨rfl, a1, k1⟩; have C1 := Lib.hid (HC.out.eat a1 k1); clear a1 k1)
  go_upto_region 3 with (go_at_call 73; refine (num_c N a s2 x H1.out.2.1 _ _ C1.out.arg).mono ?_; rintro e_ w2 ⟨rfl, a2, k2⟩; have C2 := Lib.hid (C1.out.eat a2 k2); clear a2 k2)
  obtain ⟨W2, hW2⟩ : ∃ W2, W2 = w2.alloc (.cells #[.int .i64 x, .int .i64 0, .bool false] 81) := ⟨_, rfl⟩
  have hb2 : Below w2.heap.size w2 W2 := by rw [hW2]; exact bel_alloc _ _
  have B2 := Lib.hid (Blk.fresh hW2)
  have C3 := Lib.hid (show Cmd w0 sh e s wd t q occ S (some l) M N a [s3, ⟨#[48]⟩] W2 from ⟨C2.out.sh, C2.out.new, after C2.out.bel hb2, C2.out.arg.on hb2⟩)
  rw [← hW2]
  have hg0 : w0.heap.size ≤ w2.heap.size := C2.out.bel.size
  have hga : w2.heap.size ≠ a := by have := C2.out.arg.le; omega
  have hgN : N ≤ w2.heap.size := by have := C2.out.arg.le; omega
  generalize w2.heap.size = g at *
  have HG := Lib.hid (And.intro hg0 (And.intro hga hgN))
  clear hW2 hb2 hg0 hga hgN
  go_upto_region 4 with (go_at_call 73; refine (num_c N a s3 z H1.out.2.2 _ _ C3.out.arg).mono ?_; rintro e_ w3 ⟨rfl, a3, k3⟩; have C4 := Lib.hid (C3.out.eat a3 k3); have hB3 := k3.blk HG.out.2.1 B2.out; have B3 := Lib.hid hB3; obtain ⟨r0, r1, r2, f0, f1, f2⟩ := hB3.c3; clear a3 k3 hB3)
  obtain ⟨W4, hW4⟩ : ∃ W4, W4 = w3.setCell ⟨g, 1, none⟩ (.int .i64 z) := ⟨_, rfl⟩
  have hB4 : Blk W4 g 81 #[.int .i64 x, .int .i64 z, .bool false] := by rw [hW4]; exact B3.out.set_ 1 _
  have B4 := Lib.hid hB4
  have hbN : Below N w3 W4 := by rw [hW4]; exact (Below.refl _ _).setCell (p := ⟨g, 1, none⟩) HG.out.2.2 _
  have hb0 : Below w0.heap.size w3 W4 := by rw [hW4]; exact (Below.refl _ _).setCell (p := ⟨g, 1, none⟩) HG.out.1 _
  have C5 := Lib.hid (show Cmd w0 sh e s wd t q occ S (some l) M N a [⟨#[48]⟩] W4 from ⟨C4.out.sh, C4.out.new, C4.out.bel.trans hb0, C4.out.arg.bel hbN⟩)
  rw [← hW4]
  clear hW4 hB4 hbN hb0 r0 r1 r2 f0 f1 f2
  go_upto_region 6 with first
    | (go_at_call 24; refine (word_c N a _ _ _ C5.out.arg).mono ?_; rintro e_ w5 ⟨rfl, a5, k5⟩; have C6 := Lib.hid (C5.out.eat a5 k5); have hB5 := k5.blk HG.out.2.1 B4.out; have B5 := Lib.hid hB5; obtain ⟨r0, r1, r2, f0, f1, f2⟩ := hB5.c3; clear a5 k5 hB5)
    | (go_at_call 25; refine (must_c _).mono ?_; rintro e_ w6 ⟨rfl, rfl⟩)
  go_upto_region 7 with (fail)
  obtain ⟨W6, hW6⟩ : ∃ W6, W6 = w5.setCell ⟨g, 2, none⟩ (.bool false) := ⟨_, rfl⟩
  have hB6 : Blk W6 g 81 #[.int .i64 x, .int .i64 z, .bool false] := by rw [hW6]; exact B5.out.set_ 2 _
  have B6 := Lib.hid hB6
  have hbN : Below N w5 W6 := by rw [hW6]; exact (Below.refl _ _).setCell (p := ⟨g, 2, none⟩) HG.out.2.2 _
  have hb0 : Below w0.heap.size w5 W6 := by rw [hW6]; exact (Below.refl _ _).setCell (p := ⟨g, 2, none⟩) HG.out.1 _
  have C7 := Lib.hid (show Cmd w0 sh e s wd t q occ S (some l) M N a [] W6 from ⟨C6.out.sh, C6.out.new, C6.out.bel.trans hb0, C6.out.arg.bel hbN⟩)
  rw [← hW6]
  clear hW6 hB6 hbN hb0 r0 r1 r2 f0 f1 f2
  go_upto_region 8 with (go_at_call 74; refine (end_c N a _ C7.out.arg).mono ?_; rintro e_ w7 ⟨rfl, rfl⟩)
  obtain ⟨Me, hs1, hs2, hM⟩ := C7.out.here
  have c0 := fun d os => (B6.out.re d os).cell 0
  have c1 := fun d os => (B6.out.re d os).cell 1
  have c2 := fun d os => (B6.out.re d os).cell 2
  have p0 := fun d os => (hs1.re d os).cell 0
  have HS := Lib.hid (And.intro hs1 (And.intro hs2 hM))
  clear hs1 hs2 hM
  refine wp_sched [0, 0, 0, 0, 0, 0, 3, 3, 3, 3, 3] (fun _ _ _ => True) (by kernel_rfl) (by kernel_rfl) (fun _ _ _ _ h _ => h) ?_
  repeat (first | (refine wpQs_s ?_) | (refine wpQs_q (fun K hK => ?_); go_simp; first | (refine hK _ ?_; clear hK K) | (apply Exists.intro; refine ⟨fun _ => ?_, hK _ ?_⟩; (fail); clear hK K)) | (refine wpQs_f (fun K hK => ?_); go_simp; refine hK _ ?_; clear hK K))
  refine wpQs_nil ?_
  repeat (first | (refine wpLs_skip ?_) | (refine wpLs_one ?lsA (fun v_ => ?_); case lsA => (intro w_ hw_ hp_; (fail))))
  refine wpLs_nilB ?_
  simp only [tails]
  intro W8 g8 _
  have G8 := Lib.hid g8
  have HE8 := Lib.hid (etell_c e s wd t q occ S l x z false W8 Me ((engA_fit e s wd t q occ S (some l)).on HS.out.2.1 g8))
  clear g8 c0 c1 c2 p0
  go_wp2_with first
    | (go_at_call 95; refine HE8.out.mono ?_; rintro e_ w6 ⟨rfl, k6⟩; have K6 := Lib.hid k6; clear k6)
    | (go_at_call 75; refine (told1_c w6.heap.size .ok (w6.alloc (.cells #[.iface 121 (.int .i64 0)] 20)) (Blk.new' rfl) trivial (by decide)).mono ?_; rintro e_ w7 ⟨rfl, g7⟩; have G7 := Lib.hid (after (bel_alloc _ _) g7); clear g7)
  go_returns
  refine ⟨rfl, Aft.ahead (after C7.out.bel G8.out) (Aft.on (shA_fit sh e s wd t q occ S _) (ShA.turn (HS.out.1.on G8.out) ((engA_fit e s wd t q occ S _).on HS.out.2.1 G8.out) HS.out.2.2 K6.out) G7.out)⟩
set_option maxRecDepth 100000 in
set_option maxHeartbeats 8000000 in
theorem ctell_true (w0 : World) (sh e s wd t q : Nat) (occ : Value) (S : SS) (l : Lf) (M : Nat → Prop) (N a : Nat) (s1 s2 s3 : ByteArray) (x z : Int) (h1 : NW s1 0) (h2 : NW s2 x) (h3 : NW s3 z) (w : World)
    (h : Cmd w0 sh e s wd t q occ S (some l) M N a [s1, s2, s3, ⟨#[49]⟩] w) :
    Calls Tryz.prog 53 #[.pointer (some ⟨sh, 0, none⟩), .pointer (some ⟨a, 0, none⟩)] w fun r w' => r = .returned (.string (strA [111, 107])) ∧ Aft (ShA sh e s wd t q occ S (some (l.say x z true))) w0 M w' := by
  have HC := Lib.hid h
  have H1 := Lib.hid (And.intro h1 (And.intro h2 h3))
  clear h h1 h2 h3
  go_enter Tryz.func53, Tryz.ntmps53
  go_upto_region 2 with (go_at_call 73; refine (num_c N a s1 0 H1.out.1 _ _ HC.out.arg).mono ?_; rintro e_ w1 ⟨rfl, a1, k1⟩; have C1 := Lib.hid (HC.out.eat a1 k1); clear a1 k1)
  go_upto_region 3 with (go_at_call 73; refine (num_c N a s2 x H1.out.2.1 _ _ C1.out.arg).mono ?_; rintro e_ w2 ⟨rfl, a2, k2⟩; have C2 := Lib.hid (C1.out.eat a2 k2); clear a2 k2)
  obtain ⟨W2, hW2⟩ : ∃ W2, W2 = w2.alloc (.cells #[.int .i64 x, .int .i64 0, .bool false] 81) := ⟨_, rfl⟩
  have hb2 : Below w2.heap.size w2 W2 := by rw [hW2]; exact bel_alloc _ _
  have B2 := Lib.hid (Blk.fresh hW2)
  have C3 := Lib.hid (show Cmd w0 sh e s wd t q occ S (some l) M N a [s3, ⟨#[49]⟩] W2 from ⟨C2.out.sh, C2.out.new, after C2.out.bel hb2, C2.out.arg.on hb2⟩)
  rw [← hW2]
  have hg0 : w0.heap.size ≤ w2.heap.size := C2.out.bel.size
  have hga : w2.heap.size ≠ a := by have := C2.out.arg.le; omega
  have hgN : N ≤ w2.heap.size := by have := C2.out.arg.le; omega
  generalize w2.heap.size = g at *
  have HG := Lib.hid (And.intro hg0 (And.intro hga hgN))
  clear hW2 hb2 hg0 hga hgN
  go_upto_region 4 with (go_at_call 73; refine (num_c N a s3 z H1.out.2.2 _ _ C3.out.arg).mono ?_; rintro e_ w3 ⟨rfl, a3, k3⟩; have C4 := Lib.hid (C3.out.eat a3 k3); have hB3 := k3.blk HG.out.2.1 B2.out; have B3 := Lib.hid hB3; obtain ⟨r0, r1, r2, f0, f1, f2⟩ := hB3.c3; clear a3 k3 hB3)
  obtain ⟨W4, hW4⟩ : ∃ W4, W4 = w3.setCell ⟨g, 1, none⟩ (.int .i64 z) := ⟨_, rfl⟩
  have hB4 : Blk W4 g 81 #[.int .i64 x, .int .i64 z, .bool false] := by rw [hW4]; exact B3.out.set_ 1 _
  have B4 := Lib.hid hB4
  have hbN : Below N w3 W4 := by rw [hW4]; exact (Below.refl _ _).setCell (p := ⟨g, 1, none⟩) HG.out.2.2 _
  have hb0 : Below w0.heap.size w3 W4 := by rw [hW4]; exact (Below.refl _ _).setCell (p := ⟨g, 1, none⟩) HG.out.1 _
  have C5 := Lib.hid (show Cmd w0 sh e s wd t q occ S (some l) M N a [⟨#[49]⟩] W4 from ⟨C4.out.sh, C4.out.new, C4.out.bel.trans hb0, C4.out.arg.bel hbN⟩)
  rw [← hW4]
  clear hW4 hB4 hbN hb0 r0 r1 r2 f0 f1 f2
  go_upto_region 6 with first
    | (go_at_call 24; refine (word_c N a _ _ _ C5.out.arg).mono ?_; rintro e_ w5 ⟨rfl, a5, k5⟩; have C6 := Lib.hid (C5.out.eat a5 k5); have hB5 := k5.blk HG.out.2.1 B4.out; have B5 := Lib.hid hB5; obtain ⟨r0, r1, r2, f0, f1, f2⟩ := hB5.c3; clear a5 k5 hB5)
    | (go_at_call 25; refine (must_c _).mono ?_; rintro e_ w6 ⟨rfl, rfl⟩)
  go_upto_region 7 with (fail)
  obtain ⟨W6, hW6⟩ : ∃ W6, W6 = w5.setCell ⟨g, 2, none⟩ (.bool true) := ⟨_, rfl⟩
  have hB6 : Blk W6 g 81 #[.int .i64 x, .int .i64 z, .bool true] := by rw [hW6]; exact B5.out.set_ 2 _
  have B6 := Lib.hid hB6
  have hbN : Below N w5 W6 := by rw [hW6]; exact (Below.refl _ _).setCell (p := ⟨g, 2, none⟩) HG.out.2.2 _
  have hb0 : Below w0.heap.size w5 W6 := by rw [hW6]; exact (Below.refl _ _).setCell (p := ⟨g, 2, none⟩) HG.out.1 _
  have C7 := Lib.hid (show Cmd w0 sh e s wd t q occ S (some l) M N a [] W6 from ⟨C6.out.sh, C6.out.new, C6.out.bel.trans hb0, C6.out.arg.bel hbN⟩)
  rw [← hW6]
  clear hW6 hB6 hbN hb0 r0 r1 r2 f0 f1 f2
  go_upto_region 8 with (go_at_call 74; refine (end_c N a _ C7.out.arg).mono ?_; rintro e_ w7 ⟨rfl, rfl⟩)
  obtain ⟨Me, hs1, hs2, hM⟩ := C7.out.here
  have c0 := fun d os => (B6.out.re d os).cell 0
  have c1 := fun d os => (B6.out.re d os).cell 1
  have c2 := fun d os => (B6.out.re d os).cell 2
  have p0 := fun d os => (hs1.re d os).cell 0
  have HS := Lib.hid (And.intro hs1 (And.intro hs2 hM))
  clear hs1 hs2 hM
  refine wp_sched [0, 0, 0, 0, 0, 0, 3, 3, 3, 3, 3] (fun _ _ _ => True) (by kernel_rfl) (by kernel_rfl) (fun _ _ _ _ h _ => h) ?_
  repeat (first | (refine wpQs_s ?_) | (refine wpQs_q (fun K hK => ?_); go_simp; first | (refine hK _ ?_; clear hK K) | (apply Exists.intro; refine ⟨fun _ => ?_, hK _ ?_⟩; (fail); clear hK K)) | (refine wpQs_f (fun K hK => ?_); go_simp; refine hK _ ?_; clear hK K))
  refine wpQs_nil ?_
  repeat (first | (refine wpLs_skip ?_) | (refine wpLs_one ?lsA (fun v_ => ?_); case lsA => (intro w_ hw_ hp_; (fail))))
  refine wpLs_nilB ?_
  simp only [tails]
  intro W8 g8 _
  have G8 := Lib.hid g8
  have HE8 := Lib.hid (etell_c e s wd t q occ S l x z true W8 Me ((engA_fit e s wd t q occ S (some l)).on HS.out.2.1 g8))
  clear g8 c0 c1 c2 p0
  go_wp2_with first
    | (go_at_call 95; refine HE8.out.mono ?_; rintro e_ w6 ⟨rfl, k6⟩; have K6 := Lib.hid k6; clear k6)
    | (go_at_call 75; refine (told1_c w6.heap.size .ok (w6.alloc (.cells #[.iface 121 (.int .i64 0)] 20)) (Blk.new' rfl) trivial (by decide)).mono ?_; rintro e_ w7 ⟨rfl, g7⟩; have G7 := Lib.hid (after (bel_alloc _ _) g7); clear g7)
  go_returns
  refine ⟨rfl, Aft.ahead (after C7.out.bel G8.out) (Aft.on (shA_fit sh e s wd t q occ S _) (ShA.turn (HS.out.1.on G8.out) ((engA_fit e s wd t q occ S _).on HS.out.2.1 G8.out) HS.out.2.2 K6.out) G7.out)⟩
theorem ctell_c (w0 : World) (sh e s wd t q : Nat) (occ : Value) (S : SS) (l : Lf) (M : Nat → Prop) (N a : Nat) (s1 s2 s3 : ByteArray) (x z : Int) (j : Bool) (h1 : NW s1 0) (h2 : NW s2 x) (h3 : NW s3 z) (w : World)
    (h : Cmd w0 sh e s wd t q occ S (some l) M N a [s1, s2, s3, jA j] w) :
    Calls Tryz.prog 53 #[.pointer (some ⟨sh, 0, none⟩), .pointer (some ⟨a, 0, none⟩)] w fun r w' => r = .returned (.string (strA [111, 107])) ∧ Aft (ShA sh e s wd t q occ S (some (l.say x z j))) w0 M w' := by
  cases j
  · exact ctell_false w0 sh e s wd t q occ S l M N a s1 s2 s3 x z h1 h2 h3 w h
  · exact ctell_true w0 sh e s wd t q occ S l M N a s1 s2 s3 x z h1 h2 h3 w h
theorem ltell_c (sh e s wd t q : Nat) (occ : Value) (S : SS) (M : Nat → Prop) (w : World) (line : ByteArray) (l : Lf) (h : ShA sh e s wd t q occ S (some l) w M) (s1 s2 s3 : ByteArray) (x z : Int) (j : Bool) (hl : line.size ≤ 1000) (hw : wordsL line = [⟨#[116, 101, 108, 108]⟩, s1, s2, s3, jA j]) (h1 : NW s1 0) (h2 : NW s2 x) (h3 : NW s3 z) :
    Calls Tryz.prog 9 #[.pointer (some ⟨sh, 0, none⟩), .string line] w fun r w' => r = .returned (.string okS) ∧ Aft (ShA sh e s wd t q occ S (some (l.say x z j))) w M w' := by
  refine (line_m sh e s wd t q occ S (some l) M w h line _ _ (by omega) hw (by simp) 53 12 (fun _ _ _ _ _ => by kernel_rfl) (enters_of Tryz.func53 (by kernel_rfl) rfl) (fun A out => A = ShA sh e s wd t q occ S (some (l.say x z j)) ∧ out = okS) (fun w1 N a w2 _ hc => ?_)).mono ?_
  · refine (ctell_c w1 sh e s wd t q occ S l M N a s1 s2 s3 x z j h1 h2 h3 w2 hc).mono ?_
    rintro r w' ⟨rfl, k⟩
    exact ⟨_, _, rfl, shA_fit sh e s wd t q occ _ _, ⟨rfl, rfl⟩, k⟩
  · rintro r w' ⟨A, out, rfl, -, ⟨rfl, rfl⟩, k⟩
    exact ⟨rfl, k⟩
end Go.Proofs.YtmbccnioijokfaaGreatDoor

namespace Go.Proofs.YtmbccnioijokfaaGreatDoor
open Go.RowKit
attribute [local go_sem] Oper.semAt_some
theorem decS_eq (n : Nat) (h : ¬ n < 10) : strA (Lib.decDigits n) = strA (Lib.decDigits (n / 10)) ++ strA [UInt8.ofNat (48 + n % 10)] := by
  have e : Lib.decDigits n = Lib.decDigits (n / 10) ++ [UInt8.ofNat (48 + n % 10)] := by
    conv => lhs; rw [Lib.decDigits, dif_neg h]
  rw [e]
  generalize Lib.decDigits (n / 10) = a
  apply ByteArray.ext
  simp
theorem conv_dig (d : Nat) (hd : d < 10) (w : World) : (convert 51 9 (.slice (some ⟨w.heap.size, 0, none⟩) 1 1)).run Tryz.prog (w.alloc (.cells #[.int .u8 (48 + (d : Int))] 5)) = .ok (.string (strA [UInt8.ofNat (48 + d)])) (w.alloc (.cells #[.int .u8 (48 + (d : Int))] 5)) :=
  run_convert_bytes_back (P := Tryz.prog) (w.alloc (.cells #[.int .u8 (48 + (d : Int))] 5)) 51 9 5 ⟨w.heap.size, 0, none⟩ 1 [UInt8.ofNat (48 + d)] Tryz.underlying51 Tryz.underlying5 Tryz.underlying9 fun j hj => by
    obtain rfl : j = 0 := by simpa using hj
    have hB : Blk (w.alloc (.cells #[.int .u8 (48 + (d : Int))] 5)) w.heap.size 5 #[.int .u8 (48 + (d : Int))] := Blk.new' rfl
    have e : (([UInt8.ofNat (48 + d)][0]'hj).toNat : Int) = 48 + (d : Int) := by
      simp only [List.getElem_cons_zero]
      rw [UInt8.toNat_ofNat_of_lt' (by unfold UInt8.size; omega)]
      omega
    rw [e]
    exact hB.cell 0
theorem cat_run (x y : ByteArray) (h : x.size + y.size ≤ 1000000) (w : World) : (binOp .add 9 (.string x) (.string y)).run Tryz.prog w = .ok (.string (x ++ y)) w := by
  simp [binOp, Op.stringOp]
  omega
theorem dec_sz (n : Nat) (h : n < 100000000) : (strA (Lib.decDigits n)).size ≤ 21 := by
  have h1 := Lib.itoa_length_le (n : Int) (by omega) (by omega)
  rw [show Lib.itoa (n : Int) = Lib.decDigits n by unfold Lib.itoa; rw [if_neg (by omega)]; rfl] at h1
  simpa [ByteArray.size] using h1
set_option maxRecDepth 100000 in
set_option maxHeartbeats 4000000 in
theorem dec_c : ∀ (k n : Nat), n < k → n < 100000000 → ∀ w : World, Calls Tryz.prog 10 #[.int .i64 n] w fun r w' => r = .returned (.string (strA (Lib.decDigits n))) ∧ Below w.heap.size w w' := by
  intro k
  induction k with
  | zero => intro n hn _ w; omega
  | succ k ih =>
    intro n hn hm w
    have hd : n % 10 < 10 := Nat.mod_lt _ (by decide)
    have hcv := conv_dig (n % 10) hd w
    have hcast : ((n % 10 : Nat) : Int) = (n : Int) % 10 := by omega
    rw [hcast] at hcv
    have n1 : ¬ (n : Int) % 10 < 0 := by omega
    have n2 : -10 < (n : Int) := by omega
    by_cases h : n < 10
    · have n3 : (n : Int) < 10 := by omega
      have n4 : ¬ (n : Int) < 0 := by omega
      have hnn : n % 10 = n := by omega
      obtain ⟨bd, hbd⟩ : ∃ bd, bd = UInt8.ofNat (48 + n % 10) := ⟨_, rfl⟩
      rw [← hbd] at hcv
      have HD := Lib.hid (show Lib.decDigits n = [bd] by rw [hbd, hnn]; exact Lib.decDigits_one h)
      clear ih hcast hd hnn h hbd hn hm
      go_enter Tryz.func10, Tryz.ntmps10
      go_wp2_with fail
      go_returns
      exact ⟨by rw [HD.out]; rfl, bel_alloc _ _⟩
    · have n3 : ¬ (n : Int) < 10 := by omega
      have hi := fun W => ih (n / 10) (by omega) (by omega) W
      obtain ⟨bd, hbd⟩ : ∃ bd, bd = UInt8.ofNat (48 + n % 10) := ⟨_, rfl⟩
      have hde := decS_eq n h
      rw [← hbd] at hcv hde
      have hsz := dec_sz (n / 10) (by omega)
      generalize strA (Lib.decDigits (n / 10)) = t0 at hi hde hsz
      have hcat := cat_run t0 (strA [bd]) (by have : (strA [bd]).size = 1 := rfl; omega)
      have hs1 : (t0.size : Int) + ((strA [bd]).size : Int) ≤ 9223372036854775807 := by have : (strA [bd]).size = 1 := rfl; omega
      have hs2 : (t0.size : Int) + 1 ≤ 9223372036854775807 := by omega
      clear hsz
      have hq : ((n / 10 : Nat) : Int) = (n : Int) / 10 := by omega
      have hwq : wrap64 ((n : Int) / 10) = (n : Int) / 10 := by unfold wrap64; omega
      rw [hq] at hi
      have HI := Lib.hid hi
      generalize strA (Lib.decDigits n) = t1 at hde ⊢
      subst hde
      clear hi
      clear ih hcast hd h hq hbd hn hm
      go_enter Tryz.func10, Tryz.ntmps10
      go_wp2_with (go_at_call 10; refine (HI.out _).mono ?_; rintro e_ w1 ⟨rfl, g1⟩; have G1 := Lib.hid g1; clear g1)
      go_returns
      exact ⟨rfl, after (bel_alloc _ _) G1.out⟩
end Go.Proofs.YtmbccnioijokfaaGreatDoor

namespace Go.Proofs.YtmbccnioijokfaaGreatDoor
open Go.RowKit Go.Lib
def dec3 (n : Nat) : List UInt8 := if n < 10 then [UInt8.ofNat (48 + n)] else if n < 100 then [UInt8.ofNat (48 + n / 10), UInt8.ofNat (48 + n % 10)] else [UInt8.ofNat (48 + n / 100), UInt8.ofNat (48 + n / 10 % 10), UInt8.ofNat (48 + n % 10)]
theorem dec3_eq (n : Nat) (h : n < 1000) : Lib.decDigits n = dec3 n := by
  unfold dec3
  by_cases h1 : n < 10
  · rw [if_pos h1]; exact Lib.decDigits_one h1
  · rw [if_neg h1]
    by_cases h2 : n < 100
    · rw [if_pos h2]; exact Lib.decDigits_two h1 h2
    · rw [if_neg h2]
      have e : Lib.decDigits n = Lib.decDigits (n / 10) ++ [UInt8.ofNat (48 + n % 10)] := by
        conv => lhs; rw [Lib.decDigits, dif_neg h1]
      rw [e, Lib.decDigits_two (i := n / 10) (by omega) (by omega)]
      have : n / 10 / 10 = n / 100 := by omega
      rw [this]
      rfl
theorem map_bytes : ∀ {l m : List ByteArray}, l.map (·.data.toList) = m.map (·.data.toList) → l = m
  | [], [], _ => rfl
  | [], _ :: _, h => by cases h
  | _ :: _, [], h => by cases h
  | a :: l, b :: m, h => by
    injection h with h1 h2
    have e : a = b := by
      apply ByteArray.ext
      exact Array.toList_inj.1 h1
    rw [e, map_bytes h2]
def wordsOk (s : ByteArray) (ws : List ByteArray) : Bool := decide ((wordsL s).map (·.data.toList) = ws.map (·.data.toList))
theorem words_ok {s : ByteArray} {ws : List ByteArray} (h : wordsOk s ws = true) : wordsL s = ws := map_bytes (of_decide_eq_true h)
def numOk (l : List UInt8) (n : Int) : Bool := !(Lib.hasPrefix l [45]) && (decide (DigOk l) && decide (digN l = n))
theorem num_ok {l : List UInt8} {n : Int} (h : numOk l n = true) : NW (strA l) n := by
  unfold numOk at h
  simp only [Bool.and_eq_true, Bool.not_eq_true', decide_eq_true_eq] at h
  have e : (strA l).data.toList = l := by simp
  refine ⟨false, l, ⟨?_, ?_, h.2.1⟩, by unfold numV; exact h.2.2⟩
  · rw [e]; exact h.1
  · rw [e]; unfold Lib.trimPrefix; rw [h.1]; rfl
theorem all_range {n : Nat} {p : Nat → Bool} (h : (List.range n).all p = true) {k : Nat} (hk : k < n) : p k = true := List.all_eq_true.1 h k (List.mem_range.2 hk)
abbrev worldA : ByteArray := ⟨#[119, 111, 114, 108, 100, 32]⟩
abbrev worldB : ByteArray := ⟨#[32, 57, 32, 56]⟩
theorem world_all : (List.range 1000).all (fun n => wordsOk ((worldA ++ strA (dec3 n)) ++ worldB) [⟨#[119, 111, 114, 108, 100]⟩, strA (dec3 n), ⟨#[57]⟩, ⟨#[56]⟩] && numOk (dec3 n) n) = true := by kernel_rfl
theorem world_words {n : Nat} (h : n < 1000) : wordsL ((worldA ++ strA (Lib.decDigits n)) ++ worldB) = [⟨#[119, 111, 114, 108, 100]⟩, strA (Lib.decDigits n), ⟨#[57]⟩, ⟨#[56]⟩] ∧ NW (strA (Lib.decDigits n)) n := by
  have h1 := all_range world_all h
  rw [dec3_eq n h]
  simp only [Bool.and_eq_true] at h1
  exact ⟨words_ok h1.1, num_ok h1.2⟩
end Go.Proofs.YtmbccnioijokfaaGreatDoor

namespace Go.Proofs.YtmbccnioijokfaaGreatDoor
open Go.RowKit Go.Lib
def WordOk (w : List UInt8) : Prop := w ≠ [] ∧ ∀ c ∈ w, c.toNat ≠ 32 ∧ c.toNat < 128
def joinL : List (List UInt8) → List UInt8
  | [] => []
  | [w] => w
  | w :: ws => w ++ 32 :: joinL ws
theorem strA_at {A B : List UInt8} {c : UInt8} (h : A.length < (strA (A ++ c :: B)).size) : (strA (A ++ c :: B))[A.length]'h = c := by
  show (A ++ c :: B).toArray[A.length]'_ = c
  simp
theorem strA_sz (l : List UInt8) : (strA l).size = l.length := by simp [ByteArray.size]
theorem sp_step {A B : List UInt8} {c : UInt8} (hc : c.toNat ≠ 32 ∧ c.toNat < 128) (f : Nat) (st : Option Nat) (acc : List (Nat × Nat)) :
    spansFromP isSp (strA (A ++ c :: B)) (f + 1) A.length st acc = spansFromP isSp (strA (A ++ c :: B)) f (A.length + 1) (some (st.getD A.length)) acc := by
  have hlt : A.length < (strA (A ++ c :: B)).size := by rw [strA_sz]; simp
  have hd := decode_ascii (strA (A ++ c :: B)) A.length hlt (by rw [strA_at]; exact hc.2)
  rw [strA_at] at hd
  have hn : isSp c.toNat = false := by unfold isSp; simp [hc.1]
  conv => lhs; unfold spansFromP
  rw [if_pos hlt, hd]
  dsimp only
  rw [hn]
  cases st <;> rfl
theorem sp_blank {A B : List UInt8} (f a : Nat) (acc : List (Nat × Nat)) :
    spansFromP isSp (strA (A ++ 32 :: B)) (f + 1) A.length (some a) acc = spansFromP isSp (strA (A ++ 32 :: B)) f (A.length + 1) none (acc ++ [(a, A.length)]) := by
  have hlt : A.length < (strA (A ++ 32 :: B)).size := by rw [strA_sz]; simp
  have hd := decode_ascii (strA (A ++ 32 :: B)) A.length hlt (by rw [strA_at]; decide)
  rw [strA_at] at hd
  conv => lhs; unfold spansFromP
  rw [if_pos hlt, hd]
  rfl
theorem sp_run : ∀ (W A B : List UInt8) (f a : Nat) (acc : List (Nat × Nat)), (∀ c ∈ W, c.toNat ≠ 32 ∧ c.toNat < 128) →
    spansFromP isSp (strA (A ++ (W ++ B))) (W.length + f) A.length (some a) acc = spansFromP isSp (strA (A ++ (W ++ B))) f (A.length + W.length) (some a) acc
  | [], A, B, f, a, acc, _ => by simp
  | c :: W, A, B, f, a, acc, h => by
    have h1 := sp_step (A := A) (B := W ++ B) (h c (.head _)) (W.length + f) (some a) acc
    have h2 := sp_run W (A ++ [c]) B f a acc fun x hx => h x (.tail _ hx)
    rw [List.append_assoc, List.length_append] at h2
    rw [show (c :: W).length + f = (W.length + f) + 1 by simp; omega, List.cons_append, h1]
    show spansFromP isSp (strA (A ++ c :: (W ++ B))) (W.length + f) (A.length + 1) (some a) acc = _
    refine Eq.trans h2 ?_
    show spansFromP isSp (strA (A ++ c :: (W ++ B))) f (A.length + 1 + W.length) (some a) acc = _
    rw [show A.length + 1 + W.length = A.length + (c :: W).length by simp; omega]
theorem sp_word {W A B : List UInt8} (f : Nat) (acc : List (Nat × Nat)) (h : WordOk W) :
    spansFromP isSp (strA (A ++ (W ++ B))) (W.length + f) A.length none acc = spansFromP isSp (strA (A ++ (W ++ B))) f (A.length + W.length) (some A.length) acc := by
  obtain ⟨hne, h⟩ := h
  cases W with
  | nil => exact absurd rfl hne
  | cons c W =>
    have h1 := sp_step (A := A) (B := W ++ B) (h c (.head _)) (W.length + f) none acc
    have h2 := sp_run W (A ++ [c]) B f A.length acc fun x hx => h x (.tail _ hx)
    rw [List.append_assoc, List.length_append] at h2
    rw [show (c :: W).length + f = (W.length + f) + 1 by simp; omega, List.cons_append, h1]
    show spansFromP isSp (strA (A ++ c :: (W ++ B))) (W.length + f) (A.length + 1) (some A.length) acc = _
    refine Eq.trans h2 ?_
    show spansFromP isSp (strA (A ++ c :: (W ++ B))) f (A.length + 1 + W.length) (some A.length) acc = _
    rw [show A.length + 1 + W.length = A.length + (c :: W).length by simp; omega]
theorem ext_word (A W B : List UInt8) : (strA (A ++ (W ++ B))).extract A.length (A.length + W.length) = strA W := by
  apply ByteArray.ext
  simp
theorem words_at : ∀ (ws : List (List UInt8)) (A : List UInt8) (acc : List (Nat × Nat)), ws ≠ [] → (∀ w ∈ ws, WordOk w) →
    (closeSpans (strA (A ++ joinL ws)) (spansFromP isSp (strA (A ++ joinL ws)) (joinL ws).length A.length none acc)).map (fun x => (strA (A ++ joinL ws)).extract x.1 x.2) = acc.map (fun x => (strA (A ++ joinL ws)).extract x.1 x.2) ++ ws.map strA
  | [], _, _, hne, _ => absurd rfl hne
  | [w], A, acc, _, h => by
    have h1 := sp_word (W := w) (A := A) (B := []) 0 acc (h w (.head _))
    have h2 := ext_word A w []
    rw [List.append_nil] at h1 h2
    rw [Nat.add_zero] at h1
    show (closeSpans (strA (A ++ w)) (spansFromP isSp (strA (A ++ w)) w.length A.length none acc)).map _ = _
    rw [h1]
    show (closeSpans (strA (A ++ w)) (acc, some A.length)).map _ = _
    unfold closeSpans
    dsimp only
    rw [List.map_append]
    have h3 : (strA (A ++ w)).size = A.length + w.length := by rw [strA_sz, List.length_append]
    simp only [List.map_cons, List.map_nil, h3]
    have h4 : (strA (A ++ joinL [w])).extract A.length (A.length + w.length) = strA w := h2
    rw [h4]
  | w :: v :: ws, A, acc, _, h => by
    have hj : joinL (w :: v :: ws) = w ++ 32 :: joinL (v :: ws) := rfl
    rw [hj]
    have h1 := sp_word (W := w) (A := A) (B := 32 :: joinL (v :: ws)) ((joinL (v :: ws)).length + 1) acc (h w (.head _))
    have h2 := ext_word A w (32 :: joinL (v :: ws))
    have h3 := sp_blank (A := A ++ w) (B := joinL (v :: ws)) (joinL (v :: ws)).length A.length acc
    have h4 := words_at (v :: ws) (A ++ (w ++ [32])) (acc ++ [(A.length, A.length + w.length)]) (by simp) fun x hx => h x (.tail _ hx)
    rw [List.append_assoc, List.length_append] at h3
    rw [List.append_assoc, List.append_assoc, List.length_append, List.length_append] at h4
    rw [show (w ++ 32 :: joinL (v :: ws)).length = w.length + ((joinL (v :: ws)).length + 1) by simp, h1, h3]
    refine Eq.trans h4 ?_
    rw [List.map_append]
    simp only [List.map_cons, List.map_nil]
    have h5 : (strA (A ++ (w ++ ([32] ++ joinL (v :: ws))))).extract A.length (A.length + w.length) = strA w := h2
    rw [h5]
    simp
theorem words_join {ws : List (List UInt8)} (hne : ws ≠ []) (h : ∀ w ∈ ws, WordOk w) : wordsL (strA (joinL ws)) = ws.map strA := by
  have := words_at ws [] [] hne h
  simp only [List.nil_append, List.length_nil, List.map_nil] at this
  rw [← this]
  show goFieldsP isSp (strA (joinL ws)) = _
  unfold goFieldsP spansOfP
  rw [strA_sz]
theorem dec_all : ∀ (k n : Nat), n < k → (∀ c ∈ decDigits n, 48 ≤ c.toNat ∧ c.toNat ≤ 57) ∧ digN (decDigits n) = n ∧ decDigits n ≠ [] := by
  intro k
  induction k with
  | zero => intro n h; omega
  | succ k ih =>
    intro n h
    have hd : ∀ m : Nat, m < 10 → (UInt8.ofNat (48 + m)).toNat = 48 + m := fun m hm => UInt8.toNat_ofNat_of_lt' (by unfold UInt8.size; omega)
    by_cases h1 : n < 10
    · rw [decDigits_one h1]
      refine ⟨fun c hc => ?_, ?_, by simp⟩
      · obtain rfl := List.mem_singleton.1 hc
        rw [hd n h1]; omega
      · show (0 : Int) * 10 + (((UInt8.ofNat (48 + n)).toNat : Int) - 48) = n
        rw [hd n h1]; omega
    · obtain ⟨i1, i2, i3⟩ := ih (n / 10) (by omega)
      have e : decDigits n = decDigits (n / 10) ++ [UInt8.ofNat (48 + n % 10)] := by
        conv => lhs; rw [decDigits, dif_neg h1]
      have hm : n % 10 < 10 := Nat.mod_lt _ (by decide)
      rw [e]
      refine ⟨fun c hc => ?_, ?_, by simp⟩
      · rcases List.mem_append.1 hc with hc | hc
        · exact i1 c hc
        · obtain rfl := List.mem_singleton.1 hc
          rw [hd _ hm]; omega
      · rw [digN_snoc, i2, hd _ hm]; omega
theorem dec_len : ∀ (k n : Nat), n < 10 ^ (k + 1) → (decDigits n).length ≤ k + 1
  | 0, n, h => by rw [decDigits_one (by simpa using h)]; simp
  | k + 1, n, h => by
    by_cases h1 : n < 10
    · rw [decDigits_one h1]; simp
    · have e : decDigits n = decDigits (n / 10) ++ [UInt8.ofNat (48 + n % 10)] := by
        conv => lhs; rw [decDigits, dif_neg h1]
      have := dec_len k (n / 10) (by rw [Nat.pow_succ] at h; omega)
      rw [e, List.length_append]
      simp
      omega
theorem dec_ok {n : Nat} (h : n < 100000000) : DigOk (decDigits n) := by
  obtain ⟨h1, -, h3⟩ := dec_all (n + 1) n (Nat.lt_succ_self n)
  have := dec_len 7 n (by simpa using h)
  refine ⟨?_, by omega, h1⟩
  cases hd : decDigits n with
  | nil => exact absurd hd h3
  | cons _ _ => simp
theorem itoa_nn {n : Nat} : itoa (n : Int) = decDigits n := by unfold itoa; rw [if_neg (by omega)]; rfl
theorem itoa_neg {n : Nat} (h : 0 < n) : itoa (-(n : Int)) = 45 :: decDigits n := by
  unfold itoa
  rw [if_pos (by omega)]
  congr 2
  omega
theorem nw_itoa {n : Int} (h1 : -100000000 < n) (h2 : n < 100000000) : NW (strA (itoa n)) n ∧ WordOk (itoa n) ∧ (itoa n).length ≤ 9 := by
  rcases (show 0 ≤ n ∨ n < 0 by omega) with h | h
  · obtain ⟨m, rfl⟩ := Int.eq_ofNat_of_zero_le h
    have hk := dec_ok (n := m) (by omega)
    obtain ⟨a1, a2, a3⟩ := dec_all (m + 1) m (Nat.lt_succ_self m)
    have hl := dec_len 7 m (by simp; omega)
    rw [itoa_nn]
    have hp : hasPrefix (decDigits m) [45] = false := by
      cases hd : decDigits m with
      | nil => exact absurd hd a3
      | cons c l =>
        have hc := a1 c (by rw [hd]; exact .head _)
        have : c ≠ 45 := fun e => by rw [e] at hc; revert hc; decide
        unfold hasPrefix
        show ((45 : UInt8) == c && List.isPrefixOf [] l) = false
        rw [beq_eq_false_iff_ne.2 (Ne.symm this)]
        rfl
    refine ⟨⟨false, decDigits m, ⟨?_, ?_, hk⟩, by unfold numV; rw [a2]; rfl⟩, ⟨a3, fun c hc => by have := a1 c hc; omega⟩, by omega⟩
    · simpa using hp
    · simp [trimPrefix, hp]
  · obtain ⟨m, hm⟩ := Int.eq_ofNat_of_zero_le (show 0 ≤ -n by omega)
    obtain rfl : n = -(m : Int) := by omega
    have hk := dec_ok (n := m) (by omega)
    obtain ⟨a1, a2, a3⟩ := dec_all (m + 1) m (Nat.lt_succ_self m)
    have hl := dec_len 7 m (by simp; omega)
    rw [itoa_neg (by omega)]
    have hp : hasPrefix (45 :: decDigits m) [45] = true := by simp [hasPrefix]
    refine ⟨⟨true, decDigits m, ⟨?_, ?_, hk⟩, by unfold numV; rw [a2]; rfl⟩, ⟨by simp, fun c hc => ?_⟩, by simp; omega⟩
    · simpa using hp
    · simp [trimPrefix, hp]
    · rcases List.mem_cons.1 hc with rfl | hc
      · decide
      · have := a1 c hc; omega
end Go.Proofs.YtmbccnioijokfaaGreatDoor

namespace Go.Proofs.YtmbccnioijokfaaGreatDoor
open Go.RowKit
attribute [local go_sem] Oper.semAt_some
theorem neg_sz (n : Nat) (h : n < 100000000) : (strA (45 :: Lib.decDigits n)).size ≤ 9 := by
  have := dec_len 7 n (by simpa using h)
  rw [strA_sz]
  simp
  omega
set_option maxRecDepth 100000 in
set_option maxHeartbeats 4000000 in
theorem decn_c : ∀ (k n : Nat), n < k → 0 < n → n < 100000000 → ∀ w : World, Calls Tryz.prog 10 #[.int .i64 (-(n : Int))] w fun r w' => r = .returned (.string (strA (45 :: Lib.decDigits n))) ∧ Below w.heap.size w w' := by
  intro k
  induction k with
  | zero => intro n hn _ _ w; omega
  | succ k ih =>
    intro n hn h0 hm w
    have hd : n % 10 < 10 := Nat.mod_lt _ (by decide)
    have hcv := conv_dig (n % 10) hd w
    have ht : Int.tmod (-(n : Int)) 10 = -((n % 10 : Nat) : Int) := by rw [Int.neg_tmod, Int.tmod_eq_emod_of_nonneg (by omega)]; omega
    have ht2 : Int.tmod (n : Int) 10 = ((n % 10 : Nat) : Int) := by rw [Int.tmod_eq_emod_of_nonneg (by omega)]; omega
    have hq : Int.tdiv (-(n : Int)) 10 = -((n / 10 : Nat) : Int) := by rw [Int.neg_tdiv, Int.tdiv_eq_ediv_of_nonneg (by omega)]; omega
    by_cases h : n < 10
    · have n2 : -10 < -(n : Int) := by omega
      have n3 : -(n : Int) < 10 := by omega
      have n4 : -(n : Int) < 0 := by omega
      have hnn : n % 10 = n := by omega
      rw [hnn] at hcv ht ht2
      obtain ⟨bd, hbd⟩ : ∃ bd, bd = UInt8.ofNat (48 + n) := ⟨_, rfl⟩
      rw [← hbd] at hcv
      have HD := Lib.hid (show Lib.decDigits n = [bd] by rw [hbd]; exact Lib.decDigits_one h)
      clear ih hd hnn h hbd hn hm hq
      go_enter Tryz.func10, Tryz.ntmps10
      go_wp2_with fail
      go_returns
      exact ⟨by rw [HD.out]; rfl, bel_alloc _ _⟩
    · have n3 : -(n : Int) < 10 := by omega
      have n2 : ¬ -10 < -(n : Int) := by omega
      have hi := fun W => ih (n / 10) (by omega) (by omega) (by omega) W
      have hde : strA (45 :: Lib.decDigits n) = strA (45 :: Lib.decDigits (n / 10)) ++ strA [UInt8.ofNat (48 + n % 10)] := by
        have e : Lib.decDigits n = Lib.decDigits (n / 10) ++ [UInt8.ofNat (48 + n % 10)] := by
          conv => lhs; rw [Lib.decDigits, dif_neg h]
        rw [e]
        generalize Lib.decDigits (n / 10) = a
        apply ByteArray.ext
        simp
      have hsz := neg_sz (n / 10) (by omega)
      generalize strA (45 :: Lib.decDigits (n / 10)) = t0 at hi hde hsz
      generalize strA (45 :: Lib.decDigits n) = t1 at hde ⊢
      subst hde
      have hwq : wrap64 (-((n / 10 : Nat) : Int)) = -((n / 10 : Nat) : Int) := by unfold wrap64; omega
      generalize n / 10 = m at *
      generalize n % 10 = d at *
      obtain ⟨bd, hbd⟩ : ∃ bd, bd = UInt8.ofNat (48 + d) := ⟨_, rfl⟩
      rw [← hbd] at hcv ⊢
      have hcat := cat_run t0 (strA [bd]) (by have : (strA [bd]).size = 1 := rfl; omega)
      have hs1 : (t0.size : Int) + ((strA [bd]).size : Int) ≤ 9223372036854775807 := by have : (strA [bd]).size = 1 := rfl; omega
      have hs2 : (t0.size : Int) + 1 ≤ 9223372036854775807 := by omega
      have HI := Lib.hid hi
      clear hi hsz ih hn hm h hbd
      by_cases h0d : d = 0
      · subst h0d
        rw [show (48 : Int) + ((0 : Nat) : Int) = 48 from rfl] at hcv
        rw [show -((0 : Nat) : Int) = 0 from rfl] at ht
        clear hd ht2
        go_enter Tryz.func10, Tryz.ntmps10
        go_wp2_with (go_at_call 10; refine (HI.out _).mono ?_; rintro e_ w1 ⟨rfl, g1⟩; have G1 := Lib.hid g1; clear g1)
        go_returns
        exact ⟨rfl, after (bel_alloc _ _) G1.out⟩
      · have k1 : -(d : Int) < 0 := by omega
        have k2 : -10 < -(d : Int) := by omega
        have k3 : 0 < d := by omega
        clear h0d hd h0
        go_enter Tryz.func10, Tryz.ntmps10
        go_wp2_with (go_at_call 10; refine (HI.out _).mono ?_; rintro e_ w1 ⟨rfl, g1⟩; have G1 := Lib.hid g1; clear g1)
        go_returns
        exact ⟨rfl, after (bel_alloc _ _) G1.out⟩
theorem deci_c (n : Int) (h1 : -100000000 < n) (h2 : n < 100000000) (w : World) : Calls Tryz.prog 10 #[.int .i64 n] w fun r w' => r = .returned (.string (strA (Lib.itoa n))) ∧ Below w.heap.size w w' := by
  rcases (show 0 ≤ n ∨ n < 0 by omega) with h | h
  · obtain ⟨m, rfl⟩ := Int.eq_ofNat_of_zero_le h
    rw [itoa_nn]
    exact dec_c (m + 1) m (Nat.lt_succ_self m) (by omega) w
  · obtain ⟨m, hm⟩ := Int.eq_ofNat_of_zero_le (show 0 ≤ -n by omega)
    obtain rfl : n = -(m : Int) := by omega
    rw [itoa_neg (by omega)]
    exact decn_c (m + 1) m (Nat.lt_succ_self m) (by omega) (by omega) w
abbrev rowW (l : List Int) : List UInt8 := joinL (l.map Lib.itoa)
theorem joinL_snoc : ∀ (ws : List (List UInt8)) (w : List UInt8), ws ≠ [] → joinL (ws ++ [w]) = joinL ws ++ 32 :: w
  | [], _, h => absurd rfl h
  | [v], w, _ => rfl
  | v :: u :: ws, w, _ => by
    have ih := joinL_snoc (u :: ws) w (by simp)
    show v ++ 32 :: joinL (u :: ws ++ [w]) = (v ++ 32 :: joinL (u :: ws)) ++ 32 :: w
    rw [ih, List.append_assoc]
    rfl
theorem rowW_len : ∀ l : List Int, (∀ x ∈ l, -100000000 < x ∧ x < 100000000) → (rowW l).length ≤ 10 * l.length
  | [], _ => Nat.zero_le _
  | [x], h => by
    have := (nw_itoa (h x (.head _)).1 (h x (.head _)).2).2.2
    show (Lib.itoa x).length ≤ 10
    omega
  | x :: y :: l, h => by
    have h1 := (nw_itoa (h x (.head _)).1 (h x (.head _)).2).2.2
    have h2 := rowW_len (y :: l) fun z hz => h z (.tail _ hz)
    show (Lib.itoa x ++ 32 :: rowW (y :: l)).length ≤ 10 * (y :: l).length.succ
    rw [List.length_append, List.length_cons]
    omega
theorem strA_app (a b : List UInt8) : strA (a ++ b) = strA a ++ strA b := by
  apply ByteArray.ext
  simp
set_option maxRecDepth 100000 in
set_option maxHeartbeats 4000000 in
theorem row_c (l : List Int) (hl : l.length ≤ 3) (hb : ∀ x ∈ l, -100000000 < x ∧ x < 100000000) (b cap : Nat) (w : World) (hlt : b < w.heap.size) (hc : ∀ i x, l[i]? = some x → w.cell? ⟨b, i, none⟩ = some (.int .i64 x)) :
    Calls Tryz.prog 12 #[.slice (some ⟨b, 0, none⟩) l.length cap] w fun r w' => r = .returned (.string (strA (rowW l))) ∧ Below w.heap.size w w' := by
  obtain ⟨n, hn⟩ : ∃ n, n = l.length := ⟨_, rfl⟩
  have HX := Lib.hid (And.intro hl (And.intro hb (And.intro hlt hc)))
  rw [← hn]
  have HNN := Lib.hid hn
  clear hl hb hlt hc hn
  go_enter Tryz.func12, Tryz.ntmps12
  go_upto_region 3 with (fail)
  go_loopw [3, 4] (fun s iv wr => ∃ i : Nat, i ≤ n ∧ iv = .int .i64 i ∧ s = .string (strA (rowW (l.take i))) ∧ Hid (Below w.heap.size w wr)) (fun _ iv _ => n - (intOf iv).toNat)
  case atStart => exact ⟨0, Nat.zero_le _, rfl, rfl, Lib.hid (.refl _ _)⟩
  case round =>
    obtain ⟨i, hi, rfl, rfl, hI⟩ := hrel
    by_cases hlt : i < n
    · obtain ⟨x, hx⟩ : ∃ x, l[i]? = some x := ⟨_, List.getElem?_eq_getElem (by rw [← HNN.out]; exact hlt)⟩
      have hxb := HX.out.2.1 x (List.mem_of_getElem? hx)
      have hcell := HX.out.2.2.2 i x hx
      have hcell2 : wr.cell? ⟨b, i, none⟩ = some (.int .i64 x) := by rw [← hcell]; exact Below.cell hI.out HX.out.2.2.1
      have hlt' : (i : Int) < (n : Int) := by omega
      have hlen := rowW_len (l.take i) fun y hy => HX.out.2.1 y (List.mem_of_mem_take hy)
      have hlen2 : (l.take i).length = i := by have := HNN.out; rw [List.length_take]; omega
      have hl3 := HX.out.1
      have hnn := HNN.out
      have hxs := (nw_itoa hxb.1 hxb.2).2.2
      have hdx := deci_c x hxb.1 hxb.2
      have hstep : l.take (i + 1) = l.take i ++ [x] := by rw [List.take_add_one, hx]; rfl
      have q3 : (i : Int) + 1 ≤ 9223372036854775807 := by omega
      have q4 : -9223372036854775808 ≤ (i : Int) + 1 := by omega
      have q0 : (0 : Int) ≤ (i : Int) := by omega
      have hs0 : ((strA (rowW (l.take i))).size : Int) + 1 ≤ 9223372036854775807 := by rw [strA_sz]; omega
      have hs1 : ((strA (rowW (l.take i))).size : Int) + ((strA (Lib.itoa x)).size : Int) ≤ 9223372036854775807 := by rw [strA_sz, strA_sz]; omega
      have hs2 : ((strA (rowW (l.take i))).size : Int) + 1 + ((strA (Lib.itoa x)).size : Int) ≤ 9223372036854775807 := by rw [strA_sz, strA_sz]; omega
      have hs3 : ((strA (rowW (l.take i)) ++ ⟨#[32]⟩).size : Int) + ((strA (Lib.itoa x)).size : Int) ≤ 9223372036854775807 := by
        have e1 : (strA (rowW (l.take i)) ++ ⟨#[32]⟩).size = (strA (rowW (l.take i))).size + 1 := by rw [ByteArray.size_append]; rfl
        rw [e1, strA_sz, strA_sz]
        omega
      have hnew : (i = 0 → strA (rowW (l.take (i + 1))) = strA (rowW (l.take i)) ++ strA (Lib.itoa x)) ∧ (0 < i → strA (rowW (l.take (i + 1))) = (strA (rowW (l.take i)) ++ ⟨#[32]⟩) ++ strA (Lib.itoa x)) := by
        rw [hstep]
        constructor
        · rintro rfl
          show strA (Lib.itoa x) = strA [] ++ strA (Lib.itoa x)
          rw [← strA_app]
          rfl
        · intro hi0
          have hne : (l.take i).map Lib.itoa ≠ [] := fun h => by
            have := congrArg List.length h
            rw [List.length_map, hlen2] at this
            simp at this
            omega
          show strA (joinL ((l.take i ++ [x]).map Lib.itoa)) = _
          rw [List.map_append, List.map_cons, List.map_nil, joinL_snoc _ _ hne, strA_app]
          show strA (rowW (l.take i)) ++ strA (32 :: Lib.itoa x) = (strA (rowW (l.take i)) ++ strA [32]) ++ strA (Lib.itoa x)
          rw [← strA_app, ← strA_app, ← strA_app, List.append_assoc]
          rfl
      have HN := Lib.hid hnew
      have HDX := Lib.hid hdx
      have HLT := Lib.hid hlt
      generalize strA (rowW (l.take i)) = s0 at *
      generalize strA (Lib.itoa x) = sx at *
      have HQ := Lib.hid (And.intro q3 (And.intro q4 (And.intro hs1 (And.intro hs3 hcell2))))
      clear hx hxb hcell hlen hlen2 hl3 hnn hxs hdx hstep hnew hlt hs0 hs1 hs2 hs3 q3 q4 q0 hcell2
      by_cases hi0 : 0 < i
      · have n1 : (0 : Int) < (i : Int) := by omega
        have HI0 := Lib.hid hi0
        have hsx : (s0.size : Int) ≤ 9223372036854775806 := by
          have := HQ.out.2.2.2.1
          rw [ByteArray.size_append, show (⟨#[32]⟩ : ByteArray).size = 1 from rfl] at this
          omega
        clear hi0
        go_upto_region 6 with (fail)
        clear n1
        go_upto_region 7 with (fail)
        clear hsx
        obtain ⟨s2, hs2⟩ : ∃ s2, s2 = s0 ++ ⟨#[32]⟩ := ⟨_, rfl⟩
        rw [← hs2]
        have HS2 := Lib.hid hs2
        have h3 := HQ.out.2.2.2.1
        rw [← hs2] at h3
        have hc := HQ.out.2.2.2.2
        have q0 : (0 : Int) ≤ (i : Int) := by omega
        clear hs2
        go_upto_region 4 with (go_at_call 10; refine (HDX.out _).mono ?_; rintro e_ w1 ⟨rfl, g1⟩; have G1 := Lib.hid (after hI.out g1); clear g1)
        clear h3 hc q0
        have q3 := HQ.out.1
        have q4 := HQ.out.2.1
        go_wp2_with fail
        go_roundw
        case rel => exact ⟨i + 1, HLT.out, by go_num, by rw [HN.out.2 HI0.out, HS2.out], G1⟩
        case measure => have := HLT.out; simp [intOf]; omega
      · obtain rfl : i = 0 := by omega
        have h1 := HQ.out.2.2.1
        have hc := HQ.out.2.2.2.2
        go_wp2_with (go_at_call 10; refine (HDX.out _).mono ?_; rintro e_ w1 ⟨rfl, g1⟩; have G1 := Lib.hid (after hI.out g1); clear g1)
        go_roundw
        case rel => exact ⟨0 + 1, HLT.out, by go_num, by rw [HN.out.1 trivial], G1⟩
        case measure => have := HLT.out; simp [intOf]; omega
    · obtain rfl : i = n := by omega
      have hlt' : ¬ (i : Int) < (i : Int) := by omega
      rw [show l.take i = l by rw [HNN.out, List.take_length]]
      clear hlt hi
      go_wp2_with fail
      go_returns
      exact ⟨rfl, hI.out⟩
end Go.Proofs.YtmbccnioijokfaaGreatDoor

namespace Go.Proofs.YtmbccnioijokfaaGreatDoor
open Go.RowKit Go.Maps
abbrev eq_tell0 : ByteArray := ⟨#[116, 101, 108, 108, 32, 48, 32]⟩
abbrev eq_edit : ByteArray := ⟨#[101, 100, 105, 116, 32]⟩
abbrev eq_sp : ByteArray := ⟨#[32]⟩
abbrev jL (j : Bool) : List UInt8 := if j then [49] else [48]
theorem jL_ok (j : Bool) : WordOk (jL j) := by cases j <;> exact ⟨by decide, by decide⟩
theorem tellw_ok : WordOk [116, 101, 108, 108] ∧ WordOk [48] ∧ WordOk [101, 100, 105, 116] := ⟨⟨by decide, by decide⟩, ⟨by decide, by decide⟩, ⟨by decide, by decide⟩⟩
section
variable {x y z : Int}
theorem tell_words (hx : -100000000 < x ∧ x < 100000000) (hz : -100000000 < z ∧ z < 100000000) (j : Bool) : wordsL (((eq_tell0 ++ strA (rowW [x, z])) ++ eq_sp) ++ jA j) = [⟨#[116, 101, 108, 108]⟩, ⟨#[48]⟩, strA (Lib.itoa x), strA (Lib.itoa z), jA j] := by
  have e : ((eq_tell0 ++ strA (rowW [x, z])) ++ eq_sp) ++ jA j = strA (joinL [[116, 101, 108, 108], [48], Lib.itoa x, Lib.itoa z, jL j]) := by
    rw [show eq_tell0 = strA [116, 101, 108, 108, 32, 48, 32] from rfl, show eq_sp = strA [32] from rfl, show jA j = strA (jL j) by cases j <;> rfl, ← strA_app, ← strA_app, ← strA_app]
    simp [rowW, joinL]
  rw [e, words_join (by simp)]
  · cases j <;> rfl
  · intro w hw
    simp only [List.mem_cons, List.not_mem_nil, or_false] at hw
    rcases hw with rfl | rfl | rfl | rfl | rfl
    · exact tellw_ok.1
    · exact tellw_ok.2.1
    · exact (nw_itoa hx.1 hx.2).2.1
    · exact (nw_itoa hz.1 hz.2).2.1
    · exact jL_ok j
theorem edit_words (hx : -100000000 < x ∧ x < 100000000) (hy : -100000000 < y ∧ y < 100000000) (hz : -100000000 < z ∧ z < 100000000) {b : Int} (hb : WordOk (blkN b)) : wordsL (((eq_edit ++ strA (rowW [x, y, z])) ++ eq_sp) ++ strA (blkN b)) = [⟨#[101, 100, 105, 116]⟩, strA (Lib.itoa x), strA (Lib.itoa y), strA (Lib.itoa z), strA (blkN b)] := by
  have e : ((eq_edit ++ strA (rowW [x, y, z])) ++ eq_sp) ++ strA (blkN b) = strA (joinL [[101, 100, 105, 116], Lib.itoa x, Lib.itoa y, Lib.itoa z, blkN b]) := by
    rw [show eq_edit = strA [101, 100, 105, 116, 32] from rfl, show eq_sp = strA [32] from rfl, ← strA_app, ← strA_app, ← strA_app]
    simp [rowW, joinL]
  rw [e, words_join (by simp)]
  · rfl
  · intro w hw
    simp only [List.mem_cons, List.not_mem_nil, or_false] at hw
    rcases hw with rfl | rfl | rfl | rfl | rfl
    · exact tellw_ok.2.2
    · exact (nw_itoa hx.1 hx.2).2.1
    · exact (nw_itoa hy.1 hy.2).2.1
    · exact (nw_itoa hz.1 hz.2).2.1
    · exact hb
end
end Go.Proofs.YtmbccnioijokfaaGreatDoor

namespace Go.Proofs.YtmbccnioijokfaaGreatDoor
open Go.RowKit Go.Maps
attribute [local go_sem] Oper.semAt_some
def NewSh (seed lim R bu : Int) (w : World) (r : Ending) (w' : World) : Prop := ∃ sh e s wd t q M, r = .returned (.pointer (some ⟨sh, 0, none⟩)) ∧ ShA sh e s wd t q occ0 (newSS (newT seed lim R) 0 bu) none w' M ∧ (∀ b, M b → w.heap.size ≤ b) ∧ Below w.heap.size w w'
theorem lnew_c (w : World) : Calls Tryz.prog 20 #[] w fun r w' => NewSh 1 9 200000 16 w r w' := by
  have HN := Lib.hid (enew_c 1 9 200000 16 w)
  go_enter Tryz.func20, Tryz.ntmps20
  go_wp2_with (go_at_call 37; refine HN.out.mono ?_; rintro e_ w7 ⟨e', s', wd', t', q', M', rfl, hA, hn, hb⟩; have HA := Lib.hid (And.intro hA (And.intro hn hb)); clear hA hn hb)
  go_returns
  obtain ⟨hA, hn, hb⟩ := HA.out
  obtain ⟨W8, hW8⟩ : ∃ W8, W8 = w7.alloc (.cells #[.pointer (some ⟨e', 0, none⟩)] 79) := ⟨_, rfl⟩
  have g8 : Below w7.heap.size w7 W8 := by rw [hW8]; exact bel_alloc _ _
  rw [← hW8]
  refine ⟨w7.heap.size, e', s', wd', t', q', fun b => b = w7.heap.size ∨ M' b, rfl, ⟨M', Blk.fresh hW8, (engA_fit e' s' wd' t' q' occ0 _ none).on hA g8, fun _ => Iff.rfl⟩, fun b hb' => ?_, after hb g8⟩
  rcases hb' with rfl | hb'
  · exact hb.size
  · exact hn b hb'
theorem neq_nilv (x : Fn) (y z : Array Value) (w : World) : (binOp .neq 74 (.func x y z) .nilFunc).run Tryz.prog w = .ok (.bool true) w := by kernel_rfl
theorem lengine_c (sh e : Nat) (w : World) (h : Blk w sh 79 #[.pointer (some ⟨e, 0, none⟩)]) : Calls Tryz.prog 14 #[.pointer (some ⟨sh, 0, none⟩)] w fun r w' => r = .returned (.pointer (some ⟨e, 0, none⟩)) ∧ w = w' := by
  have c0 := h.cell 0
  clear h
  go_enter Tryz.func14, Tryz.ntmps14
  go_wp2_with fail
  go_returns
  exact ⟨rfl, rfl⟩
set_option maxRecDepth 100000 in
set_option maxHeartbeats 4000000 in
theorem whole_c (e s wd t q : Nat) (occ : Value) (S : SS) (L : Option Lf) (M : Nat → Prop) (w : World) (h : EngA e s wd t q occ S L w M) :
    Calls Tryz.prog 13 #[.pointer (some ⟨e, 0, none⟩)] w fun r w' => r = .returned (.bool true) ∧ w = w' := by
  have hnv := neq_nilv
  obtain ⟨Ms, he, -⟩ := h
  have e0 := he.blk.cell 0
  have HSM := Lib.hid (esim_c e s (lfP L) w he.blk)
  have HSW := Lib.hid (sworld_c s wd t q occ S w Ms he.sim)
  obtain ⟨v, ds, Mw, Mq, hs, -⟩ := he.sim
  have HVW := Lib.hid (wview_c wd t S.k S.T w Mw hs.wd)
  have HTB := Lib.hid (wtable_c wd t S.k S.T w Mw hs.wd)
  clear he hs
  go_enter Tryz.func13, Tryz.ntmps13
  go_wp2_with first
    | (go_at_call 27; refine HSW.out.mono ?_; rintro e_ w1 ⟨rfl, rfl⟩)
    | (go_at_call 28; refine HSM.out.mono ?_; rintro e_ w1 ⟨rfl, rfl⟩)
    | (go_at_call 29; refine HVW.out.mono ?_; rintro e_ w1 ⟨rfl, rfl⟩)
    | (go_at_call 30; refine HTB.out.mono ?_; rintro e_ w1 ⟨rfl, rfl⟩)
  go_returns
  exact ⟨rfl, rfl⟩
end Go.Proofs.YtmbccnioijokfaaGreatDoor

