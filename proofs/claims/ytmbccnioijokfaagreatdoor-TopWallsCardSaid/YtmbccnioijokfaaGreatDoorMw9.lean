/- Texts that build one behind the other, laid together: LinB LinT BldT SimT2 SimT3 SimT4 PutP SimT6 SimT8 EngT EngT2 EngT3 EngT4 EngT5 EngT6 EngT7 EngT8 EngT9 EngU EngU2 SandS SandT WallS. -/
import Derived.Test.YtmbccnioijokfaaGreatDoorMw8
import Derived.Test.YtmbccnioijokfaaGreatDoorMw7
import Derived.Test.YtmbccnioijokfaaGreatDoorMw6
import Derived.Test.YtmbccnioijokfaaGreatDoorMw3
import Derived.Test.YtmbccnioijokfaaGreatDoorMw4
import Derived.Lib.FrozenHead
import Derived.Lib.UnsafeStr
import Derived.Lib.AppendStr
import Derived.Laws.Externs
import Derived.Laws.EntriesVeiled
import Derived.Test.YtmbccnioijokfaaGreatDoorMw5
import Derived.Test.YtmbccnioijokfaaGreatDoorMw2
import Derived.KernelRfl
namespace Go.Proofs.YtmbccnioijokfaaGreatDoor
open Go.RowKit
attribute [local go_sem] Oper.semAt_some
def NW (s : ByteArray) (n : Int) : Prop := ∃ b d, NumW s b d ∧ numV b d = n
set_option maxRecDepth 100000 in
set_option maxHeartbeats 2000000 in
theorem num_c (N a : Nat) (s : ByteArray) (n : Int) (hs : NW s n) (ws : List ByteArray) (w : World) (h : ArgA N a (s :: ws) w) :
    Calls Tryz.prog 73 #[.pointer (some ⟨a, 0, none⟩)] w fun r w' => r = .returned (.int .i64 n) ∧ ArgA N a ws w' ∧ Kept (fun b => b ≠ a) w w' := by
  obtain ⟨b, d, hnw, hn⟩ := hs
  have HW := Lib.hid (word_c N a s ws w h)
  have HN := fun W => number_c s b d hnw W
  rw [hn] at HN
  have HN' := Lib.hid HN
  clear h hnw hn HN
  go_enter Tryz.func73, Tryz.ntmps73
  go_wp2_with first
    | (go_at_call 24; refine HW.out.mono ?_; rintro e_ w1 ⟨rfl, a1, k1⟩; have A1 := Lib.hid (And.intro a1 k1); clear a1 k1)
    | (go_at_call 114; refine (HN'.out _).mono ?_; rintro e_ w2 ⟨rfl, g2⟩; have G2 := Lib.hid g2; clear g2)
    | (go_at_call 25; refine (must_c _).mono ?_; rintro e_ w3 ⟨rfl, rfl⟩)
  go_returns
  exact ⟨rfl, A1.out.1.on G2.out, A1.out.2.on G2.out⟩
set_option maxRecDepth 100000 in
set_option maxHeartbeats 4000000 in
theorem vec_c (N a : Nat) (s1 s2 s3 : ByteArray) (x y z : Int) (h1 : NW s1 x) (h2 : NW s2 y) (h3 : NW s3 z) (ws : List ByteArray) (w : World) (h : ArgA N a (s1 :: s2 :: s3 :: ws) w) :
    Calls Tryz.prog 91 #[.pointer (some ⟨a, 0, none⟩)] w fun r w' => r = .returned (.agg #[.int .i64 x, .int .i64 y, .int .i64 z]) ∧ ArgA N a ws w' ∧ Kept (fun b => b ≠ a) w w' := by
  obtain ⟨W, hWe⟩ : ∃ W, W = w.alloc (.cells #[.int .i64 0, .int .i64 0, .int .i64 0] 38) := ⟨_, rfl⟩
  have H : Below w.heap.size w W := by rw [hWe]; exact (Below.refl _ _).alloc (Nat.le_refl _) _
  have R : Blk W w.heap.size 38 #[.int .i64 0, .int .i64 0, .int .i64 0] := by rw [hWe]; exact Blk.new' (by simp)
  have A0 := Lib.hid (h.on H)
  have hga : N ≤ w.heap.size ∧ a < N := h.le
  have HR := Lib.hid R
  have HG := Lib.hid (And.intro hga H)
  have H1 := Lib.hid (And.intro h1 (And.intro h2 h3))
  clear h H hga h1 h2 h3 R
  go_enter Tryz.func91, Tryz.ntmps91
  go_upto_region 1 with (fail)
  rw [← hWe]
  clear hWe
  have hgg := Lib.hid (show w.heap.size ≤ w.heap.size from Nat.le_refl _)
  generalize hge : w.heap.size = g at *
  have HGE := Lib.hid hge
  clear hge hgg
  go_wp2_with first
    | (go_at_call 73; refine (num_c N a s1 x H1.out.1 _ _ A0.out).mono ?_; rintro e_ w1 ⟨rfl, a1, k1⟩; have A1 := Lib.hid a1; have K1 := Lib.hid k1; clear a1 k1)
    | (go_at_call 73; refine (num_c N a s2 y H1.out.2.1 _ _ A1.out).mono ?_; rintro e_ w2 ⟨rfl, a2, k2⟩; have A2 := Lib.hid a2; have K2 := Lib.hid (K1.out.trans k2); clear a2 k2)
    | (go_at_call 73; refine (num_c N a s3 z H1.out.2.2 _ _ A2.out).mono ?_; rintro e_ w3 ⟨rfl, a3, k3⟩; have A3 := Lib.hid a3; have hk3 := K2.out.trans k3; have K3 := Lib.hid hk3; have hR3 := hk3.blk (show g ≠ a by have := HG.out.1; omega) HR.out; have HR3 := Lib.hid hR3; obtain ⟨r0, r1, r2, f0, f1, f2⟩ := hR3.c3; clear a3 k3 hk3 hR3)
  have R2 := HR3.out.st3 (.int .i64 x) (.int .i64 y) (.int .i64 z)
  obtain ⟨d0, d1, d2, -, -, -⟩ := R2.c3
  refine bodyPost_ret (v := .agg #[.int .i64 x, .int .i64 y, .int .i64 z]) (by simp [results, Tryz.results91, go_sem, d0, d1, d2]) rfl ⟨rfl, A3.out.bel ?_, ?_⟩
  · have hb : Below N w3 w3 := .refl _ _
    exact ((hb.setCell (p := ⟨g, 0, none⟩) HG.out.1.1 _).setCell (p := ⟨g, 1, none⟩) HG.out.1.1 _).setCell (p := ⟨g, 2, none⟩) HG.out.1.1 _
  · have hk : Kept (fun b => b ≠ a) w w3 := (Kept.of_below (by rw [HGE.out]; exact HG.out.2)).trans K3.out
    have hg : w.heap.size ≤ g := by rw [HGE.out]; exact Nat.le_refl _
    exact ((hk.fresh (p := ⟨g, 0, none⟩) hg _).fresh (p := ⟨g, 1, none⟩) hg _).fresh (p := ⟨g, 2, none⟩) hg _
set_option maxRecDepth 100000 in
set_option maxHeartbeats 4000000 in
theorem acell_c (N a : Nat) (s1 s2 s3 : ByteArray) (x y z : Int) (h1 : NW s1 x) (h2 : NW s2 y) (h3 : NW s3 z) (ws : List ByteArray) (w : World) (h : ArgA N a (s1 :: s2 :: s3 :: ws) w) :
    Calls Tryz.prog 98 #[.pointer (some ⟨a, 0, none⟩)] w fun r w' => r = .returned (.agg #[.int .i64 x, .int .i64 y, .int .i64 z]) ∧ ArgA N a ws w' ∧ Kept (fun b => b ≠ a) w w' := by
  obtain ⟨W, hWe⟩ : ∃ W, W = w.alloc (.cells #[.int .i64 0, .int .i64 0, .int .i64 0] 43) := ⟨_, rfl⟩
  have H : Below w.heap.size w W := by rw [hWe]; exact (Below.refl _ _).alloc (Nat.le_refl _) _
  have R : Blk W w.heap.size 43 #[.int .i64 0, .int .i64 0, .int .i64 0] := by rw [hWe]; exact Blk.new' (by simp)
  have A0 := Lib.hid (vec_c N a s1 s2 s3 x y z h1 h2 h3 ws W (h.on H))
  have hga : N ≤ w.heap.size ∧ a < N := h.le
  have HR := Lib.hid R
  have HG := Lib.hid (And.intro hga H)
  clear h H hga h1 h2 h3 R
  go_enter Tryz.func98, Tryz.ntmps98
  go_upto_region 1 with (fail)
  rw [← hWe]
  clear hWe
  generalize hge : w.heap.size = g at *
  have HGE := Lib.hid hge
  clear hge
  go_upto_region 2 with (go_at_call 91; refine A0.out.mono ?_; rintro e_ w1 ⟨rfl, a1, k1⟩; have A1 := Lib.hid a1; have K1 := Lib.hid k1; clear a1 k1)
  obtain ⟨W2, hW2⟩ : ∃ W2, W2 = w1.alloc (.cells #[.int .i64 x, .int .i64 y, .int .i64 z] 38) := ⟨_, rfl⟩
  have H2 : Below w1.heap.size w1 W2 := by rw [hW2]; exact (Below.refl _ _).alloc (Nat.le_refl _) _
  obtain ⟨c0, c1, c2, -, -, -⟩ := (Blk.fresh hW2).c3
  have hR2 := (K1.out.blk (show g ≠ a by have := HG.out.1; omega) HR.out).on H2
  obtain ⟨r0, r1, r2, f0, f1, f2⟩ := hR2.c3
  have HR2 := Lib.hid hR2
  have HH2 := Lib.hid H2
  rw [← hW2]
  clear hW2 H2 hR2
  go_wp2_with fail
  have R2 := HR2.out.st3 (.int .i64 x) (.int .i64 y) (.int .i64 z)
  obtain ⟨d0, d1, d2, -, -, -⟩ := R2.c3
  refine bodyPost_ret (v := .agg #[.int .i64 x, .int .i64 y, .int .i64 z]) (by simp [results, Tryz.results98, go_sem, d0, d1, d2]) rfl ⟨rfl, (A1.out.on HH2.out).bel ?_, ?_⟩
  · have hb : Below N W2 W2 := .refl _ _
    exact ((hb.setCell (p := ⟨g, 0, none⟩) HG.out.1.1 _).setCell (p := ⟨g, 1, none⟩) HG.out.1.1 _).setCell (p := ⟨g, 2, none⟩) HG.out.1.1 _
  · have hk : Kept (fun b => b ≠ a) w W2 := ((Kept.of_below (by rw [HGE.out]; exact HG.out.2)).trans K1.out).on HH2.out
    have hg : w.heap.size ≤ g := by rw [HGE.out]; exact Nat.le_refl _
    exact ((hk.fresh (p := ⟨g, 0, none⟩) hg _).fresh (p := ⟨g, 1, none⟩) hg _).fresh (p := ⟨g, 2, none⟩) hg _
set_option maxRecDepth 100000 in
set_option maxHeartbeats 4000000 in
theorem apos_c (N a : Nat) (s1 s2 : ByteArray) (x z : Int) (h1 : NW s1 x) (h2 : NW s2 z) (ws : List ByteArray) (w : World) (h : ArgA N a (s1 :: s2 :: ws) w) :
    Calls Tryz.prog 77 #[.pointer (some ⟨a, 0, none⟩)] w fun r w' => r = .returned (.agg #[.int .i64 x, .int .i64 z]) ∧ ArgA N a ws w' ∧ Kept (fun b => b ≠ a) w w' := by
  obtain ⟨W, hWe⟩ : ∃ W, W = w.alloc (.cells #[.int .i64 0, .int .i64 0] 123) := ⟨_, rfl⟩
  have H : Below w.heap.size w W := by rw [hWe]; exact (Below.refl _ _).alloc (Nat.le_refl _) _
  have R : Blk W w.heap.size 123 #[.int .i64 0, .int .i64 0] := by rw [hWe]; exact Blk.new' (by simp)
  have A0 := Lib.hid (h.on H)
  have hga : N ≤ w.heap.size ∧ a < N := h.le
  have HR := Lib.hid R
  have HG := Lib.hid (And.intro hga H)
  have H1 := Lib.hid (And.intro h1 h2)
  clear h H hga h1 h2 R
  go_enter Tryz.func77, Tryz.ntmps77
  go_upto_region 1 with (fail)
  rw [← hWe]
  clear hWe
  generalize hge : w.heap.size = g at *
  have HGE := Lib.hid hge
  clear hge
  go_wp2_with first
    | (go_at_call 73; refine (num_c N a s1 x H1.out.1 _ _ A0.out).mono ?_; rintro e_ w1 ⟨rfl, a1, k1⟩; have A1 := Lib.hid a1; have K1 := Lib.hid k1; clear a1 k1)
    | (go_at_call 73; refine (num_c N a s2 z H1.out.2 _ _ A1.out).mono ?_; rintro e_ w3 ⟨rfl, a3, k3⟩; have A3 := Lib.hid a3; have hk3 := K1.out.trans k3; have K3 := Lib.hid hk3; have hR3 := hk3.blk (show g ≠ a by have := HG.out.1; omega) HR.out; have HR3 := Lib.hid hR3; obtain ⟨r0, r1, f0, f1⟩ := hR3.pair; clear a3 k3 hk3 hR3)
  have R1 : Blk _ g 123 #[.int .i64 x, .int .i64 0] := HR3.out.set_ 0 (.int .i64 x)
  have R2 : Blk _ g 123 #[.int .i64 x, .int .i64 z] := R1.set_ 1 (.int .i64 z)
  obtain ⟨d0, d1, -, -⟩ := R2.pair
  refine bodyPost_ret (v := .agg #[.int .i64 x, .int .i64 z]) (by simp [results, Tryz.results77, go_sem, d0, d1]) rfl ⟨rfl, A3.out.bel ?_, ?_⟩
  · have hb : Below N w3 w3 := .refl _ _
    exact (hb.setCell (p := ⟨g, 0, none⟩) HG.out.1.1 _).setCell (p := ⟨g, 1, none⟩) HG.out.1.1 _
  · have hk : Kept (fun b => b ≠ a) w w3 := (Kept.of_below (by rw [HGE.out]; exact HG.out.2)).trans K3.out
    have hg : w.heap.size ≤ g := by rw [HGE.out]; exact Nat.le_refl _
    exact (hk.fresh (p := ⟨g, 0, none⟩) hg _).fresh (p := ⟨g, 1, none⟩) hg _
set_option maxRecDepth 100000 in
set_option maxHeartbeats 2000000 in
theorem ablk_c (N a : Nat) (b : Int) (hb : mayK b = true) (ws : List ByteArray) (w : World) (h : ArgA N a (strA (blkN b) :: ws) w) :
    Calls Tryz.prog 96 #[.pointer (some ⟨a, 0, none⟩)] w fun r w' => r = .returned (.int .i64 b) ∧ ArgA N a ws w' ∧ Kept (fun b => b ≠ a) w w' := by
  have HW := Lib.hid (word_c N a _ ws w h)
  have HN' := Lib.hid fun W => bparse_c b hb W
  clear h hb
  go_enter Tryz.func96, Tryz.ntmps96
  go_wp2_with first
    | (go_at_call 24; refine HW.out.mono ?_; rintro e_ w1 ⟨rfl, a1, k1⟩; have A1 := Lib.hid (And.intro a1 k1); clear a1 k1)
    | (go_at_call 141; refine (HN'.out _).mono ?_; rintro e_ w2 ⟨rfl, g2⟩; have G2 := Lib.hid g2; clear g2)
    | (go_at_call 25; refine (must_c _).mono ?_; rintro e_ w3 ⟨rfl, rfl⟩)
  go_returns
  exact ⟨rfl, A1.out.1.on G2.out, A1.out.2.on G2.out⟩
end Go.Proofs.YtmbccnioijokfaaGreatDoor

namespace Go.Proofs.YtmbccnioijokfaaGreatDoor
open Go.RowKit Go.Maps
attribute [local go_sem] Oper.semAt_some
def TabOk (w : World) : Prop := Lib.TabIs Tryz.prog w "internal/strconv.uint64pow10" .u64 Lib.pow10Tab
theorem TabOk.on {w w' : World} (h : TabOk w) (hb : Below w.heap.size w w') : TabOk w' := by
  unfold TabOk Lib.TabIs World.var? at *
  obtain ⟨g, hg, h1⟩ := Option.bind_eq_some_iff.1 h
  rw [hg]
  show (match w'.heap[g]? with | some (.cells cs _ _) => some cs | _ => none) = _
  have hlt : g < w.heap.size := by
    rcases Nat.lt_or_ge g w.heap.size with h2 | h2
    · exact h2
    · rw [Array.getElem?_eq_none h2] at h1; cases h1
  rw [hb.block g hlt]
  exact h1
theorem itoa_c (n : Int) (hn : -9223372036854775808 ≤ n ∧ n ≤ 9223372036854775807) (w : World) (h : (0 ≤ n ∧ n < 100) ∨ TabOk w) : Calls Tryz.prog 115 #[.int .i64 n] w fun r w' => r = .returned (.string (strA (Lib.itoa n))) ∧ Below w.heap.size w w' := by
  rcases h with ⟨h0, h1⟩ | h
  · obtain ⟨i, rfl⟩ := Int.eq_ofNat_of_zero_le h0
    have := Tryz.strconv_Itoa_small i (by omega) w
    refine this.mono ?_
    rintro r w' ⟨rfl, rfl⟩
    refine ⟨?_, .refl _ _⟩
    unfold Lib.itoa
    rw [if_neg (by omega)]
    rfl
  · refine (Tryz.strconv_Itoa n hn.1 hn.2 w h).mono ?_
    rintro r w' ⟨rfl, k, os, rfl⟩
    exact ⟨rfl, below_regrown w _ os⟩
inductive TV
  | int (n : Int)
  | str (s : ByteArray)
  | ok
  | vec (x y z : Int)
  | bool (b : Bool)
def TV.val : TV → Value
  | .int n => .iface 3 (.int .i64 n)
  | .str s => .iface 9 (.string s)
  | .ok => .iface 121 (.int .i64 0)
  | .vec x y z => .iface 38 (.agg #[.int .i64 x, .int .i64 y, .int .i64 z])
  | .bool b => .iface 4 (.bool b)
abbrev joinB (l : List ByteArray) : ByteArray := strA (Lib.join (l.map (·.data.toList)) [32])
def TV.str_ : TV → ByteArray
  | .int n => strA (Lib.itoa n)
  | .str s => s
  | .ok => strA [111, 107]
  | .vec x y z => joinB [strA (Lib.itoa x), strA (Lib.itoa y), strA (Lib.itoa z)]
  | .bool b => joinB [strA (Lib.itoa (if b then 1 else 0))]
def Sm9 (n : Int) : Prop := -9223372036854775808 ≤ n ∧ n ≤ 9223372036854775807
def NumT (w : World) (n : Int) : Prop := Sm9 n ∧ ((0 ≤ n ∧ n < 100) ∨ TabOk w)
theorem NumT.on {w w' : World} {n : Int} (h : NumT w n) (hb : Below w.heap.size w w') : NumT w' n := ⟨h.1, h.2.imp_right fun h => h.on hb⟩
def TV.may (w : World) : TV → Prop
  | .int n => NumT w n
  | .str _ => True
  | .ok => True
  | .vec x y z => NumT w x ∧ NumT w y ∧ NumT w z ∧ ∀ W b, Below w.heap.size w W → Blk W b 20 #[.iface 3 (.int .i64 x), .iface 3 (.int .i64 y), .iface 3 (.int .i64 z)] → Calls Tryz.prog 75 #[.slice (some ⟨b, 0, none⟩) 3 3] W fun r w' => r = .returned (.string (TV.vec x y z).str_) ∧ Below W.heap.size W w'
  | .bool v => ∀ W b, Below w.heap.size w W → Blk W b 20 #[.iface 3 (.int .i64 (if v then 1 else 0))] → Calls Tryz.prog 75 #[.slice (some ⟨b, 0, none⟩) 1 1] W fun r w' => r = .returned (.string (TV.bool v).str_) ∧ Below W.heap.size W w'
theorem infS : (Tryz.prog.info? 9).map (fun i => (i.zero, i.size, i.bytes)) = some (some (.string ⟨#[]⟩), 1, 16) := by kernel_rfl
theorem s_push {N b : Nat} {v : Value} {xs : List ByteArray} {s : ByteArray} {W : World} (hO : Owns W N 9 1 encS v xs) (h8 : Blk W b 9 #[.string s]) (hl : xs.length ≤ 1000000) (hN : N ≤ W.heap.size) :
    ∃ v' w', (Builtin.append_ #[48, 48] 48 #[v, .slice (some ⟨b, 0, none⟩) 1 1]).run Tryz.prog W = .ok v' w' ∧ Owns w' N 9 1 encS v' (xs ++ [s]) ∧ Below N W w' := by
  obtain ⟨v', w', hrun, V2, -, hb2, -⟩ := run_push (P := Tryz.prog) (ts := 48) (ty := 48) (enc := encS) (x := s) (b := b) (w := W) (base := N) (xs := xs) (v := v) Tryz.underlying48 infS rfl (by decide) (by decide) rfl (by intro u hu; simp [encS] at hu; rcases hu with rfl; rfl) hO (fun j u hu => by rw [h8.cell j]; simpa [encS] using hu) (by omega) hN
  exact ⟨v', w', hrun, V2, hb2⟩
theorem ta_int_int (v : Value) (w : World) : (Instr.typeAssert (.iface 3 v) 20 3 true).run Tryz.prog w = .ok (.tuple #[v, .bool true]) w := by kernel_rfl
theorem ta_string_int (v : Value) (w : World) : (Instr.typeAssert (.iface 9 v) 20 3 true).run Tryz.prog w = .ok (.tuple #[.int .i64 0, .bool false]) w := by kernel_rfl
theorem ta_string_string (v : Value) (w : World) : (Instr.typeAssert (.iface 9 v) 20 9 true).run Tryz.prog w = .ok (.tuple #[v, .bool true]) w := by kernel_rfl
theorem ta_errno_int (v : Value) (w : World) : (Instr.typeAssert (.iface 121 v) 20 3 true).run Tryz.prog w = .ok (.tuple #[.int .i64 0, .bool false]) w := by kernel_rfl
theorem ta_errno_string (v : Value) (w : World) : (Instr.typeAssert (.iface 121 v) 20 9 true).run Tryz.prog w = .ok (.tuple #[.string ⟨#[]⟩, .bool false]) w := by kernel_rfl
theorem ta_errno_errno (v : Value) (w : World) : (Instr.typeAssert (.iface 121 v) 20 121 true).run Tryz.prog w = .ok (.tuple #[v, .bool true]) w := by kernel_rfl
theorem ta_vec_int (v : Value) (w : World) : (Instr.typeAssert (.iface 38 v) 20 3 true).run Tryz.prog w = .ok (.tuple #[.int .i64 0, .bool false]) w := by kernel_rfl
theorem ta_vec_string (v : Value) (w : World) : (Instr.typeAssert (.iface 38 v) 20 9 true).run Tryz.prog w = .ok (.tuple #[.string ⟨#[]⟩, .bool false]) w := by kernel_rfl
theorem ta_vec_errno (v : Value) (w : World) : (Instr.typeAssert (.iface 38 v) 20 121 true).run Tryz.prog w = .ok (.tuple #[.int .i64 0, .bool false]) w := by kernel_rfl
theorem ta_vec_vec (v : Value) (w : World) : (Instr.typeAssert (.iface 38 v) 20 38 true).run Tryz.prog w = .ok (.tuple #[v, .bool true]) w := by kernel_rfl
theorem ta_bool_int (v : Value) (w : World) : (Instr.typeAssert (.iface 4 v) 20 3 true).run Tryz.prog w = .ok (.tuple #[.int .i64 0, .bool false]) w := by kernel_rfl
theorem ta_bool_string (v : Value) (w : World) : (Instr.typeAssert (.iface 4 v) 20 9 true).run Tryz.prog w = .ok (.tuple #[.string ⟨#[]⟩, .bool false]) w := by kernel_rfl
theorem ta_bool_errno (v : Value) (w : World) : (Instr.typeAssert (.iface 4 v) 20 121 true).run Tryz.prog w = .ok (.tuple #[.int .i64 0, .bool false]) w := by kernel_rfl
theorem ta_bool_vec (v : Value) (w : World) : (Instr.typeAssert (.iface 4 v) 20 38 true).run Tryz.prog w = .ok (.tuple #[.agg #[.int .i64 0, .int .i64 0, .int .i64 0], .bool false]) w := by kernel_rfl
theorem ta_bool_bool (v : Value) (w : World) : (Instr.typeAssert (.iface 4 v) 20 4 true).run Tryz.prog w = .ok (.tuple #[v, .bool true]) w := by kernel_rfl
def ToI (w wr : World) (ss : List ByteArray) (v : Value) : Prop := Owns wr w.heap.size 9 1 encS v ss ∧ Below w.heap.size w wr
set_option maxRecDepth 100000 in
set_option maxHeartbeats 16000000 in
theorem told_c (b : Nat) (xs : List TV) (h0 : 1 ≤ xs.length) (hl : xs.length ≤ 1000) (w : World) (hB : ∀ (k : Nat) (x : TV), xs[k]? = some x → ∀ W, Below w.heap.size w W → W.cell? ⟨b, k, none⟩ = some x.val) (hm : ∀ x ∈ xs, x.may w)
    (hj : (Lib.join ((xs.map TV.str_).map (·.data.toList)) [32]).length ≤ 140737488355328) :
    Calls Tryz.prog 75 #[.slice (some ⟨b, 0, none⟩) xs.length xs.length] w fun r w' => r = .returned (.string (joinB (xs.map TV.str_))) ∧ Below w.heap.size w w' := by
  have hmm := @run_makeMap Tryz.prog
  have HB := Lib.hid hB
  have HM := Lib.hid hm
  have HJ := Lib.hid (And.intro h0 (And.intro hl hj))
  clear hB hm hj h0 hl
  go_enter Tryz.func75, Tryz.ntmps75
  go_upto_region 3 with (fail)
  go_loopw [3, 5, 6, 7, 8, 9, 10, 13] (fun v _ _ _ _ _ _ i wr => ∃ (k : Nat), k ≤ xs.length ∧ i = .int .i64 k ∧ Hid (ToI w wr ((xs.map TV.str_).take k) v)) (fun _ _ _ _ _ _ _ i _ => xs.length - (intOf i).toNat)
  case atStart => exact ⟨0, Nat.zero_le _, rfl, ⟨Owns.nil, Below.refl _ _⟩⟩
  case round =>
    obtain ⟨k, hk, rfl, hI⟩ := hrel
    by_cases hlt : k < xs.length
    · obtain ⟨x, hx⟩ : ∃ x, xs[k]? = some x := ⟨_, List.getElem?_eq_getElem hlt⟩
      have c0 := HB.out k x hx wr hI.out.2
      have hk0 : (0 : Int) ≤ k := by omega
      have hk1 : (k : Int) < (xs.length : Int) := by omega
      have hw : IntKind.i64.wrap ((k : Int) + 1) = (k : Int) + 1 := IntWalk.i64_in _ (by have := HJ.out.2.1; omega)
      have HX := Lib.hid (HM.out x (List.mem_of_getElem? hx))
      have hst : (xs.map TV.str_).take (k + 1) = (xs.map TV.str_).take k ++ [x.str_] := by
        rw [List.take_add_one, List.getElem?_map, hx]; rfl
      have hln : ((xs.map TV.str_).take k).length ≤ 1000000 := by rw [List.length_take, List.length_map]; have := HJ.out.2.1; omega
      have HST := Lib.hid (And.intro hst hln)
      clear hst hln hx
      go_upto_region 5 with (fail)
      cases x with
      | int n =>
        dsimp only [TV.val] at *
        have t1 := ta_int_int
        have HIT := Lib.hid (itoa_c n HX.out.1 wr (NumT.on HX.out hI.out.2).2)
        go_wp2_with first
          | (go_at_call 115; refine HIT.out.mono ?_; rintro e_ w1 ⟨rfl, g1⟩; have G1 := Lib.hid g1; clear g1)
          | (at_builtin; obtain ⟨v2, w2, hrun, ho, hb2⟩ := s_push (W := World.alloc w1 (.cells #[.string (strA (Lib.itoa n))] 9)) (s := strA (Lib.itoa n)) (Owns.on (hI.out.1.on G1.out) (bel_alloc _ _)) (Blk.new' rfl) HST.out.2 (Nat.le_trans (after hI.out.2 G1.out).size (bel_alloc _ _).size); have HO2 := Lib.hid (And.intro ho (after' (after hI.out.2 G1.out) (Nat.le_refl _) (bel_alloc _ _) |>.trans (hb2.mono (by simp)))); clear ho hb2; refine Lib.wpList_append_run _ rfl _ _ _ _ rfl _ _ rfl rfl _ _ hrun ?_)
        exact ⟨⟨k + 1, hlt, by go_num, Lib.hid (by rw [HST.out.1]; exact HO2.out)⟩, by simp [intOf]; omega⟩
      | str s =>
        dsimp only [TV.val] at *
        have t1 := ta_string_int
        have t2 := ta_string_string
        go_wp2_with (at_builtin; obtain ⟨v2, w2, hrun, ho, hb2⟩ := s_push (W := World.alloc wr (.cells #[.string (s)] 9)) (s := s) (Owns.on hI.out.1 (bel_alloc _ _)) (Blk.new' rfl) HST.out.2 (Nat.le_trans (hI.out.2).size (bel_alloc _ _).size); have HO2 := Lib.hid (And.intro ho (after' (hI.out.2) (Nat.le_refl _) (bel_alloc _ _) |>.trans (hb2.mono (by simp)))); clear ho hb2; refine Lib.wpList_append_run _ rfl _ _ _ _ rfl _ _ rfl rfl _ _ hrun ?_)
        exact ⟨⟨k + 1, hlt, by go_num, Lib.hid (by rw [HST.out.1]; exact HO2.out)⟩, by simp [intOf]; omega⟩
      | ok =>
        dsimp only [TV.val] at *
        have t1 := ta_errno_int
        have t2 := ta_errno_string
        have t3 := ta_errno_errno
        go_wp2_with (at_builtin; obtain ⟨v2, w2, hrun, ho, hb2⟩ := s_push (W := World.alloc wr (.cells #[.string (⟨#[111, 107]⟩)] 9)) (s := ⟨#[111, 107]⟩) (Owns.on hI.out.1 (bel_alloc _ _)) (Blk.new' rfl) HST.out.2 (Nat.le_trans (hI.out.2).size (bel_alloc _ _).size); have HO2 := Lib.hid (And.intro ho (after' (hI.out.2) (Nat.le_refl _) (bel_alloc _ _) |>.trans (hb2.mono (by simp)))); clear ho hb2; refine Lib.wpList_append_run _ rfl _ _ _ _ rfl _ _ rfl rfl _ _ hrun ?_)
        exact ⟨⟨k + 1, hlt, by go_num, Lib.hid (by rw [HST.out.1]; exact HO2.out)⟩, by simp [intOf]; omega⟩
      | vec x y z =>
        dsimp only [TV.val] at *
        have t1 := ta_vec_int
        have t2 := ta_vec_string
        have t3 := ta_vec_errno
        have t4 := ta_vec_vec
        go_upto_region 19 with (fail)
        obtain ⟨W1, hW1⟩ : ∃ W1, W1 = wr.alloc (.cells #[.int .i64 x, .int .i64 y, .int .i64 z] 38) := ⟨_, rfl⟩
        obtain ⟨v0, v1, v2_, -, -, -⟩ := (Blk.fresh hW1).c3
        have G1 := Lib.hid (show Below wr.heap.size wr W1 by rw [hW1]; exact bel_alloc _ _)
        rw [← hW1]
        clear hW1
        have HTD := Lib.hid (HX.out.2.2.2 (W1.alloc (.cells #[.iface 3 (.int .i64 x), .iface 3 (.int .i64 y), .iface 3 (.int .i64 z)] 20)) W1.heap.size (after (after hI.out.2 G1.out) (bel_alloc _ _)) (Blk.new' rfl))
        go_wp2_with first
          | (go_at_call 75; refine HTD.out.mono ?_; rintro e_ w3 ⟨rfl, g3⟩; have G3 := Lib.hid (after (after G1.out (bel_alloc _ _)) g3); clear g3)
          | (at_builtin; obtain ⟨v2, w2, hrun, ho, hb2⟩ := s_push (W := World.alloc w3 (.cells #[.string ((TV.vec x y z).str_)] 9)) (s := (TV.vec x y z).str_) (Owns.on (hI.out.1.on G3.out) (bel_alloc _ _)) (Blk.new' rfl) HST.out.2 (Nat.le_trans (after hI.out.2 G3.out).size (bel_alloc _ _).size); have HO2 := Lib.hid (And.intro ho (after' (after hI.out.2 G3.out) (Nat.le_refl _) (bel_alloc _ _) |>.trans (hb2.mono (by simp)))); clear ho hb2; refine Lib.wpList_append_run _ rfl _ _ _ _ rfl _ _ rfl rfl _ _ hrun ?_)
        exact ⟨⟨k + 1, hlt, by go_num, Lib.hid (by rw [HST.out.1]; exact HO2.out)⟩, by simp [intOf]; omega⟩
      | bool v =>
        dsimp only [TV.val] at *
        have t1 := ta_bool_int
        have t2 := ta_bool_string
        have t3 := ta_bool_errno
        have t4 := ta_bool_vec
        have t5 := ta_bool_bool
        cases v
        all_goals
          go_wp2_with first
            | (refine wpList_insert rfl _ _ _ 179 rfl 4 3 .bool Tryz.underlying179 Tryz.underlying4 wr.heap.size [] rfl (strM_new wr) (.bool true) (.int .i64 1) rfl rfl trivial rfl ?_; intro w5 hM5 hK5; have G5 := Lib.hid (show Below wr.heap.size wr w5 from (bel_alloc wr (.map #[] 0)).trans (hK5.below (by simp) (fun b hb => by omega))); have hlk := run_look (P := Tryz.prog) (mty := 179) (k := .bool true) (v := .int .i64 1) (i := 0) Tryz.underlying179 Tryz.underlying4 trivial hM5 rfl; have hlk0 := run_look0 (P := Tryz.prog) (mty := 179) (k := .bool false) (z := .int .i64 0) Tryz.underlying179 Tryz.underlying4 trivial hM5 rfl rfl; clear hM5 hK5)
            | (go_at_call 75; refine (HX.out _ w5.heap.size (after (after hI.out.2 G5.out) (bel_alloc _ _)) (Blk.new' rfl)).mono ?_; rintro e_ w3 ⟨rfl, g3⟩; have G3 := Lib.hid (after (after G5.out (bel_alloc _ _)) g3); clear g3)
            | (at_builtin; obtain ⟨v2, w2, hrun, ho, hb2⟩ := s_push (W := World.alloc w3 (.cells #[.string (TV.str_ _)] 9)) (s := TV.str_ _) (Owns.on (hI.out.1.on G3.out) (bel_alloc _ _)) (Blk.new' rfl) HST.out.2 (Nat.le_trans (after hI.out.2 G3.out).size (bel_alloc _ _).size); have HO2 := Lib.hid (And.intro ho (after' (after hI.out.2 G3.out) (Nat.le_refl _) (bel_alloc _ _) |>.trans (hb2.mono (by simp)))); clear ho hb2; refine Lib.wpList_append_run _ rfl _ _ _ _ rfl _ _ rfl rfl _ _ hrun ?_)
          exact ⟨⟨k + 1, hlt, by go_num, Lib.hid (by rw [HST.out.1]; exact HO2.out)⟩, by simp [intOf]; omega⟩
    · obtain rfl : k = xs.length := by omega
      have hlt' : ¬ (xs.length : Int) < (xs.length : Int) := by omega
      have hfull : (xs.map TV.str_).take xs.length = xs.map TV.str_ := List.take_of_length_le (by simp)
      have hT := hI.out
      rw [hfull] at hT
      obtain ⟨q, cap, hv, hc1, -, hrd, hlt2, hg⟩ := hT.1.form lenS
      obtain ⟨g, hq⟩ := hg (by have := HJ.out.1; simp; omega)
      subst hq
      have hll : (xs.map TV.str_).length = xs.length := by simp
      rw [hll] at hv hc1
      have HJN := Tryz.strings_Join g 0 cap (xs.map TV.str_) ⟨#[32]⟩ wr (fun j x hj => by
        obtain ⟨g', o', hq', h5⟩ := hrd (by have := HJ.out.1; simp; omega)
        injection hq' with e1
        injection e1 with e2 e3
        have := h5 j x hj 0 _ rfl
        rw [← e2, ← e3] at this
        simpa using this) (hlt2 _ rfl).2 (by have := HJ.out.2.1; simp; omega) (by rw [hll]; exact hc1) HJ.out.2.2
      rw [hll] at HJN
      have HJN' := Lib.hid HJN
      have HB2 := Lib.hid hT.2
      subst hv
      clear HJN hfull hT hrd hlt2 hg
      go_wp2_with (go_at_call 117; refine HJN'.out.mono ?_; rintro e_ w1 ⟨rfl, g1⟩; have G1 := Lib.hid g1; clear g1)
      go_returns
      refine ⟨?_, after HB2.out G1.out⟩
      show Ending.returned (.string ⟨(Lib.join (List.map ((fun x => x.data.toList) ∘ TV.str_) xs) [32]).toArray⟩) = _
      rw [← List.map_map]
end Go.Proofs.YtmbccnioijokfaaGreatDoor

namespace Go.Proofs.YtmbccnioijokfaaGreatDoor
open Go.RowKit Go.Lib
attribute [local go_sem] Oper.semAt_some
abbrev BldF (B b : Nat) (bs : List Value) (w : World) : Prop := Lib.IsBuilderF 102 5 B b bs w
abbrev BldA (B b : Nat) (p : Value) (bs : List Value) (w : World) : Prop := Lib.BuilderAtF 102 5 B b p bs w
set_option maxRecDepth 100000 in
set_option maxHeartbeats 1000000 in
theorem bused_c (b : Nat) (w : World) (h0 : w.cell? ⟨b, 0, none⟩ = some (.pointer (some ⟨b, 0, none⟩))) :
    Calls Tryz.prog 107 #[.pointer (some ⟨b, 0, none⟩)] w fun e w' => e = .returned (.tuple #[]) ∧ w' = w := by
  obtain ⟨j, hj, _⟩ := Option.map_eq_some_iff.1 (show (Tryz.prog.info? 102).map (·.size) = some 2 by kernel_rfl)
  go_enter Tryz.func107, Tryz.ntmps107
  go_wp2
  rw [Lib.run_neq_ptr_same w _ Tryz.underlying100 hj]
  go_wp2
  go_end0
  exact ⟨rfl, rfl⟩
set_option maxRecDepth 100000 in
set_option maxHeartbeats 1000000 in
theorem bfresh_c (b : Nat) (w : World) (h0 : w.cell? ⟨b, 0, none⟩ = some (.pointer none)) (hsh : w.shape? b = some (102, 2)) (hfz : w.frozen? ⟨b, 0, none⟩ = false) :
    Calls Tryz.prog 107 #[.pointer (some ⟨b, 0, none⟩)] w fun e w' => e = .returned (.tuple #[]) ∧ w' = w.setCell ⟨b, 0, none⟩ (.pointer (some ⟨b, 0, none⟩)) := by
  obtain ⟨j, hj, hjs⟩ := Option.map_eq_some_iff.1 (show (Tryz.prog.info? 102).map (·.size) = some 2 by kernel_rfl)
  go_enter Tryz.func107, Tryz.ntmps107
  go_wp2
  rw [Lib.run_to_unsafe w ⟨b, 0, none⟩ Tryz.underlying100 Tryz.underlying224 hj (by rw [hjs]; decide) hsh (Nat.zero_lt_succ 1)]
  simp only [Result.andThen]
  rw [Oper.upon_value]
  go_wp2
  rw [run_callFunc_extern Tryz.func157 (by kernel_rfl) (by kernel_rfl) (by kernel_rfl) (e := Extern.AbiNoEscape.same) (by kernel_rfl)]
  rw [Lib.run_noEscape]
  simp only [Result.andThen]
  rw [Oper.upon_value]
  go_wp2
  rw [Lib.run_from_unsafe w ⟨b, 0, none⟩ Tryz.underlying224 Tryz.underlying100 hj hsh (by kernel_rfl)]
  simp only [Result.andThen]
  rw [Oper.upon_value]
  go_wp2
  go_end0
  exact ⟨rfl, rfl⟩
theorem bcheck_c (B b : Nat) (bs : List Value) (w : World) (h : BldF B b bs w) :
    Calls Tryz.prog 107 #[.pointer (some ⟨b, 0, none⟩)] w fun e w' => e = .returned (.tuple #[]) ∧ (BldA B b (.pointer (some ⟨b, 0, none⟩)) bs w' ∧ Below B w w' ∧ Kept (fun g => g ≠ b) w w' ∧ w'.cell? ⟨b, 1, none⟩ = w.cell? ⟨b, 1, none⟩) := by
  rcases h with h | h
  · refine (bfresh_c b w h.cell0 h.shape h.frozen0).mono ?_
    rintro e w' ⟨rfl, rfl⟩
    exact ⟨rfl, h.used _, (Below.refl B w).setCell (p := ⟨b, 0, none⟩) h.1 _, (Kept.refl _ _).setCell (by simp) _, World.cell?_setCell_other _ _ _ _ (by simp)⟩
  · refine (bused_c b w h.cell0).mono ?_
    rintro e w' ⟨rfl, rfl⟩
    exact ⟨rfl, h, Below.refl B _, Kept.refl _ _, rfl⟩
set_option maxRecDepth 100000 in
set_option maxHeartbeats 2000000 in
theorem bwrite_c (B b : Nat) (bs : List Value) (s : ByteArray) (w : World) (h : BldF B b bs w) (hlen : bs.length + s.size ≤ 140737488355328) (hBw : B ≤ w.heap.size) :
    Calls Tryz.prog 65 #[.pointer (some ⟨b, 0, none⟩), .string s] w fun e w' => e = .returned (.tuple #[.int .i64 s.size, .nilIface]) ∧ (BldA B b (.pointer (some ⟨b, 0, none⟩)) (bs ++ Lib.strCells s) w' ∧ Below B w w' ∧ ∀ v, w.cell? ⟨b, 1, none⟩ = some v → Kept (fun g => g ≠ b ∧ v.ownBlock ≠ some g) w w') := by
  obtain ⟨i0, hi, hz0, hz1, hz2⟩ := info_parts (show (Tryz.prog.info? 5).map (fun i => (i.zero, i.size, i.bytes)) = some (some (.int .u8 0), 1, 1) by kernel_rfl)
  go_enter Tryz.func65, Tryz.ntmps65
  go_wp2_with (go_at_call 107; refine (bcheck_c B b bs _ h).mono ?_)
  rintro e w1 ⟨rfl, h1, hb1, kk1, ce1⟩
  have CE := Lib.hid (And.intro ce1 kk1)
  clear ce1 kk1
  obtain ⟨hB, v, hbk, hown, hne⟩ := h1
  have c0 : w1.cell? ⟨b, 0, none⟩ = some (.pointer (some ⟨b, 0, none⟩)) := by rw [Lib.cell_of_heap hbk]; rfl
  have c1 : w1.cell? ⟨b, 1, none⟩ = some v := by rw [Lib.cell_of_heap hbk]; rfl
  go_wp2_with (at_builtin; refine Lib.wpList_append_own_stringF _ rfl _ _ 51 9 rfl B 5 i0 Tryz.underlying51 Tryz.underlying9 hi hz0 hz1 hz2 _ _ _ rfl hown s rfl ?c3 ?c4 ?c5 ?_)
  case c3 => unfold maxLen; omega
  case c4 => omega
  case c5 => have := hb1.size; omega
  intro v' w2 hown' hgrow _
  have hlt : b < w1.heap.size := by
    rcases Nat.lt_or_ge b w1.heap.size with h' | h'
    · exact h'
    · simp [Array.getElem?_eq_none h'] at hbk
  have hb2 : w2.heap[b]? = some (.cells #[.pointer (some ⟨b, 0, none⟩), v] 102 (0, 0)) := by
    rw [hgrow.block b hlt (fun e => hne e.symm)]
    exact hbk
  have d0 : w2.cell? ⟨b, 0, none⟩ = some (.pointer (some ⟨b, 0, none⟩)) := by rw [Lib.cell_of_heap hb2]; rfl
  have d1 : w2.cell? ⟨b, 1, none⟩ = some v := by rw [Lib.cell_of_heap hb2]; rfl
  have f1 : w2.frozen? ⟨b, 1, none⟩ = false := Lib.frozen_of_heap hb2 1
  obtain ⟨ao, n', cap, rfl⟩ : ∃ ao n' cap, v' = .slice ao n' cap := by
    rcases hown'.2 with ⟨hv, _⟩ | ⟨g, cap, cur, fz, hv, _⟩
    · exact ⟨_, _, _, hv⟩
    · exact ⟨_, _, _, hv⟩
  go_wp2
  go_ret2
  refine ⟨rfl, ?_, ?_, ?_⟩
  · exact Lib.BuilderAtF.put (T := 102) (e := 5) hB hb2 (bs' := bs ++ Lib.strCells s) (by simpa [Lib.strCells_length] using hown') (by decide)
  · exact (hb1.grown hgrow (by have := hb1.size; omega) (fun k hk => (hown.lt k hk).1)).setCell (p := ⟨b, 1, none⟩) hB _
  · intro v0 hv0
    rw [← CE.out.1, c1] at hv0
    obtain rfl := Option.some.inj hv0
    exact ((CE.out.2.mono (K' := fun g => g ≠ b ∧ v.ownBlock ≠ some g) fun g h => h.1).grown hgrow (fun k hk h => h.2 hk)).setCell (fun h => h.1 rfl) _
end Go.Proofs.YtmbccnioijokfaaGreatDoor

namespace Go.Proofs.YtmbccnioijokfaaGreatDoor
open Go.RowKit Go.Maps
attribute [local go_sem] Oper.semAt_some
theorem sworld_c (s wd t q : Nat) (occ : Value) (S : SS) (w : World) (M : Nat → Prop) (h : SimA s wd t q occ S w M) : Calls Tryz.prog 27 #[.pointer (some ⟨s, 0, none⟩)] w fun r w' => r = .returned (.pointer (some ⟨wd, 0, none⟩)) ∧ w = w' := by
  obtain ⟨v, ds, Mw, Mq, h, -⟩ := h
  have c1 := h.blk.cell 1
  clear h
  go_enter Tryz.func27, Tryz.ntmps27
  go_wp2_with fail
  go_returns
  exact ⟨rfl, rfl⟩
theorem snow_c (s wd t q : Nat) (occ : Value) (S : SS) (w : World) (M : Nat → Prop) (h : SimA s wd t q occ S w M) : Calls Tryz.prog 35 #[.pointer (some ⟨s, 0, none⟩)] w fun r w' => r = .returned (.int .i64 S.now) ∧ w = w' := by
  obtain ⟨v, ds, Mw, Mq, h, -⟩ := h
  have c1 := h.blk.cell 3
  clear h
  go_enter Tryz.func35, Tryz.ntmps35
  go_wp2_with fail
  go_returns
  exact ⟨rfl, rfl⟩
theorem soccupy_c (s wd t q : Nat) (occ : Value) (F : Fn) (bd cp : Array Value) (S : SS) (w : World) (M : Nat → Prop) (h : SimA s wd t q occ S w M) : Calls Tryz.prog 152 #[.pointer (some ⟨s, 0, none⟩), .func F bd cp] w fun r w' => r = .returned (.tuple #[]) ∧ Aft (SimA s wd t q (.func F bd cp) S) w M w' := by
  obtain ⟨v, ds, Mw, Mq, h, hM⟩ := h
  have c1 : w.cell? ⟨s, 4, none⟩ = some occ := h.blk.cell 4
  have f1 := h.blk.frz 4
  have hk : Kept (fun b => b ≠ s) w (w.setCell ⟨s, 4, none⟩ (.func F bd cp)) := (Kept.refl _ _).setCell (by simp) _
  have HF := Lib.hid (show Aft (SimA s wd t q (.func F bd cp) S) w M (w.setCell ⟨s, 4, none⟩ (.func F bd cp)) from ⟨M, ⟨v, ds, Mw, Mq, h.self hk (h.blk.set_ 4 _) rfl rfl rfl rfl, hM⟩, fun b hb => .inl hb, hk.mono fun b hb e => hb ((hM b).2 (.inl e))⟩)
  clear h hM hk
  go_enter Tryz.func152, Tryz.ntmps152
  go_wp2_with fail
  go_returns
  exact ⟨rfl, HF.out⟩
def occ0 : Value := .func (.func 112) #[] #[]
def newSS (T : TS) (k : Nat) (budget : Int) : SS := ⟨T, k, newQ 4096, mnI (mxI budget 1) 64, 0, 0⟩
def NewSR (wd t : Nat) (S : SS) (w : World) (M : Nat → Prop) (r : Ending) (w' : World) : Prop := ∃ s q, r = .returned (.pointer (some ⟨s, 0, none⟩)) ∧ Aft (SimA s wd t q occ0 S) w M w' ∧ Below w.heap.size w w'
theorem sinew_c (wd t k : Nat) (T : TS) (budget : Int) (w : World) (M : Nat → Prop) (h : WdA wd t T k w M) : Calls Tryz.prog 71 #[.pointer (some ⟨wd, 0, none⟩), .int .i64 budget] w fun r w' => NewSR wd t (newSS T k budget) w M r w' := by
  have HQ := Lib.hid (qnew_c 4096 w)
  have hmn := @run_mn Tryz.prog
  have hmx := @run_mx Tryz.prog
  have HW := Lib.hid h
  clear h
  go_enter Tryz.func71, Tryz.ntmps71
  go_wp2_with (go_at_call 111; refine HQ.out.mono ?_; rintro e_ w1 ⟨q, Mq, rfl, Q1, n1, h1⟩)
  go_returns
  obtain ⟨W2, hW⟩ : ∃ W2, W2 = w1.alloc (.cells #[.pointer (some ⟨q, 0, none⟩), .pointer (some ⟨wd, 0, none⟩), .int .i64 (mnI (mxI budget 1) 64), .int .i64 0, occ0, .slice none 0 0] 111) := ⟨_, rfl⟩
  have C := Blk.fresh hW
  have h2 : Below w1.heap.size w1 W2 := by rw [hW]; exact bel_alloc _ _
  have h12 := after h1 h2
  unfold occ0 at hW
  rw [← hW]
  refine ⟨_, q, rfl, ⟨SimM w1.heap.size (.slice none 0 0) M Mq, ⟨.slice none 0 0, [], M, Mq, ⟨C, Owns.nil, Nat.le_refl _, (wdA_fit wd t T k).on HW.out h12, (qA_fit q _).on Q1 h2, fun b hb hb' => ?_⟩, fun _ => Iff.rfl⟩, fun b hb => ?_, (Kept.of_below h12).mono fun _ _ => trivial⟩, h12⟩
  · have := (HW.out.type hb).1
    have := n1 b hb'
    omega
  · rcases hb with rfl | hb | hb | hb
    · exact .inr h1.size
    · cases hb
    · exact .inl hb
    · exact .inr (n1 b hb)
end Go.Proofs.YtmbccnioijokfaaGreatDoor

namespace Go.Proofs.YtmbccnioijokfaaGreatDoor
open Go.RowKit Go.Maps
attribute [local go_sem] Oper.semAt_some
def TS.cell (T : TS) (c : Cl) : Int := T.at c.1 c.2.1 c.2.2
theorem SimAt.tells {w : World} {s wd t q : Nat} {occ v : Value} {S : SS} {ds : List Cl} {Mw Mq : Nat → Prop} (h : SimAt w s wd t q occ S v ds Mw Mq) (hn : S.T.l.length ≤ 1000) : Tells Tryz.prog 67 (.pointer (some ⟨t, 0, none⟩)) S.T.cell w := by
  obtain ⟨v, xs, Mt, h1, h2, h3, h4, hM⟩ := h.wd
  exact view_tells h4 hn
set_option maxRecDepth 100000 in
set_option maxHeartbeats 4000000 in
theorem wake0_c (s wd t q : Nat) (occ : Value) (S : SS) (c : Cl) (hc : Mid c) (hn : S.T.l.length ≤ 1000) (hk : wakeL S.T.cell c = []) (w : World) (M : Nat → Prop) (h : SimA s wd t q occ S w M) :
    Calls Tryz.prog 192 #[.pointer (some ⟨s, 0, none⟩), cellV c] w fun r w' => r = .returned (.tuple #[]) ∧ Below w.heap.size w w' := by
  obtain ⟨v, ds, Mw, Mq, h, hM⟩ := h
  obtain ⟨W, hW⟩ : ∃ W, W = w.alloc (.cells #[.int .i64 c.1, .int .i64 c.2.1, .int .i64 c.2.2] 43) := ⟨_, rfl⟩
  have H : Below w.heap.size w W := by rw [hW]; exact bel_alloc _ _
  have C : Blk W w.heap.size 43 #[.int .i64 c.1, .int .i64 c.2.1, .int .i64 c.2.2] := Blk.fresh hW
  have hS := h.on H
  have s1 := hS.blk.cell 1
  have HVW := Lib.hid (wview_c wd t S.k S.T W Mw hS.wd)
  have HWA := Lib.hid (wakes_c t S.T.cell c hc W (hS.tells hn))
  rw [hk] at HWA
  have HH := Lib.hid H
  obtain ⟨c0, c1, c2, -, -, -⟩ := C.c3
  clear h hS H C hc hn hk hM
  go_enter Tryz.func192, Tryz.ntmps192
  go_upto_region 1 with (fail)
  rw [← hW]
  clear hW
  go_upto_region 3 with first
    | (go_at_call 29; refine HVW.out.mono ?_; rintro e_ w1 ⟨rfl, rfl⟩)
    | (go_at_call 250; refine HWA.out.mono ?_; rintro e_ w2 ⟨v2, rfl, o2, g2⟩; have G2 := Lib.hid (after HH.out g2); obtain ⟨q2, cp2, rfl, -⟩ := o2.form lenCl; clear o2 g2)
  refine wp_loop_rounds 1 ?_
  rw [rounds_succ]
  go_wp2_with fail
  go_returns
  exact ⟨rfl, G2.out⟩
end Go.Proofs.YtmbccnioijokfaaGreatDoor

namespace Go.Proofs.YtmbccnioijokfaaGreatDoor
open Go.RowKit Go.Maps
attribute [local go_sem] Oper.semAt_some
structure CanSet (T : TS) (c : Cl) (n : Nat) (i : TI) (b : Int) : Prop where
  find : T.find (chkOf c.1 c.2.2) = n
  get : T.l[n]? = some i
  is : i.is (chkOf c.1 c.2.2) = true
  y : inY c.2.1 = true
  may : mayK b = true
def TS.put (T : TS) (c : Cl) (n : Nat) (i : TI) (b : Int) : TS := { T with l := T.l.eraseIdx n ++ [i.set c.1 c.2.1 c.2.2 b] }
theorem put_len {T : TS} {c : Cl} {n : Nat} {i : TI} {b : Int} (h : T.l[n]? = some i) : (T.put c n i b).l.length = T.l.length := by
  have hn : n < T.l.length := (List.getElem?_eq_some_iff.1 h).1
  unfold TS.put
  simp [List.length_eraseIdx, hn]
  omega
theorem Aft.under {P : Asn} {w w' : World} {M M' : Nat → Prop} (h : Aft P w M' w') (hM : ∀ b, M b ↔ M' b) : Aft P w M w' := by
  obtain ⟨M2, m1, m2, m3⟩ := h
  exact ⟨M2, m1, fun b hb => (m2 b hb).imp_left (hM b).2, m3.mono fun b hb h => hb ((hM b).2 h)⟩
set_option maxRecDepth 100000 in
set_option maxHeartbeats 4000000 in
theorem sedit_c (s wd t q n : Nat) (occ : Value) (S S' : SS) (i : TI) (c : Cl) (b : Int) (hc : Mid c) (hn : S.T.l.length ≤ 1000) (hs : CanSet S.T c n i b) (hk : S.k ≤ 1000000) (w : World) (M : Nat → Prop) (h : SimA s wd t q occ S w M)
    (hW : ∀ W1 M1, SimA s wd t q occ { S with T := S.T.put c n i b, k := S.k + 1 } W1 M1 → Calls Tryz.prog 192 #[.pointer (some ⟨s, 0, none⟩), cellV c] W1 fun r w' => r = .returned (.tuple #[]) ∧ Aft (SimA s wd t q occ S') W1 M1 w') :
    Calls Tryz.prog 146 #[.pointer (some ⟨s, 0, none⟩), cellV c, .int .i64 b] w fun r w' => r = .returned (.int .i64 0) ∧ Aft (SimA s wd t q occ S') w M w' := by
  obtain ⟨v, ds, Mw, Mq, h, hM⟩ := h
  obtain ⟨W, hWe⟩ : ∃ W, W = w.alloc (.cells #[.int .i64 c.1, .int .i64 c.2.1, .int .i64 c.2.2] 43) := ⟨_, rfl⟩
  have H : Below w.heap.size w W := by rw [hWe]; exact bel_alloc _ _
  have C : Blk W w.heap.size 43 #[.int .i64 c.1, .int .i64 c.2.1, .int .i64 c.2.2] := Blk.fresh hWe
  have s1 := fun d os => (((h.on H).blk).re d os).cell 1
  obtain ⟨c0, c1, c2⟩ := C.re3
  have hin : In64 c.1 ∧ In64 c.2.2 := by
    obtain ⟨h1, h2, h3⟩ := hc
    unfold In64
    omega
  have HST := Lib.hid fun W2 (g : Below w.heap.size w W2) => wset_c wd t S.k n S.T i c.1 c.2.1 c.2.2 b W2 Mw ((wdA_fit wd t S.T S.k).on h.wd g) hin.1 hin.2 hn hs.find hs.get hs.is hs.y hs.may hk
  have HS := Lib.hid (And.intro h hM)
  have HC := Lib.hid C
  have HH := Lib.hid H
  have HW := Lib.hid hW
  clear h H C hc hn hs hk hM hW hin
  go_enter Tryz.func146, Tryz.ntmps146
  go_upto_region 1 with (fail)
  rw [← hWe]
  clear hWe
  refine wp_sched [0, 0, 0, 0, 0, 0, 3, 3] (fun _ _ _ => True) (by kernel_rfl) (by kernel_rfl) (fun _ _ _ _ h _ => h) ?_
  repeat (first | (refine wpQs_s ?_) | (refine wpQs_q (fun K hK => ?_); go_simp; first | (refine hK _ ?_; clear hK K) | (apply Exists.intro; refine ⟨fun _ => ?_, hK _ ?_⟩; (fail); clear hK K)) | (refine wpQs_f (fun K hK => ?_); go_simp; refine hK _ ?_; clear hK K))
  refine wpQs_nil ?_
  repeat (first | (refine wpLs_skip ?_) | (refine wpLs_one ?lsA (fun v_ => ?_); case lsA => (intro w_ hw_ hp_; (fail))))
  refine wpLs_nilB ?_
  simp only [tails]
  intro W2 g2 _
  have G2 := Lib.hid (after HH.out g2)
  have HC2 := Lib.hid (HC.out.on g2)
  have HS2 := Lib.hid (HST.out W2 G2.out)
  have HAT := Lib.hid (HS.out.1.on G2.out)
  clear g2 s1 c0 c1 c2 HST
  go_upto_region 3 with (go_at_call 191; refine HS2.out.mono ?_; rintro e_ w3 ⟨rfl, k3⟩; have K3 := Lib.hid k3; clear k3)
  obtain ⟨M3, a3, m3, k3⟩ := HAT.out.world K3.out
  have hc3 : Blk w3 w.heap.size 43 #[.int .i64 c.1, .int .i64 c.2.1, .int .i64 c.2.2] := k3.blk (fun e => by have := (HS.out.1.type e).1; omega) HC2.out
  obtain ⟨c0, c1, c2, -, -, -⟩ := hc3.c3
  have HW3 := Lib.hid (HW.out w3 M3 a3)
  have HF := Lib.hid (And.intro m3 k3)
  clear hc3 a3 m3 k3 HW
  go_wp2_with (go_at_call 192; refine HW3.out.mono ?_; rintro e_ w4 ⟨rfl, k4⟩; have K4 := Lib.hid k4; clear k4)
  go_returns
  exact ⟨rfl, (Aft.ahead G2.out (Aft.bind HF.out.1 HF.out.2 K4.out)).under HS.out.2⟩
end Go.Proofs.YtmbccnioijokfaaGreatDoor

namespace Go.Proofs.YtmbccnioijokfaaGreatDoor
theorem is_iff {p : Int × Int} {i : TI} : i.is p = true ↔ (i.x, i.z) = p := by
  unfold TI.is
  rw [posB_iff]
  exact ⟨fun h => Prod.ext h.1 h.2, fun h => by rw [← h]; exact ⟨rfl, rfl⟩⟩
theorem find_is : ∀ {l : List TI} {i : TI} {p : Int × Int}, (l.map fun i => (i.x, i.z)).Nodup → i ∈ l → i.is p = true → l.find? (TI.is p) = some i
  | [], _, _, _, h, _ => by cases h
  | a :: l, i, p, hn, hi, hp => by
    rw [List.map_cons, List.nodup_cons] at hn
    cases ha : a.is p
    · rw [List.find?_cons_of_neg (by rw [ha]; decide)]
      rcases List.mem_cons.1 hi with rfl | hi
      · rw [ha] at hp; cases hp
      · exact find_is hn.2 hi hp
    · rw [List.find?_cons_of_pos ha]
      rcases List.mem_cons.1 hi with rfl | hi
      · rfl
      · exact absurd (List.mem_map.2 ⟨i, hi, by rw [is_iff.1 hp, is_iff.1 ha]⟩) hn.1
theorem touch_perm {α : Type} : ∀ {l : List α} {n : Nat} {a : α}, l[n]? = some a → (l.eraseIdx n ++ [a]).Perm l
  | [], _, _, h => by cases h
  | x :: l, 0, a, h => by
    obtain rfl : x = a := by simpa using h
    exact List.perm_append_comm
  | x :: l, n + 1, a, h => by
    have := touch_perm (l := l) (n := n) (a := a) (by simpa using h)
    exact this.cons x
theorem map_erase {α β : Type} (f : α → β) : ∀ (l : List α) (n : Nat), (l.eraseIdx n).map f = (l.map f).eraseIdx n
  | [], _ => rfl
  | _ :: _, 0 => rfl
  | x :: l, n + 1 => by
    show f x :: (l.eraseIdx n).map f = f x :: (l.map f).eraseIdx n
    rw [map_erase f l n]
structure GoodT (T : TS) : Prop where
  len : ∀ i ∈ T.l, i.cs.length = 8192
  one : T.here.Nodup
section
variable {T : TS} {c d : Cl} {n : Nat} {i : TI} {b : Int}
theorem put_here (h : T.l[n]? = some i) : (T.put c n i b).here.Perm T.here := by
  have h1 : T.here[n]? = some (i.x, i.z) := by unfold TS.here; rw [List.getElem?_map, h]; rfl
  have h2 : (T.put c n i b).here = T.here.eraseIdx n ++ [(i.x, i.z)] := by
    unfold TS.put TS.here TI.set
    simp [map_erase]
  rw [h2]
  exact touch_perm h1
theorem put_mem {j : TI} (hj : j ∈ (T.put c n i b).l) : j = i.set c.1 c.2.1 c.2.2 b ∨ j ∈ T.l := by
  unfold TS.put at hj
  rcases List.mem_append.1 hj with hj | hj
  · exact .inr (List.mem_of_mem_eraseIdx hj)
  · exact .inl (by simpa using hj)
theorem GoodT.put (g : GoodT T) (h : T.l[n]? = some i) : GoodT (T.put c n i b) where
  len := fun j hj => by
    rcases put_mem hj with rfl | hj
    · unfold TI.set; rw [List.length_set]; exact g.len i (List.mem_of_getElem? h)
    · exact g.len j hj
  one := (put_here h).nodup_iff.2 g.one
theorem idxI_inj (h1 : 0 ≤ c.2.1 ∧ c.2.1 < 32) (h2 : 0 ≤ d.2.1 ∧ d.2.1 < 32) (hk : chkOf c.1 c.2.2 = chkOf d.1 d.2.2) (h : (idxI c.1 c.2.1 c.2.2).toNat = (idxI d.1 d.2.1 d.2.2).toNat) : c = d := by
  obtain ⟨x, y, z⟩ := c
  obtain ⟨x', y', z'⟩ := d
  unfold chkOf at hk
  unfold idxI at h
  injection hk with k1 k2
  dsimp only at *
  have : x = x' ∧ y = y' ∧ z = z' := by omega
  obtain ⟨rfl, rfl, rfl⟩ := this
  rfl
theorem inY_bd {y : Int} (h : inY y = true) : 0 ≤ y ∧ y < 32 := by unfold inY at h; simpa using h
theorem set_at (hl : i.cs.length = 8192) (hc : inY c.2.1 = true) (hk : chkOf c.1 c.2.2 = chkOf d.1 d.2.2) : (i.set c.1 c.2.1 c.2.2 b).at d.1 d.2.1 d.2.2 = if d = c then b else i.at d.1 d.2.1 d.2.2 := by
  have hcb := inY_bd hc
  unfold TI.at
  by_cases hd : d.2.1 < 0
  · rw [if_pos hd, if_pos hd, if_neg (fun e => by rw [e] at hd; omega)]
  · rw [if_neg hd, if_neg hd]
    cases hy : inY d.2.1
    · simp only [Bool.false_eq_true, if_false]
      rw [if_neg (fun e => by subst e; rw [hc] at hy; cases hy)]
    · simp only [if_true]
      have hdb := inY_bd hy
      unfold chB TI.set
      dsimp only
      have hi := idxI_bd (x := c.1) (z := c.2.2) hcb
      rw [List.getElem?_set]
      by_cases he : (idxI c.1 c.2.1 c.2.2).toNat = (idxI d.1 d.2.1 d.2.2).toNat
      · rw [if_pos he, if_pos (by rw [hl]; omega), if_pos (idxI_inj hcb hdb hk he).symm]
        rfl
      · rw [if_neg he, if_neg (fun e => he (by rw [e]))]
theorem CanSet.cell (g : GoodT T) (h : CanSet T c n i b) (d : Cl) : (T.put c n i b).cell d = if d = c then b else T.cell d := by
  have g' : GoodT (T.put c n i b) := g.put h.get
  have hi : i ∈ T.l := List.mem_of_getElem? h.get
  have hnew : i.set c.1 c.2.1 c.2.2 b ∈ (T.put c n i b).l := List.mem_append_right _ (by simp)
  unfold TS.cell TS.at
  by_cases hk : chkOf c.1 c.2.2 = chkOf d.1 d.2.2
  · have h1 : i.is (chkOf d.1 d.2.2) = true := by rw [← hk]; exact h.is
    rw [find_is g'.one hnew h1, find_is g.one hi h1]
    exact set_at (g.len i hi) h.y hk
  · rw [if_neg (fun e => hk (by rw [e]))]
    have hno : ∀ j : TI, (j.x, j.z) = (i.x, i.z) → j.is (chkOf d.1 d.2.2) = false := fun j hj => by
      cases hjj : j.is (chkOf d.1 d.2.2)
      · rfl
      · exact absurd ((is_iff.1 h.is).symm.trans (hj.symm.trans (is_iff.1 hjj))) hk
    suffices e : (T.put c n i b).l.find? (TI.is (chkOf d.1 d.2.2)) = T.l.find? (TI.is (chkOf d.1 d.2.2)) by rw [e]
    cases hf : T.l.find? (TI.is (chkOf d.1 d.2.2)) with
    | none =>
      rw [List.find?_eq_none] at hf ⊢
      intro j hj
      rcases put_mem hj with rfl | hj
      · rw [hno (i.set c.1 c.2.1 c.2.2 b) rfl]; decide
      · exact hf j hj
    | some j =>
      have hj := List.mem_of_find?_eq_some hf
      have hp := List.find?_some hf
      refine find_is g'.one ?_ hp
      have hij : j ≠ i := fun e => by rw [e, hno i rfl] at hp; cases hp
      have := (touch_perm h.get).mem_iff.2 hj
      rcases List.mem_append.1 this with h1 | h1
      · exact List.mem_append_left _ h1
      · exact absurd (by simpa using h1) hij
end
theorem new_high (s px pz x y z : Int) (hy : 14 ≤ y) : (newI s px pz).at x y z = 0 := by
  unfold TI.at newI
  rw [if_neg (by omega)]
  cases h : inY y
  · rfl
  · rw [if_pos rfl]
    have hb := idxI_bd (x := x) (z := z) (inY_bd h)
    unfold chB genL
    dsimp only
    rw [List.getElem?_map, List.getElem?_range (by omega)]
    show cellG s px pz _ = 0
    unfold cellG colG
    have hg := groundV_bd s (px * 16 + ((((idxI x y z).toNat % 256 : Nat)) : Int) % 16) (pz * 16 + ((((idxI x y z).toNat % 256 : Nat)) : Int) / 16 % 16)
    generalize groundV s _ _ = g at hg
    have hyy : (((idxI x y z).toNat : Nat) : Int) / 256 = y := by
      rw [Int.toNat_of_nonneg hb.1]; unfold idxI; omega
    rw [hyy]
    unfold ofB
    have := inY_bd h
    rw [if_neg (by omega), if_neg (by omega), if_neg (by omega), if_neg (by omega), if_neg (by omega)]
theorem newI_len (s px pz : Int) : (newI s px pz).cs.length = 8192 := by unfold newI genL; simp
structure High (T : TS) (f : Cl → Int) : Prop where
  good : GoodT T
  len : T.l.length = 5
  ring : ∀ p ∈ ringL 0 0, p ∈ T.here
  cell : ∀ c : Cl, chkOf c.1 c.2.2 ∈ ringL 0 0 → 16 ≤ c.2.1 → T.cell c = f c
def updF (f : Cl → Int) (c : Cl) (b : Int) : Cl → Int := fun d => if d = c then b else f d
theorem High.put {T : TS} {f : Cl → Int} {c : Cl} {n : Nat} {i : TI} {b : Int} (h : High T f) (s : CanSet T c n i b) : High (T.put c n i b) (updF f c b) where
  good := h.good.put s.get
  len := (put_len s.get).trans h.len
  ring := fun p hp => (put_here s.get).mem_iff.2 (h.ring p hp)
  cell := fun d hd hy => by rw [s.cell h.good d]; unfold updF; rw [h.cell d hd hy]
theorem High.can {T : TS} {f : Cl → Int} {c : Cl} {b : Int} (h : High T f) (hc : chkOf c.1 c.2.2 ∈ ringL 0 0) (hy : inY c.2.1 = true) (hb : mayK b = true) : ∃ n i, CanSet T c n i b := by
  rcases find_ways T (chkOf c.1 c.2.2) with ⟨-, h2⟩ | ⟨n, i, h1, h2, h3, -⟩
  · obtain ⟨i, hi, he⟩ := List.mem_map.1 (h.ring _ hc)
    rw [List.find?_eq_none] at h2
    exact absurd (is_iff.2 he) (h2 i hi)
  · exact ⟨n, i, h1, h2, h3, hy, hb⟩
theorem High.ready {T : TS} {f : Cl → Int} (h : High T f) {x z : Int} (hx : 0 ≤ x ∧ x < 16) (hz : 0 ≤ z ∧ z < 16) : T.ready x z = true := by
  unfold TS.ready
  rw [show x / 16 = 0 by omega, show z / 16 = 0 by omega, List.all_eq_true]
  intro p hp
  exact decide_eq_true (h.ring p hp)
def inMid (c : Cl) : Bool := decide (2 ≤ c.1) && (decide (c.1 ≤ 12) && (decide (16 ≤ c.2.1) && (decide (c.2.1 ≤ 40) && (decide (2 ≤ c.2.2) && decide (c.2.2 ≤ 12)))))
def overF (f g : Cl → Int) : Cl → Int := fun c => bif inMid c then f c else g c
theorem High.over {T : TS} {f : Cl → Int} (h : High T f) : T.cell = overF f T.cell := by
  funext c
  unfold overF
  cases hm : inMid c
  · rfl
  · unfold inMid at hm
    simp only [Bool.and_eq_true, decide_eq_true_eq] at hm
    refine h.cell c ?_ hm.2.2.1
    unfold chkOf
    rw [show c.1 / 16 = 0 by omega, show c.2.2 / 16 = 0 by omega]
    exact List.mem_cons_self
end Go.Proofs.YtmbccnioijokfaaGreatDoor

namespace Go.Proofs.YtmbccnioijokfaaGreatDoor
open Go.RowKit Go.Maps
attribute [local go_sem] Oper.semAt_some
abbrev occV (e : Nat) : Value := .func (.func 145) #[.pointer (some ⟨e, 0, none⟩)] #[]
end Go.Proofs.YtmbccnioijokfaaGreatDoor

namespace Go.Proofs.YtmbccnioijokfaaGreatDoor
open Go.RowKit Go.Maps
attribute [local go_sem] Oper.semAt_some
def nowN (S : SS) : Int := mnI (S.now + 1) 1099511627776
def SS.tick (S : SS) : SS := { S with now := nowN S }
set_option maxRecDepth 100000 in
set_option maxHeartbeats 4000000 in
theorem stick_c (s wd t q : Nat) (occ : Value) (S S2 : SS) (out : List Cl) (Q' : QS) (ht : 0 ≤ S.now ∧ S.now ≤ 1099511627776) (ho : out.length ≤ 1) (w : World) (M : Nat → Prop) (h : SimA s wd t q occ S w M)
    (hD : ∀ W1 M1, QA q S.Q W1 M1 → Calls Tryz.prog 202 #[.pointer (some ⟨q, 0, none⟩), .int .i64 (nowN S), .int .i64 S.budget] W1 fun r w' => DueR q Q' out W1 M1 r w')
    (hU : ∀ c, out = [c] → ∀ W1 M1, SimA s wd t q occ { S.tick with Q := Q' } W1 M1 → Kept (fun b => ¬ M b) w W1 → Calls Tryz.prog 203 #[.pointer (some ⟨s, 0, none⟩), cellV c] W1 fun r w' => r = .returned (.tuple #[]) ∧ Aft (SimA s wd t q occ S2) W1 M1 w')
    (hN : out = [] → S2 = { S.tick with Q := Q' }) :
    Calls Tryz.prog 153 #[.pointer (some ⟨s, 0, none⟩)] w fun r w' => r = .returned (.int .i64 out.length) ∧ Aft (SimA s wd t q occ S2) w M w' := by
  obtain ⟨v, ds, Mw, Mq, h, hM⟩ := h
  have hmn := @run_mn Tryz.prog
  have s3 := h.blk.cell 3
  have f3 := h.blk.frz 3
  have hw : IntKind.i64.wrap (S.now + 1) = S.now + 1 := IntWalk.i64_in _ (by omega)
  obtain ⟨W1, hW1⟩ : ∃ W1, W1 = w.setCell ⟨s, 3, none⟩ (.int .i64 (nowN S)) := ⟨_, rfl⟩
  have hk1 : Kept (fun b => b ≠ s) w W1 := by rw [hW1]; exact (Kept.refl _ _).setCell (by simp) _
  have h1 : SimAt W1 s wd t q occ S.tick v ds Mw Mq := h.self hk1 (by rw [hW1]; exact h.blk.set_ 3 _) rfl rfl rfl rfl
  have HS := Lib.hid (And.intro h (And.intro hM hk1))
  have HS1 := Lib.hid h1
  have HD := Lib.hid fun W2 (g : Below W1.heap.size W1 W2) => hD W2 Mq ((qA_fit q S.Q).on h1.q g)
  have HU := Lib.hid hU
  have HN := Lib.hid hN
  have HO := Lib.hid ho
  have d0 := fun d os => (h1.blk.re d os).cell 0
  have d2 := fun d os => (h1.blk.re d os).cell 2
  have d3 : ∀ d os, (Go.Sort.grow (redrawn W1 d) os).cell? ⟨s, 3, none⟩ = some (.int .i64 (nowN S)) := fun d os => (h1.blk.re d os).cell 3
  have d2' : ∀ d os, (Go.Sort.grow (redrawn W1 d) os).cell? ⟨s, 2, none⟩ = some (.int .i64 S.budget) := fun d os => (h1.blk.re d os).cell 2
  unfold nowN at hW1
  clear h hM h1 hk1 hD hU hN ho ht d2
  go_enter Tryz.func153, Tryz.ntmps153
  go_upto_region 2 with (fail)
  rw [← hW1]
  clear hW1 s3 f3
  refine wp_sched [0, 0, 0, 0, 0, 0, 0, 0, 0, 0, 0, 0, 3, 3] (fun _ _ _ => True) (by kernel_rfl) (by kernel_rfl) (fun _ _ _ _ h _ => h) ?_
  repeat (first | (refine wpQs_s ?_) | (refine wpQs_q (fun K hK => ?_); go_simp; first | (refine hK _ ?_; clear hK K) | (apply Exists.intro; refine ⟨fun _ => ?_, hK _ ?_⟩; (fail); clear hK K)) | (refine wpQs_f (fun K hK => ?_); go_simp; refine hK _ ?_; clear hK K))
  refine wpQs_nil ?_
  repeat (first | (refine wpLs_skip ?_) | (refine wpLs_one ?lsA (fun v_ => ?_); case lsA => (intro w_ hw_ hp_; (fail))))
  refine wpLs_nilB ?_
  simp only [tails]
  intro W2 g2 _
  have G2 := Lib.hid g2
  have HD2 := Lib.hid (HD.out W2 g2)
  clear g2 d0 d2' d3 HD
  go_upto_region 3 with (go_at_call 202; refine HD2.out.mono ?_; rintro e_ w3 ⟨v3, rfl, o3, k3⟩; have K3 := Lib.hid k3; have O3 := Lib.hid o3; obtain ⟨q3, c3, rfl, -⟩ := o3.form lenCl; clear k3 o3)
  have haft := (HS1.out.on G2.out).queue K3.out
  have hall : Aft (SimA s wd t q occ { S.tick with Q := Q' }) w M w3 := (Aft.bind (fun b hb => .inl hb) (HS.out.2.2.mono fun b hb e => hb (.inl e)) (Aft.ahead G2.out haft)).under HS.out.2.1
  have HAL := Lib.hid hall
  clear haft hall HS HS1 HD2 G2
  rcases out with _ | ⟨c, rest⟩
  · go_upto_region 4 with (fail)
    refine wp_loop_rounds 1 ?_
    rw [rounds_succ]
    go_wp2_with fail
    go_returns
    rw [HN.out (by simp)]
    exact ⟨rfl, HAL.out⟩
  · obtain rfl : rest = [] := by
      have := HO.out
      simp at this
      exact this
    obtain ⟨M4, a4, m4, k4⟩ := HAL.out
    obtain ⟨q', cap', hv', -, -, hrd, -, -⟩ := O3.out.form lenCl
    have hqq : q3 = q' := by simp at hv'; exact hv'.1
    subst hqq
    obtain ⟨g, o, rfl, h5⟩ := hrd (by simp)
    have r0 : w3.cell? ⟨g, o, none⟩ = some (.int .i64 c.1) := h5 0 _ rfl 0 _ rfl
    have r1 : w3.cell? ⟨g, o + 1, none⟩ = some (.int .i64 c.2.1) := h5 0 _ rfl 1 _ rfl
    have r2 : w3.cell? ⟨g, o + 2, none⟩ = some (.int .i64 c.2.2) := h5 0 _ rfl 2 _ rfl
    clear h5 hrd hv'
    obtain ⟨W4, hW4⟩ : ∃ W4, W4 = w3.alloc (.cells #[.int .i64 c.1, .int .i64 c.2.1, .int .i64 c.2.2] 43) := ⟨_, rfl⟩
    have g4 : Below w3.heap.size w3 W4 := by rw [hW4]; exact bel_alloc _ _
    obtain ⟨x0, x1, x2, -, -, -⟩ := (Blk.fresh hW4).c3
    have HU4 := Lib.hid (HU.out c rfl W4 M4 ((simA_fit s wd t q occ _).on a4 g4) (k4.on g4))
    have H4 := Lib.hid (And.intro m4 (And.intro k4 g4))
    clear a4 m4 k4 g4 HU HAL
    go_upto_region 4 with (fail)
    refine wp_loop_rounds 2 ?_
    rw [rounds_succ]
    go_upto_region 6 with (fail)
    rw [← hW4]
    clear hW4 r0 r1 r2
    go_wp2_with (go_at_call 203; refine HU4.out.mono ?_; rintro e_ w5 ⟨rfl, k5⟩; have K5 := Lib.hid k5; clear k5)
    rw [rounds_succ]
    go_wp2_with fail
    go_returns
    exact ⟨rfl, Aft.bind H4.out.1 H4.out.2.1 (Aft.ahead H4.out.2.2 K5.out)⟩
end Go.Proofs.YtmbccnioijokfaaGreatDoor

namespace Go.Proofs.YtmbccnioijokfaaGreatDoor
open Go.RowKit Go.Maps
attribute [local go_sem] Oper.semAt_some
abbrev engC (s : Nat) (p : Option Addr) : Array Value := #[.pointer (some ⟨s, 0, none⟩), .pointer p, .pointer none, .pointer none, .pointer none, .pointer none, .pointer none, .pointer none, .pointer none, .pointer none, .pointer none, .pointer none, .pointer none, .pointer none, .pointer none, .pointer none, .pointer none]
theorem esim_c (e s : Nat) (p : Option Addr) (w : World) (h : Blk w e 71 (engC s p)) : Calls Tryz.prog 28 #[.pointer (some ⟨e, 0, none⟩)] w fun r w' => r = .returned (.pointer (some ⟨s, 0, none⟩)) ∧ w = w' := by
  have c0 := h.cell 0
  clear h
  go_enter Tryz.func28, Tryz.ntmps28
  go_wp2_with fail
  go_returns
  exact ⟨rfl, rfl⟩
theorem eat0_c (e s : Nat) (p : Option Addr) (w : World) (h : Blk w e 71 (engC s p)) : Calls Tryz.prog 31 #[.pointer (some ⟨e, 0, none⟩), .int .i64 0] w fun r w' => r = .returned (.pointer p) ∧ w = w' := by
  have c1 := h.cell 1
  clear h
  go_enter Tryz.func31, Tryz.ntmps31
  go_wp2_with fail
  go_returns
  exact ⟨rfl, rfl⟩
structure Lf where
  a : Nat
  b : BD
  x : Int
  z : Int
  j : Bool
abbrev lifeC (l : Lf) : Array Value := #[.int .i64 l.b.1, .int .i64 l.b.2.1, .int .i64 l.b.2.2.1, .int .i64 l.b.2.2.2.1, .int .i64 l.b.2.2.2.2.1, .int .i64 l.b.2.2.2.2.2.1, .int .i64 l.b.2.2.2.2.2.2.1, .int .i64 l.b.2.2.2.2.2.2.2.1, .bool l.b.2.2.2.2.2.2.2.2, .int .i64 l.x, .int .i64 l.z, .bool l.j]
def lfP : Option Lf → Option Addr
  | none => none
  | some l => some ⟨l.a, 0, none⟩
structure EngAt (w : World) (e s wd t q : Nat) (occ : Value) (S : SS) (L : Option Lf) (Ms : Nat → Prop) : Prop where
  blk : Blk w e 71 (engC s (lfP L))
  life : ∀ l, L = some l → Blk w l.a 83 (lifeC l)
  sim : SimA s wd t q occ S w Ms
def EngM (e : Nat) (L : Option Lf) (Ms : Nat → Prop) (b : Nat) : Prop := b = e ∨ (∃ l, L = some l ∧ b = l.a) ∨ Ms b
def EngA (e s wd t q : Nat) (occ : Value) (S : SS) (L : Option Lf) : Asn := fun w M => ∃ Ms, EngAt w e s wd t q occ S L Ms ∧ ∀ b, M b ↔ EngM e L Ms b
theorem eng_no : ¬ SimTy 71 ∧ ¬ SimTy 83 := by
  refine ⟨fun h => ?_, fun h => ?_⟩ <;>
  · rcases h with h | h | h | h
    · revert h; decide
    · revert h; decide
    · rcases h with h | h | h | h | h | h | h | h | h | h <;> revert h <;> decide
    · rcases h with h | h <;> revert h <;> decide
theorem SimA.type {w : World} {s wd t q : Nat} {occ : Value} {S : SS} {M : Nat → Prop} (h : SimA s wd t q occ S w M) {b : Nat} (hb : M b) : b < w.heap.size ∧ ∀ ty cs, Blk w b ty cs → SimTy ty := by
  obtain ⟨v, ds, Mw, Mq, h, hM⟩ := h
  exact h.type ((hM b).1 hb)
end Go.Proofs.YtmbccnioijokfaaGreatDoor

namespace Go.Proofs.YtmbccnioijokfaaGreatDoor
open Go.RowKit Go.Maps
attribute [local go_sem] Oper.semAt_some
section
variable {w w' : World} {e s wd t q : Nat} {occ : Value} {S : SS} {L : Option Lf} {Ms M K : Nat → Prop}
theorem EngAt.type (h : EngAt w e s wd t q occ S L Ms) {b : Nat} (hb : EngM e L Ms b) : b < w.heap.size ∧ ∀ ty cs, Blk w b ty cs → ty = 71 ∨ ty = 83 ∨ SimTy ty := by
  rcases hb with rfl | ⟨l, hl, rfl⟩ | hb
  · exact ⟨h.blk.lt, fun ty cs hB => .inl (one_type hB h.blk)⟩
  · exact ⟨(h.life l hl).lt, fun ty cs hB => .inr (.inl (one_type hB (h.life l hl)))⟩
  · exact ⟨(h.sim.type hb).1, fun ty cs hB => .inr (.inr ((h.sim.type hb).2 ty cs hB))⟩
theorem EngAt.kept (h : EngAt w e s wd t q occ S L Ms) (hk : Kept K w w') (k1 : ∀ b, EngM e L Ms b → K b) (k2 : ∀ b cs, Blk w b 5 cs → K b) : EngAt w' e s wd t q occ S L Ms where
  blk := hk.blk (k1 _ (.inl rfl)) h.blk
  life := fun l hl => hk.blk (k1 _ (.inr (.inl ⟨l, hl, rfl⟩))) (h.life l hl)
  sim := (simA_fit s wd t q occ S).kept h.sim hk (fun b hb => k1 b (.inr (.inr hb))) k2
theorem engA_fit (e s wd t q : Nat) (occ : Value) (S : SS) (L : Option Lf) : Asn.Fit 5 (EngA e s wd t q occ S L) where
  lt := fun ⟨Ms, h, hM⟩ b hb => (h.type ((hM b).1 hb)).1
  nob := fun ⟨Ms, h, hM⟩ b hb cs hB => by
    rcases (h.type ((hM b).1 hb)).2 _ _ hB with h1 | h1 | h1
    · revert h1; decide
    · revert h1; decide
    · rcases (hM b).1 hb with h2 | ⟨l, hl, h2⟩ | h2
      · subst h2; exact absurd (one_type hB h.blk) (by decide)
      · subst h2; exact absurd (one_type hB (h.life l hl)) (by decide)
      · exact (simA_fit s wd t q occ S).nob h.sim b h2 cs hB
  kept := fun ⟨Ms, h, hM⟩ hk k1 k2 => ⟨Ms, h.kept hk (fun b hb => k1 b ((hM b).2 hb)) k2, hM⟩
theorem EngAt.e_no (h : EngAt w e s wd t q occ S L Ms) : ¬ Ms e := fun hb => eng_no.1 ((h.sim.type hb).2 _ _ h.blk)
theorem EngAt.l_no (h : EngAt w e s wd t q occ S L Ms) {l : Lf} (hl : L = some l) : ¬ Ms l.a ∧ l.a ≠ e := ⟨fun hb => eng_no.2 ((h.sim.type hb).2 _ _ (h.life l hl)), fun he => by have := h.life l hl; rw [he] at this; exact absurd (one_type this h.blk) (by decide)⟩
theorem EngAt.turn (h : EngAt w e s wd t q occ S L Ms) {S' : SS} {occ' : Value} (k : Aft (SimA s wd t q occ' S') w Ms w') : Aft (EngA e s wd t q occ' S' L) w (EngM e L Ms) w' := by
  obtain ⟨Ms', k1, k2, k3⟩ := k
  refine ⟨EngM e L Ms', ⟨Ms', ⟨k3.blk h.e_no h.blk, fun l hl => k3.blk (h.l_no hl).1 (h.life l hl), k1⟩, fun _ => Iff.rfl⟩, fun b hb => ?_, k3.mono fun b hb h => hb (.inr (.inr h))⟩
  rcases hb with hb | hb | hb
  · exact .inl (.inl hb)
  · exact .inl (.inr (.inl hb))
  · exact (k2 b hb).imp_left fun h => .inr (.inr h)
end
end Go.Proofs.YtmbccnioijokfaaGreatDoor

namespace Go.Proofs.YtmbccnioijokfaaGreatDoor
open Go.RowKit Go.Maps
attribute [local go_sem] Oper.semAt_some
theorem eview_c (e s wd t q : Nat) (occ : Value) (S : SS) (L : Option Lf) (w : World) (Ms : Nat → Prop) (h : EngAt w e s wd t q occ S L Ms) : Calls Tryz.prog 138 #[.pointer (some ⟨e, 0, none⟩)] w fun r w' => r = .returned (viewV t) ∧ w = w' := by
  have c0 := h.blk.cell 0
  have HSW := Lib.hid (sworld_c s wd t q occ S w Ms h.sim)
  obtain ⟨v, ds, Mw, Mq, hs, -⟩ := h.sim
  have HVW := Lib.hid (wview_c wd t S.k S.T w Mw hs.wd)
  clear h hs
  go_enter Tryz.func138, Tryz.ntmps138
  go_wp2_with first
    | (go_at_call 27; refine HSW.out.mono ?_; rintro e_ w1 ⟨rfl, rfl⟩)
    | (go_at_call 29; refine HVW.out.mono ?_; rintro e_ w1 ⟨rfl, rfl⟩)
  go_returns
  exact ⟨rfl, rfl⟩
end Go.Proofs.YtmbccnioijokfaaGreatDoor

namespace Go.Proofs.YtmbccnioijokfaaGreatDoor
open Go.RowKit Go.Maps
attribute [local go_sem] Oper.semAt_some
def awakeB (T : TS) (b : BD) : Bool := T.ready (lowI b.1) (lowI b.2.2.1)
theorem eawake_c (e s wd t q : Nat) (occ : Value) (S : SS) (L : Option Lf) (b : BD) (hx : -1000000000000000 ≤ lowI b.1 ∧ lowI b.1 ≤ 1000000000000000) (hz : -1000000000000000 ≤ lowI b.2.2.1 ∧ lowI b.2.2.1 ≤ 1000000000000000) (hn : S.T.l.length ≤ 1000) (w : World) (Ms : Nat → Prop) (h : EngAt w e s wd t q occ S L Ms) :
    Calls Tryz.prog 136 #[.pointer (some ⟨e, 0, none⟩), .agg (bd9 b)] w fun r w' => r = .returned (.bool (awakeB S.T b)) ∧ Below w.heap.size w w' := by
  unfold awakeB
  obtain ⟨W, hWe⟩ : ∃ W, W = w.alloc (.cells (bd9 b) 40) := ⟨_, rfl⟩
  have H : Below w.heap.size w W := by rw [hWe]; exact bel_alloc _ _
  have C : Blk W w.heap.size 40 (bd9 b) := Blk.fresh hWe
  have c0 := fun d os => (C.re d os).cell 0
  have c1 := fun d os => (C.re d os).cell 1
  have c2 := fun d os => (C.re d os).cell 2
  have e0 := fun d os => ((h.blk.on H).re d os).cell 0
  have HSW := Lib.hid fun d os => sworld_c s wd t q occ S (Go.Sort.grow (redrawn W d) os) Ms ((simA_fit s wd t q occ S).on h.sim (after H (below_regrown _ d os)))
  obtain ⟨v, ds, Mw, Mq, hs, -⟩ := h.sim
  have HRD := Lib.hid fun d os => wready_c wd t S.k S.T (lowI b.1) (lowI b.2.1) (lowI b.2.2.1) (Go.Sort.grow (redrawn W d) os) Mw ((wdA_fit wd t S.T S.k).on hs.wd (after H (below_regrown _ d os))) hx hz hn
  have HOF := Lib.hid fun W2 => cof_c b.1 b.2.1 b.2.2.1 W2
  have HH := Lib.hid H
  generalize S.T.ready (lowI b.1) (lowI b.2.2.1) = rb at *
  clear h hs H C hx hz hn
  go_enter Tryz.func136, Tryz.ntmps136
  go_upto_region 1 with (fail)
  rw [← hWe]
  clear hWe
  refine wp_region_quiet_below (by kernel_rfl) (by kernel_rfl) ?_
  repeat (go_big_quiet_step (first | exact Calls.regrown_of ((HSW.out _ _).mono fun _ _ ⟨he, hw⟩ => ⟨he, by rw [← hw]; exact Below.refl _ _⟩) | exact Calls.regrown_of (HOF.out _) | exact Calls.regrown_of (HRD.out _ _)))
  refine wpQuiet_nil ?_
  intro w' hw'
  obtain ⟨rg, rfl⟩ := hw'
  go_wp2_with fail
  go_returns
  exact ⟨rfl, after HH.out (below_regrown _ _ _)⟩
end Go.Proofs.YtmbccnioijokfaaGreatDoor

namespace Go.Proofs.YtmbccnioijokfaaGreatDoor
open Go.RowKit Go.Maps
attribute [local go_sem] Oper.semAt_some
def EnW (N : Nat) (seed lim R : Int) (v : Value) (w : World) : Prop := ∃ wd t M, v = .pointer (some ⟨wd, 0, none⟩) ∧ WdA wd t (newT seed lim R) 0 w M ∧ ∀ b, M b → N ≤ b
def EnS (N : Nat) (seed lim R bu : Int) (v : Value) (w : World) : Prop := ∃ s wd t q M, v = .pointer (some ⟨s, 0, none⟩) ∧ SimA s wd t q occ0 (newSS (newT seed lim R) 0 bu) w M ∧ ∀ b, M b → N ≤ b
def enR (N : Nat) (seed lim R bu : Int) : Nat → Rel := fun i v w => match i with | 6 => EnW N seed lim R v w | 9 => EnS N seed lim R bu v w | _ => True
theorem enR_on {N : Nat} {seed lim R bu : Int} : ∀ i v (w w' : World), enR N seed lim R bu i v w → Below w.heap.size w w' → enR N seed lim R bu i v w'
  | 6, _, _, _, ⟨wd, t, M, h1, h2, h3⟩, hb => ⟨wd, t, M, h1, (wdA_fit wd t _ _).on h2 hb, h3⟩
  | 9, _, _, _, ⟨s, wd, t, q, M, h1, h2, h3⟩, hb => ⟨s, wd, t, q, M, h1, (simA_fit s wd t q occ0 _).on h2 hb, h3⟩
  | 0, _, _, _, _, _ => trivial
  | 1, _, _, _, _, _ => trivial
  | 2, _, _, _, _, _ => trivial
  | 3, _, _, _, _, _ => trivial
  | 4, _, _, _, _, _ => trivial
  | 5, _, _, _, _, _ => trivial
  | 7, _, _, _, _, _ => trivial
  | 8, _, _, _, _, _ => trivial
  | _ + 10, _, _, _, _, _ => trivial
def NewER (seed lim R bu : Int) (w : World) (r : Ending) (w' : World) : Prop := ∃ e s wd t q M, r = .returned (.pointer (some ⟨e, 0, none⟩)) ∧ EngA e s wd t q occ0 (newSS (newT seed lim R) 0 bu) none w' M ∧ (∀ b, M b → w.heap.size ≤ b) ∧ Below w.heap.size w w'
set_option maxRecDepth 100000 in
set_option maxHeartbeats 4000000 in
theorem enew_c (seed lim R bu : Int) (w : World) : Calls Tryz.prog 37 #[.agg #[.int .i64 seed, .int .i64 lim, .int .i64 R, .int .i64 bu]] w fun r w' => NewER seed lim R bu w r w' := by
  obtain ⟨W, hWe⟩ : ∃ W, W = w.alloc (.cells #[.int .i64 seed, .int .i64 lim, .int .i64 R, .int .i64 bu] 95) := ⟨_, rfl⟩
  have H : Below w.heap.size w W := by rw [hWe]; exact bel_alloc _ _
  have C : Blk W w.heap.size 95 #[.int .i64 seed, .int .i64 lim, .int .i64 R, .int .i64 bu] := Blk.fresh hWe
  have c0 := fun d os => (C.re d os).cell 0
  have c1 := fun d os => (C.re d os).cell 1
  have c2 := fun d os => (C.re d os).cell 2
  have c3 := fun d os => (C.re d os).cell 3
  have HH := Lib.hid H
  clear H C
  go_enter Tryz.func37, Tryz.ntmps37
  go_upto_region 1 with (fail)
  rw [← hWe]
  clear hWe
  refine wp_sched [0, 0, 0, 0, 0, 0, 2, 0, 0, 2, 3, 3, 3] (enR w.heap.size seed lim R bu) (by kernel_rfl) (by kernel_rfl) (enR_on) ?_
  repeat (first | (refine wpQs_s ?_) | (refine wpQs_q (fun K hK => ?_); go_simp; first | (refine hK _ ?_; clear hK K) | (apply Exists.intro; refine ⟨fun _ => ?_, hK _ ?_⟩; (fail); clear hK K)) | (refine wpQs_f (fun K hK => ?_); go_simp; refine hK _ ?_; clear hK K))
  refine wpQs_nil ?_
  refine wpLs_skip ?_
  refine wpLs_skip ?_
  refine wpLs_skip ?_
  refine wpLs_skip ?_
  refine wpLs_skip ?_
  refine wpLs_skip ?_
  refine wpLs_one ?lsA (fun v_ => ?_)
  case lsA => (intro w_ hw_ hp_; (first | (dsimp only at hF_; obtain ⟨wd9, t9, M9, rfl, hW9, hn9⟩ := (show EnW _ _ _ _ _ _ from hF_.2 (by kernel_rfl)); go_simp; refine (sinew_c wd9 t9 0 _ bu w_ M9 hW9).mono ?_; rintro e_ w9 ⟨s9, q9, rfl, ⟨M8, a8, m8, k8⟩, b9⟩; exact ⟨_, rfl, Kept.of_below b9, s9, wd9, t9, q9, M8, rfl, a8, fun b hb => (m8 b hb).elim (hn9 b) (Nat.le_trans (Nat.le_trans HH.out.size (msd_kept hw_).size))⟩) | (go_simp; refine (wnew_c seed lim R w_).mono ?_; rintro e_ w9 ⟨wd9, t9, M9, rfl, hW9, hn9, b9⟩; exact ⟨_, rfl, Kept.of_below b9, wd9, t9, M9, rfl, hW9, fun b hb => Nat.le_trans (Nat.le_trans HH.out.size (msd_kept hw_).size) (hn9 b hb)⟩)))
  refine wpLs_skip ?_
  refine wpLs_skip ?_
  refine wpLs_oneF ?lsA (fun v_ => ?_)
  case lsA => (intro w_ hw_ hp_ hF_; (first | (dsimp only at hF_; obtain ⟨wd9, t9, M9, rfl, hW9, hn9⟩ := (show EnW _ _ _ _ _ _ from hF_.2 (by kernel_rfl)); go_simp; refine (sinew_c wd9 t9 0 _ bu w_ M9 hW9).mono ?_; rintro e_ w9 ⟨s9, q9, rfl, ⟨M8, a8, m8, k8⟩, b9⟩; exact ⟨_, rfl, Kept.of_below b9, s9, wd9, t9, q9, M8, rfl, a8, fun b hb => (m8 b hb).elim (hn9 b) (Nat.le_trans (Nat.le_trans HH.out.size (msd_kept hw_).size))⟩) | (go_simp; refine (wnew_c seed lim R w_).mono ?_; rintro e_ w9 ⟨wd9, t9, M9, rfl, hW9, hn9, b9⟩; exact ⟨_, rfl, Kept.of_below b9, wd9, t9, M9, rfl, hW9, fun b hb => Nat.le_trans (Nat.le_trans HH.out.size (msd_kept hw_).size) (hn9 b hb)⟩)))
  refine wpLs_skip ?_
  refine wpLs_skip ?_
  refine wpLs_skip ?_
  refine wpLs_nilB ?_
  simp only [tails]
  rintro W3 h3 ⟨⟨-, wd8, t8, M8, rfl, -⟩, s, wd, t, q, M, rfl, hS, hM⟩
  clear c0 c1 c2 c3
  go_wp2_with fail
  go_returns
  obtain ⟨W4, hW4⟩ : ∃ W4, W4 = W3.alloc (.cells (engC s none) 71) := ⟨_, rfl⟩
  have g4 : Below W3.heap.size W3 W4 := by rw [hW4]; exact bel_alloc _ _
  rw [← hW4]
  refine ⟨_, s, wd, t, q, EngM W3.heap.size none M, rfl, ⟨M, ⟨Blk.fresh hW4, fun l hl => (by cases hl), (simA_fit s wd t q occ0 _).on hS g4⟩, fun _ => Iff.rfl⟩, fun b hb => ?_, after (after HH.out h3) g4⟩
  rcases hb with rfl | ⟨l, hl, -⟩ | hb
  · exact (after HH.out h3).size
  · cases hl
  · exact hM b hb
end Go.Proofs.YtmbccnioijokfaaGreatDoor

namespace Go.Proofs.YtmbccnioijokfaaGreatDoor
open Go.RowKit Go.Maps
attribute [local go_sem] Oper.semAt_some
set_option maxRecDepth 100000 in
set_option maxHeartbeats 4000000 in
theorem ebody_c (e s wd t q : Nat) (occ : Value) (S : SS) (l : Lf) (w : World) (Ms : Nat → Prop) (h : EngAt w e s wd t q occ S (some l) Ms) :
    Calls Tryz.prog 15 #[.pointer (some ⟨e, 0, none⟩), .int .i64 0] w fun r w' => r = .returned (.tuple #[.agg (bd9 l.b), .bool true]) ∧ Below w.heap.size w w' := by
  obtain ⟨W, hWe⟩ : ∃ W, W = w.alloc (.cells #[.int .i64 0, .int .i64 0, .int .i64 0, .int .i64 0, .int .i64 0, .int .i64 0, .int .i64 0, .int .i64 0, .bool false] 40) := ⟨_, rfl⟩
  have H : Below w.heap.size w W := by rw [hWe]; exact bel_alloc _ _
  have R : Blk W w.heap.size 40 #[.int .i64 0, .int .i64 0, .int .i64 0, .int .i64 0, .int .i64 0, .int .i64 0, .int .i64 0, .int .i64 0, .bool false] := by rw [hWe]; exact Blk.new' (by simp)
  have LB := (h.life l rfl).on H
  have HAT := Lib.hid (eat0_c e s (some ⟨l.a, 0, none⟩) W (h.blk.on H))
  have hNw : w.heap.size ≤ w.heap.size := Nat.le_refl _
  obtain ⟨a, ⟨b0, b1, b2, b3, b4, b5, b6, b7, b8⟩, lx, lz, lj⟩ := l
  have m0 := LB.cell 0
  have m1 := LB.cell 1
  have m2 := LB.cell 2
  have m3 := LB.cell 3
  have m4 := LB.cell 4
  have m5 := LB.cell 5
  have m6 := LB.cell 6
  have m7 := LB.cell 7
  have m8 := LB.cell 8
  obtain ⟨⟨r0, r1, r2, r3, r4, r5, r6, r7, r8⟩, s0, s1, s2, s3, s4, s5, s6, s7, s8⟩ := R.c9
  clear h LB
  go_enter Tryz.func15, Tryz.ntmps15
  go_upto_region 1 with (fail)
  rw [← hWe]
  clear hWe
  go_wp2_with (go_at_call 31; refine HAT.out.mono ?_; rintro e_ w1 ⟨rfl, rfl⟩)
  have R2_ := R.st9 (.int .i64 b0) (.int .i64 b1) (.int .i64 b2) (.int .i64 b3) (.int .i64 b4) (.int .i64 b5) (.int .i64 b6) (.int .i64 b7) (.bool b8)
  obtain ⟨⟨d0, d1, d2, d3, d4, d5, d6, d7, d8⟩, -⟩ := R2_.c9
  exact bodyPost_ret (v := .tuple #[.agg (bd9 (b0, b1, b2, b3, b4, b5, b6, b7, b8)), .bool true]) (by simp [results, Tryz.results15, go_sem, d0, d1, d2, d3, d4, d5, d6, d7, d8]) rfl ⟨rfl, sx9_below H hNw _ _ _ _ _ _ _ _ _⟩
end Go.Proofs.YtmbccnioijokfaaGreatDoor

namespace Go.Proofs.YtmbccnioijokfaaGreatDoor
open Go.RowKit Go.Maps
attribute [local go_sem] Oper.semAt_some
def heldB (b : BD) (c : Cl) : Bool := overI (boxB b).1 (boxB b).2.1 (boxB b).2.2.1 (boxB b).2.2.2.1 (boxB b).2.2.2.2.1 (boxB b).2.2.2.2.2 (ofI c.1) (ofI c.2.1) (ofI c.2.2) (addI (ofI c.1) 65536) (addI (ofI c.2.1) 65536) (addI (ofI c.2.2) 65536)
def heldL (L : Option Lf) (c : Cl) : Bool := match L with
  | none => false
  | some l => heldB l.b c
abbrev cbxA (c : Cl) : Array Value := #[.int .i64 (ofI c.1), .int .i64 (ofI c.2.1), .int .i64 (ofI c.2.2), .int .i64 (addI (ofI c.1) 65536), .int .i64 (addI (ofI c.2.1) 65536), .int .i64 (addI (ofI c.2.2) 65536)]
set_option maxRecDepth 100000 in
set_option maxHeartbeats 4000000 in
theorem held0_c (g : Nat) (w : World) :
    Calls Tryz.prog 189 #[.pointer none, .pointer (some ⟨g, 0, none⟩)] w fun r w' => r = .returned (.bool false) ∧ Below w.heap.size w w' := by
  go_enter Tryz.func189, Tryz.ntmps189
  go_upto_region 1 with (fail)
  refine wp_region_quiet_below (by kernel_rfl) (by kernel_rfl) ?_
  repeat (go_big_quiet_step (fail))
  refine wpQuiet_nil ?_
  intro w' hw'
  obtain ⟨rg, rfl⟩ := hw'
  go_wp2_with fail
  go_returns
  exact ⟨rfl, below_regrown w _ _⟩
set_option maxRecDepth 100000 in
set_option maxHeartbeats 4000000 in
theorem held1_c (l : Lf) (g : Nat) (c : Cl) (hw : l.b.2.2.2.2.2.2.1 ≤ 9223372036854775807) (w : World) (hL : Blk w l.a 83 (lifeC l)) (hB : Blk w g 210 (cbxA c)) :
    Calls Tryz.prog 189 #[.pointer (some ⟨l.a, 0, none⟩), .pointer (some ⟨g, 0, none⟩)] w fun r w' => r = .returned (.bool (heldB l.b c)) ∧ Below w.heap.size w w' := by
  have l0 := fun d os => (hL.re d os).cell 0
  have l1 := fun d os => (hL.re d os).cell 1
  have l2 := fun d os => (hL.re d os).cell 2
  have l3 := fun d os => (hL.re d os).cell 3
  have l4 := fun d os => (hL.re d os).cell 4
  have l5 := fun d os => (hL.re d os).cell 5
  have l6 := fun d os => (hL.re d os).cell 6
  have l7 := fun d os => (hL.re d os).cell 7
  have l8 := fun d os => (hL.re d os).cell 8
  have g0 := fun d os => (hB.re d os).cell 0
  have g1 := fun d os => (hB.re d os).cell 1
  have g2 := fun d os => (hB.re d os).cell 2
  have g3 := fun d os => (hB.re d os).cell 3
  have g4 := fun d os => (hB.re d os).cell 4
  have g5 := fun d os => (hB.re d os).cell 5
  have HBX := Lib.hid fun W => bbox_c l.b hw W
  have HOV := Lib.hid fun W => over_c (boxB l.b).1 (boxB l.b).2.1 (boxB l.b).2.2.1 (boxB l.b).2.2.2.1 (boxB l.b).2.2.2.2.1 (boxB l.b).2.2.2.2.2 (ofI c.1) (ofI c.2.1) (ofI c.2.2) (addI (ofI c.1) 65536) (addI (ofI c.2.1) 65536) (addI (ofI c.2.2) 65536) W
  unfold heldB
  clear hL hB hw
  generalize boxB l.b = bx at *
  go_enter Tryz.func189, Tryz.ntmps189
  go_upto_region 1 with (fail)
  refine wp_region_quiet_below (by kernel_rfl) (by kernel_rfl) ?_
  repeat (go_big_quiet_step (first | exact Calls.regrown_of (HBX.out _) | exact Calls.regrown_of (HOV.out _)))
  refine wpQuiet_nil ?_
  intro w' hw'
  obtain ⟨rg, rfl⟩ := hw'
  go_wp2_with fail
  go_returns
  exact ⟨rfl, below_regrown w _ _⟩
set_option maxRecDepth 100000 in
set_option maxHeartbeats 2000000 in
theorem lcontf_c (q : Option Addr) (cp : Nat) (vs : List Value) (hm : vs.length ≤ 1000000) (G : FuncId) (lg : Array Value) (p : Nat → Bool) (w : World) (hR : Rd w q 1 enc1 vs) (eG : ∀ args w, (callFunc G args).run Tryz.prog w = .ok (.enter G args) w) (hG : SaysV Tryz.prog G lg vs p w) :
    Calls Tryz.prog 188 #[.slice q vs.length cp, .func (.func G) #[] lg] w fun r w' => ∃ k : Int, r = .returned (.bool (decide (0 ≤ k))) ∧ FirstIs p vs.length k ∧ Below w.heap.size w w' := by
  have h := Lib.hid (lidxf_c q cp vs hm G lg p w hR eG hG)
  clear hm hR eG hG
  go_enter Tryz.func188, Tryz.ntmps188
  go_wp2_with (go_at_call 245; refine h.out.mono ?_; rintro e_ w1 ⟨k, rfl, h1, h3⟩; have H1 := Lib.hid h1; have H3 := Lib.hid h3; clear h1 h3)
  go_returns
  exact ⟨k, rfl, H1.out, H3.out⟩
def rowL16 (L : Option Lf) : List Value := [.pointer (lfP L), .pointer none, .pointer none, .pointer none, .pointer none, .pointer none, .pointer none, .pointer none, .pointer none, .pointer none, .pointer none, .pointer none, .pointer none, .pointer none, .pointer none, .pointer none]
theorem rowL16_len (L : Option Lf) : (rowL16 L).length = 16 := rfl
theorem rowL16_at {L : Option Lf} {k : Nat} {v : Value} (h : (rowL16 L)[k]? = some v) : (k = 0 ∧ v = .pointer (lfP L)) ∨ (1 ≤ k ∧ k < 16 ∧ v = .pointer none) := by
  have hk : k < 16 := (List.getElem?_eq_some_iff.1 h).1
  rcases k with _ | k
  · left; exact ⟨rfl, by injection h with h; exact h.symm⟩
  · right
    refine ⟨by omega, hk, ?_⟩
    have : ∀ j : Nat, j < 15 → (rowL16 L)[j + 1]? = some (.pointer none) := by
      intro j hj
      rcases (show j = 0 ∨ j = 1 ∨ j = 2 ∨ j = 3 ∨ j = 4 ∨ j = 5 ∨ j = 6 ∨ j = 7 ∨ j = 8 ∨ j = 9 ∨ j = 10 ∨ j = 11 ∨ j = 12 ∨ j = 13 ∨ j = 14 by omega) with rfl | rfl | rfl | rfl | rfl | rfl | rfl | rfl | rfl | rfl | rfl | rfl | rfl | rfl | rfl <;> rfl
    rw [this k (by omega)] at h
    injection h with h
    exact h.symm
theorem eng_row {w : World} {e s : Nat} {L : Option Lf} (h : Blk w e 71 (engC s (lfP L))) : Rd w (some ⟨e, 1, none⟩) 1 enc1 (rowL16 L) := fun _ => by
  refine ⟨e, 1, rfl, fun i v hv j u hu => ?_⟩
  obtain rfl : j = 0 := by
    have := (List.getElem?_eq_some_iff.1 hu).1
    simp at this
    exact this
  obtain rfl : v = u := by injection hu
  have hi : i < 16 := (List.getElem?_eq_some_iff.1 hv).1
  rw [h.cell]
  show (engC s (lfP L))[1 + i * 1 + 0]? = some v
  rw [← hv]
  rcases (show i = 0 ∨ i = 1 ∨ i = 2 ∨ i = 3 ∨ i = 4 ∨ i = 5 ∨ i = 6 ∨ i = 7 ∨ i = 8 ∨ i = 9 ∨ i = 10 ∨ i = 11 ∨ i = 12 ∨ i = 13 ∨ i = 14 ∨ i = 15 by omega) with rfl | rfl | rfl | rfl | rfl | rfl | rfl | rfl | rfl | rfl | rfl | rfl | rfl | rfl | rfl | rfl <;> rfl
theorem first_held {L : Option Lf} {c : Cl} {k : Int} (h : FirstIs (fun j => decide (j = 0) && heldL L c) 16 k) : decide (0 ≤ k) = heldL L c := by
  rcases h with ⟨rfl, h⟩ | ⟨m, -, rfl, h, -⟩
  · have := h 0 (by omega)
    simp at this
    rw [this]
    rfl
  · simp at h
    rw [h.2]
    simp
end Go.Proofs.YtmbccnioijokfaaGreatDoor

namespace Go.Proofs.YtmbccnioijokfaaGreatDoor
open Go.RowKit Go.Maps
attribute [local go_sem] Oper.semAt_some
theorem EngAt.on {w w' : World} {e s wd t q : Nat} {occ : Value} {S : SS} {L : Option Lf} {Ms : Nat → Prop} (h : EngAt w e s wd t q occ S L Ms) (hb : Below w.heap.size w w') : EngAt w' e s wd t q occ S L Ms := h.kept ((Kept.of_below hb).mono (K' := fun _ => True) fun _ _ => trivial) (fun _ _ => trivial) (fun _ _ _ => trivial)
theorem says_held {L : Option Lf} {c : Cl} {g : Nat} {w : World} (hw : ∀ l, L = some l → l.b.2.2.2.2.2.2.1 ≤ 9223372036854775807) (hL : ∀ l, L = some l → Blk w l.a 83 (lifeC l)) (hB : Blk w g 210 (cbxA c)) :
    SaysV Tryz.prog 189 #[.pointer (some ⟨g, 0, none⟩)] (rowL16 L) (fun j => decide (j = 0) && heldL L c) w := by
  intro k v hv W h
  rcases rowL16_at hv with ⟨rfl, rfl⟩ | ⟨h1, h2, rfl⟩
  · cases L with
    | none => exact held0_c g W
    | some l => exact held1_c l g c (hw l rfl) W ((hL l rfl).on h) (hB.on h)
  · have : (decide (k = 0) && heldL L c) = false := by rw [decide_eq_false (by omega)]; rfl
    show Calls _ _ #[_, _] _ fun r W' => r = .returned (.bool (decide (k = 0) && heldL L c)) ∧ _
    rw [this]
    exact held0_c g W
set_option maxRecDepth 100000 in
set_option maxHeartbeats 4000000 in
theorem eheld_c (e s : Nat) (L : Option Lf) (c : Cl) (hw : ∀ l, L = some l → l.b.2.2.2.2.2.2.1 ≤ 9223372036854775807) (w : World) (hE : Blk w e 71 (engC s (lfP L))) (hL : ∀ l, L = some l → Blk w l.a 83 (lifeC l)) :
    Calls Tryz.prog 145 #[.pointer (some ⟨e, 0, none⟩), cellV c] w fun r w' => r = .returned (.bool (heldL L c)) ∧ Below w.heap.size w w' := by
  have hmf : ∀ (fn : Fn) (first cap : Array Value) (w : World), (Instr.makeFunc fn first cap).run Tryz.prog w = .ok (.func fn first cap) w := fun _ _ _ _ => rfl
  obtain ⟨W, hWe⟩ : ∃ W, W = w.alloc (.cells #[.int .i64 c.1, .int .i64 c.2.1, .int .i64 c.2.2] 43) := ⟨_, rfl⟩
  have H : Below w.heap.size w W := by rw [hWe]; exact bel_alloc _ _
  obtain ⟨c0, c1, c2, -, -, -⟩ := (Blk.fresh hWe).c3
  have HCB := Lib.hid fun W2 => cbox_c c.1 c.2.1 c.2.2 W2
  have HE := Lib.hid (And.intro hE (And.intro hL hw))
  have HH := Lib.hid H
  clear hE hL hw H
  go_enter Tryz.func145, Tryz.ntmps145
  go_upto_region 1 with (fail)
  rw [← hWe]
  clear hWe
  go_upto_region 2 with (go_at_call 187; refine (HCB.out _).mono ?_; rintro e_ w2 ⟨rfl, g2⟩; have G2 := Lib.hid (after HH.out g2); clear g2)
  obtain ⟨W3, hW3⟩ : ∃ W3, W3 = w2.alloc (.cells (cbxA c) 210) := ⟨_, rfl⟩
  have G3 := Lib.hid (show Below w.heap.size w W3 from after G2.out (by rw [hW3]; exact bel_alloc _ _))
  have HF := Lib.hid (lcontf_c (some ⟨e, 1, none⟩) 16 (rowL16 L) (by rw [rowL16_len]; decide) 189 #[.pointer (some ⟨w2.heap.size, 0, none⟩)] (fun j => decide (j = 0) && heldL L c) W3 (eng_row (HE.out.1.on G3.out)) (enters_of Tryz.func189 (by kernel_rfl) rfl) (says_held HE.out.2.2 (fun l hl => (HE.out.2.1 l hl).on G3.out) (Blk.fresh hW3)))
  rw [← hW3]
  rw [rowL16_len] at HF
  clear hW3 c0 c1 c2
  go_wp2_with (go_at_call 188; refine HF.out.mono ?_; rintro e_ w5 ⟨k, rfl, hk, g5⟩; have HK := Lib.hid (And.intro hk g5); clear hk g5)
  go_returns
  exact ⟨by rw [first_held HK.out.1]; rfl, after G3.out HK.out.2⟩
set_option maxRecDepth 100000 in
set_option maxHeartbeats 4000000 in
theorem eedit_c (e s wd t q : Nat) (occ : Value) (S S' : SS) (L : Option Lf) (c : Cl) (b : Int) (hw : ∀ l, L = some l → l.b.2.2.2.2.2.2.1 ≤ 9223372036854775807) (hh : solB b = true → heldL L c = false) (w : World) (M : Nat → Prop) (h : EngA e s wd t q occ S L w M)
    (hE : ∀ W1 M1, SimA s wd t q occ S W1 M1 → Calls Tryz.prog 146 #[.pointer (some ⟨s, 0, none⟩), cellV c, .int .i64 b] W1 fun r w' => r = .returned (.int .i64 0) ∧ Aft (SimA s wd t q occ S') W1 M1 w') :
    Calls Tryz.prog 99 #[.pointer (some ⟨e, 0, none⟩), cellV c, .int .i64 b] w fun r w' => r = .returned (.int .i64 0) ∧ Aft (EngA e s wd t q occ S' L) w M w' := by
  obtain ⟨Ms, h, hM⟩ := h
  obtain ⟨W, hWe⟩ : ∃ W, W = w.alloc (.cells #[.int .i64 c.1, .int .i64 c.2.1, .int .i64 c.2.2] 43) := ⟨_, rfl⟩
  have H : Below w.heap.size w W := by rw [hWe]; exact bel_alloc _ _
  have C : Blk W w.heap.size 43 #[.int .i64 c.1, .int .i64 c.2.1, .int .i64 c.2.2] := Blk.fresh hWe
  have HSO := fun W => solid_c b W
  have HHE := fun W2 (g : Below w.heap.size w W2) => eheld_c e s L c hw W2 (h.blk.on g) (fun l hl => (h.life l hl).on g)
  have HS := Lib.hid (And.intro h hM)
  have HC := Lib.hid C
  have HH := Lib.hid H
  have HEd := Lib.hid hE
  obtain ⟨c0, c1, c2, -, -, -⟩ := C.c3
  clear h H C hM hE hw
  cases hs : solB b
  · rw [hs] at HSO
    have HSO' := Lib.hid HSO
    clear HSO hs hh HHE
    go_enter Tryz.func99, Tryz.ntmps99
    go_upto_region 1 with (fail)
    rw [← hWe]
    clear hWe
    go_upto_region 3 with (go_at_call 144; refine (HSO'.out _).mono ?_; rintro e_ w1 ⟨rfl, rfl⟩)
    clear c0 c1 c2
    obtain ⟨c0, c1, c2⟩ := HC.out.re3
    have s0 := fun d os => ((HS.out.1.blk.on HH.out).re d os).cell 0
    refine wp_sched [0, 0, 0, 0, 0, 0, 3, 3] (fun _ _ _ => True) (by kernel_rfl) (by kernel_rfl) (fun _ _ _ _ h _ => h) ?_
    repeat (first | (refine wpQs_s ?_) | (refine wpQs_q (fun K hK => ?_); go_simp; first | (refine hK _ ?_; clear hK K) | (apply Exists.intro; refine ⟨fun _ => ?_, hK _ ?_⟩; (fail); clear hK K)) | (refine wpQs_f (fun K hK => ?_); go_simp; refine hK _ ?_; clear hK K))
    refine wpQs_nil ?_
    repeat (first | (refine wpLs_skip ?_) | (refine wpLs_one ?lsA (fun v_ => ?_); case lsA => (intro w_ hw_ hp_; (fail))))
    refine wpLs_nilB ?_
    simp only [tails]
    intro W2 g2 _
    have G2 := Lib.hid (after HH.out g2)
    have HE2 := Lib.hid (HEd.out W2 Ms (HS.out.1.on G2.out).sim)
    clear g2 s0 c0 c1 c2
    go_wp2_with (go_at_call 146; refine HE2.out.mono ?_; rintro e_ w4 ⟨rfl, k4⟩; have K4 := Lib.hid k4; clear k4)
    go_returns
    exact ⟨rfl, (Aft.ahead G2.out ((HS.out.1.on G2.out).turn K4.out)).under HS.out.2⟩
  · rw [hs] at HSO
    rw [hh hs] at HHE
    have HSO' := Lib.hid HSO
    have HHE' := Lib.hid (HHE W HH.out)
    clear HSO hs hh HHE
    go_enter Tryz.func99, Tryz.ntmps99
    go_upto_region 1 with (fail)
    rw [← hWe]
    clear hWe
    go_upto_region 3 with first
      | (go_at_call 144; refine (HSO'.out _).mono ?_; rintro e_ w1 ⟨rfl, rfl⟩)
      | (go_at_call 145; refine HHE'.out.mono ?_; rintro e_ w1 ⟨rfl, g1⟩; have G1 := Lib.hid g1; clear g1)
    clear c0 c1 c2
    obtain ⟨c0, c1, c2⟩ := (HC.out.on G1.out).re3
    have s0 := fun d os => ((HS.out.1.blk.on (after HH.out G1.out)).re d os).cell 0
    refine wp_sched [0, 0, 0, 0, 0, 0, 3, 3] (fun _ _ _ => True) (by kernel_rfl) (by kernel_rfl) (fun _ _ _ _ h _ => h) ?_
    repeat (first | (refine wpQs_s ?_) | (refine wpQs_q (fun K hK => ?_); go_simp; first | (refine hK _ ?_; clear hK K) | (apply Exists.intro; refine ⟨fun _ => ?_, hK _ ?_⟩; (fail); clear hK K)) | (refine wpQs_f (fun K hK => ?_); go_simp; refine hK _ ?_; clear hK K))
    refine wpQs_nil ?_
    repeat (first | (refine wpLs_skip ?_) | (refine wpLs_one ?lsA (fun v_ => ?_); case lsA => (intro w_ hw_ hp_; (fail))))
    refine wpLs_nilB ?_
    simp only [tails]
    intro W2 g2 _
    have G2 := Lib.hid (after (after HH.out G1.out) g2)
    have HE2 := Lib.hid (HEd.out W2 Ms (HS.out.1.on G2.out).sim)
    clear g2 s0 c0 c1 c2
    go_wp2_with (go_at_call 146; refine HE2.out.mono ?_; rintro e_ w4 ⟨rfl, k4⟩; have K4 := Lib.hid k4; clear k4)
    go_returns
    exact ⟨rfl, (Aft.ahead G2.out ((HS.out.1.on G2.out).turn K4.out)).under HS.out.2⟩
end Go.Proofs.YtmbccnioijokfaaGreatDoor

namespace Go.Proofs.YtmbccnioijokfaaGreatDoor
open Go.RowKit Go.Maps
attribute [local go_sem] Oper.semAt_some
set_option maxRecDepth 100000 in
set_option maxHeartbeats 2000000 in
theorem lidx0_c (q : Option Addr) (cp : Nat) (vs : List Value) (hm : vs.length ≤ 1000000) (h0 : vs[0]? = some (.pointer none)) (w : World) (hR : Rd w q 1 enc1 vs) :
    Calls Tryz.prog 134 #[.slice q vs.length cp, .pointer none] w fun r w' => r = .returned (.int .i64 0) ∧ w = w' := by
  have hl : 0 < vs.length := (List.getElem?_eq_some_iff.1 h0).1
  obtain ⟨g, o, rfl, h⟩ := hR hl
  have c0 : w.cell? ⟨g, o, none⟩ = some (.pointer none) := h 0 _ h0 0 _ rfl
  have hl' : (0 : Int) < (vs.length : Int) := by omega
  clear h hR h0 hm
  go_enter Tryz.func134, Tryz.ntmps134
  go_upto_region 2 with (fail)
  refine wp_loop_rounds 1 ?_
  rw [rounds_succ]
  go_wp2_with fail
  go_returns
  exact ⟨rfl, rfl⟩
theorem EngAt.born {w : World} {e s wd t q : Nat} {occ : Value} {S : SS} {Ms : Nat → Prop} (h : EngAt w e s wd t q occ S none Ms) (l : Lf) (hB : Blk w l.a 83 (lifeC l)) : EngAt (w.setCell ⟨e, 1, none⟩ (.pointer (some ⟨l.a, 0, none⟩))) e s wd t q occ S (some l) Ms where
  blk := h.blk.set_ 1 _
  life := fun l' hl => by
    obtain rfl : l = l' := Option.some.inj hl
    exact hB.far (p := ⟨e, 1, none⟩) (fun he => by dsimp only at he; rw [he] at hB; exact absurd (one_type hB h.blk) (by decide)) _
  sim := (simA_fit s wd t q occ S).kept h.sim ((Kept.refl (fun b => b ≠ e) w).setCell (by simp) _) (fun b hb he => h.e_no (he ▸ hb)) fun b cs hb he => by rw [he] at hb; exact absurd (one_type hb h.blk) (by decide)
abbrev bornB (x y z wi ht : Int) (st : Bool) : BD := (x, y, z, 0, 0, 0, wi, ht, st)
def LfR (N : Nat) (x y z wi ht : Int) (st : Bool) (v : Value) (w : World) : Prop := ∃ a, v = .pointer (some ⟨a, 0, none⟩) ∧ N ≤ a ∧ Blk w a 83 (lifeC ⟨a, bornB x y z wi ht st, 0, 0, false⟩)
def spR (N : Nat) (x y z wi ht : Int) (st : Bool) : Nat → Rel := fun i v w => match i with | 4 => LfR N x y z wi ht st v w | _ => True
theorem spR_on {N : Nat} {x y z wi ht : Int} {st : Bool} : ∀ i v (w w' : World), spR N x y z wi ht st i v w → Below w.heap.size w w' → spR N x y z wi ht st i v w'
  | 4, _, _, _, ⟨a, h1, h2, h3⟩, hb => ⟨a, h1, h2, h3.on hb⟩
  | 0, _, _, _, _, _ => trivial
  | 1, _, _, _, _, _ => trivial
  | 2, _, _, _, _, _ => trivial
  | 3, _, _, _, _, _ => trivial
  | _ + 5, _, _, _, _, _ => trivial
set_option maxRecDepth 100000 in
set_option maxHeartbeats 16000000 in
theorem espawn_c (e s wd t q : Nat) (occ : Value) (S : SS) (x y z wi ht : Int) (st : Bool) (bx : B6) (hbx : boxB (bornB x y z wi ht false) = bx) (hwi : wi ≤ 9223372036854775807) (hm : mayB (bornB x y z wi ht false) = true) (ha : awakeB S.T (bornB x y z wi ht false) = true)
    (hx : -1000000000000000 ≤ lowI x ∧ lowI x ≤ 1000000000000000) (hz : -1000000000000000 ≤ lowI z ∧ lowI z ≤ 1000000000000000) (hn : S.T.l.length ≤ 1000)
    (hB : BoxOk bx.1 bx.2.1 bx.2.2.1 bx.2.2.2.1 bx.2.2.2.2.1 bx.2.2.2.2.2) (hS : BoxOk bx.1 (cutI (bx.2.1 - 1)) bx.2.2.1 bx.2.2.2.1 bx.2.1 bx.2.2.2.2.2) (h1 : -140737488355328 ≤ bx.2.1) (h2 : bx.2.1 ≤ 140737488355328)
    (hf : ((cellsI bx.1 bx.2.1 bx.2.2.1 bx.2.2.2.1 bx.2.2.2.2.1 bx.2.2.2.2.2).any fun c => solB (S.T.cell c)) = false) (hst : ((cellsI bx.1 (cutI (bx.2.1 - 1)) bx.2.2.1 bx.2.2.2.1 bx.2.1 bx.2.2.2.2.2).any fun c => solB (S.T.cell c)) = st)
    (w : World) (M : Nat → Prop) (h : EngA e s wd t q occ S none w M) :
    Calls Tryz.prog 92 #[.pointer (some ⟨e, 0, none⟩), .agg #[.int .i64 x, .int .i64 y, .int .i64 z], .int .i64 wi, .int .i64 ht] w fun r w' => r = .returned (.tuple #[.int .i64 0, .int .i64 0]) ∧ (∃ a, Aft (EngA e s wd t q occ S (some ⟨a, bornB x y z wi ht st, 0, 0, false⟩)) w M w') ∧ Kept (fun b => b ≠ e) w w' := by
  obtain ⟨Ms, h, hM⟩ := h
  obtain ⟨W, hWe⟩ : ∃ W, W = (w.alloc (.cells #[.int .i64 x, .int .i64 y, .int .i64 z] 38)).alloc (.cells (bd9 (bornB x y z wi ht false)) 40) := ⟨_, rfl⟩
  have H : Below w.heap.size w W := by rw [hWe]; go_grown
  have B0 : Blk W (w.heap.size + 1) 40 (bd9 (bornB x y z wi ht false)) := by rw [hWe]; exact Blk.new' (by simp)
  have HE := Lib.hid (And.intro h hM)
  have HIX := Lib.hid (lidx0_c (some ⟨e, 1, none⟩) 16 (rowL16 none) (by rw [rowL16_len]; decide) rfl W (eng_row (h.blk.on H)))
  rw [rowL16_len] at HIX
  have HMY := fun W2 => bmay_c (bornB x y z wi ht false) W2
  rw [hm] at HMY
  have HMY' := Lib.hid HMY
  have HAW := fun W2 (g : Below w.heap.size w W2) => eawake_c e s wd t q occ S none (bornB x y z wi ht false) hx hz hn W2 Ms (h.on g)
  rw [ha] at HAW
  have HAW' := Lib.hid HAW
  have HVW := Lib.hid fun W2 (g : Below w.heap.size w W2) => eview_c e s wd t q occ S none W2 Ms (h.on g)
  have HBX := fun b W2 => bbox_c (bornB x y z wi ht b) hwi W2
  have hbx' : ∀ b, boxB (bornB x y z wi ht b) = bx := fun b => hbx
  have HBX0 := HBX false
  rw [hbx' false] at HBX0
  have HBX' := Lib.hid HBX0
  have hTL : ∀ W2 (g : Below w.heap.size w W2), Tells Tryz.prog 67 (.pointer (some ⟨t, 0, none⟩)) S.T.cell W2 := fun W2 g => by
    obtain ⟨v, ds, Mw, Mq, hs, -⟩ := (h.on g).sim
    exact hs.tells hn
  have HBL := fun W2 (g : Below w.heap.size w W2) => pmBlocked_c 67 (.pointer (some ⟨t, 0, none⟩)) S.T.cell bx.1 bx.2.1 bx.2.2.1 bx.2.2.2.1 bx.2.2.2.2.1 bx.2.2.2.2.2 hB W2 (enters_of Tryz.func67 (by kernel_rfl) rfl) (hTL W2 g)
  rw [hf] at HBL
  have HBL' := Lib.hid HBL
  have HST := fun W2 (g : Below w.heap.size w W2) => pmStands_c 67 (.pointer (some ⟨t, 0, none⟩)) S.T.cell bx.1 bx.2.1 bx.2.2.1 bx.2.2.2.1 bx.2.2.2.2.1 bx.2.2.2.2.2 h1 h2 hS W2 (enters_of Tryz.func67 (by kernel_rfl) rfl) (hTL W2 g)
  rw [hst] at HST
  have HST' := Lib.hid HST
  have HH := Lib.hid H
  have HB0 := Lib.hid B0
  have hN : w.heap.size ≤ w.heap.size + 1 := by omega
  have HN := Lib.hid hN
  obtain ⟨⟨b0, b1, b2, b3, b4, b5, b6, b7, b8⟩, -⟩ := B0.c9
  clear h hM H B0 HMY HAW HBX HBX0 HBL HST hbx hbx' hwi hm ha hx hz hn hB hS h1 h2 hf hst hTL hN
  go_enter Tryz.func92, Tryz.ntmps92
  go_upto_region 2 with (fail)
  rw [← hWe]
  clear hWe
  generalize w.heap.size + 1 = g at *
  go_upto_region 5 with first
    | (go_at_call 134; refine HIX.out.mono ?_; rintro e_ w1 ⟨rfl, rfl⟩)
    | (go_at_call 135; refine (HMY'.out _).mono ?_; rintro e_ w1 ⟨rfl, g1⟩; have G1 := Lib.hid (after HH.out g1); have HB1 := Lib.hid (HB0.out.on g1); clear g1)
  clear b0 b1 b2 b3 b4 b5 b6 b7 b8
  obtain ⟨⟨b0, b1, b2, b3, b4, b5, b6, b7, b8⟩, -⟩ := HB1.out.c9
  go_upto_region 9 with (go_at_call 136; refine (HAW'.out _ G1.out).mono ?_; rintro e_ w2 ⟨rfl, g2⟩; have G2 := Lib.hid (after G1.out g2); have HB2 := Lib.hid (HB1.out.on g2); clear g2)
  clear b0 b1 b2 b3 b4 b5 b6 b7 b8 HB0 HB1
  have b0 := fun d os => (HB2.out.re d os).cell 0
  have b1 := fun d os => (HB2.out.re d os).cell 1
  have b2 := fun d os => (HB2.out.re d os).cell 2
  have b3 := fun d os => (HB2.out.re d os).cell 3
  have b4 := fun d os => (HB2.out.re d os).cell 4
  have b5 := fun d os => (HB2.out.re d os).cell 5
  have b6 := fun d os => (HB2.out.re d os).cell 6
  have b7 := fun d os => (HB2.out.re d os).cell 7
  have b8 := fun d os => (HB2.out.re d os).cell 8
  have HV2 := Lib.hid fun d os => HVW.out (Go.Sort.grow (redrawn w2 d) os) (after G2.out (below_regrown w2 d os))
  have HL2 := Lib.hid fun d os => HBL'.out (Go.Sort.grow (redrawn w2 d) os) (after G2.out (below_regrown w2 d os))
  refine wp_region_quiet_below (by kernel_rfl) (by kernel_rfl) ?_
  repeat (go_big_quiet_step (first | exact Calls.regrown_of ((HV2.out _ _).mono fun _ _ ⟨he, hw⟩ => ⟨he, by rw [← hw]; exact Below.refl _ _⟩) | exact Calls.regrown_of (HBX'.out _) | exact Calls.regrown_of (HL2.out _ _)))
  refine wpQuiet_nil ?_
  intro w' hw'
  obtain ⟨rg, rfl⟩ := hw'
  obtain ⟨W3, hW3⟩ : ∃ W3, W3 = Go.Sort.grow (redrawn w2 rg.d) rg.os := ⟨_, rfl⟩
  have G3 := Lib.hid (show Below w.heap.size w W3 by rw [hW3]; exact after G2.out (below_regrown w2 _ _))
  have HB3 := Lib.hid (show Blk W3 g 40 (bd9 (bornB x y z wi ht false)) by rw [hW3]; exact HB2.out.re _ _)
  rw [← hW3]
  go_upto_region 11 with (fail)
  clear b0 b1 b2 b3 b4 b5 b6 b7 b8 HV2 HL2 hW3
  have b0 := fun d os => (HB3.out.re d os).cell 0
  have b1 := fun d os => (HB3.out.re d os).cell 1
  have b2 := fun d os => (HB3.out.re d os).cell 2
  have b3 := fun d os => (HB3.out.re d os).cell 3
  have b4 := fun d os => (HB3.out.re d os).cell 4
  have b5 := fun d os => (HB3.out.re d os).cell 5
  have b6 := fun d os => (HB3.out.re d os).cell 6
  have b7 := fun d os => (HB3.out.re d os).cell 7
  have b8 := fun d os => (HB3.out.re d os).cell 8
  have HV3 := Lib.hid fun d os => HVW.out (Go.Sort.grow (redrawn W3 d) os) (after G3.out (below_regrown W3 d os))
  refine wp_sched [0, 0, 0, 0, 3, 3, 3] (fun _ _ _ => True) (by kernel_rfl) (by kernel_rfl) (fun _ _ _ _ h _ => h) ?_
  repeat (first | (refine wpQs_s ?_) | (refine wpQs_q (fun K hK => ?_); go_simp; first | (refine hK _ ?_; clear hK K) | (apply Exists.intro; refine ⟨fun _ => ?_, hK _ ?_⟩; (first | exact (HV3.out _ _).mono fun _ _ ⟨he, hw⟩ => ⟨he, by rw [← hw]; exact Below.refl _ _⟩ | exact HBX'.out _); clear hK K)) | (refine wpQs_f (fun K hK => ?_); go_simp; refine hK _ ?_; clear hK K))
  refine wpQs_nil ?_
  repeat (first | (refine wpLs_skip ?_) | (refine wpLs_one ?lsA (fun v_ => ?_); case lsA => (intro w_ hw_ hp_; (fail))))
  refine wpLs_nilB ?_
  simp only [tails]
  intro W4 g4 _
  have G4 := Lib.hid (after G3.out g4)
  have HB4 := Lib.hid (HB3.out.on g4)
  clear g4 b0 b1 b2 b3 b4 b5 b6 b7 b8 HV3
  go_upto_region 12 with (fail)
  have HS4 := Lib.hid (HST'.out W4 G4.out)
  have f8 := HB4.out.frz 8
  have b8 := HB4.out.cell 8
  clear f8 b8
  go_upto_region 12 with (go_at_call 140; refine HS4.out.mono ?_; rintro e_ w5 ⟨rfl, g5⟩; have G5 := Lib.hid (after G4.out g5); have HB5 := Lib.hid (HB4.out.on g5); clear g5; have f8 := HB5.out.frz 8; have b8 := HB5.out.cell 8)
  obtain ⟨W6, hW6⟩ : ∃ W6, W6 = w5.setCell ⟨g, 8, none⟩ (.bool st) := ⟨_, rfl⟩
  have G6 := Lib.hid (show Below w.heap.size w W6 by rw [hW6]; exact G5.out.setCell HN.out _)
  have HB6 := Lib.hid (show Blk W6 g 40 (bd9 (bornB x y z wi ht st)) by rw [hW6]; exact HB5.out.set_ 8 _)
  rw [← hW6]
  clear hW6 f8 b8 HB5 HS4
  have b0 := fun d os => (HB6.out.re d os).cell 0
  have b1 := fun d os => (HB6.out.re d os).cell 1
  have b2 := fun d os => (HB6.out.re d os).cell 2
  have b3 := fun d os => (HB6.out.re d os).cell 3
  have b4 := fun d os => (HB6.out.re d os).cell 4
  have b5 := fun d os => (HB6.out.re d os).cell 5
  have b6 := fun d os => (HB6.out.re d os).cell 6
  have b7 := fun d os => (HB6.out.re d os).cell 7
  have b8 := fun d os => (HB6.out.re d os).cell 8
  refine wp_sched [0, 0, 0, 0, 2, 0, 0, 0, 3] (spR w.heap.size x y z wi ht st) (by kernel_rfl) (by kernel_rfl) (spR_on) ?_
  repeat (first | (refine wpQs_s ?_) | (refine wpQs_q (fun K hK => ?_); go_simp; first | (refine hK _ ?_; clear hK K) | (apply Exists.intro; refine ⟨fun _ => ?_, hK _ ?_⟩; (fail); clear hK K)) | (refine wpQs_f (fun K hK => ?_); go_simp; refine hK _ ?_; clear hK K))
  refine wpQs_nil ?_
  repeat (first | (refine wpLs_skip ?_) | (refine wpLs_one ?lsA (fun v_ => ?_); case lsA => (intro w_ hw_ hp_; ((go_simp; exact ⟨Kept.of_below (bel_alloc _ _), _, rfl, Nat.le_trans G6.out.size (msd_kept hw_).size, Blk.new' rfl⟩)))))
  refine wpLs_nilB ?_
  simp only [tails]
  rintro W7 g7 ⟨-, a, rfl, hna, hBa⟩
  have G7 := Lib.hid (after G6.out g7)
  have HBa := Lib.hid (And.intro hna hBa)
  have HE7 := Lib.hid (HE.out.1.on G7.out)
  have e1 := HE7.out.blk.cell 1
  have f1 := HE7.out.blk.frz 1
  clear b0 b1 b2 b3 b4 b5 b6 b7 b8 hna hBa g7
  go_wp2_with fail
  go_returns
  refine ⟨rfl, ⟨a, ?_⟩, ((Kept.of_below G7.out).mono (K := fun b => b ≠ e) fun _ h => h).setCell (by simp) _⟩
  refine ⟨EngM e (some ⟨a, bornB x y z wi ht st, 0, 0, false⟩) Ms, ⟨Ms, HE7.out.born ⟨a, bornB x y z wi ht st, 0, 0, false⟩ HBa.out.2, fun _ => Iff.rfl⟩, fun b hb => ?_, ((Kept.of_below G7.out).mono (K := fun b => ¬ M b) fun _ h => h).setCell (fun hne => hne ((HE.out.2 e).2 (.inl rfl))) _⟩
  rcases hb with rfl | ⟨l, hl, rfl⟩ | hb
  · exact .inl ((HE.out.2 _).2 (.inl rfl))
  · obtain rfl := Option.some.inj hl
    exact .inr HBa.out.1
  · exact .inl ((HE.out.2 b).2 (.inr (.inr hb)))
end Go.Proofs.YtmbccnioijokfaaGreatDoor

namespace Go.Proofs.YtmbccnioijokfaaGreatDoor
open Go.RowKit Go.Maps
attribute [local go_sem] Oper.semAt_some
set_option maxRecDepth 100000 in
set_option maxHeartbeats 4000000 in
theorem bcrowd1_c (vw : Value) (q : Option Addr) (c : Nat) (b : BD) (hc : 1 ≤ c) (w : World) (h : Rd w q 9 enBd [b]) :
    Calls Tryz.prog 151 #[vw, .slice q 1 c] w fun r w' => ∃ v, r = .returned v ∧ BRow w' w.heap.size 40 v [b] ∧ Below w.heap.size w w' := by
  have HC := Lib.hid (clone_bd q 1 c [b] rfl hc (by omega) w h)
  clear hc h
  go_enter Tryz.func151, Tryz.ntmps151
  go_upto_region 2 with (go_at_call 199; refine HC.out.mono ?_; rintro e_ w1 ⟨v, rfl, O1, k1⟩)
  have HB := Lib.hid (BRow.of O1)
  obtain ⟨q1, c1, rfl, -, -, -⟩ := BRow.of O1
  have K1 := Lib.hid k1
  clear O1 k1 HC
  go_upto_region 3 with (fail)
  refine wp_loop_rounds 2 ?_
  rw [rounds_succ]
  go_upto_region 6 with (fail)
  refine wp_loop_rounds 1 ?_
  rw [rounds_succ]
  go_wp2_with fail
  rw [rounds_succ]
  go_wp2_with fail
  go_returns
  exact ⟨_, rfl, HB.out, K1.out⟩
end Go.Proofs.YtmbccnioijokfaaGreatDoor

namespace Go.Proofs.YtmbccnioijokfaaGreatDoor
open Go.RowKit Go.Maps
attribute [local go_sem] Oper.semAt_some
theorem infLf : (Tryz.prog.info? 68).map (fun i => (i.zero, i.size, i.bytes)) = some (some (.pointer none), 1, 8) := by kernel_rfl
theorem lf_push {N a b : Nat} {W : World} (h8 : Blk W b 68 #[.pointer (some ⟨a, 0, none⟩)]) (hN : N ≤ W.heap.size) :
    ∃ g c w', (Builtin.append_ #[206, 206] 206 #[.slice none 0 0, .slice (some ⟨b, 0, none⟩) 1 1]).run Tryz.prog W = .ok (.slice (some ⟨g, 0, none⟩) 1 c) w' ∧ Owns w' N 68 1 encA (.slice (some ⟨g, 0, none⟩) 1 c) [a] ∧ Below N W w' := by
  obtain ⟨v', w', hrun, V2, -, hb2, g, c, hv⟩ := run_push (P := Tryz.prog) (ts := 206) (ty := 206) (enc := encA) (x := a) (b := b) (w := W) (base := N) (xs := ([] : List Nat)) (v := .slice none 0 0) Tryz.underlying206 infLf rfl (by decide) (by decide) rfl (by intro u hu; simp [encA] at hu; rcases hu with rfl; rfl) Owns.nil (fun j u hu => by rw [h8.cell j]; simpa [encA] using hu) (by decide) hN
  have hv' : v' = .slice (some ⟨g, 0, none⟩) 1 c := hv
  subst hv'
  exact ⟨g, c, w', hrun, V2, hb2⟩
theorem bd_push {N b : Nat} {x : BD} {W : World} (h8 : Blk W b 40 (bd9 x)) (hN : N ≤ W.heap.size) :
    ∃ g c w', (Builtin.append_ #[218, 218] 218 #[.slice none 0 0, .slice (some ⟨b, 0, none⟩) 1 1]).run Tryz.prog W = .ok (.slice (some ⟨g, 0, none⟩) 1 c) w' ∧ Owns w' N 40 9 enBd (.slice (some ⟨g, 0, none⟩) 1 c) [x] ∧ Below N W w' := by
  obtain ⟨v', w', hrun, V2, -, hb2, g, c, hv⟩ := run_push (P := Tryz.prog) (ts := 218) (ty := 218) (enc := enBd) (x := x) (b := b) (w := W) (base := N) (xs := ([] : List BD)) (v := .slice none 0 0) Tryz.underlying218 infBd rfl (by decide) (by decide) rfl (oneB x) Owns.nil (fun j u hu => by rw [h8.cell j]; simpa [enBd] using hu) (by decide) hN
  have hv' : v' = .slice (some ⟨g, 0, none⟩) 1 c := hv
  subst hv'
  exact ⟨g, c, w', hrun, V2, hb2⟩
def BsR (N : Nat) (x : BD) (v : Value) (w : World) : Prop := ∃ b, v = .slice (some ⟨b, 0, none⟩) 1 1 ∧ N ≤ b ∧ Blk w b 40 (bd9 x)
def tkR (N : Nat) (x : BD) : Nat → Rel := fun i v w => match i with | 12 => BsR N x v w | _ => True
theorem tkR_on {N : Nat} {x : BD} : ∀ i v (w w' : World), tkR N x i v w → Below w.heap.size w w' → tkR N x i v w'
  | 12, _, _, _, ⟨b, h1, h2, h3⟩, hb => ⟨b, h1, h2, h3.on hb⟩
  | 0, _, _, _, _, _ => trivial
  | 1, _, _, _, _, _ => trivial
  | 2, _, _, _, _, _ => trivial
  | 3, _, _, _, _, _ => trivial
  | 4, _, _, _, _, _ => trivial
  | 5, _, _, _, _, _ => trivial
  | 6, _, _, _, _, _ => trivial
  | 7, _, _, _, _, _ => trivial
  | 8, _, _, _, _, _ => trivial
  | 9, _, _, _, _, _ => trivial
  | 10, _, _, _, _, _ => trivial
  | 11, _, _, _, _, _ => trivial
  | _ + 13, _, _, _, _, _ => trivial
theorem rwb_one {w : World} {g : Nat} {t : TypeId} {b : BD} (h : Rwb w g t [b]) : ∀ (j : Nat) (u : Value), (bd9 b)[j]? = some u → w.cell? ⟨g, j, none⟩ = some u := fun j u hu => by
  obtain ⟨cur, h1, h2⟩ := h
  rw [h1.cell]
  have := h2 0 b rfl j u (by simpa [enBd] using hu)
  simpa using this
theorem brow_one {w : World} {n : Nat} {t : TypeId} {q : Option Addr} {c : Nat} {b : BD} (h : BRow w n t (.slice q 1 c) [b]) : ∃ g, q = some ⟨g, 0, none⟩ ∧ n ≤ g ∧ Rwb w g t [b] := by
  obtain ⟨q', c', hv, -, -, h1⟩ := h
  obtain ⟨g, hq, h2, h3⟩ := h1 (by simp)
  injection hv with e1
  exact ⟨g, e1.trans hq, h2, h3⟩
abbrev put9 (w : World) (a : Nat) (b : BD) : World := ((((((((w.setCell ⟨a, 0, none⟩ (.int .i64 b.1)).setCell ⟨a, 1, none⟩ (.int .i64 b.2.1)).setCell ⟨a, 2, none⟩ (.int .i64 b.2.2.1)).setCell ⟨a, 3, none⟩ (.int .i64 b.2.2.2.1)).setCell ⟨a, 4, none⟩ (.int .i64 b.2.2.2.2.1)).setCell ⟨a, 5, none⟩ (.int .i64 b.2.2.2.2.2.1)).setCell ⟨a, 6, none⟩ (.int .i64 b.2.2.2.2.2.2.1)).setCell ⟨a, 7, none⟩ (.int .i64 b.2.2.2.2.2.2.2.1)).setCell ⟨a, 8, none⟩ (.bool b.2.2.2.2.2.2.2.2)
theorem kept9 {K : Nat → Prop} {w0 w : World} (h : Kept K w0 w) {a : Nat} (ha : ¬ K a) (b : BD) : Kept K w0 (put9 w a b) :=
  ((((((((h.setCell (p := ⟨a, 0, none⟩) ha _).setCell (p := ⟨a, 1, none⟩) ha _).setCell (p := ⟨a, 2, none⟩) ha _).setCell (p := ⟨a, 3, none⟩) ha _).setCell (p := ⟨a, 4, none⟩) ha _).setCell (p := ⟨a, 5, none⟩) ha _).setCell (p := ⟨a, 6, none⟩) ha _).setCell (p := ⟨a, 7, none⟩) ha _).setCell (p := ⟨a, 8, none⟩) ha _
abbrev Lf.go (l : Lf) (b : BD) : Lf := ⟨l.a, b, l.x, l.z, l.j⟩
theorem keptL (w : World) (a : Nat) (b : BD) : Kept (fun g => g ≠ a) w (put9 w a b) := kept9 (K := fun g => g ≠ a) (Kept.refl _ w) (fun h => h rfl) b
theorem blk12 {w : World} {a : Nat} {ty : TypeId} {v0 v1 v2 v3 v4 v5 v6 v7 v8 v9 u1 u2 : Value} (h : Blk w a ty #[v0, v1, v2, v3, v4, v5, v6, v7, v8, v9, u1, u2]) (x0 x1 x2 x3 x4 x5 x6 x7 x8 : Value) :
    Blk (((((((((w.setCell ⟨a, 0, none⟩ x0).setCell ⟨a, 1, none⟩ x1).setCell ⟨a, 2, none⟩ x2).setCell ⟨a, 3, none⟩ x3).setCell ⟨a, 4, none⟩ x4).setCell ⟨a, 5, none⟩ x5).setCell ⟨a, 6, none⟩ x6).setCell ⟨a, 7, none⟩ x7).setCell ⟨a, 8, none⟩ x8) a ty #[x0, x1, x2, x3, x4, x5, x6, x7, x8, v9, u1, u2] := by
  have h9 := ((((((((h.set_ 0 x0).set_ 1 x1).set_ 2 x2).set_ 3 x3).set_ 4 x4).set_ 5 x5).set_ 6 x6).set_ 7 x7).set_ 8 x8
  simpa using h9
theorem EngAt.step {w : World} {e s wd t q : Nat} {occ : Value} {S : SS} {Ms : Nat → Prop} {l : Lf} (h : EngAt w e s wd t q occ S (some l) Ms) (b : BD) : EngAt (put9 w l.a b) e s wd t q occ S (some (l.go b)) Ms where
  blk := (keptL w l.a b).blk (fun he => (h.l_no rfl).2 he.symm) h.blk
  life := fun l' hl => by
    obtain rfl : l.go b = l' := Option.some.inj hl
    exact blk12 (h.life l rfl) _ _ _ _ _ _ _ _ _
  sim := (simA_fit s wd t q occ S).kept h.sim (keptL w l.a b) (fun b hb he => (h.l_no rfl).1 (he ▸ hb)) fun b cs hb he => absurd (one_type (he ▸ hb) (h.life l rfl)) (by decide)
theorem at16_0 (p : Option Addr) (w : World) : (Instr.index 69 (.agg #[.pointer p, .pointer none, .pointer none, .pointer none, .pointer none, .pointer none, .pointer none, .pointer none, .pointer none, .pointer none, .pointer none, .pointer none, .pointer none, .pointer none, .pointer none, .pointer none]) (.int .i64 0)).run Tryz.prog w = .ok (.pointer p) w := by kernel_rfl
theorem at16_1 (p : Option Addr) (w : World) : (Instr.index 69 (.agg #[.pointer p, .pointer none, .pointer none, .pointer none, .pointer none, .pointer none, .pointer none, .pointer none, .pointer none, .pointer none, .pointer none, .pointer none, .pointer none, .pointer none, .pointer none, .pointer none]) (.int .i64 1)).run Tryz.prog w = .ok (.pointer none) w := by kernel_rfl
theorem at16_2 (p : Option Addr) (w : World) : (Instr.index 69 (.agg #[.pointer p, .pointer none, .pointer none, .pointer none, .pointer none, .pointer none, .pointer none, .pointer none, .pointer none, .pointer none, .pointer none, .pointer none, .pointer none, .pointer none, .pointer none, .pointer none]) (.int .i64 2)).run Tryz.prog w = .ok (.pointer none) w := by kernel_rfl
theorem at16_3 (p : Option Addr) (w : World) : (Instr.index 69 (.agg #[.pointer p, .pointer none, .pointer none, .pointer none, .pointer none, .pointer none, .pointer none, .pointer none, .pointer none, .pointer none, .pointer none, .pointer none, .pointer none, .pointer none, .pointer none, .pointer none]) (.int .i64 3)).run Tryz.prog w = .ok (.pointer none) w := by kernel_rfl
theorem at16_4 (p : Option Addr) (w : World) : (Instr.index 69 (.agg #[.pointer p, .pointer none, .pointer none, .pointer none, .pointer none, .pointer none, .pointer none, .pointer none, .pointer none, .pointer none, .pointer none, .pointer none, .pointer none, .pointer none, .pointer none, .pointer none]) (.int .i64 4)).run Tryz.prog w = .ok (.pointer none) w := by kernel_rfl
theorem at16_5 (p : Option Addr) (w : World) : (Instr.index 69 (.agg #[.pointer p, .pointer none, .pointer none, .pointer none, .pointer none, .pointer none, .pointer none, .pointer none, .pointer none, .pointer none, .pointer none, .pointer none, .pointer none, .pointer none, .pointer none, .pointer none]) (.int .i64 5)).run Tryz.prog w = .ok (.pointer none) w := by kernel_rfl
theorem at16_6 (p : Option Addr) (w : World) : (Instr.index 69 (.agg #[.pointer p, .pointer none, .pointer none, .pointer none, .pointer none, .pointer none, .pointer none, .pointer none, .pointer none, .pointer none, .pointer none, .pointer none, .pointer none, .pointer none, .pointer none, .pointer none]) (.int .i64 6)).run Tryz.prog w = .ok (.pointer none) w := by kernel_rfl
theorem at16_7 (p : Option Addr) (w : World) : (Instr.index 69 (.agg #[.pointer p, .pointer none, .pointer none, .pointer none, .pointer none, .pointer none, .pointer none, .pointer none, .pointer none, .pointer none, .pointer none, .pointer none, .pointer none, .pointer none, .pointer none, .pointer none]) (.int .i64 7)).run Tryz.prog w = .ok (.pointer none) w := by kernel_rfl
theorem at16_8 (p : Option Addr) (w : World) : (Instr.index 69 (.agg #[.pointer p, .pointer none, .pointer none, .pointer none, .pointer none, .pointer none, .pointer none, .pointer none, .pointer none, .pointer none, .pointer none, .pointer none, .pointer none, .pointer none, .pointer none, .pointer none]) (.int .i64 8)).run Tryz.prog w = .ok (.pointer none) w := by kernel_rfl
theorem at16_9 (p : Option Addr) (w : World) : (Instr.index 69 (.agg #[.pointer p, .pointer none, .pointer none, .pointer none, .pointer none, .pointer none, .pointer none, .pointer none, .pointer none, .pointer none, .pointer none, .pointer none, .pointer none, .pointer none, .pointer none, .pointer none]) (.int .i64 9)).run Tryz.prog w = .ok (.pointer none) w := by kernel_rfl
theorem at16_10 (p : Option Addr) (w : World) : (Instr.index 69 (.agg #[.pointer p, .pointer none, .pointer none, .pointer none, .pointer none, .pointer none, .pointer none, .pointer none, .pointer none, .pointer none, .pointer none, .pointer none, .pointer none, .pointer none, .pointer none, .pointer none]) (.int .i64 10)).run Tryz.prog w = .ok (.pointer none) w := by kernel_rfl
theorem at16_11 (p : Option Addr) (w : World) : (Instr.index 69 (.agg #[.pointer p, .pointer none, .pointer none, .pointer none, .pointer none, .pointer none, .pointer none, .pointer none, .pointer none, .pointer none, .pointer none, .pointer none, .pointer none, .pointer none, .pointer none, .pointer none]) (.int .i64 11)).run Tryz.prog w = .ok (.pointer none) w := by kernel_rfl
theorem at16_12 (p : Option Addr) (w : World) : (Instr.index 69 (.agg #[.pointer p, .pointer none, .pointer none, .pointer none, .pointer none, .pointer none, .pointer none, .pointer none, .pointer none, .pointer none, .pointer none, .pointer none, .pointer none, .pointer none, .pointer none, .pointer none]) (.int .i64 12)).run Tryz.prog w = .ok (.pointer none) w := by kernel_rfl
theorem at16_13 (p : Option Addr) (w : World) : (Instr.index 69 (.agg #[.pointer p, .pointer none, .pointer none, .pointer none, .pointer none, .pointer none, .pointer none, .pointer none, .pointer none, .pointer none, .pointer none, .pointer none, .pointer none, .pointer none, .pointer none, .pointer none]) (.int .i64 13)).run Tryz.prog w = .ok (.pointer none) w := by kernel_rfl
theorem at16_14 (p : Option Addr) (w : World) : (Instr.index 69 (.agg #[.pointer p, .pointer none, .pointer none, .pointer none, .pointer none, .pointer none, .pointer none, .pointer none, .pointer none, .pointer none, .pointer none, .pointer none, .pointer none, .pointer none, .pointer none, .pointer none]) (.int .i64 14)).run Tryz.prog w = .ok (.pointer none) w := by kernel_rfl
theorem at16_15 (p : Option Addr) (w : World) : (Instr.index 69 (.agg #[.pointer p, .pointer none, .pointer none, .pointer none, .pointer none, .pointer none, .pointer none, .pointer none, .pointer none, .pointer none, .pointer none, .pointer none, .pointer none, .pointer none, .pointer none, .pointer none]) (.int .i64 15)).run Tryz.prog w = .ok (.pointer none) w := by kernel_rfl
set_option maxRecDepth 100000 in
set_option maxHeartbeats 32000000 in
theorem etick_c (e s wd t q : Nat) (occ : Value) (S S' : SS) (l : Lf) (b' : BD) (out K : Int) (hK : K ≤ 71000000000000) (hK0 : 0 ≤ K) (hB : BOk K l.b) (hb : stepB S.T.cell l.b l.x l.z l.j = b') (ha : awakeB S.T l.b = true)
    (hx : -1000000000000000 ≤ lowI l.b.1 ∧ lowI l.b.1 ≤ 1000000000000000) (hz : -1000000000000000 ≤ lowI l.b.2.2.1 ∧ lowI l.b.2.2.1 ≤ 1000000000000000) (hn : S.T.l.length ≤ 1000)
    (w : World) (M : Nat → Prop) (h : EngA e s wd t q occ S (some l) w M)
    (hT : ∀ W1 M1, EngA e s wd t q (occV e) S (some (l.go b')) W1 M1 → Calls Tryz.prog 153 #[.pointer (some ⟨s, 0, none⟩)] W1 fun r w' => r = .returned (.int .i64 out) ∧ Aft (EngA e s wd t q (occV e) S' (some (l.go b'))) W1 M1 w') :
    Calls Tryz.prog 105 #[.pointer (some ⟨e, 0, none⟩)] w fun r w' => r = .returned (.int .i64 out) ∧ Aft (EngA e s wd t q (occV e) S' (some (l.go b'))) w M w' := by
  obtain ⟨Ms, h, hM⟩ := h
  have hmf : ∀ (fn : Fn) (first cap : Array Value) (w : World), (Instr.makeFunc fn first cap).run Tryz.prog w = .ok (.func fn first cap) w := fun _ _ _ _ => rfl
  have hE : Blk w e 71 (engC s (some ⟨l.a, 0, none⟩)) := h.blk
  have e1 := hE.cell 1
  have e2 := hE.cell 2
  have e3 := hE.cell 3
  have e4 := hE.cell 4
  have e5 := hE.cell 5
  have e6 := hE.cell 6
  have e7 := hE.cell 7
  have e8 := hE.cell 8
  have e9 := hE.cell 9
  have e10 := hE.cell 10
  have e11 := hE.cell 11
  have e12 := hE.cell 12
  have e13 := hE.cell 13
  have e14 := hE.cell 14
  have e15 := hE.cell 15
  have e16 := hE.cell 16
  have i0 := at16_0 (some ⟨l.a, 0, none⟩)
  have i1 := at16_1 (some ⟨l.a, 0, none⟩)
  have i2 := at16_2 (some ⟨l.a, 0, none⟩)
  have i3 := at16_3 (some ⟨l.a, 0, none⟩)
  have i4 := at16_4 (some ⟨l.a, 0, none⟩)
  have i5 := at16_5 (some ⟨l.a, 0, none⟩)
  have i6 := at16_6 (some ⟨l.a, 0, none⟩)
  have i7 := at16_7 (some ⟨l.a, 0, none⟩)
  have i8 := at16_8 (some ⟨l.a, 0, none⟩)
  have i9 := at16_9 (some ⟨l.a, 0, none⟩)
  have i10 := at16_10 (some ⟨l.a, 0, none⟩)
  have i11 := at16_11 (some ⟨l.a, 0, none⟩)
  have i12 := at16_12 (some ⟨l.a, 0, none⟩)
  have i13 := at16_13 (some ⟨l.a, 0, none⟩)
  have i14 := at16_14 (some ⟨l.a, 0, none⟩)
  have i15 := at16_15 (some ⟨l.a, 0, none⟩)
  have HAW := eawake_c e s wd t q occ S (some l) l.b hx hz hn w Ms h
  rw [ha] at HAW
  have HAW' := Lib.hid HAW
  have HVW := Lib.hid fun W2 (g : Below w.heap.size w W2) => eview_c e s wd t q occ S (some l) W2 Ms (h.on g)
  have hTL : ∀ W2 (g : Below w.heap.size w W2), Tells Tryz.prog 67 (.pointer (some ⟨t, 0, none⟩)) S.T.cell W2 := fun W2 g => by
    obtain ⟨v, ds, Mw, Mq, hs, -⟩ := (h.on g).sim
    exact hs.tells hn
  have HST := fun W2 (g : Below w.heap.size w W2) => bstep_c 67 (.pointer (some ⟨t, 0, none⟩)) S.T.cell l.b l.x l.z l.j K hK hK0 hB W2 (enters_of Tryz.func67 (by kernel_rfl) rfl) (hTL W2 g)
  rw [hb] at HST
  have HST' := Lib.hid HST
  have HS := Lib.hid (And.intro h hM)
  have HL := Lib.hid (h.life l rfl)
  have HT := Lib.hid hT
  have m0 := HL.out.cell 0
  have m1 := HL.out.cell 1
  have m2 := HL.out.cell 2
  have m3 := HL.out.cell 3
  have m4 := HL.out.cell 4
  have m5 := HL.out.cell 5
  have m6 := HL.out.cell 6
  have m7 := HL.out.cell 7
  have m8 := HL.out.cell 8
  clear h hM hE HAW hTL HST hT hb ha hx hz hn hB hK hK0
  go_enter Tryz.func105, Tryz.ntmps105
  go_upto_region 4 with (fail)
  refine wp_loop_rounds 17 ?_
  rw [rounds_succ]
  go_upto_region 7 with (go_at_call 136; refine HAW'.out.mono ?_; rintro e_ w1 ⟨rfl, g1⟩; have G1 := Lib.hid g1; clear g1)
  clear e1 e2 e3 e4 e5 e6 e7 e8 e9 e10 e11 e12 e13 e14 e15 e16 m0 m1 m2 m3 m4 m5 m6 m7 m8
  go_upto_region 8 with (at_builtin; obtain ⟨g, c, w2, hrun, ho, hb2⟩ := lf_push (N := w.heap.size) (a := l.a) (W := w1.alloc (.cells #[.pointer (some ⟨l.a, 0, none⟩)] 68)) (Blk.new' rfl) (Nat.le_trans G1.out.size (bel_alloc _ _).size); have HO2 := Lib.hid (And.intro ho (after' G1.out (Nat.le_refl _) (bel_alloc _ _) |>.trans (hb2.mono (by simp)))); clear ho hb2; refine Lib.wpList_append_run _ rfl _ _ _ _ rfl _ _ rfl rfl _ _ hrun ?_)
  clear i0
  go_wp2_with fail
  iterate 15 (rw [rounds_succ]; go_wp2_with fail)
  rw [rounds_succ]
  go_upto_region 10 with (fail)
  clear i1 i2 i3 i4 i5 i6 i7 i8 i9 i10 i11 i12 i13 i14 i15
  have HG0 := Lib.hid (show ∀ W, Below w2.heap.size w2 W → W.cell? ⟨g, 0, none⟩ = some (.pointer (some ⟨l.a, 0, none⟩)) from fun W hW => by
    obtain ⟨q, cap, hv, -, -, hrd, -⟩ := (HO2.out.1.on hW).form lenA
    obtain ⟨g', o', hq, h5⟩ := hrd (by simp)
    injection hv with e1
    rw [← e1] at hq
    injection hq with hq
    injection hq with e2 e3
    have := h5 0 _ rfl 0 _ rfl
    rw [← e2, ← e3] at this
    exact this)
  have g0 := HG0.out w2 (.refl _ _)
  refine wp_loop_rounds 2 ?_
  rw [rounds_succ]
  go_upto_region 12 with (fail)
  clear g0
  have HL2 := Lib.hid (HL.out.on HO2.out.2)
  have m0 := fun d os => (HL2.out.re d os).cell 0
  have m1 := fun d os => (HL2.out.re d os).cell 1
  have m2 := fun d os => (HL2.out.re d os).cell 2
  have m3 := fun d os => (HL2.out.re d os).cell 3
  have m4 := fun d os => (HL2.out.re d os).cell 4
  have m5 := fun d os => (HL2.out.re d os).cell 5
  have m6 := fun d os => (HL2.out.re d os).cell 6
  have m7 := fun d os => (HL2.out.re d os).cell 7
  have m8 := fun d os => (HL2.out.re d os).cell 8
  have m9 := fun d os => (HL2.out.re d os).cell 9
  have m10 := fun d os => (HL2.out.re d os).cell 10
  have m11 := fun d os => (HL2.out.re d os).cell 11
  have HV2 := Lib.hid fun d os => HVW.out (Go.Sort.grow (redrawn w2 d) os) (after HO2.out.2 (below_regrown w2 d os))
  have HS2 := Lib.hid fun d os => HST'.out (Go.Sort.grow (redrawn w2 d) os) (after HO2.out.2 (below_regrown w2 d os))
  refine wp_sched [0, 0, 0, 0, 0, 0, 0, 0, 0, 0, 0, 0, 2, 3, 3] (tkR w.heap.size b') (by kernel_rfl) (by kernel_rfl) (tkR_on) ?_
  repeat (first | (refine wpQs_s ?_) | (refine wpQs_q (fun K hK => ?_); go_simp; first | (refine hK _ ?_; clear hK K) | (apply Exists.intro; refine ⟨fun _ => ?_, hK _ ?_⟩; (first | exact (HV2.out _ _).mono fun _ _ ⟨he, hw⟩ => ⟨he, by rw [← hw]; exact Below.refl _ _⟩ | exact HS2.out _ _); clear hK K)) | (refine wpQs_f (fun K hK => ?_); go_simp; refine hK _ ?_; clear hK K))
  refine wpQs_nil ?_
  repeat (first | (refine wpLs_skip ?_) | (refine wpLs_one ?lsA (fun v_ => ?_); case lsA => (intro w_ hw_ hp_; ((go_simp; exact ⟨Kept.of_below (bel_alloc _ _), _, rfl, Nat.le_trans HO2.out.2.size (msd_kept hw_).size, Blk.new' rfl⟩)))))
  refine wpLs_nilB ?_
  simp only [tails]
  rintro W3 h3 ⟨-, b3, rfl, hn3, hb3⟩
  have G3 := Lib.hid (after HO2.out.2 h3)
  have H3 := Lib.hid h3
  have HB3 := Lib.hid (And.intro hn3 hb3)
  have HG3 := Lib.hid (HG0.out W3 h3)
  clear m0 m1 m2 m3 m4 m5 m6 m7 m8 m9 m10 m11 HV2 HS2 hn3 hb3 h3
  go_upto_region 13 with (at_builtin; obtain ⟨g6, c6, w6, hrun, ho, hb6⟩ := bd_push (N := w2.heap.size) HB3.out.2 H3.out.size; have HO6 := Lib.hid (And.intro ho (And.intro (G3.out.trans (hb6.mono HO2.out.2.size)) (H3.out.trans hb6))); clear ho hb6; refine Lib.wpList_append_run _ rfl _ _ _ _ rfl _ _ rfl rfl _ _ hrun ?_)
  go_wp2_with fail
  rw [rounds_succ]
  have HV6 := Lib.hid (HVW.out w6 HO6.out.2.1)
  obtain ⟨q6', cap6', hv6, hc6, -, hr6, -⟩ := HO6.out.1.form (size := 9) (enc := enBd) (fun _ => rfl)
  obtain ⟨rfl, hcc⟩ : some ⟨g6, 0, none⟩ = q6' ∧ c6 = cap6' := by injection hv6 with e1 e2 e3; exact ⟨e1, e3⟩
  subst hcc
  have HC6 := Lib.hid (bcrowd1_c (viewV t) (some ⟨g6, 0, none⟩) c6 b' hc6 w6 hr6)
  clear hv6 hc6 hr6
  go_upto_region 15 with first
    | (go_at_call 138; refine HV6.out.mono ?_; rintro e_ w7 ⟨rfl, rfl⟩)
    | (go_at_call 151; refine HC6.out.mono ?_; rintro e_ w7 ⟨v7, rfl, hB7, g7⟩; have HB7 := Lib.hid hB7; obtain ⟨q7, c7, rfl, -, -, -⟩ := hB7; have G7 := Lib.hid g7; clear g7)
  obtain ⟨gb, rfl, -, hRw⟩ := brow_one HB7.out
  have r0 := rwb_one hRw 0 _ rfl
  have r1 := rwb_one hRw 1 _ rfl
  have r2 := rwb_one hRw 2 _ rfl
  have r3 := rwb_one hRw 3 _ rfl
  have r4 := rwb_one hRw 4 _ rfl
  have r5 := rwb_one hRw 5 _ rfl
  have r6 := rwb_one hRw 6 _ rfl
  have r7 := rwb_one hRw 7 _ rfl
  have r8 := rwb_one hRw 8 _ rfl
  clear hRw
  refine wp_loop_rounds 2 ?_
  rw [rounds_succ]
  go_upto_region 17 with (fail)
  obtain ⟨W8, hW8⟩ : ∃ W8, W8 = w7.alloc (.cells (bd9 b') 40) := ⟨_, rfl⟩
  have B8 := Blk.fresh hW8
  have H8 : Below w7.heap.size w7 W8 := by rw [hW8]; exact bel_alloc _ _
  rw [← hW8]
  have G8 := Lib.hid (show Below w.heap.size w W8 from after (after HO6.out.2.1 G7.out) H8)
  have hg8 := HG0.out W8 (after (after HO6.out.2.2 G7.out) H8)
  have g0 := fun d os => cell_regrown (d := d) (os := os) hg8
  have x0 := fun d os => (B8.re d os).cell 0
  have x1 := fun d os => (B8.re d os).cell 1
  have x2 := fun d os => (B8.re d os).cell 2
  have x3 := fun d os => (B8.re d os).cell 3
  have x4 := fun d os => (B8.re d os).cell 4
  have x5 := fun d os => (B8.re d os).cell 5
  have x6 := fun d os => (B8.re d os).cell 6
  have x7 := fun d os => (B8.re d os).cell 7
  have x8 := fun d os => (B8.re d os).cell 8
  clear r0 r1 r2 r3 r4 r5 r6 r7 r8 hW8 B8 H8 hg8
  refine wp_sched [0, 0, 0, 0, 0, 0, 0, 3] (fun _ _ _ => True) (by kernel_rfl) (by kernel_rfl) (fun _ _ _ _ h _ => h) ?_
  repeat (first | (refine wpQs_s ?_) | (refine wpQs_q (fun K hK => ?_); go_simp; first | (refine hK _ ?_; clear hK K) | (apply Exists.intro; refine ⟨fun _ => ?_, hK _ ?_⟩; (fail); clear hK K)) | (refine wpQs_f (fun K hK => ?_); go_simp; refine hK _ ?_; clear hK K))
  refine wpQs_nil ?_
  repeat (first | (refine wpLs_skip ?_) | (refine wpLs_one ?lsA (fun v_ => ?_); case lsA => (intro w_ hw_ hp_; (fail))))
  refine wpLs_nilB ?_
  simp only [tails]
  intro W9 g9 _
  have G9 := Lib.hid (after G8.out g9)
  clear g9 g0 x0 x1 x2 x3 x4 x5 x6 x7 x8
  have HL9 := Lib.hid (HL.out.on G9.out)
  have m0 := HL9.out.cell 0
  have m1 := HL9.out.cell 1
  have m2 := HL9.out.cell 2
  have m3 := HL9.out.cell 3
  have m4 := HL9.out.cell 4
  have m5 := HL9.out.cell 5
  have m6 := HL9.out.cell 6
  have m7 := HL9.out.cell 7
  have m8 := HL9.out.cell 8
  have f0 := HL9.out.frz 0
  have f1 := HL9.out.frz 1
  have f2 := HL9.out.frz 2
  have f3 := HL9.out.frz 3
  have f4 := HL9.out.frz 4
  have f5 := HL9.out.frz 5
  have f6 := HL9.out.frz 6
  have f7 := HL9.out.frz 7
  have f8 := HL9.out.frz 8
  go_upto_region 18 with (fail)
  obtain ⟨W10, hW10⟩ : ∃ W10, W10 = put9 W9 l.a b' := ⟨_, rfl⟩
  unfold put9 at hW10
  rw [← hW10]
  have H10 := Lib.hid (show W10 = put9 W9 l.a b' from hW10)
  clear hW10 m0 m1 m2 m3 m4 m5 m6 m7 m8 f0 f1 f2 f3 f4 f5 f6 f7 f8
  have HE10 := Lib.hid (show EngAt W10 e s wd t q occ S (some (l.go b')) Ms by rw [H10.out]; exact (HS.out.1.on G9.out).step b')
  go_wp2_with fail
  rw [rounds_succ]
  have e0 := HE10.out.blk.cell 0
  have HOC := Lib.hid (soccupy_c s wd t q occ (.func 145) #[.pointer (some ⟨e, 0, none⟩)] #[] S W10 Ms HE10.out.sim)
  go_upto_region 20 with (go_at_call 152; refine HOC.out.mono ?_; rintro e_ w11 ⟨rfl, k11⟩; have K11 := Lib.hid k11; clear k11)
  obtain ⟨M11, a11, m11, k11⟩ := HE10.out.turn K11.out
  have HT11 := Lib.hid (HT.out w11 M11 a11)
  have H11 := Lib.hid (And.intro m11 k11)
  obtain ⟨Ms11, h11, -⟩ := a11
  clear e0
  have e0 := h11.blk.cell 0
  clear h11 m11 k11 HOC
  go_wp2_with (go_at_call 153; refine HT11.out.mono ?_; rintro e_ w12 ⟨rfl, k12⟩; have K12 := Lib.hid k12; clear k12)
  go_returns
  refine ⟨rfl, Aft.bind (M' := EngM e (some (l.go b')) Ms) (fun b hb => .inl ((HS.out.2 b).2 ?_)) ?_ (Aft.bind H11.out.1 H11.out.2 K12.out)⟩
  · rcases hb with hb | ⟨l', hl, hb⟩ | hb
    · exact .inl hb
    · obtain rfl := Option.some.inj hl
      exact .inr (.inl ⟨l, rfl, hb⟩)
    · exact .inr (.inr hb)
  · rw [H10.out]
    exact kept9 ((Kept.of_below G9.out).mono (K := fun b => ¬ M b) fun _ h => h) (fun hne => hne ((HS.out.2 l.a).2 (.inr (.inl ⟨l, rfl, rfl⟩)))) b'
end Go.Proofs.YtmbccnioijokfaaGreatDoor

namespace Go.Proofs.YtmbccnioijokfaaGreatDoor
open Go.RowKit Go.Maps
structure Sd (S : SS) (f : Cl → Int) (ql : List QI) (t : Int) (K D : Nat) : Prop where
  high : High S.T f
  ql : S.Q.l = ql
  room : 1 ≤ S.Q.room
  now : S.now = t
  k : S.k ≤ K
  d : S.d ≤ D
  bud : S.budget = 8
theorem over_in {f g : Cl → Int} {d : Cl} (h : inMid d = true) : overF f g d = f d := by unfold overF; rw [h]; rfl
theorem wakeL_over {f g : Cl → Int} {c : Cl} (h : ∀ d ∈ c :: nearL c, inMid d = true) : wakeL (overF f g) c = wakeL f c := by
  unfold wakeL
  exact List.filter_congr fun d hd => by rw [over_in (h d hd)]
section
variable {S : SS} {f : Cl → Int} {ql : List QI} {t : Int} {K D : Nat}
abbrev EditTo (s wd t q : Nat) (occ : Value) (S S' : SS) (c : Cl) (b : Int) : Prop := ∀ W M, SimA s wd t q occ S W M → Calls Tryz.prog 146 #[.pointer (some ⟨s, 0, none⟩), cellV c, .int .i64 b] W fun r w' => r = .returned (.int .i64 0) ∧ Aft (SimA s wd t q occ S') W M w'
theorem Sd.cell (h : Sd S f ql t K D) {c : Cl} (hc : inMid c = true) : S.T.cell c = f c := by rw [h.high.over]; exact over_in hc
theorem mid_chk {c : Cl} (h : inMid c = true) : chkOf c.1 c.2.2 ∈ ringL 0 0 ∧ 16 ≤ c.2.1 ∧ Mid c ∧ (0 ≤ c.1 ∧ c.1 < 16) ∧ (0 ≤ c.2.2 ∧ c.2.2 < 16) := by
  unfold inMid at h
  simp only [Bool.and_eq_true, decide_eq_true_eq] at h
  refine ⟨?_, h.2.2.1, by unfold Mid; omega, by omega, by omega⟩
  unfold chkOf
  rw [show c.1 / 16 = 0 by omega, show c.2.2 / 16 = 0 by omega]
  exact List.mem_cons_self
theorem Sd.edit0 (h : Sd S f ql t K D) (s wd tb q : Nat) (occ : Value) (c : Cl) (b : Int) (hy : inY c.2.1 = true) (hb : mayK b = true) (hin : ∀ d ∈ c :: nearL c, inMid d = true) (hw : wakeL (updF f c b) c = []) (hK : K ≤ 999999) :
    ∃ S', Sd S' (updF f c b) ql t (K + 1) D ∧ EditTo s wd tb q occ S S' c b := by
  obtain ⟨hr, h16, hmid, -, -⟩ := mid_chk (hin c List.mem_cons_self)
  obtain ⟨n, i, hcs⟩ := h.high.can hr hy hb
  have h1 : Sd { S with T := S.T.put c n i b, k := S.k + 1 } (updF f c b) ql t (K + 1) D := ⟨h.high.put hcs, h.ql, h.room, h.now, Nat.succ_le_succ h.k, h.d, h.bud⟩
  refine ⟨_, h1, fun W M hA => ?_⟩
  refine sedit_c s wd tb q n occ S _ i c b hmid (by rw [h.high.len]; decide) hcs (by have := h.k; omega) W M hA fun W1 M1 h2 => ?_
  refine (wake0_c s wd tb q occ _ c hmid (by rw [h1.high.len]; decide) (by rw [h1.high.over, wakeL_over hin]; exact hw) W1 M1 h2).mono ?_
  rintro r w' ⟨rfl, hb⟩
  exact ⟨rfl, Aft.below ((simA_fit s wd tb q occ _).on h2 hb) hb⟩
end
abbrev TickTo (e s wd tb q : Nat) (S S' : SS) (l : Lf) (out : Int) : Prop := ∀ W M, EngA e s wd tb q (occV e) S (some l) W M → Calls Tryz.prog 153 #[.pointer (some ⟨s, 0, none⟩)] W fun r w' => r = .returned (.int .i64 out) ∧ Aft (EngA e s wd tb q (occV e) S' (some l)) W M w'
theorem nowN_eq {S : SS} {t : Int} (h : S.now = t) (ht : 0 ≤ t ∧ t ≤ 1000000) : nowN S = t + 1 := by unfold nowN mnI; rw [h]; omega
theorem Sd.wait {S : SS} {f : Cl → Int} {ql : List QI} {t : Int} {K D : Nat} (h : Sd S f ql t K D) (e s wd tb q : Nat) (l : Lf) (hq : ql = [] ∨ ∃ x, ql = [x] ∧ t + 1 < x.1) (ht : 0 ≤ t ∧ t ≤ 1000000) : ∃ S', Sd S' f ql (t + 1) K D ∧ TickTo e s wd tb q S S' l 0 := by
  refine ⟨{ S.tick with Q := S.Q }, ⟨h.high, h.ql, h.room, nowN_eq h.now ht, h.k, h.d, h.bud⟩, fun W M ⟨Ms, he, hM⟩ => ?_⟩
  refine (stick_c s wd tb q (occV e) S { S.tick with Q := S.Q } [] S.Q (by rw [h.now]; omega) (by simp) W Ms he.sim (fun W1 M1 g => ?_) (fun c hc => by cases hc) (fun _ => rfl)).mono ?_
  · rcases hq with rfl | ⟨x, rfl, hx⟩
    · exact qdue0_c q S.Q _ _ h.ql W1 M1 g
    · exact qdue2_c q S.Q x _ _ h.ql (by rw [nowN_eq h.now ht]; exact hx) W1 M1 g
  · rintro r w' ⟨rfl, k⟩
    exact ⟨rfl, (he.turn k).under hM⟩
end Go.Proofs.YtmbccnioijokfaaGreatDoor

namespace Go.Proofs.YtmbccnioijokfaaGreatDoor
open Go.RowKit Go.Maps
abbrev bodyD : BD := bornB 360448 1441792 360448 40000 100000 true
abbrev bodyL (a : Nat) : Lf := ⟨a, bodyD, 0, 0, false⟩
def fOne : Cl → Int := updF (fun _ => 0) (5, 21, 5) 1
theorem rest_one (g : Cl → Int) : stepB (overF fOne g) bodyD 0 0 false = bodyD := by kernel_rfl
theorem body_ok : BOk 2000000 bodyD := by constructor <;> decide
abbrev ETick (e s wd tb q : Nat) (S S' : SS) (l : Lf) (out : Int) : Prop := ∀ occ W M, EngA e s wd tb q occ S (some l) W M → Calls Tryz.prog 105 #[.pointer (some ⟨e, 0, none⟩)] W fun r w' => r = .returned (.int .i64 out) ∧ Aft (EngA e s wd tb q (occV e) S' (some l)) W M w'
theorem etick_of {e s wd tb q a : Nat} {S S' : SS} {out : Int} {f : Cl → Int} {ql : List QI} {t : Int} {K D : Nat} (h : Sd S f ql t K D) (hr : ∀ g, stepB (overF f g) bodyD 0 0 false = bodyD) (hT : TickTo e s wd tb q S S' (bodyL a) out) : ETick e s wd tb q S S' (bodyL a) out := fun occ W M hA =>
  etick_c e s wd tb q occ S S' (bodyL a) bodyD out 2000000 (by decide) (by decide) body_ok (by rw [h.high.over]; exact hr _) (h.high.ready (x := lowI 360448) (z := lowI 360448) (by decide) (by decide)) (show -1000000000000000 ≤ lowI 360448 ∧ lowI 360448 ≤ 1000000000000000 by decide) (show -1000000000000000 ≤ lowI 360448 ∧ lowI 360448 ≤ 1000000000000000 by decide) (by rw [h.high.len]; decide) W M hA hT
def Chain (e s wd tb q : Nat) (l : Lf) (n : Nat) (S S' : SS) : Prop := ∃ (seq : Nat → SS) (out : Nat → Int), seq 0 = S ∧ seq n = S' ∧ ∀ i, i < n → ETick e s wd tb q (seq i) (seq (i + 1)) l (out i) ∧ 0 ≤ out i ∧ out i ≤ 1
section
variable {e s wd tb q : Nat} {l : Lf} {n : Nat} {S S1 S' : SS} {o : Int}
theorem Chain.nil : Chain e s wd tb q l 0 S S := ⟨fun _ => S, fun _ => 0, rfl, rfl, fun i hi => by omega⟩
theorem Chain.cons (h : ETick e s wd tb q S S1 l o) (ho : 0 ≤ o ∧ o ≤ 1) (c : Chain e s wd tb q l n S1 S') : Chain e s wd tb q l (n + 1) S S' := by
  obtain ⟨seq, out, h0, hn, hs⟩ := c
  refine ⟨fun i => match i with | 0 => S | i + 1 => seq i, fun i => match i with | 0 => o | i + 1 => out i, rfl, hn, fun i hi => ?_⟩
  cases i with
  | zero => exact ⟨by show ETick e s wd tb q S (seq 0) l o; rw [h0]; exact h, ho⟩
  | succ i => exact hs i (by omega)
end
theorem waits {e s wd tb q a : Nat} {t : Int} {K D : Nat} (ht : 0 ≤ t) : ∀ (n : Nat) {S : SS}, Sd S fOne [] t K D → t + n ≤ 1000 → ∃ S', Sd S' fOne [] (t + n) K D ∧ Chain e s wd tb q (bodyL a) n S S' := by
  intro n
  induction n generalizing t with
  | zero => intro S h _; exact ⟨S, by simpa using h, Chain.nil⟩
  | succ n ih =>
    intro S h hn
    obtain ⟨S1, s1, t1⟩ := h.wait e s wd tb q (bodyL a) (.inl rfl) (by omega)
    obtain ⟨S2, s2, c2⟩ := ih (t := t + 1) (by omega) s1 (by omega)
    refine ⟨S2, ?_, Chain.cons (etick_of h rest_one t1) (by decide) c2⟩
    have : t + ((n + 1 : Nat) : Int) = t + 1 + n := by omega
    rw [this]
    exact s2
end Go.Proofs.YtmbccnioijokfaaGreatDoor

namespace Go.Proofs.YtmbccnioijokfaaGreatDoor
open Go.RowKit Go.Maps
def inWall (d : Cl) : Bool := decide (4 ≤ d.1) && (decide (d.1 ≤ 6) && (decide (20 ≤ d.2.1) && (decide (d.2.1 ≤ 24) && (decide (4 ≤ d.2.2) && (decide (d.2.2 ≤ 6) && (decide (d.2.1 = 20) || (decide (d.2.1 = 24) || (decide (d.1 ≠ 5) || decide (d.2.2 ≠ 5)))))))))
theorem inWall_iff {d : Cl} : inWall d = true ↔ (4 ≤ d.1 ∧ d.1 ≤ 6 ∧ 20 ≤ d.2.1 ∧ d.2.1 ≤ 24 ∧ 4 ≤ d.2.2 ∧ d.2.2 ≤ 6) ∧ (d.2.1 = 20 ∨ d.2.1 = 24 ∨ d.1 ≠ 5 ∨ d.2.2 ≠ 5) := by
  unfold inWall
  simp only [Bool.and_eq_true, Bool.or_eq_true, decide_eq_true_eq]
  omega
def idxW (d : Cl) : Int := ((d.2.1 - 20) * 3 + (d.1 - 4)) * 3 + (d.2.2 - 4)
def wallF (b k : Int) : Cl → Int := fun d => bif inWall d && decide (idxW d < k) then b else 0
theorem wallF_two (b k : Int) (d : Cl) : wallF b k d = b ∨ wallF b k d = 0 := by
  unfold wallF
  cases inWall d && decide (idxW d < k)
  · exact .inr rfl
  · exact .inl rfl
theorem wall_zero (b : Int) : wallF b 0 = fun _ => 0 := by
  funext d
  unfold wallF
  cases h : inWall d
  · rfl
  · obtain ⟨h1, -⟩ := inWall_iff.1 h
    rw [decide_eq_false (by unfold idxW; omega)]
    rfl
theorem wall_put {b k : Int} {c : Cl} (h : inWall c = true) (hk : idxW c = k) : updF (wallF b k) c b = wallF b (k + 1) := by
  funext d
  unfold updF wallF
  by_cases hd : d = c
  · subst hd
    rw [if_pos rfl, h, decide_eq_true (show idxW d < k + 1 by omega)]
    rfl
  · rw [if_neg hd]
    cases hi : inWall d
    · rfl
    · obtain ⟨h1, -⟩ := inWall_iff.1 hi
      obtain ⟨h2, -⟩ := inWall_iff.1 h
      have hne : idxW d ≠ k := fun e => hd (by
        obtain ⟨x, y, z⟩ := d
        obtain ⟨x', y', z'⟩ := c
        unfold idxW at e hk
        dsimp only at *
        have : x = x' ∧ y = y' ∧ z = z' := by omega
        obtain ⟨rfl, rfl, rfl⟩ := this
        rfl)
      by_cases hl : idxW d < k
      · rw [decide_eq_true hl, decide_eq_true (show idxW d < k + 1 by omega)]
      · rw [decide_eq_false hl, decide_eq_false (show ¬ idxW d < k + 1 by omega)]
theorem wall_skip {b k : Int} {c : Cl} (hr : 4 ≤ c.1 ∧ c.1 ≤ 6 ∧ 20 ≤ c.2.1 ∧ c.2.1 ≤ 24 ∧ 4 ≤ c.2.2 ∧ c.2.2 ≤ 6) (h : inWall c = false) (hk : idxW c = k) : wallF b k = wallF b (k + 1) := by
  funext d
  unfold wallF
  cases hi : inWall d
  · rfl
  · obtain ⟨h1, -⟩ := inWall_iff.1 hi
    have hne : idxW d ≠ k := fun e => by
      obtain ⟨x, y, z⟩ := d
      obtain ⟨x', y', z'⟩ := c
      unfold idxW at e hk
      dsimp only at *
      have : x = x' ∧ y = y' ∧ z = z' := by omega
      obtain ⟨rfl, rfl, rfl⟩ := this
      rw [h] at hi
      cases hi
    by_cases hl : idxW d < k
    · rw [decide_eq_true hl, decide_eq_true (show idxW d < k + 1 by omega)]
    · rw [decide_eq_false hl, decide_eq_false (show ¬ idxW d < k + 1 by omega)]
theorem wall_calm {b : Int} (hb : dlyI b = 0) (k : Int) (c : Cl) : wakeL (wallF b k) c = [] := by
  unfold wakeL
  rw [List.filter_eq_nil_iff]
  intro d _
  rcases wallF_two b k d with h | h <;> rw [h]
  · rw [hb]; decide
  · decide
theorem wall_in {c : Cl} (h : inWall c = true) : (∀ d ∈ c :: nearL c, inMid d = true) ∧ inY c.2.1 = true := by
  obtain ⟨h1, -⟩ := inWall_iff.1 h
  obtain ⟨x, y, z⟩ := c
  dsimp only at h1
  refine ⟨fun d hd => ?_, by unfold inY; simp; omega⟩
  unfold nearL at hd
  unfold inMid
  simp only [List.mem_cons, List.not_mem_nil, or_false] at hd
  rcases hd with rfl | rfl | rfl | rfl | rfl | rfl | rfl <;> simp <;> omega
def wallB (glass : Bool) : Int := if glass then 5 else 1
section
variable {S : SS} {t : Int} {K D : Nat}
theorem wall_edit {glass : Bool} {k : Int} (h : Sd S (wallF (wallB glass) k) [] t K D) {c : Cl} (hc : inWall c = true) (hk : idxW c = k) (hK : K ≤ 900) (e s wd tb q : Nat) :
    ∃ S', Sd S' (wallF (wallB glass) (k + 1)) [] t (K + 1) D ∧ ∀ W M, EngA e s wd tb q occ0 S none W M → Calls Tryz.prog 99 #[.pointer (some ⟨e, 0, none⟩), cellV c, .int .i64 (wallB glass)] W fun r w' => r = .returned (.int .i64 0) ∧ Aft (EngA e s wd tb q occ0 S' none) W M w' := by
  have hb : dlyI (wallB glass) = 0 := by cases glass <;> decide
  have hm : mayK (wallB glass) = true := by cases glass <;> decide
  obtain ⟨S', s', e'⟩ := h.edit0 s wd tb q occ0 c (wallB glass) (wall_in hc).2 hm (wall_in hc).1 (by rw [wall_put hc hk]; exact wall_calm hb _ _) (by omega)
  rw [wall_put hc hk] at s'
  exact ⟨S', s', fun W M hA => eedit_c e s wd tb q occ0 S S' none c (wallB glass) (fun l hl => by cases hl) (fun _ => rfl) W M hA fun W1 M1 g => e' W1 M1 g⟩
end
abbrev bodyW : BD := bornB 360448 1376256 360448 40000 100000 true
theorem wfree_false (g : Cl → Int) : ((cellsI 340448 1376256 340448 380448 1476256 380448).any fun c => solB (overF (wallF (wallB false) 45) g c)) = false := by kernel_rfl
theorem wfoot_false (g : Cl → Int) : ((cellsI 340448 (cutI (1376256 - 1)) 340448 380448 1376256 380448).any fun c => solB (overF (wallF (wallB false) 45) g c)) = true := by kernel_rfl
theorem wfree_true (g : Cl → Int) : ((cellsI 340448 1376256 340448 380448 1476256 380448).any fun c => solB (overF (wallF (wallB true) 45) g c)) = false := by kernel_rfl
theorem wfoot_true (g : Cl → Int) : ((cellsI 340448 (cutI (1376256 - 1)) 340448 380448 1376256 380448).any fun c => solB (overF (wallF (wallB true) 45) g c)) = true := by kernel_rfl
theorem wfree_g (glass : Bool) (g : Cl → Int) : ((cellsI 340448 1376256 340448 380448 1476256 380448).any fun c => solB (overF (wallF (wallB glass) 45) g c)) = false := by
  cases glass
  · exact wfree_false g
  · exact wfree_true g
theorem wfoot_g (glass : Bool) (g : Cl → Int) : ((cellsI 340448 (cutI (1376256 - 1)) 340448 380448 1376256 380448).any fun c => solB (overF (wallF (wallB glass) 45) g c)) = true := by
  cases glass
  · exact wfoot_false g
  · exact wfoot_true g
theorem wspawn_e {S : SS} {glass : Bool} {K : Nat} (h : Sd S (wallF (wallB glass) 45) [] 0 K 0) (e s wd t q : Nat) (W : World) (M : Nat → Prop) (hA : EngA e s wd t q occ0 S none W M) :
    Calls Tryz.prog 92 #[.pointer (some ⟨e, 0, none⟩), .agg #[.int .i64 360448, .int .i64 1376256, .int .i64 360448], .int .i64 40000, .int .i64 100000] W fun r w' => r = .returned (.tuple #[.int .i64 0, .int .i64 0]) ∧ (∃ a, Aft (EngA e s wd t q occ0 S (some ⟨a, bodyW, 0, 0, false⟩)) W M w') ∧ Kept (fun b => b ≠ e) W w' :=
  espawn_c e s wd t q occ0 S 360448 1376256 360448 40000 100000 true (340448, 1376256, 340448, 380448, 1476256, 380448) (by decide) (by decide) (by decide) (h.high.ready (x := lowI 360448) (z := lowI 360448) (by decide) (by decide)) (by decide) (by decide) (by rw [h.high.len]; decide)
    (by constructor <;> decide) (by constructor <;> decide) (by decide) (by decide) (by rw [h.high.over]; exact wfree_g glass _) (by rw [h.high.over]; exact wfoot_g glass _) W M hA
theorem wall_walls {S : SS} {glass : Bool} {t : Int} {K D : Nat} (h : Sd S (wallF (wallB glass) 45) [] t K D) : Walls S.T.cell := fun x y z hx hy hz hw => by
  have hin : inWall (x, y, z) = true := inWall_iff.2 ⟨⟨hx.1, hx.2, hy.1, hy.2, hz.1, hz.2⟩, hw⟩
  rw [h.cell ((wall_in hin).1 _ List.mem_cons_self)]
  unfold wallF
  rw [hin, decide_eq_true (show idxW (x, y, z) < 45 by unfold idxW; dsimp only; omega)]
  cases glass <;> decide
theorem room_born : RoomB bodyW := ⟨by constructor <;> decide, by
  have : boxB bodyW = (340448, 1376256, 340448, 380448, 1476256, 380448) := by decide
  rw [this]
  constructor <;> decide, rfl, rfl⟩
theorem wtick {S : SS} {glass : Bool} {t : Int} {K D : Nat} (h : Sd S (wallF (wallB glass) 45) [] t K D) (ht : 0 ≤ t ∧ t ≤ 1000) (e s wd tb q : Nat) (l : Lf) (hl : RoomB l.b) :
    ∃ S', Sd S' (wallF (wallB glass) 45) [] (t + 1) K D ∧ RoomB (stepB S.T.cell l.b l.x l.z l.j) ∧ ∀ occ W M, EngA e s wd tb q occ S (some l) W M → Calls Tryz.prog 105 #[.pointer (some ⟨e, 0, none⟩)] W fun r w' => r = .returned (.int .i64 0) ∧ Aft (EngA e s wd tb q (occV e) S' (some (l.go (stepB S.T.cell l.b l.x l.z l.j)))) W M w' := by
  obtain ⟨S', s', t'⟩ := h.wait e s wd tb q (l.go (stepB S.T.cell l.b l.x l.z l.j)) (.inl rfl) (by omega)
  obtain ⟨f1, f2, -⟩ := hl.foot
  refine ⟨S', s', hl.step (wall_walls h) _ _ _, fun occ W M hA => ?_⟩
  exact etick_c e s wd tb q occ S S' l _ 0 2000000 (by decide) (by decide) hl.ok rfl (by unfold awakeB; rw [f1, f2]; exact h.high.ready (by decide) (by decide)) (by rw [f1]; decide) (by rw [f2]; decide) (by rw [h.high.len]; decide) W M hA t'
end Go.Proofs.YtmbccnioijokfaaGreatDoor

