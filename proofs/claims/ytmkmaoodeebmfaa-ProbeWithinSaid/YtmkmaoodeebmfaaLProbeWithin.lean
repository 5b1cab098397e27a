/- ProbeWithin holds: any small world, any box, any parts of its sides that are cut off. -/
import Derived.Test.YtmkmaoodeebmfaaWithin
import Derived.Test.YtmkmaoodeebmfaaMeet1
import Derived.Test.YtmkmaoodeebmfaaColl
import Derived.Test.YtmkmaoodeebmfaaLives14
import Derived.Test.YtmkmaoodeebmfaaSmall
import Derived.Test.YtmkmaoodeebmfaaNear
import Derived.Test.YtmkmaoodeebmfaaGood13
import Derived.Test.YtmkmaoodeebmfaaRef2
import Derived.Test.YtmkmaoodeebmfaaSched4
namespace Go.Proofs.Ytmkmaoodeebmfaa
open Go.ChangeShapes Go.WideShapes Go.ChangeAt Go.RowKit
attribute [local go_sem] Oper.semAt_some

section
variable {H : Type} {enc : TypeId × Value → H} {P : Program}
theorem okWide_array {w : World} {r : Reach} {b0 n : Nat} {t e : TypeId} {v : Value} (ht : P.underlying t = some (.array n e)) (h : Value.okWide P w r b0 t v) : ∃ cs, v = .agg cs ∧ cs.size = P.cellsOf t := by
  simp only [Value.okWide, ht] at h
  obtain ⟨cs, h1, h2, _⟩ := h
  exact ⟨cs, h1, h2⟩
theorem open_arr6 {w : World} {r : Reach} {b0 base : Nat} {spare : Nat → Bool} {held : Bool} {t e : TypeId} {v : Value} {d : DataW H} {p : List MemPlace} (ht : P.underlying t = some (.array 6 e)) (he : P.underlying e = some (.int .u16)) (hC : P.cellsOf t = 6) (hE : P.cellsOf e = 1)
    (hv : Value.okWide P w r b0 t v) (h : DataW.Trod enc P w base spare held t v d p) : ∃ a b c d e f : Int, v = .agg #[.int .u16 a, .int .u16 b, .int .u16 c, .int .u16 d, .int .u16 e, .int .u16 f] ∧ InU16 a ∧ InU16 b ∧ InU16 c ∧ InU16 d ∧ InU16 e ∧ InU16 f := by
  obtain ⟨cs, rfl, hsz⟩ := okWide_array ht hv
  obtain ⟨fuel, h⟩ := h
  obtain ⟨l⟩ := cs
  have hl : l.length = 6 := hsz.trans hC
  obtain ⟨xs, m, _, _, _, hxl, hg⟩ := DataW.trod_array ht h
  have hval : (Value.agg ⟨l⟩).cells.toList = l := rfl
  rw [hval, hE] at hg
  match l, hl with
  | [v0, v1, v2, v3, v4, v5], _ =>
    match xs, hxl with
    | [y0, y1, y2, y3, y4, y5], _ =>
      have g0 := hg 0 (by omega)
      have g1 := hg 1 (by omega)
      have g2 := hg 2 (by omega)
      have g3 := hg 3 (by omega)
      have g4 := hg 4 (by omega)
      have g5 := hg 5 (by omega)
      obtain ⟨a0, e0, _, w0⟩ := DataW.trod_int (x := y0) he g0
      obtain ⟨a1, e1, _, w1⟩ := DataW.trod_int (x := y1) he g1
      obtain ⟨a2, e2, _, w2⟩ := DataW.trod_int (x := y2) he g2
      obtain ⟨a3, e3, _, w3⟩ := DataW.trod_int (x := y3) he g3
      obtain ⟨a4, e4, _, w4⟩ := DataW.trod_int (x := y4) he g4
      obtain ⟨a5, e5, _, w5⟩ := DataW.trod_int (x := y5) he g5
      simp at e0 e1 e2 e3 e4 e5
      subst e0 e1 e2 e3 e4 e5
      exact ⟨a0, a1, a2, a3, a4, a5, rfl, inU16_of_wf w0, inU16_of_wf w1, inU16_of_wf w2, inU16_of_wf w3, inU16_of_wf w4, inU16_of_wf w5⟩
end
theorem raxis_v (x y z a v : Int) (h : axI x y z a = v) (w : World) : Calls Try.prog 25 #[.agg #[.int .i64 x, .int .i64 y, .int .i64 z], .int .i64 a] w fun e w' => e = .returned (.int .i64 v) ∧ Below w.heap.size w w' := by subst h; exact raxis_c x y z a w
theorem rwith_v (x y z a m p q r : Int) (h1 : wiI x a 0 m = p) (h2 : wiI y a 1 m = q) (h3 : wiI z a 2 m = r) (w : World) : Calls Try.prog 26 #[.agg #[.int .i64 x, .int .i64 y, .int .i64 z], .int .i64 a, .int .i64 m] w fun e w' => e = .returned (.agg #[.int .i64 p, .int .i64 q, .int .i64 r]) ∧ Below w.heap.size w w' := by
  subst h1 h2 h3; exact rwith_c x y z a m w
/-- What the two rows of cells are known to be. -/
def CellI (i j n m : Nat) : InvT := fun S V _ => (S i → ∃ q c, V i = .slice q n c ∧ n ≤ c) ∧ (S (i + 1) → V (i + 1) = .int .i64 n) ∧ (S j → ∃ q c, V j = .slice q m c ∧ m ≤ c) ∧ (S (j + 1) → V (j + 1) = .int .i64 m)
theorem cellI_zero {i j n m : Nat} {V : Nat → Value} {w : World} : CellI i j n m (fun _ => False) V w := ⟨fun h => h.elim, fun h => h.elim, fun h => h.elim, fun h => h.elim⟩
section
variable {n m : Nat} {S : Nat → Prop} {V : Nat → Value} {w w' : World}
theorem CellI.at0 (h : CellI 27 30 n m S V w) (q : Option Addr) (c : Nat) (hc : n ≤ c) : CellI 27 30 n m (andOf S 27) (upd V 27 (.slice q n c)) w' :=
  ⟨fun _ => ⟨q, c, upd_same _ _ _, hc⟩, fun e => (upd_ne (by decide)).trans (h.2.1 (e.resolve_left (by decide))), fun e => by rw [upd_ne (by decide)]; exact h.2.2.1 (e.resolve_left (by decide)), fun e => (upd_ne (by decide)).trans (h.2.2.2 (e.resolve_left (by decide)))⟩
theorem CellI.at1 (h : CellI 27 30 n m S V w) : CellI 27 30 n m (andOf S 28) (upd V 28 (.int .i64 n)) w' :=
  ⟨fun e => by rw [upd_ne (by decide)]; exact h.1 (e.resolve_left (by decide)), fun _ => upd_same _ _ _, fun e => by rw [upd_ne (by decide)]; exact h.2.2.1 (e.resolve_left (by decide)), fun e => (upd_ne (by decide)).trans (h.2.2.2 (e.resolve_left (by decide)))⟩
theorem CellI.at2 (h : CellI 27 30 n m S V w) (q : Option Addr) (c : Nat) (hc : m ≤ c) : CellI 27 30 n m (andOf S 30) (upd V 30 (.slice q m c)) w' :=
  ⟨fun e => by rw [upd_ne (by decide)]; exact h.1 (e.resolve_left (by decide)), fun e => (upd_ne (by decide)).trans (h.2.1 (e.resolve_left (by decide))), fun _ => ⟨q, c, upd_same _ _ _, hc⟩, fun e => (upd_ne (by decide)).trans (h.2.2.2 (e.resolve_left (by decide)))⟩
theorem CellI.at3 (h : CellI 27 30 n m S V w) : CellI 27 30 n m (andOf S 31) (upd V 31 (.int .i64 m)) w' :=
  ⟨fun e => by rw [upd_ne (by decide)]; exact h.1 (e.resolve_left (by decide)), fun e => (upd_ne (by decide)).trans (h.2.1 (e.resolve_left (by decide))), fun e => by rw [upd_ne (by decide)]; exact h.2.2.1 (e.resolve_left (by decide)), fun _ => upd_same _ _ _⟩
end
theorem len_cells {w w' : World} {b : Nat} {r : Ending} {l : List Cl} (h : ∃ v, r = .returned v ∧ Owns w' b 40 3 enc3 v l ∧ Below w.heap.size w w') : ∃ q c, r = .returned (.slice q l.length c) ∧ l.length ≤ c ∧ Below w.heap.size w w' := by
  obtain ⟨v, rfl, ho, hb⟩ := h
  obtain ⟨q, c, rfl, k1, k2, -, -, -⟩ := ho.form len3
  exact ⟨q, c, rfl, k1, hb⟩
/-- One side's parts. -/
structure Part (n m k j lo hi : Int) : Prop where
  e1 : n + Int.tmod k (m - n + 1) = lo
  e2 : lo + Int.tmod j (m - lo + 1) = hi
  h1 : 0 ≤ Int.tmod k (m - n + 1) ∧ Int.tmod k (m - n + 1) ≤ m - n
  h2 : 0 ≤ Int.tmod j (m - lo + 1) ∧ Int.tmod j (m - lo + 1) ≤ m - lo
theorem part_of {n m k j : Int} (h : n ≤ m) (hk : 0 ≤ k) (hj : 0 ≤ j) : ∃ lo hi, Part n m k j lo hi ∧ n ≤ lo ∧ lo ≤ hi ∧ hi ≤ m := by
  have h1 := Int.tmod_nonneg (m - n + 1) hk
  have h2 := Int.tmod_lt_of_pos k (show 0 < m - n + 1 by omega)
  have h4 := Int.tmod_nonneg (m - (n + Int.tmod k (m - n + 1)) + 1) hj
  have h5 := Int.tmod_lt_of_pos j (show 0 < m - (n + Int.tmod k (m - n + 1)) + 1 by omega)
  exact ⟨_, _, ⟨rfl, rfl, ⟨h1, by omega⟩, ⟨h4, by omega⟩⟩, by omega, by omega, by omega⟩
theorem part_lo {n m k j lo hi : Int} (Q : Part n m k j lo hi) (hk : InU16 k) (hb : -1000000 ≤ lo ∧ lo ≤ 1000000) : wrap64 (n + (wrap64 k).tmod (m - n + 1)) = lo := by
  unfold InU16 at hk
  rw [IntWalk.wrap64_in k (by omega), Q.e1]; exact IntWalk.wrap64_in _ (by omega)
theorem part_hi {n m k j lo hi : Int} (Q : Part n m k j lo hi) (hk : InU16 j) (hb : -1000000 ≤ hi ∧ hi ≤ 1000000) : wrap64 (lo + (wrap64 j).tmod (m - lo + 1)) = hi := by
  unfold InU16 at hk
  rw [IntWalk.wrap64_in j (by omega), Q.e2]; exact IntWalk.wrap64_in _ (by omega)

set_option maxRecDepth 100000 in
set_option maxHeartbeats 8000000 in
theorem probeWithin_c (q : Option Addr) (n c : Nat) (F : Nat → Int) (els : Int) (_ : n ≤ c) (hm : c ≤ maxLen) (hF : ∀ i, i < n → In64 (F i)) (he : In64 els) (pa pb pc pd pe pf : Int) (ha : In64 pa) (hb : In64 pb) (hc : In64 pc) (hd : In64 pd) (hee : In64 pe) (hf : In64 pf)
    (k0 k1 k2 k3 k4 k5 : Int) (u0 : InU16 k0) (u1 : InU16 k1) (u2 : InU16 k2) (u3 : InU16 k3) (u4 : InU16 k4) (u5 : InU16 k5) (w : World) (hq : Iq w q n F) :
    Calls Try.prog 5 #[.agg #[.slice q n c, .int .i64 els], .agg #[.int .i64 pa, .int .i64 pb, .int .i64 pc, .int .i64 pd, .int .i64 pe, .int .i64 pf], .agg #[.int .u16 k0, .int .u16 k1, .int .u16 k2, .int .u16 k3, .int .u16 k4, .int .u16 k5]] w fun e w' => e = .returned (.bool true) ∧ Below w.heap.size w w' := by
  have HGd := Lib.hid (fun W (h : Below w.heap.size w W) => rgood13_c q n c F els hm W (hq.on h) hF he)
  have HNr := Lib.hid (fun W => near_c pa pb pc pd pe pf true ha hb hc hd hee hf W)
  have da := near_bd true pa pd
  have db := near_bd true pb pe
  have dc := near_bd true pc pf
  clear hm hF he ha hb hc hd hee hf hq
  obtain ⟨W0, hV⟩ : ∃ W0, W0 = ((w.alloc (.cells #[.slice q n c, .int .i64 els] 24)).alloc (.cells #[.int .i64 pa, .int .i64 pb, .int .i64 pc, .int .i64 pd, .int .i64 pe, .int .i64 pf] 28)).alloc (.cells #[.int .u16 k0, .int .u16 k1, .int .u16 k2, .int .u16 k3, .int .u16 k4, .int .u16 k5] 44) := ⟨_, rfl⟩
  have A0 : Blk W0 w.heap.size 24 #[.slice q n c, .int .i64 els] := by rw [hV]; exact ((Blk.new' rfl).alloc _).alloc _
  have B0 : Blk W0 (w.heap.size + 1) 28 #[.int .i64 pa, .int .i64 pb, .int .i64 pc, .int .i64 pd, .int .i64 pe, .int .i64 pf] := by rw [hV]; exact (Blk.new' (by simp)).alloc _
  have C0 : Blk W0 (w.heap.size + 1 + 1) 44 #[.int .u16 k0, .int .u16 k1, .int .u16 k2, .int .u16 k3, .int .u16 k4, .int .u16 k5] := by rw [hV]; exact Blk.new' (by simp)
  have H0 : Below w.heap.size w W0 := by rw [hV]; go_grown
  go_enter Try.func5, Try.ntmps5
  go_upto_region 1 with (fail)
  rw [← hV]
  clear hV
  have a0 := A0.cell 0
  have a1 := A0.cell 1
  go_upto_region 2 with (go_at_call 9; refine (HGd.out _ H0).mono ?_; rintro e_ w1 ⟨q2, c2, rfl, R, k1, k2, h1⟩)
  generalize hV : World.alloc w1 _ = W1
  have G : Blk W1 w1.heap.size _ _ := Blk.eqw hV (Blk.new' rfl)
  have h2 : Below w1.heap.size w1 W1 := by rw [← hV]; exact (Below.refl _ _).alloc (Nat.le_refl _) _
  have I := iq_of_rd (R.on h2)
  rw [show (goodL n F).length = min n 216 by simp [goodL]] at I
  replace B0 := (B0.on h1).on h2
  replace C0 := (C0.on h1).on h2
  replace H0 := after (after H0 h1) h2
  clear hV h1 h2 k1 k2 R a0 a1 A0
  generalize w.heap.size + 1 + 1 = gc at C0 ⊢
  generalize min n 216 = m at G I ⊢
  generalize w1.heap.size = g at G ⊢
  generalize (fun i => (goodL n F).getD i 0) = F2 at I
  generalize arI els 3 - 1 = els2 at G ⊢
  have g0 := G.cell 0
  have g1 := G.cell 1
  go_upto_region 3 with (go_at_call 10; refine (view_c _ _ _).mono ?_; rintro e_ w2 ⟨rfl, rfl⟩)
  generalize hV : World.alloc W1 _ = W2
  have V2 : Blk W2 W1.heap.size _ _ := Blk.eqw hV (Blk.new' rfl)
  have h2 : Below W1.heap.size W1 W2 := by rw [← hV]; exact (Below.refl _ _).alloc (Nat.le_refl _) _
  replace I := I.on h2
  replace B0 := B0.on h2
  replace C0 := C0.on h2
  replace H0 := after H0 h2
  have T0 := view_tells V2 I
  clear hV h2 V2 g0 g1 G I
  generalize W1.heap.size = g2 at T0 ⊢
  obtain ⟨b0, b1, b2, b3, b4, b5⟩ := B0.c6.1
  go_upto_region 4 with (go_at_call 11; refine (HNr.out _).mono ?_; rintro e_ w3 ⟨rfl, h3⟩)
  generalize hV : World.alloc w3 _ = W3
  have X : Blk W3 w3.heap.size _ _ := Blk.eqw hV (Blk.new' rfl)
  have h2 : Below w3.heap.size w3 W3 := by rw [← hV]; exact (Below.refl _ _).alloc (Nat.le_refl _) _
  replace C0 := (C0.on h3).on h2
  replace H0 := after (after H0 h3) h2
  replace T0 := (T0.on h3).on h2
  clear hV h2 h3 b0 b1 b2 b3 b4 b5 B0 HGd HNr
  generalize w3.heap.size = gx at X ⊢
  generalize nearLo (unitI true) pa = a at da X
  generalize nearLo (unitI true) pb = b at db X
  generalize nearLo (unitI true) pc = c' at dc X
  generalize nearHi (unitI true) pa pd = d at da X
  generalize nearHi (unitI true) pb pe = e at db X
  generalize nearHi (unitI true) pc pf = f at dc X
  have B1 : BoxOk a b c' d e f := ⟨by omega, by omega, by omega, by omega, by omega, by omega, by omega, by omega, by omega⟩
  have L1 : (cellsI a b c' d e f).length ≤ 1000000 := cells_len (by omega) (by omega) (by omega) (by omega) (by omega) (by omega)
  obtain ⟨l0, t0, Q0, i0, j0, m0⟩ := part_of da.2.1 u0.1 u3.1
  obtain ⟨l1, t1, Q1, i1, j1, m1⟩ := part_of db.2.1 u1.1 u4.1
  obtain ⟨l2, t2, Q2, i2, j2, m2⟩ := part_of dc.2.1 u2.1 u5.1
  have B2 : BoxOk l0 l1 l2 t0 t1 t2 := ⟨by omega, by omega, by omega, by omega, by omega, by omega, by omega, by omega, by omega⟩
  have L2 : (cellsI l0 l1 l2 t0 t1 t2).length ≤ (cellsI a b c' d e f).length := len_in B1 i0 i1 i2 j0 j1 j2 m0 m1 m2
  have U := fun p => anyc_in B1 i0 i1 i2 j0 j1 j2 m0 m1 m2 (p := p)
  have P1 := Lib.hid fun W (h : Tells Try.prog 40 _ _ W) => pmBlocked_c 40 #[.pointer (some ⟨g2, 0, none⟩)] (fun x => atG m F2 els2 x.1 x.2.1 x.2.2) a b c' d e f B1 W view_en h
  have P2 := Lib.hid fun W (h : Tells Try.prog 40 _ _ W) => pmWet_c 40 #[.pointer (some ⟨g2, 0, none⟩)] (fun x => atG m F2 els2 x.1 x.2.1 x.2.2) a b c' d e f B1 W view_en h
  have P3 := Lib.hid fun W (h : Tells Try.prog 40 _ _ W) => pmClimbs_c 40 #[.pointer (some ⟨g2, 0, none⟩)] (fun x => atG m F2 els2 x.1 x.2.1 x.2.2) a b c' d e f B1 W view_en h
  have R1 := Lib.hid fun W (h : Tells Try.prog 40 _ _ W) => pmBlocked_c 40 #[.pointer (some ⟨g2, 0, none⟩)] (fun x => atG m F2 els2 x.1 x.2.1 x.2.2) l0 l1 l2 t0 t1 t2 B2 W view_en h
  have R2 := Lib.hid fun W (h : Tells Try.prog 40 _ _ W) => pmWet_c 40 #[.pointer (some ⟨g2, 0, none⟩)] (fun x => atG m F2 els2 x.1 x.2.1 x.2.2) l0 l1 l2 t0 t1 t2 B2 W view_en h
  have R3 := Lib.hid fun W (h : Tells Try.prog 40 _ _ W) => pmClimbs_c 40 #[.pointer (some ⟨g2, 0, none⟩)] (fun x => atG m F2 els2 x.1 x.2.1 x.2.2) l0 l1 l2 t0 t1 t2 B2 W view_en h
  have U1 := U fun x => solB (atG m F2 els2 x.1 x.2.1 x.2.2)
  have U2 := U fun x => wetB (atG m F2 els2 x.1 x.2.1 x.2.2)
  have U3 := U fun x => cliB (atG m F2 els2 x.1 x.2.1 x.2.2)
  have PC := Lib.hid fun W => (pcells_c a b c' d e f B1 L1 W).mono fun _ _ h => len_cells h
  have RC := Lib.hid fun W => (pcells_c l0 l1 l2 t0 t1 t2 B2 (Nat.le_trans L2 L1) W).mono fun _ _ h => len_cells h
  clear U B1 B2
  generalize (cellsI a b c' d e f).any (fun x => solB (atG m F2 els2 x.1 x.2.1 x.2.2)) = x1 at P1 U1
  generalize (cellsI a b c' d e f).any (fun x => wetB (atG m F2 els2 x.1 x.2.1 x.2.2)) = x2 at P2 U2
  generalize (cellsI a b c' d e f).any (fun x => cliB (atG m F2 els2 x.1 x.2.1 x.2.2)) = x3 at P3 U3
  generalize (cellsI l0 l1 l2 t0 t1 t2).any (fun x => solB (atG m F2 els2 x.1 x.2.1 x.2.2)) = y1 at R1 U1
  generalize (cellsI l0 l1 l2 t0 t1 t2).any (fun x => wetB (atG m F2 els2 x.1 x.2.1 x.2.2)) = y2 at R2 U2
  generalize (cellsI l0 l1 l2 t0 t1 t2).any (fun x => cliB (atG m F2 els2 x.1 x.2.1 x.2.2)) = y3 at R3 U3
  have PL := Lib.hid (And.intro L1 L2)
  have HU1 := Lib.hid U1
  have HU2 := Lib.hid U2
  have HU3 := Lib.hid U3
  have HT := Lib.hid T0
  clear L1 L2 U1 U2 U3 T0
  obtain ⟨b0, b1, b2, b3, b4, b5⟩ := X.c6.1
  go_upto_region 5 with (fail)
  have hgx := X.lt
  have hwy0 := H0.size
  have hgc := C0.lt
  generalize hV : World.alloc W3 _ = W4
  have Y : Blk W4 W3.heap.size 28 #[.int .i64 a, .int .i64 b, .int .i64 c', .int .i64 d, .int .i64 e, .int .i64 f] := Blk.eqw hV (Blk.new' rfl)
  have h2 : Below W3.heap.size W3 W4 := by rw [← hV]; exact (Below.refl _ _).alloc (Nat.le_refl _) _
  replace X := X.on h2
  replace C0 := C0.on h2
  replace H0 := after H0 h2
  have HT' := Lib.hid fun W (h : Below W3.heap.size W4 W) => HT.out.on (h2.trans h)
  clear hV h2 b0 b1 b2 b3 b4 b5 HT
  have hwy : w.heap.size ≤ W3.heap.size := hwy0
  generalize W3.heap.size = gy at Y hgx hgc hwy HT' ⊢
  have HK := Lib.hid (Below.refl W4.heap.size W4)
  have HS := Lib.hid H0
  clear H0
  go_upto_region 6 with (fail)
  go_loopw [11] (fun iv wr => Hid ((iv = .int .i64 0 ∧ Blk wr gy 28 #[.int .i64 a, .int .i64 b, .int .i64 c', .int .i64 d, .int .i64 e, .int .i64 f]) ∨
    (iv = .int .i64 1 ∧ Blk wr gy 28 #[.int .i64 l0, .int .i64 b, .int .i64 c', .int .i64 t0, .int .i64 e, .int .i64 f]) ∨
    (iv = .int .i64 2 ∧ Blk wr gy 28 #[.int .i64 l0, .int .i64 l1, .int .i64 c', .int .i64 t0, .int .i64 t1, .int .i64 f]) ∨
    (iv = .int .i64 3 ∧ Blk wr gy 28 #[.int .i64 l0, .int .i64 l1, .int .i64 l2, .int .i64 t0, .int .i64 t1, .int .i64 t2])) ∧
    Blk wr gx 28 #[.int .i64 a, .int .i64 b, .int .i64 c', .int .i64 d, .int .i64 e, .int .i64 f] ∧ Blk wr gc 44 #[.int .u16 k0, .int .u16 k1, .int .u16 k2, .int .u16 k3, .int .u16 k4, .int .u16 k5] ∧
    Hid (Below gy W4 wr) ∧ Hid (Below w.heap.size w wr)) (fun iv _ => 3 - (intOf iv).toNat)
  case atStart => exact ⟨Lib.hid (.inl ⟨rfl, Y⟩), X, C0, Lib.hid (HK.out.mono (by have := Y.lt; omega)), HS⟩
  case round =>
    clear Y X C0 HK HS
    obtain ⟨hk, X, C0, HK, HS⟩ := hrel
    rcases hk.out with ⟨rfl, Y⟩ | ⟨rfl, Y⟩ | ⟨rfl, Y⟩ | ⟨rfl, Y⟩
    · clear hk
      obtain ⟨x0, x1, x2, x3, x4, x5⟩ := X.c6.1
      go_upto_region 9 with (go_at_call 25; refine (raxis_v _ _ _ _ a rfl _).mono ?_; rintro e_ w5 ⟨rfl, h5⟩)
      clear x0 x1 x2 x3 x4 x5
      replace HK := Lib.hid (HK.out.trans (h5.mono (Nat.le_of_lt Y.lt)))
      replace HS := Lib.hid (after HS.out h5)
      replace X := X.on h5
      replace Y := Y.on h5
      replace C0 := C0.on h5
      clear h5
      obtain ⟨x0, x1, x2, x3, x4, x5⟩ := X.c6.1
      go_upto_region 10 with (go_at_call 25; refine (raxis_v _ _ _ _ d rfl _).mono ?_; rintro e_ w6 ⟨rfl, h6⟩)
      clear x0 x1 x2 x3 x4 x5
      replace HK := Lib.hid (HK.out.trans (h6.mono (Nat.le_of_lt Y.lt)))
      replace HS := Lib.hid (after HS.out h6)
      replace X := X.on h6
      replace Y := Y.on h6
      replace C0 := C0.on h6
      clear h6
      have c0 := C0.cell 0
      have q0 := Q0.h1
      go_upto_region 11 with (fail)
      rw [part_lo Q0 u0 (by omega)]
      clear c0 q0
      have c0 := C0.cell 3
      have q0 := Q0.h2
      go_upto_region 12 with (fail)
      rw [part_hi Q0 u3 (by omega)]
      clear c0 q0
      have CUT := cutI_id (n := l0) (by omega) (by omega)
      have HGY := Lib.hid hwy
      obtain ⟨⟨y0, y1_, y2_, y3_, y4_, y5_⟩, f0_, f1_, f2_, f3_, f4_, f5_⟩ := Y.c6
      go_upto_region 13 with (go_at_call 26; refine (rwith_v _ _ _ 0 l0 l0 b c' (by first | rfl | exact CUT) (by first | rfl | exact CUT) (by first | rfl | exact CUT) _).mono ?_; rintro e_ w7 ⟨rfl, h7⟩; clear y0 y1_ y2_ y3_ y4_ y5_ f0_ f1_ f2_ f3_ f4_ f5_; replace HK := Lib.hid (HK.out.trans (h7.mono (Nat.le_of_lt Y.lt))); replace HS := Lib.hid (after HS.out h7); replace X := X.on h7; replace Y := Y.on h7; replace C0 := C0.on h7; clear h7; obtain ⟨⟨y0, y1_, y2_, y3_, y4_, y5_⟩, f0_, f1_, f2_, f3_, f4_, f5_⟩ := Y.c6)
      clear y0 y1_ y2_ y3_ y4_ y5_ f0_ f1_ f2_ f3_ f4_ f5_
      generalize hV : World.setCell (World.setCell (World.setCell w7 _ _) _ _) _ _ = W7
      replace HK := Lib.hid (show Below gy W4 W7 by rw [← hV]; exact (((HK.out.setCell (p := ⟨gy, 0, none⟩) (by dsimp only; omega) _).setCell (p := ⟨gy, 1, none⟩) (by dsimp only; omega) _).setCell (p := ⟨gy, 2, none⟩) (by dsimp only; omega) _))
      replace HS := Lib.hid (show Below w.heap.size w W7 by rw [← hV]; exact (((HS.out.setCell (p := ⟨gy, 0, none⟩) (by have := HGY.out; dsimp only; omega) _).setCell (p := ⟨gy, 1, none⟩) (by have := HGY.out; dsimp only; omega) _).setCell (p := ⟨gy, 2, none⟩) (by have := HGY.out; dsimp only; omega) _))
      replace X := Blk.eqw hV (((X.far (p := ⟨gy, 0, none⟩) (by dsimp only; omega) _).far (p := ⟨gy, 1, none⟩) (by dsimp only; omega) _).far (p := ⟨gy, 2, none⟩) (by dsimp only; omega) _)
      replace C0 := Blk.eqw hV (((C0.far (p := ⟨gy, 0, none⟩) (by dsimp only; omega) _).far (p := ⟨gy, 1, none⟩) (by dsimp only; omega) _).far (p := ⟨gy, 2, none⟩) (by dsimp only; omega) _)
      replace Y : Blk W7 gy 28 #[.int .i64 l0, .int .i64 b, .int .i64 c', .int .i64 d, .int .i64 e, .int .i64 f] := Blk.eqw hV (((Y.set_ 0 _).set_ 1 _).set_ 2 _)
      clear hV
      replace CUT := cutI_id (n := t0) (by omega) (by omega)
      obtain ⟨⟨y0, y1_, y2_, y3_, y4_, y5_⟩, f0_, f1_, f2_, f3_, f4_, f5_⟩ := Y.c6
      go_upto_region 7 with (go_at_call 26; refine (rwith_v _ _ _ 0 t0 t0 e f (by first | rfl | exact CUT) (by first | rfl | exact CUT) (by first | rfl | exact CUT) _).mono ?_; rintro e_ w8 ⟨rfl, h7⟩; clear y0 y1_ y2_ y3_ y4_ y5_ f0_ f1_ f2_ f3_ f4_ f5_; replace HK := Lib.hid (HK.out.trans (h7.mono (Nat.le_of_lt Y.lt))); replace HS := Lib.hid (after HS.out h7); replace X := X.on h7; replace Y := Y.on h7; replace C0 := C0.on h7; clear h7; obtain ⟨⟨y0, y1_, y2_, y3_, y4_, y5_⟩, f0_, f1_, f2_, f3_, f4_, f5_⟩ := Y.c6)
      clear y0 y1_ y2_ y3_ y4_ y5_ f0_ f1_ f2_ f3_ f4_ f5_
      generalize hV : World.setCell (World.setCell (World.setCell w8 _ _) _ _) _ _ = W8
      replace HK := Lib.hid (show Below gy W4 W8 by rw [← hV]; exact (((HK.out.setCell (p := ⟨gy, 3, none⟩) (by dsimp only; omega) _).setCell (p := ⟨gy, 4, none⟩) (by dsimp only; omega) _).setCell (p := ⟨gy, 5, none⟩) (by dsimp only; omega) _))
      replace HS := Lib.hid (show Below w.heap.size w W8 by rw [← hV]; exact (((HS.out.setCell (p := ⟨gy, 3, none⟩) (by have := HGY.out; dsimp only; omega) _).setCell (p := ⟨gy, 4, none⟩) (by have := HGY.out; dsimp only; omega) _).setCell (p := ⟨gy, 5, none⟩) (by have := HGY.out; dsimp only; omega) _))
      replace X := Blk.eqw hV (((X.far (p := ⟨gy, 3, none⟩) (by dsimp only; omega) _).far (p := ⟨gy, 4, none⟩) (by dsimp only; omega) _).far (p := ⟨gy, 5, none⟩) (by dsimp only; omega) _)
      replace C0 := Blk.eqw hV (((C0.far (p := ⟨gy, 3, none⟩) (by dsimp only; omega) _).far (p := ⟨gy, 4, none⟩) (by dsimp only; omega) _).far (p := ⟨gy, 5, none⟩) (by dsimp only; omega) _)
      replace Y : Blk W8 gy 28 #[.int .i64 l0, .int .i64 b, .int .i64 c', .int .i64 t0, .int .i64 e, .int .i64 f] := Blk.eqw hV (((Y.set_ 3 _).set_ 4 _).set_ 5 _)
      clear hV
      clear CUT
      go_wp2_with fail
      go_roundw
      case rel => exact ⟨Lib.hid (.inr (.inl ⟨rfl, Y⟩)), X, C0, HK, HS⟩
      case measure => simp [intOf]
    · clear hk
      obtain ⟨x0, x1, x2, x3, x4, x5⟩ := X.c6.1
      go_upto_region 9 with (go_at_call 25; refine (raxis_v _ _ _ _ b rfl _).mono ?_; rintro e_ w5 ⟨rfl, h5⟩)
      clear x0 x1 x2 x3 x4 x5
      replace HK := Lib.hid (HK.out.trans (h5.mono (Nat.le_of_lt Y.lt)))
      replace HS := Lib.hid (after HS.out h5)
      replace X := X.on h5
      replace Y := Y.on h5
      replace C0 := C0.on h5
      clear h5
      obtain ⟨x0, x1, x2, x3, x4, x5⟩ := X.c6.1
      go_upto_region 10 with (go_at_call 25; refine (raxis_v _ _ _ _ e rfl _).mono ?_; rintro e_ w6 ⟨rfl, h6⟩)
      clear x0 x1 x2 x3 x4 x5
      replace HK := Lib.hid (HK.out.trans (h6.mono (Nat.le_of_lt Y.lt)))
      replace HS := Lib.hid (after HS.out h6)
      replace X := X.on h6
      replace Y := Y.on h6
      replace C0 := C0.on h6
      clear h6
      have c0 := C0.cell 1
      have q0 := Q1.h1
      go_upto_region 11 with (fail)
      rw [part_lo Q1 u1 (by omega)]
      clear c0 q0
      have c0 := C0.cell 4
      have q0 := Q1.h2
      go_upto_region 12 with (fail)
      rw [part_hi Q1 u4 (by omega)]
      clear c0 q0
      have CUT := cutI_id (n := l1) (by omega) (by omega)
      have HGY := Lib.hid hwy
      obtain ⟨⟨y0, y1_, y2_, y3_, y4_, y5_⟩, f0_, f1_, f2_, f3_, f4_, f5_⟩ := Y.c6
      go_upto_region 13 with (go_at_call 26; refine (rwith_v _ _ _ 1 l1 l0 l1 c' (by first | rfl | exact CUT) (by first | rfl | exact CUT) (by first | rfl | exact CUT) _).mono ?_; rintro e_ w7 ⟨rfl, h7⟩; clear y0 y1_ y2_ y3_ y4_ y5_ f0_ f1_ f2_ f3_ f4_ f5_; replace HK := Lib.hid (HK.out.trans (h7.mono (Nat.le_of_lt Y.lt))); replace HS := Lib.hid (after HS.out h7); replace X := X.on h7; replace Y := Y.on h7; replace C0 := C0.on h7; clear h7; obtain ⟨⟨y0, y1_, y2_, y3_, y4_, y5_⟩, f0_, f1_, f2_, f3_, f4_, f5_⟩ := Y.c6)
      clear y0 y1_ y2_ y3_ y4_ y5_ f0_ f1_ f2_ f3_ f4_ f5_
      generalize hV : World.setCell (World.setCell (World.setCell w7 _ _) _ _) _ _ = W7
      replace HK := Lib.hid (show Below gy W4 W7 by rw [← hV]; exact (((HK.out.setCell (p := ⟨gy, 0, none⟩) (by dsimp only; omega) _).setCell (p := ⟨gy, 1, none⟩) (by dsimp only; omega) _).setCell (p := ⟨gy, 2, none⟩) (by dsimp only; omega) _))
      replace HS := Lib.hid (show Below w.heap.size w W7 by rw [← hV]; exact (((HS.out.setCell (p := ⟨gy, 0, none⟩) (by have := HGY.out; dsimp only; omega) _).setCell (p := ⟨gy, 1, none⟩) (by have := HGY.out; dsimp only; omega) _).setCell (p := ⟨gy, 2, none⟩) (by have := HGY.out; dsimp only; omega) _))
      replace X := Blk.eqw hV (((X.far (p := ⟨gy, 0, none⟩) (by dsimp only; omega) _).far (p := ⟨gy, 1, none⟩) (by dsimp only; omega) _).far (p := ⟨gy, 2, none⟩) (by dsimp only; omega) _)
      replace C0 := Blk.eqw hV (((C0.far (p := ⟨gy, 0, none⟩) (by dsimp only; omega) _).far (p := ⟨gy, 1, none⟩) (by dsimp only; omega) _).far (p := ⟨gy, 2, none⟩) (by dsimp only; omega) _)
      replace Y : Blk W7 gy 28 #[.int .i64 l0, .int .i64 l1, .int .i64 c', .int .i64 t0, .int .i64 e, .int .i64 f] := Blk.eqw hV (((Y.set_ 0 _).set_ 1 _).set_ 2 _)
      clear hV
      replace CUT := cutI_id (n := t1) (by omega) (by omega)
      obtain ⟨⟨y0, y1_, y2_, y3_, y4_, y5_⟩, f0_, f1_, f2_, f3_, f4_, f5_⟩ := Y.c6
      go_upto_region 7 with (go_at_call 26; refine (rwith_v _ _ _ 1 t1 t0 t1 f (by first | rfl | exact CUT) (by first | rfl | exact CUT) (by first | rfl | exact CUT) _).mono ?_; rintro e_ w8 ⟨rfl, h7⟩; clear y0 y1_ y2_ y3_ y4_ y5_ f0_ f1_ f2_ f3_ f4_ f5_; replace HK := Lib.hid (HK.out.trans (h7.mono (Nat.le_of_lt Y.lt))); replace HS := Lib.hid (after HS.out h7); replace X := X.on h7; replace Y := Y.on h7; replace C0 := C0.on h7; clear h7; obtain ⟨⟨y0, y1_, y2_, y3_, y4_, y5_⟩, f0_, f1_, f2_, f3_, f4_, f5_⟩ := Y.c6)
      clear y0 y1_ y2_ y3_ y4_ y5_ f0_ f1_ f2_ f3_ f4_ f5_
      generalize hV : World.setCell (World.setCell (World.setCell w8 _ _) _ _) _ _ = W8
      replace HK := Lib.hid (show Below gy W4 W8 by rw [← hV]; exact (((HK.out.setCell (p := ⟨gy, 3, none⟩) (by dsimp only; omega) _).setCell (p := ⟨gy, 4, none⟩) (by dsimp only; omega) _).setCell (p := ⟨gy, 5, none⟩) (by dsimp only; omega) _))
      replace HS := Lib.hid (show Below w.heap.size w W8 by rw [← hV]; exact (((HS.out.setCell (p := ⟨gy, 3, none⟩) (by have := HGY.out; dsimp only; omega) _).setCell (p := ⟨gy, 4, none⟩) (by have := HGY.out; dsimp only; omega) _).setCell (p := ⟨gy, 5, none⟩) (by have := HGY.out; dsimp only; omega) _))
      replace X := Blk.eqw hV (((X.far (p := ⟨gy, 3, none⟩) (by dsimp only; omega) _).far (p := ⟨gy, 4, none⟩) (by dsimp only; omega) _).far (p := ⟨gy, 5, none⟩) (by dsimp only; omega) _)
      replace C0 := Blk.eqw hV (((C0.far (p := ⟨gy, 3, none⟩) (by dsimp only; omega) _).far (p := ⟨gy, 4, none⟩) (by dsimp only; omega) _).far (p := ⟨gy, 5, none⟩) (by dsimp only; omega) _)
      replace Y : Blk W8 gy 28 #[.int .i64 l0, .int .i64 l1, .int .i64 c', .int .i64 t0, .int .i64 t1, .int .i64 f] := Blk.eqw hV (((Y.set_ 3 _).set_ 4 _).set_ 5 _)
      clear hV
      clear CUT
      go_wp2_with fail
      go_roundw
      case rel => exact ⟨Lib.hid (.inr (.inr (.inl ⟨rfl, Y⟩))), X, C0, HK, HS⟩
      case measure => simp [intOf]
    · clear hk
      obtain ⟨x0, x1, x2, x3, x4, x5⟩ := X.c6.1
      go_upto_region 9 with (go_at_call 25; refine (raxis_v _ _ _ _ c' rfl _).mono ?_; rintro e_ w5 ⟨rfl, h5⟩)
      clear x0 x1 x2 x3 x4 x5
      replace HK := Lib.hid (HK.out.trans (h5.mono (Nat.le_of_lt Y.lt)))
      replace HS := Lib.hid (after HS.out h5)
      replace X := X.on h5
      replace Y := Y.on h5
      replace C0 := C0.on h5
      clear h5
      obtain ⟨x0, x1, x2, x3, x4, x5⟩ := X.c6.1
      go_upto_region 10 with (go_at_call 25; refine (raxis_v _ _ _ _ f rfl _).mono ?_; rintro e_ w6 ⟨rfl, h6⟩)
      clear x0 x1 x2 x3 x4 x5
      replace HK := Lib.hid (HK.out.trans (h6.mono (Nat.le_of_lt Y.lt)))
      replace HS := Lib.hid (after HS.out h6)
      replace X := X.on h6
      replace Y := Y.on h6
      replace C0 := C0.on h6
      clear h6
      have c0 := C0.cell 2
      have q0 := Q2.h1
      go_upto_region 11 with (fail)
      rw [part_lo Q2 u2 (by omega)]
      clear c0 q0
      have c0 := C0.cell 5
      have q0 := Q2.h2
      go_upto_region 12 with (fail)
      rw [part_hi Q2 u5 (by omega)]
      clear c0 q0
      have CUT := cutI_id (n := l2) (by omega) (by omega)
      have HGY := Lib.hid hwy
      obtain ⟨⟨y0, y1_, y2_, y3_, y4_, y5_⟩, f0_, f1_, f2_, f3_, f4_, f5_⟩ := Y.c6
      go_upto_region 13 with (go_at_call 26; refine (rwith_v _ _ _ 2 l2 l0 l1 l2 (by first | rfl | exact CUT) (by first | rfl | exact CUT) (by first | rfl | exact CUT) _).mono ?_; rintro e_ w7 ⟨rfl, h7⟩; clear y0 y1_ y2_ y3_ y4_ y5_ f0_ f1_ f2_ f3_ f4_ f5_; replace HK := Lib.hid (HK.out.trans (h7.mono (Nat.le_of_lt Y.lt))); replace HS := Lib.hid (after HS.out h7); replace X := X.on h7; replace Y := Y.on h7; replace C0 := C0.on h7; clear h7; obtain ⟨⟨y0, y1_, y2_, y3_, y4_, y5_⟩, f0_, f1_, f2_, f3_, f4_, f5_⟩ := Y.c6)
      clear y0 y1_ y2_ y3_ y4_ y5_ f0_ f1_ f2_ f3_ f4_ f5_
      generalize hV : World.setCell (World.setCell (World.setCell w7 _ _) _ _) _ _ = W7
      replace HK := Lib.hid (show Below gy W4 W7 by rw [← hV]; exact (((HK.out.setCell (p := ⟨gy, 0, none⟩) (by dsimp only; omega) _).setCell (p := ⟨gy, 1, none⟩) (by dsimp only; omega) _).setCell (p := ⟨gy, 2, none⟩) (by dsimp only; omega) _))
      replace HS := Lib.hid (show Below w.heap.size w W7 by rw [← hV]; exact (((HS.out.setCell (p := ⟨gy, 0, none⟩) (by have := HGY.out; dsimp only; omega) _).setCell (p := ⟨gy, 1, none⟩) (by have := HGY.out; dsimp only; omega) _).setCell (p := ⟨gy, 2, none⟩) (by have := HGY.out; dsimp only; omega) _))
      replace X := Blk.eqw hV (((X.far (p := ⟨gy, 0, none⟩) (by dsimp only; omega) _).far (p := ⟨gy, 1, none⟩) (by dsimp only; omega) _).far (p := ⟨gy, 2, none⟩) (by dsimp only; omega) _)
      replace C0 := Blk.eqw hV (((C0.far (p := ⟨gy, 0, none⟩) (by dsimp only; omega) _).far (p := ⟨gy, 1, none⟩) (by dsimp only; omega) _).far (p := ⟨gy, 2, none⟩) (by dsimp only; omega) _)
      replace Y : Blk W7 gy 28 #[.int .i64 l0, .int .i64 l1, .int .i64 l2, .int .i64 t0, .int .i64 t1, .int .i64 f] := Blk.eqw hV (((Y.set_ 0 _).set_ 1 _).set_ 2 _)
      clear hV
      replace CUT := cutI_id (n := t2) (by omega) (by omega)
      obtain ⟨⟨y0, y1_, y2_, y3_, y4_, y5_⟩, f0_, f1_, f2_, f3_, f4_, f5_⟩ := Y.c6
      go_upto_region 7 with (go_at_call 26; refine (rwith_v _ _ _ 2 t2 t0 t1 t2 (by first | rfl | exact CUT) (by first | rfl | exact CUT) (by first | rfl | exact CUT) _).mono ?_; rintro e_ w8 ⟨rfl, h7⟩; clear y0 y1_ y2_ y3_ y4_ y5_ f0_ f1_ f2_ f3_ f4_ f5_; replace HK := Lib.hid (HK.out.trans (h7.mono (Nat.le_of_lt Y.lt))); replace HS := Lib.hid (after HS.out h7); replace X := X.on h7; replace Y := Y.on h7; replace C0 := C0.on h7; clear h7; obtain ⟨⟨y0, y1_, y2_, y3_, y4_, y5_⟩, f0_, f1_, f2_, f3_, f4_, f5_⟩ := Y.c6)
      clear y0 y1_ y2_ y3_ y4_ y5_ f0_ f1_ f2_ f3_ f4_ f5_
      generalize hV : World.setCell (World.setCell (World.setCell w8 _ _) _ _) _ _ = W8
      replace HK := Lib.hid (show Below gy W4 W8 by rw [← hV]; exact (((HK.out.setCell (p := ⟨gy, 3, none⟩) (by dsimp only; omega) _).setCell (p := ⟨gy, 4, none⟩) (by dsimp only; omega) _).setCell (p := ⟨gy, 5, none⟩) (by dsimp only; omega) _))
      replace HS := Lib.hid (show Below w.heap.size w W8 by rw [← hV]; exact (((HS.out.setCell (p := ⟨gy, 3, none⟩) (by have := HGY.out; dsimp only; omega) _).setCell (p := ⟨gy, 4, none⟩) (by have := HGY.out; dsimp only; omega) _).setCell (p := ⟨gy, 5, none⟩) (by have := HGY.out; dsimp only; omega) _))
      replace X := Blk.eqw hV (((X.far (p := ⟨gy, 3, none⟩) (by dsimp only; omega) _).far (p := ⟨gy, 4, none⟩) (by dsimp only; omega) _).far (p := ⟨gy, 5, none⟩) (by dsimp only; omega) _)
      replace C0 := Blk.eqw hV (((C0.far (p := ⟨gy, 3, none⟩) (by dsimp only; omega) _).far (p := ⟨gy, 4, none⟩) (by dsimp only; omega) _).far (p := ⟨gy, 5, none⟩) (by dsimp only; omega) _)
      replace Y : Blk W8 gy 28 #[.int .i64 l0, .int .i64 l1, .int .i64 l2, .int .i64 t0, .int .i64 t1, .int .i64 t2] := Blk.eqw hV (((Y.set_ 3 _).set_ 4 _).set_ 5 _)
      clear hV
      clear CUT
      go_wp2_with fail
      go_roundw
      case rel => exact ⟨Lib.hid (.inr (.inr (.inr ⟨rfl, Y⟩))), X, C0, HK, HS⟩
      case measure => simp [intOf]
    · clear hk
      have HT2 := Lib.hid fun W (h : Below wr.heap.size wr W) => HT'.out W (HK.out.trans (h.mono (Nat.le_of_lt Y.lt)))
      obtain ⟨y0, y1_, y2_, y3_, y4_, y5_⟩ := Y.c6.1
      go_upto_region 15 with (go_at_call 12; refine (R1.out _ (HT2.out _ (Below.refl _ _))).mono ?_; rintro e_ w5 ⟨rfl, h5⟩)
      clear y0 y1_ y2_ y3_ y4_ y5_
      replace Y := Y.on h5
      obtain ⟨y0, y1_, y2_, y3_, y4_, y5_⟩ := Y.c6.1
      go_upto_region 16 with (go_at_call 14; refine (R2.out _ (HT2.out _ h5)).mono ?_; rintro e_ w6 ⟨rfl, h6⟩)
      have h56 := after h5 h6
      clear y0 y1_ y2_ y3_ y4_ y5_
      replace Y := Y.on h6
      obtain ⟨y0, y1_, y2_, y3_, y4_, y5_⟩ := Y.c6.1
      go_upto_region 17 with (go_at_call 16; refine (R3.out _ (HT2.out _ h56)).mono ?_; rintro e_ w7 ⟨rfl, h7⟩)
      have h57 := after h56 h7
      clear y0 y1_ y2_ y3_ y4_ y5_
      replace Y := Y.on h7
      replace X := X.on h57
      have HTT := Lib.hid fun W (h : Below w7.heap.size w7 W) => HT2.out _ (after h57 h)
      have HE := Lib.hid (after HS.out h57)
      have hle : ((cellsI l0 l1 l2 t0 t1 t2).length : Int) ≤ ((cellsI a b c' d e f).length : Int) := by have := PL.out.2; omega
      clear h5 h6 h56 h7 h57 HT2 HT' HK HS R1 R2 R3
      generalize (cellsI l0 l1 l2 t0 t1 t2).length = n1 at *
      generalize (cellsI a b c' d e f).length = n2 at *
      obtain ⟨x0, x1_, x2_, x3_, x4_, x5_⟩ := X.re6
      obtain ⟨y0, y1_, y2_, y3_, y4_, y5_⟩ := Y.re6
      clear X Y C0 PL
      have e1 : y1 = false ∨ (y1 = true ∧ x1 = true) := by cases y1; exact .inl rfl; exact .inr ⟨rfl, HU1.out rfl⟩
      have e2 : y2 = false ∨ (y2 = true ∧ x2 = true) := by cases y2; exact .inl rfl; exact .inr ⟨rfl, HU2.out rfl⟩
      have e3 : y3 = false ∨ (y3 = true ∧ x3 = true) := by cases y3; exact .inl rfl; exact .inr ⟨rfl, HU3.out rfl⟩
      clear HU1 HU2 HU3
      rcases e1 with rfl | ⟨rfl, rfl⟩ <;> rcases e2 with rfl | ⟨rfl, rfl⟩ <;> rcases e3 with rfl | ⟨rfl, rfl⟩
      case inl.inl.inl =>
        refine wp_inv [0, 0, 0, 0, 0, 0, 0, 0, 0, 0, 0, 0, 0, 0, 0, 0, 0, 0, 0, 0, 0, 0, 0, 0, 0, 0, 0, 2, 2, 0, 2, 2, 3, 3, 3, 3, 3, 3] [] (CellI 27 30 n1 n2) (by kernel_rfl) (by kernel_rfl) (fun _ _ _ _ _ h _ => h) (fun _ => cellI_zero) ?_
        refine wpQs_q (fun K hK => ?_); go_simp; refine hK _ ?_; clear hK K
        refine wpQs_q (fun K hK => ?_); go_simp; refine hK _ ?_; clear hK K
        refine wpQs_q (fun K hK => ?_); go_simp; refine hK _ ?_; clear hK K
        refine wpQs_q (fun K hK => ?_); rw [if_neg (Bool.eq_false_iff.1 (by kernel_rfl))]; go_simp; refine hK _ ?_; clear hK K
        refine wpQs_q (fun K hK => ?_); rw [if_neg (Bool.eq_false_iff.1 (by kernel_rfl))]; go_simp; refine hK _ ?_; clear hK K
        refine wpQs_q (fun K hK => ?_); rw [if_neg (Bool.eq_false_iff.1 (by kernel_rfl))]; go_simp; refine hK _ ?_; clear hK K
        refine wpQs_q (fun K hK => ?_); go_simp; refine hK _ ?_; clear hK K
        refine wpQs_q (fun K hK => ?_); go_simp; refine hK _ ?_; clear hK K
        refine wpQs_q (fun K hK => ?_); rw [if_pos (by kernel_rfl)]; go_simp; refine hK _ ?_; clear hK K
        refine wpQs_q (fun K hK => ?_); rw [if_pos (by kernel_rfl)]; go_simp; refine hK _ ?_; clear hK K
        refine wpQs_q (fun K hK => ?_); rw [if_pos (by kernel_rfl)]; go_simp; refine hK _ ?_; clear hK K
        refine wpQs_q (fun K hK => ?_); rw [if_neg (Bool.eq_false_iff.1 (by kernel_rfl))]; go_simp; refine hK _ ?_; clear hK K
        refine wpQs_q (fun K hK => ?_); rw [if_neg (Bool.eq_false_iff.1 (by kernel_rfl))]; go_simp; refine hK _ ?_; clear hK K
        refine wpQs_q (fun K hK => ?_); rw [if_neg (Bool.eq_false_iff.1 (by kernel_rfl))]; go_simp; refine hK _ ?_; clear hK K
        refine wpQs_q (fun K hK => ?_); rw [if_pos (by kernel_rfl)]; go_simp; refine hK _ ?_; clear hK K
        refine wpQs_q (fun K hK => ?_); go_simp; refine hK _ ?_; clear hK K
        refine wpQs_q (fun K hK => ?_); go_simp; refine hK _ ?_; clear hK K
        refine wpQs_q (fun K hK => ?_); rw [if_pos (by kernel_rfl)]; go_simp; refine hK _ ?_; clear hK K
        refine wpQs_q (fun K hK => ?_); rw [if_pos (by kernel_rfl)]; go_simp; refine hK _ ?_; clear hK K
        refine wpQs_q (fun K hK => ?_); rw [if_pos (by kernel_rfl)]; go_simp; refine hK _ ?_; clear hK K
        refine wpQs_q (fun K hK => ?_); rw [if_neg (Bool.eq_false_iff.1 (by kernel_rfl))]; go_simp; refine hK _ ?_; clear hK K
        refine wpQs_q (fun K hK => ?_); rw [if_neg (Bool.eq_false_iff.1 (by kernel_rfl))]; go_simp; refine hK _ ?_; clear hK K
        refine wpQs_q (fun K hK => ?_); rw [if_neg (Bool.eq_false_iff.1 (by kernel_rfl))]; go_simp; refine hK _ ?_; clear hK K
        refine wpQs_q (fun K hK => ?_); rw [if_pos (by kernel_rfl)]; go_simp; refine hK _ ?_; clear hK K
        refine wpQs_q (fun K hK => ?_); go_simp; refine hK _ ?_; clear hK K
        refine wpQs_q (fun K hK => ?_); go_simp; refine hK _ ?_; clear hK K
        refine wpQs_q (fun K hK => ?_); rw [if_pos (by kernel_rfl)]; go_simp; refine hK _ ?_; clear hK K
        refine wpQs_s ?_
        refine wpQs_s ?_
        refine wpQs_q (fun K hK => ?_); rw [if_pos (by kernel_rfl)]; go_simp; refine hK _ ?_; clear hK K
        refine wpQs_s ?_
        refine wpQs_s ?_
        refine wpQs_s ?_
        refine wpQs_s ?_
        refine wpQs_s ?_
        refine wpQs_s ?_
        refine wpQs_s ?_
        refine wpQs_s ?_
        refine wpQs_nil ?_
        clear x0 x1_ x2_ x3_ x4_ x5_ y0 y1_ y2_ y3_ y4_ y5_
        iterate 27 (refine wpLsI_skip ?_)
        refine wpLsI_grd ?s27 (fun v27_ => ?_)
        case s27 =>
          intro S_ V_ w_ hw_ hV_ ha_ hn_ hI_
          have HF := Lib.hid (And.intro hw_ hI_)
          clear hV_ ha_ hn_ hI_ hw_
          refine .inl ⟨by kernel_rfl, ?_⟩
          go_simp
          refine (RC.out _).mono ?_
          rintro e_ w9 ⟨q_, c_, rfl, hc_, h9⟩
          exact ⟨_, rfl, HF.out.1.on h9, HF.out.2.at0 q_ c_ hc_⟩
        refine wpLsI_grd ?s28 (fun v28_ => ?_)
        case s28 =>
          intro S_ V_ w_ hw_ hV_ ha_ hn_ hI_
          obtain ⟨q_, c_, E_, hc_⟩ := hI_.1 (ha_ 27 (by decide) rfl (by kernel_rfl))
          have E2 := (hV_ 27 (by decide) rfl).symm.trans E_
          have HF := Lib.hid (And.intro hw_ hI_)
          clear hV_ ha_ hn_ hI_ hw_ E_
          subst E2
          refine .inl ⟨by kernel_rfl, ?_⟩
          go_simp
          exact ⟨HF.out.1, HF.out.2.at1⟩
        refine wpLsI_skip ?_
        refine wpLsI_grd ?s30 (fun v30_ => ?_)
        case s30 =>
          intro S_ V_ w_ hw_ hV_ ha_ hn_ hI_
          have HF := Lib.hid (And.intro hw_ hI_)
          clear hV_ ha_ hn_ hI_ hw_
          refine .inl ⟨by kernel_rfl, ?_⟩
          go_simp
          refine (PC.out _).mono ?_
          rintro e_ w9 ⟨q_, c_, rfl, hc_, h9⟩
          exact ⟨_, rfl, HF.out.1.on h9, HF.out.2.at2 q_ c_ hc_⟩
        refine wpLsI_grd ?s31 (fun v31_ => ?_)
        case s31 =>
          intro S_ V_ w_ hw_ hV_ ha_ hn_ hI_
          obtain ⟨q_, c_, E_, hc_⟩ := hI_.2.2.1 (ha_ 30 (by decide) rfl (by kernel_rfl))
          have E2 := (hV_ 30 (by decide) rfl).symm.trans E_
          have HF := Lib.hid (And.intro hw_ hI_)
          clear hV_ ha_ hn_ hI_ hw_ E_
          subst E2
          refine .inl ⟨by kernel_rfl, ?_⟩
          go_simp
          exact ⟨HF.out.1, HF.out.2.at3⟩
        repeat (refine wpLsI_skip ?_)
        refine wpLsI_nil fun V_ w2 hw_ hV_ hI_ => ?_
        have h28 := (hV_ 28 (by decide) rfl).symm.trans (hI_.2.1 ⟨show (28 : Nat) < 38 by decide, rfl⟩)
        have h31 := (hV_ 31 (by decide) rfl).symm.trans (hI_.2.2.2 ⟨show (31 : Nat) < 38 by decide, rfl⟩)
        have HW2 := Lib.hid (after HE.out hw_.none)
        clear hV_ hI_ hw_
        subst h28 h31
        simp only [tails]
        go_wp2_with (go_at_call 20; refine (plives_c _).mono ?_; rintro e_ w10 ⟨rfl, h10⟩)
        go_returns
        exact ⟨rfl, after HW2.out h10⟩
      case inl.inl.inr =>
        refine wp_inv [0, 0, 0, 0, 0, 0, 0, 0, 0, 0, 0, 0, 0, 0, 0, 0, 0, 0, 0, 0, 0, 0, 0, 0, 0, 0, 0, 2, 2, 0, 2, 2, 3, 3, 3, 3, 3, 3] [] (CellI 27 30 n1 n2) (by kernel_rfl) (by kernel_rfl) (fun _ _ _ _ _ h _ => h) (fun _ => cellI_zero) ?_
        refine wpQs_q (fun K hK => ?_); go_simp; refine hK _ ?_; clear hK K
        refine wpQs_q (fun K hK => ?_); go_simp; refine hK _ ?_; clear hK K
        refine wpQs_q (fun K hK => ?_); go_simp; refine hK _ ?_; clear hK K
        refine wpQs_q (fun K hK => ?_); rw [if_neg (Bool.eq_false_iff.1 (by kernel_rfl))]; go_simp; refine hK _ ?_; clear hK K
        refine wpQs_q (fun K hK => ?_); rw [if_neg (Bool.eq_false_iff.1 (by kernel_rfl))]; go_simp; refine hK _ ?_; clear hK K
        refine wpQs_q (fun K hK => ?_); rw [if_neg (Bool.eq_false_iff.1 (by kernel_rfl))]; go_simp; refine hK _ ?_; clear hK K
        refine wpQs_q (fun K hK => ?_); go_simp; refine hK _ ?_; clear hK K
        refine wpQs_q (fun K hK => ?_); go_simp; refine hK _ ?_; clear hK K
        refine wpQs_q (fun K hK => ?_); rw [if_pos (by kernel_rfl)]; go_simp; refine hK _ ?_; clear hK K
        refine wpQs_q (fun K hK => ?_); rw [if_pos (by kernel_rfl)]; go_simp; refine hK _ ?_; clear hK K
        refine wpQs_q (fun K hK => ?_); rw [if_pos (by kernel_rfl)]; go_simp; refine hK _ ?_; clear hK K
        refine wpQs_q (fun K hK => ?_); rw [if_neg (Bool.eq_false_iff.1 (by kernel_rfl))]; go_simp; refine hK _ ?_; clear hK K
        refine wpQs_q (fun K hK => ?_); rw [if_neg (Bool.eq_false_iff.1 (by kernel_rfl))]; go_simp; refine hK _ ?_; clear hK K
        refine wpQs_q (fun K hK => ?_); rw [if_neg (Bool.eq_false_iff.1 (by kernel_rfl))]; go_simp; refine hK _ ?_; clear hK K
        refine wpQs_q (fun K hK => ?_); rw [if_pos (by kernel_rfl)]; go_simp; refine hK _ ?_; clear hK K
        refine wpQs_q (fun K hK => ?_); go_simp; refine hK _ ?_; clear hK K
        refine wpQs_q (fun K hK => ?_); go_simp; refine hK _ ?_; clear hK K
        refine wpQs_q (fun K hK => ?_); rw [if_pos (by kernel_rfl)]; go_simp; refine hK _ ?_; clear hK K
        refine wpQs_q (fun K hK => ?_); rw [if_pos (by kernel_rfl)]; go_simp; refine hK _ ?_; clear hK K
        refine wpQs_q (fun K hK => ?_); rw [if_pos (by kernel_rfl)]; go_simp; refine hK _ ?_; clear hK K
        refine wpQs_q (fun K hK => ?_); rw [if_pos (by kernel_rfl)]; go_simp; refine hK _ ?_; clear hK K
        refine wpQs_q (fun K hK => ?_); rw [if_pos (by kernel_rfl)]; go_simp; refine hK _ ?_; clear hK K
        refine wpQs_q (fun K hK => ?_); rw [if_pos (by kernel_rfl)]; go_simp; apply Exists.intro; refine ⟨fun p_ => ?_, hK _ ?_⟩; exact P3.out _ (HTT.out _ (msd_kept ⟨p_, rfl⟩).none); clear hK K
        refine wpQs_q (fun K hK => ?_); rw [if_pos (by kernel_rfl)]; go_simp; refine hK _ ?_; clear hK K
        refine wpQs_q (fun K hK => ?_); go_simp; refine hK _ ?_; clear hK K
        refine wpQs_q (fun K hK => ?_); go_simp; refine hK _ ?_; clear hK K
        refine wpQs_q (fun K hK => ?_); rw [if_pos (by kernel_rfl)]; go_simp; refine hK _ ?_; clear hK K
        refine wpQs_s ?_
        refine wpQs_s ?_
        refine wpQs_q (fun K hK => ?_); rw [if_pos (by kernel_rfl)]; go_simp; refine hK _ ?_; clear hK K
        refine wpQs_s ?_
        refine wpQs_s ?_
        refine wpQs_s ?_
        refine wpQs_s ?_
        refine wpQs_s ?_
        refine wpQs_s ?_
        refine wpQs_s ?_
        refine wpQs_s ?_
        refine wpQs_nil ?_
        clear x0 x1_ x2_ x3_ x4_ x5_ y0 y1_ y2_ y3_ y4_ y5_
        iterate 27 (refine wpLsI_skip ?_)
        refine wpLsI_grd ?s27 (fun v27_ => ?_)
        case s27 =>
          intro S_ V_ w_ hw_ hV_ ha_ hn_ hI_
          have HF := Lib.hid (And.intro hw_ hI_)
          clear hV_ ha_ hn_ hI_ hw_
          refine .inl ⟨by kernel_rfl, ?_⟩
          go_simp
          refine (RC.out _).mono ?_
          rintro e_ w9 ⟨q_, c_, rfl, hc_, h9⟩
          exact ⟨_, rfl, HF.out.1.on h9, HF.out.2.at0 q_ c_ hc_⟩
        refine wpLsI_grd ?s28 (fun v28_ => ?_)
        case s28 =>
          intro S_ V_ w_ hw_ hV_ ha_ hn_ hI_
          obtain ⟨q_, c_, E_, hc_⟩ := hI_.1 (ha_ 27 (by decide) rfl (by kernel_rfl))
          have E2 := (hV_ 27 (by decide) rfl).symm.trans E_
          have HF := Lib.hid (And.intro hw_ hI_)
          clear hV_ ha_ hn_ hI_ hw_ E_
          subst E2
          refine .inl ⟨by kernel_rfl, ?_⟩
          go_simp
          exact ⟨HF.out.1, HF.out.2.at1⟩
        refine wpLsI_skip ?_
        refine wpLsI_grd ?s30 (fun v30_ => ?_)
        case s30 =>
          intro S_ V_ w_ hw_ hV_ ha_ hn_ hI_
          have HF := Lib.hid (And.intro hw_ hI_)
          clear hV_ ha_ hn_ hI_ hw_
          refine .inl ⟨by kernel_rfl, ?_⟩
          go_simp
          refine (PC.out _).mono ?_
          rintro e_ w9 ⟨q_, c_, rfl, hc_, h9⟩
          exact ⟨_, rfl, HF.out.1.on h9, HF.out.2.at2 q_ c_ hc_⟩
        refine wpLsI_grd ?s31 (fun v31_ => ?_)
        case s31 =>
          intro S_ V_ w_ hw_ hV_ ha_ hn_ hI_
          obtain ⟨q_, c_, E_, hc_⟩ := hI_.2.2.1 (ha_ 30 (by decide) rfl (by kernel_rfl))
          have E2 := (hV_ 30 (by decide) rfl).symm.trans E_
          have HF := Lib.hid (And.intro hw_ hI_)
          clear hV_ ha_ hn_ hI_ hw_ E_
          subst E2
          refine .inl ⟨by kernel_rfl, ?_⟩
          go_simp
          exact ⟨HF.out.1, HF.out.2.at3⟩
        repeat (refine wpLsI_skip ?_)
        refine wpLsI_nil fun V_ w2 hw_ hV_ hI_ => ?_
        have h28 := (hV_ 28 (by decide) rfl).symm.trans (hI_.2.1 ⟨show (28 : Nat) < 38 by decide, rfl⟩)
        have h31 := (hV_ 31 (by decide) rfl).symm.trans (hI_.2.2.2 ⟨show (31 : Nat) < 38 by decide, rfl⟩)
        have HW2 := Lib.hid (after HE.out hw_.none)
        clear hV_ hI_ hw_
        subst h28 h31
        simp only [tails]
        go_wp2_with (go_at_call 20; refine (plives_c _).mono ?_; rintro e_ w10 ⟨rfl, h10⟩)
        go_returns
        exact ⟨rfl, after HW2.out h10⟩
      case inl.inr.inl =>
        refine wp_inv [0, 0, 0, 0, 0, 0, 0, 0, 0, 0, 0, 0, 0, 0, 0, 0, 0, 0, 0, 0, 0, 0, 0, 0, 0, 0, 0, 2, 2, 0, 2, 2, 3, 3, 3, 3, 3, 3] [] (CellI 27 30 n1 n2) (by kernel_rfl) (by kernel_rfl) (fun _ _ _ _ _ h _ => h) (fun _ => cellI_zero) ?_
        refine wpQs_q (fun K hK => ?_); go_simp; refine hK _ ?_; clear hK K
        refine wpQs_q (fun K hK => ?_); go_simp; refine hK _ ?_; clear hK K
        refine wpQs_q (fun K hK => ?_); go_simp; refine hK _ ?_; clear hK K
        refine wpQs_q (fun K hK => ?_); rw [if_neg (Bool.eq_false_iff.1 (by kernel_rfl))]; go_simp; refine hK _ ?_; clear hK K
        refine wpQs_q (fun K hK => ?_); rw [if_neg (Bool.eq_false_iff.1 (by kernel_rfl))]; go_simp; refine hK _ ?_; clear hK K
        refine wpQs_q (fun K hK => ?_); rw [if_neg (Bool.eq_false_iff.1 (by kernel_rfl))]; go_simp; refine hK _ ?_; clear hK K
        refine wpQs_q (fun K hK => ?_); go_simp; refine hK _ ?_; clear hK K
        refine wpQs_q (fun K hK => ?_); go_simp; refine hK _ ?_; clear hK K
        refine wpQs_q (fun K hK => ?_); rw [if_pos (by kernel_rfl)]; go_simp; refine hK _ ?_; clear hK K
        refine wpQs_q (fun K hK => ?_); rw [if_pos (by kernel_rfl)]; go_simp; refine hK _ ?_; clear hK K
        refine wpQs_q (fun K hK => ?_); rw [if_pos (by kernel_rfl)]; go_simp; refine hK _ ?_; clear hK K
        refine wpQs_q (fun K hK => ?_); rw [if_pos (by kernel_rfl)]; go_simp; refine hK _ ?_; clear hK K
        refine wpQs_q (fun K hK => ?_); rw [if_pos (by kernel_rfl)]; go_simp; refine hK _ ?_; clear hK K
        refine wpQs_q (fun K hK => ?_); rw [if_pos (by kernel_rfl)]; go_simp; apply Exists.intro; refine ⟨fun p_ => ?_, hK _ ?_⟩; exact P2.out _ (HTT.out _ (msd_kept ⟨p_, rfl⟩).none); clear hK K
        refine wpQs_q (fun K hK => ?_); rw [if_pos (by kernel_rfl)]; go_simp; refine hK _ ?_; clear hK K
        refine wpQs_q (fun K hK => ?_); go_simp; refine hK _ ?_; clear hK K
        refine wpQs_q (fun K hK => ?_); go_simp; refine hK _ ?_; clear hK K
        refine wpQs_q (fun K hK => ?_); rw [if_pos (by kernel_rfl)]; go_simp; refine hK _ ?_; clear hK K
        refine wpQs_q (fun K hK => ?_); rw [if_pos (by kernel_rfl)]; go_simp; refine hK _ ?_; clear hK K
        refine wpQs_q (fun K hK => ?_); rw [if_pos (by kernel_rfl)]; go_simp; refine hK _ ?_; clear hK K
        refine wpQs_q (fun K hK => ?_); rw [if_neg (Bool.eq_false_iff.1 (by kernel_rfl))]; go_simp; refine hK _ ?_; clear hK K
        refine wpQs_q (fun K hK => ?_); rw [if_neg (Bool.eq_false_iff.1 (by kernel_rfl))]; go_simp; refine hK _ ?_; clear hK K
        refine wpQs_q (fun K hK => ?_); rw [if_neg (Bool.eq_false_iff.1 (by kernel_rfl))]; go_simp; refine hK _ ?_; clear hK K
        refine wpQs_q (fun K hK => ?_); rw [if_pos (by kernel_rfl)]; go_simp; refine hK _ ?_; clear hK K
        refine wpQs_q (fun K hK => ?_); go_simp; refine hK _ ?_; clear hK K
        refine wpQs_q (fun K hK => ?_); go_simp; refine hK _ ?_; clear hK K
        refine wpQs_q (fun K hK => ?_); rw [if_pos (by kernel_rfl)]; go_simp; refine hK _ ?_; clear hK K
        refine wpQs_s ?_
        refine wpQs_s ?_
        refine wpQs_q (fun K hK => ?_); rw [if_pos (by kernel_rfl)]; go_simp; refine hK _ ?_; clear hK K
        refine wpQs_s ?_
        refine wpQs_s ?_
        refine wpQs_s ?_
        refine wpQs_s ?_
        refine wpQs_s ?_
        refine wpQs_s ?_
        refine wpQs_s ?_
        refine wpQs_s ?_
        refine wpQs_nil ?_
        clear x0 x1_ x2_ x3_ x4_ x5_ y0 y1_ y2_ y3_ y4_ y5_
        iterate 27 (refine wpLsI_skip ?_)
        refine wpLsI_grd ?s27 (fun v27_ => ?_)
        case s27 =>
          intro S_ V_ w_ hw_ hV_ ha_ hn_ hI_
          have HF := Lib.hid (And.intro hw_ hI_)
          clear hV_ ha_ hn_ hI_ hw_
          refine .inl ⟨by kernel_rfl, ?_⟩
          go_simp
          refine (RC.out _).mono ?_
          rintro e_ w9 ⟨q_, c_, rfl, hc_, h9⟩
          exact ⟨_, rfl, HF.out.1.on h9, HF.out.2.at0 q_ c_ hc_⟩
        refine wpLsI_grd ?s28 (fun v28_ => ?_)
        case s28 =>
          intro S_ V_ w_ hw_ hV_ ha_ hn_ hI_
          obtain ⟨q_, c_, E_, hc_⟩ := hI_.1 (ha_ 27 (by decide) rfl (by kernel_rfl))
          have E2 := (hV_ 27 (by decide) rfl).symm.trans E_
          have HF := Lib.hid (And.intro hw_ hI_)
          clear hV_ ha_ hn_ hI_ hw_ E_
          subst E2
          refine .inl ⟨by kernel_rfl, ?_⟩
          go_simp
          exact ⟨HF.out.1, HF.out.2.at1⟩
        refine wpLsI_skip ?_
        refine wpLsI_grd ?s30 (fun v30_ => ?_)
        case s30 =>
          intro S_ V_ w_ hw_ hV_ ha_ hn_ hI_
          have HF := Lib.hid (And.intro hw_ hI_)
          clear hV_ ha_ hn_ hI_ hw_
          refine .inl ⟨by kernel_rfl, ?_⟩
          go_simp
          refine (PC.out _).mono ?_
          rintro e_ w9 ⟨q_, c_, rfl, hc_, h9⟩
          exact ⟨_, rfl, HF.out.1.on h9, HF.out.2.at2 q_ c_ hc_⟩
        refine wpLsI_grd ?s31 (fun v31_ => ?_)
        case s31 =>
          intro S_ V_ w_ hw_ hV_ ha_ hn_ hI_
          obtain ⟨q_, c_, E_, hc_⟩ := hI_.2.2.1 (ha_ 30 (by decide) rfl (by kernel_rfl))
          have E2 := (hV_ 30 (by decide) rfl).symm.trans E_
          have HF := Lib.hid (And.intro hw_ hI_)
          clear hV_ ha_ hn_ hI_ hw_ E_
          subst E2
          refine .inl ⟨by kernel_rfl, ?_⟩
          go_simp
          exact ⟨HF.out.1, HF.out.2.at3⟩
        repeat (refine wpLsI_skip ?_)
        refine wpLsI_nil fun V_ w2 hw_ hV_ hI_ => ?_
        have h28 := (hV_ 28 (by decide) rfl).symm.trans (hI_.2.1 ⟨show (28 : Nat) < 38 by decide, rfl⟩)
        have h31 := (hV_ 31 (by decide) rfl).symm.trans (hI_.2.2.2 ⟨show (31 : Nat) < 38 by decide, rfl⟩)
        have HW2 := Lib.hid (after HE.out hw_.none)
        clear hV_ hI_ hw_
        subst h28 h31
        simp only [tails]
        go_wp2_with (go_at_call 20; refine (plives_c _).mono ?_; rintro e_ w10 ⟨rfl, h10⟩)
        go_returns
        exact ⟨rfl, after HW2.out h10⟩
      case inl.inr.inr =>
        refine wp_inv [0, 0, 0, 0, 0, 0, 0, 0, 0, 0, 0, 0, 0, 0, 0, 0, 0, 0, 0, 0, 0, 0, 0, 0, 0, 0, 0, 2, 2, 0, 2, 2, 3, 3, 3, 3, 3, 3] [] (CellI 27 30 n1 n2) (by kernel_rfl) (by kernel_rfl) (fun _ _ _ _ _ h _ => h) (fun _ => cellI_zero) ?_
        refine wpQs_q (fun K hK => ?_); go_simp; refine hK _ ?_; clear hK K
        refine wpQs_q (fun K hK => ?_); go_simp; refine hK _ ?_; clear hK K
        refine wpQs_q (fun K hK => ?_); go_simp; refine hK _ ?_; clear hK K
        refine wpQs_q (fun K hK => ?_); rw [if_neg (Bool.eq_false_iff.1 (by kernel_rfl))]; go_simp; refine hK _ ?_; clear hK K
        refine wpQs_q (fun K hK => ?_); rw [if_neg (Bool.eq_false_iff.1 (by kernel_rfl))]; go_simp; refine hK _ ?_; clear hK K
        refine wpQs_q (fun K hK => ?_); rw [if_neg (Bool.eq_false_iff.1 (by kernel_rfl))]; go_simp; refine hK _ ?_; clear hK K
        refine wpQs_q (fun K hK => ?_); go_simp; refine hK _ ?_; clear hK K
        refine wpQs_q (fun K hK => ?_); go_simp; refine hK _ ?_; clear hK K
        refine wpQs_q (fun K hK => ?_); rw [if_pos (by kernel_rfl)]; go_simp; refine hK _ ?_; clear hK K
        refine wpQs_q (fun K hK => ?_); rw [if_pos (by kernel_rfl)]; go_simp; refine hK _ ?_; clear hK K
        refine wpQs_q (fun K hK => ?_); rw [if_pos (by kernel_rfl)]; go_simp; refine hK _ ?_; clear hK K
        refine wpQs_q (fun K hK => ?_); rw [if_pos (by kernel_rfl)]; go_simp; refine hK _ ?_; clear hK K
        refine wpQs_q (fun K hK => ?_); rw [if_pos (by kernel_rfl)]; go_simp; refine hK _ ?_; clear hK K
        refine wpQs_q (fun K hK => ?_); rw [if_pos (by kernel_rfl)]; go_simp; apply Exists.intro; refine ⟨fun p_ => ?_, hK _ ?_⟩; exact P2.out _ (HTT.out _ (msd_kept ⟨p_, rfl⟩).none); clear hK K
        refine wpQs_q (fun K hK => ?_); rw [if_pos (by kernel_rfl)]; go_simp; refine hK _ ?_; clear hK K
        refine wpQs_q (fun K hK => ?_); go_simp; refine hK _ ?_; clear hK K
        refine wpQs_q (fun K hK => ?_); go_simp; refine hK _ ?_; clear hK K
        refine wpQs_q (fun K hK => ?_); rw [if_pos (by kernel_rfl)]; go_simp; refine hK _ ?_; clear hK K
        refine wpQs_q (fun K hK => ?_); rw [if_pos (by kernel_rfl)]; go_simp; refine hK _ ?_; clear hK K
        refine wpQs_q (fun K hK => ?_); rw [if_pos (by kernel_rfl)]; go_simp; refine hK _ ?_; clear hK K
        refine wpQs_q (fun K hK => ?_); rw [if_pos (by kernel_rfl)]; go_simp; refine hK _ ?_; clear hK K
        refine wpQs_q (fun K hK => ?_); rw [if_pos (by kernel_rfl)]; go_simp; refine hK _ ?_; clear hK K
        refine wpQs_q (fun K hK => ?_); rw [if_pos (by kernel_rfl)]; go_simp; apply Exists.intro; refine ⟨fun p_ => ?_, hK _ ?_⟩; exact P3.out _ (HTT.out _ (msd_kept ⟨p_, rfl⟩).none); clear hK K
        refine wpQs_q (fun K hK => ?_); rw [if_pos (by kernel_rfl)]; go_simp; refine hK _ ?_; clear hK K
        refine wpQs_q (fun K hK => ?_); go_simp; refine hK _ ?_; clear hK K
        refine wpQs_q (fun K hK => ?_); go_simp; refine hK _ ?_; clear hK K
        refine wpQs_q (fun K hK => ?_); rw [if_pos (by kernel_rfl)]; go_simp; refine hK _ ?_; clear hK K
        refine wpQs_s ?_
        refine wpQs_s ?_
        refine wpQs_q (fun K hK => ?_); rw [if_pos (by kernel_rfl)]; go_simp; refine hK _ ?_; clear hK K
        refine wpQs_s ?_
        refine wpQs_s ?_
        refine wpQs_s ?_
        refine wpQs_s ?_
        refine wpQs_s ?_
        refine wpQs_s ?_
        refine wpQs_s ?_
        refine wpQs_s ?_
        refine wpQs_nil ?_
        clear x0 x1_ x2_ x3_ x4_ x5_ y0 y1_ y2_ y3_ y4_ y5_
        iterate 27 (refine wpLsI_skip ?_)
        refine wpLsI_grd ?s27 (fun v27_ => ?_)
        case s27 =>
          intro S_ V_ w_ hw_ hV_ ha_ hn_ hI_
          have HF := Lib.hid (And.intro hw_ hI_)
          clear hV_ ha_ hn_ hI_ hw_
          refine .inl ⟨by kernel_rfl, ?_⟩
          go_simp
          refine (RC.out _).mono ?_
          rintro e_ w9 ⟨q_, c_, rfl, hc_, h9⟩
          exact ⟨_, rfl, HF.out.1.on h9, HF.out.2.at0 q_ c_ hc_⟩
        refine wpLsI_grd ?s28 (fun v28_ => ?_)
        case s28 =>
          intro S_ V_ w_ hw_ hV_ ha_ hn_ hI_
          obtain ⟨q_, c_, E_, hc_⟩ := hI_.1 (ha_ 27 (by decide) rfl (by kernel_rfl))
          have E2 := (hV_ 27 (by decide) rfl).symm.trans E_
          have HF := Lib.hid (And.intro hw_ hI_)
          clear hV_ ha_ hn_ hI_ hw_ E_
          subst E2
          refine .inl ⟨by kernel_rfl, ?_⟩
          go_simp
          exact ⟨HF.out.1, HF.out.2.at1⟩
        refine wpLsI_skip ?_
        refine wpLsI_grd ?s30 (fun v30_ => ?_)
        case s30 =>
          intro S_ V_ w_ hw_ hV_ ha_ hn_ hI_
          have HF := Lib.hid (And.intro hw_ hI_)
          clear hV_ ha_ hn_ hI_ hw_
          refine .inl ⟨by kernel_rfl, ?_⟩
          go_simp
          refine (PC.out _).mono ?_
          rintro e_ w9 ⟨q_, c_, rfl, hc_, h9⟩
          exact ⟨_, rfl, HF.out.1.on h9, HF.out.2.at2 q_ c_ hc_⟩
        refine wpLsI_grd ?s31 (fun v31_ => ?_)
        case s31 =>
          intro S_ V_ w_ hw_ hV_ ha_ hn_ hI_
          obtain ⟨q_, c_, E_, hc_⟩ := hI_.2.2.1 (ha_ 30 (by decide) rfl (by kernel_rfl))
          have E2 := (hV_ 30 (by decide) rfl).symm.trans E_
          have HF := Lib.hid (And.intro hw_ hI_)
          clear hV_ ha_ hn_ hI_ hw_ E_
          subst E2
          refine .inl ⟨by kernel_rfl, ?_⟩
          go_simp
          exact ⟨HF.out.1, HF.out.2.at3⟩
        repeat (refine wpLsI_skip ?_)
        refine wpLsI_nil fun V_ w2 hw_ hV_ hI_ => ?_
        have h28 := (hV_ 28 (by decide) rfl).symm.trans (hI_.2.1 ⟨show (28 : Nat) < 38 by decide, rfl⟩)
        have h31 := (hV_ 31 (by decide) rfl).symm.trans (hI_.2.2.2 ⟨show (31 : Nat) < 38 by decide, rfl⟩)
        have HW2 := Lib.hid (after HE.out hw_.none)
        clear hV_ hI_ hw_
        subst h28 h31
        simp only [tails]
        go_wp2_with (go_at_call 20; refine (plives_c _).mono ?_; rintro e_ w10 ⟨rfl, h10⟩)
        go_returns
        exact ⟨rfl, after HW2.out h10⟩
      case inr.inl.inl =>
        refine wp_inv [0, 0, 0, 0, 0, 0, 0, 0, 0, 0, 0, 0, 0, 0, 0, 0, 0, 0, 0, 0, 0, 0, 0, 0, 0, 0, 0, 2, 2, 0, 2, 2, 3, 3, 3, 3, 3, 3] [] (CellI 27 30 n1 n2) (by kernel_rfl) (by kernel_rfl) (fun _ _ _ _ _ h _ => h) (fun _ => cellI_zero) ?_
        refine wpQs_q (fun K hK => ?_); go_simp; refine hK _ ?_; clear hK K
        refine wpQs_q (fun K hK => ?_); go_simp; refine hK _ ?_; clear hK K
        refine wpQs_q (fun K hK => ?_); go_simp; refine hK _ ?_; clear hK K
        refine wpQs_q (fun K hK => ?_); rw [if_pos (by kernel_rfl)]; go_simp; refine hK _ ?_; clear hK K
        refine wpQs_q (fun K hK => ?_); rw [if_pos (by kernel_rfl)]; go_simp; refine hK _ ?_; clear hK K
        refine wpQs_q (fun K hK => ?_); rw [if_pos (by kernel_rfl)]; go_simp; apply Exists.intro; refine ⟨fun p_ => ?_, hK _ ?_⟩; exact P1.out _ (HTT.out _ (msd_kept ⟨p_, rfl⟩).none); clear hK K
        refine wpQs_q (fun K hK => ?_); go_simp; refine hK _ ?_; clear hK K
        refine wpQs_q (fun K hK => ?_); go_simp; refine hK _ ?_; clear hK K
        refine wpQs_q (fun K hK => ?_); rw [if_pos (by kernel_rfl)]; go_simp; refine hK _ ?_; clear hK K
        refine wpQs_q (fun K hK => ?_); rw [if_pos (by kernel_rfl)]; go_simp; refine hK _ ?_; clear hK K
        refine wpQs_q (fun K hK => ?_); rw [if_pos (by kernel_rfl)]; go_simp; refine hK _ ?_; clear hK K
        refine wpQs_q (fun K hK => ?_); rw [if_neg (Bool.eq_false_iff.1 (by kernel_rfl))]; go_simp; refine hK _ ?_; clear hK K
        refine wpQs_q (fun K hK => ?_); rw [if_neg (Bool.eq_false_iff.1 (by kernel_rfl))]; go_simp; refine hK _ ?_; clear hK K
        refine wpQs_q (fun K hK => ?_); rw [if_neg (Bool.eq_false_iff.1 (by kernel_rfl))]; go_simp; refine hK _ ?_; clear hK K
        refine wpQs_q (fun K hK => ?_); rw [if_pos (by kernel_rfl)]; go_simp; refine hK _ ?_; clear hK K
        refine wpQs_q (fun K hK => ?_); go_simp; refine hK _ ?_; clear hK K
        refine wpQs_q (fun K hK => ?_); go_simp; refine hK _ ?_; clear hK K
        refine wpQs_q (fun K hK => ?_); rw [if_pos (by kernel_rfl)]; go_simp; refine hK _ ?_; clear hK K
        refine wpQs_q (fun K hK => ?_); rw [if_pos (by kernel_rfl)]; go_simp; refine hK _ ?_; clear hK K
        refine wpQs_q (fun K hK => ?_); rw [if_pos (by kernel_rfl)]; go_simp; refine hK _ ?_; clear hK K
        refine wpQs_q (fun K hK => ?_); rw [if_neg (Bool.eq_false_iff.1 (by kernel_rfl))]; go_simp; refine hK _ ?_; clear hK K
        refine wpQs_q (fun K hK => ?_); rw [if_neg (Bool.eq_false_iff.1 (by kernel_rfl))]; go_simp; refine hK _ ?_; clear hK K
        refine wpQs_q (fun K hK => ?_); rw [if_neg (Bool.eq_false_iff.1 (by kernel_rfl))]; go_simp; refine hK _ ?_; clear hK K
        refine wpQs_q (fun K hK => ?_); rw [if_pos (by kernel_rfl)]; go_simp; refine hK _ ?_; clear hK K
        refine wpQs_q (fun K hK => ?_); go_simp; refine hK _ ?_; clear hK K
        refine wpQs_q (fun K hK => ?_); go_simp; refine hK _ ?_; clear hK K
        refine wpQs_q (fun K hK => ?_); rw [if_pos (by kernel_rfl)]; go_simp; refine hK _ ?_; clear hK K
        refine wpQs_s ?_
        refine wpQs_s ?_
        refine wpQs_q (fun K hK => ?_); rw [if_pos (by kernel_rfl)]; go_simp; refine hK _ ?_; clear hK K
        refine wpQs_s ?_
        refine wpQs_s ?_
        refine wpQs_s ?_
        refine wpQs_s ?_
        refine wpQs_s ?_
        refine wpQs_s ?_
        refine wpQs_s ?_
        refine wpQs_s ?_
        refine wpQs_nil ?_
        clear x0 x1_ x2_ x3_ x4_ x5_ y0 y1_ y2_ y3_ y4_ y5_
        iterate 27 (refine wpLsI_skip ?_)
        refine wpLsI_grd ?s27 (fun v27_ => ?_)
        case s27 =>
          intro S_ V_ w_ hw_ hV_ ha_ hn_ hI_
          have HF := Lib.hid (And.intro hw_ hI_)
          clear hV_ ha_ hn_ hI_ hw_
          refine .inl ⟨by kernel_rfl, ?_⟩
          go_simp
          refine (RC.out _).mono ?_
          rintro e_ w9 ⟨q_, c_, rfl, hc_, h9⟩
          exact ⟨_, rfl, HF.out.1.on h9, HF.out.2.at0 q_ c_ hc_⟩
        refine wpLsI_grd ?s28 (fun v28_ => ?_)
        case s28 =>
          intro S_ V_ w_ hw_ hV_ ha_ hn_ hI_
          obtain ⟨q_, c_, E_, hc_⟩ := hI_.1 (ha_ 27 (by decide) rfl (by kernel_rfl))
          have E2 := (hV_ 27 (by decide) rfl).symm.trans E_
          have HF := Lib.hid (And.intro hw_ hI_)
          clear hV_ ha_ hn_ hI_ hw_ E_
          subst E2
          refine .inl ⟨by kernel_rfl, ?_⟩
          go_simp
          exact ⟨HF.out.1, HF.out.2.at1⟩
        refine wpLsI_skip ?_
        refine wpLsI_grd ?s30 (fun v30_ => ?_)
        case s30 =>
          intro S_ V_ w_ hw_ hV_ ha_ hn_ hI_
          have HF := Lib.hid (And.intro hw_ hI_)
          clear hV_ ha_ hn_ hI_ hw_
          refine .inl ⟨by kernel_rfl, ?_⟩
          go_simp
          refine (PC.out _).mono ?_
          rintro e_ w9 ⟨q_, c_, rfl, hc_, h9⟩
          exact ⟨_, rfl, HF.out.1.on h9, HF.out.2.at2 q_ c_ hc_⟩
        refine wpLsI_grd ?s31 (fun v31_ => ?_)
        case s31 =>
          intro S_ V_ w_ hw_ hV_ ha_ hn_ hI_
          obtain ⟨q_, c_, E_, hc_⟩ := hI_.2.2.1 (ha_ 30 (by decide) rfl (by kernel_rfl))
          have E2 := (hV_ 30 (by decide) rfl).symm.trans E_
          have HF := Lib.hid (And.intro hw_ hI_)
          clear hV_ ha_ hn_ hI_ hw_ E_
          subst E2
          refine .inl ⟨by kernel_rfl, ?_⟩
          go_simp
          exact ⟨HF.out.1, HF.out.2.at3⟩
        repeat (refine wpLsI_skip ?_)
        refine wpLsI_nil fun V_ w2 hw_ hV_ hI_ => ?_
        have h28 := (hV_ 28 (by decide) rfl).symm.trans (hI_.2.1 ⟨show (28 : Nat) < 38 by decide, rfl⟩)
        have h31 := (hV_ 31 (by decide) rfl).symm.trans (hI_.2.2.2 ⟨show (31 : Nat) < 38 by decide, rfl⟩)
        have HW2 := Lib.hid (after HE.out hw_.none)
        clear hV_ hI_ hw_
        subst h28 h31
        simp only [tails]
        go_wp2_with (go_at_call 20; refine (plives_c _).mono ?_; rintro e_ w10 ⟨rfl, h10⟩)
        go_returns
        exact ⟨rfl, after HW2.out h10⟩
      case inr.inl.inr =>
        refine wp_inv [0, 0, 0, 0, 0, 0, 0, 0, 0, 0, 0, 0, 0, 0, 0, 0, 0, 0, 0, 0, 0, 0, 0, 0, 0, 0, 0, 2, 2, 0, 2, 2, 3, 3, 3, 3, 3, 3] [] (CellI 27 30 n1 n2) (by kernel_rfl) (by kernel_rfl) (fun _ _ _ _ _ h _ => h) (fun _ => cellI_zero) ?_
        refine wpQs_q (fun K hK => ?_); go_simp; refine hK _ ?_; clear hK K
        refine wpQs_q (fun K hK => ?_); go_simp; refine hK _ ?_; clear hK K
        refine wpQs_q (fun K hK => ?_); go_simp; refine hK _ ?_; clear hK K
        refine wpQs_q (fun K hK => ?_); rw [if_pos (by kernel_rfl)]; go_simp; refine hK _ ?_; clear hK K
        refine wpQs_q (fun K hK => ?_); rw [if_pos (by kernel_rfl)]; go_simp; refine hK _ ?_; clear hK K
        refine wpQs_q (fun K hK => ?_); rw [if_pos (by kernel_rfl)]; go_simp; apply Exists.intro; refine ⟨fun p_ => ?_, hK _ ?_⟩; exact P1.out _ (HTT.out _ (msd_kept ⟨p_, rfl⟩).none); clear hK K
        refine wpQs_q (fun K hK => ?_); go_simp; refine hK _ ?_; clear hK K
        refine wpQs_q (fun K hK => ?_); go_simp; refine hK _ ?_; clear hK K
        refine wpQs_q (fun K hK => ?_); rw [if_pos (by kernel_rfl)]; go_simp; refine hK _ ?_; clear hK K
        refine wpQs_q (fun K hK => ?_); rw [if_pos (by kernel_rfl)]; go_simp; refine hK _ ?_; clear hK K
        refine wpQs_q (fun K hK => ?_); rw [if_pos (by kernel_rfl)]; go_simp; refine hK _ ?_; clear hK K
        refine wpQs_q (fun K hK => ?_); rw [if_neg (Bool.eq_false_iff.1 (by kernel_rfl))]; go_simp; refine hK _ ?_; clear hK K
        refine wpQs_q (fun K hK => ?_); rw [if_neg (Bool.eq_false_iff.1 (by kernel_rfl))]; go_simp; refine hK _ ?_; clear hK K
        refine wpQs_q (fun K hK => ?_); rw [if_neg (Bool.eq_false_iff.1 (by kernel_rfl))]; go_simp; refine hK _ ?_; clear hK K
        refine wpQs_q (fun K hK => ?_); rw [if_pos (by kernel_rfl)]; go_simp; refine hK _ ?_; clear hK K
        refine wpQs_q (fun K hK => ?_); go_simp; refine hK _ ?_; clear hK K
        refine wpQs_q (fun K hK => ?_); go_simp; refine hK _ ?_; clear hK K
        refine wpQs_q (fun K hK => ?_); rw [if_pos (by kernel_rfl)]; go_simp; refine hK _ ?_; clear hK K
        refine wpQs_q (fun K hK => ?_); rw [if_pos (by kernel_rfl)]; go_simp; refine hK _ ?_; clear hK K
        refine wpQs_q (fun K hK => ?_); rw [if_pos (by kernel_rfl)]; go_simp; refine hK _ ?_; clear hK K
        refine wpQs_q (fun K hK => ?_); rw [if_pos (by kernel_rfl)]; go_simp; refine hK _ ?_; clear hK K
        refine wpQs_q (fun K hK => ?_); rw [if_pos (by kernel_rfl)]; go_simp; refine hK _ ?_; clear hK K
        refine wpQs_q (fun K hK => ?_); rw [if_pos (by kernel_rfl)]; go_simp; apply Exists.intro; refine ⟨fun p_ => ?_, hK _ ?_⟩; exact P3.out _ (HTT.out _ (msd_kept ⟨p_, rfl⟩).none); clear hK K
        refine wpQs_q (fun K hK => ?_); rw [if_pos (by kernel_rfl)]; go_simp; refine hK _ ?_; clear hK K
        refine wpQs_q (fun K hK => ?_); go_simp; refine hK _ ?_; clear hK K
        refine wpQs_q (fun K hK => ?_); go_simp; refine hK _ ?_; clear hK K
        refine wpQs_q (fun K hK => ?_); rw [if_pos (by kernel_rfl)]; go_simp; refine hK _ ?_; clear hK K
        refine wpQs_s ?_
        refine wpQs_s ?_
        refine wpQs_q (fun K hK => ?_); rw [if_pos (by kernel_rfl)]; go_simp; refine hK _ ?_; clear hK K
        refine wpQs_s ?_
        refine wpQs_s ?_
        refine wpQs_s ?_
        refine wpQs_s ?_
        refine wpQs_s ?_
        refine wpQs_s ?_
        refine wpQs_s ?_
        refine wpQs_s ?_
        refine wpQs_nil ?_
        clear x0 x1_ x2_ x3_ x4_ x5_ y0 y1_ y2_ y3_ y4_ y5_
        iterate 27 (refine wpLsI_skip ?_)
        refine wpLsI_grd ?s27 (fun v27_ => ?_)
        case s27 =>
          intro S_ V_ w_ hw_ hV_ ha_ hn_ hI_
          have HF := Lib.hid (And.intro hw_ hI_)
          clear hV_ ha_ hn_ hI_ hw_
          refine .inl ⟨by kernel_rfl, ?_⟩
          go_simp
          refine (RC.out _).mono ?_
          rintro e_ w9 ⟨q_, c_, rfl, hc_, h9⟩
          exact ⟨_, rfl, HF.out.1.on h9, HF.out.2.at0 q_ c_ hc_⟩
        refine wpLsI_grd ?s28 (fun v28_ => ?_)
        case s28 =>
          intro S_ V_ w_ hw_ hV_ ha_ hn_ hI_
          obtain ⟨q_, c_, E_, hc_⟩ := hI_.1 (ha_ 27 (by decide) rfl (by kernel_rfl))
          have E2 := (hV_ 27 (by decide) rfl).symm.trans E_
          have HF := Lib.hid (And.intro hw_ hI_)
          clear hV_ ha_ hn_ hI_ hw_ E_
          subst E2
          refine .inl ⟨by kernel_rfl, ?_⟩
          go_simp
          exact ⟨HF.out.1, HF.out.2.at1⟩
        refine wpLsI_skip ?_
        refine wpLsI_grd ?s30 (fun v30_ => ?_)
        case s30 =>
          intro S_ V_ w_ hw_ hV_ ha_ hn_ hI_
          have HF := Lib.hid (And.intro hw_ hI_)
          clear hV_ ha_ hn_ hI_ hw_
          refine .inl ⟨by kernel_rfl, ?_⟩
          go_simp
          refine (PC.out _).mono ?_
          rintro e_ w9 ⟨q_, c_, rfl, hc_, h9⟩
          exact ⟨_, rfl, HF.out.1.on h9, HF.out.2.at2 q_ c_ hc_⟩
        refine wpLsI_grd ?s31 (fun v31_ => ?_)
        case s31 =>
          intro S_ V_ w_ hw_ hV_ ha_ hn_ hI_
          obtain ⟨q_, c_, E_, hc_⟩ := hI_.2.2.1 (ha_ 30 (by decide) rfl (by kernel_rfl))
          have E2 := (hV_ 30 (by decide) rfl).symm.trans E_
          have HF := Lib.hid (And.intro hw_ hI_)
          clear hV_ ha_ hn_ hI_ hw_ E_
          subst E2
          refine .inl ⟨by kernel_rfl, ?_⟩
          go_simp
          exact ⟨HF.out.1, HF.out.2.at3⟩
        repeat (refine wpLsI_skip ?_)
        refine wpLsI_nil fun V_ w2 hw_ hV_ hI_ => ?_
        have h28 := (hV_ 28 (by decide) rfl).symm.trans (hI_.2.1 ⟨show (28 : Nat) < 38 by decide, rfl⟩)
        have h31 := (hV_ 31 (by decide) rfl).symm.trans (hI_.2.2.2 ⟨show (31 : Nat) < 38 by decide, rfl⟩)
        have HW2 := Lib.hid (after HE.out hw_.none)
        clear hV_ hI_ hw_
        subst h28 h31
        simp only [tails]
        go_wp2_with (go_at_call 20; refine (plives_c _).mono ?_; rintro e_ w10 ⟨rfl, h10⟩)
        go_returns
        exact ⟨rfl, after HW2.out h10⟩
      case inr.inr.inl =>
        refine wp_inv [0, 0, 0, 0, 0, 0, 0, 0, 0, 0, 0, 0, 0, 0, 0, 0, 0, 0, 0, 0, 0, 0, 0, 0, 0, 0, 0, 2, 2, 0, 2, 2, 3, 3, 3, 3, 3, 3] [] (CellI 27 30 n1 n2) (by kernel_rfl) (by kernel_rfl) (fun _ _ _ _ _ h _ => h) (fun _ => cellI_zero) ?_
        refine wpQs_q (fun K hK => ?_); go_simp; refine hK _ ?_; clear hK K
        refine wpQs_q (fun K hK => ?_); go_simp; refine hK _ ?_; clear hK K
        refine wpQs_q (fun K hK => ?_); go_simp; refine hK _ ?_; clear hK K
        refine wpQs_q (fun K hK => ?_); rw [if_pos (by kernel_rfl)]; go_simp; refine hK _ ?_; clear hK K
        refine wpQs_q (fun K hK => ?_); rw [if_pos (by kernel_rfl)]; go_simp; refine hK _ ?_; clear hK K
        refine wpQs_q (fun K hK => ?_); rw [if_pos (by kernel_rfl)]; go_simp; apply Exists.intro; refine ⟨fun p_ => ?_, hK _ ?_⟩; exact P1.out _ (HTT.out _ (msd_kept ⟨p_, rfl⟩).none); clear hK K
        refine wpQs_q (fun K hK => ?_); go_simp; refine hK _ ?_; clear hK K
        refine wpQs_q (fun K hK => ?_); go_simp; refine hK _ ?_; clear hK K
        refine wpQs_q (fun K hK => ?_); rw [if_pos (by kernel_rfl)]; go_simp; refine hK _ ?_; clear hK K
        refine wpQs_q (fun K hK => ?_); rw [if_pos (by kernel_rfl)]; go_simp; refine hK _ ?_; clear hK K
        refine wpQs_q (fun K hK => ?_); rw [if_pos (by kernel_rfl)]; go_simp; refine hK _ ?_; clear hK K
        refine wpQs_q (fun K hK => ?_); rw [if_pos (by kernel_rfl)]; go_simp; refine hK _ ?_; clear hK K
        refine wpQs_q (fun K hK => ?_); rw [if_pos (by kernel_rfl)]; go_simp; refine hK _ ?_; clear hK K
        refine wpQs_q (fun K hK => ?_); rw [if_pos (by kernel_rfl)]; go_simp; apply Exists.intro; refine ⟨fun p_ => ?_, hK _ ?_⟩; exact P2.out _ (HTT.out _ (msd_kept ⟨p_, rfl⟩).none); clear hK K
        refine wpQs_q (fun K hK => ?_); rw [if_pos (by kernel_rfl)]; go_simp; refine hK _ ?_; clear hK K
        refine wpQs_q (fun K hK => ?_); go_simp; refine hK _ ?_; clear hK K
        refine wpQs_q (fun K hK => ?_); go_simp; refine hK _ ?_; clear hK K
        refine wpQs_q (fun K hK => ?_); rw [if_pos (by kernel_rfl)]; go_simp; refine hK _ ?_; clear hK K
        refine wpQs_q (fun K hK => ?_); rw [if_pos (by kernel_rfl)]; go_simp; refine hK _ ?_; clear hK K
        refine wpQs_q (fun K hK => ?_); rw [if_pos (by kernel_rfl)]; go_simp; refine hK _ ?_; clear hK K
        refine wpQs_q (fun K hK => ?_); rw [if_neg (Bool.eq_false_iff.1 (by kernel_rfl))]; go_simp; refine hK _ ?_; clear hK K
        refine wpQs_q (fun K hK => ?_); rw [if_neg (Bool.eq_false_iff.1 (by kernel_rfl))]; go_simp; refine hK _ ?_; clear hK K
        refine wpQs_q (fun K hK => ?_); rw [if_neg (Bool.eq_false_iff.1 (by kernel_rfl))]; go_simp; refine hK _ ?_; clear hK K
        refine wpQs_q (fun K hK => ?_); rw [if_pos (by kernel_rfl)]; go_simp; refine hK _ ?_; clear hK K
        refine wpQs_q (fun K hK => ?_); go_simp; refine hK _ ?_; clear hK K
        refine wpQs_q (fun K hK => ?_); go_simp; refine hK _ ?_; clear hK K
        refine wpQs_q (fun K hK => ?_); rw [if_pos (by kernel_rfl)]; go_simp; refine hK _ ?_; clear hK K
        refine wpQs_s ?_
        refine wpQs_s ?_
        refine wpQs_q (fun K hK => ?_); rw [if_pos (by kernel_rfl)]; go_simp; refine hK _ ?_; clear hK K
        refine wpQs_s ?_
        refine wpQs_s ?_
        refine wpQs_s ?_
        refine wpQs_s ?_
        refine wpQs_s ?_
        refine wpQs_s ?_
        refine wpQs_s ?_
        refine wpQs_s ?_
        refine wpQs_nil ?_
        clear x0 x1_ x2_ x3_ x4_ x5_ y0 y1_ y2_ y3_ y4_ y5_
        iterate 27 (refine wpLsI_skip ?_)
        refine wpLsI_grd ?s27 (fun v27_ => ?_)
        case s27 =>
          intro S_ V_ w_ hw_ hV_ ha_ hn_ hI_
          have HF := Lib.hid (And.intro hw_ hI_)
          clear hV_ ha_ hn_ hI_ hw_
          refine .inl ⟨by kernel_rfl, ?_⟩
          go_simp
          refine (RC.out _).mono ?_
          rintro e_ w9 ⟨q_, c_, rfl, hc_, h9⟩
          exact ⟨_, rfl, HF.out.1.on h9, HF.out.2.at0 q_ c_ hc_⟩
        refine wpLsI_grd ?s28 (fun v28_ => ?_)
        case s28 =>
          intro S_ V_ w_ hw_ hV_ ha_ hn_ hI_
          obtain ⟨q_, c_, E_, hc_⟩ := hI_.1 (ha_ 27 (by decide) rfl (by kernel_rfl))
          have E2 := (hV_ 27 (by decide) rfl).symm.trans E_
          have HF := Lib.hid (And.intro hw_ hI_)
          clear hV_ ha_ hn_ hI_ hw_ E_
          subst E2
          refine .inl ⟨by kernel_rfl, ?_⟩
          go_simp
          exact ⟨HF.out.1, HF.out.2.at1⟩
        refine wpLsI_skip ?_
        refine wpLsI_grd ?s30 (fun v30_ => ?_)
        case s30 =>
          intro S_ V_ w_ hw_ hV_ ha_ hn_ hI_
          have HF := Lib.hid (And.intro hw_ hI_)
          clear hV_ ha_ hn_ hI_ hw_
          refine .inl ⟨by kernel_rfl, ?_⟩
          go_simp
          refine (PC.out _).mono ?_
          rintro e_ w9 ⟨q_, c_, rfl, hc_, h9⟩
          exact ⟨_, rfl, HF.out.1.on h9, HF.out.2.at2 q_ c_ hc_⟩
        refine wpLsI_grd ?s31 (fun v31_ => ?_)
        case s31 =>
          intro S_ V_ w_ hw_ hV_ ha_ hn_ hI_
          obtain ⟨q_, c_, E_, hc_⟩ := hI_.2.2.1 (ha_ 30 (by decide) rfl (by kernel_rfl))
          have E2 := (hV_ 30 (by decide) rfl).symm.trans E_
          have HF := Lib.hid (And.intro hw_ hI_)
          clear hV_ ha_ hn_ hI_ hw_ E_
          subst E2
          refine .inl ⟨by kernel_rfl, ?_⟩
          go_simp
          exact ⟨HF.out.1, HF.out.2.at3⟩
        repeat (refine wpLsI_skip ?_)
        refine wpLsI_nil fun V_ w2 hw_ hV_ hI_ => ?_
        have h28 := (hV_ 28 (by decide) rfl).symm.trans (hI_.2.1 ⟨show (28 : Nat) < 38 by decide, rfl⟩)
        have h31 := (hV_ 31 (by decide) rfl).symm.trans (hI_.2.2.2 ⟨show (31 : Nat) < 38 by decide, rfl⟩)
        have HW2 := Lib.hid (after HE.out hw_.none)
        clear hV_ hI_ hw_
        subst h28 h31
        simp only [tails]
        go_wp2_with (go_at_call 20; refine (plives_c _).mono ?_; rintro e_ w10 ⟨rfl, h10⟩)
        go_returns
        exact ⟨rfl, after HW2.out h10⟩
      case inr.inr.inr =>
        refine wp_inv [0, 0, 0, 0, 0, 0, 0, 0, 0, 0, 0, 0, 0, 0, 0, 0, 0, 0, 0, 0, 0, 0, 0, 0, 0, 0, 0, 2, 2, 0, 2, 2, 3, 3, 3, 3, 3, 3] [] (CellI 27 30 n1 n2) (by kernel_rfl) (by kernel_rfl) (fun _ _ _ _ _ h _ => h) (fun _ => cellI_zero) ?_
        refine wpQs_q (fun K hK => ?_); go_simp; refine hK _ ?_; clear hK K
        refine wpQs_q (fun K hK => ?_); go_simp; refine hK _ ?_; clear hK K
        refine wpQs_q (fun K hK => ?_); go_simp; refine hK _ ?_; clear hK K
        refine wpQs_q (fun K hK => ?_); rw [if_pos (by kernel_rfl)]; go_simp; refine hK _ ?_; clear hK K
        refine wpQs_q (fun K hK => ?_); rw [if_pos (by kernel_rfl)]; go_simp; refine hK _ ?_; clear hK K
        refine wpQs_q (fun K hK => ?_); rw [if_pos (by kernel_rfl)]; go_simp; apply Exists.intro; refine ⟨fun p_ => ?_, hK _ ?_⟩; exact P1.out _ (HTT.out _ (msd_kept ⟨p_, rfl⟩).none); clear hK K
        refine wpQs_q (fun K hK => ?_); go_simp; refine hK _ ?_; clear hK K
        refine wpQs_q (fun K hK => ?_); go_simp; refine hK _ ?_; clear hK K
        refine wpQs_q (fun K hK => ?_); rw [if_pos (by kernel_rfl)]; go_simp; refine hK _ ?_; clear hK K
        refine wpQs_q (fun K hK => ?_); rw [if_pos (by kernel_rfl)]; go_simp; refine hK _ ?_; clear hK K
        refine wpQs_q (fun K hK => ?_); rw [if_pos (by kernel_rfl)]; go_simp; refine hK _ ?_; clear hK K
        refine wpQs_q (fun K hK => ?_); rw [if_pos (by kernel_rfl)]; go_simp; refine hK _ ?_; clear hK K
        refine wpQs_q (fun K hK => ?_); rw [if_pos (by kernel_rfl)]; go_simp; refine hK _ ?_; clear hK K
        refine wpQs_q (fun K hK => ?_); rw [if_pos (by kernel_rfl)]; go_simp; apply Exists.intro; refine ⟨fun p_ => ?_, hK _ ?_⟩; exact P2.out _ (HTT.out _ (msd_kept ⟨p_, rfl⟩).none); clear hK K
        refine wpQs_q (fun K hK => ?_); rw [if_pos (by kernel_rfl)]; go_simp; refine hK _ ?_; clear hK K
        refine wpQs_q (fun K hK => ?_); go_simp; refine hK _ ?_; clear hK K
        refine wpQs_q (fun K hK => ?_); go_simp; refine hK _ ?_; clear hK K
        refine wpQs_q (fun K hK => ?_); rw [if_pos (by kernel_rfl)]; go_simp; refine hK _ ?_; clear hK K
        refine wpQs_q (fun K hK => ?_); rw [if_pos (by kernel_rfl)]; go_simp; refine hK _ ?_; clear hK K
        refine wpQs_q (fun K hK => ?_); rw [if_pos (by kernel_rfl)]; go_simp; refine hK _ ?_; clear hK K
        refine wpQs_q (fun K hK => ?_); rw [if_pos (by kernel_rfl)]; go_simp; refine hK _ ?_; clear hK K
        refine wpQs_q (fun K hK => ?_); rw [if_pos (by kernel_rfl)]; go_simp; refine hK _ ?_; clear hK K
        refine wpQs_q (fun K hK => ?_); rw [if_pos (by kernel_rfl)]; go_simp; apply Exists.intro; refine ⟨fun p_ => ?_, hK _ ?_⟩; exact P3.out _ (HTT.out _ (msd_kept ⟨p_, rfl⟩).none); clear hK K
        refine wpQs_q (fun K hK => ?_); rw [if_pos (by kernel_rfl)]; go_simp; refine hK _ ?_; clear hK K
        refine wpQs_q (fun K hK => ?_); go_simp; refine hK _ ?_; clear hK K
        refine wpQs_q (fun K hK => ?_); go_simp; refine hK _ ?_; clear hK K
        refine wpQs_q (fun K hK => ?_); rw [if_pos (by kernel_rfl)]; go_simp; refine hK _ ?_; clear hK K
        refine wpQs_s ?_
        refine wpQs_s ?_
        refine wpQs_q (fun K hK => ?_); rw [if_pos (by kernel_rfl)]; go_simp; refine hK _ ?_; clear hK K
        refine wpQs_s ?_
        refine wpQs_s ?_
        refine wpQs_s ?_
        refine wpQs_s ?_
        refine wpQs_s ?_
        refine wpQs_s ?_
        refine wpQs_s ?_
        refine wpQs_s ?_
        refine wpQs_nil ?_
        clear x0 x1_ x2_ x3_ x4_ x5_ y0 y1_ y2_ y3_ y4_ y5_
        iterate 27 (refine wpLsI_skip ?_)
        refine wpLsI_grd ?s27 (fun v27_ => ?_)
        case s27 =>
          intro S_ V_ w_ hw_ hV_ ha_ hn_ hI_
          have HF := Lib.hid (And.intro hw_ hI_)
          clear hV_ ha_ hn_ hI_ hw_
          refine .inl ⟨by kernel_rfl, ?_⟩
          go_simp
          refine (RC.out _).mono ?_
          rintro e_ w9 ⟨q_, c_, rfl, hc_, h9⟩
          exact ⟨_, rfl, HF.out.1.on h9, HF.out.2.at0 q_ c_ hc_⟩
        refine wpLsI_grd ?s28 (fun v28_ => ?_)
        case s28 =>
          intro S_ V_ w_ hw_ hV_ ha_ hn_ hI_
          obtain ⟨q_, c_, E_, hc_⟩ := hI_.1 (ha_ 27 (by decide) rfl (by kernel_rfl))
          have E2 := (hV_ 27 (by decide) rfl).symm.trans E_
          have HF := Lib.hid (And.intro hw_ hI_)
          clear hV_ ha_ hn_ hI_ hw_ E_
          subst E2
          refine .inl ⟨by kernel_rfl, ?_⟩
          go_simp
          exact ⟨HF.out.1, HF.out.2.at1⟩
        refine wpLsI_skip ?_
        refine wpLsI_grd ?s30 (fun v30_ => ?_)
        case s30 =>
          intro S_ V_ w_ hw_ hV_ ha_ hn_ hI_
          have HF := Lib.hid (And.intro hw_ hI_)
          clear hV_ ha_ hn_ hI_ hw_
          refine .inl ⟨by kernel_rfl, ?_⟩
          go_simp
          refine (PC.out _).mono ?_
          rintro e_ w9 ⟨q_, c_, rfl, hc_, h9⟩
          exact ⟨_, rfl, HF.out.1.on h9, HF.out.2.at2 q_ c_ hc_⟩
        refine wpLsI_grd ?s31 (fun v31_ => ?_)
        case s31 =>
          intro S_ V_ w_ hw_ hV_ ha_ hn_ hI_
          obtain ⟨q_, c_, E_, hc_⟩ := hI_.2.2.1 (ha_ 30 (by decide) rfl (by kernel_rfl))
          have E2 := (hV_ 30 (by decide) rfl).symm.trans E_
          have HF := Lib.hid (And.intro hw_ hI_)
          clear hV_ ha_ hn_ hI_ hw_ E_
          subst E2
          refine .inl ⟨by kernel_rfl, ?_⟩
          go_simp
          exact ⟨HF.out.1, HF.out.2.at3⟩
        repeat (refine wpLsI_skip ?_)
        refine wpLsI_nil fun V_ w2 hw_ hV_ hI_ => ?_
        have h28 := (hV_ 28 (by decide) rfl).symm.trans (hI_.2.1 ⟨show (28 : Nat) < 38 by decide, rfl⟩)
        have h31 := (hV_ 31 (by decide) rfl).symm.trans (hI_.2.2.2 ⟨show (31 : Nat) < 38 by decide, rfl⟩)
        have HW2 := Lib.hid (after HE.out hw_.none)
        clear hV_ hI_ hw_
        subst h28 h31
        simp only [tails]
        go_wp2_with (go_at_call 20; refine (plives_c _).mono ?_; rintro e_ w10 ⟨rfl, h10⟩)
        go_returns
        exact ⟨rfl, after HW2.out h10⟩
set_option maxRecDepth 100000 in
theorem probeWithin_lifted (os : Os) (started : os.Started) (H : Type) (enc : TypeId × Value → H) :
    ReturnsInHanded {} Try.checked os 5 .any (Rows.probeWithinSpec.pre6 enc Try.prog Try.f5 Rows.probeWithinRow.domain false) (Rows.probeWithinSpec.post enc Try.prog Try.f5 false true false false) := by
  refine returnsInHanded_of_change (C := Try.checked) own started (by kernel_rfl) Try.func5
    (ChangeSpec.witness6 (enc := enc) (C := Try.checked) false ⟨#[], #[.agg #[.slice none 0 0, .int .i64 0], .agg #[.int .i64 0, .int .i64 0, .int .i64 0, .int .i64 0, .int .i64 0, .int .i64 0], .agg #[.int .u16 0, .int .u16 0, .int .u16 0, .int .u16 0, .int .u16 0, .int .u16 0]], []⟩ 8 (by kernel_rfl) (by kernel_rfl) (by kernel_rfl) (by kernel_rfl)) ?_
  intro W base args ds gs before hval0 hW hcnd hsz
  have hval : ∀ (j : Nat) t v, Try.f5.params[j]? = some t → args[j]? = some v → Value.okWide Try.prog W .any base t v := hval0
  have hW' := hW
  obtain ⟨p, q, hA0, hV, rfl, hfz, hnd⟩ := hW
  have hA : DataW.TrodAll enc Try.prog W 0 (fun _ => true) true Try.f5.params.toList args.toList ds p := hA0
  rw [Try.params5] at hA hval
  obtain ⟨v0, vs0, d0, ds0, p_0, q_0, hargs, rfl, rfl, h0, r_0⟩ := trodAll_cons hA
  obtain ⟨v1, vs1, d1, ds1, p_1, q_1, rfl, rfl, rfl, h1, r_1⟩ := trodAll_cons r_0
  obtain ⟨v2, vs2, d2, ds2, p_2, q_2, rfl, rfl, rfl, h2, r_2⟩ := trodAll_cons r_1
  obtain ⟨rfl, rfl, rfl⟩ := trodAll_nil r_2
  obtain rfl : args = #[v0, v1, v2] := by cases args; simp_all
  obtain ⟨rfl, rfl⟩ := trodVars_none hV
  obtain ⟨gq0, gn0, gc0, gF0, ge0, rfl, gl0, gm0, gi0, gw0, gv0⟩ := open_world Try.underlying24 Try.underlying22 (by kernel_rfl) (by kernel_rfl) Try.underlying3 (hval 0 24 v0 rfl rfl) h0
  obtain ⟨p1, q1, r1, s1, t1, u1, rfl, wp1, wq1, wr1, ws1, wt1, wu1⟩ := open_box Try.underlying28 Try.underlying26 (by kernel_rfl) (by kernel_rfl) (by kernel_rfl) Try.underlying3 (hval 1 28 v1 rfl rfl) h1
  obtain ⟨p2, q2, r2, s2, t2, u2, rfl, wp2, wq2, wr2, ws2, wt2, wu2⟩ := open_arr6 Try.underlying44 Try.underlying43 (by kernel_rfl) (by kernel_rfl) (hval 2 44 v2 rfl rfl) h2
  refine (probeWithin_c gq0 gn0 gc0 gF0 ge0 gl0 gm0 gw0 gv0 p1 q1 r1 s1 t1 u1 wp1 wq1 wr1 ws1 wt1 wu1 p2 q2 r2 s2 t2 u2 wp2 wq2 wr2 ws2 wt2 wu2 W gi0).mono fun e W' ⟨he, hb⟩ => ?_
  subst he
  exact ⟨_, rfl, law_post laidOut (by kernel_rfl) rfl (by kernel_rfl) Try.underlying4 hW' rfl rfl rfl hb⟩

/-- The statement. -/
theorem probeWithin_proved : Rows.ProbeWithinSaid :=
  OpenClaim.holds_of_wide 5 Try.f5 rfl rfl rfl rfl rfl rfl rfl ⟨rfl, rfl, rfl, rfl, rfl⟩ rfl rfl rfl rfl rfl (by kernel_rfl) Try.func5 (by kernel_rfl)
    (of_decide_eq_true (by kernel_rfl)) (by unfold Func.isWrapper; first | (rw [if_pos (by decide +kernel)]; kernel_rfl) | (rw [if_neg (by decide +kernel)]; exact ⟨rfl, rfl⟩))
    (fun os started H enc _ => probeWithin_lifted os started H enc)
end Go.Proofs.Ytmkmaoodeebmfaa
