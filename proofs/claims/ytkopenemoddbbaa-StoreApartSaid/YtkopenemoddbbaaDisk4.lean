/- A blob is put. -/
import Derived.Test.YtkopenemoddbbaaDisk3
import Derived.Test.YtkopenemoddbbaaSched2
import Derived.Test.YtkopenemoddbbaaRow
import Derived.Maps.AppendAt
namespace Go.Proofs.Ytkopenemoddbbaa
open Go.RowKit Go.Maps
attribute [local go_sem] Oper.semAt_some

/-- What a map of blobs tells at a key: none, if there is none. -/
def atL (l : List (Int × SL)) (k : Int) : SL := (getL l k).getD (none, 0, 0)
theorem look_c {w : World} {m n : Nat} {l : List (Int × SL)} {k : Int} (h : w.ownsMap Try.prog 3 RS m n (DM l)) (hk : In64 k) :
    (Instr.lookup 87 (.map (some m)) (.int .i64 k) false).run Try.prog w = .ok (slV (atL l k)) w := by
  obtain ⟨v, ps, hrun, hv⟩ := h.lookup lawI Try.underlying87 (zeroB w) (RS_mk (none, 0, 0)) (key64 hk)
  obtain ⟨s, rfl, e⟩ := RS_inv hv
  rw [hrun]
  have e1 : (DM l).atKey (.int .i64 k) (.held (none, 0, 0)) = .held s := congrArg Prod.fst e
  rw [atKey_DM] at e1
  unfold atL
  cases hg : getL l k with
  | none => rw [hg] at e1; simp only [DataW.held.injEq] at e1; rw [← e1]; rfl
  | some s' => rw [hg] at e1; simp only [DataW.held.injEq] at e1; rw [e1]; rfl
theorem atL_good {w : World} {base : Nat} {l : List (Int × SL)} (h : GoodL w base l) (k : Int) : GoodS w base (atL l k) ∧ (rdB w (atL l k)).length = sizeAt (cont w l) k := by
  unfold atL sizeAt
  rw [cont_get]
  cases hg : getL l k with
  | none => exact ⟨⟨Nat.le_refl _, by decide, fun h => absurd h (by decide)⟩, by rw [Option.getD_none, rdB_zero]; rfl⟩
  | some s => exact ⟨h.get hg, rfl⟩
theorem infW : (Try.prog.info? 92).map (fun i => (i.zero, i.size, i.bytes)) = some (some (.agg #[.int .i64 0, .slice none 0 0]), 2, 32) := by kernel_rfl
theorem DiskAt.facts {w : World} {base d bm : Nat} {v : Value} {S : DS} {sv lv : List (Int × SL)} {N M : Nat} (h : DiskAt w base d bm v S sv lv) (hok : DOk S N M) : Rise sv ∧ (∀ p ∈ lv, In64 p.1) ∧ sv.length + lv.length ≤ N ∧ GoodL w base (nowL sv lv) ∧ cont w (nowL sv lv) = S.now ∧ Rise (nowL sv lv) ∧ lens (nowL sv lv) ≤ N * M := by
  have hr : Rise sv := cont_rise (w := w) (by rw [← h.safe]; exact hok.rise)
  have hc : cont w (nowL sv lv) = S.now := by rw [cont_now, ← h.safe, ← h.l]; rfl
  have hg := h.gs.now h.gl
  refine ⟨hr, fun p hp => ?_, ?_, hg, hc, rise_now hr, ?_⟩
  · exact hok.keys (p.1, rdB w p.2) (List.mem_append.2 (.inr (by rw [h.l]; exact List.mem_map.2 ⟨p, hp, rfl⟩)))
  · have := hok.many
    rw [h.safe, h.l, cont_len, cont_len] at this
    exact this
  · rw [lens_is hg, hc]; exact lenB_now hok
theorem map_on {P : Program} {w w' : World} {k : TypeId} {b n : Nat} {D : DataW SL} (h : w.ownsMap P k RS b n D) (hb : Below w.heap.size w w') : w'.ownsMap P k RS b n D := map_kept h (hb.block _ h.lt)
/-- What the test of the room asks. -/
theorem room_is {w : World} {base : Nat} {S : DS} {nv : List (Int × SL)} {k : Int} {b : Bs} (hr : Rise nv) (hg : GoodL w base nv) (hc : cont w nv = S.now) : lenB (putL S.now (k, b)) + (atL nv k).2.1 = lens nv + b.length := by
  have h1 := lenB_put (k, b) (l := S.now) (by rw [← hc]; exact rise_map (rdB w) hr)
  obtain ⟨h2, h3⟩ := atL_good hg k
  rw [hc] at h3
  rw [← h2.len, h3, lens_is hg, hc]
  exact h1
theorem at_le (l : List (Int × SL)) (k : Int) : (atL l k).2.1 ≤ lens l := by
  induction l with
  | nil => exact Nat.le_refl _
  | cons x r ih =>
    unfold atL at ih ⊢
    rw [getL_cons]
    simp only [lens, List.map_cons, List.sum_cons] at ih ⊢
    split
    · simp
    · omega
theorem bsOf_self (l : Bs) : bsOf (fun i => l.getD i 0) l.length = l := by
  apply List.ext_getElem?
  intro i
  rcases Nat.lt_or_ge i l.length with h | h
  · rw [bsOf_at h, List.getD_eq_getElem?_getD, List.getElem?_eq_getElem h]; rfl
  · rw [List.getElem?_eq_none (by rw [bsOf_len]; exact h), List.getElem?_eq_none h]
theorem GoodS.off {w w' : World} {base d : Nat} {t : TypeId} {cs : Array Value} {s : SL} (h : GoodS w base s) (hk : Kept (fun b => b ≠ d) w w') (hb : base ≤ d) (hB : Blk w d t cs) (ht : t ≠ 5) : GoodS w' base s ∧ rdB w' s = rdB w s :=
  h.kept hk fun b hbb e => by
    subst e
    rcases hbb with hbb | ⟨cur, hbb⟩
    · omega
    · exact ht (blk_one hB hbb)
/-- A slice's own copy. -/
theorem clone_good {w : World} {base : Nat} {s : SL} (hs : GoodS w base s) (h47 : s.2.1 ≤ 140737488355328) :
    Calls Try.prog 57 #[slV s] w fun r w' => ∃ s' : SL, r = .returned (slV s') ∧ s'.2.1 = s.2.1 ∧ GoodS w' base s' ∧ rdB w' s' = rdB w s ∧ Below w.heap.size w w' := by
  refine (clone_c s.1 s.2.1 s.2.2 _ hs.cap h47 w hs.byq).mono ?_
  rintro r w' ⟨v, rfl, ho, hb⟩
  obtain ⟨s', rfl, hn, hg, hr⟩ := GoodS.own (base := base) ho
  refine ⟨s', rfl, hn, hg, ?_, hb⟩
  rw [hr, ← hs.len, bsOf_self]
theorem push_at {P : Program} {w : World} {base : Nat} {e : TypeId} {size : Nat} {α : Type} {enc : α → List Value} {v : Value} {xs : List α} {ts ty : TypeId} {z : Value} {bytes b : Nat} {x : α} (ht : P.underlying ts = some (.slice e)) (hi : (P.info? e).map (fun i => (i.zero, i.size, i.bytes)) = some (some z, size, bytes)) (hz : z.cells.size = size) (hs : 0 < size) (hby : 0 < bytes)
    (hl : (enc x).length = size) (h1 : ∀ u ∈ enc x, u.oneCell' = true) (hown : Owns w base e size enc v xs) (hx : ∀ j u, (enc x)[j]? = some u → w.cell? ⟨b, j, none⟩ = some u) (h47 : (xs.length + 1) * bytes ≤ 140737488355328) (hbase : base ≤ w.heap.size) :
    ∃ v' w', (Builtin.append_ #[ts, ts] ty #[v, .slice (some ⟨b, 0, none⟩) 1 1]).run P w = .ok v' w' ∧ Owns w' base e size enc v' (xs ++ [x]) ∧ w.grownBy w' v.ownBlock ∧ (v'.ownBlock = v.ownBlock ∨ v'.ownBlock = some w.heap.size) ∧ ∃ g cap, v' = .slice (some ⟨g, 0, none⟩) (xs.length + 1) cap := by
  obtain ⟨i, hi, hz0, hs0, hb0⟩ := info_parts hi
  have h63 : xs.length + 1 ≤ maxLen := by
    have : (xs.length + 1) * 1 ≤ (xs.length + 1) * bytes := Nat.mul_le_mul_left _ hby
    simp only [maxLen]; omega
  obtain ⟨v', w', h2, h3, h4, h5, h6⟩ := run_append_own_at (P := P) w base ts ty e i z size bytes ht hi hz0 hs0 hb0 hz hs v xs.length (xs.flatMap enc) hown ⟨b, 0, none⟩ 1 1 (enc x) (by rw [hl]; omega) (fun j u hu => by
    have := hx j u hu
    unfold Addr.add
    by_cases hk : j = 0 <;> simp [hk] at this ⊢ <;> exact this) h1 h63 h47 hbase
  refine ⟨v', w', h2, ?_, h4, h6, ?_⟩
  · unfold Owns
    rw [List.length_append, List.flatMap_append, List.length_singleton, List.flatMap_singleton]
    exact h3
  · rcases h3.2 with ⟨hv, h0⟩ | ⟨g, cap, _, hv, _⟩
    · omega
    · exact ⟨g, cap, hv⟩
theorem own_kept {w w' : World} {base size : Nat} {e : TypeId} {α : Type} {enc : α → List Value} {v : Value} {xs : List α} {K : Nat → Prop} (h : Owns w base e size enc v xs) (hk : Kept K w w') (hK : ∀ g, v.ownBlock = some g → K g) : Owns w' base e size enc v xs := by
  refine ⟨h.1, ?_⟩
  rcases h.2 with h0 | ⟨g, cap, cur, hv, hbg, hg, r⟩
  · exact .inl h0
  · exact .inr ⟨g, cap, cur, hv, hbg, (hk.block g (Array.getElem?_eq_some_iff.1 hg).1 (hK g (by rw [hv]; rfl))).trans hg, r⟩
/-- What the region that puts tells of a copy, of the write, of the row of one. -/
def PutA (base : Nat) (b : Bs) (v : Value) (w : World) : Prop := ∃ s' : SL, v = slV s' ∧ GoodS w base s' ∧ rdB w s' = b
def PutB (base : Nat) (k : Int) (b : Bs) (v : Value) (w : World) : Prop := ∃ s' : SL, v = .agg #[.int .i64 k, slV s'] ∧ GoodS w base s' ∧ rdB w s' = b
def PutC (base : Nat) (k : Int) (b : Bs) (v : Value) (w : World) : Prop := ∃ (s' : SL) (g : Nat), v = .slice (some ⟨g, 0, none⟩) 1 1 ∧ Blk w g 92 #[.int .i64 k, slV s'] ∧ GoodS w base s' ∧ rdB w s' = b
theorem PutA.on {base : Nat} {b : Bs} {v : Value} {w w' : World} (h : PutA base b v w) (hb : Below w.heap.size w w') : PutA base b v w' := by
  obtain ⟨s', e, h1, h2⟩ := h
  exact ⟨s', e, (h1.on hb).1, by rw [(h1.on hb).2]; exact h2⟩
theorem PutB.on {base : Nat} {k : Int} {b : Bs} {v : Value} {w w' : World} (h : PutB base k b v w) (hb : Below w.heap.size w w') : PutB base k b v w' := by
  obtain ⟨s', e, h1, h2⟩ := h
  exact ⟨s', e, (h1.on hb).1, by rw [(h1.on hb).2]; exact h2⟩
theorem PutC.on {base : Nat} {k : Int} {b : Bs} {v : Value} {w w' : World} (h : PutC base k b v w) (hb : Below w.heap.size w w') : PutC base k b v w' := by
  obtain ⟨s', g, e, h0, h1, h2⟩ := h
  exact ⟨s', g, e, h0.on hb, (h1.on hb).1, by rw [(h1.on hb).2]; exact h2⟩
theorem PutC.mk {base : Nat} {k : Int} {b : Bs} {w : World} {s : SL} (h : GoodS w base s ∧ rdB w s = b) : PutC base k b (.slice (some ⟨w.heap.size, 0, none⟩) 1 1) (w.alloc (.cells #[.int .i64 k, slV s] 92)) := by
  have hb : Below w.heap.size w (w.alloc (.cells #[.int .i64 k, slV s] 92)) := (Below.refl _ _).alloc (Nat.le_refl _) _
  exact ⟨s, _, rfl, Blk.new' rfl, (h.1.on hb).1, by rw [(h.1.on hb).2]; exact h.2⟩
theorem DiskAt.apart {w : World} {base d bm : Nat} {v : Value} {S : DS} {sv lv : List (Int × SL)} (h : DiskAt w base d bm v S sv lv) : v.ownBlock ≠ some d ∧ v.ownBlock ≠ some bm ∧ bm ≠ d := by
  refine ⟨fun e => ?_, fun e => ?_, fun e => ?_⟩
  · obtain ⟨-, cur, hc⟩ := own_blk h.row e
    have := blk_one hc h.blk
    revert this; decide
  · obtain ⟨-, cur, hc⟩ := own_blk h.row e
    exact map_lt h.map _ _ _ hc
  · exact map_lt h.map _ _ _ (by rw [e]; exact h.blk)
theorem DiskAt.byte {w : World} {base d bm : Nat} {v : Value} {S : DS} {sv lv : List (Int × SL)} (h : DiskAt w base d bm v S sv lv) {b : Nat} (hb : ByteBlk w base b) : ¬ Mine d bm v b := fun hm => by
  obtain ⟨h1, -, h3⟩ := h.mine hm
  rcases hb with hb | ⟨cur, hb⟩
  · omega
  · have := h3 _ _ hb
    revert this; decide
/-- One more is under way. -/
theorem DiskAt.pushed {w w5 : World} {base d bm : Nat} {v v' : Value} {S : DS} {sv lv : List (Int × SL)} {k : Int} {s : SL} (h : DiskAt w base d bm v S sv lv) (hs : GoodS w base s) (hO : Owns w5 base 92 2 encW v' (lv ++ [(k, s)])) (hgr : w.grownBy w5 v.ownBlock) (hloc : v'.ownBlock = v.ownBlock ∨ v'.ownBlock = some w.heap.size) :
    DiskAt (w5.setCell ⟨d, 4, none⟩ v') base d bm v' { S with l := S.l ++ [(k, rdB w s)] } sv (lv ++ [(k, s)]) ∧ Kept (fun b => ¬ Mine d bm v b) w (w5.setCell ⟨d, 4, none⟩ v') := by
  obtain ⟨a1, a2, a3⟩ := h.apart
  have k1 : Kept (fun b => v.ownBlock ≠ some b) w w5 := ⟨hgr.os, hgr.tape, hgr.output, hgr.size, fun b hb hK => hgr.block b hb (Ne.symm hK)⟩
  have k2 : Kept (fun b => v.ownBlock ≠ some b ∧ b ≠ d) w (w5.setCell ⟨d, 4, none⟩ v') := (k1.mono fun _ h => h.1).setCell (by simp) _
  have hbyte : ∀ b, ByteBlk w base b → v.ownBlock ≠ some b ∧ b ≠ d := fun b hB => ⟨fun e => h.byte hB (.inr (.inr e)), fun e => h.byte hB (.inl e)⟩
  obtain ⟨g1, g2⟩ := h.gs.kept k2 hbyte
  obtain ⟨g3, g4⟩ := h.gl.kept k2 hbyte
  obtain ⟨g5, g6⟩ := hs.kept k2 hbyte
  refine ⟨⟨(k1.blk a1 h.blk).set_ 4 v', map_kept h.map (k2.block _ h.map.lt ⟨a2, a3⟩), own_kept hO ((Kept.refl (fun b => b ≠ d) w5).setCell (by simp) _) (fun g hg e => ?_), h.based, h.basem, g1, ?_, by rw [g2]; exact h.safe, by rw [cont_snoc, g4, g6, ← h.l]⟩, k2.mono fun b hb => ⟨fun e => hb (.inr (.inr e)), fun e => hb (.inl e)⟩⟩
  · subst e
    rcases hloc with e | e
    · exact a1 (by rw [← e]; exact hg)
    · rw [hg] at e
      have := h.blk.lt
      have := Option.some.inj e
      omega
  · intro p hp
    rcases List.mem_append.1 hp with hp | hp
    · exact g3 p hp
    · obtain rfl : p = (k, s) := by simpa using hp
      exact g5
set_option maxRecDepth 100000 in
set_option maxHeartbeats 8000000 in
theorem put_c (base d : Nat) (M : Nat → Prop) (S : DS) (N : Nat) (w : World) (h : DiskIs w base M d S) (hok : DOk S N 1000000) (hN : N ≤ 100000) (k : Int) (hk : In64 k) (s : SL) (hs : GoodS w base s) (hz : s.2.1 ≤ 1000000) (hbase : base ≤ w.heap.size) :
    Calls Try.prog 38 #[.pointer (some ⟨d, 0, none⟩), .int .i64 k, slV s] w fun r w' => r = .returned (.int .i64 (S.put k (rdB w s)).2) ∧ Turn w base M d (S.put k (rdB w s)).1 w' := by
  obtain ⟨bm, v, sv, lv, hD, hM⟩ := h
  have hlen := hs.len
  have HF := Lib.hid (failed_c base d bm v S sv lv w hD hok.waits hok.fails)
  have HM := Lib.hid hM
  have hok1 := hok.asked
  obtain ⟨e1, e2, e3⟩ := asked_same S
  have hnow : S.asked.1.now = S.now := by unfold DS.now; rw [e1, e2]
  have HS := Lib.hid (And.intro hs (And.intro hlen hz))
  have HD := Lib.hid hD
  have HB := Lib.hid hbase
  obtain ⟨q, n, c⟩ := s
  simp only [slV] at *
  generalize hb : rdB w (q, n, c) = b at *
  have HQ := Lib.hid hb
  clear hb hs hlen hz hM hD hbase
  cases ha : S.asked.2
  · by_cases hfit : S.fits k b = true
    · have hput : S.put k b = ({ S.asked.1 with l := S.l ++ [(k, b)] }, 0) := by unfold DS.put; rw [ha, hfit]; rfl
      rw [hput]
      rw [ha] at HF
      go_enter Try.func38, Try.ntmps38
      go_wp2_with (go_at_call 58; refine HF.out.mono ?_; rintro e_ w1 ⟨rfl, hD1, hk1⟩)
      obtain ⟨hr, hkl, hcnt, hg, hc, hrn, hlens⟩ := hD1.facts hok1
      have HNW := Lib.hid (now_c base d bm v S.asked.1 sv lv w1 hD1 hr hkl (by omega))
      have hroom := hok1.room
      rw [hnow] at hc
      obtain ⟨r0, r1⟩ := hroom
      have hri := room_is (k := k) (b := b) hrn hg hc
      have hale := at_le (nowL sv lv) k
      have hfi : (lenB (putL S.now (k, b)) : Int) ≤ S.asked.1.room := by rw [e3]; unfold DS.fits at hfit; simpa using hfit
      have hbn := HS.out.2
      have hl9 : lens (nowL sv lv) ≤ 100000000000 := Nat.le_trans hlens (Nat.le_trans (Nat.mul_le_mul_right 1000000 hN) (by decide))
      have HG := Lib.hid (And.intro hg hc)
      clear hg hc hfit hlens hr hkl hcnt
      go_upto_region 4 with (go_at_call 59; refine HNW.out.mono ?_; rintro e_ w2 ⟨rfl, hm, hB2⟩)
      have D2 := hD1.on hB2
      have HM2 := Lib.hid hm
      have HB2 := Lib.hid hB2
      generalize w1.heap.size = m at hm HM2 ⊢
      clear hB2
      have HBY := Lib.hid fun d' os => bytes_c m _ (nowL sv lv) (Go.Sort.grow (redrawn w2 d') os) hrn (map_on hm (below_regrown _ _ _)) (by omega)
      have hlk := fun d' os => look_c (map_on hm (below_regrown w2 d' os)) hk
      simp only [slV] at hlk
      have q0 : ∀ d' os, (Go.Sort.grow (redrawn w2 d') os).cell? ⟨d, 0, none⟩ = some (.int .i64 S.asked.1.room) := fun d' os => (D2.blk.re d' os).cell 0
      generalize lens (nowL sv lv) = nb at HBY hri hale hl9
      generalize atL (nowL sv lv) k = s0 at hlk hri hale
      obtain ⟨sq, sn, sc⟩ := s0
      dsimp only at hlk hri hale
      generalize lenB (putL S.now (k, b)) = np at hri hfi
      have hbn1 := hbn.1
      have hbn2 := hbn.2
      generalize S.asked.1.room = room at q0 r0 r1 hfi
      have w1_ : IntKind.i64.wrap ((nb : Int) - (sn : Int)) = (nb : Int) - (sn : Int) := IntWalk.i64_in _ (by omega)
      have w2_ : IntKind.i64.wrap (room - (n : Int)) = room - (n : Int) := IntWalk.i64_in _ (by omega)
      have hng : ¬ (room - (n : Int) < (nb : Int) - (sn : Int)) := by omega
      clear hm hbn hfi hri hale hl9 r0 r1 hbn1 hbn2
      refine wp_region_quiet_below (by kernel_rfl) (by kernel_rfl) ?_
      repeat (go_big_quiet_step (exact Calls.regrown_of (HBY.out _ _)))
      refine wpQuiet_nil ?_
      intro w' hw'
      obtain ⟨rg, rfl⟩ := hw'
      generalize hW3 : Go.Sort.grow (redrawn w2 rg.d) rg.os = w3
      have h3 : Below w2.heap.size w2 w3 := by rw [← hW3]; exact below_regrown _ _ _
      clear hW3 q0 hlk w1_ w2_ HBY
      have D3 := D2.on h3
      obtain ⟨g1, g2⟩ := HS.out.1.off hk1 HD.out.based HD.out.blk (by decide)
      obtain ⟨g3, g4⟩ := g1.on HB2.out
      obtain ⟨g5, g6⟩ := g3.on h3
      have HS3 : Hid (GoodS w3 base (q, n, c) ∧ rdB w3 (q, n, c) = b) := Lib.hid ⟨g5, by rw [g6, g4, g2, HQ.out]⟩
      have HCL : Hid (∀ W, Below w3.heap.size w3 W → Calls Try.prog 57 #[.slice q n c] W fun r w' => ∃ u, r = .returned u ∧ (Kept (fun _ => True) W w' ∧ PutA base b u w')) := Lib.hid fun W hW => by
        obtain ⟨k1, k2⟩ := HS3.out.1.on hW
        refine (clone_good k1 (by have := HS.out.2.2; dsimp only; omega)).mono ?_
        rintro r w' ⟨s', rfl, -, hg, hr, hb⟩
        exact ⟨_, rfl, (Kept.of_below hb).mono fun _ _ => trivial, s', rfl, hg, by rw [hr, k2, HS3.out.2]⟩
      clear g1 g2 g3 g4 g5 g6
      obtain ⟨ql, cp, rfl, -, -, -⟩ := row_form D3.row
      have q4 : ∀ d' os, (Go.Sort.grow (redrawn w3 d') os).cell? ⟨d, 4, none⟩ = some (.slice ql lv.length cp) := fun d' os => (D3.blk.re d' os).cell 4
      go_upto_region 6 with (fail)
      refine wp_sched [1, 0, 0, 0, 0, 0, 0, 2, 2, 2, 3, 1, 1, 3] (fun i v w => match i with | 7 => PutA base b v w | 8 => PutB base k b v w | 9 => PutC base k b v w | _ => True) (by kernel_rfl) (by kernel_rfl) (fun i v w w' h hb => by match i, h with | 7, h => exact PutA.on h hb | 8, h => exact PutB.on h hb | 9, h => exact PutC.on h hb | 0, _ => trivial | 1, _ => trivial | 2, _ => trivial | 3, _ => trivial | 4, _ => trivial | 5, _ => trivial | 6, _ => trivial | n + 10, _ => trivial) ?_
      repeat (first | (refine wpQs_s ?_) | (refine wpQs_q (fun K hK => ?_); go_simp; first | (refine hK _ ?_; clear hK K) | (apply Exists.intro; refine ⟨fun _ => ?_, hK _ ?_⟩; (fail); clear hK K)) | (refine wpQs_f (fun K hK => ?_); go_simp; refine hK _ ?_; clear hK K))
      refine wpQs_nil ?_
      refine wpLs_skip ?_
      refine wpLs_skip ?_
      refine wpLs_skip ?_
      refine wpLs_skip ?_
      refine wpLs_skip ?_
      refine wpLs_skip ?_
      refine wpLs_skip ?_
      refine wpLs_one ?lsA (fun v_ => ?_)
      case lsA => (intro w_ hw_ hp_; (first | (dsimp only at hF_; have h8 : PutB _ _ _ _ _ := hF_.2 (by kernel_rfl); obtain ⟨⟨sq', sn', sc'⟩, E8, G8⟩ := h8; simp only [slV] at E8; subst E8; go_simp; exact ⟨Kept.of_below ((Below.refl _ _).alloc (Nat.le_refl _) _), PutC.mk (s := (sq', sn', sc')) G8⟩) | (dsimp only at hF_; have h8 : PutA _ _ _ _ := hF_.2 (by kernel_rfl); obtain ⟨⟨sq', sn', sc'⟩, E8, G8⟩ := h8; simp only [slV] at E8; subst E8; go_simp; exact ⟨Kept.refl _ _, ⟨(sq', sn', sc'), rfl, G8⟩⟩) | (go_simp; refine (HCL.out _ ((msd_kept hw_).none)).mono ?_; rintro e_ w9 ⟨u, rfl, hk, hu⟩; exact ⟨u, rfl, hk, hu⟩)))
      refine wpLs_oneF ?lsA (fun v_ => ?_)
      case lsA => (intro w_ hw_ hp_ hF_; (first | (dsimp only at hF_; have h8 : PutB _ _ _ _ _ := hF_.2 (by kernel_rfl); obtain ⟨⟨sq', sn', sc'⟩, E8, G8⟩ := h8; simp only [slV] at E8; subst E8; go_simp; exact ⟨Kept.of_below ((Below.refl _ _).alloc (Nat.le_refl _) _), PutC.mk (s := (sq', sn', sc')) G8⟩) | (dsimp only at hF_; have h8 : PutA _ _ _ _ := hF_.2 (by kernel_rfl); obtain ⟨⟨sq', sn', sc'⟩, E8, G8⟩ := h8; simp only [slV] at E8; subst E8; go_simp; exact ⟨Kept.refl _ _, ⟨(sq', sn', sc'), rfl, G8⟩⟩) | (go_simp; refine (HCL.out _ ((msd_kept hw_).none)).mono ?_; rintro e_ w9 ⟨u, rfl, hk, hu⟩; exact ⟨u, rfl, hk, hu⟩)))
      refine wpLs_oneF ?lsA (fun v_ => ?_)
      case lsA => (intro w_ hw_ hp_ hF_; (first | (dsimp only at hF_; have h8 : PutB _ _ _ _ _ := hF_.2 (by kernel_rfl); obtain ⟨⟨sq', sn', sc'⟩, E8, G8⟩ := h8; simp only [slV] at E8; subst E8; go_simp; exact ⟨Kept.of_below ((Below.refl _ _).alloc (Nat.le_refl _) _), PutC.mk (s := (sq', sn', sc')) G8⟩) | (dsimp only at hF_; have h8 : PutA _ _ _ _ := hF_.2 (by kernel_rfl); obtain ⟨⟨sq', sn', sc'⟩, E8, G8⟩ := h8; simp only [slV] at E8; subst E8; go_simp; exact ⟨Kept.refl _ _, ⟨(sq', sn', sc'), rfl, G8⟩⟩) | (go_simp; refine (HCL.out _ ((msd_kept hw_).none)).mono ?_; rintro e_ w9 ⟨u, rfl, hk, hu⟩; exact ⟨u, rfl, hk, hu⟩)))
      refine wpLs_skip ?_
      refine wpLs_skip ?_
      refine wpLs_skip ?_
      refine wpLs_skip ?_
      refine wpLs_nilB ?_
      simp only [tails]
      rintro W4 h4 ⟨-, s', g, rfl, hG, hg', hb'⟩
      have D4 := D3.on h4
      have hbz : base ≤ W4.heap.size := Nat.le_trans HB.out (Nat.le_trans hk1.size (Nat.le_trans HB2.out.size (Nat.le_trans h3.size h4.size)))
      have hll := hok1.many
      rw [D4.l, cont_len] at hll
      obtain ⟨v', w5, hrun, O5, hgr, hloc, g9, c9, rfl⟩ := push_at (P := Try.prog) (ts := 88) (ty := 88) (x := (k, s')) (b := g) Try.underlying88 infW rfl (by decide) (by decide) rfl (by simp [Value.oneCell', slV]) D4.row
        (fun j u hu => by rw [hG.cell j]; simpa using hu) (by omega) hbz
      obtain ⟨F1, F2⟩ := D4.pushed hg' O5 hgr hloc
      have k5 : Kept (fun b => Value.ownBlock (.slice ql lv.length cp) ≠ some b) W4 w5 := ⟨hgr.os, hgr.tape, hgr.output, hgr.size, fun b hb hK => hgr.block b hb (Ne.symm hK)⟩
      have f4 := (k5.blk D4.apart.1 D4.blk).frz 4
      have c4 : w5.cell? ⟨d, 4, none⟩ = some (.slice ql lv.length cp) := (k5.blk D4.apart.1 D4.blk).cell 4
      have HF1 := Lib.hid F1
      have HF2 := Lib.hid F2
      have HH4 := Lib.hid (And.intro h3 h4)
      have HLC := Lib.hid hloc
      have HHB := Lib.hid hb'
      have HHK := Lib.hid hk1
      clear q4 hG F1 F2 h3 h4 hloc hb' hk1 hgr O5 k5 hbz hll hg' HCL HS3 D2 D3 D4 hD1 HG HNW hng hrn
      go_wp2_with (at_builtin; refine Lib.wpList_append_run _ rfl _ _ _ _ rfl _ _ rfl rfl _ _ hrun ?_)
      go_returns
      refine ⟨rfl, Mine d bm (.slice (some ⟨g9, 0, none⟩) (lv.length + 1) c9), ⟨bm, _, sv, lv ++ [(k, s')], by have := HF1.out; rw [e2, HHB.out] at this; exact this, fun b => Iff.rfl⟩, fun b hb => ?_, ?_⟩
      · rcases hb with hb | hb | hb
        · exact .inl ((HM.out b).2 (.inl hb))
        · exact .inl ((HM.out b).2 (.inr (.inl hb)))
        · rcases HLC.out with e | e
          · exact .inl ((HM.out b).2 (.inr (.inr (by rw [← e]; exact hb))))
          · rw [hb] at e
            obtain rfl := Option.some.inj e
            exact .inr (Nat.le_trans HHK.out.size (Nat.le_trans HB2.out.size (Nat.le_trans HH4.out.1.size HH4.out.2.size)))
      · refine (HHK.out.mono fun b hb e => hb ((HM.out b).2 (.inl e))).trans ?_
        refine ((Kept.of_below (after (after HB2.out HH4.out.1) HH4.out.2)).mono fun _ _ => trivial).trans ?_
        exact HF2.out.mono fun b hb hm => hb ((HM.out b).2 hm)
    · have hput : S.put k b = (S.asked.1, 8) := by unfold DS.put; rw [ha, if_neg (by decide), if_neg hfit]
      rw [hput]
      rw [ha] at HF
      go_enter Try.func38, Try.ntmps38
      go_wp2_with (go_at_call 58; refine HF.out.mono ?_; rintro e_ w1 ⟨rfl, hD1, hk1⟩)
      obtain ⟨hr, hkl, hcnt, hg, hc, hrn, hlens⟩ := hD1.facts hok1
      have HNW := Lib.hid (now_c base d bm v S.asked.1 sv lv w1 hD1 hr hkl (by omega))
      have hroom := hok1.room
      rw [hnow] at hc
      obtain ⟨r0, r1⟩ := hroom
      have hri := room_is (k := k) (b := b) hrn hg hc
      have hale := at_le (nowL sv lv) k
      have hfi : ¬ (lenB (putL S.now (k, b)) : Int) ≤ S.asked.1.room := by rw [e3]; unfold DS.fits at hfit; simpa using hfit
      have hbn := HS.out.2
      have hl9 : lens (nowL sv lv) ≤ 100000000000 := Nat.le_trans hlens (Nat.le_trans (Nat.mul_le_mul_right 1000000 hN) (by decide))
      have HG := Lib.hid (And.intro hg hc)
      clear hg hc hfit hlens hr hkl hcnt
      go_upto_region 4 with (go_at_call 59; refine HNW.out.mono ?_; rintro e_ w2 ⟨rfl, hm, hB2⟩)
      have D2 := hD1.on hB2
      have HM2 := Lib.hid hm
      have HB2 := Lib.hid hB2
      generalize w1.heap.size = m at hm HM2 ⊢
      clear hB2
      have HBY := Lib.hid fun d' os => bytes_c m _ (nowL sv lv) (Go.Sort.grow (redrawn w2 d') os) hrn (map_on hm (below_regrown _ _ _)) (by omega)
      have hlk := fun d' os => look_c (map_on hm (below_regrown w2 d' os)) hk
      simp only [slV] at hlk
      have q0 : ∀ d' os, (Go.Sort.grow (redrawn w2 d') os).cell? ⟨d, 0, none⟩ = some (.int .i64 S.asked.1.room) := fun d' os => (D2.blk.re d' os).cell 0
      generalize lens (nowL sv lv) = nb at HBY hri hale hl9
      generalize atL (nowL sv lv) k = s0 at hlk hri hale
      obtain ⟨sq, sn, sc⟩ := s0
      dsimp only at hlk hri hale
      generalize lenB (putL S.now (k, b)) = np at hri hfi
      have hbn1 := hbn.1
      have hbn2 := hbn.2
      generalize S.asked.1.room = room at q0 r0 r1 hfi
      have w1_ : IntKind.i64.wrap ((nb : Int) - (sn : Int)) = (nb : Int) - (sn : Int) := IntWalk.i64_in _ (by omega)
      have w2_ : IntKind.i64.wrap (room - (n : Int)) = room - (n : Int) := IntWalk.i64_in _ (by omega)
      have hng : room - (n : Int) < (nb : Int) - (sn : Int) := by omega
      clear hm hbn hfi hri hale hl9 r0 r1 hbn1 hbn2
      refine wp_region_quiet_below (by kernel_rfl) (by kernel_rfl) ?_
      repeat (go_big_quiet_step (exact Calls.regrown_of (HBY.out _ _)))
      refine wpQuiet_nil ?_
      intro w' hw'
      obtain ⟨rg, rfl⟩ := hw'
      generalize hW3 : Go.Sort.grow (redrawn w2 rg.d) rg.os = w3
      have h3 : Below w2.heap.size w2 w3 := by rw [← hW3]; exact below_regrown _ _ _
      clear hW3 q0 hlk w1_ w2_ HBY
      have HH := Lib.hid (And.intro h3 hk1)
      have D3 := D2.on h3
      clear h3 hk1 HNW
      go_wp2_with fail
      go_returns
      refine ⟨rfl, Mine d bm v, ⟨bm, v, sv, lv, D3, fun b => Iff.rfl⟩, fun b hb => .inl ((HM.out b).2 hb), ?_⟩
      refine (HH.out.2.mono fun b hb e => hb ((HM.out b).2 (.inl e))).trans ?_
      exact (Kept.of_below (after HB2.out HH.out.1)).mono fun _ _ => trivial
  · have hput : S.put k b = (S.asked.1, 9) := by unfold DS.put; rw [ha]; rfl
    rw [hput]
    rw [ha] at HF
    go_enter Try.func38, Try.ntmps38
    go_wp2_with (go_at_call 58; refine HF.out.mono ?_; rintro e_ w1 ⟨rfl, hD1, hk1⟩)
    go_returns
    exact ⟨rfl, Mine d bm v, ⟨bm, v, sv, lv, hD1, fun b => Iff.rfl⟩, fun b hb => .inl ((HM.out b).2 hb), hk1.mono fun b hb e => hb ((HM.out b).2 (.inl e))⟩
end Go.Proofs.Ytkopenemoddbbaa
