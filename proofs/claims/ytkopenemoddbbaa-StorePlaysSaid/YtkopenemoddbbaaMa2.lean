/- Texts that build one behind the other, laid together: Disk1 Disk2 Disk3 Last Float Reg. -/
import Derived.Test.YtkopenemoddbbaaMa1
import Derived.Test.YtkopenemoddbbaaChecked
import Derived.Shelf.SlMaps.Clone
import Derived.Maps.OwnOps
import Derived.Deep.Cut
import Derived.OrdersIn
/- A disk in memory, whole; what a disk's call may turn; all blobs as they were put last. -/
namespace Go.Proofs.Ytkopenemoddbbaa
open Go.RowKit Go.Maps
attribute [local go_sem] Oper.semAt_some

abbrev encW (p : Int × SL) : List Value := [.int .i64 p.1, slV p.2]
theorem lenW (p : Int × SL) : (encW p).length = 2 := rfl
structure DiskAt (w : World) (base d bm : Nat) (v : Value) (S : DS) (sv lv : List (Int × SL)) : Prop where
  blk : Blk w d 90 #[.int .i64 S.room, .int .i64 S.fails, .int .i64 S.waits, .map (some bm), v]
  map : w.ownsMap Try.prog 3 RS bm sv.length (DM sv)
  row : Owns w base 92 2 encW v lv
  based : base ≤ d
  basem : base ≤ bm
  gs : GoodL w base sv
  gl : GoodL w base lv
  safe : S.safe = cont w sv
  l : S.l = cont w lv
theorem own_blk {w : World} {base n size : Nat} {e : TypeId} {v : Value} {xs : List Value} (h : w.ownsRow base e size v n xs) {g : Nat} (hg : v.ownBlock = some g) : base ≤ g ∧ ∃ cur, Blk w g e cur := by
  rcases h.2 with ⟨rfl, _⟩ | ⟨g', cap, cur, rfl, hb, hgg, _⟩
  · cases hg
  · simp [Value.ownBlock] at hg
    subst hg
    exact ⟨hb, cur, hgg⟩
theorem blk_one {w : World} {g : Nat} {t t' : TypeId} {cs cs' : Array Value} (h : Blk w g t cs) (h' : Blk w g t' cs') : t = t' := by
  unfold Blk at h h'
  rw [h] at h'
  simp only [Option.some.injEq, Obj.cells.injEq] at h'
  exact h'.2.1
/-- The blocks of a disk that its calls write to. -/
def Mine (d bm : Nat) (v : Value) (b : Nat) : Prop := b = d ∨ b = bm ∨ v.ownBlock = some b
/-- What such a block is. -/
theorem DiskAt.mine {w : World} {base d bm : Nat} {v : Value} {S : DS} {sv lv : List (Int × SL)} (h : DiskAt w base d bm v S sv lv) {b : Nat} (hb : Mine d bm v b) : base ≤ b ∧ b < w.heap.size ∧ ∀ t cs, Blk w b t cs → t = 90 ∨ t = 92 := by
  rcases hb with rfl | rfl | hb
  · exact ⟨h.based, h.blk.lt, fun t cs hB => .inl (blk_one hB h.blk)⟩
  · exact ⟨h.basem, h.map.lt, fun t cs hB => absurd hB (map_lt h.map _ _ _)⟩
  · obtain ⟨h1, cur, h2⟩ := own_blk h.row hb
    exact ⟨h1, h2.lt, fun t cs hB => .inr (blk_one hB h2)⟩
theorem DiskAt.kept {w w' : World} {base d bm : Nat} {v : Value} {S : DS} {sv lv : List (Int × SL)} {K : Nat → Prop} (h : DiskAt w base d bm v S sv lv) (hk : Kept K w w') (h1 : ∀ b, Mine d bm v b → K b) (h2 : ∀ b, ByteBlk w base b → K b) : DiskAt w' base d bm v S sv lv := by
  obtain ⟨g1, g2⟩ := h.gs.kept hk h2
  obtain ⟨g3, g4⟩ := h.gl.kept hk h2
  refine ⟨hk.blk (h1 _ (.inl rfl)) h.blk, map_kept h.map (hk.block _ h.map.lt (h1 _ (.inr (.inl rfl)))), ⟨h.row.1, ?_⟩, h.based, h.basem, g1, g3, by rw [g2]; exact h.safe, by rw [g4]; exact h.l⟩
  rcases h.row.2 with h0 | ⟨g, cap, cur, hv, hbg, hg, r⟩
  · exact .inl h0
  · exact .inr ⟨g, cap, cur, hv, hbg, (hk.block g (Array.getElem?_eq_some_iff.1 hg).1 (h1 g (.inr (.inr (by rw [hv]; rfl))))).trans hg, r⟩
theorem DiskAt.on {w w' : World} {base d bm : Nat} {v : Value} {S : DS} {sv lv : List (Int × SL)} (h : DiskAt w base d bm v S sv lv) (hb : Below w.heap.size w w') : DiskAt w' base d bm v S sv lv := h.kept (K := fun _ => True) (Kept.of_below hb |>.mono fun _ _ => trivial) (fun _ _ => trivial) (fun _ _ => trivial)
/-- The same, with what is inside out of sight. -/
def DiskIs (w : World) (base : Nat) (M : Nat → Prop) (d : Nat) (S : DS) : Prop := ∃ bm v sv lv, DiskAt w base d bm v S sv lv ∧ ∀ b, M b ↔ Mine d bm v b
/-- Behind a call. -/
def Turn (w : World) (base : Nat) (M : Nat → Prop) (d : Nat) (S : DS) (w' : World) : Prop := ∃ M', DiskIs w' base M' d S ∧ (∀ b, M' b → M b ∨ w.heap.size ≤ b) ∧ Kept (fun b => ¬ M b) w w'
theorem DiskIs.mine {w : World} {base : Nat} {M : Nat → Prop} {d : Nat} {S : DS} (h : DiskIs w base M d S) {b : Nat} (hb : M b) : base ≤ b ∧ b < w.heap.size ∧ ∀ t cs, Blk w b t cs → t = 90 ∨ t = 92 := by
  obtain ⟨bm, v, sv, lv, h, hM⟩ := h
  exact h.mine ((hM b).1 hb)
theorem DiskIs.kept {w w' : World} {base : Nat} {M : Nat → Prop} {d : Nat} {S : DS} {K : Nat → Prop} (h : DiskIs w base M d S) (hk : Kept K w w') (h1 : ∀ b, M b → K b) (h2 : ∀ b, ByteBlk w base b → K b) : DiskIs w' base M d S := by
  obtain ⟨bm, v, sv, lv, h, hM⟩ := h
  exact ⟨bm, v, sv, lv, h.kept hk (fun b hb => h1 b ((hM b).2 hb)) h2, hM⟩
theorem DiskIs.on {w w' : World} {base : Nat} {M : Nat → Prop} {d : Nat} {S : DS} (h : DiskIs w base M d S) (hb : Below w.heap.size w w') : DiskIs w' base M d S := h.kept (K := fun _ => True) (Kept.of_below hb |>.mono fun _ _ => trivial) (fun _ _ => trivial) (fun _ _ => trivial)
/-- A store into a block of another kind. -/
theorem DiskIs.far {w : World} {base : Nat} {M : Nat → Prop} {d : Nat} {S : DS} {p : Addr} {t : TypeId} {cs : Array Value} (h : DiskIs w base M d S) (hB : Blk w p.block t cs) (ht : t ≠ 90 ∧ t ≠ 92 ∧ t ≠ 5) (hp : base ≤ p.block) (u : Value) : DiskIs (w.setCell p u) base M d S := by
  refine h.kept (K := fun b => b ≠ p.block) ((Kept.refl _ w).setCell (by simp) u) (fun b hb e => ?_) (fun b hb e => ?_)
  · subst e
    rcases (h.mine hb).2.2 _ _ hB with e | e
    · exact ht.1 e
    · exact ht.2.1 e
  · subst e
    rcases hb with hb | ⟨cur, hb⟩
    · omega
    · exact ht.2.2 (blk_one hB hb)
/-- What stays behind a disk's call. -/
theorem Turn.blk {w w' : World} {base : Nat} {M : Nat → Prop} {d g : Nat} {S S' : DS} {t : TypeId} {cs : Array Value} (h : Turn w base M d S' w') (h0 : DiskIs w base M d S) (hB : Blk w g t cs) (ht : t ≠ 90 ∧ t ≠ 92) : Blk w' g t cs := by
  obtain ⟨M', -, -, hk⟩ := h
  exact hk.blk (fun hM => by
    rcases (h0.mine hM).2.2 _ _ hB with e | e
    · exact ht.1 e
    · exact ht.2 e) hB
theorem Turn.below {w w' : World} {base : Nat} {M : Nat → Prop} {d : Nat} {S S' : DS} (h : Turn w base M d S' w') (h0 : DiskIs w base M d S) (hb : base ≤ w.heap.size) : Below base w w' := by
  obtain ⟨M', -, -, hk⟩ := h
  exact hk.below hb fun b hb hM => by have := (h0.mine hM).1; omega
theorem Turn.own {w w' : World} {base : Nat} {M : Nat → Prop} {d b0 size : Nat} {S S' : DS} {e : TypeId} {α : Type} {enc : α → List Value} {v : Value} {xs : List α} (h : Turn w base M d S' w') (h0 : DiskIs w base M d S) (hO : Owns w b0 e size enc v xs) (ht : e ≠ 90 ∧ e ≠ 92) : Owns w' b0 e size enc v xs := by
  refine ⟨hO.1, ?_⟩
  rcases hO.2 with h1 | ⟨g, cap, cur, hv, hbg, hg, r⟩
  · exact .inl h1
  · exact .inr ⟨g, cap, cur, hv, hbg, h.blk h0 hg ht, r⟩
theorem Turn.good {w w' : World} {base : Nat} {M : Nat → Prop} {d : Nat} {S S' : DS} {s : SL} (h : Turn w base M d S' w') (h0 : DiskIs w base M d S) (hs : GoodS w base s) : GoodS w' base s ∧ rdB w' s = rdB w s := by
  obtain ⟨M', -, -, hk⟩ := h
  refine hs.kept hk fun b hb hM => ?_
  rcases hb with hb | ⟨cur, hb⟩
  · have := (h0.mine hM).1; omega
  · rcases (h0.mine hM).2.2 _ _ hb with e | e <;> revert e <;> decide
theorem Turn.goods {w w' : World} {base : Nat} {M : Nat → Prop} {d : Nat} {S S' : DS} {l : List (Int × SL)} (h : Turn w base M d S' w') (h0 : DiskIs w base M d S) (hs : GoodL w base l) : GoodL w' base l ∧ cont w' l = cont w l :=
  ⟨fun p hp => (h.good h0 (hs p hp)).1, List.map_congr_left fun p hp => by rw [(h.good h0 (hs p hp)).2]⟩
/-- Nothing but new memory. -/
theorem Turn.same {w w' : World} {base : Nat} {M : Nat → Prop} {d : Nat} {S : DS} (h0 : DiskIs w base M d S) (hb : Below w.heap.size w w') : Turn w base M d S w' := ⟨M, h0.on hb, fun _ h => .inl h, (Kept.of_below hb).mono fun _ _ => trivial⟩
theorem Turn.on {w w' w'' : World} {base : Nat} {M : Nat → Prop} {d : Nat} {S : DS} (h : Turn w base M d S w') (hb : Below w'.heap.size w' w'') : Turn w base M d S w'' := by
  obtain ⟨M', h1, h2, h3⟩ := h
  exact ⟨M', h1.on hb, h2, h3.on hb⟩
theorem Turn.trans {w w' w'' : World} {base : Nat} {M M' : Nat → Prop} {d : Nat} {S' : DS} (h2 : ∀ b, M' b → M b ∨ w.heap.size ≤ b) (h3 : Kept (fun b => ¬ M b) w w') (k : Turn w' base M' d S' w'') : Turn w base M d S' w'' := by
  obtain ⟨M'', k1, k2, k3⟩ := k
  refine ⟨M'', k1, fun b hb => ?_, ?_⟩
  · rcases k2 b hb with h | h
    · exact h2 b h
    · exact .inr (Nat.le_trans h3.size h)
  · refine ⟨k3.os.trans h3.os, k3.tape.trans h3.tape, k3.output.trans h3.output, Nat.le_trans h3.size k3.size, fun b hb hM => (k3.block b (Nat.lt_of_lt_of_le hb h3.size) fun h => ?_).trans (h3.block b hb hM)⟩
    rcases h2 b h with h | h
    · exact hM h
    · omega

theorem lawI : Keyed Try.prog 3 := int_keyed Try.underlying3
theorem zeroB (w : World) : (zeroValue 22).run Try.prog w = .ok (.slice none 0 0) w := by kernel_rfl
theorem wf64 {x : Int} (h : In64 x) : (Lit.int .i64 x).wf = true := by
  simp [Lit.wf, IntKind.min, IntKind.max, IntKind.signed, IntKind.bits]
  unfold In64 at h
  omega
theorem key64 {x : Int} (h : In64 x) : keyOf Try.prog 3 (.int .i64 x) = some (.int .i64 x) := keyOf_int_mk Try.underlying3 (wf64 h)
set_option maxRecDepth 100000 in
set_option maxHeartbeats 2000000 in
theorem mclone_c (b n : Nat) (D : DataW SL) (w : World) (hown : w.ownsMap Try.prog 3 RS b n D) :
    Calls Try.prog 72 #[.map (some b)] w fun e w' => e = .returned (.map (some w.heap.size)) ∧ w'.ownsMap Try.prog 3 RS w.heap.size n D ∧ Below w.heap.size w w' := by
  obtain ⟨es, clock, hb, F, hs, hD⟩ := hown
  have hq := fun w => run_eql_map_nil_sl (P := Try.prog) w 87 _ _ (some b) Try.underlying87
  have hta := fun w (v : Value) => run_typeAssert_map_sl (P := Try.prog) w 87 20 _ _ v Try.underlying87
  go_enter Try.func72, Try.ntmps72
  go_wp2_with fail
  rw [run_callFunc_extern Try.func77 (by kernel_rfl) (by kernel_rfl) (by kernel_rfl) (e := Extern.MapsClone.clone) (by kernel_rfl), run_maps_clone_sl w 87 hb]
  simp only [Result.andThen]
  rw [Oper.upon_value]
  go_wp2_with fail
  go_returns
  have hB : Below w.heap.size w (w.alloc (.map es clock)) := (Below.refl _ w).alloc (Nat.le_refl _) _
  exact ⟨rfl, ⟨es, clock, (MapKept.heap_alloc w _).1, F, hs, hD⟩, hB⟩
end Go.Proofs.Ytkopenemoddbbaa

/- All blobs as they were put last; how many bytes a map's blobs have. -/
namespace Go.Proofs.Ytkopenemoddbbaa
open Go.RowKit Go.Maps
attribute [local go_sem] Oper.semAt_some

/-- A row that is read. -/
theorem row_form {w : World} {base : Nat} {e : TypeId} {v : Value} {xs : List (Int × SL)} (h : Owns w base e 2 encW v xs) : ∃ q cap, v = .slice q xs.length cap ∧ xs.length ≤ cap ∧ cap ≤ maxLen ∧
    ∀ i p, xs[i]? = some p → ∃ g, q = some ⟨g, 0, none⟩ ∧ w.cell? ⟨g, i * 2, none⟩ = some (.int .i64 p.1) ∧ w.cell? ⟨g, i * 2 + 1, none⟩ = some (slV p.2) := by
  obtain ⟨q, cap, hv, h1, h2, hR, -, hg⟩ := h.form lenW
  refine ⟨q, cap, hv, h1, h2, fun i p hi => ?_⟩
  have hn : 0 < xs.length := by have := (List.getElem?_eq_some_iff.1 hi).1; omega
  obtain ⟨g, rfl⟩ := hg hn
  have a0 := hR.at hi (j := 0) rfl
  have a1 := hR.at hi (j := 1) rfl
  rw [Nat.zero_add] at a0 a1
  exact ⟨g, rfl, a0, a1⟩
theorem take_at {α : Type} {xs : List α} {k : Nat} {p : α} (h : xs[k]? = some p) : xs.take (k + 1) = xs.take k ++ [p] := by rw [List.take_add_one, h]; rfl
theorem lt_at {α : Type} {xs : List α} {k : Nat} (h : k < xs.length) : ∃ p, xs[k]? = some p := ⟨_, List.getElem?_eq_getElem h⟩
theorem nx64 {k : Nat} (h : k ≤ 1000000) : wrap64 ((k : Int) + 1) = k + 1 := IntWalk.wrap64_in _ (by omega)
set_option maxRecDepth 100000 in
set_option maxHeartbeats 4000000 in
theorem now_c (base d bm : Nat) (v : Value) (S : DS) (sv lv : List (Int × SL)) (w : World) (h : DiskAt w base d bm v S sv lv) (hr : Rise sv) (hk : ∀ p ∈ lv, In64 p.1) (hN : sv.length + lv.length ≤ 1000000) :
    Calls Try.prog 59 #[.pointer (some ⟨d, 0, none⟩)] w fun r w' => r = .returned (.map (some w.heap.size)) ∧ w'.ownsMap Try.prog 3 RS w.heap.size (sv.length + lv.length) (DM (nowL sv lv)) ∧ Below w.heap.size w w' := by
  obtain ⟨q, cap, rfl, hc1, hc2, hrd⟩ := row_form h.row
  have d3 : w.cell? ⟨d, 3, none⟩ = some (.map (some bm)) := h.blk.cell 3
  have d4 : w.cell? ⟨d, 4, none⟩ = some (.slice q lv.length cap) := h.blk.cell 4
  have hdl := h.blk.lt
  have HM := Lib.hid h.map
  have HR := Lib.hid hrd
  have HK := Lib.hid hk
  have HC := Lib.hid (And.intro hc1 hc2)
  clear h hrd hk hc1 hc2
  go_enter Try.func59, Try.ntmps59
  go_wp2_with (go_at_call 72; refine (mclone_c bm _ _ _ HM.out).mono ?_; rintro e_ w1 ⟨rfl, hm1, hB1⟩; have d4' : w1.cell? ⟨d, 4, none⟩ = some (.slice q lv.length cap) := (hB1.cell hdl).trans d4)
  generalize hn0 : w.heap.size = m at hm1 hB1 hdl ⊢
  go_loopw [16] (fun i wr => ∃ k : Nat, k ≤ lv.length ∧ i = .int .i64 k ∧ wr.ownsMap Try.prog 3 RS m (sv.length + k) (DM (nowL sv (lv.take k))) ∧ Below m w wr) (fun i _ => lv.length - (intOf i).toNat)
  case atStart => exact ⟨0, Nat.zero_le _, rfl, by rw [List.take_zero]; exact hm1, hB1⟩
  case round =>
    obtain ⟨k, hk, rfl, hown, hnx⟩ := hrel
    by_cases hlt : k < lv.length
    · obtain ⟨p, hp⟩ := lt_at hlt
      obtain ⟨g, rfl, r0, r1⟩ := HR.out k p hp
      have hgl := cell_lt r0
      replace hgl : g < m := by rw [← hn0]; exact hgl
      replace r0 := (hnx.cell (p := ⟨g, k * 2, none⟩) hgl).trans r0
      replace r1 := (hnx.cell (p := ⟨g, k * 2 + 1, none⟩) hgl).trans r1
      have hkey := key64 (HK.out p (List.mem_of_getElem? hp))
      obtain ⟨pk, pq, pn, pc⟩ := p
      simp only [slV] at r0 r1 hkey
      have HP := Lib.hid hp
      clear hp
      have hk1 : (k : Int) < (lv.length : Int) := by omega
      have hk0 : (0 : Int) ≤ (k : Int) := by omega
      go_wp2_with (at_mapUpdate; refine wpList_mapUpdate_own _ rfl _ _ _ 87 rfl 3 22 lawI Try.underlying87 _ m (sv.length + k) _ rfl (hown.alloc _) (by unfold maxLen; omega) _ _ _ rfl rfl hkey _ [] (RS_mk (pq, pn, pc)) ?_; intro w2 hown2 hgrow2)
      rw [put_DM (rise_now hr), ← nowL_snoc, ← take_at HP.out, show sv.length + k + 1 = sv.length + (k + 1) by omega] at hown2
      have hms : m ≤ wr.heap.size := by rw [← hn0]; exact hnx.size
      exact ⟨⟨k + 1, hlt, by go_num, hown2, (hnx.alloc hms _).grown hgrow2 (Nat.le_trans hms (by simp)) (fun j hj => by cases hj; exact Nat.le_refl _)⟩, next_less' hlt⟩
    · obtain rfl : k = lv.length := by omega
      rw [List.take_length] at hown
      have hk1 : ¬ ((lv.length : Int) < (lv.length : Int)) := by omega
      go_wp2_with fail
      go_returns
      subst hn0
      exact ⟨rfl, hown, hnx⟩
def lens (l : List (Int × SL)) : Nat := (l.map fun p => p.2.2.1).sum
theorem lens_is {w : World} {base : Nat} : ∀ {l : List (Int × SL)}, GoodL w base l → lens l = lenB (cont w l)
  | [], _ => rfl
  | x :: r, h => by
    have h1 := (h x List.mem_cons_self).len
    have h2 := lens_is (l := r) fun p hp => h p (List.mem_cons_of_mem _ hp)
    simp only [lens, lenB, cont, List.map_cons, List.sum_cons] at h2 ⊢
    rw [h1, h2]
/-- Those that are no longer to come. -/
def doneB (l : List (Int × SL)) (left : Lit → Bool) : Nat := lens (l.filter fun p => !left (.int .i64 p.1))
theorem doneB_nil (left : Lit → Bool) : doneB [] left = 0 := rfl
theorem doneB_cons (x : Int × SL) (r : List (Int × SL)) (left : Lit → Bool) : doneB (x :: r) left = (if left (.int .i64 x.1) then 0 else x.2.2.1) + doneB r left := by
  unfold doneB lens
  cases hx : left (.int .i64 x.1) <;> simp [hx]
theorem doneB_cong {left left' : Lit → Bool} : ∀ {l : List (Int × SL)}, (∀ p ∈ l, left (.int .i64 p.1) = left' (.int .i64 p.1)) → doneB l left = doneB l left'
  | [], _ => rfl
  | x :: r, h => by rw [doneB_cons, doneB_cons, h x List.mem_cons_self, doneB_cong (l := r) fun p hp => h p (List.mem_cons_of_mem _ hp)]
theorem doneB_all {left : Lit → Bool} : ∀ {l : List (Int × SL)}, (∀ p ∈ l, left (.int .i64 p.1) = true) → doneB l left = 0
  | [], _ => rfl
  | x :: r, h => by rw [doneB_cons, h x List.mem_cons_self, doneB_all (l := r) fun p hp => h p (List.mem_cons_of_mem _ hp)]; rfl
theorem doneB_none {left : Lit → Bool} (h : ∀ z, left z = false) : ∀ l : List (Int × SL), doneB l left = lens l
  | [] => rfl
  | x :: r => by
    rw [doneB_cons, h, doneB_none h r]
    simp [lens]
theorem doneB_le (left : Lit → Bool) : ∀ l : List (Int × SL), doneB l left ≤ lens l
  | [] => Nat.le_refl _
  | x :: r => by
    have := doneB_le left r
    rw [doneB_cons]
    simp only [lens, List.map_cons, List.sum_cons] at this ⊢
    split <;> omega
theorem doneB_step {left : Lit → Bool} {x : Int} {s : SL} : ∀ {l : List (Int × SL)}, Rise l → getL l x = some s → left (.int .i64 x) = true → doneB l (fun z => left z && !z.sameKey (.int .i64 x)) = doneB l left + s.2.1
  | [], _, h, _ => by cases h
  | y :: r, hr, h, hl => by
    obtain ⟨h1, h2⟩ := rise_cons.1 hr
    rw [getL_cons] at h
    rw [doneB_cons, doneB_cons]
    by_cases a : y.1 = x
    · rw [if_pos a] at h
      obtain rfl := Option.some.inj h
      rw [doneB_cong (l := r) (left' := left) fun p hp => by
        have := h1 p hp
        rw [same_i, decide_eq_false (by omega)]; simp]
      rw [same_i, a, hl]
      simp; omega
    · rw [if_neg a] at h
      rw [doneB_step h2 h hl]
      rw [same_i, decide_eq_false a]
      simp; omega
theorem left_start {l : List (Int × SL)} (hr : Rise l) : ∀ p ∈ l, Maps.has (DM l) (.int .i64 p.1) = true := fun p hp => by
  obtain ⟨i, hi, e⟩ := List.mem_iff_getElem.1 hp
  rw [has_DM, getL_at hr (i := i) (by rw [List.getElem?_eq_getElem hi, e])]
  rfl
set_option maxRecDepth 100000 in
set_option maxHeartbeats 4000000 in
theorem bytes_c (m n : Nat) (l : List (Int × SL)) (w : World) (hr : Rise l) (h : w.ownsMap Try.prog 3 RS m n (DM l)) (hb : lens l ≤ 1000000000000) :
    Calls Try.prog 60 #[.map (some m)] w fun r w' => r = .returned (.int .i64 (lens l)) ∧ Below w.heap.size w w' := by
  have HR := Lib.hid hr
  have HL := Lib.hid hb
  clear hr hb
  have hml := h.lt
  go_enter Try.func60, Try.ntmps60
  go_wp2_with (at_range; refine wpList_range_own _ rfl _ 87 rfl 3 22 lawI Try.underlying87 _ m n _ rfl h ?_; intro w0 hrg0 hg0 hs0)
  go_frame
  have hB0 : Below w.heap.size w w0 := (Below.refl _ _).grown hg0 (Nat.le_refl _) (fun j hj => by cases hj)
  generalize hgr : w.heap.size = g at *
  go_loopw [3] (fun x wr => ∃ (left : Lit → Bool) (cnt : Nat), wr.ranges Try.prog 3 RS m g n (DM l) left cnt ∧ x = .int .i64 (doneB l left : Int) ∧ Below g w wr) (fun _ wr => wr.rangeLeft m g)
  case atStart => exact ⟨_, _, hrg0, by rw [doneB_all (left_start HR.out)]; rfl, hB0⟩
  case round =>
    obtain ⟨left, cnt, hrg, rfl, hnx⟩ := hrel
    go_wp2_with (at_next; refine wpList_next_ranges (α := Int) (β := SL) _ rfl _ rfl 3 lawI RS (Value.int .i64) slV (fun key kl hkey => by obtain ⟨x, rfl, _⟩ := Maps.keyOf_int_inv Try.underlying3 hkey; exact ⟨x, rfl⟩) (fun v y hv => by obtain ⟨c, rfl, _⟩ := RS_inv hv; exact ⟨c, rfl⟩) m g n _ _ _ rfl hrg ?_ ?_)
    · intro hc0 hl0
      go_wp2_with fail
      go_returns
      rw [doneB_none hl0]
      subst hgr
      exact ⟨rfl, hnx⟩
    · intro x sq sn sc kl y yp w1 cnt1 hkey hlx hv hat hrg1 hlt hg1 hs1 hen
      obtain ⟨x', ex, rfl, -⟩ := Maps.keyOf_int_inv Try.underlying3 hkey
      cases ex
      obtain ⟨s', es, ey⟩ := RS_inv hv
      obtain rfl : y = .held (sq, sn, sc) := by cases ey; obtain ⟨a, b, c⟩ := s'; simp only [slV, Value.slice.injEq] at es; obtain ⟨rfl, rfl, rfl⟩ := es; rfl
      have hgx : getL l x = some (sq, sn, sc) := by
        have := hat .nil
        rw [atKey_DM] at this
        cases hgl : getL l x with
        | none => rw [hgl] at this; cases this
        | some s => rw [hgl] at this; simp only [DataW.held.injEq] at this; rw [this]
      have hst : doneB l (fun z => left z && !z.sameKey (.int .i64 x)) = doneB l left + sn := doneB_step HR.out hgx hlx
      have hle := doneB_le (fun z => left z && !z.sameKey (.int .i64 x)) l
      have hll := HL.out
      have hi1 : -9223372036854775808 ≤ (doneB l left : Int) + (sn : Int) := by omega
      have hi2 : (doneB l left : Int) + (sn : Int) ≤ 9223372036854775807 := by omega
      have hB1 : Below g w w1 := hnx.grown hg1 (by rw [← hgr]; exact hnx.size) (fun j hj => by cases hj; exact Nat.le_refl _)
      have hrl : w1.rangeLeft m g < wr.rangeLeft m g := by rw [hrg1.left_eq, hrg.left_eq]; exact hlt
      have HH := Lib.hid (And.intro hrg1 (And.intro hst (And.intro hB1 hrl)))
      clear hrg hrg1 hst hle hll hB1 hrl hat hv hgx hkey hg1 hs1 hlt es ey hnx
      simp only [slV] at hen ⊢
      go_wp2_with fail
      exact ⟨⟨_, _, HH.out.1, by rw [HH.out.2.1]; rfl, HH.out.2.2.1⟩, HH.out.2.2.2⟩
end Go.Proofs.Ytkopenemoddbbaa

/- A disk that is new; that is asked; that is told to fail. -/
namespace Go.Proofs.Ytkopenemoddbbaa
open Go.RowKit Go.Maps
attribute [local go_sem] Oper.semAt_some

/-- Cells of the disk's own block were set. -/
theorem DiskAt.restore {w w' : World} {base d bm : Nat} {v : Value} {S S' : DS} {sv lv : List (Int × SL)} (h : DiskAt w base d bm v S sv lv) (k : Kept (fun b => b ≠ d) w w')
    (hb : Blk w' d 90 #[.int .i64 S'.room, .int .i64 S'.fails, .int .i64 S'.waits, .map (some bm), v]) (hs : S'.safe = S.safe) (hl : S'.l = S.l) : DiskAt w' base d bm v S' sv lv := by
  have hbyte : ∀ b, ByteBlk w base b → b ≠ d := fun b hB e => by
    subst e
    rcases hB with hB | ⟨cur, hB⟩
    · have := h.based; omega
    · have := blk_one hB h.blk; revert this; decide
  obtain ⟨g1, g2⟩ := h.gs.kept k hbyte
  obtain ⟨g3, g4⟩ := h.gl.kept k hbyte
  refine ⟨hb, map_kept h.map (k.block _ h.map.lt fun e => ?_), ⟨h.row.1, ?_⟩, h.based, h.basem, g1, g3, by rw [hs, g2]; exact h.safe, by rw [hl, g4]; exact h.l⟩
  · exact map_lt h.map _ _ _ (by rw [e]; exact h.blk)
  · rcases h.row.2 with h0 | ⟨g, cap, cur, hv, hbg, hg, r⟩
    · exact .inl h0
    · refine .inr ⟨g, cap, cur, hv, hbg, (k.block g (Array.getElem?_eq_some_iff.1 hg).1 fun e => ?_).trans hg, r⟩
      subst e
      have := blk_one (show Blk w g 92 cur from hg) h.blk
      revert this; decide
theorem kept_set {w : World} {d i : Nat} (u : Value) : Kept (fun b => b ≠ d) w (w.setCell ⟨d, i, none⟩ u) := (Kept.refl _ _).setCell (by simp) _
set_option maxRecDepth 100000 in
set_option maxHeartbeats 2000000 in
theorem failed_c (base d bm : Nat) (v : Value) (S : DS) (sv lv : List (Int × SL)) (w : World) (h : DiskAt w base d bm v S sv lv) (hw : S.waits = 0 ∨ S.waits = 1) (hf : 0 ≤ S.fails ∧ S.fails ≤ 9223372036854775807) :
    Calls Try.prog 58 #[.pointer (some ⟨d, 0, none⟩)] w fun r w' => r = .returned (.bool S.asked.2) ∧ DiskAt w' base d bm v S.asked.1 sv lv ∧ Kept (fun b => b ≠ d) w w' := by
  have d1 : w.cell? ⟨d, 1, none⟩ = some (.int .i64 S.fails) := h.blk.cell 1
  have d2 : w.cell? ⟨d, 2, none⟩ = some (.int .i64 S.waits) := h.blk.cell 2
  have f1 := h.blk.frz 1
  have f2 := h.blk.frz 2
  have h1 := h.blk.set_ 1 (.int .i64 (S.fails - 1))
  have h2 := h.blk.set_ 2 (.int .i64 0)
  have HD := Lib.hid h
  clear h
  rcases hw with hw | hw
  · rw [hw] at d2
    by_cases hp : 0 < S.fails
    · have ha : S.asked = ({ S with fails := S.fails - 1 }, true) := by unfold DS.asked; rw [if_neg (by omega), if_pos hp]
      rw [ha]
      go_enter Try.func58, Try.ntmps58
      go_wp2_with fail
      go_returns
      exact ⟨rfl, HD.out.restore (kept_set _) h1 rfl rfl, kept_set _⟩
    · have ha : S.asked = (S, false) := by unfold DS.asked; rw [if_neg (by omega), if_neg hp]
      rw [ha]
      go_enter Try.func58, Try.ntmps58
      go_wp2_with fail
      go_returns
      exact ⟨rfl, HD.out, Kept.refl _ _⟩
  · rw [hw] at d2
    have ha : S.asked = ({ S with waits := 0 }, false) := by unfold DS.asked; rw [if_pos (by omega)]
    rw [ha]
    go_enter Try.func58, Try.ntmps58
    go_wp2_with fail
    go_returns
    exact ⟨rfl, HD.out.restore (kept_set _) h2 rfl rfl, kept_set _⟩
def newS (R : Int) : DS := ⟨mnI (mxI R 0) 1048576, 0, 0, [], []⟩
theorem newS_ok (R : Int) : DOk (newS R) 0 0 := ⟨rise_nil, fun p hp => (by cases hp), Nat.le_refl _, fun p hp => (by cases hp), by unfold newS mnI mxI; dsimp only; omega, .inl rfl, by unfold newS; dsimp only; omega⟩
set_option maxRecDepth 100000 in
set_option maxHeartbeats 2000000 in
theorem new_c (R : Int) (base : Nat) (w : World) (hb : base ≤ w.heap.size) :
    Calls Try.prog 35 #[.int .i64 R] w fun r w' => ∃ d M, r = .returned (.pointer (some ⟨d, 0, none⟩)) ∧ DiskIs w' base M d (newS R) ∧ (∀ b, M b → w.heap.size ≤ b) ∧ Below w.heap.size w w' := by
  have hmn := @run_mn Try.prog
  have hmx := @run_mx Try.prog
  have hmm := @run_makeMap Try.prog
  go_enter Try.func35, Try.ntmps35
  go_wp2_with fail
  go_returns
  obtain ⟨W1, hW1⟩ : ∃ W1, W1 = w.alloc (.map #[] 0) := ⟨_, rfl⟩
  have hm : W1.ownsMap Try.prog 3 RS w.heap.size 0 (DM []) := by rw [hW1]; exact World.ownsMap_made _ _ _ _
  have hs1 : W1.heap.size = w.heap.size + 1 := by rw [hW1]; simp
  have hb1 : Below w.heap.size w W1 := by rw [hW1]; exact (Below.refl _ _).alloc (Nat.le_refl _) _
  rw [← hW1]
  refine ⟨_, _, rfl, ⟨w.heap.size, .slice none 0 0, [], [], ⟨Blk.new' hs1.symm, hm.alloc _, Owns.nil, by omega, hb, fun p hp => (by cases hp), fun p hp => (by cases hp), rfl, rfl⟩, fun b => Iff.rfl⟩, fun b hb => ?_, hb1.alloc hb1.size _⟩
  rcases hb with rfl | rfl | hb
  · omega
  · exact Nat.le_refl _
  · cases hb
end Go.Proofs.Ytkopenemoddbbaa

/- A region that draws its order, whose operations only read (calls: whatever keeps a class of worlds) but for THE LAST ONE, which comes up behind all others (a store, an append): one walk of the text's order serves every order. No program in sight. -/
namespace Go.Proofs.Ytkopenemoddbbaa
open Go.RowKit

section
variable {P : Program} {ops : Array Oper} {md : Region.Mode} {C : World → Prop}

/-- So many operations are to come ahead of the last one, number n. -/
def beforeLast (P : Program) (md : Region.Mode) (ops : Array Oper) (C : World → Prop) (n : Nat) (L : Act → Prop) : Nat → Array Bool → Act → Prop
  | 0, listed, a => Region.ready md ops listed = [n] ∧ Region.ready md ops (listed.setIfInBounds n true) = [] ∧ L a
  | f + 1, listed, a => n ∉ Region.ready md ops listed ∧ Region.ready md ops listed ≠ [] ∧ ∀ i ∈ Region.ready md ops listed, qOp P ops C i (beforeLast P md ops C n L f (listed.setIfInBounds i true)) a

theorem wpAny_of_beforeLast {n : Nat} {L : Act → Prop} {Q' : Exit → Act → World → Prop} (hL : ∀ a w, C w → L a → wpOp P ops Q' n (fun a w => Q' .normal a w) a w) :
    ∀ (f : Nat) (listed : Array Bool) (a : Act) (w : World), C w → beforeLast P md ops C n L f listed a → wpAny P md ops Q' (f + 1) listed a w := by
  intro f
  induction f with
  | zero =>
    intro listed a w hw h
    obtain ⟨h1, h2, h3⟩ := h
    refine ⟨fun h => (by rw [h1] at h; cases h), fun i hi => ?_⟩
    rw [h1] at hi
    obtain rfl : i = n := by simpa using hi
    exact wpOp_mono (K := fun a w => Q' .normal a w) (fun _ _ h' => ⟨h2, h'⟩) (hL a w hw h3)
  | succ f ih =>
    intro listed a w hw h
    obtain ⟨_, h1, h2⟩ := h
    exact ⟨fun h => absurd h h1, fun i hi => wpOp_of_qOp hw (fun a' w' hw' h' => ih _ a' w' hw' h') (h2 i hi)⟩

theorem beforeLast_first {n i : Nat} {oi : Oper} {v : Value} {L : Act → Prop} (hi : ops[i]? = some oi) (hwt : ∀ l', n ∈ Region.ready md ops l' → l'.getD i false = true) (hsel : ∀ (j : Nat) (o : Oper) cs b, ops[j]? = some o → o.op ≠ .select cs b) :
    ∀ (f : Nat) (listed : Array Bool) (a : Act),
      (∀ j oj, ops[j]? = some oj → j ≠ i → listed.getD j true = false → (∀ e ∈ oj.after, Region.binds md e = true → e.on ≠ i) → oi.apart ops oj = true) →
      i ∈ Region.ready md ops listed → n ∉ Region.ready md ops listed → YieldsIn P ops C oi v a →
      beforeLast P md ops C n L f (listed.setIfInBounds i true) (a.put oi.dst v) → beforeLast P md ops C n L (f + 1) listed a := by
  intro f
  induction f with
  | zero =>
    intro listed a _ hr hn hy H
    refine ⟨hn, fun h => (by rw [h] at hr; cases hr), fun j hj => ?_⟩
    by_cases hji : j = i
    · subst hji; exact hy.qOp hi H
    · have h1 := ready_mono hj hji
      rw [H.1] at h1
      obtain rfl : j = n := by simpa using h1
      exact absurd hj hn
  | succ f ih =>
    intro listed a hfree hr hn hy H
    refine ⟨hn, fun h => (by rw [h] at hr; cases hr), fun j hj => ?_⟩
    by_cases hji : j = i
    · subst hji; exact hy.qOp hi H
    · obtain ⟨hun, oj, hoj, hwait⟩ := mem_ready.1 hj
      have hun_i := (mem_ready.1 hr).1
      have hap : oi.apart ops oj = true := hfree j oj hoj hji hun fun e he hb heq => by
        have h2 := hwait e he hb
        rw [heq] at h2
        by_cases hs : i < listed.size <;> simp [hs] at hun_i h2
        rw [hun_i] at h2
        cases h2
      have hq := qOp_put hoj hap (fun cs b => hsel i oi cs b hi) (fun cs b => hsel j oj cs b hoj) hy (H.2.2 j (ready_mono hj hji))
      refine qOp_mono (fun a' h3 => ih (listed.setIfInBounds j true) a' ?_ (ready_mono hr (Ne.symm hji)) ?_ h3.1 ?_) hq
      · intro k ok hk hki hun' hno
        refine hfree k ok hk hki ?_ hno
        by_cases hjk : j = k
        · subst hjk; exact hun
        · rwa [getD_set_ne true hjk] at hun'
      · intro hn'
        have h5 := hwt _ hn'
        rw [getD_set_ne false hji] at h5
        have h6 := (mem_ready.1 hr).1
        by_cases hs : i < listed.size <;> simp [hs] at h5 h6
        rw [h6] at h5
        cases h5
      · rw [Array.setIfInBounds_comm _ _ hji]
        exact h3.2

/-- The last one waits for each of those ahead, which may be taken in the text's order. -/
def lastFrom (md : Region.Mode) (ops : Array Oper) (n : Nat) : Nat → Nat → Array Bool → Bool
  | 0, _, listed => decide (Region.ready md ops listed = [n]) && (Region.ready md ops (listed.setIfInBounds n true)).isEmpty
  | f + 1, k, listed => (Region.ready md ops listed).contains k && Region.free md ops listed k && !(Region.ready md ops listed).contains n &&
      (match ops[n]? with | some o => o.after.any (fun e => Region.binds md e && e.on == k) | none => false) && lastFrom md ops n f (k + 1) (listed.setIfInBounds k true)
def lastB (md : Region.Mode) (ops : Array Oper) (n : Nat) : Bool := Region.noSelect ops && lastFrom md ops n n 0 (Array.replicate ops.size false)

theorem beforeLast_lex {n : Nat} {L : Act → Prop} (hs : Region.noSelect ops = true) : ∀ (l : List Oper) (k : Nat) (listed : Array Bool) (a : Act), (∀ j, j < l.length → l[j]? = ops[k + j]?) →
    lastFrom md ops n l.length k listed = true → wpQuiet P ops C L l a → beforeLast P md ops C n L l.length listed a := by
  intro l
  induction l with
  | nil =>
    intro k listed a _ hB h
    simp only [List.length_nil, lastFrom, Bool.and_eq_true, decide_eq_true_eq, List.isEmpty_iff] at hB
    exact ⟨hB.1, hB.2, h⟩
  | cons o l ih =>
    intro k listed a hl hB h
    have h0 : ops[k]? = some o := by simpa using (hl 0 (by simp)).symm
    simp only [List.length_cons, lastFrom, Bool.and_eq_true, Bool.not_eq_true'] at hB
    obtain ⟨⟨⟨⟨hr, hf⟩, hn⟩, hw⟩, hB'⟩ := hB
    have hst : qOp P ops C k (wpQuiet P ops C L l) a := by unfold qOp; simp only [h0]; exact h
    obtain ⟨v, hy, hK⟩ := yieldsIn_of_qOp h0 hst
    refine beforeLast_first h0 (fun l' hn' => ?_) (Region.noSelect_spec hs) l.length listed a (Region.free_spec h0 hf) (by simpa using hr) (by simpa using hn) hy
      (ih (k + 1) _ _ (fun j hj => by have := hl (j + 1) (by simpa using hj); simpa [Nat.add_assoc, Nat.add_comm 1 j] using this) hB' hK)
    obtain ⟨_, oL, hoL, hall⟩ := mem_ready.1 hn'
    rw [hoL] at hw
    obtain ⟨e, he, hbe⟩ := Array.any_eq_true'.1 hw
    simp only [Bool.and_eq_true, beq_iff_eq] at hbe
    have := hall e he hbe.1
    rwa [hbe.2] at this

/-- THE LAW: all but the last one quiet in the class; the last one as it is carried out in whatever world of the class. -/
theorem wp_region_last {id : Nat} {Q : Exit → Act → World → Prop} {a : Act} {w : World} {l : List Oper} (n : Nat) (hm : P.follows .mixedOrders = true) (hlen : l.length = n + 1) (hB : lastB .any l.toArray n = true) (hC : C { w with drawn := w.drawn + 1 })
    (h : wpQuiet P l.toArray C (fun a' => ∀ w', C w' → wpList P l.toArray Q (l.drop n) a' w') (l.take n) a) : (Code.region id l.toArray true).wp P Q a w := by
  simp only [lastB, Bool.and_eq_true] at hB
  refine wp_region_any hm ?_
  have hsz : l.toArray.size = n + 1 := by simpa using hlen
  have ht : (l.take n).length = n := by simp; omega
  have hx := beforeLast_lex (C := C) (md := .any) (n := n) (L := fun a' => ∀ w', C w' → wpList P l.toArray Q (l.drop n) a' w') hB.1 (l.take n) 0 (Array.replicate l.toArray.size false) a
    (fun j hj => by simp only [Nat.zero_add, List.getElem?_toArray]; rw [List.getElem?_take_of_lt (by omega)]) (by rw [ht]; exact hB.2) h
  rw [ht] at hx
  rw [hsz] at hx ⊢
  refine wpAny_of_beforeLast (fun a w hw hL => ?_) n _ a _ hC hx
  have hd : l.drop n = [l[n]'(by omega)] := by
    rw [List.drop_eq_getElem_cons (by omega), List.drop_of_length_le (by omega)]
  have := hL w hw
  rw [hd] at this
  unfold wpOp
  simp only [List.getElem?_toArray, List.getElem?_eq_getElem (show n < l.length by omega)]
  exact this

theorem wp_region_last_below {id : Nat} {Q : Exit → Act → World → Prop} {a : Act} {w : World} {l : List Oper} (n : Nat) (hm : P.follows .mixedOrders = true) (hlen : l.length = n + 1) (hB : lastB .any l.toArray n = true)
    (h : wpQuiet P l.toArray (fun w' => ∃ p : Regrown, w' = Go.Sort.grow (redrawn w p.d) p.os) (fun a' => ∀ w', (∃ p : Regrown, w' = Go.Sort.grow (redrawn w p.d) p.os) → wpList P l.toArray Q (l.drop n) a' w') (l.take n) a) : (Code.region id l.toArray true).wp P Q a w :=
  wp_region_last (C := fun w' => ∃ p : Regrown, w' = Go.Sort.grow (redrawn w p.d) p.os) n hm hlen hB ⟨⟨w.drawn + 1, #[]⟩, by rw [Go.Sort.grow_empty]; rfl⟩ h
end
end Go.Proofs.Ytkopenemoddbbaa

/- A region that draws its order: calls that make only new memory, reads, ONE NEW VARIABLE that may be laid at any time, and a last operation behind all (x := f(..), x boxed): one walk of the text's order serves every order. No program in sight. -/
namespace Go.Proofs.Ytkopenemoddbbaa
open Go.RowKit

section
variable {P : Program} {ops : Array Oper} {md : Region.Mode} {C : World → Prop}

def Near (w w' : World) : Prop := Below w.heap.size w w'
/-- One value in every world of the class; of what was there nothing has turned. -/
def relAt (P : Program) (o : Oper) (a : Act) (w : World) (v : Value) : Prop := Oper.quietUpon P (fun w' => Near w w') w v ((execOp a.eval o).run P w)
def relOp (P : Program) (o : Oper) (a : Act) (C : World → Prop) (K : Act → Prop) : Prop := ∃ v, (∀ w, C w → relAt P o a w v) ∧ K (a.put o.dst v)
def rOp (P : Program) (ops : Array Oper) (C : World → Prop) (i : Nat) (K : Act → Prop) (a : Act) : Prop :=
  match ops[i]? with
  | none => K a
  | some o => if Region.wanted o (yielded ops a.tmps) then relOp P o a C K else K (a.put o.dst undef)
def wpRel (P : Program) (ops : Array Oper) (C : World → Prop) (Q : Act → Prop) : List Oper → Act → Prop
  | [], a => Q a
  | o :: rest, a => if Region.wanted o (yielded ops a.tmps) then relOp P o a C (wpRel P ops C Q rest) else wpRel P ops C Q rest (a.put o.dst undef)
theorem wpRel_nil {Q : Act → Prop} {a : Act} (h : Q a) : wpRel P ops C Q [] a := h
theorem wpRel_step {Q : Act → Prop} {a : Act} {o : Oper} {rest : List Oper}
    (h : ∀ K : Act → Prop, (∀ a, wpRel P ops C Q rest a → K a) → if Region.wanted o (yielded ops a.tmps) then relOp P o a C K else K (a.put o.dst undef)) : wpRel P ops C Q (o :: rest) a :=
  h _ (fun _ h => h)

theorem rOp_mono {i : Nat} {a : Act} {K K' : Act → Prop} (h : ∀ a, K a → K' a) (hh : rOp P ops C i K a) : rOp P ops C i K' a := by
  unfold rOp at *
  cases ho : ops[i]? with
  | none => rw [ho] at hh; exact h _ hh
  | some o =>
    rw [ho] at hh
    dsimp only at hh ⊢
    by_cases hw : Region.wanted o (yielded ops a.tmps) = true
    · rw [if_pos hw] at hh ⊢
      obtain ⟨v, h1, h2⟩ := hh
      exact ⟨v, h1, h _ h2⟩
    · rw [if_neg hw] at hh ⊢
      exact h _ hh
def Gives (P : Program) (ops : Array Oper) (C : World → Prop) (o : Oper) (v : Value) (a : Act) : Prop :=
  (Region.wanted o (yielded ops a.tmps) = true ∧ ∀ w, C w → relAt P o a w v) ∨ (Region.wanted o (yielded ops a.tmps) = false ∧ v = undef)
theorem Gives.rOp {i : Nat} {o : Oper} {v : Value} {a : Act} (hi : ops[i]? = some o) (hy : Gives P ops C o v a) {K : Act → Prop} (h : K (a.put o.dst v)) : rOp P ops C i K a := by
  unfold Go.Proofs.Ytkopenemoddbbaa.rOp
  rw [hi]
  dsimp only
  rcases hy with ⟨hw, hv⟩ | ⟨hw, rfl⟩
  · rw [if_pos hw]; exact ⟨v, hv, h⟩
  · rw [if_neg (by rw [hw]; decide)]; exact h
theorem gives_of_rOp {i : Nat} {o : Oper} {a : Act} {K : Act → Prop} (hi : ops[i]? = some o) (h : rOp P ops C i K a) : ∃ v, Gives P ops C o v a ∧ K (a.put o.dst v) := by
  unfold rOp at h
  rw [hi] at h
  dsimp only at h
  by_cases hw : Region.wanted o (yielded ops a.tmps) = true
  · rw [if_pos hw] at h
    obtain ⟨v, h1, h2⟩ := h
    exact ⟨v, .inl ⟨hw, h1⟩, h2⟩
  · rw [if_neg hw] at h
    exact ⟨undef, .inr ⟨by simpa using hw, rfl⟩, h⟩
/-- What an operation gives does not hang on a temporary that it does not look at. -/
theorem Gives.put_iff {oi oj : Oper} {u v : Value} {a : Act} (hi : ∀ cs b, oi.op ≠ .select cs b) (hap : oj.apart ops oi = true) : Gives P ops C oi v (a.put oj.dst u) ↔ Gives P ops C oi v a := by
  obtain ⟨h1, _, _⟩ := Oper.apart_spec hap
  unfold Gives relAt
  rw [execOp_put oi hi a oj.dst u h1, wanted_put oi a oj.dst u h1]
theorem rOp_put {j : Nat} {oi oj : Oper} {v : Value} (hj : ops[j]? = some oj) (hap : oi.apart ops oj = true) (hap' : oj.apart ops oi = true)
    (hsi : ∀ cs b, oi.op ≠ .select cs b) (hsj : ∀ cs b, oj.op ≠ .select cs b) {K : Act → Prop} {a : Act}
    (hy : Gives P ops C oi v a) (h : rOp P ops C j K (a.put oi.dst v)) : rOp P ops C j (fun a' => Gives P ops C oi v a' ∧ K (a'.put oi.dst v)) a := by
  obtain ⟨u, hu, hK⟩ := gives_of_rOp hj h
  have hu' := (Gives.put_iff hsj hap).1 hu
  refine Gives.rOp hj hu' ⟨(Gives.put_iff hsi hap').2 hy, ?_⟩
  obtain ⟨_, h2, _⟩ := Oper.apart_spec hap
  rw [← Act.put_comm a v u h2]
  exact hK

/-- So many operations are to come ahead of the last one, number n. -/
def beforeR (P : Program) (md : Region.Mode) (ops : Array Oper) (C : World → Prop) (n : Nat) (L : Act → Prop) : Nat → Array Bool → Act → Prop
  | 0, listed, a => Region.ready md ops listed = [n] ∧ Region.ready md ops (listed.setIfInBounds n true) = [] ∧ L a
  | f + 1, listed, a => n ∉ Region.ready md ops listed ∧ Region.ready md ops listed ≠ [] ∧ ∀ i ∈ Region.ready md ops listed, rOp P ops C i (beforeR P md ops C n L f (listed.setIfInBounds i true)) a

theorem apart_symm {ops : Array Oper} {x y : Oper} (h : x.apart ops y = true) (hd : ∀ d, y.dst = some d → x.dst ≠ some d) : y.apart ops x = true := by
  obtain ⟨h1, _, h3⟩ := Oper.apart_spec h
  unfold Oper.apart
  have e1 : (match y.dst with | some d => !(x.looksAt ops).contains d && x.dst != some d | none => true) = true := by
    cases hy : y.dst with
    | none => rfl
    | some d => simp [h3 d hy, hd d hy]
  have e2 : (match x.dst with | some d => !(y.looksAt ops).contains d | none => true) = true := by
    cases hx : x.dst with
    | none => rfl
    | some d => simp [h1 d hx]
  exact Bool.and_eq_true_iff.2 ⟨e1, e2⟩
theorem apart_swap {ops : Array Oper} {x y : Oper} (h : x.apart ops y = true) : y.apart ops x = true :=
  apart_symm h fun d hy hx => (Oper.apart_spec h).2.1 d hx hy

theorem beforeR_first {n i : Nat} {oi : Oper} {v : Value} {L : Act → Prop} (hi : ops[i]? = some oi) (hwt : ∀ l', n ∈ Region.ready md ops l' → l'.getD i false = true) (hsel : ∀ (j : Nat) (o : Oper) cs b, ops[j]? = some o → o.op ≠ .select cs b) :
    ∀ (f : Nat) (listed : Array Bool) (a : Act),
      (∀ j oj, ops[j]? = some oj → j ≠ i → listed.getD j true = false → (∀ e ∈ oj.after, Region.binds md e = true → e.on ≠ i) → oi.apart ops oj = true) →
      i ∈ Region.ready md ops listed → n ∉ Region.ready md ops listed → Gives P ops C oi v a →
      beforeR P md ops C n L f (listed.setIfInBounds i true) (a.put oi.dst v) → beforeR P md ops C n L (f + 1) listed a := by
  intro f
  induction f with
  | zero =>
    intro listed a _ hr hn hy H
    refine ⟨hn, fun h => (by rw [h] at hr; cases hr), fun j hj => ?_⟩
    by_cases hji : j = i
    · subst hji; exact hy.rOp hi H
    · have h1 := ready_mono hj hji
      rw [H.1] at h1
      obtain rfl : j = n := by simpa using h1
      exact absurd hj hn
  | succ f ih =>
    intro listed a hfree hr hn hy H
    refine ⟨hn, fun h => (by rw [h] at hr; cases hr), fun j hj => ?_⟩
    by_cases hji : j = i
    · subst hji; exact hy.rOp hi H
    · obtain ⟨hun, oj, hoj, hwait⟩ := mem_ready.1 hj
      have hun_i := (mem_ready.1 hr).1
      have hap : oi.apart ops oj = true := hfree j oj hoj hji hun fun e he hb heq => by
        have h2 := hwait e he hb
        rw [heq] at h2
        by_cases hs : i < listed.size <;> simp [hs] at hun_i h2
        rw [hun_i] at h2
        cases h2
      have hq := rOp_put hoj hap (apart_swap hap) (fun cs b => hsel i oi cs b hi) (fun cs b => hsel j oj cs b hoj) hy (H.2.2 j (ready_mono hj hji))
      refine rOp_mono (fun a' h3 => ih (listed.setIfInBounds j true) a' ?_ (ready_mono hr (Ne.symm hji)) ?_ h3.1 ?_) hq
      · intro k ok hk hki hun' hno
        refine hfree k ok hk hki ?_ hno
        by_cases hjk : j = k
        · subst hjk; exact hun
        · rwa [getD_set_ne true hjk] at hun'
      · intro hn'
        have h5 := hwt _ hn'
        rw [getD_set_ne false hji] at h5
        have h6 := (mem_ready.1 hr).1
        by_cases hs : i < listed.size <;> simp [hs] at h5 h6
        rw [h6] at h5
        cases h5
      · rw [Array.setIfInBounds_comm _ _ hji]
        exact h3.2

theorem beforeR_lex {n : Nat} {L : Act → Prop} (hs : Region.noSelect ops = true) : ∀ (l : List Oper) (k : Nat) (listed : Array Bool) (a : Act), (∀ j, j < l.length → l[j]? = ops[k + j]?) →
    lastFrom md ops n l.length k listed = true → wpRel P ops C L l a → beforeR P md ops C n L l.length listed a := by
  intro l
  induction l with
  | nil =>
    intro k listed a _ hB h
    simp only [List.length_nil, lastFrom, Bool.and_eq_true, decide_eq_true_eq, List.isEmpty_iff] at hB
    exact ⟨hB.1, hB.2, h⟩
  | cons o l ih =>
    intro k listed a hl hB h
    have h0 : ops[k]? = some o := by simpa using (hl 0 (by simp)).symm
    simp only [List.length_cons, lastFrom, Bool.and_eq_true, Bool.not_eq_true'] at hB
    obtain ⟨⟨⟨⟨hr, hf⟩, hn⟩, hw⟩, hB'⟩ := hB
    have hst : rOp P ops C k (wpRel P ops C L l) a := by unfold rOp; rw [h0]; exact h
    obtain ⟨v, hy, hK⟩ := gives_of_rOp h0 hst
    refine beforeR_first h0 (fun l' hn' => ?_) (Region.noSelect_spec hs) l.length listed a (Region.free_spec h0 hf) (by simpa using hr) (by simpa using hn) hy
      (ih (k + 1) _ _ (fun j hj => by have := hl (j + 1) (by simpa using hj); simpa [Nat.add_assoc, Nat.add_comm 1 j] using this) hB' hK)
    obtain ⟨_, oL, hoL, hall⟩ := mem_ready.1 hn'
    rw [hoL] at hw
    obtain ⟨e, he, hbe⟩ := Array.any_eq_true'.1 hw
    simp only [Bool.and_eq_true, beq_iff_eq] at hbe
    have := hall e he hbe.1
    rwa [hbe.2] at this

/-- Carried out: from a world of the class, of which S holds, to one of which both hold. -/
theorem wp_of_relAt {o : Oper} {a : Act} {w : World} {v : Value} {K : Act → World → Prop} {Q' : Exit → Act → World → Prop} (h : relAt P o a w v) (hk : ∀ w', Below w.heap.size w w' → K (a.put o.dst v) w') : o.wp P a w K Q' := by
  unfold relAt at h
  unfold Oper.wp
  generalize (execOp a.eval o).run P w = r at *
  cases r with
  | ok nx w' =>
    cases nx <;> simp only [Oper.quietUpon] at h <;> simp only [Oper.upon]
    case value u =>
      obtain ⟨e1, e2⟩ := h
      rw [e1, e2]
      exact hk _ (Below.refl _ _)
    case skip =>
      obtain ⟨e1, e2⟩ := h
      rw [e1, ← e2]
      exact hk _ (Below.refl _ _)
    case enter f args =>
      obtain ⟨e1, hc⟩ := h
      rw [e1]
      exact hc.mono fun e w'' ⟨he, hw''⟩ => by subst he; exact hk _ hw''
  | halt x w' => simp only [Oper.quietUpon] at h

/-- Behind the new variable: what is carried out is carried out with its pointer in its temporary. -/
theorem wpAny_of_beforeR {n m : Nat} {oA : Oper} {d : Tmp} {p : Value} {L : Act → Prop} {S : World → Prop} {Q' : Exit → Act → World → Prop} (hd : oA.dst = some d)
    (hC : ∀ w w', C w → Below w.heap.size w w' → C w') (hS : ∀ w w', S w → Below w.heap.size w w' → S w')
    (hap : ∀ (i : Nat) (o : Oper), ops[i]? = some o → i ≠ m → i ≠ n → oA.apart ops o = true) (hsel : ∀ (j : Nat) (o : Oper) cs b, ops[j]? = some o → o.op ≠ .select cs b)
    (hL : ∀ a w, C w → S w → L a → wpOp P ops Q' n (fun a w => Q' .normal a w) (a.put (some d) p) w) :
    ∀ (f : Nat) (listed : Array Bool) (a : Act) (w : World), C w → S w → listed.getD m true = true → beforeR P md ops C n L f listed a → wpAny P md ops Q' (f + 1) listed (a.put (some d) p) w := by
  intro f
  induction f with
  | zero =>
    intro listed a w hw hs _ h
    obtain ⟨h1, h2, h3⟩ := h
    refine ⟨fun h => (by rw [h1] at h; cases h), fun i hi => ?_⟩
    rw [h1] at hi
    obtain rfl : i = n := by simpa using hi
    exact wpOp_mono (K := fun a w => Q' .normal a w) (fun _ _ h' => ⟨h2, h'⟩) (hL a w hw hs h3)
  | succ f ih =>
    intro listed a w hw hs hm h
    obtain ⟨hn, h1, h2⟩ := h
    refine ⟨fun h => absurd h h1, fun i hi => ?_⟩
    obtain ⟨hun, o, ho, _⟩ := mem_ready.1 hi
    have him : i ≠ m := fun e => by rw [e, hm] at hun; cases hun
    have hin : i ≠ n := fun e => hn (e ▸ hi)
    obtain ⟨v, hy, hK⟩ := gives_of_rOp ho (h2 i hi)
    have ha := hap i o ho him hin
    have hdd : o.dst ≠ some d := (Oper.apart_spec ha).2.1 d hd
    have hcomm : (a.put (some d) p).put o.dst v = (a.put o.dst v).put (some d) p := Act.put_comm a p v fun d' hd' => by
      cases hd'; exact hdd
    have hm' : (listed.setIfInBounds i true).getD m true = true := by rw [getD_set_ne true him]; exact hm
    have hy' : Gives P ops C o v (a.put (some d) p) := by rw [← hd]; exact (Gives.put_iff (fun cs b => hsel i o cs b ho) ha).2 hy
    unfold wpOp
    rw [ho]
    dsimp only
    rcases hy' with ⟨hwn, hv⟩ | ⟨hwn, rfl⟩
    · rw [if_pos hwn]
      refine .inl (wp_of_relAt (hv w hw) fun w' hb => ?_)
      rw [hcomm]
      exact ih _ _ _ (hC w w' hw hb) (hS w w' hs hb) hm' hK
    · rw [if_neg (by rw [hwn]; decide), hcomm]
      exact ih _ _ _ hw hs hm' hK

/-- Whatever comes first. -/
theorem wpAny_of_float {n m : Nat} {oA : Oper} {d : Tmp} {t : TypeId} {z : Array Value} {B : Nat} {L : Act → Prop} {Q' : Exit → Act → World → Prop} (hA : ops[m]? = some oA) (hd : oA.dst = some d) (hg : oA.guard = none) (haf : oA.after = #[])
    (hrun : ∀ (a : Act) (w : World), (execOp a.eval oA).run P w = .ok (.value (.pointer (some ⟨w.heap.size, 0, none⟩))) (w.alloc (.cells z t)))
    (hwt : ∀ l', n ∈ Region.ready md ops l' → l'.getD m false = true)
    (hC : ∀ w w', C w → Below w.heap.size w w' → C w') (hB : ∀ w, C w → B ≤ w.heap.size)
    (hap : ∀ (i : Nat) (o : Oper), ops[i]? = some o → i ≠ m → i ≠ n → oA.apart ops o = true) (hsel : ∀ (j : Nat) (o : Oper) cs b, ops[j]? = some o → o.op ≠ .select cs b)
    (hL : ∀ a b w, C w → Blk w b t z → B ≤ b → L a → wpOp P ops Q' n (fun a w => Q' .normal a w) (a.put (some d) (.pointer (some ⟨b, 0, none⟩))) w) :
    ∀ (f : Nat) (listed : Array Bool) (a : Act) (w : World), C w → listed.getD m true = false → beforeR P md ops C n L f (listed.setIfInBounds m true) a → wpAny P md ops Q' (f + 2) listed a w := by
  have hmr : ∀ listed : Array Bool, listed.getD m true = false → m ∈ Region.ready md ops listed := fun listed h =>
    mem_ready.2 ⟨h, oA, hA, fun e he => by rw [haf] at he; cases he with | mk h => cases h⟩
  have hin : ∀ listed : Array Bool, listed.getD m true = false → (listed.setIfInBounds m true).getD m true = true := fun listed h => by
    by_cases hs : m < listed.size
    · simp [hs]
    · simp [hs] at h
  have main : ∀ (f : Nat) (listed : Array Bool) (a : Act) (w : World), C w → listed.getD m true = false → beforeR P md ops C n L f (listed.setIfInBounds m true) a → wpOp P ops Q' m (wpAny P md ops Q' (f + 1) (listed.setIfInBounds m true)) a w := by
    intro f listed a w hw hm h
    unfold wpOp
    rw [hA]
    dsimp only
    rw [if_pos (by simp [Region.wanted, hg])]
    left
    unfold Oper.wp
    rw [hrun a w]
    simp only [Oper.upon]
    rw [hd]
    exact wpAny_of_beforeR (S := fun w' => Blk w' w.heap.size t z) hd hC (fun w1 w2 h1 h2 => h1.on h2) hap hsel (fun a' w' hw' hs' hl' => hL a' _ w' hw' hs' (hB w hw) hl') f _ a _
      (hC _ _ hw ((Below.refl _ _).alloc (Nat.le_refl _) _)) (Blk.new w t z) (hin listed hm) h
  intro f
  induction f with
  | zero =>
    intro listed a w hw hm h
    refine ⟨fun he => (by have := hmr listed hm; rw [he] at this; cases this), fun i hi => ?_⟩
    by_cases him : i = m
    · subst him; exact main 0 listed a w hw hm h
    · have h1 := ready_mono hi him
      rw [h.1] at h1
      obtain rfl : i = n := by simpa using h1
      have h2 := hwt _ hi
      by_cases hs : m < listed.size <;> simp [hs] at hm h2
      rw [hm] at h2; cases h2
  | succ f ih =>
    intro listed a w hw hm h
    refine ⟨fun he => (by have := hmr listed hm; rw [he] at this; cases this), fun i hi => ?_⟩
    by_cases him : i = m
    · subst him; exact main (f + 1) listed a w hw hm h
    · obtain ⟨_, o, ho, _⟩ := mem_ready.1 hi
      obtain ⟨v, hy, hK⟩ := gives_of_rOp ho (h.2.2 i (ready_mono hi him))
      have hm' : (listed.setIfInBounds i true).getD m true = false := by rw [getD_set_ne true him]; exact hm
      rw [Array.setIfInBounds_comm _ _ (Ne.symm him)] at hK
      unfold wpOp
      rw [ho]
      dsimp only
      rcases hy with ⟨hwn, hv⟩ | ⟨hwn, rfl⟩
      · rw [if_pos hwn]
        exact .inl (wp_of_relAt (hv w hw) fun w' hb => ih _ _ _ (hC w w' hw hb) hm' hK)
      · rw [if_neg (by rw [hwn]; decide)]
        exact ih _ _ _ hw hm' hK

/-- All that is asked of the region, by reckoning: k operations ahead, then the new variable (temporary d), then the last one. -/
def floatB (md : Region.Mode) (ops : Array Oper) (k : Nat) (d : Tmp) : Bool :=
  Region.noSelect ops && lastFrom md ops (k + 1) k 0 ((Array.replicate ops.size false).setIfInBounds k true) &&
  (match ops[k]? with
   | some oA => (oA.dst == some d) && oA.guard.isNone && oA.after.isEmpty && ((List.range ops.size).all fun i => i == k || i == k + 1 || match ops[i]? with | some o => oA.apart ops o | none => true)
   | none => false) &&
  (match ops[k + 1]? with | some o => o.after.any (fun e => Region.binds md e && e.on == k) | none => false)

theorem wp_region_float {id : Nat} {Q : Exit → Act → World → Prop} {a : Act} {w : World} {l : List Oper} {oA : Oper} {t : TypeId} {z : Array Value} (k : Nat) (d : Tmp) (hm : P.follows .mixedOrders = true) (hlen : l.length = k + 2) (hB : floatB .any l.toArray k d = true)
    (hA : l[k]? = some oA) (hrun : ∀ (a : Act) (w : World), (execOp a.eval oA).run P w = .ok (.value (.pointer (some ⟨w.heap.size, 0, none⟩))) (w.alloc (.cells z t)))
    (h : wpRel P l.toArray (fun w' => ∃ p : Regrown, w' = Go.Sort.grow (redrawn w p.d) p.os) (fun a' => ∀ b w', Below w.heap.size w w' → Blk w' b t z → w.heap.size ≤ b → wpList P l.toArray Q (l.drop (k + 1)) (a'.put (some d) (.pointer (some ⟨b, 0, none⟩))) w') (l.take k) a) : (Code.region id l.toArray true).wp P Q a w := by
  simp only [floatB, Bool.and_eq_true] at hB
  obtain ⟨⟨⟨b1, b2⟩, b3⟩, b4⟩ := hB
  have hA' : l.toArray[k]? = some oA := by simpa using hA
  rw [hA'] at b3
  simp only [Bool.and_eq_true, beq_iff_eq, Option.isNone_iff_eq_none, Array.isEmpty_iff] at b3
  obtain ⟨⟨⟨hd, hg⟩, haf⟩, hap⟩ := b3
  refine wp_region_any hm ?_
  have hsz : l.toArray.size = k + 2 := by simpa using hlen
  have ht : (l.take k).length = k := by simp; omega
  have hx := beforeR_lex (C := fun w' => ∃ p : Regrown, w' = Go.Sort.grow (redrawn w p.d) p.os) (md := .any) (n := k + 1) b1 (l.take k) 0 ((Array.replicate l.toArray.size false).setIfInBounds k true) a
    (fun j hj => by simp only [Nat.zero_add, List.getElem?_toArray]; rw [List.getElem?_take_of_lt (by omega)]) (by rw [ht]; exact b2) h
  rw [ht] at hx
  rw [hsz] at hx ⊢
  have cb : ∀ w' : World, (∃ p : Regrown, w' = Go.Sort.grow (redrawn w p.d) p.os) → Below w.heap.size w w' := by rintro _ ⟨p, rfl⟩; exact below_regrown w p.d p.os
  refine wpAny_of_float (m := k) (B := w.heap.size) hA' hd hg haf hrun (fun l' hn' => ?_) (fun w1 w2 h1 h2 => regrown_of_below (after (cb w1 h1) h2)) (fun w1 h1 => (cb w1 h1).size) (fun i o ho h1 h2 => ?_) (Region.noSelect_spec b1) (fun a' b w' hw' hs' hb' hL => ?_) k _ a _ ?_ ?_ hx
  · obtain ⟨_, oL, hoL, hall⟩ := mem_ready.1 hn'
    rw [hoL] at b4
    obtain ⟨e, he, hbe⟩ := Array.any_eq_true'.1 b4
    simp only [Bool.and_eq_true, beq_iff_eq] at hbe
    have := hall e he hbe.1
    rwa [hbe.2] at this
  · have hi : i < l.toArray.size := (Array.getElem?_eq_some_iff.1 ho).1
    have h3 := List.all_eq_true.1 hap i (List.mem_range.2 hi)
    rw [ho] at h3
    simp only [Bool.or_eq_true, beq_iff_eq] at h3
    rcases h3 with (h3 | h3) | h3
    · exact absurd h3 h1
    · exact absurd h3 h2
    · exact h3
  · have h4 := hL b w' (cb w' hw') hs' hb'
    have hdr : l.drop (k + 1) = [l[k + 1]'(by omega)] := by
      rw [List.drop_eq_getElem_cons (by omega), List.drop_of_length_le (by omega)]
    rw [hdr] at h4
    unfold wpOp
    simp only [List.getElem?_toArray, List.getElem?_eq_getElem (show k + 1 < l.length by omega)]
    exact h4
  · exact ⟨⟨w.drawn + 1, #[]⟩, by rw [Go.Sort.grow_empty]; rfl⟩
  · simp
end
attribute [go_sem] relOp relAt
/-! ### behind the last store of a way -/
section
variable {w w0 W W' : World} {g b : Nat} {t : TypeId} {cs : Array Value}
theorem Blk.put3 {x y z u v r : Value} (h : Blk W b t #[x, y, z]) (hW : W' = ((W.setCell ⟨b, 0, none⟩ u).setCell ⟨b, 1, none⟩ v).setCell ⟨b, 2, none⟩ r) : Blk W' b t #[u, v, r] := by rw [hW]; exact h.st3 u v r
theorem Blk.far3 {u v r : Value} (h : Blk w g t cs) (hb : Below w.heap.size w W) (hle : w.heap.size ≤ b) (hW : W' = ((W.setCell ⟨b, 0, none⟩ u).setCell ⟨b, 1, none⟩ v).setCell ⟨b, 2, none⟩ r) : Blk W' g t cs := by
  have hn : g ≠ b := by have := h.lt; omega
  rw [hW]; exact (((h.on hb).far hn u).far hn v).far hn r
theorem far_below3 {u v r : Value} (h : Below w0.heap.size w0 w) (hb : Below w.heap.size w W) (hle : w.heap.size ≤ b) (hW : W' = ((W.setCell ⟨b, 0, none⟩ u).setCell ⟨b, 1, none⟩ v).setCell ⟨b, 2, none⟩ r) : Below w0.heap.size w0 W' := by
  have hs : w0.heap.size ≤ b := Nat.le_trans h.size hle
  rw [hW]; exact ((((after h hb).setCell (p := ⟨b, 0, none⟩) hs u).setCell (p := ⟨b, 1, none⟩) hs v).setCell (p := ⟨b, 2, none⟩) hs r)
theorem Blk.put6 {x y z x' y' z' u v r k l m : Value} (h : Blk W b t #[x, y, z, x', y', z']) (hW : W' = (((((W.setCell ⟨b, 0, none⟩ u).setCell ⟨b, 1, none⟩ v).setCell ⟨b, 2, none⟩ r).setCell ⟨b, 3, none⟩ k).setCell ⟨b, 4, none⟩ l).setCell ⟨b, 5, none⟩ m) : Blk W' b t #[u, v, r, k, l, m] := by rw [hW]; exact h.st6 u v r k l m
theorem Blk.far6 {u v r k l m : Value} (h : Blk w g t cs) (hb : Below w.heap.size w W) (hle : w.heap.size ≤ b) (hW : W' = (((((W.setCell ⟨b, 0, none⟩ u).setCell ⟨b, 1, none⟩ v).setCell ⟨b, 2, none⟩ r).setCell ⟨b, 3, none⟩ k).setCell ⟨b, 4, none⟩ l).setCell ⟨b, 5, none⟩ m) : Blk W' g t cs := by
  have hn : g ≠ b := by have := h.lt; omega
  rw [hW]; exact ((((((h.on hb).far hn u).far hn v).far hn r).far hn k).far hn l).far hn m
theorem far_below6 {u v r k l m : Value} (h : Below w0.heap.size w0 w) (hb : Below w.heap.size w W) (hle : w.heap.size ≤ b) (hW : W' = (((((W.setCell ⟨b, 0, none⟩ u).setCell ⟨b, 1, none⟩ v).setCell ⟨b, 2, none⟩ r).setCell ⟨b, 3, none⟩ k).setCell ⟨b, 4, none⟩ l).setCell ⟨b, 5, none⟩ m) : Below w0.heap.size w0 W' := by
  have hs : w0.heap.size ≤ b := Nat.le_trans h.size hle
  rw [hW]; exact (((((((after h hb).setCell (p := ⟨b, 0, none⟩) hs u).setCell (p := ⟨b, 1, none⟩) hs v).setCell (p := ⟨b, 2, none⟩) hs r).setCell (p := ⟨b, 3, none⟩) hs k).setCell (p := ⟨b, 4, none⟩) hs l).setCell (p := ⟨b, 5, none⟩) hs m)
end
end Go.Proofs.Ytkopenemoddbbaa

/- A region that draws its order: reads and calls that make only new memory; then, if so wished, one operation whose value is told by a relation alone (a new variable, a new row, a call that hands back new memory), which may come up at any time; then a forced tail. One walk of the text's order serves every order, in a function's own frame and in a round's. No program in sight. -/
namespace Go.Proofs.Ytkopenemoddbbaa
open Go.RowKit

section
variable {P : Program} {ops : Array Oper} {md : Region.Mode} {C : World → Prop}

/-- From number k on each operation waits for all ahead of it. -/
def tailFrom (md : Region.Mode) (ops : Array Oper) : Nat → Nat → Array Bool → Bool
  | 0, _, listed => (Region.ready md ops listed).isEmpty
  | f + 1, k, listed => decide (Region.ready md ops listed = [k]) && tailFrom md ops f (k + 1) (listed.setIfInBounds k true)
theorem wpAny_of_tail {Q : Exit → Act → World → Prop} : ∀ (l : List Oper) (k : Nat) (listed : Array Bool) (a : Act) (w : World), (∀ j, j < l.length → l[j]? = ops[k + j]?) → tailFrom md ops l.length k listed = true → wpList P ops Q l a w →
    wpAny P md ops Q l.length listed a w := by
  intro l
  induction l with
  | nil =>
    intro k listed a w _ hB h
    simp only [List.length_nil, tailFrom, List.isEmpty_iff] at hB
    exact ⟨hB, h⟩
  | cons o l ih =>
    intro k listed a w hl hB h
    have h0 : ops[k]? = some o := by simpa using (hl 0 (by simp)).symm
    simp only [List.length_cons, tailFrom, Bool.and_eq_true, decide_eq_true_eq] at hB
    refine ⟨fun he => (by rw [hB.1] at he; cases he), fun i hi => ?_⟩
    rw [hB.1] at hi
    obtain rfl : i = k := by simpa using hi
    refine wpOp_mono (K := wpList P ops Q l) (fun a w h' => ih (i + 1) _ a w (fun j hj => by have := hl (j + 1) (by simpa using hj); simpa [Nat.add_assoc, Nat.add_comm 1 j] using this) hB.2 h') ?_
    unfold wpOp
    rw [h0]
    exact h

/-- So many operations are to come ahead of the tail (from number n on). -/
def beforeT (P : Program) (md : Region.Mode) (ops : Array Oper) (C : World → Prop) (n s : Nat) (L : Act → Prop) : Nat → Array Bool → Act → Prop
  | 0, listed, a => tailFrom md ops s n listed = true ∧ L a
  | f + 1, listed, a => n ∉ Region.ready md ops listed ∧ Region.ready md ops listed ≠ [] ∧ ∀ i ∈ Region.ready md ops listed, rOp P ops C i (beforeT P md ops C n s L f (listed.setIfInBounds i true)) a
theorem tail_ready {n s : Nat} {listed : Array Bool} (h : tailFrom md ops s n listed = true) {j : Nat} (hj : j ∈ Region.ready md ops listed) : j = n := by
  cases s with
  | zero =>
    simp only [tailFrom, List.isEmpty_iff] at h
    rw [h] at hj; cases hj
  | succ s =>
    simp only [tailFrom, Bool.and_eq_true, decide_eq_true_eq] at h
    rw [h.1] at hj
    simpa using hj

theorem beforeT_first {n s i : Nat} {oi : Oper} {v : Value} {L : Act → Prop} (hi : ops[i]? = some oi) (hwt : ∀ l', n ∈ Region.ready md ops l' → l'.getD i false = true) (hsel : ∀ (j : Nat) (o : Oper) cs b, ops[j]? = some o → o.op ≠ .select cs b) :
    ∀ (f : Nat) (listed : Array Bool) (a : Act),
      (∀ j oj, ops[j]? = some oj → j ≠ i → listed.getD j true = false → (∀ e ∈ oj.after, Region.binds md e = true → e.on ≠ i) → oi.apart ops oj = true) →
      i ∈ Region.ready md ops listed → n ∉ Region.ready md ops listed → Gives P ops C oi v a →
      beforeT P md ops C n s L f (listed.setIfInBounds i true) (a.put oi.dst v) → beforeT P md ops C n s L (f + 1) listed a := by
  intro f
  induction f with
  | zero =>
    intro listed a _ hr hn hy H
    refine ⟨hn, fun h => (by rw [h] at hr; cases hr), fun j hj => ?_⟩
    by_cases hji : j = i
    · subst hji; exact hy.rOp hi H
    · have h1 := ready_mono hj hji
      obtain rfl : j = n := tail_ready H.1 h1
      exact absurd hj hn
  | succ f ih =>
    intro listed a hfree hr hn hy H
    refine ⟨hn, fun h => (by rw [h] at hr; cases hr), fun j hj => ?_⟩
    by_cases hji : j = i
    · subst hji; exact hy.rOp hi H
    · obtain ⟨hun, oj, hoj, hwait⟩ := mem_ready.1 hj
      have hun_i := (mem_ready.1 hr).1
      have hap : oi.apart ops oj = true := hfree j oj hoj hji hun fun e he hb heq => by
        have h2 := hwait e he hb
        rw [heq] at h2
        by_cases hs : i < listed.size <;> simp [hs] at hun_i h2
        rw [hun_i] at h2
        cases h2
      have hq := rOp_put hoj hap (apart_swap hap) (fun cs b => hsel i oi cs b hi) (fun cs b => hsel j oj cs b hoj) hy (H.2.2 j (ready_mono hj hji))
      refine rOp_mono (fun a' h3 => ih (listed.setIfInBounds j true) a' ?_ (ready_mono hr (Ne.symm hji)) ?_ h3.1 ?_) hq
      · intro k ok hk hki hun' hno
        refine hfree k ok hk hki ?_ hno
        by_cases hjk : j = k
        · subst hjk; exact hun
        · rwa [getD_set_ne true hjk] at hun'
      · intro hn'
        have h5 := hwt _ hn'
        rw [getD_set_ne false hji] at h5
        have h6 := (mem_ready.1 hr).1
        by_cases hs : i < listed.size <;> simp [hs] at h5 h6
        rw [h6] at h5
        cases h5
      · rw [Array.setIfInBounds_comm _ _ hji]
        exact h3.2

/-- k operations in the text's order, none of which the tail comes ahead of; then the tail. -/
def quietFrom (md : Region.Mode) (ops : Array Oper) (n s : Nat) : Nat → Nat → Array Bool → Bool
  | 0, _, listed => tailFrom md ops s n listed
  | f + 1, k, listed => (Region.ready md ops listed).contains k && Region.free md ops listed k && !(Region.ready md ops listed).contains n &&
      (match ops[n]? with | some o => o.after.any (fun e => Region.binds md e && e.on == k) | none => true) && quietFrom md ops n s f (k + 1) (listed.setIfInBounds k true)
theorem beforeT_lex {n s : Nat} {L : Act → Prop} (hs : Region.noSelect ops = true) : ∀ (l : List Oper) (k : Nat) (listed : Array Bool) (a : Act), (∀ j, j < l.length → l[j]? = ops[k + j]?) →
    quietFrom md ops n s l.length k listed = true → wpRel P ops C L l a → beforeT P md ops C n s L l.length listed a := by
  intro l
  induction l with
  | nil =>
    intro k listed a _ hB h
    exact ⟨hB, h⟩
  | cons o l ih =>
    intro k listed a hl hB h
    have h0 : ops[k]? = some o := by simpa using (hl 0 (by simp)).symm
    simp only [List.length_cons, quietFrom, Bool.and_eq_true, Bool.not_eq_true'] at hB
    obtain ⟨⟨⟨⟨hr, hf⟩, hn⟩, hw⟩, hB'⟩ := hB
    have hst : rOp P ops C k (wpRel P ops C L l) a := by unfold rOp; rw [h0]; exact h
    obtain ⟨v, hy, hK⟩ := gives_of_rOp h0 hst
    refine beforeT_first h0 (fun l' hn' => ?_) (Region.noSelect_spec hs) l.length listed a (Region.free_spec h0 hf) (by simpa using hr) (by simpa using hn) hy
      (ih (k + 1) _ _ (fun j hj => by have := hl (j + 1) (by simpa using hj); simpa [Nat.add_assoc, Nat.add_comm 1 j] using this) hB' hK)
    obtain ⟨_, oL, hoL, hall⟩ := mem_ready.1 hn'
    rw [hoL] at hw
    obtain ⟨e, he, hbe⟩ := Array.any_eq_true'.1 hw
    simp only [Bool.and_eq_true, beq_iff_eq] at hbe
    have := hall e he hbe.1
    rwa [hbe.2] at this

/-- Carried out. -/
theorem wpAny_of_beforeT {n s : Nat} {L : Act → Prop} {Q' : Exit → Act → World → Prop} (hC : ∀ w w', C w → Below w.heap.size w w' → C w')
    (hL : ∀ listed a w, tailFrom md ops s n listed = true → C w → L a → wpAny P md ops Q' s listed a w) :
    ∀ (f : Nat) (listed : Array Bool) (a : Act) (w : World), C w → beforeT P md ops C n s L f listed a → wpAny P md ops Q' (f + s) listed a w := by
  intro f
  induction f with
  | zero =>
    intro listed a w hw h
    rw [Nat.zero_add]
    exact hL _ _ _ h.1 hw h.2
  | succ f ih =>
    intro listed a w hw h
    obtain ⟨_, h1, h2⟩ := h
    rw [Nat.succ_add]
    refine ⟨fun h => absurd h h1, fun i hi => ?_⟩
    obtain ⟨_, o, ho, _⟩ := mem_ready.1 hi
    obtain ⟨v, hy, hK⟩ := gives_of_rOp ho (h2 i hi)
    unfold wpOp
    rw [ho]
    dsimp only
    rcases hy with ⟨hwn, hv⟩ | ⟨hwn, rfl⟩
    · rw [if_pos hwn]
      exact .inl (wp_of_relAt (hv w hw) fun w' hb => ih _ _ _ (hC w w' hw hb) hK)
    · rw [if_neg (by rw [hwn]; decide)]
      exact ih _ _ _ hw hK

/-! ### one operation of whatever value -/
abbrev Rel := Value → World → Prop
/-- Some value of which R holds; of what was there nothing has turned. -/
def someUpon (P : Program) (R : Rel) (w : World) : Result Next → Prop
  | .ok (.value u) w' => Below w.heap.size w w' ∧ R u w'
  | .ok (.enter f args) w' => w' = w ∧ Calls P f args w (fun e w'' => ∃ u, e = .returned u ∧ Below w.heap.size w w'' ∧ R u w'')
  | _ => False
def someAt (P : Program) (o : Oper) (a : Act) (R : Rel) (w : World) : Prop := someUpon P R w ((execOp a.eval o).run P w)
theorem wp_of_someAt {o : Oper} {a : Act} {w : World} {R : Rel} {K : Act → World → Prop} {Q' : Exit → Act → World → Prop} (h : someAt P o a R w) (hk : ∀ v w', Below w.heap.size w w' → R v w' → K (a.put o.dst v) w') : o.wp P a w K Q' := by
  unfold someAt at h
  unfold Oper.wp
  generalize (execOp a.eval o).run P w = r at *
  cases r with
  | ok nx w' =>
    cases nx <;> simp only [someUpon] at h <;> simp only [Oper.upon]
    case value u => exact hk _ _ h.1 h.2
    case enter f args =>
      obtain ⟨e1, hc⟩ := h
      rw [e1]
      exact hc.mono fun e w'' ⟨u, he, hb, hR⟩ => by subst he; exact hk _ _ hb hR
  | halt x w' => simp only [someUpon] at h

theorem getD_any {listed : Array Bool} {i : Nat} (h : i < listed.size) : listed.getD i true = listed.getD i false := by simp [h]

/-- What is asked of the one operation, number m, by reckoning. -/
structure Loose (md : Region.Mode) (ops : Array Oper) (m : Nat) (oA : Oper) : Prop where
  at_ : ops[m]? = some oA
  guard : oA.guard = none
  apart : ∀ (i : Nat) (o : Oper), ops[i]? = some o → i < m → (∀ e ∈ oA.after, Region.binds md e = true → e.on ≠ i) → oA.apart ops o = true
  low : ∀ e ∈ oA.after, Region.binds md e = true → e.on < m
  lows : ∀ (i : Nat) (o : Oper), ops[i]? = some o → i < m → ∀ e ∈ o.after, Region.binds md e = true → e.on < i
  high : ∀ (j : Nat) (o : Oper), ops[j]? = some o → m < j → ∃ e ∈ o.after, Region.binds md e = true ∧ (e.on = m + 1 ∧ m + 1 < j ∨ e.on = m ∧ j = m + 1)
  sel : ∀ (j : Nat) (o : Oper) cs b, ops[j]? = some o → o.op ≠ .select cs b
def looseB (md : Region.Mode) (ops : Array Oper) (m : Nat) : Bool :=
  Region.noSelect ops &&
  match ops[m]? with
  | none => false
  | some oA => oA.guard.isNone && oA.after.all (fun e => !Region.binds md e || decide (e.on < m)) &&
    (List.range m).all (fun i => match ops[i]? with | none => true | some o => (oA.after.any (fun e => Region.binds md e && e.on == i) || oA.apart ops o) && o.after.all (fun e => !Region.binds md e || decide (e.on < i))) &&
    (List.range ops.size).all (fun j => decide (j ≤ m) || match ops[j]? with | none => true | some o => o.after.any (fun e => Region.binds md e && e.on == (if j == m + 1 then m else m + 1)))
theorem loose_of {m : Nat} (h : looseB md ops m = true) : ∃ oA, Loose md ops m oA := by
  unfold looseB at h
  rw [Bool.and_eq_true] at h
  obtain ⟨h0, h⟩ := h
  cases hA : ops[m]? with
  | none => rw [hA] at h; cases h
  | some oA =>
    rw [hA] at h
    simp only [Bool.and_eq_true, Option.isNone_iff_eq_none] at h
    obtain ⟨⟨⟨h1, h2⟩, h3⟩, h4⟩ := h
    have lower : ∀ (x : Array Edge) (k : Nat), (x.all fun e => !Region.binds md e || decide (e.on < k)) = true → ∀ e ∈ x, Region.binds md e = true → e.on < k := fun x k hx e he hb => by
      have := Array.all_eq_true_iff_forall_mem.1 hx e he
      simpa [hb] using this
    refine ⟨oA, hA, h1, fun i o ho hi hno => ?_, lower _ _ h2, fun i o ho hi => ?_, fun j o ho hj => ?_, Region.noSelect_spec h0⟩
    · have h5 := List.all_eq_true.1 h3 i (List.mem_range.2 hi)
      rw [ho] at h5
      simp only [Bool.and_eq_true, Bool.or_eq_true] at h5
      rcases h5.1 with h6 | h6
      · obtain ⟨e, he, hb⟩ := Array.any_eq_true'.1 h6
        simp only [Bool.and_eq_true, beq_iff_eq] at hb
        exact absurd hb.2 (hno e he hb.1)
      · exact h6
    · have h5 := List.all_eq_true.1 h3 i (List.mem_range.2 hi)
      rw [ho] at h5
      simp only [Bool.and_eq_true] at h5
      exact lower _ _ h5.2
    · have h5 := List.all_eq_true.1 h4 j (List.mem_range.2 (Array.getElem?_eq_some_iff.1 ho).1)
      rw [ho] at h5
      simp only [Bool.or_eq_true, decide_eq_true_eq] at h5
      rcases h5 with h5 | h5
      · omega
      · obtain ⟨e, he, hb⟩ := Array.any_eq_true'.1 h5
        simp only [Bool.and_eq_true, beq_iff_eq] at hb
        refine ⟨e, he, hb.1, ?_⟩
        by_cases hj2 : j = m + 1
        · exact .inr ⟨by simpa [hj2] using hb.2, hj2⟩
        · exact .inl ⟨by simpa [hj2] using hb.2, by omega⟩

variable {m s : Nat} {oA : Oper} {R : Rel} {L : Act → Prop} {Q' : Exit → Act → World → Prop}
/-- Nothing of the tail has come up. -/
def Early (m : Nat) (ops : Array Oper) (listed : Array Bool) : Prop := listed.size = ops.size ∧ ∀ j, m < j → listed.getD j false = false
theorem Early.set {listed : Array Bool} (h : Early m ops listed) {i : Nat} (hi : i ≤ m) : Early m ops (listed.setIfInBounds i true) :=
  ⟨by simp [h.1], fun j hj => by rw [getD_set_ne false (by omega)]; exact h.2 j hj⟩
theorem Loose.below (H : Loose md ops m oA) {listed : Array Bool} (hE : Early m ops listed) (hn : m + 1 ∉ Region.ready md ops listed) {i : Nat} (hi : i ∈ Region.ready md ops listed) : i ≤ m := by
  obtain ⟨_, o, ho, hall⟩ := mem_ready.1 hi
  rcases Nat.lt_or_ge m i with h | h
  · exfalso
    obtain ⟨e, he, hb, h1 | h1⟩ := H.high i o ho h
    · have h2 := hall e he hb
      rw [h1.1, hE.2 _ (by omega)] at h2; cases h2
    · exact hn (h1.2 ▸ hi)
  · exact h
theorem Loose.after_m (H : Loose md ops m oA) {listed : Array Bool} (hn : m + 1 ∈ Region.ready md ops listed) : listed.getD m false = true := by
  obtain ⟨_, o, ho, hall⟩ := mem_ready.1 hn
  obtain ⟨e, he, hb, h1 | h1⟩ := H.high (m + 1) o ho (by omega)
  · omega
  · rw [← h1.1]; exact hall e he hb

/-- While it may come up, and has not, it does what it does behind all. -/
theorem Loose.back (H : Loose md ops m oA) (hL : ∀ a, L a → ∀ w, C w → someAt P oA a R w) :
    ∀ (f : Nat) (listed : Array Bool) (a : Act), Early m ops listed → listed.getD m false = true → (∀ e ∈ oA.after, Region.binds md e = true → listed.getD e.on false = true) → beforeT P md ops C (m + 1) s L f listed a → ∀ w, C w → someAt P oA a R w := by
  intro f
  induction f with
  | zero => intro listed a _ _ _ h; exact hL _ h.2
  | succ f ih =>
    intro listed a hE hm hd h
    obtain ⟨hn, h1, h2⟩ := h
    obtain ⟨i, hi⟩ : ∃ i, i ∈ Region.ready md ops listed := by
      cases hr : Region.ready md ops listed with
      | nil => exact absurd hr h1
      | cons i _ => exact ⟨i, by simp⟩
    obtain ⟨hun, o, ho, _⟩ := mem_ready.1 hi
    have him : i < m := by
      have h3 := H.below hE hn hi
      rcases Nat.lt_or_ge i m with h4 | h4
      · exact h4
      · obtain rfl : i = m := by omega
        rw [getD_any (by rw [hE.1]; exact (Array.getElem?_eq_some_iff.1 ho).1), hm] at hun; cases hun
    have ha := H.apart i o ho him fun e he hb heq => by
      have h3 := hd e he hb
      rw [heq] at h3
      rw [getD_any (by rw [hE.1]; exact (Array.getElem?_eq_some_iff.1 ho).1), h3] at hun; cases hun
    obtain ⟨v, _, hK⟩ := gives_of_rOp ho (h2 i hi)
    have h4 := ih (listed.setIfInBounds i true) _ (hE.set (by omega)) (by rw [getD_set_ne false (by omega)]; exact hm) (fun e he hb => getD_set_true (hd e he hb)) hK
    intro w hw
    have h5 := h4 w hw
    obtain ⟨_, _, h6⟩ := Oper.apart_spec ha
    unfold someAt at h5 ⊢
    rwa [execOp_put oA (fun cs b => H.sel m oA cs b H.at_) a o.dst v h6] at h5

/-- Behind it. -/
theorem Loose.behind (H : Loose md ops m oA) {p : Value} {S : World → Prop}
    (hC : ∀ w w', C w → Below w.heap.size w w' → C w') (hS : ∀ w w', S w → Below w.heap.size w w' → S w')
    (hL : ∀ listed a w, tailFrom md ops s (m + 1) listed = true → C w → S w → L a → wpAny P md ops Q' s listed (a.put oA.dst p) w) :
    ∀ (f : Nat) (listed : Array Bool) (a : Act) (w : World), C w → S w → Early m ops listed → listed.getD m false = true → (∀ e ∈ oA.after, Region.binds md e = true → listed.getD e.on false = true) → beforeT P md ops C (m + 1) s L f listed a →
      wpAny P md ops Q' (f + s) listed (a.put oA.dst p) w := by
  intro f
  induction f with
  | zero =>
    intro listed a w hw hs _ _ _ h
    rw [Nat.zero_add]
    exact hL _ _ _ h.1 hw hs h.2
  | succ f ih =>
    intro listed a w hw hs hE hm hd h
    obtain ⟨hn, h1, h2⟩ := h
    rw [Nat.succ_add]
    refine ⟨fun h => absurd h h1, fun i hi => ?_⟩
    obtain ⟨hun, o, ho, _⟩ := mem_ready.1 hi
    have him : i < m := by
      have h3 := H.below hE hn hi
      rcases Nat.lt_or_ge i m with h4 | h4
      · exact h4
      · obtain rfl : i = m := by omega
        rw [getD_any (by rw [hE.1]; exact (Array.getElem?_eq_some_iff.1 ho).1), hm] at hun; cases hun
    have ha := H.apart i o ho him fun e he hb heq => by
      have h3 := hd e he hb
      rw [heq] at h3
      rw [getD_any (by rw [hE.1]; exact (Array.getElem?_eq_some_iff.1 ho).1), h3] at hun; cases hun
    obtain ⟨v, hy, hK⟩ := gives_of_rOp ho (h2 i hi)
    obtain ⟨_, hdd, _⟩ := Oper.apart_spec ha
    have hcomm : (a.put oA.dst p).put o.dst v = (a.put o.dst v).put oA.dst p := Act.put_comm a p v hdd
    have hm' : (listed.setIfInBounds i true).getD m false = true := by rw [getD_set_ne false (by omega)]; exact hm
    have hd' : ∀ e ∈ oA.after, Region.binds md e = true → (listed.setIfInBounds i true).getD e.on false = true := fun e he hb => getD_set_true (hd e he hb)
    have hy' : Gives P ops C o v (a.put oA.dst p) := (Gives.put_iff (fun cs b => H.sel i o cs b ho) ha).2 hy
    unfold wpOp
    rw [ho]
    dsimp only
    rcases hy' with ⟨hwn, hv⟩ | ⟨hwn, rfl⟩
    · rw [if_pos hwn]
      refine .inl (wp_of_relAt (hv w hw) fun w' hb => ?_)
      rw [hcomm]
      exact ih _ _ _ (hC w w' hw hb) (hS w w' hs hb) (hE.set (by omega)) hm' hd' hK
    · rw [if_neg (by rw [hwn]; decide), hcomm]
      exact ih _ _ _ hw hs (hE.set (by omega)) hm' hd' hK

/-- All those ahead have come up, if the tail is next. -/
theorem Loose.all_up (H : Loose md ops m oA) {listed : Array Bool} (hE : Early m ops listed) (ht : tailFrom md ops s (m + 1) (listed.setIfInBounds m true) = true) : ∀ i, i < m → listed.getD i false = true := by
  intro i
  induction i using Nat.strongRecOn with
  | _ i ih =>
    intro hi
    cases hun : listed.getD i false with
    | true => rfl
    | false =>
      exfalso
      have hlt : i < ops.size := by have := (Array.getElem?_eq_some_iff.1 H.at_).1; omega
      have hr : i ∈ Region.ready md ops (listed.setIfInBounds m true) := by
        refine mem_ready.2 ⟨?_, ops[i], Array.getElem?_eq_getElem hlt, fun e he hb => ?_⟩
        · rw [getD_set_ne true (by omega), getD_any (by rw [hE.1]; exact hlt)]; exact hun
        · have h1 := H.lows i _ (Array.getElem?_eq_getElem hlt) hi e he hb
          exact getD_set_true (ih _ h1 (by omega))
      have := tail_ready ht hr
      omega

theorem Loose.wpAny (H : Loose md ops m oA)
    (hC : ∀ w w', C w → Below w.heap.size w w' → C w') (hR : ∀ v w w', R v w → Below w.heap.size w w' → R v w')
    (hL0 : ∀ a, L a → ∀ w, C w → someAt P oA a R w)
    (hL : ∀ listed a v w, tailFrom md ops s (m + 1) listed = true → C w → R v w → L a → wpAny P md ops Q' s listed (a.put oA.dst v) w) :
    ∀ (f : Nat) (listed : Array Bool) (a : Act) (w : World), C w → Early m ops listed → listed.getD m false = false → beforeT P md ops C (m + 1) s L f (listed.setIfInBounds m true) a → wpAny P md ops Q' (f + (s + 1)) listed a w := by
  have hmsz := (Array.getElem?_eq_some_iff.1 H.at_).1
  have main : ∀ (f : Nat) (listed : Array Bool) (a : Act) (w : World), C w → Early m ops listed → m ∈ Region.ready md ops listed → beforeT P md ops C (m + 1) s L f (listed.setIfInBounds m true) a → wpOp P ops Q' m (Go.wpAny P md ops Q' (f + s) (listed.setIfInBounds m true)) a w := by
    intro f listed a w hw hE hr h
    obtain ⟨_, o, ho, hall⟩ := mem_ready.1 hr
    rw [H.at_] at ho
    obtain rfl := Option.some.inj ho
    have hin : (listed.setIfInBounds m true).getD m false = true := by simp [hE.1, hmsz]
    have hd : ∀ e ∈ oA.after, Region.binds md e = true → (listed.setIfInBounds m true).getD e.on false = true := fun e he hb => getD_set_true (hall e he hb)
    have hs := H.back hL0 f _ a (hE.set (Nat.le_refl _)) hin hd h w hw
    unfold wpOp
    rw [H.at_]
    dsimp only
    rw [if_pos (by simp [Region.wanted, H.guard])]
    exact .inl (wp_of_someAt hs fun v w' hb hv => H.behind (S := R v) hC (hR v) (fun listed a w h1 h2 h3 h4 => hL listed a v w h1 h2 h3 h4) f _ a w' (hC _ _ hw hb) hv (hE.set (Nat.le_refl _)) hin hd h)
  intro f
  induction f with
  | zero =>
    intro listed a w hw hE hm h
    have hup := H.all_up hE h.1
    have hmr : m ∈ Region.ready md ops listed := mem_ready.2 ⟨by rw [getD_any (by rw [hE.1]; exact hmsz)]; exact hm, oA, H.at_, fun e he hb => hup _ (H.low e he hb)⟩
    rw [show 0 + (s + 1) = (0 + s) + 1 by omega]
    refine ⟨fun he => (by rw [he] at hmr; cases hmr), fun i hi => ?_⟩
    by_cases him : i = m
    · subst him; exact main 0 listed a w hw hE hi h
    · have h1 := tail_ready h.1 (ready_mono hi him)
      subst h1
      have := H.after_m hi
      rw [hm] at this; cases this
  | succ f ih =>
    intro listed a w hw hE hm h
    have h0 := h
    obtain ⟨hn, h1, h2⟩ := h
    have hin : (listed.setIfInBounds m true).getD m false = true := by simp [hE.1, hmsz]
    rw [show f + 1 + (s + 1) = (f + (s + 1)) + 1 by omega]
    refine ⟨fun he => ?_, fun i hi => ?_⟩
    · exfalso
      obtain ⟨i, hi⟩ : ∃ i, i ∈ Region.ready md ops (listed.setIfInBounds m true) := by
        cases hr : Region.ready md ops (listed.setIfInBounds m true) with
        | nil => exact absurd hr h1
        | cons i _ => exact ⟨i, by simp⟩
      obtain ⟨hun, o, ho, hall⟩ := mem_ready.1 hi
      have hil := H.below (hE.set (Nat.le_refl _)) hn hi
      have him : i ≠ m := fun e => by
        subst e
        rw [getD_any (by simp [hE.1, hmsz]), hin] at hun; cases hun
      have : i ∈ Region.ready md ops listed := mem_ready.2 ⟨by rw [getD_set_ne true (Ne.symm him)] at hun; exact hun, o, ho, fun e he' hb => by
        have h3 := hall e he' hb
        have h4 := H.lows i o ho (by omega) e he' hb
        rwa [getD_set_ne false (by omega)] at h3⟩
      rw [he] at this; cases this
    · by_cases him : i = m
      · subst him
        have := main (f + 1) listed a w hw hE hi h0
        rwa [show f + 1 + s = f + (s + 1) by omega] at this
      · obtain ⟨_, o, ho, _⟩ := mem_ready.1 hi
        have hi' := ready_mono hi him
        have hil : i < m := by have := H.below (hE.set (Nat.le_refl _)) hn hi'; omega
        obtain ⟨v, hy, hK⟩ := gives_of_rOp ho (h2 i hi')
        rw [Array.setIfInBounds_comm _ _ (Ne.symm him)] at hK
        have hm' : (listed.setIfInBounds i true).getD m false = false := by rw [getD_set_ne false (by omega)]; exact hm
        unfold wpOp
        rw [ho]
        dsimp only
        rcases hy with ⟨hwn, hv⟩ | ⟨hwn, rfl⟩
        · rw [if_pos hwn]
          exact .inl (wp_of_relAt (hv w hw) fun w' hb => ih _ _ _ (hC w w' hw hb) (hE.set (by omega)) hm' hK)
        · rw [if_neg (by rw [hwn]; decide)]
          exact ih _ _ _ hw (hE.set (by omega)) hm' hK

/-! ### The laws -/
abbrev Cls (w : World) : World → Prop := fun w' => ∃ p : Regrown, w' = Go.Sort.grow (redrawn w p.d) p.os
theorem cls_below {w w' : World} (h : Cls w w') : Below w.heap.size w w' := by obtain ⟨p, rfl⟩ := h; exact below_regrown w p.d p.os
theorem cls_on {w w1 w2 : World} (h : Cls w w1) (k : Below w1.heap.size w1 w2) : Cls w w2 := regrown_of_below (after (cls_below h) k)
theorem cls_drawn (w : World) : Cls w { w with drawn := w.drawn + 1 } := ⟨⟨w.drawn + 1, #[]⟩, by rw [Go.Sort.grow_empty]; rfl⟩

def regB (md : Region.Mode) (ops : Array Oper) (k : Nat) : Bool := Region.noSelect ops && quietFrom md ops k (ops.size - k) k 0 (Array.replicate ops.size false)
/-- k operations that read or call, then a forced tail. -/
theorem any_reg {Q : Exit → Act → World → Prop} {a : Act} {w : World} {l : List Oper} (k : Nat) (hk : k ≤ l.length) (hB : regB .any l.toArray k = true)
    (h : wpRel P l.toArray (Cls w) (fun a' => ∀ w', Below w.heap.size w w' → wpList P l.toArray Q (l.drop k) a' w') (l.take k) a) :
    Go.wpAny P .any l.toArray Q l.toArray.size (Array.replicate l.toArray.size false) a { w with drawn := w.drawn + 1 } := by
  simp only [regB, Bool.and_eq_true] at hB
  have hsz : l.toArray.size = l.length := by simp
  have ht : (l.take k).length = k := by simp; omega
  have hx := beforeT_lex (C := Cls w) (md := .any) (n := k) (s := l.toArray.size - k) hB.1 (l.take k) 0 (Array.replicate l.toArray.size false) a
    (fun j hj => by simp only [Nat.zero_add, List.getElem?_toArray]; rw [List.getElem?_take_of_lt (by omega)]) (by rw [ht]; exact hB.2) h
  rw [ht] at hx
  have := wpAny_of_beforeT (Q' := Q) (fun w1 w2 h1 h2 => cls_on h1 h2) (fun listed a' w' ht' hw' hL => by
    have hd : (l.drop k).length = l.toArray.size - k := by simp
    have h5 := wpAny_of_tail (P := P) (Q := Q) (md := .any) (ops := l.toArray) (l.drop k) k listed a' w' (fun j hj => by simp [List.getElem?_drop]) (by rw [hd]; exact ht') (hL w' (cls_below hw'))
    rw [hd] at h5
    exact h5) k (Array.replicate l.toArray.size false) a { w with drawn := w.drawn + 1 } (cls_drawn w) hx
  rwa [show k + (l.toArray.size - k) = l.toArray.size by omega] at this

def someB (md : Region.Mode) (ops : Array Oper) (m : Nat) : Bool := looseB md ops m && quietFrom md ops (m + 1) (ops.size - (m + 1)) m 0 ((Array.replicate ops.size false).setIfInBounds m true)
/-- m operations that read or call, one of whatever value that its relation lets, then a forced tail. -/
theorem any_some {Q : Exit → Act → World → Prop} {a : Act} {w : World} {l : List Oper} {oA : Oper} (m : Nat) (R : Rel) (hA : l[m]? = some oA) (hB : someB .any l.toArray m = true) (hR : ∀ v w w', R v w → Below w.heap.size w w' → R v w')
    (h : wpRel P l.toArray (Cls w) (fun a' => (∀ w', Cls w w' → someAt P oA a' R w') ∧ ∀ v w', Below w.heap.size w w' → R v w' → wpList P l.toArray Q (l.drop (m + 1)) (a'.put oA.dst v) w') (l.take m) a) :
    Go.wpAny P .any l.toArray Q l.toArray.size (Array.replicate l.toArray.size false) a { w with drawn := w.drawn + 1 } := by
  simp only [someB, Bool.and_eq_true] at hB
  obtain ⟨oA', H⟩ := loose_of hB.1
  have hA' : l.toArray[m]? = some oA := by simpa using hA
  obtain rfl : oA = oA' := by have := H.at_; rw [hA'] at this; exact Option.some.inj this
  have hsz : l.toArray.size = l.length := by simp
  have hm : m < l.length := (List.getElem?_eq_some_iff.1 hA).1
  have ht : (l.take m).length = m := by simp; omega
  have hns : Region.noSelect l.toArray = true := by have := hB.1; unfold looseB at this; rw [Bool.and_eq_true] at this; exact this.1
  have hx := beforeT_lex (C := Cls w) (md := .any) (n := m + 1) (s := l.toArray.size - (m + 1)) hns (l.take m) 0 ((Array.replicate l.toArray.size false).setIfInBounds m true) a
    (fun j hj => by simp only [Nat.zero_add, List.getElem?_toArray]; rw [List.getElem?_take_of_lt (by omega)]) (by rw [ht]; exact hB.2) h
  rw [ht] at hx
  have := H.wpAny (Q' := Q) (R := R) (s := l.toArray.size - (m + 1)) (fun w1 w2 h1 h2 => cls_on h1 h2) hR (fun a h => h.1) (fun listed a' v w' ht' hw' hv hL => by
    have hd : (l.drop (m + 1)).length = l.toArray.size - (m + 1) := by simp
    have h5 := wpAny_of_tail (P := P) (Q := Q) (md := .any) (ops := l.toArray) (l.drop (m + 1)) (m + 1) listed _ w' (fun j hj => by simp [List.getElem?_drop]) (by rw [hd]; exact ht') (hL.2 v w' (cls_below hw') hv)
    rw [hd] at h5
    exact h5) m (Array.replicate l.toArray.size false) a { w with drawn := w.drawn + 1 } (cls_drawn w) ⟨by simp, fun j _ => by simp [Array.getElem?_replicate]; split <;> rfl⟩ (by simp [Array.getElem?_replicate]; split <;> rfl) hx
  rwa [show m + (l.toArray.size - (m + 1) + 1) = l.toArray.size by omega] at this

theorem wp_reg {id : Nat} {Q : Exit → Act → World → Prop} {a : Act} {w : World} {l : List Oper} (k : Nat) (hm : P.follows .mixedOrders = true) (hk : k ≤ l.length) (hB : regB .any l.toArray k = true)
    (h : wpRel P l.toArray (Cls w) (fun a' => ∀ w', Below w.heap.size w w' → wpList P l.toArray Q (l.drop k) a' w') (l.take k) a) : (Code.region id l.toArray true).wp P Q a w := wp_region_any hm (any_reg k hk hB h)
theorem wp_some {id : Nat} {Q : Exit → Act → World → Prop} {a : Act} {w : World} {l : List Oper} {oA : Oper} (m : Nat) (R : Rel) (hm : P.follows .mixedOrders = true) (hA : l[m]? = some oA) (hB : someB .any l.toArray m = true) (hR : ∀ v w w', R v w → Below w.heap.size w w' → R v w')
    (h : wpRel P l.toArray (Cls w) (fun a' => (∀ w', Cls w w' → someAt P oA a' R w') ∧ ∀ v w', Below w.heap.size w w' → R v w' → wpList P l.toArray Q (l.drop (m + 1)) (a'.put oA.dst v) w') (l.take m) a) : (Code.region id l.toArray true).wp P Q a w :=
  wp_region_any hm (any_some m R hA hB hR h)

/-! ### In a round -/
def noDefer (ops : Array Oper) : Bool := ops.all fun o => match o.op with | .defer _ => false | _ => true
theorem noDefer_spec (h : noDefer ops = true) {j : Nat} {o : Oper} (ho : ops[j]? = some o) (c : Call) : o.op ≠ .defer c := by
  intro heq
  have := Array.all_eq_true_iff_forall_mem.1 h o (Array.mem_of_getElem? ho)
  simp [heq] at this
theorem rowsIn_wide {l n : Nat} {row : String} {args : Array Value} {w : World} {X : Value → World → Prop} (h : Rows P row args w X) : RowsIn (Fence.wide.inRound l) n P row args w X :=
  fun c cs _ => let ⟨v, w', hx, hs⟩ := h c cs; ⟨v, w', hx, by rw [fenced_inRound]; exact stepsIn_wide.2 hs⟩
theorem op_in {l n : Nat} {o : Oper} {a : Act} {w : World} {K K' : Act → World → Prop} {Q : Exit → Act → World → Prop} (hd : ∀ c, o.op ≠ .defer c) (hK : ∀ a w, K a w → K' a w) (h : o.wp P a w K Q) : o.wpIn (Fence.wide.inRound l) n P a w K' Q := by
  refine ⟨fun _ _ => trivial, ?_⟩
  rw [Oper.semAt_eq _ _ _ hd]
  unfold Oper.wp at h
  generalize (execOp a.eval o).run P w = r at *
  cases r with
  | ok nx w' =>
    cases nx <;> simp only [Oper.upon] at h <;> simp only [Oper.uponIn]
    case value u => exact hK _ _ h
    case skip => exact hK _ _ h
    case defer d => exact hK _ _ h
    case enter f args =>
      refine ⟨fun h => (by cases h), CallsIn.inRound l (callsIn_wide.2 (h.mono fun e w'' he => ?_))⟩
      cases e with
      | returned v => exact hK _ _ he
      | panicked c => exact he
      | outgrown => exact he
    case row r args => exact ⟨fun h => (by cases h), rowsIn_wide fun c cs => let ⟨v, w'', hx, hs⟩ := h c cs; ⟨v, w'', hK _ _ hx, hs⟩⟩
  | halt x w' => cases x <;> simp only [Oper.upon] at h <;> first | exact h | cases h
theorem any_in {l n : Nat} {Q : Exit → Act → World → Prop} (hd : noDefer ops = true) (hQ : ¬ LetsOut Q) : ∀ (f : Nat) (listed : Array Bool) (a : Act) (w : World), Go.wpAny P md ops Q f listed a w → wpAnyIn (Fence.wide.inRound l) n P md ops Q f listed a w := by
  intro f
  induction f with
  | zero => intro listed a w h; exact h
  | succ f ih =>
    intro listed a w h
    refine ⟨h.1, fun i hi => ?_⟩
    have h1 := h.2 i hi
    unfold wpOp at h1
    unfold wpOpIn
    cases ho : ops[i]? with
    | none => rw [ho] at h1; exact ih _ _ _ h1
    | some o =>
      rw [ho] at h1
      dsimp only at h1 ⊢
      by_cases hw : Region.wanted o (yielded ops a.tmps) = true
      · rw [if_pos hw] at h1 ⊢
        rcases h1 with h1 | h1
        · exact op_in (noDefer_spec hd ho) (fun a w => ih _ a w) h1
        · exact absurd h1.2 hQ
      · rw [if_neg hw] at h1 ⊢
        exact ⟨fun _ _ => trivial, ih _ _ _ h1⟩
theorem in_reg {l' n id : Nat} {Q : Exit → Act → World → Prop} {a : Act} {w : World} {l : List Oper} (k : Nat) (hm : P.follows .mixedOrders = true) (hk : k ≤ l.length) (hB : regB .any l.toArray k = true) (hd : noDefer l.toArray = true) (hQ : ¬ LetsOut Q)
    (h : wpRel P l.toArray (Cls w) (fun a' => ∀ w', Below w.heap.size w w' → wpList P l.toArray Q (l.drop k) a' w') (l.take k) a) : (Code.region id l.toArray true).wpIn (Fence.wide.inRound l') n P Q a w :=
  wpIn_region_any hm (any_in hd hQ _ _ _ _ (any_reg k hk hB h))
theorem in_some {l' n id : Nat} {Q : Exit → Act → World → Prop} {a : Act} {w : World} {l : List Oper} {oA : Oper} (m : Nat) (R : Rel) (hm : P.follows .mixedOrders = true) (hA : l[m]? = some oA) (hB : someB .any l.toArray m = true) (hR : ∀ v w w', R v w → Below w.heap.size w w' → R v w') (hd : noDefer l.toArray = true) (hQ : ¬ LetsOut Q)
    (h : wpRel P l.toArray (Cls w) (fun a' => (∀ w', Cls w w' → someAt P oA a' R w') ∧ ∀ v w', Below w.heap.size w w' → R v w' → wpList P l.toArray Q (l.drop (m + 1)) (a'.put oA.dst v) w') (l.take m) a) : (Code.region id l.toArray true).wpIn (Fence.wide.inRound l') n P Q a w :=
  wpIn_region_any hm (any_in hd hQ _ _ _ _ (any_some m R hA hB hR h))
end
end Go.Proofs.Ytkopenemoddbbaa
