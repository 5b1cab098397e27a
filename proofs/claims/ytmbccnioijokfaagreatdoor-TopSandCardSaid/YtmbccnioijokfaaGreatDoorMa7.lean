/- Texts that build one behind the other, laid together: RunT4 ChkT ChkT2 TbP TbW TbF TbT TbO TbU TbS TbS2 TbL TbL2 WdT WdT2 WdT3 HereT IdxP. -/
import Derived.Test.YtmbccnioijokfaaGreatDoorMa4
import Derived.Test.YtmbccnioijokfaaGreatDoorMa6
import Derived.Test.YtmbccnioijokfaaGreatDoorMa1
import Derived.Test.YtmbccnioijokfaaGreatDoorMa2
import Derived.Test.YtmbccnioijokfaaGreatDoorMa3
namespace Go.Proofs.YtmbccnioijokfaaGreatDoor
open Go.RowKit
attribute [local go_sem] Oper.semAt_some
abbrev RowQ := Option Addr × Nat × List Rn
abbrev rowV (r : RowQ) : Value := .slice r.1 r.2.2.length r.2.1
def joinR (l : List RowQ) : List Rn := l.foldl (fun o r => pushes o r.2.2) []
theorem joinR_snoc (l : List RowQ) (r : RowQ) : joinR (l ++ [r]) = pushes (joinR l) r.2.2 := by simp [joinR]
structure JoinOk (w : World) (rs : List RowQ) : Prop where
  rd : ∀ r ∈ rs, Rd w r.1 2 encR r.2.2
  pos : ∀ r ∈ rs, ∀ x ∈ r.2.2, 1 ≤ x.1
  len : lenR (joinR rs) ≤ 1000000
theorem joinR_pos (rs : List RowQ) : ∀ x ∈ joinR rs, 1 ≤ x.1 := by
  have key : ∀ (l : List RowQ) (o : List Rn), (∀ x ∈ o, 1 ≤ x.1) → ∀ x ∈ l.foldl (fun o r => pushes o r.2.2) o, 1 ≤ x.1 := by
    intro l
    induction l with
    | nil => exact fun o h => h
    | cons r l ih => exact fun o h => ih _ (pushes_pos h _)
  exact key rs [] no_runs
theorem lenR_mono {l m : List Rn} (h : ∀ x ∈ m, 1 ≤ x.1) : lenR l ≤ lenR (pushes l m) := by
  rw [lenR_pushes m fun r hr => by have := h r hr; omega]
  have := lenR_pos h
  omega
theorem joinR_le {rs : List RowQ} (h : ∀ r ∈ rs, ∀ x ∈ r.2.2, 1 ≤ x.1) (k : Nat) : lenR (joinR (rs.take k)) ≤ lenR (joinR rs) := by
  have key : ∀ (l : List RowQ) (o : List Rn), (∀ r ∈ l, ∀ x ∈ r.2.2, 1 ≤ x.1) → lenR o ≤ lenR (l.foldl (fun o r => pushes o r.2.2) o) := by
    intro l
    induction l with
    | nil => exact fun o _ => Int.le_refl _
    | cons r l ih => exact fun o h => Int.le_trans (lenR_mono (h r List.mem_cons_self)) (ih _ fun s hs => h s (List.mem_cons_of_mem _ hs))
  have e : joinR rs = (rs.drop k).foldl (fun o r => pushes o r.2.2) (joinR (rs.take k)) := by
    unfold joinR
    rw [← List.foldl_append, List.take_append_drop]
  rw [e]
  exact key _ _ fun r hr => h r (List.mem_of_mem_drop hr)
set_option maxRecDepth 100000 in
set_option maxHeartbeats 4000000 in
theorem runjoin_c (w : World) (g o c : Nat) (rs : List RowQ) (h : JoinOk w rs) (hc : ∀ i r, rs[i]? = some r → w.cell? ⟨g, o + i, none⟩ = some (rowV r)) (hg : g < w.heap.size) (hl : rs.length ≤ 1000) :
    Calls Tryz.prog 359 #[.slice (some ⟨g, o, none⟩) rs.length c] w fun r w' => RowR w (joinR rs) r w' := by
  have HJ := Lib.hid h
  have HC := Lib.hid hc
  have HM := Lib.hid (show rs.length ≤ maxLen by unfold maxLen; omega)
  clear h hc hl
  go_enter Tryz.func359, Tryz.ntmps359
  go_upto_region 3 with (fail)
  go_loopw [3, 10] (fun v i wr => ∃ (k : Nat), k ≤ rs.length ∧ i = .int .i64 k ∧ Hid (Owns wr w.heap.size 235 2 encR v (joinR (rs.take k))) ∧ Hid (Below w.heap.size w wr)) (fun _ i _ => rs.length - (intOf i).toNat)
  case atStart => exact ⟨0, Nat.zero_le _, rfl, Owns.nil, Below.refl _ _⟩
  case round =>
    obtain ⟨k, hk, rfl, hO, hb⟩ := hrel
    by_cases hlt : k < rs.length
    · obtain ⟨p, hp⟩ := lt_at hlt
      have hpc := (hb.out.cell (p := ⟨g, o + k, none⟩) hg).trans (HC.out k p hp)
      have hps := joinR_pos (rs.take k)
      have hle := joinR_le HJ.out.pos (k + 1)
      have hsn : joinR (rs.take (k + 1)) = pushes (joinR (rs.take k)) p.2.2 := by rw [take_at hp, joinR_snoc]
      have hll := HJ.out.len
      have hrd := HJ.out.rd p (List.mem_of_getElem? hp)
      have hpp := HJ.out.pos p (List.mem_of_getElem? hp)
      rw [hsn] at hle
      have HSN := Lib.hid hsn
      obtain ⟨n2, n3, n5, n6⟩ := nextx hlt HM.out
      obtain ⟨wo, hwo⟩ : ∃ wo : World, wo = wr := ⟨_, rfl⟩
      subst hwo
      obtain ⟨q, cp, R⟩ := p
      dsimp only [rowV] at hpc hle hrd hpp HSN
      have hbig : lenR (joinR (rs.take k)) + lenR R ≤ 1000000 := by
        rw [lenR_pushes R fun r hr => by have := hpp r hr; omega] at hle
        omega
      have HRD := Lib.hid hrd
      have HPP := Lib.hid hpp
      have HPS := Lib.hid hps
      have hln := lenR_pos hpp
      have HRM := Lib.hid (show R.length ≤ maxLen by have := lenR_pos hps; unfold maxLen; omega)
      clear hp hsn hle hll hrd hpp hps hln
      generalize joinR (rs.take k) = xs at *
      go_upto_region 6 with (fail)
      go_loopw [3, 16] (fun v i wr => ∃ (j : Nat), j ≤ R.length ∧ i = .int .i64 j ∧ Hid (Owns wr w.heap.size 235 2 encR v (pushes xs (R.take j))) ∧ Hid (Below w.heap.size w wr)) (fun _ i _ => R.length - (intOf i).toNat)
      case atStart => exact ⟨0, Nat.zero_le _, rfl, hO, hb⟩
      case round =>
        obtain ⟨j, hj, rfl, hO2, hb2⟩ := hrel
        by_cases hlj : j < R.length
        · obtain ⟨p, hp⟩ := lt_at hlj
          obtain ⟨g2, o2, rfl, h1⟩ := (HRD.out.on hb2.out) (by omega)
          have r0 : wr.cell? ⟨g2, o2 + j * 2, none⟩ = some (.int .i64 p.1) := h1 j p hp 0 _ rfl
          have r1 : wr.cell? ⟨g2, o2 + j * 2 + 1, none⟩ = some (.int .i64 p.2) := h1 j p hp 1 _ rfl
          have hp0 := HPP.out p (List.mem_of_getElem? hp)
          have hl1 := lenR_take (l := R) (fun r hr => by have := HPP.out r hr; omega) (j + 1)
          rw [lenR_succ hp] at hl1
          have hl2 : lenR (pushes xs (R.take j)) = lenR xs + lenR (R.take j) := lenR_pushes _ fun r hr => by have := HPP.out r (List.mem_of_mem_take hr); omega
          have hl3 := (lenR_take (l := R) (fun r hr => by have := HPP.out r hr; omega) j).1
          have hps : ∀ x ∈ pushes xs (R.take j), 1 ≤ x.1 := pushes_pos HPS.out _
          have hl4 := lenR_pos hps
          have hl5 : 0 ≤ lenR xs := by have := lenR_pos HPS.out; omega
          have hnx : pushes xs (R.take (j + 1)) = pushR (pushes xs (R.take j)) p := by rw [take_at hp, pushes_snoc]
          obtain ⟨m2, m3, m5, m6⟩ := nextx hlj HRM.out
          obtain ⟨W1, hW1⟩ : ∃ W1, W1 = wr.alloc (.cells #[.int .i64 p.1, .int .i64 p.2] 235) := ⟨_, rfl⟩
          have H1 : Below wr.heap.size wr W1 := by rw [hW1]; exact bel_alloc _ _
          have X : Blk W1 wr.heap.size 235 #[.int .i64 p.1, .int .i64 p.2] := by rw [hW1]; exact Blk.new' rfl
          have hB1 := after hb2.out H1
          have HP := Lib.hid (rpush_c W1 w.heap.size _ _ p (hO2.out.on H1) hps (by omega) (by omega) hB1.size (by omega))
          have HNX := Lib.hid hnx
          have HO1 := Lib.hid (hO2.out.on H1)
          have HB1 := Lib.hid hB1
          clear hp h1 hp0 hl1 hl2 hl3 hps hl4 hl5 hnx H1 hB1 hbig
          go_upto_region 8 with (fail)
          rw [← hW1]
          clear hW1 r0 r1
          obtain ⟨y0, y1, -, -⟩ := X.pair
          go_wp2_with (go_at_call 221; refine HP.out.mono ?_; intro r w1 h; obtain ⟨v', rfl, h2, h3⟩ := h.below HO1.out HB1.out HB1.out.size; have H2 := Lib.hid h2; have H3 := Lib.hid h3; clear h2 h3 h)
          exact ⟨⟨j + 1, hlj, by go_num, by rw [HNX.out]; exact H2, H3⟩, by simp [intOf]; omega⟩
        · obtain rfl : j = R.length := by omega
          have hO3 := hO2.out
          rw [List.take_length, ← HSN.out] at hO3
          have HO3 := Lib.hid hO3
          have hk1 : ¬ ((R.length : Int) < (R.length : Int)) := by omega
          clear hO3
          go_wp2_with fail
          exact ⟨⟨k + 1, hlt, by go_num, HO3, hb2⟩, by simp [intOf]; omega⟩
    · obtain rfl : k = rs.length := by omega
      have hO3 := hO.out
      rw [List.take_length] at hO3
      have HO3 := Lib.hid hO3
      have hk1 : ¬ ((rs.length : Int) < (rs.length : Int)) := by omega
      clear hO3 hO
      go_wp2_with fail
      go_returns
      exact ⟨_, rfl, HO3.out, hb.out⟩
theorem Owns.low {w : World} {base B size : Nat} {e : TypeId} {α : Type} {enc : α → List Value} {v : Value} {xs : List α} (h : Owns w base e size enc v xs) (hb : B ≤ base) : Owns w B e size enc v xs := by
  refine ⟨h.1, ?_⟩
  rcases h.2 with h0 | ⟨g, cap, cur, hv, hbg, r⟩
  · exact .inl h0
  · exact .inr ⟨g, cap, cur, hv, Nat.le_trans hb hbg, r⟩
theorem RowR.row {w w' : World} {xs : List Rn} {r : Ending} (h : RowR w xs r w') : ∃ q c, r = .returned (.slice q xs.length c) ∧ Rd w' q 2 encR xs ∧ Below w.heap.size w w' := by
  obtain ⟨v, rfl, h2, h3⟩ := h
  obtain ⟨q, c, rfl, -, -, h4, -⟩ := h2.form lenRn
  exact ⟨q, c, rfl, h4, h3⟩
theorem lenR_fill (R : List Rn) {frm til b : Int} (hn : ∀ r ∈ R, 1 ≤ r.1) (h0 : 0 ≤ frm) (h1 : frm ≤ til) (h2 : til ≤ lenR R) (hc : CanR R) : lenR (fillR R frm til b) = lenR R := by
  rw [lenR_cells (fun r hr => by have := (fillR_can R frm til b).pos r hr; omega), fillR_cells hc, lenR_cells (fun r hr => by have := hn r hr; omega)]
  rw [lenR_cells (fun r hr => by have := hn r hr; omega)] at h2
  simp
  omega
set_option maxRecDepth 100000 in
set_option maxHeartbeats 4000000 in
theorem runfill_c (w : World) (q : Option Addr) (c : Nat) (R : List Rn) (frm til b : Int) (hR : Rd w q 2 encR R) (hn : CanR R) (hm : lenR R ≤ 100000) (hf : 0 ≤ frm) (hft : frm < til) (ht : til ≤ lenR R) (hb : mayK b = true) :
    Calls Tryz.prog 354 #[.slice q R.length c, .int .i64 frm, .int .i64 til, .int .i64 b] w fun r w' => RowR w (fillR R frm til b) r w' := by
  have hpos := hn.pos
  have hln := lenR_pos hpos
  have HL := Lib.hid (rlen_c w q c R hR (fun r hr => by have := hpos r hr; omega) (by omega) (by unfold maxLen; omega))
  have HC := Lib.hid fun (W : World) (h : Below w.heap.size w W) frm til => runcut_c W q c R frm til (hR.on h) hpos (by omega)
  have HMK := Lib.hid fun (W : World) n b (h : 0 ≤ n ∧ n ≤ 1000000) => runmake_c n b h W
  have HMY := Lib.hid fun (W : World) => bmayk_c b W
  rw [hb] at HMY
  have HF := Lib.hid (lenR_fill R (b := b) hpos hf (by omega) ht hn)
  have hmn := @run_mn Tryz.prog
  have hmx := @run_mx Tryz.prog
  generalize hN : lenR R = N at *
  have e1 : mnI (mxI frm 0) N = frm := by unfold mnI mxI; omega
  have e2 : mnI (mxI til 0) N = til := by unfold mnI mxI; omega
  clear hR hn hpos hb
  go_enter Tryz.func354, Tryz.ntmps354
  go_wp2_with fail
  refine HL.out.mono ?_; rintro e_ w1 ⟨rfl, g1⟩
  have G1 := Lib.hid g1
  have HMY1 := HMY.out w1
  have HMY2 := Lib.hid HMY1
  clear HL g1 HMY1 HMY
  go_wp2_with fail
  refine HMY2.out.mono ?_; rintro e_ w2 ⟨rfl, g2⟩
  have G2 := Lib.hid (after G1.out g2)
  have HN := Lib.hid hN
  clear HMY2 G1 g2 hN
  go_wp2_with fail
  clear hmn hmx e1 e2
  refine (HC.out w2 G2.out 0 frm (by omega) (by omega)).mono ?_; intro e_ w3 h
  obtain ⟨q1, c1, rfl, h1, g3⟩ := h.row
  have H1 := Lib.hid h1
  have G3 := Lib.hid (after G2.out g3)
  clear G2 g3 h h1
  go_wp2_with fail
  refine (HMK.out w3 (til - frm) b (by omega)).mono ?_; intro e_ w4 h
  obtain ⟨q2, c2, rfl, h2, g4⟩ := h.row
  have H1b := Lib.hid (H1.out.on g4)
  have H2 := Lib.hid h2
  have G4 := Lib.hid (after G3.out g4)
  clear G3 g4 h h2 H1
  go_wp2_with fail
  refine (HC.out w4 G4.out til N (by omega) (by omega)).mono ?_; intro e_ w5 h
  obtain ⟨q3, c3, rfl, h3, g5⟩ := h.row
  have H1 := Lib.hid (H1b.out.on g5)
  have H2b := Lib.hid (H2.out.on g5)
  have H3 := Lib.hid h3
  have G5 := Lib.hid (after G4.out g5)
  clear G4 g5 h h3 H1b H2
  go_wp2_with fail
  have HJ : JoinOk (w5.alloc (.cells #[.slice q1 (cutR R 0 frm 0 []).length c1, .slice q2 (pushR [] (til - frm, b)).length c2, .slice q3 (cutR R til N 0 []).length c3] 184)) [(q1, c1, cutR R 0 frm 0 []), (q2, c2, pushR [] (til - frm, b)), (q3, c3, cutR R til N 0 [])] := by
    refine ⟨?_, ?_, ?_⟩
    · intro r hr
      simp only [List.mem_cons, List.mem_nil_iff, or_false] at hr
      rcases hr with rfl | rfl | rfl
      · exact H1.out.on (bel_alloc _ _)
      · exact H2b.out.on (bel_alloc _ _)
      · exact H3.out.on (bel_alloc _ _)
    · intro r hr
      simp only [List.mem_cons, List.mem_nil_iff, or_false] at hr
      rcases hr with rfl | rfl | rfl
      · exact (cutR_can canR_nil).pos
      · exact pushR_pos no_runs _
      · exact (cutR_can canR_nil).pos
    · show lenR (pushes (pushes (pushes [] (cutR R 0 frm 0 [])) (pushR [] (til - frm, b))) (cutR R til N 0 [])) ≤ _
      have := HF.out
      unfold fillR at this
      rw [HN.out] at this
      omega
  have hj := runjoin_c _ w5.heap.size 0 3 _ HJ (fun i r hi => by
    rw [Nat.zero_add, (Blk.new w5 184 _).cell i]
    match i, hi with
    | 0, hi => obtain rfl := Option.some.inj hi; rfl
    | 1, hi => obtain rfl := Option.some.inj hi; rfl
    | 2, hi => obtain rfl := Option.some.inj hi; rfl
    | i + 3, hi => cases hi) (by simp) (by simp)
  refine hj.mono ?_
  rintro e_ w6 ⟨v6, rfl, h6, g6⟩
  have h7 : Below w.heap.size w w6 := after (after G5.out (bel_alloc _ _)) g6
  have H7 := Lib.hid h7
  have H6 := Lib.hid (show Owns w6 w.heap.size 235 2 encR v6 (fillR R frm til b) from by
    have h8 : joinR [(q1, c1, cutR R 0 frm 0 []), (q2, c2, pushR [] (til - frm, b)), (q3, c3, cutR R til N 0 [])] = fillR R frm til b := by
      unfold fillR
      rw [HN.out]
      rfl
    rw [h8] at h6
    exact h6.low (after G5.out (bel_alloc _ _)).size)
  clear h6 g6 h7 HJ hj
  go_wp2_with fail
  go_returns
  exact ⟨_, rfl, H6.out, H7.out⟩
set_option maxRecDepth 100000 in
set_option maxHeartbeats 4000000 in
theorem runset_c (w : World) (q : Option Addr) (c : Nat) (R : List Rn) (i : Nat) (b : Int) (hR : Rd w q 2 encR R) (hn : CanR R) (hm : lenR R ≤ 100000) (hi : (i : Int) < lenR R) (hb : mayK b = true) :
    Calls Tryz.prog 339 #[.slice q R.length c, .int .i64 i, .int .i64 b] w fun r w' => RowR w (fillR R i (i + 1) b) r w' := by
  have hpos := hn.pos
  have hln := lenR_pos hpos
  have HL := Lib.hid (rlen_c w q c R hR (fun r hr => by have := hpos r hr; omega) (by omega) (by unfold maxLen; omega))
  have HC := Lib.hid fun (W : World) (h : Below w.heap.size w W) => runfill_c W q c R i (i + 1) b (hR.on h) hn hm (by omega) (by omega) (by omega) hb
  have hi0 : (0 : Int) ≤ i := by omega
  have hi1 : -9223372036854775808 ≤ (i : Int) + 1 ∧ (i : Int) + 1 ≤ 9223372036854775807 := by omega
  generalize lenR R = N at *
  clear hR hn hpos hb
  go_enter Tryz.func339, Tryz.ntmps339
  go_wp2_with fail
  refine HL.out.mono ?_; rintro e_ w1 ⟨rfl, g1⟩
  have HC1 := HC.out w1 g1
  have HC2 := Lib.hid HC1
  have G1 := Lib.hid g1
  clear HL g1 HC HC1
  go_wp2_with fail
  refine HC2.out.mono ?_
  rintro e_ w2 ⟨v, rfl, h2, g2⟩
  have H2 := Lib.hid (h2.low G1.out.size)
  have G2 := Lib.hid (after G1.out g2)
  clear h2 g2
  go_wp2_with fail
  go_returns
  exact ⟨_, rfl, H2.out, G2.out⟩
end Go.Proofs.YtmbccnioijokfaaGreatDoor

namespace Go.Proofs.YtmbccnioijokfaaGreatDoor
open Go.RowKit
attribute [local go_sem] Oper.semAt_some
def posB (a b a' b' : Int) : Bool := decide (a = a') && decide (b = b')
theorem posB_self (a b : Int) : posB a b a b = true := by simp [posB]
theorem posB_iff {a b a' b' : Int} : posB a b a' b' = true ↔ a = a' ∧ b = b' := by simp [posB]
theorem pos_guard : Tryz.prog.eqGuardType Tryz.prog.depth 123 = false := by kernel_rfl
theorem pos_eq (a b a' b' : Int) (w : World) : (binOp .eql 123 (.agg #[.int .i64 a, .int .i64 b]) (.agg #[.int .i64 a', .int .i64 b'])).run Tryz.prog w = .ok (.bool (posB a b a' b')) w := by
  rw [run_eql_struct]
  unfold posB
  simp [go_sem]
  by_cases h1 : a = a' <;> by_cases h2 : b = b' <;> simp [h1, h2]
structure CellsOk (cs : List Int) : Prop where
  len : cs.length = 8192
  may : ∀ b ∈ cs, mayK b = true
def ChA (c : Nat) (x z : Int) (cs : List Int) : Asn := fun w M => ∃ v R, Blk w c 186 #[.int .i64 x, .int .i64 z, v] ∧ Owns w 0 235 2 encR v R ∧ CanR R ∧ cellsR R = cs ∧ CellsOk cs ∧ ∀ b, M b ↔ b = c ∨ v.ownBlock = some b
theorem own_at {w : World} {base size : Nat} {e : TypeId} {α : Type} {enc : α → List Value} {v : Value} {xs : List α} (h : Owns w base e size enc v xs) {b : Nat} (hb : v.ownBlock = some b) : base ≤ b ∧ ∃ cur, Blk w b e cur := by
  rcases h.2 with ⟨rfl, _⟩ | ⟨g, cap, cur, rfl, hb', hg, _⟩
  · cases hb
  · simp [Value.ownBlock] at hb
    subst hb
    exact ⟨hb', cur, hg⟩
theorem Owns.keep {w w' : World} {base size : Nat} {e : TypeId} {α : Type} {enc : α → List Value} {v : Value} {xs : List α} {K : Nat → Prop} (h : Owns w base e size enc v xs) (hk : Kept K w w') (hK : ∀ b, v.ownBlock = some b → K b) : Owns w' base e size enc v xs := by
  refine ⟨h.1, ?_⟩
  rcases h.2 with h0 | ⟨g, cap, cur, hv, hbg, hg, r⟩
  · exact .inl h0
  · exact .inr ⟨g, cap, cur, hv, hbg, (hk.block g (Array.getElem?_eq_some_iff.1 hg).1 (hK g (by rw [hv]; rfl))).trans hg, r⟩
theorem one_type {w : World} {g : Nat} {t t' : TypeId} {cs cs' : Array Value} (h : Blk w g t cs) (h' : Blk w g t' cs') : t = t' := by
  unfold Blk at h h'
  rw [h] at h'
  simp only [Option.some.injEq, Obj.cells.injEq] at h'
  exact h'.2.1
theorem chA_fit (c : Nat) (x z : Int) (cs : List Int) : Asn.Fit 5 (ChA c x z cs) where
  lt := fun ⟨v, R, h1, h2, _, _, _, hM⟩ b hb => by
    rcases (hM b).1 hb with rfl | hb
    · exact h1.lt
    · exact (h2.block b hb).2
  nob := fun ⟨v, R, h1, h2, _, _, _, hM⟩ b hb cs' hB => by
    rcases (hM b).1 hb with rfl | hb
    · exact absurd (one_type h1 hB) (by decide)
    · obtain ⟨-, cur, h3⟩ := own_at h2 hb
      exact absurd (one_type h3 hB) (by decide)
  kept := fun ⟨v, R, h1, h2, h3, h4, h5, hM⟩ hk k1 _ => ⟨v, R, hk.blk (k1 _ ((hM _).2 (.inl rfl))) h1, h2.keep hk (fun b hb => k1 b ((hM b).2 (.inr hb))), h3, h4, h5, hM⟩
theorem lenR_of {R : List Rn} {cs : List Int} (h : CanR R) (e : cellsR R = cs) (ok : CellsOk cs) : lenR R = 8192 := by
  rw [lenR_cells (fun r hr => by have := h.pos r hr; omega), e, ok.len]; rfl
theorem idxI_bd {x y z : Int} (h : 0 ≤ y ∧ y < 32) : 0 ≤ idxI x y z ∧ idxI x y z < 8192 := by unfold idxI; omega
def chB (cs : List Int) (x y z : Int) : Int := (cs[(idxI x y z).toNat]?).getD (-1)
set_option maxRecDepth 100000 in
set_option maxHeartbeats 1000000 in
theorem cplace_c (x z : Int) (w : World) : Calls Tryz.prog 120 #[.agg #[.int .i64 x, .int .i64 z]] w fun r w' => r = .returned (.agg #[.int .i64 x, .int .i64 z]) ∧ Below w.heap.size w w' := by
  obtain ⟨W, hW⟩ : ∃ W, W = (w.alloc (.cells #[.int .i64 x, .int .i64 z] 183)).alloc (.cells #[.int .i64 0, .int .i64 0] 123) := ⟨_, rfl⟩
  have H : Below w.heap.size w W := by rw [hW]; go_grown
  have U : Blk W w.heap.size 183 #[.int .i64 x, .int .i64 z] := by rw [hW]; exact (Blk.new' rfl).alloc _
  have R : Blk W (w.heap.size + 1) 123 #[.int .i64 0, .int .i64 0] := by rw [hW]; exact Blk.new' (by simp)
  obtain ⟨u0, u1, -, -⟩ := U.pair
  obtain ⟨r0, r1, f0, f1⟩ := R.pair
  have HR := Lib.hid (show w.heap.size ≤ w.heap.size + 1 by omega)
  go_enter Tryz.func120, Tryz.ntmps120
  go_upto_region 1 with (fail)
  rw [← hW]
  clear hW
  generalize w.heap.size + 1 = g at *
  go_wp2_with fail
  have R2 := R.stp (.int .i64 x) (.int .i64 z)
  obtain ⟨d0, d1, -, -⟩ := R2.pair
  refine bodyPost_ret (v := .agg #[.int .i64 x, .int .i64 z]) (by simp [results, Tryz.results120, go_sem, d0, d1]) rfl ⟨rfl, ?_⟩
  have h0 := HR.out
  repeat (refine Below.setCell ?_ (by dsimp only; omega) _)
  exact H
theorem idxT_no {x y z : Int} (h : inY y = false) : idxT x y z = .tuple #[.int .i64 0, .bool false] := by unfold idxT; rw [h]; rfl
theorem idxT_yes {x y z : Int} (h : inY y = true) : idxT x y z = .tuple #[.int .i64 (idxI x y z), .bool true] := by unfold idxT; rw [h]; rfl
set_option maxRecDepth 100000 in
set_option maxHeartbeats 1000000 in
theorem cpindex_c (x y z px pz : Int) (hx : In64 x) (hz : In64 z) (h1 : x / 16 = px) (h2 : z / 16 = pz) (w : World) : Calls Tryz.prog 159 #[.agg #[.int .i64 px, .int .i64 pz], .agg #[.int .i64 x, .int .i64 y, .int .i64 z]] w fun r w' => r = .returned (idxT x y z) ∧ Below w.heap.size w w' := by
  have pe := pos_eq
  have pg := pos_guard
  have ps := posB_self px pz
  obtain ⟨W, hW⟩ : ∃ W, W = (w.alloc (.cells #[.int .i64 px, .int .i64 pz] 183)).alloc (.cells #[.int .i64 x, .int .i64 y, .int .i64 z] 43) := ⟨_, rfl⟩
  have H : Below w.heap.size w W := by rw [hW]; go_grown
  have U : Blk W w.heap.size 183 #[.int .i64 px, .int .i64 pz] := by rw [hW]; exact (Blk.new' rfl).alloc _
  have C : Blk W (w.heap.size + 1) 43 #[.int .i64 x, .int .i64 y, .int .i64 z] := by rw [hW]; exact Blk.new' (by simp)
  have HI := Lib.hid (cindex_c x y z hx hz W)
  have HC := Lib.hid fun W => cchunk_c x y z hx hz W
  rw [h1, h2] at HC
  have HH := Lib.hid H
  obtain ⟨c0, c1, c2, -, -, -⟩ := C.c3
  clear h1 h2 hx hz H
  cases hy : inY y
  · have hyv := Lib.hid (idxT_no (x := x) (z := z) hy)
    rw [hyv.out] at HI ⊢
    clear hy
    go_enter Tryz.func159, Tryz.ntmps159
    go_upto_region 1 with (fail)
    rw [← hW]
    clear hW
    go_upto_region 2 with (go_at_call 208; refine HI.out.mono ?_; rintro e_ w1 ⟨rfl, g1⟩; have G1 := Lib.hid g1; clear g1)
    refine wp_region_quiet_below (by kernel_rfl) (by kernel_rfl) ?_
    repeat (go_big_quiet_step (fail))
    refine wpQuiet_nil ?_
    intro w' hw'
    obtain ⟨rg, rfl⟩ := hw'
    go_wp2_with fail
    go_returns
    exact ⟨rfl, after (after HH.out G1.out) (below_regrown w1 _ _)⟩
  · have hyv := Lib.hid (idxT_yes (x := x) (z := z) hy)
    rw [hyv.out] at HI ⊢
    generalize idxI x y z = i at *
    clear hy
    go_enter Tryz.func159, Tryz.ntmps159
    go_upto_region 1 with (fail)
    rw [← hW]
    clear hW
    go_upto_region 2 with (go_at_call 208; refine HI.out.mono ?_; rintro e_ w1 ⟨rfl, g1⟩; have G1 := Lib.hid g1; have y0 := (C.on g1).re3; have y1 := (U.on g1).rep; clear g1)
    obtain ⟨z0, z1, z2⟩ := y0
    obtain ⟨k0, k1⟩ := y1
    clear c0 c1 c2
    refine wp_region_quiet_below (by kernel_rfl) (by kernel_rfl) ?_
    repeat (go_big_quiet_step (exact Calls.regrown_of (HC.out _)))
    refine wpQuiet_nil ?_
    intro w' hw'
    obtain ⟨rg, rfl⟩ := hw'
    go_wp2_with fail
    go_returns
    exact ⟨rfl, after (after HH.out G1.out) (below_regrown w1 _ _)⟩
def atT (cs : List Int) (x y z : Int) : Value := if inY y then .tuple #[.int .i64 (chB cs x y z), .bool true] else .tuple #[.int .i64 0, .bool false]
theorem atT_no {cs : List Int} {x y z : Int} (h : inY y = false) : atT cs x y z = .tuple #[.int .i64 0, .bool false] := by unfold atT; rw [h]; rfl
theorem atT_yes {cs : List Int} {x y z : Int} (h : inY y = true) : atT cs x y z = .tuple #[.int .i64 (chB cs x y z), .bool true] := by unfold atT; rw [h]; rfl
theorem inY_iff {y : Int} : inY y = true ↔ 0 ≤ y ∧ y < 32 := by simp [inY]
set_option maxRecDepth 100000 in
set_option maxHeartbeats 2000000 in
theorem chat_c (c : Nat) (x y z px pz : Int) (cs : List Int) (w : World) (M : Nat → Prop) (h : ChA c px pz cs w M) (hx : In64 x) (hz : In64 z) (h1 : x / 16 = px) (h2 : z / 16 = pz) :
    Calls Tryz.prog 109 #[.pointer (some ⟨c, 0, none⟩), .agg #[.int .i64 x, .int .i64 y, .int .i64 z]] w fun r w' => r = .returned (atT cs x y z) ∧ Below w.heap.size w w' := by
  obtain ⟨v, R, hB, hO, hc, he, ok, -⟩ := h
  obtain ⟨W, hW⟩ : ∃ W, W = w.alloc (.cells #[.int .i64 x, .int .i64 y, .int .i64 z] 43) := ⟨_, rfl⟩
  have H : Below w.heap.size w W := by rw [hW]; exact (Below.refl _ _).alloc (Nat.le_refl _) _
  have C : Blk W w.heap.size 43 #[.int .i64 x, .int .i64 y, .int .i64 z] := by rw [hW]; exact Blk.new' rfl
  obtain ⟨z0, z1, z2⟩ := C.re3
  have hB1 := hB.on H
  obtain ⟨q, cap, rfl, -, -, hrd, -⟩ := hO.form lenRn
  have k0 := fun d os => (hB1.re d os).cell 0
  have k1 := fun d os => (hB1.re d os).cell 1
  have HI := Lib.hid fun W => cpindex_c x y z px pz hx hz h1 h2 W
  have HL := lenR_of hc he ok
  have HA := Lib.hid fun W (hW : Below w.heap.size w W) (i : Int) (hi : 0 ≤ i ∧ i < 8192) => rat_c W q cap R i (hrd.on hW) (fun r hr => by have := hc.pos r hr; omega) (by omega) (by have := lenR_pos hc.pos; unfold maxLen; omega) (by omega)
  have HE := Lib.hid he
  have HCP := Lib.hid hc.pos
  have HH := Lib.hid H
  have HB1 := Lib.hid hB1
  clear hB hO hc he ok hrd h1 h2 hx hz H C hB1 HL
  cases hy : inY y
  · have hyv := Lib.hid (idxT_no (x := x) (z := z) hy)
    have hav := Lib.hid (atT_no (cs := cs) (x := x) (z := z) hy)
    rw [hyv.out] at HI
    rw [hav.out]
    clear hy HA
    go_enter Tryz.func109, Tryz.ntmps109
    go_upto_region 1 with (fail)
    rw [← hW]
    clear hW
    refine wp_region_quiet_below (by kernel_rfl) (by kernel_rfl) ?_
    repeat (go_big_quiet_step (exact Calls.regrown_of (HI.out _)))
    refine wpQuiet_nil ?_
    intro w' hw'
    obtain ⟨rg, rfl⟩ := hw'
    go_wp2_with fail
    go_returns
    exact ⟨rfl, after HH.out (below_regrown W _ _)⟩
  · have hyv := Lib.hid (idxT_yes (x := x) (z := z) hy)
    have hav := Lib.hid (atT_yes (cs := cs) (x := x) (z := z) hy)
    have hbd := idxI_bd (x := x) (z := z) (inY_iff.1 hy)
    rw [hyv.out] at HI
    rw [hav.out]
    obtain ⟨G, hG⟩ : ∃ G, chB cs x y z = G := ⟨_, rfl⟩
    rw [hG]
    have HG := Lib.hid (show atR R (idxI x y z) = G from by
      rw [← hG, ← HE.out]
      unfold chB
      have := atR_cells (l := R) (fun r hr => by have := HCP.out r hr; omega) (idxI x y z).toNat
      rw [← this, Int.toNat_of_nonneg hbd.1])
    generalize idxI x y z = i at *
    clear hy hG
    go_enter Tryz.func109, Tryz.ntmps109
    go_upto_region 1 with (fail)
    rw [← hW]
    clear hW
    refine wp_region_quiet_below (by kernel_rfl) (by kernel_rfl) ?_
    repeat (go_big_quiet_step (exact Calls.regrown_of (HI.out _)))
    refine wpQuiet_nil ?_
    intro w' hw'
    obtain ⟨rg, rfl⟩ := hw'
    obtain ⟨W2, hW2⟩ : ∃ W2, W2 = Go.Sort.grow (redrawn W rg.d) rg.os := ⟨_, rfl⟩
    have h2 : Below W.heap.size W W2 := by rw [hW2]; exact below_regrown _ _ _
    rw [← hW2]
    clear hW2 z0 z1 z2 k0 k1
    have k2 := (HB1.out.on h2).cell 2
    have HA2 := Lib.hid (HA.out W2 (after HH.out h2) i hbd)
    rw [HG.out] at HA2
    have H2 := Lib.hid (after HH.out h2)
    clear HA h2
    go_wp2_with (go_at_call 160; refine HA2.out.mono ?_; rintro e_ w1 ⟨rfl, g1⟩; have G1 := Lib.hid g1; clear g1)
    go_returns
    exact ⟨rfl, after H2.out G1.out⟩
end Go.Proofs.YtmbccnioijokfaaGreatDoor

namespace Go.Proofs.YtmbccnioijokfaaGreatDoor
open Go.RowKit
attribute [local go_sem] Oper.semAt_some
theorem setR_ok {R : List Rn} {cs : List Int} {i : Nat} {b : Int} (hc : CanR R) (he : cellsR R = cs) (ok : CellsOk cs) (hi : i < 8192) (hb : mayK b = true) :
    CanR (fillR R i (i + 1) b) ∧ cellsR (fillR R i (i + 1) b) = cs.set i b ∧ CellsOk (cs.set i b) := by
  refine ⟨fillR_can _ _ _ _, by rw [setR_cells hc (by rw [he, ok.len]; exact hi), he], by rw [List.length_set, ok.len], fun x hx => ?_⟩
  rcases List.mem_or_eq_of_mem_set hx with h | rfl
  · exact ok.may x h
  · exact hb
set_option maxRecDepth 100000 in
set_option maxHeartbeats 2000000 in
theorem chset_c (c : Nat) (x y z px pz b : Int) (cs : List Int) (w : World) (M : Nat → Prop) (h : ChA c px pz cs w M) (hx : In64 x) (hz : In64 z) (h1 : x / 16 = px) (h2 : z / 16 = pz) (hy : inY y = true) (hb : mayK b = true) :
    Calls Tryz.prog 305 #[.pointer (some ⟨c, 0, none⟩), .agg #[.int .i64 x, .int .i64 y, .int .i64 z], .int .i64 b] w fun r w' => r = .returned (.int .i64 0) ∧ Aft (ChA c px pz (cs.set (idxI x y z).toNat b)) w M w' := by
  have FIT := chA_fit c px pz cs
  have h0 := h
  obtain ⟨v, R, hB, hO, hc, he, ok, hM⟩ := h
  obtain ⟨W, hW⟩ : ∃ W, W = w.alloc (.cells #[.int .i64 x, .int .i64 y, .int .i64 z] 43) := ⟨_, rfl⟩
  have H : Below w.heap.size w W := by rw [hW]; exact (Below.refl _ _).alloc (Nat.le_refl _) _
  have C : Blk W w.heap.size 43 #[.int .i64 x, .int .i64 y, .int .i64 z] := by rw [hW]; exact Blk.new' rfl
  obtain ⟨z0, z1, z2⟩ := C.re3
  have hB1 := hB.on H
  obtain ⟨q, cap, rfl, -, -, hrd, -⟩ := hO.form lenRn
  have k0 := fun d os => (hB1.re d os).cell 0
  have k1 := fun d os => (hB1.re d os).cell 1
  have HI := Lib.hid fun W => cpindex_c x y z px pz hx hz h1 h2 W
  have HL := lenR_of hc he ok
  have hbd := idxI_bd (x := x) (z := z) (inY_iff.1 hy)
  obtain ⟨i, hi⟩ := Int.eq_ofNat_of_zero_le hbd.1
  have hi2 : i < 8192 := by omega
  have HSET := Lib.hid fun W (hW : Below w.heap.size w W) => runset_c W q cap R i b (hrd.on hW) hc (by omega) (by omega) hb
  have HOK := Lib.hid (setR_ok hc he ok hi2 hb)
  have HM := Lib.hid fun W => bmayk_c b W
  rw [hb] at HM
  have hyv := Lib.hid (idxT_yes (x := x) (z := z) hy)
  rw [hyv.out, hi] at HI
  rw [hi, Int.toNat_natCast]
  have HH := Lib.hid H
  have HB1 := Lib.hid hB1
  have HBL := Lib.hid hB.lt
  have HMM := Lib.hid hM
  generalize hR2 : fillR R (i : Int) ((i : Int) + 1) b = R2 at HSET HOK
  clear hB hO hc he ok hrd h1 h2 hx hz H C hB1 HL hyv hbd hi hy hb hM h0 FIT hR2
  go_enter Tryz.func305, Tryz.ntmps305
  go_upto_region 1 with (fail)
  rw [← hW]
  clear hW
  refine wp_region_quiet_below (by kernel_rfl) (by kernel_rfl) ?_
  repeat (go_big_quiet_step (exact Calls.regrown_of (HI.out _)))
  refine wpQuiet_nil ?_
  intro w' hw'
  obtain ⟨rg, rfl⟩ := hw'
  obtain ⟨W2, hW2⟩ : ∃ W2, W2 = Go.Sort.grow (redrawn W rg.d) rg.os := ⟨_, rfl⟩
  have h2 : Below W.heap.size W W2 := by rw [hW2]; exact below_regrown _ _ _
  rw [← hW2]
  have H2 := Lib.hid (after HH.out h2)
  have HM2 := Lib.hid (HM.out W2)
  have HB2 := Lib.hid (HB1.out.on h2)
  clear hW2 z0 z1 z2 k0 k1 h2 HM HB1
  go_upto_region 6 with (go_at_call 142; refine HM2.out.mono ?_; rintro e_ w3 ⟨rfl, g3⟩; have G3 := Lib.hid g3; clear g3)
  have k2 := (HB2.out.on G3.out).cell 2
  have HS3 := Lib.hid (HSET.out w3 (after H2.out G3.out))
  go_wp2_with fail
  refine HS3.out.mono ?_
  rintro e_ w4 ⟨v4, rfl, o4, g4⟩
  obtain ⟨q4, c4, rfl, -⟩ := o4.form lenRn
  have hB4 := (HB2.out.on G3.out).on g4
  have f2 := hB4.frz 2
  have k4 := hB4.cell 2
  have HB4 := Lib.hid hB4
  have O4 := Lib.hid o4
  have G4 := Lib.hid (after (after H2.out G3.out) g4)
  have hs3 := Lib.hid (after H2.out G3.out).size
  clear hB4 o4 g4 k2
  go_wp2_with fail
  go_returns
  refine ⟨rfl, fun b => b = c ∨ Value.ownBlock (.slice q4 R2.length c4) = some b, ⟨_, R2, HB4.out.set_ 2 _, ?_, HOK.out.1, HOK.out.2.1, HOK.out.2.2, fun _ => Iff.rfl⟩, ?_, ?_⟩
  · refine (Owns.lowB (B := 0) O4.out (Nat.zero_le _)).keep (K := fun b => b ≠ c) ((Kept.refl _ _).setCell (p := ⟨c, 2, none⟩) (by simp) _) fun b hb e => ?_
    have h5 := (own_at O4.out hb).1
    have := hs3.out
    have := HBL.out
    omega
  · intro b hb
    rcases hb with rfl | hb
    · exact .inl ((HMM.out _).2 (.inl rfl))
    · have h5 := (own_at O4.out hb).1
      have := hs3.out
      exact .inr (by omega)
  · exact ((Kept.of_below G4.out).mono fun _ _ => trivial).setCell (p := ⟨c, 2, none⟩) (fun h => h ((HMM.out _).2 (.inl rfl))) _
theorem ofB_may (y g : Int) : mayK (ofB y g) = true := by
  unfold ofB
  split
  · decide
  · split
    · decide
    · split
      · decide
      · split
        · decide
        · split <;> decide
theorem genL_ok (s px pz : Int) : CellsOk (genL s px pz) where
  len := by simp [genL]
  may := fun b hb => by
    obtain ⟨i, -, rfl⟩ := List.mem_map.1 hb
    exact ofB_may _ _
def NewCh (w : World) (x z : Int) (cs : List Int) (r : Ending) (w' : World) : Prop := ∃ c M, r = .returned (.pointer (some ⟨c, 0, none⟩)) ∧ ChA c x z cs w' M ∧ (∀ b, M b → w.heap.size ≤ b) ∧ Below w.heap.size w w'
def RowOf (xs : List Rn) (base : Nat) (v : Value) (w : World) : Prop := ∃ q c, v = .slice q xs.length c ∧ Owns w base 235 2 encR v xs
set_option maxRecDepth 100000 in
set_option maxHeartbeats 2000000 in
theorem chmake_c (s px pz : Int) (hx : -1000000000 ≤ px ∧ px ≤ 1000000000) (hz : -1000000000 ≤ pz ∧ pz ≤ 1000000000) (w : World) :
    Calls Tryz.prog 84 #[.int .i64 s, .agg #[.int .i64 px, .int .i64 pz]] w fun r w' => NewCh w px pz (genL s px pz) r w' := by
  have hok := genL_ok s px pz
  have HC := Lib.hid fun W => gchunk_c s px pz hx hz W
  generalize genL s px pz = cs at hok HC ⊢
  obtain ⟨W, hW⟩ : ∃ W, W = w.alloc (.cells #[.int .i64 px, .int .i64 pz] 123) := ⟨_, rfl⟩
  have H : Below w.heap.size w W := by rw [hW]; exact (Below.refl _ _).alloc (Nat.le_refl _) _
  have U : Blk W w.heap.size 123 #[.int .i64 px, .int .i64 pz] := by rw [hW]; exact Blk.new' rfl
  obtain ⟨u0, u1⟩ := U.rep
  have HH := Lib.hid H
  have HOK := Lib.hid hok
  clear H U hok
  go_enter Tryz.func84, Tryz.ntmps84
  go_upto_region 1 with (fail)
  rw [← hW]
  clear hW
  refine wp_sched [0, 0, 0, 0, 2, 3, 3, 3] (fun _ v w' => RowOf (ofR (cs)) w.heap.size v w') (by kernel_rfl) (by kernel_rfl) (fun _ _ _ _ ⟨q, c, h1, h2⟩ h => ⟨q, c, h1, h2.on h⟩) ?_
  repeat (first | (refine wpQs_s ?_) | (refine wpQs_q (fun K hK => ?_); go_simp; first | (refine hK _ ?_; clear hK K) | (apply Exists.intro; refine ⟨fun _ => ?_, hK _ ?_⟩; (fail); clear hK K)) | (refine wpQs_f (fun K hK => ?_); go_simp; refine hK _ ?_; clear hK K))
  refine wpQs_nil ?_
  repeat (first | (refine wpLs_skip ?_) | (refine wpLs_one ?lsA (fun v_ => ?_); case lsA => (intro w_ hw_ hp_; (go_simp; refine (HC.out _).mono ?_; rintro e_ w9 ⟨v, rfl, h1, h2⟩; obtain ⟨q, c, rfl, -⟩ := h1.form lenRn; exact ⟨_, rfl, Kept.of_below h2, q, c, rfl, h1.lowB (by have := (msd_kept hw_).size; have := HH.out.size; omega)⟩))))
  refine wpLs_nilB ?_
  simp only [tails]
  rintro W1 h1 ⟨-, hq⟩
  have HR := Lib.hid (And.intro (ofR_can (cs)) (ofR_cells (cs)))
  generalize ofR (cs) = R at hq HR
  obtain ⟨q, c, rfl, hO⟩ := hq
  clear u0 u1
  have HO := Lib.hid hO
  have H1 := Lib.hid (after HH.out h1)
  clear hO h1
  have HF : Hid (∀ w2, w2 = W1.alloc (.cells #[.int .i64 px, .int .i64 pz, .slice q R.length c] 186) → ChA W1.heap.size px pz (cs) w2 (fun b => b = W1.heap.size ∨ Value.ownBlock (.slice q R.length c) = some b)) := Lib.hid fun w2 hw2 => ⟨_, R, Blk.fresh hw2, (Owns.lowB (B := 0) HO.out (Nat.zero_le _)).on (by rw [hw2]; exact (Below.refl _ _).alloc (Nat.le_refl _) _), HR.out.1, HR.out.2, HOK.out, fun _ => Iff.rfl⟩
  clear HR
  go_wp2_with fail
  go_returns
  refine ⟨W1.heap.size, _, rfl, HF.out _ rfl, ?_, H1.out.alloc H1.out.size _⟩
  intro b hb
  rcases hb with rfl | hb
  · exact H1.out.size
  · exact (own_at HO.out hb).1
set_option maxRecDepth 100000 in
set_option maxHeartbeats 1000000 in
theorem cread0_c (q : Option Addr) (c : Nat) (w : World) : Calls Tryz.prog 124 #[.slice q 0 c, .int .i64 8192] w fun r w' => r = .returned (.tuple #[.slice none 0 0, .int .i64 3]) ∧ w = w' := by
  go_enter Tryz.func124, Tryz.ntmps124
  go_wp2_with fail
  go_step3
  go_wp2_with fail
  go_step3
  go_wp2_with fail
  refine wp_loop_rounds 1 ?_
  rw [rounds_succ]
  go_wp2_with fail
  rw [Exit.noGoto_ret]
  go_returns
  exact ⟨rfl, rfl⟩
set_option maxRecDepth 100000 in
set_option maxHeartbeats 1000000 in
theorem chread0_c (px pz : Int) (q : Option Addr) (c : Nat) (w : World) : Calls Tryz.prog 83 #[.agg #[.int .i64 px, .int .i64 pz], .slice q 0 c] w fun r w' => r = .returned (.tuple #[.pointer none, .int .i64 3]) ∧ Below w.heap.size w w' := by
  go_enter Tryz.func83, Tryz.ntmps83
  go_wp2_with (go_at_call 124; refine (cread0_c _ _ _).mono ?_; rintro e_ w1 ⟨rfl, rfl⟩)
  go_returns
  exact ⟨rfl, (Below.refl _ _).alloc (Nat.le_refl _) _⟩
end Go.Proofs.YtmbccnioijokfaaGreatDoor

namespace Go.Proofs.YtmbccnioijokfaaGreatDoor
structure TI where
  x : Int
  z : Int
  cs : List Int
  dirty : Bool
  pins : Int
structure TS where
  seed : Int
  lim : Int
  l : List TI
  d : DS
def TI.is (p : Int × Int) (i : TI) : Bool := posB i.x i.z p.1 p.2
def findI (p : Int × Int) : List TI → Nat → Int
  | [], _ => -1
  | i :: l, k => if i.is p then k else findI p l (k + 1)
def TS.find (T : TS) (p : Int × Int) : Int := findI p T.l 0
def chkOf (x z : Int) : Int × Int := (x / 16, z / 16)
def TI.at (i : TI) (x y z : Int) : Int := if y < 0 then 1 else if inY y then chB i.cs x y z else 0
def TS.at (T : TS) (x y z : Int) : Int := match T.l.find? (TI.is (chkOf x z)) with
  | some i => i.at x y z
  | none => -1
theorem findI_none {p : Int × Int} {l : List TI} (h : ∀ i ∈ l, i.is p = false) (k : Nat) : findI p l k = -1 := by
  induction l generalizing k with
  | nil => rfl
  | cons i l ih =>
    unfold findI
    rw [if_neg (by rw [h i List.mem_cons_self]; decide), ih fun j hj => h j (List.mem_cons_of_mem _ hj)]
theorem findI_at {p : Int × Int} {l : List TI} {n : Nat} {i : TI} (hi : l[n]? = some i) (hp : i.is p = true) (hb : ∀ j y, j < n → l[j]? = some y → y.is p = false) (k : Nat) : findI p l k = ((k + n : Nat) : Int) := by
  induction l generalizing n k with
  | nil => cases hi
  | cons a l ih =>
    unfold findI
    cases n with
    | zero =>
      obtain rfl : a = i := by simpa using hi
      rw [if_pos hp]; rfl
    | succ n =>
      rw [if_neg (by rw [hb 0 a (by omega) rfl]; decide), ih (by simpa using hi) (fun j y hj hy => hb (j + 1) y (by omega) (by simpa using hy))]
      congr 1
      omega
theorem find_ways (T : TS) (p : Int × Int) : (T.find p = -1 ∧ T.l.find? (TI.is p) = none) ∨ ∃ (n : Nat) (i : TI), T.find p = n ∧ T.l[n]? = some i ∧ i.is p = true ∧ T.l.find? (TI.is p) = some i := by
  unfold TS.find
  have key : ∀ (l : List TI) (k : Nat), (findI p l k = -1 ∧ l.find? (TI.is p) = none) ∨ ∃ (n : Nat) (i : TI), findI p l k = ((k + n : Nat) : Int) ∧ l[n]? = some i ∧ i.is p = true ∧ l.find? (TI.is p) = some i := by
    intro l
    induction l with
    | nil => intro k; exact .inl ⟨rfl, rfl⟩
    | cons a l ih =>
      intro k
      unfold findI
      cases ha : a.is p
      · rw [if_neg (by decide), List.find?_cons_of_neg (by rw [ha]; decide)]
        rcases ih (k + 1) with h | ⟨n, i, h1, h2, h3, h4⟩
        · exact .inl h
        · exact .inr ⟨n + 1, i, by rw [h1]; congr 1; omega, by simpa using h2, h3, h4⟩
      · rw [if_pos rfl, List.find?_cons_of_pos ha]
        exact .inr ⟨0, a, rfl, rfl, ha, rfl⟩
  rcases key T.l 0 with h | ⟨n, i, h1, h2, h3, h4⟩
  · exact .inl h
  · exact .inr ⟨n, i, by rw [h1]; simp, h2, h3, h4⟩
def TI.set (i : TI) (x y z b : Int) : TI := { i with cs := i.cs.set (idxI x y z).toNat b, dirty := i.dirty || (chB i.cs x y z != b) }
end Go.Proofs.YtmbccnioijokfaaGreatDoor

namespace Go.Proofs.YtmbccnioijokfaaGreatDoor
open Go.RowKit
attribute [local go_sem] Oper.semAt_some
def ItA (a : Nat) (i : TI) : Asn := fun w M => ∃ c Mc, Blk w a 142 #[.pointer (some ⟨c, 0, none⟩), .bool i.dirty, .int .i64 i.pins] ∧ ChA c i.x i.z i.cs w Mc ∧ ∀ b, M b ↔ b = a ∨ Mc b
def ItT (t : TypeId) : Prop := t = 142 ∨ t = 186 ∨ t = 235
section
variable {w w' : World} {M M' : Nat → Prop} {a c : Nat} {i : TI}
theorem ChA.type {x z : Int} {cs : List Int} (h : ChA c x z cs w M) {b : Nat} (hb : M b) : ∃ t cur, Blk w b t cur ∧ (t = 186 ∨ t = 235) := by
  obtain ⟨v, R, h1, h2, -, -, -, hM⟩ := h
  rcases (hM b).1 hb with rfl | hb
  · exact ⟨_, _, h1, .inl rfl⟩
  · obtain ⟨-, cur, h3⟩ := own_at h2 hb
    exact ⟨_, _, h3, .inr rfl⟩
theorem ItA.type (h : ItA a i w M) {b : Nat} (hb : M b) : ∃ t cur, Blk w b t cur ∧ ItT t := by
  obtain ⟨c, Mc, h1, h2, hM⟩ := h
  rcases (hM b).1 hb with rfl | hb
  · exact ⟨_, _, h1, .inl rfl⟩
  · obtain ⟨t, cur, h3, h4⟩ := h2.type hb
    exact ⟨t, cur, h3, .inr h4⟩
theorem itA_fit (a : Nat) (i : TI) : Asn.Fit 5 (ItA a i) where
  lt := fun h b hb => by
    obtain ⟨t, cur, h1, -⟩ := h.type hb
    exact h1.lt
  nob := fun h b hb cs hB => by
    obtain ⟨t, cur, h1, h2⟩ := h.type hb
    obtain rfl := one_type h1 hB
    rcases h2 with h | h | h <;> revert h <;> decide
  kept := fun ⟨c, Mc, h1, h2, hM⟩ hk k1 k2 => ⟨c, Mc, hk.blk (k1 _ ((hM _).2 (.inl rfl))) h1, (chA_fit c i.x i.z i.cs).kept h2 hk (fun b hb => k1 b ((hM b).2 (.inr hb))) k2, hM⟩
end
def ItsA : List (Nat × TI) → Asn
  | [] => fun _ M => ∀ b, ¬ M b
  | p :: L => Both (ItA p.1 p.2) (ItsA L)
section
variable {w w' : World} {M M' : Nat → Prop} {L L' : List (Nat × TI)} {a : Nat} {i : TI}
theorem itsA_fit : ∀ L : List (Nat × TI), Asn.Fit 5 (ItsA L)
  | [] => { lt := fun h b hb => absurd hb (h b), nob := fun h b hb => absurd hb (h b), kept := fun h _ _ _ => h }
  | p :: L => both_fit (itA_fit p.1 p.2) (itsA_fit L)
theorem both_assoc {P Q R : Asn} (h : Both P (Both Q R) w M) : Both Q (Both P R) w M := by
  obtain ⟨A, B, h1, ⟨C, D, h2, h3, hd, hB⟩, hd2, hM⟩ := h
  refine ⟨C, fun b => A b ∨ D b, h2, ⟨A, D, h1, h3, fun b ha hD => hd2 b ha ((hB b).2 (.inr hD)), fun _ => Iff.rfl⟩, fun b hC hAD => ?_, fun b => ?_⟩
  · rcases hAD with h | h
    · exact hd2 b h ((hB b).2 (.inl hC))
    · exact hd b hC h
  · rw [hM, hB]
    constructor
    · rintro (h | h | h)
      · exact .inr (.inl h)
      · exact .inl h
      · exact .inr (.inr h)
    · rintro (h | h | h)
      · exact .inr (.inl h)
      · exact .inl h
      · exact .inr (.inr h)
theorem both_mono {P Q Q' : Asn} (h : Both P Q w M) (k : ∀ M, Q w M → Q' w M) : Both P Q' w M := by
  obtain ⟨A, B, h1, h2, h3⟩ := h
  exact ⟨A, B, h1, k B h2, h3⟩
theorem its_perm (hp : L.Perm L') : ∀ M, ItsA L w M → ItsA L' w M := by
  induction hp with
  | nil => exact fun _ h => h
  | cons p _ ih => exact fun _ h => both_mono h ih
  | swap p q L => exact fun _ h => both_assoc h
  | trans _ _ ih1 ih2 => exact fun M h => ih2 M (ih1 M h)
theorem its_type : ∀ {L : List (Nat × TI)} {M : Nat → Prop}, ItsA L w M → ∀ {b : Nat}, M b → ∃ t cur, Blk w b t cur ∧ ItT t
  | [], _, h, b, hb => absurd hb (h b)
  | p :: L, _, ⟨A, B, h1, h2, _, hM⟩, b, hb => by
    rcases (hM b).1 hb with h | h
    · exact h1.type h
    · exact its_type h2 h
theorem its_mem : ∀ {L : List (Nat × TI)} {M : Nat → Prop}, ItsA L w M → ∀ {p : Nat × TI}, p ∈ L → ∃ M', ItA p.1 p.2 w M' ∧ ∀ b, M' b → M b
  | [], _, _, p, hp => by cases hp
  | q :: L, _, ⟨A, B, h1, h2, _, hM⟩, p, hp => by
    rcases List.mem_cons.1 hp with rfl | hp
    · exact ⟨A, h1, fun b hb => (hM b).2 (.inl hb)⟩
    · obtain ⟨M', h3, h4⟩ := its_mem h2 hp
      exact ⟨M', h3, fun b hb => (hM b).2 (.inr (h4 b hb))⟩
end
abbrev encA (a : Nat) : List Value := [.pointer (some ⟨a, 0, none⟩)]
theorem lenA (a : Nat) : (encA a).length = 1 := rfl
structure TbAt (w : World) (t s d : Nat) (v : Value) (L : List (Nat × TI)) (Ms Mi : Nat → Prop) (T : TS) : Prop where
  blk : Blk w t 135 #[.pointer (some ⟨s, 0, none⟩), .int .i64 T.seed, .int .i64 T.lim, v]
  st : StoreIs w 0 Ms s d T.d
  row : Owns w 0 128 1 encA v (L.map (·.1))
  its : ItsA L w Mi
  l : L.map (·.2) = T.l
def TbM (t s : Nat) (v : Value) (Ms Mi : Nat → Prop) (b : Nat) : Prop := b = t ∨ b = s ∨ Ms b ∨ v.ownBlock = some b ∨ Mi b
def TbA (t : Nat) (T : TS) : Asn := fun w M => ∃ s d v L Ms Mi, TbAt w t s d v L Ms Mi T ∧ ∀ b, M b ↔ TbM t s v Ms Mi b
def TbT (t : TypeId) : Prop := t = 135 ∨ t = 151 ∨ t = 200 ∨ t = 293 ∨ t = 128 ∨ ItT t
section
variable {w w' : World} {t s d : Nat} {v : Value} {L : List (Nat × TI)} {Ms Mi M K : Nat → Prop} {T : TS}
theorem TbAt.type (h : TbAt w t s d v L Ms Mi T) {b : Nat} (hb : TbM t s v Ms Mi b) : b < w.heap.size ∧ ∀ ty cs, Blk w b ty cs → TbT ty := by
  rcases hb with rfl | rfl | hb | hb | hb
  · exact ⟨h.blk.lt, fun ty cs hB => .inl (one_type hB h.blk)⟩
  · exact ⟨h.st.blk.lt, fun ty cs hB => .inr (.inl (one_type hB h.st.blk))⟩
  · obtain ⟨-, h1, h2⟩ := h.st.disk.mine hb
    refine ⟨h1, fun ty cs hB => ?_⟩
    rcases h2 ty cs hB with h | h
    · exact .inr (.inr (.inl h))
    · exact .inr (.inr (.inr (.inl h)))
  · obtain ⟨-, cur, h1⟩ := own_at h.row hb
    exact ⟨h1.lt, fun ty cs hB => .inr (.inr (.inr (.inr (.inl (one_type hB h1)))))⟩
  · obtain ⟨t', cur, h1, h2⟩ := its_type h.its hb
    exact ⟨h1.lt, fun ty cs hB => .inr (.inr (.inr (.inr (.inr (by rw [one_type hB h1]; exact h2)))))⟩
theorem TbAt.kept (h : TbAt w t s d v L Ms Mi T) (hk : Kept K w w') (k1 : ∀ b, TbM t s v Ms Mi b → K b) (k2 : ∀ b cs, Blk w b 5 cs → K b) : TbAt w' t s d v L Ms Mi T where
  blk := hk.blk (k1 _ (.inl rfl)) h.blk
  st := ⟨hk.blk (k1 _ (.inr (.inl rfl))) h.st.blk, h.st.disk.kept hk (fun b hb => k1 b (.inr (.inr (.inl hb)))) (fun b hb => by
    rcases hb with hb | ⟨cur, hb⟩
    · omega
    · exact k2 b cur hb), Nat.zero_le _⟩
  row := h.row.keep hk fun b hb => k1 b (.inr (.inr (.inr (.inl hb))))
  its := (itsA_fit L).kept h.its hk (fun b hb => k1 b (.inr (.inr (.inr (.inr hb))))) k2
  l := h.l
theorem TbAt.on (h : TbAt w t s d v L Ms Mi T) (hb : Below w.heap.size w w') : TbAt w' t s d v L Ms Mi T := h.kept ((Kept.of_below hb).mono (K' := fun _ => True) fun _ _ => trivial) (fun _ _ => trivial) (fun _ _ _ => trivial)
theorem tbA_fit (t : Nat) (T : TS) : Asn.Fit 5 (TbA t T) where
  lt := fun ⟨s, d, v, L, Ms, Mi, h, hM⟩ b hb => (h.type ((hM b).1 hb)).1
  nob := fun ⟨s, d, v, L, Ms, Mi, h, hM⟩ b hb cs hB => by
    rcases (h.type ((hM b).1 hb)).2 _ _ hB with h | h | h | h | h | h | h | h <;> revert h <;> decide
  kept := fun ⟨s, d, v, L, Ms, Mi, h, hM⟩ hk k1 k2 => ⟨s, d, v, L, Ms, Mi, h.kept hk (fun b hb => k1 b ((hM b).2 hb)) k2, hM⟩
theorem TbA.type (h : TbA t T w M) {b : Nat} (hb : M b) : b < w.heap.size ∧ ∀ ty cs, Blk w b ty cs → TbT ty := by
  obtain ⟨s, d, v, L, Ms, Mi, h, hM⟩ := h
  exact h.type ((hM b).1 hb)
end
end Go.Proofs.YtmbccnioijokfaaGreatDoor

namespace Go.Proofs.YtmbccnioijokfaaGreatDoor
open Go.RowKit
attribute [local go_sem] Oper.semAt_some
set_option maxRecDepth 100000 in
set_option maxHeartbeats 2000000 in
theorem find1_c (a g : Nat) (i : TI) (px pz : Int) (w : World) (M : Nat → Prop) (h : ItA a i w M) (hg : Blk w g 123 #[.int .i64 px, .int .i64 pz]) :
    Calls Tryz.prog 119 #[.pointer (some ⟨a, 0, none⟩), .pointer (some ⟨g, 0, none⟩)] w fun r w' => r = .returned (.bool (i.is (px, pz))) ∧ Below w.heap.size w w' := by
  obtain ⟨c, Mc, hB, ⟨v, R, hC, -⟩, -⟩ := h
  have pe := pos_eq
  have pg := pos_guard
  have k0 := fun d os => (hB.re d os).cell 0
  have c0 := fun d os => (hC.re d os).cell 0
  have c1 := fun d os => (hC.re d os).cell 1
  obtain ⟨p0, p1⟩ := hg.rep
  have HP := Lib.hid fun W => cplace_c i.x i.z W
  clear hB hC hg
  unfold TI.is
  go_enter Tryz.func119, Tryz.ntmps119
  go_upto_region 1 with (fail)
  refine wp_region_quiet_below (by kernel_rfl) (by kernel_rfl) ?_
  repeat (go_big_quiet_step (exact Calls.regrown_of (HP.out _)))
  refine wpQuiet_nil ?_
  intro w' hw'
  obtain ⟨rg, rfl⟩ := hw'
  go_wp2_with fail
  go_returns
  exact ⟨rfl, below_regrown w _ _⟩
theorem rd_ptr {w : World} {q : Option Addr} {aa : List Nat} (h : Rd w q 1 encA aa) : Rd w q 1 enc1 (aa.map fun a => Value.pointer (some ⟨a, 0, none⟩)) := fun hn => by
  obtain ⟨g, o, hq, h1⟩ := h (by simpa using hn)
  refine ⟨g, o, hq, fun i v hv j u hu => ?_⟩
  rw [List.getElem?_map] at hv
  cases ha : aa[i]? with
  | none => rw [ha] at hv; cases hv
  | some a =>
    rw [ha] at hv
    obtain rfl : Value.pointer (some ⟨a, 0, none⟩) = v := by simpa using hv
    exact h1 i a ha j u hu
theorem find_first {T : TS} {p : Int × Int} {k : Int} (h : FirstIs (fun j => ((T.l[j]?).map (TI.is p)).getD false) T.l.length k) : k = T.find p := by
  unfold TS.find
  rcases h with ⟨rfl, h⟩ | ⟨m, hm, rfl, h1, h2⟩
  · refine (findI_none (fun i hi => ?_) 0).symm
    obtain ⟨j, hj⟩ := List.getElem?_of_mem hi
    have := h j (List.getElem?_eq_some_iff.1 hj).1
    dsimp only at this
    rw [hj] at this
    exact this
  · obtain ⟨i, hi⟩ : ∃ i, T.l[m]? = some i := ⟨_, List.getElem?_eq_getElem hm⟩
    dsimp only at h1
    rw [hi] at h1
    have := findI_at hi h1 (fun j y hj hy => by have := h2 j hj; dsimp only at this; rw [hy] at this; exact this) 0
    rw [this]; simp
set_option maxRecDepth 100000 in
set_option maxHeartbeats 2000000 in
theorem tfind_c (t s d : Nat) (v : Value) (L : List (Nat × TI)) (Ms Mi : Nat → Prop) (T : TS) (px pz : Int) (w : World) (h : TbAt w t s d v L Ms Mi T) (hn : T.l.length ≤ 1000) :
    Calls Tryz.prog 79 #[.pointer (some ⟨t, 0, none⟩), .agg #[.int .i64 px, .int .i64 pz]] w fun r w' => r = .returned (.int .i64 (T.find (px, pz))) ∧ Below w.heap.size w w' := by
  have hmf : ∀ (fn : Fn) (first cap : Array Value) (w : World), (Instr.makeFunc fn first cap).run Tryz.prog w = .ok (.func fn first cap) w := fun _ _ _ _ => rfl
  obtain ⟨W, hW⟩ : ∃ W, W = w.alloc (.cells #[.int .i64 px, .int .i64 pz] 123) := ⟨_, rfl⟩
  have H : Below w.heap.size w W := by rw [hW]; exact (Below.refl _ _).alloc (Nat.le_refl _) _
  have X : Blk W w.heap.size 123 #[.int .i64 px, .int .i64 pz] := by rw [hW]; exact Blk.new' rfl
  have h1 := h.on H
  have hll : L.length = T.l.length := by rw [← h.l, List.length_map]
  obtain ⟨q, cap, hv, -, -, hrd, -⟩ := h1.row.form lenA
  have hlen : ((L.map (·.1)).map fun a => Value.pointer (some ⟨a, 0, none⟩)).length = T.l.length := by simp [hll]
  have HF := Lib.hid (tidxf_c q cap _ (by rw [hlen]; omega) 119 #[.pointer (some ⟨w.heap.size, 0, none⟩)] (fun j => ((T.l[j]?).map (TI.is (px, pz))).getD false) W (rd_ptr hrd) (enters_of Tryz.func119 (by kernel_rfl) rfl) (fun k u hu W2 h2 => by
    rw [List.getElem?_map, List.getElem?_map] at hu
    cases hk : L[k]? with
    | none => rw [hk] at hu; cases hu
    | some p =>
      rw [hk] at hu
      obtain rfl : Value.pointer (some ⟨p.1, 0, none⟩) = u := by simpa using hu
      have hti : T.l[k]? = some p.2 := by rw [← h.l, List.getElem?_map, hk]; rfl
      obtain ⟨M', h3, -⟩ := its_mem (h1.on h2).its (List.mem_of_getElem? hk)
      dsimp only
      rw [hti]
      exact find1_c p.1 w.heap.size p.2 px pz W2 M' h3 (X.on h2)))
  rw [hlen] at HF
  have hB := h1.blk
  rw [hv] at hB
  rw [show (L.map (·.1)).length = T.l.length by simp [hll]] at hB
  have t3 := hB.cell 3
  have HH := Lib.hid H
  clear h1 hll hlen hv hrd hB X H h hn
  go_enter Tryz.func79, Tryz.ntmps79
  go_upto_region 1 with (fail)
  rw [← hW]
  clear hW
  go_wp2_with (go_at_call 118; refine HF.out.mono ?_; rintro e_ w1 ⟨k, rfl, hk, g1⟩; have HK := Lib.hid hk; have G1 := Lib.hid g1; clear hk g1)
  go_returns
  exact ⟨ret_i (find_first HK.out), after HH.out G1.out⟩
theorem atI_neg {i : TI} {x y z : Int} (h : y < 0) : i.at x y z = 1 := by unfold TI.at; rw [if_pos h]
theorem atI_no {i : TI} {x y z : Int} (h : ¬ y < 0) (h2 : inY y = false) : i.at x y z = 0 := by unfold TI.at; rw [if_neg h, h2]; rfl
theorem atI_yes {i : TI} {x y z : Int} (h : ¬ y < 0) (h2 : inY y = true) : i.at x y z = chB i.cs x y z := by unfold TI.at; rw [if_neg h, h2]; rfl
set_option maxRecDepth 100000 in
set_option maxHeartbeats 4000000 in
theorem tat_c (t s d : Nat) (v : Value) (L : List (Nat × TI)) (Ms Mi : Nat → Prop) (T : TS) (x y z : Int) (hx : In64 x) (hz : In64 z) (w : World) (h : TbAt w t s d v L Ms Mi T) (hn : T.l.length ≤ 1000) :
    Calls Tryz.prog 67 #[.pointer (some ⟨t, 0, none⟩), .agg #[.int .i64 x, .int .i64 y, .int .i64 z]] w fun r w' => r = .returned (.int .i64 (T.at x y z)) ∧ Below w.heap.size w w' := by
  obtain ⟨W, hW⟩ : ∃ W, W = w.alloc (.cells #[.int .i64 x, .int .i64 y, .int .i64 z] 43) := ⟨_, rfl⟩
  have H : Below w.heap.size w W := by rw [hW]; exact (Below.refl _ _).alloc (Nat.le_refl _) _
  have C : Blk W w.heap.size 43 #[.int .i64 x, .int .i64 y, .int .i64 z] := by rw [hW]; exact Blk.new' rfl
  have h1 := h.on H
  have HC := Lib.hid (cchunk_c x y z hx hz W)
  have HF := Lib.hid fun W2 (h2 : Below W.heap.size W W2) => tfind_c t s d v L Ms Mi T (x / 16) (z / 16) W2 (h1.on h2) hn
  have hway := find_ways T (chkOf x z)
  have HX := Lib.hid (And.intro hx hz)
  have HT := Lib.hid h1
  have HH := Lib.hid H
  have HCC := Lib.hid C
  obtain ⟨c0, c1, c2, -, -, -⟩ := C.c3
  unfold TS.at
  have hcc : T.find (x / 16, z / 16) = T.find (chkOf x z) := rfl
  rw [hcc] at HF
  clear h hn h1 H C hx hz hcc
  rcases hway with ⟨e1, e2⟩ | ⟨n, i, e1, e2, e3, e4⟩
  · rw [e2]
    rw [e1] at HF
    clear e1 e2
    dsimp only
    go_enter Tryz.func67, Tryz.ntmps67
    go_upto_region 1 with (fail)
    rw [← hW]
    clear hW
    go_wp2_with first
      | (go_at_call 108; refine HC.out.mono ?_; rintro e_ w1 ⟨rfl, g1⟩; have G1 := Lib.hid g1; have HF2 := Lib.hid (HF.out w1 g1); clear g1)
      | (go_at_call 79; refine HF2.out.mono ?_; rintro e_ w2 ⟨rfl, g2⟩; have G2 := Lib.hid g2; clear g2)
    go_returns
    exact ⟨rfl, after (after HH.out G1.out) G2.out⟩
  · rw [e4]
    rw [e1] at HF
    dsimp only
    have hii : i.x = x / 16 ∧ i.z = z / 16 := posB_iff.1 e3
    by_cases hy : y < 0
    · have hv := Lib.hid (atI_neg (i := i) (x := x) (z := z) hy)
      rw [hv.out]
      clear e1 e2 e3 e4 hii
      have hn0 : (0 : Int) ≤ n := by omega
      go_enter Tryz.func67, Tryz.ntmps67
      go_upto_region 1 with (fail)
      rw [← hW]
      clear hW
      go_upto_region 4 with first
        | (go_at_call 108; refine HC.out.mono ?_; rintro e_ w1 ⟨rfl, g1⟩; have G1 := Lib.hid g1; have HF2 := Lib.hid (HF.out w1 g1); clear g1)
        | (go_at_call 79; refine HF2.out.mono ?_; rintro e_ w2 ⟨rfl, g2⟩; have G2 := Lib.hid (after G1.out g2); clear g2)
      clear c0 c1 c2
      obtain ⟨c0, c1, c2, -, -, -⟩ := (HCC.out.on G2.out).c3
      go_wp2_with fail
      go_returns
      exact ⟨rfl, after HH.out G2.out⟩
    · obtain ⟨pr, hpr⟩ : ∃ pr, L[n]? = some pr := by
        have hl := HT.out.l
        rw [← hl, List.getElem?_map] at e2
        cases hp : L[n]? with
        | none => rw [hp] at e2; cases e2
        | some pr => exact ⟨pr, rfl⟩
      have hpi : pr.2 = i := by
        have hl := HT.out.l
        rw [← hl, List.getElem?_map, hpr] at e2
        simpa using e2
      obtain ⟨Mi', hit, -⟩ := its_mem HT.out.its (List.mem_of_getElem? hpr)
      rw [hpi] at hit
      obtain ⟨c, Mc, hIB, hCh, -⟩ := hit
      obtain ⟨q, cap, hv, hc1, -, hrd, hq1, hq2⟩ := HT.out.row.form lenA
      have hnl : n < (L.map (·.1)).length := by rw [List.length_map]; exact (List.getElem?_eq_some_iff.1 hpr).1
      obtain ⟨g, rfl⟩ := hq2 (by omega)
      have r0 : W.cell? ⟨g, n, none⟩ = some (.pointer (some ⟨pr.1, 0, none⟩)) := by
        have := hrd.at (i := n) (x := pr.1) (by rw [List.getElem?_map, hpr]; rfl) (j := 0) rfl
        simpa using this
      have hB := HT.out.blk
      rw [hv] at hB
      have HCA := Lib.hid fun W2 (h2 : Below W.heap.size W W2) => chat_c c x y z (x / 16) (z / 16) i.cs W2 Mc (by rw [← hii.1, ← hii.2]; exact (chA_fit _ _ _ _).on hCh h2) HX.out.1 HX.out.2 rfl rfl
      generalize (L.map (·.1)).length = ln at *
      have HTB := Lib.hid hB
      have HIB := Lib.hid hIB
      have HR0 := Lib.hid r0
      have hn0 : (0 : Int) ≤ n := by omega
      have hn1 : (n : Int) < (ln : Int) := by omega
      have hy0 : 0 ≤ y := by omega
      clear e1 e2 e3 e4 hii hpr hpi hCh hv hc1 hrd hq1 hq2 hnl hB hIB HT r0
      have tac_true : inY y = true → Calls Tryz.prog 67 #[.pointer (some ⟨t, 0, none⟩), .agg #[.int .i64 x, .int .i64 y, .int .i64 z]] w fun r w' => r = .returned (.int .i64 (i.at x y z)) ∧ Below w.heap.size w w' := by
        intro hyc
        have hvv := Lib.hid (atI_yes (i := i) (x := x) (z := z) hy hyc)
        rw [hvv.out]
        first | rw [show atT i.cs x y z = _ from atT_yes hyc] at HCA | rw [show atT i.cs x y z = _ from atT_no hyc] at HCA
        clear hyc hvv hy
        generalize chB i.cs x y z = bb at *
        go_enter Tryz.func67, Tryz.ntmps67
        go_upto_region 1 with (fail)
        rw [← hW]
        clear hW
        go_upto_region 4 with first
          | (go_at_call 108; refine HC.out.mono ?_; rintro e_ w1 ⟨rfl, g1⟩; have G1 := Lib.hid g1; have HF2 := Lib.hid (HF.out w1 g1); clear g1)
          | (go_at_call 79; refine HF2.out.mono ?_; rintro e_ w2 ⟨rfl, g2⟩; have G2 := Lib.hid (after G1.out g2); clear g2)
        clear c0 c1 c2
        obtain ⟨c0, c1, c2, -, -, -⟩ := (HCC.out.on G2.out).c3
        go_upto_region 6 with (fail)
        clear c0 c1 c2
        obtain ⟨c0, c1, c2⟩ := (HCC.out.on G2.out).re3
        have b3 := fun d os => ((HTB.out.on G2.out).re d os).cell 3
        have i0 := fun d os => ((HIB.out.on G2.out).re d os).cell 0
        have r0 := fun d os => cell_regrown ((G2.out.cell (p := ⟨g, n, none⟩) (cell_lt HR0.out)).trans HR0.out) d os
        have HCB := Lib.hid fun d os => HCA.out (Go.Sort.grow (redrawn w2 d) os) (after G2.out (below_regrown _ _ _))
        refine wp_region_quiet_below (by kernel_rfl) (by kernel_rfl) ?_
        repeat (go_big_quiet_step (exact Calls.regrown_of (HCB.out _ _)))
        refine wpQuiet_nil ?_
        intro w' hw'
        obtain ⟨rg, rfl⟩ := hw'
        go_wp2_with fail
        go_returns
        exact ⟨rfl, after (after HH.out G2.out) (below_regrown _ _ _)⟩
      have tac_false : inY y = false → Calls Tryz.prog 67 #[.pointer (some ⟨t, 0, none⟩), .agg #[.int .i64 x, .int .i64 y, .int .i64 z]] w fun r w' => r = .returned (.int .i64 (i.at x y z)) ∧ Below w.heap.size w w' := by
        intro hyc
        have hvv := Lib.hid (atI_no (i := i) (x := x) (z := z) hy hyc)
        rw [hvv.out]
        first | rw [show atT i.cs x y z = _ from atT_yes hyc] at HCA | rw [show atT i.cs x y z = _ from atT_no hyc] at HCA
        clear hyc hvv hy
        generalize chB i.cs x y z = bb at *
        go_enter Tryz.func67, Tryz.ntmps67
        go_upto_region 1 with (fail)
        rw [← hW]
        clear hW
        go_upto_region 4 with first
          | (go_at_call 108; refine HC.out.mono ?_; rintro e_ w1 ⟨rfl, g1⟩; have G1 := Lib.hid g1; have HF2 := Lib.hid (HF.out w1 g1); clear g1)
          | (go_at_call 79; refine HF2.out.mono ?_; rintro e_ w2 ⟨rfl, g2⟩; have G2 := Lib.hid (after G1.out g2); clear g2)
        clear c0 c1 c2
        obtain ⟨c0, c1, c2, -, -, -⟩ := (HCC.out.on G2.out).c3
        go_upto_region 6 with (fail)
        clear c0 c1 c2
        obtain ⟨c0, c1, c2⟩ := (HCC.out.on G2.out).re3
        have b3 := fun d os => ((HTB.out.on G2.out).re d os).cell 3
        have i0 := fun d os => ((HIB.out.on G2.out).re d os).cell 0
        have r0 := fun d os => cell_regrown ((G2.out.cell (p := ⟨g, n, none⟩) (cell_lt HR0.out)).trans HR0.out) d os
        have HCB := Lib.hid fun d os => HCA.out (Go.Sort.grow (redrawn w2 d) os) (after G2.out (below_regrown _ _ _))
        refine wp_region_quiet_below (by kernel_rfl) (by kernel_rfl) ?_
        repeat (go_big_quiet_step (exact Calls.regrown_of (HCB.out _ _)))
        refine wpQuiet_nil ?_
        intro w' hw'
        obtain ⟨rg, rfl⟩ := hw'
        go_wp2_with fail
        go_returns
        exact ⟨rfl, after (after HH.out G2.out) (below_regrown _ _ _)⟩
      cases hyc : inY y
      · exact tac_false hyc
      · exact tac_true hyc
end Go.Proofs.YtmbccnioijokfaaGreatDoor

namespace Go.Proofs.YtmbccnioijokfaaGreatDoor
open Go.RowKit
attribute [local go_sem] Oper.semAt_some
def CutA (B0 g0 : Nat) (xs : List Nat) (v : Value) (w : World) : Prop := ∃ q c, v = .slice q xs.length c ∧ (Owns w B0 128 1 encA v xs ∨ (c = xs.length ∧ q = some ⟨g0, 0, none⟩ ∧ Rd w q 1 encA xs))
theorem CutA.on {B0 g0 : Nat} {xs : List Nat} {v : Value} {w w' : World} (h : CutA B0 g0 xs v w) (hb : Below w.heap.size w w') : CutA B0 g0 xs v w' := by
  obtain ⟨q, c, h1, h2⟩ := h
  exact ⟨q, c, h1, h2.imp (fun h => h.on hb) fun h => ⟨h.1, h.2.1, h.2.2.on hb⟩⟩
theorem infP : (Tryz.prog.info? 128).map (fun i => (i.zero, i.size, i.bytes)) = some (some (.pointer none), 1, 8) := by kernel_rfl
theorem run_cut {w : World} {g n c : Nat} {xs : List Nat} (hn : n < xs.length) (hx : Rd w (some ⟨g, 0, none⟩) 1 encA xs) (hc : xs.length ≤ c) (hm : xs.length ≤ 1000) :
    ∃ v' w', (Builtin.append_ #[133, 133] 133 #[.slice (some ⟨g, 0, none⟩) n n, .slice (if c - (n + 1) = 0 then some ⟨g, 0, none⟩ else some ⟨g, n + 1, none⟩) (xs.length - (n + 1)) (c - (n + 1))]).run Tryz.prog w = .ok v' w' ∧ CutA w.heap.size g (xs.eraseIdx n) v' w' ∧ Below w.heap.size w w' := by
  have e : xs.eraseIdx n = xs.take n ++ xs.drop (n + 1) := List.eraseIdx_eq_take_drop_succ xs n
  have l1 : (xs.take n).length = n := by rw [List.length_take]; omega
  have l2 : (xs.drop (n + 1)).length = xs.length - (n + 1) := List.length_drop
  have one : ∀ x : Nat, ∀ u ∈ encA x, u.oneCell' = true := fun x u hu => by simp at hu; rw [hu]; rfl
  by_cases hl : xs.length = n + 1
  · have hd : xs.drop (n + 1) = [] := List.drop_eq_nil_of_le (by omega)
    obtain ⟨i, hi, hz, hs, hby⟩ := info_parts infP
    have hsrc : ∀ q2 c2, Src Tryz.prog i.size 133 (.slice (some q2) 0 c2) 0 [] w := fun q2 c2 => Src.ofSlice w Tryz.underlying133 q2 0 c2 [] (by simp) (by simp) (by simp)
    rw [show xs.length - (n + 1) = 0 by omega]
    have hr : ∀ q2 : Addr, (Builtin.append_ #[133, 133] 133 #[.slice (some ⟨g, 0, none⟩) n n, .slice (some q2) 0 (c - (n + 1))]).run Tryz.prog w = .ok (.slice (some ⟨g, 0, none⟩) n n) w := fun q2 => run_append_nothing w 133 133 133 128 i Tryz.underlying133 hi (some ⟨g, 0, none⟩) n n (Nat.le_refl _) _ (hsrc q2 _)
    refine ⟨.slice (some ⟨g, 0, none⟩) n n, w, by split <;> exact hr _, ⟨some ⟨g, 0, none⟩, n, by rw [e, hd, List.append_nil, l1], .inr ⟨by rw [e, hd, List.append_nil, l1], rfl, ?_⟩⟩, Below.refl _ _⟩
    rw [e, hd, List.append_nil]
    exact hx.take n
  · rw [if_neg (by omega)]
    have hy : Rd w (some ⟨g, n + 1, none⟩) 1 encA (xs.drop (n + 1)) := by have := hx.drop (n + 1); rwa [Nat.zero_add, Nat.mul_one] at this
    obtain ⟨cap, w', h1, h2, h3⟩ := run_fresh (P := Tryz.prog) (w := w) (e := 128) (size := 1) (enc := encA) (xs := xs.take n) (ys := xs.drop (n + 1)) (q := some ⟨g, 0, none⟩) (q2 := some ⟨g, n + 1, none⟩) (c := n) (c2 := c - (n + 1)) (ts := 133) (ty := 133) (z := .pointer none) (bytes := 8) Tryz.underlying133 infP rfl (by decide) lenA (fun x _ => one x) (fun x _ => one x) (hx.take n) hy (by omega) (by omega)
    rw [l1, l2] at h1 h2
    rw [← e] at h2
    exact ⟨_, w', h1, ⟨_, cap, by rw [e, List.length_append, l1, l2], .inl h2⟩, h3⟩
end Go.Proofs.YtmbccnioijokfaaGreatDoor

namespace Go.Proofs.YtmbccnioijokfaaGreatDoor
open Go.RowKit
attribute [local go_sem] Oper.semAt_some
theorem CutA.lowA {B C g0 : Nat} {xs : List Nat} {v : Value} {w : World} (h : CutA C g0 xs v w) (hb : B ≤ C) : CutA B g0 xs v w := by
  obtain ⟨q, c, h1, h2⟩ := h
  exact ⟨q, c, h1, h2.imp_left fun h => h.lowB hb⟩
theorem rd_keep {w w' : World} {q : Option Addr} {size : Nat} {α : Type} {enc : α → List Value} {xs : List α} {K : Nat → Prop} (h : Rd w q size enc xs) (hk : Kept K w w') (hK : ∀ a, q = some a → K a.block) : Rd w' q size enc xs := fun hn => by
  obtain ⟨g, o, hq, h1⟩ := h hn
  refine ⟨g, o, hq, fun i x hx j u hu => ?_⟩
  have h2 := h1 i x hx j u hu
  rw [World.cell?_of_block (hk.block g (cell_lt h2) (hK _ hq))]
  exact h2
theorem sumAt_append {P : Program} {D : List Nat} {o : Oper} {a : Act} {R : Rel} {w : World} (s x : Operand) (t tn : TypeId) (ho : o.op = .call { callee := .builtin .append, args := #[s, x], argTypes := #[t, tn] }) (vs vx : Value) (hs : a.eval s = vs) (hx : a.eval x = vx)
    (v' : Value) (w' : World) (hr : (Builtin.append_ #[t, tn] o.type #[vs, vx]).run P w = .ok v' w') (hk : Kept (fun b => b ∉ D) w w') (hR : R v' w') : sumAt P D o a R w := by
  have e : (execOp a.eval o).run P w = .ok (.value v') w' := by simp [execOp, ho, resolve, invoke, builtin, hs, hx, hr, Result.andThen]
  unfold sumAt
  rw [e]
  exact ⟨hk, hR⟩
def OutR (t s a g : Nat) (se li : Int) (xs : List Nat) (w : World) (r : Ending) (w' : World) : Prop := r = .returned (.pointer (some ⟨a, 0, none⟩)) ∧ Kept (fun b => b ≠ t) w w' ∧ ∃ q c, Blk w' t 135 #[.pointer (some ⟨s, 0, none⟩), .int .i64 se, .int .i64 li, .slice q xs.length c] ∧ CutA w.heap.size g xs (.slice q xs.length c) w'
set_option maxRecDepth 100000 in
set_option maxHeartbeats 4000000 in
theorem tout_c (t s g n c a : Nat) (se li : Int) (xs : List Nat) (w : World) (hB : Blk w t 135 #[.pointer (some ⟨s, 0, none⟩), .int .i64 se, .int .i64 li, .slice (some ⟨g, 0, none⟩) xs.length c]) (hx : Rd w (some ⟨g, 0, none⟩) 1 encA xs) (hc : xs.length ≤ c) (hcm : c ≤ maxLen) (hm : xs.length ≤ 1000) (hn : xs[n]? = some a) (hgt : g ≠ t) :
    Calls Tryz.prog 86 #[.pointer (some ⟨t, 0, none⟩), .int .i64 n] w fun r w' => OutR t s a g se li (xs.eraseIdx n) w r w' := by
  have hnl : n < xs.length := (List.getElem?_eq_some_iff.1 hn).1
  have hel : (xs.eraseIdx n).length = xs.length - 1 := by rw [List.length_eraseIdx, if_pos hnl]
  unfold maxLen at hcm
  have r0 : w.cell? ⟨g, n, none⟩ = some (.pointer (some ⟨a, 0, none⟩)) := by have := hx.at hn (j := 0) rfl; simpa using this
  have HRUN := Lib.hid fun W (h : Below w.heap.size w W) => run_cut hnl (hx.on h) hc hm
  have hn0 : (0 : Int) ≤ n := by omega
  have hn1 : (n : Int) < (xs.length : Int) := by omega
  have hn2 : -9223372036854775808 ≤ (n : Int) + 1 ∧ (n : Int) + 1 ≤ 9223372036854775807 := by omega
  have hn3 : (n : Int) + 1 ≤ (c : Int) := by omega
  have hn4 : (n : Int) + 1 ≤ (xs.length : Int) := by omega
  have hw : IntKind.i64.wrap ((n : Int) + 1) = (n : Int) + 1 := IntWalk.i64_in _ (by omega)
  have hn5 : n ≤ c := by omega
  have hn8 : (0 : Int) ≤ (n : Int) + 1 := by omega
  have hn6 : n + 1 ≤ c := by omega
  have hn7 : n + 1 ≤ xs.length := by omega
  have t3 := fun d os => (hB.re d os).cell 3
  have HB := Lib.hid hB
  have HGT := Lib.hid hgt
  have HEL := Lib.hid hel
  clear hn hx hB hel hgt
  go_enter Tryz.func86, Tryz.ntmps86
  have t3' := HB.out.cell 3
  go_upto_region 2 with (fail)
  clear t3'
  by_cases hcn : c = n + 1
  · subst hcn
    have hxl : xs.length = n + 1 := by omega
    have HXL := Lib.hid hxl
    have ha1 : (n : Int) ≤ (n : Int) + 1 := by omega
    have ha2 : (n : Int) + 1 ≤ (n : Int) + 1 := by omega
    clear hxl
    refine wp_sched [0, 0, 0, 0, 0, 0, 0, 0, 0, 0, 0, 0, 0, 0, 0, 2, 1, 1, 3] (fun _ v w' => CutA w.heap.size g (xs.eraseIdx n) v w') (by kernel_rfl) (by kernel_rfl) (fun _ _ _ _ h k => h.on k) ?_
    repeat (first | (refine wpQs_s ?_) | (refine wpQs_q (fun K hK => ?_); go_simp; first | (refine hK _ ?_; clear hK K) | (apply Exists.intro; refine ⟨fun _ => ?_, hK _ ?_⟩; (fail); clear hK K)) | (refine wpQs_f (fun K hK => ?_); go_simp; refine hK _ ?_; clear hK K))
    refine wpQs_nil ?_
    repeat (first | (refine wpLs_skip ?_) | (refine wpLs_one ?lsA (fun v_ => ?_); case lsA => (intro w_ hw_ hp_; (obtain ⟨v9, w9, hr9, hC9, hb9⟩ := HRUN.out w_ (msd_kept hw_).none; rw [Nat.sub_self, if_pos rfl, show xs.length - (n + 1) = 0 by have := HXL.out; omega] at hr9; exact sumAt_append _ _ _ _ rfl _ _ rfl rfl v9 w9 hr9 ((Kept.of_below hb9).mono fun _ _ => trivial) (hC9.lowA (msd_kept hw_).none.size)))))
    refine wpLs_nilB ?_
    simp only [tails]
    rintro W3 h3 ⟨-, q, c2, rfl, hC⟩
    have hB3 := HB.out.on h3
    have f3 := hB3.frz 3
    have k3 := hB3.cell 3
    have HB3 := Lib.hid hB3
    have HC := Lib.hid hC
    have H3 := Lib.hid h3
    clear hB3 hC h3 t3 r0 HRUN
    go_wp2_with fail
    go_returns
    refine ⟨rfl, ((Kept.of_below H3.out).mono fun _ _ => trivial).setCell (p := ⟨t, 3, none⟩) (by simp) _, q, c2, HB3.out.set_ 3 _, q, c2, rfl, ?_⟩
    rcases HC.out with h | ⟨h1, h2, h4⟩
    · refine .inl (h.keep (K := fun b => b ≠ t) ((Kept.refl _ _).setCell (p := ⟨t, 3, none⟩) (by simp) _) fun b hb e => ?_)
      obtain ⟨-, cur, h5⟩ := own_at h hb
      subst e
      exact absurd (one_type h5 HB3.out) (by decide)
    · exact .inr ⟨h1, h2, rd_keep h4 (K := fun b => b ≠ t) ((Kept.refl _ _).setCell (p := ⟨t, 3, none⟩) (by simp) _) (fun a ha => by rw [h2] at ha; obtain rfl := Option.some.inj ha; exact HGT.out)⟩
  · have tok_ := trivial
    clear tok_
    refine wp_sched [0, 0, 0, 0, 0, 0, 0, 0, 0, 0, 0, 0, 0, 0, 0, 2, 1, 1, 3] (fun _ v w' => CutA w.heap.size g (xs.eraseIdx n) v w') (by kernel_rfl) (by kernel_rfl) (fun _ _ _ _ h k => h.on k) ?_
    repeat (first | (refine wpQs_s ?_) | (refine wpQs_q (fun K hK => ?_); go_simp; first | (refine hK _ ?_; clear hK K) | (apply Exists.intro; refine ⟨fun _ => ?_, hK _ ?_⟩; (fail); clear hK K)) | (refine wpQs_f (fun K hK => ?_); go_simp; refine hK _ ?_; clear hK K))
    refine wpQs_nil ?_
    repeat (first | (refine wpLs_skip ?_) | (refine wpLs_one ?lsA (fun v_ => ?_); case lsA => (intro w_ hw_ hp_; (obtain ⟨v9, w9, hr9, hC9, hb9⟩ := HRUN.out w_ (msd_kept hw_).none; rw [if_neg (by omega)] at hr9; exact sumAt_append _ _ _ _ rfl _ _ rfl rfl v9 w9 hr9 ((Kept.of_below hb9).mono fun _ _ => trivial) (hC9.lowA (msd_kept hw_).none.size)))))
    refine wpLs_nilB ?_
    simp only [tails]
    rintro W3 h3 ⟨-, q, c2, rfl, hC⟩
    have hB3 := HB.out.on h3
    have f3 := hB3.frz 3
    have k3 := hB3.cell 3
    have HB3 := Lib.hid hB3
    have HC := Lib.hid hC
    have H3 := Lib.hid h3
    clear hB3 hC h3 t3 r0 HRUN
    go_wp2_with fail
    go_returns
    refine ⟨rfl, ((Kept.of_below H3.out).mono fun _ _ => trivial).setCell (p := ⟨t, 3, none⟩) (by simp) _, q, c2, HB3.out.set_ 3 _, q, c2, rfl, ?_⟩
    rcases HC.out with h | ⟨h1, h2, h4⟩
    · refine .inl (h.keep (K := fun b => b ≠ t) ((Kept.refl _ _).setCell (p := ⟨t, 3, none⟩) (by simp) _) fun b hb e => ?_)
      obtain ⟨-, cur, h5⟩ := own_at h hb
      subst e
      exact absurd (one_type h5 HB3.out) (by decide)
    · exact .inr ⟨h1, h2, rd_keep h4 (K := fun b => b ≠ t) ((Kept.refl _ _).setCell (p := ⟨t, 3, none⟩) (by simp) _) (fun a ha => by rw [h2] at ha; obtain rfl := Option.some.inj ha; exact HGT.out)⟩
end Go.Proofs.YtmbccnioijokfaaGreatDoor

namespace Go.Proofs.YtmbccnioijokfaaGreatDoor
open Go.RowKit
attribute [local go_sem] Oper.semAt_some
theorem push_cut {B0 g0 b a : Nat} {xs : List Nat} {v : Value} {W : World} (h : CutA B0 g0 xs v W) (hx : W.cell? ⟨b, 0, none⟩ = some (.pointer (some ⟨a, 0, none⟩))) (hb : B0 ≤ W.heap.size) (hm : xs.length ≤ 1000) :
    ∃ q c w', (Builtin.append_ #[133, 133] 133 #[v, .slice (some ⟨b, 0, none⟩) 1 1]).run Tryz.prog W = .ok (.slice q (xs.length + 1) c) w' ∧ Owns w' B0 128 1 encA (.slice q (xs.length + 1) c) (xs ++ [a]) ∧ Below B0 W w' := by
  have one : ∀ x : Nat, ∀ u ∈ encA x, u.oneCell' = true := fun x u hu => by simp at hu; rw [hu]; rfl
  have hcell : ∀ j u, (encA a)[j]? = some u → W.cell? ⟨b, j, none⟩ = some u := fun j u hu => by
    cases j with
    | zero => rw [hx]; simpa using hu
    | succ j => cases hu
  obtain ⟨q, c, rfl, h | ⟨rfl, h1, h2⟩⟩ := h
  · obtain ⟨v', w', h3, h4, -, h6, g, cp, rfl⟩ := run_push (P := Tryz.prog) (w := W) (base := B0) (e := 128) (size := 1) (enc := encA) (v := .slice q xs.length c) (xs := xs) (ts := 133) (ty := 133) (z := .pointer none) (bytes := 8) (b := b) (x := a) Tryz.underlying133 infP rfl (by decide) (by decide) rfl (one a) h hcell (by omega) hb
    exact ⟨_, cp, w', h3, h4, h6⟩
  · have hy : Rd W (some ⟨b, 0, none⟩) 1 encA [a] := fun _ => ⟨b, 0, rfl, fun i x hx' j u hu => by
      cases i with
      | zero =>
        obtain rfl : a = x := by simpa using hx'
        have := hcell j u hu
        simpa using this
      | succ i => cases hx'⟩
    obtain ⟨cap, w', h3, h4, h5⟩ := run_fresh (P := Tryz.prog) (w := W) (e := 128) (size := 1) (enc := encA) (xs := xs) (ys := [a]) (q := q) (q2 := some ⟨b, 0, none⟩) (c := xs.length) (c2 := 1) (ts := 133) (ty := 133) (z := .pointer none) (bytes := 8) Tryz.underlying133 infP rfl (by decide) lenA (fun x _ => one x) (fun x _ => one x) h2 hy (by simp) (by simp; omega)
    exact ⟨_, cap, w', h3, h4.lowB hb, h5.mono hb⟩
theorem erase_map {α β : Type} (f : α → β) : ∀ (l : List α) (n : Nat), (l.map f).eraseIdx n = (l.eraseIdx n).map f
  | [], _ => rfl
  | _ :: _, 0 => rfl
  | x :: l, n + 1 => by rw [List.map_cons, List.eraseIdx_cons_succ, List.eraseIdx_cons_succ, List.map_cons, erase_map f l n]
theorem perm_touch {α : Type} {l : List α} {n : Nat} {x : α} (h : l[n]? = some x) : (l.eraseIdx n ++ [x]).Perm l := by
  induction l generalizing n with
  | nil => cases h
  | cons y l ih =>
    cases n with
    | zero =>
      obtain rfl : y = x := by simpa using h
      exact List.perm_append_comm
    | succ n => exact (ih (by simpa using h)).cons y
theorem TbAt.relay {w w' : World} {t s d : Nat} {v v' : Value} {L L' : List (Nat × TI)} {Ms Mi : Nat → Prop} {T T' : TS} (h : TbAt w t s d v L Ms Mi T) (hk : Kept (fun b => b ≠ t) w w') (hB : Blk w' t 135 #[.pointer (some ⟨s, 0, none⟩), .int .i64 T'.seed, .int .i64 T'.lim, v']) (row : Owns w' 0 128 1 encA v' (L'.map (·.1)))
    (hp : L.Perm L') (hl : L'.map (·.2) = T'.l) (hd : T'.d = T.d) : TbAt w' t s d v' L' Ms Mi T' := by
  have no : ∀ b, b = s ∨ Ms b ∨ Mi b → b ≠ t := fun b hb e => by
    subst e
    rcases hb with rfl | hb | hb
    · exact absurd (one_type h.st.blk h.blk) (by decide)
    · rcases (h.st.disk.mine hb).2.2 _ _ h.blk with h | h <;> revert h <;> decide
    · obtain ⟨t', cur, h1, h2⟩ := its_type h.its hb
      have h3 := one_type h1 h.blk
      subst h3
      rcases h2 with h | h | h <;> revert h <;> decide
  have u8 : ∀ b cs, Blk w b 5 cs → b ≠ t := fun b cs hB' e => by
    subst e
    exact absurd (one_type hB' h.blk) (by decide)
  refine ⟨hB, ?_, row, its_perm hp Mi ((itsA_fit L).kept h.its hk (fun b hb => no b (.inr (.inr hb))) u8), hl⟩
  rw [hd]
  exact ⟨hk.blk (no s (.inl rfl)) h.st.blk, h.st.disk.kept hk (fun b hb => no b (.inr (.inl hb))) (fun b hb => by
    rcases hb with hb | ⟨cur, hb⟩
    · omega
    · exact u8 b cur hb), Nat.zero_le _⟩
def TouchR (t s d a : Nat) (L : List (Nat × TI)) (Ms Mi : Nat → Prop) (T : TS) (w : World) (r : Ending) (w' : World) : Prop := r = .returned (.pointer (some ⟨a, 0, none⟩)) ∧ ∃ v, TbAt w' t s d v L Ms Mi T ∧ Kept (fun b => b ≠ t) w w' ∧ ∀ b, v.ownBlock = some b → w.heap.size ≤ b
set_option maxRecDepth 100000 in
set_option maxHeartbeats 4000000 in
theorem ttouch_c (t s d n a : Nat) (i : TI) (v : Value) (L : List (Nat × TI)) (Ms Mi : Nat → Prop) (T : TS) (w : World) (h : TbAt w t s d v L Ms Mi T) (hm : L.length ≤ 1000) (hn : L[n]? = some (a, i)) :
    Calls Tryz.prog 80 #[.pointer (some ⟨t, 0, none⟩), .int .i64 n] w fun r w' => TouchR t s d a (L.eraseIdx n ++ [(a, i)]) Ms Mi { T with l := T.l.eraseIdx n ++ [i] } w r w' := by
  have hnl : n < L.length := (List.getElem?_eq_some_iff.1 hn).1
  have hll : (L.map (·.1)).length = L.length := List.length_map _
  obtain ⟨q, c, hv, hc1, hc2, hrd, hq1, hq2⟩ := h.row.form lenA
  obtain ⟨g, rfl⟩ := hq2 (by omega)
  have hB := h.blk
  rw [hv] at hB
  have hgt : g ≠ t := fun e => by
    have := own_at h.row (b := g) (by rw [hv]; rfl)
    obtain ⟨-, cur, h5⟩ := this
    subst e
    exact absurd (one_type h5 h.blk) (by decide)
  have HO := Lib.hid (tout_c t s g n c a T.seed T.lim (L.map (·.1)) w hB hrd hc1 hc2 (by omega) (by rw [List.getElem?_map, hn]; rfl) hgt)
  have hel : ((L.map (·.1)).eraseIdx n).length ≤ 1000 := by rw [List.length_eraseIdx]; split <;> omega
  have hxs : (L.map (·.1)).eraseIdx n = (L.eraseIdx n).map (·.1) := erase_map _ _ _
  rw [hxs] at HO hel
  have HT := Lib.hid h
  have HN := Lib.hid hn
  have HF : Hid (∀ (w2 : World) (q : Option Addr) (c : Nat), Kept (fun b => b ≠ t) w w2 → Owns w2 w.heap.size 128 1 encA (.slice q (((L.eraseIdx n).map (·.1)).length + 1) c) ((L.eraseIdx n).map (·.1) ++ [a]) → Blk w2 t 135 #[.pointer (some ⟨s, 0, none⟩), .int .i64 T.seed, .int .i64 T.lim, .slice q (((L.eraseIdx n).map (·.1)).length + 1) c] → TouchR t s d a (L.eraseIdx n ++ [(a, i)]) Ms Mi { T with l := T.l.eraseIdx n ++ [i] } w (.returned (.pointer (some ⟨a, 0, none⟩))) w2) := Lib.hid fun w2 q c hk ho hb => by
    refine ⟨rfl, _, HT.out.relay hk hb ?_ (perm_touch HN.out).symm ?_ rfl, hk, fun b hb' => (own_at ho hb').1⟩
    · rw [List.map_append]; exact ho.lowB (Nat.zero_le _)
    · rw [List.map_append, ← erase_map, HT.out.l]; rfl
  have HTL := Lib.hid h.blk.lt
  clear h hv hB hrd hq1 hq2 hgt hxs hc1 hc2 hll hn
  generalize (L.eraseIdx n).map (·.1) = xs at *
  go_enter Tryz.func80, Tryz.ntmps80
  go_upto_region 2 with (go_at_call 86; refine HO.out.mono ?_; rintro e_ w1 ⟨rfl, k1, q1, c1, b1, r1⟩; have K1 := Lib.hid k1; have B1 := Lib.hid b1; have R1 := Lib.hid r1; clear k1 b1 r1)
  have t3 := B1.out.cell 3
  obtain ⟨W, hW⟩ : ∃ W, W = w1.alloc (.cells #[.pointer (some ⟨a, 0, none⟩)] 128) := ⟨_, rfl⟩
  have hw1 : Below w1.heap.size w1 W := by rw [hW]; exact (Below.refl _ _).alloc (Nat.le_refl _) _
  have X : Blk W w1.heap.size 128 #[.pointer (some ⟨a, 0, none⟩)] := by rw [hW]; exact Blk.new' rfl
  obtain ⟨q2, c2, w2, hrun, ho, hb2⟩ := push_cut (R1.out.on hw1) (X.cell 0) (Nat.le_trans K1.out.size hw1.size) hel
  have hB2 := ((B1.out.on hw1).below hb2 HTL.out)
  have f3 := hB2.frz 3
  have k3 := hB2.cell 3
  rw [hW] at hrun
  have hk2 : Kept (fun b => b ≠ t) w w2 := ⟨hb2.os.trans (hw1.os.trans K1.out.os), hb2.tape.trans (hw1.tape.trans K1.out.tape), hb2.output.trans (hw1.output.trans K1.out.output), Nat.le_trans K1.out.size (Nat.le_trans hw1.size hb2.size), fun b hb hK => (hb2.block b hb).trans ((hw1.block b (Nat.lt_of_lt_of_le hb K1.out.size)).trans (K1.out.block b hb hK))⟩
  have HG := Lib.hid (HF.out (w2.setCell ⟨t, 3, none⟩ (.slice q2 (xs.length + 1) c2)) q2 c2 (hk2.setCell (by simp) _) (ho.keep (K := fun b => b ≠ t) ((Kept.refl _ _).setCell (by simp) _) (fun b hb e => by
    obtain ⟨-, cur, h5⟩ := own_at ho hb
    subst e
    exact absurd (one_type h5 hB2) (by decide))) (hB2.set_ 3 _))
  clear hw1 X ho hb2 hB2 hk2 hW
  go_wp2_with (at_builtin; refine Lib.wpList_append_run _ rfl _ _ _ _ rfl _ _ rfl rfl _ _ hrun ?_)
  go_returns
  exact HG.out
end Go.Proofs.YtmbccnioijokfaaGreatDoor

namespace Go.Proofs.YtmbccnioijokfaaGreatDoor
open Go.RowKit
attribute [local go_sem] Oper.semAt_some
section
variable {w w' : World} {t s d a : Nat} {v : Value} {R : List (Nat × TI)} {Ms Mi M : Nat → Prop} {T : TS} {i : TI}
theorem TbAt.item (h : TbAt w t s d v (R ++ [(a, i)]) Ms Mi T) : ∃ A, ItA a i w A ∧ (∀ b, A b → Mi b) ∧ ∀ (i' : TI) (w' : World), Aft (ItA a i') w A w' →
    ∃ Mi', TbAt w' t s d v (R ++ [(a, i')]) Ms Mi' { T with l := R.map (·.2) ++ [i'] } ∧ ∀ b, Mi' b → Mi b ∨ w.heap.size ≤ b := by
  have hp : (R ++ [(a, i)]).Perm ((a, i) :: R) := List.perm_append_comm
  obtain ⟨A, B, h1, h2, hd, hM⟩ : ItsA ((a, i) :: R) w Mi := its_perm hp Mi h.its
  refine ⟨A, h1, fun b hb => (hM b).2 (.inl hb), fun i' w' k => ?_⟩
  have hk := k.kept
  have no : ∀ b, b = t ∨ b = s ∨ Ms b ∨ v.ownBlock = some b → ¬ A b := fun b hb hA => by
    obtain ⟨t', cur, h3, h4⟩ := h1.type hA
    rcases hb with rfl | rfl | hb | hb
    · obtain rfl := one_type h3 h.blk
      rcases h4 with h | h | h <;> revert h <;> decide
    · obtain rfl := one_type h3 h.st.blk
      rcases h4 with h | h | h <;> revert h <;> decide
    · rcases (h.st.disk.mine hb).2.2 _ _ h3 with rfl | rfl <;> rcases h4 with h | h | h <;> revert h <;> decide
    · obtain ⟨-, cur', h5⟩ := own_at h.row hb
      obtain rfl := one_type h3 h5
      rcases h4 with h | h | h <;> revert h <;> decide
  obtain ⟨Mi', k1, k2, k3⟩ := both_left (M := Mi) (itA_fit a i) (itsA_fit R) h1 h2 hd hM k
  refine ⟨Mi', ⟨hk.blk (no t (.inl rfl)) h.blk, ⟨hk.blk (no s (.inr (.inl rfl))) h.st.blk, h.st.disk.kept hk (fun b hb => no b (.inr (.inr (.inl hb)))) (fun b hb => by
    rcases hb with hb | ⟨cur, hb⟩
    · omega
    · exact fun hA => (itA_fit a i).nob h1 b hA cur hb), Nat.zero_le _⟩, ?_, its_perm (List.perm_append_comm (l₁ := [(a, i')])) Mi' k1, by rw [List.map_append]; rfl⟩, k2⟩
  have hrow := h.row.keep hk fun b hb => no b (.inr (.inr (.inr hb)))
  rw [List.map_append] at hrow ⊢
  exact hrow
theorem ItA.turn {w3 w4 w5 : World} {c : Nat} {Mc : Nat → Prop} {cs' : List Int} {d' : Bool} (hB : Blk w3 a 142 #[.pointer (some ⟨c, 0, none⟩), .bool i.dirty, .int .i64 i.pins]) (hC : ChA c i.x i.z i.cs w3 Mc) (hM : ∀ b, M b ↔ b = a ∨ Mc b) (h4 : w4 = w3.setCell ⟨a, 1, none⟩ (.bool d')) (k : Aft (ChA c i.x i.z cs') w4 Mc w5) :
    Aft (ItA a { i with cs := cs', dirty := d' }) w3 M w5 := by
  have hna : ¬ Mc a := fun h => by
    obtain ⟨t', cur, h1, h2⟩ := hC.type h
    obtain rfl := one_type h1 hB
    rcases h2 with h | h <;> revert h <;> decide
  have hB4 : Blk w4 a 142 #[.pointer (some ⟨c, 0, none⟩), .bool d', .int .i64 i.pins] := by rw [h4]; exact hB.set_ 1 _
  have hB5 := k.blk hna hB4
  have hs : w4.heap.size = w3.heap.size := by rw [h4]; simp [World.setCell]
  obtain ⟨Mc', k1, k2, k3⟩ := k
  refine ⟨fun b => b = a ∨ Mc' b, ⟨c, Mc', hB5, k1, fun _ => Iff.rfl⟩, fun b hb => ?_, ?_⟩
  · rcases hb with rfl | hb
    · exact .inl ((hM _).2 (.inl rfl))
    · rw [hs] at k2
      exact (k2 b hb).imp_left fun h => (hM b).2 (.inr h)
  · have h5 : Kept (fun b => ¬ M b) w3 w4 := by rw [h4]; exact (Kept.refl _ _).setCell (fun h => h ((hM _).2 (.inl rfl))) _
    exact h5.trans (k3.mono fun b hb h => hb ((hM b).2 (.inr h)))
end
end Go.Proofs.YtmbccnioijokfaaGreatDoor

namespace Go.Proofs.YtmbccnioijokfaaGreatDoor
open Go.RowKit
attribute [local go_sem] Oper.semAt_some
theorem or_dirty (d : Bool) (x : Int) (b : Int) : (d = true → (d || (x != b)) = true) ∧ (d = false → (d || (x != b)) = (x != b)) := by cases d <;> simp
set_option maxRecDepth 100000 in
set_option maxHeartbeats 8000000 in
theorem tset_c (t n : Nat) (T : TS) (i : TI) (x y z b : Int) (w : World) (M : Nat → Prop) (h : TbA t T w M) (hx : In64 x) (hz : In64 z) (hn : T.l.length ≤ 1000) (hf : T.find (chkOf x z) = n) (hi : T.l[n]? = some i) (hp : i.is (chkOf x z) = true) (hy : inY y = true) (hb : mayK b = true) :
    Calls Tryz.prog 249 #[.pointer (some ⟨t, 0, none⟩), .agg #[.int .i64 x, .int .i64 y, .int .i64 z], .int .i64 b] w fun r w' => r = .returned (.int .i64 0) ∧ Aft (TbA t { T with l := T.l.eraseIdx n ++ [i.set x y z b] }) w M w' := by
  obtain ⟨s, d, v, L, Ms, Mi, h, hM⟩ := h
  obtain ⟨W, hW⟩ : ∃ W, W = w.alloc (.cells #[.int .i64 x, .int .i64 y, .int .i64 z] 43) := ⟨_, rfl⟩
  have H : Below w.heap.size w W := by rw [hW]; exact (Below.refl _ _).alloc (Nat.le_refl _) _
  have C : Blk W w.heap.size 43 #[.int .i64 x, .int .i64 y, .int .i64 z] := by rw [hW]; exact Blk.new' rfl
  have h1 := h.on H
  have hll : L.length = T.l.length := by rw [← h.l, List.length_map]
  obtain ⟨a, hLn⟩ : ∃ a, L[n]? = some (a, i) := by
    rw [← h.l, List.getElem?_map] at hi
    cases hp' : L[n]? with
    | none => rw [hp'] at hi; cases hi
    | some pr =>
      rw [hp'] at hi
      obtain rfl : pr.2 = i := by simpa using hi
      exact ⟨pr.1, rfl⟩
  have hii : i.x = x / 16 ∧ i.z = z / 16 := posB_iff.1 hp
  have HC := Lib.hid (cchunk_c x y z hx hz W)
  have HF := Lib.hid fun W2 (h2 : Below W.heap.size W W2) => tfind_c t s d v L Ms Mi T (x / 16) (z / 16) W2 (h1.on h2) hn
  rw [show T.find (x / 16, z / 16) = (n : Int) from hf] at HF
  have HI := Lib.hid fun W2 => cindex_c x y z hx hz W2
  rw [idxT_yes hy] at HI
  have HMY := Lib.hid fun W2 => bmayk_c b W2
  rw [hb] at HMY
  have HTT := Lib.hid fun W2 (h2 : Below W.heap.size W W2) => ttouch_c t s d n a i v L Ms Mi T W2 (h1.on h2) (by omega) hLn
  have HX := Lib.hid (And.intro hx (And.intro hz (And.intro hy (And.intro hb hii))))
  have HCC := Lib.hid C
  have HH := Lib.hid H
  have HM := Lib.hid hM
  have HT0 := Lib.hid h
  obtain ⟨c0, c1, c2, -, -, -⟩ := C.c3
  have hn0 : (0 : Int) ≤ n := by omega
  have HLT := Lib.hid (show (L.eraseIdx n).map (·.2) = T.l.eraseIdx n by rw [← erase_map, h.l])
  clear h hx hz hn hf hi hp hy hb H C h1 hll hLn hii hM
  go_enter Tryz.func249, Tryz.ntmps249
  go_upto_region 1 with (fail)
  rw [← hW]
  clear hW
  go_upto_region 2 with first
    | (go_at_call 108; refine HC.out.mono ?_; rintro e_ w1 ⟨rfl, g1⟩; have G1 := Lib.hid g1; have HF2 := Lib.hid (HF.out w1 g1); clear g1)
    | (go_at_call 79; refine HF2.out.mono ?_; rintro e_ w2 ⟨rfl, g2⟩; have G2 := Lib.hid (after G1.out g2); clear g2)
  clear c0 c1 c2
  obtain ⟨c0, c1, c2, -, -, -⟩ := (HCC.out.on G2.out).c3
  have HI2 := Lib.hid (HI.out w2)
  clear HF HC HF2 G1
  go_upto_region 7 with (go_at_call 208; refine HI2.out.mono ?_; rintro e_ w3 ⟨rfl, g3⟩; have G3 := Lib.hid (after G2.out g3); clear g3)
  clear c0 c1 c2
  have HM2 := Lib.hid (HMY.out w3)
  clear HI HI2
  go_upto_region 9 with (go_at_call 142; refine HM2.out.mono ?_; rintro e_ w4 ⟨rfl, g4⟩; have G4 := Lib.hid (after G3.out g4); clear g4)
  have HT4 := Lib.hid (HTT.out w4 G4.out)
  clear HMY HM2 HTT
  go_upto_region 10 with (go_at_call 80; refine HT4.out.mono ?_; rintro e_ w5 ⟨rfl, v5, t5, k5, o5⟩; have T5 := Lib.hid t5; have K5 := Lib.hid k5; have O5 := Lib.hid o5; clear t5 k5 o5)
  obtain ⟨Ai, hIt, hAi, hre⟩ := T5.out.item
  obtain ⟨c, Mc, hIB, hCh, hMA⟩ := hIt
  have i0 := fun d os => (hIB.re d os).cell 0
  have hCB := K5.out.blk (show w.heap.size ≠ t by have := HT0.out.blk.lt; omega) (HCC.out.on G4.out)
  obtain ⟨c0, c1, c2⟩ := hCB.re3
  have HCA := Lib.hid fun d os => chat_c c x y z i.x i.z i.cs (Go.Sort.grow (redrawn w5 d) os) Mc ((chA_fit _ _ _ _).on hCh (below_regrown _ _ _)) HX.out.1 HX.out.2.1 HX.out.2.2.2.2.1.symm HX.out.2.2.2.2.2.symm
  rw [atT_yes HX.out.2.2.1] at HCA
  have HIB := Lib.hid hIB
  have HCH := Lib.hid hCh
  have HCB := Lib.hid hCB
  have HRE := Lib.hid (And.intro hMA (And.intro hAi hre))
  clear hIB hCh hCB hMA hAi hre
  refine wp_region_quiet_below (by kernel_rfl) (by kernel_rfl) ?_
  repeat (go_big_quiet_step (exact Calls.regrown_of (HCA.out _ _)))
  refine wpQuiet_nil ?_
  intro w' hw'
  obtain ⟨rg, rfl⟩ := hw'
  obtain ⟨W6, hW6⟩ : ∃ W6, W6 = Go.Sort.grow (redrawn w5 rg.d) rg.os := ⟨_, rfl⟩
  have h6 : Below w5.heap.size w5 W6 := by rw [hW6]; exact below_regrown _ _ _
  rw [← hW6]
  have HB6 := Lib.hid (HIB.out.on h6)
  have H6 := Lib.hid h6
  clear hW6 i0 c0 c1 c2 h6 HCA
  obtain ⟨i0, i1, i2, if0, if1, if2⟩ := HB6.out.c3
  have hor := or_dirty i.dirty (chB i.cs x y z) b
  have HOR := Lib.hid hor
  have fin : ∀ (d' : Bool) (w7 : World), w7 = W6.setCell ⟨a, 1, none⟩ (.bool d') → d' = (i.dirty || (chB i.cs x y z != b)) → ∀ w9, Aft (ChA c i.x i.z (i.cs.set (idxI x y z).toNat b)) w7 Mc w9 → Aft (TbA t { T with l := T.l.eraseIdx n ++ [i.set x y z b] }) w M w9 := fun d' w7 h7 hd w9 k => by
    obtain ⟨r1, r2, r3⟩ := HRE.out
    have k1 := ItA.turn HB6.out ((chA_fit c i.x i.z i.cs).on HCH.out H6.out) r1 h7 k
    rw [hd] at k1
    have k2 : Aft (ItA a (i.set x y z b)) w5 Ai w9 := Aft.ahead H6.out k1
    obtain ⟨Mi', t9, m9⟩ := r3 _ w9 k2
    rw [HLT.out] at t9
    have k4 := K5.out
    have k9 := k2.kept
    have g4 : Below w.heap.size w w4 := after HH.out G4.out
    refine ⟨TbM t s v5 Ms Mi', ⟨s, d, v5, _, Ms, Mi', t9, fun _ => Iff.rfl⟩, fun b' hb' => ?_, ?_⟩
    · rcases hb' with rfl | rfl | hb' | hb' | hb'
      · exact .inl ((HM.out _).2 (.inl rfl))
      · exact .inl ((HM.out _).2 (.inr (.inl rfl)))
      · exact .inl ((HM.out _).2 (.inr (.inr (.inl hb'))))
      · exact .inr (Nat.le_trans g4.size (O5.out _ hb'))
      · rcases m9 b' hb' with h | h
        · exact .inl ((HM.out _).2 (.inr (.inr (.inr (.inr h)))))
        · exact .inr (Nat.le_trans g4.size (Nat.le_trans k4.size h))
    · refine ⟨k9.os.trans (k4.os.trans g4.os), k9.tape.trans (k4.tape.trans g4.tape), k9.output.trans (k4.output.trans g4.output), Nat.le_trans g4.size (Nat.le_trans k4.size k9.size), fun b' hb' hn' => ?_⟩
      have e1 := g4.block b' hb'
      have e2 := k4.block b' (Nat.lt_of_lt_of_le hb' g4.size) (fun e => hn' ((HM.out _).2 (.inl e)))
      have e3 := k9.block b' (Nat.lt_of_lt_of_le hb' (Nat.le_trans g4.size k4.size)) (fun e => hn' ((HM.out _).2 (.inr (.inr (.inr (.inr (r2 _ e)))))))
      exact e3.trans (e2.trans e1)
  have FIN := Lib.hid fin
  clear hor fin
  have HST := Lib.hid fun (w7 : World) (hc : ChA c i.x i.z i.cs w7 Mc) => chset_c c x y z i.x i.z b i.cs w7 Mc hc HX.out.1 HX.out.2.1 HX.out.2.2.2.2.1.symm HX.out.2.2.2.2.2.symm HX.out.2.2.1 HX.out.2.2.2.1
  have key : ∀ (d' : Bool) (w7 : World), w7 = W6.setCell ⟨a, 1, none⟩ (.bool d') → ChA c i.x i.z i.cs w7 Mc ∧ Blk w7 w.heap.size 43 #[.int .i64 x, .int .i64 y, .int .i64 z] ∧ Blk w7 a 142 #[.pointer (some ⟨c, 0, none⟩), .bool d', .int .i64 i.pins] := fun d' w7 h7 => by
    have hk7 : Kept (fun b => b ≠ a) W6 w7 := by rw [h7]; exact (Kept.refl _ _).setCell (by simp) _
    refine ⟨(chA_fit c i.x i.z i.cs).kept ((chA_fit c i.x i.z i.cs).on HCH.out H6.out) hk7 (fun b' hb' e => ?_) (fun b' cs' hb' e => ?_), hk7.blk (fun e => ?_) (HCB.out.on H6.out), by rw [h7]; exact HB6.out.set_ 1 _⟩
    · subst e
      obtain ⟨t', cur, h1, h2⟩ := HCH.out.type hb'
      obtain rfl := one_type h1 HIB.out
      rcases h2 with h | h <;> revert h <;> decide
    · subst e
      exact absurd (one_type hb' HB6.out) (by decide)
    · rw [e] at HCB
      exact absurd (one_type HCB.out HIB.out) (by decide)
  have KEY := Lib.hid key
  clear key
  generalize hcb : chB i.cs x y z = cb at *
  clear hcb
  cases hd : i.dirty
  · rw [hd] at i1
    have HD := Lib.hid hd
    cases hne : (cb != b)
    · have HNE := Lib.hid hne
      go_upto_region 12 with (fail)
      obtain ⟨w7, hw7⟩ : ∃ w7, w7 = W6.setCell ⟨a, 1, none⟩ (.bool false) := ⟨_, rfl⟩
      rw [← hw7]
      obtain ⟨hc7, hb7, hi7⟩ := KEY.out false w7 hw7
      have j0 := fun d os => (hi7.re d os).cell 0
      obtain ⟨e0, e1, e2⟩ := hb7.re3
      have HC7 := Lib.hid hc7
      have F7 := Lib.hid (FIN.out false w7 hw7 (by rw [HD.out]; simp [HNE.out]))
      clear hw7 hc7 hb7 hi7 i0 i1 i2 if0 if1 if2
      refine wp_sched [0, 0, 0, 0, 0, 0, 3, 3] (fun _ _ _ => True) (by kernel_rfl) (by kernel_rfl) (fun _ _ _ _ h _ => h) ?_
      repeat (first | (refine wpQs_s ?_) | (refine wpQs_q (fun K hK => ?_); go_simp; first | (refine hK _ ?_; clear hK K) | (apply Exists.intro; refine ⟨fun _ => ?_, hK _ ?_⟩; (fail); clear hK K)) | (refine wpQs_f (fun K hK => ?_); go_simp; refine hK _ ?_; clear hK K))
      refine wpQs_nil ?_
      repeat (first | (refine wpLs_skip ?_) | (refine wpLs_one ?lsA (fun v_ => ?_); case lsA => (intro w_ hw_ hp_; (fail))))
      refine wpLs_nilB ?_
      simp only [tails]
      intro W8 h8 _
      have HS8 := Lib.hid (HST.out W8 ((chA_fit _ _ _ _).on HC7.out h8))
      have H8 := Lib.hid h8
      clear h8 j0 e0 e1 e2
      go_wp2_with (go_at_call 305; refine HS8.out.mono ?_; rintro e_ w9 ⟨rfl, k9⟩; have K9 := Lib.hid k9; clear k9)
      go_returns
      exact ⟨rfl, F7.out w9 (Aft.ahead H8.out K9.out)⟩
    · have HNE := Lib.hid hne
      go_upto_region 12 with (fail)
      obtain ⟨w7, hw7⟩ : ∃ w7, w7 = W6.setCell ⟨a, 1, none⟩ (.bool true) := ⟨_, rfl⟩
      rw [← hw7]
      obtain ⟨hc7, hb7, hi7⟩ := KEY.out true w7 hw7
      have j0 := fun d os => (hi7.re d os).cell 0
      obtain ⟨e0, e1, e2⟩ := hb7.re3
      have HC7 := Lib.hid hc7
      have F7 := Lib.hid (FIN.out true w7 hw7 (by rw [HD.out]; simp [HNE.out]))
      clear hw7 hc7 hb7 hi7 i0 i1 i2 if0 if1 if2
      refine wp_sched [0, 0, 0, 0, 0, 0, 3, 3] (fun _ _ _ => True) (by kernel_rfl) (by kernel_rfl) (fun _ _ _ _ h _ => h) ?_
      repeat (first | (refine wpQs_s ?_) | (refine wpQs_q (fun K hK => ?_); go_simp; first | (refine hK _ ?_; clear hK K) | (apply Exists.intro; refine ⟨fun _ => ?_, hK _ ?_⟩; (fail); clear hK K)) | (refine wpQs_f (fun K hK => ?_); go_simp; refine hK _ ?_; clear hK K))
      refine wpQs_nil ?_
      repeat (first | (refine wpLs_skip ?_) | (refine wpLs_one ?lsA (fun v_ => ?_); case lsA => (intro w_ hw_ hp_; (fail))))
      refine wpLs_nilB ?_
      simp only [tails]
      intro W8 h8 _
      have HS8 := Lib.hid (HST.out W8 ((chA_fit _ _ _ _).on HC7.out h8))
      have H8 := Lib.hid h8
      clear h8 j0 e0 e1 e2
      go_wp2_with (go_at_call 305; refine HS8.out.mono ?_; rintro e_ w9 ⟨rfl, k9⟩; have K9 := Lib.hid k9; clear k9)
      go_returns
      exact ⟨rfl, F7.out w9 (Aft.ahead H8.out K9.out)⟩
  · rw [hd] at i1
    have HD := Lib.hid hd
    go_upto_region 12 with (fail)
    obtain ⟨w7, hw7⟩ : ∃ w7, w7 = W6.setCell ⟨a, 1, none⟩ (.bool true) := ⟨_, rfl⟩
    rw [← hw7]
    obtain ⟨hc7, hb7, hi7⟩ := KEY.out true w7 hw7
    have j0 := fun d os => (hi7.re d os).cell 0
    obtain ⟨e0, e1, e2⟩ := hb7.re3
    have HC7 := Lib.hid hc7
    have F7 := Lib.hid (FIN.out true w7 hw7 (by rw [HD.out]; simp ))
    clear hw7 hc7 hb7 hi7 i0 i1 i2 if0 if1 if2
    refine wp_sched [0, 0, 0, 0, 0, 0, 3, 3] (fun _ _ _ => True) (by kernel_rfl) (by kernel_rfl) (fun _ _ _ _ h _ => h) ?_
    repeat (first | (refine wpQs_s ?_) | (refine wpQs_q (fun K hK => ?_); go_simp; first | (refine hK _ ?_; clear hK K) | (apply Exists.intro; refine ⟨fun _ => ?_, hK _ ?_⟩; (fail); clear hK K)) | (refine wpQs_f (fun K hK => ?_); go_simp; refine hK _ ?_; clear hK K))
    refine wpQs_nil ?_
    repeat (first | (refine wpLs_skip ?_) | (refine wpLs_one ?lsA (fun v_ => ?_); case lsA => (intro w_ hw_ hp_; (fail))))
    refine wpLs_nilB ?_
    simp only [tails]
    intro W8 h8 _
    have HS8 := Lib.hid (HST.out W8 ((chA_fit _ _ _ _).on HC7.out h8))
    have H8 := Lib.hid h8
    clear h8 j0 e0 e1 e2
    go_wp2_with (go_at_call 305; refine HS8.out.mono ?_; rintro e_ w9 ⟨rfl, k9⟩; have K9 := Lib.hid k9; clear k9)
    go_returns
    exact ⟨rfl, F7.out w9 (Aft.ahead H8.out K9.out)⟩
end Go.Proofs.YtmbccnioijokfaaGreatDoor

namespace Go.Proofs.YtmbccnioijokfaaGreatDoor
open Go.RowKit
attribute [local go_sem] Oper.semAt_some
structure Bare (S : DS) : Prop where
  safe : S.safe = []
  l : S.l = []
  room : 0 ≤ S.room ∧ S.room ≤ 1048576
  waits : S.waits = 0
  fails : S.fails = 0
theorem Bare.ok {S : DS} (h : Bare S) : DOk S 1000 1000000 where
  rise := by rw [h.safe]; exact List.Pairwise.nil
  keys := by rw [h.safe, h.l]; intro p hp; cases hp
  many := by rw [h.safe, h.l]; decide
  size := by rw [h.safe, h.l]; intro p hp; cases hp
  room := h.room
  waits := .inl h.waits
  fails := by rw [h.fails]; decide
theorem Bare.load {S : DS} (h : Bare S) (id : Int) (hm : mayId id = true) : loadV S id = ([], 0, false) := by
  have hg : ∀ k, S.get k = none := fun k => by
    unfold DS.get DS.now
    rw [h.safe, h.l]
    rfl
  have hr : ∀ k, recAt S k = (0, [], 3) := fun k => by
    unfold recAt
    rw [hg]
    exact read_short (by decide)
  unfold loadV
  rw [if_pos hm]
  unfold ofV
  rw [hr, hr, if_neg (by decide), if_neg (by decide)]
  rfl
def idI (x z : Int) : Int := (x + 524288) * 2 * 524288 + z + 524288 + 1
theorem idI_may {x z : Int} (hx : -524288 ≤ x ∧ x < 524288) (hz : -524288 ≤ z ∧ z < 524288) : mayId (idI x z) = true := by
  unfold mayId idI
  simp
  omega
set_option maxRecDepth 100000 in
set_option maxHeartbeats 1000000 in
theorem tid_c (x z : Int) (hx : -524288 ≤ x ∧ x < 524288) (hz : -524288 ≤ z ∧ z < 524288) (w : World) : Calls Tryz.prog 78 #[.agg #[.int .i64 x, .int .i64 z]] w fun r w' => r = .returned (.tuple #[.int .i64 (idI x z), .bool true]) ∧ Below w.heap.size w w' := by
  have U : Blk (w.alloc (.cells #[.int .i64 x, .int .i64 z] 123)) w.heap.size 123 #[.int .i64 x, .int .i64 z] := Blk.new' rfl
  obtain ⟨u0, u1, -, -⟩ := U.pair
  obtain ⟨x1, x2⟩ := hx
  obtain ⟨z1, z2⟩ := hz
  unfold idI
  go_enter Tryz.func78, Tryz.ntmps78
  go_wp2_with fail
  go_returns
  exact ⟨rfl, (Below.refl _ _).alloc (Nat.le_refl _) _⟩
set_option maxRecDepth 100000 in
set_option maxHeartbeats 1000000 in
theorem troom_c (t s d : Nat) (v : Value) (L : List (Nat × TI)) (Ms Mi : Nat → Prop) (T : TS) (w : World) (h : TbAt w t s d v L Ms Mi T) (hl : (T.l.length : Int) < T.lim) :
    Calls Tryz.prog 81 #[.pointer (some ⟨t, 0, none⟩)] w fun r w' => r = .returned (.int .i64 0) ∧ Below w.heap.size w w' := by
  obtain ⟨q, c, hv, -⟩ := h.row.form lenA
  have hB := h.blk
  rw [hv, List.length_map, show L.length = T.l.length by rw [← h.l, List.length_map]] at hB
  have t2 := fun d os => (hB.re d os).cell 2
  have t3 := fun d os => (hB.re d os).cell 3
  clear hB hv h
  go_enter Tryz.func81, Tryz.ntmps81
  go_upto_region 1 with (fail)
  refine wp_region_quiet_below (by kernel_rfl) (by kernel_rfl) ?_
  repeat (go_big_quiet_step (fail))
  refine wpQuiet_nil ?_
  intro w' hw'
  obtain ⟨rg, rfl⟩ := hw'
  go_wp2_with fail
  go_returns
  exact ⟨rfl, below_regrown w _ _⟩
def NewOf (x z : Int) (cs : List Int) (B0 : Nat) (v : Value) (w : World) : Prop := ∃ c M, v = .pointer (some ⟨c, 0, none⟩) ∧ ChA c x z cs w M ∧ ∀ b, M b → B0 ≤ b
theorem NewOf.on {x z : Int} {cs : List Int} {B0 : Nat} {v : Value} {w w' : World} (h : NewOf x z cs B0 v w) (hb : Below w.heap.size w w') : NewOf x z cs B0 v w' := by
  obtain ⟨c, M, h1, h2, h3⟩ := h
  exact ⟨c, M, h1, (chA_fit _ _ _ _).on h2 hb, h3⟩
def newI (seed x z : Int) : TI := ⟨x, z, genL seed x z, false, 0⟩
theorem TbAt.more {w w' : World} {t s d a c : Nat} {v v' : Value} {L : List (Nat × TI)} {Ms Mi Mc M : Nat → Prop} {T : TS} {it : TI} (h : TbAt w t s d v L Ms Mi T) (hM : ∀ b, M b ↔ TbM t s v Ms Mi b) (hk : Kept (fun b => b ≠ t ∧ v.ownBlock ≠ some b) w w')
    (hB : Blk w' t 135 #[.pointer (some ⟨s, 0, none⟩), .int .i64 T.seed, .int .i64 T.lim, v']) (row : Owns w' 0 128 1 encA v' (L.map (·.1) ++ [a])) (hrow : ∀ b, v'.ownBlock = some b → v.ownBlock = some b ∨ w.heap.size ≤ b)
    (hI : Blk w' a 142 #[.pointer (some ⟨c, 0, none⟩), .bool it.dirty, .int .i64 it.pins]) (hC : ChA c it.x it.z it.cs w' Mc) (ha : w.heap.size ≤ a) (hMc : ∀ b, Mc b → w.heap.size ≤ b) :
    Aft (TbA t { T with l := T.l ++ [it] }) w M w' := by
  have own : ∀ b, v.ownBlock = some b → ∃ cur, Blk w b 128 cur := fun b hb => (own_at h.row hb).2
  have no : ∀ b, b = s ∨ Ms b ∨ Mi b → b ≠ t ∧ v.ownBlock ≠ some b := fun b hb => by
    have key : ∀ t' cur, Blk w b t' cur → t' = 135 ∨ t' = 128 → False := fun t' cur hB' ht => by
      rcases hb with rfl | hb | hb
      · have h3 := one_type h.st.blk hB'
        rcases ht with e | e <;> rw [e] at h3 <;> revert h3 <;> decide
      · rcases (h.st.disk.mine hb).2.2 _ _ hB' with h3 | h3 <;> rcases ht with e | e <;> rw [e] at h3 <;> revert h3 <;> decide
      · obtain ⟨t2, cur2, h1, h2⟩ := its_type h.its hb
        have h3 := one_type h1 hB'
        subst h3
        rcases ht with e | e <;> rw [e] at h2 <;> rcases h2 with h | h | h <;> revert h <;> decide
    refine ⟨fun e => ?_, fun e => ?_⟩
    · subst e
      exact key _ _ h.blk (.inl rfl)
    · obtain ⟨cur, h5⟩ := own b e
      exact key _ _ h5 (.inr rfl)
  have u8 : ∀ b cs, Blk w b 5 cs → b ≠ t ∧ v.ownBlock ≠ some b := fun b cs hB' => by
    refine ⟨fun e => ?_, fun e => ?_⟩
    · subst e
      exact absurd (one_type hB' h.blk) (by decide)
    · obtain ⟨cur, h5⟩ := own b e
      exact absurd (one_type hB' h5) (by decide)
  have hIt : ItA a it w' (fun b => b = a ∨ Mc b) := ⟨c, Mc, hI, hC, fun _ => Iff.rfl⟩
  have hold := (itsA_fit L).kept h.its hk (fun b hb => no b (.inr (.inr hb))) u8
  have hits : ItsA (L ++ [(a, it)]) w' (fun b => (b = a ∨ Mc b) ∨ Mi b) := its_perm (List.perm_append_comm (l₁ := [(a, it)])) _ ⟨fun b => b = a ∨ Mc b, Mi, hIt, hold, fun b hb hb2 => by
    have h1 := (itsA_fit L).lt h.its b hb2
    rcases hb with rfl | hb
    · omega
    · have := hMc b hb; omega, fun _ => Iff.rfl⟩
  refine ⟨TbM t s v' Ms (fun b => (b = a ∨ Mc b) ∨ Mi b), ⟨s, d, v', L ++ [(a, it)], Ms, _, ⟨hB, ⟨hk.blk (no s (.inl rfl)) h.st.blk, h.st.disk.kept hk (fun b hb => no b (.inr (.inl hb))) (fun b hb => by
    rcases hb with hb | ⟨cur, hb⟩
    · omega
    · exact u8 b cur hb), Nat.zero_le _⟩, by rw [List.map_append]; exact row, hits, by rw [List.map_append, h.l]; rfl⟩, fun _ => Iff.rfl⟩, fun b hb => ?_, hk.mono fun b hb => ⟨fun e => hb ((hM b).2 (.inl e)), fun e => hb ((hM b).2 (.inr (.inr (.inr (.inl e)))))⟩⟩
  rcases hb with rfl | rfl | hb | hb | ((rfl | hb) | hb)
  · exact .inl ((hM _).2 (.inl rfl))
  · exact .inl ((hM _).2 (.inr (.inl rfl)))
  · exact .inl ((hM _).2 (.inr (.inr (.inl hb))))
  · exact (hrow b hb).imp_left fun h => (hM b).2 (.inr (.inr (.inr (.inl h))))
  · exact .inr ha
  · exact .inr (hMc b hb)
  · exact .inl ((hM b).2 (.inr (.inr (.inr (.inr hb)))))
end Go.Proofs.YtmbccnioijokfaaGreatDoor

namespace Go.Proofs.YtmbccnioijokfaaGreatDoor
open Go.RowKit
attribute [local go_sem] Oper.semAt_some
set_option maxRecDepth 100000 in
set_option maxHeartbeats 8000000 in
theorem tload_c (t : Nat) (T : TS) (px pz : Int) (w : World) (M : Nat → Prop) (h : TbA t T w M) (hx : -524288 ≤ px ∧ px < 524288) (hz : -524288 ≤ pz ∧ pz < 524288) (hn : T.l.length ≤ 1000) (hlim : (T.l.length : Int) < T.lim) (hf : T.find (px, pz) = -1) (hd : Bare T.d) :
    Calls Tryz.prog 42 #[.pointer (some ⟨t, 0, none⟩), .agg #[.int .i64 px, .int .i64 pz]] w fun r w' => r = .returned (.int .i64 0) ∧ Aft (TbA t { T with l := T.l ++ [newI T.seed px pz] }) w M w' := by
  obtain ⟨s, d, v, L, Ms, Mi, h, hM⟩ := h
  obtain ⟨W, hW⟩ : ∃ W, W = w.alloc (.cells #[.int .i64 px, .int .i64 pz] 123) := ⟨_, rfl⟩
  have H : Below w.heap.size w W := by rw [hW]; exact (Below.refl _ _).alloc (Nat.le_refl _) _
  have X : Blk W w.heap.size 123 #[.int .i64 px, .int .i64 pz] := by rw [hW]; exact Blk.new' rfl
  have h1 := h.on H
  have HI := Lib.hid (tid_c px pz hx hz W)
  have HF := Lib.hid fun W2 (h2 : Below W.heap.size W W2) => tfind_c t s d v L Ms Mi T px pz W2 (h1.on h2) hn
  rw [hf] at HF
  have HR := Lib.hid fun W2 (h2 : Below W.heap.size W W2) => troom_c t s d v L Ms Mi T W2 (h1.on h2) hlim
  have HL := Lib.hid fun W2 (h2 : Below W.heap.size W W2) => sload_c 0 s d Ms T.d 1000 W2 (h1.on h2).st hd.ok (by decide) (idI px pz) (Nat.zero_le _)
  rw [hd.load _ (idI_may hx hz)] at HL
  have HMK := Lib.hid fun W2 => chmake_c T.seed px pz (by omega) (by omega) W2
  have HX := Lib.hid X
  have HH := Lib.hid H
  have HT := Lib.hid h1
  have HT0 := Lib.hid h
  have HM := Lib.hid hM
  have HN := Lib.hid hn
  obtain ⟨p0, p1, -, -⟩ := X.pair
  clear h X H h1 hd hf hlim hn hM hx hz
  generalize idI px pz = id at *
  go_enter Tryz.func42, Tryz.ntmps42
  go_upto_region 1 with (fail)
  rw [← hW]
  clear hW
  go_upto_region 4 with (go_at_call 78; refine HI.out.mono ?_; rintro e_ w1 ⟨rfl, g1⟩; have G1 := Lib.hid g1; clear g1)
  clear p0 p1
  obtain ⟨p0, p1, -, -⟩ := (HX.out.on G1.out).pair
  have HF1 := Lib.hid (HF.out w1 G1.out)
  clear HF HI
  go_upto_region 8 with (go_at_call 79; refine HF1.out.mono ?_; rintro e_ w2 ⟨rfl, g2⟩; have G2 := Lib.hid (after G1.out g2); clear g2)
  have HR2 := Lib.hid (HR.out w2 G2.out)
  clear HR HF1 p0 p1
  go_upto_region 11 with (go_at_call 81; refine HR2.out.mono ?_; rintro e_ w3 ⟨rfl, g3⟩; have G3 := Lib.hid (after G2.out g3); clear g3)
  have HL3 := Lib.hid (HL.out w3 G3.out)
  have t0 := (HT.out.on G3.out).blk.cell 0
  clear HR2 HL
  go_upto_region 12 with (go_at_call 82; refine HL3.out.mono ?_; rintro e_ w4 ⟨⟨q4, n4, c4⟩, rfl, s4, r4, g4⟩; have G4 := Lib.hid (after G3.out g4); have hl4 := s4.len; rw [r4] at hl4; have hn4 : n4 = 0 := (by simpa using hl4.symm); subst hn4; simp only [slV]; clear s4 r4 g4 hl4)
  clear HL3 t0
  obtain ⟨p0, p1, -, -⟩ := (HX.out.on G4.out).pair
  have HRD := Lib.hid (chread0_c px pz q4 c4 w4)
  go_upto_region 14 with (go_at_call 83; refine HRD.out.mono ?_; rintro e_ w5 ⟨rfl, g5⟩; have G5 := Lib.hid (after G4.out g5); clear g5)
  clear p0 p1 HRD
  obtain ⟨p0, p1⟩ := (HX.out.on G5.out).rep
  have t1 := fun d os => (((HT.out.on G5.out).blk).re d os).cell 1
  refine wp_sched [0, 0, 0, 0, 0, 2, 3] (fun _ v w' => NewOf px pz (genL T.seed px pz) w.heap.size v w') (by kernel_rfl) (by kernel_rfl) (fun _ _ _ _ h k => h.on k) ?_
  repeat (first | (refine wpQs_s ?_) | (refine wpQs_q (fun K hK => ?_); go_simp; first | (refine hK _ ?_; clear hK K) | (apply Exists.intro; refine ⟨fun _ => ?_, hK _ ?_⟩; (fail); clear hK K)) | (refine wpQs_f (fun K hK => ?_); go_simp; refine hK _ ?_; clear hK K))
  refine wpQs_nil ?_
  repeat (first | (refine wpLs_skip ?_) | (refine wpLs_one ?lsA (fun v_ => ?_); case lsA => (intro w_ hw_ hp_; (go_simp; refine (HMK.out _).mono ?_; rintro e_ w9 ⟨c, Mc, rfl, h1, h2, h3⟩; exact ⟨_, rfl, Kept.of_below h3, c, Mc, rfl, h1, fun b hb => Nat.le_trans (Nat.le_trans (after HH.out G5.out).size (msd_kept hw_).size) (h2 b hb)⟩))))
  refine wpLs_nilB ?_
  simp only [tails]
  rintro W6 h6 ⟨-, c, Mc, rfl, hCh, hMc⟩
  clear p0 p1 t1
  have HCH := Lib.hid hCh
  have HMC := Lib.hid hMc
  have G6 := Lib.hid (after G5.out h6)
  clear hCh hMc h6
  go_upto_region 15 with (fail)
  have hT6 := HT.out.on G6.out
  have t3 := hT6.blk.cell 3
  obtain ⟨W7, hW7⟩ : ∃ W7, W7 = W6.alloc (.cells #[.pointer (some ⟨c, 0, none⟩), .bool false, .int .i64 0] 142) := ⟨_, rfl⟩
  obtain ⟨W8, hW8⟩ : ∃ W8, W8 = W7.alloc (.cells #[.pointer (some ⟨W6.heap.size, 0, none⟩)] 128) := ⟨_, rfl⟩
  have h7 : Below W6.heap.size W6 W7 := by rw [hW7]; exact (Below.refl _ _).alloc (Nat.le_refl _) _
  have h8 : Below W7.heap.size W7 W8 := by rw [hW8]; exact (Below.refl _ _).alloc (Nat.le_refl _) _
  have h68 := after h7 h8
  have I8 : Blk W8 W6.heap.size 142 #[.pointer (some ⟨c, 0, none⟩), .bool false, .int .i64 0] := (Blk.fresh hW7).on h8
  have Y8 : Blk W8 W7.heap.size 128 #[.pointer (some ⟨W6.heap.size, 0, none⟩)] := Blk.fresh hW8
  have hT8 := hT6.on h68
  have hll : (L.map (·.1)).length ≤ 1000 := by rw [List.length_map, show L.length = T.l.length by rw [← HT0.out.l, List.length_map]]; exact HN.out
  obtain ⟨g, cp, w9, hrun, ho, hg9, hgo⟩ := run_push_at (P := Tryz.prog) (w := W8) (base := 0) (e := 128) (size := 1) (enc := encA) (v := v) (xs := L.map (·.1)) (ts := 133) (ty := 133) (z := .pointer none) (bytes := 8) (b := W7.heap.size) (x := W6.heap.size) Tryz.underlying133 infP rfl (by decide) (by decide) rfl (by intro u hu; simp at hu; rw [hu]; rfl) hT8.row (fun j u hu => by rw [Y8.cell j]; simpa using hu) (by omega) (Nat.zero_le _)
  have hvo : ∀ b, v.ownBlock = some b → b < w.heap.size ∧ ∃ cur, Blk W8 b 128 cur := fun b hb => ⟨(HT0.out.row.block b hb).2, (own_at hT8.row hb).2⟩
  have k9 : Kept (fun b => v.ownBlock ≠ some b) W8 w9 := ⟨hg9.os, hg9.tape, hg9.output, hg9.size, fun b hb hK => hg9.block b hb (Ne.symm hK)⟩
  have hwW : Below w.heap.size w W8 := after (after HH.out G6.out) h68
  have B9 := k9.blk (fun e => by obtain ⟨-, cur, h5⟩ := hvo t e; exact absurd (one_type h5 hT8.blk) (by decide)) hT8.blk
  have f3 := B9.frz 3
  have k3 := B9.cell 3
  have FIN := Lib.hid (show Aft (TbA t { T with l := T.l ++ [newI T.seed px pz] }) w M (w9.setCell ⟨t, 3, none⟩ (.slice (some ⟨g, 0, none⟩) ((L.map (·.1)).length + 1) cp)) from by
    have hst : Kept (fun b => b ≠ t) w9 (w9.setCell ⟨t, 3, none⟩ (.slice (some ⟨g, 0, none⟩) ((L.map (·.1)).length + 1) cp)) := (Kept.refl _ _).setCell (by simp) _
    have htl := HT0.out.blk.lt
    have hsz6 : w.heap.size ≤ W6.heap.size := (after HH.out G6.out).size
    refine HT0.out.more HM.out (a := W6.heap.size) (c := c) (Mc := Mc) (it := newI T.seed px pz) ?_ (B9.set_ 3 _) (ho.keep hst fun b hb e => ?_) (fun b hb => ?_) (hst.blk (by omega) (k9.blk (fun e => by have := (hvo _ e).1; omega) I8)) ?_ hsz6 HMC.out
    · exact ((Kept.of_below hwW).mono (K' := fun b => b ≠ t ∧ v.ownBlock ≠ some b) fun _ _ => trivial).trans ((k9.mono fun b hb => hb.2).trans (hst.mono fun b hb => hb.1))
    · obtain ⟨-, cur, h5⟩ := own_at ho hb
      subst e
      exact absurd (one_type h5 B9) (by decide)
    · simp [Value.ownBlock] at hb
      subst hb
      rcases hgo with h | h
      · exact .inl h
      · exact .inr (Nat.le_trans hwW.size h)
    · have c8 := (chA_fit c px pz (genL T.seed px pz)).on HCH.out h68
      have c9 := (chA_fit c px pz (genL T.seed px pz)).kept c8 k9 (fun b hb e => by have := (hvo b e).1; have := HMC.out b hb; omega) (fun b cs hb e => by obtain ⟨-, cur, h5⟩ := hvo b e; exact absurd (one_type hb h5) (by decide))
      exact (chA_fit c px pz (genL T.seed px pz)).kept c9 hst (fun b hb e => by have := HMC.out b hb; omega) (fun b cs hb e => by subst e; exact absurd (one_type hb B9) (by decide)))
  have hs7 : W7.heap.size = W6.heap.size + 1 := by rw [hW7]; simp
  rw [hs7, hW8, hW7] at hrun
  clear hT6 h7 h8 h68 I8 Y8 hT8 hll ho hg9 hgo hvo k9 hwW B9 hs7 hW7 hW8
  go_wp2_with (at_builtin; refine Lib.wpList_append_run _ rfl _ _ _ _ rfl _ _ rfl rfl _ _ hrun ?_)
  go_returns
  exact ⟨rfl, by have := FIN.out; rwa [List.length_map] at this⟩
end Go.Proofs.YtmbccnioijokfaaGreatDoor

namespace Go.Proofs.YtmbccnioijokfaaGreatDoor
open Go.RowKit
attribute [local go_sem] Oper.semAt_some
abbrev encCh (c : Int × Int × Int × Int) : List Value := [.int .i64 c.1, .int .i64 c.2.1, .int .i64 c.2.2.1, .int .i64 c.2.2.2]
theorem lenCh (c : Int × Int × Int × Int) : (encCh c).length = 4 := rfl
def WdA (wd t : Nat) (T : TS) (k : Nat) : Asn := fun w M => ∃ v xs Mt, Blk w wd 114 #[.pointer (some ⟨t, 0, none⟩), v] ∧ Owns w 0 307 4 encCh v xs ∧ xs.length ≤ k ∧ TbA t T w Mt ∧ ∀ b, M b ↔ b = wd ∨ v.ownBlock = some b ∨ Mt b
section
variable {w w' : World} {wd t k : Nat} {M K : Nat → Prop} {T : TS}
def WdT (ty : TypeId) : Prop := ty = 114 ∨ ty = 307 ∨ TbT ty
theorem WdA.type (h : WdA wd t T k w M) {b : Nat} (hb : M b) : b < w.heap.size ∧ ∀ ty cs, Blk w b ty cs → WdT ty := by
  obtain ⟨v, xs, Mt, h1, h2, -, h3, hM⟩ := h
  rcases (hM b).1 hb with rfl | hb | hb
  · exact ⟨h1.lt, fun ty cs hB => .inl (one_type hB h1)⟩
  · obtain ⟨-, cur, h4⟩ := own_at h2 hb
    exact ⟨h4.lt, fun ty cs hB => .inr (.inl (one_type hB h4))⟩
  · exact ⟨(h3.type hb).1, fun ty cs hB => .inr (.inr ((h3.type hb).2 ty cs hB))⟩
theorem wdA_fit (wd t : Nat) (T : TS) (k : Nat) : Asn.Fit 5 (WdA wd t T k) where
  lt := fun h b hb => (h.type hb).1
  nob := fun h b hb cs hB => by
    rcases (h.type hb).2 _ _ hB with h | h | h | h | h | h | h | h | h | h <;> revert h <;> decide
  kept := fun ⟨v, xs, Mt, h1, h2, h3, h4, hM⟩ hk k1 k2 => ⟨v, xs, Mt, hk.blk (k1 _ ((hM _).2 (.inl rfl))) h1, h2.keep hk (fun b hb => k1 b ((hM b).2 (.inr (.inl hb)))), h3, (tbA_fit t T).kept h4 hk (fun b hb => k1 b ((hM b).2 (.inr (.inr hb)))) k2, hM⟩
theorem tb_no {b : Nat} {ty : TypeId} {cs : Array Value} {Mt : Nat → Prop} (h : TbA t T w Mt) (hB : Blk w b ty cs) (ht : ¬ TbT ty) : ¬ Mt b := fun hb => ht ((h.type hb).2 _ _ hB)
theorem no_world : ¬ TbT 114 := by
  intro h
  rcases h with h | h | h | h | h | h | h | h <;> revert h <;> decide
theorem no_change : ¬ TbT 307 := by
  intro h
  rcases h with h | h | h | h | h | h | h | h <;> revert h <;> decide
end
set_option maxRecDepth 100000 in
set_option maxHeartbeats 1000000 in
theorem wtable_c (wd t k : Nat) (T : TS) (w : World) (M : Nat → Prop) (h : WdA wd t T k w M) : Calls Tryz.prog 30 #[.pointer (some ⟨wd, 0, none⟩)] w fun r w' => r = .returned (.pointer (some ⟨t, 0, none⟩)) ∧ w = w' := by
  obtain ⟨v, xs, Mt, h1, -⟩ := h
  have c0 := h1.cell 0
  clear h1
  go_enter Tryz.func30, Tryz.ntmps30
  go_wp2_with fail
  go_returns
  exact ⟨rfl, rfl⟩
abbrev viewV (t : Nat) : Value := .func (.func 67) #[.pointer (some ⟨t, 0, none⟩)] #[]
set_option maxRecDepth 100000 in
set_option maxHeartbeats 1000000 in
theorem wview_c (wd t k : Nat) (T : TS) (w : World) (M : Nat → Prop) (h : WdA wd t T k w M) : Calls Tryz.prog 29 #[.pointer (some ⟨wd, 0, none⟩)] w fun r w' => r = .returned (viewV t) ∧ w = w' := by
  obtain ⟨v, xs, Mt, h1, -⟩ := h
  have hmf : ∀ (fn : Fn) (first cap : Array Value) (w : World), (Instr.makeFunc fn first cap).run Tryz.prog w = .ok (.func fn first cap) w := fun _ _ _ _ => rfl
  have c0 := h1.cell 0
  clear h1
  go_enter Tryz.func29, Tryz.ntmps29
  go_wp2_with fail
  go_returns
  exact ⟨rfl, rfl⟩
end Go.Proofs.YtmbccnioijokfaaGreatDoor

namespace Go.Proofs.YtmbccnioijokfaaGreatDoor
open Go.RowKit
attribute [local go_sem] Oper.semAt_some
theorem view_tells {t : Nat} {T : TS} {w : World} {M : Nat → Prop} (h : TbA t T w M) (hn : T.l.length ≤ 1000) : Tells Tryz.prog 67 (.pointer (some ⟨t, 0, none⟩)) (fun c => T.at c.1 c.2.1 c.2.2) w := by
  intro c hc W hb
  obtain ⟨s, d, v, L, Ms, Mi, h1, -⟩ := (tbA_fit t T).on h hb
  exact tat_c t s d v L Ms Mi T c.1 c.2.1 c.2.2 hc.1 hc.2 W h1 hn
theorem at_e {t : Nat} {T : TS} {w : World} {M : Nat → Prop} (x y z : Int) (hx : In64 x) (hz : In64 z) (h : TbA t T w M) (hn : T.l.length ≤ 1000) :
    Calls Tryz.prog 67 #[.pointer (some ⟨t, 0, none⟩), .agg #[.int .i64 x, .int .i64 y, .int .i64 z]] w fun r w' => r = .returned (.int .i64 (T.at x y z)) ∧ Below w.heap.size w w' :=
  view_tells h hn (x, y, z) ⟨hx, hz⟩ w (.refl _ _)
end Go.Proofs.YtmbccnioijokfaaGreatDoor

namespace Go.Proofs.YtmbccnioijokfaaGreatDoor
open Go.RowKit
attribute [local go_sem] Oper.semAt_some
def ChgR (N : Nat) (v : Value) (xs : List (Int × Int × Int × Int)) (v' : Value) (w : World) : Prop := Owns w 0 307 4 encCh v' xs ∧ ∀ b, v'.ownBlock = some b → v.ownBlock = some b ∨ N ≤ b
def ChgL (N : Nat) (c : Int × Int × Int × Int) (v : Value) (w : World) : Prop := ∃ b, v = .slice (some ⟨b, 0, none⟩) 1 1 ∧ N ≤ b ∧ Blk w b 307 #[.int .i64 c.1, .int .i64 c.2.1, .int .i64 c.2.2.1, .int .i64 c.2.2.2]
def wsR (N : Nat) (v : Value) (xs : List (Int × Int × Int × Int)) (c : Int × Int × Int × Int) : Nat → Rel := fun i v' w => match i with | 8 => ChgL N c v' w | 9 => ChgR N v (xs ++ [c]) v' w | _ => True
theorem wsR_on {N : Nat} {v : Value} {xs : List (Int × Int × Int × Int)} {c : Int × Int × Int × Int} (hv : ∀ b, v.ownBlock = some b → b < N) : ∀ i v' (w w' : World), wsR N v xs c i v' w → (if i = 9 then Below w.heap.size w w' else Kept (fun b => v.ownBlock ≠ some b) w w') → wsR N v xs c i v' w'
  | 8, _, _, _, ⟨b, h1, h2, h3⟩, hk => ⟨b, h1, h2, (show Kept _ _ _ from hk).blk (fun e => by have := hv b e; omega) h3⟩
  | 9, _, _, _, ⟨h1, h2⟩, hk => ⟨h1.on hk, h2⟩
  | 0, _, _, _, _, _ => trivial
  | 1, _, _, _, _, _ => trivial
  | 2, _, _, _, _, _ => trivial
  | 3, _, _, _, _, _ => trivial
  | 4, _, _, _, _, _ => trivial
  | 5, _, _, _, _, _ => trivial
  | 6, _, _, _, _, _ => trivial
  | 7, _, _, _, _, _ => trivial
  | n + 10, _, _, _, _, _ => trivial
theorem infCh : (Tryz.prog.info? 307).map (fun i => (i.zero, i.size, i.bytes)) = some (some (.agg #[.int .i64 0, .int .i64 0, .int .i64 0, .int .i64 0]), 4, 32) := by kernel_rfl
theorem chg_push {N : Nat} {v v8 : Value} {xs : List (Int × Int × Int × Int)} {c : Int × Int × Int × Int} {W : World} (hO : Owns W 0 307 4 encCh v xs) (h8 : ChgL N c v8 W) (hl : xs.length ≤ 1000000) (hN : N ≤ W.heap.size) :
    ∃ v' w', (Builtin.append_ #[112, 112] 112 #[v, v8]).run Tryz.prog W = .ok v' w' ∧ Kept (fun b => b ∉ v.ownBlock.toList) W w' ∧ ChgR N v (xs ++ [c]) v' w' := by
  obtain ⟨b, rfl, hb, hB⟩ := h8
  obtain ⟨g, cp, w9, hrun, ho, hg9, hgo⟩ := run_push_at (P := Tryz.prog) (w := W) (base := 0) (e := 307) (size := 4) (enc := encCh) (v := v) (xs := xs) (ts := 112) (ty := 112) (bytes := 32) (b := b) (x := c) Tryz.underlying112 infCh rfl (by decide) (by decide) rfl (by intro u hu; simp [encCh] at hu; rcases hu with rfl | rfl | rfl | rfl <;> rfl) hO (fun j u hu => by rw [hB.cell j]; simpa [encCh] using hu) (by omega) (Nat.zero_le _)
  refine ⟨_, w9, hrun, ⟨hg9.os, hg9.tape, hg9.output, hg9.size, fun k hk hK => hg9.block k hk (fun e => hK (by rw [Option.mem_toList]; exact e.symm))⟩, ho, fun k hk => ?_⟩
  simp [Value.ownBlock] at hk
  subst hk
  exact hgo.imp_right (Nat.le_trans hN)
set_option maxRecDepth 100000 in
set_option maxHeartbeats 4000000 in
theorem wset_c (wd t k n : Nat) (T : TS) (i : TI) (x y z b : Int) (w : World) (M : Nat → Prop) (h : WdA wd t T k w M) (hx : In64 x) (hz : In64 z) (hn : T.l.length ≤ 1000) (hf : T.find (chkOf x z) = n) (hi : T.l[n]? = some i) (hp : i.is (chkOf x z) = true) (hy : inY y = true) (hb : mayK b = true) (hk : k ≤ 1000000) :
    Calls Tryz.prog 191 #[.pointer (some ⟨wd, 0, none⟩), .agg #[.int .i64 x, .int .i64 y, .int .i64 z], .int .i64 b] w fun r w' => r = .returned (.int .i64 0) ∧ Aft (WdA wd t { T with l := T.l.eraseIdx n ++ [i.set x y z b] } (k + 1)) w M w' := by
  obtain ⟨v, xs, Mt, h1, h2, h3, h4, hM⟩ := h
  obtain ⟨W, hW⟩ : ∃ W, W = w.alloc (.cells #[.int .i64 x, .int .i64 y, .int .i64 z] 43) := ⟨_, rfl⟩
  have H : Below w.heap.size w W := by rw [hW]; exact (Below.refl _ _).alloc (Nat.le_refl _) _
  have C : Blk W w.heap.size 43 #[.int .i64 x, .int .i64 y, .int .i64 z] := Blk.fresh hW
  have HAT := Lib.hid fun W2 (g : Below w.heap.size w W2) => at_e x y z hx hz ((tbA_fit t T).on h4 g) hn
  have HST := Lib.hid fun W2 (g : Below w.heap.size w W2) => tset_c t n T i x y z b W2 Mt ((tbA_fit t T).on h4 g) hx hz hn hf hi hp hy hb
  have HB := Lib.hid h1
  have HO := Lib.hid h2
  have HL := Lib.hid (And.intro h3 hk)
  have HM := Lib.hid hM
  have HT0 := Lib.hid h4
  have HC := Lib.hid C
  have HH := Lib.hid H
  have w0 := fun d os => ((h1.on H).re d os).cell 0
  obtain ⟨c0, c1, c2⟩ := C.re3
  have wf := h1.frz 0
  generalize hT2 : ({ T with l := T.l.eraseIdx n ++ [i.set x y z b] } : TS) = T2 at *
  clear hT2
  clear h1 h2 h3 h4 hM H C hx hz hn hf hi hp hy hb hk
  go_enter Tryz.func191, Tryz.ntmps191
  go_upto_region 1 with (fail)
  rw [← hW]
  clear hW
  refine wp_region_quiet_below (by kernel_rfl) (by kernel_rfl) ?_
  repeat (go_big_quiet_step (exact Calls.regrown_of (HAT.out _ (after HH.out (below_regrown _ _ _)))))
  refine wpQuiet_nil ?_
  intro w' hw'
  obtain ⟨rg, rfl⟩ := hw'
  obtain ⟨W1, hW1⟩ : ∃ W1, W1 = Go.Sort.grow (redrawn W rg.d) rg.os := ⟨_, rfl⟩
  have h1 : Below W.heap.size W W1 := by rw [hW1]; exact below_regrown _ _ _
  rw [← hW1]
  have G1 := Lib.hid (after HH.out h1)
  have HC1 := Lib.hid (HC.out.on h1)
  clear hW1 h1 w0 c0 c1 c2 HH HC HAT
  have w0 := fun d os => ((HB.out.on G1.out).re d os).cell 0
  obtain ⟨c0, c1, c2⟩ := HC1.out.re3
  generalize T.at x y z = was at *
  go_upto_region 2 with (fail)
  refine wp_sched [0, 0, 0, 0, 0, 0, 3, 3] (fun _ _ _ => True) (by kernel_rfl) (by kernel_rfl) (fun _ _ _ _ h _ => h) ?_
  repeat (first | (refine wpQs_s ?_) | (refine wpQs_q (fun K hK => ?_); go_simp; first | (refine hK _ ?_; clear hK K) | (apply Exists.intro; refine ⟨fun _ => ?_, hK _ ?_⟩; (fail); clear hK K)) | (refine wpQs_f (fun K hK => ?_); go_simp; refine hK _ ?_; clear hK K))
  refine wpQs_nil ?_
  repeat (first | (refine wpLs_skip ?_) | (refine wpLs_one ?lsA (fun v_ => ?_); case lsA => (intro w_ hw_ hp_; (fail))))
  refine wpLs_nilB ?_
  simp only [tails]
  intro W2 g2 _
  have G2 := Lib.hid (after G1.out g2)
  have HC2 := Lib.hid (HC1.out.on g2)
  have HS2 := Lib.hid (HST.out W2 G2.out)
  clear g2 w0 c0 c1 c2 HST HC1
  go_upto_region 3 with (go_at_call 249; refine HS2.out.mono ?_; rintro e_ w3 ⟨rfl, k3⟩; have K3 := Lib.hid k3; clear k3)
  have hwd : ∀ (w9 : World), Kept (fun b' => ¬ Mt b') W2 w9 → Blk w9 wd 114 #[.pointer (some ⟨t, 0, none⟩), v] ∧ Owns w9 0 307 4 encCh v xs := fun w9 k => by
    refine ⟨k.blk (tb_no HT0.out HB.out no_world) (HB.out.on G2.out), (HO.out.on G2.out).keep k fun b' hb hMt => ?_⟩
    obtain ⟨-, cur, h5⟩ := own_at HO.out hb
    exact tb_no HT0.out h5 no_change hMt
  have HWD := Lib.hid hwd
  clear hwd
  cases hne : (was != b)
  · go_wp2_with fail
    go_returns
    obtain ⟨Mt', t3, m3, k3⟩ := K3.out
    obtain ⟨b3, o3⟩ := HWD.out _ k3
    refine ⟨rfl, fun b' => b' = wd ∨ v.ownBlock = some b' ∨ Mt' b', ⟨v, xs, Mt', b3, o3, by have := HL.out.1; omega, t3, fun _ => Iff.rfl⟩, fun b' hb' => ?_, ?_⟩
    · rcases hb' with hb' | hb' | hb'
      · exact .inl ((HM.out _).2 (.inl hb'))
      · exact .inl ((HM.out _).2 (.inr (.inl hb')))
      · exact (m3 _ hb').imp (fun h => (HM.out _).2 (.inr (.inr h))) fun h => Nat.le_trans G2.out.size h
    · exact ((Kept.of_below G2.out).mono fun _ _ => trivial).trans (k3.mono fun b' hb' hMt => hb' ((HM.out _).2 (.inr (.inr hMt))))
  · obtain ⟨Mt', t3, m3, k3⟩ := K3.out
    obtain ⟨b3, o3⟩ := HWD.out _ k3
    have K3' := Lib.hid k3
    have HT3 := Lib.hid t3
    have HB3 := Lib.hid b3
    have HO3 := Lib.hid o3
    have hvn : ∀ b', v.ownBlock = some b' → b' < w3.heap.size := fun b' hb' => (o3.block b' hb').2
    have hvw : v.ownBlock ≠ some wd := fun e => by
      obtain ⟨-, cur, h5⟩ := own_at o3 e
      exact absurd (one_type h5 b3) (by decide)
    have hvc : v.ownBlock ≠ some w.heap.size := fun e => by have := (HO.out.block _ e).2; omega
    have hc3 : Blk w3 w.heap.size 43 #[.int .i64 x, .int .i64 y, .int .i64 z] := k3.blk (fun e => by have := (tbA_fit t T).lt HT0.out _ e; omega) HC2.out
    have w0 := fun f d os => (b3.sp (not_row hvw) f d os).cell 1
    have c0 := fun f d os => (hc3.sp (not_row hvc) f d os).cell 0
    have c1 := fun f d os => (hc3.sp (not_row hvc) f d os).cell 1
    have c2 := fun f d os => (hc3.sp (not_row hvc) f d os).cell 2
    have HVN := Lib.hid hvn
    have HVW := Lib.hid hvw
    have hm3 := Lib.hid m3
    clear t3 m3 k3 b3 o3 hvn hvw hvc hc3
    go_upto_region 4 with (fail)
    refine wp_schedR [0, 0, 0, 0, 0, 0, 0, 0, 2, 2, 1, 1, 3] 9 (v.ownBlock) (wsR w3.heap.size v xs (x, y, z, b)) (by kernel_rfl) (by kernel_rfl) (wsR_on HVN.out) ?_
    repeat (first | (refine wpQs_s ?_) | (refine wpQs_q (fun K hK => ?_); go_simp; first | (refine hK _ ?_; clear hK K) | (apply Exists.intro; refine ⟨fun _ => ?_, hK _ ?_⟩; (fail); clear hK K)) | (refine wpQs_f (fun K hK => ?_); go_simp; refine hK _ ?_; clear hK K))
    refine wpQs_nil ?_
    refine wpLs_skip ?_
    refine wpLs_skip ?_
    refine wpLs_skip ?_
    refine wpLs_skip ?_
    refine wpLs_skip ?_
    refine wpLs_skip ?_
    refine wpLs_skip ?_
    refine wpLs_skip ?_
    refine wpLs_one ?lsA (fun v_ => ?_)
    case lsA => (intro w_ hw_ hp_; (first | (dsimp only at hF_; obtain ⟨v9, w9, hr9, hk9, hR9⟩ := chg_push (HO3.out.on (msd_row hw_ hp_)) (hF_.2 (by kernel_rfl)) (by have := HL.out; omega) (msd_kept hw_).size; exact sumAt_append _ _ _ _ rfl _ _ rfl rfl v9 w9 hr9 hk9 hR9) | (go_simp; exact ⟨Kept.of_below ((Below.refl _ _).alloc (Nat.le_refl _) _), _, rfl, (msd_kept hw_).size, Blk.new' rfl⟩)))
    refine wpLs_oneF ?lsA (fun v_ => ?_)
    case lsA => (intro w_ hw_ hp_ hF_; (first | (dsimp only at hF_; obtain ⟨v9, w9, hr9, hk9, hR9⟩ := chg_push (HO3.out.on (msd_row hw_ hp_)) (hF_.2 (by kernel_rfl)) (by have := HL.out; omega) (msd_kept hw_).size; exact sumAt_append _ _ _ _ rfl _ _ rfl rfl v9 w9 hr9 hk9 hR9) | (go_simp; exact ⟨Kept.of_below ((Below.refl _ _).alloc (Nat.le_refl _) _), _, rfl, (msd_kept hw_).size, Blk.new' rfl⟩)))
    refine wpLs_skip ?_
    refine wpLs_skip ?_
    refine wpLs_skip ?_
    refine wpLs_nilD ?_
    simp only [tails]
    rintro W5 k5 ⟨-, ho9, hr9⟩
    obtain ⟨q9, c9, rfl, -⟩ := ho9.form lenCh
    have hB5 := k5.blk (not_row HVW.out) HB3.out
    have f1 := hB5.frz 1
    have fin : Aft (WdA wd t T2 (k + 1)) w M (W5.setCell ⟨wd, 1, none⟩ (.slice q9 (xs ++ [(x, y, z, b)]).length c9)) := by
      have hst : Kept (fun b => b ≠ wd) W5 (W5.setCell ⟨wd, 1, none⟩ (.slice q9 (xs ++ [(x, y, z, b)]).length c9)) := (Kept.refl _ _).setCell (by simp) _
      have g2 := G2.out
      have k3 := K3'.out
      have sz : w3.heap.size ≤ W5.heap.size := k5.size
      have hwt := HB3.out.lt
      refine ⟨fun b' => b' = wd ∨ (Value.slice q9 (xs ++ [(x, y, z, b)]).length c9).ownBlock = some b' ∨ Mt' b', ⟨_, xs ++ [(x, y, z, b)], Mt', hB5.set_ 1 _, ho9.keep hst fun b' hb' e => ?_, by rw [List.length_append, List.length_singleton]; have := HL.out.1; omega, ?_, fun _ => Iff.rfl⟩, fun b' hb' => ?_, ?_⟩
      · obtain ⟨-, cur, h5⟩ := own_at ho9 hb'
        subst e
        exact absurd (one_type h5 hB5) (by decide)
      · refine (tbA_fit t T2).kept ((tbA_fit t T2).kept HT3.out k5 (fun b' hb' hr => ?_) fun b' cs hb' hr => ?_) hst (fun b' hb' e => ?_) fun b' cs hb' e => ?_
        · rw [Option.mem_toList] at hr
          obtain ⟨-, cur, h5⟩ := own_at HO3.out hr
          exact tb_no HT3.out h5 no_change hb'
        · rw [Option.mem_toList] at hr
          obtain ⟨-, cur, h5⟩ := own_at HO3.out hr
          exact absurd (one_type hb' h5) (by decide)
        · subst e
          exact tb_no HT3.out HB3.out no_world hb'
        · subst e
          exact absurd (one_type hb' hB5) (by decide)
      · rcases hb' with hb' | hb' | hb'
        · exact .inl ((HM.out _).2 (.inl hb'))
        · rcases hr9 _ hb' with h | h
          · exact .inl ((HM.out _).2 (.inr (.inl h)))
          · exact .inr (Nat.le_trans g2.size (Nat.le_trans k3.size h))
        · exact (hm3.out _ hb').imp (fun h => (HM.out _).2 (.inr (.inr h))) fun h => Nat.le_trans g2.size h
      · refine ((Kept.of_below g2).mono (K' := fun b => ¬ M b) fun _ _ => trivial).trans ((k3.mono fun b' hb' hMt => hb' ((HM.out _).2 (.inr (.inr hMt)))).trans ((k5.mono fun b' hb' hr => ?_).trans (hst.mono fun b' hb' e => hb' ((HM.out _).2 (.inl e)))))
        rw [Option.mem_toList] at hr
        exact hb' ((HM.out _).2 (.inr (.inl hr)))
    rw [show (xs ++ [(x, y, z, b)]).length = xs.length + 1 by simp] at fin
    have e1 := hB5.cell 1
    have FIN := Lib.hid fin
    clear fin ho9 hr9 k5 hB5 w0 c0 c1 c2
    go_wp2_with fail
    go_returns
    exact ⟨rfl, FIN.out⟩
end Go.Proofs.YtmbccnioijokfaaGreatDoor

namespace Go.Proofs.YtmbccnioijokfaaGreatDoor
open Go.RowKit
attribute [local go_sem] Oper.semAt_some
abbrev encP (p : Int × Int) : List Value := [.int .i64 p.1, .int .i64 p.2]
theorem lenP (p : Int × Int) : (encP p).length = 2 := rfl
theorem infPos : (Tryz.prog.info? 123).map (fun i => (i.zero, i.size, i.bytes)) = some (some (.agg #[.int .i64 0, .int .i64 0]), 2, 16) := by kernel_rfl
def plOf (p : Nat × TI) : Int × Int := (p.2.x, p.2.z)
def TS.here (T : TS) : List (Int × Int) := T.l.map fun i => (i.x, i.z)
def HereI (w wr : World) (xs : List (Int × Int)) (v : Value) : Prop := Owns wr w.heap.size 123 2 encP v xs ∧ Below w.heap.size w wr
def HereR (w : World) (xs : List (Int × Int)) (r : Ending) (w' : World) : Prop := ∃ v, r = .returned v ∧ Owns w' w.heap.size 123 2 encP v xs ∧ Below w.heap.size w w'
theorem pos_push {B : Nat} {v : Value} {xs : List (Int × Int)} {p : Int × Int} {W : World} {b : Nat} (hO : Owns W B 123 2 encP v xs) (h8 : Blk W b 123 #[.int .i64 p.1, .int .i64 p.2]) (hl : xs.length ≤ 1000000) (hB : B ≤ W.heap.size) :
    ∃ q c w', (Builtin.append_ #[166, 166] 166 #[v, .slice (some ⟨b, 0, none⟩) 1 1]).run Tryz.prog W = .ok (.slice q (xs.length + 1) c) w' ∧ Owns w' B 123 2 encP (.slice q (xs.length + 1) c) (xs ++ [p]) ∧ Below B W w' := by
  obtain ⟨v', w', hrun, V2, -, hb2, g2, c2, rfl⟩ := run_push (P := Tryz.prog) (ts := 166) (ty := 166) (x := p) (b := b) Tryz.underlying166 infPos rfl (by decide) (by decide) rfl (by intro u hu; simp [encP] at hu; rcases hu with rfl | rfl <;> rfl) hO (fun j u hu => by rw [h8.cell j]; simpa [encP] using hu) (by omega) hB
  exact ⟨_, _, w', hrun, V2, hb2⟩
set_option maxRecDepth 100000 in
set_option maxHeartbeats 4000000 in
theorem there_c (t : Nat) (T : TS) (w : World) (M : Nat → Prop) (h : TbA t T w M) (hn : T.l.length ≤ 1000) :
    Calls Tryz.prog 104 #[.pointer (some ⟨t, 0, none⟩)] w fun r w' => HereR w T.here r w' := by
  obtain ⟨s, d, v, L, Ms, Mi, h, -⟩ := h
  have hll : L.length = T.l.length := by rw [← h.l, List.length_map]
  obtain ⟨q, cap, hv, hc1, hc2, hrd, -⟩ := h.row.form lenA
  have hB := h.blk
  rw [hv, show (L.map (·.1)).length = L.length by simp] at hB
  have t3 := hB.cell 3
  have hrow : ∀ k p, L[k]? = some p → ∀ W, Below w.heap.size w W → ∃ g o c vv, q = some ⟨g, o, none⟩ ∧ W.cell? ⟨g, o + k, none⟩ = some (.pointer (some ⟨p.1, 0, none⟩)) ∧ Blk W p.1 142 #[.pointer (some ⟨c, 0, none⟩), .bool p.2.dirty, .int .i64 p.2.pins] ∧ Blk W c 186 #[.int .i64 p.2.x, .int .i64 p.2.z, vv] := fun k p hk W hb => by
    have hkl := (List.getElem?_eq_some_iff.1 hk).1
    obtain ⟨g, o, hq, h1⟩ := hrd.on hb (by simp; omega)
    obtain ⟨M', ⟨c, Mc, hI, ⟨vv, R, hC, -⟩, -⟩, -⟩ := its_mem (h.on hb).its (List.mem_of_getElem? hk)
    refine ⟨g, o, c, vv, hq, ?_, hI, hC⟩
    have := h1 k p.1 (by rw [List.getElem?_map, hk]; rfl) 0 _ rfl
    simpa using this
  have HROW := Lib.hid hrow
  have hth : T.here = L.map plOf := by unfold TS.here; rw [← h.l, List.map_map]; rfl
  rw [hth]
  have hLn : L.length ≤ 1000 := by omega
  have HC2 := Lib.hid hc2
  clear h hll hv hc1 hc2 hrd hB hrow hth hn
  go_enter Tryz.func104, Tryz.ntmps104
  go_upto_region 3 with (fail)
  go_loopw [3, 5, 11] (fun v x i wr => ∃ (k : Nat), k ≤ L.length ∧ i = .int .i64 k ∧ Hid (HereI w wr ((L.map plOf).take k) v)) (fun _ _ i _ => L.length - (intOf i).toNat)
  case atStart => exact ⟨0, Nat.zero_le _, rfl, ⟨Owns.nil, Below.refl _ _⟩⟩
  case round =>
    obtain ⟨k, hk, rfl, hI⟩ := hrel
    by_cases hlt : k < L.length
    · obtain ⟨p, hp⟩ : ∃ p, L[k]? = some p := ⟨_, List.getElem?_eq_getElem hlt⟩
      obtain ⟨g, o, c, vv, rfl, r0, hIB, hCB⟩ := HROW.out k p hp wr hI.out.2
      have i0 := hIB.cell 0
      have c0 := hCB.cell 0
      have c1 := hCB.cell 1
      have HPL := Lib.hid fun W => cplace_c p.2.x p.2.z W
      have hk0 : (0 : Int) ≤ k := by omega
      have hk1 : (k : Int) < (L.length : Int) := by omega
      have hw : IntKind.i64.wrap ((k : Int) + 1) = (k : Int) + 1 := IntWalk.i64_in _ (by omega)
      have hst : (L.map plOf).take (k + 1) = (L.map plOf).take k ++ [(p.2.x, p.2.z)] := by
        rw [List.take_add_one, List.getElem?_map, hp]; rfl
      have hln : ((L.map plOf).take k).length = k := by simp; omega
      have HST := Lib.hid hst
      have HLN := Lib.hid hln
      clear hst hln hIB hCB hp
      go_upto_region 5 with (fail)
      go_upto_region 6 with first
        | (go_at_call 120; refine (HPL.out _).mono ?_; rintro e_ w1 ⟨rfl, g1⟩; have G1 := Lib.hid g1; clear g1)
        | (at_builtin; obtain ⟨q2, c2, w2, hrun, ho, hb2⟩ := pos_push (W := w1.alloc (.cells #[.int .i64 p.2.x, .int .i64 p.2.z] 123)) (p := (p.2.x, p.2.z)) ((hI.out.1.on G1.out).on (bel_alloc _ _)) (Blk.new' rfl) (by rw [HLN.out]; omega) (Nat.le_trans hI.out.2.size (Nat.le_trans G1.out.size (bel_alloc _ _).size)); rw [HLN.out] at hrun ho; have HO2 := Lib.hid (And.intro ho (after' (after hI.out.2 G1.out) (Nat.le_refl _) (bel_alloc _ _) |>.trans (hb2.mono (by simp)))); clear ho hb2; refine Lib.wpList_append_run _ rfl _ _ _ _ rfl _ _ rfl rfl _ _ hrun ?_)
      have HF : Hid (HereI w w2 ((L.map plOf).take (k + 1)) (.slice q2 (k + 1) c2)) := Lib.hid (by rw [HST.out]; exact HO2.out)
      go_wp2_with fail
      exact ⟨⟨k + 1, hlt, by go_num, HF⟩, by simp [intOf]; omega⟩
    · obtain rfl : k = L.length := by omega
      have hk1 : ¬ ((L.length : Int) < (L.length : Int)) := by omega
      have ht : (L.map plOf).take L.length = L.map plOf := List.take_of_length_le (by simp)
      rw [ht] at hI
      clear ht
      go_wp2_with fail
      go_returns
      exact ⟨_, rfl, hI.out.1, hI.out.2⟩
end Go.Proofs.YtmbccnioijokfaaGreatDoor

namespace Go.Proofs.YtmbccnioijokfaaGreatDoor
open Go.RowKit Go.Shelf
attribute [local go_sem] Oper.semAt_some
set_option maxRecDepth 100000 in
set_option maxHeartbeats 4000000 in
theorem pidx_c (q : Option Addr) (cp : Nat) (xs : List (Int × Int)) (hm : xs.length ≤ 1000000) (p : Int × Int) (w : World) (hR : Rd w q 2 encP xs) :
    Calls Tryz.prog 299 #[.slice q xs.length cp, .agg #[.int .i64 p.1, .int .i64 p.2]] w fun r w' => ∃ k : Int, r = .returned (.int .i64 k) ∧ FirstIs (fun j => ((xs[j]?).map fun x => posB p.1 p.2 x.1 x.2).getD false) xs.length k ∧ Below w.heap.size w w' := by
  obtain ⟨W, hW⟩ : ∃ W, W = w.alloc (.cells #[.int .i64 p.1, .int .i64 p.2] 123) := ⟨_, rfl⟩
  have H : Below w.heap.size w W := by rw [hW]; exact bel_alloc _ _
  have X : Blk W w.heap.size 123 #[.int .i64 p.1, .int .i64 p.2] := Blk.fresh hW
  have HM := Lib.hid (show xs.length ≤ maxLen by unfold maxLen; omega)
  have pe := pos_eq
  have pg := pos_guard
  have hR2 := Lib.hid (hR.on H)
  have HH := Lib.hid H
  have HX := Lib.hid X
  clear hm hR H X
  go_enter Tryz.func299, Tryz.ntmps299
  go_upto_region 2 with (fail)
  rw [← hW]
  clear hW
  go_loopw [5, 8] (fun _ iv wr => ∃ (i : Nat), iv = .int .i64 (i : Nat) ∧ Hid (i ≤ xs.length) ∧ Hid (∀ j, j < i → ((xs[j]?).map fun x => posB p.1 p.2 x.1 x.2).getD false = false) ∧ Hid (Below W.heap.size W wr)) (fun _ v _ => xs.length - (intOf v).toNat)
  case atStart => exact ⟨0, rfl, Nat.zero_le _, Lib.hid (fun j hj => by omega), Below.refl _ _⟩
  case round =>
    obtain ⟨i, rfl, hi, hno, H⟩ := hrel
    by_cases hlt : i < xs.length
    · obtain ⟨x, hx⟩ : ∃ x, xs[i]? = some x := ⟨_, List.getElem?_eq_getElem hlt⟩
      have hlt' : (i : Int) < (xs.length : Int) := by omega
      obtain ⟨g, o, rfl, hI⟩ := (hR2.out.on H.out) (by omega)
      have h0 : wr.cell? ⟨g, o + i * 2, none⟩ = some (.int .i64 x.1) := hI i x hx 0 _ rfl
      have h1 : wr.cell? ⟨g, o + i * 2 + 1, none⟩ = some (.int .i64 x.2) := hI i x hx 1 _ rfl
      have e0 := fun d os => cell_regrown h0 d os
      have e1 := fun d os => cell_regrown h1 d os
      obtain ⟨y0, y1⟩ := (HX.out.on H.out).rep
      obtain ⟨n2, n3, n5, n6⟩ := nextx hlt HM.out
      have HXI := Lib.hid hx
      clear hx hI h0 h1
      cases hp : posB p.1 p.2 x.1 x.2
      · have HP := Lib.hid (show ((xs[i]?).map fun x => posB p.1 p.2 x.1 x.2).getD false = false by rw [HXI.out]; exact hp)
        go_upto_region 4 with (fail)
        refine wp_region_quiet_below (by kernel_rfl) (by kernel_rfl) ?_
        repeat (go_big_quiet_step (fail))
        refine wpQuiet_nil ?_
        intro w' hw'
        obtain ⟨rg, rfl⟩ := hw'
        clear e0 e1 y0 y1
        go_wp2_with fail
        exact ⟨⟨i + 1, by go_num, hlt, Lib.hid (fun j hj => by
          rcases Nat.lt_or_eq_of_le (Nat.le_of_lt_succ hj) with h | rfl
          · exact hno.out j h
          · exact HP.out), Lib.hid (after H.out (below_regrown _ _ _))⟩, by simp [intOf]; omega⟩
      · have HP := Lib.hid (show ((xs[i]?).map fun x => posB p.1 p.2 x.1 x.2).getD false = true by rw [HXI.out]; exact hp)
        go_upto_region 4 with (fail)
        refine wp_region_quiet_below (by kernel_rfl) (by kernel_rfl) ?_
        repeat (go_big_quiet_step (fail))
        refine wpQuiet_nil ?_
        intro w' hw'
        obtain ⟨rg, rfl⟩ := hw'
        clear e0 e1 y0 y1
        go_wp2_with fail
        go_returns
        exact ⟨(i : Int), rfl, .inr ⟨i, hlt, rfl, HP.out, hno.out⟩, after HH.out (after H.out (below_regrown _ _ _))⟩
    · have hi2 : i = xs.length := by have := hi.out; omega
      have hlt' : ¬ (i : Int) < (xs.length : Int) := by omega
      go_wp2_with fail
      go_returns
      exact ⟨-1, rfl, .inl ⟨rfl, fun j hj => hno.out j (by omega)⟩, after HH.out H.out⟩
theorem first_any {xs : List (Int × Int)} {p : Int × Int} {k : Int} (h : FirstIs (fun j => ((xs[j]?).map fun x => posB p.1 p.2 x.1 x.2).getD false) xs.length k) : decide (0 ≤ k) = decide (p ∈ xs) := by
  rcases h with ⟨rfl, h⟩ | ⟨m, hm, rfl, h1, -⟩
  · rw [decide_eq_false (by omega), decide_eq_false]
    intro hp
    obtain ⟨j, hj⟩ := List.getElem?_of_mem hp
    have := h j (List.getElem?_eq_some_iff.1 hj).1
    dsimp only at this
    rw [hj] at this
    simp [posB] at this
  · rw [decide_eq_true (by omega), decide_eq_true]
    obtain ⟨x, hx⟩ : ∃ x, xs[m]? = some x := ⟨_, List.getElem?_eq_getElem hm⟩
    dsimp only at h1
    rw [hx] at h1
    have h2 := posB_iff.1 h1
    rw [show p = x from Prod.ext h2.1 h2.2]
    exact List.mem_of_getElem? hx
theorem pcont_c (q : Option Addr) (cp : Nat) (xs : List (Int × Int)) (hm : xs.length ≤ 1000000) (p : Int × Int) (w : World) (hR : Rd w q 2 encP xs) :
    Calls Tryz.prog 236 #[.slice q xs.length cp, .agg #[.int .i64 p.1, .int .i64 p.2]] w fun r w' => r = .returned (.bool (decide (p ∈ xs))) ∧ Below w.heap.size w w' := by
  obtain ⟨W, hW⟩ : ∃ W, W = w.alloc (.cells #[.int .i64 p.1, .int .i64 p.2] 123) := ⟨_, rfl⟩
  have H : Below w.heap.size w W := by rw [hW]; exact bel_alloc _ _
  have X : Blk W w.heap.size 123 #[.int .i64 p.1, .int .i64 p.2] := Blk.fresh hW
  have HI := Lib.hid (pidx_c q cp xs hm p W (hR.on H))
  have HH := Lib.hid H
  obtain ⟨x0, x1, -, -⟩ := X.pair
  clear hm hR H X
  go_enter Tryz.func236, Tryz.ntmps236
  go_upto_region 1 with (fail)
  rw [← hW]
  clear hW
  go_wp2_with (go_at_call 299; refine HI.out.mono ?_; rintro e_ w1 ⟨k, rfl, hk, g1⟩; have HK := Lib.hid hk; have G1 := Lib.hid g1; clear hk g1)
  go_returns
  exact ⟨congrArg (fun b => Ending.returned (.bool b)) (first_any HK.out), after HH.out G1.out⟩
end Go.Proofs.YtmbccnioijokfaaGreatDoor

