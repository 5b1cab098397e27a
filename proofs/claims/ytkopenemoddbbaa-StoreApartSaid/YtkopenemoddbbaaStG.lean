/- What is asked for is the caller's own; Spoil: the walks. -/
import Derived.Test.YtkopenemoddbbaaStX
import Derived.Laws.BitsAllLaws
namespace Go.Proofs.Ytkopenemoddbbaa
open Go.ChangeShapes Go.WideShapes Go.ChangeAt Go.RowKit Go.Maps
attribute [local go_sem] Oper.semAt_some

theorem xor8 (a b : B8) : bits .xor .u8 (n8 a) (n8 b) = n8 (a ^^^ b) := by
  unfold n8
  rw [u8_xor_nat _ _ (by have := a.isLt; omega) (by have := b.isLt; omega), BitVec.toNat_xor]
set_option maxRecDepth 100000 in
set_option maxHeartbeats 4000000 in
theorem get_own (base d : Nat) (M : Nat → Prop) (S : DS) (N : Nat) (w : World) (h : DiskIs w base M d S) (hok : DOk S N 1000000) (hN : N ≤ 100000) (k : Int) (hk : In64 k) :
    Calls Try.prog 40 #[.pointer (some ⟨d, 0, none⟩), .int .i64 k] w fun r w' => ∃ v, r = .returned (.tuple #[v, .bool (S.get k).isSome]) ∧ w'.ownsRow w.heap.size 5 1 v ((S.get k).getD []).length (bl (fb ((S.get k).getD [])) ((S.get k).getD []).length) ∧ Below w.heap.size w w' := by
  obtain ⟨bm, v, sv, lv, hD, hM⟩ := h
  obtain ⟨hr, hkl, hcnt, hg, hc, hrn, hlens⟩ := hD.facts hok
  have HNW := Lib.hid (now_c base d bm v S sv lv w hD hr hkl (by omega))
  have HG := Lib.hid (atL_good hg k)
  have hsz := hok.now.2.2.2
  have hga : rdB w (atL (nowL sv lv) k) = (S.get k).getD [] := by
    unfold atL DS.get
    rw [← hc, cont_get]
    cases getL (nowL sv lv) k with
    | none => exact rdB_zero _ _ _
    | some s => rfl
  have his : (getL (nowL sv lv) k).isSome = (S.get k).isSome := by
    unfold DS.get
    rw [← hc, cont_get]
    cases getL (nowL sv lv) k <;> rfl
  have hle : (atL (nowL sv lv) k).2.1 ≤ 140737488355328 := Nat.le_trans (at_le _ _) (Nat.le_trans hlens (Nat.le_trans (Nat.mul_le_mul_right 1000000 hN) (by decide)))
  have HA := Lib.hid (And.intro hga (And.intro his hle))
  clear hD hM hr hkl hcnt hg hc hrn hlens hsz hga his hle
  go_enter Try.func40, Try.ntmps40
  go_upto_region 1 with (fail)
  go_wp2_with (go_at_call 59; refine HNW.out.mono ?_; rintro e_ w2 ⟨rfl, hm, hB2⟩; have hlk := lookok_c hm hk; simp only [slV] at hlk)
  have hg2 := HG.out.1.on hB2
  have hlen : (atL (nowL sv lv) k).2.1 = ((S.get k).getD []).length := by rw [← hg2.1.len, hg2.2, HA.out.1]
  have HCL := Lib.hid (clone_c (atL (nowL sv lv) k).1 (atL (nowL sv lv) k).2.1 (atL (nowL sv lv) k).2.2 _ hg2.1.cap HA.out.2.2 w2 hg2.1.byq)
  rw [hg2.2, HA.out.1, hlen] at HCL
  rw [hlen]
  refine HCL.out.mono ?_
  rintro e_ w3 ⟨v', rfl, ho, hb⟩
  go_wp2_with fail
  go_returns
  exact ⟨v', by rw [HA.out.2.1]; rfl, own_low ho hB2.size, after hB2 hb⟩
/-- What a spoiling does. -/
def turnB (b : Bs) (k : Nat) (x : B8) : Bs := b.set k (b.getD k 0 ^^^ x)
def spoilV (S : DS) (k at_ : Int) (x : B8) : DS × Bool :=
  if 0 ≤ at_ ∧ at_ < (((S.get k).getD []).length : Int) then (((S.fail 0).put k (turnB ((S.get k).getD []) at_.toNat x)).1.sync.1, true) else (S, false)
theorem turnB_len (b : Bs) (k : Nat) (x : B8) : (turnB b k x).length = b.length := by unfold turnB; rw [List.length_set]
set_option maxRecDepth 100000 in
set_option maxHeartbeats 4000000 in
theorem sspoil_c (base s d : Nat) (M : Nat → Prop) (S : DS) (N : Nat) (w : World) (h : StoreIs w base M s d S) (hok : DOk S N 1000000) (hN : N ≤ 90000) (k : Int) (hk : In64 k) (at_ : Int) (x : B8) (hbase : base ≤ w.heap.size) :
    Calls Try.prog 20 #[.pointer (some ⟨s, 0, none⟩), .int .i64 k, .int .i64 at_, .int .u8 (n8 x)] w fun r w' => r = .returned (.bool (spoilV S k at_ x).2) ∧ Turn w base M d (spoilV S k at_ x).1 w' := by
  have HG := Lib.hid (get_own base d M S N w h.disk hok (by omega) k hk)
  have HS := Lib.hid h
  have HOK := Lib.hid hok
  have b0 := h.blk.cell 0
  have hsz := get_size hok k
  obtain ⟨⟨S2, e2⟩, hSv⟩ : ∃ v, spoilV S k at_ x = v := ⟨_, rfl⟩
  rw [hSv]
  dsimp only
  unfold spoilV at hSv
  generalize (S.get k).getD [] = b at *
  generalize (S.get k).isSome = is at *
  clear h hok
  by_cases h0 : 0 ≤ at_
  · by_cases h1 : at_ < (b.length : Int)
    · obtain ⟨j, rfl⟩ := Int.eq_ofNat_of_zero_le h0
      rw [if_pos ⟨h0, h1⟩] at hSv
      have hj : j < b.length := by omega
      have e1 : ((S.fail 0).put k (turnB b j x)).1.sync.1 = S2 := congrArg Prod.fst hSv
      obtain rfl : true = e2 := congrArg Prod.snd hSv
      have HE := Lib.hid e1
      clear hSv e1
      go_enter Try.func20, Try.ntmps20
      go_upto_region 4 with (go_at_call 40; refine HG.out.mono ?_; rintro e_ w1 ⟨v, rfl, ho, hb1⟩; obtain ⟨g, c1, cur, rfl, hbg, C, hsc, hsm, hsz1, D⟩ := own_form ho (by omega); clear ho)
      have d0 := D j hj
      have f0 := C.frz j
      rw [Nat.zero_add] at d0
      obtain ⟨u, hu⟩ : ∃ u, fb b j = u := ⟨_, rfl⟩
      rw [hu] at d0
      have HU := Lib.hid hu
      clear hu
      have hx8 := xor8 u x
      go_upto_region 5 with (fail)
      obtain ⟨W2, hW⟩ : ∃ W2, W2 = w1.setCell ⟨g, j, none⟩ (.int .u8 (n8 (u ^^^ x))) := ⟨_, rfl⟩
      rw [← hW]
      have D2 : Byt W2 g 0 b.length (updB (fb b) j (u ^^^ x)) := by rw [hW]; exact D.put C hsz1 hj
      have C2 : ∃ cur', Blk W2 g 5 cur' := ⟨_, by rw [hW]; exact C.set_ j _⟩
      have h2 : Below w.heap.size w W2 := by rw [hW]; exact hb1.setCell (p := ⟨g, j, none⟩) hbg _
      have hg2 : GoodS W2 base (some ⟨g, 0, none⟩, b.length, c1) := ⟨hsc, hsm, fun _ => ⟨g, 0, _, rfl, D2, .inr C2⟩⟩
      have hr2 : rdB W2 (some ⟨g, 0, none⟩, b.length, c1) = turnB b j x := by
        rw [rdB_of D2]
        apply List.ext_getElem?
        intro i
        unfold turnB
        rw [show b.getD j 0 = u from HU.out, List.getElem?_set]
        by_cases hi : i < b.length
        · rw [bsOf_at hi]
          unfold updB
          by_cases e : j = i
          · subst e; simp [hi]
          · have e' : ¬ i = j := fun h => e h.symm
            simp [e, e', hi, fb]
        · rw [List.getElem?_eq_none (by rw [bsOf_len]; omega)]
          by_cases e : j = i
          · omega
          · rw [if_neg e, List.getElem?_eq_none (by omega)]
      have hS2 := HS.out.on h2
      have b2 := hS2.blk.cell 0
      have hB2 := Nat.le_trans hbase h2.size
      have HF := Lib.hid (fail_c base d M S W2 hS2.disk 0 (by unfold In64; omega))
      have HS2 := Lib.hid hS2
      have HG2 := Lib.hid (And.intro hg2 hr2)
      have H2 := Lib.hid h2
      clear hW D2 C2 h2 hg2 hr2 hS2 d0 f0 hx8 D C hb1 hsc hsm hsz1 b0 HG
      go_upto_region 6 with (go_at_call 34; refine HF.out.mono ?_; rintro e_ w3 ⟨rfl, t3⟩)
      have b3 := (t3.blk HS2.out.disk HS2.out.blk (by decide)).cell 0
      have hB3 := (t3.out HS2.out.disk hB2).2.1
      have hgd := t3.good HS2.out.disk HG2.out.1
      obtain ⟨M', hS3⟩ : ∃ M', StoreIs w3 base M' s d (S.fail 0) ∧ (∀ b, M' b → M b ∨ W2.heap.size ≤ b) ∧ Kept (fun b => ¬ M b) W2 w3 := by
        obtain ⟨M', k1, k2, k3⟩ := t3
        exact ⟨M', ⟨k3.blk (fun hM => by rcases (HS2.out.disk.mine hM).2.2 _ _ HS2.out.blk with e | e <;> revert e <;> decide) HS2.out.blk, k1, HS2.out.based⟩, k2, k3⟩
      have HS3 := Lib.hid hS3
      have hok3 := HOK.out.fail (n := 0) (by decide)
      have HP := Lib.hid (put_c base d M' (S.fail 0) N w3 hS3.1.disk hok3 (by omega) k hk (some ⟨g, 0, none⟩, b.length, c1) hgd.1 hsz hB3)
      rw [hgd.2, HG2.out.2] at HP
      have hok4 := hok3.put hk (b := turnB b j x) (by rw [turnB_len]; exact hsz)
      have HOK4 := Lib.hid hok4
      clear t3 hgd hS3 hok3 hok4 HF b2
      obtain ⟨⟨S4, e4⟩, hP⟩ : ∃ v, (S.fail 0).put k (turnB b j x) = v := ⟨_, rfl⟩
      rw [hP] at HP HE HOK4
      clear hP
      simp only [slV] at HP
      dsimp only at HP HE HOK4
      go_upto_region 7 with (go_at_call 38; refine HP.out.mono ?_; rintro e_ w4 ⟨rfl, t4⟩)
      have b4 := (t4.blk HS3.out.1.disk HS3.out.1.blk (by decide)).cell 0
      have hB4 := (t4.out HS3.out.1.disk hB3).2.1
      obtain ⟨M4, k1, k2, k3⟩ := t4
      have HY := Lib.hid (sync_c base d M4 S4 (N + 1) w4 k1 HOK4.out (by omega) hB4)
      rw [HE.out] at HY
      have HK := Lib.hid (And.intro k2 k3)
      clear k1 k2 k3 HP b3
      go_wp2_with (go_at_call 39; refine HY.out.mono ?_; rintro e_ w5 ⟨rfl, t5⟩; have T5 := Lib.hid t5; clear t5)
      go_returns
      exact ⟨rfl, Turn.ahead H2.out (Turn.trans HS3.out.2.1 HS3.out.2.2 (Turn.trans HK.out.1 HK.out.2 T5.out))⟩
    · rw [if_neg (fun h => h1 h.2)] at hSv
      obtain ⟨rfl, rfl⟩ : S = S2 ∧ false = e2 := ⟨congrArg Prod.fst hSv, congrArg Prod.snd hSv⟩
      have h1' : (b.length : Int) ≤ at_ := by omega
      go_enter Try.func20, Try.ntmps20
      go_wp2_with (go_at_call 40; refine HG.out.mono ?_; rintro e_ w1 ⟨v, rfl, ho, hb1⟩; obtain ⟨g, c1, rfl, -, -, -⟩ := own_byq ho; have HB1 := Lib.hid hb1; clear hb1 ho)
      go_returns
      exact ⟨rfl, Turn.same HS.out.disk HB1.out⟩
  · have h0' : at_ < 0 := by omega
    rw [if_neg (fun h => h0 h.1)] at hSv
    obtain ⟨rfl, rfl⟩ : S = S2 ∧ false = e2 := ⟨congrArg Prod.fst hSv, congrArg Prod.snd hSv⟩
    go_enter Try.func20, Try.ntmps20
    go_wp2_with (go_at_call 40; refine HG.out.mono ?_; rintro e_ w1 ⟨v, rfl, ho, hb1⟩; obtain ⟨g, c1, rfl, -, -, -⟩ := own_byq ho; have HB1 := Lib.hid hb1; clear hb1 ho)
    go_returns
    exact ⟨rfl, Turn.same HS.out.disk HB1.out⟩
end Go.Proofs.Ytkopenemoddbbaa
