/- A record's bytes: the walks. -/
import Derived.Test.YtkopenemoddbbaaStD
namespace Go.Proofs.Ytkopenemoddbbaa
open Go.RowKit
attribute [local go_sem] Oper.semAt_some

theorem good_nil {w : World} {base : Nat} : GoodS w base (none, 0, 0) := ⟨Nat.le_refl _, Nat.zero_le _, fun h => absurd h (Nat.lt_irrefl 0)⟩
theorem rd_nil {w : World} : rdB w (none, 0, 0) = [] := rfl
/-- May such a record be? -/
def mayW (v : Int) (n : Nat) : Bool := decide (1 ≤ v) && decide (v ≤ 1073741824) && decide (n ≤ 65536)
def writeL (v : Int) (b : Bs) : Option Bs := if mayW v b.length then some (recB v b) else none
def WriteR (base : Nat) (o : Option Bs) (r : Ending) (w w' : World) : Prop := ∃ s : SL, r = .returned (.tuple #[slV s, .int .i64 (if o.isSome then 0 else 1)]) ∧ GoodS w' base s ∧ rdB w' s = o.getD [] ∧ s.2.1 ≤ 65545 ∧ Below w.heap.size w w'
theorem write_ok {base : Nat} {v : Int} {b : Bs} {w w' : World} {x : Value} {n : Nat} (hb : b.length = n) (hm : n ≤ 65536) (h : w'.ownsRow w.heap.size 5 1 x (7 + n + 2) (bl (putF (cat (headF v n) 7 (fb b)) (7 + n)) (7 + n + 2))) (hw : Below w.heap.size w w') (ho : writeL v b = some (recB v b)) : WriteR base (writeL v b) (.returned (.tuple #[x, .int .i64 0])) w w' := by
  obtain ⟨s, rfl, h1, h2, h3⟩ := GoodS.own (base := base) h
  rw [ho]
  refine ⟨s, rfl, h2, h3.trans ?_, by omega, hw⟩
  subst hb
  rfl
theorem head_row {w : World} {B : Nat} {v n : Int} {x : Value} (h : w.ownsRow B 5 1 x 4 (bl (digF v 4) 4)) : w.ownsRow B 5 1 x 4 (bl (cat (digF v 4) 4 (digF n 3)) 4) := by
  rw [bl_cong (G := digF v 4) fun i hi => by unfold cat; rw [if_pos hi]]
  exact h
set_option maxRecDepth 100000 in
set_option maxHeartbeats 4000000 in
theorem swrite_c (base : Nat) (v : Int) (hv : In64 v) (s : SL) (w : World) (hs : GoodS w base s) (hz : s.2.1 ≤ 1000000) :
    Calls Try.prog 10 #[.int .i64 v, slV s] w fun r w' => WriteR base (writeL v (rdB w s)) r w w' := by
  have hl := hs.len
  have hq := hs.byq
  have hcap := hs.cap
  have hmost := hs.most
  unfold In64 at hv
  generalize hb : rdB w s = b at hl hq ⊢
  replace hq : Byq w s.1 s.2.1 (fb b) := hq
  clear hs hb
  obtain ⟨q, n, c⟩ := s
  dsimp only at hl hq hcap hmost hz
  simp only [slV]
  by_cases h1 : 1 ≤ v
  · by_cases h2 : v ≤ 1073741824
    · by_cases h3 : n ≤ 65536
      · have ho : writeL v b = some (recB v b) := by unfold writeL mayW; rw [if_pos (by rw [hl]; simp [h1, h2, h3])]
        have HO := Lib.hid ho
        have HL := Lib.hid hl
        have h4 : ¬ v < 1 := by omega
        have h5 : ¬ 1073741824 < v := by omega
        have h6 : ¬ (65536 : Int) < n := by omega
        have P1 := Lib.hid (sput4_c w.heap.size (.slice none 0 0) 0 (digF v 4) v (by omega) (by omega) (by decide) w own_nil (Nat.le_refl _))
        have HQ := Lib.hid hq
        clear ho hl hq
        go_enter Try.func10, Try.ntmps10
        go_upto_region 4 with first
          | (go_at_call 25; refine P1.out.mono ?_; rintro e_ w1 ⟨x1, rfl, o1, g1⟩; rw [cat_0] at o1; have P2 := Lib.hid (sput3_c w.heap.size x1 4 (digF v 4) n (by omega) (by omega) (by decide) w1 (head_row o1) g1.size); clear P1 o1)
          | (go_at_call 25; refine P2.out.mono ?_; rintro e_ w2 ⟨x2, rfl, o2, g2⟩)
        obtain ⟨q2, c2, rfl, k1, k2, hb2⟩ := own_byq o2
        have g12 := g1.trans g2
        have hb3 : Byq w2 q n (fb b) := HQ.out.on g12
        have HC := Lib.hid (concat2_c q2 7 c2 (headF v n) k1 q n c (fb b) hcap (by omega) (by omega) w2.heap.size (w2.alloc (.cells #[.slice q2 7 c2, .slice q n c] 22)) (Blk.new' rfl) (hb2.on (bel_alloc _ _)) (hb3.on (bel_alloc _ _)))
        have G12 := Lib.hid (g12.trans (bel_alloc' g12.size (.cells #[.slice q2 7 c2, .slice q n c] 22)))
        clear o2 g1 g2 g12 hb2 hb3 P2
        go_wp2_with first
          | (go_at_call 27; refine HC.out.mono ?_; rintro e_ w3 ⟨x3, rfl, o3, g3⟩; obtain ⟨q3, c3, rfl, k3, k4, hb3⟩ := own_byq o3; have HP := Lib.hid (ckput_c q3 (7 + n) c3 _ k3 k4 (by omega) w3 hb3); have G3 := Lib.hid (after G12.out g3); clear o3 hb3 g3 HC)
          | (go_at_call 26; refine HP.out.mono ?_; rintro e_ w4 ⟨x4, rfl, o4, g4⟩)
        go_returns
        exact write_ok HL.out h3 (own_low o4 G3.out.size) (after G3.out g4) HO.out
      · have ho : writeL v b = none := by unfold writeL mayW; rw [if_neg (by rw [hl]; simp [h3])]
        have HO := Lib.hid ho
        have h4 : ¬ v < 1 := by omega
        have h5 : ¬ 1073741824 < v := by omega
        have h6 : (65536 : Int) < n := by omega
        clear ho hl hq
        go_enter Try.func10, Try.ntmps10
        go_wp2_with fail
        go_returns
        rw [HO.out]
        exact ⟨(none, 0, 0), rfl, good_nil, rfl, Nat.zero_le _, Below.refl _ _⟩
    · have ho : writeL v b = none := by unfold writeL mayW; rw [if_neg (by simp [h2])]
      have HO := Lib.hid ho
      have h4 : ¬ v < 1 := by omega
      have h5 : 1073741824 < v := by omega
      clear ho hl hq
      go_enter Try.func10, Try.ntmps10
      go_wp2_with fail
      go_returns
      rw [HO.out]
      exact ⟨(none, 0, 0), rfl, good_nil, rfl, Nat.zero_le _, Below.refl _ _⟩
  · have ho : writeL v b = none := by unfold writeL mayW; rw [if_neg (by simp [h1])]
    have HO := Lib.hid ho
    have h4 : v < 1 := by omega
    clear ho hl hq
    go_enter Try.func10, Try.ntmps10
    go_wp2_with fail
    go_returns
    rw [HO.out]
    exact ⟨(none, 0, 0), rfl, good_nil, rfl, Nat.zero_le _, Below.refl _ _⟩
set_option maxRecDepth 100000 in
set_option maxHeartbeats 4000000 in
theorem rwrite_c (base : Nat) (v : Int) (hv : In64 v) (s : SL) (w : World) (hs : GoodS w base s) (hz : s.2.1 ≤ 1000000) :
    Calls Try.prog 11 #[.int .i64 v, slV s] w fun r w' => WriteR base (writeL v (rdB w s)) r w w' := by
  have hl := hs.len
  have hq := hs.byq
  have hcap := hs.cap
  have hmost := hs.most
  unfold In64 at hv
  generalize hb : rdB w s = b at hl hq ⊢
  replace hq : Byq w s.1 s.2.1 (fb b) := hq
  clear hs hb
  obtain ⟨q, n, c⟩ := s
  dsimp only at hl hq hcap hmost hz
  simp only [slV]
  by_cases h1 : 1 ≤ v
  · by_cases h2 : v ≤ 1073741824
    · by_cases h3 : n ≤ 65536
      · have ho : writeL v b = some (recB v b) := by unfold writeL mayW; rw [if_pos (by rw [hl]; simp [h1, h2, h3])]
        have HO := Lib.hid ho
        have HL := Lib.hid hl
        have h4 : ¬ v < 1 := by omega
        have h5 : ¬ 1073741824 < v := by omega
        have h6 : ¬ (65536 : Int) < n := by omega
        have P1 := Lib.hid (rdig4_c v (by omega) (by omega) w)
        have HQ := Lib.hid hq
        clear ho hl hq
        go_enter Try.func11, Try.ntmps11
        go_upto_region 4 with (go_at_call 28; refine P1.out.mono ?_; rintro e_ w1 ⟨x1, rfl, o1, g1⟩)
        obtain ⟨q1, c1, rfl, -, -, -⟩ := own_byq o1
        have P2 := Lib.hid (rdig3_c n (by omega) (by omega) w1)
        have G1 := Lib.hid g1
        have O1 := Lib.hid o1
        clear g1 o1 P1
        go_upto_region 5 with first
          | (go_at_call 28; refine P2.out.mono ?_; rintro e_ w2 ⟨x2, rfl, o2, g2⟩; obtain ⟨q2, c2, rfl, k1, k2, hb2⟩ := own_byq o2; obtain ⟨x3, w3, hr3, o3, g3⟩ := run_app (P := Try.prog) (ty := 22) Try.underlying22 inf8 (own_on O1.out g2) k1 hb2 (by decide) (Nat.le_trans G1.out.size g2.size); obtain ⟨q3, c3, rfl, -, -, -⟩ := own_byq o3; have G2 := Lib.hid ((after G1.out g2).trans g3); have O3 := Lib.hid o3; clear o3 g2 g3 o2 hb2 O1 G1 P2)
          | (at_builtin; refine Lib.wpList_append_run _ rfl _ _ _ _ rfl _ _ rfl rfl _ _ hr3 ?_)
        obtain ⟨x4, w4, hr4, o4, g4⟩ := run_app (P := Try.prog) (ty := 22) Try.underlying22 inf8 O3.out hcap (HQ.out.on G2.out) (by omega) G2.out.size
        obtain ⟨q4, c4, rfl, k3, k4, hb4⟩ := own_byq o4
        have G4 := Lib.hid (G2.out.trans g4)
        have HP := Lib.hid (ckrput_c q4 (7 + n) c4 _ k3 k4 (by omega) w4 hb4)
        clear o4 hb4 g4 O3 G2 HQ
        go_wp2_with first
          | (at_builtin; refine Lib.wpList_append_run _ rfl _ _ _ _ rfl _ _ rfl rfl _ _ hr4 ?_)
          | (go_at_call 29; refine HP.out.mono ?_; rintro e_ w5 ⟨x5, rfl, o5, g5⟩)
        go_returns
        exact write_ok HL.out h3 (own_low o5 G4.out.size) (after G4.out g5) HO.out
      · have ho : writeL v b = none := by unfold writeL mayW; rw [if_neg (by rw [hl]; simp [h3])]
        have HO := Lib.hid ho
        have h4 : ¬ v < 1 := by omega
        have h5 : ¬ 1073741824 < v := by omega
        have h6 : (65536 : Int) < n := by omega
        clear ho hl hq
        go_enter Try.func11, Try.ntmps11
        go_wp2_with fail
        go_returns
        rw [HO.out]
        exact ⟨(none, 0, 0), rfl, good_nil, rfl, Nat.zero_le _, Below.refl _ _⟩
    · have ho : writeL v b = none := by unfold writeL mayW; rw [if_neg (by simp [h2])]
      have HO := Lib.hid ho
      have h4 : ¬ v < 1 := by omega
      have h5 : 1073741824 < v := by omega
      clear ho hl hq
      go_enter Try.func11, Try.ntmps11
      go_wp2_with fail
      go_returns
      rw [HO.out]
      exact ⟨(none, 0, 0), rfl, good_nil, rfl, Nat.zero_le _, Below.refl _ _⟩
  · have ho : writeL v b = none := by unfold writeL mayW; rw [if_neg (by simp [h1])]
    have HO := Lib.hid ho
    have h4 : v < 1 := by omega
    clear ho hl hq
    go_enter Try.func11, Try.ntmps11
    go_wp2_with fail
    go_returns
    rw [HO.out]
    exact ⟨(none, 0, 0), rfl, good_nil, rfl, Nat.zero_le _, Below.refl _ _⟩
end Go.Proofs.Ytkopenemoddbbaa
