/- A record's bytes that are the caller's own; bytes that are given. -/
import Derived.Test.YtkopenemoddbbaaStA
namespace Go.Proofs.Ytkopenemoddbbaa
open Go.ChangeShapes Go.WideShapes Go.ChangeAt Go.RowKit
attribute [local go_sem] Oper.semAt_some

set_option maxRecDepth 100000 in
set_option maxHeartbeats 4000000 in
theorem rwrite_own (v : Int) (h1 : 1 ≤ v) (h2 : v ≤ 1073741824) (q : Option Addr) (n c : Nat) (b : Bs) (hl : b.length = n) (hcap : n ≤ c) (h3 : n ≤ 65536) (w : World) (hq : Byq w q n (fb b)) :
    Calls Try.prog 11 #[.int .i64 v, .slice q n c] w fun r w' => ∃ x, r = .returned (.tuple #[x, .int .i64 0]) ∧ w'.ownsRow w.heap.size 5 1 x (n + 9) (bl (fb (recB v b)) (n + 9)) ∧ Below w.heap.size w w' := by
  have h4 : ¬ v < 1 := by omega
  have h5 : ¬ 1073741824 < v := by omega
  have h6 : ¬ (65536 : Int) < n := by omega
  have P1 := Lib.hid (rdig4_c v (by omega) (by omega) w)
  have HQ := Lib.hid hq
  clear hq
  go_enter Try.func11, Try.ntmps11
  go_upto_region 4 with (go_at_call 28; refine P1.out.mono ?_; rintro e_ w1 ⟨x1, rfl, o1, g1⟩)
  obtain ⟨q1, c1, rfl, -, -, -⟩ := own_byq o1
  have P2 := Lib.hid (rdig3_c n (by omega) (by omega) w1)
  have G1 := Lib.hid g1
  have O1 := Lib.hid o1
  clear g1 o1 P1
  go_upto_region 5 with first
    | (go_at_call 28; refine P2.out.mono ?_; rintro e_ w2 ⟨x2, rfl, o2, g2⟩; obtain ⟨q2, c2, rfl, k1, k2, hb2⟩ := own_byq o2; obtain ⟨x3, w3, hr3, o3, g3⟩ := run_app (P := Try.prog) (ty := 22) Try.underlying22 inf8 (own_on O1.out g2) k1 hb2 (by decide) (Nat.le_trans G1.out.size g2.size); obtain ⟨q3, c3, rfl, -, -, -⟩ := own_byq o3; have G2 := Lib.hid ((after G1.out g2).trans g3); have O3 := Lib.hid o3; clear o3 g2 g3 o2 hb2 O1 G1 P2)
    | (at_builtin; refine Lib.wpList_append_run _ rfl _ _ _ _ rfl _ _ rfl rfl _ _ hr3 ?_)
  obtain ⟨x4, w4, hr4, o4, g4⟩ := run_app (P := Try.prog) (ty := 22) Try.underlying22 inf8 O3.out hcap (HQ.out.on G2.out) (by omega) G2.out.size
  obtain ⟨q4, c4, rfl, k3, k4, hb4⟩ := own_byq o4
  have G4 := Lib.hid (G2.out.trans g4)
  have HP := Lib.hid (ckrput_c q4 (7 + n) c4 _ k3 k4 (by omega) w4 hb4)
  clear o4 hb4 g4 O3 G2 HQ
  go_wp2_with first
    | (at_builtin; refine Lib.wpList_append_run _ rfl _ _ _ _ rfl _ _ rfl rfl _ _ hr4 ?_)
    | (go_at_call 29; refine HP.out.mono ?_; rintro e_ w5 ⟨x5, rfl, o5, g5⟩)
  go_returns
  refine ⟨x5, rfl, ?_, after G4.out g5⟩
  have h := own_low o5 G4.out.size
  rw [show n + 9 = 7 + n + 2 by omega]
  rw [bl_cong (G := fb (recB v b)) fun i hi => ?_] at h
  · exact h
  · unfold recB
    rw [fb_bs _ (by omega)]
    subst hl
    rfl
def WriteE (base : Nat) (E : Int) (bs : Bs) (r : Ending) (w w' : World) : Prop := ∃ q n c, r = .returned (.tuple #[.slice q n c, .int .i64 E]) ∧ GoodS w' base (q, n, c) ∧ rdB w' (q, n, c) = bs ∧ Below w.heap.size w w'
theorem WriteR.e {base : Nat} {o : Option Bs} {r : Ending} {w w' : World} (h : WriteR base o r w w') : WriteE base (if o.isSome then 0 else 1) (o.getD []) r w w' := by
  obtain ⟨⟨q, n, c⟩, h1, h2, h3, -, h4⟩ := h
  exact ⟨q, n, c, h1, h2, h3, h4⟩
/-- Bytes that are given. -/
theorem good_of {w : World} {q : Option Addr} {n c : Nat} {F : Nat → B8} (hn : n ≤ c) (hm : c ≤ maxLen) (hb : Byq w q n F) : GoodS w w.heap.size (q, n, c) := ⟨hn, hm, fun h0 => by
  obtain ⟨g, o, e, hB⟩ := hb h0
  exact ⟨g, o, F, e, hB, .inl (hB.lt h0)⟩⟩
end Go.Proofs.Ytkopenemoddbbaa
