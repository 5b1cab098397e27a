/- The crossings along an axis. -/
import Derived.Test.YtjlgcfdpfalbpaaRayR1
import Derived.Test.YtjlgcfdpfalbpaaRayE
import Derived.Test.YtjlgcfdpfalbpaaRef2
namespace Go.Proofs.Ytjlgcfdpfalbpaa
open Go.RowKit Go.Shelf
attribute [local go_sem] Oper.semAt_some

abbrev encX (x : X4) : List Value := [.int .i64 x.1, .int .i64 x.2.1, .int .i64 x.2.2.1, .int .i64 x.2.2.2]
theorem infX : (Try.prog.info? 70).map (fun i => (i.zero, i.size, i.bytes)) = some (some (.agg #[.int .i64 0, .int .i64 0, .int .i64 0, .int .i64 0]), 4, 32) := by kernel_rfl
theorem near32 {i n : Nat} (h : i < n) (hn : n ≤ 1000000) : (i + 1) * 32 ≤ 140737488355328 := by omega
/-- The crossings along an axis, by a place's, a way's number there. -/
def crW (n w : Int) (a m : Nat) : List X4 := if sdS w = 0 then [] else (List.range m).map fun i : Nat => ((a : Int), rupI w, sdL n w + 65536 * (i : Int), sdS w)
theorem crW_rp (x y z A B C : Int) (m : Nat) {a : Nat} (ha : a < 3) : crW (axI x y z a) (axI A B C a) a m = crA (rpOf x y z A B C) m a := by
  rcases lt3 ha with rfl | rfl | rfl <;> rfl
theorem crW_len {n w : Int} {a m : Nat} (h : sdS w ≠ 0) : (crW n w a m).length = m := by unfold crW; rw [if_neg h]; simp
theorem crW_take {n w : Int} {a m k : Nat} (h : sdS w ≠ 0) (hk : k < m) : (crW n w a m).take (k + 1) = (crW n w a m).take k ++ [((a : Int), rupI w, sdL n w + 65536 * (k : Int), sdS w)] := by
  have e : (crW n w a m)[k]? = some ((a : Int), rupI w, sdL n w + 65536 * (k : Int), sdS w) := by unfold crW; rw [if_neg h]; simp [hk]
  rw [List.take_add_one, e]; rfl
set_option maxRecDepth 100000 in
set_option maxHeartbeats 8000000 in
theorem cross_c (x y z A B C : Int) (a m : Nat) (n v : Int) (hn : axI x y z a = n) (hv : axI A B C a = v) (hn2 : -70368744177664 ≤ n ∧ n ≤ 70368744177664) (hv2 : -1048576 ≤ v ∧ v ≤ 1048576) (hm : m ≤ 1000) (w : World) :
    Calls Try.prog 35 #[.agg #[.int .i64 x, .int .i64 y, .int .i64 z], .agg #[.int .i64 A, .int .i64 B, .int .i64 C], .int .i64 a, .int .i64 m] w fun r w' =>
      ∃ u, r = .returned u ∧ Owns w' w.heap.size 70 4 encX u (crW n v a m) ∧ Below w.heap.size w w' := by
  have hcn : cutI n = n := by unfold cutI; omega
  obtain ⟨W, hW⟩ : ∃ W, W = (w.alloc (.cells #[.int .i64 x, .int .i64 y, .int .i64 z] 26)).alloc (.cells #[.int .i64 A, .int .i64 B, .int .i64 C] 26) := ⟨_, rfl⟩
  have H : Below w.heap.size w W := by rw [hW]; go_grown
  obtain ⟨N, hN⟩ : ∃ N, N = w.heap.size := ⟨_, rfl⟩
  have X : Blk W N 26 #[.int .i64 x, .int .i64 y, .int .i64 z] := Blk.eqw hW.symm (by rw [hN]; exact (Blk.new' rfl).alloc _)
  have Y : Blk W (N + 1) 26 #[.int .i64 A, .int .i64 B, .int .i64 C] := Blk.eqw hW.symm (by rw [hN]; exact Blk.new' (by simp))
  have HCU := Lib.hid fun w => rcut_e n n hcn w
  have HDV := Lib.hid fun w => rdiv_c n 65536 (by omega) (by omega) (by decide) w
  have HA1 := Lib.hid fun w => raxis_e x y z a n hn w
  have HA2 := Lib.hid fun w => raxis_e A B C a v hv w
  clear hcn hn hv
  obtain ⟨x0, x1, x2, -, -, -⟩ := X.c3
  go_enter Try.func35, Try.ntmps35
  go_upto_region 1 with (fail)
  rw [← hW, ← hN]
  have HN := Lib.hid hN
  clear hW hN
  go_wp2_with fail
  refine (HA1.out _).mono ?_
  rintro e_ w1 ⟨rfl, k1⟩
  clear x0 x1 x2
  replace Y := Y.on k1
  replace H := after H k1
  clear k1 X
  obtain ⟨y0, y1, y2, -, -, -⟩ := Y.c3
  go_wp2_with fail
  refine (HCU.out _).mono ?_
  rintro e_ w1 ⟨rfl, rfl⟩
  go_wp2_with fail
  refine (HA2.out _).mono ?_
  rintro e_ w2 ⟨rfl, k1⟩
  clear y0 y1 y2
  replace H := after H k1
  clear k1 Y
  go_wp2_with fail
  refine (HDV.out _).mono ?_
  rintro e_ w2 ⟨rfl, rfl⟩
  obtain ⟨Q, hQ⟩ : ∃ Q, Q = n / 65536 := ⟨_, rfl⟩
  have hQ1 : Q * 65536 + n % 65536 = n := by omega
  have hQ2 : 0 ≤ n % 65536 ∧ n % 65536 < 65536 := by omega
  rw [← hQ]
  have HNN := Lib.hid (And.intro hQ1 hQ2)
  have hQb : -1073741824 ≤ Q ∧ Q ≤ 1073741824 := by omega
  have HSZ := Lib.hid (show w.heap.size ≤ w2.heap.size from H.size)
  have HK := Lib.hid H
  clear hQ hQ1 hQ2 H HA1 HA2 HCU HDV
  have hcut : cutI n = n := by unfold cutI; omega
  have HCT := Lib.hid hcut
  clear hcut
  obtain ⟨q1, q2⟩ := hQb
  obtain ⟨n1, n2⟩ := hn2
  obtain ⟨v1, v2⟩ := hv2
  by_cases hp : 0 < v
  · have hS : sdS v = v := if_pos hp
    have hL : sdL n v = 65536 - n % 65536 := by unfold sdL; rw [if_pos hp, HCT.out]
    have hU : rupI v = 1 := if_pos hp
    have HV := Lib.hid (And.intro hS (And.intro hL hU))
    have HS0 := Lib.hid (show sdS v ≠ 0 by rw [hS]; omega)
    clear hS hL hU
    go_upto_region 6 with (fail)
    go_loopw [12, 13] (fun o t wr => ∃ k : Nat, k ≤ m ∧ t = .int .i64 k ∧ Hid (Owns wr w.heap.size 70 4 encX o ((crW n v a m).take k)) ∧ Hid (Below w.heap.size w wr)) (fun _ t _ => m - (intOf t).toNat)
    case atStart => exact ⟨0, Nat.zero_le _, rfl, by rw [List.take_zero]; exact Owns.nil, HK⟩
    case round =>
      clear HK HSZ
      obtain ⟨k, hk, rfl, ho, HK⟩ := hrel
      by_cases hlt : k < m
      · have e1 : -9223372036854775808 ≤ Q + 1 + (k : Int) := by omega
        have e2 : Q + 1 + (k : Int) ≤ 9223372036854775807 := by omega
        have e3 : -9223372036854775808 ≤ (Q + 1 + (k : Int)) * 65536 := by omega
        have e4 : (Q + 1 + (k : Int)) * 65536 ≤ 9223372036854775807 := by omega
        have e5 : -9223372036854775808 ≤ (Q + 1 + (k : Int)) * 65536 - n := by omega
        have e6 : (Q + 1 + (k : Int)) * 65536 - n ≤ 9223372036854775807 := by omega
        have e7 : Q + 1 ≤ 9223372036854775807 := by omega
        have e8 : -9223372036854775808 ≤ Q + 1 := by omega
        have hA : Below wr.heap.size wr (wr.alloc (.cells #[.int .i64 a, .int .i64 1, .int .i64 ((Q + 1 + (k : Int)) * 65536 - n), .int .i64 v] 70)) := (Below.refl _ _).alloc (Nat.le_refl _) _
        have hNew : Blk (wr.alloc (.cells #[.int .i64 a, .int .i64 1, .int .i64 ((Q + 1 + (k : Int)) * 65536 - n), .int .i64 v] 70)) wr.heap.size 70 #[.int .i64 a, .int .i64 1, .int .i64 ((Q + 1 + (k : Int)) * 65536 - n), .int .i64 v] := Blk.new' rfl
        have hsz := HK.out.size
        have hel : ((a : Int), rupI v, sdL n v + 65536 * (k : Int), sdS v) = ((a : Int), 1, (Q + 1 + (k : Int)) * 65536 - n, v) := by
          rw [HV.out.1, HV.out.2.1, HV.out.2.2]
          have := HNN.out
          simp only [Prod.mk.injEq, and_true, true_and]
          omega
        have hll : ((crW n v a m).take k).length = k := by rw [List.length_take, crW_len HS0.out]; omega
        obtain ⟨v', w', hrun, V2, -, hb2, -⟩ := run_push (P := Try.prog) (ts := 66) (ty := 66) (enc := encX) (x := ((a : Int), 1, (Q + 1 + (k : Int)) * 65536 - n, v)) (b := wr.heap.size) Try.underlying66 infX rfl (by decide) (by decide) rfl (by simp [Value.oneCell']) (ho.out.on hA)
          (fun j u hu => by rw [hNew.cell j]; simpa using hu) (by rw [hll]; exact near32 hlt (by omega)) (Nat.le_trans hsz hA.size)
        rw [← hel, ← crW_take HS0.out hlt] at V2
        have HK2 := Lib.hid ((after HK.out hA).trans (hb2.mono (Nat.le_refl _)))
        have HO2 := Lib.hid V2
        clear hNew hA hb2 V2 hel hll hsz ho HK
        go_wp2_with (at_builtin; refine Lib.wpList_append_run _ rfl _ _ _ _ rfl _ _ rfl rfl _ _ hrun ?_)
        go_roundw
        case rel => exact ⟨k + 1, by omega, by go_num, HO2, HK2⟩
        case measure => simp [intOf]; omega
      · have HE := Lib.hid (show k = m by omega)
        go_wp2_with fail
        go_returns
        exact ⟨_, rfl, by have h := ho.out; rw [HE.out, List.take_of_length_le (by rw [crW_len HS0.out]; exact Nat.le_refl _)] at h; exact h, HK.out⟩
  · by_cases hq : v < 0
    · have hS : sdS v = -v := if_neg hp
      have hL : sdL n v = n % 65536 := by unfold sdL; rw [if_neg hp, HCT.out]
      have hU : rupI v = 0 := if_neg hp
      have HV := Lib.hid (And.intro hS (And.intro hL hU))
      have HS0 := Lib.hid (show sdS v ≠ 0 by rw [hS]; omega)
      clear hS hL hU
      go_upto_region 6 with (fail)
      go_loopw [12, 13] (fun o t wr => ∃ k : Nat, k ≤ m ∧ t = .int .i64 k ∧ Hid (Owns wr w.heap.size 70 4 encX o ((crW n v a m).take k)) ∧ Hid (Below w.heap.size w wr)) (fun _ t _ => m - (intOf t).toNat)
      case atStart => exact ⟨0, Nat.zero_le _, rfl, by rw [List.take_zero]; exact Owns.nil, HK⟩
      case round =>
        clear HK HSZ
        obtain ⟨k, hk, rfl, ho, HK⟩ := hrel
        by_cases hlt : k < m
        · have e1 : -9223372036854775808 ≤ Q - (k : Int) := by omega
          have e2 : Q - (k : Int) ≤ 9223372036854775807 := by omega
          have e3 : -9223372036854775808 ≤ (Q - (k : Int)) * 65536 := by omega
          have e4 : (Q - (k : Int)) * 65536 ≤ 9223372036854775807 := by omega
          have e5 : -9223372036854775808 ≤ n - (Q - (k : Int)) * 65536 := by omega
          have e6 : n - (Q - (k : Int)) * 65536 ≤ 9223372036854775807 := by omega
          have e7 : -v ≤ 9223372036854775807 := by omega
          have e8 : -9223372036854775808 ≤ -v := by omega
          have hA : Below wr.heap.size wr (wr.alloc (.cells #[.int .i64 a, .int .i64 0, .int .i64 (n - (Q - (k : Int)) * 65536), .int .i64 (-v)] 70)) := (Below.refl _ _).alloc (Nat.le_refl _) _
          have hNew : Blk (wr.alloc (.cells #[.int .i64 a, .int .i64 0, .int .i64 (n - (Q - (k : Int)) * 65536), .int .i64 (-v)] 70)) wr.heap.size 70 #[.int .i64 a, .int .i64 0, .int .i64 (n - (Q - (k : Int)) * 65536), .int .i64 (-v)] := Blk.new' rfl
          have hsz := HK.out.size
          have hel : ((a : Int), rupI v, sdL n v + 65536 * (k : Int), sdS v) = ((a : Int), 0, n - (Q - (k : Int)) * 65536, -v) := by
            rw [HV.out.1, HV.out.2.1, HV.out.2.2]
            have := HNN.out
            simp only [Prod.mk.injEq, and_true, true_and]
            omega
          have hll : ((crW n v a m).take k).length = k := by rw [List.length_take, crW_len HS0.out]; omega
          obtain ⟨v', w', hrun, V2, -, hb2, -⟩ := run_push (P := Try.prog) (ts := 66) (ty := 66) (enc := encX) (x := ((a : Int), 0, n - (Q - (k : Int)) * 65536, -v)) (b := wr.heap.size) Try.underlying66 infX rfl (by decide) (by decide) rfl (by simp [Value.oneCell']) (ho.out.on hA)
            (fun j u hu => by rw [hNew.cell j]; simpa using hu) (by rw [hll]; exact near32 hlt (by omega)) (Nat.le_trans hsz hA.size)
          rw [← hel, ← crW_take HS0.out hlt] at V2
          have HK2 := Lib.hid ((after HK.out hA).trans (hb2.mono (Nat.le_refl _)))
          have HO2 := Lib.hid V2
          clear hNew hA hb2 V2 hel hll hsz ho HK
          go_wp2_with (at_builtin; refine Lib.wpList_append_run _ rfl _ _ _ _ rfl _ _ rfl rfl _ _ hrun ?_)
          go_roundw
          case rel => exact ⟨k + 1, by omega, by go_num, HO2, HK2⟩
          case measure => simp [intOf]; omega
        · have HE := Lib.hid (show k = m by omega)
          go_wp2_with fail
          go_returns
          exact ⟨_, rfl, by have h := ho.out; rw [HE.out, List.take_of_length_le (by rw [crW_len HS0.out]; exact Nat.le_refl _)] at h; exact h, HK.out⟩
    · have hv0 : v = 0 := by omega
      subst hv0
      have HR : Hid (crW n 0 a m = []) := Lib.hid rfl
      clear hp hq
      go_upto_region 6 with (fail)
      go_loopw [12, 13] (fun o t wr => o = .slice none 0 0 ∧ ∃ k : Nat, k ≤ m ∧ t = .int .i64 k ∧ Hid (Below w.heap.size w wr)) (fun _ t _ => m - (intOf t).toNat)
      case atStart => exact ⟨rfl, 0, Nat.zero_le _, rfl, HK⟩
      case round =>
        clear HK HSZ
        obtain ⟨rfl, k, hk, rfl, HK⟩ := hrel
        by_cases hlt : k < m
        · go_wp2_with fail
          go_roundw
          case rel => exact ⟨rfl, k + 1, by omega, by go_num, HK⟩
          case measure => simp [intOf]; omega
        · go_wp2_with fail
          go_returns
          exact ⟨_, rfl, by rw [HR.out]; exact Owns.nil, HK.out⟩
end Go.Proofs.Ytjlgcfdpfalbpaa
