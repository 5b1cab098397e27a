/- Texts that build one behind the other, laid together: WallK Crc4 Crc6 GenT Disk1 Disk2 RunT RunT2 Disk3 Disk4 Disk5 DiskM RunT3 StP StD StW StR StS StT IdxF LinA Each GenI. -/
import Derived.Test.YtmbccnioijokfaaGreatDoorRows
import Derived.Test.YtmbccnioijokfaaGreatDoorMw2
import Derived.Test.YtmbccnioijokfaaGreatDoorMw1
import Derived.Deep.Slices
import Derived.Test.YtmbccnioijokfaaGreatDoorMw3
import Derived.JoinedCond
import Derived.Test.YtmbccnioijokfaaGreatDoorChecked
import Derived.Deep.Cut
import Derived.Lib.SlBytesConst
import Derived.Laws.BytesArg
import Derived.Shelf.SlMaps.Clone
import Derived.Maps.OwnOps
import Derived.Maps.AppendAt
import Derived.Shelf.Abstract
import Derived.Shelf.RegionOpen
import Derived.OwnWalkIn
import Derived.TacticsInMore
import Derived.LoopNIn
import Derived.LoopIn
namespace Go.Proofs.YtmbccnioijokfaaGreatDoor
open Go
set_option maxRecDepth 100000
theorem topWalls_and2 {a b : Bool} (ha : a = true) (hb : b = true) : (a && b) = true := by rw [ha, hb]; rfl
theorem topWalls_k_wf : (Rows.topWallsRow.wf (OpenSpec.ofChange (OpenSpec.ofChange Rows.topWallsSpec).bare)) = true := by kernel_rfl
theorem topWalls_k_laidOut : (laidOutB Tryz.pinned.checked.prog) = true := by kernel_rfl
theorem topWalls_k_mapsRowed : (mapsRowed Tryz.pinned.checked.prog) = true := by kernel_rfl
theorem topWalls_k_params : (Tryz.f4.params.all (Tryz.pinned.checked.prog.readableRec ·)) = true := by kernel_rfl
theorem topWalls_k_namedTie : (namedTie Tryz.pinned.checked.prog Rows.topWallsRow.named (OpenSpec.ofChange Rows.topWallsSpec).bare.vars) = true := by kernel_rfl
theorem topWalls_k_stops : ((Rows.topWallsRow.stops == [])) = true := by kernel_rfl
theorem topWalls_k_pstops : ((Tryz.pinned.checked.prog.stops == [])) = true := by kernel_rfl
theorem topWalls_k_knobs : ((Rows.topWallsRow.knobs == [])) = true := by kernel_rfl
theorem topWalls_k_pknobs : ((Tryz.pinned.checked.prog.stopKnobs == [])) = true := by kernel_rfl
theorem topWalls_k_inPlace : ((Rows.topWallsRow.inPlace == Tryz.pinned.checked.prog.inPlace 4)) = true := by kernel_rfl
theorem topWalls_k_unfollowed : ((Rows.topWallsRow.unfollowed == Tryz.pinned.checked.prog.unfollowed 4)) = true := by kernel_rfl
theorem topWalls_k_recurses : ((Rows.topWallsRow.recurses == Tryz.pinned.checked.prog.recurses 4)) = true := by kernel_rfl
theorem topWalls_k_named : ((Rows.topWallsRow.named == Tryz.pinned.checked.prog.varsNamed 4)) = true := by kernel_rfl
theorem topWalls_k_maps : ((Rows.topWallsRow.maps == (Tryz.f4.params.toList ++ (OpenSpec.ofChange Rows.topWallsSpec).bare.plain.varTypes Tryz.pinned.checked.prog).any (Tryz.pinned.checked.prog.mapsRec ·))) = true := by kernel_rfl
theorem topWalls_k_ifaces : ((Rows.topWallsRow.ifaces == (Tryz.f4.params.toList ++ (OpenSpec.ofChange Rows.topWallsSpec).bare.plain.varTypes Tryz.pinned.checked.prog).any (Tryz.pinned.checked.prog.ifacesRec ·))) = true := by kernel_rfl
theorem topWalls_k_mapsOut : ((Rows.topWallsRow.mapsOut == Tryz.pinned.checked.prog.mapsAmong Tryz.f4.resultTypes.toList)) = true := by kernel_rfl
theorem topWalls_k_loops : ((Rows.topWallsRow.loops == (Tryz.f4.params.toList ++ (OpenSpec.ofChange Rows.topWallsSpec).bare.plain.varTypes Tryz.pinned.checked.prog).any (Tryz.pinned.checked.prog.loopsFrom ·))) = true := by kernel_rfl
theorem topWalls_k_wide : ((Rows.topWallsRow.wideKeys == (Tryz.f4.params.toList ++ (OpenSpec.ofChange Rows.topWallsSpec).bare.plain.varTypes Tryz.pinned.checked.prog ++ Tryz.f4.resultTypes.toList).any (Tryz.pinned.checked.prog.wideKeysFrom ·))) = true := by kernel_rfl
theorem topWalls_k_vars : ((OpenSpec.ofChange Rows.topWallsSpec).bare.vars.all (Tryz.pinned.checked.prog.varReadable ·)) = true := by kernel_rfl
theorem topWalls_k_results : (Tryz.f4.resultTypes.all (fun t => Tryz.pinned.checked.prog.readableRec t && decide (t < Tryz.pinned.checked.prog.types.size))) = true := by kernel_rfl
theorem topWalls_k_ifacesOut : ((Rows.topWallsRow.ifacesOut == Tryz.f4.resultTypes.toList.any (Tryz.pinned.checked.prog.ifacesRec ·))) = true := by kernel_rfl
theorem topWalls_k_loopsOut : ((Rows.topWallsRow.loopsOut == Tryz.f4.resultTypes.toList.any (Tryz.pinned.checked.prog.loopsFrom ·))) = true := by kernel_rfl
theorem topWalls_k_plainKeys : ((Rows.topWallsRow.plainKeys == Tryz.pinned.checked.prog.plainKeys)) = true := by kernel_rfl
theorem topWalls_k_short : (Rows.topWallsRow.shortTexts.isNone) = true := by kernel_rfl
theorem topWalls_k_heard : (Tryz.pinned.checked.prog.stopsHeard) = true := by kernel_rfl
theorem topWalls_k_mayEnter : (Tryz.pinned.checked.prog.mayEnter) = true := by kernel_rfl
theorem topWalls_k_lifts : ((Rows.topWallsRow.lifted == Tryz.pinned.checked.prog.liftsFinal)) = true := by kernel_rfl
theorem topWalls_k_make : ((Tryz.pinned.checked.prog.make == some Rows.topWallsRow.make)) = true := by kernel_rfl
theorem topWalls_k_kinds : ((Rows.topWallsRow.kinds == (if Rows.topWallsRow.domain.isEmpty then [] else Tryz.f4.params.toList.map fun t => match Tryz.pinned.checked.prog.underlying t with | some (.int k) => some k | _ => none))) = true := by kernel_rfl
theorem topWalls_k_pinned : ((Rows.topWallsRow.pinned == Rows.topWallsRow.pinnedBy)) = true := by kernel_rfl
theorem topWalls_k_veiled : ((Rows.topWallsRow.veiled == (Tryz.f4.params.toList ++ (OpenSpec.ofChange Rows.topWallsSpec).bare.plain.varTypes Tryz.pinned.checked.prog ++ Tryz.f4.resultTypes.toList).any (Tryz.pinned.checked.prog.veiledRec ·))) = true := by kernel_rfl
theorem topWalls_k_veiledFits : (Rows.topWallsRow.veiledFits Tryz.pinned.checked.prog Tryz.f4.params.toList (Tryz.f4.params.toList ++ (OpenSpec.ofChange Rows.topWallsSpec).bare.plain.varTypes Tryz.pinned.checked.prog ++ Tryz.f4.resultTypes.toList)) = true := by kernel_rfl
theorem topWalls_closed : joinedFacts Tryz.pinned.checked.prog 4 Tryz.f4 (OpenSpec.ofChange Rows.topWallsSpec).bare Rows.topWallsRow = true :=
  topWalls_and2 (topWalls_and2 (topWalls_and2 (topWalls_and2 (topWalls_and2 (topWalls_and2 (topWalls_and2 (topWalls_and2 (topWalls_and2 (topWalls_and2 (topWalls_and2 (topWalls_and2 (topWalls_and2 (topWalls_and2 (topWalls_and2 (topWalls_and2 (topWalls_and2 (topWalls_and2 (topWalls_and2 (topWalls_and2 (topWalls_and2 (topWalls_and2 (topWalls_and2 (topWalls_and2 (topWalls_and2 (topWalls_and2 (topWalls_and2 (topWalls_and2 (topWalls_and2 (topWalls_and2 (topWalls_and2 (topWalls_k_wf) topWalls_k_laidOut) topWalls_k_mapsRowed) topWalls_k_params) topWalls_k_namedTie) topWalls_k_stops) topWalls_k_pstops) topWalls_k_knobs) topWalls_k_pknobs) topWalls_k_inPlace) topWalls_k_unfollowed) topWalls_k_recurses) topWalls_k_named) topWalls_k_maps) topWalls_k_ifaces) topWalls_k_mapsOut) topWalls_k_loops) topWalls_k_wide) topWalls_k_vars) topWalls_k_results) topWalls_k_ifacesOut) topWalls_k_loopsOut) topWalls_k_plainKeys) topWalls_k_short) topWalls_k_heard) topWalls_k_mayEnter) topWalls_k_lifts) topWalls_k_make) topWalls_k_kinds) topWalls_k_pinned) topWalls_k_veiled) topWalls_k_veiledFits
theorem topWalls_named : Tryz.pinned.checked.prog.funcNamed Rows.topWallsRow.func = some 4 := by kernel_rfl
end Go.Proofs.YtmbccnioijokfaaGreatDoor

namespace Go.Proofs.YtmbccnioijokfaaGreatDoor
open Go.RowKit
theorem first16 : (65535 : Int) = n16 0xFFFF#16 := by decide
theorem start_c (w : World) : Calls Tryz.prog 328 #[] w fun r w' => r = .returned (.int .u16 (n16 0xFFFF#16)) ∧ w = w' := by
  go_enter Tryz.func328, Tryz.ntmps328
  go_wp2_with fail
  go_returns
  exact ⟨ret_i first16, rfl⟩
def crcO (F : Nat → B8) (n : Nat) : B16 := crcN 0xFFFF#16 F n
theorem crcof_c (q : Option Addr) (n cap : Nat) (F : Nat → B8) (hc : n ≤ cap) (hm : cap ≤ maxLen) (w : World) (hq : Byq w q n F) :
    Calls Tryz.prog 293 #[.slice q n cap] w fun r w' => r = .returned (.int .u16 (n16 (crcO F n))) ∧ Below w.heap.size w w' := by
  go_enter Tryz.func293, Tryz.ntmps293
  go_wp2_with fail
  refine (start_c _).mono ?_; rintro e w1 ⟨rfl, rfl⟩
  go_wp2_with fail
  refine (crcwith_c _ q n cap F hc hm _ hq).mono ?_; rintro e w1 ⟨rfl, hb⟩
  go_wp2_with fail
  go_returns
  exact ⟨rfl, by (repeat' (first | (with_reducible exact Below.refl _ _) | (with_reducible assumption) | (with_reducible refine Below.alloc ?_ ?_ _) | (with_reducible refine Below.drew ?_) | (with_reducible refine Below.setCell ?_ ?_ _) | (with_reducible refine after ?_ (below_regrown _ _ _)) | (refine after ?_ (by with_reducible assumption)) | go_size))⟩
end Go.Proofs.YtmbccnioijokfaaGreatDoor

namespace Go.Proofs.YtmbccnioijokfaaGreatDoor
open Go.RowKit
theorem good_c (q : Option Addr) (n c : Nat) (F : Nat → B8) (hc : n ≤ c) (hm : c ≤ maxLen) (w : World) (hq : Byq w q n F) (b : Bool) (hb : (decide (2 ≤ n) && (crcO F n == 0#16)) = b) :
    Calls Tryz.prog 290 #[.slice q n c] w fun r w' => r = .returned (.bool b) ∧ Below w.heap.size w w' := by
  by_cases h2 : 2 ≤ n
  · have h2' : (2 : Int) ≤ n := by omega
    have e : (n16 (crcO F n) == 0) = b := by
      rw [← hb, Bool.eq_iff_iff]
      simp only [beq_iff_eq, Bool.and_eq_true, decide_eq_true_eq]
      rw [show (0 : Int) = n16 0#16 by decide, n16_eq]
      exact ⟨fun h => ⟨h2, h⟩, fun h => h.2⟩
    go_enter Tryz.func290, Tryz.ntmps290
    go_wp2_with fail
    refine (crcof_c q n c F hc hm _ hq).mono ?_; rintro e w1 ⟨rfl, hb⟩
    generalize n16 (crcO F n) = z at *
    go_wp2_with fail
    go_returns
    exact ⟨rfl, hb⟩
  · have h2' : ¬ (2 : Int) ≤ n := by omega
    obtain rfl : b = false := by rw [← hb]; simp; omega
    go_enter Tryz.func290, Tryz.ntmps290
    go_wp2_with fail
    go_returns
    exact ⟨rfl, Below.refl _ _⟩
def okF (F : Nat → B8) (n : Nat) : Prop := 2 ≤ n ∧ crcO F n = 0#16
theorem good_t (q : Option Addr) (n c : Nat) (F : Nat → B8) (hc : n ≤ c) (hm : c ≤ maxLen) (w : World) (hq : Byq w q n F) (h : okF F n) :
    Calls Tryz.prog 290 #[.slice q n c] w fun r w' => r = .returned (.bool true) ∧ Below w.heap.size w w' :=
  good_c q n c F hc hm w hq true (by simp [h.1, h.2])
theorem good_f (q : Option Addr) (n c : Nat) (F : Nat → B8) (hc : n ≤ c) (hm : c ≤ maxLen) (w : World) (hq : Byq w q n F) (h : ¬ okF F n) :
    Calls Tryz.prog 290 #[.slice q n c] w fun r w' => r = .returned (.bool false) ∧ Below w.heap.size w w' :=
  good_c q n c F hc hm w hq false (by
    unfold okF at h
    rw [Bool.eq_false_iff]
    simpa using h)
theorem take_ok (q : Option Addr) (n c : Nat) (F : Nat → B8) (hc : n ≤ c) (hm : c ≤ maxLen) (h47 : n ≤ 1000000) (w : World) (hq : Byq w q n F) (h : okF F n) :
    Calls Tryz.prog 215 #[.slice q n c] w fun r w' => ∃ v, r = .returned (.tuple #[v, .int .i64 0]) ∧ w'.ownsRow w.heap.size 5 1 v (n - 2) (bl F (n - 2)) ∧ Below w.heap.size w w' := by
  have h2 : 2 ≤ n := h.1
  have h2' : ¬ (n : Int) < 2 := by omega
  have h3 : ((n : Int) - 2) = ((n - 2 : Nat) : Int) := by omega
  have h4 : n - 2 ≤ c := by omega
  have h5 : (n : Int) ≤ 1000000 := by omega
  have hG := fun w hq => good_t q n c F hc hm w hq h
  have hC := fun w hq => clone_c q (n - 2) c F h4 (by omega) w hq
  clear h
  go_enter Tryz.func215, Tryz.ntmps215
  go_wp2_with fail
  refine (hG _ hq).mono ?_; rintro e w1 ⟨rfl, H⟩
  replace hq := (hq.on H).le (Nat.sub_le n 2)
  go_wp2_with fail
  refine (hC _ hq).mono ?_
  rintro e w2 ⟨v, rfl, hown, hb⟩
  replace hown := own_low hown H.size
  replace H := after H hb
  go_wp2_with fail
  go_returns
  exact ⟨v, rfl, hown, H⟩
theorem take_no (q : Option Addr) (n c : Nat) (F : Nat → B8) (hc : n ≤ c) (hm : c ≤ maxLen) (w : World) (hq : Byq w q n F) (h : ¬ okF F n) (e : Int) (he : e = if n < 2 then 3 else 4) :
    Calls Tryz.prog 215 #[.slice q n c] w fun r w' => r = .returned (.tuple #[.slice none 0 0, .int .i64 e]) ∧ Below w.heap.size w w' := by
  subst he
  by_cases h2 : n < 2
  · have h2' : (n : Int) < 2 := by omega
    rw [if_pos h2]
    go_enter Tryz.func215, Tryz.ntmps215
    go_wp2_with fail
    go_returns
    exact ⟨rfl, Below.refl _ _⟩
  · have h2' : ¬ (n : Int) < 2 := by omega
    rw [if_neg h2]
    have hG := fun w hq => good_f q n c F hc hm w hq h
    clear h
    go_enter Tryz.func215, Tryz.ntmps215
    go_wp2_with fail
    refine (hG _ hq).mono ?_; rintro e w1 ⟨rfl, H⟩
    go_wp2_with fail
    go_returns
    exact ⟨rfl, H⟩
end Go.Proofs.YtmbccnioijokfaaGreatDoor

namespace Go.Proofs.YtmbccnioijokfaaGreatDoor
open Go.RowKit
attribute [local go_sem] Oper.semAt_some
def h1V (s x z : Int) : Int := IntKind.u64.wrap (IntKind.u64.wrap (IntKind.u64.wrap (IntKind.u64.wrap s * 11400714819323198485) + IntKind.u64.wrap (IntKind.u64.wrap x * 14029467366897019727)) + IntKind.u64.wrap (IntKind.u64.wrap z * 1609587929392839161))
def h2V (s x z : Int) : Int := IntKind.u64.wrap (bits .xor .u64 (h1V s x z) (h1V s x z / 536870912) * 13787848793156543929)
def hashV (s x z : Int) : Int := bits .xor .u64 (h2V s x z) (h2V s x z / 4294967296)
set_option maxRecDepth 100000 in
set_option maxHeartbeats 1000000 in
theorem ghash_c (s x z : Int) (w : World) : Calls Tryz.prog 292 #[.int .i64 s, .int .i64 x, .int .i64 z] w fun r w' => r = .returned (.int .u64 (hashV s x z)) ∧ w = w' := by
  go_enter Tryz.func292, Tryz.ntmps292
  go_wp2_with fail
  go_returns
  exact ⟨ret_i (by unfold hashV h2V h1V; rfl), rfl⟩
theorem wrapU_bd (n : Int) : 0 ≤ IntKind.u64.wrap n ∧ IntKind.u64.wrap n ≤ 18446744073709551615 := by
  rw [IntKind.wrap_u64]; omega
theorem hashV_bd (s x z : Int) : 0 ≤ hashV s x z ∧ hashV s x z ≤ 18446744073709551615 := wrapU_bd _
def cornV (s a b near : Int) : Int := hashV s a b % 9 * near
theorem cornV_bd (s a b near : Int) (h : 0 ≤ near ∧ near ≤ 64) : 0 ≤ cornV s a b near ∧ cornV s a b near ≤ 8 * near := by
  unfold cornV
  have h1 : 0 ≤ hashV s a b % 9 ∧ hashV s a b % 9 ≤ 8 := by omega
  generalize hashV s a b % 9 = m at *
  exact ⟨Int.mul_nonneg h1.1 h.1, Int.mul_le_mul_of_nonneg_right h1.2 h.1⟩
set_option maxRecDepth 100000 in
set_option maxHeartbeats 1000000 in
theorem gcorn_c (s a b near : Int) (g : Nat) (w : World) (hn : 0 ≤ near ∧ near ≤ 64) (hB : Blk w g 3 #[.int .i64 s]) :
    Calls Tryz.prog 291 #[.int .i64 a, .int .i64 b, .int .i64 near, .pointer (some ⟨g, 0, none⟩)] w fun r w' => r = .returned (.int .i64 (cornV s a b near)) ∧ w = w' := by
  obtain ⟨k0, -⟩ := hB.c1
  have hh := hashV_bd s a b
  have HH := Lib.hid (ghash_c s a b w)
  have HB := Lib.hid (cornV_bd s a b near hn)
  unfold cornV at *
  generalize hashV s a b = h at *
  have h9 : 0 ≤ h % 9 ∧ h % 9 ≤ 8 := by omega
  have hb := HB.out
  have hb1 : -9223372036854775808 ≤ h % 9 * near ∧ h % 9 * near ≤ 9223372036854775807 := by omega
  have h10 : 0 ≤ h % 9 ∧ h % 9 ≤ 9223372036854775807 := by omega
  go_enter Tryz.func291, Tryz.ntmps291
  go_wp2_with (go_at_call 292; refine HH.out.mono ?_; rintro e_ w1 ⟨rfl, rfl⟩)
  go_returns
  exact ⟨rfl, rfl⟩
def groundN (s x z : Int) : Int := cornV s (x / 8) (z / 8) ((8 - x % 8) * (8 - z % 8)) + cornV s (x / 8 + 1) (z / 8) (x % 8 * (8 - z % 8)) + cornV s (x / 8) (z / 8 + 1) ((8 - x % 8) * (z % 8)) + cornV s (x / 8 + 1) (z / 8 + 1) (x % 8 * (z % 8))
def groundV (s x z : Int) : Int := 6 + groundN s x z / 64
theorem mul_bd8 {a b : Int} (ha : 0 ≤ a ∧ a ≤ 8) (hb : 0 ≤ b ∧ b ≤ 8) : 0 ≤ a * b ∧ a * b ≤ 64 := by
  obtain ⟨n, rfl⟩ := Int.eq_ofNat_of_zero_le ha.1
  have : n ≤ 8 := by omega
  rcases (by omega : n = 0 ∨ n = 1 ∨ n = 2 ∨ n = 3 ∨ n = 4 ∨ n = 5 ∨ n = 6 ∨ n = 7 ∨ n = 8) with rfl | rfl | rfl | rfl | rfl | rfl | rfl | rfl | rfl <;> omega
theorem groundN_bd (s x z : Int) : 0 ≤ groundN s x z ∧ groundN s x z ≤ 512 := by
  unfold groundN
  have hu : 0 ≤ x % 8 ∧ x % 8 < 8 := by omega
  have hv : 0 ≤ z % 8 ∧ z % 8 < 8 := by omega
  generalize x % 8 = u at *
  generalize z % 8 = v at *
  have e : (8 - u) * (8 - v) + u * (8 - v) + (8 - u) * v + u * v = 64 := by
    rw [Int.sub_mul, Int.mul_sub, Int.mul_sub, Int.sub_mul]; omega
  have p1 := mul_bd8 (a := 8 - u) (b := 8 - v) (by omega) (by omega)
  have p2 := mul_bd8 (a := u) (b := 8 - v) (by omega) (by omega)
  have p3 := mul_bd8 (a := 8 - u) (b := v) (by omega) (by omega)
  have p4 := mul_bd8 (a := u) (b := v) (by omega) (by omega)
  have q1 := cornV_bd s (x / 8) (z / 8) _ p1
  have q2 := cornV_bd s (x / 8 + 1) (z / 8) _ p2
  have q3 := cornV_bd s (x / 8) (z / 8 + 1) _ p3
  have q4 := cornV_bd s (x / 8 + 1) (z / 8 + 1) _ p4
  omega
theorem groundV_bd (s x z : Int) : 6 ≤ groundV s x z ∧ groundV s x z ≤ 14 := by
  have := groundN_bd s x z
  unfold groundV
  omega
set_option maxRecDepth 100000 in
set_option maxHeartbeats 4000000 in
theorem gground_c (s x z : Int) (hx : -1000000000000 ≤ x ∧ x ≤ 1000000000000) (hz : -1000000000000 ≤ z ∧ z ≤ 1000000000000) (w : World) : Calls Tryz.prog 219 #[.int .i64 s, .int .i64 x, .int .i64 z] w fun r w' => r = .returned (.int .i64 (groundV s x z)) ∧ Below w.heap.size w w' := by
  obtain ⟨W, hW⟩ : ∃ W, W = w.alloc (.cells #[.int .i64 s] 3) := ⟨_, rfl⟩
  have H := Lib.hid (show Below w.heap.size w W from by rw [hW]; go_grown)
  have X : Blk W w.heap.size 3 #[.int .i64 s] := by rw [hW]; exact Blk.new' rfl
  have hN := groundN_bd s x z
  have HG := Lib.hid fun a b near hn => gcorn_c s a b near w.heap.size W hn X
  have HC := Lib.hid fun a b near (hn : 0 ≤ near ∧ near ≤ 64) => cornV_bd s a b near hn
  have HD := Lib.hid fun a (h : In64 a) (w : World) => cdiv8_c a h w
  have HM := Lib.hid fun a (h : In64 a) (w : World) => cmod8_c a h w
  have hu : 0 ≤ x % 8 ∧ x % 8 < 8 := by omega
  have hv : 0 ≤ z % 8 ∧ z % 8 < 8 := by omega
  have hi : -1000000000000 ≤ x / 8 ∧ x / 8 ≤ 1000000000000 := by omega
  have hk : -1000000000000 ≤ z / 8 ∧ z / 8 ≤ 1000000000000 := by omega
  have hx6 : In64 x := by unfold In64; omega
  have hz6 : In64 z := by unfold In64; omega
  unfold groundV groundN at *
  obtain ⟨G, hG⟩ : ∃ G, 6 + (cornV s (x / 8) (z / 8) ((8 - x % 8) * (8 - z % 8)) + cornV s (x / 8 + 1) (z / 8) (x % 8 * (8 - z % 8)) + cornV s (x / 8) (z / 8 + 1) ((8 - x % 8) * (z % 8)) + cornV s (x / 8 + 1) (z / 8 + 1) (x % 8 * (z % 8))) / 64 = G := ⟨_, rfl⟩
  rw [hG]
  have HGG := Lib.hid hG
  clear X hG
  go_enter Tryz.func219, Tryz.ntmps219
  go_upto_region 1 with (fail)
  rw [← hW]
  clear hW
  go_wp2_with fail
  refine (HD.out x hx6 _).mono ?_; rintro e_ w1 ⟨rfl, rfl⟩
  go_wp2_with fail
  refine (HD.out z hz6 _).mono ?_; rintro e_ w1 ⟨rfl, rfl⟩
  go_wp2_with fail
  refine (HM.out x hx6 _).mono ?_; rintro e_ w1 ⟨rfl, rfl⟩
  go_wp2_with fail
  refine (HM.out z hz6 _).mono ?_; rintro e_ w1 ⟨rfl, rfl⟩
  clear hx6 hz6 hx hz
  generalize x % 8 = u at *
  generalize z % 8 = v at *
  generalize x / 8 = i at *
  generalize z / 8 = k at *
  have p1 := mul_bd8 (a := 8 - u) (b := 8 - v) (by omega) (by omega)
  have p2 := mul_bd8 (a := u) (b := 8 - v) (by omega) (by omega)
  have p3 := mul_bd8 (a := 8 - u) (b := v) (by omega) (by omega)
  have p4 := mul_bd8 (a := u) (b := v) (by omega) (by omega)
  have q1 := HC.out i k _ p1
  have q2 := HC.out (i + 1) k _ p2
  have q3 := HC.out i (k + 1) _ p3
  have q4 := HC.out (i + 1) (k + 1) _ p4
  have C1 := Lib.hid (HG.out i k _ p1)
  have C2 := Lib.hid (HG.out (i + 1) k _ p2)
  have C3 := Lib.hid (HG.out i (k + 1) _ p3)
  have C4 := Lib.hid (HG.out (i + 1) (k + 1) _ p4)
  clear HG HC HD HM
  generalize cornV s i k ((8 - u) * (8 - v)) = c1 at *
  generalize cornV s (i + 1) k (u * (8 - v)) = c2 at *
  generalize cornV s i (k + 1) ((8 - u) * v) = c3 at *
  generalize cornV s (i + 1) (k + 1) (u * v) = c4 at *
  have b1 : -9223372036854775808 ≤ (8 - u) * (8 - v) ∧ (8 - u) * (8 - v) ≤ 9223372036854775807 := by omega
  have b2 : -9223372036854775808 ≤ u * (8 - v) ∧ u * (8 - v) ≤ 9223372036854775807 := by omega
  have b3 : -9223372036854775808 ≤ (8 - u) * v ∧ (8 - u) * v ≤ 9223372036854775807 := by omega
  have b4 : -9223372036854775808 ≤ u * v ∧ u * v ≤ 9223372036854775807 := by omega
  clear p1 p2 p3 p4
  go_wp2_with fail
  refine C1.out.mono ?_; rintro e_ w1 ⟨rfl, rfl⟩
  clear b1
  go_wp2_with fail
  refine C2.out.mono ?_; rintro e_ w1 ⟨rfl, rfl⟩
  clear b2
  go_wp2_with fail
  refine C3.out.mono ?_; rintro e_ w1 ⟨rfl, rfl⟩
  clear b3
  go_wp2_with fail
  refine C4.out.mono ?_; rintro e_ w1 ⟨rfl, rfl⟩
  clear b4
  go_wp2_with fail
  go_returns
  exact ⟨ret_i HGG.out, H.out⟩
def ofB (y g : Int) : Int := if y < 0 ∨ 32 ≤ y then 0 else if y = 0 ∨ y < g - 3 then 1 else if y < g - 1 ∨ (y = g - 1 ∧ 9 < g) then 2 else if y = g - 1 then 3 else if y < 9 then 8 else 0
set_option maxRecDepth 100000 in
set_option maxHeartbeats 2000000 in
theorem gof_c (y g : Int) (hy : 0 ≤ y ∧ y < 32) (hg : 6 ≤ g ∧ g ≤ 14) (w : World) : Calls Tryz.prog 220 #[.int .i64 y, .int .i64 g] w fun r w' => r = .returned (.int .i64 (ofB y g)) ∧ w = w' := by
  have y0 : decide (y < 0) = false := by simp; omega
  have y1 : decide (32 ≤ y) = false := by simp; omega
  unfold ofB
  rw [if_neg (by omega)]
  by_cases h1 : y = 0
  · rw [if_pos (.inl h1)]
    subst h1
    go_enter Tryz.func220, Tryz.ntmps220
    go_wp2_with fail
    go_returns
    exact ⟨rfl, rfl⟩
  · have e1 : (y == 0) = false := by simpa using h1
    by_cases h2 : y < g - 3
    · rw [if_pos (.inr h2)]
      clear h1
      go_enter Tryz.func220, Tryz.ntmps220
      go_wp2_with fail
      go_returns
      exact ⟨rfl, rfl⟩
    · rw [if_neg (by omega)]
      have e2 : decide (y < g - 3) = false := by simpa using h2
      by_cases h3 : y < g - 1
      · rw [if_pos (.inl h3)]
        clear h1 h2
        go_enter Tryz.func220, Tryz.ntmps220
        go_wp2_with fail
        go_returns
        exact ⟨rfl, rfl⟩
      · have e3 : decide (y < g - 1) = false := by simpa using h3
        by_cases h4 : y = g - 1
        · have e4 : (y == g - 1) = true := by simpa using h4
          by_cases h5 : 9 < g
          · rw [if_pos (.inr ⟨h4, h5⟩)]
            clear h1 h2 h3 h4
            go_enter Tryz.func220, Tryz.ntmps220
            go_wp2_with fail
            go_returns
            exact ⟨rfl, rfl⟩
          · rw [if_neg (by omega), if_pos h4]
            have e5 : decide (9 < g) = false := by simpa using h5
            clear h1 h2 h3 h4 h5
            go_enter Tryz.func220, Tryz.ntmps220
            go_wp2_with fail
            go_returns
            exact ⟨rfl, rfl⟩
        · have e4 : (y == g - 1) = false := by simpa using h4
          rw [if_neg (by omega), if_neg h4]
          by_cases h6 : y < 9
          · rw [if_pos h6]
            clear h1 h2 h3 h4
            go_enter Tryz.func220, Tryz.ntmps220
            go_wp2_with fail
            go_returns
            exact ⟨rfl, rfl⟩
          · rw [if_neg h6]
            have e6 : decide (y < 9) = false := by simpa using h6
            clear h1 h2 h3 h4 h6
            go_enter Tryz.func220, Tryz.ntmps220
            go_wp2_with fail
            go_returns
            exact ⟨rfl, rfl⟩
end Go.Proofs.YtmbccnioijokfaaGreatDoor

namespace Go.Proofs.YtmbccnioijokfaaGreatDoor
open Go.RowKit Go.Maps
attribute [local go_sem] Oper.semAt_some
abbrev encW (p : Int × SL) : List Value := [.int .i64 p.1, slV p.2]
theorem lenW (p : Int × SL) : (encW p).length = 2 := rfl
structure DiskAt (w : World) (base d bm : Nat) (v : Value) (S : DS) (sv lv : List (Int × SL)) : Prop where
  blk : Blk w d 200 #[.int .i64 S.room, .int .i64 S.fails, .int .i64 S.waits, .map (some bm), v]
  map : w.ownsMap Tryz.prog 3 RS bm sv.length (DM sv)
  row : Owns w base 293 2 encW v lv
  based : base ≤ d
  basem : base ≤ bm
  gs : GoodL w base sv
  gl : GoodL w base lv
  safe : S.safe = cont w sv
  l : S.l = cont w lv
theorem own_blk {w : World} {base n size : Nat} {e : TypeId} {v : Value} {xs : List Value} (h : w.ownsRow base e size v n xs) {g : Nat} (hg : v.ownBlock = some g) : base ≤ g ∧ ∃ cur, Blk w g e cur := by
  rcases h.2 with ⟨rfl, _⟩ | ⟨g', cap, cur, rfl, hb, hgg, _⟩
  · cases hg
  · simp [Value.ownBlock] at hg
    subst hg
    exact ⟨hb, cur, hgg⟩
theorem blk_one {w : World} {g : Nat} {t t' : TypeId} {cs cs' : Array Value} (h : Blk w g t cs) (h' : Blk w g t' cs') : t = t' := by
  unfold Blk at h h'
  rw [h] at h'
  simp only [Option.some.injEq, Obj.cells.injEq] at h'
  exact h'.2.1
def Mine (d bm : Nat) (v : Value) (b : Nat) : Prop := b = d ∨ b = bm ∨ v.ownBlock = some b
theorem DiskAt.mine {w : World} {base d bm : Nat} {v : Value} {S : DS} {sv lv : List (Int × SL)} (h : DiskAt w base d bm v S sv lv) {b : Nat} (hb : Mine d bm v b) : base ≤ b ∧ b < w.heap.size ∧ ∀ t cs, Blk w b t cs → t = 200 ∨ t = 293 := by
  rcases hb with rfl | rfl | hb
  · exact ⟨h.based, h.blk.lt, fun t cs hB => .inl (blk_one hB h.blk)⟩
  · exact ⟨h.basem, h.map.lt, fun t cs hB => absurd hB (map_lt h.map _ _ _)⟩
  · obtain ⟨h1, cur, h2⟩ := own_blk h.row hb
    exact ⟨h1, h2.lt, fun t cs hB => .inr (blk_one hB h2)⟩
theorem DiskAt.kept {w w' : World} {base d bm : Nat} {v : Value} {S : DS} {sv lv : List (Int × SL)} {K : Nat → Prop} (h : DiskAt w base d bm v S sv lv) (hk : Kept K w w') (h1 : ∀ b, Mine d bm v b → K b) (h2 : ∀ b, ByteBlk w base b → K b) : DiskAt w' base d bm v S sv lv := by
  obtain ⟨g1, g2⟩ := h.gs.kept hk h2
  obtain ⟨g3, g4⟩ := h.gl.kept hk h2
  refine ⟨hk.blk (h1 _ (.inl rfl)) h.blk, map_kept h.map (hk.block _ h.map.lt (h1 _ (.inr (.inl rfl)))), ⟨h.row.1, ?_⟩, h.based, h.basem, g1, g3, by rw [g2]; exact h.safe, by rw [g4]; exact h.l⟩
  rcases h.row.2 with h0 | ⟨g, cap, cur, hv, hbg, hg, r⟩
  · exact .inl h0
  · exact .inr ⟨g, cap, cur, hv, hbg, (hk.block g (Array.getElem?_eq_some_iff.1 hg).1 (h1 g (.inr (.inr (by rw [hv]; rfl))))).trans hg, r⟩
def DiskIs (w : World) (base : Nat) (M : Nat → Prop) (d : Nat) (S : DS) : Prop := ∃ bm v sv lv, DiskAt w base d bm v S sv lv ∧ ∀ b, M b ↔ Mine d bm v b
theorem DiskIs.mine {w : World} {base : Nat} {M : Nat → Prop} {d : Nat} {S : DS} (h : DiskIs w base M d S) {b : Nat} (hb : M b) : base ≤ b ∧ b < w.heap.size ∧ ∀ t cs, Blk w b t cs → t = 200 ∨ t = 293 := by
  obtain ⟨bm, v, sv, lv, h, hM⟩ := h
  exact h.mine ((hM b).1 hb)
theorem DiskIs.kept {w w' : World} {base : Nat} {M : Nat → Prop} {d : Nat} {S : DS} {K : Nat → Prop} (h : DiskIs w base M d S) (hk : Kept K w w') (h1 : ∀ b, M b → K b) (h2 : ∀ b, ByteBlk w base b → K b) : DiskIs w' base M d S := by
  obtain ⟨bm, v, sv, lv, h, hM⟩ := h
  exact ⟨bm, v, sv, lv, h.kept hk (fun b hb => h1 b ((hM b).2 hb)) h2, hM⟩
theorem DiskIs.on {w w' : World} {base : Nat} {M : Nat → Prop} {d : Nat} {S : DS} (h : DiskIs w base M d S) (hb : Below w.heap.size w w') : DiskIs w' base M d S := h.kept (K := fun _ => True) (Kept.of_below hb |>.mono fun _ _ => trivial) (fun _ _ => trivial) (fun _ _ => trivial)
theorem lawI : Keyed Tryz.prog 3 := int_keyed Tryz.underlying3
theorem zeroB (w : World) : (zeroValue 51).run Tryz.prog w = .ok (.slice none 0 0) w := by kernel_rfl
theorem wf64 {x : Int} (h : In64 x) : (Lit.int .i64 x).wf = true := by
  simp [Lit.wf, IntKind.min, IntKind.max, IntKind.signed, IntKind.bits]
  unfold In64 at h
  omega
theorem key64 {x : Int} (h : In64 x) : keyOf Tryz.prog 3 (.int .i64 x) = some (.int .i64 x) := keyOf_int_mk Tryz.underlying3 (wf64 h)
set_option maxRecDepth 100000 in
set_option maxHeartbeats 2000000 in
theorem mclone_c (b n : Nat) (D : DataW SL) (w : World) (hown : w.ownsMap Tryz.prog 3 RS b n D) :
    Calls Tryz.prog 289 #[.map (some b)] w fun e w' => e = .returned (.map (some w.heap.size)) ∧ w'.ownsMap Tryz.prog 3 RS w.heap.size n D ∧ Below w.heap.size w w' := by
  obtain ⟨es, clock, hb, F, hs, hD⟩ := hown
  have hq := fun w => run_eql_map_nil_sl (P := Tryz.prog) w 197 _ _ (some b) Tryz.underlying197
  have hta := fun w (v : Value) => run_typeAssert_map_sl (P := Tryz.prog) w 197 20 _ _ v Tryz.underlying197
  go_enter Tryz.func289, Tryz.ntmps289
  go_wp2_with fail
  rw [run_callFunc_extern Tryz.func327 (by kernel_rfl) (by kernel_rfl) (by kernel_rfl) (e := Extern.MapsClone.clone) (by kernel_rfl), run_maps_clone_sl w 197 hb]
  simp only [Result.andThen]
  rw [Oper.upon_value]
  go_wp2_with fail
  go_returns
  have hB : Below w.heap.size w (w.alloc (.map es clock)) := (Below.refl _ w).alloc (Nat.le_refl _) _
  exact ⟨rfl, ⟨es, clock, (MapKept.heap_alloc w _).1, F, hs, hD⟩, hB⟩
end Go.Proofs.YtmbccnioijokfaaGreatDoor

namespace Go.Proofs.YtmbccnioijokfaaGreatDoor
open Go.RowKit Go.Maps
attribute [local go_sem] Oper.semAt_some
theorem row_form {w : World} {base : Nat} {e : TypeId} {v : Value} {xs : List (Int × SL)} (h : Owns w base e 2 encW v xs) : ∃ q cap, v = .slice q xs.length cap ∧ xs.length ≤ cap ∧ cap ≤ maxLen ∧
    ∀ i p, xs[i]? = some p → ∃ g, q = some ⟨g, 0, none⟩ ∧ w.cell? ⟨g, i * 2, none⟩ = some (.int .i64 p.1) ∧ w.cell? ⟨g, i * 2 + 1, none⟩ = some (slV p.2) := by
  obtain ⟨q, cap, hv, h1, h2, hR, -, hg⟩ := h.form lenW
  refine ⟨q, cap, hv, h1, h2, fun i p hi => ?_⟩
  have hn : 0 < xs.length := by have := (List.getElem?_eq_some_iff.1 hi).1; omega
  obtain ⟨g, rfl⟩ := hg hn
  have a0 := hR.at hi (j := 0) rfl
  have a1 := hR.at hi (j := 1) rfl
  rw [Nat.zero_add] at a0 a1
  exact ⟨g, rfl, a0, a1⟩
theorem take_at {α : Type} {xs : List α} {k : Nat} {p : α} (h : xs[k]? = some p) : xs.take (k + 1) = xs.take k ++ [p] := by rw [List.take_add_one, h]; rfl
theorem lt_at {α : Type} {xs : List α} {k : Nat} (h : k < xs.length) : ∃ p, xs[k]? = some p := ⟨_, List.getElem?_eq_getElem h⟩
set_option maxRecDepth 100000 in
set_option maxHeartbeats 4000000 in
theorem now_c (base d bm : Nat) (v : Value) (S : DS) (sv lv : List (Int × SL)) (w : World) (h : DiskAt w base d bm v S sv lv) (hr : Rise sv) (hk : ∀ p ∈ lv, In64 p.1) (hN : sv.length + lv.length ≤ 1000000) :
    Calls Tryz.prog 213 #[.pointer (some ⟨d, 0, none⟩)] w fun r w' => r = .returned (.map (some w.heap.size)) ∧ w'.ownsMap Tryz.prog 3 RS w.heap.size (sv.length + lv.length) (DM (nowL sv lv)) ∧ Below w.heap.size w w' := by
  obtain ⟨q, cap, rfl, hc1, hc2, hrd⟩ := row_form h.row
  have d3 : w.cell? ⟨d, 3, none⟩ = some (.map (some bm)) := h.blk.cell 3
  have d4 : w.cell? ⟨d, 4, none⟩ = some (.slice q lv.length cap) := h.blk.cell 4
  have hdl := h.blk.lt
  have HM := Lib.hid h.map
  have HR := Lib.hid hrd
  have HK := Lib.hid hk
  have HC := Lib.hid (And.intro hc1 hc2)
  clear h hrd hk hc1 hc2
  go_enter Tryz.func213, Tryz.ntmps213
  go_wp2_with (go_at_call 289; refine (mclone_c bm _ _ _ HM.out).mono ?_; rintro e_ w1 ⟨rfl, hm1, hB1⟩; have d4' : w1.cell? ⟨d, 4, none⟩ = some (.slice q lv.length cap) := (hB1.cell hdl).trans d4)
  generalize hn0 : w.heap.size = m at hm1 hB1 hdl ⊢
  go_loopw [16] (fun i wr => ∃ k : Nat, k ≤ lv.length ∧ i = .int .i64 k ∧ wr.ownsMap Tryz.prog 3 RS m (sv.length + k) (DM (nowL sv (lv.take k))) ∧ Below m w wr) (fun i _ => lv.length - (intOf i).toNat)
  case atStart => exact ⟨0, Nat.zero_le _, rfl, by rw [List.take_zero]; exact hm1, hB1⟩
  case round =>
    obtain ⟨k, hk, rfl, hown, hnx⟩ := hrel
    by_cases hlt : k < lv.length
    · obtain ⟨p, hp⟩ := lt_at hlt
      obtain ⟨g, rfl, r0, r1⟩ := HR.out k p hp
      have hgl := cell_lt r0
      replace hgl : g < m := by rw [← hn0]; exact hgl
      replace r0 := (hnx.cell (p := ⟨g, k * 2, none⟩) hgl).trans r0
      replace r1 := (hnx.cell (p := ⟨g, k * 2 + 1, none⟩) hgl).trans r1
      have hkey := key64 (HK.out p (List.mem_of_getElem? hp))
      obtain ⟨pk, pq, pn, pc⟩ := p
      simp only [slV] at r0 r1 hkey
      have HP := Lib.hid hp
      clear hp
      have hk1 : (k : Int) < (lv.length : Int) := by omega
      have hk0 : (0 : Int) ≤ (k : Int) := by omega
      go_wp2_with (at_mapUpdate; refine wpList_mapUpdate_own _ rfl _ _ _ 197 rfl 3 51 lawI Tryz.underlying197 _ m (sv.length + k) _ rfl (hown.alloc _) (by unfold maxLen; omega) _ _ _ rfl rfl hkey _ [] (RS_mk (pq, pn, pc)) ?_; intro w2 hown2 hgrow2)
      rw [put_DM (rise_now hr), ← nowL_snoc, ← take_at HP.out, show sv.length + k + 1 = sv.length + (k + 1) by omega] at hown2
      have hms : m ≤ wr.heap.size := by rw [← hn0]; exact hnx.size
      exact ⟨⟨k + 1, hlt, by go_num, hown2, (hnx.alloc hms _).grown hgrow2 (Nat.le_trans hms (by simp)) (fun j hj => by cases hj; exact Nat.le_refl _)⟩, next_less' hlt⟩
    · obtain rfl : k = lv.length := by omega
      rw [List.take_length] at hown
      have hk1 : ¬ ((lv.length : Int) < (lv.length : Int)) := by omega
      go_wp2_with fail
      go_returns
      subst hn0
      exact ⟨rfl, hown, hnx⟩
def lens (l : List (Int × SL)) : Nat := (l.map fun p => p.2.2.1).sum
theorem lens_is {w : World} {base : Nat} : ∀ {l : List (Int × SL)}, GoodL w base l → lens l = lenB (cont w l)
  | [], _ => rfl
  | x :: r, h => by
    have h1 := (h x List.mem_cons_self).len
    have h2 := lens_is (l := r) fun p hp => h p (List.mem_cons_of_mem _ hp)
    simp only [lens, lenB, cont, List.map_cons, List.sum_cons] at h2 ⊢
    rw [h1, h2]
end Go.Proofs.YtmbccnioijokfaaGreatDoor

namespace Go.Proofs.YtmbccnioijokfaaGreatDoor
open Go.RowKit
attribute [local go_sem] Oper.semAt_some
theorem nextx {i n : Nat} (h : i < n) (hn : n ≤ maxLen) : (0 : Int) ≤ i ∧ (i : Int) < n ∧ -9223372036854775808 ≤ (i : Int) + 1 ∧ (i : Int) + 1 ≤ 9223372036854775807 := by simp only [maxLen] at hn; omega
abbrev encR (r : Rn) : List Value := [.int .i64 r.1, .int .i64 r.2]
theorem lenRn (r : Rn) : (encR r).length = 2 := rfl
theorem lenR_take {l : List Rn} (h : ∀ r ∈ l, 0 ≤ r.1) (k : Nat) : 0 ≤ lenR (l.take k) ∧ lenR (l.take k) ≤ lenR l := by
  have e : lenR (l.take k) + lenR (l.drop k) = lenR l := by
    unfold lenR
    rw [← List.sum_append, ← List.map_append, List.take_append_drop]
  have p : ∀ m : List Rn, (∀ r ∈ m, 0 ≤ r.1) → 0 ≤ lenR m := fun m hm => by rw [lenR_cells hm]; omega
  have := p (l.take k) fun r hr => h r (List.mem_of_mem_take hr)
  have := p (l.drop k) fun r hr => h r (List.mem_of_mem_drop hr)
  omega
theorem lenR_succ {l : List Rn} {k : Nat} {p : Rn} (hp : l[k]? = some p) : lenR (l.take (k + 1)) = lenR (l.take k) + p.1 := by
  rw [take_at hp]
  unfold lenR
  rw [List.map_append, List.sum_append]
  simp
set_option maxRecDepth 100000 in
set_option maxHeartbeats 4000000 in
theorem rlen_c (w : World) (q : Option Addr) (c : Nat) (R : List Rn) (hR : Rd w q 2 encR R) (hn : ∀ r ∈ R, 0 ≤ r.1) (hm : lenR R ≤ 1000000) (hc : R.length ≤ maxLen) :
    Calls Tryz.prog 227 #[.slice q R.length c] w fun r w' => r = .returned (.int .i64 (lenR R)) ∧ Below w.heap.size w w' := by
  have HR := Lib.hid hR
  have HT := Lib.hid (lenR_take hn)
  have HC := Lib.hid hc
  clear hR hn hc
  go_enter Tryz.func227, Tryz.ntmps227
  go_upto_region 3 with (fail)
  go_loopw [3, 8] (fun x i wr => ∃ k : Nat, k ≤ R.length ∧ i = .int .i64 k ∧ x = .int .i64 (lenR (R.take k)) ∧ Below w.heap.size w wr) (fun _ i _ => R.length - (intOf i).toNat)
  case atStart => exact ⟨0, Nat.zero_le _, rfl, rfl, Below.refl _ _⟩
  case round =>
    obtain ⟨k, hk, rfl, rfl, hnx⟩ := hrel
    by_cases hlt : k < R.length
    · obtain ⟨p, hp⟩ := lt_at hlt
      obtain ⟨g, o, rfl, h1⟩ := HR.out.on hnx (by omega)
      have r0 : wr.cell? ⟨g, o + k * 2, none⟩ = some (.int .i64 p.1) := h1 k p hp 0 _ rfl
      have r1 : wr.cell? ⟨g, o + k * 2 + 1, none⟩ = some (.int .i64 p.2) := h1 k p hp 1 _ rfl
      have hst := lenR_succ hp
      have hb := HT.out (k + 1)
      have hb0 := HT.out k
      rw [hst] at hb
      obtain ⟨n2, n3, n5, n6⟩ := nextx hlt HC.out
      have HST := Lib.hid hst
      have HNX := Lib.hid hnx
      clear hp hst hnx h1
      go_wp2_with fail
      exact ⟨⟨k + 1, hlt, by go_num, by rw [HST.out], HNX.out.alloc HNX.out.size _⟩, by simp [intOf]; omega⟩
    · obtain rfl : k = R.length := by omega
      rw [List.take_length]
      have hk1 : ¬ ((R.length : Int) < (R.length : Int)) := by omega
      go_wp2_with fail
      go_returns
      exact ⟨rfl, hnx⟩
theorem atR_no {r : Rn} {l : List Rn} {i : Int} (h : ¬ (0 ≤ i ∧ i < r.1)) : atR (r :: l) i = atR l (i - r.1) := by rw [atR, if_neg h]
theorem atR_yes {r : Rn} {l : List Rn} {i : Int} (h : 0 ≤ i ∧ i < r.1) : atR (r :: l) i = r.2 := by rw [atR, if_pos h]
set_option maxRecDepth 100000 in
set_option maxHeartbeats 4000000 in
theorem rat_c (w : World) (q : Option Addr) (c : Nat) (R : List Rn) (i : Int) (hR : Rd w q 2 encR R) (hn : ∀ r ∈ R, 0 ≤ r.1) (hm : lenR R ≤ 1000000) (hc : R.length ≤ maxLen) (hi : -1000000 ≤ i ∧ i ≤ 1000000) :
    Calls Tryz.prog 160 #[.slice q R.length c, .int .i64 i] w fun r w' => r = .returned (.int .i64 (atR R i)) ∧ Below w.heap.size w w' := by
  have HR := Lib.hid hR
  have HT := Lib.hid (lenR_take hn)
  have HC := Lib.hid hc
  have HP := Lib.hid hn
  clear hR hn hc
  go_enter Tryz.func160, Tryz.ntmps160
  go_upto_region 2 with (fail)
  go_loopw [1, 9] (fun x i' wr => ∃ k : Nat, k ≤ R.length ∧ i' = .int .i64 k ∧ x = .int .i64 (i - lenR (R.take k)) ∧ Hid (atR (R.drop k) (i - lenR (R.take k)) = atR R i) ∧ Below w.heap.size w wr) (fun _ i _ => R.length - (intOf i).toNat)
  case atStart => exact ⟨0, Nat.zero_le _, rfl, by simp [lenR], by show atR R (i - 0) = _; rw [Int.sub_zero], Below.refl _ _⟩
  case round =>
    obtain ⟨k, hk, rfl, rfl, hv, hnx⟩ := hrel
    by_cases hlt : k < R.length
    · obtain ⟨p, hp⟩ := lt_at hlt
      obtain ⟨g, o, rfl, h1⟩ := HR.out.on hnx (by omega)
      have r0 : wr.cell? ⟨g, o + k * 2, none⟩ = some (.int .i64 p.1) := h1 k p hp 0 _ rfl
      have r1 : wr.cell? ⟨g, o + k * 2 + 1, none⟩ = some (.int .i64 p.2) := h1 k p hp 1 _ rfl
      have hst := lenR_succ hp
      have hp0 := HP.out p (List.mem_of_getElem? hp)
      have hb := HT.out (k + 1)
      have hb0 := HT.out k
      rw [hst] at hb
      obtain ⟨n2, n3, n5, n6⟩ := nextx hlt HC.out
      have hd : R.drop k = p :: R.drop (k + 1) := List.drop_eq_getElem?_toList_append .. |>.trans (by rw [hp]; rfl)
      have hv2 := hv.out
      rw [hd] at hv2
      have HV := Lib.hid hv2
      have HST := Lib.hid hst
      have HNX := Lib.hid hnx
      clear hp hst hnx h1 hd hv hv2
      generalize lenR (R.take k) = s at *
      obtain ⟨j, hj⟩ : ∃ j, j = i - s := ⟨_, rfl⟩
      rw [← hj] at HV
      have e1 : -2000000 ≤ j ∧ j ≤ 2000000 := by omega
      have e2 : 0 ≤ p.1 ∧ p.1 ≤ 1000000 := by omega
      have HJ := Lib.hid (show i - (s + p.1) = j - p.1 by omega)
      rw [← hj]
      clear hj hb hb0 hi hm hp0
      have hrel : ¬ (0 ≤ j ∧ j < p.1) → ∀ wr' : World, Below w.heap.size w wr' → ∃ k_1 : Nat, k_1 ≤ R.length ∧ Value.int .i64 ((k : Int) + 1) = .int .i64 k_1 ∧ Value.int .i64 (j - p.1) = .int .i64 (i - lenR (R.take k_1)) ∧ Hid (atR (R.drop k_1) (i - lenR (R.take k_1)) = atR R i) ∧ Below w.heap.size w wr' := fun h wr' hb => ⟨k + 1, hlt, by go_num, by rw [HST.out, HJ.out], by rw [HST.out, HJ.out, ← HV.out, atR_no h]; exact Lib.hid rfl, hb⟩
      have HREL := Lib.hid hrel
      clear hrel
      by_cases h0 : 0 ≤ j
      · by_cases h2 : j < p.1
        · go_wp2_with fail
          go_returns
          refine ⟨ret_i ?_, HNX.out.alloc HNX.out.size _⟩
          rw [← HV.out, atR_yes ⟨h0, h2⟩]
        · go_wp2_with fail
          exact ⟨HREL.out (fun h => h2 h.2) _ (HNX.out.alloc HNX.out.size _), by simp [intOf]; omega⟩
      · have h0' : j < 0 := by omega
        go_wp2_with fail
        exact ⟨HREL.out (fun h => h0 h.1) _ (HNX.out.alloc HNX.out.size _), by simp [intOf]; omega⟩
    · obtain rfl : k = R.length := by omega
      have hk1 : ¬ ((R.length : Int) < (R.length : Int)) := by omega
      have hb0 := HT.out R.length
      have HV := Lib.hid hv.out
      clear hv
      go_wp2_with fail
      go_returns
      refine ⟨ret_i ?_, hnx⟩
      rw [← HV.out, List.drop_length]
      rfl
end Go.Proofs.YtmbccnioijokfaaGreatDoor

namespace Go.Proofs.YtmbccnioijokfaaGreatDoor
open Go.RowKit
attribute [local go_sem] Oper.semAt_some
section
variable {w w' : World} {base g n cap size : Nat} {e : TypeId} {α : Type} {enc : α → List Value} {v : Value} {xs xs' : List α}
theorem Owns.store (h : Owns w base e size enc v xs) (hv : v = .slice (some ⟨g, 0, none⟩) n cap) (k : Nat) (u : Value) (hk : k < xs.length * size) (hl : xs'.length = xs.length) (hx : xs'.flatMap enc = (xs.flatMap enc).set k u) :
    Owns (w.setCell ⟨g, k, none⟩ u) base e size enc v xs' := by
  have h1 := h.1
  refine ⟨by rw [hx, List.length_set, h1, hl], ?_⟩
  rcases h.2 with ⟨hv', h0⟩ | ⟨g', cap', cur, hv', hb, hg, hc, hm, hs, ht⟩
  · rw [h0] at hk
    omega
  · rw [hv] at hv'
    obtain ⟨h2, h3, h4⟩ := Value.slice.inj hv'
    obtain rfl : g = g' := by simpa using h2
    subst h4
    refine .inr ⟨g, cap, cur.setIfInBounds k u, by rw [hv, h3, hl], hb, ?_, by omega, hm, by rw [Array.size_setIfInBounds]; exact hs, ?_⟩
    · have hB : Blk w g e cur := hg
      exact hB.set_ k u
    · rw [hl, hx, ← ht]
      rw [Array.toList_setIfInBounds, List.take_set]
theorem grown_kept {row : Option Nat} (h : w.grownBy w' row) : Kept (fun b => row ≠ some b) w w' := ⟨h.os, h.tape, h.output, h.size, fun b hb hK => h.block b hb (Ne.symm hK)⟩
end
theorem flat_lenRn : ∀ l : List Rn, (l.flatMap encR).length = l.length * 2
  | [] => rfl
  | x :: l => by rw [List.flatMap_cons, List.length_append, flat_lenRn l]; simp; omega
theorem flat_last (l : List Rn) (x : Rn) (m : Int) : (l ++ [(m, x.2)]).flatMap encR = ((l ++ [x]).flatMap encR).set (l.length * 2) (.int .i64 m) := by
  rw [List.flatMap_append, List.flatMap_append, List.set_append_right _ _ (by rw [flat_lenRn]; omega), flat_lenRn, Nat.sub_self]
  rfl
def PushR (w : World) (base : Nat) (row : Option Nat) (xs : List Rn) (r : Ending) (w' : World) : Prop :=
  ∃ v', r = .returned v' ∧ Owns w' base 235 2 encR v' xs ∧ Kept (fun b => row ≠ some b) w w'
set_option maxRecDepth 100000 in
set_option maxHeartbeats 4000000 in
theorem rpush_c (w : World) (base : Nat) (v : Value) (xs : List Rn) (r : Rn) (hO : Owns w base 235 2 encR v xs) (hn : ∀ x ∈ xs, 1 ≤ x.1) (hb : lenR xs ≤ 1000000) (hr : 0 ≤ r.1 ∧ r.1 ≤ 1000000) (hbase : base ≤ w.heap.size) (hlen : xs.length ≤ 1000000) :
    Calls Tryz.prog 221 #[v, .agg #[.int .i64 r.1, .int .i64 r.2]] w fun e w' => PushR w base v.ownBlock (pushR xs r) e w' := by
  obtain ⟨W, hW⟩ : ∃ W, W = w.alloc (.cells #[.int .i64 r.1, .int .i64 r.2] 235) := ⟨_, rfl⟩
  have H : Below w.heap.size w W := by rw [hW]; go_grown
  have X : Blk W w.heap.size 235 #[.int .i64 r.1, .int .i64 r.2] := by rw [hW]; exact Blk.new' rfl
  have hOW := hO.on H
  have hs : W.heap.size = w.heap.size + 1 := by rw [hW]; simp
  obtain ⟨q, cap, hv, hc1, hc2, hrd, hq1, hq2⟩ := hO.form lenRn
  have HO := Lib.hid hOW
  have HB := Lib.hid (And.intro hbase hs)
  have HH := Lib.hid H
  have HN := Lib.hid hn
  obtain ⟨x0, x1, -, -⟩ := X.pair
  have hcap : (xs.length : Int) ≤ 1000000 := by omega
  unfold pushR
  by_cases hr1 : r.1 < 1
  · rw [if_pos hr1]
    clear hOW hbase hs hO X H hrd hq1 hq2 hn hb
    subst hv
    go_enter Tryz.func221, Tryz.ntmps221
    go_upto_region 1 with (fail)
    rw [← hW]
    clear hW
    go_wp2_with fail
    go_returns
    exact ⟨_, rfl, HO.out, (Kept.of_below HH.out).mono (fun _ _ => trivial)⟩
  · rw [if_neg hr1]
    have hr1' : 1 ≤ r.1 := by omega
    have hpush : ∀ (W1 : World) (b : Nat), Below W.heap.size W W1 → (∀ j u, (encR r)[j]? = some u → W1.cell? ⟨b, j, none⟩ = some u) → ∃ v' w', (Builtin.append_ #[184, 184] 184 #[v, .slice (some ⟨b, 0, none⟩) 1 1]).run Tryz.prog W1 = .ok v' w' ∧ PushR w base v.ownBlock (xs ++ [r]) (.returned v') w' := fun W1 b h1 hx => by
      obtain ⟨v', w', h3, h4, h5, h6, -⟩ := run_push (P := Tryz.prog) (w := W1) (base := base) (e := 235) (size := 2) (enc := encR) (v := v) (xs := xs) (ts := 184) (ty := 184) (z := .agg #[.int .i64 0, .int .i64 0]) (bytes := 16) (b := b) (x := r) Tryz.underlying184 (by kernel_rfl) rfl (by decide) (by decide) rfl (by intro u hu; simp at hu; rcases hu with rfl | rfl <;> rfl) (HO.out.on h1) hx (by omega) (by have := h1.size; have := HB.out; omega)
      exact ⟨v', w', h3, v', rfl, h4, ((Kept.of_below (after HH.out h1)).mono (fun _ _ => trivial)).trans (grown_kept h5)⟩
    have HPU := Lib.hid hpush
    clear hpush
    cases hl : xs.getLast? with
    | none =>
      obtain rfl : xs = [] := by simpa using hl
      dsimp only
      clear hOW hbase hs hO H hrd hq1 hq2 hn hb hl hc1 hc2 hlen hcap
      subst hv
      go_enter Tryz.func221, Tryz.ntmps221
      go_upto_region 1 with (fail)
      rw [← hW]
      clear hW
      go_upto_region 4 with (fail)
      refine wp_region_quiet_below (by kernel_rfl) (by kernel_rfl) ?_
      repeat (go_big_quiet_step (fail))
      refine wpQuiet_nil ?_
      intro w' hw'
      obtain ⟨rg, rfl⟩ := hw'
      go_upto_region 7 with (fail)
      obtain ⟨W2, hW2⟩ : ∃ W2, W2 = Go.Sort.grow (redrawn W rg.d) rg.os := ⟨_, rfl⟩
      have h2 : Below W.heap.size W W2 := by rw [hW2]; exact below_regrown _ _ _
      rw [← hW2]
      clear hW2 x0 x1
      obtain ⟨y0, y1, -, -⟩ := (X.on h2).pair
      obtain ⟨v', w', hrun, hP⟩ := HPU.out (W2.alloc (.cells #[.int .i64 r.1, .int .i64 r.2] 235)) W2.heap.size (h2.alloc h2.size _) (fun j u hu => by
        rw [(Blk.new W2 235 _).cell j]
        simpa using hu)
      have HP := Lib.hid hP
      clear hP h2 X
      go_wp2_with (at_builtin; refine Lib.wpList_append_run _ rfl _ _ _ _ rfl _ _ rfl rfl _ _ hrun ?_)
      go_returns
      exact HP.out
    | some x =>
      dsimp only
      obtain ⟨ys, hys⟩ : ∃ ys, xs = ys ++ [x] := ⟨_, last_split hl⟩
      obtain ⟨m, hm⟩ : ∃ m, m = ys.length := ⟨_, rfl⟩
      have hlm : xs.length = m + 1 := by rw [hys, List.length_append, hm]; rfl
      have hxm : xs[m]? = some x := by rw [hys, hm]; simp
      obtain ⟨g, hg⟩ := hq2 (by omega)
      subst hg
      have y0 : W.cell? ⟨g, m * 2, none⟩ = some (.int .i64 x.1) := by have := (hrd.on H).at hxm (j := 0) (u := .int .i64 x.1) rfl; simpa using this
      have y1 : W.cell? ⟨g, m * 2 + 1, none⟩ = some (.int .i64 x.2) := by have := (hrd.on H).at hxm (j := 1) (u := .int .i64 x.2) rfl; simpa using this
      have hfz : W.frozen? ⟨g, m * 2, none⟩ = false := by
        rcases hOW.2 with ⟨h1, h2⟩ | ⟨g', cap', cur, h1, -, h2, -⟩
        · omega
        · rw [hv] at h1
          obtain ⟨h3, -, -⟩ := Value.slice.inj h1
          obtain rfl : g = g' := by simpa using h3
          exact Blk.frz (w := W) (t := 235) (cs := cur) h2 _
      have hx1 := hn x (List.mem_of_getElem? hxm)
      have hxb : x.1 + lenR ys = lenR xs := by rw [hys]; unfold lenR; rw [List.map_append, List.sum_append]; simp; omega
      have hyn : 0 ≤ lenR ys := by rw [lenR_cells (fun r hr => by have := hn r (by rw [hys]; exact List.mem_append_left _ hr); omega)]; omega
      have hx2 : x.1 ≤ 1000000 := by omega
      have hmm : (0 : Int) ≤ m := by omega
      have hmc : (m : Int) ≤ 1000000 := by omega
      have hdl : xs.dropLast = ys := by rw [hys]; simp
      have HYS := Lib.hid hys
      have HM := Lib.hid hm
      have HLM := Lib.hid hlm
      rw [hdl]
      have HV := Lib.hid hv
      rw [hlm] at hv
      have hml : (m : Int) < (m : Int) + 1 := by omega
      clear hOW hbase hs hO hrd hq1 hq2 hn hb hl hc1 hc2 hlen hcap hys hm hlm hxm hxb hyn hdl
      subst hv
      by_cases hxr : x.2 = r.2
      · rw [if_pos hxr]
        have hxb : (x.2 == r.2) = true := by simpa using hxr
        have HXR := Lib.hid hxr
        clear hxr
        have z0 := fun d os => cell_regrown y0 d os
        have z1 := fun d os => cell_regrown y1 d os
        obtain ⟨w0, w1⟩ := X.rep
        go_enter Tryz.func221, Tryz.ntmps221
        go_upto_region 1 with (fail)
        rw [← hW]
        clear hW
        go_upto_region 4 with (fail)
        refine wp_region_quiet_below (by kernel_rfl) (by kernel_rfl) ?_
        repeat (go_big_quiet_step (fail))
        refine wpQuiet_nil ?_
        intro w' hw'
        obtain ⟨rg, rfl⟩ := hw'
        go_upto_region 5 with (fail)
        obtain ⟨W2, hW2⟩ : ∃ W2, W2 = Go.Sort.grow (redrawn W rg.d) rg.os := ⟨_, rfl⟩
        have h2 : Below W.heap.size W W2 := by rw [hW2]; exact below_regrown _ _ _
        rw [← hW2]
        clear hW2 z0 z1 w0 w1 rg
        have z0 := fun d os => cell_regrown ((h2.cell (p := ⟨g, m * 2, none⟩) (cell_lt y0)).trans y0) d os
        obtain ⟨w0, w1⟩ := (X.on h2).rep
        refine wp_reg 8 (by kernel_rfl) (Nat.le_of_ble_eq_true (by kernel_rfl)) (by kernel_rfl) ?_
        simp only [List.take_succ_cons, List.take_zero, List.drop_succ_cons, List.drop_zero]
        repeat (refine wpRel_step (fun K hK => ?_); go_simp; first | (refine hK _ ?_; clear hK K) | (apply Exists.intro; refine ⟨fun _ => ?_, hK _ ?_⟩; (fail); clear hK K))
        refine wpRel_nil ?_
        intro W3 h4
        have h3 : Below W.heap.size W W3 := after h2 h4
        clear z0 w0 w1 h4
        have u0 := (h3.cell (p := ⟨g, m * 2, none⟩) (cell_lt y0)).trans y0
        have uf := (h3.frozen (p := ⟨g, m * 2, none⟩) (cell_lt y0)).trans hfz
        have HC := Lib.hid h3
        clear h2 h3
        go_wp2_with fail
        go_returns
        have hO3 := HO.out.on HC.out
        refine ⟨_, rfl, hO3.store (n := m + 1) (xs' := ys ++ [(x.1 + r.1, x.2)]) rfl (m * 2) _ (by rw [HLM.out]; omega) (by rw [HYS.out]; simp) ?_, ?_⟩
        · rw [HYS.out, HM.out]; exact flat_last ys x _
        · refine (((Kept.of_below (after HH.out HC.out)).mono (fun _ _ => trivial)).setCell (p := ⟨g, m * 2, none⟩) ?_ _)
          exact fun h => h rfl
      · rw [if_neg hxr]
        have hxb : (x.2 == r.2) = false := by simpa using hxr
        have z0 := fun d os => cell_regrown y0 d os
        have z1 := fun d os => cell_regrown y1 d os
        obtain ⟨w0, w1⟩ := X.rep
        clear hxr y0 y1 hfz hx1
        go_enter Tryz.func221, Tryz.ntmps221
        go_upto_region 1 with (fail)
        rw [← hW]
        clear hW
        go_upto_region 4 with (fail)
        refine wp_region_quiet_below (by kernel_rfl) (by kernel_rfl) ?_
        repeat (go_big_quiet_step (fail))
        refine wpQuiet_nil ?_
        intro w' hw'
        obtain ⟨rg, rfl⟩ := hw'
        go_upto_region 7 with (fail)
        obtain ⟨W2, hW2⟩ : ∃ W2, W2 = Go.Sort.grow (redrawn W rg.d) rg.os := ⟨_, rfl⟩
        have h2 : Below W.heap.size W W2 := by rw [hW2]; exact below_regrown _ _ _
        rw [← hW2]
        clear hW2 z0 z1 w0 w1 x0 x1
        obtain ⟨y0, y1, -, -⟩ := (X.on h2).pair
        obtain ⟨v', w', hrun, hP⟩ := HPU.out (W2.alloc (.cells #[.int .i64 r.1, .int .i64 r.2] 235)) W2.heap.size (h2.alloc h2.size _) (fun j u hu => by
          rw [(Blk.new W2 235 _).cell j]
          simpa using hu)
        have HP := Lib.hid hP
        clear hP h2 X
        go_wp2_with (at_builtin; refine Lib.wpList_append_run _ rfl _ _ _ _ rfl _ _ rfl rfl _ _ hrun ?_)
        go_returns
        exact HP.out
end Go.Proofs.YtmbccnioijokfaaGreatDoor

namespace Go.Proofs.YtmbccnioijokfaaGreatDoor
open Go.RowKit Go.Maps
attribute [local go_sem] Oper.semAt_some
def newS (R : Int) : DS := ⟨mnI (mxI R 0) 1048576, 0, 0, [], []⟩
set_option maxRecDepth 100000 in
set_option maxHeartbeats 2000000 in
theorem new_c (R : Int) (base : Nat) (w : World) (hb : base ≤ w.heap.size) :
    Calls Tryz.prog 209 #[.int .i64 R] w fun r w' => ∃ d M, r = .returned (.pointer (some ⟨d, 0, none⟩)) ∧ DiskIs w' base M d (newS R) ∧ (∀ b, M b → w.heap.size ≤ b) ∧ Below w.heap.size w w' := by
  have hmn := @run_mn Tryz.prog
  have hmx := @run_mx Tryz.prog
  have hmm := @run_makeMap Tryz.prog
  go_enter Tryz.func209, Tryz.ntmps209
  go_wp2_with fail
  go_returns
  obtain ⟨W1, hW1⟩ : ∃ W1, W1 = w.alloc (.map #[] 0) := ⟨_, rfl⟩
  have hm : W1.ownsMap Tryz.prog 3 RS w.heap.size 0 (DM []) := by rw [hW1]; exact World.ownsMap_made _ _ _ _
  have hs1 : W1.heap.size = w.heap.size + 1 := by rw [hW1]; simp
  have hb1 : Below w.heap.size w W1 := by rw [hW1]; exact (Below.refl _ _).alloc (Nat.le_refl _) _
  rw [← hW1]
  refine ⟨_, _, rfl, ⟨w.heap.size, .slice none 0 0, [], [], ⟨Blk.new' hs1.symm, hm.alloc _, Owns.nil, by omega, hb, fun p hp => (by cases hp), fun p hp => (by cases hp), rfl, rfl⟩, fun b => Iff.rfl⟩, fun b hb => ?_, hb1.alloc hb1.size _⟩
  rcases hb with rfl | rfl | hb
  · omega
  · exact Nat.le_refl _
  · cases hb
end Go.Proofs.YtmbccnioijokfaaGreatDoor

namespace Go.Proofs.YtmbccnioijokfaaGreatDoor
open Go.RowKit Go.Maps
attribute [local go_sem] Oper.semAt_some
def atL (l : List (Int × SL)) (k : Int) : SL := (getL l k).getD (none, 0, 0)
theorem atL_good {w : World} {base : Nat} {l : List (Int × SL)} (h : GoodL w base l) (k : Int) : GoodS w base (atL l k) ∧ (rdB w (atL l k)).length = sizeAt (cont w l) k := by
  unfold atL sizeAt
  rw [cont_get]
  cases hg : getL l k with
  | none => exact ⟨⟨Nat.le_refl _, by decide, fun h => absurd h (by decide)⟩, by rw [Option.getD_none, rdB_zero]; rfl⟩
  | some s => exact ⟨h.get hg, rfl⟩
theorem DiskAt.facts {w : World} {base d bm : Nat} {v : Value} {S : DS} {sv lv : List (Int × SL)} {N M : Nat} (h : DiskAt w base d bm v S sv lv) (hok : DOk S N M) : Rise sv ∧ (∀ p ∈ lv, In64 p.1) ∧ sv.length + lv.length ≤ N ∧ GoodL w base (nowL sv lv) ∧ cont w (nowL sv lv) = S.now ∧ Rise (nowL sv lv) ∧ lens (nowL sv lv) ≤ N * M := by
  have hr : Rise sv := cont_rise (w := w) (by rw [← h.safe]; exact hok.rise)
  have hc : cont w (nowL sv lv) = S.now := by rw [cont_now, ← h.safe, ← h.l]; rfl
  have hg := h.gs.now h.gl
  refine ⟨hr, fun p hp => ?_, ?_, hg, hc, rise_now hr, ?_⟩
  · exact hok.keys (p.1, rdB w p.2) (List.mem_append.2 (.inr (by rw [h.l]; exact List.mem_map.2 ⟨p, hp, rfl⟩)))
  · have := hok.many
    rw [h.safe, h.l, cont_len, cont_len] at this
    exact this
  · rw [lens_is hg, hc]; exact lenB_now hok
theorem at_le (l : List (Int × SL)) (k : Int) : (atL l k).2.1 ≤ lens l := by
  induction l with
  | nil => exact Nat.le_refl _
  | cons x r ih =>
    unfold atL at ih ⊢
    rw [getL_cons]
    simp only [lens, List.map_cons, List.sum_cons] at ih ⊢
    split
    · simp
    · omega
theorem bsOf_self (l : Bs) : bsOf (fun i => l.getD i 0) l.length = l := by
  apply List.ext_getElem?
  intro i
  rcases Nat.lt_or_ge i l.length with h | h
  · rw [bsOf_at h, List.getD_eq_getElem?_getD, List.getElem?_eq_getElem h]; rfl
  · rw [List.getElem?_eq_none (by rw [bsOf_len]; exact h), List.getElem?_eq_none h]
theorem clone_good {w : World} {base : Nat} {s : SL} (hs : GoodS w base s) (h47 : s.2.1 ≤ 140737488355328) :
    Calls Tryz.prog 214 #[slV s] w fun r w' => ∃ s' : SL, r = .returned (slV s') ∧ s'.2.1 = s.2.1 ∧ GoodS w' base s' ∧ rdB w' s' = rdB w s ∧ Below w.heap.size w w' := by
  refine (clone_c s.1 s.2.1 s.2.2 _ hs.cap h47 w hs.byq).mono ?_
  rintro r w' ⟨v, rfl, ho, hb⟩
  obtain ⟨s', rfl, hn, hg, hr⟩ := GoodS.own (base := base) ho
  refine ⟨s', rfl, hn, hg, ?_, hb⟩
  rw [hr, ← hs.len, bsOf_self]
end Go.Proofs.YtmbccnioijokfaaGreatDoor

namespace Go.Proofs.YtmbccnioijokfaaGreatDoor
open Go.RowKit Go.Maps
attribute [local go_sem] Oper.semAt_some
theorem lookok_c {w : World} {m n : Nat} {l : List (Int × SL)} {k : Int} (h : w.ownsMap Tryz.prog 3 RS m n (DM l)) (hk : In64 k) :
    (Instr.lookup 197 (.map (some m)) (.int .i64 k) true).run Tryz.prog w = .ok (.tuple #[slV (atL l k), .bool (getL l k).isSome]) w := by
  obtain ⟨v, ps, hrun, hv⟩ := h.look_ok lawI Tryz.underlying197 (zeroB w) (RS_mk (none, 0, 0)) (key64 hk)
  obtain ⟨s, rfl, e⟩ := RS_inv hv
  rw [hrun, has_DM]
  have e1 : (DM l).atKey (.int .i64 k) (.held (none, 0, 0)) = .held s := congrArg Prod.fst e
  rw [atKey_DM] at e1
  unfold atL
  cases hg : getL l k with
  | none => rw [hg] at e1; simp only [DataW.held.injEq] at e1; rw [← e1]; rfl
  | some s' => rw [hg] at e1; simp only [DataW.held.injEq] at e1; rw [e1]; rfl
def DS.get (S : DS) (k : Int) : Option Bs := getL S.now k
set_option maxRecDepth 100000 in
set_option maxHeartbeats 4000000 in
theorem get_c (base d : Nat) (M : Nat → Prop) (S : DS) (N : Nat) (w : World) (h : DiskIs w base M d S) (hok : DOk S N 1000000) (hN : N ≤ 100000) (k : Int) (hk : In64 k) :
    Calls Tryz.prog 165 #[.pointer (some ⟨d, 0, none⟩), .int .i64 k] w fun r w' => ∃ s : SL, r = .returned (.tuple #[slV s, .bool (S.get k).isSome]) ∧ GoodS w' base s ∧ rdB w' s = (S.get k).getD [] ∧ Below w.heap.size w w' := by
  obtain ⟨bm, v, sv, lv, hD, hM⟩ := h
  obtain ⟨hr, hkl, hcnt, hg, hc, hrn, hlens⟩ := hD.facts hok
  have HNW := Lib.hid (now_c base d bm v S sv lv w hD hr hkl (by omega))
  have HG := Lib.hid (atL_good hg k)
  have hsz := hok.now.2.2.2
  have hga : rdB w (atL (nowL sv lv) k) = (S.get k).getD [] := by
    unfold atL DS.get
    rw [← hc, cont_get]
    cases getL (nowL sv lv) k with
    | none => exact rdB_zero _ _ _
    | some s => rfl
  have his : (getL (nowL sv lv) k).isSome = (S.get k).isSome := by
    unfold DS.get
    rw [← hc, cont_get]
    cases getL (nowL sv lv) k <;> rfl
  have hle : (atL (nowL sv lv) k).2.1 ≤ 140737488355328 := Nat.le_trans (at_le _ _) (Nat.le_trans hlens (Nat.le_trans (Nat.mul_le_mul_right 1000000 hN) (by decide)))
  have HA := Lib.hid (And.intro hga (And.intro his hle))
  clear hD hM hr hkl hcnt hg hc hrn hlens hsz hga his hle
  go_enter Tryz.func165, Tryz.ntmps165
  go_upto_region 1 with (fail)
  go_wp2_with (go_at_call 213; refine HNW.out.mono ?_; rintro e_ w2 ⟨rfl, hm, hB2⟩; have hlk := lookok_c hm hk; simp only [slV] at hlk)
  have hg2 := HG.out.1.on hB2
  have HCL := Lib.hid (clone_good hg2.1 HA.out.2.2)
  refine HCL.out.mono ?_
  rintro e_ w3 ⟨⟨q', n', c'⟩, rfl, -, hgs, hrd, hb⟩
  simp only [slV]
  go_wp2_with fail
  go_returns
  exact ⟨(q', n', c'), by rw [HA.out.2.1]; rfl, hgs, by rw [hrd, hg2.2, HA.out.1], after hB2 hb⟩
end Go.Proofs.YtmbccnioijokfaaGreatDoor

namespace Go.Proofs.YtmbccnioijokfaaGreatDoor
open Go.RowKit Go.Maps
attribute [local go_sem] Oper.semAt_some
theorem bsOf_self' (b : Bs) : bsOf (fun i => b.getD i 0) b.length = b := by
  apply List.ext_getElem?
  intro i
  by_cases h : i < b.length
  · rw [bsOf_at h]; simp [h]
  · rw [List.getElem?_eq_none (by rw [bsOf_len]; omega), List.getElem?_eq_none (by omega)]
theorem bel_alloc (w : World) (o : Obj) : Below w.heap.size w (w.alloc o) := (Below.refl _ _).alloc (Nat.le_refl _) o
theorem bel_alloc' {n : Nat} {w : World} (h : n ≤ w.heap.size) (o : Obj) : Below n w (w.alloc o) := (Below.refl _ _).alloc h o
theorem GoodS.drop {w : World} {base g o n c : Nat} (h : GoodS w base (some ⟨g, o, none⟩, n, c)) {k : Nat} (hk : k ≤ n) (q : Option Addr) (hq : k < n → q = some ⟨g, o + k, none⟩) : GoodS w base (q, n - k, c - k) ∧ rdB w (q, n - k, c - k) = (rdB w (some ⟨g, o, none⟩, n, c)).drop k := by
  have hcap : n ≤ c := h.cap
  have hmost : c ≤ maxLen := h.most
  by_cases h0 : k < n
  · obtain ⟨g', o', F, hq', hB, hg⟩ := h.lies (show 0 < n by omega)
    obtain ⟨rfl, rfl⟩ : g = g' ∧ o = o' := by simpa using hq'
    have hB2 : Byt w g (o + k) (n - k) (fun i => F (k + i)) := fun i hi => by
      have := hB (k + i) (show k + i < n by omega)
      rwa [← Nat.add_assoc] at this
    refine ⟨⟨show n - k ≤ c - k by omega, show c - k ≤ maxLen by omega, fun _ => ⟨g, o + k, _, hq h0, hB2, hg⟩⟩, ?_⟩
    have hB' : Byt w g o n F := hB
    rw [hq h0, rdB_of hB2, rdB_of hB']
    apply List.ext_getElem?
    intro i
    rw [List.getElem?_drop]
    by_cases hi : i < n - k
    · rw [bsOf_at hi, bsOf_at (by omega)]
    · rw [List.getElem?_eq_none (by rw [bsOf_len]; omega), List.getElem?_eq_none (by rw [bsOf_len]; omega)]
  · obtain rfl : k = n := by omega
    rw [Nat.sub_self]
    refine ⟨⟨Nat.zero_le _, show c - k ≤ maxLen by omega, fun h => absurd h (Nat.lt_irrefl 0)⟩, ?_⟩
    rw [rdB_zero, List.drop_eq_nil_of_le (by rw [h.len]; exact Nat.le_refl _)]
end Go.Proofs.YtmbccnioijokfaaGreatDoor

namespace Go.Proofs.YtmbccnioijokfaaGreatDoor
open Go.RowKit
attribute [local go_sem] Oper.semAt_some
def RowR (w : World) (xs : List Rn) (r : Ending) (w' : World) : Prop := ∃ v, r = .returned v ∧ Owns w' w.heap.size 235 2 encR v xs ∧ Below w.heap.size w w'
theorem PushR.below {w w0 w' : World} {base : Nat} {e : TypeId} {v : Value} {xs ys : List Rn} {r : Ending} (h : PushR w base v.ownBlock ys r w') (hO : Owns w base e 2 encR v xs) (hb : Below base w0 w) (h0 : base ≤ w.heap.size) : ∃ v', r = .returned v' ∧ Owns w' base 235 2 encR v' ys ∧ Below base w0 w' := by
  obtain ⟨v', h1, h2, h3⟩ := h
  refine ⟨v', h1, h2, hb.trans (h3.below h0 fun b hb' e => ?_)⟩
  have := (hO.block b e).1
  omega
set_option maxRecDepth 100000 in
set_option maxHeartbeats 1000000 in
theorem runmake_c (n b : Int) (hn : 0 ≤ n ∧ n ≤ 1000000) (w : World) : Calls Tryz.prog 361 #[.int .i64 n, .int .i64 b] w fun r w' => RowR w (pushR [] (n, b)) r w' := by
  have HP := Lib.hid (rpush_c w w.heap.size (.slice none 0 0) [] (n, b) Owns.nil no_runs (by decide) hn (Nat.le_refl _) (by decide))
  go_enter Tryz.func361, Tryz.ntmps361
  go_wp2_with (go_at_call 221; refine HP.out.mono ?_; intro r w1 h; obtain ⟨v', rfl, h2, h3⟩ := h.below (w0 := w) (e := 235) (xs := []) Owns.nil (Below.refl _ _) (Nat.le_refl _))
  go_returns
  exact ⟨_, rfl, h2, h3⟩
theorem ofR_take (cs : List Int) (k : Nat) (hk : k ≤ cs.length) : lenR (ofR (cs.take k)) = k ∧ ∀ x ∈ ofR (cs.take k), 1 ≤ x.1 := by
  constructor
  · unfold ofR
    rw [lenR_pushes _ (fun r hr => by obtain ⟨a, -, rfl⟩ := List.mem_map.1 hr; show (0 : Int) ≤ 1; decide)]
    have : ∀ l : List Int, lenR (l.map fun b => ((1 : Int), b)) = l.length := fun l => by
      induction l with
      | nil => rfl
      | cons a l ih => unfold lenR at *; rw [List.map_cons, List.map_cons, List.sum_cons, ih, List.length_cons]; omega
    rw [this, List.length_take, Nat.min_eq_left hk]
    simp [lenR]
  · exact pushes_pos no_runs _
theorem ofR_next {cs : List Int} {k : Nat} {c : Int} (h : cs[k]? = some c) : ofR (cs.take (k + 1)) = pushR (ofR (cs.take k)) (1, c) := by
  unfold ofR
  rw [take_at h, List.map_append]
  exact pushes_snoc _ _ _
set_option maxRecDepth 100000 in
set_option maxHeartbeats 4000000 in
theorem runof_c (w : World) (q : Option Addr) (c : Nat) (cs : List Int) (hR : Rd w q 1 encI cs) (hc : cs.length ≤ 1000000) :
    Calls Tryz.prog 171 #[.slice q cs.length c] w fun r w' => RowR w (ofR cs) r w' := by
  have HR := Lib.hid hR
  have HC := Lib.hid (show cs.length ≤ maxLen by unfold maxLen; omega)
  have HT := Lib.hid (ofR_take cs)
  have HL := Lib.hid hc
  clear hR hc
  go_enter Tryz.func171, Tryz.ntmps171
  go_upto_region 3 with (fail)
  go_loopw [3, 8] (fun x i wr => ∃ k : Nat, k ≤ cs.length ∧ i = .int .i64 k ∧ Hid (Owns wr w.heap.size 235 2 encR x (ofR (cs.take k))) ∧ Hid (Below w.heap.size w wr)) (fun _ i _ => cs.length - (intOf i).toNat)
  case atStart => exact ⟨0, Nat.zero_le _, rfl, Owns.nil, Below.refl _ _⟩
  case round =>
    obtain ⟨k, hk, rfl, hO, hnx⟩ := hrel
    by_cases hlt : k < cs.length
    · obtain ⟨p, hp⟩ := lt_at hlt
      obtain ⟨g, o, rfl, h1⟩ := HR.out.on hnx.out (by omega)
      have r0 : wr.cell? ⟨g, o + k, none⟩ = some (.int .i64 p) := by have := h1 k p hp 0 _ rfl; simpa using this
      obtain ⟨n2, n3, n5, n6⟩ := nextx hlt HC.out
      have hl := HT.out k hk
      have hl2 := lenR_pos hl.2
      have hl3 := HL.out
      have HP := Lib.hid (rpush_c wr w.heap.size _ _ (1, p) hO.out hl.2 (by omega) (by dsimp only; omega) hnx.out.size (by omega))
      rw [← ofR_next hp] at HP
      clear hp h1 hl hl2 hl3
      go_wp2_with (go_at_call 221; refine HP.out.mono ?_; intro r w1 h; obtain ⟨v', rfl, h2, h3⟩ := h.below hO.out hnx.out hnx.out.size; have H2 := Lib.hid h2; have H3 := Lib.hid h3; clear h2 h3 h)
      exact ⟨⟨k + 1, hlt, by go_num, H2, H3⟩, by simp [intOf]; omega⟩
    · obtain rfl : k = cs.length := by omega
      have hO2 := hO.out
      rw [List.take_length] at hO2
      have HO := Lib.hid hO2
      have hk1 : ¬ ((cs.length : Int) < (cs.length : Int)) := by omega
      clear hO2 hO
      go_wp2_with fail
      go_returns
      exact ⟨_, rfl, HO.out, hnx.out⟩
structure CutI (w wr : World) (R : List Rn) (frm tu : Int) (k : Nat) (v : Value) (out : List Rn) : Prop where
  own : Owns wr w.heap.size 235 2 encR v out
  eq : cutR (R.drop k) frm tu (lenR (R.take k)) out = cutR R frm tu 0 []
  pos : ∀ x ∈ out, 1 ≤ x.1
  len : lenR out ≤ lenR (R.take k)
  bel : Below w.heap.size w wr
theorem cutR_cons (r : Rn) (l : List Rn) (frm tu at_ : Int) (out : List Rn) : cutR (r :: l) frm tu at_ out = cutR l frm tu (at_ + r.1) (if max frm at_ < min tu (at_ + r.1) then pushR out (min tu (at_ + r.1) - max frm at_, r.2) else out) := rfl
theorem cut_step {w wr : World} {R : List Rn} {frm tu lo hi : Int} {k : Nat} {v : Value} {out out' : List Rn} {p : Rn} (h : CutI w wr R frm tu k v out) (hp : R[k]? = some p) (hlo : lo = mxI frm (lenR (R.take k))) (hhi : hi = mnI tu (lenR (R.take k) + p.1)) (ho : out' = if lo < hi then pushR out (hi - lo, p.2) else out) :
    cutR (R.drop (k + 1)) frm tu (lenR (R.take (k + 1))) out' = cutR R frm tu 0 [] := by
  have hd : R.drop k = p :: R.drop (k + 1) := List.drop_eq_getElem?_toList_append .. |>.trans (by rw [hp]; rfl)
  have h1 := h.eq
  rw [hd, cutR_cons] at h1
  rw [← h1, lenR_succ hp, ho, hlo, hhi]
  rfl
set_option maxRecDepth 100000 in
set_option maxHeartbeats 4000000 in
theorem runcut_c (w : World) (q : Option Addr) (c : Nat) (R : List Rn) (frm tu : Int) (hR : Rd w q 2 encR R) (hn : ∀ r ∈ R, 1 ≤ r.1) (hm : lenR R ≤ 1000000) (hf : 0 ≤ frm ∧ frm ≤ 1000000) (ht : 0 ≤ tu ∧ tu ≤ 1000000) :
    Calls Tryz.prog 360 #[.slice q R.length c, .int .i64 frm, .int .i64 tu] w fun r w' => RowR w (cutR R frm tu 0 []) r w' := by
  have hn0 : ∀ r ∈ R, 0 ≤ r.1 := fun r hr => by have := hn r hr; omega
  have hpos := lenR_pos hn
  have HR := Lib.hid hR
  have HC := Lib.hid (show R.length ≤ maxLen by unfold maxLen; omega)
  have HT := Lib.hid (lenR_take hn0)
  have HN := Lib.hid hn
  have hmn := @run_mn Tryz.prog
  have hmx := @run_mx Tryz.prog
  clear hR hn hn0 hpos
  go_enter Tryz.func360, Tryz.ntmps360
  go_upto_region 4 with (fail)
  go_loopw [7, 8, 15] (fun v x i wr => ∃ (k : Nat) (out : List Rn), k ≤ R.length ∧ i = .int .i64 k ∧ x = .int .i64 (lenR (R.take k)) ∧ Hid (CutI w wr R frm tu k v out)) (fun _ _ i _ => R.length - (intOf i).toNat)
  case atStart => exact ⟨0, [], Nat.zero_le _, rfl, rfl, ⟨Owns.nil, rfl, no_runs, by simp [lenR], Below.refl _ _⟩⟩
  case round =>
    obtain ⟨k, out, hk, rfl, rfl, hI⟩ := hrel
    by_cases hlt : k < R.length
    · obtain ⟨p, hp⟩ := lt_at hlt
      obtain ⟨g, o, rfl, h1⟩ := HR.out.on hI.out.bel (by omega)
      have r0 : wr.cell? ⟨g, o + k * 2, none⟩ = some (.int .i64 p.1) := h1 k p hp 0 _ rfl
      have r1 : wr.cell? ⟨g, o + k * 2 + 1, none⟩ = some (.int .i64 p.2) := h1 k p hp 1 _ rfl
      have hst := lenR_succ hp
      have hp0 := HN.out p (List.mem_of_getElem? hp)
      have hb := HT.out (k + 1)
      have hb0 := HT.out k
      rw [hst] at hb
      obtain ⟨n2, n3, n5, n6⟩ := nextx hlt HC.out
      have hlen := hI.out.len
      have hlp := lenR_pos hI.out.pos
      have hex : ∀ v' out' wr', Owns wr' w.heap.size 235 2 encR v' out' → out' = (if mxI frm (lenR (R.take k)) < mnI tu (lenR (R.take k) + p.1) then pushR out (mnI tu (lenR (R.take k) + p.1) - mxI frm (lenR (R.take k)), p.2) else out) → Below w.heap.size w wr' → CutI w wr' R frm tu (k + 1) v' out' := fun v' out' wr' ho he hbl => by
        refine ⟨ho, cut_step hI.out hp rfl rfl he, ?_, ?_, hbl⟩
        · rw [he]; split
          · exact pushR_pos hI.out.pos _
          · exact hI.out.pos
        · rw [he, hst]; split
          · rw [lenR_push _ (by dsimp only; omega)]
            dsimp only
            unfold mnI mxI
            omega
          · omega
      have HX := Lib.hid hex
      have HST := Lib.hid hst
      clear hex hp hst h1
      generalize lenR (R.take k) = s at *
      have hlo : 0 ≤ mxI frm s ∧ mxI frm s ≤ 1000000 := by unfold mxI; omega
      have hhi : 0 ≤ mnI tu (s + p.1) ∧ mnI tu (s + p.1) ≤ 1000000 := by unfold mnI; omega
      have hdf : mnI tu (s + p.1) - mxI frm s ≤ p.1 := by unfold mnI mxI; omega
      have hw1 : IntKind.i64.wrap (s + p.1) = s + p.1 := IntWalk.i64_in _ (by omega)
      obtain ⟨W1, hW1⟩ : ∃ W1, W1 = wr.alloc (.cells #[.int .i64 p.1, .int .i64 p.2] 235) := ⟨_, rfl⟩
      have H1 : Below wr.heap.size wr W1 := by rw [hW1]; exact bel_alloc _ _
      have X : Blk W1 wr.heap.size 235 #[.int .i64 p.1, .int .i64 p.2] := by rw [hW1]; exact Blk.new' rfl
      go_upto_region 6 with (fail)
      rw [← hW1]
      clear hW1 r0 r1
      obtain ⟨y0, y1⟩ := X.rep
      refine wp_reg 11 (by kernel_rfl) (Nat.le_of_ble_eq_true (by kernel_rfl)) (by kernel_rfl) ?_
      simp only [List.take_succ_cons, List.take_zero, List.drop_succ_cons, List.drop_zero]
      repeat (refine wpRel_step (fun K hK => ?_); go_simp; first | (refine hK _ ?_; clear hK K) | (apply Exists.intro; refine ⟨fun _ => ?_, hK _ ?_⟩; (fail); clear hK K))
      refine wpRel_nil ?_
      intro W2 h2
      have HW2 := Lib.hid (after H1 h2)
      have X2 := X.on h2
      clear y0 y1 X H1 h2 hw1
      generalize hlo' : mxI frm s = lo at *
      generalize hhi' : mnI tu (s + p.1) = hi at *
      clear hlo' hhi' hmn hmx
      have hON := hI.out.own.on HW2.out
      obtain ⟨y0, y1, -, -⟩ := X2.pair
      by_cases hlh : lo < hi
      · have HP := Lib.hid (rpush_c W2 w.heap.size _ out (hi - lo, p.2) hON hI.out.pos (by omega) (by dsimp only; omega) (Nat.le_trans hI.out.bel.size HW2.out.size) (by omega))
        have HX2 := Lib.hid X2
        have HON := Lib.hid hON
        have HNB := Lib.hid hI.out.own.block
        clear X2 hON hlen hlp
        go_upto_region 9 with (go_at_call 221; refine HP.out.mono ?_; intro r w1 h; obtain ⟨v', rfl, h2, h3⟩ := h; have z0 := (h3.blk (fun e => Nat.lt_irrefl _ (HNB.out _ e).2) HX2.out).cell 0; have H2 := Lib.hid h2; have H3 := Lib.hid h3; clear h2 h3)
        have hB : Below w.heap.size w w1 := (after hI.out.bel HW2.out).trans (H3.out.below (Nat.le_trans hI.out.bel.size HW2.out.size) fun b hb e => by have := (HNB.out b e).1; omega)
        have HF := Lib.hid (HX.out v' _ w1 H2.out (by rw [if_pos hlh]) hB)
        clear hB
        go_wp2_with fail
        exact ⟨⟨k + 1, _, hlt, by go_num, by rw [HST.out], HF⟩, by simp [intOf]; omega⟩
      · have HF := Lib.hid (HX.out _ out W2 hON (by rw [if_neg hlh]) (after hI.out.bel HW2.out))
        clear X2 hON hlen hlp
        go_wp2_with fail
        exact ⟨⟨k + 1, _, hlt, by go_num, by rw [HST.out], HF⟩, by simp [intOf]; omega⟩
    · obtain rfl : k = R.length := by omega
      have he := hI.out.eq
      rw [List.drop_length] at he
      obtain rfl : out = cutR R frm tu 0 [] := he
      have hk1 : ¬ ((R.length : Int) < (R.length : Int)) := by omega
      go_wp2_with fail
      go_returns
      exact ⟨_, rfl, hI.out.own, hI.out.bel⟩
end Go.Proofs.YtmbccnioijokfaaGreatDoor

namespace Go.Proofs.YtmbccnioijokfaaGreatDoor
open Go.RowKit
def numF (F : Nat → B8) (k : Nat) : Nat → Int
  | 0 => 0
  | n + 1 => numF F k n * 256 + n8 (F (k + n))
theorem num_cong {F G : Nat → B8} {k j : Nat} : ∀ {n : Nat}, (∀ i, i < n → F (k + i) = G (j + i)) → numF F k n = numF G j n
  | 0, _ => rfl
  | n + 1, h => by
    unfold numF
    rw [num_cong (fun i hi => h i (by omega)), h n (by omega)]
theorem num_lo (F : Nat → B8) (k : Nat) : ∀ n, 0 ≤ numF F k n
  | 0 => Int.le_refl _
  | n + 1 => by
    have h1 := num_lo F k n
    have h2 := n8_lt (F (k + n))
    unfold numF
    omega
theorem num3 (F : Nat → B8) (k : Nat) : numF F k 3 < 16777216 := by
  have h0 := n8_lt (F (k + 0))
  have h1 := n8_lt (F (k + 1))
  have h2 := n8_lt (F (k + 2))
  simp only [numF]
  omega
theorem num4 (F : Nat → B8) (k : Nat) : numF F k 4 < 4294967296 := by
  have h0 := n8_lt (F (k + 0))
  have h1 := n8_lt (F (k + 1))
  have h2 := n8_lt (F (k + 2))
  have h3 := n8_lt (F (k + 3))
  simp only [numF]
  omega
abbrev fb (b : Bs) : Nat → B8 := fun i => b.getD i 0
open Classical in
noncomputable def readL (b : Bs) : Int × Bs × Int :=
  if b.length < 2 then (0, [], 3)
  else if ¬ okF (fb b) b.length then (0, [], 4)
  else if b.length < 9 then (0, [], 3)
  else if numF (fb b) 0 4 < 1 ∨ 1073741824 < numF (fb b) 0 4 ∨ 65536 < numF (fb b) 4 3 ∨ numF (fb b) 4 3 ≠ (b.length : Int) - 9 then (0, [], 2)
  else (numF (fb b) 0 4, (b.take (b.length - 2)).drop 7, 0)
theorem read_short {b : Bs} (h : b.length < 2) : readL b = (0, [], 3) := by unfold readL; rw [if_pos h]
theorem read_sum {b : Bs} (h : ¬ b.length < 2) (h1 : ¬ okF (fb b) b.length) : readL b = (0, [], 4) := by unfold readL; rw [if_neg h, if_pos h1]
theorem read_low {b : Bs} (h1 : okF (fb b) b.length) (h2 : b.length < 9) : readL b = (0, [], 3) := by
  unfold readL
  rw [if_neg (by have := h1.1; omega), if_neg (by simpa using h1), if_pos h2]
theorem read_form {b : Bs} (h1 : okF (fb b) b.length) (h2 : ¬ b.length < 9) (h3 : numF (fb b) 0 4 < 1 ∨ 1073741824 < numF (fb b) 0 4 ∨ 65536 < numF (fb b) 4 3 ∨ numF (fb b) 4 3 ≠ (b.length : Int) - 9) : readL b = (0, [], 2) := by
  unfold readL
  rw [if_neg (by omega), if_neg (by simpa using h1), if_neg h2, if_pos h3]
theorem read_good {b : Bs} (h1 : okF (fb b) b.length) (h2 : ¬ b.length < 9) (h3 : ¬ (numF (fb b) 0 4 < 1 ∨ 1073741824 < numF (fb b) 0 4 ∨ 65536 < numF (fb b) 4 3 ∨ numF (fb b) 4 3 ≠ (b.length : Int) - 9)) : readL b = (numF (fb b) 0 4, (b.take (b.length - 2)).drop 7, 0) := by
  unfold readL
  rw [if_neg (by omega), if_neg (by simpa using h1), if_neg h2, if_neg h3]
theorem read_cases (b : Bs) : (((readL b).2.2 = 3 ∨ (readL b).2.2 = 4 ∨ (readL b).2.2 = 2) ∧ (readL b).1 = 0 ∧ (readL b).2.1 = []) ∨
    ((readL b).2.2 = 0 ∧ 1 ≤ (readL b).1 ∧ (readL b).1 ≤ 1073741824 ∧ okF (fb b) b.length ∧ 9 ≤ b.length ∧ numF (fb b) 0 4 = (readL b).1 ∧ numF (fb b) 4 3 = (b.length : Int) - 9 ∧ (readL b).2.1 = (b.take (b.length - 2)).drop 7 ∧ (readL b).2.1.length = b.length - 9) := by
  by_cases h1 : b.length < 2
  · rw [read_short h1]; exact .inl ⟨.inl rfl, rfl, rfl⟩
  · by_cases h2 : okF (fb b) b.length
    · by_cases h3 : b.length < 9
      · rw [read_low h2 h3]; exact .inl ⟨.inl rfl, rfl, rfl⟩
      · by_cases h4 : numF (fb b) 0 4 < 1 ∨ 1073741824 < numF (fb b) 0 4 ∨ 65536 < numF (fb b) 4 3 ∨ numF (fb b) 4 3 ≠ (b.length : Int) - 9
        · rw [read_form h2 h3 h4]; exact .inl ⟨.inr (.inr rfl), rfl, rfl⟩
        · rw [read_good h2 h3 h4]
          exact .inr ⟨rfl, by dsimp only; omega, by dsimp only; omega, h2, by omega, rfl, by omega, rfl, by simp; omega⟩
    · rw [read_sum h1 h2]; exact .inl ⟨.inr (.inl rfl), rfl, rfl⟩
end Go.Proofs.YtmbccnioijokfaaGreatDoor

namespace Go.Proofs.YtmbccnioijokfaaGreatDoor
open Go.RowKit
attribute [local go_sem] Oper.semAt_some
theorem num_hi (F : Nat → B8) (k n : Nat) (h : n ≤ 3) : numF F k n ≤ 100000000 := by
  have h0 := n8_lt (F (k + 0))
  have h1 := n8_lt (F (k + 1))
  have h2 := n8_lt (F (k + 2))
  match n, h with
  | 0, _ => simp [numF]
  | 1, _ => simp only [numF]; omega
  | 2, _ => simp only [numF]; omega
  | 3, _ => simp only [numF]; omega
theorem shl_or (n : Int) (h0 : 0 ≤ n) (h1 : n ≤ 1000000000000) (x : B8) : bits .or .i64 (n * 256) (n8 x) = n * 256 + n8 x := by
  obtain ⟨N, rfl⟩ := Int.eq_ofNat_of_zero_le h0
  have hx : x.toNat < 2 ^ 8 := x.isLt
  have e : (2 ^ 8 * N ||| x.toNat) = 2 ^ 8 * N + x.toNat := (Nat.two_pow_add_eq_or_of_lt hx N).symm
  show IntKind.i64.wrap ((BitVec.ofInt 64 ((N : Int) * 256) ||| BitVec.ofInt 64 (x.toNat : Int)).toNat : Int) = (N : Int) * 256 + (x.toNat : Int)
  have e1 : (BitVec.ofInt 64 ((N : Int) * 256)).toNat = 2 ^ 8 * N := by rw [BitVec.toNat_ofInt]; omega
  have e2 : (BitVec.ofInt 64 (x.toNat : Int)).toNat = x.toNat := by rw [BitVec.toNat_ofInt]; omega
  rw [BitVec.toNat_or, e1, e2, e, IntKind.wrap_i64]
  omega
set_option maxRecDepth 100000 in
set_option maxHeartbeats 4000000 in
theorem stake_c (q : Option Addr) (n c : Nat) (F : Nat → B8) (hn : n ≤ 4) (hc : n ≤ c) (w : World) (hq : Byq w q n F) :
    Calls Tryz.prog 216 #[.slice q n c] w fun r w' => r = .returned (.int .i64 (numF F 0 n)) ∧ w = w' := by
  go_enter Tryz.func216, Tryz.ntmps216
  go_upto_region 3 with (fail)
  go_loopw [3, 8] (fun nv iv wr => ∃ k : Nat, k ≤ n ∧ iv = .int .i64 k ∧ nv = .int .i64 (numF F 0 k) ∧ wr = w) (fun _ iv _ => n - (intOf iv).toNat)
  case atStart => exact ⟨0, Nat.zero_le _, rfl, rfl, rfl⟩
  case round =>
    obtain ⟨k, hk, rfl, rfl, rfl⟩ := hrel
    by_cases hlt : k < n
    · obtain ⟨g, o, rfl, hB⟩ := hq (by omega)
      have hx := hB k hlt
      have hk0 : (0 : Int) ≤ k := by omega
      have hk1 : (k : Int) < n := by omega
      have hkc : k < c := by omega
      have hlo := num_lo F 0 k
      have hhi : numF F 0 k ≤ 100000000 := num_hi F 0 k (by omega)
      have x8 := n8_lt (F k)
      have hor := shl_or (numF F 0 k) hlo (by omega) (F k)
      have hnum : numF F 0 (k + 1) = numF F 0 k * 256 + n8 (F k) := by simp only [numF, Nat.zero_add]
      have HN := Lib.hid hnum
      clear hnum
      go_wp2_with fail
      exact ⟨⟨k + 1, hlt, by go_num, by rw [HN.out], trivial⟩, next_less' hlt⟩
    · obtain rfl : k = n := by omega
      have hk1 : ¬ ((k : Int) < (k : Int)) := by omega
      go_wp2_with fail
      go_returns
      exact ⟨rfl, rfl⟩
end Go.Proofs.YtmbccnioijokfaaGreatDoor

namespace Go.Proofs.YtmbccnioijokfaaGreatDoor
open Go.RowKit
attribute [local go_sem] Oper.semAt_some
theorem good_nil {w : World} {base : Nat} : GoodS w base (none, 0, 0) := ⟨Nat.le_refl _, Nat.zero_le _, fun h => absurd h (Nat.lt_irrefl 0)⟩
end Go.Proofs.YtmbccnioijokfaaGreatDoor

namespace Go.Proofs.YtmbccnioijokfaaGreatDoor
open Go.RowKit
attribute [local go_sem] Oper.semAt_some
def ReadR (base : Nat) (x : Int × Bs × Int) (r : Ending) (w w' : World) : Prop := ∃ s : SL, r = .returned (.tuple #[.int .i64 x.1, slV s, .int .i64 x.2.2]) ∧ GoodS w' base s ∧ rdB w' s = x.2.1 ∧ Below w.heap.size w w'
theorem read_none {base : Nat} {x : Int × Bs × Int} {e : Int} {w w' : World} (hx : x = (0, [], e)) (hw : Below w.heap.size w w') : ReadR base x (.returned (.tuple #[.int .i64 0, .slice none 0 0, .int .i64 e])) w w' := by
  subst hx
  exact ⟨(none, 0, 0), rfl, good_nil, rfl, hw⟩
theorem num_at {w : World} {g o n k j : Nat} {F : Nat → B8} (hB : Byt w g o n F) (h : k + j ≤ n) : Byq w (some ⟨g, o + k, none⟩) j (fun i => F (k + i)) := Byq.of fun i hi => by
  have := hB (k + i) (by omega)
  rwa [← Nat.add_assoc] at this
theorem num_sh (F : Nat → B8) (k n : Nat) : numF (fun i => F (k + i)) 0 n = numF F k n := num_cong fun i _ => by simp
theorem bs_take (b : Bs) {k : Nat} (h : k ≤ b.length) : bsOf (fb b) k = b.take k := by rw [← bsOf_take (fb b) h, bsOf_self']
theorem read_at {w w1 w2 : World} {base g m c1 : Nat} {b : Bs} {q : Option Addr} {cur : Array Value} (hC : Blk w1 g 5 cur) (hB : Byt w1 g 0 (m + 7) (fb b)) (k1 : m + 7 ≤ c1) (k2 : c1 ≤ maxLen) (hm : b.length = m + 9) (hq : 0 < m → q = some ⟨g, 7, none⟩) (hr : readL b = (numF (fb b) 0 4, (b.take (b.length - 2)).drop 7, 0)) (G1 : Below w.heap.size w w1) (G2 : Below w1.heap.size w1 w2) :
    ReadR base (readL b) (.returned (.tuple #[.int .i64 (numF (fb b) 0 4), .slice q m (c1 - 7), .int .i64 0])) w w2 := by
  rw [hr]
  have hg : GoodS w1 base (some ⟨g, 0, none⟩, m + 7, c1) := ⟨k1, k2, fun _ => ⟨g, 0, _, rfl, hB, .inr ⟨cur, hC⟩⟩⟩
  obtain ⟨h1, h2⟩ := hg.drop (k := 7) (Nat.le_add_left 7 m) q fun h => by rw [Nat.zero_add]; exact hq (by omega)
  rw [Nat.add_sub_cancel] at h1 h2
  obtain ⟨h3, h4⟩ := h1.on G2
  refine ⟨(q, m, c1 - 7), rfl, h3, ?_, after G1 G2⟩
  rw [h4, h2, rdB_of hB, bs_take b (by omega), hm]
  rfl
set_option maxRecDepth 100000 in
set_option maxHeartbeats 4000000 in
theorem sread_c (base : Nat) (s : SL) (w : World) (hs : GoodS w base s) (hz : s.2.1 ≤ 1000000) :
    Calls Tryz.prog 166 #[slV s] w fun r w' => ReadR base (readL (rdB w s)) r w w' := by
  have hl := hs.len
  have hq := hs.byq
  have hcap := hs.cap
  have hmost := hs.most
  generalize hb : rdB w s = b at hl hq ⊢
  replace hq : Byq w s.1 s.2.1 (fb b) := hq
  clear hs hb
  obtain ⟨q, n, c⟩ := s
  dsimp only at hl hq hcap hmost hz
  subst hl
  simp only [slV]
  by_cases h2 : okF (fb b) b.length
  · have h20 := h2.1
    have HT := Lib.hid (take_ok q b.length c (fb b) hcap hmost hz w hq h2)
    by_cases h9 : b.length < 9
    · have HR := Lib.hid (read_low h2 h9)
      have e7 : ((b.length - 2 : Nat) : Int) < 7 := by omega
      clear hq h2
      go_enter Tryz.func166, Tryz.ntmps166
      go_wp2_with (go_at_call 215; refine HT.out.mono ?_; rintro e_ w1 ⟨x1, rfl, o1, g1⟩; obtain ⟨q1, c1, rfl, -, -, -⟩ := own_byq o1; have G1 := Lib.hid g1; clear g1 o1)
      go_returns
      exact read_none HR.out G1.out
    · have hlen : (b.length - 2) = (b.length - 9) + 7 := by omega
      rw [hlen] at HT
      have H2 := Lib.hid (And.intro h2 h9)
      have HB9 := Lib.hid (show b.length = (b.length - 9) + 9 by omega)
      clear hq h2 h20 h9 hlen
      go_enter Tryz.func166, Tryz.ntmps166
      go_upto_region 6 with (go_at_call 215; refine HT.out.mono ?_; rintro e_ w1 ⟨x1, rfl, o1, g1⟩; obtain ⟨g, c1, cur, rfl, hbg, hC, k1, k2, k3, hB⟩ := own_form o1 (Nat.succ_pos _); clear o1 k3)
      generalize hm : b.length - 9 = m at *
      have hm9 : b.length = m + 9 := by have := HB9.out; omega
      have e7 : ¬ ((m : Int) + 7 < 7) := by omega
      have hN4 : ∀ d os, Calls Tryz.prog 216 #[.slice (some ⟨g, 0, none⟩) 4 c1] (Go.Sort.grow (redrawn w1 d) os) fun r w' => r = .returned (.int .i64 (numF (fb b) 0 4)) ∧ (Go.Sort.grow (redrawn w1 d) os) = w' := fun d os => stake_c _ 4 c1 (fb b) (by decide) (by omega) _ (Byq.of ((hB.re d os).le (by omega)))
      have hN3 : ∀ d os, Calls Tryz.prog 216 #[.slice (some ⟨g, 4, none⟩) 3 (c1 - 4)] (Go.Sort.grow (redrawn w1 d) os) fun r w' => r = .returned (.int .i64 (numF (fb b) 4 3)) ∧ (Go.Sort.grow (redrawn w1 d) os) = w' := fun d os => by
        rw [← num_sh]
        have := num_at (k := 4) (j := 3) (hB.re d os) (by omega)
        rw [Nat.zero_add] at this
        exact stake_c _ 3 (c1 - 4) _ (by decide) (by omega) _ this
      have HN4 := Lib.hid fun d os => calls_bel (hN4 d os)
      have HN3 := Lib.hid fun d os => calls_bel (hN3 d os)
      clear hN4 hN3
      have kc4 : 4 ≤ c1 := by omega
      have kc7 : 7 ≤ c1 := by omega
      refine wp_region_quiet_below (by kernel_rfl) (by kernel_rfl) ?_
      repeat (go_big_quiet_step (first | (with_reducible exact Calls.regrown_of (HN4.out _ _)) | (with_reducible exact Calls.regrown_of (HN3.out _ _))))
      refine wpQuiet_nil ?_
      intro w' hw'
      obtain ⟨rg, rfl⟩ := hw'
      generalize hq7 : (if c1 = 7 then (some ⟨g, 0, none⟩ : Option Addr) else some ⟨g, 7, none⟩) = q7
      have HQ7 := Lib.hid (show 0 < m → q7 = some ⟨g, 7, none⟩ from fun _ => by rw [← hq7, if_neg (by omega)])
      clear hq7
      have n40 := num_lo (fb b) 0 4
      have n41 := num4 (fb b) 0
      have n30 := num_lo (fb b) 4 3
      have n31 := num3 (fb b) 4
      clear HN4 HN3
      obtain ⟨V, hV⟩ : ∃ V, V = numF (fb b) 0 4 := ⟨_, rfl⟩
      obtain ⟨U, hU⟩ : ∃ U, U = numF (fb b) 4 3 := ⟨_, rfl⟩
      rw [← hV] at n40 n41 ⊢
      rw [← hU] at n30 n31 ⊢
      have G12 := Lib.hid (And.intro g1 (below_regrown w1 _ _ : Below w1.heap.size w1 (Go.Sort.grow (redrawn w1 rg.d) rg.os)))
      have HX := Lib.hid (And.intro hC hB)
      have HK := Lib.hid (And.intro k1 k2)
      have HV := Lib.hid hV
      have HU := Lib.hid hU
      have HM := Lib.hid hm9
      have HB8 := Lib.hid (show b.length - 9 = m from by omega)
      clear hC hB k1 k2 hV hU hm9 g1 hm HB9
      by_cases a1 : V < 1
      · have HR := Lib.hid (read_form H2.out.1 H2.out.2 (.inl (HV.out ▸ a1)))
        go_wp2_with fail
        go_returns
        exact read_none HR.out (after G12.out.1 G12.out.2)
      · by_cases a2 : 1073741824 < V
        · have HR := Lib.hid (read_form H2.out.1 H2.out.2 (.inr (.inl (HV.out ▸ a2))))
          go_wp2_with fail
          go_returns
          exact read_none HR.out (after G12.out.1 G12.out.2)
        · by_cases a3 : 65536 < U
          · have HR := Lib.hid (read_form H2.out.1 H2.out.2 (.inr (.inr (.inl (HU.out ▸ a3)))))
            go_wp2_with fail
            go_returns
            exact read_none HR.out (after G12.out.1 G12.out.2)
          · by_cases a4 : U = (m : Int)
            · have HR := Lib.hid (read_good H2.out.1 H2.out.2 (by rw [← HV.out, ← HU.out]; have := HM.out; omega))
              subst a4
              go_wp2_with fail
              go_returns
              rw [HV.out]
              exact read_at HX.out.1 HX.out.2 HK.out.1 HK.out.2 HM.out HQ7.out HR.out G12.out.1 G12.out.2
            · have HR := Lib.hid (read_form H2.out.1 H2.out.2 (.inr (.inr (.inr (by rw [← HU.out]; have := HM.out; omega)))))
              go_wp2_with fail
              go_returns
              exact read_none HR.out (after G12.out.1 G12.out.2)
  · have HR := Lib.hid (show readL b = (0, [], if b.length < 2 then 3 else 4) by
      split
      · rename_i h; exact read_short h
      · rename_i h; exact read_sum h h2)
    have HT := Lib.hid (take_no q b.length c (fb b) hcap hmost w hq h2 _ rfl)
    obtain ⟨E, hEe⟩ : ∃ E, E = (if b.length < 2 then (3 : Int) else 4) := ⟨_, rfl⟩
    rw [← hEe] at HR HT
    have hE : E ≠ 0 := by rw [hEe]; split <;> decide
    clear hEe
    clear hq h2
    go_enter Tryz.func166, Tryz.ntmps166
    go_wp2_with (go_at_call 215; refine HT.out.mono ?_; rintro e_ w1 ⟨rfl, g1⟩; have G1 := Lib.hid g1; clear g1)
    go_returns
    exact read_none HR.out G1.out
end Go.Proofs.YtmbccnioijokfaaGreatDoor

namespace Go.Proofs.YtmbccnioijokfaaGreatDoor
open Go.RowKit
attribute [local go_sem] Oper.semAt_some
noncomputable def recAt (S : DS) (k : Int) : Int × Bs × Int := readL ((S.get k).getD [])
noncomputable def ofV (S : DS) (id : Int) : Int × Int × Bs :=
  if (recAt S (2 * id)).2.2 = 0 then
    if (recAt S (2 * id + 1)).2.2 = 0 ∧ (recAt S (2 * id)).1 < (recAt S (2 * id + 1)).1 then (2 * id + 1, (recAt S (2 * id + 1)).1, (recAt S (2 * id + 1)).2.1)
    else (2 * id, (recAt S (2 * id)).1, (recAt S (2 * id)).2.1)
  else if (recAt S (2 * id + 1)).2.2 = 0 then (2 * id + 1, (recAt S (2 * id + 1)).1, (recAt S (2 * id + 1)).2.1)
  else (2 * id + 1, 0, [])
structure StoreIs (w : World) (base : Nat) (M : Nat → Prop) (s d : Nat) (S : DS) : Prop where
  blk : Blk w s 151 #[.pointer (some ⟨d, 0, none⟩)]
  disk : DiskIs w base M d S
  based : base ≤ s
theorem StoreIs.on {w w' : World} {base : Nat} {M : Nat → Prop} {s d : Nat} {S : DS} (h : StoreIs w base M s d S) (hb : Below w.heap.size w w') : StoreIs w' base M s d S := ⟨h.blk.on hb, h.disk.on hb, h.based⟩
theorem get_size {S : DS} {N M : Nat} (h : DOk S N M) (k : Int) : ((S.get k).getD []).length ≤ M := by
  unfold DS.get
  cases hg : getL S.now k with
  | none => simp
  | some b =>
    unfold getL at hg
    cases hf : S.now.find? fun p => p.1 == k with
    | none => rw [hf] at hg; cases hg
    | some p =>
      rw [hf] at hg
      obtain rfl : p.2 = b := by simpa using hg
      exact h.now.2.2.2 p (List.mem_of_find?_eq_some hf)
noncomputable def bestS (S : DS) (id : Int) : Nat → Int × Int × Bs
  | 0 => (2 * id + 1, 0, [])
  | k + 1 => if (recAt S (2 * id + k)).2.2 = 0 ∧ (bestS S id k).2.1 < (recAt S (2 * id + k)).1 then (2 * id + k, (recAt S (2 * id + k)).1, (recAt S (2 * id + k)).2.1) else bestS S id k
theorem recAt_pos {S : DS} {k : Int} (h : (recAt S k).2.2 = 0) : 1 ≤ (recAt S k).1 ∧ (recAt S k).1 ≤ 1073741824 := by
  unfold recAt at *
  rcases read_cases ((S.get k).getD []) with ⟨h1, -⟩ | ⟨-, h1, h2, -⟩
  · omega
  · exact ⟨h1, h2⟩
theorem recAt_no {S : DS} {k : Int} (h : (recAt S k).2.2 ≠ 0) : (recAt S k).1 = 0 ∧ (recAt S k).2.1 = [] := by
  unfold recAt at *
  rcases read_cases ((S.get k).getD []) with ⟨-, h1⟩ | ⟨h1, -⟩
  · exact h1
  · exact absurd h1 h
theorem recAt_int (S : DS) (k : Int) : 0 ≤ (recAt S k).1 ∧ (recAt S k).1 ≤ 1073741824 := by
  by_cases h : (recAt S k).2.2 = 0
  · have := recAt_pos h; omega
  · have := (recAt_no h).1; omega
theorem bestS_succ (S : DS) (id : Int) (k : Nat) : bestS S id (k + 1) = if (recAt S (2 * id + k)).2.2 = 0 ∧ (bestS S id k).2.1 < (recAt S (2 * id + k)).1 then (2 * id + k, (recAt S (2 * id + k)).1, (recAt S (2 * id + k)).2.1) else bestS S id k := rfl
theorem bestS_two (S : DS) (id : Int) : bestS S id 2 = ofV S id := by
  have p1 : (recAt S (2 * id)).2.2 = 0 → 1 ≤ (recAt S (2 * id)).1 := fun h => (recAt_pos h).1
  have p2 : (recAt S (2 * id + 1)).2.2 = 0 → 1 ≤ (recAt S (2 * id + 1)).1 := fun h => (recAt_pos h).1
  unfold ofV
  simp only [bestS, Int.natCast_zero, Int.add_zero, Int.natCast_one]
  by_cases h1 : (recAt S (2 * id)).2.2 = 0
  · have := p1 h1
    rw [if_pos (show (recAt S (2 * id)).2.2 = 0 ∧ 0 < (recAt S (2 * id)).1 from ⟨h1, by omega⟩), if_pos h1]
  · rw [if_neg (show ¬ ((recAt S (2 * id)).2.2 = 0 ∧ 0 < (recAt S (2 * id)).1) from fun h => h1 h.1), if_neg h1]
    by_cases h2 : (recAt S (2 * id + 1)).2.2 = 0
    · have := p2 h2
      rw [if_pos ⟨h2, by dsimp only; omega⟩, if_pos h2]
    · rw [if_neg (fun h => h2 h.1), if_neg h2]
theorem bestS_int (S : DS) (id : Int) : ∀ k, 0 ≤ (bestS S id k).2.1 ∧ (bestS S id k).2.1 ≤ 1073741824
  | 0 => by simp [bestS]
  | k + 1 => by
    unfold bestS
    split
    · exact recAt_int S _
    · exact bestS_int S id k
theorem idx20 (a b : Int) (w : World) : (Instr.index 230 (.agg #[.int .i64 a, .int .i64 b]) (.int .i64 0)).run Tryz.prog w = .ok (.int .i64 a) w := by kernel_rfl
theorem idx21 (a b : Int) (w : World) : (Instr.index 230 (.agg #[.int .i64 a, .int .i64 b]) (.int .i64 1)).run Tryz.prog w = .ok (.int .i64 b) w := by kernel_rfl
def RecR (base : Nat) (x : Int × Int × Bs) (r : Ending) (w w' : World) : Prop := ∃ sl : SL, r = .returned (.agg #[.int .i64 x.1, .int .i64 x.2.1, slV sl]) ∧ GoodS w' base sl ∧ rdB w' sl = x.2.2 ∧ Below w.heap.size w w'
def BestI (w : World) (base r t : Nat) (b : Int × Int × Bs) (wr : World) : Prop := Below w.heap.size w wr ∧ Blk wr r 190 #[.int .i64 0, .int .i64 0, .slice none 0 0] ∧ ∃ sl : SL, Blk wr t 190 #[.int .i64 b.1, .int .i64 b.2.1, slV sl] ∧ GoodS wr base sl ∧ rdB wr sl = b.2.2
theorem BestI.on {w wr wr' : World} {base r t : Nat} {b : Int × Int × Bs} (h : BestI w base r t b wr) (g : Below wr.heap.size wr wr') : BestI w base r t b wr' := by
  obtain ⟨h1, h2, sl, h3, h4, h5⟩ := h
  exact ⟨after h1 g, h2.on g, sl, h3.on g, (h4.on g).1, (h4.on g).2.trans h5⟩
theorem good_rec {W : World} {r base : Nat} {cs : Array Value} {sl : SL} (hB : Blk W r 190 cs) (hs : GoodS W base sl) (hb0 : base ≤ r) (u v x : Value) : GoodS (((W.setCell ⟨r, 0, none⟩ u).setCell ⟨r, 1, none⟩ v).setCell ⟨r, 2, none⟩ x) base sl ∧ rdB (((W.setCell ⟨r, 0, none⟩ u).setCell ⟨r, 1, none⟩ v).setCell ⟨r, 2, none⟩ x) sl = rdB W sl := by
  have hk : Kept (fun b => b ≠ r) W (((W.setCell ⟨r, 0, none⟩ u).setCell ⟨r, 1, none⟩ v).setCell ⟨r, 2, none⟩ x) := (((Kept.refl _ W).setCell (by simp) _).setCell (by simp) _).setCell (by simp) _
  refine hs.kept hk fun b hb e => ?_
  subst e
  rcases hb with hb | ⟨cur, hb⟩
  · omega
  · have := blk_one hb hB
    revert this
    decide
theorem BestI.put {w wr : World} {base r t : Nat} {b b' : Int × Int × Bs} {sl : SL} (h : BestI w base r t b wr) (hrt : r ≠ t) (hbt : base ≤ t) (hwt : w.heap.size ≤ t) (hs : GoodS wr base sl) (hr : rdB wr sl = b'.2.2) : BestI w base r t b' (((wr.setCell ⟨t, 0, none⟩ (.int .i64 b'.1)).setCell ⟨t, 1, none⟩ (.int .i64 b'.2.1)).setCell ⟨t, 2, none⟩ (slV sl)) := by
  obtain ⟨g1, h2, sl0, h3, -, -⟩ := h
  obtain ⟨k1, k2⟩ := good_rec h3 hs hbt (.int .i64 b'.1) (.int .i64 b'.2.1) (slV sl)
  exact ⟨far_below3 (Below.refl _ _) g1 hwt rfl, ((h2.far (p := ⟨t, 0, none⟩) hrt _).far (p := ⟨t, 1, none⟩) hrt _).far (p := ⟨t, 2, none⟩) hrt _, sl, h3.st3 _ _ _, k1, k2.trans hr⟩
set_option maxRecDepth 100000 in
set_option maxHeartbeats 4000000 in
theorem sof_c (base s d : Nat) (M : Nat → Prop) (S : DS) (N : Nat) (w : World) (h : StoreIs w base M s d S) (hok : DOk S N 1000000) (hN : N ≤ 100000) (id : Int) (h0 : 0 ≤ id) (h1 : id ≤ 1099511627776) (hbase : base ≤ w.heap.size) :
    Calls Tryz.prog 123 #[.pointer (some ⟨s, 0, none⟩), .int .i64 id] w fun r w' => RecR base (ofV S id) r w w' := by
  rw [← bestS_two]
  have HS := Lib.hid h
  have hB := h.blk
  have HG := Lib.hid fun (k : Int) (hk : In64 k) (W : World) (hb : Below w.heap.size w W) => get_c base d M S N W (h.disk.on hb) hok hN k hk
  have HZ := Lib.hid fun k => get_size hok k
  clear h hok hN
  have i20 := idx20 (2 * id) (2 * id + 1)
  have i21 := idx21 (2 * id) (2 * id + 1)
  go_enter Tryz.func123, Tryz.ntmps123
  go_upto_region 3 with (fail)
  obtain ⟨W0, hW0⟩ : ∃ W0, W0 = (w.alloc (.cells #[.int .i64 0, .int .i64 0, .slice none 0 0] 190)).alloc (.cells #[.int .i64 (2 * id + 1), .int .i64 0, .slice none 0 0] 190) := ⟨_, rfl⟩
  rw [← hW0]
  have HI0 : BestI w base w.heap.size (w.heap.size + 1) (bestS S id 0) W0 := by
    subst hW0
    have hs1 : (w.alloc (.cells #[.int .i64 0, .int .i64 0, .slice none 0 0] 190)).heap.size = w.heap.size + 1 := by simp
    refine ⟨(bel_alloc w _).trans (bel_alloc' (by rw [hs1]; omega) _), (Blk.new' rfl).on (bel_alloc _ _), (none, 0, 0), ?_, good_nil, rfl⟩
    rw [← hs1]
    exact Blk.new' rfl
  have HI := Lib.hid HI0
  have HT := Lib.hid (show w.heap.size ≠ w.heap.size + 1 ∧ base ≤ w.heap.size + 1 ∧ w.heap.size ≤ w.heap.size + 1 ∧ base ≤ w.heap.size from ⟨by omega, by omega, by omega, hbase⟩)
  generalize w.heap.size + 1 = t at *
  clear hW0 HI0 hbase
  go_loopw [23] (fun iv wr => ∃ k : Nat, k ≤ 2 ∧ iv = .int .i64 k ∧ BestI w base w.heap.size t (bestS S id k) wr) (fun iv _ => 2 - (intOf iv).toNat)
  case atStart => exact ⟨0, by omega, rfl, HI.out⟩
  case round =>
    obtain ⟨k, hk, hiv, hI⟩ := hrel
    rcases (by omega : k = 0 ∨ k = 1 ∨ k = 2) with rfl | rfl | rfl
    · obtain rfl : _ = Value.int .i64 0 := hiv
      have hn : (bestS S id (0 + 1)) = if (recAt S (2 * id)).2.2 = 0 ∧ (bestS S id 0).2.1 < (recAt S (2 * id)).1 then (2 * id, (recAt S (2 * id)).1, (recAt S (2 * id)).2.1) else bestS S id 0 := by rw [bestS_succ, show (2 * id + ((0 : Nat) : Int)) = 2 * id by omega]
      have HNx := Lib.hid hn
      have HI1 := Lib.hid hI
      have hBs : wr.cell? ⟨s, 0, none⟩ = some (.pointer (some ⟨d, 0, none⟩)) := (HS.out.blk.on HI1.out.1).cell 0
      clear hn hI
      generalize bestS S id 0 = b at *
      go_upto_region 6 with (go_at_call 165; refine (HG.out (2 * id) (by unfold In64; omega) _ HI1.out.1).mono ?_; rintro e_ w1 ⟨s1, rfl, hs1, hr1, gb1⟩)
      have HQ := Lib.hid (sread_c base s1 w1 hs1 (by rw [← hs1.len, hr1]; exact HZ.out _))
      rw [hr1] at HQ
      rw [show readL ((S.get (2 * id)).getD []) = recAt S (2 * id) from rfl] at HQ
      have HI2 := Lib.hid (HI1.out.on gb1)
      generalize recAt S (2 * id) = x at *
      obtain ⟨v, bd, e⟩ := x
      go_upto_region 7 with (go_at_call 166; refine HQ.out.mono ?_; rintro e_ w2 ⟨s2, rfl, hs2, hr2, gb2⟩)
      have HI := Lib.hid (HI2.out.on gb2)
      clear HI1 HI2 gb1 gb2 hs1 hr1 HQ
      obtain ⟨b1, b2, b3⟩ := b
      have HIc := HI.out
      obtain ⟨-, Br, sl, Bt, -, -⟩ := HIc
      obtain ⟨t0, t1, t2, f0, f1, f2⟩ := Bt.c3
      obtain ⟨qs, ns, cs⟩ := s2
      obtain ⟨ql, nl, cl⟩ := sl
      simp only [slV] at t2 ⊢
      have HS2 := Lib.hid (And.intro hs2 hr2)
      clear hs2 hr2 Br Bt
      by_cases he : e = 0
      · by_cases hv : b2 < v
        · have HE := Lib.hid (show bestS S id 1 = (2 * id, v, bd) from by rw [HNx.out, if_pos ⟨he, hv⟩])
          go_wp2_with fail
          have HP := HI.out.put (b' := (2 * id, v, bd)) (sl := (qs, ns, cs)) HT.out.1 HT.out.2.1 HT.out.2.2.1 HS2.out.1 HS2.out.2
          refine ⟨⟨1, by omega, rfl, ?_⟩, by decide⟩
          rw [HE.out]
          exact HP
        · have HE := Lib.hid (show bestS S id 1 = (b1, b2, b3) from by rw [HNx.out, if_neg (fun h => hv h.2)])
          go_wp2_with fail
          exact ⟨⟨1, by omega, rfl, by rw [HE.out]; exact HI.out⟩, by decide⟩
      · have HE := Lib.hid (show bestS S id 1 = (b1, b2, b3) from by rw [HNx.out, if_neg (fun h => he h.1)])
        go_wp2_with fail
        exact ⟨⟨1, by omega, rfl, by rw [HE.out]; exact HI.out⟩, by decide⟩
    · obtain rfl : _ = Value.int .i64 1 := hiv
      have hn : (bestS S id (1 + 1)) = if (recAt S (2 * id + 1)).2.2 = 0 ∧ (bestS S id 1).2.1 < (recAt S (2 * id + 1)).1 then (2 * id + 1, (recAt S (2 * id + 1)).1, (recAt S (2 * id + 1)).2.1) else bestS S id 1 := by rw [bestS_succ]; rfl
      have HNx := Lib.hid hn
      have HI1 := Lib.hid hI
      have hBs : wr.cell? ⟨s, 0, none⟩ = some (.pointer (some ⟨d, 0, none⟩)) := (HS.out.blk.on HI1.out.1).cell 0
      clear hn hI
      generalize bestS S id 1 = b at *
      go_upto_region 6 with (go_at_call 165; refine (HG.out (2 * id + 1) (by unfold In64; omega) _ HI1.out.1).mono ?_; rintro e_ w1 ⟨s1, rfl, hs1, hr1, gb1⟩)
      have HQ := Lib.hid (sread_c base s1 w1 hs1 (by rw [← hs1.len, hr1]; exact HZ.out _))
      rw [hr1] at HQ
      rw [show readL ((S.get (2 * id + 1)).getD []) = recAt S (2 * id + 1) from rfl] at HQ
      have HI2 := Lib.hid (HI1.out.on gb1)
      generalize recAt S (2 * id + 1) = x at *
      obtain ⟨v, bd, e⟩ := x
      go_upto_region 7 with (go_at_call 166; refine HQ.out.mono ?_; rintro e_ w2 ⟨s2, rfl, hs2, hr2, gb2⟩)
      have HI := Lib.hid (HI2.out.on gb2)
      clear HI1 HI2 gb1 gb2 hs1 hr1 HQ
      obtain ⟨b1, b2, b3⟩ := b
      have HIc := HI.out
      obtain ⟨-, Br, sl, Bt, -, -⟩ := HIc
      obtain ⟨t0, t1, t2, f0, f1, f2⟩ := Bt.c3
      obtain ⟨qs, ns, cs⟩ := s2
      obtain ⟨ql, nl, cl⟩ := sl
      simp only [slV] at t2 ⊢
      have HS2 := Lib.hid (And.intro hs2 hr2)
      clear hs2 hr2 Br Bt
      by_cases he : e = 0
      · by_cases hv : b2 < v
        · have HE := Lib.hid (show bestS S id 2 = (2 * id + 1, v, bd) from by rw [HNx.out, if_pos ⟨he, hv⟩])
          go_wp2_with fail
          have HP := HI.out.put (b' := (2 * id + 1, v, bd)) (sl := (qs, ns, cs)) HT.out.1 HT.out.2.1 HT.out.2.2.1 HS2.out.1 HS2.out.2
          refine ⟨⟨2, by omega, rfl, ?_⟩, by decide⟩
          rw [HE.out]
          exact HP
        · have HE := Lib.hid (show bestS S id 2 = (b1, b2, b3) from by rw [HNx.out, if_neg (fun h => hv h.2)])
          go_wp2_with fail
          exact ⟨⟨2, by omega, rfl, by rw [HE.out]; exact HI.out⟩, by decide⟩
      · have HE := Lib.hid (show bestS S id 2 = (b1, b2, b3) from by rw [HNx.out, if_neg (fun h => he h.1)])
        go_wp2_with fail
        exact ⟨⟨2, by omega, rfl, by rw [HE.out]; exact HI.out⟩, by decide⟩
    · obtain rfl : _ = Value.int .i64 2 := hiv
      obtain ⟨⟨b1, b2, b3⟩, hb⟩ : ∃ b, bestS S id 2 = b := ⟨_, rfl⟩
      rw [hb] at hI
      have HB := Lib.hid hb
      clear hb
      have HI := Lib.hid hI
      obtain ⟨-, Br, ⟨ql, nl, cl⟩, Bt, hg, hr⟩ := hI
      have HGR := Lib.hid (And.intro hg hr)
      simp only [slV] at Bt
      have HBr := Lib.hid Br
      obtain ⟨t0, t1, t2, f0, f1, f2⟩ := Bt.c3
      obtain ⟨r0, r1, r2, q0, q1, q2⟩ := Br.c3
      clear Br Bt hg hr
      go_wp2_with fail
      have R2 := HBr.out.st3 (.int .i64 b1) (.int .i64 b2) (.slice ql nl cl)
      obtain ⟨d0, d1, d2, -, -, -⟩ := R2.c3
      have hg := good_rec HBr.out HGR.out.1 HT.out.2.2.2 (.int .i64 b1) (.int .i64 b2) (.slice ql nl cl)
      refine bodyPost_ret (v := .agg #[.int .i64 b1, .int .i64 b2, .slice ql nl cl]) (by simp [results, Tryz.results123, go_sem, d0, d1, d2]) rfl ?_
      rw [HB.out]
      exact ⟨(ql, nl, cl), rfl, hg.1, hg.2.trans HGR.out.2, far_below3 (Below.refl _ _) HI.out.1 (Nat.le_refl _) rfl⟩
end Go.Proofs.YtmbccnioijokfaaGreatDoor

namespace Go.Proofs.YtmbccnioijokfaaGreatDoor
open Go.RowKit
attribute [local go_sem] Oper.semAt_some
theorem ofV_int (S : DS) (id : Int) : 0 ≤ (ofV S id).2.1 ∧ (ofV S id).2.1 ≤ 1073741824 := by
  rw [← bestS_two]; exact bestS_int S id 2
def mayId (id : Int) : Bool := decide (0 ≤ id) && decide (id ≤ 1099511627776)
theorem smay_c (id : Int) (w : World) : Calls Tryz.prog 122 #[.int .i64 id] w fun r w' => r = .returned (.bool (mayId id)) ∧ w = w' := by
  unfold mayId
  go_enter Tryz.func122, Tryz.ntmps122
  by_cases h1 : 0 ≤ id
  · by_cases h2 : id ≤ 1099511627776
    · go_wp2_with fail
      go_returns
      simp [h1, h2]
    · have h2' : 1099511627776 < id := by omega
      go_wp2_with fail
      go_returns
      simp [h2]
  · have h1' : id < 0 := by omega
    go_wp2_with fail
    go_returns
    simp
    omega
noncomputable def loadV (S : DS) (id : Int) : Bs × Int × Bool := if mayId id then ((ofV S id).2.2, (ofV S id).2.1, decide (0 < (ofV S id).2.1)) else ([], 0, false)
def LoadR (base : Nat) (x : Bs × Int × Bool) (r : Ending) (w w' : World) : Prop := ∃ sl : SL, r = .returned (.tuple #[slV sl, .int .i64 x.2.1, .bool x.2.2]) ∧ GoodS w' base sl ∧ rdB w' sl = x.1 ∧ Below w.heap.size w w'
set_option maxRecDepth 100000 in
set_option maxHeartbeats 4000000 in
theorem sload_c (base s d : Nat) (M : Nat → Prop) (S : DS) (N : Nat) (w : World) (h : StoreIs w base M s d S) (hok : DOk S N 1000000) (hN : N ≤ 100000) (id : Int) (hbase : base ≤ w.heap.size) :
    Calls Tryz.prog 82 #[.pointer (some ⟨s, 0, none⟩), .int .i64 id] w fun r w' => LoadR base (loadV S id) r w w' := by
  have HM := Lib.hid (smay_c id w)
  unfold loadV
  by_cases hm : mayId id = true
  · have hm2 : 0 ≤ id ∧ id ≤ 1099511627776 := by unfold mayId at hm; simpa using hm
    have HO := Lib.hid (sof_c base s d M S N w h hok hN id hm2.1 hm2.2 hbase)
    have HX := Lib.hid (ofV_int S id)
    rw [hm] at HM
    rw [if_pos hm]
    clear h hok hN hm
    generalize ofV S id = x at *
    obtain ⟨x1, x2, x3⟩ := x
    go_enter Tryz.func82, Tryz.ntmps82
    go_upto_region 4 with first
      | (go_at_call 122; refine HM.out.mono ?_; rintro e_ w' ⟨rfl, rfl⟩)
      | (go_at_call 123; refine HO.out.mono ?_; rintro e_ w1 ⟨⟨q, n, c⟩, rfl, hg, hr, g1⟩; dsimp only [slV] at *)
    obtain ⟨W2, hW⟩ : ∃ W2, W2 = w1.alloc (.cells #[.int .i64 x1, .int .i64 x2, .slice q n c] 190) := ⟨_, rfl⟩
    rw [← hW]
    have C := Blk.fresh hW
    have g2 : Below w1.heap.size w1 W2 := by rw [hW]; exact bel_alloc _ _
    have c0 := fun d os => (C.re d os).cell 1
    have c2 := fun d os => (C.re d os).cell 2
    have HG := Lib.hid (And.intro hg hr)
    have HB := Lib.hid (And.intro g1 g2)
    clear hg hr g1 g2 C hW
    refine wp_region_quiet_below (by kernel_rfl) (by kernel_rfl) ?_
    repeat (go_big_quiet_step (fail))
    refine wpQuiet_nil ?_
    intro w' hw'
    obtain ⟨rg, rfl⟩ := hw'
    clear c0 c2
    go_wp2_with fail
    go_returns
    obtain ⟨h1, h2⟩ := HG.out.1.on (after HB.out.2 (below_regrown W2 _ _))
    exact ⟨(q, n, c), rfl, h1, h2.trans HG.out.2, after (after HB.out.1 HB.out.2) (below_regrown W2 _ _)⟩
  · have hm' : mayId id = false := by simpa using hm
    rw [hm'] at HM
    rw [if_neg hm]
    clear h hok hN hm hm'
    go_enter Tryz.func82, Tryz.ntmps82
    go_wp2_with (go_at_call 122; refine HM.out.mono ?_; rintro e_ w' ⟨rfl, rfl⟩)
    go_returns
    exact ⟨(none, 0, 0), rfl, good_nil, rfl, Below.refl _ _⟩
end Go.Proofs.YtmbccnioijokfaaGreatDoor

namespace Go.Proofs.YtmbccnioijokfaaGreatDoor
open Go.RowKit Go.Shelf
attribute [local go_sem] Oper.semAt_some
abbrev enc1 (v : Value) : List Value := [v]
theorem len1 (v : Value) : (enc1 v).length = 1 := rfl
def SaysV (P : Program) (G : FuncId) (lb : Array Value) (vs : List Value) (q : Nat → Bool) (w : World) : Prop :=
  ∀ k v, vs[k]? = some v → ∀ W, Below w.heap.size w W → Calls P G (#[v] ++ lb) W fun r W' => r = .returned (.bool (q k)) ∧ Below W.heap.size W W'
def FirstIs (q : Nat → Bool) (n : Nat) (k : Int) : Prop := (k = -1 ∧ ∀ j, j < n → q j = false) ∨ ∃ m : Nat, m < n ∧ k = m ∧ q m = true ∧ ∀ j, j < m → q j = false
set_option maxRecDepth 100000 in
set_option maxHeartbeats 4000000 in
theorem tidxf_c (q : Option Addr) (cp : Nat) (vs : List Value) (hm : vs.length ≤ 1000000) (G : FuncId) (lg : Array Value) (p : Nat → Bool) (w : World) (hR : Rd w q 1 enc1 vs) (eG : ∀ args w, (callFunc G args).run Tryz.prog w = .ok (.enter G args) w) (hG : SaysV Tryz.prog G lg vs p w) :
    Calls Tryz.prog 118 #[.slice q vs.length cp, .func (.func G) #[] lg] w fun r w' => ∃ k : Int, r = .returned (.int .i64 k) ∧ FirstIs p vs.length k ∧ Below w.heap.size w w' := by
  have HM := Lib.hid (show vs.length ≤ maxLen by unfold maxLen; omega)
  have HG := Lib.hid hG
  clear hm hG
  go_enter Tryz.func118, Tryz.ntmps118
  go_upto_region 2 with (fail)
  go_loopw [8] (fun iv wr => ∃ (i : Nat), iv = .int .i64 (i : Nat) ∧ Hid (i ≤ vs.length) ∧ Rd wr q 1 enc1 vs ∧ Hid (∀ j, j < i → p j = false) ∧ Hid (Below w.heap.size w wr)) (fun v _ => vs.length - (intOf v).toNat)
  case atStart => exact ⟨0, rfl, Nat.zero_le _, hR, Lib.hid (fun j hj => by omega), Below.refl _ _⟩
  case round =>
    clear hR
    obtain ⟨i, rfl, hi, R, hno, H⟩ := hrel
    by_cases hlt : i < vs.length
    · obtain ⟨x, hx⟩ : ∃ x, vs[i]? = some x := ⟨_, List.getElem?_eq_getElem hlt⟩
      have hlt' : (i : Int) < (vs.length : Int) := by omega
      obtain ⟨g, o, rfl, hI⟩ := R (by omega)
      have e0 : wr.cell? ⟨g, o + i, none⟩ = some x := by have := hI i x hx 0 _ rfl; simpa using this
      obtain ⟨n2, n3, n5, n6⟩ := nextx hlt HM.out
      have hc := HG.out i x hx wr H.out
      clear hx hI
      cases hp : p i
      · rw [hp] at hc
        have HP := Lib.hid hp
        have HC := Lib.hid hc
        clear hp hc
        go_wp2_with (refine HC.out.mono ?_; rintro e_ w3 ⟨rfl, h3⟩)
        go_roundw
        case rel => exact ⟨i + 1, rfl, hlt, R.on h3, Lib.hid (fun j hj => by
          rcases Nat.lt_or_eq_of_le (Nat.le_of_lt_succ hj) with h | rfl
          · exact hno.out j h
          · exact HP.out), after H.out h3⟩
        case measure => simp [intOf]; omega
      · rw [hp] at hc
        have HP := Lib.hid hp
        have HC := Lib.hid hc
        clear hp hc
        go_wp2_with (refine HC.out.mono ?_; rintro e_ w3 ⟨rfl, h3⟩)
        go_returns
        exact ⟨(i : Int), rfl, .inr ⟨i, hlt, rfl, HP.out, hno.out⟩, after H.out h3⟩
    · have hi2 : i = vs.length := by have := hi.out; omega
      have hlt' : ¬ (i : Int) < (vs.length : Int) := by omega
      go_wp2_with fail
      go_returns
      exact ⟨-1, rfl, .inl ⟨rfl, fun j hj => hno.out j (by omega)⟩, H.out⟩
set_option maxRecDepth 100000 in
set_option maxHeartbeats 4000000 in
theorem lidxf_c (q : Option Addr) (cp : Nat) (vs : List Value) (hm : vs.length ≤ 1000000) (G : FuncId) (lg : Array Value) (p : Nat → Bool) (w : World) (hR : Rd w q 1 enc1 vs) (eG : ∀ args w, (callFunc G args).run Tryz.prog w = .ok (.enter G args) w) (hG : SaysV Tryz.prog G lg vs p w) :
    Calls Tryz.prog 245 #[.slice q vs.length cp, .func (.func G) #[] lg] w fun r w' => ∃ k : Int, r = .returned (.int .i64 k) ∧ FirstIs p vs.length k ∧ Below w.heap.size w w' := by
  have HM := Lib.hid (show vs.length ≤ maxLen by unfold maxLen; omega)
  have HG := Lib.hid hG
  clear hm hG
  go_enter Tryz.func245, Tryz.ntmps245
  go_upto_region 2 with (fail)
  go_loopw [8] (fun iv wr => ∃ (i : Nat), iv = .int .i64 (i : Nat) ∧ Hid (i ≤ vs.length) ∧ Rd wr q 1 enc1 vs ∧ Hid (∀ j, j < i → p j = false) ∧ Hid (Below w.heap.size w wr)) (fun v _ => vs.length - (intOf v).toNat)
  case atStart => exact ⟨0, rfl, Nat.zero_le _, hR, Lib.hid (fun j hj => by omega), Below.refl _ _⟩
  case round =>
    clear hR
    obtain ⟨i, rfl, hi, R, hno, H⟩ := hrel
    by_cases hlt : i < vs.length
    · obtain ⟨x, hx⟩ : ∃ x, vs[i]? = some x := ⟨_, List.getElem?_eq_getElem hlt⟩
      have hlt' : (i : Int) < (vs.length : Int) := by omega
      obtain ⟨g, o, rfl, hI⟩ := R (by omega)
      have e0 : wr.cell? ⟨g, o + i, none⟩ = some x := by have := hI i x hx 0 _ rfl; simpa using this
      obtain ⟨n2, n3, n5, n6⟩ := nextx hlt HM.out
      have hc := HG.out i x hx wr H.out
      clear hx hI
      cases hp : p i
      · rw [hp] at hc
        have HP := Lib.hid hp
        have HC := Lib.hid hc
        clear hp hc
        go_wp2_with (refine HC.out.mono ?_; rintro e_ w3 ⟨rfl, h3⟩)
        go_roundw
        case rel => exact ⟨i + 1, rfl, hlt, R.on h3, Lib.hid (fun j hj => by
          rcases Nat.lt_or_eq_of_le (Nat.le_of_lt_succ hj) with h | rfl
          · exact hno.out j h
          · exact HP.out), after H.out h3⟩
        case measure => simp [intOf]; omega
      · rw [hp] at hc
        have HP := Lib.hid hp
        have HC := Lib.hid hc
        clear hp hc
        go_wp2_with (refine HC.out.mono ?_; rintro e_ w3 ⟨rfl, h3⟩)
        go_returns
        exact ⟨(i : Int), rfl, .inr ⟨i, hlt, rfl, HP.out, hno.out⟩, after H.out h3⟩
    · have hi2 : i = vs.length := by have := hi.out; omega
      have hlt' : ¬ (i : Int) < (vs.length : Int) := by omega
      go_wp2_with fail
      go_returns
      exact ⟨-1, rfl, .inl ⟨rfl, fun j hj => hno.out j (by omega)⟩, H.out⟩
end Go.Proofs.YtmbccnioijokfaaGreatDoor

namespace Go.Proofs.YtmbccnioijokfaaGreatDoor
open Go.RowKit
attribute [local go_sem] Oper.semAt_some
abbrev encS (s : ByteArray) : List Value := [.string s]
theorem lenS (s : ByteArray) : (encS s).length = 1 := rfl
def ArgA (N a : Nat) (ws : List ByteArray) (w : World) : Prop := ∃ q c, Blk w a 58 #[.slice q ws.length c] ∧ ws.length ≤ c ∧ ws.length ≤ 1000000 ∧ (N ≤ w.heap.size ∧ a < N) ∧ (∀ b, q = some b → b.block ≠ a ∧ b.block < N) ∧ Rd w q 1 encS ws
theorem ArgA.bel {N a : Nat} {ws : List ByteArray} {w w' : World} (h : ArgA N a ws w) (hb : Below N w w') : ArgA N a ws w' := by
  obtain ⟨q, c, h1, h2, h3, ⟨h4, h4'⟩, h5, h6⟩ := h
  refine ⟨q, c, h1.below hb h4', h2, h3, ⟨Nat.le_trans h4 hb.size, h4'⟩, h5, fun hn => ?_⟩
  obtain ⟨g, o, hq, h7⟩ := h6 hn
  refine ⟨g, o, hq, fun i x hx j u hu => ?_⟩
  rw [← h7 i x hx j u hu]
  have hg := (h5 _ hq).2
  simp only [World.cell?, hb.block g hg]
theorem ArgA.on {N a : Nat} {ws : List ByteArray} {w w' : World} (h : ArgA N a ws w) (hb : Below w.heap.size w w') : ArgA N a ws w' := by
  have hN : N ≤ w.heap.size := by obtain ⟨q, c, -, -, -, ⟨h4, -⟩, -⟩ := h; exact h4
  exact h.bel (hb.mono hN)
theorem ArgA.le {N a : Nat} {ws : List ByteArray} {w : World} (h : ArgA N a ws w) : N ≤ w.heap.size ∧ a < N := by obtain ⟨q, c, -, -, -, h4, -⟩ := h; exact h4
set_option maxRecDepth 100000 in
set_option maxHeartbeats 1000000 in
theorem must_c (w : World) : Calls Tryz.prog 25 #[.bool true] w fun r w' => r = .returned (.tuple #[]) ∧ w = w' := by
  go_enter Tryz.func25, Tryz.ntmps25
  go_wp2_with fail
  go_returns
  exact ⟨rfl, rfl⟩
def tlA (g o c : Nat) : Addr := if c = 1 then ⟨g, o, none⟩ else ⟨g, o + 1, none⟩
theorem run_tl (g o n c : Nat) (hc : n + 1 ≤ c) (w : World) : (Instr.slice 48 (.slice (some ⟨g, o, none⟩) (n + 1) c) (some (.int .i64 1)) none none).run Tryz.prog w = .ok (.slice (some (tlA g o c)) n (c - 1)) w := by
  unfold tlA
  by_cases h : c = 1
  · subst h
    obtain rfl : n = 0 := by omega
    rw [if_pos rfl]
    simp [Instr.slice, Instr.sliceBounds, Instr.sliceBound, go_sem]
  · rw [if_neg h]
    have h1 : ¬ c = 1 := h
    have h2 : (1 : Int) ≤ (n : Int) + 1 := by omega
    simp [Instr.slice, Instr.sliceBounds, Instr.sliceBound, go_sem, h1, h2]
set_option maxRecDepth 100000 in
set_option maxHeartbeats 2000000 in
theorem word_c (N a : Nat) (s : ByteArray) (ws : List ByteArray) (w : World) (h : ArgA N a (s :: ws) w) :
    Calls Tryz.prog 24 #[.pointer (some ⟨a, 0, none⟩)] w fun r w' => r = .returned (.string s) ∧ ArgA N a ws w' ∧ Kept (fun b => b ≠ a) w w' := by
  obtain ⟨q, c, hB, hc, hm, hN, hq, hR⟩ := h
  obtain ⟨g, o, rfl, hI⟩ := hR (by simp)
  have hga : g ≠ a ∧ g < N := hq _ rfl
  have s0 : w.cell? ⟨g, o, none⟩ = some (.string s) := hI 0 s rfl 0 _ rfl
  rw [List.length_cons] at hB hc hm
  have a0 := hB.cell 0
  have f0 := hB.frz 0
  have htl := run_tl g o ws.length c hc
  have hpos : (0 : Int) < ((ws.length + 1 : Nat) : Int) := by omega
  have hfin : ArgA N a ws (w.setCell ⟨a, 0, none⟩ (.slice (some (tlA g o c)) ws.length (c - 1))) := by
    refine ⟨_, _, hB.set_ 0 _, by omega, by omega, ⟨by simp [World.setCell]; exact hN.1, hN.2⟩, fun b hb => ?_, fun hn => ?_⟩
    · obtain rfl := Option.some.inj hb
      unfold tlA
      split <;> exact hga
    · have hc1 : ¬ c = 1 := by omega
      refine ⟨g, o + 1, by unfold tlA; rw [if_neg hc1], fun i x hx j u hu => ?_⟩
      have := hI (i + 1) x (by simpa using hx) j u hu
      rw [World.cell?_setCell_other _ _ _ _ (fun he => hga.1 (congrArg Addr.block he).symm)]
      rw [← this]
      congr 2
      omega
  have HF := Lib.hid hfin
  have HK := Lib.hid (show Kept (fun b => b ≠ a) w (w.setCell ⟨a, 0, none⟩ (.slice (some (tlA g o c)) ws.length (c - 1))) from (Kept.refl _ _).setCell (by simp) _)
  clear hB hI hR hq hc hm hfin hga hN
  go_enter Tryz.func24, Tryz.ntmps24
  go_wp2_with (go_at_call 25; refine (must_c _).mono ?_; rintro e_ w1 ⟨rfl, rfl⟩)
  go_returns
  exact ⟨rfl, HF.out, HK.out⟩
set_option maxRecDepth 100000 in
set_option maxHeartbeats 1000000 in
theorem end_c (N a : Nat) (w : World) (h : ArgA N a [] w) :
    Calls Tryz.prog 74 #[.pointer (some ⟨a, 0, none⟩)] w fun r w' => r = .returned (.tuple #[]) ∧ w = w' := by
  obtain ⟨q, c, hB, -⟩ := h
  have a0 := hB.cell 0
  clear hB
  go_enter Tryz.func74, Tryz.ntmps74
  go_wp2_with (go_at_call 25; refine (must_c _).mono ?_; rintro e_ w1 ⟨rfl, rfl⟩)
  go_returns
  exact ⟨rfl, rfl⟩
end Go.Proofs.YtmbccnioijokfaaGreatDoor

namespace Go.Proofs.YtmbccnioijokfaaGreatDoor
open Go.RowKit Go.Shelf
attribute [local go_sem] Oper.semAt_some
def cellsI (a b c d e f : Int) : List Cl := if isI a b c d e f then boxL (lowI a) (topI a d) (lowI b) (topI b e) (lowI c) (topI c f) else []
abbrev encC (c : Cl) : Array Value := #[.agg #[.int .i64 c.1, .int .i64 c.2.1, .int .i64 c.2.2]]
theorem topI_bd {n m : Int} : -2147483649 ≤ topI n m ∧ topI n m ≤ 2147483648 := by
  have := lowI_bd m
  unfold topI
  split <;> omega
set_option maxRecDepth 100000 in
set_option maxHeartbeats 8000000 in
theorem each_it (B : Nat) (a b c d e f : Int) (hB : BoxOk a b c d e f) (w : World) (hw : Blk w B 210 #[.int .i64 a, .int .i64 b, .int .i64 c, .int .i64 d, .int .i64 e, .int .i64 f]) :
    Iter Tryz.prog 337 #[.pointer (some ⟨B, 0, none⟩)] encC (cellsI a b c d e f) (· = B) w := by
  intro m l J Jx W hW hJ hJx hY h0
  have A := hW.blk rfl hw
  refine callsIn_of_wp Tryz.func337 rfl trivial ?_ rfl
  simp only [Tryz.ntmps337, List.size_toArray, List.length_cons, List.length_nil, Nat.reduceAdd, Nat.reduceSub, Array.replicate_succ, Array.replicate_zero, List.push_toArray, List.append_toArray, List.nil_append, List.cons_append]
  refine wpIn_wide.2 ?_
  obtain ⟨a0, a1, a2, a3, a4, a5⟩ := A.c6.1
  have HB := Lib.hid hB
  clear hB hw hW
  go_upto_region 1 with (go_at_call 338; refine (span_c a b c d e f HB.out _).mono ?_; rintro e_ w1 ⟨rfl, h1⟩)
  have hsz := h1.size
  generalize hV : World.alloc (World.alloc w1 _) _ = W2
  have X : Blk W2 w1.heap.size _ _ := Blk.eqw hV ((Blk.new' rfl).alloc _)
  have Y : Blk W2 (w1.heap.size + 1) _ _ := Blk.eqw hV (Blk.new' (by simp))
  have hz : W2.heap.size = w1.heap.size + 2 := by rw [← hV]; simp
  have hk : Below W.heap.size W W2 := by rw [← hV]; exact (h1.alloc hsz _).alloc (by simp; omega) _
  have hJ2 : ∀ Z, J Z 0 W2 := fun Z => hJ Z 0 W W2 (h0 Z) (Kept.of_below hk)
  clear hV hk h0 A a0 a1 a2 a3 a4 a5 h1
  generalize w1.heap.size = g at X Y hsz hz ⊢
  cases his : isI a b c d e f
  · have hx : cellsI a b c d e f = [] := by unfold cellsI; rw [his]; rfl
    have HX := Lib.hid hx
    obtain ⟨x0, x1, x2, -, -, -⟩ := X.c3
    clear hx X Y
    go_upto_region 2 with (fail)
    refine (wpIn_wide (n := m + 1)).1 ?_
    gi_loopw [6] (fun _ wr => J W2.heap.size 0 wr) (fun _ _ => 0)
    case atStart => exact hJ2 _
    case round =>
      gi_wp2
      go_end0
      exact ⟨⟨_, rfl⟩, W2.heap.size, by omega, .inl (by rw [HX.out]; exact hrel)⟩
  · rw [his] at X Y
    have hx : cellsI a b c d e f = rest1 (lowI a) (topI a d) (topI b e) (lowI c) (topI c f) (lowI b) := by unfold cellsI; rw [his, if_pos rfl]; rfl
    have HX := Lib.hid hx
    have HIS := Lib.hid his
    have HZ := Lib.hid hz
    clear hx his hz
    simp only [zI, if_true] at X Y
    obtain ⟨x0, x1, x2, -, -, -⟩ := X.c3
    obtain ⟨y0, y1, y2, -, -, -⟩ := Y.c3
    go_upto_region 2 with (fail)
    refine (wpIn_wide (n := m + 1)).1 ?_
    have lb := lowI_bd b
    have lc := lowI_bd c
    have la := lowI_bd a
    have tb := topI_bd (n := b) (m := e)
    have tc := topI_bd (n := c) (m := f)
    have ta := topI_bd (n := a) (m := d)
    have q1 := topI_low HB.out.b1 HB.out.e2 HB.out.be
    have q2 := topI_low HB.out.c1 HB.out.f2 HB.out.cf
    have q3 := topI_low HB.out.a1 HB.out.d2 HB.out.ad
    gi_loopw [6] (fun v wr => ∃ (y : Int) (i : Nat), v = .int .i64 y ∧ lowI b ≤ y ∧ y ≤ topI b e + 1 ∧ Hid ((cellsI a b c d e f).drop i = rest1 (lowI a) (topI a d) (topI b e) (lowI c) (topI c f) y) ∧ Hid (i ≤ (cellsI a b c d e f).length) ∧
      Blk wr g 43 #[.int .i64 (lowI a), .int .i64 (lowI b), .int .i64 (lowI c)] ∧ Blk wr (g + 1) 43 #[.int .i64 (topI a d), .int .i64 (topI b e), .int .i64 (topI c f)] ∧ Hid (g + 2 ≤ wr.heap.size) ∧ J (g + 2) i wr) (fun v _ => (topI b e + 1 - intOf v).toNat)
    case atStart => exact ⟨_, 0, rfl, Int.le_refl _, by omega, by rw [List.drop_zero]; exact HX.out, Nat.zero_le _, X, Y, Nat.le_of_eq HZ.out.symm, hJ2 _⟩
    case round =>
      clear X Y hJ2 x0 x1 x2 y0 y1 y2
      obtain ⟨y, i, rfl, hy1, hy2, hd, hil, X, Y, hsz2, hj⟩ := hrel
      obtain ⟨x0, x1, x2, -, -, -⟩ := X.c3
      obtain ⟨y0, y1, y2, -, -, -⟩ := Y.c3
      by_cases hy : y ≤ topI b e
      · have hd1 := Lib.hid (hd.out.trans (rest1_cons hy))
        gi_wp2
        obtain ⟨wo, rfl⟩ : ∃ wo : World, wo = wr := ⟨_, rfl⟩
        gi_loopw [7] (fun v wr => ∃ (z : Int) (i : Nat), v = .int .i64 z ∧ lowI c ≤ z ∧ z ≤ topI c f + 1 ∧ Hid ((cellsI a b c d e f).drop i = rest2 (lowI a) (topI a d) (topI b e) (lowI c) (topI c f) y z) ∧ Hid (i ≤ (cellsI a b c d e f).length) ∧
          Blk wr g 43 #[.int .i64 (lowI a), .int .i64 (lowI b), .int .i64 (lowI c)] ∧ Blk wr (g + 1) 43 #[.int .i64 (topI a d), .int .i64 (topI b e), .int .i64 (topI c f)] ∧ Hid (g + 2 ≤ wr.heap.size) ∧ J (g + 2) i wr) (fun v _ => (topI c f + 1 - intOf v).toNat)
        case atStart => exact ⟨_, i, rfl, Int.le_refl _, by omega, hd1.out, hil.out, X, Y, hsz2.out, hj⟩
        case round =>
          clear X Y x0 x1 x2 y0 y1 y2 hd hil hsz2 hj hd1
          obtain ⟨z, i, rfl, hz1, hz2, hd, hil, X, Y, hsz2, hj⟩ := hrel
          obtain ⟨x0, x1, x2, -, -, -⟩ := X.c3
          obtain ⟨y0, y1, y2, -, -, -⟩ := Y.c3
          by_cases hzt : z ≤ topI c f
          · have hd1 := Lib.hid (hd.out.trans (rest2_cons hzt))
            gi_wp2
            obtain ⟨wo2, rfl⟩ : ∃ wo : World, wo = wr := ⟨_, rfl⟩
            gi_loopw [8] (fun v wr => ∃ (x : Int) (i : Nat), v = .int .i64 x ∧ lowI a ≤ x ∧ x ≤ topI a d + 1 ∧ Hid ((cellsI a b c d e f).drop i = rest3 (lowI a) (topI a d) (topI b e) (lowI c) (topI c f) y z x) ∧ Hid (i ≤ (cellsI a b c d e f).length) ∧
              Blk wr g 43 #[.int .i64 (lowI a), .int .i64 (lowI b), .int .i64 (lowI c)] ∧ Blk wr (g + 1) 43 #[.int .i64 (topI a d), .int .i64 (topI b e), .int .i64 (topI c f)] ∧ Hid (g + 2 ≤ wr.heap.size) ∧ J (g + 2) i wr) (fun v _ => (topI a d + 1 - intOf v).toNat)
            case atStart => exact ⟨_, i, rfl, Int.le_refl _, by omega, hd1.out, hil.out, X, Y, hsz2.out, hj⟩
            case round =>
              clear X Y x0 x1 x2 y0 y1 y2 hd hil hsz2 hj hd1
              obtain ⟨x, i, rfl, hx1, hx2, hd, hil, X, Y, hsz2, hj⟩ := hrel
              obtain ⟨x0, x1, x2, -, -, -⟩ := X.c3
              obtain ⟨y0, y1, y2, -, -, -⟩ := Y.c3
              by_cases hxt : x ≤ topI a d
              · obtain ⟨c1, c2, c3⟩ := drop_cons (hd.out.trans (rest3_cons hxt))
                obtain ⟨fn, tmps, assign, body, hy', hR⟩ := hY (g + 2) i (x, y, z) wr (by omega) hsz2.out c1 hj
                have C2 := Lib.hid c2
                have C3 := Lib.hid c3
                clear c1 c2 c3
                gi_wp2
                refine hR.mono ?_
                rintro e_ W3 (⟨rfl, hj3, hk3⟩ | ⟨rfl, hjx3⟩)
                · replace X := hk3.blk (.inl ⟨hsz, by omega⟩) X
                  replace Y := hk3.blk (.inl ⟨by omega, by omega⟩) Y
                  have hsz3 := Lib.hid (Nat.le_trans hsz2.out hk3.size)
                  gi_wp2
                  go_roundw
                  case rel => exact ⟨x + 1, i + 1, rfl, by omega, by omega, C2.out, C3.out, X, Y, hsz3.out, hj3⟩
                  case measure => simp [intOf]; omega
                · gi_wp2
                  refine bodyPost_ret (results_none rfl _ _ _) rfl ?_
                  exact ⟨⟨_, rfl⟩, g + 2, by omega, .inr ⟨i, C3.out, hjx3⟩⟩
              · have hd1 := Lib.hid (hd.out.trans (rest3_nil (by omega)))
                gi_wp2
                go_roundw
                case rel => exact ⟨z + 1, i, rfl, by omega, by omega, hd1.out, hil.out, X, Y, hsz2.out, hj⟩
                case measure => simp [intOf]; omega
          · have hd1 := Lib.hid (hd.out.trans (rest2_nil (by omega)))
            gi_wp2
            go_roundw
            case rel => exact ⟨y + 1, i, rfl, by omega, by omega, hd1.out, hil.out, X, Y, hsz2.out, hj⟩
            case measure => simp [intOf]; omega
      · gi_wp2
        go_end0
        exact ⟨⟨_, rfl⟩, g + 2, by omega, .inl (by rw [← drop_nil (hd.out.trans (rest1_nil (by omega))) hil.out]; exact hj)⟩
end Go.Proofs.YtmbccnioijokfaaGreatDoor

namespace Go.Proofs.YtmbccnioijokfaaGreatDoor
open Go.RowKit
attribute [local go_sem] Oper.semAt_some
abbrev encI1 (n : Int) : Array Value := #[.int .i64 n]
def colG (s px pz : Int) (j : Nat) : Int := groundV s (px * 16 + (j : Int) % 16) (pz * 16 + (j : Int) / 16 % 16)
def cellG (s px pz : Int) (i : Nat) : Int := ofB ((i : Int) / 256) (colG s px pz (i % 256))
def genL (s px pz : Int) : List Int := (List.range 8192).map (cellG s px pz)
def gArr (s px pz : Int) (k : Nat) : Array Value := ((List.range 256).map fun j => Value.int .i64 (if j < k then colG s px pz j else 0)).toArray
theorem gArr_at (s px pz : Int) (k : Nat) {j : Nat} (hj : j < 256) : (gArr s px pz k)[j]? = some (.int .i64 (if j < k then colG s px pz j else 0)) := by simp [gArr, hj]
theorem gArr_set (s px pz : Int) {k : Nat} (hk : k < 256) : (gArr s px pz k).setIfInBounds k (.int .i64 (colG s px pz k)) = gArr s px pz (k + 1) := by
  apply Array.ext_getElem?
  intro i
  have hs : (gArr s px pz k).size = 256 := by simp [gArr]
  by_cases hi : i < 256
  · rw [gArr_at _ _ _ _ hi]
    by_cases h : i = k
    · subst h
      rw [Array.getElem?_setIfInBounds_self_of_lt (by omega), if_pos (by omega)]
    · rw [Array.getElem?_setIfInBounds_ne (fun e => h e.symm), gArr_at _ _ _ _ hi]
      by_cases h2 : i < k
      · rw [if_pos h2, if_pos (by omega)]
      · rw [if_neg h2, if_neg (by omega)]
  · rw [Array.getElem?_eq_none (by rw [Array.size_setIfInBounds]; omega), Array.getElem?_eq_none (by simp [gArr]; omega)]
theorem zero_g1 : Tryz.zeroCells285 = (List.replicate 256 (Value.int .i64 0)).toArray := by kernel_rfl
theorem zero_g (s px pz : Int) : Tryz.zeroCells285 = gArr s px pz 0 := by
  rw [zero_g1]
  unfold gArr
  rw [List.map_congr_left (g := fun _ => Value.int .i64 0) (fun j _ => by simp), List.map_const', List.length_range]
set_option maxRecDepth 100000 in
set_option maxHeartbeats 8000000 in
theorem gen_it (B G : Nat) (s px pz : Int) (hx : -1000000000 ≤ px ∧ px ≤ 1000000000) (hz : -1000000000 ≤ pz ∧ pz ≤ 1000000000) (w : World) (hb : Blk w B 123 #[.int .i64 px, .int .i64 pz]) (hg : Blk w G 3 #[.int .i64 s]) :
    Iter Tryz.prog 217 #[.pointer (some ⟨B, 0, none⟩), .pointer (some ⟨G, 0, none⟩)] encI1 (genL s px pz) (fun x => x = B ∨ x = G) w := by
  intro m l J Jx W hW hJ hJx hY h0
  have A := hW.blk (.inl rfl) hb
  have A1 := hW.blk (.inr rfl) hg
  clear hb hg hW
  refine callsIn_of_wp Tryz.func217 rfl trivial ?_ rfl
  simp only [Tryz.ntmps217, List.size_toArray, List.length_cons, List.length_nil, Nat.reduceAdd, Nat.reduceSub, Array.replicate_succ, Array.replicate_zero, List.push_toArray, List.append_toArray, List.nil_append, List.cons_append]
  refine wpIn_wide.2 ?_
  go_upto_region 1 with (fail)
  obtain ⟨W0, hW0⟩ : ∃ W0, W0 = W.alloc (.cells Tryz.zeroCells285 285) := ⟨_, rfl⟩
  rw [← hW0]
  have H0 : Below W.heap.size W W0 := by rw [hW0]; exact (Below.refl _ _).alloc (Nat.le_refl _) _
  have X0 : Blk W0 W.heap.size 285 (gArr s px pz 0) := by rw [hW0, zero_g s px pz]; exact Blk.new' rfl
  have AL := A.lt
  have AL1 := A1.lt
  clear hW0
  go_wp2_with fail
  go_loopw [9] (fun iv wr => ∃ k : Nat, k ≤ 256 ∧ iv = .int .i64 k ∧ Blk wr W.heap.size 285 (gArr s px pz k) ∧ Hid (Below W.heap.size W wr)) (fun iv _ => 256 - (intOf iv).toNat)
  case atStart => exact ⟨0, by omega, rfl, X0, H0⟩
  case round =>
    obtain ⟨k, hk, rfl, X, H⟩ := hrel
    clear X0 H0
    have A' := A.on H.out
    have A1' := A1.on H.out
    obtain ⟨p0, p1, -, -⟩ := A'.pair
    obtain ⟨s0, -⟩ := A1'.c1
    by_cases hlt : k < 256
    · have hk1 : (k : Int) < 256 := by omega
      have hk0 : (0 : Int) ≤ k := by omega
      have e2 : (k : Int) / 256 = 0 := by omega
      have HF := Lib.hid (cfrom_c px pz k (by omega) (by omega) (by omega) wr)
      have HG := Lib.hid fun W => gground_c s (px * 16 + (k : Int) % 16) (pz * 16 + (k : Int) / 16 % 16) (by omega) (by omega) W
      go_upto_region 5 with (go_at_call 218; refine HF.out.mono ?_; rintro e_ w1 ⟨rfl, g1⟩; have G1 := Lib.hid g1; clear g1)
      obtain ⟨W2, hW2⟩ : ∃ W2, W2 = w1.alloc (.cells #[.int .i64 (px * 16 + (k : Int) % 16), .int .i64 0, .int .i64 (pz * 16 + (k : Int) / 16 % 16)] 43) := ⟨_, rfl⟩
      rw [← hW2]
      have g2 : Below w1.heap.size w1 W2 := by rw [hW2]; exact (Below.refl _ _).alloc (Nat.le_refl _) _
      have C := Blk.fresh hW2
      have G2 := Lib.hid (after G1.out g2)
      obtain ⟨c0, c1, c2, -, -, -⟩ := C.c3
      have s0' := (A1'.on G2.out).cell 0
      have X2 := X.on G2.out
      have hsz : W.heap.size < w1.heap.size := Nat.lt_of_lt_of_le X.lt G1.out.size
      have HSZ := Lib.hid hsz
      clear hW2 HF p0 p1 s0 A' A1' g2 C hsz
      go_upto_region 6 with (go_at_call 219; refine (HG.out _).mono ?_; rintro e_ w3 ⟨rfl, g3⟩; have G3 := Lib.hid (after G2.out g3); have x0 := (X2.on g3).cell k; rw [gArr_at s px pz k hlt] at x0; have xf := (X2.on g3).frz k; have X3 := Lib.hid (X2.on g3); clear g3)
      clear x0 xf c0 c1 c2 s0' X2
      go_wp2_with fail
      have h4 := X3.out.set_ k (.int .i64 (groundV s (px * 16 + (k : Int) % 16) (pz * 16 + (k : Int) / 16 % 16)))
      rw [show groundV s (px * 16 + (k : Int) % 16) (pz * 16 + (k : Int) / 16 % 16) = colG s px pz k from rfl, gArr_set s px pz hlt] at h4
      exact ⟨⟨k + 1, by omega, by go_num, h4, Lib.hid ((after H.out G3.out).setCell (p := ⟨W.heap.size, k, none⟩) (Nat.le_refl _) _)⟩, by simp [intOf]; omega⟩
    · obtain rfl : k = 256 := by omega
      clear A AL A1 AL1
      obtain ⟨Z, hZ⟩ : ∃ Z, Z = wr.heap.size := ⟨_, rfl⟩
      have hJ0 : J Z 0 wr := hJ Z 0 W wr (h0 Z) ((Kept.of_below H.out).mono fun _ _ => trivial)
      have HZ := Lib.hid (show W.heap.size < Z ∧ Z ≤ wr.heap.size from ⟨by rw [hZ]; exact X.lt, by omega⟩)
      have HJ0 := Lib.hid hJ0
      have HLEN := Lib.hid (show (genL s px pz).length = 8192 by simp [genL])
      clear hJ0 hZ H h0
      generalize hg : gArr s px pz 256 = ga at X
      have HGA := Lib.hid hg
      clear hg
      have h256 : ¬ ((256 : Int) < 256) := by omega
      go_wp2_with fail
      refine (wpIn_wide (n := m + 1)).1 ?_
      gi_loopw [27] (fun v A => ∃ i : Nat, v = .int .i64 i ∧ Hid (i ≤ 8192) ∧ Blk A W.heap.size 285 ga ∧ Hid (Z ≤ A.heap.size) ∧ Hid (J Z i A)) (fun v _ => 8192 - (intOf v).toNat)
      case atStart => exact ⟨0, rfl, Lib.hid (by omega), X, Lib.hid HZ.out.2, HJ0⟩
      case round =>
        clear X HJ0
        obtain ⟨i, rfl, hi, X, hz2, hj⟩ := hrel
        by_cases hlt : i < 8192
        · have hi0 : (0 : Int) ≤ i := by omega
          have hi1 : (i : Int) < 8192 := by omega
          have x0 := X.cell (i % 256)
          rw [← HGA.out, gArr_at s px pz 256 (Nat.mod_lt _ (by decide)), if_pos (Nat.mod_lt _ (by decide))] at x0
          have hgb := groundV_bd s (px * 16 + ((i % 256 : Nat) : Int) % 16) (pz * 16 + ((i % 256 : Nat) : Int) / 16 % 16)
          have HO := Lib.hid fun W => gof_c ((i : Int) / 256) (colG s px pz (i % 256)) (by omega) hgb W
          have hci : (genL s px pz)[i]? = some (ofB ((i : Int) / 256) (colG s px pz (i % 256))) := by unfold genL; rw [List.getElem?_map, List.getElem?_range hlt]; rfl
          generalize colG s px pz (i % 256) = gv at *
          have HCI := Lib.hid hci
          have HLT := Lib.hid hlt
          have HX := Lib.hid X
          clear hci hlt hgb
          gi_wp2_with (refine ⟨trivial, ?_⟩; gi_at_call 220; refine (callsIn_wide.2 (HO.out _)).mono ?_; rintro e_ w3 ⟨rfl, rfl⟩; obtain ⟨fn, tmps, assign, body, hy', hR⟩ := hY Z i _ wr (by have := HZ.out.1; omega) hz2.out HCI.out hj.out)
          refine hR.mono ?_
          rintro e_ W3 (⟨rfl, hj3, hk3⟩ | ⟨rfl, hjx3⟩)
          · have X3 := hk3.blk (.inl ⟨Nat.le_refl _, HZ.out.1⟩) HX.out
            have hsz3 := Lib.hid (Nat.le_trans hz2.out hk3.size)
            have HJ3 := Lib.hid hj3
            clear hj3 hk3
            gi_wp2
            go_roundw
            case rel => exact ⟨i + 1, rfl, Lib.hid (by have := HLT.out; omega), X3, hsz3, HJ3⟩
            case measure => have := HLT.out; simp [intOf]; omega
          · gi_wp2
            refine bodyPost_ret (results_none rfl _ _ _) rfl ?_
            exact ⟨⟨_, rfl⟩, Z, by have := HZ.out.1; omega, .inr ⟨i, by rw [HLEN.out]; exact HLT.out, hjx3⟩⟩
        · have hin : i = 8192 := Nat.le_antisymm hi.out (Nat.le_of_not_lt hlt)
          subst hin
          have hlt2 : ¬ ((8192 : Int) < 8192) := by omega
          clear hlt
          gi_wp2
          go_end0
          exact ⟨⟨_, rfl⟩, Z, by have := HZ.out.1; omega, .inl (by rw [HLEN.out]; exact hj.out)⟩
end Go.Proofs.YtmbccnioijokfaaGreatDoor

