/- Texts that build one behind the other, laid together: StrM Fix Span Fix2 Fix3 Span2 Vec Vec2 Vec3 Vec5 RayN OfT Crc5 CelT Crc1 Crc2 Probe1 CelT2 Span4 Span5 RayN2 Under2. -/
import Derived.Test.YtmbccnioijokfaaGreatDoorMw1
import Derived.Test.YtmbccnioijokfaaGreatDoorMw2
import Derived.MapKept
import Derived.Maps.OwnSet
import Derived.Test.YtmbccnioijokfaaGreatDoorRows
import Derived.Lib.Mul64
import Derived.Test.YtmbccnioijokfaaGreatDoorChecked
import Derived.Deep.Cut
import Derived.Lib.SliceRun
import Derived.Great.BuildSlice
import Derived.Deep.Slices
namespace Go.Proofs.YtmbccnioijokfaaGreatDoor
open Go.RowKit Go.Maps
def mkE : List (Value × Value) → Nat → List MapEntry
  | [], _ => []
  | p :: l, k => { key := p.1, val := p.2, born := k } :: mkE l (k + 1)
theorem mkE_snoc : ∀ (l : List (Value × Value)) (k : Nat) (p : Value × Value), mkE (l ++ [p]) k = mkE l k ++ [{ key := p.1, val := p.2, born := k + l.length }]
  | [], _, _ => rfl
  | q :: l, k, p => by
    show _ :: mkE (l ++ [p]) (k + 1) = _
    rw [mkE_snoc l (k + 1) p]
    show _ = _ :: (mkE l (k + 1) ++ _)
    congr 3
    simp
    omega
def StrM (r : Nat) (l : List (Value × Value)) (w : World) : Prop := w.heap[r]? = some (.map (mkE l 0).toArray l.length)
theorem StrM.lt {r : Nat} {l : List (Value × Value)} {w : World} (h : StrM r l w) : r < w.heap.size := by
  unfold StrM at h
  exact (Array.getElem?_eq_some_iff.1 h).1
theorem StrM.on {r : Nat} {l : List (Value × Value)} {w w' : World} (h : StrM r l w) (hb : Below w.heap.size w w') : StrM r l w' := by
  have := h.lt
  unfold StrM at *
  rw [hb.block r this]
  exact h
section
variable {P : Program}
theorem run_ins {mty kt et : TypeId} {d : TypeDesc} {r : Nat} {l : List (Value × Value)} {k val : Value} {w : World} (hm : P.underlying mty = some (.map kt et)) (hk : P.underlying kt = some d) (hi : MapKept.IsKey d k) (h : StrM r l w) (hf : Instr.findNow d k (mkE l 0) 0 = some none) :
    ∃ w', (Instr.mapUpdate mty (.map (some r)) k val).run P w = .ok () w' ∧ StrM r (l ++ [(k, val)]) w' ∧ Kept (fun b => b ≠ r) w w' := by
  have hc : (Instr.checkKey false 10000 kt k).run P w = .ok () w := MapKept.run_checkKey hk hi false 9999
  have hb : w.heap[r]? = some (.map (mkE l 0).toArray l.length) := h
  have hr := h.lt
  refine ⟨{ w with heap := w.heap.setIfInBounds r (.map (mkE (l ++ [(k, val)]) 0).toArray (l ++ [(k, val)]).length) }, ?_, ?_, ?_⟩
  · have hpush : (mkE l 0).toArray.push { key := k, val := val, born := l.length } = (mkE (l ++ [(k, val)]) 0).toArray := by
      rw [mkE_snoc]
      simp
    have hll : (l ++ [(k, val)]).length = l.length + 1 := by simp
    rw [← hpush, hll]
    simp [Instr.mapUpdate, run_underlying hm, MapKept.run_getObj_map hb, hc, MapKept.run_findKey hk hf, MapKept.run_setObj_map _ hb, Result.andThen]
  · unfold StrM
    exact (MapKept.heap_set hb).1
  · exact ⟨rfl, rfl, rfl, by simp, fun b hb' hne => (MapKept.heap_set hb).2 b hne⟩
theorem wpList_insert {w : World} {ops : Array Oper} {rest : List Oper} {o : Oper} {a : Act} {Q : Exit → Act → World → Prop} (hg : o.guard = none) (m x v : Operand) (t : TypeId) (hop : o.op = Op.insert t m x v) (kt et : TypeId) (d : TypeDesc)
    (ht : P.underlying t = some (.map kt et)) (hk : P.underlying kt = some d) (r : Nat) (l : List (Value × Value)) (hm : a.eval m = .map (some r)) (h : StrM r l w) (k val : Value) (hx : a.eval x = k) (hv : a.eval v = val) (hi : MapKept.IsKey d k) (hf : Instr.findNow d k (mkE l 0) 0 = some none)
    (hK : ∀ w', StrM r (l ++ [(k, val)]) w' → Kept (fun b => b ≠ r) w w' → wpList P ops Q rest (a.put o.dst undef) w') :
    wpList P ops Q (o :: rest) a w := by
  refine wpList_plain hg fun K' hK' => ?_
  obtain ⟨w', hrun, r1, r2⟩ := run_ins (val := val) ht hk hi h hf
  unfold Oper.wp
  simp [execOp, hop, hm, hx, hv, hrun, Result.andThen]
  exact hK' _ _ (hK w' r1 r2)
theorem run_look {mty kt et : TypeId} {d : TypeDesc} {r : Nat} {l : List (Value × Value)} {k v : Value} {i : Nat} {w : World} (hm : P.underlying mty = some (.map kt et)) (hk : P.underlying kt = some d) (hi : MapKept.IsKey d k) (h : StrM r l w) (hf : Instr.findNow d k (mkE l 0) 0 = some (some (i, v))) :
    (Instr.lookup mty (.map (some r)) k false).run P w = .ok v w := by
  have hb : w.heap[r]? = some (.map (mkE l 0).toArray l.length) := h
  have hc : ∀ e, (Instr.checkKey e 10000 kt k).run P w = .ok () w := fun e => MapKept.run_checkKey hk hi e 9999
  simp [Instr.lookup, run_underlying hm, MapKept.run_getObj_map hb, hc, MapKept.run_findKey hk hf, Result.andThen]
theorem run_look0 {mty kt et : TypeId} {d : TypeDesc} {r : Nat} {l : List (Value × Value)} {k z : Value} {w : World} (hm : P.underlying mty = some (.map kt et)) (hk : P.underlying kt = some d) (hi : MapKept.IsKey d k) (h : StrM r l w) (hf : Instr.findNow d k (mkE l 0) 0 = some none) (hz : (zeroValue et).run P w = .ok z w) :
    (Instr.lookup mty (.map (some r)) k false).run P w = .ok z w := by
  have hb : w.heap[r]? = some (.map (mkE l 0).toArray l.length) := h
  have hc : ∀ e, (Instr.checkKey e 10000 kt k).run P w = .ok () w := fun e => MapKept.run_checkKey hk hi e 9999
  simp [Instr.lookup, run_underlying hm, MapKept.run_getObj_map hb, hc, MapKept.run_findKey hk hf, hz, Result.andThen]
theorem strM_new (w : World) : StrM w.heap.size [] (w.alloc (.map #[] 0)) := by
  show (w.heap.push (Obj.map #[] 0))[w.heap.size]? = _
  simp [mkE]
end
end Go.Proofs.YtmbccnioijokfaaGreatDoor

namespace Go.Proofs.YtmbccnioijokfaaGreatDoor
open Go.RowKit
set_option maxRecDepth 100000 in
set_option maxHeartbeats 400000 in
theorem rcut_c (n : Int) (w : World) : Calls Tryz.prog 69 #[.int .i64 n] w fun e w' => e = .returned (.int .i64 (cutI n)) ∧ w = w' := by
  go_enter Tryz.func69, Tryz.ntmps69
  go_wp2
  all_goals (go_returns; exact ⟨ret_i (by unfold cutI; omega), rfl⟩)
set_option maxRecDepth 100000 in
set_option maxHeartbeats 400000 in
theorem fcut_c (n : Int) (w : World) : Calls Tryz.prog 300 #[.int .i64 n] w fun e w' => e = .returned (.int .i64 (cutI n)) ∧ w = w' := by
  go_enter Tryz.func300, Tryz.ntmps300
  go_wp2
  all_goals (go_returns; exact ⟨ret_i (by unfold cutI; omega), rfl⟩)
set_option maxRecDepth 100000 in
set_option maxHeartbeats 400000 in
theorem fadd_c (a b : Int) (w : World) : Calls Tryz.prog 262 #[.int .i64 a, .int .i64 b] w fun e w' => e = .returned (.int .i64 (addI a b)) ∧ w = w' := by
  have h1 := cutI_lo a
  have h2 := cutI_hi a
  have h3 := cutI_lo b
  have h4 := cutI_hi b
  go_enter Tryz.func262, Tryz.ntmps262
  go_wp2_with (go_at_call 300; refine (fcut_c _ _).mono ?_; rintro e w1 ⟨rfl, rfl⟩)
  go_returns
  exact ⟨ret_i rfl, rfl⟩
set_option maxRecDepth 100000 in
set_option maxHeartbeats 400000 in
theorem fsub_c (a b : Int) (w : World) : Calls Tryz.prog 241 #[.int .i64 a, .int .i64 b] w fun e w' => e = .returned (.int .i64 (subI a b)) ∧ w = w' := by
  have h1 := cutI_lo a
  have h2 := cutI_hi a
  have h3 := cutI_lo b
  have h4 := cutI_hi b
  go_enter Tryz.func241, Tryz.ntmps241
  go_wp2_with (go_at_call 300; refine (fcut_c _ _).mono ?_; rintro e w1 ⟨rfl, rfl⟩)
  go_returns
  exact ⟨ret_i rfl, rfl⟩
set_option maxRecDepth 100000 in
set_option maxHeartbeats 400000 in
theorem around_c (n m : Int) (hn : -9223372036854775808 ≤ n) (hn2 : n ≤ 9223372036854775807) (hm : 0 < m) (w : World) : Calls Tryz.prog 8 #[.int .i64 n, .int .i64 m] w fun e w' => e = .returned (.int .i64 (arI n m)) ∧ w = w' := by
  by_cases h : n < 0
  all_goals
    go_enter Tryz.func8, Tryz.ntmps8
    go_wp2
    go_returns
    exact ⟨ret_i (by unfold arI; first | rw [if_neg (by omega)] | rw [if_pos h, ← Int.neg_tmod, Int.tmod_eq_emod_of_nonneg (a := -(n + 1)) (b := m) (by omega)]), rfl⟩
set_option maxRecDepth 100000 in
set_option maxHeartbeats 400000 in
theorem size_c (n : Int) (w : World) : Calls Tryz.prog 310 #[.int .i64 n] w fun e w' => e = .returned (.tuple #[.int .u64 (absI (cutI n)), .bool (decide (cutI n < 0))]) ∧ w = w' := by
  have h1 := cutI_lo n
  have h2 := cutI_hi n
  go_enter Tryz.func310, Tryz.ntmps310
  go_wp2_with (go_at_call 300; refine (fcut_c _ _).mono ?_; rintro e w1 ⟨rfl, rfl⟩)
  all_goals
    go_returns
    exact ⟨ret_t2 (vi (by unfold absI; omega)) (vb (by rw [eq_comm]; simp; omega)), rfl⟩
set_option maxRecDepth 100000 in
set_option maxHeartbeats 400000 in
theorem rdiv_c (a b : Int) (h1 : -9223372036854775808 ≤ a) (h2 : a ≤ 9223372036854775807) (hb : 0 < b) (w : World) : Calls Tryz.prog 68 #[.int .i64 a, .int .i64 b] w fun e w' => e = .returned (.int .i64 (a / b)) ∧ w = w' := by
  have p := Lib.hid (rdiv_p a b h1 h2 hb)
  go_enter Tryz.func68, Tryz.ntmps68
  go_wp2
  all_goals
    go_returns
    exact ⟨ret_i (by first | exact p.out.1 (by assumption) | exact p.out.2 (by assumption)), rfl⟩
end Go.Proofs.YtmbccnioijokfaaGreatDoor

namespace Go.Proofs.YtmbccnioijokfaaGreatDoor
open Go.RowKit
def lowI (n : Int) : Int := cutI n / 65536
def topI (n m : Int) : Int := if lowI m * 65536 = m ∧ lowI n < lowI m then lowI m - 1 else lowI m
def thinI (n m : Int) : Bool := (n == m) && (lowI n * 65536 == n)
theorem topI_prog {n m : Int} (h1 : -140737488355328 ≤ n) (h2 : m ≤ 140737488355328) (h : n ≤ m) : (if n = m then lowI n else cutI (cutI m + cutI (-1)) / 65536) = topI n m := by
  unfold topI lowI
  rw [cutI_id h1 (by omega), cutI_id (by omega) h2, cutI_id (n := -1) (by decide) (by decide)]
  by_cases he : n = m
  · subst he; rw [if_pos rfl, if_neg (by omega)]
  · rw [if_neg he, cutI_id (by omega) (by omega)]
    split <;> omega
theorem thinI_prog {n m : Int} (h1 : -140737488355328 ≤ n) (h2 : n ≤ 140737488355328) : ((n == m) && (cutI n % 65536 == 0)) = thinI n m := by
  unfold thinI lowI
  rw [cutI_id h1 h2]
  congr 1
  rw [Bool.eq_iff_iff]
  simp only [beq_iff_eq]
  omega
theorem topI_low {n m : Int} (h1 : -140737488355328 ≤ n) (h2 : m ≤ 140737488355328) (h : n ≤ m) : lowI n ≤ topI n m := by
  unfold topI lowI
  rw [cutI_id h1 (by omega), cutI_id (by omega) h2]
  split <;> omega
theorem rfloor_c (n : Int) (w : World) : Calls Tryz.prog 32 #[.int .i64 n] w fun r w' => r = .returned (.int .i64 (lowI n)) ∧ w = w' := by
  have h1 := cutI_lo n
  have h2 := cutI_hi n
  go_enter Tryz.func32, Tryz.ntmps32
  go_wp2_with fail
  refine (rcut_c _ _).mono ?_; rintro e w1 ⟨rfl, rfl⟩
  go_wp2_with fail
  refine (rdiv_c _ _ (by omega) (by omega) (by decide) _).mono ?_; rintro e w1 ⟨rfl, rfl⟩
  go_wp2_with fail
  go_returns
  exact ⟨ret_i rfl, rfl⟩
theorem thin_c (n m lo hi : Int) (w : World) : Calls Tryz.prog 353 #[.int .i64 n, .int .i64 m, .int .i64 lo, .int .i64 hi] w fun r w' => r = .returned (.int .i64 (if n = m then lo else hi)) ∧ w = w' := by
  by_cases h : n = m
  · have h' : (n == m) = true := by simpa using h
    rw [if_pos h]
    clear h
    go_enter Tryz.func353, Tryz.ntmps353
    go_wp2_with fail
    go_returns
    exact ⟨rfl, rfl⟩
  · have h' : (n == m) = false := by simpa using h
    rw [if_neg h]
    clear h
    go_enter Tryz.func353, Tryz.ntmps353
    go_wp2_with fail
    go_returns
    exact ⟨rfl, rfl⟩
end Go.Proofs.YtmbccnioijokfaaGreatDoor

namespace Go.Proofs.YtmbccnioijokfaaGreatDoor
open Go.RowKit
theorem mul64_mask (a : Nat) (ha : a < 18446744073709551616) : bits .and .u64 (a : Int) 4294967295 = ((a % 4294967296 : Nat) : Int) := by
  have h := bits_and_u64_nat a 4294967295 ha (by omega)
  have e : a &&& 4294967295 = a % 4294967296 := Nat.and_two_pow_sub_one_eq_mod a 32
  rw [e] at h
  exact h
theorem mul64_div (a : Nat) : (a : Int) / 4294967296 = ((a / 4294967296 : Nat) : Int) := by omega
theorem mul64_mul (a b : Nat) : (a : Int) * (b : Int) = ((a * b : Nat) : Int) := (Int.natCast_mul a b).symm
theorem mul64_add (a b : Nat) : (a : Int) + (b : Int) = ((a + b : Nat) : Int) := (Int.natCast_add a b).symm
theorem mul64_wrap (a : Nat) (ha : a < 18446744073709551616) : IntKind.u64.wrap (a : Int) = (a : Int) := by rw [IntKind.wrap_u64]; omega
theorem mul64_wrapM (a : Nat) : IntKind.u64.wrap (a : Int) = ((a % 18446744073709551616 : Nat) : Int) := by rw [IntKind.wrap_u64]; omega
set_option maxRecDepth 100000 in
set_option maxHeartbeats 1000000 in
theorem mul64_c (x y : Nat) (hx : x < 18446744073709551616) (hy : y < 18446744073709551616) (w : World) :
    Calls Tryz.prog 312 #[.int .u64 x, .int .u64 y] w fun e w' => e = .returned (.tuple #[.int .u64 ((x * y / 18446744073709551616 : Nat) : Int), .int .u64 ((x * y % 18446744073709551616 : Nat) : Int)]) ∧ w = w' := by
  obtain ⟨bd, bt, bw, hhi⟩ := Lib.mul64_hi x y hx hy
  have ba := Lib.half_mul_le (a := x / 4294967296) (b := y / 4294967296) (by omega) (by omega)
  have bb := Lib.half_mul_le (a := x / 4294967296) (b := y % 4294967296) (by omega) (by omega)
  have bc := Lib.half_mul_le (a := x % 4294967296) (b := y / 4294967296) (by omega) (by omega)
  have ba' : x / 4294967296 * (y / 4294967296) < 18446744073709551616 := by omega
  have bb' : x / 4294967296 * (y % 4294967296) < 18446744073709551616 := by omega
  have bc' : x % 4294967296 * (y / 4294967296) < 18446744073709551616 := by omega
  have bh1 : x / 4294967296 * (y / 4294967296) + (x / 4294967296 * (y % 4294967296) + x % 4294967296 * (y % 4294967296) / 4294967296) / 4294967296 < 18446744073709551616 := by omega
  have bh : x / 4294967296 * (y / 4294967296) + (x / 4294967296 * (y % 4294967296) + x % 4294967296 * (y % 4294967296) / 4294967296) / 4294967296 + ((x / 4294967296 * (y % 4294967296) + x % 4294967296 * (y % 4294967296) / 4294967296) % 4294967296 + x % 4294967296 * (y / 4294967296)) / 4294967296 < 18446744073709551616 := by omega
  go_enter Tryz.func312, Tryz.ntmps312
  go_wp2
  simp only [mul64_mask x hx, mul64_mask y hy, mul64_div, mul64_mul, mul64_add, mul64_wrap _ bd, mul64_wrap _ bb', mul64_wrap _ bt, mul64_mask _ bt, mul64_wrap _ bc', mul64_wrap _ bw, mul64_wrap _ ba', mul64_wrap _ bh1, mul64_wrap _ bh, mul64_wrapM (x * y)]
  rw [hhi]
  go_ret2
  exact ⟨rfl, rfl⟩
set_option maxRecDepth 100000 in
set_option maxHeartbeats 400000 in
theorem round1_c (n : Int) (b r : Bool) (p q : Nat) (hn : 0 ≤ n) (hn2 : n ≤ 140737488355328) (w : World) (hb : w.cell? ⟨p, 0, none⟩ = some (.bool b)) (hr : w.cell? ⟨q, 0, none⟩ = some (.bool r)) :
    Calls Tryz.prog 340 #[.int .u64 n, .pointer (some ⟨p, 0, none⟩), .pointer (some ⟨q, 0, none⟩)] w fun e w' => e = .returned (.int .u64 (upI n b r)) ∧ w = w' := by
  cases b <;> cases r
  all_goals
    go_enter Tryz.func340, Tryz.ntmps340
    go_wp2
    go_returns
    exact ⟨ret_i (by simp [upI]), rfl⟩
set_option maxRecDepth 100000 in
set_option maxHeartbeats 1000000 in
theorem round_c (q : Int) (rest below : Bool) (hq : 0 ≤ q) (hq2 : q ≤ 18446744073709551615) (w : World) :
    Calls Tryz.prog 311 #[.int .u64 q, .bool rest, .bool below] w fun e w' => e = .returned (.int .i64 (rndI q rest below)) ∧ Below w.heap.size w w' := by
  have hmf : ∀ (fn : Fn) (first cap : Array Value) (w : World), (Instr.makeFunc fn first cap).run Tryz.prog w = .ok (.func fn first cap) w := fun _ _ _ _ => rfl
  by_cases h : 140737488355328 ≤ q <;> cases below
  all_goals
    go_enter Tryz.func311, Tryz.ntmps311
    go_wp2_with fail
    first
      | (go_returns; exact ⟨ret_i (by simp [rndI]; omega), by go_grown⟩)
      | (refine (round1_c _ _ _ _ _ (by omega) (by omega) _ (Blk.new' (by simp)).c1.1 ((Blk.new' rfl).alloc _).c1.1).mono ?_
         rintro e w1 ⟨rfl, rfl⟩
         have ub := upI_bd 140737488355328 true false
         have ub2 := upI_bd q true rest
         go_wp2_with fail
         go_returns
         exact ⟨ret_i (by simp [rndI, h]; first | rfl | (simp [upI]; done) | omega), by go_grown⟩)
theorem mul64_i (x y : Int) (hx : 0 ≤ x) (hy : 0 ≤ y) (hx2 : x ≤ 140737488355328) (hy2 : y ≤ 140737488355328) (w : World) :
    Calls Tryz.prog 312 #[.int .u64 x, .int .u64 y] w fun e w' => e = .returned (.tuple #[.int .u64 (x * y / 18446744073709551616), .int .u64 (x * y % 18446744073709551616)]) ∧ w = w' := by
  obtain ⟨x, rfl⟩ := Int.eq_ofNat_of_zero_le hx
  obtain ⟨y, rfl⟩ := Int.eq_ofNat_of_zero_le hy
  refine (mul64_c x y (by omega) (by omega) w).mono ?_
  rintro e w' ⟨rfl, rfl⟩
  exact ⟨ret_t2 (vi (by rw [Int.natCast_ediv, Int.natCast_mul]; rfl)) (vi (by rw [Int.natCast_emod, Int.natCast_mul]; rfl)), rfl⟩
set_option maxRecDepth 100000 in
set_option maxHeartbeats 1000000 in
theorem fmul_c (a b : Int) (w : World) : Calls Tryz.prog 264 #[.int .i64 a, .int .i64 b] w fun e w' => e = .returned (.int .i64 (mulI a b)) ∧ Below w.heap.size w w' := by
  obtain ⟨ax, ay⟩ := absI_bd (cutI_lo a) (cutI_hi a)
  obtain ⟨bx, by_⟩ := absI_bd (cutI_lo b) (cutI_hi b)
  have p0 : 0 ≤ absI (cutI a) * absI (cutI b) := Int.mul_nonneg ax bx
  have HR := Lib.hid (mul_rnd (cutI a) (cutI b) _ rfl p0)
  go_enter Tryz.func264, Tryz.ntmps264
  go_wp2_with fail
  refine (size_c a _).mono ?_; rintro e w1 ⟨rfl, rfl⟩
  go_wp2_with fail
  refine (size_c b _).mono ?_; rintro e w1 ⟨rfl, rfl⟩
  go_wp2_with fail
  refine (mul64_i _ _ ax bx ay by_ _).mono ?_; rintro e w1 ⟨rfl, rfl⟩
  generalize absI (cutI a) * absI (cutI b) = p at *
  have l0 : 0 ≤ p % 18446744073709551616 := by omega
  have l1 : p % 18446744073709551616 ≤ 18446744073709551615 := by omega
  have H0 : 0 ≤ p / 18446744073709551616 := by omega
  by_cases hi : 0 < p / 18446744073709551616
  · go_wp2_with fail
    refine (round_c _ _ _ (by omega) (by omega) _).mono ?_; rintro e w1 ⟨rfl, hb⟩
    go_wp2_with fail
    go_returns
    exact ⟨ret_i (HR.out.1 hi _), hb⟩
  · have hi' : p / 18446744073709551616 ≤ 0 := by omega
    go_wp2_with fail
    refine (round_c _ _ _ (by omega) (by omega) _).mono ?_; rintro e w1 ⟨rfl, hb⟩
    go_wp2_with fail
    go_returns
    exact ⟨ret_i (HR.out.2 hi'), hb⟩
end Go.Proofs.YtmbccnioijokfaaGreatDoor

namespace Go.Proofs.YtmbccnioijokfaaGreatDoor
open Go.RowKit
set_option maxRecDepth 100000 in
set_option maxHeartbeats 400000 in
theorem floor_c (n : Int) (w : World) : Calls Tryz.prog 237 #[.int .i64 n] w fun e w' => e = .returned (.int .i64 (cutI n / 65536)) ∧ w = w' := by
  have h1 := cutI_lo n
  have h2 := cutI_hi n
  go_enter Tryz.func237, Tryz.ntmps237
  go_wp2_with (go_at_call 300; refine (fcut_c _ _).mono ?_; rintro e w1 ⟨rfl, rfl⟩)
  go_returns
  exact ⟨ret_i rfl, rfl⟩
set_option maxRecDepth 100000 in
set_option maxHeartbeats 400000 in
theorem frac_c (n : Int) (w : World) : Calls Tryz.prog 308 #[.int .i64 n] w fun e w' => e = .returned (.int .i64 (cutI n % 65536)) ∧ w = w' := by
  have h1 := cutI_lo n
  have h2 := cutI_hi n
  go_enter Tryz.func308, Tryz.ntmps308
  go_wp2_with (go_at_call 300; refine (fcut_c _ _).mono ?_; rintro e w1 ⟨rfl, rfl⟩)
  go_returns
  exact ⟨ret_i (bits_and_mask _), rfl⟩
def ofI (c : Int) : Int := min (max c (-2147483648)) 2147483648 * 65536
set_option maxRecDepth 100000 in
set_option maxHeartbeats 400000 in
theorem of_c (n : Int) (w : World) : Calls Tryz.prog 244 #[.int .i64 n] w fun e w' => e = .returned (.int .i64 (ofI n)) ∧ w = w' := by
  go_enter Tryz.func244, Tryz.ntmps244
  go_wp2
  all_goals (go_returns; exact ⟨ret_i (by unfold ofI; omega), rfl⟩)
theorem of_e (n v : Int) (h : ofI n = v) (w : World) : Calls Tryz.prog 244 #[.int .i64 n] w fun e w' => e = .returned (.int .i64 v) ∧ w = w' := by
  rw [← h]; exact of_c n w
end Go.Proofs.YtmbccnioijokfaaGreatDoor

namespace Go.Proofs.YtmbccnioijokfaaGreatDoor
open Go.RowKit
set_option maxRecDepth 100000 in
set_option maxHeartbeats 1000000 in
theorem cof_c (x y z : Int) (w : World) : Calls Tryz.prog 182 #[.agg #[.int .i64 x, .int .i64 y, .int .i64 z]] w fun e w' => e = .returned (.agg #[.int .i64 (lowI x), .int .i64 (lowI y), .int .i64 (lowI z)]) ∧ Below w.heap.size w w' := by
  have U : Blk ((w.alloc (.cells #[.int .i64 x, .int .i64 y, .int .i64 z] 38)).alloc (.cells #[.int .i64 0, .int .i64 0, .int .i64 0] 43)) w.heap.size 38 #[.int .i64 x, .int .i64 y, .int .i64 z] := (Blk.new' rfl).alloc _
  have R0 : Blk ((w.alloc (.cells #[.int .i64 x, .int .i64 y, .int .i64 z] 38)).alloc (.cells #[.int .i64 0, .int .i64 0, .int .i64 0] 43)) (w.heap.size + 1) 43 #[.int .i64 0, .int .i64 0, .int .i64 0] := Blk.new' (by simp)
  obtain ⟨k0, k1, k2⟩ := U.re3
  have hf : ∀ (n : Int) (w : World), Calls Tryz.prog 237 #[.int .i64 n] w fun e w' => e = .returned (.int .i64 (lowI n)) ∧ w = w' := floor_c
  go_enter Tryz.func182, Tryz.ntmps182
  go_wp2_with fail
  refine wp_region_last_below 10 (by kernel_rfl) rfl (by kernel_rfl) ?_
  simp only [List.take_succ_cons, List.take_zero, List.drop_succ_cons, List.drop_zero]
  repeat (go_big_quiet_step (exact Calls.regrown_of (calls_bel (hf _ _))))
  refine wpQuiet_nil ?_
  intro w' hw'
  obtain ⟨rg, rfl⟩ := hw'
  have R := R0.re rg.d rg.os
  obtain ⟨r0, r1, r2, s0, s1, s2⟩ := R.c3
  go_wp2_with fail
  have R2 := R.st3 (.int .i64 (lowI x)) (.int .i64 (lowI y)) (.int .i64 (lowI z))
  obtain ⟨d0, d1, d2, -, -, -⟩ := R2.c3
  exact bodyPost_ret (v := .agg #[.int .i64 (lowI x), .int .i64 (lowI y), .int .i64 (lowI z)]) (by simp [results, Tryz.results182, go_sem, d0, d1, d2]) rfl ⟨rfl, by (repeat' (first | (with_reducible exact Below.refl _ _) | (with_reducible assumption) | (with_reducible refine Below.alloc ?_ ?_ _) | (with_reducible refine Below.drew ?_) | (with_reducible refine Below.setCell ?_ ?_ _) | (with_reducible refine after ?_ (below_regrown _ _ _)) | (refine after ?_ (by with_reducible assumption)) | go_size))⟩
end Go.Proofs.YtmbccnioijokfaaGreatDoor

namespace Go.Proofs.YtmbccnioijokfaaGreatDoor
open Go.RowKit
set_option maxRecDepth 100000 in
set_option maxHeartbeats 400000 in
theorem parts_c (b : Nat) (w : World) : Calls Tryz.prog 304 #[.pointer (some ⟨b, 0, none⟩)] w fun e w' => e = .returned (.agg #[.pointer (some ⟨b, 0, none⟩), .pointer (some ⟨b, 1, none⟩), .pointer (some ⟨b, 2, none⟩)]) ∧ Below w.heap.size w w' := by
  go_enter Tryz.func304, Tryz.ntmps304
  go_wp2
  go_region
  all_goals go_wp2
  all_goals go_returns
  all_goals exact ⟨rfl, by go_grown⟩
theorem idx0 (a b c : Option Addr) (w : World) : (Instr.index 350 (.agg #[.pointer a, .pointer b, .pointer c]) (.int .i64 0)).run Tryz.prog w = .ok (.pointer a) w := by kernel_rfl
theorem idx1 (a b c : Option Addr) (w : World) : (Instr.index 350 (.agg #[.pointer a, .pointer b, .pointer c]) (.int .i64 1)).run Tryz.prog w = .ok (.pointer b) w := by kernel_rfl
theorem idx2 (a b c : Option Addr) (w : World) : (Instr.index 350 (.agg #[.pointer a, .pointer b, .pointer c]) (.int .i64 2)).run Tryz.prog w = .ok (.pointer c) w := by kernel_rfl
theorem axI_0 (x y z : Int) : axI x y z 0 = x := rfl
theorem axI_1 (x y z : Int) : axI x y z 1 = y := rfl
theorem axI_2 (x y z : Int) : axI x y z 2 = z := rfl
theorem axI_no {x y z a : Int} (h : a < 0 ∨ 2 < a) : axI x y z a = 0 := by unfold axI; rw [if_neg (by omega), if_neg (by omega), if_neg (by omega)]
set_option maxRecDepth 100000 in
set_option maxHeartbeats 1000000 in
theorem axis_c (x y z a : Int) (w : World) : Calls Tryz.prog 248 #[.agg #[.int .i64 x, .int .i64 y, .int .i64 z], .int .i64 a] w fun e w' => e = .returned (.int .i64 (axI x y z a)) ∧ Below w.heap.size w w' := by
  by_cases h : a < 0
  · go_enter Tryz.func248, Tryz.ntmps248
    go_wp2_with fail
    go_returns
    exact ⟨ret_i (axI_no (.inl (by omega))).symm, by go_grown⟩
  by_cases h2 : 2 < a
  · go_enter Tryz.func248, Tryz.ntmps248
    go_wp2_with fail
    go_returns
    exact ⟨ret_i (axI_no (.inr (by omega))).symm, by go_grown⟩
  have h0 : a = 0 ∨ a = 1 ∨ a = 2 := by omega
  clear h h2
  have i0 := idx0
  have i1 := idx1
  have i2 := idx2
  rcases h0 with rfl | rfl | rfl
  all_goals
    go_enter Tryz.func248, Tryz.ntmps248
    go_wp2_with fail
    refine (parts_c _ _).mono ?_; rintro e w1 ⟨rfl, hb⟩; obtain ⟨hc, hf⟩ := bcell hb
    go_wp2_with fail
    go_returns
    exact ⟨ret_i rfl, by (repeat' (first | (with_reducible exact Below.refl _ _) | (with_reducible assumption) | (with_reducible refine Below.alloc ?_ ?_ _) | (with_reducible refine Below.drew ?_) | (with_reducible refine Below.setCell ?_ ?_ _) | (with_reducible refine after ?_ (below_regrown _ _ _)) | (refine after ?_ (by with_reducible assumption)) | go_size))⟩
theorem axis_e (x y z a v : Int) (h : axI x y z a = v) (w : World) : Calls Tryz.prog 248 #[.agg #[.int .i64 x, .int .i64 y, .int .i64 z], .int .i64 a] w fun e w' => e = .returned (.int .i64 v) ∧ Below w.heap.size w w' := by
  rw [← h]; exact axis_c x y z a w
set_option maxRecDepth 100000 in
set_option maxHeartbeats 2000000 in
theorem each_c (g : FuncId) (caps : Array Value) (f : Int → Int → Int) (x y z : Int) (w : World) (he : ∀ args w, (callFunc g args).run Tryz.prog w = .ok (.enter g args) w)
    (hC : ∀ (i n : Int) W, Below w.heap.size w W → Calls Tryz.prog g (#[.int .i64 i, .int .i64 n] ++ caps) W fun e W' => e = .returned (.int .i64 (f i n)) ∧ Below W.heap.size W W') :
    Calls Tryz.prog 260 #[.agg #[.int .i64 x, .int .i64 y, .int .i64 z], .func (.func g) #[] caps] w fun e w' => e = .returned (.agg #[.int .i64 (f 0 x), .int .i64 (f 1 y), .int .i64 (f 2 z)]) ∧ Below w.heap.size w w' := by
  have i0 := idx0
  have i1 := idx1
  have i2 := idx2
  have HC := Lib.hid hC
  clear hC
  go_enter Tryz.func260, Tryz.ntmps260
  go_wp2_with fail
  have B0 : Blk ((w.alloc (.cells #[.int .i64 x, .int .i64 y, .int .i64 z] 38)).alloc (.cells #[.int .i64 0, .int .i64 0, .int .i64 0] 38)) w.heap.size 38 #[.int .i64 x, .int .i64 y, .int .i64 z] := (Blk.new' rfl).alloc _
  have C0 : Blk ((w.alloc (.cells #[.int .i64 x, .int .i64 y, .int .i64 z] 38)).alloc (.cells #[.int .i64 0, .int .i64 0, .int .i64 0] 38)) (w.heap.size + 1) 38 #[.int .i64 0, .int .i64 0, .int .i64 0] := Blk.new' (by simp)
  have H0 : Below w.heap.size w ((w.alloc (.cells #[.int .i64 x, .int .i64 y, .int .i64 z] 38)).alloc (.cells #[.int .i64 0, .int .i64 0, .int .i64 0] 38)) := by go_grown
  refine (parts_c _ _).mono ?_; rintro e w1 ⟨rfl, hb⟩
  have B1 := B0.on hb
  have C1 := C0.on hb
  have H1 := after H0 hb
  clear hb B0 C0 H0
  obtain ⟨b0, b1, b2, b3, b4, b5⟩ := B1.c3
  go_wp2_with fail
  refine wp_loop_rounds 4 ?_
  rw [rounds_succ]
  go_wp2_with fail
  refine (HC.out 0 x _ H1).mono ?_; rintro e w2 ⟨rfl, hb⟩
  have B2 := B1.on hb
  have C2 := C1.on hb
  have H2 := after H1 hb
  clear hb b0 b1 b2 b3 b4 b5 B1 C1 H1
  obtain ⟨b0, b1, b2, b3, b4, b5⟩ := B2.c3
  have B3 := B2.set_ 0 (.int .i64 (f 0 x))
  have C3 := C2.far (p := ⟨w.heap.size, 0, none⟩) (by simp) (.int .i64 (f 0 x))
  have H3 := H2.setCell (p := ⟨w.heap.size, 0, none⟩) (Nat.le_refl _) (.int .i64 (f 0 x))
  go_wp2_with fail
  rw [rounds_succ]
  clear b0 b1 b2 b3 b4 b5
  obtain ⟨b0, b1, b2, b3, b4, b5⟩ := B3.c3
  go_wp2_with fail
  refine (HC.out 1 y _ H3).mono ?_; rintro e w4 ⟨rfl, hb⟩
  have B4 := B3.on hb
  have C4 := C3.on hb
  have H4 := after H3 hb
  clear hb b0 b1 b2 b3 b4 b5 B3 C3 H3 B2 C2 H2
  obtain ⟨b0, b1, b2, b3, b4, b5⟩ := B4.c3
  have B5 := B4.set_ 1 (.int .i64 (f 1 y))
  have C5 := C4.far (p := ⟨w.heap.size, 1, none⟩) (by simp) (.int .i64 (f 1 y))
  have H5 := H4.setCell (p := ⟨w.heap.size, 1, none⟩) (Nat.le_refl _) (.int .i64 (f 1 y))
  go_wp2_with fail
  rw [rounds_succ]
  clear b0 b1 b2 b3 b4 b5
  obtain ⟨b0, b1, b2, b3, b4, b5⟩ := B5.c3
  go_wp2_with fail
  refine (HC.out 2 z _ H5).mono ?_; rintro e w6 ⟨rfl, hb⟩
  have B6 := B5.on hb
  have C6 := C5.on hb
  have H6 := after H5 hb
  clear hb b0 b1 b2 b3 b4 b5 B5 C5 H5 B4 C4 H4
  obtain ⟨b0, b1, b2, b3, b4, b5⟩ := B6.c3
  obtain ⟨c0, c1, c2, c3, c4, c5⟩ := C6.c3
  have B7 := B6.set_ 2 (.int .i64 (f 2 z))
  have C7 := C6.far (p := ⟨w.heap.size, 2, none⟩) (by simp) (.int .i64 (f 2 z))
  have H7 := H6.setCell (p := ⟨w.heap.size, 2, none⟩) (Nat.le_refl _) (.int .i64 (f 2 z))
  go_wp2_with fail
  rw [rounds_succ]
  clear b0 b1 b2 b3 b4 b5 c0 c1 c2 c3 c4 c5
  obtain ⟨b0, b1, b2, b3, b4, b5⟩ := B7.c3
  obtain ⟨c0, c1, c2, c3, c4, c5⟩ := C7.c3
  have C8 := ((C7.set_ 0 (.int .i64 (f 0 x))).set_ 1 (.int .i64 (f 1 y))).set_ 2 (.int .i64 (f 2 z))
  go_wp2_with fail
  obtain ⟨d0, d1, d2, -, -, -⟩ := C8.c3
  exact bodyPost_ret (v := .agg #[.int .i64 (f 0 x), .int .i64 (f 1 y), .int .i64 (f 2 z)]) (by simp [results, Tryz.results260, go_sem, d0, d1, d2]) rfl ⟨rfl, by (repeat' (first | (with_reducible exact Below.refl _ _) | (with_reducible assumption) | (with_reducible refine Below.alloc ?_ ?_ _) | (with_reducible refine Below.drew ?_) | (with_reducible refine Below.setCell ?_ ?_ _) | (with_reducible refine after ?_ (below_regrown _ _ _)) | (refine after ?_ (by with_reducible assumption)) | go_size))⟩
end Go.Proofs.YtmbccnioijokfaaGreatDoor

namespace Go.Proofs.YtmbccnioijokfaaGreatDoor
open Go.RowKit
set_option maxRecDepth 100000 in
set_option maxHeartbeats 400000 in
theorem cut1_c (i n : Int) (w : World) : Calls Tryz.prog 306 #[.int .i64 i, .int .i64 n] w fun e w' => e = .returned (.int .i64 (cutI n)) ∧ Below w.heap.size w w' := by
  go_enter Tryz.func306, Tryz.ntmps306
  go_wp2_with fail
  refine (fcut_c _ _).mono ?_; rintro e w1 ⟨rfl, rfl⟩
  go_wp2_with fail
  go_returns
  exact ⟨ret_i rfl, by (repeat' (first | (with_reducible exact Below.refl _ _) | (with_reducible assumption) | (with_reducible refine Below.alloc ?_ ?_ _) | (with_reducible refine Below.drew ?_) | (with_reducible refine Below.setCell ?_ ?_ _) | (with_reducible refine after ?_ (below_regrown _ _ _)) | (refine after ?_ (by with_reducible assumption)) | go_size))⟩
set_option maxRecDepth 100000 in
set_option maxHeartbeats 1000000 in
theorem cutv_c (x y z : Int) (w : World) : Calls Tryz.prog 252 #[.agg #[.int .i64 x, .int .i64 y, .int .i64 z]] w fun e w' => e = .returned (.agg #[.int .i64 (cutI x), .int .i64 (cutI y), .int .i64 (cutI z)]) ∧ Below w.heap.size w w' := by
  have e := enters_of Tryz.func306 (by kernel_rfl) rfl
  go_enter Tryz.func252, Tryz.ntmps252
  go_wp2_with fail
  have R0 : Blk ((w.alloc (.cells #[.int .i64 x, .int .i64 y, .int .i64 z] 38)).alloc (.cells #[.int .i64 0, .int .i64 0, .int .i64 0] 38)) (w.heap.size + 1) 38 #[.int .i64 0, .int .i64 0, .int .i64 0] := Blk.new' (by simp)
  refine (each_c 306 #[] (fun _ n => cutI n) _ _ _ _ e ?_).mono ?_
  · intro i n W _
    exact cut1_c i n W
  rintro e w1 ⟨rfl, hb⟩
  have R := R0.on hb
  clear R0
  obtain ⟨r0, r1, r2, r3, r4, r5⟩ := R.c3
  go_wp2_with fail
  have R2 := R.st3 (.int .i64 (cutI x)) (.int .i64 (cutI y)) (.int .i64 (cutI z))
  obtain ⟨d0, d1, d2, -, -, -⟩ := R2.c3
  exact bodyPost_ret (v := .agg #[.int .i64 (cutI x), .int .i64 (cutI y), .int .i64 (cutI z)]) (by simp [results, Tryz.results252, go_sem, d0, d1, d2]) rfl ⟨rfl, by (repeat' (first | (with_reducible exact Below.refl _ _) | (with_reducible assumption) | (with_reducible refine Below.alloc ?_ ?_ _) | (with_reducible refine Below.drew ?_) | (with_reducible refine Below.setCell ?_ ?_ _) | (with_reducible refine after ?_ (below_regrown _ _ _)) | (refine after ?_ (by with_reducible assumption)) | go_size))⟩
set_option maxRecDepth 100000 in
set_option maxHeartbeats 400000 in
theorem with1_c (i n a m : Int) (w : World) (b c : Nat) (h : w.cell? ⟨b, 0, none⟩ = some (.int .i64 a)) (h2 : w.cell? ⟨c, 0, none⟩ = some (.int .i64 m)) : Calls Tryz.prog 303 #[.int .i64 i, .int .i64 n, .pointer (some ⟨b, 0, none⟩), .pointer (some ⟨c, 0, none⟩)] w fun e w' => e = .returned (.int .i64 (wiI n a i m)) ∧ Below w.heap.size w w' := by
  by_cases g : i = a
  · have t : (i == a) = true := by simpa using g
    have G := Lib.hid g
    clear g
    go_enter Tryz.func303, Tryz.ntmps303
    go_wp2_with fail
    refine (fcut_c _ _).mono ?_; rintro e w1 ⟨rfl, rfl⟩
    go_wp2_with fail
    go_returns
    exact ⟨ret_i (by unfold wiI; rw [if_pos G.out]), by (repeat' (first | (with_reducible exact Below.refl _ _) | (with_reducible assumption) | (with_reducible refine Below.alloc ?_ ?_ _) | (with_reducible refine Below.drew ?_) | (with_reducible refine Below.setCell ?_ ?_ _) | (with_reducible refine after ?_ (below_regrown _ _ _)) | (refine after ?_ (by with_reducible assumption)) | go_size))⟩
  · have t : (i == a) = false := by simpa using g
    have G := Lib.hid g
    clear g
    go_enter Tryz.func303, Tryz.ntmps303
    go_wp2_with fail
    go_returns
    exact ⟨ret_i (by unfold wiI; rw [if_neg G.out]), by (repeat' (first | (with_reducible exact Below.refl _ _) | (with_reducible assumption) | (with_reducible refine Below.alloc ?_ ?_ _) | (with_reducible refine Below.drew ?_) | (with_reducible refine Below.setCell ?_ ?_ _) | (with_reducible refine after ?_ (below_regrown _ _ _)) | (refine after ?_ (by with_reducible assumption)) | go_size))⟩
set_option maxRecDepth 100000 in
set_option maxHeartbeats 1000000 in
theorem with_c (x y z a m : Int) (w : World) : Calls Tryz.prog 240 #[.agg #[.int .i64 x, .int .i64 y, .int .i64 z], .int .i64 a, .int .i64 m] w fun e w' => e = .returned (.agg #[.int .i64 (wiI x a 0 m), .int .i64 (wiI y a 1 m), .int .i64 (wiI z a 2 m)]) ∧ Below w.heap.size w w' := by
  have e := enters_of Tryz.func303 (by kernel_rfl) rfl
  go_enter Tryz.func240, Tryz.ntmps240
  go_wp2_with fail
  have R0 : Blk ((((w.alloc (.cells #[.int .i64 x, .int .i64 y, .int .i64 z] 38)).alloc (.cells #[.int .i64 a] 3)).alloc (.cells #[.int .i64 m] 3)).alloc (.cells #[.int .i64 0, .int .i64 0, .int .i64 0] 38)) (w.heap.size + 1 + 1 + 1) 38 #[.int .i64 0, .int .i64 0, .int .i64 0] := Blk.new' (by simp)
  have A0 : Blk ((((w.alloc (.cells #[.int .i64 x, .int .i64 y, .int .i64 z] 38)).alloc (.cells #[.int .i64 a] 3)).alloc (.cells #[.int .i64 m] 3)).alloc (.cells #[.int .i64 0, .int .i64 0, .int .i64 0] 38)) (w.heap.size + 1) 3 #[.int .i64 a] := ((Blk.new' (by simp)).alloc _).alloc _
  have M0 : Blk ((((w.alloc (.cells #[.int .i64 x, .int .i64 y, .int .i64 z] 38)).alloc (.cells #[.int .i64 a] 3)).alloc (.cells #[.int .i64 m] 3)).alloc (.cells #[.int .i64 0, .int .i64 0, .int .i64 0] 38)) (w.heap.size + 1 + 1) 3 #[.int .i64 m] := (Blk.new' (by simp)).alloc _
  refine (each_c 303 _ (fun i n => wiI n a i m) _ _ _ _ e ?_).mono ?_
  · intro i n W hW
    exact with1_c i n a m W _ _ (A0.on hW).c1.1 (M0.on hW).c1.1
  rintro e w1 ⟨rfl, hb⟩
  have R := R0.on hb
  clear R0 A0 M0
  obtain ⟨r0, r1, r2, r3, r4, r5⟩ := R.c3
  go_wp2_with fail
  have R2 := R.st3 (.int .i64 (wiI x a 0 m)) (.int .i64 (wiI y a 1 m)) (.int .i64 (wiI z a 2 m))
  obtain ⟨d0, d1, d2, -, -, -⟩ := R2.c3
  exact bodyPost_ret (v := .agg #[.int .i64 (wiI x a 0 m), .int .i64 (wiI y a 1 m), .int .i64 (wiI z a 2 m)]) (by simp [results, Tryz.results240, go_sem, d0, d1, d2]) rfl ⟨rfl, by (repeat' (first | (with_reducible exact Below.refl _ _) | (with_reducible assumption) | (with_reducible refine Below.alloc ?_ ?_ _) | (with_reducible refine Below.drew ?_) | (with_reducible refine Below.setCell ?_ ?_ _) | (with_reducible refine after ?_ (below_regrown _ _ _)) | (refine after ?_ (by with_reducible assumption)) | go_size))⟩
set_option maxRecDepth 100000 in
set_option maxHeartbeats 400000 in
theorem add1_c (i n x y z : Int) (w : World) (b : Nat) (h : Blk w b 38 #[.int .i64 x, .int .i64 y, .int .i64 z]) : Calls Tryz.prog 261 #[.int .i64 i, .int .i64 n, .pointer (some ⟨b, 0, none⟩)] w fun e w' => e = .returned (.int .i64 (addI n (axI x y z i))) ∧ Below w.heap.size w w' := by
  obtain ⟨r0, r1, r2, -, -, -⟩ := h.c3
  go_enter Tryz.func261, Tryz.ntmps261
  go_wp2_with fail
  refine (axis_c _ _ _ _ _).mono ?_; rintro e w1 ⟨rfl, hb⟩
  go_wp2_with fail
  refine (fadd_c _ _ _).mono ?_; rintro e w1 ⟨rfl, rfl⟩
  go_wp2_with fail
  go_returns
  exact ⟨ret_i rfl, by (repeat' (first | (with_reducible exact Below.refl _ _) | (with_reducible assumption) | (with_reducible refine Below.alloc ?_ ?_ _) | (with_reducible refine Below.drew ?_) | (with_reducible refine Below.setCell ?_ ?_ _) | (with_reducible refine after ?_ (below_regrown _ _ _)) | (refine after ?_ (by with_reducible assumption)) | go_size))⟩
set_option maxRecDepth 100000 in
set_option maxHeartbeats 1000000 in
theorem add_c (x y z x' y' z' : Int) (w : World) : Calls Tryz.prog 195 #[.agg #[.int .i64 x, .int .i64 y, .int .i64 z], .agg #[.int .i64 x', .int .i64 y', .int .i64 z']] w fun e w' => e = .returned (.agg #[.int .i64 (addI x x'), .int .i64 (addI y y'), .int .i64 (addI z z')]) ∧ Below w.heap.size w w' := by
  have e := enters_of Tryz.func261 (by kernel_rfl) rfl
  go_enter Tryz.func195, Tryz.ntmps195
  go_wp2_with fail
  have R0 : Blk (((w.alloc (.cells #[.int .i64 x, .int .i64 y, .int .i64 z] 38)).alloc (.cells #[.int .i64 x', .int .i64 y', .int .i64 z'] 38)).alloc (.cells #[.int .i64 0, .int .i64 0, .int .i64 0] 38)) (w.heap.size + 1 + 1) 38 #[.int .i64 0, .int .i64 0, .int .i64 0] := Blk.new' (by simp)
  have A0 : Blk (((w.alloc (.cells #[.int .i64 x, .int .i64 y, .int .i64 z] 38)).alloc (.cells #[.int .i64 x', .int .i64 y', .int .i64 z'] 38)).alloc (.cells #[.int .i64 0, .int .i64 0, .int .i64 0] 38)) (w.heap.size + 1) 38 #[.int .i64 x', .int .i64 y', .int .i64 z'] := (Blk.new' (by simp)).alloc _
  refine (each_c 261 _ (fun i n => addI n (axI x' y' z' i)) _ _ _ _ e ?_).mono ?_
  · intro i n W hW
    exact add1_c i n x' y' z' W _ (A0.on hW)
  rintro e w1 ⟨rfl, hb⟩
  have R := R0.on hb
  clear R0 A0
  obtain ⟨r0, r1, r2, r3, r4, r5⟩ := R.c3
  simp only [axI_0, axI_1, axI_2]
  go_wp2_with fail
  have R2 := R.st3 (.int .i64 (addI x x')) (.int .i64 (addI y y')) (.int .i64 (addI z z'))
  obtain ⟨d0, d1, d2, -, -, -⟩ := R2.c3
  exact bodyPost_ret (v := .agg #[.int .i64 (addI x x'), .int .i64 (addI y y'), .int .i64 (addI z z')]) (by simp [results, Tryz.results195, go_sem, d0, d1, d2]) rfl ⟨rfl, by (repeat' (first | (with_reducible exact Below.refl _ _) | (with_reducible assumption) | (with_reducible refine Below.alloc ?_ ?_ _) | (with_reducible refine Below.drew ?_) | (with_reducible refine Below.setCell ?_ ?_ _) | (with_reducible refine after ?_ (below_regrown _ _ _)) | (refine after ?_ (by with_reducible assumption)) | go_size))⟩
set_option maxRecDepth 100000 in
set_option maxHeartbeats 400000 in
theorem sub1_c (i n x y z : Int) (w : World) (b : Nat) (h : Blk w b 38 #[.int .i64 x, .int .i64 y, .int .i64 z]) : Calls Tryz.prog 302 #[.int .i64 i, .int .i64 n, .pointer (some ⟨b, 0, none⟩)] w fun e w' => e = .returned (.int .i64 (subI n (axI x y z i))) ∧ Below w.heap.size w w' := by
  obtain ⟨r0, r1, r2, -, -, -⟩ := h.c3
  go_enter Tryz.func302, Tryz.ntmps302
  go_wp2_with fail
  refine (axis_c _ _ _ _ _).mono ?_; rintro e w1 ⟨rfl, hb⟩
  go_wp2_with fail
  refine (fsub_c _ _ _).mono ?_; rintro e w1 ⟨rfl, rfl⟩
  go_wp2_with fail
  go_returns
  exact ⟨ret_i rfl, by (repeat' (first | (with_reducible exact Below.refl _ _) | (with_reducible assumption) | (with_reducible refine Below.alloc ?_ ?_ _) | (with_reducible refine Below.drew ?_) | (with_reducible refine Below.setCell ?_ ?_ _) | (with_reducible refine after ?_ (below_regrown _ _ _)) | (refine after ?_ (by with_reducible assumption)) | go_size))⟩
set_option maxRecDepth 100000 in
set_option maxHeartbeats 1000000 in
theorem sub_c (x y z x' y' z' : Int) (w : World) : Calls Tryz.prog 239 #[.agg #[.int .i64 x, .int .i64 y, .int .i64 z], .agg #[.int .i64 x', .int .i64 y', .int .i64 z']] w fun e w' => e = .returned (.agg #[.int .i64 (subI x x'), .int .i64 (subI y y'), .int .i64 (subI z z')]) ∧ Below w.heap.size w w' := by
  have e := enters_of Tryz.func302 (by kernel_rfl) rfl
  go_enter Tryz.func239, Tryz.ntmps239
  go_wp2_with fail
  have R0 : Blk (((w.alloc (.cells #[.int .i64 x, .int .i64 y, .int .i64 z] 38)).alloc (.cells #[.int .i64 x', .int .i64 y', .int .i64 z'] 38)).alloc (.cells #[.int .i64 0, .int .i64 0, .int .i64 0] 38)) (w.heap.size + 1 + 1) 38 #[.int .i64 0, .int .i64 0, .int .i64 0] := Blk.new' (by simp)
  have A0 : Blk (((w.alloc (.cells #[.int .i64 x, .int .i64 y, .int .i64 z] 38)).alloc (.cells #[.int .i64 x', .int .i64 y', .int .i64 z'] 38)).alloc (.cells #[.int .i64 0, .int .i64 0, .int .i64 0] 38)) (w.heap.size + 1) 38 #[.int .i64 x', .int .i64 y', .int .i64 z'] := (Blk.new' (by simp)).alloc _
  refine (each_c 302 _ (fun i n => subI n (axI x' y' z' i)) _ _ _ _ e ?_).mono ?_
  · intro i n W hW
    exact sub1_c i n x' y' z' W _ (A0.on hW)
  rintro e w1 ⟨rfl, hb⟩
  have R := R0.on hb
  clear R0 A0
  obtain ⟨r0, r1, r2, r3, r4, r5⟩ := R.c3
  simp only [axI_0, axI_1, axI_2]
  go_wp2_with fail
  have R2 := R.st3 (.int .i64 (subI x x')) (.int .i64 (subI y y')) (.int .i64 (subI z z'))
  obtain ⟨d0, d1, d2, -, -, -⟩ := R2.c3
  exact bodyPost_ret (v := .agg #[.int .i64 (subI x x'), .int .i64 (subI y y'), .int .i64 (subI z z')]) (by simp [results, Tryz.results239, go_sem, d0, d1, d2]) rfl ⟨rfl, by (repeat' (first | (with_reducible exact Below.refl _ _) | (with_reducible assumption) | (with_reducible refine Below.alloc ?_ ?_ _) | (with_reducible refine Below.drew ?_) | (with_reducible refine Below.setCell ?_ ?_ _) | (with_reducible refine after ?_ (below_regrown _ _ _)) | (refine after ?_ (by with_reducible assumption)) | go_size))⟩
end Go.Proofs.YtmbccnioijokfaaGreatDoor

namespace Go.Proofs.YtmbccnioijokfaaGreatDoor
open Go.RowKit
set_option maxRecDepth 100000 in
set_option maxHeartbeats 2000000 in
theorem all_c (g : FuncId) (caps : Array Value) (p : Int → Bool) (w : World) (he : ∀ args w, (callFunc g args).run Tryz.prog w = .ok (.enter g args) w)
    (hC : ∀ (i : Int) W, Below w.heap.size w W → Calls Tryz.prog g (#[.int .i64 i] ++ caps) W fun e W' => e = .returned (.bool (p i)) ∧ Below W.heap.size W W') :
    Calls Tryz.prog 246 #[.func (.func g) #[] caps] w fun e w' => e = .returned (.bool (p 0 && p 1 && p 2)) ∧ Below w.heap.size w w' := by
  have HC := Lib.hid hC
  have C : ∀ (i : Int) (b : Bool) W, p i = b → Below w.heap.size w W → Calls Tryz.prog g (#[.int .i64 i] ++ caps) W fun e W' => e = .returned (.bool b) ∧ Below W.heap.size W W' := by
    intro i b W h hb
    rw [← h]; exact hC i W hb
  have HC := Lib.hid C
  clear hC C
  cases h0 : p 0
  · have H0 := Lib.hid h0
    clear h0
    go_enter Tryz.func246, Tryz.ntmps246
    go_wp2_with fail
    refine wp_loop_rounds 1 ?_
    rw [rounds_succ]
    go_wp2_with fail
    refine (HC.out 0 false _ H0.out (Below.refl _ _)).mono ?_; rintro e w1 ⟨rfl, hb⟩
    go_wp2_with fail
    go_returns
    exact ⟨ret_b rfl, hb⟩
  cases h1 : p 1
  · have H0 := Lib.hid h0
    have H1 := Lib.hid h1
    clear h0 h1
    go_enter Tryz.func246, Tryz.ntmps246
    go_wp2_with fail
    refine wp_loop_rounds 2 ?_
    rw [rounds_succ]
    go_wp2_with fail
    refine (HC.out 0 true _ H0.out (Below.refl _ _)).mono ?_; rintro e w1 ⟨rfl, hb⟩
    go_wp2_with fail
    rw [rounds_succ]
    go_wp2_with fail
    refine (HC.out 1 false _ H1.out hb).mono ?_; rintro e w1 ⟨rfl, hb2⟩
    go_wp2_with fail
    go_returns
    exact ⟨ret_b rfl, after hb hb2⟩
  · have H0 := Lib.hid h0
    have H1 := Lib.hid h1
    clear h0 h1
    cases h2 : p 2
    all_goals
      have H2 := Lib.hid h2
      clear h2
      go_enter Tryz.func246, Tryz.ntmps246
      go_wp2_with fail
      refine wp_loop_rounds 4 ?_
      rw [rounds_succ]
      go_wp2_with fail
      refine (HC.out 0 true _ H0.out (Below.refl _ _)).mono ?_; rintro e w1 ⟨rfl, hb⟩
      go_wp2_with fail
      rw [rounds_succ]
      go_wp2_with fail
      refine (HC.out 1 true _ H1.out hb).mono ?_; rintro e w1 ⟨rfl, hb2⟩
      have hb3 := after hb hb2
      go_wp2_with fail
      rw [rounds_succ]
      go_wp2_with fail
      refine (HC.out 2 _ _ H2.out hb3).mono ?_; rintro e w1 ⟨rfl, hb4⟩
      go_wp2_with fail
      try rw [rounds_succ]
      go_wp2_with fail
      go_returns
      exact ⟨ret_b rfl, after hb3 hb4⟩
def ovI (a b c d : Int) : Bool := decide (a < d) && decide (c < b)
set_option maxRecDepth 100000 in
set_option maxHeartbeats 2000000 in
theorem over1_c (i a b c d e f a' b' c' d' e' f' : Int) (w : World) (u v : Nat) (hu : Blk w u 210 #[.int .i64 a, .int .i64 b, .int .i64 c, .int .i64 d, .int .i64 e, .int .i64 f]) (hv : Blk w v 210 #[.int .i64 a', .int .i64 b', .int .i64 c', .int .i64 d', .int .i64 e', .int .i64 f']) :
    Calls Tryz.prog 247 #[.int .i64 i, .pointer (some ⟨u, 0, none⟩), .pointer (some ⟨v, 0, none⟩)] w fun r w' => r = .returned (.bool (ovI (axI a b c i) (axI d e f i) (axI a' b' c' i) (axI d' e' f' i))) ∧ Below w.heap.size w w' := by
  obtain ⟨k0, k1, k2, k3, k4, k5⟩ := hu.re6
  obtain ⟨l0, l1, l2, l3, l4, l5⟩ := hv.re6
  by_cases h : axI a b c i < axI d' e' f' i
  · go_enter Tryz.func247, Tryz.ntmps247
    go_wp2_with fail
    refine wp_region_quiet_below (by kernel_rfl) (by kernel_rfl) ?_
    repeat (go_big_quiet_step (exact Calls.regrown_of (axis_c _ _ _ _ _)))
    refine wpQuiet_nil ?_
    intro w' hw'
    obtain ⟨rg, rfl⟩ := hw'
    go_wp2_with fail
    go_returns
    exact ⟨ret_b (by unfold ovI; simp [h]), by (repeat' (first | (with_reducible exact Below.refl _ _) | (with_reducible assumption) | (with_reducible refine Below.alloc ?_ ?_ _) | (with_reducible refine Below.drew ?_) | (with_reducible refine Below.setCell ?_ ?_ _) | (with_reducible refine after ?_ (below_regrown _ _ _)) | (refine after ?_ (by with_reducible assumption)) | go_size))⟩
  · have t : decide (axI a b c i < axI d' e' f' i) = false := by simp; omega
    go_enter Tryz.func247, Tryz.ntmps247
    go_wp2_with fail
    refine wp_region_quiet_below (by kernel_rfl) (by kernel_rfl) ?_
    repeat (go_big_quiet_step (exact Calls.regrown_of (axis_c _ _ _ _ _)))
    refine wpQuiet_nil ?_
    intro w' hw'
    obtain ⟨rg, rfl⟩ := hw'
    go_wp2_with fail
    go_returns
    exact ⟨ret_b (by unfold ovI; rw [t]; rfl), by (repeat' (first | (with_reducible exact Below.refl _ _) | (with_reducible assumption) | (with_reducible refine Below.alloc ?_ ?_ _) | (with_reducible refine Below.drew ?_) | (with_reducible refine Below.setCell ?_ ?_ _) | (with_reducible refine after ?_ (below_regrown _ _ _)) | (refine after ?_ (by with_reducible assumption)) | go_size))⟩
abbrev bxV (a b c d e f : Int) : Array Value := #[.int .i64 a, .int .i64 b, .int .i64 c, .int .i64 d, .int .i64 e, .int .i64 f]
def overI (a b c d e f a' b' c' d' e' f' : Int) : Bool := ovI a d a' d' && ovI b e b' e' && ovI c f c' f'
set_option maxRecDepth 100000 in
set_option maxHeartbeats 1000000 in
theorem over_c (a b c d e f a' b' c' d' e' f' : Int) (w : World) : Calls Tryz.prog 190 #[.agg #[.int .i64 a, .int .i64 b, .int .i64 c, .int .i64 d, .int .i64 e, .int .i64 f], .agg #[.int .i64 a', .int .i64 b', .int .i64 c', .int .i64 d', .int .i64 e', .int .i64 f']] w fun r w' => r = .returned (.bool (overI a b c d e f a' b' c' d' e' f')) ∧ Below w.heap.size w w' := by
  have he := enters_of Tryz.func247 (by kernel_rfl) rfl
  have hmf : ∀ (fn : Fn) (first cap : Array Value) (w : World), (Instr.makeFunc fn first cap).run Tryz.prog w = .ok (.func fn first cap) w := fun _ _ _ _ => rfl
  go_enter Tryz.func190, Tryz.ntmps190
  go_wp2_with fail
  have U : Blk ((w.alloc (.cells (bxV a b c d e f) 210)).alloc (.cells (bxV a' b' c' d' e' f') 210)) w.heap.size 210 (bxV a b c d e f) := (Blk.new' rfl).alloc _
  have V : Blk ((w.alloc (.cells (bxV a b c d e f) 210)).alloc (.cells (bxV a' b' c' d' e' f') 210)) (w.heap.size + 1) 210 (bxV a' b' c' d' e' f') := Blk.new' (by simp)
  refine (all_c 247 _ (fun i => ovI (axI a b c i) (axI d e f i) (axI a' b' c' i) (axI d' e' f' i)) _ he ?_).mono ?_
  · intro i W hW
    exact over1_c i a b c d e f a' b' c' d' e' f' W _ _ (U.on hW) (V.on hW)
  rintro e w1 ⟨rfl, hb⟩
  clear U V
  go_wp2_with fail
  go_returns
  exact ⟨ret_b rfl, by (repeat' (first | (with_reducible exact Below.refl _ _) | (with_reducible assumption) | (with_reducible refine Below.alloc ?_ ?_ _) | (with_reducible refine Below.drew ?_) | (with_reducible refine Below.setCell ?_ ?_ _) | (with_reducible refine after ?_ (below_regrown _ _ _)) | (refine after ?_ (by with_reducible assumption)) | go_size))⟩
end Go.Proofs.YtmbccnioijokfaaGreatDoor

namespace Go.Proofs.YtmbccnioijokfaaGreatDoor
open Go.RowKit
set_option maxRecDepth 100000 in
set_option maxHeartbeats 2000000 in
theorem stand_aa (x y z wd h : Int) (_w1 : wd ≤ 9223372036854775807) (g1 : wd < 0) (g2 : h < 0) (w : World) : Calls Tryz.prog 184 #[.agg #[.int .i64 x, .int .i64 y, .int .i64 z], .int .i64 wd, .int .i64 h] w fun r w' => r = .returned (.agg #[.int .i64 (subI x (0)), .int .i64 (subI y 0), .int .i64 (subI z (0)), .int .i64 (addI x (0)), .int .i64 (addI y 0), .int .i64 (addI z (0))]) ∧ Below w.heap.size w w' := by
  have U : Blk (((w.alloc (.cells #[.int .i64 x, .int .i64 y, .int .i64 z] 38)).alloc (.cells (bxV 0 0 0 0 0 0) 210)).alloc (.cells #[.int .i64 (0), .int .i64 0, .int .i64 (0)] 38)) w.heap.size 38 #[.int .i64 x, .int .i64 y, .int .i64 z] := ((Blk.new' rfl).alloc _).alloc _
  have R0 : Blk (((w.alloc (.cells #[.int .i64 x, .int .i64 y, .int .i64 z] 38)).alloc (.cells (bxV 0 0 0 0 0 0) 210)).alloc (.cells #[.int .i64 (0), .int .i64 0, .int .i64 (0)] 38)) (w.heap.size + 1) 210 (bxV 0 0 0 0 0 0) := (Blk.new' (by simp)).alloc _
  have V : Blk (((w.alloc (.cells #[.int .i64 x, .int .i64 y, .int .i64 z] 38)).alloc (.cells (bxV 0 0 0 0 0 0) 210)).alloc (.cells #[.int .i64 (0), .int .i64 0, .int .i64 (0)] 38)) (w.heap.size + 1 + 1) 38 #[.int .i64 0, .int .i64 0, .int .i64 0] := Blk.new' (by simp)
  obtain ⟨k0, k1, k2⟩ := U.re3
  obtain ⟨l0, l1, l2⟩ := V.re3
  go_enter Tryz.func184, Tryz.ntmps184
  go_wp2_with fail
  refine wp_region_last_below 11 (by kernel_rfl) rfl (by kernel_rfl) ?_
  simp only [List.take_succ_cons, List.take_zero, List.drop_succ_cons, List.drop_zero]
  repeat (go_big_quiet_step (first | exact Calls.regrown_of (sub_c _ _ _ _ _ _ _) | exact Calls.regrown_of (add_c _ _ _ _ _ _ _)))
  refine wpQuiet_nil ?_
  intro w' hw'
  obtain ⟨rg, rfl⟩ := hw'
  have R := R0.re rg.d rg.os
  obtain ⟨⟨r0, r1, r2, r3, r4, r5⟩, s0, s1, s2, s3, s4, s5⟩ := R.c6
  go_wp2_with fail
  have R2 := R.st6 (.int .i64 (subI x (0))) (.int .i64 (subI y 0)) (.int .i64 (subI z (0))) (.int .i64 (addI x (0))) (.int .i64 (addI y 0)) (.int .i64 (addI z (0)))
  obtain ⟨⟨d0, d1, d2, d3, d4, d5⟩, -, -, -, -, -, -⟩ := R2.c6
  exact bodyPost_ret (v := .agg #[.int .i64 (subI x (0)), .int .i64 (subI y 0), .int .i64 (subI z (0)), .int .i64 (addI x (0)), .int .i64 (addI y 0), .int .i64 (addI z (0))]) (by simp [results, Tryz.results184, go_sem, d0, d1, d2, d3, d4, d5]) rfl ⟨rfl, by (repeat' (first | (with_reducible exact Below.refl _ _) | (with_reducible assumption) | (with_reducible refine Below.alloc ?_ ?_ _) | (with_reducible refine Below.drew ?_) | (with_reducible refine Below.setCell ?_ ?_ _) | (with_reducible refine after ?_ (below_regrown _ _ _)) | (refine after ?_ (by with_reducible assumption)) | go_size))⟩
set_option maxRecDepth 100000 in
set_option maxHeartbeats 2000000 in
theorem stand_ab (x y z wd h : Int) (_w1 : wd ≤ 9223372036854775807) (g1 : wd < 0) (g2 : 0 ≤ h) (w : World) : Calls Tryz.prog 184 #[.agg #[.int .i64 x, .int .i64 y, .int .i64 z], .int .i64 wd, .int .i64 h] w fun r w' => r = .returned (.agg #[.int .i64 (subI x (0)), .int .i64 (subI y 0), .int .i64 (subI z (0)), .int .i64 (addI x (0)), .int .i64 (addI y h), .int .i64 (addI z (0))]) ∧ Below w.heap.size w w' := by
  have U : Blk (((w.alloc (.cells #[.int .i64 x, .int .i64 y, .int .i64 z] 38)).alloc (.cells (bxV 0 0 0 0 0 0) 210)).alloc (.cells #[.int .i64 (0), .int .i64 0, .int .i64 (0)] 38)) w.heap.size 38 #[.int .i64 x, .int .i64 y, .int .i64 z] := ((Blk.new' rfl).alloc _).alloc _
  have R0 : Blk (((w.alloc (.cells #[.int .i64 x, .int .i64 y, .int .i64 z] 38)).alloc (.cells (bxV 0 0 0 0 0 0) 210)).alloc (.cells #[.int .i64 (0), .int .i64 0, .int .i64 (0)] 38)) (w.heap.size + 1) 210 (bxV 0 0 0 0 0 0) := (Blk.new' (by simp)).alloc _
  have V : Blk (((w.alloc (.cells #[.int .i64 x, .int .i64 y, .int .i64 z] 38)).alloc (.cells (bxV 0 0 0 0 0 0) 210)).alloc (.cells #[.int .i64 (0), .int .i64 0, .int .i64 (0)] 38)) (w.heap.size + 1 + 1) 38 #[.int .i64 0, .int .i64 0, .int .i64 0] := Blk.new' (by simp)
  obtain ⟨k0, k1, k2⟩ := U.re3
  obtain ⟨l0, l1, l2⟩ := V.re3
  go_enter Tryz.func184, Tryz.ntmps184
  go_wp2_with fail
  refine wp_region_last_below 11 (by kernel_rfl) rfl (by kernel_rfl) ?_
  simp only [List.take_succ_cons, List.take_zero, List.drop_succ_cons, List.drop_zero]
  repeat (go_big_quiet_step (first | exact Calls.regrown_of (sub_c _ _ _ _ _ _ _) | exact Calls.regrown_of (add_c _ _ _ _ _ _ _)))
  refine wpQuiet_nil ?_
  intro w' hw'
  obtain ⟨rg, rfl⟩ := hw'
  have R := R0.re rg.d rg.os
  obtain ⟨⟨r0, r1, r2, r3, r4, r5⟩, s0, s1, s2, s3, s4, s5⟩ := R.c6
  go_wp2_with fail
  have R2 := R.st6 (.int .i64 (subI x (0))) (.int .i64 (subI y 0)) (.int .i64 (subI z (0))) (.int .i64 (addI x (0))) (.int .i64 (addI y h)) (.int .i64 (addI z (0)))
  obtain ⟨⟨d0, d1, d2, d3, d4, d5⟩, -, -, -, -, -, -⟩ := R2.c6
  exact bodyPost_ret (v := .agg #[.int .i64 (subI x (0)), .int .i64 (subI y 0), .int .i64 (subI z (0)), .int .i64 (addI x (0)), .int .i64 (addI y h), .int .i64 (addI z (0))]) (by simp [results, Tryz.results184, go_sem, d0, d1, d2, d3, d4, d5]) rfl ⟨rfl, by (repeat' (first | (with_reducible exact Below.refl _ _) | (with_reducible assumption) | (with_reducible refine Below.alloc ?_ ?_ _) | (with_reducible refine Below.drew ?_) | (with_reducible refine Below.setCell ?_ ?_ _) | (with_reducible refine after ?_ (below_regrown _ _ _)) | (refine after ?_ (by with_reducible assumption)) | go_size))⟩
set_option maxRecDepth 100000 in
set_option maxHeartbeats 2000000 in
theorem stand_ba (x y z wd h : Int) (_w1 : wd ≤ 9223372036854775807) (g1 : 0 ≤ wd) (g2 : h < 0) (w : World) : Calls Tryz.prog 184 #[.agg #[.int .i64 x, .int .i64 y, .int .i64 z], .int .i64 wd, .int .i64 h] w fun r w' => r = .returned (.agg #[.int .i64 (subI x (wd / 2)), .int .i64 (subI y 0), .int .i64 (subI z (wd / 2)), .int .i64 (addI x (wd / 2)), .int .i64 (addI y 0), .int .i64 (addI z (wd / 2))]) ∧ Below w.heap.size w w' := by
  have U : Blk (((w.alloc (.cells #[.int .i64 x, .int .i64 y, .int .i64 z] 38)).alloc (.cells (bxV 0 0 0 0 0 0) 210)).alloc (.cells #[.int .i64 (wd / 2), .int .i64 0, .int .i64 (wd / 2)] 38)) w.heap.size 38 #[.int .i64 x, .int .i64 y, .int .i64 z] := ((Blk.new' rfl).alloc _).alloc _
  have R0 : Blk (((w.alloc (.cells #[.int .i64 x, .int .i64 y, .int .i64 z] 38)).alloc (.cells (bxV 0 0 0 0 0 0) 210)).alloc (.cells #[.int .i64 (wd / 2), .int .i64 0, .int .i64 (wd / 2)] 38)) (w.heap.size + 1) 210 (bxV 0 0 0 0 0 0) := (Blk.new' (by simp)).alloc _
  have V : Blk (((w.alloc (.cells #[.int .i64 x, .int .i64 y, .int .i64 z] 38)).alloc (.cells (bxV 0 0 0 0 0 0) 210)).alloc (.cells #[.int .i64 (wd / 2), .int .i64 0, .int .i64 (wd / 2)] 38)) (w.heap.size + 1 + 1) 38 #[.int .i64 (wd / 2), .int .i64 0, .int .i64 (wd / 2)] := Blk.new' (by simp)
  obtain ⟨k0, k1, k2⟩ := U.re3
  obtain ⟨l0, l1, l2⟩ := V.re3
  go_enter Tryz.func184, Tryz.ntmps184
  go_wp2_with fail
  refine wp_region_last_below 11 (by kernel_rfl) rfl (by kernel_rfl) ?_
  simp only [List.take_succ_cons, List.take_zero, List.drop_succ_cons, List.drop_zero]
  repeat (go_big_quiet_step (first | exact Calls.regrown_of (sub_c _ _ _ _ _ _ _) | exact Calls.regrown_of (add_c _ _ _ _ _ _ _)))
  refine wpQuiet_nil ?_
  intro w' hw'
  obtain ⟨rg, rfl⟩ := hw'
  have R := R0.re rg.d rg.os
  obtain ⟨⟨r0, r1, r2, r3, r4, r5⟩, s0, s1, s2, s3, s4, s5⟩ := R.c6
  go_wp2_with fail
  have R2 := R.st6 (.int .i64 (subI x (wd / 2))) (.int .i64 (subI y 0)) (.int .i64 (subI z (wd / 2))) (.int .i64 (addI x (wd / 2))) (.int .i64 (addI y 0)) (.int .i64 (addI z (wd / 2)))
  obtain ⟨⟨d0, d1, d2, d3, d4, d5⟩, -, -, -, -, -, -⟩ := R2.c6
  exact bodyPost_ret (v := .agg #[.int .i64 (subI x (wd / 2)), .int .i64 (subI y 0), .int .i64 (subI z (wd / 2)), .int .i64 (addI x (wd / 2)), .int .i64 (addI y 0), .int .i64 (addI z (wd / 2))]) (by simp [results, Tryz.results184, go_sem, d0, d1, d2, d3, d4, d5]) rfl ⟨rfl, by (repeat' (first | (with_reducible exact Below.refl _ _) | (with_reducible assumption) | (with_reducible refine Below.alloc ?_ ?_ _) | (with_reducible refine Below.drew ?_) | (with_reducible refine Below.setCell ?_ ?_ _) | (with_reducible refine after ?_ (below_regrown _ _ _)) | (refine after ?_ (by with_reducible assumption)) | go_size))⟩
set_option maxRecDepth 100000 in
set_option maxHeartbeats 2000000 in
theorem stand_bb (x y z wd h : Int) (_w1 : wd ≤ 9223372036854775807) (g1 : 0 ≤ wd) (g2 : 0 ≤ h) (w : World) : Calls Tryz.prog 184 #[.agg #[.int .i64 x, .int .i64 y, .int .i64 z], .int .i64 wd, .int .i64 h] w fun r w' => r = .returned (.agg #[.int .i64 (subI x (wd / 2)), .int .i64 (subI y 0), .int .i64 (subI z (wd / 2)), .int .i64 (addI x (wd / 2)), .int .i64 (addI y h), .int .i64 (addI z (wd / 2))]) ∧ Below w.heap.size w w' := by
  have U : Blk (((w.alloc (.cells #[.int .i64 x, .int .i64 y, .int .i64 z] 38)).alloc (.cells (bxV 0 0 0 0 0 0) 210)).alloc (.cells #[.int .i64 (wd / 2), .int .i64 0, .int .i64 (wd / 2)] 38)) w.heap.size 38 #[.int .i64 x, .int .i64 y, .int .i64 z] := ((Blk.new' rfl).alloc _).alloc _
  have R0 : Blk (((w.alloc (.cells #[.int .i64 x, .int .i64 y, .int .i64 z] 38)).alloc (.cells (bxV 0 0 0 0 0 0) 210)).alloc (.cells #[.int .i64 (wd / 2), .int .i64 0, .int .i64 (wd / 2)] 38)) (w.heap.size + 1) 210 (bxV 0 0 0 0 0 0) := (Blk.new' (by simp)).alloc _
  have V : Blk (((w.alloc (.cells #[.int .i64 x, .int .i64 y, .int .i64 z] 38)).alloc (.cells (bxV 0 0 0 0 0 0) 210)).alloc (.cells #[.int .i64 (wd / 2), .int .i64 0, .int .i64 (wd / 2)] 38)) (w.heap.size + 1 + 1) 38 #[.int .i64 (wd / 2), .int .i64 0, .int .i64 (wd / 2)] := Blk.new' (by simp)
  obtain ⟨k0, k1, k2⟩ := U.re3
  obtain ⟨l0, l1, l2⟩ := V.re3
  go_enter Tryz.func184, Tryz.ntmps184
  go_wp2_with fail
  refine wp_region_last_below 11 (by kernel_rfl) rfl (by kernel_rfl) ?_
  simp only [List.take_succ_cons, List.take_zero, List.drop_succ_cons, List.drop_zero]
  repeat (go_big_quiet_step (first | exact Calls.regrown_of (sub_c _ _ _ _ _ _ _) | exact Calls.regrown_of (add_c _ _ _ _ _ _ _)))
  refine wpQuiet_nil ?_
  intro w' hw'
  obtain ⟨rg, rfl⟩ := hw'
  have R := R0.re rg.d rg.os
  obtain ⟨⟨r0, r1, r2, r3, r4, r5⟩, s0, s1, s2, s3, s4, s5⟩ := R.c6
  go_wp2_with fail
  have R2 := R.st6 (.int .i64 (subI x (wd / 2))) (.int .i64 (subI y 0)) (.int .i64 (subI z (wd / 2))) (.int .i64 (addI x (wd / 2))) (.int .i64 (addI y h)) (.int .i64 (addI z (wd / 2)))
  obtain ⟨⟨d0, d1, d2, d3, d4, d5⟩, -, -, -, -, -, -⟩ := R2.c6
  exact bodyPost_ret (v := .agg #[.int .i64 (subI x (wd / 2)), .int .i64 (subI y 0), .int .i64 (subI z (wd / 2)), .int .i64 (addI x (wd / 2)), .int .i64 (addI y h), .int .i64 (addI z (wd / 2))]) (by simp [results, Tryz.results184, go_sem, d0, d1, d2, d3, d4, d5]) rfl ⟨rfl, by (repeat' (first | (with_reducible exact Below.refl _ _) | (with_reducible assumption) | (with_reducible refine Below.alloc ?_ ?_ _) | (with_reducible refine Below.drew ?_) | (with_reducible refine Below.setCell ?_ ?_ _) | (with_reducible refine after ?_ (below_regrown _ _ _)) | (refine after ?_ (by with_reducible assumption)) | go_size))⟩
theorem stand_c (x y z wd h : Int) (hw : wd ≤ 9223372036854775807) (w : World) : Calls Tryz.prog 184 #[.agg #[.int .i64 x, .int .i64 y, .int .i64 z], .int .i64 wd, .int .i64 h] w fun r w' => r = .returned (.agg #[.int .i64 (subI x (max wd 0 / 2)), .int .i64 (cutI y), .int .i64 (subI z (max wd 0 / 2)), .int .i64 (addI x (max wd 0 / 2)), .int .i64 (addI y (max h 0)), .int .i64 (addI z (max wd 0 / 2))]) ∧ Below w.heap.size w w' := by
  have e : cutI y = subI y 0 := by unfold subI; rw [show cutI 0 = 0 by decide, Int.sub_zero, cutI_cut]
  rw [e]
  rcases Int.lt_or_le wd 0 with g1 | g1 <;> rcases Int.lt_or_le h 0 with g2 | g2
  · rw [show max wd 0 = 0 by omega, show max h 0 = 0 by omega]; exact stand_aa x y z wd h hw g1 g2 w
  · rw [show max wd 0 = 0 by omega, show max h 0 = h by omega]; exact stand_ab x y z wd h hw g1 g2 w
  · rw [show max wd 0 = wd by omega, show max h 0 = 0 by omega]; exact stand_ba x y z wd h hw g1 g2 w
  · rw [show max wd 0 = wd by omega, show max h 0 = h by omega]; exact stand_bb x y z wd h hw g1 g2 w
end Go.Proofs.YtmbccnioijokfaaGreatDoor

namespace Go.Proofs.YtmbccnioijokfaaGreatDoor
open Go.RowKit Go.Shelf
attribute [local go_sem] Oper.semAt_some
def ccI (n : Int) : Int := mnI (mxI n (-2147483648)) 2147483648
theorem ccI_bd (n : Int) : -2147483648 ≤ ccI n ∧ ccI n ≤ 2147483648 := by unfold ccI mnI mxI; omega
theorem ccut1_c (n : Int) (w : World) : Calls Tryz.prog 243 #[.int .i64 n] w fun r w' => r = .returned (.int .i64 (ccI n)) ∧ w = w' := by
  have hmn := @run_mn Tryz.prog
  have hmx := @run_mx Tryz.prog
  go_enter Tryz.func243, Tryz.ntmps243
  go_wp2_with fail
  go_returns
  exact ⟨rfl, rfl⟩
set_option maxRecDepth 100000 in
set_option maxHeartbeats 2000000 in
theorem ccut_c (x y z : Int) (w : World) : Calls Tryz.prog 233 #[.agg #[.int .i64 x, .int .i64 y, .int .i64 z]] w fun r w' => r = .returned (.agg #[.int .i64 (ccI x), .int .i64 (ccI y), .int .i64 (ccI z)]) ∧ Below w.heap.size w w' := by
  have U : Blk ((w.alloc (.cells #[.int .i64 x, .int .i64 y, .int .i64 z] 43)).alloc (.cells #[.int .i64 0, .int .i64 0, .int .i64 0] 43)) w.heap.size 43 #[.int .i64 x, .int .i64 y, .int .i64 z] := (Blk.new' rfl).alloc _
  have R0 : Blk ((w.alloc (.cells #[.int .i64 x, .int .i64 y, .int .i64 z] 43)).alloc (.cells #[.int .i64 0, .int .i64 0, .int .i64 0] 43)) (w.heap.size + 1) 43 #[.int .i64 0, .int .i64 0, .int .i64 0] := Blk.new' (by simp)
  obtain ⟨k0, k1, k2⟩ := U.re3
  go_enter Tryz.func233, Tryz.ntmps233
  go_wp2_with fail
  refine wp_region_last_below 10 (by kernel_rfl) rfl (by kernel_rfl) ?_
  simp only [List.take_succ_cons, List.take_zero, List.drop_succ_cons, List.drop_zero]
  repeat (go_big_quiet_step (exact Calls.regrown_of (calls_bel (ccut1_c _ _))))
  refine wpQuiet_nil ?_
  intro w' hw'
  obtain ⟨rg, rfl⟩ := hw'
  have R := R0.re rg.d rg.os
  obtain ⟨r0, r1, r2, s0, s1, s2⟩ := R.c3
  go_wp2_with fail
  have R2 := R.st3 (.int .i64 (ccI x)) (.int .i64 (ccI y)) (.int .i64 (ccI z))
  obtain ⟨d0, d1, d2, -, -, -⟩ := R2.c3
  exact bodyPost_ret (v := .agg #[.int .i64 (ccI x), .int .i64 (ccI y), .int .i64 (ccI z)]) (by simp [results, Tryz.results233, go_sem, d0, d1, d2]) rfl ⟨rfl, by (repeat' (first | (with_reducible exact Below.refl _ _) | (with_reducible assumption) | (with_reducible refine Below.alloc ?_ ?_ _) | (with_reducible refine Below.drew ?_) | (with_reducible refine Below.setCell ?_ ?_ _) | (with_reducible refine after ?_ (below_regrown _ _ _)) | (refine after ?_ (by with_reducible assumption)) | go_size))⟩
set_option maxRecDepth 100000 in
set_option maxHeartbeats 4000000 in
theorem nearto_c (b : Nat) (x y z a b' c : Int) (ha : -1 ≤ a ∧ a ≤ 1) (hb : -1 ≤ b' ∧ b' ≤ 1) (hc : -1 ≤ c ∧ c ≤ 1) (w : World) (B : Blk w b 43 #[.int .i64 x, .int .i64 y, .int .i64 z]) :
    Calls Tryz.prog 242 #[.int .i64 a, .int .i64 b', .int .i64 c, .pointer (some ⟨b, 0, none⟩)] w fun r w' => r = .returned (.agg #[.int .i64 (ccI (ccI x + a)), .int .i64 (ccI (ccI y + b')), .int .i64 (ccI (ccI z + c))]) ∧ Below w.heap.size w w' := by
  have U : Blk (w.alloc (.cells #[.int .i64 0, .int .i64 0, .int .i64 0] 43)) b 43 #[.int .i64 x, .int .i64 y, .int .i64 z] := B.alloc _
  have R0 : Blk (w.alloc (.cells #[.int .i64 0, .int .i64 0, .int .i64 0] 43)) w.heap.size 43 #[.int .i64 0, .int .i64 0, .int .i64 0] := Blk.new' rfl
  obtain ⟨k0, k1, k2⟩ := U.re3
  have bx := ccI_bd x
  have bb := ccI_bd y
  have bz := ccI_bd z
  have e1 : IntKind.i64.wrap (ccI x + a) = ccI x + a := IntWalk.i64_in _ (by omega)
  have e2 : IntKind.i64.wrap (ccI y + b') = ccI y + b' := IntWalk.i64_in _ (by omega)
  have e3 : IntKind.i64.wrap (ccI z + c) = ccI z + c := IntWalk.i64_in _ (by omega)
  clear bx bb bz ha hb hc
  go_enter Tryz.func242, Tryz.ntmps242
  go_wp2_with fail
  refine wp_region_last_below 17 (by kernel_rfl) rfl (by kernel_rfl) ?_
  simp only [List.take_succ_cons, List.take_zero, List.drop_succ_cons, List.drop_zero]
  repeat (go_big_quiet_step (first | exact Calls.regrown_of (calls_bel (ccut1_c _ _)) | exact Calls.regrown_of (ccut_c _ _ _ _)))
  refine wpQuiet_nil ?_
  intro w' hw'
  obtain ⟨rg, rfl⟩ := hw'
  have R := R0.re rg.d rg.os
  obtain ⟨r0, r1, r2, s0, s1, s2⟩ := R.c3
  clear e1 e2 e3 k0 k1 k2
  go_wp2_with fail
  have R2 := R.st3 (.int .i64 (ccI (ccI x + a))) (.int .i64 (ccI (ccI y + b'))) (.int .i64 (ccI (ccI z + c)))
  obtain ⟨d0, d1, d2, -, -, -⟩ := R2.c3
  exact bodyPost_ret (v := .agg #[.int .i64 (ccI (ccI x + a)), .int .i64 (ccI (ccI y + b')), .int .i64 (ccI (ccI z + c))]) (by simp [results, Tryz.results242, go_sem, d0, d1, d2]) rfl ⟨rfl, by (repeat' (first | (with_reducible exact Below.refl _ _) | (with_reducible assumption) | (with_reducible refine Below.alloc ?_ ?_ _) | (with_reducible refine Below.drew ?_) | (with_reducible refine Below.setCell ?_ ?_ _) | (with_reducible refine after ?_ (below_regrown _ _ _)) | (refine after ?_ (by with_reducible assumption)) | go_size))⟩
end Go.Proofs.YtmbccnioijokfaaGreatDoor

namespace Go.Proofs.YtmbccnioijokfaaGreatDoor
open Go.RowKit Go.Shelf
attribute [local go_sem] Oper.semAt_some
set_option maxRecDepth 100000 in
set_option maxHeartbeats 2000000 in
theorem cellof_c (x y z : Int) (w : World) : Calls Tryz.prog 16 #[.agg #[.int .i64 x, .int .i64 y, .int .i64 z]] w fun r w' => r = .returned (.agg #[.int .i64 (lowI x), .int .i64 (lowI y), .int .i64 (lowI z)]) ∧ Below w.heap.size w w' := by
  have U : Blk ((w.alloc (.cells #[.int .i64 x, .int .i64 y, .int .i64 z] 38)).alloc (.cells #[.int .i64 0, .int .i64 0, .int .i64 0] 43)) w.heap.size 38 #[.int .i64 x, .int .i64 y, .int .i64 z] := (Blk.new' rfl).alloc _
  have R0 : Blk ((w.alloc (.cells #[.int .i64 x, .int .i64 y, .int .i64 z] 38)).alloc (.cells #[.int .i64 0, .int .i64 0, .int .i64 0] 43)) (w.heap.size + 1) 43 #[.int .i64 0, .int .i64 0, .int .i64 0] := Blk.new' (by simp)
  obtain ⟨k0, k1, k2⟩ := U.re3
  go_enter Tryz.func16, Tryz.ntmps16
  go_wp2_with fail
  refine wp_region_last_below 10 (by kernel_rfl) rfl (by kernel_rfl) ?_
  simp only [List.take_succ_cons, List.take_zero, List.drop_succ_cons, List.drop_zero]
  repeat (go_big_quiet_step (exact Calls.regrown_of (calls_bel (rfloor_c _ _))))
  refine wpQuiet_nil ?_
  intro w' hw'
  obtain ⟨rg, rfl⟩ := hw'
  have R := R0.re rg.d rg.os
  obtain ⟨r0, r1, r2, s0, s1, s2⟩ := R.c3
  go_wp2_with fail
  have R2 := R.st3 (.int .i64 (lowI x)) (.int .i64 (lowI y)) (.int .i64 (lowI z))
  obtain ⟨d0, d1, d2, -, -, -⟩ := R2.c3
  exact bodyPost_ret (v := .agg #[.int .i64 (lowI x), .int .i64 (lowI y), .int .i64 (lowI z)]) (by simp [results, Tryz.results16, go_sem, d0, d1, d2]) rfl ⟨rfl, by (repeat' (first | (with_reducible exact Below.refl _ _) | (with_reducible assumption) | (with_reducible refine Below.alloc ?_ ?_ _) | (with_reducible refine Below.drew ?_) | (with_reducible refine Below.setCell ?_ ?_ _) | (with_reducible refine after ?_ (below_regrown _ _ _)) | (refine after ?_ (by with_reducible assumption)) | go_size))⟩
end Go.Proofs.YtmbccnioijokfaaGreatDoor

namespace Go.Proofs.YtmbccnioijokfaaGreatDoor
open Go.RowKit
theorem inf8 : (Tryz.prog.info? 5).map (fun i => (i.zero, i.size, i.bytes)) = some (some (.int .u8 0), 1, 1) := by kernel_rfl
set_option maxRecDepth 100000 in
set_option maxHeartbeats 1000000 in
theorem clone_c (q : Option Addr) (n c : Nat) (F : Nat → B8) (hc : n ≤ c) (h47 : n ≤ 140737488355328) (w : World) (hq : Byq w q n F) :
    Calls Tryz.prog 214 #[.slice q n c] w fun r w' => ∃ v, r = .returned v ∧ w'.ownsRow w.heap.size 5 1 v n (bl F n) ∧ Below w.heap.size w w' := by
  have hnl : ∀ (w : World) (a : Option Addr) (n c n' c' : Nat), (binOp .eql 51 (.slice a n c) (.slice none n' c')).run Tryz.prog w = .ok (.bool a.isNone) w := fun w a n c n' c' => Lib.run_eql_slice_nil w _ _ a n c n' c' Tryz.underlying51
  cases q with
  | none =>
    have h0 : n = 0 := by
      rcases Nat.eq_zero_or_pos n with h | h
      · exact h
      · obtain ⟨g, o, h1, _⟩ := hq h; cases h1
    subst h0
    go_enter Tryz.func214, Tryz.ntmps214
    go_wp2_with fail
    go_returns
    exact ⟨_, rfl, own_nil, Below.refl _ _⟩
  | some a =>
    obtain ⟨W0, hW⟩ : ∃ W0, W0 = w.alloc (.cells #[] 5) := ⟨_, rfl⟩
    have hb0 : Below w.heap.size w W0 := by rw [hW]; exact (Below.refl _ _).alloc (Nat.le_refl _) _
    have hown : W0.ownsRow w.heap.size 5 1 (.slice (some ⟨w.heap.size, 0, none⟩) 0 0) 0 (bl F 0) :=
      ⟨rfl, .inr ⟨w.heap.size, 0, #[], rfl, Nat.le_refl _, by rw [hW]; exact heap_alloc_new w _, Nat.le_refl _, by omega, rfl, rfl⟩⟩
    obtain ⟨v1, W1, hrun1, hown1, hb1⟩ := run_app (P := Tryz.prog) (w := W0) (base := w.heap.size) (ty := 51) Tryz.underlying51 inf8 hown hc (hq.on hb0) (by omega) hb0.size
    rw [cat_0, Nat.zero_add] at hown1
    rw [hW] at hrun1
    go_enter Tryz.func214, Tryz.ntmps214
    go_wp2_with (at_builtin; refine Lib.wpList_append_run _ rfl _ _ _ _ rfl _ _ rfl rfl _ _ hrun1 ?_)
    go_returns
    exact ⟨_, rfl, hown1, hb0.trans hb1⟩
end Go.Proofs.YtmbccnioijokfaaGreatDoor

namespace Go.Proofs.YtmbccnioijokfaaGreatDoor
open Go.RowKit
attribute [local go_sem] Oper.semAt_some
theorem tq_neg {a b : Int} (h : a ≤ 0) : a.tdiv b = -((-a) / b) := by rw [← Int.tdiv_eq_ediv_of_nonneg (show 0 ≤ -a by omega), Int.neg_tdiv, Int.neg_neg]
theorem tr_neg {a b : Int} (h : a ≤ 0) : a.tmod b = -((-a) % b) := by rw [← Int.tmod_eq_emod_of_nonneg (show 0 ≤ -a by omega), Int.neg_tmod, Int.neg_neg]
theorem tdiv16 (a : Int) : (a.tmod 16 < 0 → a.tdiv 16 - 1 = a / 16) ∧ (¬ a.tmod 16 < 0 → a.tdiv 16 = a / 16) := by
  rcases Int.le_total 0 a with h | h
  · rw [Int.tdiv_eq_ediv_of_nonneg h, Int.tmod_eq_emod_of_nonneg h]; omega
  · rw [tq_neg h, tr_neg h]; omega
theorem tmod16 (a : Int) : (a.tmod 16 < 0 → a.tmod 16 + 16 = a % 16) ∧ (¬ a.tmod 16 < 0 → a.tmod 16 = a % 16) := by
  rcases Int.le_total 0 a with h | h
  · rw [Int.tmod_eq_emod_of_nonneg h]; omega
  · rw [tr_neg h]; omega
theorem tdiv16_bd {a : Int} (h : In64 a) : -9223372036854775808 ≤ a.tdiv 16 - 1 ∧ a.tdiv 16 ≤ 9223372036854775807 ∧ -16 < a.tmod 16 ∧ a.tmod 16 < 16 := by
  unfold In64 at h
  rcases Int.le_total 0 a with h0 | h0
  · rw [Int.tdiv_eq_ediv_of_nonneg h0, Int.tmod_eq_emod_of_nonneg h0]; omega
  · rw [tq_neg h0, tr_neg h0]; omega
theorem tdiv8 (a : Int) : (a.tmod 8 < 0 → a.tdiv 8 - 1 = a / 8) ∧ (¬ a.tmod 8 < 0 → a.tdiv 8 = a / 8) := by
  rcases Int.le_total 0 a with h | h
  · rw [Int.tdiv_eq_ediv_of_nonneg h, Int.tmod_eq_emod_of_nonneg h]; omega
  · rw [tq_neg h, tr_neg h]; omega
theorem tmod8 (a : Int) : (a.tmod 8 < 0 → a.tmod 8 + 8 = a % 8) ∧ (¬ a.tmod 8 < 0 → a.tmod 8 = a % 8) := by
  rcases Int.le_total 0 a with h | h
  · rw [Int.tmod_eq_emod_of_nonneg h]; omega
  · rw [tr_neg h]; omega
theorem tdiv8_bd {a : Int} (h : In64 a) : -9223372036854775808 ≤ a.tdiv 8 - 1 ∧ a.tdiv 8 ≤ 9223372036854775807 ∧ -8 < a.tmod 8 ∧ a.tmod 8 < 8 := by
  unfold In64 at h
  rcases Int.le_total 0 a with h0 | h0
  · rw [Int.tdiv_eq_ediv_of_nonneg h0, Int.tmod_eq_emod_of_nonneg h0]; omega
  · rw [tq_neg h0, tr_neg h0]; omega
set_option maxRecDepth 100000 in
set_option maxHeartbeats 400000 in
theorem cdiv16_c (a : Int) (h : In64 a) (w : World) : Calls Tryz.prog 158 #[.int .i64 a, .int .i64 16] w fun e w' => e = .returned (.int .i64 (a / 16)) ∧ w = w' := by
  have p := Lib.hid (tdiv16 a)
  obtain ⟨b1, b2, b3, b4⟩ := tdiv16_bd h
  clear h
  by_cases h0 : a.tmod 16 < 0
  all_goals
    go_enter Tryz.func158, Tryz.ntmps158
    go_wp2
    go_returns
    exact ⟨ret_i (by first | exact p.out.1 h0 | exact p.out.2 h0), rfl⟩
theorem cdiv8_c (a : Int) (h : In64 a) (w : World) : Calls Tryz.prog 158 #[.int .i64 a, .int .i64 8] w fun e w' => e = .returned (.int .i64 (a / 8)) ∧ w = w' := by
  have p := Lib.hid (tdiv8 a)
  obtain ⟨b1, b2, b3, b4⟩ := tdiv8_bd h
  clear h
  by_cases h0 : a.tmod 8 < 0
  all_goals
    go_enter Tryz.func158, Tryz.ntmps158
    go_wp2
    go_returns
    exact ⟨ret_i (by first | exact p.out.1 h0 | exact p.out.2 h0), rfl⟩
set_option maxRecDepth 100000 in
set_option maxHeartbeats 400000 in
theorem cmod16_c (a : Int) (h : In64 a) (w : World) : Calls Tryz.prog 282 #[.int .i64 a, .int .i64 16] w fun e w' => e = .returned (.int .i64 (a % 16)) ∧ w = w' := by
  have p := Lib.hid (tmod16 a)
  obtain ⟨b1, b2, b3, b4⟩ := tdiv16_bd h
  clear h
  by_cases h0 : a.tmod 16 < 0
  all_goals
    go_enter Tryz.func282, Tryz.ntmps282
    go_wp2
    go_returns
    exact ⟨ret_i (by first | exact p.out.1 h0 | exact p.out.2 h0), rfl⟩
theorem cmod8_c (a : Int) (h : In64 a) (w : World) : Calls Tryz.prog 282 #[.int .i64 a, .int .i64 8] w fun e w' => e = .returned (.int .i64 (a % 8)) ∧ w = w' := by
  have p := Lib.hid (tmod8 a)
  obtain ⟨b1, b2, b3, b4⟩ := tdiv8_bd h
  clear h
  by_cases h0 : a.tmod 8 < 0
  all_goals
    go_enter Tryz.func282, Tryz.ntmps282
    go_wp2
    go_returns
    exact ⟨ret_i (by first | exact p.out.1 h0 | exact p.out.2 h0), rfl⟩
theorem Blk.pair {w : World} {g : Nat} {t : TypeId} {x y : Value} (h : Blk w g t #[x, y]) : w.cell? ⟨g, 0, none⟩ = some x ∧ w.cell? ⟨g, 1, none⟩ = some y ∧ w.frozen? ⟨g, 0, none⟩ = false ∧ w.frozen? ⟨g, 1, none⟩ = false := ⟨h.cell 0, h.cell 1, h.frz 0, h.frz 1⟩
theorem Blk.stp {w : World} {g : Nat} {t : TypeId} {x y : Value} (h : Blk w g t #[x, y]) (a b : Value) : Blk ((w.setCell ⟨g, 0, none⟩ a).setCell ⟨g, 1, none⟩ b) g t #[a, b] := (h.set_ 0 a).set_ 1 b
theorem Blk.rep {w : World} {g : Nat} {t : TypeId} {a b : Value} (h : Blk w g t #[a, b]) : (∀ d os, (Go.Sort.grow (redrawn w d) os).cell? ⟨g, 0, none⟩ = some a) ∧ (∀ d os, (Go.Sort.grow (redrawn w d) os).cell? ⟨g, 1, none⟩ = some b) := ⟨fun d os => (h.re d os).cell 0, fun d os => (h.re d os).cell 1⟩
set_option maxRecDepth 100000 in
set_option maxHeartbeats 1000000 in
theorem cchunk_c (x y z : Int) (hx : In64 x) (hz : In64 z) (w : World) : Calls Tryz.prog 108 #[.agg #[.int .i64 x, .int .i64 y, .int .i64 z]] w fun e w' => e = .returned (.agg #[.int .i64 (x / 16), .int .i64 (z / 16)]) ∧ Below w.heap.size w w' := by
  have U : Blk ((w.alloc (.cells #[.int .i64 x, .int .i64 y, .int .i64 z] 43)).alloc (.cells #[.int .i64 0, .int .i64 0] 123)) w.heap.size 43 #[.int .i64 x, .int .i64 y, .int .i64 z] := (Blk.new' rfl).alloc _
  have R0 : Blk ((w.alloc (.cells #[.int .i64 x, .int .i64 y, .int .i64 z] 43)).alloc (.cells #[.int .i64 0, .int .i64 0] 123)) (w.heap.size + 1) 123 #[.int .i64 0, .int .i64 0] := Blk.new' (by simp)
  obtain ⟨k0, k1, k2⟩ := U.re3
  go_enter Tryz.func108, Tryz.ntmps108
  go_wp2_with fail
  refine wp_region_last_below 7 (by kernel_rfl) rfl (by kernel_rfl) ?_
  simp only [List.take_succ_cons, List.take_zero, List.drop_succ_cons, List.drop_zero]
  repeat (go_big_quiet_step (exact Calls.regrown_of (calls_bel (cdiv16_c _ (by assumption) _))))
  refine wpQuiet_nil ?_
  intro w' hw'
  obtain ⟨rg, rfl⟩ := hw'
  have R := R0.re rg.d rg.os
  obtain ⟨r0, r1, s0, s1⟩ := R.pair
  go_wp2_with fail
  have R2 := R.stp (.int .i64 (x / 16)) (.int .i64 (z / 16))
  obtain ⟨d0, d1, -, -⟩ := R2.pair
  exact bodyPost_ret (v := .agg #[.int .i64 (x / 16), .int .i64 (z / 16)]) (by simp [results, Tryz.results108, go_sem, d0, d1]) rfl ⟨rfl, by (repeat' (first | (with_reducible exact Below.refl _ _) | (with_reducible assumption) | (with_reducible refine Below.alloc ?_ ?_ _) | (with_reducible refine Below.drew ?_) | (with_reducible refine Below.setCell ?_ ?_ _) | (with_reducible refine after ?_ (below_regrown _ _ _)) | (refine after ?_ (by with_reducible assumption)) | go_size))⟩
def idxI (x y z : Int) : Int := (y * 16 + z % 16) * 16 + x % 16
def inY (y : Int) : Bool := decide (0 ≤ y) && decide (y < 32)
def idxT (x y z : Int) : Value := if inY y then .tuple #[.int .i64 (idxI x y z), .bool true] else .tuple #[.int .i64 0, .bool false]
set_option maxRecDepth 100000 in
set_option maxHeartbeats 1000000 in
theorem cindex_c (x y z : Int) (hx : In64 x) (hz : In64 z) (w : World) : Calls Tryz.prog 208 #[.agg #[.int .i64 x, .int .i64 y, .int .i64 z]] w fun e w' => e = .returned (idxT x y z) ∧ Below w.heap.size w w' := by
  obtain ⟨W, hW⟩ : ∃ W, W = w.alloc (.cells #[.int .i64 x, .int .i64 y, .int .i64 z] 43) := ⟨_, rfl⟩
  have H : Below w.heap.size w W := by rw [hW]; go_grown
  have U : Blk W w.heap.size 43 #[.int .i64 x, .int .i64 y, .int .i64 z] := by rw [hW]; exact Blk.new' rfl
  obtain ⟨k0, k1, k2⟩ := U.re3
  obtain ⟨c0, c1, c2, -, -, -⟩ := U.c3
  unfold idxT inY
  by_cases h1 : y < 0
  · rw [if_neg (by simp; omega)]
    clear U k0 k1 k2
    go_enter Tryz.func208, Tryz.ntmps208
    go_upto_region 1 with (fail)
    rw [← hW]
    clear hW
    go_wp2_with fail
    go_returns
    exact ⟨rfl, H⟩
  · by_cases h2 : 32 ≤ y
    · rw [if_neg (by simp; omega)]
      clear U k0 k1 k2
      have h1' : 0 ≤ y := by omega
      go_enter Tryz.func208, Tryz.ntmps208
      go_upto_region 1 with (fail)
      rw [← hW]
      clear hW
      go_wp2_with fail
      go_returns
      exact ⟨rfl, H⟩
    · rw [if_pos (by simp; omega)]
      have h1' : 0 ≤ y := by omega
      have h2' : y < 32 := by omega
      clear h1 h2
      have hz1 : 0 ≤ z % 16 ∧ z % 16 < 16 := by omega
      have hx1 : 0 ≤ x % 16 ∧ x % 16 < 16 := by omega
      have s1 : IntKind.i64.wrap (y * 16) = y * 16 := IntWalk.i64_in _ (by omega)
      have s2 : IntKind.i64.wrap (y * 16 + z % 16) = y * 16 + z % 16 := IntWalk.i64_in _ (by omega)
      have s3 : IntKind.i64.wrap ((y * 16 + z % 16) * 16) = (y * 16 + z % 16) * 16 := IntWalk.i64_in _ (by omega)
      have s4 : IntKind.i64.wrap ((y * 16 + z % 16) * 16 + x % 16) = (y * 16 + z % 16) * 16 + x % 16 := IntWalk.i64_in _ (by omega)
      go_enter Tryz.func208, Tryz.ntmps208
      go_upto_region 1 with (fail)
      rw [← hW]
      clear hW
      go_upto_region 3 with (fail)
      refine wp_region_quiet_below (by kernel_rfl) (by kernel_rfl) ?_
      repeat (go_big_quiet_step (exact Calls.regrown_of (calls_bel (cmod16_c _ (by assumption) _))))
      refine wpQuiet_nil ?_
      intro w' hw'
      obtain ⟨rg, rfl⟩ := hw'
      go_wp2_with fail
      go_returns
      exact ⟨rfl, after H (below_regrown W _ _)⟩
end Go.Proofs.YtmbccnioijokfaaGreatDoor

namespace Go.Proofs.YtmbccnioijokfaaGreatDoor
open Go.RowKit
theorem shl16 (c : B16) (k m : Nat) (hm : 2 ^ k = m) : IntKind.u16.wrap (n16 c * (m : Int)) = n16 (c <<< k) := by
  rw [IntKind.wrap_u16]
  unfold n16
  rw [BitVec.toNat_shiftLeft, Nat.shiftLeft_eq, hm]
  omega
theorem shr16 (c : B16) (k m : Nat) (hm : 2 ^ k = m) : n16 c / (m : Int) = n16 (c >>> k) := by
  unfold n16
  rw [BitVec.toNat_ushiftRight, Nat.shiftRight_eq_div_pow, hm]
  omega
theorem xor16 (a b : B16) : bits .xor .u16 (n16 a) (n16 b) = n16 (a ^^^ b) := by
  unfold n16
  rw [u16_xor_nat _ _ (by have := a.isLt; omega) (by have := b.isLt; omega), BitVec.toNat_xor]
theorem and16 (a b : B16) : bits .and .u16 (n16 a) (n16 b) = n16 (a &&& b) := by
  unfold n16
  rw [u16_and_nat _ _ (by have := a.isLt; omega) (by have := b.isLt; omega), BitVec.toNat_and]
theorem poly16 : (4129 : Int) = n16 0x1021#16 := by decide
theorem top16 (c : B16) : (bits .and .u16 (n16 c) 32768 != 0) = c.msb := by
  rw [show (32768 : Int) = n16 (BitVec.twoPow 16 15) by decide, and16, show (0 : Int) = n16 0#16 by decide, BitVec.and_twoPow, BitVec.msb_eq_getLsbD_last]
  cases c.getLsbD 15 <;> decide
theorem nib8h (x : B8) : IntKind.u16.wrap (n8 x / 16) = n16 (x.setWidth 16 >>> 4) := by
  rw [IntKind.wrap_u16]
  unfold n16 n8
  rw [BitVec.toNat_ushiftRight, Nat.shiftRight_eq_div_pow, BitVec.toNat_setWidth]
  have := x.isLt
  omega
theorem nib8l (x : B8) : IntKind.u16.wrap (bits .and .u8 (n8 x) 15) = n16 (x.setWidth 16 &&& 15#16) := by
  rw [IntKind.wrap_u16]
  unfold n16 n8
  rw [show (15 : Int) = ((15 : Nat) : Int) from rfl, u8_and_nat _ _ (by have := x.isLt; omega) (by omega), BitVec.toNat_and, BitVec.toNat_setWidth]
  have h1 := x.isLt
  have h2 : x.toNat &&& 15 ≤ 15 := Nat.and_le_right
  rw [show x.toNat % 2 ^ 16 = x.toNat by omega, show (15#16).toNat = 15 by decide]
  omega
theorem step_c (c : B16) (w : World) : Calls Tryz.prog 357 #[.int .u16 (n16 c)] w fun r w' => r = .returned (.int .u16 (n16 (st c))) ∧ w = w' := by
  have ht := top16 c
  have hl : IntKind.u16.wrap (n16 c * 2) = n16 (c <<< 1) := shl16 c 1 2 rfl
  have hx : bits .xor .u16 (n16 (c <<< 1)) 4129 = n16 (c <<< 1 ^^^ 0x1021#16) := by rw [poly16, xor16]
  cases hm : c.msb with
  | true =>
    rw [hm] at ht
    go_enter Tryz.func357, Tryz.ntmps357
    go_wp2_with fail
    go_returns
    exact ⟨ret_i (by unfold st; rw [hm]; rfl), rfl⟩
  | false =>
    rw [hm] at ht
    go_enter Tryz.func357, Tryz.ntmps357
    go_wp2_with fail
    go_returns
    exact ⟨ret_i (by unfold st; rw [hm]; simp), rfl⟩
def tc (k i : Nat) : Value := if i < k then .int .u16 (n16 (tb (BitVec.ofNat 16 i))) else .int .u16 0
def tabA (k : Nat) : Array Value := #[tc k 0, tc k 1, tc k 2, tc k 3, tc k 4, tc k 5, tc k 6, tc k 7, tc k 8, tc k 9, tc k 10, tc k 11, tc k 12, tc k 13, tc k 14, tc k 15]
theorem tabA_0 : tabA 0 = #[.int .u16 0, .int .u16 0, .int .u16 0, .int .u16 0, .int .u16 0, .int .u16 0, .int .u16 0, .int .u16 0, .int .u16 0, .int .u16 0, .int .u16 0, .int .u16 0, .int .u16 0, .int .u16 0, .int .u16 0, .int .u16 0] := rfl
theorem tabA_next : ∀ k, k < 16 → (tabA k).setIfInBounds k (.int .u16 (n16 (tb (BitVec.ofNat 16 k)))) = tabA (k + 1)
  | 0, _ => rfl
  | 1, _ => rfl
  | 2, _ => rfl
  | 3, _ => rfl
  | 4, _ => rfl
  | 5, _ => rfl
  | 6, _ => rfl
  | 7, _ => rfl
  | 8, _ => rfl
  | 9, _ => rfl
  | 10, _ => rfl
  | 11, _ => rfl
  | 12, _ => rfl
  | 13, _ => rfl
  | 14, _ => rfl
  | 15, _ => rfl
  | k + 16, h => by omega
theorem tabA_at (k : Nat) : k < 16 → (tabA 16)[k]? = some (.int .u16 (n16 (tb (BitVec.ofNat 16 k)))) := by
  intro h
  match k, h with
  | 0, _ => rfl
  | 1, _ => rfl
  | 2, _ => rfl
  | 3, _ => rfl
  | 4, _ => rfl
  | 5, _ => rfl
  | 6, _ => rfl
  | 7, _ => rfl
  | 8, _ => rfl
  | 9, _ => rfl
  | 10, _ => rfl
  | 11, _ => rfl
  | 12, _ => rfl
  | 13, _ => rfl
  | 14, _ => rfl
  | 15, _ => rfl
  | k + 16, h => omega
theorem tabA_cell (k : Nat) : k < 16 → (tabA k)[k]? = some (tc k k) := by
  intro h
  match k, h with
  | 0, _ => rfl
  | 1, _ => rfl
  | 2, _ => rfl
  | 3, _ => rfl
  | 4, _ => rfl
  | 5, _ => rfl
  | 6, _ => rfl
  | 7, _ => rfl
  | 8, _ => rfl
  | 9, _ => rfl
  | 10, _ => rfl
  | 11, _ => rfl
  | 12, _ => rfl
  | 13, _ => rfl
  | 14, _ => rfl
  | 15, _ => rfl
  | k + 16, h => omega
theorem Blk.cells16 {w : World} {g : Nat} {t : TypeId} {c0 c1 c2 c3 c4 c5 c6 c7 c8 c9 c10 c11 c12 c13 c14 c15 : Value} (h : Blk w g t #[c0, c1, c2, c3, c4, c5, c6, c7, c8, c9, c10, c11, c12, c13, c14, c15]) : w.cell? ⟨g, 0, none⟩ = some c0 ∧ w.cell? ⟨g, 1, none⟩ = some c1 ∧ w.cell? ⟨g, 2, none⟩ = some c2 ∧ w.cell? ⟨g, 3, none⟩ = some c3 ∧ w.cell? ⟨g, 4, none⟩ = some c4 ∧ w.cell? ⟨g, 5, none⟩ = some c5 ∧ w.cell? ⟨g, 6, none⟩ = some c6 ∧ w.cell? ⟨g, 7, none⟩ = some c7 ∧ w.cell? ⟨g, 8, none⟩ = some c8 ∧ w.cell? ⟨g, 9, none⟩ = some c9 ∧ w.cell? ⟨g, 10, none⟩ = some c10 ∧ w.cell? ⟨g, 11, none⟩ = some c11 ∧ w.cell? ⟨g, 12, none⟩ = some c12 ∧ w.cell? ⟨g, 13, none⟩ = some c13 ∧ w.cell? ⟨g, 14, none⟩ = some c14 ∧ w.cell? ⟨g, 15, none⟩ = some c15 :=
  ⟨h.cell 0, h.cell 1, h.cell 2, h.cell 3, h.cell 4, h.cell 5, h.cell 6, h.cell 7, h.cell 8, h.cell 9, h.cell 10, h.cell 11, h.cell 12, h.cell 13, h.cell 14, h.cell 15⟩
theorem Blk.frz16 {w : World} {g : Nat} {t : TypeId} {cs : Array Value} (h : Blk w g t cs) : w.frozen? ⟨g, 0, none⟩ = false ∧ w.frozen? ⟨g, 1, none⟩ = false ∧ w.frozen? ⟨g, 2, none⟩ = false ∧ w.frozen? ⟨g, 3, none⟩ = false ∧ w.frozen? ⟨g, 4, none⟩ = false ∧ w.frozen? ⟨g, 5, none⟩ = false ∧ w.frozen? ⟨g, 6, none⟩ = false ∧ w.frozen? ⟨g, 7, none⟩ = false ∧ w.frozen? ⟨g, 8, none⟩ = false ∧ w.frozen? ⟨g, 9, none⟩ = false ∧ w.frozen? ⟨g, 10, none⟩ = false ∧ w.frozen? ⟨g, 11, none⟩ = false ∧ w.frozen? ⟨g, 12, none⟩ = false ∧ w.frozen? ⟨g, 13, none⟩ = false ∧ w.frozen? ⟨g, 14, none⟩ = false ∧ w.frozen? ⟨g, 15, none⟩ = false :=
  ⟨h.frz 0, h.frz 1, h.frz 2, h.frz 3, h.frz 4, h.frz 5, h.frz 6, h.frz 7, h.frz 8, h.frz 9, h.frz 10, h.frz 11, h.frz 12, h.frz 13, h.frz 14, h.frz 15⟩
theorem Blk.st16 {w : World} {g : Nat} {t : TypeId} {c0 c1 c2 c3 c4 c5 c6 c7 c8 c9 c10 c11 c12 c13 c14 c15 : Value} (d0 d1 d2 d3 d4 d5 d6 d7 d8 d9 d10 d11 d12 d13 d14 d15 : Value) (h : Blk w g t #[c0, c1, c2, c3, c4, c5, c6, c7, c8, c9, c10, c11, c12, c13, c14, c15]) : Blk ((((((((((((((((w.setCell ⟨g, 0, none⟩ d0).setCell ⟨g, 1, none⟩ d1).setCell ⟨g, 2, none⟩ d2).setCell ⟨g, 3, none⟩ d3).setCell ⟨g, 4, none⟩ d4).setCell ⟨g, 5, none⟩ d5).setCell ⟨g, 6, none⟩ d6).setCell ⟨g, 7, none⟩ d7).setCell ⟨g, 8, none⟩ d8).setCell ⟨g, 9, none⟩ d9).setCell ⟨g, 10, none⟩ d10).setCell ⟨g, 11, none⟩ d11).setCell ⟨g, 12, none⟩ d12).setCell ⟨g, 13, none⟩ d13).setCell ⟨g, 14, none⟩ d14).setCell ⟨g, 15, none⟩ d15) g t #[d0, d1, d2, d3, d4, d5, d6, d7, d8, d9, d10, d11, d12, d13, d14, d15] := by
  have h0 : Blk (w.setCell ⟨g, 0, none⟩ d0) g t #[d0, c1, c2, c3, c4, c5, c6, c7, c8, c9, c10, c11, c12, c13, c14, c15] := h.set_ 0 d0
  have h1 : Blk ((w.setCell ⟨g, 0, none⟩ d0).setCell ⟨g, 1, none⟩ d1) g t #[d0, d1, c2, c3, c4, c5, c6, c7, c8, c9, c10, c11, c12, c13, c14, c15] := h0.set_ 1 d1
  have h2 : Blk (((w.setCell ⟨g, 0, none⟩ d0).setCell ⟨g, 1, none⟩ d1).setCell ⟨g, 2, none⟩ d2) g t #[d0, d1, d2, c3, c4, c5, c6, c7, c8, c9, c10, c11, c12, c13, c14, c15] := h1.set_ 2 d2
  have h3 : Blk ((((w.setCell ⟨g, 0, none⟩ d0).setCell ⟨g, 1, none⟩ d1).setCell ⟨g, 2, none⟩ d2).setCell ⟨g, 3, none⟩ d3) g t #[d0, d1, d2, d3, c4, c5, c6, c7, c8, c9, c10, c11, c12, c13, c14, c15] := h2.set_ 3 d3
  have h4 : Blk (((((w.setCell ⟨g, 0, none⟩ d0).setCell ⟨g, 1, none⟩ d1).setCell ⟨g, 2, none⟩ d2).setCell ⟨g, 3, none⟩ d3).setCell ⟨g, 4, none⟩ d4) g t #[d0, d1, d2, d3, d4, c5, c6, c7, c8, c9, c10, c11, c12, c13, c14, c15] := h3.set_ 4 d4
  have h5 : Blk ((((((w.setCell ⟨g, 0, none⟩ d0).setCell ⟨g, 1, none⟩ d1).setCell ⟨g, 2, none⟩ d2).setCell ⟨g, 3, none⟩ d3).setCell ⟨g, 4, none⟩ d4).setCell ⟨g, 5, none⟩ d5) g t #[d0, d1, d2, d3, d4, d5, c6, c7, c8, c9, c10, c11, c12, c13, c14, c15] := h4.set_ 5 d5
  have h6 : Blk (((((((w.setCell ⟨g, 0, none⟩ d0).setCell ⟨g, 1, none⟩ d1).setCell ⟨g, 2, none⟩ d2).setCell ⟨g, 3, none⟩ d3).setCell ⟨g, 4, none⟩ d4).setCell ⟨g, 5, none⟩ d5).setCell ⟨g, 6, none⟩ d6) g t #[d0, d1, d2, d3, d4, d5, d6, c7, c8, c9, c10, c11, c12, c13, c14, c15] := h5.set_ 6 d6
  have h7 : Blk ((((((((w.setCell ⟨g, 0, none⟩ d0).setCell ⟨g, 1, none⟩ d1).setCell ⟨g, 2, none⟩ d2).setCell ⟨g, 3, none⟩ d3).setCell ⟨g, 4, none⟩ d4).setCell ⟨g, 5, none⟩ d5).setCell ⟨g, 6, none⟩ d6).setCell ⟨g, 7, none⟩ d7) g t #[d0, d1, d2, d3, d4, d5, d6, d7, c8, c9, c10, c11, c12, c13, c14, c15] := h6.set_ 7 d7
  have h8 : Blk (((((((((w.setCell ⟨g, 0, none⟩ d0).setCell ⟨g, 1, none⟩ d1).setCell ⟨g, 2, none⟩ d2).setCell ⟨g, 3, none⟩ d3).setCell ⟨g, 4, none⟩ d4).setCell ⟨g, 5, none⟩ d5).setCell ⟨g, 6, none⟩ d6).setCell ⟨g, 7, none⟩ d7).setCell ⟨g, 8, none⟩ d8) g t #[d0, d1, d2, d3, d4, d5, d6, d7, d8, c9, c10, c11, c12, c13, c14, c15] := h7.set_ 8 d8
  have h9 : Blk ((((((((((w.setCell ⟨g, 0, none⟩ d0).setCell ⟨g, 1, none⟩ d1).setCell ⟨g, 2, none⟩ d2).setCell ⟨g, 3, none⟩ d3).setCell ⟨g, 4, none⟩ d4).setCell ⟨g, 5, none⟩ d5).setCell ⟨g, 6, none⟩ d6).setCell ⟨g, 7, none⟩ d7).setCell ⟨g, 8, none⟩ d8).setCell ⟨g, 9, none⟩ d9) g t #[d0, d1, d2, d3, d4, d5, d6, d7, d8, d9, c10, c11, c12, c13, c14, c15] := h8.set_ 9 d9
  have h10 : Blk (((((((((((w.setCell ⟨g, 0, none⟩ d0).setCell ⟨g, 1, none⟩ d1).setCell ⟨g, 2, none⟩ d2).setCell ⟨g, 3, none⟩ d3).setCell ⟨g, 4, none⟩ d4).setCell ⟨g, 5, none⟩ d5).setCell ⟨g, 6, none⟩ d6).setCell ⟨g, 7, none⟩ d7).setCell ⟨g, 8, none⟩ d8).setCell ⟨g, 9, none⟩ d9).setCell ⟨g, 10, none⟩ d10) g t #[d0, d1, d2, d3, d4, d5, d6, d7, d8, d9, d10, c11, c12, c13, c14, c15] := h9.set_ 10 d10
  have h11 : Blk ((((((((((((w.setCell ⟨g, 0, none⟩ d0).setCell ⟨g, 1, none⟩ d1).setCell ⟨g, 2, none⟩ d2).setCell ⟨g, 3, none⟩ d3).setCell ⟨g, 4, none⟩ d4).setCell ⟨g, 5, none⟩ d5).setCell ⟨g, 6, none⟩ d6).setCell ⟨g, 7, none⟩ d7).setCell ⟨g, 8, none⟩ d8).setCell ⟨g, 9, none⟩ d9).setCell ⟨g, 10, none⟩ d10).setCell ⟨g, 11, none⟩ d11) g t #[d0, d1, d2, d3, d4, d5, d6, d7, d8, d9, d10, d11, c12, c13, c14, c15] := h10.set_ 11 d11
  have h12 : Blk (((((((((((((w.setCell ⟨g, 0, none⟩ d0).setCell ⟨g, 1, none⟩ d1).setCell ⟨g, 2, none⟩ d2).setCell ⟨g, 3, none⟩ d3).setCell ⟨g, 4, none⟩ d4).setCell ⟨g, 5, none⟩ d5).setCell ⟨g, 6, none⟩ d6).setCell ⟨g, 7, none⟩ d7).setCell ⟨g, 8, none⟩ d8).setCell ⟨g, 9, none⟩ d9).setCell ⟨g, 10, none⟩ d10).setCell ⟨g, 11, none⟩ d11).setCell ⟨g, 12, none⟩ d12) g t #[d0, d1, d2, d3, d4, d5, d6, d7, d8, d9, d10, d11, d12, c13, c14, c15] := h11.set_ 12 d12
  have h13 : Blk ((((((((((((((w.setCell ⟨g, 0, none⟩ d0).setCell ⟨g, 1, none⟩ d1).setCell ⟨g, 2, none⟩ d2).setCell ⟨g, 3, none⟩ d3).setCell ⟨g, 4, none⟩ d4).setCell ⟨g, 5, none⟩ d5).setCell ⟨g, 6, none⟩ d6).setCell ⟨g, 7, none⟩ d7).setCell ⟨g, 8, none⟩ d8).setCell ⟨g, 9, none⟩ d9).setCell ⟨g, 10, none⟩ d10).setCell ⟨g, 11, none⟩ d11).setCell ⟨g, 12, none⟩ d12).setCell ⟨g, 13, none⟩ d13) g t #[d0, d1, d2, d3, d4, d5, d6, d7, d8, d9, d10, d11, d12, d13, c14, c15] := h12.set_ 13 d13
  have h14 : Blk (((((((((((((((w.setCell ⟨g, 0, none⟩ d0).setCell ⟨g, 1, none⟩ d1).setCell ⟨g, 2, none⟩ d2).setCell ⟨g, 3, none⟩ d3).setCell ⟨g, 4, none⟩ d4).setCell ⟨g, 5, none⟩ d5).setCell ⟨g, 6, none⟩ d6).setCell ⟨g, 7, none⟩ d7).setCell ⟨g, 8, none⟩ d8).setCell ⟨g, 9, none⟩ d9).setCell ⟨g, 10, none⟩ d10).setCell ⟨g, 11, none⟩ d11).setCell ⟨g, 12, none⟩ d12).setCell ⟨g, 13, none⟩ d13).setCell ⟨g, 14, none⟩ d14) g t #[d0, d1, d2, d3, d4, d5, d6, d7, d8, d9, d10, d11, d12, d13, d14, c15] := h13.set_ 14 d14
  have h15 : Blk ((((((((((((((((w.setCell ⟨g, 0, none⟩ d0).setCell ⟨g, 1, none⟩ d1).setCell ⟨g, 2, none⟩ d2).setCell ⟨g, 3, none⟩ d3).setCell ⟨g, 4, none⟩ d4).setCell ⟨g, 5, none⟩ d5).setCell ⟨g, 6, none⟩ d6).setCell ⟨g, 7, none⟩ d7).setCell ⟨g, 8, none⟩ d8).setCell ⟨g, 9, none⟩ d9).setCell ⟨g, 10, none⟩ d10).setCell ⟨g, 11, none⟩ d11).setCell ⟨g, 12, none⟩ d12).setCell ⟨g, 13, none⟩ d13).setCell ⟨g, 14, none⟩ d14).setCell ⟨g, 15, none⟩ d15) g t #[d0, d1, d2, d3, d4, d5, d6, d7, d8, d9, d10, d11, d12, d13, d14, d15] := h14.set_ 15 d15
  exact h15
set_option maxRecDepth 100000 in
set_option maxHeartbeats 4000000 in
theorem steps_c (w : World) : Calls Tryz.prog 348 #[] w fun r w' => r = .returned (.agg (tabA 16)) ∧ Below w.heap.size w w' := by
  go_enter Tryz.func348, Tryz.ntmps348
  go_upto_region 4 with (fail)
  obtain ⟨W1, hW⟩ : ∃ W1, W1 = (w.alloc (.cells (tabA 0) 392)).alloc (.cells (tabA 0) 392) := ⟨_, rfl⟩
  have R : Blk W1 w.heap.size 392 (tabA 0) := by rw [hW]; exact (Blk.new' rfl).alloc _
  have C : Blk W1 (w.heap.size + 1) 392 (tabA 0) := by rw [hW]; exact Blk.new' (by simp)
  have H : Below w.heap.size w W1 := by rw [hW]; go_grown
  rw [tabA_0] at hW
  rw [← hW]
  clear hW
  generalize hv : w.heap.size = nr at R C ⊢
  go_loopw [5] (fun i wr => ∃ k : Nat, k ≤ 16 ∧ i = .int .i64 k ∧ Blk wr nr 392 (tabA 0) ∧ Blk wr (nr + 1) 392 (tabA k) ∧ Below w.heap.size w wr) (fun i _ => 16 - (intOf i).toNat)
  case atStart => exact ⟨0, by omega, rfl, R, C, H⟩
  case round =>
    clear R C H
    obtain ⟨k, hk, rfl, R, C, H⟩ := hrel
    by_cases hlt : k < 16
    · go_upto_region 8 with (fail)
      have hs4 : ((k : Int) * (4096 : Int) : Int) = n16 (stN 0 (BitVec.ofNat 16 k <<< 12)) := by
        unfold n16 stN
        rw [BitVec.toNat_shiftLeft, Nat.shiftLeft_eq, BitVec.toNat_ofNat]
        omega
      have hd : decide ((k : Int) < 16) = true := by simp; omega
      rw [hs4, hd]
      clear hs4 hd
      go_loopw [4, 11] (fun c i wq => ∃ j : Nat, j ≤ 4 ∧ c = .int .u16 (n16 (stN j (BitVec.ofNat 16 k <<< 12))) ∧ i = .int .i64 j ∧ wq = wr) (fun _ i _ => 4 - (intOf i).toNat)
      case atStart => exact ⟨0, by omega, rfl, rfl, rfl⟩
      case round =>
        obtain ⟨j, hj, rfl, rfl, rfl⟩ := hrel
        by_cases hlj : j < 4
        · go_wp2_with fail
          refine (step_c _ _).mono ?_
          rintro e w1 ⟨rfl, rfl⟩
          rw [stN_succ]
          go_wp2_with fail
          go_roundw
          case rel => exact ⟨j + 1, by omega, rfl, by go_num, trivial⟩
          case measure => simp [intOf]; omega
        · obtain rfl : j = 4 := by omega
          have f := C.frz k
          have c0 : wr.cell? ⟨nr + 1, k, none⟩ = some (tc k k) := by rw [C.cell]; exact tabA_cell k hlt
          go_wp2_with fail
          rw [show stN 4 (BitVec.ofNat 16 k <<< 12) = tb (BitVec.ofNat 16 k) from rfl]
          refine ⟨⟨k + 1, hlt, by go_num, R.far (by simp) _, ?_, H.setCell (by simp; omega) _⟩, by simp [intOf]; omega⟩
          rw [← tabA_next k hlt]
          exact C.set_ k _
    · obtain rfl : k = 16 := by omega
      replace C : Blk wr (nr + 1) 392 #[.int .u16 (n16 (tb (BitVec.ofNat 16 0))), .int .u16 (n16 (tb (BitVec.ofNat 16 1))), .int .u16 (n16 (tb (BitVec.ofNat 16 2))), .int .u16 (n16 (tb (BitVec.ofNat 16 3))), .int .u16 (n16 (tb (BitVec.ofNat 16 4))), .int .u16 (n16 (tb (BitVec.ofNat 16 5))), .int .u16 (n16 (tb (BitVec.ofNat 16 6))), .int .u16 (n16 (tb (BitVec.ofNat 16 7))), .int .u16 (n16 (tb (BitVec.ofNat 16 8))), .int .u16 (n16 (tb (BitVec.ofNat 16 9))), .int .u16 (n16 (tb (BitVec.ofNat 16 10))), .int .u16 (n16 (tb (BitVec.ofNat 16 11))), .int .u16 (n16 (tb (BitVec.ofNat 16 12))), .int .u16 (n16 (tb (BitVec.ofNat 16 13))), .int .u16 (n16 (tb (BitVec.ofNat 16 14))), .int .u16 (n16 (tb (BitVec.ofNat 16 15)))] := C
      have h16 := C.cells16
      obtain ⟨k0, k1, k2, k3, k4, k5, k6, k7, k8, k9, k10, k11, k12, k13, k14, k15⟩ := h16
      replace R : Blk wr nr 392 #[.int .u16 0, .int .u16 0, .int .u16 0, .int .u16 0, .int .u16 0, .int .u16 0, .int .u16 0, .int .u16 0, .int .u16 0, .int .u16 0, .int .u16 0, .int .u16 0, .int .u16 0, .int .u16 0, .int .u16 0, .int .u16 0] := R
      have h16 := R.cells16
      obtain ⟨r0, r1, r2, r3, r4, r5, r6, r7, r8, r9, r10, r11, r12, r13, r14, r15⟩ := h16
      have h16 := R.frz16
      obtain ⟨f0, f1, f2, f3, f4, f5, f6, f7, f8, f9, f10, f11, f12, f13, f14, f15⟩ := h16
      go_wp2_with fail
      have R2 := R.st16 (.int .u16 (n16 (tb (BitVec.ofNat 16 0)))) (.int .u16 (n16 (tb (BitVec.ofNat 16 1)))) (.int .u16 (n16 (tb (BitVec.ofNat 16 2)))) (.int .u16 (n16 (tb (BitVec.ofNat 16 3)))) (.int .u16 (n16 (tb (BitVec.ofNat 16 4)))) (.int .u16 (n16 (tb (BitVec.ofNat 16 5)))) (.int .u16 (n16 (tb (BitVec.ofNat 16 6)))) (.int .u16 (n16 (tb (BitVec.ofNat 16 7)))) (.int .u16 (n16 (tb (BitVec.ofNat 16 8)))) (.int .u16 (n16 (tb (BitVec.ofNat 16 9)))) (.int .u16 (n16 (tb (BitVec.ofNat 16 10)))) (.int .u16 (n16 (tb (BitVec.ofNat 16 11)))) (.int .u16 (n16 (tb (BitVec.ofNat 16 12)))) (.int .u16 (n16 (tb (BitVec.ofNat 16 13)))) (.int .u16 (n16 (tb (BitVec.ofNat 16 14)))) (.int .u16 (n16 (tb (BitVec.ofNat 16 15))))
      have h16 := R2.cells16
      obtain ⟨d0, d1, d2, d3, d4, d5, d6, d7, d8, d9, d10, d11, d12, d13, d14, d15⟩ := h16
      exact bodyPost_ret (v := .agg #[.int .u16 (n16 (tb (BitVec.ofNat 16 0))), .int .u16 (n16 (tb (BitVec.ofNat 16 1))), .int .u16 (n16 (tb (BitVec.ofNat 16 2))), .int .u16 (n16 (tb (BitVec.ofNat 16 3))), .int .u16 (n16 (tb (BitVec.ofNat 16 4))), .int .u16 (n16 (tb (BitVec.ofNat 16 5))), .int .u16 (n16 (tb (BitVec.ofNat 16 6))), .int .u16 (n16 (tb (BitVec.ofNat 16 7))), .int .u16 (n16 (tb (BitVec.ofNat 16 8))), .int .u16 (n16 (tb (BitVec.ofNat 16 9))), .int .u16 (n16 (tb (BitVec.ofNat 16 10))), .int .u16 (n16 (tb (BitVec.ofNat 16 11))), .int .u16 (n16 (tb (BitVec.ofNat 16 12))), .int .u16 (n16 (tb (BitVec.ofNat 16 13))), .int .u16 (n16 (tb (BitVec.ofNat 16 14))), .int .u16 (n16 (tb (BitVec.ofNat 16 15)))]) (by simp [results, Tryz.results348, go_sem, d0, d1, d2, d3, d4, d5, d6, d7, d8, d9, d10, d11, d12, d13, d14, d15]) rfl ⟨rfl, by (repeat' (first | (with_reducible exact Below.refl _ _) | (with_reducible assumption) | (with_reducible refine Below.alloc ?_ ?_ _) | (with_reducible refine Below.drew ?_) | (with_reducible refine Below.setCell ?_ ?_ _) | (with_reducible refine after ?_ (below_regrown _ _ _)) | (refine after ?_ (by with_reducible assumption)) | go_size))⟩
end Go.Proofs.YtmbccnioijokfaaGreatDoor

namespace Go.Proofs.YtmbccnioijokfaaGreatDoor
open Go.RowKit
theorem nib_lt (c y : B16) (hy : n16 y < 16) : 0 ≤ n16 ((c >>> 12) ^^^ y) ∧ n16 ((c >>> 12) ^^^ y) < 16 ∧ ((c >>> 12) ^^^ y).toNat < 16 := by
  have h1 : ((c >>> 12) ^^^ y).toNat < 2 ^ 4 := by
    rw [BitVec.toNat_xor]
    refine Nat.xor_lt_two_pow ?_ ?_
    · rw [BitVec.toNat_ushiftRight, Nat.shiftRight_eq_div_pow]
      have := c.isLt
      omega
    · unfold n16 at hy; omega
  unfold n16
  omega
theorem nibh_lt (x : B8) : n16 (x.setWidth 16 >>> 4) < 16 := by
  rw [← nib8h, IntKind.wrap_u16]
  have := n8_lt x
  omega
theorem nibl_lt (x : B8) : n16 (x.setWidth 16 &&& 15#16) < 16 := by
  unfold n16
  rw [BitVec.toNat_and, show (15#16).toNat = 15 by decide]
  have : (x.setWidth 16).toNat &&& 15 ≤ 15 := Nat.and_le_right
  omega
theorem tab_cell {w : World} {g : Nat} {t : TypeId} (h : Blk w g t (tabA 16)) (i : B16) (hi : i.toNat < 16) : w.cell? ⟨g, (n16 i).toNat, none⟩ = some (.int .u16 (n16 (tb i))) := by
  rw [h.cell, show (n16 i).toNat = i.toNat from rfl, tabA_at _ hi]
  simp
set_option maxRecDepth 100000 in
set_option maxHeartbeats 4000000 in
theorem crcwith_c (c : B16) (q : Option Addr) (n cap : Nat) (F : Nat → B8) (hc : n ≤ cap) (hm : cap ≤ maxLen) (w : World) (hq : Byq w q n F) :
    Calls Tryz.prog 329 #[.int .u16 (n16 c), .slice q n cap] w fun r w' => r = .returned (.int .u16 (n16 (crcN c F n))) ∧ Below w.heap.size w w' := by
  go_enter Tryz.func329, Tryz.ntmps329
  go_wp2_with fail
  refine (steps_c _).mono ?_; rintro e w1 ⟨rfl, H⟩
  rw [show tabA 16 = #[.int .u16 (n16 (tb (BitVec.ofNat 16 0))), .int .u16 (n16 (tb (BitVec.ofNat 16 1))), .int .u16 (n16 (tb (BitVec.ofNat 16 2))), .int .u16 (n16 (tb (BitVec.ofNat 16 3))), .int .u16 (n16 (tb (BitVec.ofNat 16 4))), .int .u16 (n16 (tb (BitVec.ofNat 16 5))), .int .u16 (n16 (tb (BitVec.ofNat 16 6))), .int .u16 (n16 (tb (BitVec.ofNat 16 7))), .int .u16 (n16 (tb (BitVec.ofNat 16 8))), .int .u16 (n16 (tb (BitVec.ofNat 16 9))), .int .u16 (n16 (tb (BitVec.ofNat 16 10))), .int .u16 (n16 (tb (BitVec.ofNat 16 11))), .int .u16 (n16 (tb (BitVec.ofNat 16 12))), .int .u16 (n16 (tb (BitVec.ofNat 16 13))), .int .u16 (n16 (tb (BitVec.ofNat 16 14))), .int .u16 (n16 (tb (BitVec.ofNat 16 15)))] from rfl]
  go_upto_region 3 with (fail)
  obtain ⟨W1, hW⟩ : ∃ W1, W1 = w1.alloc (.cells #[.int .u16 (n16 (tb (BitVec.ofNat 16 0))), .int .u16 (n16 (tb (BitVec.ofNat 16 1))), .int .u16 (n16 (tb (BitVec.ofNat 16 2))), .int .u16 (n16 (tb (BitVec.ofNat 16 3))), .int .u16 (n16 (tb (BitVec.ofNat 16 4))), .int .u16 (n16 (tb (BitVec.ofNat 16 5))), .int .u16 (n16 (tb (BitVec.ofNat 16 6))), .int .u16 (n16 (tb (BitVec.ofNat 16 7))), .int .u16 (n16 (tb (BitVec.ofNat 16 8))), .int .u16 (n16 (tb (BitVec.ofNat 16 9))), .int .u16 (n16 (tb (BitVec.ofNat 16 10))), .int .u16 (n16 (tb (BitVec.ofNat 16 11))), .int .u16 (n16 (tb (BitVec.ofNat 16 12))), .int .u16 (n16 (tb (BitVec.ofNat 16 13))), .int .u16 (n16 (tb (BitVec.ofNat 16 14))), .int .u16 (n16 (tb (BitVec.ofNat 16 15)))] 392) := ⟨_, rfl⟩
  rw [← hW]
  have C : Blk W1 w1.heap.size 392 (tabA 16) := Blk.fresh hW
  replace hq := hq.on H
  have hb1 : Below w1.heap.size w1 W1 := by rw [hW]; exact (Below.refl _ _).alloc (Nat.le_refl _) _
  replace hq := hq.on hb1
  replace H := after H hb1
  clear hW hb1
  generalize w1.heap.size = nc at *
  generalize Value.agg #[.int .u16 (n16 (tb (BitVec.ofNat 16 0))), .int .u16 (n16 (tb (BitVec.ofNat 16 1))), .int .u16 (n16 (tb (BitVec.ofNat 16 2))), .int .u16 (n16 (tb (BitVec.ofNat 16 3))), .int .u16 (n16 (tb (BitVec.ofNat 16 4))), .int .u16 (n16 (tb (BitVec.ofNat 16 5))), .int .u16 (n16 (tb (BitVec.ofNat 16 6))), .int .u16 (n16 (tb (BitVec.ofNat 16 7))), .int .u16 (n16 (tb (BitVec.ofNat 16 8))), .int .u16 (n16 (tb (BitVec.ofNat 16 9))), .int .u16 (n16 (tb (BitVec.ofNat 16 10))), .int .u16 (n16 (tb (BitVec.ofNat 16 11))), .int .u16 (n16 (tb (BitVec.ofNat 16 12))), .int .u16 (n16 (tb (BitVec.ofNat 16 13))), .int .u16 (n16 (tb (BitVec.ofNat 16 14))), .int .u16 (n16 (tb (BitVec.ofNat 16 15)))] = tab
  go_loopw [0, 11] (fun c' i wq => ∃ k : Nat, k ≤ n ∧ c' = .int .u16 (n16 (crcN c F k)) ∧ i = .int .i64 k ∧ wq = W1) (fun _ i _ => n - (intOf i).toNat)
  case atStart => exact ⟨0, by omega, rfl, rfl, rfl⟩
  case round =>
    obtain ⟨k, hk, rfl, rfl, rfl⟩ := hrel
    by_cases hlt : k < n
    · obtain ⟨g, o, rfl, B⟩ := hq (by omega)
      have hb := B k hlt
      generalize hx : F k = x at hb
      generalize hcc : crcN c F k = cc
      go_upto_region 5 with (fail)
      obtain ⟨xh, hxh⟩ : ∃ xh, xh = (x.setWidth 16 : B16) >>> 4 := ⟨_, rfl⟩
      obtain ⟨ix, hix⟩ : ∃ ix, ix = (cc >>> 12) ^^^ xh := ⟨_, rfl⟩
      obtain ⟨i0, i1, i2⟩ : 0 ≤ n16 ix ∧ n16 ix < 16 ∧ ix.toNat < 16 := by rw [hix, hxh]; exact nib_lt cc _ (nibh_lt x)
      have c1 := tab_cell C ix i2
      have hs1 : bits .xor .u16 (n16 cc / 4096) (IntKind.u16.wrap (n8 x / 16)) = n16 ix := by rw [hix, hxh, ← xor16, ← nib8h]; exact congrArg (fun v => bits .xor .u16 v _) (shr16 cc 12 4096 rfl)
      have hs2 : bits .xor .u16 (IntKind.u16.wrap (n16 cc * 16)) (n16 (tb ix)) = n16 (nib cc xh) := by
        unfold nib
        rw [← hix, ← xor16, show IntKind.u16.wrap (n16 cc * 16) = n16 (cc <<< 4) from shl16 cc 4 16 rfl]
      have HX : Hid (F k = x) := hx
      have HC : Hid (crcN c F k = cc) := hcc
      have HH : Hid (xh = (x.setWidth 16 : B16) >>> 4) := hxh
      clear hix hx hcc i2 hxh
      go_upto_region 6 with (fail)
      obtain ⟨c2, hc2⟩ : ∃ c2, c2 = nib cc xh := ⟨_, rfl⟩
      rw [← hc2]
      clear hs1 hs2 c1 i0 i1
      obtain ⟨xl, hxl⟩ : ∃ xl, xl = (x.setWidth 16 : B16) &&& 15#16 := ⟨_, rfl⟩
      obtain ⟨iy, hiy⟩ : ∃ iy, iy = (c2 >>> 12) ^^^ xl := ⟨_, rfl⟩
      obtain ⟨i0, i1, i2⟩ : 0 ≤ n16 iy ∧ n16 iy < 16 ∧ iy.toNat < 16 := by rw [hiy, hxl]; exact nib_lt c2 _ (nibl_lt x)
      have c1 := tab_cell C iy i2
      have hs1 : bits .xor .u16 (n16 c2 / 4096) (IntKind.u16.wrap (bits .and .u8 (n8 x) 15)) = n16 iy := by rw [hiy, hxl, ← xor16, ← nib8l]; exact congrArg (fun v => bits .xor .u16 v _) (shr16 c2 12 4096 rfl)
      have hs2 : bits .xor .u16 (IntKind.u16.wrap (n16 c2 * 16)) (n16 (tb iy)) = n16 (nib c2 xl) := by
        unfold nib
        rw [← hiy, ← xor16, show IntKind.u16.wrap (n16 c2 * 16) = n16 (c2 <<< 4) from shl16 c2 4 16 rfl]
      have hfin : nib c2 xl = crcN c F (k + 1) := by
        show _ = crcUp (crcN c F k) (F k)
        rw [hc2, hxl, HH.out, nib_nib, HX.out, HC.out]
      rw [hfin] at hs2
      clear hc2 hxl hiy i2 hfin
      go_wp2_with fail
      have hkw := next64 hc hm hlt
      go_roundw
      case rel => exact ⟨k + 1, hlt, rfl, next_val hkw, trivial⟩
      case measure => exact next_less hlt hkw
    · obtain rfl : k = n := by omega
      go_wp2_with fail
      go_returns
      exact ⟨rfl, by (repeat' (first | (with_reducible exact Below.refl _ _) | (with_reducible assumption) | (with_reducible refine Below.alloc ?_ ?_ _) | (with_reducible refine Below.drew ?_) | (with_reducible refine Below.setCell ?_ ?_ _) | (with_reducible refine after ?_ (below_regrown _ _ _)) | (refine after ?_ (by with_reducible assumption)) | go_size))⟩
end Go.Proofs.YtmbccnioijokfaaGreatDoor

namespace Go.Proofs.YtmbccnioijokfaaGreatDoor
open Go.RowKit
def solB (n : Int) : Bool := n == -1 || n == 1 || n == 2 || n == 3 || n == 5
def wetB (n : Int) : Bool := decide (8 ≤ n) && decide (n ≤ 15)
def cliB (n : Int) : Bool := n == 4
theorem sol_ways (n : Int) : ((n == -1) = true ∧ solB n = true) ∨ ((n == -1) = false ∧ (n == 1) = true ∧ solB n = true) ∨ ((n == -1) = false ∧ (n == 1) = false ∧ (n == 2) = true ∧ solB n = true) ∨
    ((n == -1) = false ∧ (n == 1) = false ∧ (n == 2) = false ∧ (n == 3) = true ∧ solB n = true) ∨ ((n == -1) = false ∧ (n == 1) = false ∧ (n == 2) = false ∧ (n == 3) = false ∧ (n == 5) = true ∧ solB n = true) ∨
    ((n == -1) = false ∧ (n == 1) = false ∧ (n == 2) = false ∧ (n == 3) = false ∧ (n == 5) = false ∧ solB n = false) := by
  unfold solB
  cases (n == -1) <;> cases (n == 1) <;> cases (n == 2) <;> cases (n == 3) <;> cases (n == 5) <;> simp
theorem wet_ways (n : Int) : (decide (8 ≤ n) = false ∧ wetB n = false) ∨ (decide (8 ≤ n) = true ∧ decide (n ≤ 15) = true ∧ decide (n < 16) = true ∧ wetB n = true) ∨ (decide (8 ≤ n) = true ∧ decide (n ≤ 15) = false ∧ decide (n < 16) = false ∧ wetB n = false) := by
  unfold wetB
  by_cases h1 : 8 ≤ n <;> by_cases h2 : n ≤ 15 <;> simp [h1, h2] <;> omega
theorem solid_c (n : Int) (w : World) : Calls Tryz.prog 144 #[.int .i64 n] w fun r w' => r = .returned (.bool (solB n)) ∧ w = w' := by
  rcases sol_ways n with ⟨h1, h⟩ | ⟨h1, h2, h⟩ | ⟨h1, h2, h3, h⟩ | ⟨h1, h2, h3, h4, h⟩ | ⟨h1, h2, h3, h4, h5, h⟩ | ⟨h1, h2, h3, h4, h5, h⟩
  all_goals
    rw [h]
    clear h
    go_enter Tryz.func144, Tryz.ntmps144
    go_wp2_with fail
    go_returns
    exact ⟨rfl, rfl⟩
theorem climbs_c (n : Int) (w : World) : Calls Tryz.prog 313 #[.int .i64 n] w fun r w' => r = .returned (.bool (cliB n)) ∧ w = w' := by
  go_enter Tryz.func313, Tryz.ntmps313
  go_wp2_with fail
  go_returns
  exact ⟨ret_b rfl, rfl⟩
theorem wet_c (n : Int) (w : World) : Calls Tryz.prog 259 #[.int .i64 n] w fun r w' => r = .returned (.bool (wetB n)) ∧ w = w' := by
  rcases wet_ways n with ⟨h1, h⟩ | ⟨h1, h2, h3, h⟩ | ⟨h1, h2, h3, h⟩
  all_goals
    rw [h]
    clear h
    go_enter Tryz.func259, Tryz.ntmps259
    go_wp2_with fail
    go_returns
    exact ⟨rfl, rfl⟩
end Go.Proofs.YtmbccnioijokfaaGreatDoor

namespace Go.Proofs.YtmbccnioijokfaaGreatDoor
open Go.RowKit
attribute [local go_sem] Oper.semAt_some
set_option maxRecDepth 100000 in
set_option maxHeartbeats 1000000 in
theorem cfrom_c (x z : Int) (i : Nat) (hi : i < 8192) (hx : -70368744177664 ≤ x ∧ x ≤ 70368744177664) (hz : -70368744177664 ≤ z ∧ z ≤ 70368744177664) (w : World) :
    Calls Tryz.prog 218 #[.agg #[.int .i64 x, .int .i64 z], .int .i64 i] w fun e w' => e = .returned (.tuple #[.agg #[.int .i64 (x * 16 + (i : Int) % 16), .int .i64 ((i : Int) / 256), .int .i64 (z * 16 + (i : Int) / 16 % 16)], .bool true]) ∧ Below w.heap.size w w' := by
  obtain ⟨W, hW⟩ : ∃ W, W = (w.alloc (.cells #[.int .i64 x, .int .i64 z] 123)).alloc (.cells #[.int .i64 0, .int .i64 0, .int .i64 0] 43) := ⟨_, rfl⟩
  have H : Below w.heap.size w W := by rw [hW]; go_grown
  have U : Blk W w.heap.size 123 #[.int .i64 x, .int .i64 z] := by rw [hW]; exact (Blk.new' rfl).alloc _
  have R : Blk W (w.heap.size + 1) 43 #[.int .i64 0, .int .i64 0, .int .i64 0] := by rw [hW]; exact Blk.new' (by simp)
  obtain ⟨u0, u1, -, -⟩ := U.pair
  obtain ⟨r0, r1, r2, s0, s1, s2⟩ := R.c3
  have e1 : (i : Int).tdiv 256 = (i : Int) / 256 := Int.tdiv_eq_ediv_of_nonneg (by omega)
  have e2 : (i : Int).tmod 16 = (i : Int) % 16 := Int.tmod_eq_emod_of_nonneg (by omega)
  have hi1 : (i : Int) < 8192 := by omega
  have hi0 : (0 : Int) ≤ i := by omega
  have HW := Lib.hid (show w.heap.size ≤ w.heap.size + 1 by omega)
  go_enter Tryz.func218, Tryz.ntmps218
  go_upto_region 1 with (fail)
  rw [← hW]
  clear hW
  generalize w.heap.size + 1 = g at *
  go_wp2_with fail
  have R2 := R.st3 (.int .i64 (x * 16 + (i : Int) % 16)) (.int .i64 ((i : Int) / 256)) (.int .i64 (z * 16 + (i : Int) / 16 % 16))
  obtain ⟨d0, d1, d2, -, -, -⟩ := R2.c3
  exact bodyPost_ret (v := .tuple #[.agg #[.int .i64 (x * 16 + (i : Int) % 16), .int .i64 ((i : Int) / 256), .int .i64 (z * 16 + (i : Int) / 16 % 16)], .bool true]) (by simp [results, Tryz.results218, go_sem, d0, d1, d2]) rfl ⟨rfl, far_below3 (Below.refl _ _) H HW.out rfl⟩
def besides (x z : Int) : Array Value := #[.int .i64 x, .int .i64 z, .int .i64 (x - 1), .int .i64 z, .int .i64 (x + 1), .int .i64 z, .int .i64 x, .int .i64 (z - 1), .int .i64 x, .int .i64 (z + 1)]
set_option maxRecDepth 100000 in
set_option maxHeartbeats 1000000 in
theorem cbeside_c (x z : Int) (hx : -70368744177664 ≤ x ∧ x ≤ 70368744177664) (hz : -70368744177664 ≤ z ∧ z ≤ 70368744177664) (w : World) :
    Calls Tryz.prog 235 #[.agg #[.int .i64 x, .int .i64 z]] w fun e w' => e = .returned (.agg (besides x z)) ∧ Below w.heap.size w w' := by
  unfold besides
  obtain ⟨W, hW⟩ : ∃ W, W = (w.alloc (.cells #[.int .i64 x, .int .i64 z] 123)).alloc (.cells #[.int .i64 0, .int .i64 0, .int .i64 0, .int .i64 0, .int .i64 0, .int .i64 0, .int .i64 0, .int .i64 0, .int .i64 0, .int .i64 0] 297) := ⟨_, rfl⟩
  have H : Below w.heap.size w W := by rw [hW]; go_grown
  have U : Blk W w.heap.size 123 #[.int .i64 x, .int .i64 z] := by rw [hW]; exact (Blk.new' rfl).alloc _
  have R : Blk W (w.heap.size + 1) 297 #[.int .i64 0, .int .i64 0, .int .i64 0, .int .i64 0, .int .i64 0, .int .i64 0, .int .i64 0, .int .i64 0, .int .i64 0, .int .i64 0] := by rw [hW]; exact Blk.new' (by simp)
  obtain ⟨u0, u1, -, -⟩ := U.pair
  have r0 := R.cell 0
  have r1 := R.cell 1
  have r2 := R.cell 2
  have r3 := R.cell 3
  have r4 := R.cell 4
  have r5 := R.cell 5
  have r6 := R.cell 6
  have r7 := R.cell 7
  have r8 := R.cell 8
  have r9 := R.cell 9
  have f0 := R.frz 0
  have f1 := R.frz 1
  have f2 := R.frz 2
  have f3 := R.frz 3
  have f4 := R.frz 4
  have f5 := R.frz 5
  have f6 := R.frz 6
  have f7 := R.frz 7
  have f8 := R.frz 8
  have f9 := R.frz 9
  have HW := Lib.hid (show w.heap.size ≤ w.heap.size + 1 by omega)
  go_enter Tryz.func235, Tryz.ntmps235
  go_upto_region 1 with (fail)
  rw [← hW]
  clear hW
  generalize w.heap.size + 1 = g at *
  go_wp2_with fail
  have R2 := (((((((((R.set_ 0 (.int .i64 x)).set_ 1 (.int .i64 z)).set_ 2 (.int .i64 (x - 1))).set_ 3 (.int .i64 z)).set_ 4 (.int .i64 (x + 1))).set_ 5 (.int .i64 z)).set_ 6 (.int .i64 x)).set_ 7 (.int .i64 (z - 1))).set_ 8 (.int .i64 x)).set_ 9 (.int .i64 (z + 1))
  have d0 := R2.cell 0
  have d1 := R2.cell 1
  have d2 := R2.cell 2
  have d3 := R2.cell 3
  have d4 := R2.cell 4
  have d5 := R2.cell 5
  have d6 := R2.cell 6
  have d7 := R2.cell 7
  have d8 := R2.cell 8
  have d9 := R2.cell 9
  simp only [List.setIfInBounds_toArray, List.set_cons_zero, List.set_cons_succ, List.getElem?_toArray, List.getElem?_cons_zero, List.getElem?_cons_succ] at d0 d1 d2 d3 d4 d5 d6 d7 d8 d9
  refine bodyPost_ret (v := .agg #[.int .i64 x, .int .i64 z, .int .i64 (x - 1), .int .i64 z, .int .i64 (x + 1), .int .i64 z, .int .i64 x, .int .i64 (z - 1), .int .i64 x, .int .i64 (z + 1)]) (by simp [results, Tryz.results235, go_sem, d0, d1, d2, d3, d4, d5, d6, d7, d8, d9]) rfl ⟨rfl, ?_⟩
  have h0 := HW.out
  repeat (refine Below.setCell ?_ (by dsimp only; omega) _)
  exact H
set_option maxRecDepth 100000 in
set_option maxHeartbeats 2000000 in
theorem cbox_c (x y z : Int) (w : World) : Calls Tryz.prog 187 #[.agg #[.int .i64 x, .int .i64 y, .int .i64 z]] w fun e w' =>
    e = .returned (.agg #[.int .i64 (ofI x), .int .i64 (ofI y), .int .i64 (ofI z), .int .i64 (addI (ofI x) 65536), .int .i64 (addI (ofI y) 65536), .int .i64 (addI (ofI z) 65536)]) ∧ Below w.heap.size w w' := by
  obtain ⟨W0, hW⟩ : ∃ W0, W0 = (w.alloc (.cells #[.int .i64 x, .int .i64 y, .int .i64 z] 43)).alloc (.cells #[.int .i64 0, .int .i64 0, .int .i64 0, .int .i64 0, .int .i64 0, .int .i64 0] 210) := ⟨_, rfl⟩
  have H : Below w.heap.size w W0 := by rw [hW]; go_grown
  have X : Blk W0 w.heap.size 43 #[.int .i64 x, .int .i64 y, .int .i64 z] := by rw [hW]; exact (Blk.new' rfl).alloc _
  have R : Blk W0 (w.heap.size + 1) 210 #[.int .i64 0, .int .i64 0, .int .i64 0, .int .i64 0, .int .i64 0, .int .i64 0] := by rw [hW]; exact Blk.new' (by simp)
  obtain ⟨k0, k1, k2⟩ := X.re3
  have HR := Lib.hid (show w.heap.size ≤ w.heap.size + 1 by omega)
  go_enter Tryz.func187, Tryz.ntmps187
  go_upto_region 1 with (fail)
  rw [← hW]
  clear hW X
  generalize w.heap.size + 1 = g at *
  refine wp_region_float (t := 38) (z := #[.int .i64 0, .int .i64 0, .int .i64 0]) 10 3 (by kernel_rfl) rfl (by kernel_rfl) rfl (fun _ _ => by kernel_rfl) ?_
  simp only [List.take_succ_cons, List.take_zero, List.drop_succ_cons, List.drop_zero]
  repeat (refine wpRel_step (fun K hK => ?_); go_simp; first | (refine hK _ ?_; clear hK K) | (apply Exists.intro; refine ⟨fun _ => ?_, hK _ ?_⟩; (exact calls_bel (of_c _ _)); clear hK K))
  refine wpRel_nil ?_
  intro b W hb hB hle
  clear k0 k1 k2
  obtain ⟨k0, k1, k2, f0, f1, f2⟩ := hB.c3
  simp only [Act.put]
  go_upto_region 2 with (fail)
  obtain ⟨W4, hW⟩ : ∃ W4, W4 = ((W.setCell ⟨b, 0, none⟩ (.int .i64 (ofI x))).setCell ⟨b, 1, none⟩ (.int .i64 (ofI y))).setCell ⟨b, 2, none⟩ (.int .i64 (ofI z)) := ⟨_, rfl⟩
  rw [← hW]
  clear k0 k1 k2 f0 f1 f2
  replace R := R.far3 hb hle hW
  replace B := hB.put3 hW
  replace H := far_below3 H hb hle hW
  clear hW hb hle hB
  obtain ⟨k0, k1, k2⟩ := B.re3
  refine wp_region_last_below 5 (by kernel_rfl) rfl (by kernel_rfl) ?_
  simp only [List.take_succ_cons, List.take_zero, List.drop_succ_cons, List.drop_zero]
  repeat (go_big_quiet_step (exact Calls.regrown_of (add_c _ _ _ _ _ _ _)))
  refine wpQuiet_nil ?_
  intro w' hw'
  obtain ⟨rg, rfl⟩ := hw'
  clear k0 k1 k2 B
  replace R := R.re rg.d rg.os
  replace H : Below w.heap.size w (Go.Sort.grow (redrawn W4 rg.d) rg.os) := after H (below_regrown W4 rg.d rg.os)
  obtain ⟨⟨r0, r1, r2, r3, r4, r5⟩, s0, s1, s2, s3, s4, s5⟩ := R.c6
  go_wp2_with fail
  have R2 := R.st6 (.int .i64 (ofI x)) (.int .i64 (ofI y)) (.int .i64 (ofI z)) (.int .i64 (addI (ofI x) 65536)) (.int .i64 (addI (ofI y) 65536)) (.int .i64 (addI (ofI z) 65536))
  obtain ⟨⟨d0, d1, d2, d3, d4, d5⟩, -, -, -, -, -, -⟩ := R2.c6
  refine bodyPost_ret (v := .agg #[.int .i64 (ofI x), .int .i64 (ofI y), .int .i64 (ofI z), .int .i64 (addI (ofI x) 65536), .int .i64 (addI (ofI y) 65536), .int .i64 (addI (ofI z) 65536)]) (by simp [results, Tryz.results187, go_sem, d0, d1, d2, d3, d4, d5]) rfl ⟨rfl, ?_⟩
  have h0 := HR.out
  repeat (refine Below.setCell ?_ (by dsimp only; omega) _)
  exact H
end Go.Proofs.YtmbccnioijokfaaGreatDoor

namespace Go.Proofs.YtmbccnioijokfaaGreatDoor
open Go.RowKit
def isI (a b c d e f : Int) : Bool := !(thinI a d || (thinI b e || thinI c f))
def zI (is : Bool) (n : Int) : Int := if is then n else 0
abbrev spanV (a b c d e f : Int) : Value := .tuple #[.agg #[.int .i64 (zI (isI a b c d e f) (lowI a)), .int .i64 (zI (isI a b c d e f) (lowI b)), .int .i64 (zI (isI a b c d e f) (lowI c))],
  .agg #[.int .i64 (zI (isI a b c d e f) (topI a d)), .int .i64 (zI (isI a b c d e f) (topI b e)), .int .i64 (zI (isI a b c d e f) (topI c f))], .bool (isI a b c d e f)]
abbrev arr3 (f : Nat → Int) : Array Value := #[.int .i64 (f 0), .int .i64 (f 1), .int .i64 (f 2)]
theorem arr3_ext {f g : Nat → Int} (h : ∀ j, j < 3 → f j = g j) : arr3 f = arr3 g := by unfold arr3; rw [h 0 (by omega), h 1 (by omega), h 2 (by omega)]
theorem thin_no {a b c d e f : Int} {k : Nat} (hk : k < 3) (h : thinI (axI a b c k) (axI d e f k) = true) : isI a b c d e f = false := by
  match k, hk with
  | 0, _ => have : thinI a d = true := h; simp [isI, this]
  | 1, _ => have : thinI b e = true := h; simp [isI, this]
  | 2, _ => have : thinI c f = true := h; simp [isI, this]
theorem thin_yes {a b c d e f : Int} (h : ∀ j : Nat, j < 3 → thinI (axI a b c j) (axI d e f j) = false) : isI a b c d e f = true := by
  have h0 : thinI a d = false := h 0 (by omega)
  have h1 : thinI b e = false := h 1 (by omega)
  have h2 : thinI c f = false := h 2 (by omega)
  simp [isI, h0, h1, h2]
theorem thin_next {a b c d e f : Int} {k : Nat} (h : ∀ j : Nat, j < k → thinI (axI a b c j) (axI d e f j) = false) (hk : thinI (axI a b c k) (axI d e f k) = false) : ∀ j : Nat, j < k + 1 → thinI (axI a b c j) (axI d e f j) = false := fun j hj => by
  by_cases e' : j = k
  · subst e'; exact hk
  · exact h j (by omega)
theorem ax_bd {a b c : Int} (ha : -140737488355328 ≤ a ∧ a ≤ 140737488355328) (hb : -140737488355328 ≤ b ∧ b ≤ 140737488355328) (hc : -140737488355328 ≤ c ∧ c ≤ 140737488355328) (k : Int) : -140737488355328 ≤ axI a b c k ∧ axI a b c k ≤ 140737488355328 := by
  unfold axI
  split
  · exact ha
  · split
    · exact hb
    · split
      · exact hc
      · omega
theorem lowI_bd (n : Int) : -2147483648 ≤ lowI n ∧ lowI n ≤ 2147483648 := by
  have h1 := cutI_lo n
  have h2 := cutI_hi n
  unfold lowI
  omega
end Go.Proofs.YtmbccnioijokfaaGreatDoor

namespace Go.Proofs.YtmbccnioijokfaaGreatDoor
open Go.RowKit
structure BoxOk (a b c d e f : Int) : Prop where
  a1 : -140737488355328 ≤ a
  b1 : -140737488355328 ≤ b
  c1 : -140737488355328 ≤ c
  d2 : d ≤ 140737488355328
  e2 : e ≤ 140737488355328
  f2 : f ≤ 140737488355328
  ad : a ≤ d
  be : b ≤ e
  cf : c ≤ f
def pkI (n m lo hi : Int) : Int := if n = m then lo else hi
theorem thin_p (n m lo hi : Int) (w : World) : Calls Tryz.prog 353 #[.int .i64 n, .int .i64 m, .int .i64 lo, .int .i64 hi] w fun r w' => r = .returned (.int .i64 (pkI n m lo hi)) ∧ Below w.heap.size w w' := calls_bel (thin_c n m lo hi w)
theorem topI_prog2 {n m : Int} (h1 : -140737488355328 ≤ n) (h2 : m ≤ 140737488355328) (h : n ≤ m) : pkI n m (lowI n) (lowI (addI m (-1))) = topI n m := by
  rw [← topI_prog h1 h2 h]; unfold pkI lowI addI; rw [cutI_cut]
def pthinB (n m : Int) : Bool := (n == m) && (cutI n % 65536 == 0)
theorem pthin_ways (n m : Int) : ((n == m) = false ∧ pthinB n m = false) ∨ ((n == m) = true ∧ (cutI n % 65536 == 0) = false ∧ pthinB n m = false) ∨ ((n == m) = true ∧ (cutI n % 65536 == 0) = true ∧ pthinB n m = true) := by
  unfold pthinB
  cases (n == m) <;> cases (cutI n % 65536 == 0) <;> simp
theorem pthin_is {n m : Int} (h1 : -140737488355328 ≤ n) (h2 : n ≤ 140737488355328) : pthinB n m = thinI n m := thinI_prog h1 h2
set_option maxRecDepth 100000 in
set_option maxHeartbeats 8000000 in
theorem span_c (a b c d e f : Int) (hB : BoxOk a b c d e f) (w : World) : Calls Tryz.prog 338 #[.agg #[.int .i64 a, .int .i64 b, .int .i64 c, .int .i64 d, .int .i64 e, .int .i64 f]] w fun r w' => r = .returned (spanV a b c d e f) ∧ Below w.heap.size w w' := by
  obtain ⟨W, hW⟩ : ∃ W, W = ((w.alloc (.cells #[.int .i64 a, .int .i64 b, .int .i64 c, .int .i64 d, .int .i64 e, .int .i64 f] 210)).alloc (.cells #[.int .i64 0, .int .i64 0, .int .i64 0] 43)).alloc (.cells #[.int .i64 0, .int .i64 0, .int .i64 0] 43) := ⟨_, rfl⟩
  have H : Below w.heap.size w W := by rw [hW]; go_grown
  have A : Blk W w.heap.size 210 #[.int .i64 a, .int .i64 b, .int .i64 c, .int .i64 d, .int .i64 e, .int .i64 f] := by rw [hW]; exact ((Blk.new' rfl).alloc _).alloc _
  have L : Blk W (w.heap.size + 1) 43 #[.int .i64 0, .int .i64 0, .int .i64 0] := by rw [hW]; exact (Blk.new' (by simp)).alloc _
  have T : Blk W (w.heap.size + 1 + 1) 43 #[.int .i64 0, .int .i64 0, .int .i64 0] := by rw [hW]; exact Blk.new' (by simp)
  have hs : W.heap.size = w.heap.size + 3 := by rw [hW]; simp
  obtain ⟨N, hN⟩ : ∃ N, N = w.heap.size := ⟨_, rfl⟩
  rw [← hN] at A L T hs
  have HS := Lib.hid hs
  clear hs
  have HB := Lib.hid hB
  clear hB
  go_enter Tryz.func338, Tryz.ntmps338
  go_upto_region 1 with (fail)
  rw [← hW, ← hN]
  have HN := Lib.hid hN
  clear hN hW
  obtain ⟨a0, a1, a2, a3, a4, a5⟩ := A.c6.1
  go_wp2_with fail
  refine (cof_c _ _ _ _).mono ?_; rintro e w1 ⟨rfl, h1⟩
  go_upto_region 2 with (fail)
  generalize hV : World.alloc w1 _ = W1
  have X := Blk.fresh hV.symm
  replace A := A.step h1 hV.symm
  replace L := L.step h1 hV.symm
  replace T := T.step h1 hV.symm
  replace H := step_below H h1 hV.symm
  have hg : N + 3 ≤ w1.heap.size := by rw [← HS.out]; exact h1.size
  clear hV h1 a0 a1 a2 a3 a4 a5
  generalize w1.heap.size = g at X hg ⊢
  obtain ⟨a0, a1, a2, a3, a4, a5⟩ := A.c6.1
  go_wp2_with fail
  refine (add_c _ _ _ _ _ _ _).mono ?_; rintro e w1 ⟨rfl, h1⟩
  go_wp2_with fail
  refine (cof_c _ _ _ _).mono ?_; rintro e w1 ⟨rfl, h2⟩
  replace h1 := after h1 h2
  clear h2
  go_upto_region 3 with (fail)
  generalize hV : World.alloc w1 _ = W2
  have Y := Blk.fresh hV.symm
  replace A := A.step h1 hV.symm
  replace L := L.step h1 hV.symm
  replace T := T.step h1 hV.symm
  have hgX := X.lt
  replace X := X.step h1 hV.symm
  replace H := step_below H h1 hV.symm
  have hg2 : g < w1.heap.size := Nat.lt_of_lt_of_le hgX h1.size
  clear hV h1 hgX a0 a1 a2 a3 a4 a5
  generalize w1.heap.size = g2 at Y hg2 ⊢
  go_upto_region 4 with (fail)
  go_loopw [19] (fun i wr => ∃ k : Nat, k ≤ 3 ∧ i = .int .i64 k ∧ Blk wr N 210 #[.int .i64 a, .int .i64 b, .int .i64 c, .int .i64 d, .int .i64 e, .int .i64 f] ∧ Blk wr (N + 1) 43 #[.int .i64 0, .int .i64 0, .int .i64 0] ∧ Blk wr (N + 1 + 1) 43 #[.int .i64 0, .int .i64 0, .int .i64 0] ∧
    Blk wr g 43 #[.int .i64 (lowI a), .int .i64 (lowI b), .int .i64 (lowI c)] ∧ Blk wr g2 43 #[.int .i64 (lowI (addI d (-1))), .int .i64 (lowI (addI e (-1))), .int .i64 (lowI (addI f (-1)))] ∧ Hid (∀ j : Nat, j < k → thinI (axI a b c j) (axI d e f j) = false) ∧ Below w.heap.size w wr) (fun i _ => 3 - (intOf i).toNat)
  case atStart => exact ⟨0, by omega, rfl, A, L, T, X, Y, fun j hj => by omega, H⟩
  case round =>
    clear A L T X Y H
    obtain ⟨k, hk, rfl, A, L, T, X, Y, Z, H⟩ := hrel
    by_cases hk3 : k = 3
    · subst hk3
      have HT := Lib.hid (thin_yes Z.out)
      obtain ⟨k0, k1, k2, k3, k4, k5⟩ := A.re6
      obtain ⟨x0, x1, x2⟩ := X.re3
      obtain ⟨y0, y1, y2⟩ := Y.re3
      go_upto_region 11 with (fail)
      refine wp_sched [0, 0, 0, 0, 0, 0, 0, 0, 0, 0, 0, 0, 0, 0, 0, 0, 0, 0, 0, 0, 0, 0, 0, 0, 0, 0, 0, 0, 0, 0, 0, 0, 0, 0, 0, 0, 1, 3, 1, 3, 1, 3] (fun _ _ _ => True) (by kernel_rfl) (by kernel_rfl) (fun _ _ _ _ h _ => h) ?_
      repeat (first | (refine wpQs_s ?_) | (refine wpQs_q (fun K hK => ?_); go_simp; first | (refine hK _ ?_; clear hK K) | (apply Exists.intro; refine ⟨fun _ => ?_, hK _ ?_⟩; (exact thin_p _ _ _ _ _); clear hK K)) | (refine wpQs_f (fun K hK => ?_); go_simp; refine hK _ ?_; clear hK K))
      refine wpQs_nil ?_
      repeat (first | (refine wpLs_skip ?_) | (refine wpLs_one ?lsA (fun v_ => ?_); case lsA => (intro w_ hw_ hp_; (fail))))
      refine wpLs_nilB ?_
      simp only [tails]
      intro w2 h2 _
      replace A := A.on h2
      replace L := L.on h2
      replace T := T.on h2
      replace X := X.on h2
      replace Y := Y.on h2
      replace H := after H h2
      clear h2 k0 k1 k2 k3 k4 k5 x0 x1 x2 y0 y1 y2
      obtain ⟨y0, y1, y2, f0, f1, f2⟩ := Y.c3
      go_upto_region 12 with (fail)
      generalize h4 : World.setCell (World.setCell (World.setCell w2 _ _) _ _) _ _ = w4
      replace L := Blk.eqw h4 (((L.far (p := ⟨g2, 0, none⟩) (by dsimp only; omega) _).far (p := ⟨g2, 1, none⟩) (by dsimp only; omega) _).far (p := ⟨g2, 2, none⟩) (by dsimp only; omega) _)
      replace T := Blk.eqw h4 (((T.far (p := ⟨g2, 0, none⟩) (by dsimp only; omega) _).far (p := ⟨g2, 1, none⟩) (by dsimp only; omega) _).far (p := ⟨g2, 2, none⟩) (by dsimp only; omega) _)
      replace X := Blk.eqw h4 (((X.far (p := ⟨g2, 0, none⟩) (by dsimp only; omega) _).far (p := ⟨g2, 1, none⟩) (by dsimp only; omega) _).far (p := ⟨g2, 2, none⟩) (by dsimp only; omega) _)
      replace Y := Blk.eqw h4 (Y.st3 _ _ _)
      replace H : Below w.heap.size w w4 := by
        rw [← h4, ← HN.out]; rw [← HN.out] at H
        exact ((H.setCell (p := ⟨g2, 0, none⟩) (by dsimp only; omega) _).setCell (p := ⟨g2, 1, none⟩) (by dsimp only; omega) _).setCell (p := ⟨g2, 2, none⟩) (by dsimp only; omega) _
      clear h4 y0 y1 y2 f0 f1 f2 A
      rw [topI_prog2 HB.out.a1 HB.out.d2 HB.out.ad, topI_prog2 HB.out.b1 HB.out.e2 HB.out.be, topI_prog2 HB.out.c1 HB.out.f2 HB.out.cf] at Y
      have x0 := fun f d os => (X.sp (D := [N + 1, N + 1 + 1]) (by simp; omega) f d os).c3
      have y0 := fun f d os => (Y.sp (D := [N + 1, N + 1 + 1]) (by simp; omega) f d os).c3
      refine wp_two [0, 0, 2, 2, 0] 2 (N + 1) 43 (#[.int .i64 (lowI a), .int .i64 (lowI b), .int .i64 (lowI c)]) 3 (N + 1 + 1) 43 (#[.int .i64 (topI a d), .int .i64 (topI b e), .int .i64 (topI c f)]) (by omega) (by kernel_rfl) (by kernel_rfl) ?_
      repeat (first | (refine wpQs_s ?_) | (refine wpQs_q (fun K hK => ?_); go_simp; first | (refine hK _ ?_; clear hK K) | (apply Exists.intro; refine ⟨fun _ => ?_, hK _ ?_⟩; (fail); clear hK K)) | (refine wpQs_f (fun K hK => ?_); go_simp; refine hK _ ?_; clear hK K))
      refine wpQs_nil ?_
      repeat (refine wpLs_skip ?_)
      refine wpLs_one ?s1 (fun _ => ?_)
      case s1 =>
        intro w_ hw_ hp_
        have L2 := hp_.blk (by simp [Ds2]) L
        obtain ⟨b0, b1, b2, f0, f1, f2⟩ := L2.c3
        go_simp
        exact two_fst (by decide) kept3 (L2.st3 _ _ _)
      refine wpLs_one ?s2 (fun _ => ?_)
      case s2 =>
        intro w_ hw_ hp_
        have T2 := hp_.blk (by simp [Ds2]) T
        obtain ⟨b0, b1, b2, f0, f1, f2⟩ := T2.c3
        go_simp
        exact two_snd (by decide) kept3 (T2.st3 _ _ _)
      refine wpLs_skip ?_
      refine wpLs_nilD ?_
      simp only [tails]
      rintro w1 h1 ⟨⟨-, r1⟩, r2⟩
      obtain ⟨d0, d1, d2, -, -, -⟩ := (r1.1 rfl).c3
      obtain ⟨e0, e1, e2, -, -, -⟩ := (r2.2 rfl).c3
      clear r1 r2
      go_wp2_with fail
      refine bodyPost_ret (v := spanV a b c d e f) (by simp [results, Tryz.results338, go_sem, d0, d1, d2, e0, e1, e2, HT.out, zI]) rfl ⟨rfl, ?_⟩
      rw [← HN.out] at H ⊢
      exact H.trans (h1.below (by have := H.size; rwa [← HN.out] at this) (fun b hb => by simp; omega))
    · have hlt : k < 3 := by omega
      obtain ⟨k0, k1, k2, k3, k4, k5⟩ := A.re6
      go_upto_region 6 with (fail)
      refine wp_sched [0, 0, 0, 0, 0, 0, 0, 0, 0, 0] (fun _ _ _ => True) (by kernel_rfl) (by kernel_rfl) (fun _ _ _ _ h _ => h) ?_
      repeat (first | (refine wpQs_s ?_) | (refine wpQs_q (fun K hK => ?_); go_simp; first | (refine hK _ ?_; clear hK K) | (apply Exists.intro; refine ⟨fun _ => ?_, hK _ ?_⟩; (exact axis_c _ _ _ _ _); clear hK K)) | (refine wpQs_f (fun K hK => ?_); go_simp; refine hK _ ?_; clear hK K))
      refine wpQs_nil ?_
      repeat (first | (refine wpLs_skip ?_) | (refine wpLs_one ?lsA (fun v_ => ?_); case lsA => (intro w_ hw_ hp_; (fail))))
      refine wpLs_nilB ?_
      simp only [tails]
      intro w2 h2 _
      replace A := A.on h2
      replace L := L.on h2
      replace T := T.on h2
      replace X := X.on h2
      replace Y := Y.on h2
      replace H := after H h2
      clear h2 k0 k1 k2 k3 k4 k5
      have b1 := ax_bd ⟨HB.out.a1, by have := HB.out.ad; have := HB.out.d2; omega⟩ ⟨HB.out.b1, by have := HB.out.be; have := HB.out.e2; omega⟩ ⟨HB.out.c1, by have := HB.out.cf; have := HB.out.f2; omega⟩ k
      have Z1 := fun (h : pthinB (axI a b c k) (axI d e f k) = false) => thin_next Z.out (by rw [← pthin_is b1.1 b1.2]; exact h)
      have Z2 := fun (h : pthinB (axI a b c k) (axI d e f k) = true) => thin_no (a := a) (b := b) (c := c) (d := d) (e := e) (f := f) hlt (by rw [← pthin_is b1.1 b1.2]; exact h)
      go_upto_region 7 with (fail)
      obtain ⟨n, hn⟩ : ∃ n, n = axI a b c k := ⟨_, rfl⟩
      obtain ⟨m, hm⟩ : ∃ m, m = axI d e f k := ⟨_, rfl⟩
      rw [← hn, ← hm] at Z1 Z2 ⊢
      have HNn := Lib.hid hn
      have HMm := Lib.hid hm
      clear hn hm b1
      have hkw := next64 (Nat.le_refl 3) (by decide) hlt
      obtain ⟨l0, l1, l2, lf0, lf1, lf2⟩ := L.c3
      obtain ⟨t0, t1, t2, tf0, tf1, tf2⟩ := T.c3
      rcases pthin_ways n m with ⟨y1, y2⟩ | ⟨y1, y3, y2⟩ | ⟨y1, y3, y2⟩
      · replace Z1 := Lib.hid (Z1 y2)
        clear Z2 y2
        go_wp2_with fail
        go_roundw
        case rel => exact ⟨k + 1, hlt, rfl, A, L, T, X, Y, Z1.out, H⟩
        case measure => exact next_less' hlt
      · replace Z1 := Lib.hid (Z1 y2)
        clear Z2 y2
        go_wp2_with fail
        refine (frac_c _ _).mono ?_; rintro e w1 ⟨rfl, rfl⟩
        go_wp2_with fail
        go_roundw
        case rel => exact ⟨k + 1, hlt, rfl, A, L, T, X, Y, Z1.out, H⟩
        case measure => exact next_less' hlt
      · replace Z2 := Lib.hid (Z2 y2)
        clear Z1 y2
        go_wp2_with fail
        refine (frac_c _ _).mono ?_; rintro e w1 ⟨rfl, rfl⟩
        go_wp2_with fail
        have RL := (L.st3 (.int .i64 0) (.int .i64 0) (.int .i64 0)).far (p := ⟨N + 1 + 1, 0, none⟩) (by dsimp only; omega) (.int .i64 0)
        have RL2 := (RL.far (p := ⟨N + 1 + 1, 1, none⟩) (by dsimp only; omega) (.int .i64 0)).far (p := ⟨N + 1 + 1, 2, none⟩) (by dsimp only; omega) (.int .i64 0)
        have RT := (((T.far (p := ⟨N + 1, 0, none⟩) (by dsimp only; omega) (.int .i64 0)).far (p := ⟨N + 1, 1, none⟩) (by dsimp only; omega) (.int .i64 0)).far (p := ⟨N + 1, 2, none⟩) (by dsimp only; omega) (.int .i64 0)).st3 (.int .i64 0) (.int .i64 0) (.int .i64 0)
        obtain ⟨d0, d1, d2, -, -, -⟩ := RL2.c3
        obtain ⟨e0, e1, e2, -, -, -⟩ := RT.c3
        refine bodyPost_ret (v := spanV a b c d e f) (by simp [results, Tryz.results338, go_sem, d0, d1, d2, e0, e1, e2, Z2.out, zI]) rfl ⟨rfl, ?_⟩
        rw [← HN.out] at H ⊢
        exact (((((H.setCell (p := ⟨N + 1, 0, none⟩) (by dsimp only; omega) _).setCell (p := ⟨N + 1, 1, none⟩) (by dsimp only; omega) _).setCell (p := ⟨N + 1, 2, none⟩) (by dsimp only; omega) _).setCell (p := ⟨N + 1 + 1, 0, none⟩) (by dsimp only; omega) _).setCell (p := ⟨N + 1 + 1, 1, none⟩) (by dsimp only; omega) _).setCell (p := ⟨N + 1 + 1, 2, none⟩) (by dsimp only; omega) _
end Go.Proofs.YtmbccnioijokfaaGreatDoor

namespace Go.Proofs.YtmbccnioijokfaaGreatDoor
open Go.RowKit Go.Shelf
attribute [local go_sem] Oper.semAt_some
abbrev nearA (x y z : Int) : Array Value := #[.int .i64 (ccI (ccI x + -1)), .int .i64 (ccI (ccI y)), .int .i64 (ccI (ccI z)), .int .i64 (ccI (ccI x + 1)), .int .i64 (ccI (ccI y)), .int .i64 (ccI (ccI z)), .int .i64 (ccI (ccI x)), .int .i64 (ccI (ccI y + -1)), .int .i64 (ccI (ccI z)), .int .i64 (ccI (ccI x)), .int .i64 (ccI (ccI y + 1)), .int .i64 (ccI (ccI z)), .int .i64 (ccI (ccI x)), .int .i64 (ccI (ccI y)), .int .i64 (ccI (ccI z + -1)), .int .i64 (ccI (ccI x)), .int .i64 (ccI (ccI y)), .int .i64 (ccI (ccI z + 1))]
set_option maxRecDepth 100000 in
set_option maxHeartbeats 8000000 in
theorem cnear_c (x y z : Int) (w : World) : Calls Tryz.prog 186 #[.agg #[.int .i64 x, .int .i64 y, .int .i64 z]] w fun r w' => r = .returned (.agg (nearA x y z)) ∧ Below w.heap.size w w' := by
  obtain ⟨W, hW⟩ : ∃ W, W = (w.alloc (.cells #[.int .i64 x, .int .i64 y, .int .i64 z] 43)).alloc (.cells #[.int .i64 0, .int .i64 0, .int .i64 0, .int .i64 0, .int .i64 0, .int .i64 0, .int .i64 0, .int .i64 0, .int .i64 0, .int .i64 0, .int .i64 0, .int .i64 0, .int .i64 0, .int .i64 0, .int .i64 0, .int .i64 0, .int .i64 0, .int .i64 0] 257) := ⟨_, rfl⟩
  have H : Below w.heap.size w W := by rw [hW]; go_grown
  have U : Blk W w.heap.size 43 #[.int .i64 x, .int .i64 y, .int .i64 z] := by rw [hW]; exact (Blk.new' rfl).alloc _
  have R : Blk W (w.heap.size + 1) 257 #[.int .i64 0, .int .i64 0, .int .i64 0, .int .i64 0, .int .i64 0, .int .i64 0, .int .i64 0, .int .i64 0, .int .i64 0, .int .i64 0, .int .i64 0, .int .i64 0, .int .i64 0, .int .i64 0, .int .i64 0, .int .i64 0, .int .i64 0, .int .i64 0] := by rw [hW]; exact Blk.new' (by simp)
  have C := fun W' (h : Below W.heap.size W W') (a b c : Int) (ha : -1 ≤ a ∧ a ≤ 1) (hb : -1 ≤ b ∧ b ≤ 1) (hc : -1 ≤ c ∧ c ≤ 1) => nearto_c w.heap.size x y z a b c ha hb hc W' (U.on h)
  have HC := Lib.hid C
  have hen := enters_of Tryz.func242 (P := Tryz.prog) (by kernel_rfl) rfl
  clear C U
  obtain ⟨N, hN⟩ : ∃ N, N = w.heap.size := ⟨_, rfl⟩
  have hmf : ∀ (fn : Fn) (first cap : Array Value) (w : World), (Instr.makeFunc fn first cap).run Tryz.prog w = .ok (.func fn first cap) w := fun _ _ _ _ => rfl
  go_enter Tryz.func186, Tryz.ntmps186
  go_upto_region 2 with (fail)
  rw [← hW, ← hN]
  have HN := Lib.hid hN
  clear hW
  rw [← hN] at HC R
  clear hN
  have K : Below W.heap.size W W := Below.refl _ _
  go_wp2_with fail
  refine (HC.out _ K _ _ _ (by decide) (by decide) (by decide)).mono ?_
  rintro e_ w1 ⟨rfl, k1⟩
  replace K := after K k1
  replace R := R.on k1
  clear k1
  go_wp2_with fail
  refine (HC.out _ K _ _ _ (by decide) (by decide) (by decide)).mono ?_
  rintro e_ w2 ⟨rfl, k1⟩
  replace K := after K k1
  replace R := R.on k1
  clear k1
  go_wp2_with fail
  refine (HC.out _ K _ _ _ (by decide) (by decide) (by decide)).mono ?_
  rintro e_ w3 ⟨rfl, k1⟩
  replace K := after K k1
  replace R := R.on k1
  clear k1
  go_wp2_with fail
  refine (HC.out _ K _ _ _ (by decide) (by decide) (by decide)).mono ?_
  rintro e_ w4 ⟨rfl, k1⟩
  replace K := after K k1
  replace R := R.on k1
  clear k1
  go_wp2_with fail
  refine (HC.out _ K _ _ _ (by decide) (by decide) (by decide)).mono ?_
  rintro e_ w5 ⟨rfl, k1⟩
  replace K := after K k1
  replace R := R.on k1
  clear k1
  go_wp2_with fail
  refine (HC.out _ K _ _ _ (by decide) (by decide) (by decide)).mono ?_
  rintro e_ w6 ⟨rfl, k1⟩
  replace K := after K k1
  replace R := R.on k1
  clear k1
  have HO := Lib.hid (show (nearA x y z).all (·.oneCell') = true by simp [Value.oneCell'])
  go_simp
  repeat (first | (go_big_may; refine wpList_store_rowTo rfl 257 _ _ rfl rfl (N + 1) (nearA x y z) rfl rfl 257 _ R (by kernel_rfl) rfl HO.out ?_) | go_values | go_skip | go_guarded | go_step | go_upon | go_back)
  have X := R.row (nearA x y z)
  refine bodyPost_ret (v := .agg (nearA x y z)) (results_cell_row rfl _ _ (N + 1) 257 (nearA x y z) (0, 0) _ rfl X Tryz.underlying257 rfl (by kernel_rfl)) rfl ⟨rfl, ?_⟩
  have h2 := HN.out
  exact below_row (after H K) (by omega) _
end Go.Proofs.YtmbccnioijokfaaGreatDoor

namespace Go.Proofs.YtmbccnioijokfaaGreatDoor
open Go.RowKit
theorem sub_one {b : Int} (h1 : -140737488355328 ≤ b) (h2 : b ≤ 140737488355328) : subI b 1 = cutI (b - 1) := by
  unfold subI; rw [cutI_id h1 h2]; rfl
theorem cut_cut (b : Int) : cutI (cutI b) = cutI b := cutI_id (cutI_lo b) (cutI_hi b)
set_option maxRecDepth 100000 in
set_option maxHeartbeats 2000000 in
theorem under_raw (a b c d e f : Int) (h1 : -140737488355328 ≤ b) (h2 : b ≤ 140737488355328) (w : World) : Calls Tryz.prog 185 #[.agg #[.int .i64 a, .int .i64 b, .int .i64 c, .int .i64 d, .int .i64 e, .int .i64 f]] w fun r w' => r = .returned (.agg #[.int .i64 (wiI a 1 0 (cutI (b - 1))), .int .i64 (wiI b 1 1 (cutI (b - 1))), .int .i64 (wiI c 1 2 (cutI (b - 1))), .int .i64 (wiI d 1 0 b), .int .i64 (wiI e 1 1 b), .int .i64 (wiI f 1 2 b)]) ∧ Below w.heap.size w w' := by
  have U : Blk ((w.alloc (.cells #[.int .i64 a, .int .i64 b, .int .i64 c, .int .i64 d, .int .i64 e, .int .i64 f] 210)).alloc (.cells #[.int .i64 0, .int .i64 0, .int .i64 0, .int .i64 0, .int .i64 0, .int .i64 0] 210)) w.heap.size 210 #[.int .i64 a, .int .i64 b, .int .i64 c, .int .i64 d, .int .i64 e, .int .i64 f] := (Blk.new' rfl).alloc _
  have R0 : Blk ((w.alloc (.cells #[.int .i64 a, .int .i64 b, .int .i64 c, .int .i64 d, .int .i64 e, .int .i64 f] 210)).alloc (.cells #[.int .i64 0, .int .i64 0, .int .i64 0, .int .i64 0, .int .i64 0, .int .i64 0] 210)) (w.heap.size + 1) 210 #[.int .i64 0, .int .i64 0, .int .i64 0, .int .i64 0, .int .i64 0, .int .i64 0] := Blk.new' (by simp)
  obtain ⟨k0, k1, k2, k3, k4, k5⟩ := U.re6
  obtain ⟨⟨u0, u1, u2, u3, u4, u5⟩, -, -, -, -, -, -⟩ := U.c6
  have hs : ∀ w, Calls Tryz.prog 241 #[.int .i64 b, .int .i64 1] w fun e w' => e = .returned (.int .i64 (cutI (b - 1))) ∧ w = w' := fun w => by have := fsub_c b 1 w; rwa [sub_one h1 h2] at this
  go_enter Tryz.func185, Tryz.ntmps185
  go_upto_region 2 with (fail)
  refine wp_region_last_below 10 (by kernel_rfl) rfl (by kernel_rfl) ?_
  simp only [List.take_succ_cons, List.take_zero, List.drop_succ_cons, List.drop_zero]
  repeat (go_big_quiet_step (first | (go_at_call 241; exact Calls.regrown_of (calls_bel (hs _))) | exact Calls.regrown_of (with_c _ _ _ _ _ _)))
  refine wpQuiet_nil ?_
  intro w' hw'
  obtain ⟨rg, rfl⟩ := hw'
  have R := R0.re rg.d rg.os
  obtain ⟨⟨r0, r1, r2, r3, r4, r5⟩, f0, f1, f2, f3, f4, f5⟩ := R.c6
  go_wp2_with fail
  have R2 := R.st6 (.int .i64 (wiI a 1 0 (cutI (b - 1)))) (.int .i64 (wiI b 1 1 (cutI (b - 1)))) (.int .i64 (wiI c 1 2 (cutI (b - 1)))) (.int .i64 (wiI d 1 0 b)) (.int .i64 (wiI e 1 1 b)) (.int .i64 (wiI f 1 2 b))
  obtain ⟨⟨d0, d1, d2, d3, d4, d5⟩, -, -, -, -, -, -⟩ := R2.c6
  exact bodyPost_ret (v := .agg #[.int .i64 (wiI a 1 0 (cutI (b - 1))), .int .i64 (wiI b 1 1 (cutI (b - 1))), .int .i64 (wiI c 1 2 (cutI (b - 1))), .int .i64 (wiI d 1 0 b), .int .i64 (wiI e 1 1 b), .int .i64 (wiI f 1 2 b)]) (by simp [results, Tryz.results185, go_sem, d0, d1, d2, d3, d4, d5]) rfl ⟨rfl, by (repeat' (first | (with_reducible exact Below.refl _ _) | (with_reducible assumption) | (with_reducible refine Below.alloc ?_ ?_ _) | (with_reducible refine Below.drew ?_) | (with_reducible refine Below.setCell ?_ ?_ _) | (with_reducible refine after ?_ (below_regrown _ _ _)) | (refine after ?_ (by with_reducible assumption)) | go_size))⟩
theorem under_c (a b c d e f : Int) (h1 : -140737488355328 ≤ b) (h2 : b ≤ 140737488355328) (w : World) : Calls Tryz.prog 185 #[.agg #[.int .i64 a, .int .i64 b, .int .i64 c, .int .i64 d, .int .i64 e, .int .i64 f]] w fun r w' => r = .returned (.agg #[.int .i64 a, .int .i64 (cutI (b - 1)), .int .i64 c, .int .i64 d, .int .i64 b, .int .i64 f]) ∧ Below w.heap.size w w' := by
  have h := under_raw a b c d e f h1 h2 w
  rw [show wiI a 1 0 (cutI (b - 1)) = a from rfl, show wiI b 1 1 (cutI (b - 1)) = cutI (b - 1) from cut_cut _, show wiI c 1 2 (cutI (b - 1)) = c from rfl, show wiI d 1 0 b = d from rfl, show wiI e 1 1 b = b from cutI_id h1 h2, show wiI f 1 2 b = f from rfl] at h
  exact h
end Go.Proofs.YtmbccnioijokfaaGreatDoor

