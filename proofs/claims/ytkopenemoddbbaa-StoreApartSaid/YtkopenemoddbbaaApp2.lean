/- Room for bytes, of the call's own; a slice of slices. No program in sight. -/
import Derived.Test.YtkopenemoddbbaaApp
namespace Go.Proofs.Ytkopenemoddbbaa
open Go.RowKit Go.Deep

section
variable {P : Program} {w w' : World} {base n m c g cap : Nat} {e t : TypeId} {F G : Nat → B8} {v : Value} {q : Option Addr}
/-- append(nil, make([]byte, n)...): room for n, and none of it owned yet. -/
theorem run_grow0 {ts tn ty : TypeId} (ht : P.underlying ts = some (.slice e)) (htn : P.underlying tn = some (.int .i64)) (hi : (P.info? e).map (fun i => (i.zero, i.size, i.bytes)) = some (some (.int .u8 0), 1, 1))
    (h0 : 0 < n) (h47 : n ≤ 140737488355328) (hbase : base ≤ w.heap.size) :
    ∃ g cap w', (Builtin.append_ #[ts, tn] ty #[.slice none 0 0, .int .i64 n]).run P w = .ok (.slice (some ⟨g, 0, none⟩) n cap) w' ∧ n ≤ cap ∧ cap ≤ maxLen ∧ w'.ownsRow base e 1 (.slice (some ⟨g, 0, none⟩) 0 cap) 0 (bl F 0) ∧ Below base w w' := by
  obtain ⟨i, hi, hz, hs, hby⟩ := info_parts hi
  have h := Lib.run_append_nil_zeros (P := P) w ts tn ty e i (.int .u8 0) .i64 .i64 ht htn hi hz n h0 (by omega) (by omega) (by rw [hby]; omega)
  have hge := grownCap_ge w n 0 e
  have hcm := grownCap_le_maxLen w n 0 e (by simp only [maxLen]; omega)
  refine ⟨_, _, _, h, hge, hcm, ⟨rfl, .inr ⟨w.heap.size, _, _, rfl, hbase, heap_alloc_new w.drew _, Nat.zero_le _, hcm, ?_, rfl⟩⟩, (Below.refl _ _).drew.alloc hbase _⟩
  simp only [Array.size_append, size_zeroCells]
  show n * 1 + (grownCap w n 0 e - n) * 1 = _
  omega
theorem own_low {B : Nat} (h : w.ownsRow base e 1 v n (bl F n)) (hb : B ≤ base) : w.ownsRow B e 1 v n (bl F n) := by
  refine ⟨h.1, ?_⟩
  rcases h.2 with h0 | ⟨g, cap, cur, hv, hbg, r⟩
  · exact .inl h0
  · exact .inr ⟨g, cap, cur, hv, Nat.le_trans hb hbg, r⟩
/-- What is cut off behind what is owned. -/
theorem own_cut {k : Nat} (h : w.ownsRow base e 1 v n (bl F n)) (hv : v = .slice q n c) (hk : k ≤ n) : w.ownsRow base e 1 (.slice q k c) k (bl F k) := by
  refine ⟨by rw [bl_len]; omega, ?_⟩
  rcases h.2 with ⟨h1, h0⟩ | ⟨g, cap, cur, hv', hb, hg, hc, hm, hs, ht⟩
  · subst h1
    obtain ⟨rfl, rfl, rfl⟩ := Value.slice.inj hv
    obtain rfl : k = 0 := by omega
    exact .inl ⟨rfl, rfl⟩
  · rw [hv'] at hv
    obtain ⟨rfl, _, rfl⟩ := Value.slice.inj hv
    refine .inr ⟨g, cap, cur, rfl, hb, hg, by omega, hm, hs, ?_⟩
    have : bl F k = (bl F n).take k := by simp [bl, ← List.map_take, List.take_range, Nat.min_eq_left hk]
    rw [this, ← ht, List.take_take]
    congr 1
    omega
end
end Go.Proofs.Ytkopenemoddbbaa
