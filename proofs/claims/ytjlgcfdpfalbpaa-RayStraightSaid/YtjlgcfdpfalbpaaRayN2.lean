/- The neighbours of a cell: all six. -/
import Derived.Test.YtjlgcfdpfalbpaaRayN
import Derived.Deep.Cut
import Derived.Test.YtjlgcfdpfalbpaaSets
import Derived.Great.BuildSlice
namespace Go.Proofs.Ytjlgcfdpfalbpaa
open Go.RowKit Go.Shelf
attribute [local go_sem] Oper.semAt_some

abbrev nearA (x y z : Int) : Array Value := #[.int .i64 (ccI (ccI x + -1)), .int .i64 (ccI (ccI y)), .int .i64 (ccI (ccI z)), .int .i64 (ccI (ccI x + 1)), .int .i64 (ccI (ccI y)), .int .i64 (ccI (ccI z)), .int .i64 (ccI (ccI x)), .int .i64 (ccI (ccI y + -1)), .int .i64 (ccI (ccI z)), .int .i64 (ccI (ccI x)), .int .i64 (ccI (ccI y + 1)), .int .i64 (ccI (ccI z)), .int .i64 (ccI (ccI x)), .int .i64 (ccI (ccI y)), .int .i64 (ccI (ccI z + -1)), .int .i64 (ccI (ccI x)), .int .i64 (ccI (ccI y)), .int .i64 (ccI (ccI z + 1))]
set_option maxRecDepth 100000 in
set_option maxHeartbeats 8000000 in
theorem cnear_c (x y z : Int) (w : World) : Calls Try.prog 32 #[.agg #[.int .i64 x, .int .i64 y, .int .i64 z]] w fun r w' => r = .returned (.agg (nearA x y z)) ∧ Below w.heap.size w w' := by
  obtain ⟨W, hW⟩ : ∃ W, W = (w.alloc (.cells #[.int .i64 x, .int .i64 y, .int .i64 z] 29)).alloc (.cells #[.int .i64 0, .int .i64 0, .int .i64 0, .int .i64 0, .int .i64 0, .int .i64 0, .int .i64 0, .int .i64 0, .int .i64 0, .int .i64 0, .int .i64 0, .int .i64 0, .int .i64 0, .int .i64 0, .int .i64 0, .int .i64 0, .int .i64 0, .int .i64 0] 47) := ⟨_, rfl⟩
  have H : Below w.heap.size w W := by rw [hW]; go_grown
  have U : Blk W w.heap.size 29 #[.int .i64 x, .int .i64 y, .int .i64 z] := by rw [hW]; exact (Blk.new' rfl).alloc _
  have R : Blk W (w.heap.size + 1) 47 #[.int .i64 0, .int .i64 0, .int .i64 0, .int .i64 0, .int .i64 0, .int .i64 0, .int .i64 0, .int .i64 0, .int .i64 0, .int .i64 0, .int .i64 0, .int .i64 0, .int .i64 0, .int .i64 0, .int .i64 0, .int .i64 0, .int .i64 0, .int .i64 0] := by rw [hW]; exact Blk.new' (by simp)
  have C := fun W' (h : Below W.heap.size W W') (a b c : Int) (ha : -1 ≤ a ∧ a ≤ 1) (hb : -1 ≤ b ∧ b ≤ 1) (hc : -1 ≤ c ∧ c ≤ 1) => nearto_c w.heap.size x y z a b c ha hb hc W' (U.on h)
  have HC := Lib.hid C
  have hen := enters_of Try.func53 (P := Try.prog) (by kernel_rfl) rfl
  clear C U
  obtain ⟨N, hN⟩ : ∃ N, N = w.heap.size := ⟨_, rfl⟩
  have hmf : ∀ (fn : Fn) (first cap : Array Value) (w : World), (Instr.makeFunc fn first cap).run Try.prog w = .ok (.func fn first cap) w := fun _ _ _ _ => rfl
  go_enter Try.func32, Try.ntmps32
  go_upto_region 2 with (fail)
  rw [← hW, ← hN]
  have HN := Lib.hid hN
  clear hW
  rw [← hN] at HC R
  clear hN
  have K : Below W.heap.size W W := Below.refl _ _
  go_wp2_with fail
  refine (HC.out _ K _ _ _ (by decide) (by decide) (by decide)).mono ?_
  rintro e_ w1 ⟨rfl, k1⟩
  replace K := after K k1
  replace R := R.on k1
  clear k1
  go_wp2_with fail
  refine (HC.out _ K _ _ _ (by decide) (by decide) (by decide)).mono ?_
  rintro e_ w2 ⟨rfl, k1⟩
  replace K := after K k1
  replace R := R.on k1
  clear k1
  go_wp2_with fail
  refine (HC.out _ K _ _ _ (by decide) (by decide) (by decide)).mono ?_
  rintro e_ w3 ⟨rfl, k1⟩
  replace K := after K k1
  replace R := R.on k1
  clear k1
  go_wp2_with fail
  refine (HC.out _ K _ _ _ (by decide) (by decide) (by decide)).mono ?_
  rintro e_ w4 ⟨rfl, k1⟩
  replace K := after K k1
  replace R := R.on k1
  clear k1
  go_wp2_with fail
  refine (HC.out _ K _ _ _ (by decide) (by decide) (by decide)).mono ?_
  rintro e_ w5 ⟨rfl, k1⟩
  replace K := after K k1
  replace R := R.on k1
  clear k1
  go_wp2_with fail
  refine (HC.out _ K _ _ _ (by decide) (by decide) (by decide)).mono ?_
  rintro e_ w6 ⟨rfl, k1⟩
  replace K := after K k1
  replace R := R.on k1
  clear k1
  have HO := Lib.hid (show (nearA x y z).all (·.oneCell') = true by simp [Value.oneCell'])
  go_simp
  repeat (first | (go_big_may; refine wpList_store_rowTo rfl 47 _ _ rfl rfl (N + 1) (nearA x y z) rfl rfl 47 _ R (by kernel_rfl) rfl HO.out ?_) | go_values | go_skip | go_guarded | go_step | go_upon | go_back)
  have X := R.row (nearA x y z)
  refine bodyPost_ret (v := .agg (nearA x y z)) (results_cell_row rfl _ _ (N + 1) 47 (nearA x y z) (0, 0) _ rfl X Try.underlying47 rfl (by kernel_rfl)) rfl ⟨rfl, ?_⟩
  have h2 := HN.out
  exact below_row (after H K) (by omega) _
end Go.Proofs.Ytjlgcfdpfalbpaa
