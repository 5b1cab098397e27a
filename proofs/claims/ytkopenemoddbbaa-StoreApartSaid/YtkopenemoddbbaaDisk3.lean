/- A disk that is new; that is asked; that is told to fail. -/
import Derived.Test.YtkopenemoddbbaaDisk2
namespace Go.Proofs.Ytkopenemoddbbaa
open Go.RowKit Go.Maps
attribute [local go_sem] Oper.semAt_some

/-- Cells of the disk's own block were set. -/
theorem DiskAt.restore {w w' : World} {base d bm : Nat} {v : Value} {S S' : DS} {sv lv : List (Int × SL)} (h : DiskAt w base d bm v S sv lv) (k : Kept (fun b => b ≠ d) w w')
    (hb : Blk w' d 90 #[.int .i64 S'.room, .int .i64 S'.fails, .int .i64 S'.waits, .map (some bm), v]) (hs : S'.safe = S.safe) (hl : S'.l = S.l) : DiskAt w' base d bm v S' sv lv := by
  have hbyte : ∀ b, ByteBlk w base b → b ≠ d := fun b hB e => by
    subst e
    rcases hB with hB | ⟨cur, hB⟩
    · have := h.based; omega
    · have := blk_one hB h.blk; revert this; decide
  obtain ⟨g1, g2⟩ := h.gs.kept k hbyte
  obtain ⟨g3, g4⟩ := h.gl.kept k hbyte
  refine ⟨hb, map_kept h.map (k.block _ h.map.lt fun e => ?_), ⟨h.row.1, ?_⟩, h.based, h.basem, g1, g3, by rw [hs, g2]; exact h.safe, by rw [hl, g4]; exact h.l⟩
  · exact map_lt h.map _ _ _ (by rw [e]; exact h.blk)
  · rcases h.row.2 with h0 | ⟨g, cap, cur, hv, hbg, hg, r⟩
    · exact .inl h0
    · refine .inr ⟨g, cap, cur, hv, hbg, (k.block g (Array.getElem?_eq_some_iff.1 hg).1 fun e => ?_).trans hg, r⟩
      subst e
      have := blk_one (show Blk w g 92 cur from hg) h.blk
      revert this; decide
theorem kept_set {w : World} {d i : Nat} (u : Value) : Kept (fun b => b ≠ d) w (w.setCell ⟨d, i, none⟩ u) := (Kept.refl _ _).setCell (by simp) _
set_option maxRecDepth 100000 in
set_option maxHeartbeats 2000000 in
theorem failed_c (base d bm : Nat) (v : Value) (S : DS) (sv lv : List (Int × SL)) (w : World) (h : DiskAt w base d bm v S sv lv) (hw : S.waits = 0 ∨ S.waits = 1) (hf : 0 ≤ S.fails ∧ S.fails ≤ 9223372036854775807) :
    Calls Try.prog 58 #[.pointer (some ⟨d, 0, none⟩)] w fun r w' => r = .returned (.bool S.asked.2) ∧ DiskAt w' base d bm v S.asked.1 sv lv ∧ Kept (fun b => b ≠ d) w w' := by
  have d1 : w.cell? ⟨d, 1, none⟩ = some (.int .i64 S.fails) := h.blk.cell 1
  have d2 : w.cell? ⟨d, 2, none⟩ = some (.int .i64 S.waits) := h.blk.cell 2
  have f1 := h.blk.frz 1
  have f2 := h.blk.frz 2
  have h1 := h.blk.set_ 1 (.int .i64 (S.fails - 1))
  have h2 := h.blk.set_ 2 (.int .i64 0)
  have HD := Lib.hid h
  clear h
  rcases hw with hw | hw
  · rw [hw] at d2
    by_cases hp : 0 < S.fails
    · have ha : S.asked = ({ S with fails := S.fails - 1 }, true) := by unfold DS.asked; rw [if_neg (by omega), if_pos hp]
      rw [ha]
      go_enter Try.func58, Try.ntmps58
      go_wp2_with fail
      go_returns
      exact ⟨rfl, HD.out.restore (kept_set _) h1 rfl rfl, kept_set _⟩
    · have ha : S.asked = (S, false) := by unfold DS.asked; rw [if_neg (by omega), if_neg hp]
      rw [ha]
      go_enter Try.func58, Try.ntmps58
      go_wp2_with fail
      go_returns
      exact ⟨rfl, HD.out, Kept.refl _ _⟩
  · rw [hw] at d2
    have ha : S.asked = ({ S with waits := 0 }, false) := by unfold DS.asked; rw [if_pos (by omega)]
    rw [ha]
    go_enter Try.func58, Try.ntmps58
    go_wp2_with fail
    go_returns
    exact ⟨rfl, HD.out.restore (kept_set _) h2 rfl rfl, kept_set _⟩
def newS (R : Int) : DS := ⟨mnI (mxI R 0) 1048576, 0, 0, [], []⟩
theorem newS_ok (R : Int) : DOk (newS R) 0 0 := ⟨rise_nil, fun p hp => (by cases hp), Nat.le_refl _, fun p hp => (by cases hp), by unfold newS mnI mxI; dsimp only; omega, .inl rfl, by unfold newS; dsimp only; omega⟩
set_option maxRecDepth 100000 in
set_option maxHeartbeats 2000000 in
theorem new_c (R : Int) (base : Nat) (w : World) (hb : base ≤ w.heap.size) :
    Calls Try.prog 35 #[.int .i64 R] w fun r w' => ∃ d M, r = .returned (.pointer (some ⟨d, 0, none⟩)) ∧ DiskIs w' base M d (newS R) ∧ (∀ b, M b → w.heap.size ≤ b) ∧ Below w.heap.size w w' := by
  have hmn := @run_mn Try.prog
  have hmx := @run_mx Try.prog
  have hmm := @run_makeMap Try.prog
  go_enter Try.func35, Try.ntmps35
  go_wp2_with fail
  go_returns
  obtain ⟨W1, hW1⟩ : ∃ W1, W1 = w.alloc (.map #[] 0) := ⟨_, rfl⟩
  have hm : W1.ownsMap Try.prog 3 RS w.heap.size 0 (DM []) := by rw [hW1]; exact World.ownsMap_made _ _ _ _
  have hs1 : W1.heap.size = w.heap.size + 1 := by rw [hW1]; simp
  have hb1 : Below w.heap.size w W1 := by rw [hW1]; exact (Below.refl _ _).alloc (Nat.le_refl _) _
  rw [← hW1]
  refine ⟨_, _, rfl, ⟨w.heap.size, .slice none 0 0, [], [], ⟨Blk.new' hs1.symm, hm.alloc _, Owns.nil, by omega, hb, fun p hp => (by cases hp), fun p hp => (by cases hp), rfl, rfl⟩, fun b => Iff.rfl⟩, fun b hb => ?_, hb1.alloc hb1.size _⟩
  rcases hb with rfl | rfl | hb
  · omega
  · exact Nat.le_refl _
  · cases hb
end Go.Proofs.Ytkopenemoddbbaa
