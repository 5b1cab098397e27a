/- The document's disk: what is asked for; what is put; what is made safe. -/
import Derived.Test.YtlmjggbpophnfaaDRef2
import Derived.Test.YtlmjggbpophnfaaRowApp
import Derived.Test.YtlmjggbpophnfaaSched2
namespace Go.Proofs.Ytlmjggbpophnfaa
open Go.RowKit Go.Maps
attribute [local go_sem] Oper.semAt_some

theorem getL_first {α : Type} {l : List (Int × α)} {k : Int} {i : Nat} {p : Int × α} (h : ∀ x ∈ l.take i, x.1 ≠ k) (hi : l[i]? = some p) (hp : p.1 = k) : getL l k = some p.2 := by
  induction l generalizing i with
  | nil => cases hi
  | cons x r ih =>
    rw [getL_cons]
    cases i with
    | zero => obtain rfl : x = p := by simpa using hi
              rw [if_pos hp]
    | succ i =>
      rw [if_neg (h x (by simp))]
      exact ih (i := i) (fun y hy => h y (by rw [List.take_succ_cons]; exact List.mem_cons_of_mem _ hy)) (by simpa using hi)
/-- What a call that asks hands back. -/
def GetR (base : Nat) (o : Option Bs) (r : Ending) (w w' : World) : Prop := ∃ s : SL, r = .returned (.tuple #[slV s, .bool o.isSome]) ∧ GoodS w' base s ∧ rdB w' s = o.getD [] ∧ Below w.heap.size w w'
set_option maxRecDepth 100000 in
set_option maxHeartbeats 4000000 in
theorem rget_c (base : Nat) (a b : SL) (S : DS) (sl ll : List (Int × SL)) (N : Nat) (w : World) (h : RefAt w base a b S sl ll) (hok : DOk S N 1000000) (hN : N ≤ 100000) (k : Int) :
    Calls Try.prog 32 #[.agg (dv S a b), .int .i64 k] w fun r w' => GetR base (S.get k) r w w' := by
  obtain ⟨hr, hcnt, hg, hc, hrn, -⟩ := h.facts hok
  have hln : (nowL sl ll).length ≤ 100000 := Nat.le_trans (len_now ll sl) (by omega)
  obtain ⟨W0, hW⟩ : ∃ W0, W0 = w.alloc (.cells (dv S a b) 42) := ⟨_, rfl⟩
  have hb0 : Below w.heap.size w W0 := by rw [hW]; exact (Below.refl _ _).alloc (Nat.le_refl _) _
  have HNW := Lib.hid (rnow_c base a b S sl ll N W0 (h.on hb0) hok hN)
  have HG := Lib.hid (And.intro hg hc)
  obtain ⟨aq, an, ac⟩ := a
  obtain ⟨q, n, c⟩ := b
  simp only [dv, slV] at hW HNW ⊢
  clear h hg hc
  go_enter Try.func32, Try.ntmps32
  go_upto_region 1 with (fail)
  rw [← hW]
  have X0 : Blk W0 w.heap.size 42 #[.int .i64 S.room, .int .i64 S.fails, .int .i64 S.waits, .slice aq an ac, .slice q n c] := by rw [hW]; exact Blk.new' rfl
  have x0 := X0.cell 0
  have x1 := X0.cell 1
  have x2 := X0.cell 2
  have x3 := X0.cell 3
  have x4 := X0.cell 4
  have HB0 := Lib.hid hb0
  clear hW hb0
  generalize nowL sl ll = nl at HNW HG hrn hln
  go_upto_region 3 with (go_at_call 33; refine HNW.out.mono ?_; rintro e_ w1 ⟨⟨vq, vn, vc⟩, rfl, hR, h1⟩; dsimp only)
  obtain rfl : vn = nl.length := hR.len
  have hcap : nl.length ≤ vc := hR.cap
  have HR := Lib.hid hR
  have HB1 := Lib.hid (after HB0.out h1)
  clear x0 x1 x2 x3 x4 X0 hR h1
  go_loopw [7] (fun i wr => ∃ j : Nat, j ≤ nl.length ∧ i = .int .i64 j ∧ Hid (∀ x ∈ nl.take j, x.1 ≠ k) ∧ wr = w1) (fun i _ => nl.length - (intOf i).toNat)
  case atStart => exact ⟨0, Nat.zero_le _, rfl, Lib.hid (by simp), rfl⟩
  case round =>
    obtain ⟨j, hj, rfl, HNO, rfl⟩ := hrel
    have fin : ∀ s : SL, GoodS w base s → rdB w s = (S.get k).getD [] → GoodS wr base s ∧ rdB wr s = (S.get k).getD [] := fun s h1 h2 => by
      obtain ⟨g1, g2⟩ := h1.on HB1.out
      exact ⟨g1, by rw [g2, h2]⟩
    have HF := Lib.hid fin
    clear fin
    by_cases hlt : j < nl.length
    · obtain ⟨p, hp⟩ := lt_at hlt
      obtain ⟨g, cur, hq, hC, hrow⟩ := HR.out.lies (by omega)
      dsimp only at hq
      subst hq
      obtain ⟨r0, r1⟩ := hrow j p hp
      have hk1 : (j : Int) < (nl.length : Int) := by omega
      have hk0 : (0 : Int) ≤ (j : Int) := by omega
      have hi3 : (j : Int) + 1 ≤ 9223372036854775807 := by omega
      have hi4 : -9223372036854775808 ≤ (j : Int) + 1 := by omega
      by_cases hpk : p.1 = k
      · have hfs := getL_first HNO.out hp hpk
        obtain ⟨hg1, hg2⟩ := HG.out
        have hget : S.get k = some (rdB w p.2) := by unfold DS.get; rw [← hg2, cont_get, hfs]; rfl
        obtain ⟨f1, f2⟩ := HF.out p.2 (hg1 p (List.mem_of_getElem? hp)) (by rw [hget]; rfl)
        obtain ⟨pk, pq, pn, pc⟩ := p
        simp only [slV] at r0 r1 hpk
        have HFF := Lib.hid (And.intro hget (And.intro f1 f2))
        subst hpk
        clear hp hrow hfs hg1 hg2 hget f1 f2
        go_wp2_with fail
        go_returns
        exact ⟨(pq, pn, pc), by rw [HFF.out.1]; rfl, HFF.out.2.1, HFF.out.2.2, HB1.out⟩
      · have hno : Hid (∀ x ∈ nl.take (j + 1), x.1 ≠ k) := Lib.hid fun x hx => by
          rw [take_at hp, List.mem_append] at hx
          rcases hx with hx | hx
          · exact HNO.out x hx
          · obtain rfl : x = p := by simpa using hx
            exact hpk
        have hpb : (p.1 == k) = false := by simpa using hpk
        obtain ⟨pk, pq, pn, pc⟩ := p
        simp only [slV] at r0 r1 hpk hpb
        clear hp hrow
        go_wp2_with fail
        exact ⟨⟨j + 1, hlt, by go_num, hno, trivial⟩, next_less' hlt⟩
    · obtain rfl : j = nl.length := by omega
      have hget : S.get k = none := by
        unfold DS.get
        rw [← HG.out.2, cont_get, getL_none (fun p hp => HNO.out p (by rw [List.take_length]; exact hp))]
        rfl
      have HGT := Lib.hid hget
      have hk1 : ¬ ((nl.length : Int) < (nl.length : Int)) := by omega
      clear hget
      go_wp2_with fail
      go_returns
      exact ⟨(none, 0, 0), by rw [HGT.out]; rfl, ⟨Nat.le_refl _, by decide, fun h => absurd h (by decide)⟩, by rw [HGT.out, rdB_zero]; rfl, HB1.out⟩
end Go.Proofs.Ytlmjggbpophnfaa
