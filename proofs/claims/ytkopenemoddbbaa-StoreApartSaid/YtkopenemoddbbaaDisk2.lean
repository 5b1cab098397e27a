/- All blobs as they were put last; how many bytes a map's blobs have. -/
import Derived.Test.YtkopenemoddbbaaDisk1
namespace Go.Proofs.Ytkopenemoddbbaa
open Go.RowKit Go.Maps
attribute [local go_sem] Oper.semAt_some

/-- A row that is read. -/
theorem row_form {w : World} {base : Nat} {e : TypeId} {v : Value} {xs : List (Int × SL)} (h : Owns w base e 2 encW v xs) : ∃ q cap, v = .slice q xs.length cap ∧ xs.length ≤ cap ∧ cap ≤ maxLen ∧
    ∀ i p, xs[i]? = some p → ∃ g, q = some ⟨g, 0, none⟩ ∧ w.cell? ⟨g, i * 2, none⟩ = some (.int .i64 p.1) ∧ w.cell? ⟨g, i * 2 + 1, none⟩ = some (slV p.2) := by
  obtain ⟨q, cap, hv, h1, h2, hR, -, hg⟩ := h.form lenW
  refine ⟨q, cap, hv, h1, h2, fun i p hi => ?_⟩
  have hn : 0 < xs.length := by have := (List.getElem?_eq_some_iff.1 hi).1; omega
  obtain ⟨g, rfl⟩ := hg hn
  have a0 := hR.at hi (j := 0) rfl
  have a1 := hR.at hi (j := 1) rfl
  rw [Nat.zero_add] at a0 a1
  exact ⟨g, rfl, a0, a1⟩
theorem take_at {α : Type} {xs : List α} {k : Nat} {p : α} (h : xs[k]? = some p) : xs.take (k + 1) = xs.take k ++ [p] := by rw [List.take_add_one, h]; rfl
theorem lt_at {α : Type} {xs : List α} {k : Nat} (h : k < xs.length) : ∃ p, xs[k]? = some p := ⟨_, List.getElem?_eq_getElem h⟩
theorem nx64 {k : Nat} (h : k ≤ 1000000) : wrap64 ((k : Int) + 1) = k + 1 := IntWalk.wrap64_in _ (by omega)
set_option maxRecDepth 100000 in
set_option maxHeartbeats 4000000 in
theorem now_c (base d bm : Nat) (v : Value) (S : DS) (sv lv : List (Int × SL)) (w : World) (h : DiskAt w base d bm v S sv lv) (hr : Rise sv) (hk : ∀ p ∈ lv, In64 p.1) (hN : sv.length + lv.length ≤ 1000000) :
    Calls Try.prog 59 #[.pointer (some ⟨d, 0, none⟩)] w fun r w' => r = .returned (.map (some w.heap.size)) ∧ w'.ownsMap Try.prog 3 RS w.heap.size (sv.length + lv.length) (DM (nowL sv lv)) ∧ Below w.heap.size w w' := by
  obtain ⟨q, cap, rfl, hc1, hc2, hrd⟩ := row_form h.row
  have d3 : w.cell? ⟨d, 3, none⟩ = some (.map (some bm)) := h.blk.cell 3
  have d4 : w.cell? ⟨d, 4, none⟩ = some (.slice q lv.length cap) := h.blk.cell 4
  have hdl := h.blk.lt
  have HM := Lib.hid h.map
  have HR := Lib.hid hrd
  have HK := Lib.hid hk
  have HC := Lib.hid (And.intro hc1 hc2)
  clear h hrd hk hc1 hc2
  go_enter Try.func59, Try.ntmps59
  go_wp2_with (go_at_call 72; refine (mclone_c bm _ _ _ HM.out).mono ?_; rintro e_ w1 ⟨rfl, hm1, hB1⟩; have d4' : w1.cell? ⟨d, 4, none⟩ = some (.slice q lv.length cap) := (hB1.cell hdl).trans d4)
  generalize hn0 : w.heap.size = m at hm1 hB1 hdl ⊢
  go_loopw [16] (fun i wr => ∃ k : Nat, k ≤ lv.length ∧ i = .int .i64 k ∧ wr.ownsMap Try.prog 3 RS m (sv.length + k) (DM (nowL sv (lv.take k))) ∧ Below m w wr) (fun i _ => lv.length - (intOf i).toNat)
  case atStart => exact ⟨0, Nat.zero_le _, rfl, by rw [List.take_zero]; exact hm1, hB1⟩
  case round =>
    obtain ⟨k, hk, rfl, hown, hnx⟩ := hrel
    by_cases hlt : k < lv.length
    · obtain ⟨p, hp⟩ := lt_at hlt
      obtain ⟨g, rfl, r0, r1⟩ := HR.out k p hp
      have hgl := cell_lt r0
      replace hgl : g < m := by rw [← hn0]; exact hgl
      replace r0 := (hnx.cell (p := ⟨g, k * 2, none⟩) hgl).trans r0
      replace r1 := (hnx.cell (p := ⟨g, k * 2 + 1, none⟩) hgl).trans r1
      have hkey := key64 (HK.out p (List.mem_of_getElem? hp))
      obtain ⟨pk, pq, pn, pc⟩ := p
      simp only [slV] at r0 r1 hkey
      have HP := Lib.hid hp
      clear hp
      have hk1 : (k : Int) < (lv.length : Int) := by omega
      have hk0 : (0 : Int) ≤ (k : Int) := by omega
      go_wp2_with (at_mapUpdate; refine wpList_mapUpdate_own _ rfl _ _ _ 87 rfl 3 22 lawI Try.underlying87 _ m (sv.length + k) _ rfl (hown.alloc _) (by unfold maxLen; omega) _ _ _ rfl rfl hkey _ [] (RS_mk (pq, pn, pc)) ?_; intro w2 hown2 hgrow2)
      rw [put_DM (rise_now hr), ← nowL_snoc, ← take_at HP.out, show sv.length + k + 1 = sv.length + (k + 1) by omega] at hown2
      have hms : m ≤ wr.heap.size := by rw [← hn0]; exact hnx.size
      exact ⟨⟨k + 1, hlt, by go_num, hown2, (hnx.alloc hms _).grown hgrow2 (Nat.le_trans hms (by simp)) (fun j hj => by cases hj; exact Nat.le_refl _)⟩, next_less' hlt⟩
    · obtain rfl : k = lv.length := by omega
      rw [List.take_length] at hown
      have hk1 : ¬ ((lv.length : Int) < (lv.length : Int)) := by omega
      go_wp2_with fail
      go_returns
      subst hn0
      exact ⟨rfl, hown, hnx⟩
def lens (l : List (Int × SL)) : Nat := (l.map fun p => p.2.2.1).sum
theorem lens_is {w : World} {base : Nat} : ∀ {l : List (Int × SL)}, GoodL w base l → lens l = lenB (cont w l)
  | [], _ => rfl
  | x :: r, h => by
    have h1 := (h x List.mem_cons_self).len
    have h2 := lens_is (l := r) fun p hp => h p (List.mem_cons_of_mem _ hp)
    simp only [lens, lenB, cont, List.map_cons, List.sum_cons] at h2 ⊢
    rw [h1, h2]
/-- Those that are no longer to come. -/
def doneB (l : List (Int × SL)) (left : Lit → Bool) : Nat := lens (l.filter fun p => !left (.int .i64 p.1))
theorem doneB_nil (left : Lit → Bool) : doneB [] left = 0 := rfl
theorem doneB_cons (x : Int × SL) (r : List (Int × SL)) (left : Lit → Bool) : doneB (x :: r) left = (if left (.int .i64 x.1) then 0 else x.2.2.1) + doneB r left := by
  unfold doneB lens
  cases hx : left (.int .i64 x.1) <;> simp [hx]
theorem doneB_cong {left left' : Lit → Bool} : ∀ {l : List (Int × SL)}, (∀ p ∈ l, left (.int .i64 p.1) = left' (.int .i64 p.1)) → doneB l left = doneB l left'
  | [], _ => rfl
  | x :: r, h => by rw [doneB_cons, doneB_cons, h x List.mem_cons_self, doneB_cong (l := r) fun p hp => h p (List.mem_cons_of_mem _ hp)]
theorem doneB_all {left : Lit → Bool} : ∀ {l : List (Int × SL)}, (∀ p ∈ l, left (.int .i64 p.1) = true) → doneB l left = 0
  | [], _ => rfl
  | x :: r, h => by rw [doneB_cons, h x List.mem_cons_self, doneB_all (l := r) fun p hp => h p (List.mem_cons_of_mem _ hp)]; rfl
theorem doneB_none {left : Lit → Bool} (h : ∀ z, left z = false) : ∀ l : List (Int × SL), doneB l left = lens l
  | [] => rfl
  | x :: r => by
    rw [doneB_cons, h, doneB_none h r]
    simp [lens]
theorem doneB_le (left : Lit → Bool) : ∀ l : List (Int × SL), doneB l left ≤ lens l
  | [] => Nat.le_refl _
  | x :: r => by
    have := doneB_le left r
    rw [doneB_cons]
    simp only [lens, List.map_cons, List.sum_cons] at this ⊢
    split <;> omega
theorem doneB_step {left : Lit → Bool} {x : Int} {s : SL} : ∀ {l : List (Int × SL)}, Rise l → getL l x = some s → left (.int .i64 x) = true → doneB l (fun z => left z && !z.sameKey (.int .i64 x)) = doneB l left + s.2.1
  | [], _, h, _ => by cases h
  | y :: r, hr, h, hl => by
    obtain ⟨h1, h2⟩ := rise_cons.1 hr
    rw [getL_cons] at h
    rw [doneB_cons, doneB_cons]
    by_cases a : y.1 = x
    · rw [if_pos a] at h
      obtain rfl := Option.some.inj h
      rw [doneB_cong (l := r) (left' := left) fun p hp => by
        have := h1 p hp
        rw [same_i, decide_eq_false (by omega)]; simp]
      rw [same_i, a, hl]
      simp; omega
    · rw [if_neg a] at h
      rw [doneB_step h2 h hl]
      rw [same_i, decide_eq_false a]
      simp; omega
theorem left_start {l : List (Int × SL)} (hr : Rise l) : ∀ p ∈ l, Maps.has (DM l) (.int .i64 p.1) = true := fun p hp => by
  obtain ⟨i, hi, e⟩ := List.mem_iff_getElem.1 hp
  rw [has_DM, getL_at hr (i := i) (by rw [List.getElem?_eq_getElem hi, e])]
  rfl
set_option maxRecDepth 100000 in
set_option maxHeartbeats 4000000 in
theorem bytes_c (m n : Nat) (l : List (Int × SL)) (w : World) (hr : Rise l) (h : w.ownsMap Try.prog 3 RS m n (DM l)) (hb : lens l ≤ 1000000000000) :
    Calls Try.prog 60 #[.map (some m)] w fun r w' => r = .returned (.int .i64 (lens l)) ∧ Below w.heap.size w w' := by
  have HR := Lib.hid hr
  have HL := Lib.hid hb
  clear hr hb
  have hml := h.lt
  go_enter Try.func60, Try.ntmps60
  go_wp2_with (at_range; refine wpList_range_own _ rfl _ 87 rfl 3 22 lawI Try.underlying87 _ m n _ rfl h ?_; intro w0 hrg0 hg0 hs0)
  go_frame
  have hB0 : Below w.heap.size w w0 := (Below.refl _ _).grown hg0 (Nat.le_refl _) (fun j hj => by cases hj)
  generalize hgr : w.heap.size = g at *
  go_loopw [3] (fun x wr => ∃ (left : Lit → Bool) (cnt : Nat), wr.ranges Try.prog 3 RS m g n (DM l) left cnt ∧ x = .int .i64 (doneB l left : Int) ∧ Below g w wr) (fun _ wr => wr.rangeLeft m g)
  case atStart => exact ⟨_, _, hrg0, by rw [doneB_all (left_start HR.out)]; rfl, hB0⟩
  case round =>
    obtain ⟨left, cnt, hrg, rfl, hnx⟩ := hrel
    go_wp2_with (at_next; refine wpList_next_ranges (α := Int) (β := SL) _ rfl _ rfl 3 lawI RS (Value.int .i64) slV (fun key kl hkey => by obtain ⟨x, rfl, _⟩ := Maps.keyOf_int_inv Try.underlying3 hkey; exact ⟨x, rfl⟩) (fun v y hv => by obtain ⟨c, rfl, _⟩ := RS_inv hv; exact ⟨c, rfl⟩) m g n _ _ _ rfl hrg ?_ ?_)
    · intro hc0 hl0
      go_wp2_with fail
      go_returns
      rw [doneB_none hl0]
      subst hgr
      exact ⟨rfl, hnx⟩
    · intro x sq sn sc kl y yp w1 cnt1 hkey hlx hv hat hrg1 hlt hg1 hs1 hen
      obtain ⟨x', ex, rfl, -⟩ := Maps.keyOf_int_inv Try.underlying3 hkey
      cases ex
      obtain ⟨s', es, ey⟩ := RS_inv hv
      obtain rfl : y = .held (sq, sn, sc) := by cases ey; obtain ⟨a, b, c⟩ := s'; simp only [slV, Value.slice.injEq] at es; obtain ⟨rfl, rfl, rfl⟩ := es; rfl
      have hgx : getL l x = some (sq, sn, sc) := by
        have := hat .nil
        rw [atKey_DM] at this
        cases hgl : getL l x with
        | none => rw [hgl] at this; cases this
        | some s => rw [hgl] at this; simp only [DataW.held.injEq] at this; rw [this]
      have hst : doneB l (fun z => left z && !z.sameKey (.int .i64 x)) = doneB l left + sn := doneB_step HR.out hgx hlx
      have hle := doneB_le (fun z => left z && !z.sameKey (.int .i64 x)) l
      have hll := HL.out
      have hi1 : -9223372036854775808 ≤ (doneB l left : Int) + (sn : Int) := by omega
      have hi2 : (doneB l left : Int) + (sn : Int) ≤ 9223372036854775807 := by omega
      have hB1 : Below g w w1 := hnx.grown hg1 (by rw [← hgr]; exact hnx.size) (fun j hj => by cases hj; exact Nat.le_refl _)
      have hrl : w1.rangeLeft m g < wr.rangeLeft m g := by rw [hrg1.left_eq, hrg.left_eq]; exact hlt
      have HH := Lib.hid (And.intro hrg1 (And.intro hst (And.intro hB1 hrl)))
      clear hrg hrg1 hst hle hll hB1 hrl hat hv hgx hkey hg1 hs1 hlt es ey hnx
      simp only [slV] at hen ⊢
      go_wp2_with fail
      exact ⟨⟨_, _, HH.out.1, by rw [HH.out.2.1]; rfl, HH.out.2.2.1⟩, HH.out.2.2.2⟩
end Go.Proofs.Ytkopenemoddbbaa
