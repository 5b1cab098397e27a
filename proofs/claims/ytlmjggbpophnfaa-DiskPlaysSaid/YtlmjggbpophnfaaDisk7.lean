/- All keys. -/
import Derived.Test.YtlmjggbpophnfaaDisk5
import Derived.Test.YtlmjggbpophnfaaShelf
namespace Go.Proofs.Ytlmjggbpophnfaa
open Go.RowKit Go.Maps Go.Sort Go.Shelf
attribute [local go_sem] Oper.semAt_some

theorem keys_DM (l : List (Int × SL)) : intKeys (DM l) = l.map (·.1) := by
  show (DMl l).map (fun p => Go.intOf p.1) = _
  unfold DMl
  rw [List.map_map]
  rfl
theorem keys_sorted {l : List (Int × SL)} (h : Rise l) {ss : List Int} (hp : ss.Perm (intKeys (DM l))) : ss.mergeSort (fun x y => decide (x ≤ y)) = l.map (·.1) := by
  rw [mergeSort_of_perm_i hp, keys_DM]
  refine List.mergeSort_of_pairwise ?_
  rw [List.pairwise_map]
  exact h.imp fun {a b} hab => by simp; omega
theorem sortsA (m : Nat) : AnyZI.SortsIn Try.prog Try.sortedA_ren Fence.wide m :=
  ⟨fun blk off cap ss W hH hblk hsz => callsIn_wide.2 (AnyM.slices_Sort_int Try.sortA blk off cap ss W hH hblk hsz),
   fun p cap W => callsIn_wide.2 (AnyM.slices_Sort_int_none Try.sortA p cap W)⟩
theorem own_base {w : World} {b b' : Nat} {e : TypeId} {size : Nat} {α : Type} {enc : α → List Value} {v : Value} {xs : List α} (h : Owns w b e size enc v xs) (hb : b' ≤ b) : Owns w b' e size enc v xs := by
  refine ⟨h.1, ?_⟩
  rcases h.2 with h0 | ⟨g, cap, cur, hv, hbg, r⟩
  · exact .inl h0
  · exact .inr ⟨g, cap, cur, hv, Nat.le_trans hb hbg, r⟩
set_option maxRecDepth 100000 in
set_option maxHeartbeats 4000000 in
theorem sorted_c (b nn : Nat) (l : List (Int × SL)) (w w1 : World) (hw1 : w1 = w.alloc (.cells #[.map (some b)] 54)) (hown : w.ownsMap Try.prog 3 RS b nn (DM l)) (hr : Rise l) (hmax : l.length ≤ 1000000) :
    CallsIn Fence.wide 5 Try.prog 40 #[.func (.func 45) #[] #[.pointer (some ⟨w.heap.size, 0, none⟩)]] w1 fun e w' => ∃ v, e = .returned v ∧ Owns w' w1.heap.size 3 1 encI v (l.map (·.1)) ∧ Below w1.heap.size w1 w' := by
  have hbl := hown.lt
  have hseq : SeqGives Fence.wide 2 Try.prog 45 #[.pointer (some ⟨w.heap.size, 0, none⟩)] encZ (fun ss => ss.Perm (intKeys (DM l))) (Maps.size (DM l)) w1 := by
    rw [hw1]
    exact AnyZI.keys_gives (ρ := Try.keysA_ren) { Try.keysA with } Fence.wide _ trivial rfl (by omega) w.heap.size b nn (DM l) _ (by simp) (by simp) (hown.alloc _)
  have hs := size_DM l
  have cS := AnyZI.sorted_in Try.sortedA Fence.wide 5 trivial trivial trivial trivial rfl (by omega) (sortsA _) (enters_of Try.func44 (by kernel_rfl) rfl) 45 #[.pointer (some ⟨w.heap.size, 0, none⟩)] trivial (enters_of Try.func45 (by kernel_rfl) rfl) _ _ (by rw [hs]; unfold maxLen; omega) (by rw [hs]; omega) _ hseq
  refine CallsIn.mono cS ?_
  rintro e w' ⟨v, ss, rfl, hp, hrow, -, hb⟩
  refine ⟨v, rfl, ?_, hb⟩
  rw [keys_sorted hr hp] at hrow
  have hl : ss.length = (l.map (·.1)).length := by rw [hp.length_eq, keys_DM]
  rw [hl] at hrow
  have hf : (l.map (·.1)).flatMap encI = (l.map (·.1)).map encZ := by
    rw [List.flatMap_def]
    show ((l.map (·.1)).map fun n => [encZ n]).flatten = _
    induction l.map (·.1) with
    | nil => rfl
    | cons a r ih => simp [List.flatten_cons] at ih ⊢; exact ih
  show w'.ownsRow w1.heap.size 3 1 v (l.map (·.1)).length ((l.map (·.1)).flatMap encI)
  rw [hf]
  exact hrow
set_option maxRecDepth 100000 in
set_option maxHeartbeats 4000000 in
theorem keys_c (base d : Nat) (M : Nat → Prop) (S : DS) (N : Nat) (w : World) (h : DiskIs w base M d S) (hok : DOk S N 1000000) (hN : N ≤ 100000) :
    Calls Try.prog 34 #[.pointer (some ⟨d, 0, none⟩)] w fun r w' => ∃ v, r = .returned v ∧ Owns w' w.heap.size 3 1 encI v (S.now.map (·.1)) ∧ Below w.heap.size w w' := by
  obtain ⟨bm, v, sv, lv, hD, hM⟩ := h
  obtain ⟨hr, hkl, hcnt, hg, hc, hrn, hlens⟩ := hD.facts hok
  have HNW := Lib.hid (now_c base d bm v S sv lv w hD hr hkl (by omega))
  have hln : (nowL sv lv).length ≤ 1000000 := Nat.le_trans (len_now lv sv) (by omega)
  have hkeys : (nowL sv lv).map (·.1) = S.now.map (·.1) := by rw [← hc]; unfold cont; rw [List.map_map]; rfl
  have HSR := Lib.hid fun w1 w2 b nn e h => sorted_c b nn (nowL sv lv) w1 w2 e h hrn hln
  rw [hkeys] at HSR
  clear hD hM hr hkl hcnt hg hc hrn hlens hln hkeys
  refine (callsIn_wide (n := 6)).1 ?_
  have cK : ∀ mb W, CallsIn Fence.wide 5 Try.prog 41 #[.map mb] W fun e w' => e = .returned (.func (.func 45) #[] #[.pointer (some ⟨W.heap.size, 0, none⟩)]) ∧ w' = W.alloc (.cells #[.map mb] 54) := fun mb W => AnyZI.keys_in Try.keysA Fence.wide 5 trivial rfl mb W
  have hf1 : Fence.wide.fn 25 := trivial
  have hf2 : Fence.wide.fn 41 := trivial
  have hf3 : Fence.wide.fn 40 := trivial
  refine callsIn_of_wp Try.func34 rfl trivial ?_ rfl
  simp only [Try.ntmps34, List.size_toArray, List.length_cons, List.length_nil, Nat.reduceAdd, Nat.reduceSub, Array.replicate_succ, Array.replicate_zero, List.push_toArray, List.append_toArray, List.nil_append, List.cons_append]
  gi_wp2_with (first
    | (gi_at_call 25; refine (callsIn_wide.2 HNW.out).mono ?_; rintro e_ w2 ⟨rfl, hm, hB2⟩)
    | (gi_at_call 41; refine (cK _ _).mono ?_; rintro e_ w3 ⟨rfl, hw3⟩; have HW3 := Lib.hid hw3; clear hw3)
    | (gi_at_call 40; refine (HSR.out _ _ _ _ HW3.out hm).mono ?_; rintro e_ w4 ⟨u, rfl, ho, hB4⟩))
  go_returns
  have hB3 : Below w2.heap.size w2 w3 := by rw [HW3.out]; exact (Below.refl _ _).alloc (Nat.le_refl _) _
  exact ⟨u, rfl, own_base ho (Nat.le_trans hB2.size hB3.size), after (after hB2 hB3) hB4⟩
end Go.Proofs.Ytlmjggbpophnfaa
