/- Texts that build one behind the other, laid together: GenC Find Meet1 Meet4 SwP SwP2 SwP3 SwP4 Free SwP5 Free2 Lay1 Lay2 Meet2 Mov Alo Mv1 Hit1 BodP. -/
import Derived.Test.YtmbccnioijokfaaGreatDoorMw4
import Derived.Test.YtmbccnioijokfaaGreatDoorMw3
import Derived.Test.YtmbccnioijokfaaGreatDoorMw1
import Derived.Test.YtmbccnioijokfaaGreatDoorMw2
import Derived.Deep.Cut
import Derived.Deep.Slices
namespace Go.Proofs.YtmbccnioijokfaaGreatDoor
open Go.RowKit Go.Shelf
attribute [local go_sem] Oper.semAt_some
theorem wpListIn_append_run {F : Fence} {n' : Nat} {P : Program} (w : World) {ops : Array Oper} {rest : List Oper} {o : Oper} {a : Act} {Q : Exit → Act → World → Prop} (hgd : o.guard = none) (s x : Operand) (t tn : TypeId)
    (ho : o.op = .call { callee := .builtin .append, args := #[s, x], argTypes := #[t, tn] }) (vs vx : Value) (hs : a.eval s = vs) (hx : a.eval x = vx)
    (v' : Value) (w' : World) (hr : (Builtin.append_ #[t, tn] o.type #[vs, vx]).run P w = .ok v' w') (h : wpListIn F n' P ops Q rest (a.put o.dst v') w') : wpListIn F n' P ops Q (o :: rest) a w := by
  refine wpListIn_plain hgd fun K hK => ?_
  unfold Oper.wpIn
  refine ⟨?_, ?_⟩
  · simp [Oper.about, ho, resolve, Target.leads, Sem.run_pure]
  · rw [Oper.semAt_plain F _ _ (by rw [ho]; intro c hc'; cases hc')]
    simp [execOp, ho, resolve, invoke, builtin, hs, hx, hr, Result.andThen]
    exact hK _ _ h
set_option maxRecDepth 100000 in
set_option maxHeartbeats 1000000 in
theorem gcells_c (s px pz : Int) (w : World) : Calls Tryz.prog 170 #[.int .i64 s, .agg #[.int .i64 px, .int .i64 pz]] w fun r w' =>
    r = .returned (.func (.func 217) #[] #[.pointer (some ⟨w.heap.size + 1, 0, none⟩), .pointer (some ⟨w.heap.size, 0, none⟩)]) ∧ w' = (w.alloc (.cells #[.int .i64 s] 3)).alloc (.cells #[.int .i64 px, .int .i64 pz] 123) := by
  go_enter Tryz.func170, Tryz.ntmps170
  go_wp2_with fail
  go_returns
  exact ⟨rfl, rfl⟩
set_option maxRecDepth 100000 in
set_option maxHeartbeats 1000000 in
theorem clip_c (q : Option Addr) (n c : Nat) (hc : n ≤ c) (w : World) : Calls Tryz.prog 172 #[.slice q n c] w fun r w' => r = .returned (.slice q n n) ∧ w = w' := by
  go_enter Tryz.func172, Tryz.ntmps172
  go_wp2_with fail
  go_returns
  exact ⟨rfl, rfl⟩
theorem Owns.lowB {w : World} {base B size : Nat} {e : TypeId} {α : Type} {enc : α → List Value} {v : Value} {xs : List α} (h : Owns w base e size enc v xs) (hb : B ≤ base) : Owns w B e size enc v xs := by
  refine ⟨h.1, ?_⟩
  rcases h.2 with h0 | ⟨g, cap, cur, hv, hbg, r⟩
  · exact .inl h0
  · exact .inr ⟨g, cap, cur, hv, Nat.le_trans hb hbg, r⟩
theorem infIg : (Tryz.prog.info? 3).map (fun i => (i.zero, i.size, i.bytes)) = some (some (.int .i64 0), 1, 8) := by kernel_rfl
set_option maxRecDepth 100000 in
set_option maxHeartbeats 8000000 in
theorem gchunk_c (s px pz : Int) (hx : -1000000000 ≤ px ∧ px ≤ 1000000000) (hz : -1000000000 ≤ pz ∧ pz ≤ 1000000000) (w : World) :
    Calls Tryz.prog 126 #[.int .i64 s, .agg #[.int .i64 px, .int .i64 pz]] w fun r w' => RowR w (ofR (genL s px pz)) r w' := by
  obtain ⟨N, hN⟩ : ∃ N, N = w.heap.size + 1 := ⟨_, rfl⟩
  obtain ⟨W0, hW0⟩ : ∃ W0, W0 = (w.alloc (.cells #[.int .i64 px, .int .i64 pz] 123)).alloc (.cells #[.slice none 0 0] 31) := ⟨_, rfl⟩
  have H0 : Below w.heap.size w W0 := by rw [hW0]; go_grown
  have P0 : Blk W0 w.heap.size 123 #[.int .i64 px, .int .i64 pz] := by rw [hW0]; exact (Blk.new' rfl).alloc _
  have A0 : Blk W0 N 31 #[.slice none 0 0] := by rw [hW0, hN]; exact Blk.new' (by simp)
  have hs0 : W0.heap.size = w.heap.size + 2 := by rw [hW0]; simp
  obtain ⟨p0, p1, -, -⟩ := P0.pair
  refine (callsIn_wide (n := 5)).1 (callsIn_of_wp_marks Tryz.func126 rfl trivial ?_ rfl)
  refine wpIn_wide.2 ?_
  simp only [Tryz.ntmps126, List.size_toArray, List.length_cons, List.length_nil, Nat.reduceAdd, Nat.reduceSub, Array.replicate_succ, Array.replicate_zero, List.push_toArray, List.append_toArray, List.nil_append, List.cons_append]
  go_upto_region 2 with (fail)
  rw [← hW0, ← hN]
  have HN := Lib.hid hN
  have HS0 := Lib.hid hs0
  clear hW0 hN hs0 P0
  obtain ⟨M, hM⟩ : ∃ M, M = W0.heap.size := ⟨_, rfl⟩
  obtain ⟨W1, hW1⟩ : ∃ W1, W1 = (W0.alloc (.cells #[.int .i64 s] 3)).alloc (.cells #[.int .i64 px, .int .i64 pz] 123) := ⟨_, rfl⟩
  have H1 : Below w.heap.size w W1 := by rw [hW1]; exact ((H0.alloc H0.size _).alloc (H0.alloc H0.size _).size _)
  have S1 : Blk W1 M 3 #[.int .i64 s] := by rw [hW1, hM]; exact (Blk.new' rfl).alloc _
  have P1 : Blk W1 (M + 1) 123 #[.int .i64 px, .int .i64 pz] := by rw [hW1, hM]; exact Blk.new' (by simp)
  have A1 : Blk W1 N 31 #[.slice none 0 0] := by rw [hW1]; exact (A0.alloc _).alloc _
  have hs1 : W1.heap.size = M + 2 := by rw [hW1, hM]; simp
  have HM := Lib.hid (show M = N + 1 by have := HN.out; have := HS0.out; omega)
  have HLEN := Lib.hid (show (genL s px pz).length = 8192 by simp [genL])
  go_wp2_with (go_at_call 170; refine (gcells_c _ _ _ _).mono ?_; rintro e_ w1 ⟨rfl, rfl⟩)
  rw [← hW1, ← hM]
  have HS := Lib.hid hs1
  clear hW1 hM hs1 p0 p1 H0 A0 HS0
  refine wp_range (m := 3) (gf := 217) (lb := #[.pointer (some ⟨M + 1, 0, none⟩), .pointer (some ⟨M, 0, none⟩)]) rfl (enters_of Tryz.func217 (by kernel_rfl) rfl) (gen_it (M + 1) M s px pz hx hz W1 P1 S1) (fun b hb => by have := HS.out; omega) (fun _ => rfl)
    (fun Z i A => ∃ v, Blk A N 31 #[v] ∧ Hid (Owns A (max Z (M + 2)) 3 1 encI v ((genL s px pz).take i)) ∧ Below w.heap.size w A)
    (fun Z k i A => False) ?_ ?_ (fun Z => ⟨_, A1, by rw [List.take_zero]; exact Owns.nil, H1⟩) ?round ?done ?stop
  · rintro Z i A B ⟨v, h1, h2, h3⟩ hk
    exact ⟨v, hk.blk (fun h => by have h4 := h.1; have := HM.out; rw [HS.out] at h4; omega) h1, h2.out.kept (fun g hg hgs => hk.block g hgs (fun h => by have := h.2; have := Nat.le_max_left Z (M + 2); omega)), h3.trans (hk.below h3.size (fun b hb h => by have h4 := h.1; have := HM.out; have := HN.out; rw [HS.out] at h4; omega))⟩
  · rintro Z k i A B h _; exact h.elim
  case round =>
    rintro Z l i x A rfl hZ1 hZ2 hx2 ⟨v, h1, h2, h3⟩
    clear A1 H1 S1 P1
    gi_wp2
    refine ⟨Kept.refl _ _, fun A2 hA2 hz2 => ?_⟩
    have hs1 := HS.out
    have hMN := HM.out
    have hNw := HN.out
    have hmx : max Z (M + 2) = Z := by omega
    rw [hmx] at h2
    replace h1 : Blk A2 N 31 #[v] := hA2.blk (show N ≠ W1.heap.size + 1 by omega) h1
    have V : Owns A2 Z 3 1 encI v ((genL s px pz).take i) := h2.out.kept fun g hg hgs => hA2.block g hgs (show g ≠ W1.heap.size + 1 by omega)
    replace h3 : Below w.heap.size w A2 := h3.trans (hA2.below h3.size (fun b hb => by omega))
    have hz3 : Z ≤ A2.heap.size := by rw [hz2]; omega
    have hi : i < (genL s px pz).length := (List.getElem?_eq_some_iff.1 hx2).1
    have htk : (genL s px pz).take (i + 1) = (genL s px pz).take i ++ [x] := by rw [List.take_add_one, hx2]; rfl
    have htl : ((genL s px pz).take i).length = i := by rw [List.length_take]; omega
    have h8 := HLEN.out
    obtain ⟨A3, hA3⟩ : ∃ A3, A3 = A2.alloc (.cells #[.int .i64 x] 3) := ⟨_, rfl⟩
    have hb3 : Below A2.heap.size A2 A3 := by rw [hA3]; exact (Below.refl _ _).alloc (Nat.le_refl _) _
    have hNew : Blk A3 A2.heap.size 3 #[.int .i64 x] := by rw [hA3]; exact Blk.new' rfl
    obtain ⟨v', w', hrun, V2, -, hb2, g9, c9, rfl⟩ := run_push (P := Tryz.prog) (ts := 31) (ty := 31) (x := x) (b := A2.heap.size) Tryz.underlying31 infIg rfl (by decide) (by decide) rfl (by simp [Value.oneCell']) (V.on hb3)
      (fun j u hu => by rw [hNew.cell j]; simpa using hu) (by rw [htl]; omega) (Nat.le_trans hz3 hb3.size)
    generalize ((genL s px pz).take i).length + 1 = n9 at hrun V2
    rw [← htk] at V2
    have O := (h1.on hb3).below hb2 (by omega)
    have f0 := O.frz 0
    have o0 := O.cell 0
    have hk3 : Kept (Keeps W1.heap.size Z (fun x => x = M + 1 ∨ x = M)) A2 w' := (Kept.of_below hb3).trans ⟨hb2.os, hb2.tape, hb2.output, hb2.size, fun b hb hK => hb2.block b (by
      rcases hK with h | h
      · exact h.2
      · omega)⟩
    have hk4 := hk3.setCell (p := ⟨N, 0, none⟩) (fun h => by
      rcases h with h | h
      · have := h.1; dsimp only at this; omega
      · dsimp only at h; omega) (.slice (some ⟨g9, 0, none⟩) n9 c9)
    have hfin : Below w.heap.size w (w'.setCell ⟨N, 0, none⟩ (.slice (some ⟨g9, 0, none⟩) n9 c9)) := (after h3 hb3 |>.trans (hb2.mono (by omega))).setCell (p := ⟨N, 0, none⟩) (by dsimp only; omega) _
    have V3 := V2.far (p := ⟨N, 0, none⟩) (show N < Z by omega) (.slice (some ⟨g9, 0, none⟩) n9 c9)
    rw [← hmx] at V3
    have HF := Lib.hid (And.intro hk4 (And.intro (O.set_ 0 (.slice (some ⟨g9, 0, none⟩) n9 c9)) (And.intro V3 hfin)))
    have v0 := h1.cell 0
    rw [hA3] at hrun
    clear hA2 hz2 hs1 hmx V hz3 hi htk htl hA3 hb3 hNew V2 hb2 O hk3 hk4 hfin V3 hx2 hZ1 hZ2 h2 h3 h1 hMN hNw h8
    gi_wp2_with (gi_at_builtin; refine wpListIn_append_run _ rfl _ _ _ _ rfl _ _ rfl rfl _ _ hrun ?_)
    exact ⟨HF.out.1, _, HF.out.2.1, HF.out.2.2.1, HF.out.2.2.2⟩
  case done =>
    rintro Z A ⟨v, h1, h2, h3⟩ hK
    clear A1 H1
    have v0 := h1.cell 0
    have hO := h2.out
    rw [List.take_length] at hO
    obtain ⟨q, c, rfl, hc1, hc2, hrd, -⟩ := hO.form lenI
    have HOF := Lib.hid (runof_c A q (genL s px pz).length (genL s px pz) hrd (by rw [HLEN.out]; decide))
    have HCL := Lib.hid (clip_c q (genL s px pz).length c hc1 A)
    have HK := Lib.hid hK
    have H3 := Lib.hid h3
    have HSZ := Lib.hid (Array.getElem?_eq_some_iff.1 hK).1
    clear hK hO hc1 hc2 hrd h1 h2 h3
    go_wp2_with first
      | (go_at_call 172; refine HCL.out.mono ?_; rintro e_ w1 ⟨rfl, rfl⟩)
      | (go_at_call 171; refine HOF.out.mono ?_; rintro e_ w1 ⟨v, rfl, g1, g2⟩; have G1 := Lib.hid g1; have G2 := Lib.hid g2; clear g1 g2)
    refine leave_mark ((G2.out.block _ HSZ.out).trans HK.out) (v := v) (by simp [results, Tryz.f126, go_sem]) ⟨v, rfl, ?_, ?_⟩
    · have h := G1.out.lowB H3.out.size
      refine ⟨h.1, ?_⟩
      rcases h.2 with h0 | ⟨g, cp, cur, hv, hbg, hg, r⟩
      · exact .inl h0
      · refine .inr ⟨g, cp, cur, hv, hbg, (World.putObj_heap_other (fun e => ?_)).trans hg, r⟩
        rw [e, (G2.out.block _ HSZ.out).trans HK.out] at hg
        cases hg
    · exact putObj_below (after H3.out G2.out) (by have := HS.out; have := HM.out; have := HN.out; omega) _
  case stop =>
    rintro Z k i A hi h
    exact h.elim
end Go.Proofs.YtmbccnioijokfaaGreatDoor

namespace Go.Proofs.YtmbccnioijokfaaGreatDoor
open Go.RowKit Go.Shelf
attribute [local go_sem] Oper.semAt_some
theorem peach_c (a b c d e f : Int) (w : World) : Calls Tryz.prog 301 #[.agg #[.int .i64 a, .int .i64 b, .int .i64 c, .int .i64 d, .int .i64 e, .int .i64 f]] w fun r w' =>
    r = .returned (.func (.func 337) #[] #[.pointer (some ⟨w.heap.size, 0, none⟩)]) ∧ w' = w.alloc (.cells #[.int .i64 a, .int .i64 b, .int .i64 c, .int .i64 d, .int .i64 e, .int .i64 f] 210) := by
  have hmf : ∀ (fn : Fn) (first cap : Array Value) (w : World), (Instr.makeFunc fn first cap).run Tryz.prog w = .ok (.func fn first cap) w := fun _ _ _ _ => rfl
  go_enter Tryz.func301, Tryz.ntmps301
  go_wp2_with fail
  go_returns
  exact ⟨rfl, rfl⟩
theorem find_no {α : Type} {l : List α} {q : α → Bool} (h : ∀ j x, j < l.length → l[j]? = some x → q x = false) : l.find? q = none := by
  rw [List.find?_eq_none]
  intro x hx
  obtain ⟨j, hj, e⟩ := List.mem_iff_getElem.1 hx
  rw [h j x hj (by rw [List.getElem?_eq_getElem hj, e])]; decide
theorem find_at {α : Type} {q : α → Bool} {x : α} : ∀ {l : List α} {i : Nat}, l[i]? = some x → q x = true → (∀ j y, j < i → l[j]? = some y → q y = false) → l.find? q = some x := by
  intro l
  induction l with
  | nil => intro i h; cases h
  | cons a l ih =>
    intro i h hq hn
    cases i with
    | zero =>
      obtain rfl : a = x := by simpa using h
      rw [List.find?_cons_of_pos hq]
    | succ i =>
      have ha := hn 0 a (by omega) rfl
      rw [List.find?_cons_of_neg (by rw [ha]; decide)]
      exact ih (by simpa using h) hq (fun j y hj hy => hn (j + 1) y (by omega) (by simpa using hy))
def findV (o : Option Cl) : Value := match o with
  | some c => .tuple #[.agg #[.int .i64 c.1, .int .i64 c.2.1, .int .i64 c.2.2], .bool true]
  | none => .tuple #[.agg #[.int .i64 0, .int .i64 0, .int .i64 0], .bool false]
def FarC (c : Cl) : Prop := In64 c.1 ∧ In64 c.2.2
theorem far_of {a b c d e f : Int} {i : Nat} {x : Cl} (h : (cellsI a b c d e f)[i]? = some x) : FarC x := by
  have hm := List.mem_of_getElem? h
  unfold cellsI at hm
  split at hm
  · have h1 := mem_boxL.1 hm
    have h2 := lowI_bd a
    have h3 := lowI_bd c
    have h4 := topI_bd (n := a) (m := d)
    have h5 := topI_bd (n := c) (m := f)
    unfold FarC In64
    omega
  · cases hm
def Tells (P : Program) (V : FuncId) (lb : Value) (val : Cl → Int) (w : World) : Prop :=
  ∀ c, FarC c → ∀ W, Below w.heap.size w W → Calls P V (#[lb, .agg #[.int .i64 c.1, .int .i64 c.2.1, .int .i64 c.2.2]]) W fun r W' => r = .returned (.int .i64 (val c)) ∧ Below W.heap.size W W'
def Says (P : Program) (G : FuncId) (lb : Array Value) (p : Int → Bool) (w : World) : Prop :=
  ∀ n W, Below w.heap.size w W → Calls P G (#[.int .i64 n] ++ lb) W fun r W' => r = .returned (.bool (p n)) ∧ Below W.heap.size W W'
set_option maxRecDepth 100000 in
set_option maxHeartbeats 8000000 in
theorem find_c (V G : FuncId) (lv : Value) (lg : Array Value) (val : Cl → Int) (p : Int → Bool) (a b c d e f : Int) (hB : BoxOk a b c d e f) (w : World)
    (eV : ∀ args w, (callFunc V args).run Tryz.prog w = .ok (.enter V args) w) (eG : ∀ args w, (callFunc G args).run Tryz.prog w = .ok (.enter G args) w) (hV : Tells Tryz.prog V lv val w) (hG : Says Tryz.prog G lg p w) :
    Calls Tryz.prog 238 #[.func (.func V) #[lv] #[], .agg #[.int .i64 a, .int .i64 b, .int .i64 c, .int .i64 d, .int .i64 e, .int .i64 f], .func (.func G) #[] lg] w fun r w' =>
      r = .returned (findV ((cellsI a b c d e f).find? fun x => p (val x))) ∧ Below w.heap.size w w' := by
  have HV := Lib.hid hV
  have HG := Lib.hid hG
  clear hV hG
  obtain ⟨W, hW⟩ : ∃ W, W = ((((w.alloc (.cells #[.func (.func V) #[lv] #[]] 74)).alloc (.cells #[.int .i64 a, .int .i64 b, .int .i64 c, .int .i64 d, .int .i64 e, .int .i64 f] 210)).alloc (.cells #[.func (.func G) #[] lg] 188)).alloc (.cells #[.int .i64 0, .int .i64 0, .int .i64 0] 43)).alloc (.cells #[.bool false] 4) := ⟨_, rfl⟩
  have H : Below w.heap.size w W := by rw [hW]; go_grown
  have b0 : Blk W w.heap.size 74 #[.func (.func V) #[lv] #[]] := by rw [hW]; exact ((((Blk.new' rfl).alloc _).alloc _).alloc _).alloc _
  have b1 : Blk W (w.heap.size + 1) 210 #[.int .i64 a, .int .i64 b, .int .i64 c, .int .i64 d, .int .i64 e, .int .i64 f] := by rw [hW]; exact (((Blk.new' (by simp)).alloc _).alloc _).alloc _
  have b2 : Blk W (w.heap.size + 1 + 1) 188 #[.func (.func G) #[] lg] := by rw [hW]; exact ((Blk.new' (by simp)).alloc _).alloc _
  have b3 : Blk W (w.heap.size + 1 + 1 + 1) 43 #[.int .i64 0, .int .i64 0, .int .i64 0] := by rw [hW]; exact (Blk.new' (by simp)).alloc _
  have b4 : Blk W (w.heap.size + 1 + 1 + 1 + 1) 4 #[.bool false] := by rw [hW]; exact Blk.new' (by simp)
  have hs : W.heap.size = w.heap.size + 5 := by rw [hW]; simp
  obtain ⟨N, hN⟩ : ∃ N, N = w.heap.size := ⟨_, rfl⟩
  rw [← hN] at b0 b1 b2 b3 b4 hs
  refine (callsIn_wide (n := 5)).1 (callsIn_of_wp_marks Tryz.func238 rfl trivial ?_ rfl)
  refine wpIn_wide.2 ?_
  simp only [Tryz.ntmps238, List.size_toArray, List.length_cons, List.length_nil, Nat.reduceAdd, Nat.reduceSub, Array.replicate_succ, Array.replicate_zero, List.push_toArray, List.append_toArray, List.nil_append, List.cons_append]
  go_upto_region 1 with (fail)
  rw [← hW, ← hN]
  have HN := Lib.hid hN
  have HS0 := Lib.hid hs
  clear hW hN hs
  obtain ⟨a0, a1, a2, a3, a4, a5⟩ := b1.c6.1
  go_wp2_with (go_at_call 301; refine (peach_c _ _ _ _ _ _ _).mono ?_; rintro e_ w1 ⟨rfl, rfl⟩)
  generalize hV : World.alloc W _ = W1
  have bE : Blk W1 W.heap.size 210 #[.int .i64 a, .int .i64 b, .int .i64 c, .int .i64 d, .int .i64 e, .int .i64 f] := Blk.eqw hV (Blk.new' rfl)
  replace b0 := Blk.eqw hV (b0.alloc _)
  replace b1 := Blk.eqw hV (b1.alloc _)
  replace b2 := Blk.eqw hV (b2.alloc _)
  replace b3 := Blk.eqw hV (b3.alloc _)
  replace b4 := Blk.eqw hV (b4.alloc _)
  replace H : Below w.heap.size w W1 := by rw [← hV]; exact H.alloc H.size _
  have hs1 : W1.heap.size = N + 6 := by rw [← hV]; simp [HS0.out]
  rw [HS0.out] at bE ⊢
  clear hV a0 a1 a2 a3 a4 a5
  have HS := Lib.hid hs1
  clear hs1 HS0
  refine wp_range (m := 3) (gf := 337) (lb := #[.pointer (some ⟨N + 5, 0, none⟩)]) rfl (enters_of Tryz.func337 (by kernel_rfl) rfl) (each_it (N + 5) a b c d e f hB W1 bE) (fun b hb => by rw [hb]; exact bE.lt) (fun _ => rfl)
    (fun Z i A => Hid (∀ j x, j < i → (cellsI a b c d e f)[j]? = some x → p (val x) = false) ∧ Blk A N 74 #[.func (.func V) #[lv] #[]] ∧ Blk A (N + 1 + 1) 188 #[.func (.func G) #[] lg] ∧ Blk A (N + 1 + 1 + 1) 43 #[.int .i64 0, .int .i64 0, .int .i64 0] ∧ Blk A (N + 1 + 1 + 1 + 1) 4 #[.bool false] ∧ Below w.heap.size w A)
    (fun Z k i A => k = .ret ∧ Hid (∀ j x, j < i → (cellsI a b c d e f)[j]? = some x → p (val x) = false) ∧ ∃ x, Hid ((cellsI a b c d e f)[i]? = some x ∧ p (val x) = true) ∧ Blk A (N + 1 + 1 + 1) 43 #[.int .i64 x.1, .int .i64 x.2.1, .int .i64 x.2.2] ∧ Blk A (N + 1 + 1 + 1 + 1) 4 #[.bool true] ∧ Below w.heap.size w A)
    ?_ ?_ (fun Z => ⟨fun j x h => by omega, b0, b2, b3, b4, H⟩) ?round ?done ?stop
  · rintro Z i A B ⟨h1, h2, h3, h4, h5, h6⟩ hk
    have lt : ∀ n, n < 6 → ¬ Priv W1.heap.size Z (N + n) := fun n hn h => by have := h.1; rw [HS.out] at this; omega
    exact ⟨h1, hk.blk (lt 0 (by omega)) h2, hk.blk (lt 2 (by omega)) h3, hk.blk (lt 3 (by omega)) h4, hk.blk (lt 4 (by omega)) h5, h6.trans (hk.below h6.size (fun b hb h => by have := h.1; rw [HS.out] at this; rw [← HN.out] at hb; omega))⟩
  · rintro Z k i A B ⟨h1, h2, x, h3, h4, h5, h6⟩ hk
    have lt : ∀ n, n < 6 → ¬ Priv W1.heap.size Z (N + n) := fun n hn h => by have := h.1; rw [HS.out] at this; omega
    exact ⟨h1, h2, x, h3, hk.blk (lt 3 (by omega)) h4, hk.blk (lt 4 (by omega)) h5, h6.trans (hk.below h6.size (fun b hb h => by have := h.1; rw [HS.out] at this; rw [← HN.out] at hb; omega))⟩
  case round =>
    rintro Z l i x A rfl hZ1 hZ2 hx ⟨h1, h2, h3, h4, h5, h6⟩
    clear b0 b1 b2 b3 b4 H bE
    gi_wp2
    refine ⟨(Kept.refl _ _).alloc _, fun A2 hA2 hz2 => ?_⟩
    have hs2 : A2.heap.size = A.heap.size + 1 := by rw [hz2]; simp
    have hs1 := HS.out
    have keep : ∀ n t cs, n < 6 → Blk A (N + n) t cs → Blk A2 (N + n) t cs := fun n t cs hn h => hA2.blk (show N + n ≠ W1.heap.size + 1 by omega) (h.alloc _)
    replace h2 : Blk A2 N 74 #[.func (.func V) #[lv] #[]] := keep 0 _ _ (by omega) h2
    replace h3 : Blk A2 (N + 1 + 1) 188 #[.func (.func G) #[] lg] := keep 2 _ _ (by omega) h3
    replace h4 : Blk A2 (N + 1 + 1 + 1) 43 #[.int .i64 0, .int .i64 0, .int .i64 0] := keep 3 _ _ (by omega) h4
    replace h5 : Blk A2 (N + 1 + 1 + 1 + 1) 4 #[.bool false] := keep 4 _ _ (by omega) h5
    have X : Blk A2 A.heap.size 43 #[.int .i64 x.1, .int .i64 x.2.1, .int .i64 x.2.2] := hA2.blk (show A.heap.size ≠ W1.heap.size + 1 by omega) (Blk.new' rfl)
    have hw2 : w.heap.size ≤ W1.heap.size := by rw [hs1, ← HN.out]; omega
    replace h6 : Below w.heap.size w A2 := (h6.alloc h6.size _).trans (hA2.below (by simp; omega) (fun b hb => by omega))
    have HX := Lib.hid hx
    have H1 := Lib.hid h1
    have HZ := Lib.hid (And.intro hZ1 hZ2)
    have HS2 := Lib.hid hs2
    clear hA2 hz2 keep hx h1 hZ1 hZ2 hs2 hs1 hw2
    have k0 := fun d os => (h2.re d os).cell 0
    have k2 := fun d os => (h3.re d os).cell 0
    obtain ⟨x0, x1, x2⟩ := X.re3
    generalize A.heap.size = gx at X HS2 HZ x0 x1 x2 ⊢
    cases hp : p (val x)
    · have HG1 : ∀ d os, Calls Tryz.prog G (#[.int .i64 (val x)] ++ lg) (Go.Sort.grow (redrawn A2 d) os) fun r W' => r = .returned (.bool false) ∧ Below (Go.Sort.grow (redrawn A2 d) os).heap.size (Go.Sort.grow (redrawn A2 d) os) W' := fun d os => by
        have := HG.out (val x) (Go.Sort.grow (redrawn A2 d) os) (h6.trans ((below_regrown A2 d os).mono h6.size)); rwa [hp] at this
      have HV1 : ∀ d os, Calls Tryz.prog V (#[lv, .agg #[.int .i64 x.1, .int .i64 x.2.1, .int .i64 x.2.2]]) (Go.Sort.grow (redrawn A2 d) os) fun r W' => r = .returned (.int .i64 (val x)) ∧ Below (Go.Sort.grow (redrawn A2 d) os).heap.size (Go.Sort.grow (redrawn A2 d) os) W' := fun d os =>
        HV.out x (far_of HX.out) (Go.Sort.grow (redrawn A2 d) os) (h6.trans ((below_regrown A2 d os).mono h6.size))
      have HP := Lib.hid hp
      replace HG1 := Lib.hid HG1
      replace HV1 := Lib.hid HV1
      clear hp
      gi_wp2
      refine in_sched [0, 0, 0, 0, 0] (fun _ _ _ => True) (by kernel_rfl) (by kernel_rfl) (fun _ _ _ _ h _ => h) (by kernel_rfl) (fun ⟨_, _, h⟩ => h) ?_
      repeat (first | (refine wpQs_s ?_) | (refine wpQs_q (fun K hK => ?_); go_simp; first | (refine hK _ ?_; clear hK K) | (apply Exists.intro; refine ⟨fun _ => ?_, hK _ ?_⟩; (first | exact HV1.out _ _ | exact HG1.out _ _); clear hK K)) | (refine wpQs_f (fun K hK => ?_); go_simp; refine hK _ ?_; clear hK K))
      refine wpQs_nil ?_
      repeat (first | (refine wpLs_skip ?_) | (refine wpLs_one ?lsA (fun v_ => ?_); case lsA => (intro w_ hw_ hp_; (fail))))
      refine wpLs_nilB ?_
      simp only [tails]
      intro w3 h7 _
      simp only [wpList, Exit.then]
      go_at_K
      gi_wp2
      exact ⟨Kept.of_below h7, fun j y hj hy => (by
        rcases Nat.lt_or_eq_of_le (Nat.le_of_lt_succ hj) with e | e
        · exact H1.out j y e hy
        · subst e; rw [HX.out] at hy; obtain rfl := Option.some.inj hy; exact HP.out), h2.on h7, h3.on h7, h4.on h7, h5.on h7, after h6 h7⟩
    · have HG1 : ∀ d os, Calls Tryz.prog G (#[.int .i64 (val x)] ++ lg) (Go.Sort.grow (redrawn A2 d) os) fun r W' => r = .returned (.bool true) ∧ Below (Go.Sort.grow (redrawn A2 d) os).heap.size (Go.Sort.grow (redrawn A2 d) os) W' := fun d os => by
        have := HG.out (val x) (Go.Sort.grow (redrawn A2 d) os) (h6.trans ((below_regrown A2 d os).mono h6.size)); rwa [hp] at this
      have HV1 : ∀ d os, Calls Tryz.prog V (#[lv, .agg #[.int .i64 x.1, .int .i64 x.2.1, .int .i64 x.2.2]]) (Go.Sort.grow (redrawn A2 d) os) fun r W' => r = .returned (.int .i64 (val x)) ∧ Below (Go.Sort.grow (redrawn A2 d) os).heap.size (Go.Sort.grow (redrawn A2 d) os) W' := fun d os =>
        HV.out x (far_of HX.out) (Go.Sort.grow (redrawn A2 d) os) (h6.trans ((below_regrown A2 d os).mono h6.size))
      have HP := Lib.hid hp
      replace HG1 := Lib.hid HG1
      replace HV1 := Lib.hid HV1
      clear hp
      gi_wp2
      refine in_sched [0, 0, 0, 0, 0] (fun _ _ _ => True) (by kernel_rfl) (by kernel_rfl) (fun _ _ _ _ h _ => h) (by kernel_rfl) (fun ⟨_, _, h⟩ => h) ?_
      repeat (first | (refine wpQs_s ?_) | (refine wpQs_q (fun K hK => ?_); go_simp; first | (refine hK _ ?_; clear hK K) | (apply Exists.intro; refine ⟨fun _ => ?_, hK _ ?_⟩; (first | exact HV1.out _ _ | exact HG1.out _ _); clear hK K)) | (refine wpQs_f (fun K hK => ?_); go_simp; refine hK _ ?_; clear hK K))
      refine wpQs_nil ?_
      repeat (first | (refine wpLs_skip ?_) | (refine wpLs_one ?lsA (fun v_ => ?_); case lsA => (intro w_ hw_ hp_; (fail))))
      refine wpLs_nilB ?_
      simp only [tails]
      intro w3 h7 _
      replace X := X.on h7
      replace h4 := h4.on h7
      replace h5 := h5.on h7
      clear x0 x1 x2
      obtain ⟨x0, x1, x2, -, -, -⟩ := X.c3
      obtain ⟨r0, r1, r2, f0, f1, f2⟩ := h4.c3
      obtain ⟨s0, g0⟩ := h5.c1
      simp only [wpList, Exit.then]
      go_at_K
      gi_wp2
      have hs1 := HS.out
      have n3 : ¬ Keeps W1.heap.size Z (· = N + 5) (N + 1 + 1 + 1) := fun h => by rcases h with h | h; exact absurd h.1 (by omega); exact absurd (show N + 1 + 1 + 1 = N + 5 from h) (by omega)
      have n4 : ¬ Keeps W1.heap.size Z (· = N + 5) (N + 1 + 1 + 1 + 1) := fun h => by rcases h with h | h; exact absurd h.1 (by omega); exact absurd (show N + 1 + 1 + 1 + 1 = N + 5 from h) (by omega)
      refine ⟨((((Kept.of_below h7).setCell (p := ⟨N + 1 + 1 + 1, 0, none⟩) n3 _).setCell (p := ⟨N + 1 + 1 + 1, 1, none⟩) n3 _).setCell (p := ⟨N + 1 + 1 + 1, 2, none⟩) n3 _).setCell (p := ⟨N + 1 + 1 + 1 + 1, 0, none⟩) n4 _, rfl, H1.out, x, ⟨HX.out, HP.out⟩,
        (h4.st3 _ _ _).far (by dsimp only; omega) _, (((h5.far (p := ⟨N + 1 + 1 + 1, 0, none⟩) (by dsimp only; omega) _).far (p := ⟨N + 1 + 1 + 1, 1, none⟩) (by dsimp only; omega) _).far (p := ⟨N + 1 + 1 + 1, 2, none⟩) (by dsimp only; omega) _).set_ 0 _, ?_⟩
      replace h6 := after h6 h7
      rw [← HN.out] at h6 ⊢
      exact (((h6.setCell (p := ⟨N + 1 + 1 + 1, 0, none⟩) (by dsimp only; omega) _).setCell (p := ⟨N + 1 + 1 + 1, 1, none⟩) (by dsimp only; omega) _).setCell (p := ⟨N + 1 + 1 + 1, 2, none⟩) (by dsimp only; omega) _).setCell (p := ⟨N + 1 + 1 + 1 + 1, 0, none⟩) (by dsimp only; omega) _
  case done =>
    rintro Z A ⟨h1, -, -, h4, h5, h6⟩ hK
    clear b0 b1 b2 b3 b4 H bE
    obtain ⟨r0, r1, r2, f0, f1, f2⟩ := h4.c3
    obtain ⟨s0, g0⟩ := h5.c1
    have HK := Lib.hid hK
    clear hK
    go_wp2_with fail
    have hs1 := HS.out
    have hf : (cellsI a b c d e f).find? (fun x => p (val x)) = none := find_no h1.out
    have e4 := ((h4.st3 (.int .i64 0) (.int .i64 0) (.int .i64 0)).far (p := ⟨N + 1 + 1 + 1 + 1, 0, none⟩) (by dsimp only; omega) (.bool false)).putObj (D := W1.heap.size) (by omega) (.deferred none)
    have e5 := (((h5.far (p := ⟨N + 1 + 1 + 1, 0, none⟩) (by dsimp only; omega) (.int .i64 0)).far (p := ⟨N + 1 + 1 + 1, 1, none⟩) (by dsimp only; omega) (.int .i64 0)).far (p := ⟨N + 1 + 1 + 1, 2, none⟩) (by dsimp only; omega) (.int .i64 0)).set_ 0 (.bool false)
    obtain ⟨d0, d1, d2, -, -, -⟩ := e4.c3
    obtain ⟨d3, -⟩ := (e5.putObj (D := W1.heap.size) (by omega) (.deferred none)).c1
    have hK' := def_far (p := ⟨N + 1 + 1 + 1 + 1, 0, none⟩) (u := .bool false) (def_far (p := ⟨N + 1 + 1 + 1, 2, none⟩) (u := .int .i64 0) (def_far (p := ⟨N + 1 + 1 + 1, 1, none⟩) (u := .int .i64 0) (def_far (p := ⟨N + 1 + 1 + 1, 0, none⟩) (u := .int .i64 0) HK.out (by dsimp only; omega)) (by dsimp only; omega)) (by dsimp only; omega)) (by dsimp only; omega)
    refine leave_mark hK' (v := findV none) (by simp [results, Tryz.f238, go_sem, findV, d0, d1, d2, d3]) ⟨by rw [hf], ?_⟩
    rw [← HN.out] at h6 ⊢
    exact putObj_below ((((h6.setCell (p := ⟨N + 1 + 1 + 1, 0, none⟩) (by dsimp only; omega) _).setCell (p := ⟨N + 1 + 1 + 1, 1, none⟩) (by dsimp only; omega) _).setCell (p := ⟨N + 1 + 1 + 1, 2, none⟩) (by dsimp only; omega) _).setCell (p := ⟨N + 1 + 1 + 1 + 1, 0, none⟩) (by dsimp only; omega) _) (by omega) _
  case stop =>
    rintro Z k i A hi ⟨rfl, h1, x, hx, h4, h5, h6⟩ hK
    clear b0 b1 b2 b3 b4 H bE
    obtain ⟨r0, r1, r2, -, -, -⟩ := h4.c3
    obtain ⟨s0, g0⟩ := h5.c1
    have HK := Lib.hid hK
    clear hK
    go_wp2_with fail
    have hs1 := HS.out
    have hf : (cellsI a b c d e f).find? (fun x => p (val x)) = some x := find_at hx.out.1 hx.out.2 h1.out
    obtain ⟨d0, d1, d2, -, -, -⟩ := (h4.putObj (D := W1.heap.size) (by omega) (.deferred none)).c3
    obtain ⟨d3, -⟩ := (h5.putObj (D := W1.heap.size) (by omega) (.deferred none)).c1
    refine leave_mark HK.out (v := findV (some x)) (by simp [results, Tryz.f238, go_sem, findV, d0, d1, d2, d3]) ⟨by rw [hf], ?_⟩
    rw [← HN.out] at h6 ⊢
    exact putObj_below h6 (by omega) _
end Go.Proofs.YtmbccnioijokfaaGreatDoor

namespace Go.Proofs.YtmbccnioijokfaaGreatDoor
open Go.RowKit Go.Shelf
attribute [local go_sem] Oper.semAt_some
theorem Tells.on {P : Program} {V : FuncId} {lb : Value} {val : Cl → Int} {w W : World} (h : Tells P V lb val w) (H : Below w.heap.size w W) : Tells P V lb val W :=
  fun c hc X hX => h c hc X (H.trans (hX.mono H.size))
theorem Says.on {P : Program} {G : FuncId} {lb : Array Value} {p : Int → Bool} {w W : World} (h : Says P G lb p w) (H : Below w.heap.size w W) : Says P G lb p W :=
  fun c X hX => h c X (H.trans (hX.mono H.size))
theorem find_any {α : Type} (l : List α) (q : α → Bool) : l.any q = (l.find? q).isSome := by
  rw [Bool.eq_iff_iff, List.find?_isSome, List.any_eq_true]
set_option maxRecDepth 100000 in
set_option maxHeartbeats 2000000 in
theorem any_c (V G : FuncId) (lv : Value) (lg : Array Value) (val : Cl → Int) (p : Int → Bool) (a b c d e f : Int) (hB : BoxOk a b c d e f) (w : World)
    (eV : ∀ args w, (callFunc V args).run Tryz.prog w = .ok (.enter V args) w) (eG : ∀ args w, (callFunc G args).run Tryz.prog w = .ok (.enter G args) w) (hV : Tells Tryz.prog V lv val w) (hG : Says Tryz.prog G lg p w) :
    Calls Tryz.prog 183 #[.func (.func V) #[lv] #[], .agg #[.int .i64 a, .int .i64 b, .int .i64 c, .int .i64 d, .int .i64 e, .int .i64 f], .func (.func G) #[] lg] w fun r w' =>
      r = .returned (.bool ((cellsI a b c d e f).any fun x => p (val x))) ∧ Below w.heap.size w w' := by
  have hF : ∀ W, Below w.heap.size w W → Calls Tryz.prog 238 #[.func (.func V) #[lv] #[], .agg #[.int .i64 a, .int .i64 b, .int .i64 c, .int .i64 d, .int .i64 e, .int .i64 f], .func (.func G) #[] lg] W fun r w' => r = .returned (findV ((cellsI a b c d e f).find? fun x => p (val x))) ∧ Below W.heap.size W w' :=
    fun W H => find_c V G lv lg val p a b c d e f hB W eV eG (hV.on H) (hG.on H)
  clear hV hG eV eG hB
  rw [find_any]
  generalize (cellsI a b c d e f).find? (fun x => p (val x)) = o at hF ⊢
  rcases o with - | ⟨x, y, z⟩
  all_goals
    simp only [findV, Option.isSome] at hF ⊢
    replace hF := Lib.hid hF
    go_enter Tryz.func183, Tryz.ntmps183
    go_wp2_with (go_at_call 238; refine (hF.out _ (by go_grown)).mono ?_; rintro e_ w1 ⟨rfl, h1⟩)
    go_returns
    exact ⟨rfl, (after ((Below.refl _ w).alloc (Nat.le_refl _) _) h1).alloc (by have := h1.size; simp at this; omega) _⟩
theorem says_of {G : FuncId} {p : Int → Bool} (h : ∀ n w, Calls Tryz.prog G #[.int .i64 n] w fun r w' => r = .returned (.bool (p n)) ∧ w = w') (w : World) : Says Tryz.prog G #[] p w :=
  fun n W _ => (h n W).mono fun r w' h => ⟨h.1, by rw [← h.2]; exact Below.refl _ _⟩
set_option maxRecDepth 100000 in
set_option maxHeartbeats 2000000 in
theorem pmBlocked_c (V : FuncId) (lv : Value) (val : Cl → Int) (a b c d e f : Int) (hB : BoxOk a b c d e f) (w : World)
    (eV : ∀ args w, (callFunc V args).run Tryz.prog w = .ok (.enter V args) w) (hV : Tells Tryz.prog V lv val w) :
    Calls Tryz.prog 137 #[.func (.func V) #[lv] #[], .agg #[.int .i64 a, .int .i64 b, .int .i64 c, .int .i64 d, .int .i64 e, .int .i64 f]] w fun r w' =>
      r = .returned (.bool ((cellsI a b c d e f).any fun x => solB (val x))) ∧ Below w.heap.size w w' := by
  have hF : ∀ W, Below w.heap.size w W → Calls Tryz.prog 183 #[.func (.func V) #[lv] #[], .agg #[.int .i64 a, .int .i64 b, .int .i64 c, .int .i64 d, .int .i64 e, .int .i64 f], .func (.func 144) #[] #[]] W fun r w' => r = .returned (.bool ((cellsI a b c d e f).any fun x => solB (val x))) ∧ Below W.heap.size W w' :=
    fun W H => any_c V 144 lv #[] val solB a b c d e f hB W eV (enters_of Tryz.func144 (by kernel_rfl) rfl) (hV.on H) (says_of solid_c _)
  replace hF := Lib.hid hF
  clear hV eV hB
  go_enter Tryz.func137, Tryz.ntmps137
  go_wp2_with (go_at_call 183; refine (hF.out _ (by go_grown)).mono ?_; rintro e_ w1 ⟨rfl, h1⟩)
  go_returns
  exact ⟨rfl, by (repeat' (first | (with_reducible exact Below.refl _ _) | (with_reducible assumption) | (with_reducible refine Below.alloc ?_ ?_ _) | (with_reducible refine Below.drew ?_) | (with_reducible refine Below.setCell ?_ ?_ _) | (with_reducible refine after ?_ (below_regrown _ _ _)) | (refine after ?_ (by with_reducible assumption)) | go_size))⟩
set_option maxRecDepth 100000 in
set_option maxHeartbeats 2000000 in
theorem pmWet_c (V : FuncId) (lv : Value) (val : Cl → Int) (a b c d e f : Int) (hB : BoxOk a b c d e f) (w : World)
    (eV : ∀ args w, (callFunc V args).run Tryz.prog w = .ok (.enter V args) w) (hV : Tells Tryz.prog V lv val w) :
    Calls Tryz.prog 267 #[.func (.func V) #[lv] #[], .agg #[.int .i64 a, .int .i64 b, .int .i64 c, .int .i64 d, .int .i64 e, .int .i64 f]] w fun r w' =>
      r = .returned (.bool ((cellsI a b c d e f).any fun x => wetB (val x))) ∧ Below w.heap.size w w' := by
  have hF : ∀ W, Below w.heap.size w W → Calls Tryz.prog 183 #[.func (.func V) #[lv] #[], .agg #[.int .i64 a, .int .i64 b, .int .i64 c, .int .i64 d, .int .i64 e, .int .i64 f], .func (.func 259) #[] #[]] W fun r w' => r = .returned (.bool ((cellsI a b c d e f).any fun x => wetB (val x))) ∧ Below W.heap.size W w' :=
    fun W H => any_c V 259 lv #[] val wetB a b c d e f hB W eV (enters_of Tryz.func259 (by kernel_rfl) rfl) (hV.on H) (says_of wet_c _)
  replace hF := Lib.hid hF
  clear hV eV hB
  go_enter Tryz.func267, Tryz.ntmps267
  go_wp2_with (go_at_call 183; refine (hF.out _ (by go_grown)).mono ?_; rintro e_ w1 ⟨rfl, h1⟩)
  go_returns
  exact ⟨rfl, by (repeat' (first | (with_reducible exact Below.refl _ _) | (with_reducible assumption) | (with_reducible refine Below.alloc ?_ ?_ _) | (with_reducible refine Below.drew ?_) | (with_reducible refine Below.setCell ?_ ?_ _) | (with_reducible refine after ?_ (below_regrown _ _ _)) | (refine after ?_ (by with_reducible assumption)) | go_size))⟩
set_option maxRecDepth 100000 in
set_option maxHeartbeats 2000000 in
theorem pmClimbs_c (V : FuncId) (lv : Value) (val : Cl → Int) (a b c d e f : Int) (hB : BoxOk a b c d e f) (w : World)
    (eV : ∀ args w, (callFunc V args).run Tryz.prog w = .ok (.enter V args) w) (hV : Tells Tryz.prog V lv val w) :
    Calls Tryz.prog 266 #[.func (.func V) #[lv] #[], .agg #[.int .i64 a, .int .i64 b, .int .i64 c, .int .i64 d, .int .i64 e, .int .i64 f]] w fun r w' =>
      r = .returned (.bool ((cellsI a b c d e f).any fun x => cliB (val x))) ∧ Below w.heap.size w w' := by
  have hF : ∀ W, Below w.heap.size w W → Calls Tryz.prog 183 #[.func (.func V) #[lv] #[], .agg #[.int .i64 a, .int .i64 b, .int .i64 c, .int .i64 d, .int .i64 e, .int .i64 f], .func (.func 313) #[] #[]] W fun r w' => r = .returned (.bool ((cellsI a b c d e f).any fun x => cliB (val x))) ∧ Below W.heap.size W w' :=
    fun W H => any_c V 313 lv #[] val cliB a b c d e f hB W eV (enters_of Tryz.func313 (by kernel_rfl) rfl) (hV.on H) (says_of climbs_c _)
  replace hF := Lib.hid hF
  clear hV eV hB
  go_enter Tryz.func266, Tryz.ntmps266
  go_wp2_with (go_at_call 183; refine (hF.out _ (by go_grown)).mono ?_; rintro e_ w1 ⟨rfl, h1⟩)
  go_returns
  exact ⟨rfl, by (repeat' (first | (with_reducible exact Below.refl _ _) | (with_reducible assumption) | (with_reducible refine Below.alloc ?_ ?_ _) | (with_reducible refine Below.drew ?_) | (with_reducible refine Below.setCell ?_ ?_ _) | (with_reducible refine after ?_ (below_regrown _ _ _)) | (refine after ?_ (by with_reducible assumption)) | go_size))⟩
set_option maxRecDepth 100000 in
set_option maxHeartbeats 2000000 in
theorem pmStands_c (V : FuncId) (lv : Value) (val : Cl → Int) (a b c d e f : Int) (h1 : -140737488355328 ≤ b) (h2 : b ≤ 140737488355328) (hB : BoxOk a (cutI (b - 1)) c d b f) (w : World)
    (eV : ∀ args w, (callFunc V args).run Tryz.prog w = .ok (.enter V args) w) (hV : Tells Tryz.prog V lv val w) :
    Calls Tryz.prog 140 #[.func (.func V) #[lv] #[], .agg #[.int .i64 a, .int .i64 b, .int .i64 c, .int .i64 d, .int .i64 e, .int .i64 f]] w fun r w' =>
      r = .returned (.bool ((cellsI a (cutI (b - 1)) c d b f).any fun x => solB (val x))) ∧ Below w.heap.size w w' := by
  have hF : ∀ W, Below w.heap.size w W → Calls Tryz.prog 137 #[.func (.func V) #[lv] #[], .agg #[.int .i64 a, .int .i64 (cutI (b - 1)), .int .i64 c, .int .i64 d, .int .i64 b, .int .i64 f]] W fun r w' => r = .returned (.bool ((cellsI a (cutI (b - 1)) c d b f).any fun x => solB (val x))) ∧ Below W.heap.size W w' :=
    fun W H => pmBlocked_c V lv val a (cutI (b - 1)) c d b f hB W eV (hV.on H)
  have hU := fun W => under_c a b c d e f h1 h2 W
  replace hF := Lib.hid hF
  replace hU := Lib.hid hU
  clear hV eV hB h1 h2
  generalize cutI (b - 1) = b' at hF hU ⊢
  go_enter Tryz.func140, Tryz.ntmps140
  go_wp2_with first
    | (go_at_call 185; refine (hU.out _).mono ?_; rintro e_ w1 ⟨rfl, h1⟩)
    | (go_at_call 137; refine (hF.out _ (after ((Below.refl _ w).alloc (Nat.le_refl _) _) h1)).mono ?_; rintro e_ w2 ⟨rfl, h2⟩)
  go_returns
  exact ⟨rfl, after (after ((Below.refl _ w).alloc (Nat.le_refl _) _) h1) h2⟩
end Go.Proofs.YtmbccnioijokfaaGreatDoor

namespace Go.Proofs.YtmbccnioijokfaaGreatDoor
open Go.RowKit Go.Shelf
attribute [local go_sem] Oper.semAt_some
theorem ax_len {n m : Int} (h : n ≤ m) (h2 : m ≤ n + 1000000) : (topI n m + 1 - lowI n).toNat ≤ 18 := by
  unfold topI lowI cutI
  split <;> omega
theorem cells_len {a b c d e f : Int} (h1 : a ≤ d) (h2 : d ≤ a + 1000000) (h3 : b ≤ e) (h4 : e ≤ b + 1000000) (h5 : c ≤ f) (h6 : f ≤ c + 1000000) : (cellsI a b c d e f).length ≤ 1000000 := by
  unfold cellsI
  split
  · rw [boxL_length]
    have := Nat.mul_le_mul (ax_len h3 h4) (Nat.mul_le_mul (ax_len h5 h6) (ax_len h1 h2))
    omega
  · simp
end Go.Proofs.YtmbccnioijokfaaGreatDoor

namespace Go.Proofs.YtmbccnioijokfaaGreatDoor
open Go.RowKit
theorem ofI_id {k : Int} (h1 : -2147483648 ≤ k) (h2 : k ≤ 2147483648) : ofI k = k * 65536 := by unfold ofI; omega
def layU (top d : Int) : List (Int × Int) := (List.range ((top + d + 65535) / 65536 - (top + 65535) / 65536).toNat).map fun i : Nat => ((top + 65535) / 65536 + (i : Int), ((top + 65535) / 65536 + (i : Int)) * 65536 - top)
def layD (low d : Int) : List (Int × Int) := (List.range (low / 65536 - (low + d) / 65536).toNat).map fun i : Nat => (low / 65536 - 1 - (i : Int), (low / 65536 - (i : Int)) * 65536 - low)
def lays (low top d : Int) : List (Int × Int) := if 0 < d then layU top d else layD low d
def axV (blk : Int → Bool) (low top d : Int) : Int × Bool := match (lays low top d).find? (fun kw => blk kw.1) with
  | some kw => (kw.2, true)
  | none => (d, false)
def lyB (val : Cl → Int) (a b c d e f axis k : Int) : Bool :=
  (cellsI (wiI a axis 0 (k * 65536)) (wiI b axis 1 (k * 65536)) (wiI c axis 2 (k * 65536)) (wiI d axis 0 (k * 65536 + 65536)) (wiI e axis 1 (k * 65536 + 65536)) (wiI f axis 2 (k * 65536 + 65536))).any fun x => solB (val x)
def farI (d : Int) : Int := min (max d (-4194304)) 4194304
def axisV (val : Cl → Int) (a b c d e f axis dd : Int) : Int × Bool :=
  if axis < 0 ∨ 3 ≤ axis then (0, false) else axV (lyB val a b c d e f axis) (axI a b c axis) (axI d e f axis) (farI dd)
structure Sm (M a b c d e f : Int) : Prop where
  a1 : -M ≤ a
  b1 : -M ≤ b
  c1 : -M ≤ c
  a2 : a ≤ M
  b2 : b ≤ M
  c2 : c ≤ M
  ad : a ≤ d
  be : b ≤ e
  cf : c ≤ f
  da : d ≤ a + 1000000
  eb : e ≤ b + 1000000
  fc : f ≤ c + 1000000
theorem Sm.box {M a b c d e f : Int} (h : Sm M a b c d e f) (hM : M ≤ 100000000000000) : BoxOk a b c d e f := by
  obtain ⟨h1, h2, h3, h4, h5, h6, h7, h8, h9, h10, h11, h12⟩ := h
  exact ⟨by omega, by omega, by omega, by omega, by omega, by omega, by omega, by omega, by omega⟩
theorem Sm.cells {M a b c d e f : Int} (h : Sm M a b c d e f) : (cellsI a b c d e f).length ≤ 1000000 := cells_len h.ad h.da h.be h.eb h.cf h.fc
theorem wi_c {x axis i n : Int} (h1 : -140737488355328 ≤ n) (h2 : n ≤ 140737488355328) : wiI x axis i n = if i = axis then n else x := by unfold wiI; rw [cutI_id h1 h2]
theorem Sm.layer {M a b c d e f axis k : Int} (h : Sm M a b c d e f) (hM : M ≤ 73000000000000) (h1 : -(M + 10000000) ≤ k * 65536) (h2 : k * 65536 ≤ M + 10000000) :
    Sm (M + 10000000) (wiI a axis 0 (k * 65536)) (wiI b axis 1 (k * 65536)) (wiI c axis 2 (k * 65536)) (wiI d axis 0 (k * 65536 + 65536)) (wiI e axis 1 (k * 65536 + 65536)) (wiI f axis 2 (k * 65536 + 65536)) := by
  obtain ⟨h3, h4, h5, h6, h7, h8, h9, h10, h11, h12, h13, h14⟩ := h
  rw [wi_c (by omega) (by omega), wi_c (by omega) (by omega), wi_c (by omega) (by omega), wi_c (by omega) (by omega), wi_c (by omega) (by omega), wi_c (by omega) (by omega)]
  constructor <;> split <;> omega
theorem axI_sm {M a b c d e f axis : Int} (h : Sm M a b c d e f) (h0 : 0 ≤ M) : -M ≤ axI a b c axis ∧ axI a b c axis ≤ axI d e f axis ∧ axI d e f axis ≤ M + 1000000 := by
  obtain ⟨h3, h4, h5, h6, h7, h8, h9, h10, h11, h12, h13, h14⟩ := h
  unfold axI
  refine ⟨?_, ?_, ?_⟩ <;> (split; omega; split; omega; split; omega; omega)
theorem mem_lays {low top d k w : Int} (h : (k, w) ∈ lays low top d) :
    (0 < d ∧ w = k * 65536 - top ∧ 0 ≤ w ∧ w < d) ∨ (d < 0 ∧ w = (k + 1) * 65536 - low ∧ w ≤ 0 ∧ d < w) := by
  unfold lays at h
  split at h
  · left
    unfold layU at h
    obtain ⟨i, hi, e⟩ := List.mem_map.1 h
    rw [List.mem_range] at hi
    injection e with e1 e2
    refine ⟨by assumption, by omega, by omega, by omega⟩
  · right
    unfold layD at h
    obtain ⟨i, hi, e⟩ := List.mem_map.1 h
    rw [List.mem_range] at hi
    injection e with e1 e2
    refine ⟨by omega, by omega, by omega, by omega⟩
theorem farI_bd (d : Int) : -4194304 ≤ farI d ∧ farI d ≤ 4194304 := by unfold farI; omega
theorem axV_bd {blk : Int → Bool} {low top d : Int} : (0 ≤ d → 0 ≤ (axV blk low top d).1 ∧ (axV blk low top d).1 ≤ d) ∧ (d ≤ 0 → d ≤ (axV blk low top d).1 ∧ (axV blk low top d).1 ≤ 0) := by
  unfold axV
  split
  · rename_i kw h
    have := mem_lays (k := kw.1) (w := kw.2) (List.mem_of_find?_eq_some h)
    dsimp only
    omega
  · dsimp only; omega
theorem layU_len (top d : Int) : (layU top d).length = ((top + d + 65535) / 65536 - (top + 65535) / 65536).toNat := by simp [layU]
theorem layD_len (low d : Int) : (layD low d).length = (low / 65536 - (low + d) / 65536).toNat := by simp [layD]
theorem layU_at {top d : Int} {i : Nat} (h : i < (layU top d).length) : (layU top d)[i]? = some ((top + 65535) / 65536 + (i : Int), ((top + 65535) / 65536 + (i : Int)) * 65536 - top) := by
  rw [layU_len] at h; simp [layU, h]
theorem layD_at {low d : Int} {i : Nat} (h : i < (layD low d).length) : (layD low d)[i]? = some (low / 65536 - 1 - (i : Int), (low / 65536 - (i : Int)) * 65536 - low) := by
  rw [layD_len] at h; simp [layD, h]
end Go.Proofs.YtmbccnioijokfaaGreatDoor

namespace Go.Proofs.YtmbccnioijokfaaGreatDoor
open Go.RowKit
theorem axV_up_hit {blk : Int → Bool} {low top d k : Int} (hd : 0 < d) (h0 : 0 ≤ k * 65536 - top) (h1 : k * 65536 - top < d) (hb : blk k = true) (hn : ∀ k', k' < k → 0 ≤ k' * 65536 - top → blk k' = false) : axV blk low top d = (k * 65536 - top, true) := by
  unfold axV lays
  rw [if_pos hd]
  have hi : (k - (top + 65535) / 65536).toNat < (layU top d).length := by rw [layU_len]; omega
  have ha := layU_at hi
  rw [show (top + 65535) / 65536 + ((k - (top + 65535) / 65536).toNat : Int) = k by omega] at ha
  rw [find_at (q := fun kw : Int × Int => blk kw.1) ha hb fun j y hj hy => ?_]
  have hj2 : j < (layU top d).length := by omega
  rw [layU_at hj2] at hy
  obtain rfl := Option.some.inj hy
  exact hn _ (by omega) (by omega)
theorem axV_up_none {blk : Int → Bool} {low top d : Int} (hd : 0 < d) (hn : ∀ k', 0 ≤ k' * 65536 - top → k' * 65536 - top < d → blk k' = false) : axV blk low top d = (d, false) := by
  unfold axV lays
  rw [if_pos hd, find_no fun j x hj hx => ?_]
  rw [layU_at hj] at hx
  rw [layU_len] at hj
  obtain rfl := Option.some.inj hx
  exact hn _ (by omega) (by omega)
theorem axV_dn_hit {blk : Int → Bool} {low top d k : Int} (hd : d < 0) (h0 : (k + 1) * 65536 - low ≤ 0) (h1 : d < (k + 1) * 65536 - low) (hb : blk k = true) (hn : ∀ k', k < k' → (k' + 1) * 65536 - low ≤ 0 → blk k' = false) : axV blk low top d = ((k + 1) * 65536 - low, true) := by
  unfold axV lays
  rw [if_neg (by omega)]
  have hi : (low / 65536 - 1 - k).toNat < (layD low d).length := by rw [layD_len]; omega
  have ha := layD_at hi
  rw [show low / 65536 - 1 - ((low / 65536 - 1 - k).toNat : Int) = k by omega, show low / 65536 - ((low / 65536 - 1 - k).toNat : Int) = k + 1 by omega] at ha
  rw [find_at (q := fun kw : Int × Int => blk kw.1) ha hb fun j y hj hy => ?_]
  have hj2 : j < (layD low d).length := by omega
  rw [layD_at hj2] at hy
  obtain rfl := Option.some.inj hy
  exact hn _ (by dsimp only; omega) (by dsimp only; omega)
theorem axV_dn_none {blk : Int → Bool} {low top d : Int} (hd : d < 0) (hn : ∀ k', (k' + 1) * 65536 - low ≤ 0 → d < (k' + 1) * 65536 - low → blk k' = false) : axV blk low top d = (d, false) := by
  unfold axV lays
  rw [if_neg (by omega), find_no fun j x hj hx => ?_]
  rw [layD_at hj] at hx
  rw [layD_len] at hj
  obtain rfl := Option.some.inj hx
  exact hn _ (by dsimp only; omega) (by dsimp only; omega)
theorem axV_zero (blk : Int → Bool) (low top : Int) : axV blk low top 0 = (0, false) := by
  have : lays low top 0 = [] := by unfold lays layD; simp
  unfold axV; rw [this]; rfl
end Go.Proofs.YtmbccnioijokfaaGreatDoor

namespace Go.Proofs.YtmbccnioijokfaaGreatDoor
open Go.RowKit
abbrev B6 := Int × Int × Int × Int × Int × Int
abbrev ag6 (x : B6) : Array Value := #[.int .i64 x.1, .int .i64 x.2.1, .int .i64 x.2.2.1, .int .i64 x.2.2.2.1, .int .i64 x.2.2.2.2.1, .int .i64 x.2.2.2.2.2]
def Sm6 (M : Int) (x : B6) : Prop := Sm M x.1 x.2.1 x.2.2.1 x.2.2.2.1 x.2.2.2.2.1 x.2.2.2.2.2
def ax6 (val : Cl → Int) (x : B6) (axis dd : Int) : Int × Bool := axisV val x.1 x.2.1 x.2.2.1 x.2.2.2.1 x.2.2.2.2.1 x.2.2.2.2.2 axis dd
def mv6 (x : B6) (axis n : Int) : B6 :=
  (addI x.1 (wiI 0 axis 0 n), addI x.2.1 (wiI 0 axis 1 n), addI x.2.2.1 (wiI 0 axis 2 n), addI x.2.2.2.1 (wiI 0 axis 0 n), addI x.2.2.2.2.1 (wiI 0 axis 1 n), addI x.2.2.2.2.2 (wiI 0 axis 2 n))
def al6 (val : Cl → Int) (x : B6) (axis dd : Int) : B6 × Bool := (mv6 x axis (ax6 val x axis dd).1, (ax6 val x axis dd).2)
theorem axisV_far (val : Cl → Int) (a b c d e f axis dd : Int) : -4194304 ≤ (axisV val a b c d e f axis dd).1 ∧ (axisV val a b c d e f axis dd).1 ≤ 4194304 := by
  unfold axisV
  split
  · simp
  · obtain ⟨h1, h2⟩ := farI_bd dd
    obtain ⟨h3, h4⟩ := axV_bd (blk := lyB val a b c d e f axis) (low := axI a b c axis) (top := axI d e f axis) (d := farI dd)
    omega
theorem addI_in {a b : Int} (h1 : -100000000000000 ≤ a) (h2 : a ≤ 100000000000000) (h3 : -10000000 ≤ b) (h4 : b ≤ 10000000) : addI a b = a + b := by
  unfold addI cutI; omega
theorem wi0 {axis i n : Int} (h1 : -10000000 ≤ n) (h2 : n ≤ 10000000) : wiI 0 axis i n = if i = axis then n else 0 := wi_c (by omega) (by omega)
theorem mv6_sm {M : Int} {x : B6} (h : Sm6 M x) (hM0 : 0 ≤ M) (hM : M ≤ 74000000000000) {axis n : Int} (h1 : -10000000 ≤ n) (h2 : n ≤ 10000000) : Sm6 (M + 10000000) (mv6 x axis n) := by
  obtain ⟨h3, h4, h5, h6, h7, h8, h9, h10, h11, h12, h13, h14⟩ := h
  unfold Sm6 mv6
  rw [wi0 h1 h2, wi0 h1 h2, wi0 h1 h2]
  dsimp only
  have q : ∀ i : Int, -10000000 ≤ (if i = axis then n else 0) ∧ (if i = axis then n else 0) ≤ 10000000 := fun i => by split <;> omega
  have q0 := q 0
  have q1 := q 1
  have q2 := q 2
  generalize (if (0 : Int) = axis then n else 0) = n0 at q0 ⊢
  generalize (if (1 : Int) = axis then n else 0) = n1 at q1 ⊢
  generalize (if (2 : Int) = axis then n else 0) = n2 at q2 ⊢
  rw [addI_in (by omega) (by omega) q0.1 q0.2, addI_in (by omega) (by omega) q1.1 q1.2, addI_in (by omega) (by omega) q2.1 q2.2, addI_in (by omega) (by omega) q0.1 q0.2, addI_in (by omega) (by omega) q1.1 q1.2, addI_in (by omega) (by omega) q2.1 q2.2]
  constructor <;> omega
theorem al6_sm {M : Int} {x : B6} (h : Sm6 M x) (hM0 : 0 ≤ M) (hM : M ≤ 74000000000000) (val : Cl → Int) (axis dd : Int) : Sm6 (M + 10000000) (al6 val x axis dd).1 := by
  obtain ⟨h1, h2⟩ := axisV_far val x.1 x.2.1 x.2.2.1 x.2.2.2.1 x.2.2.2.2.1 x.2.2.2.2.2 axis dd
  exact mv6_sm h hM0 hM (n := (ax6 val x axis dd).1) (by unfold ax6; omega) (by unfold ax6; omega)
def st1 (val : Cl → Int) (x : B6) (dy : Int) : B6 := (al6 val x 1 dy).1
def st2 (val : Cl → Int) (x : B6) (dx dy : Int) : B6 := (al6 val (st1 val x dy) 0 dx).1
def st3 (val : Cl → Int) (x : B6) (dx dy dz : Int) : B6 := (al6 val (st2 val x dx dy) 2 dz).1
def hy1 (val : Cl → Int) (x : B6) (dy : Int) : Bool := (al6 val x 1 dy).2
def hx2 (val : Cl → Int) (x : B6) (dx dy : Int) : Bool := (al6 val (st1 val x dy) 0 dx).2
def hz3 (val : Cl → Int) (x : B6) (dx dy dz : Int) : Bool := (al6 val (st2 val x dx dy) 2 dz).2
def moveT (val : Cl → Int) (x : B6) (dx dy dz : Int) : Value := .tuple #[.agg (ag6 (st3 val x dx dy dz)), .agg #[.bool (hx2 val x dx dy), .bool (hy1 val x dy), .bool (hz3 val x dx dy dz)]]
end Go.Proofs.YtmbccnioijokfaaGreatDoor

namespace Go.Proofs.YtmbccnioijokfaaGreatDoor
open Go.RowKit
theorem axV_up_cases (blk : Int → Bool) (low top : Int) {d : Int} (hd : 0 < d) :
    (∃ k, 0 ≤ k * 65536 - top ∧ k * 65536 - top < d ∧ blk k = true ∧ (∀ k', k' < k → 0 ≤ k' * 65536 - top → blk k' = false) ∧ axV blk low top d = (k * 65536 - top, true)) ∨
    ((∀ k', 0 ≤ k' * 65536 - top → k' * 65536 - top < d → blk k' = false) ∧ axV blk low top d = (d, false)) := by
  by_cases h : ∃ n : Nat, 0 ≤ ((top + 65535) / 65536 + (n : Int)) * 65536 - top ∧ ((top + 65535) / 65536 + (n : Int)) * 65536 - top < d ∧ blk ((top + 65535) / 65536 + (n : Int)) = true
  · left
    obtain ⟨n, hn⟩ := h
    induction n using Nat.strongRecOn with
    | ind n ih =>
      by_cases hm : ∃ m : Nat, m < n ∧ 0 ≤ ((top + 65535) / 65536 + (m : Int)) * 65536 - top ∧ ((top + 65535) / 65536 + (m : Int)) * 65536 - top < d ∧ blk ((top + 65535) / 65536 + (m : Int)) = true
      · obtain ⟨m, hmn, hm⟩ := hm
        exact ih m hmn hm
      · have hn2 : ∀ k', k' < (top + 65535) / 65536 + (n : Int) → 0 ≤ k' * 65536 - top → blk k' = false := fun k' h1 h2 => by
          cases hb : blk k' with
          | false => rfl
          | true =>
            exfalso
            apply hm
            refine ⟨(k' - (top + 65535) / 65536).toNat, by omega, ?_⟩
            rw [show (top + 65535) / 65536 + (((k' - (top + 65535) / 65536).toNat : Nat) : Int) = k' by omega]
            exact ⟨by omega, by omega, hb⟩
        exact ⟨_, hn.1, hn.2.1, hn.2.2, hn2, axV_up_hit hd hn.1 hn.2.1 hn.2.2 hn2⟩
  · right
    have hn : ∀ k', 0 ≤ k' * 65536 - top → k' * 65536 - top < d → blk k' = false := fun k' h1 h2 => by
      cases hb : blk k' with
      | false => rfl
      | true =>
        exfalso
        apply h
        refine ⟨(k' - (top + 65535) / 65536).toNat, ?_⟩
        rw [show (top + 65535) / 65536 + (((k' - (top + 65535) / 65536).toNat : Nat) : Int) = k' by omega]
        exact ⟨by omega, by omega, hb⟩
    exact ⟨hn, axV_up_none hd hn⟩
theorem axV_dn_cases (blk : Int → Bool) (low top : Int) {d : Int} (hd : d < 0) :
    (∃ k, (k + 1) * 65536 - low ≤ 0 ∧ d < (k + 1) * 65536 - low ∧ blk k = true ∧ (∀ k', k < k' → (k' + 1) * 65536 - low ≤ 0 → blk k' = false) ∧ axV blk low top d = ((k + 1) * 65536 - low, true)) ∨
    ((∀ k', (k' + 1) * 65536 - low ≤ 0 → d < (k' + 1) * 65536 - low → blk k' = false) ∧ axV blk low top d = (d, false)) := by
  by_cases h : ∃ n : Nat, (low / 65536 - (n : Int)) * 65536 - low ≤ 0 ∧ d < (low / 65536 - (n : Int)) * 65536 - low ∧ blk (low / 65536 - 1 - (n : Int)) = true
  · left
    obtain ⟨n, hn⟩ := h
    induction n using Nat.strongRecOn with
    | ind n ih =>
      by_cases hm : ∃ m : Nat, m < n ∧ (low / 65536 - (m : Int)) * 65536 - low ≤ 0 ∧ d < (low / 65536 - (m : Int)) * 65536 - low ∧ blk (low / 65536 - 1 - (m : Int)) = true
      · obtain ⟨m, hmn, hm⟩ := hm
        exact ih m hmn hm
      · have hn2 : ∀ k', low / 65536 - 1 - (n : Int) < k' → (k' + 1) * 65536 - low ≤ 0 → blk k' = false := fun k' h1 h2 => by
          cases hb : blk k' with
          | false => rfl
          | true =>
            exfalso
            apply hm
            refine ⟨(low / 65536 - 1 - k').toNat, by omega, ?_⟩
            rw [show low / 65536 - (((low / 65536 - 1 - k').toNat : Nat) : Int) = k' + 1 by omega, show low / 65536 - 1 - (((low / 65536 - 1 - k').toNat : Nat) : Int) = k' by omega]
            exact ⟨by omega, by omega, hb⟩
        have h1 : (low / 65536 - 1 - (n : Int) + 1) * 65536 - low ≤ 0 := by have := hn.1; omega
        have h2 : d < (low / 65536 - 1 - (n : Int) + 1) * 65536 - low := by have := hn.2.1; omega
        exact ⟨_, h1, h2, hn.2.2, hn2, axV_dn_hit hd h1 h2 hn.2.2 hn2⟩
  · right
    have hn : ∀ k', (k' + 1) * 65536 - low ≤ 0 → d < (k' + 1) * 65536 - low → blk k' = false := fun k' h1 h2 => by
      cases hb : blk k' with
      | false => rfl
      | true =>
        exfalso
        apply h
        refine ⟨(low / 65536 - 1 - k').toNat, ?_⟩
        rw [show low / 65536 - (((low / 65536 - 1 - k').toNat : Nat) : Int) = k' + 1 by omega, show low / 65536 - 1 - (((low / 65536 - 1 - k').toNat : Nat) : Int) = k' by omega]
        exact ⟨by omega, by omega, hb⟩
    exact ⟨hn, axV_dn_none hd hn⟩
theorem far_in {d : Int} (h1 : -4194304 ≤ d) (h2 : d ≤ 4194304) : farI d = d := by unfold farI; omega
end Go.Proofs.YtmbccnioijokfaaGreatDoor

namespace Go.Proofs.YtmbccnioijokfaaGreatDoor
def inAx (lo hi k : Int) : Prop := thinI lo hi = false ∧ lowI lo ≤ k ∧ k ≤ topI lo hi
theorem mem_cellsI {a b c d e f : Int} {x : Cl} : x ∈ cellsI a b c d e f ↔ inAx a d x.1 ∧ inAx b e x.2.1 ∧ inAx c f x.2.2 := by
  unfold cellsI inAx isI
  cases h1 : thinI a d <;> cases h2 : thinI b e <;> cases h3 : thinI c f <;> simp [mem_boxL, and_assoc]
theorem inAx_iff {lo hi k : Int} (h1 : -140737488355328 ≤ lo) (h2 : hi ≤ 140737488355328) (h : lo ≤ hi) : inAx lo hi k ↔ (lo < hi ∧ lo < (k + 1) * 65536 ∧ k * 65536 < hi) ∨ (lo = hi ∧ k * 65536 < lo ∧ lo < (k + 1) * 65536) := by
  unfold inAx thinI topI lowI
  rw [cutI_id h1 (by omega), cutI_id (by omega) h2]
  simp only [Bool.and_eq_false_iff, beq_eq_false_iff_ne, ne_eq]
  constructor
  · rintro ⟨t, k1, k2⟩
    split at k2 <;> omega
  · intro hc
    refine ⟨by omega, by omega, ?_⟩
    split <;> omega
theorem inAx_cell {k : Int} (h1 : -100000000000000 ≤ k * 65536) (h2 : k * 65536 ≤ 100000000000000) : inAx (k * 65536) (k * 65536 + 65536) k := (inAx_iff (by omega) (by omega) (by omega)).2 (.inl ⟨by omega, by omega, by omega⟩)
theorem inAx_up {lo hi m k : Int} (h1 : -100000000000000 ≤ lo) (h2 : hi ≤ 100000000000000) (h : lo ≤ hi) (m1 : 0 ≤ m) (m2 : m ≤ 10000000) (hk : inAx (lo + m) (hi + m) k) : inAx lo hi k ∨ (0 ≤ k * 65536 - hi ∧ k * 65536 - hi < m) := by
  rw [inAx_iff (by omega) (by omega) (by omega)] at *
  omega
theorem inAx_dn {lo hi m k : Int} (h1 : -100000000000000 ≤ lo) (h2 : hi ≤ 100000000000000) (h : lo ≤ hi) (m1 : m ≤ 0) (m2 : -10000000 ≤ m) (hk : inAx (lo + m) (hi + m) k) : inAx lo hi k ∨ ((k + 1) * 65536 - lo ≤ 0 ∧ m < (k + 1) * 65536 - lo) := by
  rw [inAx_iff (by omega) (by omega) (by omega)] at *
  omega
def blk6 (val : Cl → Int) (x : B6) : Bool := (cellsI x.1 x.2.1 x.2.2.1 x.2.2.2.1 x.2.2.2.2.1 x.2.2.2.2.2).any fun c => solB (val c)
theorem blk6_false {val : Cl → Int} {x : B6} : blk6 val x = false ↔ ∀ c, inAx x.1 x.2.2.2.1 c.1 → inAx x.2.1 x.2.2.2.2.1 c.2.1 → inAx x.2.2.1 x.2.2.2.2.2 c.2.2 → solB (val c) = false := by
  unfold blk6
  rw [List.any_eq_false]
  constructor
  · intro h c h1 h2 h3
    simpa using h c (mem_cellsI.2 ⟨h1, h2, h3⟩)
  · intro h c hc
    obtain ⟨h1, h2, h3⟩ := mem_cellsI.1 hc
    simpa using h c h1 h2 h3
theorem lyB_false {val : Cl → Int} {a b c d e f axis k : Int} : lyB val a b c d e f axis k = false ↔ ∀ x : Cl, inAx (wiI a axis 0 (k * 65536)) (wiI d axis 0 (k * 65536 + 65536)) x.1 → inAx (wiI b axis 1 (k * 65536)) (wiI e axis 1 (k * 65536 + 65536)) x.2.1 → inAx (wiI c axis 2 (k * 65536)) (wiI f axis 2 (k * 65536 + 65536)) x.2.2 → solB (val x) = false := by
  have h := blk6_false (val := val) (x := (wiI a axis 0 (k * 65536), wiI b axis 1 (k * 65536), wiI c axis 2 (k * 65536), wiI d axis 0 (k * 65536 + 65536), wiI e axis 1 (k * 65536 + 65536), wiI f axis 2 (k * 65536 + 65536)))
  exact h
theorem axV_near {blk : Int → Bool} {low top d m k : Int} (hm : (0 ≤ m ∧ m ≤ (axV blk low top d).1) ∨ ((axV blk low top d).1 ≤ m ∧ m ≤ 0)) :
    ((0 ≤ k * 65536 - top ∧ k * 65536 - top < m) → blk k = false) ∧ (((k + 1) * 65536 - low ≤ 0 ∧ m < (k + 1) * 65536 - low) → blk k = false) := by
  rcases (show d = 0 ∨ 0 < d ∨ d < 0 by omega) with rfl | hd | hd
  · rw [axV_zero] at hm
    dsimp only at hm
    exact ⟨fun h => by omega, fun h => by omega⟩
  · rcases axV_up_cases blk low top hd with ⟨k0, h1, h2, h3, h4, h5⟩ | ⟨h4, h5⟩
    · rw [h5] at hm; dsimp only at hm
      exact ⟨fun h => h4 k (by omega) h.1, fun h => by omega⟩
    · rw [h5] at hm; dsimp only at hm
      exact ⟨fun h => h4 k h.1 (by omega), fun h => by omega⟩
  · rcases axV_dn_cases blk low top hd with ⟨k0, h1, h2, h3, h4, h5⟩ | ⟨h4, h5⟩
    · rw [h5] at hm; dsimp only at hm
      exact ⟨fun h => by omega, fun h => h4 k (by omega) h.1⟩
    · rw [h5] at hm; dsimp only at hm
      exact ⟨fun h => by omega, fun h => h4 k h.1 (by omega)⟩
theorem free6 {val : Cl → Int} {M : Int} {x : B6} (h : Sm6 M x) (hM0 : 0 ≤ M) (hM : M ≤ 74000000000000) {axis dd m : Int} (ha : 0 ≤ axis ∧ axis < 3) (hx : blk6 val x = false)
    (hm : (0 ≤ m ∧ m ≤ (ax6 val x axis dd).1) ∨ ((ax6 val x axis dd).1 ≤ m ∧ m ≤ 0)) : blk6 val (mv6 x axis m) = false := by
  obtain ⟨f1, f2⟩ := axisV_far val x.1 x.2.1 x.2.2.1 x.2.2.2.1 x.2.2.2.2.1 x.2.2.2.2.2 axis dd
  have m1 : -10000000 ≤ m ∧ m ≤ 10000000 := by unfold ax6 at hm; omega
  clear f1 f2
  unfold ax6 axisV at hm
  rw [if_neg (by omega)] at hm
  have near := fun k => axV_near (k := k) hm
  clear hm
  obtain ⟨h3, h4, h5, h6, h7, h8, h9, h10, h11, h12, h13, h14⟩ := h
  obtain ⟨a, b, c, d, e, f⟩ := x
  dsimp only at *
  rw [blk6_false] at *
  dsimp only at *
  unfold mv6
  dsimp only
  rw [wi0 m1.1 m1.2, wi0 m1.1 m1.2, wi0 m1.1 m1.2]
  intro y
  rcases (show axis = 0 ∨ axis = 1 ∨ axis = 2 by omega) with rfl | rfl | rfl
  · have e0 : (if (0 : Int) = 0 then m else 0) = m := rfl
    have e1 : (if (1 : Int) = 0 then m else 0) = 0 := rfl
    have e2 : (if (2 : Int) = 0 then m else 0) = 0 := rfl
    rw [e0, e1, e2, addI_in (a := a) (by omega) (by omega) m1.1 m1.2, addI_in (a := b) (by omega) (by omega) (by omega) (by omega), addI_in (a := c) (by omega) (by omega) (by omega) (by omega), addI_in (a := d) (by omega) (by omega) m1.1 m1.2, addI_in (a := e) (by omega) (by omega) (by omega) (by omega), addI_in (a := f) (by omega) (by omega) (by omega) (by omega),
      Int.add_zero, Int.add_zero, Int.add_zero, Int.add_zero]
    intro k1 k2 k3
    obtain ⟨n1, n2⟩ := near y.1
    simp only [axI, ↓reduceIte] at n1 n2
    have lay : lyB val a b c d e f 0 y.1 = false → -100000000000000 ≤ y.1 * 65536 → y.1 * 65536 ≤ 100000000000000 → solB (val y) = false := fun hl r1 r2 => by
      rw [lyB_false] at hl
      refine hl y ?_ ?_ ?_
      · rw [wi_c (by omega) (by omega), wi_c (by omega) (by omega), if_pos rfl, if_pos rfl]; exact inAx_cell r1 r2
      · rw [wi_c (by omega) (by omega), wi_c (by omega) (by omega), if_neg (by decide), if_neg (by decide)]; exact k2
      · rw [wi_c (by omega) (by omega), wi_c (by omega) (by omega), if_neg (by decide), if_neg (by decide)]; exact k3
    rcases (show 0 ≤ m ∨ m ≤ 0 by omega) with hm | hm
    · rcases inAx_up (by omega) (by omega) h9 hm m1.2 k1 with g | g
      · exact hx y g k2 k3
      · exact lay (n1 g) (by omega) (by omega)
    · rcases inAx_dn (by omega) (by omega) h9 hm m1.1 k1 with g | g
      · exact hx y g k2 k3
      · exact lay (n2 g) (by omega) (by omega)
  · have e0 : (if (0 : Int) = 1 then m else 0) = 0 := rfl
    have e1 : (if (1 : Int) = 1 then m else 0) = m := rfl
    have e2 : (if (2 : Int) = 1 then m else 0) = 0 := rfl
    rw [e0, e1, e2, addI_in (a := a) (by omega) (by omega) (by omega) (by omega), addI_in (a := b) (by omega) (by omega) m1.1 m1.2, addI_in (a := c) (by omega) (by omega) (by omega) (by omega), addI_in (a := d) (by omega) (by omega) (by omega) (by omega), addI_in (a := e) (by omega) (by omega) m1.1 m1.2, addI_in (a := f) (by omega) (by omega) (by omega) (by omega),
      Int.add_zero, Int.add_zero, Int.add_zero, Int.add_zero]
    intro k1 k2 k3
    obtain ⟨n1, n2⟩ := near y.2.1
    simp [axI] at n1 n2
    have lay : lyB val a b c d e f 1 y.2.1 = false → -100000000000000 ≤ y.2.1 * 65536 → y.2.1 * 65536 ≤ 100000000000000 → solB (val y) = false := fun hl r1 r2 => by
      rw [lyB_false] at hl
      refine hl y ?_ ?_ ?_
      · rw [wi_c (by omega) (by omega), wi_c (by omega) (by omega), if_neg (by decide), if_neg (by decide)]; exact k1
      · rw [wi_c (by omega) (by omega), wi_c (by omega) (by omega), if_pos rfl, if_pos rfl]; exact inAx_cell r1 r2
      · rw [wi_c (by omega) (by omega), wi_c (by omega) (by omega), if_neg (by decide), if_neg (by decide)]; exact k3
    rcases (show 0 ≤ m ∨ m ≤ 0 by omega) with hm | hm
    · rcases inAx_up (by omega) (by omega) h10 hm m1.2 k2 with g | g
      · exact hx y k1 g k3
      · exact lay (n1 (by omega) (by omega)) (by omega) (by omega)
    · rcases inAx_dn (by omega) (by omega) h10 hm m1.1 k2 with g | g
      · exact hx y k1 g k3
      · exact lay (n2 (by omega) (by omega)) (by omega) (by omega)
  · have e0 : (if (0 : Int) = 2 then m else 0) = 0 := rfl
    have e1 : (if (1 : Int) = 2 then m else 0) = 0 := rfl
    have e2 : (if (2 : Int) = 2 then m else 0) = m := rfl
    rw [e0, e1, e2, addI_in (a := a) (by omega) (by omega) (by omega) (by omega), addI_in (a := b) (by omega) (by omega) (by omega) (by omega), addI_in (a := c) (by omega) (by omega) m1.1 m1.2, addI_in (a := d) (by omega) (by omega) (by omega) (by omega), addI_in (a := e) (by omega) (by omega) (by omega) (by omega), addI_in (a := f) (by omega) (by omega) m1.1 m1.2,
      Int.add_zero, Int.add_zero, Int.add_zero, Int.add_zero]
    intro k1 k2 k3
    obtain ⟨n1, n2⟩ := near y.2.2
    simp [axI] at n1 n2
    have lay : lyB val a b c d e f 2 y.2.2 = false → -100000000000000 ≤ y.2.2 * 65536 → y.2.2 * 65536 ≤ 100000000000000 → solB (val y) = false := fun hl r1 r2 => by
      rw [lyB_false] at hl
      refine hl y ?_ ?_ ?_
      · rw [wi_c (by omega) (by omega), wi_c (by omega) (by omega), if_neg (by decide), if_neg (by decide)]; exact k1
      · rw [wi_c (by omega) (by omega), wi_c (by omega) (by omega), if_neg (by decide), if_neg (by decide)]; exact k2
      · rw [wi_c (by omega) (by omega), wi_c (by omega) (by omega), if_pos rfl, if_pos rfl]; exact inAx_cell r1 r2
    rcases (show 0 ≤ m ∨ m ≤ 0 by omega) with hm | hm
    · rcases inAx_up (by omega) (by omega) h11 hm m1.2 k3 with g | g
      · exact hx y k1 k2 g
      · exact lay (n1 (by omega) (by omega)) (by omega) (by omega)
    · rcases inAx_dn (by omega) (by omega) h11 hm m1.1 k3 with g | g
      · exact hx y k1 k2 g
      · exact lay (n2 (by omega) (by omega)) (by omega) (by omega)
theorem free_al {val : Cl → Int} {M : Int} {x : B6} (h : Sm6 M x) (hM0 : 0 ≤ M) (hM : M ≤ 74000000000000) {axis : Int} (dd : Int) (ha : 0 ≤ axis ∧ axis < 3) (hx : blk6 val x = false) : blk6 val (al6 val x axis dd).1 = false :=
  free6 h hM0 hM ha hx (dd := dd) (by omega)
theorem free_st3 {val : Cl → Int} {M : Int} {x : B6} (h : Sm6 M x) (hM0 : 0 ≤ M) (hM : M ≤ 73000000000000) (dx dy dz : Int) (hx : blk6 val x = false) : blk6 val (st3 val x dx dy dz) = false := by
  have s1 := al6_sm h hM0 (by omega) val 1 dy
  have s2 := al6_sm (x := st1 val x dy) s1 (by omega) (by omega) val 0 dx
  exact free_al s2 (by omega) (by omega) dz (by decide) (free_al s1 (by omega) (by omega) dx (by decide) (free_al h hM0 (by omega) dy (by decide) hx))
end Go.Proofs.YtmbccnioijokfaaGreatDoor

namespace Go.Proofs.YtmbccnioijokfaaGreatDoor
def unB (val : Cl → Int) (x : B6) : Bool := (cellsI x.1 (cutI (x.2.1 - 1)) x.2.2.1 x.2.2.2.1 x.2.1 x.2.2.2.2.2).any fun c => solB (val c)
def wentI (x y : B6) : Int := mxI (y.1 - x.1) (x.1 - y.1) + mxI (y.2.2.1 - x.2.2.1) (x.2.2.1 - y.2.2.1)
section
variable (val : Cl → Int) (x : B6) (dx dy dz up : Int)
def hi1 : B6 × Bool := al6 val x 1 (mnI up 65536)
def rise : Int := (hi1 val x up).1.2.1 - x.2.1
def oA : B6 × Bool := al6 val (hi1 val x up).1 0 dx
def oB : B6 × Bool := al6 val (oA val x dx up).1 2 dz
def oC : B6 × Bool := al6 val (oB val x dx dz up).1 1 (-rise val x up)
abbrev ah3 (h : Bool × Bool × Bool) : Array Value := #[.bool h.1, .bool h.2.1, .bool h.2.2]
abbrev bhT (p : B6 × Bool × Bool × Bool) : Value := .tuple #[.agg (ag6 p.1), .agg (ah3 p.2)]
def stepOf (y c : B6) (u0 u1 u2 sa sb st : Bool) (up n1 n2 : Int) : B6 × Bool × Bool × Bool :=
  if ((u0 || u2) && decide (0 < up) && st && decide (n2 < n1)) = true then (c, sa, true, sb) else (y, u0, u1, u2)
def stepV : B6 × Bool × Bool × Bool :=
  stepOf (st3 val x dx dy dz) (oC val x dx dz up).1 (hx2 val x dx dy) (hy1 val x dy) (hz3 val x dx dy dz) (oA val x dx up).2 (oB val x dx dz up).2 (unB val x) up (wentI x (oC val x dx dz up).1) (wentI x (st3 val x dx dy dz))
variable {val x dx dy dz up}
theorem stepOf_no {y c : B6} {u0 u1 u2 sa sb st : Bool} {up n1 n2 : Int} (h : (u0 = false ∧ u2 = false) ∨ up ≤ 0 ∨ st = false ∨ n1 ≤ n2) : stepOf y c u0 u1 u2 sa sb st up n1 n2 = (y, u0, u1, u2) := by
  unfold stepOf
  refine if_neg fun e => ?_
  simp only [Bool.and_eq_true, Bool.or_eq_true, decide_eq_true_eq] at e
  obtain ⟨⟨⟨e1, e2⟩, e3⟩, e4⟩ := e
  rcases h with ⟨rfl, rfl⟩ | h | rfl | h
  · simp at e1
  · omega
  · cases e3
  · omega
theorem stepOf_yes {y c : B6} {u0 u1 u2 sa sb : Bool} {up n1 n2 : Int} (h : u0 = true ∨ u2 = true) (h1 : 0 < up) (h2 : n2 < n1) : stepOf y c u0 u1 u2 sa sb true up n1 n2 = (c, sa, true, sb) := by
  unfold stepOf
  refine if_pos ?_
  simp only [Bool.and_eq_true, Bool.or_eq_true, decide_eq_true_eq]
  exact ⟨⟨⟨h, h1⟩, trivial⟩, h2⟩
theorem hi1_sm {M : Int} (h : Sm6 M x) (hM0 : 0 ≤ M) (hM : M ≤ 73000000000000) : Sm6 (M + 10000000) (hi1 val x up).1 := al6_sm h hM0 (by omega) val 1 _
theorem oA_sm {M : Int} (h : Sm6 M x) (hM0 : 0 ≤ M) (hM : M ≤ 73000000000000) : Sm6 (M + 20000000) (oA val x dx up).1 := by
  have := al6_sm (hi1_sm (val := val) (up := up) h hM0 hM) (by omega) (by omega) val 0 dx
  rwa [show M + 10000000 + 10000000 = M + 20000000 by omega] at this
theorem oB_sm {M : Int} (h : Sm6 M x) (hM0 : 0 ≤ M) (hM : M ≤ 73000000000000) : Sm6 (M + 30000000) (oB val x dx dz up).1 := by
  have := al6_sm (oA_sm (val := val) (up := up) (dx := dx) h hM0 hM) (by omega) (by omega) val 2 dz
  rwa [show M + 20000000 + 10000000 = M + 30000000 by omega] at this
theorem oC_sm {M : Int} (h : Sm6 M x) (hM0 : 0 ≤ M) (hM : M ≤ 73000000000000) : Sm6 (M + 40000000) (oC val x dx dz up).1 := by
  have := al6_sm (oB_sm (val := val) (up := up) (dx := dx) (dz := dz) h hM0 hM) (by omega) (by omega) val 1 (-rise val x up)
  rwa [show M + 30000000 + 10000000 = M + 40000000 by omega] at this
theorem st3_sm {M : Int} (h : Sm6 M x) (hM0 : 0 ≤ M) (hM : M ≤ 73000000000000) : Sm6 (M + 30000000) (st3 val x dx dy dz) := by
  have s1 := al6_sm h hM0 (by omega) val 1 dy
  have s2 := al6_sm (x := st1 val x dy) s1 (by omega) (by omega) val 0 dx
  have s3 := al6_sm (x := st2 val x dx dy) s2 (by omega) (by omega) val 2 dz
  rwa [show M + 10000000 + 10000000 + 10000000 = M + 30000000 by omega] at s3
theorem Sm6.bd {M : Int} (h : Sm6 M x) : (-M ≤ x.1 ∧ x.1 ≤ M) ∧ (-M ≤ x.2.1 ∧ x.2.1 ≤ M) ∧ (-M ≤ x.2.2.1 ∧ x.2.2.1 ≤ M) := ⟨⟨h.a1, h.a2⟩, ⟨h.b1, h.b2⟩, ⟨h.c1, h.c2⟩⟩
theorem Sm6.under {M : Int} (h : Sm6 M x) (hM0 : 0 ≤ M) (hM : M ≤ 73000000000000) : BoxOk x.1 (cutI (x.2.1 - 1)) x.2.2.1 x.2.2.2.1 x.2.1 x.2.2.2.2.2 ∧ (cellsI x.1 (cutI (x.2.1 - 1)) x.2.2.1 x.2.2.2.1 x.2.1 x.2.2.2.2.2).length ≤ 1000000 := by
  obtain ⟨h1, h2, h3, h4, h5, h6, h7, h8, h9, h10, h11, h12⟩ := h
  rw [cutI_id (by omega) (by omega)]
  exact ⟨⟨by omega, by omega, by omega, by omega, by omega, by omega, by omega, by omega, by omega⟩, cells_len (by omega) (by omega) (by omega) (by omega) (by omega) (by omega)⟩
end
end Go.Proofs.YtmbccnioijokfaaGreatDoor

namespace Go.Proofs.YtmbccnioijokfaaGreatDoor
theorem Sm6.mono {M M' : Int} {x : B6} (h : Sm6 M x) (hm : M ≤ M') : Sm6 M' x := by
  obtain ⟨h1, h2, h3, h4, h5, h6, h7, h8, h9, h10, h11, h12⟩ := h
  exact ⟨by omega, by omega, by omega, by omega, by omega, by omega, h7, h8, h9, h10, h11, h12⟩
section
variable {val : Cl → Int} {x : B6} {dx dy dz up M : Int}
theorem stepV_sm (h : Sm6 M x) (hM0 : 0 ≤ M) (hM : M ≤ 73000000000000) : Sm6 (M + 40000000) (stepV val x dx dy dz up).1 := by
  unfold stepV stepOf
  split
  · exact oC_sm h hM0 hM
  · exact (st3_sm h hM0 hM).mono (by omega)
theorem free_stepV (h : Sm6 M x) (hM0 : 0 ≤ M) (hM : M ≤ 73000000000000) (hx : blk6 val x = false) : blk6 val (stepV val x dx dy dz up).1 = false := by
  unfold stepV stepOf
  split
  · have k1 : blk6 val (hi1 val x up).1 = false := free_al h hM0 (by omega) (mnI up 65536) (by decide) hx
    have k2 : blk6 val (oA val x dx up).1 = false := free_al (hi1_sm h hM0 hM) (by omega) (by omega) dx (by decide) k1
    have k3 : blk6 val (oB val x dx dz up).1 = false := free_al (oA_sm h hM0 hM) (by omega) (by omega) dz (by decide) k2
    exact free_al (oB_sm h hM0 hM) (by omega) (by omega) (-rise val x up) (by decide) k3
  · exact free_st3 h hM0 hM dx dy dz hx
theorem Sm6.box (h : Sm6 M x) (hM0 : 0 ≤ M) (hM : M ≤ 73000000000000) : BoxOk x.1 x.2.1 x.2.2.1 x.2.2.2.1 x.2.2.2.2.1 x.2.2.2.2.2 ∧ (cellsI x.1 x.2.1 x.2.2.1 x.2.2.2.1 x.2.2.2.2.1 x.2.2.2.2.2).length ≤ 1000000 := ⟨Sm.box h (by omega), Sm.cells h⟩
end
theorem axV_miss {blk : Int → Bool} {low top d : Int} (h : (axV blk low top d).2 = false) : (axV blk low top d).1 = d := by
  unfold axV at *
  split at h
  · cases h
  · rfl
theorem ax6_say (val : Cl → Int) (x : B6) {i m : Int} (hi : 0 ≤ i ∧ i < 3) (h1 : -4194304 ≤ m) (h2 : m ≤ 4194304) :
    (((0 ≤ m ∧ 0 ≤ (ax6 val x i m).1 ∧ (ax6 val x i m).1 ≤ m) ∨ (m ≤ 0 ∧ m ≤ (ax6 val x i m).1 ∧ (ax6 val x i m).1 ≤ 0))) ∧ ((ax6 val x i m).2 = false → (ax6 val x i m).1 = m) := by
  unfold ax6 axisV
  rw [if_neg (by omega), far_in h1 h2]
  obtain ⟨h3, h4⟩ := axV_bd (blk := lyB val x.1 x.2.1 x.2.2.1 x.2.2.2.1 x.2.2.2.2.1 x.2.2.2.2.2 i) (low := axI x.1 x.2.1 x.2.2.1 i) (top := axI x.2.2.2.1 x.2.2.2.2.1 x.2.2.2.2.2 i) (d := m)
  refine ⟨?_, axV_miss⟩
  rcases (show 0 ≤ m ∨ m ≤ 0 by omega) with h | h
  · exact .inl ⟨h, h3 h⟩
  · exact .inr ⟨h, h4 h⟩
end Go.Proofs.YtmbccnioijokfaaGreatDoor

namespace Go.Proofs.YtmbccnioijokfaaGreatDoor
open Go.RowKit Go.Shelf
attribute [local go_sem] Oper.semAt_some
theorem layers_c (a b c d e f axis dd : Int) (w : World) : Calls Tryz.prog 355 #[.agg #[.int .i64 a, .int .i64 b, .int .i64 c, .int .i64 d, .int .i64 e, .int .i64 f], .int .i64 axis, .int .i64 dd] w fun r w' =>
    r = .returned (.func (.func 362) #[] #[.pointer (some ⟨w.heap.size, 0, none⟩), .pointer (some ⟨w.heap.size + 1, 0, none⟩), .pointer (some ⟨w.heap.size + 1 + 1, 0, none⟩)]) ∧
    w' = ((w.alloc (.cells #[.int .i64 a, .int .i64 b, .int .i64 c, .int .i64 d, .int .i64 e, .int .i64 f] 210)).alloc (.cells #[.int .i64 axis] 3)).alloc (.cells #[.int .i64 dd] 3) := by
  have hmf : ∀ (fn : Fn) (first cap : Array Value) (w : World), (Instr.makeFunc fn first cap).run Tryz.prog w = .ok (.func fn first cap) w := fun _ _ _ _ => rfl
  go_enter Tryz.func355, Tryz.ntmps355
  go_wp2_with fail
  go_returns
  exact ⟨rfl, rfl⟩
abbrev encK (c : Int × Int) : Array Value := #[.int .i64 c.1, .int .i64 c.2]
theorem of_b (n v : Int) (h : ofI n = v) (w : World) : Calls Tryz.prog 244 #[.int .i64 n] w fun e w' => e = .returned (.int .i64 v) ∧ Below w.heap.size w w' := calls_bel (of_e n v h w)
theorem floor_v (n v : Int) (h : cutI n / 65536 = v) (w : World) : Calls Tryz.prog 237 #[.int .i64 n] w fun e w' => e = .returned (.int .i64 v) ∧ w = w' := by subst h; exact floor_c n w
set_option maxRecDepth 100000 in
set_option maxHeartbeats 8000000 in
theorem lay_it (B G D : Nat) (a b c d e f axis dd M : Int) (hM : M ≤ 73000000000000) (hM0 : 0 ≤ M) (hB : Sm M a b c d e f) (h1 : -4194304 ≤ dd) (h2 : dd ≤ 4194304) (w : World) (hb : Blk w B 210 #[.int .i64 a, .int .i64 b, .int .i64 c, .int .i64 d, .int .i64 e, .int .i64 f]) (hg : Blk w G 3 #[.int .i64 axis]) (hd : Blk w D 3 #[.int .i64 dd]) :
    Iter Tryz.prog 362 #[.pointer (some ⟨B, 0, none⟩), .pointer (some ⟨G, 0, none⟩), .pointer (some ⟨D, 0, none⟩)] encK (lays (axI a b c axis) (axI d e f axis) dd) (fun x => x = B ∨ x = G ∨ x = D) w := by
  intro m l J Jx W hW hJ hJx hY h0
  have A := hW.blk (.inl rfl) hb
  have A1 := hW.blk (.inr (.inl rfl)) hg
  have A2 := hW.blk (.inr (.inr rfl)) hd
  obtain ⟨l1, l2, l3⟩ := axI_sm (axis := axis) hB hM0
  clear hb hg hd hW hB
  refine callsIn_of_wp Tryz.func362 rfl trivial ?_ rfl
  simp only [Tryz.ntmps362, List.size_toArray, List.length_cons, List.length_nil, Nat.reduceAdd, Nat.reduceSub, Array.replicate_succ, Array.replicate_zero, List.push_toArray, List.append_toArray, List.nil_append, List.cons_append]
  refine wpIn_wide.2 ?_
  obtain ⟨a0, a1, a2, a3, a4, a5⟩ := A.re6
  have g0 := fun x y => (A1.re x y).cell 0
  clear A
  go_upto_region 0 with (fail)
  refine wp_sched [0, 0, 0, 0, 0, 0, 0, 0, 0, 0] (fun _ _ _ => True) (by kernel_rfl) (by kernel_rfl) (fun _ _ _ _ h _ => h) ?_
  repeat (first | (refine wpQs_s ?_) | (refine wpQs_q (fun K hK => ?_); go_simp; first | (refine hK _ ?_; clear hK K) | (apply Exists.intro; refine ⟨fun _ => ?_, hK _ ?_⟩; (exact axis_c _ _ _ _ _); clear hK K)) | (refine wpQs_f (fun K hK => ?_); go_simp; refine hK _ ?_; clear hK K))
  refine wpQs_nil ?_
  repeat (first | (refine wpLs_skip ?_) | (refine wpLs_one ?lsA (fun v_ => ?_); case lsA => (intro w_ hw_ hp_; (fail))))
  refine wpLs_nilB ?_
  simp only [tails]
  clear a0 a1 a2 a3 a4 a5 g0
  generalize hlo : axI a b c axis = low at l1 l2 hY ⊢
  generalize hto : axI d e f axis = top at l2 l3 hY ⊢
  intro W1 k1 _
  have HLO := Lib.hid hlo
  have HTO := Lib.hid hto
  clear hlo hto
  have hD := A2.on k1
  have d0 := hD.cell 0
  have hJ1 : ∀ Z, J Z 0 W1 := fun Z => hJ Z 0 W W1 (h0 Z) (Kept.of_below k1)
  have hsz := k1.size
  have hDl := A2.lt
  clear k1 h0 A1 A2
  by_cases hpos : 0 < dd
  · have hls : lays low top dd = layU top dd := by unfold lays; rw [if_pos hpos]
    rw [hls] at hY
    have HLS := Lib.hid hls
    have hlen := layU_len top dd
    have HLEN := Lib.hid hlen
    clear hls hlen
    go_upto_region 3 with (go_at_call 237; refine (floor_v _ ((top + 65535) / 65536) (by unfold cutI; omega) _).mono ?_; rintro e_ w2 ⟨rfl, rfl⟩)
    refine (wpIn_wide (n := m + 1)).1 ?_
    gi_loopw [7] (fun v wr => ∃ (kk : Int) (i : Nat), v = .int .i64 kk ∧ Hid (kk = (top + 65535) / 65536 + (i : Int)) ∧ Hid (i ≤ (layU top dd).length) ∧ Blk wr D 3 #[.int .i64 dd] ∧ Hid (W1.heap.size ≤ wr.heap.size) ∧ J W1.heap.size i wr) (fun v _ => ((top + dd + 65535) / 65536 + 1 - intOf v).toNat)
    case atStart => exact ⟨_, 0, rfl, Lib.hid (by omega), Nat.zero_le _, hD, Nat.le_refl _, hJ1 _⟩
    case round =>
      clear hD hJ1 d0
      obtain ⟨kk, i, rfl, hkk0, hi, hD, hsz2, hj⟩ := hrel
      have d0 := fun x y => (hD.re x y).cell 0
      have hkk := hkk0.out
      have hi2 := hi.out
      rw [HLEN.out] at hi2
      have b1 : -9223372036854775808 ≤ kk - 1 := by omega
      have b2 : kk + 1 ≤ 9223372036854775807 := by omega
      have b3 : -9223372036854775808 ≤ kk + 1 := by omega
      have b4 : kk - 1 ≤ 9223372036854775807 := by omega
      have b5 : -9223372036854775808 ≤ kk * 65536 - top := by omega
      have b6 : kk * 65536 - top ≤ 9223372036854775807 := by omega
      have hof : ofI (kk) = (kk) * 65536 := ofI_id (by omega) (by omega)
      have HOF := Lib.hid hof
      by_cases hlt : i < (layU top dd).length
      · have c1 : (layU top dd)[i]? = some (kk, kk * 65536 - top) := by rw [layU_at hlt, hkk]
        have C1 := Lib.hid c1
        have HI := Lib.hid hlt
        rw [HLEN.out] at hlt
        have hlt2 : kk * 65536 < top + dd := by omega
        clear hlt c1 hi2 hof hkk
        have hw : IntKind.i64.wrap (top + dd) = top + dd := IntWalk.i64_in _ (by omega)
        gi_wp2
        refine wpIn_wide.2 ?_
        refine wp_sched [0, 0, 0, 0, 0, 0] (fun _ _ _ => True) (by kernel_rfl) (by kernel_rfl) (fun _ _ _ _ h _ => h) ?_
        repeat (first | (refine wpQs_s ?_) | (refine wpQs_q (fun K hK => ?_); go_simp; first | (refine hK _ ?_; clear hK K) | (apply Exists.intro; refine ⟨fun _ => ?_, hK _ ?_⟩; (exact of_b _ _ HOF.out _); clear hK K)) | (refine wpQs_f (fun K hK => ?_); go_simp; refine hK _ ?_; clear hK K))
        refine wpQs_nil ?_
        repeat (first | (refine wpLs_skip ?_) | (refine wpLs_one ?lsA (fun v_ => ?_); case lsA => (intro w_ hw_ hp_; (fail))))
        refine wpLs_nilB ?_
        simp only [tails]
        intro W2 k2 _
        have HJ := Lib.hid (And.intro (hJ _ _ _ _ hj (Kept.of_below k2)) (Nat.le_trans hsz2.out k2.size))
        clear d0 hj
        simp only [wpList, Exit.then]
        go_at_K
        gi_wp2_with (refine ⟨trivial, ?_⟩; gi_at_call 244; refine (callsIn_wide.2 (of_b _ _ HOF.out _)).mono ?_; rintro e_ w3 ⟨rfl, k3⟩; obtain ⟨hj, hs2⟩ := HJ.out; have hs3 := Nat.le_trans hs2 k3.size; replace hD := (hD.on k2).on k3; obtain ⟨fn, tmps, assign, body, hy', hR⟩ := hY W1.heap.size i _ w3 hsz hs3 C1.out (hJ _ _ _ _ hj (Kept.of_below k3)))
        refine hR.mono ?_
        rintro e_ W3 (⟨rfl, hj3, hk3⟩ | ⟨rfl, hjx3⟩)
        · replace hD := hk3.blk (.inr (.inr (.inr rfl))) hD
          have hsz3 := Lib.hid (Nat.le_trans hs3 hk3.size)
          gi_wp2
          go_roundw
          case rel => exact ⟨kk + 1, i + 1, rfl, Lib.hid (by have := hkk0.out; omega), HI.out, hD, hsz3.out, hj3⟩
          case measure => have := hkk0.out; have := HI.out; rw [HLEN.out] at this; simp [intOf]; omega
        · gi_wp2
          refine bodyPost_ret (results_none rfl _ _ _) rfl ?_
          exact ⟨⟨_, rfl⟩, W1.heap.size, hsz, .inr ⟨i, by rw [HLO.out, HTO.out, HLS.out]; exact HI.out, hjx3⟩⟩
      · have hin : i = (layU top dd).length := Nat.le_antisymm hi.out (Nat.le_of_not_lt hlt)
        have hlt2 : ¬ kk * 65536 < top + dd := by rw [HLEN.out] at hin; omega
        have hw : IntKind.i64.wrap (top + dd) = top + dd := IntWalk.i64_in _ (by omega)
        have hw2 : True := trivial
        have HI := Lib.hid hin
        clear hlt hi2 hof hkk hin
        gi_wp2
        refine wpIn_wide.2 ?_
        refine wp_sched [0, 0, 0, 0, 0, 0] (fun _ _ _ => True) (by kernel_rfl) (by kernel_rfl) (fun _ _ _ _ h _ => h) ?_
        repeat (first | (refine wpQs_s ?_) | (refine wpQs_q (fun K hK => ?_); go_simp; first | (refine hK _ ?_; clear hK K) | (apply Exists.intro; refine ⟨fun _ => ?_, hK _ ?_⟩; (exact of_b _ _ HOF.out _); clear hK K)) | (refine wpQs_f (fun K hK => ?_); go_simp; refine hK _ ?_; clear hK K))
        refine wpQs_nil ?_
        repeat (first | (refine wpLs_skip ?_) | (refine wpLs_one ?lsA (fun v_ => ?_); case lsA => (intro w_ hw_ hp_; (fail))))
        refine wpLs_nilB ?_
        simp only [tails]
        intro W2 k2 _
        have HJ := Lib.hid (hJ _ _ _ _ hj (Kept.of_below k2))
        clear d0 hj
        simp only [wpList, Exit.then]
        go_at_K
        gi_wp2
        go_wp2_with fail
        refine bodyPost_ret (results_none rfl _ _ _) rfl ?_
        exact ⟨⟨_, rfl⟩, W1.heap.size, hsz, .inl (by rw [HLO.out, HTO.out, HLS.out, ← HI.out]; exact HJ.out)⟩
  · have hls : lays low top dd = layD low dd := by unfold lays; rw [if_neg hpos]
    rw [hls] at hY
    have HLS := Lib.hid hls
    have hlen := layD_len low dd
    have HLEN := Lib.hid hlen
    clear hls hlen
    go_upto_region 7 with (go_at_call 237; refine (floor_v _ (low / 65536) (by unfold cutI; omega) _).mono ?_; rintro e_ w2 ⟨rfl, rfl⟩)
    refine (wpIn_wide (n := m + 1)).1 ?_
    gi_loopw [8] (fun v wr => ∃ (kk : Int) (i : Nat), v = .int .i64 kk ∧ Hid (kk = low / 65536 - 1 - (i : Int)) ∧ Hid (i ≤ (layD low dd).length) ∧ Blk wr D 3 #[.int .i64 dd] ∧ Hid (W1.heap.size ≤ wr.heap.size) ∧ J W1.heap.size i wr) (fun v _ => (intOf v - (low + dd) / 65536 + 1).toNat)
    case atStart => exact ⟨_, 0, rfl, Lib.hid (by omega), Nat.zero_le _, hD, Nat.le_refl _, hJ1 _⟩
    case round =>
      clear hD hJ1 d0
      obtain ⟨kk, i, rfl, hkk0, hi, hD, hsz2, hj⟩ := hrel
      have d0 := fun x y => (hD.re x y).cell 0
      have hkk := hkk0.out
      have hi2 := hi.out
      rw [HLEN.out] at hi2
      have b1 : -9223372036854775808 ≤ kk - 1 := by omega
      have b2 : kk + 1 ≤ 9223372036854775807 := by omega
      have b3 : -9223372036854775808 ≤ kk + 1 := by omega
      have b4 : kk - 1 ≤ 9223372036854775807 := by omega
      have b5 : -9223372036854775808 ≤ (kk + 1) * 65536 - low := by omega
      have b6 : (kk + 1) * 65536 - low ≤ 9223372036854775807 := by omega
      have hof : ofI (kk + 1) = (kk + 1) * 65536 := ofI_id (by omega) (by omega)
      have HOF := Lib.hid hof
      by_cases hlt : i < (layD low dd).length
      · have c1 : (layD low dd)[i]? = some (kk, (kk + 1) * 65536 - low) := by rw [layD_at hlt, hkk]; congr 2; omega
        have C1 := Lib.hid c1
        have HI := Lib.hid hlt
        rw [HLEN.out] at hlt
        have hlt2 : (kk + 1) * 65536 > low + dd := by omega
        clear hlt c1 hi2 hof hkk
        have hw : IntKind.i64.wrap (low + dd) = low + dd := IntWalk.i64_in _ (by omega)
        have hw2 : IntKind.i64.wrap (kk + 1) = kk + 1 := IntWalk.i64_in _ (by omega)
        gi_wp2
        refine wpIn_wide.2 ?_
        refine wp_sched [0, 0, 0, 0, 0, 0, 0] (fun _ _ _ => True) (by kernel_rfl) (by kernel_rfl) (fun _ _ _ _ h _ => h) ?_
        repeat (first | (refine wpQs_s ?_) | (refine wpQs_q (fun K hK => ?_); go_simp; first | (refine hK _ ?_; clear hK K) | (apply Exists.intro; refine ⟨fun _ => ?_, hK _ ?_⟩; (exact of_b _ _ HOF.out _); clear hK K)) | (refine wpQs_f (fun K hK => ?_); go_simp; refine hK _ ?_; clear hK K))
        refine wpQs_nil ?_
        repeat (first | (refine wpLs_skip ?_) | (refine wpLs_one ?lsA (fun v_ => ?_); case lsA => (intro w_ hw_ hp_; (fail))))
        refine wpLs_nilB ?_
        simp only [tails]
        intro W2 k2 _
        have HJ := Lib.hid (And.intro (hJ _ _ _ _ hj (Kept.of_below k2)) (Nat.le_trans hsz2.out k2.size))
        clear d0 hj
        simp only [wpList, Exit.then]
        go_at_K
        gi_wp2_with (refine ⟨trivial, ?_⟩; gi_at_call 244; refine (callsIn_wide.2 (of_b _ _ HOF.out _)).mono ?_; rintro e_ w3 ⟨rfl, k3⟩; obtain ⟨hj, hs2⟩ := HJ.out; have hs3 := Nat.le_trans hs2 k3.size; replace hD := (hD.on k2).on k3; obtain ⟨fn, tmps, assign, body, hy', hR⟩ := hY W1.heap.size i _ w3 hsz hs3 C1.out (hJ _ _ _ _ hj (Kept.of_below k3)))
        refine hR.mono ?_
        rintro e_ W3 (⟨rfl, hj3, hk3⟩ | ⟨rfl, hjx3⟩)
        · replace hD := hk3.blk (.inr (.inr (.inr rfl))) hD
          have hsz3 := Lib.hid (Nat.le_trans hs3 hk3.size)
          gi_wp2
          go_roundw
          case rel => exact ⟨kk - 1, i + 1, rfl, Lib.hid (by have := hkk0.out; omega), HI.out, hD, hsz3.out, hj3⟩
          case measure => have := hkk0.out; have := HI.out; rw [HLEN.out] at this; simp [intOf]; omega
        · gi_wp2
          refine bodyPost_ret (results_none rfl _ _ _) rfl ?_
          exact ⟨⟨_, rfl⟩, W1.heap.size, hsz, .inr ⟨i, by rw [HLO.out, HTO.out, HLS.out]; exact HI.out, hjx3⟩⟩
      · have hin : i = (layD low dd).length := Nat.le_antisymm hi.out (Nat.le_of_not_lt hlt)
        have hlt2 : ¬ (kk + 1) * 65536 > low + dd := by rw [HLEN.out] at hin; omega
        have hw : IntKind.i64.wrap (low + dd) = low + dd := IntWalk.i64_in _ (by omega)
        have hw2 : IntKind.i64.wrap (kk + 1) = kk + 1 := IntWalk.i64_in _ (by omega)
        have HI := Lib.hid hin
        clear hlt hi2 hof hkk hin
        gi_wp2
        refine wpIn_wide.2 ?_
        refine wp_sched [0, 0, 0, 0, 0, 0, 0] (fun _ _ _ => True) (by kernel_rfl) (by kernel_rfl) (fun _ _ _ _ h _ => h) ?_
        repeat (first | (refine wpQs_s ?_) | (refine wpQs_q (fun K hK => ?_); go_simp; first | (refine hK _ ?_; clear hK K) | (apply Exists.intro; refine ⟨fun _ => ?_, hK _ ?_⟩; (exact of_b _ _ HOF.out _); clear hK K)) | (refine wpQs_f (fun K hK => ?_); go_simp; refine hK _ ?_; clear hK K))
        refine wpQs_nil ?_
        repeat (first | (refine wpLs_skip ?_) | (refine wpLs_one ?lsA (fun v_ => ?_); case lsA => (intro w_ hw_ hp_; (fail))))
        refine wpLs_nilB ?_
        simp only [tails]
        intro W2 k2 _
        have HJ := Lib.hid (hJ _ _ _ _ hj (Kept.of_below k2))
        clear d0 hj
        simp only [wpList, Exit.then]
        go_at_K
        gi_wp2
        go_end0
        exact ⟨⟨_, rfl⟩, W1.heap.size, hsz, .inl (by rw [HLO.out, HTO.out, HLS.out, ← HI.out]; exact HJ.out)⟩
end Go.Proofs.YtmbccnioijokfaaGreatDoor

namespace Go.Proofs.YtmbccnioijokfaaGreatDoor
open Go.RowKit Go.Shelf
attribute [local go_sem] Oper.semAt_some
abbrev bV6 (a b c d e f : Int) : Array Value := #[.int .i64 a, .int .i64 b, .int .i64 c, .int .i64 d, .int .i64 e, .int .i64 f]
set_option maxRecDepth 100000 in
set_option maxHeartbeats 4000000 in
theorem layer_c (a b c d e f axis k : Int) (h1 : -2147483648 ≤ k) (h2 : k + 1 ≤ 2147483648) (w : World) : Calls Tryz.prog 356 #[.agg #[.int .i64 a, .int .i64 b, .int .i64 c, .int .i64 d, .int .i64 e, .int .i64 f], .int .i64 axis, .int .i64 k] w fun r w' =>
    r = .returned (.agg #[.int .i64 (wiI a axis 0 (k * 65536)), .int .i64 (wiI b axis 1 (k * 65536)), .int .i64 (wiI c axis 2 (k * 65536)), .int .i64 (wiI d axis 0 (k * 65536 + 65536)), .int .i64 (wiI e axis 1 (k * 65536 + 65536)), .int .i64 (wiI f axis 2 (k * 65536 + 65536))]) ∧ Below w.heap.size w w' := by
  have hw : IntKind.i64.wrap (k + 1) = k + 1 := IntWalk.i64_in _ (by omega)
  have o1 : ofI k = k * 65536 := ofI_id (by omega) (by omega)
  have o2 : ofI (k + 1) = k * 65536 + 65536 := by rw [ofI_id (by omega) (by omega)]; omega
  have O := Lib.hid (And.intro o1 o2)
  clear o1 o2 h1 h2
  have U : Blk ((w.alloc (.cells (bV6 a b c d e f) 210)).alloc (.cells (bV6 0 0 0 0 0 0) 210)) w.heap.size 210 (bV6 a b c d e f) := (Blk.new' rfl).alloc _
  have R0 : Blk ((w.alloc (.cells (bV6 a b c d e f) 210)).alloc (.cells (bV6 0 0 0 0 0 0) 210)) (w.heap.size + 1) 210 (bV6 0 0 0 0 0 0) := Blk.new' (by simp)
  obtain ⟨k0, k1, k2, k3, k4, k5⟩ := U.re6
  go_enter Tryz.func356, Tryz.ntmps356
  go_upto_region 1 with (fail)
  refine wp_region_last_below 14 (by kernel_rfl) rfl (by kernel_rfl) ?_
  simp only [List.take_succ_cons, List.take_zero, List.drop_succ_cons, List.drop_zero]
  repeat (go_big_quiet_step (first | exact Calls.regrown_of (of_b _ _ O.out.1 _) | exact Calls.regrown_of (of_b _ _ O.out.2 _) | exact Calls.regrown_of (with_c _ _ _ _ _ _)))
  refine wpQuiet_nil ?_
  intro w' hw'
  obtain ⟨rg, rfl⟩ := hw'
  have R := R0.re rg.d rg.os
  obtain ⟨⟨r0, r1, r2, r3, r4, r5⟩, s0, s1, s2, s3, s4, s5⟩ := R.c6
  go_wp2_with fail
  have R2 := R.st6 (.int .i64 (wiI a axis 0 (k * 65536))) (.int .i64 (wiI b axis 1 (k * 65536))) (.int .i64 (wiI c axis 2 (k * 65536))) (.int .i64 (wiI d axis 0 (k * 65536 + 65536))) (.int .i64 (wiI e axis 1 (k * 65536 + 65536))) (.int .i64 (wiI f axis 2 (k * 65536 + 65536)))
  obtain ⟨⟨d0, d1, d2, d3, d4, d5⟩, -, -, -, -, -, -⟩ := R2.c6
  exact bodyPost_ret (v := .agg #[.int .i64 (wiI a axis 0 (k * 65536)), .int .i64 (wiI b axis 1 (k * 65536)), .int .i64 (wiI c axis 2 (k * 65536)), .int .i64 (wiI d axis 0 (k * 65536 + 65536)), .int .i64 (wiI e axis 1 (k * 65536 + 65536)), .int .i64 (wiI f axis 2 (k * 65536 + 65536))]) (by simp [results, Tryz.results356, go_sem, d0, d1, d2, d3, d4, d5]) rfl ⟨rfl, by (repeat' (first | (with_reducible exact Below.refl _ _) | (with_reducible assumption) | (with_reducible refine Below.alloc ?_ ?_ _) | (with_reducible refine Below.drew ?_) | (with_reducible refine Below.setCell ?_ ?_ _) | (with_reducible refine after ?_ (below_regrown _ _ _)) | (refine after ?_ (by with_reducible assumption)) | go_size))⟩
theorem leave_none {F : Fence} {n : Nat} {P : Program} {fn : Func} {R : Ending → World → Prop} {tmps : Array Value} {w : World} {v : Value} (hv : (results fn tmps).run P w = .ok v w) (hR : R (.returned v) w) : bodyPostM F n P fn R .ret { tmps := tmps, defers := [] } w := ⟨v, hv, hR⟩
def axT (p : Int × Bool) : Value := .tuple #[.int .i64 p.1, .bool p.2]
set_option maxRecDepth 100000 in
set_option maxHeartbeats 8000000 in
theorem saxis_c (V : FuncId) (lv : Value) (val : Cl → Int) (a b c d e f axis dd M : Int) (hM : M ≤ 72000000000000) (hM0 : 0 ≤ M) (hB : Sm M a b c d e f) (w : World)
    (eV : ∀ args w, (callFunc V args).run Tryz.prog w = .ok (.enter V args) w) (hV : Tells Tryz.prog V lv val w) :
    Calls Tryz.prog 341 #[.func (.func V) #[lv] #[], .agg #[.int .i64 a, .int .i64 b, .int .i64 c, .int .i64 d, .int .i64 e, .int .i64 f], .int .i64 axis, .int .i64 dd] w fun r w' =>
      r = .returned (axT (axisV val a b c d e f axis dd)) ∧ Below w.heap.size w w' := by
  have HV := Lib.hid hV
  clear hV
  obtain ⟨W, hW⟩ : ∃ W, W = ((((w.alloc (.cells #[.func (.func V) #[lv] #[]] 74)).alloc (.cells #[.int .i64 a, .int .i64 b, .int .i64 c, .int .i64 d, .int .i64 e, .int .i64 f] 210)).alloc (.cells #[.int .i64 axis] 3)).alloc (.cells #[.int .i64 0] 3)).alloc (.cells #[.bool false] 4) := ⟨_, rfl⟩
  have H : Below w.heap.size w W := by rw [hW]; go_grown
  have b0 : Blk W w.heap.size 74 #[.func (.func V) #[lv] #[]] := by rw [hW]; exact ((((Blk.new' rfl).alloc _).alloc _).alloc _).alloc _
  have b1 : Blk W (w.heap.size + 1) 210 #[.int .i64 a, .int .i64 b, .int .i64 c, .int .i64 d, .int .i64 e, .int .i64 f] := by rw [hW]; exact (((Blk.new' (by simp)).alloc _).alloc _).alloc _
  have b2 : Blk W (w.heap.size + 1 + 1) 3 #[.int .i64 axis] := by rw [hW]; exact ((Blk.new' (by simp)).alloc _).alloc _
  have b3 : Blk W (w.heap.size + 1 + 1 + 1) 3 #[.int .i64 0] := by rw [hW]; exact (Blk.new' (by simp)).alloc _
  have b4 : Blk W (w.heap.size + 1 + 1 + 1 + 1) 4 #[.bool false] := by rw [hW]; exact Blk.new' (by simp)
  have hs : W.heap.size = w.heap.size + 5 := by rw [hW]; simp
  obtain ⟨N, hN⟩ : ∃ N, N = w.heap.size := ⟨_, rfl⟩
  rw [← hN] at b0 b1 b2 b3 b4 hs
  have hmn := @run_mn Tryz.prog
  have hmx := @run_mx Tryz.prog
  refine (callsIn_wide (n := 5)).1 (callsIn_of_wp_marks Tryz.func341 rfl trivial ?_ rfl)
  refine wpIn_wide.2 ?_
  simp only [Tryz.ntmps341, List.size_toArray, List.length_cons, List.length_nil, Nat.reduceAdd, Nat.reduceSub, Array.replicate_succ, Array.replicate_zero, List.push_toArray, List.append_toArray, List.nil_append, List.cons_append]
  go_upto_region 1 with (fail)
  rw [← hW, ← hN]
  have HN := Lib.hid hN
  have HS0 := Lib.hid hs
  clear hW hN hs
  have g0 := b2.cell 0
  by_cases hax : axis < 0 ∨ 3 ≤ axis
  · have hv : axisV val a b c d e f axis dd = (0, false) := by unfold axisV; rw [if_pos hax]
    have HVV := Lib.hid hv
    clear hv
    obtain ⟨r0, f0⟩ := b3.c1
    obtain ⟨s0, q0⟩ := b4.c1
    have e3 := (b3.set_ 0 (.int .i64 0)).far (p := ⟨N + 1 + 1 + 1 + 1, 0, none⟩) (by dsimp only; omega) (.bool false)
    have e4 := (b4.far (p := ⟨N + 1 + 1 + 1, 0, none⟩) (by dsimp only; omega) (.int .i64 0)).set_ 0 (.bool false)
    obtain ⟨d0, -⟩ := e3.c1
    obtain ⟨d1, -⟩ := e4.c1
    have HH := Lib.hid ((H.setCell (p := ⟨N + 1 + 1 + 1, 0, none⟩) (by rw [← HN.out]; dsimp only; omega) (.int .i64 0)).setCell (p := ⟨N + 1 + 1 + 1 + 1, 0, none⟩) (by rw [← HN.out]; dsimp only; omega) (.bool false))
    clear e3 e4 H b0 b1 b2 b3 b4
    rcases hax with hax | hax
    all_goals
      go_wp2_with fail
      refine leave_none (v := axT (0, false)) (by simp [results, Tryz.f341, go_sem, axT, d0, d1]) ⟨by rw [HVV.out], HH.out⟩
  · obtain ⟨x1, x2⟩ : 0 ≤ axis ∧ axis < 3 := by omega
    have y1 : ¬ axis < 0 := by omega
    have y2 : ¬ 3 ≤ axis := by omega
    have hv : axisV val a b c d e f axis dd = axV (lyB val a b c d e f axis) (axI a b c axis) (axI d e f axis) (farI dd) := by unfold axisV; rw [if_neg hax]
    have HVV := Lib.hid hv
    clear hv hax
    go_upto_region 4 with (fail)
    have hfe : mnI (mxI dd (-4194304)) 4194304 = farI dd := rfl
    rw [hfe]
    clear hfe
    obtain ⟨fb1, fb2⟩ := farI_bd dd
    generalize farI dd = df at HVV fb1 fb2 ⊢
    obtain ⟨a0, a1, a2, a3, a4, a5⟩ := b1.c6.1
    go_wp2_with (go_at_call 355; refine (layers_c _ _ _ _ _ _ _ _ _).mono ?_; rintro e_ w1 ⟨rfl, rfl⟩)
    generalize hV : World.alloc (World.alloc (World.alloc W _) _) _ = W1
    have c1 : Blk W1 W.heap.size 210 #[.int .i64 a, .int .i64 b, .int .i64 c, .int .i64 d, .int .i64 e, .int .i64 f] := Blk.eqw hV (((Blk.new' rfl).alloc _).alloc _)
    have c2 : Blk W1 (W.heap.size + 1) 3 #[.int .i64 axis] := Blk.eqw hV ((Blk.new' (by simp)).alloc _)
    have c3 : Blk W1 (W.heap.size + 1 + 1) 3 #[.int .i64 df] := Blk.eqw hV (Blk.new' (by simp))
    replace b0 := Blk.eqw hV (((b0.alloc _).alloc _).alloc _)
    replace b1 := Blk.eqw hV (((b1.alloc _).alloc _).alloc _)
    replace b2 := Blk.eqw hV (((b2.alloc _).alloc _).alloc _)
    replace b3 := Blk.eqw hV (((b3.alloc _).alloc _).alloc _)
    replace b4 := Blk.eqw hV (((b4.alloc _).alloc _).alloc _)
    have H1 : Below w.heap.size w W1 := by
      have := H.size
      rw [← hV]; exact ((H.alloc H.size _).alloc (by simp; omega) _).alloc (by simp; omega) _
    have hs1 : W1.heap.size = N + 8 := by rw [← hV]; simp [HS0.out]
    rw [HS0.out] at c1 c2 c3 ⊢
    clear hV a0 a1 a2 a3 a4 a5 g0 H
    have HS := Lib.hid hs1
    clear hs1 HS0
    have hit := lay_it (N + 5) (N + 5 + 1) (N + 5 + 1 + 1) a b c d e f axis df M (by omega) hM0 hB fb1 fb2 W1 c1 c2 c3
    have hbd := axI_sm (axis := axis) hB hM0
    generalize axI a b c axis = low at HVV hit hbd
    generalize axI d e f axis = top at HVV hit hbd
    have HBD := Lib.hid hbd
    have HFB := Lib.hid (And.intro fb1 fb2)
    have HSM := Lib.hid hB
    have HM := Lib.hid (And.intro hM hM0)
    have C1 := Lib.hid c1
    have hcap : ∀ x, (x = N + 5 ∨ x = N + 5 + 1 ∨ x = N + 5 + 1 + 1) → x < W1.heap.size := fun x hx => by rw [HS.out]; omega
    have HCAP := Lib.hid hcap
    clear hbd fb1 fb2 hB hM hM0 c1 c2 c3
    refine wp_range (m := 3) (gf := 362) (lb := #[.pointer (some ⟨N + 5, 0, none⟩), .pointer (some ⟨N + 5 + 1, 0, none⟩), .pointer (some ⟨N + 5 + 1 + 1, 0, none⟩)]) rfl (enters_of Tryz.func362 (by kernel_rfl) rfl) hit hcap (fun _ => rfl)
      (fun Z i A => Hid (∀ j x, j < i → (lays low top df)[j]? = some x → lyB val a b c d e f axis x.1 = false) ∧ Blk A N 74 #[.func (.func V) #[lv] #[]] ∧ Blk A (N + 1) 210 #[.int .i64 a, .int .i64 b, .int .i64 c, .int .i64 d, .int .i64 e, .int .i64 f] ∧ Blk A (N + 1 + 1) 3 #[.int .i64 axis] ∧ Blk A (N + 1 + 1 + 1) 3 #[.int .i64 0] ∧ Blk A (N + 1 + 1 + 1 + 1) 4 #[.bool false] ∧ Below w.heap.size w A)
      (fun Z k i A => k = .ret ∧ Hid (∀ j x, j < i → (lays low top df)[j]? = some x → lyB val a b c d e f axis x.1 = false) ∧ ∃ x, Hid ((lays low top df)[i]? = some x ∧ lyB val a b c d e f axis x.1 = true) ∧ Blk A (N + 1 + 1 + 1) 3 #[.int .i64 x.2] ∧ Blk A (N + 1 + 1 + 1 + 1) 4 #[.bool true] ∧ Below w.heap.size w A)
      ?_ ?_ (fun Z => ⟨fun j x h => by omega, b0, b1, b2, b3, b4, H1⟩) ?round ?done ?stop
    · rintro Z i A B ⟨h1, h2, h3, h4, h5, h6, h7⟩ hk
      have lt : ∀ n, n < 8 → ¬ Priv W1.heap.size Z (N + n) := fun n hn h => by have := h.1; rw [HS.out] at this; omega
      exact ⟨h1, hk.blk (lt 0 (by omega)) h2, hk.blk (lt 1 (by omega)) h3, hk.blk (lt 2 (by omega)) h4, hk.blk (lt 3 (by omega)) h5, hk.blk (lt 4 (by omega)) h6, h7.trans (hk.below h7.size (fun b hb h => by have := h.1; rw [HS.out] at this; rw [← HN.out] at hb; omega))⟩
    · rintro Z k i A B ⟨h1, h2, x, h3, h4, h5, h6⟩ hk
      have lt : ∀ n, n < 8 → ¬ Priv W1.heap.size Z (N + n) := fun n hn h => by have := h.1; rw [HS.out] at this; omega
      exact ⟨h1, h2, x, h3, hk.blk (lt 3 (by omega)) h4, hk.blk (lt 4 (by omega)) h5, h6.trans (hk.below h6.size (fun b hb h => by have := h.1; rw [HS.out] at this; rw [← HN.out] at hb; omega))⟩
    case round =>
      rintro Z l i x A rfl hZ1 hZ2 hx ⟨h1, h2, h3, h4, h5, h6, h7⟩
      clear b0 b1 b2 b3 b4 H1 hit hcap
      gi_wp2
      refine ⟨Kept.refl _ _, fun A2 hA2 hz2 => ?_⟩
      have hs1 := HS.out
      have keep : ∀ n t cs, n < 8 → Blk A (N + n) t cs → Blk A2 (N + n) t cs := fun n t cs hn h => hA2.blk (show N + n ≠ W1.heap.size + 1 by omega) h
      replace h2 : Blk A2 N 74 _ := keep 0 _ _ (by omega) h2
      replace h3 := keep 1 _ _ (by omega) h3
      replace h4 := keep 2 _ _ (by omega) h4
      replace h5 := keep 3 _ _ (by omega) h5
      replace h6 := keep 4 _ _ (by omega) h6
      replace h7 : Below w.heap.size w A2 := h7.trans (hA2.below h7.size (fun b hb => by rw [← HN.out] at hb; omega))
      have hmem := mem_lays (k := x.1) (w := x.2) (low := low) (top := top) (d := df) (List.mem_of_getElem? hx)
      have hbd := HBD.out
      have hfb := HFB.out
      have hmm := HM.out
      have k1 : -2147483648 ≤ x.1 := by omega
      have k2 : x.1 + 1 ≤ 2147483648 := by omega
      have hsm := HSM.out.layer (axis := axis) (k := x.1) (by omega) (by omega) (by omega)
      have hbox := hsm.box (by omega)
      have HLY := Lib.hid fun W => layer_c a b c d e f axis x.1 k1 k2 W
      have hP := fun W (h : Below w.heap.size w W) => pmBlocked_c V lv val _ _ _ _ _ _ hbox W eV (HV.out.on h)
      have hP2 : ∀ dr os, Calls Tryz.prog 137 #[.func (.func V) #[lv] #[], .agg #[.int .i64 (wiI a axis 0 (x.1 * 65536)), .int .i64 (wiI b axis 1 (x.1 * 65536)), .int .i64 (wiI c axis 2 (x.1 * 65536)), .int .i64 (wiI d axis 0 (x.1 * 65536 + 65536)), .int .i64 (wiI e axis 1 (x.1 * 65536 + 65536)), .int .i64 (wiI f axis 2 (x.1 * 65536 + 65536))]] (Go.Sort.grow (redrawn A2 dr) os) fun r W' => r = .returned (.bool (lyB val a b c d e f axis x.1)) ∧ Below (Go.Sort.grow (redrawn A2 dr) os).heap.size (Go.Sort.grow (redrawn A2 dr) os) W' := fun dr os =>
        hP _ (h7.trans ((below_regrown A2 dr os).mono h7.size))
      have HX := Lib.hid hx
      have H1 := Lib.hid h1
      have HZ := Lib.hid (And.intro hZ1 hZ2)
      have HA2 := Lib.hid hz2
      clear hA2 hz2 keep hx h1 hZ1 hZ2 hs1 hmem hbd hfb hmm k1 k2 hsm hbox hP
      have g0 := fun d os => (h2.re d os).cell 0
      have g2 := fun d os => (h4.re d os).cell 0
      obtain ⟨x0, x1, x2, x3, x4, x5⟩ := h3.re6
      cases hp : lyB val a b c d e f axis x.1
      · rw [hp] at hP2
        have HP := Lib.hid hp
        replace hP2 := Lib.hid hP2
        clear hp
        gi_wp2
        refine in_sched [0, 0, 0, 0, 0, 0] (fun _ _ _ => True) (by kernel_rfl) (by kernel_rfl) (fun _ _ _ _ h _ => h) (by kernel_rfl) (fun ⟨_, _, h⟩ => h) ?_
        repeat (first | (refine wpQs_s ?_) | (refine wpQs_q (fun K hK => ?_); go_simp; first | (refine hK _ ?_; clear hK K) | (apply Exists.intro; refine ⟨fun _ => ?_, hK _ ?_⟩; (first | exact HLY.out _ | exact hP2.out _ _); clear hK K)) | (refine wpQs_f (fun K hK => ?_); go_simp; refine hK _ ?_; clear hK K))
        refine wpQs_nil ?_
        repeat (first | (refine wpLs_skip ?_) | (refine wpLs_one ?lsA (fun v_ => ?_); case lsA => (intro w_ hw_ hp_; (fail))))
        refine wpLs_nilB ?_
        simp only [tails]
        intro w3 k7 _
        clear g0 g2 x0 x1 x2 x3 x4 x5
        simp only [wpList, Exit.then]
        go_at_K
        gi_wp2
        exact ⟨Kept.of_below k7, fun j y hj hy => (by
          rcases Nat.lt_or_eq_of_le (Nat.le_of_lt_succ hj) with e | e
          · exact H1.out j y e hy
          · subst e; rw [HX.out] at hy; obtain rfl := Option.some.inj hy; exact HP.out), h2.on k7, h3.on k7, h4.on k7, h5.on k7, h6.on k7, after h7 k7⟩
      · rw [hp] at hP2
        have HP := Lib.hid hp
        replace hP2 := Lib.hid hP2
        clear hp
        gi_wp2
        refine in_sched [0, 0, 0, 0, 0, 0] (fun _ _ _ => True) (by kernel_rfl) (by kernel_rfl) (fun _ _ _ _ h _ => h) (by kernel_rfl) (fun ⟨_, _, h⟩ => h) ?_
        repeat (first | (refine wpQs_s ?_) | (refine wpQs_q (fun K hK => ?_); go_simp; first | (refine hK _ ?_; clear hK K) | (apply Exists.intro; refine ⟨fun _ => ?_, hK _ ?_⟩; (first | exact HLY.out _ | exact hP2.out _ _); clear hK K)) | (refine wpQs_f (fun K hK => ?_); go_simp; refine hK _ ?_; clear hK K))
        refine wpQs_nil ?_
        repeat (first | (refine wpLs_skip ?_) | (refine wpLs_one ?lsA (fun v_ => ?_); case lsA => (intro w_ hw_ hp_; (fail))))
        refine wpLs_nilB ?_
        simp only [tails]
        intro w3 k7 _
        clear g0 g2 x0 x1 x2 x3 x4 x5
        replace h5 := h5.on k7
        replace h6 := h6.on k7
        obtain ⟨r0, f0⟩ := h5.c1
        obtain ⟨s0, q0⟩ := h6.c1
        simp only [wpList, Exit.then]
        go_at_K
        gi_wp2
        have hs1 := HS.out
        have n3 : ¬ Keeps W1.heap.size Z (fun x => x = N + 5 ∨ x = N + 5 + 1 ∨ x = N + 5 + 1 + 1) (N + 1 + 1 + 1) := fun h => by rcases h with h | h | h | h; exact absurd h.1 (by omega); all_goals omega
        have n4 : ¬ Keeps W1.heap.size Z (fun x => x = N + 5 ∨ x = N + 5 + 1 ∨ x = N + 5 + 1 + 1) (N + 1 + 1 + 1 + 1) := fun h => by rcases h with h | h | h | h; exact absurd h.1 (by omega); all_goals omega
        refine ⟨((Kept.of_below k7).setCell (p := ⟨N + 1 + 1 + 1, 0, none⟩) n3 _).setCell (p := ⟨N + 1 + 1 + 1 + 1, 0, none⟩) n4 _, rfl, H1.out, x, ⟨HX.out, HP.out⟩,
          (h5.set_ 0 _).far (p := ⟨N + 1 + 1 + 1 + 1, 0, none⟩) (by dsimp only; omega) _, (h6.far (p := ⟨N + 1 + 1 + 1, 0, none⟩) (by dsimp only; omega) _).set_ 0 _, ?_⟩
        replace h7 := after h7 k7
        rw [← HN.out] at h7 ⊢
        exact (h7.setCell (p := ⟨N + 1 + 1 + 1, 0, none⟩) (by dsimp only; omega) _).setCell (p := ⟨N + 1 + 1 + 1 + 1, 0, none⟩) (by dsimp only; omega) _
    case done =>
      rintro Z A ⟨h1, -, -, -, h5, h6, h7⟩ hK
      clear b0 b1 b2 b3 b4 H1 hit hcap
      obtain ⟨r0, f0⟩ := h5.c1
      obtain ⟨s0, q0⟩ := h6.c1
      have HK := Lib.hid hK
      clear hK
      go_wp2_with fail
      have hs1 := HS.out
      have hf : axV (lyB val a b c d e f axis) low top df = (df, false) := by unfold axV; rw [find_no h1.out]
      have e3 := ((h5.set_ 0 (.int .i64 df)).far (p := ⟨N + 1 + 1 + 1 + 1, 0, none⟩) (by dsimp only; omega) (.bool false)).putObj (D := W1.heap.size) (by omega) (.deferred none)
      have e4 := ((h6.far (p := ⟨N + 1 + 1 + 1, 0, none⟩) (by dsimp only; omega) (.int .i64 df)).set_ 0 (.bool false)).putObj (D := W1.heap.size) (by omega) (.deferred none)
      obtain ⟨d0, -⟩ := e3.c1
      obtain ⟨d1, -⟩ := e4.c1
      have hK' := def_far (p := ⟨N + 1 + 1 + 1 + 1, 0, none⟩) (u := .bool false) (def_far (p := ⟨N + 1 + 1 + 1, 0, none⟩) (u := .int .i64 df) HK.out (by dsimp only; omega)) (by dsimp only; omega)
      refine leave_mark hK' (v := axT (df, false)) (by simp [results, Tryz.f341, go_sem, axT, d0, d1]) ⟨by rw [HVV.out, hf], ?_⟩
      rw [← HN.out] at h7 ⊢
      exact putObj_below ((h7.setCell (p := ⟨N + 1 + 1 + 1, 0, none⟩) (by dsimp only; omega) _).setCell (p := ⟨N + 1 + 1 + 1 + 1, 0, none⟩) (by dsimp only; omega) _) (by omega) _
    case stop =>
      rintro Z k i A hi ⟨rfl, h1, x, hx, h5, h6, h7⟩ hK
      clear b0 b1 b2 b3 b4 H1 hit hcap
      obtain ⟨r0, f0⟩ := h5.c1
      obtain ⟨s0, q0⟩ := h6.c1
      have HK := Lib.hid hK
      clear hK
      go_wp2_with fail
      have hs1 := HS.out
      have hf : axV (lyB val a b c d e f axis) low top df = (x.2, true) := by unfold axV; rw [find_at hx.out.1 hx.out.2 h1.out]
      obtain ⟨d0, -⟩ := (h5.putObj (D := W1.heap.size) (by omega) (.deferred none)).c1
      obtain ⟨d1, -⟩ := (h6.putObj (D := W1.heap.size) (by omega) (.deferred none)).c1
      refine leave_mark HK.out (v := axT (x.2, true)) (by simp [results, Tryz.f341, go_sem, axT, d0, d1]) ⟨by rw [HVV.out, hf], ?_⟩
      rw [← HN.out] at h7 ⊢
      exact putObj_below h7 (by omega) _
end Go.Proofs.YtmbccnioijokfaaGreatDoor

namespace Go.Proofs.YtmbccnioijokfaaGreatDoor
open Go.RowKit
attribute [local go_sem] Oper.semAt_some
theorem Owns.mono {w : World} {base base' : Nat} {e : TypeId} {size : Nat} {α : Type} {enc : α → List Value} {v : Value} {xs : List α} (h : Owns w base e size enc v xs) (hb : base' ≤ base) : Owns w base' e size enc v xs := by
  refine ⟨h.1, ?_⟩
  rcases h.2 with h0 | ⟨g, cap, cur, hv, hbg, r⟩
  · exact .inl h0
  · exact .inr ⟨g, cap, cur, hv, by omega, r⟩
end Go.Proofs.YtmbccnioijokfaaGreatDoor

namespace Go.Proofs.YtmbccnioijokfaaGreatDoor
open Go.RowKit Go.Shelf
attribute [local go_sem] Oper.semAt_some
set_option maxRecDepth 100000 in
set_option maxHeartbeats 2000000 in
theorem smove_c (a b c d e f x y z : Int) (w : World) : Calls Tryz.prog 342 #[.agg #[.int .i64 a, .int .i64 b, .int .i64 c, .int .i64 d, .int .i64 e, .int .i64 f], .agg #[.int .i64 x, .int .i64 y, .int .i64 z]] w fun r w' => r = .returned (.agg #[.int .i64 (addI a x), .int .i64 (addI b y), .int .i64 (addI c z), .int .i64 (addI d x), .int .i64 (addI e y), .int .i64 (addI f z)]) ∧ Below w.heap.size w w' := by
  have U : Blk (((w.alloc (.cells (bV6 a b c d e f) 210)).alloc (.cells #[.int .i64 x, .int .i64 y, .int .i64 z] 38)).alloc (.cells (bV6 0 0 0 0 0 0) 210)) w.heap.size 210 (bV6 a b c d e f) := ((Blk.new' rfl).alloc _).alloc _
  have V : Blk (((w.alloc (.cells (bV6 a b c d e f) 210)).alloc (.cells #[.int .i64 x, .int .i64 y, .int .i64 z] 38)).alloc (.cells (bV6 0 0 0 0 0 0) 210)) (w.heap.size + 1) 38 #[.int .i64 x, .int .i64 y, .int .i64 z] := (Blk.new' (by simp)).alloc _
  have R0 : Blk (((w.alloc (.cells (bV6 a b c d e f) 210)).alloc (.cells #[.int .i64 x, .int .i64 y, .int .i64 z] 38)).alloc (.cells (bV6 0 0 0 0 0 0) 210)) (w.heap.size + 1 + 1) 210 (bV6 0 0 0 0 0 0) := Blk.new' (by simp)
  obtain ⟨k0, k1, k2, k3, k4, k5⟩ := U.re6
  obtain ⟨l0, l1, l2⟩ := V.re3
  go_enter Tryz.func342, Tryz.ntmps342
  go_wp2_with fail
  refine wp_region_last_below 9 (by kernel_rfl) rfl (by kernel_rfl) ?_
  simp only [List.take_succ_cons, List.take_zero, List.drop_succ_cons, List.drop_zero]
  repeat (go_big_quiet_step (exact Calls.regrown_of (add_c _ _ _ _ _ _ _)))
  refine wpQuiet_nil ?_
  intro w' hw'
  obtain ⟨rg, rfl⟩ := hw'
  have R := R0.re rg.d rg.os
  obtain ⟨⟨r0, r1, r2, r3, r4, r5⟩, s0, s1, s2, s3, s4, s5⟩ := R.c6
  go_wp2_with fail
  have R2 := R.st6 (.int .i64 (addI a x)) (.int .i64 (addI b y)) (.int .i64 (addI c z)) (.int .i64 (addI d x)) (.int .i64 (addI e y)) (.int .i64 (addI f z))
  obtain ⟨⟨d0, d1, d2, d3, d4, d5⟩, -, -, -, -, -, -⟩ := R2.c6
  exact bodyPost_ret (v := .agg #[.int .i64 (addI a x), .int .i64 (addI b y), .int .i64 (addI c z), .int .i64 (addI d x), .int .i64 (addI e y), .int .i64 (addI f z)]) (by simp [results, Tryz.results342, go_sem, d0, d1, d2, d3, d4, d5]) rfl ⟨rfl, by (repeat' (first | (with_reducible exact Below.refl _ _) | (with_reducible assumption) | (with_reducible refine Below.alloc ?_ ?_ _) | (with_reducible refine Below.drew ?_) | (with_reducible refine Below.setCell ?_ ?_ _) | (with_reducible refine after ?_ (below_regrown _ _ _)) | (refine after ?_ (by with_reducible assumption)) | go_size))⟩
end Go.Proofs.YtmbccnioijokfaaGreatDoor

namespace Go.Proofs.YtmbccnioijokfaaGreatDoor
open Go.RowKit Go.Shelf
attribute [local go_sem] Oper.semAt_some
def alT (p : B6 × Bool) : Value := .tuple #[.agg (ag6 p.1), .bool p.2]
set_option maxRecDepth 100000 in
set_option maxHeartbeats 4000000 in
theorem palong_c (V : FuncId) (lv : Value) (val : Cl → Int) (x : B6) (axis dd M : Int) (hM : M ≤ 72000000000000) (hM0 : 0 ≤ M) (hB : Sm6 M x) (w : World)
    (eV : ∀ args w, (callFunc V args).run Tryz.prog w = .ok (.enter V args) w) (hV : Tells Tryz.prog V lv val w) :
    Calls Tryz.prog 314 #[.func (.func V) #[lv] #[], .agg (ag6 x), .int .i64 axis, .int .i64 dd] w fun r w' => r = .returned (alT (al6 (val) x axis dd)) ∧ Below w.heap.size w w' := by
  have HC := Lib.hid fun W (h : Below w.heap.size w W) => saxis_c V lv val x.1 x.2.1 x.2.2.1 x.2.2.2.1 x.2.2.2.2.1 x.2.2.2.2.2 axis dd M hM hM0 hB W eV (hV.on h)
  have hal : al6 (val) x axis dd = (mv6 x axis (ax6 (val) x axis dd).1, (ax6 (val) x axis dd).2) := rfl
  rw [hal]
  unfold ax6 mv6
  obtain ⟨a, b, c, d, e, f⟩ := x
  simp only [ag6] at HC ⊢
  generalize axisV (val) a b c d e f axis dd = r at HC ⊢
  obtain ⟨n, hit⟩ := r
  simp only [axT] at HC ⊢
  clear hV eV hM hM0 hB hal
  obtain ⟨W0, hW0⟩ : ∃ W0, W0 = ((w).alloc (.cells #[.int .i64 a, .int .i64 b, .int .i64 c, .int .i64 d, .int .i64 e, .int .i64 f] 210)).alloc (.cells #[.int .i64 0, .int .i64 0, .int .i64 0, .int .i64 0, .int .i64 0, .int .i64 0] 210) := ⟨_, rfl⟩
  have U : Blk W0 (w.heap.size) 210 _ := Blk.eqw hW0.symm ((Blk.new' (by simp)).alloc _)
  have R0 : Blk W0 (w.heap.size + 1) 210 _ := Blk.eqw hW0.symm (Blk.new' (by simp))
  have H0 : Below w.heap.size w W0 := by rw [hW0]; go_grown
  have XA : True := trivial
  go_enter Tryz.func314, Tryz.ntmps314
  go_upto_region 1 with (fail)
  rw [← hW0]
  clear hW0
  obtain ⟨u0, u1, u2, u3, u4, u5⟩ := U.c6.1
  have XB : True := trivial
  go_upto_region 2 with (go_at_call 341; refine (HC.out _ H0).mono ?_; rintro e_ w1 ⟨rfl, h1⟩)
  replace U := U.on h1
  have R := R0.on h1
  replace H0 := after H0 h1
  clear u0 u1 u2 u3 u4 u5 h1 R0 HC
  obtain ⟨u0, u1, u2, u3, u4, u5⟩ := U.re6
  refine wp_sched [0, 0, 0, 0, 0, 0, 1, 3, 3] (fun _ _ _ => True) (by kernel_rfl) (by kernel_rfl) (fun _ _ _ _ h _ => h) ?_
  repeat (first | (refine wpQs_s ?_) | (refine wpQs_q (fun K hK => ?_); go_simp; first | (refine hK _ ?_; clear hK K) | (apply Exists.intro; refine ⟨fun _ => ?_, hK _ ?_⟩; (first | exact with_c _ _ _ _ _ _ | exact smove_c _ _ _ _ _ _ _ _ _ _); clear hK K)) | (refine wpQs_f (fun K hK => ?_); go_simp; refine hK _ ?_; clear hK K))
  refine wpQs_nil ?_
  repeat (first | (refine wpLs_skip ?_) | (refine wpLs_one ?lsA (fun v_ => ?_); case lsA => (intro w_ hw_ hp_; (fail))))
  refine wpLs_nilB ?_
  simp only [tails]
  intro W2 h2 _
  clear u0 u1 u2 u3 u4 u5
  replace R := R.on h2
  replace H0 := after H0 h2
  obtain ⟨⟨r0, r1, r2, r3, r4, r5⟩, s0, s1, s2, s3, s4, s5⟩ := R.c6
  go_wp2_with fail
  have R2 := R.st6 (.int .i64 (addI a (wiI 0 axis 0 n))) (.int .i64 (addI b (wiI 0 axis 1 n))) (.int .i64 (addI c (wiI 0 axis 2 n))) (.int .i64 (addI d (wiI 0 axis 0 n))) (.int .i64 (addI e (wiI 0 axis 1 n))) (.int .i64 (addI f (wiI 0 axis 2 n)))
  obtain ⟨⟨d0, d1, d2, d3, d4, d5⟩, -, -, -, -, -, -⟩ := R2.c6
  exact bodyPost_ret (v := alT ((addI a (wiI 0 axis 0 n), addI b (wiI 0 axis 1 n), addI c (wiI 0 axis 2 n), addI d (wiI 0 axis 0 n), addI e (wiI 0 axis 1 n), addI f (wiI 0 axis 2 n)), hit)) (by simp [results, Tryz.f314, go_sem, alT, d0, d1, d2, d3, d4, d5]) rfl ⟨rfl, by (repeat' (first | (with_reducible exact Below.refl _ _) | (with_reducible assumption) | (with_reducible refine Below.alloc ?_ ?_ _) | (with_reducible refine Below.drew ?_) | (with_reducible refine Below.setCell ?_ ?_ _) | (with_reducible refine after ?_ (below_regrown _ _ _)) | (refine after ?_ (by with_reducible assumption)) | go_size))⟩
end Go.Proofs.YtmbccnioijokfaaGreatDoor

namespace Go.Proofs.YtmbccnioijokfaaGreatDoor
open Go.RowKit Go.Shelf
attribute [local go_sem] Oper.semAt_some
theorem arr3_at (a b c : Int) (w : World) : (Instr.index 361 (.agg #[.int .i64 a, .int .i64 b, .int .i64 c]) (.int .i64 0)).run Tryz.prog w = .ok (.int .i64 a) w ∧ (Instr.index 361 (.agg #[.int .i64 a, .int .i64 b, .int .i64 c]) (.int .i64 1)).run Tryz.prog w = .ok (.int .i64 b) w ∧ (Instr.index 361 (.agg #[.int .i64 a, .int .i64 b, .int .i64 c]) (.int .i64 2)).run Tryz.prog w = .ok (.int .i64 c) w := by
  refine ⟨?_, ?_, ?_⟩ <;> simp [Instr.index, asIntOf, go_sem]
theorem sx6_far {w : World} {N g : Nat} {t : TypeId} {cs : Array Value} (V : Blk w g t cs) (h : g ≠ N) (v0 v1 v2 v3 v4 v5 : Value) : Blk ((((((w.setCell ⟨N, 0, none⟩ v0).setCell ⟨N, 1, none⟩ v1).setCell ⟨N, 2, none⟩ v2).setCell ⟨N, 3, none⟩ v3).setCell ⟨N, 4, none⟩ v4).setCell ⟨N, 5, none⟩ v5) g t cs :=
  (((((V.far (p := ⟨N, 0, none⟩) h _).far (p := ⟨N, 1, none⟩) h _).far (p := ⟨N, 2, none⟩) h _).far (p := ⟨N, 3, none⟩) h _).far (p := ⟨N, 4, none⟩) h _).far (p := ⟨N, 5, none⟩) h _
theorem sx6_below {w w0 : World} {N n : Nat} (H : Below n w0 w) (h : n ≤ N) (v0 v1 v2 v3 v4 v5 : Value) : Below n w0 ((((((w.setCell ⟨N, 0, none⟩ v0).setCell ⟨N, 1, none⟩ v1).setCell ⟨N, 2, none⟩ v2).setCell ⟨N, 3, none⟩ v3).setCell ⟨N, 4, none⟩ v4).setCell ⟨N, 5, none⟩ v5) :=
  (((((H.setCell (p := ⟨N, 0, none⟩) h _).setCell (p := ⟨N, 1, none⟩) h _).setCell (p := ⟨N, 2, none⟩) h _).setCell (p := ⟨N, 3, none⟩) h _).setCell (p := ⟨N, 4, none⟩) h _).setCell (p := ⟨N, 5, none⟩) h _
set_option maxRecDepth 100000 in
set_option maxHeartbeats 8000000 in
theorem pmove_c (V : FuncId) (lv : Value) (val : Cl → Int) (x : B6) (dx dy dz M : Int) (hM : M ≤ 71500000000000) (hM0 : 0 ≤ M) (hB : Sm6 M x) (w : World)
    (eV : ∀ args w, (callFunc V args).run Tryz.prog w = .ok (.enter V args) w) (hV : Tells Tryz.prog V lv val w) :
    Calls Tryz.prog 272 #[.func (.func V) #[lv] #[], .agg (ag6 x), .agg #[.int .i64 dx, .int .i64 dy, .int .i64 dz]] w fun r w' => r = .returned (moveT val x dx dy dz) ∧ Below w.heap.size w w' := by
  have s1 := al6_sm hB hM0 (by omega) val 1 dy
  have s2 := al6_sm (x := st1 val x dy) s1 (by omega) (by omega) val 0 dx
  have C1 := fun W (h : Below w.heap.size w W) => palong_c V lv val x 1 dy M (by omega) hM0 hB W eV (hV.on h)
  have C2 := fun W (h : Below w.heap.size w W) => palong_c V lv val (st1 val x dy) 0 dx (M + 10000000) (by omega) (by omega) s1 W eV (hV.on h)
  have C3 := fun W (h : Below w.heap.size w W) => palong_c V lv val (st2 val x dx dy) 2 dz (M + 10000000 + 10000000) (by omega) (by omega) s2 W eV (hV.on h)
  unfold moveT
  have e3 : st3 val x dx dy dz = (al6 val (st2 val x dx dy) 2 dz).1 := rfl
  have f3 : hz3 val x dx dy dz = (al6 val (st2 val x dx dy) 2 dz).2 := rfl
  have e2 : st2 val x dx dy = (al6 val (st1 val x dy) 0 dx).1 := rfl
  have f2 : hx2 val x dx dy = (al6 val (st1 val x dy) 0 dx).2 := rfl
  have e1 : st1 val x dy = (al6 val x 1 dy).1 := rfl
  have f1 : hy1 val x dy = (al6 val x 1 dy).2 := rfl
  rw [e3, f3, f2, f1]
  generalize al6 val (st2 val x dx dy) 2 dz = p3 at C3 ⊢
  rw [e2] at C3
  generalize al6 val (st1 val x dy) 0 dx = p2 at C2 C3 ⊢
  rw [e1] at C2
  generalize al6 val x 1 dy = p1 at C1 C2 ⊢
  obtain ⟨⟨a1, b1, c1, d1, g1, h1⟩, u1⟩ := p1
  obtain ⟨⟨a2, b2, c2, d2, g2, h2⟩, u2⟩ := p2
  obtain ⟨⟨a3, b3, c3, d3, g3, h3⟩, u3⟩ := p3
  obtain ⟨a, b, c, d, e, f⟩ := x
  simp only [alT, ag6] at C1 C2 C3 ⊢
  have HC1 := Lib.hid C1
  have HC2 := Lib.hid C2
  have HC3 := Lib.hid C3
  clear C1 C2 C3 s1 s2 hM hM0 hB eV hV e1 e2 e3 f1 f2 f3
  obtain ⟨W, hW⟩ : ∃ W, W = ((((w.alloc (.cells #[.int .i64 a, .int .i64 b, .int .i64 c, .int .i64 d, .int .i64 e, .int .i64 f] 210)).alloc (.cells #[.int .i64 dx, .int .i64 dy, .int .i64 dz] 38)).alloc (.cells #[.int .i64 0, .int .i64 0, .int .i64 0, .int .i64 0, .int .i64 0, .int .i64 0] 210)).alloc (.cells #[.bool false, .bool false, .bool false] 322)).alloc (.cells #[.bool false, .bool false, .bool false] 322) := ⟨_, rfl⟩
  have H : Below w.heap.size w W := by rw [hW]; go_grown
  obtain ⟨N, hN⟩ : ∃ N, N = w.heap.size := ⟨_, rfl⟩
  have U : Blk W N 210 _ := Blk.eqw hW.symm (by rw [hN]; exact ((((Blk.new' rfl).alloc _).alloc _).alloc _).alloc _)
  have D : Blk W (N + 1) 38 _ := Blk.eqw hW.symm (by rw [hN]; exact (((Blk.new' (by simp)).alloc _).alloc _).alloc _)
  have R0 : Blk W (N + 1 + 1) 210 _ := Blk.eqw hW.symm (by rw [hN]; exact ((Blk.new' (by simp)).alloc _).alloc _)
  have R1 : Blk W (N + 1 + 1 + 1) 322 _ := Blk.eqw hW.symm (by rw [hN]; exact (Blk.new' (by simp)).alloc _)
  have T0 : Blk W (N + 1 + 1 + 1 + 1) 322 _ := Blk.eqw hW.symm (by rw [hN]; exact Blk.new' (by simp))
  have ix0 := fun w => (arr3_at 1 0 2 w).1
  have ix1 := fun w => (arr3_at 1 0 2 w).2.1
  have ix2 := fun w => (arr3_at 1 0 2 w).2.2
  go_enter Tryz.func272, Tryz.ntmps272
  go_upto_region 2 with (fail)
  rw [← hW, ← hN]
  have HN := Lib.hid hN
  clear hW hN
  go_upto_region 3 with (fail)
  go_loopw [10, 12] (fun _ kv wr => ((kv = .int .i64 0 ∧ Blk wr N 210 #[.int .i64 a, .int .i64 b, .int .i64 c, .int .i64 d, .int .i64 e, .int .i64 f] ∧ Blk wr (N + 1 + 1 + 1 + 1) 322 #[.bool false, .bool false, .bool false]) ∨ (kv = .int .i64 1 ∧ Blk wr N 210 #[.int .i64 a1, .int .i64 b1, .int .i64 c1, .int .i64 d1, .int .i64 g1, .int .i64 h1] ∧ Blk wr (N + 1 + 1 + 1 + 1) 322 #[.bool false, .bool u1, .bool false]) ∨ (kv = .int .i64 2 ∧ Blk wr N 210 #[.int .i64 a2, .int .i64 b2, .int .i64 c2, .int .i64 d2, .int .i64 g2, .int .i64 h2] ∧ Blk wr (N + 1 + 1 + 1 + 1) 322 #[.bool u2, .bool u1, .bool false]) ∨ (kv = .int .i64 3 ∧ Blk wr N 210 #[.int .i64 a3, .int .i64 b3, .int .i64 c3, .int .i64 d3, .int .i64 g3, .int .i64 h3] ∧ Blk wr (N + 1 + 1 + 1 + 1) 322 #[.bool u2, .bool u1, .bool u3])) ∧ Blk wr (N + 1) 38 #[.int .i64 dx, .int .i64 dy, .int .i64 dz] ∧ Blk wr (N + 1 + 1) 210 #[.int .i64 0, .int .i64 0, .int .i64 0, .int .i64 0, .int .i64 0, .int .i64 0] ∧ Blk wr (N + 1 + 1 + 1) 322 #[.bool false, .bool false, .bool false] ∧ Hid (Below w.heap.size w wr)) (fun _ v _ => 3 - (intOf v).toNat)
  case atStart => exact ⟨.inl ⟨rfl, U, T0⟩, D, R0, R1, H⟩
  case round =>
    clear U T0 D R0 R1 H
    obtain ⟨hd, D, R0, R1, H⟩ := hrel
    have hNw : w.heap.size ≤ N := by rw [← HN.out]; exact Nat.le_refl _
    rcases hd with ⟨rfl, U, T0⟩ | ⟨rfl, U, T0⟩ | ⟨rfl, U, T0⟩ | ⟨rfl, U, T0⟩
    · have hc := fun x y => HC1.out (Go.Sort.grow (redrawn _ x) y) (after H.out (below_regrown _ x y))
      have CC := Lib.hid hc
      clear hc
      obtain ⟨u0, uu1, uu2, uu3, uu4, uu5⟩ := U.re6
      obtain ⟨v0, v1, v2⟩ := D.re3
      go_upto_region 5 with (fail)
      refine wp_sched [1, 1, 0, 0, 0, 0, 0, 0, 0, 0, 1, 3, 3, 3] (fun _ _ _ => True) (by kernel_rfl) (by kernel_rfl) (fun _ _ _ _ h _ => h) ?_
      repeat (first | (refine wpQs_s ?_) | (refine wpQs_q (fun K hK => ?_); go_simp; first | (refine hK _ ?_; clear hK K) | (apply Exists.intro; refine ⟨fun _ => ?_, hK _ ?_⟩; (first | exact CC.out _ _ | exact axis_e _ _ _ _ _ rfl _); clear hK K)) | (refine wpQs_f (fun K hK => ?_); go_simp; refine hK _ ?_; clear hK K))
      refine wpQs_nil ?_
      repeat (first | (refine wpLs_skip ?_) | (refine wpLs_one ?lsA (fun v_ => ?_); case lsA => (intro w_ hw_ hp_; (fail))))
      refine wpLs_nilB ?_
      simp only [tails]
      intro W5 k5 _
      clear u0 uu1 uu2 uu3 uu4 uu5 v0 v1 v2
      replace U := U.on k5
      replace T0 := T0.on k5
      have t1 := T0.cell 1
      have tf := T0.frz 1
      obtain ⟨⟨r0, r1, r2, r3, r4, r5⟩, z0, z1, z2, z3, z4, z5⟩ := U.c6
      go_wp2_with fail
      go_roundw
      case rel => exact ⟨.inr (.inl ⟨rfl, (U.st6 (.int .i64 a1) (.int .i64 b1) (.int .i64 c1) (.int .i64 d1) (.int .i64 g1) (.int .i64 h1)).far (p := ⟨N + 1 + 1 + 1 + 1, 1, none⟩) (by dsimp only; omega) _, (sx6_far T0 (by omega) (.int .i64 a1) (.int .i64 b1) (.int .i64 c1) (.int .i64 d1) (.int .i64 g1) (.int .i64 h1)).set_ 1 (.bool u1)⟩), (sx6_far (D.on k5) (by omega) (.int .i64 a1) (.int .i64 b1) (.int .i64 c1) (.int .i64 d1) (.int .i64 g1) (.int .i64 h1)).far (p := ⟨N + 1 + 1 + 1 + 1, 1, none⟩) (by dsimp only; omega) _, (sx6_far (R0.on k5) (by omega) (.int .i64 a1) (.int .i64 b1) (.int .i64 c1) (.int .i64 d1) (.int .i64 g1) (.int .i64 h1)).far (p := ⟨N + 1 + 1 + 1 + 1, 1, none⟩) (by dsimp only; omega) _, (sx6_far (R1.on k5) (by omega) (.int .i64 a1) (.int .i64 b1) (.int .i64 c1) (.int .i64 d1) (.int .i64 g1) (.int .i64 h1)).far (p := ⟨N + 1 + 1 + 1 + 1, 1, none⟩) (by dsimp only; omega) _, (sx6_below (after H.out k5) hNw (.int .i64 a1) (.int .i64 b1) (.int .i64 c1) (.int .i64 d1) (.int .i64 g1) (.int .i64 h1)).setCell (p := ⟨N + 1 + 1 + 1 + 1, 1, none⟩) (by dsimp only; omega) _⟩
      case measure => simp [intOf]
    · have hc := fun x y => HC2.out (Go.Sort.grow (redrawn _ x) y) (after H.out (below_regrown _ x y))
      have CC := Lib.hid hc
      clear hc
      obtain ⟨u0, uu1, uu2, uu3, uu4, uu5⟩ := U.re6
      obtain ⟨v0, v1, v2⟩ := D.re3
      go_upto_region 5 with (fail)
      refine wp_sched [1, 1, 0, 0, 0, 0, 0, 0, 0, 0, 1, 3, 3, 3] (fun _ _ _ => True) (by kernel_rfl) (by kernel_rfl) (fun _ _ _ _ h _ => h) ?_
      repeat (first | (refine wpQs_s ?_) | (refine wpQs_q (fun K hK => ?_); go_simp; first | (refine hK _ ?_; clear hK K) | (apply Exists.intro; refine ⟨fun _ => ?_, hK _ ?_⟩; (first | exact CC.out _ _ | exact axis_e _ _ _ _ _ rfl _); clear hK K)) | (refine wpQs_f (fun K hK => ?_); go_simp; refine hK _ ?_; clear hK K))
      refine wpQs_nil ?_
      repeat (first | (refine wpLs_skip ?_) | (refine wpLs_one ?lsA (fun v_ => ?_); case lsA => (intro w_ hw_ hp_; (fail))))
      refine wpLs_nilB ?_
      simp only [tails]
      intro W5 k5 _
      clear u0 uu1 uu2 uu3 uu4 uu5 v0 v1 v2
      replace U := U.on k5
      replace T0 := T0.on k5
      have t0 := T0.cell 0
      have tf := T0.frz 0
      obtain ⟨⟨r0, r1, r2, r3, r4, r5⟩, z0, z1, z2, z3, z4, z5⟩ := U.c6
      go_wp2_with fail
      go_roundw
      case rel => exact ⟨.inr (.inr (.inl ⟨rfl, (U.st6 (.int .i64 a2) (.int .i64 b2) (.int .i64 c2) (.int .i64 d2) (.int .i64 g2) (.int .i64 h2)).far (p := ⟨N + 1 + 1 + 1 + 1, 0, none⟩) (by dsimp only; omega) _, (sx6_far T0 (by omega) (.int .i64 a2) (.int .i64 b2) (.int .i64 c2) (.int .i64 d2) (.int .i64 g2) (.int .i64 h2)).set_ 0 (.bool u2)⟩)), (sx6_far (D.on k5) (by omega) (.int .i64 a2) (.int .i64 b2) (.int .i64 c2) (.int .i64 d2) (.int .i64 g2) (.int .i64 h2)).far (p := ⟨N + 1 + 1 + 1 + 1, 0, none⟩) (by dsimp only; omega) _, (sx6_far (R0.on k5) (by omega) (.int .i64 a2) (.int .i64 b2) (.int .i64 c2) (.int .i64 d2) (.int .i64 g2) (.int .i64 h2)).far (p := ⟨N + 1 + 1 + 1 + 1, 0, none⟩) (by dsimp only; omega) _, (sx6_far (R1.on k5) (by omega) (.int .i64 a2) (.int .i64 b2) (.int .i64 c2) (.int .i64 d2) (.int .i64 g2) (.int .i64 h2)).far (p := ⟨N + 1 + 1 + 1 + 1, 0, none⟩) (by dsimp only; omega) _, (sx6_below (after H.out k5) hNw (.int .i64 a2) (.int .i64 b2) (.int .i64 c2) (.int .i64 d2) (.int .i64 g2) (.int .i64 h2)).setCell (p := ⟨N + 1 + 1 + 1 + 1, 0, none⟩) (by dsimp only; omega) _⟩
      case measure => simp [intOf]
    · have hc := fun x y => HC3.out (Go.Sort.grow (redrawn _ x) y) (after H.out (below_regrown _ x y))
      have CC := Lib.hid hc
      clear hc
      obtain ⟨u0, uu1, uu2, uu3, uu4, uu5⟩ := U.re6
      obtain ⟨v0, v1, v2⟩ := D.re3
      go_upto_region 5 with (fail)
      refine wp_sched [1, 1, 0, 0, 0, 0, 0, 0, 0, 0, 1, 3, 3, 3] (fun _ _ _ => True) (by kernel_rfl) (by kernel_rfl) (fun _ _ _ _ h _ => h) ?_
      repeat (first | (refine wpQs_s ?_) | (refine wpQs_q (fun K hK => ?_); go_simp; first | (refine hK _ ?_; clear hK K) | (apply Exists.intro; refine ⟨fun _ => ?_, hK _ ?_⟩; (first | exact CC.out _ _ | exact axis_e _ _ _ _ _ rfl _); clear hK K)) | (refine wpQs_f (fun K hK => ?_); go_simp; refine hK _ ?_; clear hK K))
      refine wpQs_nil ?_
      repeat (first | (refine wpLs_skip ?_) | (refine wpLs_one ?lsA (fun v_ => ?_); case lsA => (intro w_ hw_ hp_; (fail))))
      refine wpLs_nilB ?_
      simp only [tails]
      intro W5 k5 _
      clear u0 uu1 uu2 uu3 uu4 uu5 v0 v1 v2
      replace U := U.on k5
      replace T0 := T0.on k5
      have t2 := T0.cell 2
      have tf := T0.frz 2
      obtain ⟨⟨r0, r1, r2, r3, r4, r5⟩, z0, z1, z2, z3, z4, z5⟩ := U.c6
      go_wp2_with fail
      go_roundw
      case rel => exact ⟨.inr (.inr (.inr ⟨rfl, (U.st6 (.int .i64 a3) (.int .i64 b3) (.int .i64 c3) (.int .i64 d3) (.int .i64 g3) (.int .i64 h3)).far (p := ⟨N + 1 + 1 + 1 + 1, 2, none⟩) (by dsimp only; omega) _, (sx6_far T0 (by omega) (.int .i64 a3) (.int .i64 b3) (.int .i64 c3) (.int .i64 d3) (.int .i64 g3) (.int .i64 h3)).set_ 2 (.bool u3)⟩)), (sx6_far (D.on k5) (by omega) (.int .i64 a3) (.int .i64 b3) (.int .i64 c3) (.int .i64 d3) (.int .i64 g3) (.int .i64 h3)).far (p := ⟨N + 1 + 1 + 1 + 1, 2, none⟩) (by dsimp only; omega) _, (sx6_far (R0.on k5) (by omega) (.int .i64 a3) (.int .i64 b3) (.int .i64 c3) (.int .i64 d3) (.int .i64 g3) (.int .i64 h3)).far (p := ⟨N + 1 + 1 + 1 + 1, 2, none⟩) (by dsimp only; omega) _, (sx6_far (R1.on k5) (by omega) (.int .i64 a3) (.int .i64 b3) (.int .i64 c3) (.int .i64 d3) (.int .i64 g3) (.int .i64 h3)).far (p := ⟨N + 1 + 1 + 1 + 1, 2, none⟩) (by dsimp only; omega) _, (sx6_below (after H.out k5) hNw (.int .i64 a3) (.int .i64 b3) (.int .i64 c3) (.int .i64 d3) (.int .i64 g3) (.int .i64 h3)).setCell (p := ⟨N + 1 + 1 + 1 + 1, 2, none⟩) (by dsimp only; omega) _⟩
      case measure => simp [intOf]
    · have x0 := fun f d os => (U.sp (D := [N + 1 + 1, N + 1 + 1 + 1]) (by simp; omega) f d os).c6.1
      have y0 := fun f d os => (T0.sp (D := [N + 1 + 1, N + 1 + 1 + 1]) (by simp; omega) f d os).c3
      go_upto_region 7 with (fail)
      refine wp_two [0, 0, 2, 2] 2 (N + 1 + 1) 210 (#[.int .i64 a3, .int .i64 b3, .int .i64 c3, .int .i64 d3, .int .i64 g3, .int .i64 h3]) 3 (N + 1 + 1 + 1) 322 (#[.bool u2, .bool u1, .bool u3]) (by omega) (by kernel_rfl) (by kernel_rfl) ?_
      repeat (first | (refine wpQs_s ?_) | (refine wpQs_q (fun K hK => ?_); go_simp; first | (refine hK _ ?_; clear hK K) | (apply Exists.intro; refine ⟨fun _ => ?_, hK _ ?_⟩; (fail); clear hK K)) | (refine wpQs_f (fun K hK => ?_); go_simp; refine hK _ ?_; clear hK K))
      refine wpQs_nil ?_
      repeat (refine wpLs_skip ?_)
      refine wpLs_one ?s1 (fun _ => ?_)
      case s1 =>
        intro w_ hw_ hp_
        have L2 := hp_.blk (by simp [Ds2]) R0
        obtain ⟨⟨q0, q1, q2, q3, q4, q5⟩, f0, f1, f2, f3, f4, f5⟩ := L2.c6
        go_simp
        exact two_fst (by decide) kept6 (L2.st6 _ _ _ _ _ _)
      refine wpLs_one ?s2 (fun _ => ?_)
      case s2 =>
        intro w_ hw_ hp_
        have T2 := hp_.blk (by simp [Ds2]) R1
        obtain ⟨q0, q1, q2, f0, f1, f2⟩ := T2.c3
        go_simp
        exact two_snd (by decide) kept3 (T2.st3 _ _ _)
      refine wpLs_nilD ?_
      simp only [tails]
      rintro w1 k1 ⟨⟨-, r1⟩, r2⟩
      obtain ⟨⟨m0, m1, m2, m3, m4, m5⟩, -, -, -, -, -, -⟩ := (r1.1 rfl).c6
      obtain ⟨j0, j1, j2, -, -, -⟩ := (r2.2 rfl).c3
      clear r1 r2 x0 y0
      go_wp2_with fail
      refine bodyPost_ret (v := .tuple #[.agg #[.int .i64 a3, .int .i64 b3, .int .i64 c3, .int .i64 d3, .int .i64 g3, .int .i64 h3], .agg #[.bool u2, .bool u1, .bool u3]]) (by simp [results, Tryz.f272, go_sem, m0, m1, m2, m3, m4, m5, j0, j1, j2]) rfl ⟨rfl, ?_⟩
      exact H.out.trans (k1.below H.out.size (fun b hb => by simp; omega))
end Go.Proofs.YtmbccnioijokfaaGreatDoor

namespace Go.Proofs.YtmbccnioijokfaaGreatDoor
open Go.RowKit Go.Shelf
attribute [local go_sem] Oper.semAt_some
def zb (b : Bool) (n : Int) : Int := if b then 0 else n
theorem arrb_at (a b c : Bool) (w : World) : (Instr.index 322 (.agg #[.bool a, .bool b, .bool c]) (.int .i64 0)).run Tryz.prog w = .ok (.bool a) w ∧ (Instr.index 322 (.agg #[.bool a, .bool b, .bool c]) (.int .i64 1)).run Tryz.prog w = .ok (.bool b) w ∧ (Instr.index 322 (.agg #[.bool a, .bool b, .bool c]) (.int .i64 2)).run Tryz.prog w = .ok (.bool c) w := by
  refine ⟨?_, ?_, ?_⟩ <;> simp [Instr.index, asIntOf, go_sem]
theorem with_v (x y z a m p q r : Int) (h1 : wiI x a 0 m = p) (h2 : wiI y a 1 m = q) (h3 : wiI z a 2 m = r) (w : World) : Calls Tryz.prog 240 #[.agg #[.int .i64 x, .int .i64 y, .int .i64 z], .int .i64 a, .int .i64 m] w fun e w' => e = .returned (.agg #[.int .i64 p, .int .i64 q, .int .i64 r]) ∧ Below w.heap.size w w' := by
  subst h1 h2 h3; exact with_c x y z a m w
set_option maxRecDepth 100000 in
set_option maxHeartbeats 4000000 in
theorem stop_c (h0 h1 h2 : Bool) (x y z : Int) (w : World) : Calls Tryz.prog 270 #[.agg #[.bool h0, .bool h1, .bool h2], .agg #[.int .i64 x, .int .i64 y, .int .i64 z]] w fun r w' => r = .returned (.agg #[.int .i64 (zb h0 x), .int .i64 (zb h1 y), .int .i64 (zb h2 z)]) ∧ Below w.heap.size w w' := by
  obtain ⟨W, hW⟩ : ∃ W, W = ((w.alloc (.cells #[.bool h0, .bool h1, .bool h2] 322)).alloc (.cells #[.int .i64 x, .int .i64 y, .int .i64 z] 38)).alloc (.cells #[.int .i64 0, .int .i64 0, .int .i64 0] 38) := ⟨_, rfl⟩
  have H : Below w.heap.size w W := by rw [hW]; go_grown
  obtain ⟨N, hN⟩ : ∃ N, N = w.heap.size := ⟨_, rfl⟩
  have A : Blk W N 322 _ := Blk.eqw hW.symm (by rw [hN]; exact ((Blk.new' rfl).alloc _).alloc _)
  have S : Blk W (N + 1) 38 _ := Blk.eqw hW.symm (by rw [hN]; exact (Blk.new' (by simp)).alloc _)
  have R : Blk W (N + 1 + 1) 38 _ := Blk.eqw hW.symm (by rw [hN]; exact Blk.new' (by simp))
  have ix0 := fun w => (arrb_at h0 h1 h2 w).1
  have ix1 := fun w => (arrb_at h0 h1 h2 w).2.1
  have ix2 := fun w => (arrb_at h0 h1 h2 w).2.2
  go_enter Tryz.func270, Tryz.ntmps270
  go_upto_region 1 with (fail)
  rw [← hW, ← hN]
  have HN := Lib.hid hN
  clear hW hN
  obtain ⟨a0, a1, a2, -, -, -⟩ := A.c3
  go_upto_region 2 with (fail)
  go_loopw [5, 6, 8] (fun _ _ kv wr => ((kv = .int .i64 0 ∧ Blk wr (N + 1) 38 #[.int .i64 x, .int .i64 y, .int .i64 z]) ∨ (kv = .int .i64 1 ∧ Blk wr (N + 1) 38 #[.int .i64 (zb h0 x), .int .i64 y, .int .i64 z]) ∨ (kv = .int .i64 2 ∧ Blk wr (N + 1) 38 #[.int .i64 (zb h0 x), .int .i64 (zb h1 y), .int .i64 z]) ∨ (kv = .int .i64 3 ∧ Blk wr (N + 1) 38 #[.int .i64 (zb h0 x), .int .i64 (zb h1 y), .int .i64 (zb h2 z)])) ∧ Blk wr (N + 1 + 1) 38 #[.int .i64 0, .int .i64 0, .int .i64 0] ∧ Hid (Below w.heap.size w wr)) (fun _ _ v _ => 3 - (intOf v).toNat)
  case atStart => exact ⟨.inl ⟨rfl, S⟩, R, H⟩
  case round =>
    clear A S R H a0 a1 a2
    obtain ⟨hd, R, H⟩ := hrel
    have hNw : w.heap.size ≤ N + 1 := by rw [← HN.out]; exact Nat.le_succ _
    rcases hd with ⟨rfl, S⟩ | ⟨rfl, S⟩ | ⟨rfl, S⟩ | ⟨rfl, S⟩
    · cases h0
      · go_wp2_with fail
        go_roundw
        case rel => exact ⟨.inr (.inl ⟨rfl, S⟩), R, H⟩
        case measure => simp [intOf]
      · obtain ⟨s0, s1, s2, t0, t1, t2⟩ := S.c3
        go_wp2_with (go_at_call 240; refine (with_v _ _ _ _ _ _ _ _ rfl rfl rfl _).mono ?_; rintro e_ w5 ⟨rfl, h5⟩; replace S := S.on h5; obtain ⟨s0, s1, s2, t0, t1, t2⟩ := S.c3)
        go_roundw
        case rel => exact ⟨.inr (.inl ⟨rfl, S.st3 _ _ _⟩), (((R.on h5).far (p := ⟨N + 1, 0, none⟩) (by dsimp only; omega) _).far (p := ⟨N + 1, 1, none⟩) (by dsimp only; omega) _).far (p := ⟨N + 1, 2, none⟩) (by dsimp only; omega) _, (((after H.out h5).setCell (p := ⟨N + 1, 0, none⟩) hNw _).setCell (p := ⟨N + 1, 1, none⟩) hNw _).setCell (p := ⟨N + 1, 2, none⟩) hNw _⟩
        case measure => simp [intOf]
    · cases h1
      · go_wp2_with fail
        go_roundw
        case rel => exact ⟨.inr (.inr (.inl ⟨rfl, S⟩)), R, H⟩
        case measure => simp [intOf]
      · obtain ⟨s0, s1, s2, t0, t1, t2⟩ := S.c3
        go_wp2_with (go_at_call 240; refine (with_v _ _ _ _ _ _ _ _ rfl rfl rfl _).mono ?_; rintro e_ w5 ⟨rfl, h5⟩; replace S := S.on h5; obtain ⟨s0, s1, s2, t0, t1, t2⟩ := S.c3)
        go_roundw
        case rel => exact ⟨.inr (.inr (.inl ⟨rfl, S.st3 _ _ _⟩)), (((R.on h5).far (p := ⟨N + 1, 0, none⟩) (by dsimp only; omega) _).far (p := ⟨N + 1, 1, none⟩) (by dsimp only; omega) _).far (p := ⟨N + 1, 2, none⟩) (by dsimp only; omega) _, (((after H.out h5).setCell (p := ⟨N + 1, 0, none⟩) hNw _).setCell (p := ⟨N + 1, 1, none⟩) hNw _).setCell (p := ⟨N + 1, 2, none⟩) hNw _⟩
        case measure => simp [intOf]
    · cases h2
      · go_wp2_with fail
        go_roundw
        case rel => exact ⟨.inr (.inr (.inr ⟨rfl, S⟩)), R, H⟩
        case measure => simp [intOf]
      · obtain ⟨s0, s1, s2, t0, t1, t2⟩ := S.c3
        go_wp2_with (go_at_call 240; refine (with_v _ _ _ _ _ _ _ _ rfl rfl rfl _).mono ?_; rintro e_ w5 ⟨rfl, h5⟩; replace S := S.on h5; obtain ⟨s0, s1, s2, t0, t1, t2⟩ := S.c3)
        go_roundw
        case rel => exact ⟨.inr (.inr (.inr ⟨rfl, S.st3 _ _ _⟩)), (((R.on h5).far (p := ⟨N + 1, 0, none⟩) (by dsimp only; omega) _).far (p := ⟨N + 1, 1, none⟩) (by dsimp only; omega) _).far (p := ⟨N + 1, 2, none⟩) (by dsimp only; omega) _, (((after H.out h5).setCell (p := ⟨N + 1, 0, none⟩) hNw _).setCell (p := ⟨N + 1, 1, none⟩) hNw _).setCell (p := ⟨N + 1, 2, none⟩) hNw _⟩
        case measure => simp [intOf]
    · obtain ⟨s0, s1, s2, -, -, -⟩ := S.c3
      obtain ⟨r0, r1, r2, f0, f1, f2⟩ := R.c3
      replace H := H.out
      have hw2 : w.heap.size ≤ N + 1 + 1 := by omega
      go_wp2_with fail
      have R2 := R.st3 (.int .i64 (zb h0 x)) (.int .i64 (zb h1 y)) (.int .i64 (zb h2 z))
      obtain ⟨d0, d1, d2, -, -, -⟩ := R2.c3
      exact bodyPost_ret (v := .agg #[.int .i64 (zb h0 x), .int .i64 (zb h1 y), .int .i64 (zb h2 z)]) (by simp [results, Tryz.results270, go_sem, d0, d1, d2]) rfl ⟨rfl, by (repeat' (first | (with_reducible exact Below.refl _ _) | (with_reducible assumption) | (with_reducible refine Below.alloc ?_ ?_ _) | (with_reducible refine Below.drew ?_) | (with_reducible refine Below.setCell ?_ ?_ _) | (with_reducible refine after ?_ (below_regrown _ _ _)) | (refine after ?_ (by with_reducible assumption)) | go_size))⟩
end Go.Proofs.YtmbccnioijokfaaGreatDoor

namespace Go.Proofs.YtmbccnioijokfaaGreatDoor
open Go.RowKit
abbrev BD := Int × Int × Int × Int × Int × Int × Int × Int × Bool
abbrev bd9 (b : BD) : Array Value := #[.int .i64 b.1, .int .i64 b.2.1, .int .i64 b.2.2.1, .int .i64 b.2.2.2.1, .int .i64 b.2.2.2.2.1, .int .i64 b.2.2.2.2.2.1, .int .i64 b.2.2.2.2.2.2.1, .int .i64 b.2.2.2.2.2.2.2.1, .bool b.2.2.2.2.2.2.2.2]
def mn3 (x y z : Int) : Int := min (min x y) z
def mx3 (x y z : Int) : Int := max (max x y) z
theorem run_mn3 {P : Program} (ts : Array TypeId) (t : TypeId) (k : IntKind) (x y z : Int) (w : World) : (Builtin.min_ ts t #[.int k x, .int k y, .int k z]).run P w = .ok (.int k (mn3 x y z)) w := by
  have h : mn3 x y z = if z < (if y < x then y else x) then z else (if y < x then y else x) := by unfold mn3; split <;> split <;> omega
  rw [h]
  simp [Builtin.min_, Builtin.min2]
theorem run_mx3 {P : Program} (ts : Array TypeId) (t : TypeId) (k : IntKind) (x y z : Int) (w : World) : (Builtin.max_ ts t #[.int k x, .int k y, .int k z]).run P w = .ok (.int k (mx3 x y z)) w := by
  have h : mx3 x y z = if (if x < y then y else x) < z then z else (if x < y then y else x) := by unfold mx3; split <;> split <;> omega
  rw [h]
  simp [Builtin.max_, Builtin.max2]
def inI (x y z m : Int) : Bool := decide (-m ≤ mn3 x y z) && decide (mx3 x y z ≤ m)
def mayB (b : BD) : Bool := decide (2 ≤ b.2.2.2.2.2.2.1) && decide (b.2.2.2.2.2.2.1 ≤ 131072) && decide (1 ≤ b.2.2.2.2.2.2.2.1) && decide (b.2.2.2.2.2.2.2.1 ≤ 262144) && inI b.1 b.2.1 b.2.2.1 70368744177664 && inI b.2.2.2.1 b.2.2.2.2.1 b.2.2.2.2.2.1 262144
def standI (x y z wd h : Int) : B6 := (subI x (max wd 0 / 2), cutI y, subI z (max wd 0 / 2), addI x (max wd 0 / 2), addI y (max h 0), addI z (max wd 0 / 2))
def boxB (b : BD) : B6 := standI b.1 b.2.1 b.2.2.1 b.2.2.2.2.2.2.1 b.2.2.2.2.2.2.2.1
def clI (n : Int) : Int := mnI (mxI n (-70368744177664)) 70368744177664
def fwI (x d : Int) : Int := subI (clI (addI x d)) x
def walkI (n : Int) : Int := mulI (mnI (mxI n (-65536)) 65536) 16384
def riseI (climbs wet stands jump : Bool) (n : Int) : Int :=
  if climbs then (if jump then 8192 else mxI (n - 4096) (-8192)) else if wet then (if jump then 6144 else mxI (n - 1024) (-8192)) else if jump && stands then 28672 else mxI (n - 4096) (-262144)
section
variable (val : Cl → Int)
def anyB (p : Int → Bool) (x : B6) : Bool := (cellsI x.1 x.2.1 x.2.2.1 x.2.2.2.1 x.2.2.2.2.1 x.2.2.2.2.2).any fun c => p (val c)
def walkB (b : BD) (ix iz : Int) : BD := (b.1, b.2.1, b.2.2.1, walkI ix, b.2.2.2.2.1, walkI iz, b.2.2.2.2.2.2.1, b.2.2.2.2.2.2.2.1, b.2.2.2.2.2.2.2.2)
def riseB (b : BD) (jump : Bool) : BD := (b.1, b.2.1, b.2.2.1, b.2.2.2.1, riseI (anyB val cliB (boxB b)) (anyB val wetB (boxB b)) (unB val (boxB b)) jump b.2.2.2.2.1, b.2.2.2.2.2.1, b.2.2.2.2.2.2.1, b.2.2.2.2.2.2.2.1, b.2.2.2.2.2.2.2.2)
def goV (b : BD) : B6 × Bool × Bool × Bool := stepV val (boxB b) (fwI b.1 b.2.2.2.1) (fwI b.2.1 b.2.2.2.2.1) (fwI b.2.2.1 b.2.2.2.2.2.1) 32768
def putB (b : BD) (o : B6) (r : B6 × Bool × Bool × Bool) (st : Bool) : BD := (addI b.1 (subI r.1.1 o.1), addI b.2.1 (subI r.1.2.1 o.2.1), addI b.2.2.1 (subI r.1.2.2.1 o.2.2.1), zb r.2.1 b.2.2.2.1, zb r.2.2.1 b.2.2.2.2.1, zb r.2.2.2 b.2.2.2.2.2.1, b.2.2.2.2.2.2.1, b.2.2.2.2.2.2.2.1, st)
def goB (b : BD) : BD := putB b (boxB b) (goV val b) (unB val (goV val b).1)
def stepB (b : BD) (ix iz : Int) (jump : Bool) : BD := goB val (riseB val (walkB b ix iz) jump)
end
theorem boxB_walk (b : BD) (ix iz : Int) : boxB (walkB b ix iz) = boxB b := by unfold boxB walkB; rfl
theorem boxB_rise (val : Cl → Int) (b : BD) (j : Bool) : boxB (riseB val b j) = boxB b := by unfold boxB riseB; rfl
structure BOk (M : Int) (b : BD) : Prop where
  x : -M ≤ b.1 ∧ b.1 ≤ M
  y : -M ≤ b.2.1 ∧ b.2.1 ≤ M
  z : -M ≤ b.2.2.1 ∧ b.2.2.1 ≤ M
  sx : -262144 ≤ b.2.2.2.1 ∧ b.2.2.2.1 ≤ 262144
  sy : -262144 ≤ b.2.2.2.2.1 ∧ b.2.2.2.2.1 ≤ 262144
  sz : -262144 ≤ b.2.2.2.2.2.1 ∧ b.2.2.2.2.2.1 ≤ 262144
  wd : 2 ≤ b.2.2.2.2.2.2.1 ∧ b.2.2.2.2.2.2.1 ≤ 131072
  ht : 1 ≤ b.2.2.2.2.2.2.2.1 ∧ b.2.2.2.2.2.2.2.1 ≤ 262144
theorem BOk.box {M : Int} {b : BD} (h : BOk M b) (hM : M ≤ 71000000000000) : Sm6 (M + 65536) (boxB b) ∧ boxB b = (b.1 - b.2.2.2.2.2.2.1 / 2, b.2.1, b.2.2.1 - b.2.2.2.2.2.2.1 / 2, b.1 + b.2.2.2.2.2.2.1 / 2, b.2.1 + b.2.2.2.2.2.2.2.1, b.2.2.1 + b.2.2.2.2.2.2.1 / 2) := by
  obtain ⟨x, y, z, sx, sy, sz, wd, ht, st⟩ := b
  obtain ⟨⟨a1, a2⟩, ⟨b1, b2⟩, ⟨c1, c2⟩, -, -, -, ⟨w1, w2⟩, h1, h2⟩ := h
  dsimp only at *
  have e : boxB (x, y, z, sx, sy, sz, wd, ht, st) = (x - wd / 2, y, z - wd / 2, x + wd / 2, y + ht, z + wd / 2) := by
    unfold boxB standI addI subI cutI
    dsimp only
    simp only [Prod.mk.injEq]
    refine ⟨?_, ?_, ?_, ?_, ?_, ?_⟩ <;> omega
  refine ⟨?_, e⟩
  rw [e]
  constructor <;> dsimp only <;> omega
end Go.Proofs.YtmbccnioijokfaaGreatDoor

