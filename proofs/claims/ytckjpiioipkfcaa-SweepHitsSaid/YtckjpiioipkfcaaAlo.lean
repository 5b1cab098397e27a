/- A box that goes along an axis. -/
import Derived.Test.YtckjpiioipkfcaaSwP3
import Derived.Test.YtckjpiioipkfcaaRAx
import Derived.Test.YtckjpiioipkfcaaMov
namespace Go.Proofs.Ytckjpiioipkfcaa
open Go.RowKit Go.Shelf
attribute [local go_sem] Oper.semAt_some

def alT (p : B6 × Bool) : Value := .tuple #[.agg (ag6 p.1), .bool p.2]
set_option maxRecDepth 100000 in
set_option maxHeartbeats 4000000 in
theorem palong_c (V : FuncId) (lv : Array Value) (val : Cl → Int) (x : B6) (axis dd M : Int) (hM : M ≤ 100000000000) (hM0 : 0 ≤ M) (hB : Sm6 M x) (w : World)
    (eV : ∀ args w, (callFunc V args).run Try.prog w = .ok (.enter V args) w) (hV : Tells Try.prog V lv val w) :
    Calls Try.prog 39 #[.func (.func V) #[] lv, .agg (ag6 x), .int .i64 axis, .int .i64 dd] w fun r w' => r = .returned (alT (al6 (val) x axis dd)) ∧ Below w.heap.size w w' := by
  have HC := Lib.hid fun W (h : Below w.heap.size w W) => saxis_c V lv val x.1 x.2.1 x.2.2.1 x.2.2.2.1 x.2.2.2.2.1 x.2.2.2.2.2 axis dd M hM hM0 hB W eV (hV.on h)
  have hal : al6 (val) x axis dd = (mv6 x axis (ax6 (val) x axis dd).1, (ax6 (val) x axis dd).2) := rfl
  rw [hal]
  unfold ax6 mv6
  obtain ⟨a, b, c, d, e, f⟩ := x
  simp only [ag6] at HC ⊢
  generalize axisV (val) a b c d e f axis dd = r at HC ⊢
  obtain ⟨n, hit⟩ := r
  simp only [axT] at HC ⊢
  clear hV eV hM hM0 hB hal
  obtain ⟨W0, hW0⟩ : ∃ W0, W0 = ((w).alloc (.cells #[.int .i64 a, .int .i64 b, .int .i64 c, .int .i64 d, .int .i64 e, .int .i64 f] 28)).alloc (.cells #[.int .i64 0, .int .i64 0, .int .i64 0, .int .i64 0, .int .i64 0, .int .i64 0] 28) := ⟨_, rfl⟩
  have U : Blk W0 (w.heap.size) 28 _ := Blk.eqw hW0.symm ((Blk.new' (by simp)).alloc _)
  have R0 : Blk W0 (w.heap.size + 1) 28 _ := Blk.eqw hW0.symm (Blk.new' (by simp))
  have H0 : Below w.heap.size w W0 := by rw [hW0]; go_grown
  have XA : True := trivial
  go_enter Try.func39, Try.ntmps39
  go_upto_region 1 with (fail)
  rw [← hW0]
  clear hW0
  obtain ⟨u0, u1, u2, u3, u4, u5⟩ := U.c6.1
  have XB : True := trivial
  go_upto_region 2 with (go_at_call 13; refine (HC.out _ H0).mono ?_; rintro e_ w1 ⟨rfl, h1⟩)
  replace U := U.on h1
  have R := R0.on h1
  replace H0 := after H0 h1
  clear u0 u1 u2 u3 u4 u5 h1 R0 HC
  obtain ⟨u0, u1, u2, u3, u4, u5⟩ := U.re6
  refine wp_sched [0, 0, 0, 0, 0, 0, 1, 3, 3] (fun _ _ _ => True) (by kernel_rfl) (by kernel_rfl) (fun _ _ _ _ h _ => h) ?_
  repeat (first | (refine wpQs_s ?_) | (refine wpQs_q (fun K hK => ?_); go_simp; first | (refine hK _ ?_; clear hK K) | (apply Exists.intro; refine ⟨fun _ => ?_, hK _ ?_⟩; (first | exact with_c _ _ _ _ _ _ | exact smove_c _ _ _ _ _ _ _ _ _ _); clear hK K)) | (refine wpQs_f (fun K hK => ?_); go_simp; refine hK _ ?_; clear hK K))
  refine wpQs_nil ?_
  repeat (first | (refine wpLs_skip ?_) | (refine wpLs_one ?lsA (fun v_ => ?_); case lsA => (intro w_ hw_ hp_; (fail))))
  refine wpLs_nilB ?_
  simp only [tails]
  intro W2 h2 _
  clear u0 u1 u2 u3 u4 u5
  replace R := R.on h2
  replace H0 := after H0 h2
  obtain ⟨⟨r0, r1, r2, r3, r4, r5⟩, s0, s1, s2, s3, s4, s5⟩ := R.c6
  go_wp2_with fail
  have R2 := R.st6 (.int .i64 (addI a (wiI 0 axis 0 n))) (.int .i64 (addI b (wiI 0 axis 1 n))) (.int .i64 (addI c (wiI 0 axis 2 n))) (.int .i64 (addI d (wiI 0 axis 0 n))) (.int .i64 (addI e (wiI 0 axis 1 n))) (.int .i64 (addI f (wiI 0 axis 2 n)))
  obtain ⟨⟨d0, d1, d2, d3, d4, d5⟩, -, -, -, -, -, -⟩ := R2.c6
  exact bodyPost_ret (v := alT ((addI a (wiI 0 axis 0 n), addI b (wiI 0 axis 1 n), addI c (wiI 0 axis 2 n), addI d (wiI 0 axis 0 n), addI e (wiI 0 axis 1 n), addI f (wiI 0 axis 2 n)), hit)) (by simp [results, Try.f39, go_sem, alT, d0, d1, d2, d3, d4, d5]) rfl ⟨rfl, by (repeat' (first | (with_reducible exact Below.refl _ _) | (with_reducible assumption) | (with_reducible refine Below.alloc ?_ ?_ _) | (with_reducible refine Below.drew ?_) | (with_reducible refine Below.setCell ?_ ?_ _) | (with_reducible refine after ?_ (below_regrown _ _ _)) | (refine after ?_ (by with_reducible assumption)) | go_size))⟩
set_option maxRecDepth 100000 in
set_option maxHeartbeats 4000000 in
theorem ralong_c (q : Option Addr) (n' cp : Nat) (F : Nat → Int) (els : Int) (x : B6) (axis dd M : Int) (hM : M ≤ 100000000000) (hM0 : 0 ≤ M) (hB : Sm6 M x) (w : World)
    (hq : Iq w q n' F) :
    Calls Try.prog 41 #[.agg #[.slice q n' cp, .int .i64 els], .agg (ag6 x), .int .i64 axis, .int .i64 dd] w fun r w' => r = .returned (alT (al6 (fun c => atG n' F els c.1 c.2.1 c.2.2) x axis dd)) ∧ Below w.heap.size w w' := by
  have HC := Lib.hid fun W (h : Below w.heap.size w W) => rsaxis_c q n' cp F els x.1 x.2.1 x.2.2.1 x.2.2.2.1 x.2.2.2.2.1 x.2.2.2.2.2 axis dd M hM hM0 hB W (hq.on h)
  have hal : al6 (fun c => atG n' F els c.1 c.2.1 c.2.2) x axis dd = (mv6 x axis (ax6 (fun c => atG n' F els c.1 c.2.1 c.2.2) x axis dd).1, (ax6 (fun c => atG n' F els c.1 c.2.1 c.2.2) x axis dd).2) := rfl
  rw [hal]
  unfold ax6 mv6
  obtain ⟨a, b, c, d, e, f⟩ := x
  simp only [ag6] at HC ⊢
  generalize axisV (fun c => atG n' F els c.1 c.2.1 c.2.2) a b c d e f axis dd = r at HC ⊢
  obtain ⟨n, hit⟩ := r
  simp only [axT] at HC ⊢
  clear hq hM hM0 hB hal
  obtain ⟨W0, hW0⟩ : ∃ W0, W0 = ((w.alloc (.cells #[.slice q n' cp, .int .i64 els] 24)).alloc (.cells #[.int .i64 a, .int .i64 b, .int .i64 c, .int .i64 d, .int .i64 e, .int .i64 f] 28)).alloc (.cells #[.int .i64 0, .int .i64 0, .int .i64 0, .int .i64 0, .int .i64 0, .int .i64 0] 28) := ⟨_, rfl⟩
  have U : Blk W0 (w.heap.size + 1) 28 _ := Blk.eqw hW0.symm ((Blk.new' (by simp)).alloc _)
  have R0 : Blk W0 (w.heap.size + 1 + 1) 28 _ := Blk.eqw hW0.symm (Blk.new' (by simp))
  have H0 : Below w.heap.size w W0 := by rw [hW0]; go_grown
  have XA : Blk W0 w.heap.size 24 #[.slice q n' cp, .int .i64 els] := Blk.eqw hW0.symm (((Blk.new' rfl).alloc _).alloc _)
  go_enter Try.func41, Try.ntmps41
  go_upto_region 1 with (fail)
  rw [← hW0]
  clear hW0
  obtain ⟨u0, u1, u2, u3, u4, u5⟩ := U.c6.1
  obtain ⟨g0, g1⟩ : W0.cell? ⟨w.heap.size, 0, none⟩ = _ ∧ W0.cell? ⟨w.heap.size, 1, none⟩ = _ := ⟨XA.cell 0, XA.cell 1⟩
  go_upto_region 2 with (go_at_call 18; refine (HC.out _ H0).mono ?_; rintro e_ w1 ⟨rfl, h1⟩)
  replace U := U.on h1
  have R := R0.on h1
  replace H0 := after H0 h1
  clear u0 u1 u2 u3 u4 u5 h1 R0 HC
  obtain ⟨u0, u1, u2, u3, u4, u5⟩ := U.re6
  refine wp_sched [0, 0, 0, 0, 0, 0, 1, 3, 3] (fun _ _ _ => True) (by kernel_rfl) (by kernel_rfl) (fun _ _ _ _ h _ => h) ?_
  repeat (first | (refine wpQs_s ?_) | (refine wpQs_q (fun K hK => ?_); go_simp; first | (refine hK _ ?_; clear hK K) | (apply Exists.intro; refine ⟨fun _ => ?_, hK _ ?_⟩; (first | exact rwith_c _ _ _ _ _ _ | exact srmove_c _ _ _ _ _ _ _ _ _ _); clear hK K)) | (refine wpQs_f (fun K hK => ?_); go_simp; refine hK _ ?_; clear hK K))
  refine wpQs_nil ?_
  repeat (first | (refine wpLs_skip ?_) | (refine wpLs_one ?lsA (fun v_ => ?_); case lsA => (intro w_ hw_ hp_; (fail))))
  refine wpLs_nilB ?_
  simp only [tails]
  intro W2 h2 _
  clear u0 u1 u2 u3 u4 u5
  replace R := R.on h2
  replace H0 := after H0 h2
  obtain ⟨⟨r0, r1, r2, r3, r4, r5⟩, s0, s1, s2, s3, s4, s5⟩ := R.c6
  go_wp2_with fail
  have R2 := R.st6 (.int .i64 (addI a (wiI 0 axis 0 n))) (.int .i64 (addI b (wiI 0 axis 1 n))) (.int .i64 (addI c (wiI 0 axis 2 n))) (.int .i64 (addI d (wiI 0 axis 0 n))) (.int .i64 (addI e (wiI 0 axis 1 n))) (.int .i64 (addI f (wiI 0 axis 2 n)))
  obtain ⟨⟨d0, d1, d2, d3, d4, d5⟩, -, -, -, -, -, -⟩ := R2.c6
  exact bodyPost_ret (v := alT ((addI a (wiI 0 axis 0 n), addI b (wiI 0 axis 1 n), addI c (wiI 0 axis 2 n), addI d (wiI 0 axis 0 n), addI e (wiI 0 axis 1 n), addI f (wiI 0 axis 2 n)), hit)) (by simp [results, Try.f41, go_sem, alT, d0, d1, d2, d3, d4, d5]) rfl ⟨rfl, by (repeat' (first | (with_reducible exact Below.refl _ _) | (with_reducible assumption) | (with_reducible refine Below.alloc ?_ ?_ _) | (with_reducible refine Below.drew ?_) | (with_reducible refine Below.setCell ?_ ?_ _) | (with_reducible refine after ?_ (below_regrown _ _ _)) | (refine after ?_ (by with_reducible assumption)) | go_size))⟩
end Go.Proofs.Ytckjpiioipkfcaa
