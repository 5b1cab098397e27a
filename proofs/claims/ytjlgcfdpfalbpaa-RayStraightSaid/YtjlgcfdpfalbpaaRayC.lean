/- A ray is laid out. -/
import Derived.Test.YtjlgcfdpfalbpaaRayT2
import Derived.Test.YtjlgcfdpfalbpaaExch
namespace Go.Proofs.Ytjlgcfdpfalbpaa
open Go.RowKit Go.Shelf
attribute [local go_sem] Oper.semAt_some

def rchI (R : Int) : Int := mnI (mxI R 0) 64
theorem rchI_bd (R : Int) : 0 ≤ rchI R ∧ rchI R ≤ 64 := by unfold rchI mnI mxI; omega
set_option maxRecDepth 100000 in
set_option maxHeartbeats 4000000 in
theorem rtrace_c (x y z a b c R : Int) (w : World) :
    Calls Try.prog 22 #[.agg #[.int .i64 x, .int .i64 y, .int .i64 z], .agg #[.int .i64 a, .int .i64 b, .int .i64 c], .int .i64 R] w fun r w' =>
      r = .returned (.func (.func 41) #[] #[.pointer (some ⟨w.heap.size, 0, none⟩), .pointer (some ⟨w.heap.size + 1, 0, none⟩), .pointer (some ⟨w.heap.size + 1 + 1, 0, none⟩)]) ∧ Below w.heap.size w w' ∧
      Blk w' w.heap.size 26 #[.int .i64 (cutI x), .int .i64 (cutI y), .int .i64 (cutI z)] ∧ Blk w' (w.heap.size + 1) 26 #[.int .i64 (qI a), .int .i64 (qI b), .int .i64 (qI c)] ∧ Blk w' (w.heap.size + 1 + 1) 3 #[.int .i64 (rchI R)] := by
  obtain ⟨W, hW⟩ : ∃ W, W = ((w.alloc (.cells #[.int .i64 x, .int .i64 y, .int .i64 z] 26)).alloc (.cells #[.int .i64 a, .int .i64 b, .int .i64 c] 26)).alloc (.cells #[.int .i64 R] 3) := ⟨_, rfl⟩
  have H : Below w.heap.size w W := by rw [hW]; go_grown
  obtain ⟨N, hN⟩ : ∃ N, N = w.heap.size := ⟨_, rfl⟩
  have A : Blk W N 26 #[.int .i64 x, .int .i64 y, .int .i64 z] := Blk.eqw hW.symm (by rw [hN]; exact ((Blk.new' rfl).alloc _).alloc _)
  have B : Blk W (N + 1) 26 #[.int .i64 a, .int .i64 b, .int .i64 c] := Blk.eqw hW.symm (by rw [hN]; exact (Blk.new' (by simp)).alloc _)
  have D : Blk W (N + 1 + 1) 3 #[.int .i64 R] := Blk.eqw hW.symm (by rw [hN]; exact Blk.new' (by simp))
  have hmn := @run_mn Try.prog
  have hmx := @run_mx Try.prog
  have hmf : ∀ (fn : Fn) (first cap : Array Value) (w : World), (Instr.makeFunc fn first cap).run Try.prog w = .ok (.func fn first cap) w := fun _ _ _ _ => rfl
  have d0 := fun f d os => (D.sp (D := [N, N + 1]) (by simp; omega) f d os).c1.1
  go_enter Try.func22, Try.ntmps22
  go_upto_region 1 with (fail)
  rw [← hW, ← hN]
  have HN := Lib.hid hN
  clear hW hN
  refine wp_inv [2, 2, 2, 2, 0, 0, 0, 2, 2, 3] [N, N + 1] (ExI ⟨7, 0, N, 26, #[.int .i64 x, .int .i64 y, .int .i64 z], #[.int .i64 (cutI x), .int .i64 (cutI y), .int .i64 (cutI z)]⟩ ⟨8, 2, N + 1, 26, #[.int .i64 a, .int .i64 b, .int .i64 c], #[.int .i64 (qI a), .int .i64 (qI b), .int .i64 (qI c)]⟩
    (fun i => [.agg #[.int .i64 x, .int .i64 y, .int .i64 z], .agg #[.int .i64 (cutI x), .int .i64 (cutI y), .int .i64 (cutI z)], .agg #[.int .i64 a, .int .i64 b, .int .i64 c], .agg #[.int .i64 (qI a), .int .i64 (qI b), .int .i64 (qI c)]].getD i undef)) (by kernel_rfl) (by kernel_rfl) (fun _ _ _ _ _ h k => h.below k) (fun _ => exI_zero A B) ?_
  repeat (first | (refine wpQs_s ?_) | (refine wpQs_q (fun K hK => ?_); go_simp; first | (refine hK _ ?_; clear hK K) | (apply Exists.intro; refine ⟨fun _ => ?_, hK _ ?_⟩; (fail); clear hK K)))
  refine wpQs_nil ?_
  refine wpLsI_one rfl ?s0 (fun v0_ => ?_)
  case s0 =>
    intro S_ V_ w_ hw_ hV_ ha_ hn_ hI_
    obtain ⟨c0, c1, c2, -, -, -⟩ := (hI_.old1 hn_ rfl).c3
    have HF := Lib.hid (And.intro hw_ (hI_.lay (i := 0) (v := .agg #[.int .i64 x, .int .i64 y, .int .i64 z]) (show (0 : Nat) ≠ 7 by decide) (show (0 : Nat) ≠ 8 by decide) rfl (Below.refl _ _)))
    clear hV_ ha_ hn_ hI_ hw_
    go_simp
    exact HF.out
  refine wpLsI_one rfl ?s1 (fun v1_ => ?_)
  case s1 =>
    intro S_ V_ w_ hw_ hV_ ha_ hn_ hI_
    have hv : v0_ = .agg #[.int .i64 x, .int .i64 y, .int .i64 z] := (hV_ 0 (by decide) rfl).symm.trans (hI_.1 0 (ha_ 0 (by decide) rfl (by kernel_rfl)) (show (0 : Nat) ≠ 7 by decide) (show (0 : Nat) ≠ 8 by decide))
    have HF := Lib.hid (And.intro hw_ hI_)
    clear hV_ ha_ hn_ hI_ hw_
    subst hv
    go_simp
    refine (cutv_c _ _ _ _).mono ?_
    rintro e_ w2 ⟨rfl, k2⟩
    exact ⟨_, rfl, HF.out.1.on k2, HF.out.2.lay (show (1 : Nat) ≠ 7 by decide) (show (1 : Nat) ≠ 8 by decide) rfl k2⟩
  refine wpLsI_one rfl ?s2 (fun v2_ => ?_)
  case s2 =>
    intro S_ V_ w_ hw_ hV_ ha_ hn_ hI_
    obtain ⟨c0, c1, c2, -, -, -⟩ := (hI_.old2 hn_ rfl).c3
    have HF := Lib.hid (And.intro hw_ (hI_.lay (i := 2) (v := .agg #[.int .i64 a, .int .i64 b, .int .i64 c]) (show (2 : Nat) ≠ 7 by decide) (show (2 : Nat) ≠ 8 by decide) rfl (Below.refl _ _)))
    clear hV_ ha_ hn_ hI_ hw_
    go_simp
    exact HF.out
  refine wpLsI_one rfl ?s3 (fun v3_ => ?_)
  case s3 =>
    intro S_ V_ w_ hw_ hV_ ha_ hn_ hI_
    have hv : v2_ = .agg #[.int .i64 a, .int .i64 b, .int .i64 c] := (hV_ 2 (by decide) rfl).symm.trans (hI_.1 2 (ha_ 2 (by decide) rfl (by kernel_rfl)) (show (2 : Nat) ≠ 7 by decide) (show (2 : Nat) ≠ 8 by decide))
    have HF := Lib.hid (And.intro hw_ hI_)
    clear hV_ ha_ hn_ hI_ hw_
    subst hv
    go_simp
    refine (raycut_c _ _ _ _).mono ?_
    rintro e_ w2 ⟨rfl, k2⟩
    exact ⟨_, rfl, HF.out.1.on k2, HF.out.2.lay (show (3 : Nat) ≠ 7 by decide) (show (3 : Nat) ≠ 8 by decide) rfl k2⟩
  repeat (refine wpLsI_skip ?_)
  refine wpLsI_one rfl ?s7 (fun v7_ => ?_)
  case s7 =>
    intro S_ V_ w_ hw_ hV_ ha_ hn_ hI_
    have hv : v1_ = .agg #[.int .i64 (cutI x), .int .i64 (cutI y), .int .i64 (cutI z)] := (hV_ 1 (by decide) rfl).symm.trans (hI_.1 1 (ha_ 1 (by decide) rfl (by kernel_rfl)) (show (1 : Nat) ≠ 7 by decide) (show (1 : Nat) ≠ 8 by decide))
    have hp : S_ 0 := ha_ 0 (by decide) rfl (by kernel_rfl)
    have hb := hI_.be1 hn_
    have HB := Lib.hid hb
    have HF := Lib.hid (fun v => And.intro (keptD_set (b := N) hw_ (by simp) (kept3 (x := .int .i64 (cutI x)) (y := .int .i64 (cutI y)) (z := .int .i64 (cutI z)))) (hI_.fst (v := v) (show (7 : Nat) ≠ 8 by decide) hp (show N + 1 ≠ N by omega) kept3 (hb.st3 _ _ _)))
    clear hV_ ha_ hn_ hI_ hw_ hp hb
    subst hv
    go_simp
    have hb := HB.out
    obtain ⟨c0, c1, c2, f0, f1, f2⟩ := hb.c3
    go_simp
    exact HF.out _
  refine wpLsI_one rfl ?s8 (fun v8_ => ?_)
  case s8 =>
    intro S_ V_ w_ hw_ hV_ ha_ hn_ hI_
    have hv : v3_ = .agg #[.int .i64 (qI a), .int .i64 (qI b), .int .i64 (qI c)] := (hV_ 3 (by decide) rfl).symm.trans (hI_.1 3 (ha_ 3 (by decide) rfl (by kernel_rfl)) (show (3 : Nat) ≠ 7 by decide) (show (3 : Nat) ≠ 8 by decide))
    have hp : S_ 2 := ha_ 2 (by decide) rfl (by kernel_rfl)
    have hb := hI_.be2 hn_
    have HB := Lib.hid hb
    have HF := Lib.hid (fun v => And.intro (keptD_set (b := N + 1) hw_ (by simp) (kept3 (x := .int .i64 (qI a)) (y := .int .i64 (qI b)) (z := .int .i64 (qI c)))) (hI_.snd (v := v) (show (7 : Nat) ≠ 8 by decide) hp (show N ≠ N + 1 by omega) kept3 (hb.st3 _ _ _)))
    clear hV_ ha_ hn_ hI_ hw_ hp hb
    subst hv
    go_simp
    have hb := HB.out
    obtain ⟨c0, c1, c2, f0, f1, f2⟩ := hb.c3
    go_simp
    exact HF.out _
  repeat (refine wpLsI_skip ?_)
  refine wpLsI_nil fun V_ w2 hw_ hV_ hI_ => ?_
  have A2 := hI_.2.1.2.2 ⟨show (7 : Nat) < 10 by decide, rfl⟩
  have B2 := hI_.2.2.2.2 ⟨show (8 : Nat) < 10 by decide, rfl⟩
  have D2 := hw_.blk (by simp; omega) D
  have HW := Lib.hid hw_
  obtain ⟨d1, f1⟩ := D2.c1
  clear hV_ hI_ hw_ d0
  simp only [tails]
  go_wp2_with fail
  go_returns
  rw [HN.out] at A2 B2 D2 ⊢
  have HWW := HW.out
  rw [HN.out] at HWW
  exact ⟨rfl, (H.trans (HWW.below (n := w.heap.size) H.size (fun b hb h => by simp at h; omega))).setCell (p := ⟨w.heap.size + 1 + 1, 0, none⟩) (by dsimp only; omega) _, A2.far (p := ⟨w.heap.size + 1 + 1, 0, none⟩) (by dsimp only; omega) _, B2.far (p := ⟨w.heap.size + 1 + 1, 0, none⟩) (by dsimp only; omega) _, D2.set_ 0 _⟩
end Go.Proofs.Ytjlgcfdpfalbpaa
