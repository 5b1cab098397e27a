/- A disk's calls whose answers are known. -/
import Derived.Test.YtlmjggbpophnfaaDoes3
import Derived.Test.YtlmjggbpophnfaaSafeP
namespace Go.Proofs.Ytlmjggbpophnfaa
open Go.RowKit Go.Maps

/-- A disk in a world, behind the base. -/
def At (w W : World) (d : Nat) (S : DS) : Prop := ∃ M, DiskIs W w.heap.size M d S ∧ Below w.heap.size w W ∧ w.heap.size ≤ W.heap.size
theorem At.on {w W W' : World} {d : Nat} {S : DS} (h : At w W d S) (hb : Below W.heap.size W W') : At w W' d S := by
  obtain ⟨M, h1, h2, h3⟩ := h
  exact ⟨M, h1.on hb, after h2 hb, Nat.le_trans h3 hb.size⟩
section
variable {w W : World} {d : Nat} {S S' : DS}
theorem put_e (h : At w W d S) (hok : DOk S 40 1000000) {k : Int} (hk : In64 k) {s : SL} (hs : GoodS w w.heap.size s) (hz : s.2.1 ≤ 1000000) (e : S.put k (rdB w s) = (S', 0)) :
    Calls Try.prog 10 #[.pointer (some ⟨d, 0, none⟩), .int .i64 k, .slice s.1 s.2.1 s.2.2] W fun r w' => r = .returned (.int .i64 0) ∧ At w w' d S' := by
  obtain ⟨M, h1, h2, h3⟩ := h
  have h4 := put_c w.heap.size d M S 40 W h1 hok (by omega) k hk s (hs.on h2).1 hz h3
  rw [(hs.on h2).2, e] at h4
  refine h4.mono ?_
  rintro r w' ⟨rfl, t⟩
  obtain ⟨k1, b1, M', D'⟩ := t.out h1 h3
  exact ⟨rfl, M', D', h2.trans k1, b1⟩
theorem sync_e (h : At w W d S) (hok : DOk S 40 1000000) (e : S.sync = (S', 0)) :
    Calls Try.prog 19 #[.pointer (some ⟨d, 0, none⟩)] W fun r w' => r = .returned (.int .i64 0) ∧ At w w' d S' := by
  obtain ⟨M, h1, h2, h3⟩ := h
  have h4 := sync_c w.heap.size d M S 40 W h1 hok (by omega) h3
  rw [e] at h4
  refine h4.mono ?_
  rintro r w' ⟨rfl, t⟩
  obtain ⟨k1, b1, M', D'⟩ := t.out h1 h3
  exact ⟨rfl, M', D', h2.trans k1, b1⟩
theorem fail_e (h : At w W d S) {n : Int} (hn : In64 n) (e : S.fail n = S') :
    Calls Try.prog 22 #[.pointer (some ⟨d, 0, none⟩), .int .i64 n] W fun r w' => r = .returned (.tuple #[]) ∧ At w w' d S' := by
  obtain ⟨M, h1, h2, h3⟩ := h
  have h4 := fail_c w.heap.size d M S W h1 n hn
  rw [e] at h4
  refine h4.mono ?_
  rintro r w' ⟨rfl, t⟩
  obtain ⟨k1, b1, M', D'⟩ := t.out h1 h3
  exact ⟨rfl, M', D', h2.trans k1, b1⟩
theorem crash_e (h : At w W d S) (hok : DOk S 40 1000000) {n m : Int} (e : S.crash n = (S', m)) :
    Calls Try.prog 14 #[.pointer (some ⟨d, 0, none⟩), .int .i64 n] W fun r w' => r = .returned (.int .i64 m) ∧ At w w' d S' := by
  obtain ⟨M, h1, h2, h3⟩ := h
  have h4 := crash_c w.heap.size d M S 40 W h1 hok (by omega) n
  rw [e] at h4
  refine h4.mono ?_
  rintro r w' ⟨rfl, t⟩
  obtain ⟨k1, b1, M', D'⟩ := t.out h1 h3
  exact ⟨rfl, M', D', h2.trans k1, b1⟩
theorem left_e (h : At w W d S) (hok : DOk S 40 1000000) {n : Nat} (e : lenB S.l = n) :
    Calls Try.prog 13 #[.pointer (some ⟨d, 0, none⟩)] W fun r w' => r = .returned (.int .i64 n) ∧ At w w' d S ∧ Below W.heap.size W w' := by
  have h0 := h
  obtain ⟨M, h1, h2, h3⟩ := h
  have h4 := left_c w.heap.size d M S 40 W h1 hok (by omega)
  rw [e] at h4
  refine h4.mono ?_
  rintro r w' ⟨rfl, t⟩
  exact ⟨rfl, h0.on t, t⟩
theorem get_e (h : At w W d S) (hok : DOk S 40 1000000) {k : Int} (hk : In64 k) {B : Bs} (e : S.get k = some B) :
    Calls Try.prog 15 #[.pointer (some ⟨d, 0, none⟩), .int .i64 k] W fun r w' => ∃ s : SL, r = .returned (.tuple #[slV s, .bool true]) ∧ GoodS w' w.heap.size s ∧ rdB w' s = B ∧ At w w' d S ∧ Below W.heap.size W w' := by
  have h0 := h
  obtain ⟨M, h1, h2, h3⟩ := h
  have h4 := get_c w.heap.size d M S 40 W h1 hok (by omega) k hk
  rw [e] at h4
  refine h4.mono ?_
  rintro r w' ⟨s, rfl, hg, hr, t⟩
  exact ⟨s, rfl, hg, hr, h0.on t, t⟩
end
end Go.Proofs.Ytlmjggbpophnfaa
