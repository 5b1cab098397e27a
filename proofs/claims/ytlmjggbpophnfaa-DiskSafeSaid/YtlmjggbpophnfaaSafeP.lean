/- What is safe stays: the plain law. No program in sight. -/
import Derived.Test.YtlmjggbpophnfaaDiskQ
namespace Go.Proofs.Ytlmjggbpophnfaa

theorem safe_all {S : DS} {k : Nat} (hok : DOk S k 20) (hr : S.room = 1000000) (hk : k ≤ 30) {B O : Bs} (hB : B.length ≤ 20) (hO : O.length ≤ 20) (kp : Nat) :
    ∃ Sf S1 S2 S3 S4 : DS, S.fail 0 = Sf ∧ Sf.put 100 B = (S1, 0) ∧ S1.sync = (S2, 0) ∧ lenB S2.l = 0 ∧ S2.put 101 O = (S3, 0) ∧ lenB S3.l = O.length ∧ S3.crash kp = (S4, ((O.length - min kp O.length : Nat) : Int)) ∧
      S4.get 100 = some B ∧ S4.get 101 = some (O.take kp) ∧ lenB S4.l = 0 ∧ DOk Sf 40 20 ∧ DOk S1 40 20 ∧ DOk S2 40 20 ∧ DOk S3 40 20 ∧ DOk S4 40 20 := by
  have i100 : In64 100 := ⟨by decide, by decide⟩
  have i101 : In64 101 := ⟨by decide, by decide⟩
  have okf := hok.fail (n := 0) (by decide)
  have ef : S.fail 0 = { S with fails := 0, waits := 0 } := by unfold DS.fail; rw [if_neg (by decide)]
  have ok1 := okf.put i100 hB
  have e1 : (S.fail 0).put 100 B = ({ S.fail 0 with l := (S.fail 0).l ++ [(100, B)] }, 0) := dput_ok (by rw [ef]) (by rw [ef]) (fits_le okf hB (by rw [ef]; dsimp only; rw [hr]; omega))
  have ok2 := ok1.sync
  have e2 : ((S.fail 0).put 100 B).1.sync = ({ ((S.fail 0).put 100 B).1 with safe := ((S.fail 0).put 100 B).1.now, l := [] }, 0) := dsync_ok (by rw [e1, ef]) (by rw [e1, ef])
  have ok3 := ok2.put i101 hO
  have e3 : ((S.fail 0).put 100 B).1.sync.1.put 101 O = ({ ((S.fail 0).put 100 B).1.sync.1 with l := ((S.fail 0).put 100 B).1.sync.1.l ++ [(101, O)] }, 0) := dput_ok (by rw [e2, e1, ef]) (by rw [e2, e1, ef]) (fits_le ok2 hO (by rw [e2, e1, ef]; dsimp only; rw [hr]; omega))
  have ok4 := ok3.crash kp
  have l2 : ((S.fail 0).put 100 B).1.sync.1.l = [] := by rw [e2]
  have s2 : ((S.fail 0).put 100 B).1.sync.1.safe = putL (S.fail 0).now (100, B) := by
    rw [e2, e1]
    exact nowL_snoc _ _ _
  have rs := okf.now.1
  have rs2 : Rise (putL (S.fail 0).now ((100 : Int), B)) := rise_putL rs
  generalize hS2 : ((S.fail 0).put 100 B).1.sync.1 = S2 at *
  have l3 : (S2.put 101 O).1.l = [((101 : Int), O)] := by rw [e3]; dsimp only; rw [l2]; rfl
  have s3 : (S2.put 101 O).1.safe = putL (S.fail 0).now (100, B) := by rw [e3]; exact s2
  have n3 : lenB (S2.put 101 O).1.l = O.length := by rw [l3]; simp [lenB]
  have hkb : keepB (S2.put 101 O).1 kp = min kp O.length := by unfold keepB; rw [n3]; rfl
  have s4 : ((S2.put 101 O).1.crash kp).1.now = crashL (putL (S.fail 0).now (100, B)) [((101 : Int), O)] (min kp O.length) := by
    show nowL (crashL _ _ _) [] = _
    rw [hkb, l3, s3]
    rfl
  have hE2 : ((S.fail 0).put 100 B).1.sync = (S2, 0) := Prod.ext hS2 (by rw [e2])
  have g4 : (S2.put 101 O).1.crash kp = (((S2.put 101 O).1.crash kp).1, ((O.length - min kp O.length : Nat) : Int)) := by
    refine Prod.ext rfl ?_
    unfold DS.crash
    dsimp only
    rw [hkb, n3]
  have t4 : O.take (min kp O.length) = O.take kp := List.take_eq_take_iff.2 (by omega)
  refine ⟨S.fail 0, ((S.fail 0).put 100 B).1, S2, (S2.put 101 O).1, ((S2.put 101 O).1.crash kp).1, rfl, Prod.ext rfl (by rw [e1]), hE2, by rw [l2]; rfl, Prod.ext rfl (by rw [e3]), n3, g4, ?_, ?_, rfl, okf.mono (by omega) (Nat.le_refl _), ok1.mono (by omega) (Nat.le_refl _), ok2.mono (by omega) (Nat.le_refl _), ok3.mono (by omega) (Nat.le_refl _), ok4.mono (by omega) (Nat.le_refl _)⟩
  · unfold DS.get
    rw [s4, crash_get rs2 (fun p hp => by have e : p = ((101 : Int), O) := (by simpa using hp); rw [e]; show (101 : Int) ≠ 100; decide), getL_put _ _ rs, if_pos rfl]
  · unfold DS.get
    rw [s4]
    unfold crashL
    split
    · rename_i h
      dsimp only at h
      show getL (putL _ _) _ = _
      rw [getL_put _ _ rs2, if_pos rfl, ← t4, List.take_of_length_le (by omega)]
    · rw [getL_put _ _ rs2, if_pos rfl, t4]
end Go.Proofs.Ytlmjggbpophnfaa
