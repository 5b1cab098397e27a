/- A box made near a small world: what is known of it. -/
import Derived.Test.YtckjpiioipkfcaaSwl
import Derived.Test.YtckjpiioipkfcaaNear
namespace Go.Proofs.Ytckjpiioipkfcaa
open Go.RowKit Go.Shelf

theorem nearx_c (a b c d e f : Int) (halves : Bool) (ha : In64 a) (hb : In64 b) (hc : In64 c) (hd : In64 d) (he : In64 e) (hf : In64 f) (w : World) :
    Calls Try.prog 11 #[.agg #[.int .i64 a, .int .i64 b, .int .i64 c, .int .i64 d, .int .i64 e, .int .i64 f], .bool halves] w fun r w' => ∃ y : B6, r = .returned (.agg (ag6 y)) ∧ Sm6 600000 y ∧ Below w.heap.size w w' := by
  refine (near_c a b c d e f halves ha hb hc hd he hf w).mono ?_
  rintro r w' ⟨h1, h2⟩
  have da := near_bd halves a d
  have db := near_bd halves b e
  have dc := near_bd halves c f
  refine ⟨(nearLo (unitI halves) a, nearLo (unitI halves) b, nearLo (unitI halves) c, nearHi (unitI halves) a d, nearHi (unitI halves) b e, nearHi (unitI halves) c f), h1, ?_, h2⟩
  constructor <;> dsimp only <;> omega
end Go.Proofs.Ytckjpiioipkfcaa
