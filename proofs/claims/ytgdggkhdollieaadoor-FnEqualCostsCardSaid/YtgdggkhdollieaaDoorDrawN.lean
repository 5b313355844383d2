/-
  Graphs that are drawn for the laws.
-/
import Derived.Test.YtgdggkhdollieaaDoorDrawE
namespace Go.Proofs.YtgdggkhdollieaaDoor
open Go.RowKit
set_option linter.unusedVariables false

/-- What comes of drawing a graph. -/
def DrewG (W : World) (e : Ending) (w' : World) : Prop := ∃ a c g, e = .returned (.agg #[.int .i64 g.1, .slice a g.2.length c]) ∧ RdGraph w' (.agg #[.int .i64 g.1, .slice a g.2.length c]) g ∧ g.2.length ≤ 40 ∧ (-1 ≤ g.1 ∧ g.1 ≤ 17) ∧ (g.2.length ≤ c ∧ c ≤ 9223372036854775807) ∧ Below W.heap.size W w'
end Go.Proofs.YtgdggkhdollieaaDoor
