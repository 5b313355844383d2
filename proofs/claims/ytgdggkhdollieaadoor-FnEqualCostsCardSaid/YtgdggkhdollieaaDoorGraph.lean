/-
  Graphs: how they read; size, copy, comparison, marks.
-/
import Derived.Test.YtgdggkhdollieaaDoorArgs3
import Derived.Test.YtgdggkhdollieaaDoorArgs2
import Derived.Deep.RegionHeld3
namespace Go.Proofs.YtgdggkhdollieaaDoor
open Go.ChangeShapes Go.WideShapes Go.ChangeAt Go.RowKit Go.Joins Go.Deep
set_option linter.unusedVariables false

/-- A number of vertices, and edges. -/
abbrev GraphD := Int × List Tri
def RdGraph (w : World) (v : Value) (g : GraphD) : Prop := ∃ v1, v = .agg #[.int .i64 g.1, v1] ∧ RdEdgeS w v1 g.2
def WfGraph (g : GraphD) : Prop := In64 g.1 ∧ WfTriS g.2
section
variable {H : Type} {enc : TypeId × Value → H} {P : Program} {W : World}
theorem open_graph {r : Reach} {b0 : Nat} {t e : TypeId} {f0 f1 e0 e1 e2 : Field} {v : Value} {d : DataW H} {p : List MemPlace} (hs : P.underlying t = some (.struct #[f0, f1])) (hone : oneCellFields P #[f0, f1] = true) (hC : P.cellsOf t = 2)
    (h0 : P.underlying f0.type = some (.int .i64)) (h1 : P.underlying f1.type = some (.slice e)) (he : P.underlying e = some (.struct #[e0, e1, e2])) (hone2 : oneCellFields P #[e0, e1, e2] = true) (hC2 : P.cellsOf e = 3)
    (g0 : P.underlying e0.type = some (.int .i64)) (g1 : P.underlying e1.type = some (.int .i64)) (g2 : P.underlying e2.type = some (.int .i64))
    (hv : Value.okWide P W r b0 t v) (h : DataW.Trod enc P W 0 (fun _ => true) true t v d p) : ∃ y : GraphD, RdGraph W v y ∧ WfGraph y := by
  obtain ⟨v0, v1, y0, y1, n, rfl, _, _, t0, t1⟩ := open_agg2 hs hone hC hv h
  obtain ⟨m, rfl, hm⟩ := trod_int1 h0 t0
  obtain ⟨ys, hy, gy⟩ := trod_tris h1 he hone2 hC2 g0 g1 g2 t1
  exact ⟨(m, ys), ⟨v1, rfl, hy⟩, hm, gy⟩
end

def sizeGraph (g : GraphD) : Nat := g.2.length
theorem RdGraph.keep {w w' : World} {v : Value} {g : GraphD} (h : RdGraph w v g) (hb : Below w.heap.size w w') : RdGraph w' v g := by
  obtain ⟨v1, rfl, h1⟩ := h
  exact ⟨v1, rfl, h1.keep hb⟩
theorem RdGraph.form {w : World} {v : Value} {g : GraphD} (h : RdGraph w v g) : ∃ a c, v = .agg #[.int .i64 g.1, .slice a g.2.length c] ∧ RdEdgeS w (.slice a g.2.length c) g.2 ∧ g.2.length ≤ c ∧ c ≤ 9223372036854775807 := by
  obtain ⟨v1, rfl, h1⟩ := h
  obtain ⟨a, c, rfl, hc, hm⟩ := Rd.form h1
  exact ⟨a, c, rfl, h1, hc, hm⟩
/-- A graph whose edges are owned. -/
def OwGraph (lo hi : Nat) (w : World) (v : Value) (g : GraphD) : Prop := ∃ v1, v = .agg #[.int .i64 g.1, v1] ∧ OwEdgeS lo hi w v1 g.2
theorem OwGraph.rd {lo hi : Nat} {w : World} {v : Value} {g : GraphD} (h : OwGraph lo hi w v g) : RdGraph w v g := by
  obtain ⟨v1, rfl, h1⟩ := h
  exact ⟨v1, rfl, h1.rd⟩
theorem OwGraph.keep {lo hi : Nat} {w w' : World} {v : Value} {g : GraphD} (h : OwGraph lo hi w v g) (hb : Below w.heap.size w w') : OwGraph lo hi w' v g := by
  obtain ⟨v1, rfl, h1⟩ := h
  exact ⟨v1, rfl, h1.keep hb⟩
theorem OwGraph.chg {lo hi lo' hi' : Nat} {w w' : World} {v : Value} {g : GraphD} (h : OwGraph lo hi w v g) (hc : Chg lo' hi' w w') (hd : hi' ≤ lo ∨ hi ≤ lo') : OwGraph lo hi w' v g := by
  obtain ⟨v1, rfl, h1⟩ := h
  exact ⟨v1, rfl, h1.chg hc hd⟩
theorem OwGraph.form {lo hi : Nat} {w : World} {v : Value} {g : GraphD} (h : OwGraph lo hi w v g) : ∃ a c, v = .agg #[.int .i64 g.1, .slice a g.2.length c] := by
  obtain ⟨a, c, h, _⟩ := h.rd.form
  exact ⟨a, c, h⟩



end Go.Proofs.YtgdggkhdollieaaDoor
