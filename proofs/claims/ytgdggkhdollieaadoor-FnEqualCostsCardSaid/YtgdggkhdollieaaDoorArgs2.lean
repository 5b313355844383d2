/-
  How a struct that came in reads: three ints; two lists of ints.
-/
import Derived.Test.YtgdggkhdollieaaDoorArgs
import Derived.Test.YtgdggkhdollieaaDoorInts
namespace Go.Proofs.YtgdggkhdollieaaDoor
open Go.ChangeShapes Go.WideShapes Go.ChangeAt Go.RowKit Go.Joins Go.Deep
set_option linter.unusedVariables false

/-- Three ints. -/
abbrev Tri := Int × Int × Int
def triV (y : Tri) : Value := .agg #[.int .i64 y.1, .int .i64 y.2.1, .int .i64 y.2.2]
def WfTri (y : Tri) : Prop := In64 y.1 ∧ In64 y.2.1 ∧ In64 y.2.2

section
variable {H : Type} {enc : TypeId × Value → H} {P : Program} {W : World}
theorem open_tri {r : Reach} {b0 : Nat} {t : TypeId} {f0 f1 f2 : Field} {v : Value} {d : DataW H} {p : List MemPlace} (hs : P.underlying t = some (.struct #[f0, f1, f2])) (hone : oneCellFields P #[f0, f1, f2] = true) (hC : P.cellsOf t = 3)
    (h0 : P.underlying f0.type = some (.int .i64)) (h1 : P.underlying f1.type = some (.int .i64)) (h2 : P.underlying f2.type = some (.int .i64))
    (hv : Value.okWide P W r b0 t v) (h : DataW.Trod enc P W 0 (fun _ => true) true t v d p) : ∃ y : Tri, v = triV y ∧ WfTri y := by
  obtain ⟨v0, v1, v2, y0, y1, y2, n, rfl, _, _, t0, t1, t2⟩ := open_agg3 hs hone hC hv h
  obtain ⟨a, rfl, ha⟩ := trod_int1 h0 t0
  obtain ⟨b, rfl, hb⟩ := trod_int1 h1 t1
  obtain ⟨c, rfl, hc⟩ := trod_int1 h2 t2
  exact ⟨(a, b, c), rfl, ha, hb, hc⟩
/-- Two lists of ints. -/
abbrev DiskD := List Int × List Int
def RdDisk (w : World) (v : Value) (d : DiskD) : Prop := ∃ v0 v1, v = .agg #[v0, v1] ∧ RdIntS w v0 d.1 ∧ RdIntS w v1 d.2
def WfDisk (d : DiskD) : Prop := WfIntS d.1 ∧ WfIntS d.2
theorem open_disk {r : Reach} {b0 : Nat} {t e : TypeId} {f0 f1 : Field} {v : Value} {d : DataW H} {p : List MemPlace} (hs : P.underlying t = some (.struct #[f0, f1])) (hone : oneCellFields P #[f0, f1] = true) (hC : P.cellsOf t = 2)
    (h0 : P.underlying f0.type = some (.slice e)) (h1 : P.underlying f1.type = some (.slice e)) (he : P.underlying e = some (.int .i64)) (hc : P.cellsOf e = 1)
    (hv : Value.okWide P W r b0 t v) (h : DataW.Trod enc P W 0 (fun _ => true) true t v d p) : ∃ y : DiskD, RdDisk W v y ∧ WfDisk y := by
  obtain ⟨v0, v1, y0, y1, n, rfl, _, _, t0, t1⟩ := open_agg2 hs hone hC hv h
  obtain ⟨xs, hx, gx⟩ := trod_ints h0 he hc t0
  obtain ⟨ys, hy, gy⟩ := trod_ints h1 he hc t1
  exact ⟨(xs, ys), ⟨v0, v1, rfl, hx, hy⟩, gx, gy⟩
end
end Go.Proofs.YtgdggkhdollieaaDoor
