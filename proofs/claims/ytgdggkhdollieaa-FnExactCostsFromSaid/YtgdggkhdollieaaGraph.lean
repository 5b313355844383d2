/-
  Graphs: how they read; size, copy, comparison, marks.
-/
import Derived.Test.YtgdggkhdollieaaArgs3
import Derived.Test.YtgdggkhdollieaaArgs2
import Derived.Deep.RegionHeld3
namespace Go.Proofs.Ytgdggkhdollieaa
open Go.ChangeShapes Go.WideShapes Go.ChangeAt Go.RowKit Go.Joins Go.Deep
set_option linter.unusedVariables false

/-- A number of vertices, and edges. -/
abbrev GraphD := Int × List Tri
def RdGraph (w : World) (v : Value) (g : GraphD) : Prop := ∃ v1, v = .agg #[.int .i64 g.1, v1] ∧ RdEdgeS w v1 g.2
def WfGraph (g : GraphD) : Prop := In64 g.1 ∧ WfTriS g.2
section
variable {H : Type} {enc : TypeId × Value → H} {P : Program} {W : World}
theorem open_graph {r : Reach} {b0 : Nat} {t e : TypeId} {f0 f1 e0 e1 e2 : Field} {v : Value} {d : DataW H} {p : List MemPlace} (hs : P.underlying t = some (.struct #[f0, f1])) (hone : oneCellFields P #[f0, f1] = true) (hC : P.cellsOf t = 2)
    (h0 : P.underlying f0.type = some (.int .i64)) (h1 : P.underlying f1.type = some (.slice e)) (he : P.underlying e = some (.struct #[e0, e1, e2])) (hone2 : oneCellFields P #[e0, e1, e2] = true) (hC2 : P.cellsOf e = 3)
    (g0 : P.underlying e0.type = some (.int .i64)) (g1 : P.underlying e1.type = some (.int .i64)) (g2 : P.underlying e2.type = some (.int .i64))
    (hv : Value.okWide P W r b0 t v) (h : DataW.Trod enc P W 0 (fun _ => true) true t v d p) : ∃ y : GraphD, RdGraph W v y ∧ WfGraph y := by
  obtain ⟨v0, v1, y0, y1, n, rfl, _, _, t0, t1⟩ := open_agg2 hs hone hC hv h
  obtain ⟨m, rfl, hm⟩ := trod_int1 h0 t0
  obtain ⟨ys, hy, gy⟩ := trod_tris h1 he hone2 hC2 g0 g1 g2 t1
  exact ⟨(m, ys), ⟨v1, rfl, hy⟩, hm, gy⟩
end

def sizeGraph (g : GraphD) : Nat := g.2.length
theorem RdGraph.keep {w w' : World} {v : Value} {g : GraphD} (h : RdGraph w v g) (hb : Below w.heap.size w w') : RdGraph w' v g := by
  obtain ⟨v1, rfl, h1⟩ := h
  exact ⟨v1, rfl, h1.keep hb⟩
theorem RdGraph.form {w : World} {v : Value} {g : GraphD} (h : RdGraph w v g) : ∃ a c, v = .agg #[.int .i64 g.1, .slice a g.2.length c] ∧ RdEdgeS w (.slice a g.2.length c) g.2 ∧ g.2.length ≤ c ∧ c ≤ 9223372036854775807 := by
  obtain ⟨v1, rfl, h1⟩ := h
  obtain ⟨a, c, rfl, hc, hm⟩ := Rd.form h1
  exact ⟨a, c, rfl, h1, hc, hm⟩
/-- A graph whose edges are owned. -/
def OwGraph (lo hi : Nat) (w : World) (v : Value) (g : GraphD) : Prop := ∃ v1, v = .agg #[.int .i64 g.1, v1] ∧ OwEdgeS lo hi w v1 g.2
theorem OwGraph.rd {lo hi : Nat} {w : World} {v : Value} {g : GraphD} (h : OwGraph lo hi w v g) : RdGraph w v g := by
  obtain ⟨v1, rfl, h1⟩ := h
  exact ⟨v1, rfl, h1.rd⟩
theorem OwGraph.keep {lo hi : Nat} {w w' : World} {v : Value} {g : GraphD} (h : OwGraph lo hi w v g) (hb : Below w.heap.size w w') : OwGraph lo hi w' v g := by
  obtain ⟨v1, rfl, h1⟩ := h
  exact ⟨v1, rfl, h1.keep hb⟩
theorem OwGraph.chg {lo hi lo' hi' : Nat} {w w' : World} {v : Value} {g : GraphD} (h : OwGraph lo hi w v g) (hc : Chg lo' hi' w w') (hd : hi' ≤ lo ∨ hi ≤ lo') : OwGraph lo hi w' v g := by
  obtain ⟨v1, rfl, h1⟩ := h
  exact ⟨v1, rfl, h1.chg hc hd⟩
theorem OwGraph.form {lo hi : Nat} {w : World} {v : Value} {g : GraphD} (h : OwGraph lo hi w v g) : ∃ a c, v = .agg #[.int .i64 g.1, .slice a g.2.length c] := by
  obtain ⟨a, c, h, _⟩ := h.rd.form
  exact ⟨a, c, h⟩

set_option maxRecDepth 100000 in
theorem szGraph_ok (w : World) (va : Value) (g : GraphD) (left : Int) (h : RdGraph w va g) (hl : (sizeGraph g : Int) ≤ left) (h2 : left ≤ 1048576) :
    Calls Try.prog 30 #[va, .int .i64 left] w fun e w' => e = .returned (.int .i64 (left - (sizeGraph g : Int))) ∧ Below w.heap.size w w' := by
  obtain ⟨v1, rfl, h1⟩ := h
  unfold sizeGraph at *
  have hb : Below w.heap.size w (w.alloc (.cells #[.int .i64 g.1, v1] 48)) := (Below.refl _ _).alloc (Nat.le_refl _) _
  have C1 := Lib.hid (szEdgeS_ok _ _ _ left (h1.keep hb) hl h2)
  clear h1
  generalize (g.2.length : Int) = n at *
  have t : decide (left - n < 0) = false := by simp; omega
  go_enter Try.func30, Try.ntmps30
  go_wp2_with fail
  refine C1.out.mono ?_
  rintro e w' ⟨rfl, rfl⟩
  go_wp2_with fail
  go_ret
  exact ⟨rfl, hb⟩
set_option maxRecDepth 100000 in
theorem szGraph_no (w : World) (va : Value) (g : GraphD) (left : Int) (h : RdGraph w va g) (hl : left < (sizeGraph g : Int)) (h0 : 0 ≤ left) (h2 : left ≤ 1048576) :
    Calls Try.prog 30 #[va, .int .i64 left] w fun e w' => e = .returned (.int .i64 (-1)) ∧ Below w.heap.size w w' := by
  obtain ⟨v1, rfl, h1⟩ := h
  unfold sizeGraph at *
  have hb : Below w.heap.size w (w.alloc (.cells #[.int .i64 g.1, v1] 48)) := (Below.refl _ _).alloc (Nat.le_refl _) _
  have C1 := Lib.hid (szEdgeS_no _ _ _ left (h1.keep hb) hl h0 h2)
  clear h1
  go_enter Try.func30, Try.ntmps30
  go_wp2_with fail
  refine C1.out.mono ?_
  rintro e w' ⟨rfl, rfl⟩
  go_wp2_with fail
  go_ret
  exact ⟨rfl, hb⟩

set_option maxRecDepth 100000 in
set_option maxHeartbeats 1000000 in
theorem toGraph_any (w : World) (va : Value) (g : GraphD) (h : RdGraph w va g) (hs : sizeGraph g ≤ 1099511627776) :
    Calls Try.prog 32 #[va] w fun e w' => ∃ v, e = .returned v ∧ OwGraph w.heap.size w'.heap.size w' v g ∧ Below w.heap.size w w' := by
  obtain ⟨v1, rfl, h1⟩ := h
  unfold sizeGraph at *
  have H1 := Lib.hid h1; clear h1
  obtain ⟨m, ys⟩ := g
  simp only at H1 hs
  go_enter Try.func32, Try.ntmps32
  go_wp2_with fail
  have B2 := Lib.hid (box_alloc (heap_alloc_new (w.alloc (.cells #[.int .i64 m, v1] 48)) (.cells #[.int .i64 0, .slice none 0 0] 55)) (.cells #[.int .i64 m, .slice none 0 0] 55))
  have B3 := Lib.hid (heap_alloc_new ((w.alloc (.cells #[.int .i64 m, v1] 48)).alloc (.cells #[.int .i64 0, .slice none 0 0] 55)) (.cells #[.int .i64 m, .slice none 0 0] 55))
  have HB : Hid (Below w.heap.size w (((w.alloc (.cells #[.int .i64 m, v1] 48)).alloc (.cells #[.int .i64 0, .slice none 0 0] 55)).alloc (.cells #[.int .i64 m, .slice none 0 0] 55))) := Lib.hid (by go_grown)
  simp only [World.size_alloc] at B2 B3
  generalize (((w.alloc (.cells #[.int .i64 m, v1] 48)).alloc (.cells #[.int .i64 0, .slice none 0 0] 55)).alloc (.cells #[.int .i64 m, .slice none 0 0] 55)) = w0 at *
  refine (toEdgeS_any _ _ ys (H1.out.keep HB.out) (by omega)).mono ?_
  rintro e w1 ⟨x0, rfl, ho1, hb1⟩
  obtain ⟨a0, c0, rfl, -, -⟩ := Rd.form ho1.rd
  have hB3 := box_lt B3.out
  replace B2 := Lib.hid (box_keep B2.out hb1)
  replace B3 := Lib.hid (box_keep B3.out hb1)
  have HO1 := Lib.hid ho1
  have hw0 := HB.out.size
  have hw1 := hb1.size
  replace HB := Lib.hid (HB.out.tr hb1)
  clear ho1 hb1
  have k20 := box_cell B2.out 0 _ rfl
  have k21 := box_cell B2.out 1 _ rfl
  have f20 := box_frozen B2.out 0
  have f21 := box_frozen B2.out 1
  have k30 := box_cell B3.out 0 (.int .i64 m) rfl
  have k31 := box_cell B3.out 1 _ rfl
  have f3 := box_frozen B3.out 1
  go_wp2_with fail
  have hK : Chg (w.heap.size + 1) (w.heap.size + 1 + 1 + 1) w1 (((w1.setCell ⟨w.heap.size + 1 + 1, 1, none⟩ (.slice a0 ys.length c0)).setCell ⟨w.heap.size + 1, 0, none⟩ (.int .i64 m)).setCell ⟨w.heap.size + 1, 1, none⟩ (.slice a0 ys.length c0)) :=
    ((Chg.setCell (p := ⟨w.heap.size + 1 + 1, 1, none⟩) (by simp) (by simp) _).trans (Chg.setCell (p := ⟨w.heap.size + 1, 0, none⟩) (by simp) (by simp) _)).trans (Chg.setCell (p := ⟨w.heap.size + 1, 1, none⟩) (by simp) (by simp) _)
  have HO1' := HO1.out.chg hK (.inl (by omega))
  refine bodyPost_ret (v := .agg #[.int .i64 m, .slice a0 ys.length c0]) (by simp [results, Try.results32, go_sem, k20, k21]) rfl ⟨_, rfl, ⟨_, rfl, HO1'.mono (by omega) (by simp)⟩, hK.below HB.out (by omega)⟩

set_option maxRecDepth 100000 in
set_option maxHeartbeats 1000000 in
theorem eqGraph_same (w : World) (va vb : Value) (g : GraphD) (ha : RdGraph w va g) (hb : RdGraph w vb g) :
    Calls Try.prog 35 #[va, vb] w fun e w' => e = .returned (.bool true) ∧ Below w.heap.size w w' := by
  obtain ⟨v1, rfl, a1⟩ := ha
  obtain ⟨u1, rfl, b1⟩ := hb
  obtain ⟨m, ys⟩ := g
  have A1 := Lib.hid a1; have B1 := Lib.hid b1; clear a1 b1
  simp only at A1 B1
  go_enter Try.func35, Try.ntmps35
  go_wp2_with fail
  have HB : Hid (Below w.heap.size w ((w.alloc (.cells #[.int .i64 m, v1] 55)).alloc (.cells #[.int .i64 m, u1] 55))) := Lib.hid (by go_grown)
  generalize ((w.alloc (.cells #[.int .i64 m, v1] 55)).alloc (.cells #[.int .i64 m, u1] 55)) = w0 at *
  refine (eqEdgeS_same _ _ _ ys (A1.out.keep HB.out) (B1.out.keep HB.out)).mono ?_
  rintro e w1 ⟨rfl, hb1⟩
  replace HB := Lib.hid (HB.out.tr hb1)
  clear hb1
  go_wp2_with fail
  go_ret
  exact ⟨rfl, HB.out⟩

def cntGraph (g : GraphD) : Nat := 3 * g.2.length
def MkGraph (m : Int) (g y : GraphD) : Prop := y.1 = g.1 ∧ MkEdgeS m g.2 y.2
set_option maxRecDepth 100000 in
set_option maxHeartbeats 1000000 in
theorem markGraph_any (w : World) (lo hi : Nat) (va : Value) (m : Int) (g : GraphD) (ha : OwGraph lo hi w va g) (hm : 0 ≤ m) (hn : m + (cntGraph g : Int) ≤ 9223372036854775000) :
    Calls Try.prog 46 #[va, .int .i64 m] w fun e w' => ∃ y, e = .returned (.int .i64 (m + (cntGraph g : Int))) ∧ MkGraph m g y ∧ OwGraph lo hi w' va y ∧ Chg lo hi w w' := by
  obtain ⟨v1, rfl, o1⟩ := ha
  unfold cntGraph at *
  have hb : Below w.heap.size w (w.alloc (.cells #[.int .i64 g.1, v1] 55)) := (Below.refl _ _).alloc (Nat.le_refl _) _
  have HC := Lib.hid ((Chg.refl lo hi w).alloc (.cells #[.int .i64 g.1, v1] 55))
  have C1 := Lib.hid (markEdgeS_any _ lo hi _ m g.2 (o1.keep hb) hm (by unfold cntEdgeS; omega))
  clear o1 hb
  go_enter Try.func46, Try.ntmps46
  go_wp2_with fail
  generalize (w.alloc (.cells #[.int .i64 g.1, v1] 55)) = w0 at *
  refine C1.out.mono ?_
  rintro e w1 ⟨ys, rfl, hm1, ho1, hc⟩
  replace HC := Lib.hid (HC.out.trans hc)
  clear hc
  unfold cntEdgeS
  go_wp2_with fail
  go_ret
  exact ⟨(g.1, ys), rfl, ⟨rfl, hm1⟩, ⟨_, rfl, ho1⟩, HC.out⟩
end Go.Proofs.Ytgdggkhdollieaa
