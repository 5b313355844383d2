/-
  States: how they read; size, copy, comparison, marks.
-/
import Derived.Test.YtgdggkhdollieaaArgs3
import Derived.Test.YtgdggkhdollieaaArgs2
import Derived.Test.YtgdggkhdollieaaBools
import Derived.Test.YtgdggkhdollieaaSame
import Derived.Deep.Grids
import Derived.Deep.RegionHeld3
namespace Go.Proofs.Ytgdggkhdollieaa
open Go.ChangeShapes Go.WideShapes Go.ChangeAt Go.RowKit Go.Joins Go.Deep
set_option linter.unusedVariables false

/-- A round, values, marks, messages. -/
abbrev StateD := Int × List Int × List Bool × List Tri
def RdState (w : World) (v : Value) (s : StateD) : Prop := ∃ v1 v2 v3, v = .agg #[.int .i64 s.1, v1, v2, v3] ∧ RdIntS w v1 s.2.1 ∧ RdBoolS w v2 s.2.2.1 ∧ Rd w 3 v3 s.2.2.2.length (tris s.2.2.2)
def WfState (s : StateD) : Prop := In64 s.1 ∧ WfIntS s.2.1 ∧ WfTriS s.2.2.2
section
variable {H : Type} {enc : TypeId × Value → H} {P : Program} {W : World}
theorem trod_bools {t e : TypeId} {n : Nat} {v : Value} {x : DataW H × List MemPlace} (ht : P.underlying t = some (.slice e)) (he : P.underlying e = some .bool) (hc : P.cellsOf e = 1)
    (h : DataW.trod enc P W 0 (fun _ => true) true n t [v] = some x) : ∃ xs : List Bool, Rd W 1 v xs.length (bools xs) := by
  rcases open_bools ht he hc h with ⟨hcs, _⟩ | ⟨a, len, cap, B, hcs, _, hl, hm, _, hcell⟩
  · obtain rfl : v = .slice none 0 0 := by simpa using hcs
    exact ⟨[], Rd.nil _ _⟩
  · obtain rfl : v = .slice (some a) len cap := by simpa using hcs
    refine ⟨(List.range len).map B, ?_⟩
    have hlen : ((List.range len).map B).length = len := by simp
    rw [hlen]
    refine ⟨by rw [bools_length, hlen]; omega, some a, cap, rfl, hl, hm, ?_⟩
    by_cases h0 : len = 0
    · exact .inl (by subst h0; simp [bools])
    · right
      obtain ⟨b, off, spot⟩ := a
      have hc0 := hcell 0 (by omega)
      have hspot : spot = none := by simpa [Addr.add] using World.cell?_spot hc0
      subst hspot
      refine ⟨b, off, rfl, fun i hi => ?_⟩
      have hi' : i < len := by rw [bools_length, hlen] at hi; exact hi
      have h1 := hcell i (by omega)
      rw [add_lit'] at h1
      rw [h1, bools_get _ i (by rw [hlen]; exact hi')]
      simp [hi']
theorem open_state {r : Reach} {b0 : Nat} {t ti tb tm eb em : TypeId} {f0 f1 f2 f3 e0 e1 e2 : Field} {v : Value} {d : DataW H} {p : List MemPlace} {ei : TypeId} (hs : P.underlying t = some (.struct #[f0, f1, f2, f3])) (hone : oneCellFields P #[f0, f1, f2, f3] = true) (hC : P.cellsOf t = 4)
    (h0 : P.underlying f0.type = some (.int .i64)) (h1 : P.underlying f1.type = some (.slice ei)) (hi : P.underlying ei = some (.int .i64)) (hci : P.cellsOf ei = 1)
    (h2 : P.underlying f2.type = some (.slice eb)) (hb : P.underlying eb = some .bool) (hcb : P.cellsOf eb = 1)
    (h3 : P.underlying f3.type = some (.slice em)) (he : P.underlying em = some (.struct #[e0, e1, e2])) (hone2 : oneCellFields P #[e0, e1, e2] = true) (hC2 : P.cellsOf em = 3)
    (g0 : P.underlying e0.type = some (.int .i64)) (g1 : P.underlying e1.type = some (.int .i64)) (g2 : P.underlying e2.type = some (.int .i64))
    (hv : Value.okWide P W r b0 t v) (h : DataW.Trod enc P W 0 (fun _ => true) true t v d p) : ∃ y : StateD, RdState W v y ∧ WfState y := by
  obtain ⟨v0, v1, v2, v3, y0, y1, y2, y3, n, rfl, _, _, t0, t1, t2, t3⟩ := open_agg4 hs hone hC hv h
  obtain ⟨m, rfl, hm⟩ := trod_int1 h0 t0
  obtain ⟨xs, hx, gx⟩ := trod_ints h1 hi hci t1
  obtain ⟨bs, hbs⟩ := trod_bools h2 hb hcb t2
  obtain ⟨ys, hy, gy⟩ := trod_tris h3 he hone2 hC2 g0 g1 g2 t3
  exact ⟨(m, xs, bs, ys), ⟨v1, v2, v3, rfl, hx, hbs, hy⟩, hm, gx, gy⟩
end
def sizeState (s : StateD) : Nat := s.2.1.length + s.2.2.1.length + s.2.2.2.length
theorem RdState.keep {w w' : World} {v : Value} {s : StateD} (h : RdState w v s) (hb : Below w.heap.size w w') : RdState w' v s := by
  obtain ⟨v1, v2, v3, rfl, h1, h2, h3⟩ := h
  exact ⟨v1, v2, v3, rfl, h1.keep hb, h2.keep hb, h3.keep hb⟩
def OwState (lo hi : Nat) (w : World) (v : Value) (s : StateD) : Prop := ∃ v1 v2 v3, v = .agg #[.int .i64 s.1, v1, v2, v3] ∧ OwIntS lo hi w v1 s.2.1 ∧ OwBoolS lo hi w v2 s.2.2.1 ∧ Ow lo hi w 33 3 v3 s.2.2.2.length (tris s.2.2.2)
theorem OwState.rd {lo hi : Nat} {w : World} {v : Value} {s : StateD} (h : OwState lo hi w v s) : RdState w v s := by
  obtain ⟨v1, v2, v3, rfl, h1, h2, h3⟩ := h
  exact ⟨v1, v2, v3, rfl, h1.rd, h2.rd, h3.rd⟩
theorem OwState.keep {lo hi : Nat} {w w' : World} {v : Value} {s : StateD} (h : OwState lo hi w v s) (hb : Below w.heap.size w w') : OwState lo hi w' v s := by
  obtain ⟨v1, v2, v3, rfl, h1, h2, h3⟩ := h
  exact ⟨v1, v2, v3, rfl, h1.keep hb, h2.keep hb, h3.keep hb⟩

theorem szIntS_ok (w : World) (va : Value) (xs : List Int) (left : Int) (h : RdIntS w va xs) (hl : (xs.length : Int) ≤ left) (h2 : left ≤ 1048576) :
    Calls Try.prog 80 #[va, .int .i64 left] w fun e w' => e = .returned (.int .i64 (left - (xs.length : Int))) ∧ w = w' := by
  obtain ⟨a, ca, rfl, hca, hma, Ha⟩ := h.int
  clear h Ha
  go_enter Try.func80, Try.ntmps80
  go_wp2_with fail
  go_ret
  exact ⟨rfl, rfl⟩
theorem szIntS_no (w : World) (va : Value) (xs : List Int) (left : Int) (h : RdIntS w va xs) (hl : left < (xs.length : Int)) (h0 : 0 ≤ left) (h2 : left ≤ 1048576) :
    Calls Try.prog 80 #[va, .int .i64 left] w fun e w' => e = .returned (.int .i64 (-1)) ∧ w = w' := by
  obtain ⟨a, ca, rfl, hca, hma, Ha⟩ := h.int
  clear h Ha
  go_enter Try.func80, Try.ntmps80
  go_wp2_with fail
  go_ret
  exact ⟨rfl, rfl⟩

set_option maxRecDepth 100000 in
set_option maxHeartbeats 1000000 in
theorem szState_ok (w : World) (va : Value) (s : StateD) (left : Int) (h : RdState w va s) (hl : (sizeState s : Int) ≤ left) (h2 : left ≤ 1048576) :
    Calls Try.prog 40 #[va, .int .i64 left] w fun e w' => e = .returned (.int .i64 (left - (sizeState s : Int))) ∧ Below w.heap.size w w' := by
  obtain ⟨v1, v2, v3, rfl, r1, r2, r3⟩ := h
  obtain ⟨m, xs, bs, ys⟩ := s
  unfold sizeState at *
  simp only at *
  have hb : Below w.heap.size w (w.alloc (.cells #[.int .i64 m, v1, v2, v3] 65)) := (Below.refl _ _).alloc (Nat.le_refl _) _
  have C1 := Lib.hid (szIntS_ok _ _ _ left (r1.keep hb) (by omega) h2)
  have C2 := Lib.hid (szBoolS_ok _ _ _ (left - (xs.length : Int)) (r2.keep hb) (by omega) (by omega))
  have C3 := Lib.hid (szMessageS_ok _ _ _ (left - (xs.length : Int) - (bs.length : Int)) (r3.keep hb) (by omega) (by omega))
  have e1 : left - ((xs.length + bs.length + ys.length : Nat) : Int) = left - (xs.length : Int) - (bs.length : Int) - (ys.length : Int) := by omega
  rw [e1]
  have hl' : (xs.length : Int) + (bs.length : Int) + (ys.length : Int) ≤ left := by omega
  clear r1 r2 r3 hl e1
  generalize xs.length = n1 at *
  generalize bs.length = n2 at *
  generalize ys.length = n3 at *
  have HBB := Lib.hid hb; clear hb
  have t1 : decide (left - (n1 : Int) < 0) = false := by simp; omega
  have t2 : decide (left - (n1 : Int) - (n2 : Int) < 0) = false := by simp; omega
  have t3 : decide (left - (n1 : Int) - (n2 : Int) - (n3 : Int) < 0) = false := by simp; omega
  go_enter Try.func40, Try.ntmps40
  go_wp2_with fail
  refine C1.out.mono ?_
  rintro e w' ⟨rfl, rfl⟩
  go_wp2_with fail
  refine C2.out.mono ?_
  rintro e w' ⟨rfl, rfl⟩
  go_wp2_with fail
  refine C3.out.mono ?_
  rintro e w' ⟨rfl, rfl⟩
  go_wp2_with fail
  go_ret
  exact ⟨rfl, HBB.out⟩
set_option maxRecDepth 100000 in
set_option maxHeartbeats 1000000 in
theorem szState_no (w : World) (va : Value) (s : StateD) (left : Int) (h : RdState w va s) (hl : left < (sizeState s : Int)) (h0 : 0 ≤ left) (h2 : left ≤ 1048576) :
    Calls Try.prog 40 #[va, .int .i64 left] w fun e w' => e = .returned (.int .i64 (-1)) ∧ Below w.heap.size w w' := by
  obtain ⟨v1, v2, v3, rfl, r1, r2, r3⟩ := h
  obtain ⟨m, xs, bs, ys⟩ := s
  unfold sizeState at *
  simp only at *
  have hb : Below w.heap.size w (w.alloc (.cells #[.int .i64 m, v1, v2, v3] 65)) := (Below.refl _ _).alloc (Nat.le_refl _) _
  have HBB := Lib.hid hb
  by_cases p1 : (xs.length : Int) ≤ left
  · have C1 := Lib.hid (szIntS_ok _ _ _ left (r1.keep hb) p1 h2)
    by_cases p2 : (bs.length : Int) ≤ left - (xs.length : Int)
    · have C2 := Lib.hid (szBoolS_ok _ _ _ (left - (xs.length : Int)) (r2.keep hb) p2 (by omega))
      have C3 := Lib.hid (szMessageS_no _ _ _ (left - (xs.length : Int) - (bs.length : Int)) (r3.keep hb) (by omega) (by omega) (by omega))
      clear r1 r2 r3 hl hb
      generalize xs.length = n1 at *
      generalize bs.length = n2 at *
      have t1 : decide (left - (n1 : Int) < 0) = false := by simp; omega
      have t2 : decide (left - (n1 : Int) - (n2 : Int) < 0) = false := by simp; omega
      go_enter Try.func40, Try.ntmps40
      go_wp2_with fail
      refine C1.out.mono ?_
      rintro e w' ⟨rfl, rfl⟩
      go_wp2_with fail
      refine C2.out.mono ?_
      rintro e w' ⟨rfl, rfl⟩
      go_wp2_with fail
      refine C3.out.mono ?_
      rintro e w' ⟨rfl, rfl⟩
      go_wp2_with fail
      go_ret
      exact ⟨rfl, HBB.out⟩
    · have C2 := Lib.hid (szBoolS_no _ _ _ (left - (xs.length : Int)) (r2.keep hb) (by omega) (by omega) (by omega))
      clear r1 r2 r3 hl hb
      generalize xs.length = n1 at *
      have t1 : decide (left - (n1 : Int) < 0) = false := by simp; omega
      go_enter Try.func40, Try.ntmps40
      go_wp2_with fail
      refine C1.out.mono ?_
      rintro e w' ⟨rfl, rfl⟩
      go_wp2_with fail
      refine C2.out.mono ?_
      rintro e w' ⟨rfl, rfl⟩
      go_wp2_with fail
      go_ret
      exact ⟨rfl, HBB.out⟩
  · have C1 := Lib.hid (szIntS_no _ _ _ left (r1.keep hb) (by omega) h0 h2)
    clear r1 r2 r3 hl hb
    go_enter Try.func40, Try.ntmps40
    go_wp2_with fail
    refine C1.out.mono ?_
    rintro e w' ⟨rfl, rfl⟩
    go_wp2_with fail
    go_ret
    exact ⟨rfl, HBB.out⟩

set_option maxRecDepth 100000 in
set_option maxHeartbeats 2000000 in
theorem toState_any (w : World) (va : Value) (s : StateD) (h : RdState w va s) (hs : sizeState s ≤ 1099511627776) :
    Calls Try.prog 42 #[va] w fun e w' => ∃ v, e = .returned v ∧ OwState w.heap.size w'.heap.size w' v s ∧ Below w.heap.size w w' := by
  obtain ⟨v1, v2, v3, rfl, r1, r2, r3⟩ := h
  obtain ⟨m, xs, bs, ys⟩ := s
  unfold sizeState at *
  simp only at *
  have R1 := Lib.hid r1; have R2 := Lib.hid r2; have R3 := Lib.hid r3; clear r1 r2 r3
  have hs1 : xs.length ≤ 1099511627776 := by omega
  have hs2 : bs.length ≤ 1099511627776 := by omega
  have hs3 : ys.length ≤ 1099511627776 := by omega
  go_enter Try.func42, Try.ntmps42
  go_wp2_with fail
  have B1 := Lib.hid (box_alloc (box_alloc (heap_alloc_new w (.cells #[.int .i64 m, v1, v2, v3] 65)) (.cells #[.int .i64 0, .slice none 0 0, .slice none 0 0, .slice none 0 0] 41)) (.cells #[.int .i64 m, .slice none 0 0, .slice none 0 0, .slice none 0 0] 41))
  have B2 := Lib.hid (box_alloc (heap_alloc_new (w.alloc (.cells #[.int .i64 m, v1, v2, v3] 65)) (.cells #[.int .i64 0, .slice none 0 0, .slice none 0 0, .slice none 0 0] 41)) (.cells #[.int .i64 m, .slice none 0 0, .slice none 0 0, .slice none 0 0] 41))
  have B3 := Lib.hid (heap_alloc_new ((w.alloc (.cells #[.int .i64 m, v1, v2, v3] 65)).alloc (.cells #[.int .i64 0, .slice none 0 0, .slice none 0 0, .slice none 0 0] 41)) (.cells #[.int .i64 m, .slice none 0 0, .slice none 0 0, .slice none 0 0] 41))
  have HB : Hid (Below w.heap.size w (((w.alloc (.cells #[.int .i64 m, v1, v2, v3] 65)).alloc (.cells #[.int .i64 0, .slice none 0 0, .slice none 0 0, .slice none 0 0] 41)).alloc (.cells #[.int .i64 m, .slice none 0 0, .slice none 0 0, .slice none 0 0] 41))) := Lib.hid (by go_grown)
  simp only [World.size_alloc] at B2 B3
  generalize (((w.alloc (.cells #[.int .i64 m, v1, v2, v3] 65)).alloc (.cells #[.int .i64 0, .slice none 0 0, .slice none 0 0, .slice none 0 0] 41)).alloc (.cells #[.int .i64 m, .slice none 0 0, .slice none 0 0, .slice none 0 0] 41)) = w0 at *
  have hB3 := box_lt B3.out
  refine (toIntS_any _ _ xs (R1.out.keep HB.out) hs1).mono ?_
  rintro e w1 ⟨x1, rfl, ho1, hb1⟩
  obtain ⟨a1, c1, rfl, -, -⟩ := Rd.form ho1.rd
  have hz1 := hb1.size
  have O1 := Lib.hid (ho1.mono (show w.heap.size + 3 ≤ w0.heap.size by omega) (Nat.le_refl _))
  replace B1 := Lib.hid (box_keep B1.out hb1); replace B2 := Lib.hid (box_keep B2.out hb1); replace B3 := Lib.hid (box_keep B3.out hb1)
  replace HB := Lib.hid (HB.out.tr hb1)
  clear ho1 hb1
  have k1 := box_cell B1.out 2 _ rfl
  have k3 := box_cell B3.out 1 _ rfl
  have f3 := box_frozen B3.out 1
  have hset := Lib.hid (box_set B3.out 1 (.slice a1 xs.length c1))
  have hc1 : Chg (w.heap.size + 1 + 1) (w.heap.size + 3) w1 (w1.setCell ⟨w.heap.size + 1 + 1, 1, none⟩ (.slice a1 xs.length c1)) := Chg.setCell (p := ⟨w.heap.size + 1 + 1, 1, none⟩) (by simp) (by simp) _
  have O1' := Lib.hid (O1.out.chg hc1 (.inl (Nat.le_refl _)))
  have B1' := Lib.hid ((hc1.block _ (box_lt B1.out) (.inl (by omega))).trans B1.out)
  have B2' := Lib.hid ((hc1.block _ (box_lt B2.out) (.inl (by omega))).trans B2.out)
  have HB' := Lib.hid (hc1.below HB.out (by omega))
  have hzz1 : (w1.setCell ⟨w.heap.size + 1 + 1, 1, none⟩ (.slice a1 xs.length c1)).heap.size = w1.heap.size := by simp [World.setCell]
  clear hc1 B1 B2 O1 HB
  go_wp2_with fail
  generalize w1.setCell ⟨w.heap.size + 1 + 1, 1, none⟩ (.slice a1 xs.length c1) = w2 at *
  clear k1 k3 f3 B3
  refine (toBoolS_any _ _ bs (R2.out.keep HB'.out) hs2).mono ?_
  rintro e w3 ⟨x2, rfl, ho2, hb2⟩
  obtain ⟨a2, c2, rfl, -, -⟩ := Rd.form ho2.rd
  have hz2 := hb2.size
  have O2 := Lib.hid (ho2.mono (show w.heap.size + 3 ≤ w2.heap.size by omega) (Nat.le_refl _))
  have O1 := Lib.hid (O1'.out.keep hb2); clear O1'
  have B1 := Lib.hid (box_keep B1'.out hb2); have B2 := Lib.hid (box_keep B2'.out hb2); have B3 := Lib.hid (box_keep hset.out hb2); clear B1' B2' hset
  have HB := Lib.hid (HB'.out.tr hb2)
  clear ho2 hb2 HB'
  have k1 := box_cell B1.out 3 _ rfl
  have k3 := box_cell B3.out 2 (.slice none 0 0) rfl
  have f3 := box_frozen B3.out 2
  have hset := Lib.hid (box_set B3.out 2 (.slice a2 bs.length c2))
  have hc1 : Chg (w.heap.size + 1 + 1) (w.heap.size + 3) w3 (w3.setCell ⟨w.heap.size + 1 + 1, 2, none⟩ (.slice a2 bs.length c2)) := Chg.setCell (p := ⟨w.heap.size + 1 + 1, 2, none⟩) (by simp) (by simp) _
  have O1' := Lib.hid (O1.out.chg hc1 (.inl (Nat.le_refl _)))
  have O2' := Lib.hid (O2.out.chg hc1 (.inl (Nat.le_refl _)))
  have B2' := Lib.hid ((hc1.block _ (box_lt B2.out) (.inl (by omega))).trans B2.out)
  have HB' := Lib.hid (hc1.below HB.out (by omega))
  have hzz3 : (w3.setCell ⟨w.heap.size + 1 + 1, 2, none⟩ (.slice a2 bs.length c2)).heap.size = w3.heap.size := by simp [World.setCell]
  clear hc1 B1 B2 O1 O2 HB
  go_wp2_with fail
  generalize w3.setCell ⟨w.heap.size + 1 + 1, 2, none⟩ (.slice a2 bs.length c2) = w4 at *
  clear k1 k3 f3 B3
  refine (toMessageS_any _ _ ys (R3.out.keep HB'.out) hs3).mono ?_
  rintro e w5 ⟨x3, rfl, ho3, hb3⟩
  obtain ⟨a3, c3, rfl, -, -⟩ := Rd.form ho3.rd
  have hz3 := hb3.size
  have O3 := Lib.hid (ho3.mono (show w.heap.size + 3 ≤ w4.heap.size by omega) (Nat.le_refl _))
  have O1 := Lib.hid (O1'.out.keep hb3); have O2 := Lib.hid (O2'.out.keep hb3); clear O1' O2'
  have B2 := Lib.hid (box_keep B2'.out hb3); have B3 := Lib.hid (box_keep hset.out hb3); clear B2' hset
  have HB := Lib.hid (HB'.out.tr hb3)
  clear ho3 hb3 HB'
  have k30 := box_cell B3.out 0 (.int .i64 m) rfl
  have k31 := box_cell B3.out 1 (.slice a1 xs.length c1) rfl
  have k32 := box_cell B3.out 2 (.slice a2 bs.length c2) rfl
  have k33 := box_cell B3.out 3 (.slice none 0 0) rfl
  have f3 := box_frozen B3.out 3
  have k20 := box_cell B2.out 0 _ rfl; have k21 := box_cell B2.out 1 _ rfl; have k22 := box_cell B2.out 2 _ rfl; have k23 := box_cell B2.out 3 _ rfl
  have f20 := box_frozen B2.out 0; have f21 := box_frozen B2.out 1; have f22 := box_frozen B2.out 2; have f23 := box_frozen B2.out 3
  have hK : Chg (w.heap.size + 1) (w.heap.size + 3) w5 (((((w5.setCell ⟨w.heap.size + 1 + 1, 3, none⟩ (.slice a3 ys.length c3)).setCell ⟨w.heap.size + 1, 0, none⟩ (.int .i64 m)).setCell ⟨w.heap.size + 1, 1, none⟩ (.slice a1 xs.length c1)).setCell ⟨w.heap.size + 1, 2, none⟩ (.slice a2 bs.length c2)).setCell ⟨w.heap.size + 1, 3, none⟩ (.slice a3 ys.length c3)) :=
    ((((Chg.setCell (p := ⟨w.heap.size + 1 + 1, 3, none⟩) (by simp) (by simp) _).trans (Chg.setCell (p := ⟨w.heap.size + 1, 0, none⟩) (by simp) (by simp) _)).trans (Chg.setCell (p := ⟨w.heap.size + 1, 1, none⟩) (by simp) (by simp) _)).trans (Chg.setCell (p := ⟨w.heap.size + 1, 2, none⟩) (by simp) (by simp) _)).trans (Chg.setCell (p := ⟨w.heap.size + 1, 3, none⟩) (by simp) (by simp) _)
  have HKK := Lib.hid hK; clear hK
  go_wp2_with fail
  refine bodyPost_ret (v := .agg #[.int .i64 m, .slice a1 xs.length c1, .slice a2 bs.length c2, .slice a3 ys.length c3]) (by simp [results, Try.results42, go_sem, k20, k21, k22, k23]) rfl ⟨_, rfl, ⟨_, _, _, rfl, (O1.out.chg HKK.out (.inl (by omega))).mono (by omega) (by simp [World.setCell]; omega), (O2.out.chg HKK.out (.inl (by omega))).mono (by omega) (by simp [World.setCell]; omega), (O3.out.chg HKK.out (.inl (by omega))).mono (by omega) (by simp [World.setCell])⟩, HKK.out.below HB.out (by omega)⟩

set_option maxRecDepth 100000 in
set_option maxHeartbeats 1000000 in
theorem sameMessages_same (w : World) (va vb : Value) (ys : List Tri) (ha : Rd w 3 va ys.length (tris ys)) (hb : Rd w 3 vb ys.length (tris ys)) :
    Calls Try.prog 18 #[va, vb] w fun e w' => e = .returned (.bool true) ∧ Below w.heap.size w w' := by
  have HA := Lib.hid ha; have HBB := Lib.hid hb
  obtain ⟨a, ca, rfl, hca, hma⟩ := ha.form
  obtain ⟨b, cb, rfl, hcb, hmb⟩ := hb.form
  clear ha hb
  generalize ys.length = n at *
  go_enter Try.func18, Try.ntmps18
  go_wp2_with fail
  go_loopw [5] (fun i wr => ∃ k : Nat, k ≤ n ∧ i = .int .i64 k ∧ Hid (Below w.heap.size w wr)) (fun i _ => n - (intOf i).toNat)
  case atStart => exact ⟨0, Nat.zero_le _, rfl, Lib.hid (Below.refl _ _)⟩
  case round =>
    obtain ⟨k, hk, rfl, HB⟩ := hrel
    by_cases hlt : k < n
    · obtain ⟨b1, o1, rfl, hb1, c0, c1, c2⟩ := (HA.out.keep HB.out).tri hlt
      obtain ⟨b2, o2, rfl, hb2, d0, d1, d2⟩ := (HBB.out.keep HB.out).tri hlt
      generalize ys.getD k triZ = t at *
      obtain ⟨ta, tb, tc⟩ := t
      simp only at c0 c1 c2 d0 d1 d2
      clear HA HBB
      go_wp2_with fail
      go_quiet (fail)
      go_wp2_with fail
      go_roundw
      case rel => exact ⟨k + 1, by omega, by go_num, Lib.hid (HB.out.drewN' _)⟩
      case measure => simp [intOf]; omega
    · go_wp2_with fail
      go_ret
      exact ⟨rfl, HB.out⟩

set_option maxRecDepth 100000 in
set_option maxHeartbeats 1000000 in
theorem eqState_same (w : World) (va vb : Value) (s : StateD) (ha : RdState w va s) (hb : RdState w vb s) :
    Calls Try.prog 27 #[va, vb] w fun e w' => e = .returned (.bool true) ∧ Below w.heap.size w w' := by
  obtain ⟨v1, v2, v3, rfl, p1, p2, p3⟩ := ha
  obtain ⟨u1, u2, u3, rfl, q1, q2, q3⟩ := hb
  obtain ⟨m, xs, bs, ys⟩ := s
  simp only at *
  have P1 := Lib.hid p1; have P2 := Lib.hid p2; have P3 := Lib.hid p3; have Q1 := Lib.hid q1; have Q2 := Lib.hid q2; have Q3 := Lib.hid q3
  clear p1 p2 p3 q1 q2 q3
  go_enter Try.func27, Try.ntmps27
  go_wp2_with fail
  have X := Lib.hid (box_alloc (heap_alloc_new w (.cells #[.int .i64 m, v1, v2, v3] 41)) (.cells #[.int .i64 m, u1, u2, u3] 41))
  have Y := Lib.hid (heap_alloc_new (w.alloc (.cells #[.int .i64 m, v1, v2, v3] 41)) (.cells #[.int .i64 m, u1, u2, u3] 41))
  rw [World.size_alloc] at Y
  have HB : Hid (Below w.heap.size w ((w.alloc (.cells #[.int .i64 m, v1, v2, v3] 41)).alloc (.cells #[.int .i64 m, u1, u2, u3] 41))) := Lib.hid (by go_grown)
  generalize ((w.alloc (.cells #[.int .i64 m, v1, v2, v3] 41)).alloc (.cells #[.int .i64 m, u1, u2, u3] 41)) = w0 at *
  refine (eqIntS_same _ _ _ xs (P1.out.keep HB.out) (Q1.out.keep HB.out)).mono ?_
  rintro e w1 ⟨rfl, hb1⟩
  replace HB := Lib.hid (HB.out.tr hb1); replace X := Lib.hid (box_keep X.out hb1); replace Y := Lib.hid (box_keep Y.out hb1)
  clear hb1
  have x2 := box_cell X.out 2 _ rfl; have x3 := box_cell X.out 3 _ rfl; have y2 := box_cell Y.out 2 _ rfl; have y3 := box_cell Y.out 3 _ rfl
  go_wp2_with fail
  refine (eqBoolS_same _ _ _ bs (P2.out.keep HB.out) (Q2.out.keep HB.out)).mono ?_
  rintro e w1 ⟨rfl, hb1⟩
  replace HB := Lib.hid (HB.out.tr hb1); replace X := Lib.hid (box_keep X.out hb1); replace Y := Lib.hid (box_keep Y.out hb1)
  clear hb1 x2 x3 y2 y3
  have x3 := box_cell X.out 3 _ rfl; have y3 := box_cell Y.out 3 _ rfl
  go_wp2_with fail
  refine (eqMessageS_same _ _ _ ys (P3.out.keep HB.out) (Q3.out.keep HB.out)).mono ?_
  rintro e w1 ⟨rfl, hb1⟩
  replace HB := Lib.hid (HB.out.tr hb1)
  clear hb1
  go_wp2_with fail
  go_ret
  exact ⟨rfl, HB.out⟩
set_option maxRecDepth 100000 in
set_option maxHeartbeats 1000000 in
theorem sameState_same (w : World) (va vb : Value) (s : StateD) (ha : RdState w va s) (hb : RdState w vb s) :
    Calls Try.prog 37 #[va, vb] w fun e w' => e = .returned (.bool true) ∧ Below w.heap.size w w' := by
  obtain ⟨v1, v2, v3, rfl, p1, p2, p3⟩ := ha
  obtain ⟨u1, u2, u3, rfl, q1, q2, q3⟩ := hb
  obtain ⟨m, xs, bs, ys⟩ := s
  simp only at *
  have P1 := Lib.hid p1; have P2 := Lib.hid p2; have P3 := Lib.hid p3; have Q1 := Lib.hid q1; have Q2 := Lib.hid q2; have Q3 := Lib.hid q3
  clear p1 p2 p3 q1 q2 q3
  go_enter Try.func37, Try.ntmps37
  go_wp2_with fail
  have X := Lib.hid (box_alloc (heap_alloc_new w (.cells #[.int .i64 m, v1, v2, v3] 41)) (.cells #[.int .i64 m, u1, u2, u3] 41))
  have Y := Lib.hid (heap_alloc_new (w.alloc (.cells #[.int .i64 m, v1, v2, v3] 41)) (.cells #[.int .i64 m, u1, u2, u3] 41))
  rw [World.size_alloc] at Y
  have HB : Hid (Below w.heap.size w ((w.alloc (.cells #[.int .i64 m, v1, v2, v3] 41)).alloc (.cells #[.int .i64 m, u1, u2, u3] 41))) := Lib.hid (by go_grown)
  generalize ((w.alloc (.cells #[.int .i64 m, v1, v2, v3] 41)).alloc (.cells #[.int .i64 m, u1, u2, u3] 41)) = w0 at *
  refine (sameInts_same _ _ _ xs (P1.out.keep HB.out) (Q1.out.keep HB.out)).mono ?_
  rintro e w1 ⟨rfl, hb1⟩
  replace HB := Lib.hid (HB.out.tr hb1); replace X := Lib.hid (box_keep X.out hb1); replace Y := Lib.hid (box_keep Y.out hb1)
  clear hb1
  have x2 := box_cell X.out 2 _ rfl; have x3 := box_cell X.out 3 _ rfl; have y2 := box_cell Y.out 2 _ rfl; have y3 := box_cell Y.out 3 _ rfl
  go_wp2_with fail
  refine (sameFlags_same _ _ _ bs (P2.out.keep HB.out) (Q2.out.keep HB.out)).mono ?_
  rintro e w1 ⟨rfl, hb1⟩
  replace HB := Lib.hid (HB.out.tr hb1); replace X := Lib.hid (box_keep X.out hb1); replace Y := Lib.hid (box_keep Y.out hb1)
  clear hb1 x2 x3 y2 y3
  have x3 := box_cell X.out 3 _ rfl; have y3 := box_cell Y.out 3 _ rfl
  go_wp2_with fail
  refine (sameMessages_same _ _ _ ys (P3.out.keep HB.out) (Q3.out.keep HB.out)).mono ?_
  rintro e w1 ⟨rfl, hb1⟩
  replace HB := Lib.hid (HB.out.tr hb1)
  clear hb1
  go_wp2_with fail
  go_ret
  exact ⟨rfl, HB.out⟩

end Go.Proofs.Ytgdggkhdollieaa
