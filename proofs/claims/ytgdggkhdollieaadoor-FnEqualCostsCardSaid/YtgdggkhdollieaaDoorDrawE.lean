/-
  Edges and graphs that are drawn.
-/
import Derived.Test.YtgdggkhdollieaaDoorDraw
import Derived.Test.YtgdggkhdollieaaDoorAddE
namespace Go.Proofs.YtgdggkhdollieaaDoor
open Go.RowKit
set_option linter.unusedVariables false

set_option maxRecDepth 100000 in
set_option maxHeartbeats 2000000 in
theorem l20Edge_any (W : World) (sv : Value) (bs : List Int) (r : Nat) (lim many : Int) (w : World) (h : Drw W sv bs r lim w) (hl : lim ≤ 100000000) (hm0 : -100 ≤ many) (hm1 : many ≤ 100) :
    Calls Tryd.prog 34 #[.pointer (some ⟨r, 0, none⟩), .int .i64 many] w fun e w' => ∃ a b c, e = .returned (.agg #[.int .i64 a, .int .i64 b, .int .i64 c]) ∧ Drw W sv bs r (lim + 4) w' ∧ Chg r (r + 1) w w' := by
  have hr := h.lt
  have HD := Lib.hid (h.keep ((Below.refl _ _).alloc (Nat.le_refl _) (.cells #[.int .i64 0, .int .i64 0, .int .i64 0] 34)))
  have HC := Lib.hid ((Chg.refl r (r + 1) w).alloc (.cells #[.int .i64 0, .int .i64 0, .int .i64 0] 34))
  have BR := Lib.hid (heap_alloc_new w (.cells #[.int .i64 0, .int .i64 0, .int .i64 0] 34))
  clear h
  obtain ⟨k, hk, hk1, hk2⟩ : ∃ k : Int, (if many < 1 then 1 else many) = k ∧ 1 ≤ k ∧ k ≤ 100 := ⟨_, rfl, by split <;> omega, by split <;> omega⟩
  have hk' : (if 1 < many then many else 1) = k := by rw [← hk]; split <;> split <;> omega
  go_enter Tryd.func34, Tryd.ntmps34
  go_wp2_with fail
  generalize (w.alloc (.cells #[.int .i64 0, .int .i64 0, .int .i64 0] 34)) = w0 at *
  refine (pick_any W sv _ _ _ _ _ HD.out (by omega) (by omega) (by omega)).mono ?_
  rintro e w1 ⟨ca, rfl, ca0, ca1, ca2, hd, hg⟩
  replace ca1 := ca1 (by omega)
  replace HD := Lib.hid hd; replace HC := Lib.hid (HC.out.trans hg); have hsw1 := hg.size
  replace BR := Lib.hid ((hg.block _ (box_lt BR.out) (by omega)).trans BR.out)
  clear hd hg ca2
  go_wp2_with fail
  refine (pick_any W sv _ _ _ _ _ HD.out (by omega) (by omega) (by omega)).mono ?_
  rintro e w2 ⟨cb, rfl, cb0, cb1, cb2, hd, hg⟩
  replace cb1 := cb1 (by omega)
  replace HD := Lib.hid hd; replace HC := Lib.hid (HC.out.trans hg); have hsw2 := hg.size
  replace BR := Lib.hid ((hg.block _ (box_lt BR.out) (by omega)).trans BR.out)
  clear hd hg cb2
  go_wp2_with fail
  refine (pick_any W sv _ _ _ _ _ HD.out (by omega) (by omega) (by omega)).mono ?_
  rintro e w3 ⟨cc, rfl, cc0, cc1, cc2, hd, hg⟩
  replace cc1 := cc1 (by omega)
  replace HD := Lib.hid hd; replace HC := Lib.hid (HC.out.trans hg); have hsw3 := hg.size
  replace BR := Lib.hid ((hg.block _ (box_lt BR.out) (by omega)).trans BR.out)
  clear hd hg cc2
  go_wp2_with fail
  have HL := Lib.hid (heap_alloc_new w3 (.cells #[.int .i64 cc, .int .i64 0, .int .i64 1, .int .i64 20] 3))
  have hb3 : Below w3.heap.size w3 (w3.alloc (.cells #[.int .i64 cc, .int .i64 0, .int .i64 1, .int .i64 20] 3)) := (Below.refl _ _).alloc (Nat.le_refl _) _
  have hs3 : (w3.alloc (.cells #[.int .i64 cc, .int .i64 0, .int .i64 1, .int .i64 20] 3)).heap.size = w3.heap.size + 1 := by simp
  have hr3 := HD.out.lt
  have hbr3 := box_lt BR.out
  replace HD := Lib.hid (HD.out.keep hb3); replace BR := Lib.hid (box_keep BR.out hb3); replace HC := Lib.hid (HC.out.alloc (.cells #[.int .i64 cc, .int .i64 0, .int .i64 1, .int .i64 20] 3))
  clear hb3
  generalize (w3.alloc (.cells #[.int .i64 cc, .int .i64 0, .int .i64 1, .int .i64 20] 3)) = w4 at *
  refine (pick_any W sv _ _ _ _ _ HD.out (by omega) (by omega) (by omega)).mono ?_
  rintro e w5 ⟨cd, rfl, cd0, cd1, cd2, hd, hg⟩
  replace cd1 := cd1 (by omega)
  replace HD := Lib.hid hd; replace HC := Lib.hid (HC.out.trans hg); have hsw5 := hg.size
  replace BR := Lib.hid ((hg.block _ (box_lt BR.out) (by omega)).trans BR.out)
  replace HL := Lib.hid ((hg.block _ (box_lt HL.out) (by omega)).trans HL.out)
  clear hd hg cd2
  obtain ⟨j, rfl⟩ := Int.eq_ofNat_of_zero_le cd0
  have HZ : Hid (∃ z : Int, w5.cell? ⟨w3.heap.size, j, none⟩ = some (.int .i64 z)) := Lib.hid (by
    have hj : j < 4 := by omega
    match j, hj with
    | 0, _ => exact ⟨_, box_cell HL.out 0 _ rfl⟩
    | 1, _ => exact ⟨_, box_cell HL.out 1 _ rfl⟩
    | 2, _ => exact ⟨_, box_cell HL.out 2 _ rfl⟩
    | 3, _ => exact ⟨_, box_cell HL.out 3 _ rfl⟩)
  obtain ⟨z, hz⟩ := HZ.out
  have y0 := box_cell BR.out 0 (.int .i64 0) rfl; have y1 := box_cell BR.out 1 (.int .i64 0) rfl; have y2 := box_cell BR.out 2 (.int .i64 0) rfl
  have z0 := box_frozen BR.out 0; have z1 := box_frozen BR.out 1; have z2 := box_frozen BR.out 2
  go_wp2_with fail
  have hK : Chg w.heap.size (w.heap.size + 1) w5 (((w5.setCell ⟨w.heap.size, 0, none⟩ (.int .i64 ca)).setCell ⟨w.heap.size, 1, none⟩ (.int .i64 cb)).setCell ⟨w.heap.size, 2, none⟩ (.int .i64 z)) := ((Chg.setCell (p := ⟨w.heap.size, 0, none⟩) (Nat.le_refl _) (Nat.lt_succ_self _) _).trans (Chg.setCell (p := ⟨w.heap.size, 1, none⟩) (Nat.le_refl _) (Nat.lt_succ_self _) _)).trans (Chg.setCell (p := ⟨w.heap.size, 2, none⟩) (Nat.le_refl _) (Nat.lt_succ_self _) _)
  have hd9 : Drw W sv bs r (lim + 1 + 1 + 1 + 1) (((w5.setCell ⟨w.heap.size, 0, none⟩ (.int .i64 ca)).setCell ⟨w.heap.size, 1, none⟩ (.int .i64 cb)).setCell ⟨w.heap.size, 2, none⟩ (.int .i64 z)) := by
    obtain ⟨p, hp, hp0, hp1⟩ := HD.out.blk
    exact ⟨hK.below HD.out.below (Nat.le_trans HD.out.lo (by omega)), HD.out.lo, ⟨p, (hK.block r HD.out.lt (by omega)).trans hp, hp0, hp1⟩, HD.out.rd, HD.out.rng, HD.out.len⟩
  have hc9 : Chg r (r + 1) w (((w5.setCell ⟨w.heap.size, 0, none⟩ (.int .i64 ca)).setCell ⟨w.heap.size, 1, none⟩ (.int .i64 cb)).setCell ⟨w.heap.size, 2, none⟩ (.int .i64 z)) := ⟨hK.os.trans HC.out.os, hK.tape.trans HC.out.tape, hK.output.trans HC.out.output, Nat.le_trans HC.out.size hK.size, fun k hk hh => (hK.block k (Nat.lt_of_lt_of_le hk HC.out.size) (by omega)).trans (HC.out.block k hk hh)⟩
  exact bodyPost_ret (v := .agg #[.int .i64 ca, .int .i64 cb, .int .i64 z]) (by simp [results, Tryd.results34, go_sem, y0, y1, y2]) rfl ⟨_, _, _, rfl, hd9.mono (by omega), hc9⟩
/-- A graph that is being drawn: the reader, the result's box (of a function that began in w), the graph's box and its edges (below block hi). -/
structure GE (W : World) (sv : Value) (bs : List Int) (r : Nat) (lim : Int) (w wr : World) (rb px hi : Nat) (m : Int) (v : Value) (L : List Tri) : Prop where
  hd : Drw W sv bs r lim wr
  hc : Chg r (r + 1) w wr
  br : wr.heap[rb]? = some (.cells #[.int .i64 0, .slice none 0 0] 25 (0, 0))
  bx : wr.heap[px]? = some (.cells #[.int .i64 m, v] 25 (0, 0))
  ho : Ow (px + 1) hi wr 34 3 v L.length (tris L)
  top : hi ≤ wr.heap.size
  rlo : r < w.heap.size
  rbl : w.heap.size ≤ rb ∧ rb < px
section
variable {W w wr w' : World} {sv : Value} {bs : List Int} {r rb px hi : Nat} {lim : Int} {m : Int} {v : Value} {L : List Tri}
theorem Drw.chg {lo' hi' : Nat} (h : Drw W sv bs r lim wr) (hc : Chg lo' hi' wr w') (hd : r < lo' ∨ hi' ≤ r) (hw : W.heap.size ≤ lo') : Drw W sv bs r lim w' := by
  obtain ⟨p, hp, h1⟩ := h.blk
  exact ⟨hc.below h.below hw, h.lo, ⟨p, (hc.block r h.lt (by omega)).trans hp, h1⟩, h.rd, h.rng, h.len⟩
/-- What lies in new blocks may change. -/
theorem Chg.then2 {lo hi lo' hi' : Nat} {a b c : World} (h : Chg lo hi a b) (k : Chg lo' hi' b c) (hl : a.heap.size ≤ lo') : Chg lo hi a c :=
  ⟨k.os.trans h.os, k.tape.trans h.tape, k.output.trans h.output, Nat.le_trans h.size k.size, fun i hi hh => (k.block i (Nat.lt_of_lt_of_le hi h.size) (by omega)).trans (h.block i hi hh)⟩
theorem GE.plt (h : GE W sv bs r lim w wr rb px hi m v L) : px < wr.heap.size := box_lt h.bx
theorem GE.keep (h : GE W sv bs r lim w wr rb px hi m v L) (hb : Below wr.heap.size wr w') : GE W sv bs r lim w w' rb px hi m v L :=
  ⟨h.hd.keep hb, h.hc.then2 (Chg.of_below (lo := w.heap.size) (hi := w.heap.size) hb) (Nat.le_refl _), box_keep h.br hb, box_keep h.bx hb, h.ho.keep hb, Nat.le_trans h.top hb.size, h.rlo, h.rbl⟩
theorem GE.pick {lim' : Int} (h : GE W sv bs r lim w wr rb px hi m v L) (hd : Drw W sv bs r lim' w') (hc : Chg r (r + 1) wr w') : GE W sv bs r lim' w w' rb px hi m v L := by
  have h1 := h.rlo; have h2 := h.rbl; have h3 := h.plt
  exact ⟨hd, h.hc.trans hc, (hc.block rb (by omega) (.inr (by omega))).trans h.br, (hc.block px h3 (.inr (by omega))).trans h.bx, h.ho.chg hc (.inl (by omega)), Nat.le_trans h.top hc.size, h.rlo, h.rbl⟩
/-- The graph's box is written; its edges may have been appended to (all in blocks behind the box). -/
theorem GE.set {w9 : World} {m' : Int} {v' : Value} {L' : List Tri} {hi' : Nat} (h : GE W sv bs r lim w wr rb px hi m v L) (hc : Chg (px + 1) hi' wr w9) (ho : Ow (px + 1) w9.heap.size w9 34 3 v' L'.length (tris L')) (hb : w'.heap[px]? = some (.cells #[.int .i64 m', v'] 25 (0, 0)))
    (hs : Chg px (px + 1) w9 w') : GE W sv bs r lim w w' rb px w9.heap.size m' v' L' := by
  have h1 := h.rlo; have h2 := h.rbl; have h3 := h.plt; have h4 := h.hd.lo
  exact ⟨(h.hd.chg hc (.inl (by omega)) (by omega)).chg hs (.inl (by omega)) (by omega), (h.hc.then2 hc (by omega)).then2 hs (by omega), (hs.block rb (by have := hc.size; omega) (.inl (by omega))).trans ((hc.block rb (by omega) (.inl (by omega))).trans h.br), hb, ho.chg hs (.inl (Nat.le_refl _)), hs.size, h.rlo, h.rbl⟩
/-- The graph is handed back. -/
theorem GE.done (h : GE W sv bs r lim w wr rb px hi m v L) : OwGraph w.heap.size ((wr.setCell ⟨rb, 0, none⟩ (.int .i64 m)).setCell ⟨rb, 1, none⟩ v).heap.size ((wr.setCell ⟨rb, 0, none⟩ (.int .i64 m)).setCell ⟨rb, 1, none⟩ v) (.agg #[.int .i64 m, v]) (m, L) ∧ Drw W sv bs r lim ((wr.setCell ⟨rb, 0, none⟩ (.int .i64 m)).setCell ⟨rb, 1, none⟩ v) ∧ Chg r (r + 1) w ((wr.setCell ⟨rb, 0, none⟩ (.int .i64 m)).setCell ⟨rb, 1, none⟩ v) := by
  have h1 := h.rlo; have h2 := h.rbl; have h3 := h.plt; have h4 := h.hd.lo
  have hK : Chg rb (rb + 1) wr ((wr.setCell ⟨rb, 0, none⟩ (.int .i64 m)).setCell ⟨rb, 1, none⟩ v) := (Chg.setCell (p := ⟨rb, 0, none⟩) (Nat.le_refl _) (Nat.lt_succ_self _) _).trans (Chg.setCell (p := ⟨rb, 1, none⟩) (Nat.le_refl _) (Nat.lt_succ_self _) _)
  have h5 := h.top
  exact ⟨⟨v, rfl, (h.ho.chg hK (.inl (by omega))).mono (by omega) (by simp; omega)⟩, h.hd.chg hK (.inl (by omega)) (by omega), h.hc.then2 hK (by omega)⟩
theorem GE.mono {lim' : Int} (h : GE W sv bs r lim w wr rb px hi m v L) (hl : lim ≤ lim') : GE W sv bs r lim' w wr rb px hi m v L := { h with hd := h.hd.mono hl }
end
set_option maxRecDepth 100000 in
set_option maxHeartbeats 8000000 in
theorem l20Graph_any (W : World) (sv : Value) (bs : List Int) (r : Nat) (lim n : Int) (w : World) (h : Drw W sv bs r lim w) (hl : lim ≤ 1000) (hn0 : 0 ≤ n) (hn1 : n ≤ 1000) :
    Calls Tryd.prog 23 #[.pointer (some ⟨r, 0, none⟩), .int .i64 n] w fun e w' => ∃ v g, e = .returned v ∧ OwGraph w.heap.size w'.heap.size w' v g ∧ g.2.length ≤ 20 ∧ (-1 ≤ g.1 ∧ g.1 ≤ 17) ∧ Drw W sv bs r (lim + 2000) w' ∧ Chg r (r + 1) w w' := by
  have hr := h.lt
  have HD := Lib.hid (h.keep ((Below.refl _ _).alloc (Nat.le_refl _) (.cells #[.int .i64 0, .slice none 0 0] 25)))
  have HC := Lib.hid ((Chg.refl r (r + 1) w).alloc (.cells #[.int .i64 0, .slice none 0 0] 25))
  have BR := Lib.hid (heap_alloc_new w (.cells #[.int .i64 0, .slice none 0 0] 25))
  clear h
  go_enter Tryd.func23, Tryd.ntmps23
  go_wp2_with fail
  generalize (w.alloc (.cells #[.int .i64 0, .slice none 0 0] 25)) = w0 at *
  refine (pick_any W sv _ _ _ _ _ HD.out (by omega) (by omega) (by omega)).mono ?_
  rintro e w1 ⟨ca, rfl, ca0, ca1, ca2, hd, hg⟩
  replace ca1 := ca1 (by omega)
  replace HD := Lib.hid hd; replace HC := Lib.hid (HC.out.trans hg); have hsw1 := hg.size; have hlw1 := HD.out.lt
  replace BR := Lib.hid ((hg.block _ (box_lt BR.out) (by omega)).trans BR.out)
  clear hd hg ca2
  go_wp2_with fail
  refine (pick_any W sv _ _ _ _ _ HD.out (by omega) (by omega) (by omega)).mono ?_
  rintro e w2 ⟨cb, rfl, cb0, cb1, cb2, hd, hg⟩
  replace cb1 := cb1 (by omega)
  replace HD := Lib.hid hd; replace HC := Lib.hid (HC.out.trans hg); have hsw2 := hg.size; have hlw2 := HD.out.lt
  replace BR := Lib.hid ((hg.block _ (box_lt BR.out) (by omega)).trans BR.out)
  clear hd hg cb2
  go_wp2_with fail
  have hbr2 := box_lt BR.out
  have HL4 := Lib.hid (box_alloc (heap_alloc_new w2 (.cells #[.int .i64 ca, .int .i64 (2 + cb), .int .i64 16, .int .i64 0] 3)) (.cells #[.int .i64 0, .int .i64 1, .int .i64 1, .int .i64 1, .int .i64 1, .int .i64 1, .int .i64 2, .int .i64 3] 3))
  have HL8 := Lib.hid (heap_alloc_new (w2.alloc (.cells #[.int .i64 ca, .int .i64 (2 + cb), .int .i64 16, .int .i64 0] 3)) (.cells #[.int .i64 0, .int .i64 1, .int .i64 1, .int .i64 1, .int .i64 1, .int .i64 1, .int .i64 2, .int .i64 3] 3))
  have hb3 : Below w2.heap.size w2 ((w2.alloc (.cells #[.int .i64 ca, .int .i64 (2 + cb), .int .i64 16, .int .i64 0] 3)).alloc (.cells #[.int .i64 0, .int .i64 1, .int .i64 1, .int .i64 1, .int .i64 1, .int .i64 1, .int .i64 2, .int .i64 3] 3)) := by go_grown
  have hs3 : ((w2.alloc (.cells #[.int .i64 ca, .int .i64 (2 + cb), .int .i64 16, .int .i64 0] 3)).alloc (.cells #[.int .i64 0, .int .i64 1, .int .i64 1, .int .i64 1, .int .i64 1, .int .i64 1, .int .i64 2, .int .i64 3] 3)).heap.size = w2.heap.size + 2 := by simp
  simp only [World.size_alloc] at HL8
  replace HD := Lib.hid (HD.out.keep hb3); replace BR := Lib.hid (box_keep BR.out hb3); replace HC := Lib.hid (HC.out.then (hb3.mono HC.out.size))
  clear hb3
  generalize ((w2.alloc (.cells #[.int .i64 ca, .int .i64 (2 + cb), .int .i64 16, .int .i64 0] 3)).alloc (.cells #[.int .i64 0, .int .i64 1, .int .i64 1, .int .i64 1, .int .i64 1, .int .i64 1, .int .i64 2, .int .i64 3] 3)) = w3 at *
  refine (pick_any W sv _ _ _ _ _ HD.out (by omega) (by omega) (by omega)).mono ?_
  rintro e w4 ⟨cc, rfl, cc0, cc1, cc2, hd, hg⟩
  replace cc1 := cc1 (by omega)
  replace HD := Lib.hid hd; replace HC := Lib.hid (HC.out.trans hg); have hsw4 := hg.size; have hlw4 := HD.out.lt
  replace BR := Lib.hid ((hg.block _ (box_lt BR.out) (by omega)).trans BR.out)
  replace HL4 := Lib.hid ((hg.block _ (box_lt HL4.out) (by omega)).trans HL4.out)
  replace HL8 := Lib.hid ((hg.block _ (box_lt HL8.out) (by omega)).trans HL8.out)
  clear hd hg cc2
  obtain ⟨j, rfl⟩ := Int.eq_ofNat_of_zero_le cc0
  have HZ : Hid (∃ z : Nat, z < 4 ∧ w4.cell? ⟨w2.heap.size + 1, j, none⟩ = some (.int .i64 (z : Int))) := Lib.hid (by
    have hj : j < 8 := by omega
    match j, hj with
    | 0, _ => exact ⟨0, by decide, box_cell HL8.out 0 _ rfl⟩
    | 1, _ => exact ⟨1, by decide, box_cell HL8.out 1 _ rfl⟩
    | 2, _ => exact ⟨1, by decide, box_cell HL8.out 2 _ rfl⟩
    | 3, _ => exact ⟨1, by decide, box_cell HL8.out 3 _ rfl⟩
    | 4, _ => exact ⟨1, by decide, box_cell HL8.out 4 _ rfl⟩
    | 5, _ => exact ⟨1, by decide, box_cell HL8.out 5 _ rfl⟩
    | 6, _ => exact ⟨2, by decide, box_cell HL8.out 6 _ rfl⟩
    | 7, _ => exact ⟨3, by decide, box_cell HL8.out 7 _ rfl⟩)
  obtain ⟨z, hz4, hz⟩ := HZ.out
  have HM : Hid (∃ m0 : Int, (0 ≤ m0 ∧ m0 ≤ 16) ∧ w4.cell? ⟨w2.heap.size, z, none⟩ = some (.int .i64 m0)) := Lib.hid (by
    match z, hz4 with
    | 0, _ => exact ⟨_, ⟨by omega, by omega⟩, box_cell HL4.out 0 (.int .i64 ca) rfl⟩
    | 1, _ => exact ⟨_, ⟨by omega, by omega⟩, box_cell HL4.out 1 (.int .i64 (2 + cb)) rfl⟩
    | 2, _ => exact ⟨_, ⟨by omega, by omega⟩, box_cell HL4.out 2 (.int .i64 16) rfl⟩
    | 3, _ => exact ⟨_, ⟨by omega, by omega⟩, box_cell HL4.out 3 (.int .i64 0) rfl⟩)
  obtain ⟨m0, hm, hmc⟩ := HM.out
  clear HZ HM HL4 HL8
  go_wp2_with fail
  have HG0 : Hid (GE W sv bs r (lim + 1 + 1 + 1) w (w4.alloc (.cells #[.int .i64 m0, .slice none 0 0] 25)) w.heap.size w4.heap.size (w4.heap.size + 1) m0 (.slice none 0 0) []) := Lib.hid
    ⟨HD.out.keep ((Below.refl _ _).alloc (Nat.le_refl _) _), HC.out.alloc _, box_alloc BR.out _, heap_alloc_new _ _, Ow.nil _ _ _ _ _ _, by simp, hr, Nat.le_refl _, box_lt BR.out⟩
  clear HD HC BR hz hmc
  generalize (w4.alloc (.cells #[.int .i64 m0, .slice none 0 0] 25)) = w5 at *
  generalize w4.heap.size = px at *
  refine (pick_any W sv _ _ _ _ _ HG0.out.hd (by omega) (by omega) (by omega)).mono ?_
  rintro e w6 ⟨ck, rfl, ck0, ck1, ck2, hd, hg⟩
  replace ck1 := ck1 (by omega)
  have HG1 := Lib.hid (HG0.out.pick hd hg)
  clear hd hg ck2 HG0
  obtain ⟨kk, rfl⟩ := Int.eq_ofNat_of_zero_le ck0
  go_wp2_with fail
  go_loopw [6] (fun i wr => ∃ (k hi : Nat) (m : Int) (v : Value) (L : List Tri), k ≤ 13 ∧ i = .int .i64 k ∧ (0 ≤ m ∧ m ≤ 16) ∧ L.length + k ≤ 13 ∧ Hid (GE W sv bs r (lim + 1000 - 60 * (k : Int)) w wr w.heap.size px hi m v L)) (fun i _ => (intOf i).toNat)
  case atStart => exact ⟨kk, _, m0, _, [], by omega, rfl, hm, by simp; omega, Lib.hid (HG1.out.mono (by omega))⟩
  case round =>
    clear HG1 hm
    obtain ⟨k, hi, m, v, L, hk, rfl, hm, hlen, HG⟩ := hrel
    obtain ⟨av, cv, rfl, -, -⟩ := Rd.form HG.out.ho.rd
    have hpl := HG.out.plt
    have kx0 := box_cell HG.out.bx 0 (.int .i64 m) rfl; have kx1 := box_cell HG.out.bx 1 (.slice av L.length cv) rfl
    by_cases hk0 : 0 < k
    · go_wp2_with fail
      have HGD := Lib.hid (HG.out.keep (Below.refl wr.heap.size wr).drew |>.mono (lim' := (lim + 1000 - 60 * (k : Int)) + 4 * ((0 : Nat) : Int)) (by omega))
      have hrp : r < px := by omega
      clear kx0 kx1
      refine wp_region_relA (fun x => { tmps := #[.pointer (some ⟨r, 0, none⟩), .int .i64 n, undef, undef, .pointer (some ⟨w.heap.size, 0, none⟩), .pointer (some ⟨px, 0, none⟩), .int .i64 (k : Int), .pointer (some ⟨r, 0, none⟩), .int .i64 ca, .pointer (some ⟨r, 0, none⟩), .int .i64 cb, .int .i64 (2 + cb), .slice (some ⟨w2.heap.size, 0, none⟩) 4 4, .slice (some ⟨w2.heap.size + 1, 0, none⟩) 8 8, .pointer (some ⟨r, 0, none⟩), .int .i64 (j : Int), .pointer (some ⟨w2.heap.size + 1, j, none⟩), .int .i64 (z : Int), .pointer (some ⟨w2.heap.size, z, none⟩), .int .i64 m0, .agg #[.int .i64 m0, .slice none 0 0], .pointer (some ⟨r, 0, none⟩), .int .i64 (kk : Int), x 23, x 24, x 25, x 26, x 27, x 28, x 29, x 30, x 31, x 32, x 33, x 34, x 35, undef, undef, undef, undef, undef, undef, undef, undef, undef, undef, undef, undef, undef, undef, undef, undef, undef, undef, undef, undef, undef, undef, undef, undef, undef, undef, undef, undef, undef, undef, undef, undef, undef, undef, undef, undef], defers := [] })
        (fun c L' wx => (wr.heap.size ≤ wx.heap.size ∧ ∃ hi' m' v' M, GE W sv bs r ((lim + 1000 - 60 * (k : Int)) + 4 * (c : Int)) w wx w.heap.size px hi' m' v' M ∧ (L' 9 = false → m' = m ∧ v' = .slice av L.length cv ∧ M = L) ∧ (L' 9 = true → (∀ i, i < 8 → L' i = true) ∧ M.length ≤ L.length + 1 ∧ (m' = m ∨ m' = 0)))) (fun _ wx wy => Below wx.heap.size wx wy ∨ (∃ q, (q = r ∨ q = px) ∧ Chg q (q + 1) wx wy ∧ wx.heap.size ≤ wy.heap.size))
        (Tl [cst (.agg #[.int .i64 m, .slice av L.length cv]), cst (.pointer (some ⟨r, 0, none⟩)), cst (.pointer (some ⟨px, 0, none⟩)), cst (.int .i64 m), (fun u _ => ∃ a b c, u = .agg #[.int .i64 a, .int .i64 b, .int .i64 c]), (fun u wx => ∃ vv bb y, u = .tuple #[vv, .bool bb] ∧ OwGraph wr.heap.size wx.heap.size wx vv y ∧ y.2.length ≤ L.length + 1 ∧ (y.1 = m ∨ y.1 = 0)), (fun u wx => ∃ vv bb y, u = .tuple #[vv, .bool bb] ∧ OwGraph wr.heap.size wx.heap.size wx vv y ∧ y.2.length ≤ L.length + 1 ∧ (y.1 = m ∨ y.1 = 0)), (fun u wx => ∃ y, OwGraph wr.heap.size wx.heap.size wx u y ∧ y.2.length ≤ L.length + 1 ∧ (y.1 = m ∨ y.1 = 0)), (fun u _ => ∃ bb, u = .bool bb), tru]) rfl
        (by kernel_rfl) (by kernel_rfl) (by kernel_rfl) ?hT0 (fun _ _ => .inl (Below.refl _ _)) ⟨Nat.le_refl _, _, _, _, _, HGD.out, fun _ => ⟨rfl, rfl, rfl⟩, fun h => by cases h⟩ ?hput ?hop ?hend
      case hT0 =>
        intro i j v wx wy hij hr hv
        have own : ∀ vv y, OwGraph wr.heap.size wx.heap.size wx vv y → OwGraph wr.heap.size wy.heap.size wy vv y := by
          rintro vv y ⟨v1, rfl, ho⟩
          rcases hr with hr | ⟨q, hq, hc, hs⟩
          · exact ⟨v1, rfl, (ho.keep hr).mono (Nat.le_refl _) hr.size⟩
          · exact ⟨v1, rfl, (ho.chg hc (.inl (by rcases hq with rfl | rfl <;> omega))).mono (Nat.le_refl _) hs⟩
        match i with
        | 0 | 1 | 2 | 3 | 4 | 8 | 9 => exact hv
        | 5 | 6 => obtain ⟨vv, bb, y, h1, h2, h3⟩ := hv; exact ⟨vv, bb, y, h1, own _ _ h2, h3⟩
        | 7 => obtain ⟨y, h2, h3⟩ := hv; exact ⟨y, own _ _ h2, h3⟩
        | (n + 10) => trivial
      case hput =>
        refine ⟨?_, ?_, ?_, ?_, ?_, ?_, ?_, ?_, ?_, ?_, trivial⟩
        all_goals first | exact fun x v => rfl | exact trivial
      case hop =>
        refine ⟨?_, ?_, ?_, ?_, ?_, ?_, ?_, ?_, ?_, ?_, trivial⟩
        · refine OpRel.plain rfl fun c L' x wx K hn hL hG hdep hK => ?_
          have hL9 : L' 9 = false := by cases h9 : L' 9 with | false => rfl | true => obtain ⟨_, _, _, _, _, _, _, h8⟩ := hG; rw [(h8 h9).1 0 (by decide)] at hL; cases hL
          obtain ⟨hsz, hi', m', v', M, hge, h90, h91⟩ := hG
          obtain ⟨rfl, rfl, rfl⟩ := h90 hL9
          have z0 := box_cell hge.bx 0 (.int .i64 m') rfl; have z1 := box_cell hge.bx 1 (.slice av M.length cv) rfl
          clear hdep; go_simp
          exact hK _ _ ⟨hsz, _, _, _, _, hge.mono (by omega), fun _ => ⟨rfl, rfl, rfl⟩, fun h => by simp [setL, hL9] at h⟩ (.inl (Below.refl _ _)) rfl
        · refine OpRel.plain rfl fun c L' x wx K hn hL hG hdep hK => ?_
          have hL9 : L' 9 = false := by cases h9 : L' 9 with | false => rfl | true => obtain ⟨_, _, _, _, _, _, _, h8⟩ := hG; rw [(h8 h9).1 1 (by decide)] at hL; cases hL
          obtain ⟨hsz, hi', m', v', M, hge, h90, h91⟩ := hG
          obtain ⟨rfl, rfl, rfl⟩ := h90 hL9
          clear hdep; go_simp
          exact hK _ _ ⟨hsz, _, _, _, _, hge.mono (by omega), fun _ => ⟨rfl, rfl, rfl⟩, fun h => by simp [setL, hL9] at h⟩ (.inl (Below.refl _ _)) rfl
        · refine OpRel.plain rfl fun c L' x wx K hn hL hG hdep hK => ?_
          have hL9 : L' 9 = false := by cases h9 : L' 9 with | false => rfl | true => obtain ⟨_, _, _, _, _, _, _, h8⟩ := hG; rw [(h8 h9).1 2 (by decide)] at hL; cases hL
          obtain ⟨hsz, hi', m', v', M, hge, h90, h91⟩ := hG
          obtain ⟨rfl, rfl, rfl⟩ := h90 hL9
          clear hdep; go_simp
          exact hK _ _ ⟨hsz, _, _, _, _, hge.mono (by omega), fun _ => ⟨rfl, rfl, rfl⟩, fun h => by simp [setL, hL9] at h⟩ (.inl (Below.refl _ _)) rfl
        · refine OpRel.plain rfl fun c L' x wx K hn hL hG hdep hK => ?_
          have h30 : x 30 = _ := (hdep 2 rfl).2 _ rfl
          have hL9 : L' 9 = false := by cases h9 : L' 9 with | false => rfl | true => obtain ⟨_, _, _, _, _, _, _, h8⟩ := hG; rw [(h8 h9).1 3 (by decide)] at hL; cases hL
          obtain ⟨hsz, hi', m', v', M, hge, h90, h91⟩ := hG
          obtain ⟨rfl, rfl, rfl⟩ := h90 hL9
          have z0 := box_cell hge.bx 0 (.int .i64 m') rfl
          clear hdep; simp only [h30] at hK; go_simp
          exact hK _ _ ⟨hsz, _, _, _, _, hge.mono (by omega), fun _ => ⟨rfl, rfl, rfl⟩, fun h => by simp [setL, hL9] at h⟩ (.inl (Below.refl _ _)) rfl
        · refine OpRel.plain rfl fun c L' x wx K hn hL hG hdep hK => ?_
          have h29 : x 29 = _ := (hdep 1 rfl).2 _ rfl
          have h31 : x 31 = _ := (hdep 3 rfl).2 _ rfl
          have hL9 : L' 9 = false := by cases h9 : L' 9 with | false => rfl | true => obtain ⟨_, _, _, _, _, _, _, h8⟩ := hG; rw [(h8 h9).1 4 (by decide)] at hL; cases hL
          obtain ⟨hsz, hi', m', v', M, hge, h90, h91⟩ := hG
          obtain ⟨rfl, rfl, rfl⟩ := h90 hL9
          clear hdep; simp only [h29, h31] at hK; go_simp
          (refine (l20Edge_any W sv bs r _ m' wx hge.hd (by simp at hn; omega) (by omega) (by omega)).mono ?_; rintro e w' ⟨a, b, c, rfl, hd, hg⟩; exact hK _ _ ⟨Nat.le_trans hsz hg.size, _, _, _, _, (hge.pick hd hg).mono (by omega), fun _ => ⟨rfl, rfl, rfl⟩, fun h => by simp [setL, hL9] at h⟩ (.inr ⟨r, .inl rfl, hg, hg.size⟩) ⟨a, b, c, rfl⟩)
        · refine OpRel.plain rfl fun c L' x wx K hn hL hG hdep hK => ?_
          have h28 : x 28 = _ := (hdep 0 rfl).2 _ rfl
          obtain ⟨a, b, c, h32⟩ := (hdep 4 rfl).2 _ rfl
          have hL9 : L' 9 = false := by cases h9 : L' 9 with | false => rfl | true => obtain ⟨_, _, _, _, _, _, _, h8⟩ := hG; rw [(h8 h9).1 5 (by decide)] at hL; cases hL
          obtain ⟨hsz, hi', m', v', M, hge, h90, h91⟩ := hG
          obtain ⟨rfl, rfl, rfl⟩ := h90 hL9
          simp only [h32] at hK
          clear hdep; simp only [h28] at hK; go_simp
          (refine (addEdge_any wx _ (m', M) a b c ⟨_, rfl, hge.ho.rd⟩ (by simp only; omega)).mono ?_; rintro e w' ⟨vv, bb, y, rfl, ho, hyl, hym, hb⟩; obtain ⟨v1, rfl, ho1⟩ := ho; exact hK _ _ ⟨Nat.le_trans hsz hb.size, _, _, _, _, (hge.keep hb).mono (by omega), fun _ => ⟨rfl, rfl, rfl⟩, fun h => by simp [setL, hL9] at h⟩ (.inl hb) ⟨_, bb, y, rfl, ⟨v1, rfl, ho1.mono hsz (Nat.le_refl _)⟩, hyl, hym⟩)
        · refine OpRel.plain rfl fun c L' x wx K hn hL hG hdep hK => ?_
          obtain ⟨vv, bb, y, h33, hy⟩ := (hdep 5 rfl).2 _ rfl
          have hL9 : L' 9 = false := by cases h9 : L' 9 with | false => rfl | true => obtain ⟨_, _, _, _, _, _, _, h8⟩ := hG; rw [(h8 h9).1 6 (by decide)] at hL; cases hL
          obtain ⟨hsz, hi', m', v', M, hge, h90, h91⟩ := hG
          obtain ⟨rfl, rfl, rfl⟩ := h90 hL9
          simp only [h33] at hK
          clear hdep; go_simp
          exact hK _ _ ⟨hsz, _, _, _, _, hge.mono (by omega), fun _ => ⟨rfl, rfl, rfl⟩, fun h => by simp [setL, hL9] at h⟩ (.inl (Below.refl _ _)) ⟨vv, bb, y, rfl, hy⟩
        · refine OpRel.plain rfl fun c L' x wx K hn hL hG hdep hK => ?_
          obtain ⟨vv, bb, y, h27, hy⟩ := (hdep 6 rfl).2 _ rfl
          have hL9 : L' 9 = false := by cases h9 : L' 9 with | false => rfl | true => obtain ⟨_, _, _, _, _, _, _, h8⟩ := hG; rw [(h8 h9).1 7 (by decide)] at hL; cases hL
          obtain ⟨hsz, hi', m', v', M, hge, h90, h91⟩ := hG
          obtain ⟨rfl, rfl, rfl⟩ := h90 hL9
          simp only [h27] at hK
          clear hdep; go_simp
          exact hK _ _ ⟨hsz, _, _, _, _, hge.mono (by omega), fun _ => ⟨rfl, rfl, rfl⟩, fun h => by simp [setL, hL9] at h⟩ (.inl (Below.refl _ _)) ⟨y, hy⟩
        · refine OpRel.plain rfl fun c L' x wx K hn hL hG hdep hK => ?_
          obtain ⟨vv, bb, y, h27, hy⟩ := (hdep 6 rfl).2 _ rfl
          obtain ⟨hsz, hi', m', v', M, hge, h90, h91⟩ := hG
          simp only [h27] at hK
          clear hdep; go_simp
          exact hK _ _ ⟨hsz, _, _, _, _, hge.mono (by omega), fun h => h90 (by simpa [setL] using h), fun h => by have h9 := h91 (by simpa [setL] using h); exact ⟨fun i hi => by by_cases h8 : i = 8; omega; simp only [setL, h8, if_false]; exact h9.1 i hi, h9.2⟩⟩ (.inl (Below.refl _ _)) ⟨bb, rfl⟩
        · refine OpRel.plain rfl fun c L' x wx K hn hL hG hdep hK => ?_
          have hA : ∀ i, i < 8 → L' i = true := fun i hi => match i, hi with | 0, _ => (hdep 0 rfl).1 | 1, _ => (hdep 1 rfl).1 | 2, _ => (hdep 2 rfl).1 | 3, _ => (hdep 3 rfl).1 | 4, _ => (hdep 4 rfl).1 | 5, _ => (hdep 5 rfl).1 | 6, _ => (hdep 6 rfl).1 | 7, _ => (hdep 7 rfl).1
          obtain ⟨y, hy, hyl, hym⟩ := (hdep 7 rfl).2 _ rfl
          obtain ⟨hsz, hi', m', v', M, hge, h90, h91⟩ := hG
          obtain ⟨rfl, rfl, rfl⟩ := h90 hL
          obtain ⟨v1, h34, ho1⟩ := hy
          obtain ⟨a9, c9, rfl, -, -⟩ := Rd.form ho1.rd
          clear hdep
          simp only [h34] at hK
          have z0 := box_cell hge.bx 0 (.int .i64 m') rfl; have z1 := box_cell hge.bx 1 (.slice av M.length cv) rfl; have z2 := box_frozen hge.bx 0; have z3 := box_frozen hge.bx 1
          have hbx := box_set (box_set hge.bx 0 (.int .i64 y.1)) 1 (.slice a9 y.2.length c9)
          go_simp
          have hs2 : Chg px (px + 1) wx ((wx.setCell ⟨px, 0, none⟩ (.int .i64 y.1)).setCell ⟨px, 1, none⟩ (.slice a9 y.2.length c9)) := (Chg.setCell (p := ⟨px, 0, none⟩) (Nat.le_refl _) (Nat.lt_succ_self _) _).trans (Chg.setCell (p := ⟨px, 1, none⟩) (Nat.le_refl _) (Nat.lt_succ_self _) _)
          exact hK (.bool false) _ ⟨Nat.le_trans hsz hs2.size, _, _, _, _, (hge.set (Chg.refl (px + 1) (px + 1) wx) (ho1.mono (by omega) (Nat.le_refl _)) (by simpa using hbx) hs2).mono (by omega), fun h => by simp [setL] at h, fun _ => ⟨fun i hi => by simp only [setL]; rw [if_neg (by omega)]; exact hA i hi, hyl, hym⟩⟩ (.inr ⟨px, .inr rfl, hs2, hs2.size⟩) trivial
      case hend =>
        intro n' L' x wx hn' hG hh
        obtain ⟨hsz, hi', m', v', M, hge, -, h91⟩ := hG
        obtain ⟨-, hml, hmm⟩ := h91 (hh 9 (by decide)).1
        have HG9 := Lib.hid (hge.mono (lim' := (lim + 1000 - 60 * (k : Int)) + 60) (by simp at hn'; omega))
        clear hge hh h91
        go_wp2_with fail
        go_roundw
        case rel => exact ⟨k - 1, _, _, _, _, by omega, by go_num, by omega, by omega, Lib.hid (HG9.out.mono (by omega))⟩
        case measure => simp [intOf]; omega
    · obtain rfl : k = 0 := by omega
      have hlm := HG.out.rlo; have hlp := HG.out.rbl
      go_wp2_with fail
      refine (odd_any W sv _ _ _ n _ HG.out.hd (by omega) (by omega) (by omega)).mono ?_
      rintro e wA ⟨b, rfl, -, hd, hg⟩
      have HA := Lib.hid (HG.out.pick hd hg)
      clear hd hg HG kx0 kx1
      cases b
      · skip
        have kx0 := box_cell HA.out.bx 0 (.int .i64 m) rfl; have kx1 := box_cell HA.out.bx 1 (.slice av L.length cv) rfl; have fx0 := box_frozen HA.out.bx 0; have fx1 := box_frozen HA.out.bx 1; have ky0 := box_cell HA.out.br 0 (.int .i64 0) rfl; have ky1 := box_cell HA.out.br 1 (.slice none 0 0) rfl; have fy0 := box_frozen HA.out.br 0; have fy1 := box_frozen HA.out.br 1
        go_wp2_with fail
        have hfin := (HA.out.mono (lim' := lim + 2000) (by omega)).done
        exact bodyPost_ret (v := .agg #[.int .i64 m, .slice av L.length cv]) (by simp [results, Tryd.results23, go_sem, ky0, ky1]) rfl ⟨_, (m, L), rfl, hfin.1, by simp only; omega, ⟨by simp only; omega, by simp only; omega⟩, hfin.2⟩
      · go_wp2_with fail
        refine (pick_any W sv _ _ _ _ _ HA.out.hd (by omega) (by omega) (by omega)).mono ?_
        rintro e wB ⟨cq, rfl, cq0, cq1, cq2, hd, hg⟩
        replace cq1 := cq1 (by omega)
        have HB := Lib.hid (HA.out.pick hd hg)
        clear hd hg cq2 HA
        obtain ⟨q, rfl⟩ := Int.eq_ofNat_of_zero_le cq0
        have hq : q = 0 ∨ q = 1 ∨ q = 2 ∨ q = 3 := by omega
        have hpb := HB.out.plt
        have kx0 := box_cell HB.out.bx 0 (.int .i64 m) rfl; have kx1 := box_cell HB.out.bx 1 (.slice av L.length cv) rfl; have fx0 := box_frozen HB.out.bx 0; have fx1 := box_frozen HB.out.bx 1; have ky0 := box_cell HB.out.br 0 (.int .i64 0) rfl; have ky1 := box_cell HB.out.br 1 (.slice none 0 0) rfl; have fy0 := box_frozen HB.out.br 0; have fy1 := box_frozen HB.out.br 1
        rcases hq with rfl | rfl | rfl | rfl
        · go_wp2_with fail
          have HL := Lib.hid (heap_alloc_new wB (.cells #[.int .i64 (-1), .int .i64 17] 3))
          have hsb : (wB.alloc (.cells #[.int .i64 (-1), .int .i64 17] 3)).heap.size = wB.heap.size + 1 := by simp
          have HB2 := Lib.hid (HB.out.keep ((Below.refl wB.heap.size wB).alloc (Nat.le_refl _) (.cells #[.int .i64 (-1), .int .i64 17] 3)))
          clear HB kx0 kx1 ky0 ky1 fx0 fx1 fy0 fy1
          generalize (wB.alloc (.cells #[.int .i64 (-1), .int .i64 17] 3)) = wC at *
          refine (pick_any W sv _ _ _ _ _ HB2.out.hd (by omega) (by omega) (by omega)).mono ?_
          rintro e wD ⟨cz, rfl, cz0, cz1, cz2, hd, hg⟩
          replace cz1 := cz1 (by omega)
          have HD := Lib.hid (HB2.out.pick hd hg)
          replace HL := Lib.hid ((hg.block _ (box_lt HL.out) (by omega)).trans HL.out)
          clear hd hg cz2 HB2
          obtain ⟨j2, rfl⟩ := Int.eq_ofNat_of_zero_le cz0
          have HZ : Hid (∃ z : Int, (-1 ≤ z ∧ z ≤ 17) ∧ wD.cell? ⟨wB.heap.size, j2, none⟩ = some (.int .i64 z)) := Lib.hid (by
            have hj : j2 < 2 := by omega
            match j2, hj with
            | 0, _ => exact ⟨_, ⟨by omega, by omega⟩, box_cell HL.out 0 (.int .i64 (-1)) rfl⟩
            | 1, _ => exact ⟨_, ⟨by omega, by omega⟩, box_cell HL.out 1 (.int .i64 17) rfl⟩)
          obtain ⟨z2, hz2, hzc⟩ := HZ.out
          have hbs := box_set HD.out.bx 0 (.int .i64 z2)
          have HF := Lib.hid (HD.out.set (m' := z2) (v' := .slice av L.length cv) (L' := L) (Chg.refl (px + 1) (px + 1) wD) (HD.out.ho.mono (Nat.le_refl _) HD.out.top) (by simpa using hbs) (Chg.setCell (p := ⟨px, 0, none⟩) (Nat.le_refl _) (Nat.lt_succ_self _) (.int .i64 z2)))
          have kx0 := box_cell HD.out.bx 0 (.int .i64 m) rfl; have fx0 := box_frozen HD.out.bx 0
          have xx0 := box_cell HF.out.bx 0 (.int .i64 z2) rfl; have xx1 := box_cell HF.out.bx 1 (.slice av L.length cv) rfl; have ky0 := box_cell HF.out.br 0 (.int .i64 0) rfl; have ky1 := box_cell HF.out.br 1 (.slice none 0 0) rfl; have fy0 := box_frozen HF.out.br 0; have fy1 := box_frozen HF.out.br 1
          clear HZ hbs
          go_wp2_with fail
          have hfin := (HF.out.mono (lim' := lim + 2000) (by omega)).done
          exact bodyPost_ret (v := .agg #[.int .i64 z2, .slice av L.length cv]) (by simp [results, Tryd.results23, go_sem, ky0, ky1]) rfl ⟨_, (z2, L), rfl, hfin.1, by simp only; omega, ⟨by simp only; omega, by simp only; omega⟩, hfin.2⟩
        · go_wp2_with (at_builtin; refine wpList_appendC rfl _ _ 23 34 rfl (.agg #[.int .i64 0, .int .i64 0, .int .i64 0]) 3 24 Tryd.underlying23 infoEdge rfl (by decide) (by decide) (px + 1) _ _ L.length (tris L) (HB.out.ho.keep ((Below.refl _ _).alloc (Nat.le_refl _) (.cells #[.int .i64 0, .int .i64 0, .int .i64 0] 34))) rfl _ 1 (tris [(0, 0, 0)]) (lit3 _ _ (by simp) 0 0 0) rfl (tris_one _) (by omega) (by omega) (by have := HB.out.plt; simp; omega) ?_; intro v' w9 hown hchg; obtain ⟨a9, c9, rfl, -, -⟩ := Rd.form hown.rd; have hch9 := (Chg.of_below (lo := px + 1) (hi := _) ((Below.refl _ _).alloc (Nat.le_refl _) (.cells #[.int .i64 0, .int .i64 0, .int .i64 0] 34))).trans hchg; rw [← tris_append] at hown; have hbx9 := (hch9.block px HB.out.plt (.inl (Nat.lt_succ_self _))).trans HB.out.bx; have q1 := box_cell hbx9 1 (.slice av L.length cv) rfl; have q2 := box_frozen hbx9 1; have hbs := box_set hbx9 1 (.slice a9 (L.length + 1) c9); have HF := Lib.hid (HB.out.set (m' := m) (v' := .slice a9 (L.length + 1) c9) (L' := L ++ [(0, 0, 0)]) hch9 (by simpa using hown) (by simpa using hbs) (Chg.setCell (p := ⟨px, 1, none⟩) (Nat.le_refl _) (Nat.lt_succ_self _) _)); have xx0 := box_cell HF.out.bx 0 (.int .i64 m) rfl; have xx1 := box_cell HF.out.bx 1 (.slice a9 (L.length + 1) c9) rfl; have ky0 := box_cell HF.out.br 0 (.int .i64 0) rfl; have ky1 := box_cell HF.out.br 1 (.slice none 0 0) rfl; have fy0 := box_frozen HF.out.br 0; have fy1 := box_frozen HF.out.br 1; clear hown hchg hbx9 hbs)
          have hfin := (HF.out.mono (lim' := lim + 2000) (by omega)).done
          exact bodyPost_ret (v := .agg #[.int .i64 m, .slice a9 (L.length + 1) c9]) (by simp [results, Tryd.results23, go_sem, ky0, ky1]) rfl ⟨_, (m, L ++ [(0, 0, 0)]), rfl, hfin.1, by simp; omega, ⟨by simp only; omega, by simp only; omega⟩, hfin.2⟩
        · go_wp2_with (at_builtin; refine wpList_appendC rfl _ _ 23 34 rfl (.agg #[.int .i64 0, .int .i64 0, .int .i64 0]) 3 24 Tryd.underlying23 infoEdge rfl (by decide) (by decide) (px + 1) _ _ L.length (tris L) (HB.out.ho.keep ((Below.refl _ _).alloc (Nat.le_refl _) (.cells #[.int .i64 0, .int .i64 1, .int .i64 21] 34))) rfl _ 1 (tris [(0, 1, 21)]) (lit3 _ _ (by simp) 0 1 21) rfl (tris_one _) (by omega) (by omega) (by have := HB.out.plt; simp; omega) ?_; intro v' w9 hown hchg; obtain ⟨a9, c9, rfl, -, -⟩ := Rd.form hown.rd; have hch9 := (Chg.of_below (lo := px + 1) (hi := _) ((Below.refl _ _).alloc (Nat.le_refl _) (.cells #[.int .i64 0, .int .i64 1, .int .i64 21] 34))).trans hchg; rw [← tris_append] at hown; have hbx9 := (hch9.block px HB.out.plt (.inl (Nat.lt_succ_self _))).trans HB.out.bx; have q1 := box_cell hbx9 1 (.slice av L.length cv) rfl; have q2 := box_frozen hbx9 1; have hbs := box_set hbx9 1 (.slice a9 (L.length + 1) c9); have HF := Lib.hid (HB.out.set (m' := m) (v' := .slice a9 (L.length + 1) c9) (L' := L ++ [(0, 1, 21)]) hch9 (by simpa using hown) (by simpa using hbs) (Chg.setCell (p := ⟨px, 1, none⟩) (Nat.le_refl _) (Nat.lt_succ_self _) _)); have xx0 := box_cell HF.out.bx 0 (.int .i64 m) rfl; have xx1 := box_cell HF.out.bx 1 (.slice a9 (L.length + 1) c9) rfl; have ky0 := box_cell HF.out.br 0 (.int .i64 0) rfl; have ky1 := box_cell HF.out.br 1 (.slice none 0 0) rfl; have fy0 := box_frozen HF.out.br 0; have fy1 := box_frozen HF.out.br 1; clear hown hchg hbx9 hbs)
          have hfin := (HF.out.mono (lim' := lim + 2000) (by omega)).done
          exact bodyPost_ret (v := .agg #[.int .i64 m, .slice a9 (L.length + 1) c9]) (by simp [results, Tryd.results23, go_sem, ky0, ky1]) rfl ⟨_, (m, L ++ [(0, 1, 21)]), rfl, hfin.1, by simp; omega, ⟨by simp only; omega, by simp only; omega⟩, hfin.2⟩
        · go_wp2_with (at_builtin; refine wpList_appendC rfl _ _ 23 34 rfl (.agg #[.int .i64 0, .int .i64 0, .int .i64 0]) 3 24 Tryd.underlying23 infoEdge rfl (by decide) (by decide) wB.heap.size (wB.heap.size + 1) _ 1 (tris [(15, 0, 0)]) (.inr ⟨rfl, wB.heap.size, 1, _, rfl, Nat.le_refl _, Nat.lt_succ_self _, heap_alloc_new wB _, Nat.le_refl _, by decide, rfl, rfl⟩) rfl (.slice av L.length cv) L.length (tris L) (HB.out.ho.rd.keep ((Below.refl _ _).alloc (Nat.le_refl _) (.cells #[.int .i64 15, .int .i64 0, .int .i64 0] 34))) rfl (tris_one _) (by omega) (by omega) (by simp) ?_; intro v' w9 hown hchg; obtain ⟨a9, c9, rfl, -, -⟩ := Rd.form hown.rd; have hpb := HB.out.plt; have hch9 := (Chg.of_below (lo := px + 1) (hi := wB.heap.size + 1) ((Below.refl wB.heap.size wB).alloc (Nat.le_refl _) (.cells #[.int .i64 15, .int .i64 0, .int .i64 0] 34))).trans (hchg.mono (show px + 1 ≤ wB.heap.size by omega) (Nat.le_refl _)); rw [← tris_append] at hown; have hbx9 := (hch9.block px HB.out.plt (.inl (Nat.lt_succ_self _))).trans HB.out.bx; have q1 := box_cell hbx9 1 (.slice av L.length cv) rfl; have q2 := box_frozen hbx9 1; have hbs := box_set hbx9 1 (.slice a9 (1 + L.length) c9); have HF := Lib.hid (HB.out.set (m' := m) (v' := .slice a9 (1 + L.length) c9) (L' := [(15, 0, 0)] ++ L) hch9 (by rw [List.length_append]; exact hown.mono (by omega) (Nat.le_refl _)) (by simpa using hbs) (Chg.setCell (p := ⟨px, 1, none⟩) (Nat.le_refl _) (Nat.lt_succ_self _) _)); have xx0 := box_cell HF.out.bx 0 (.int .i64 m) rfl; have xx1 := box_cell HF.out.bx 1 (.slice a9 (1 + L.length) c9) rfl; have ky0 := box_cell HF.out.br 0 (.int .i64 0) rfl; have ky1 := box_cell HF.out.br 1 (.slice none 0 0) rfl; have fy0 := box_frozen HF.out.br 0; have fy1 := box_frozen HF.out.br 1; clear hown hchg hbx9 hbs)
          have hfin := (HF.out.mono (lim' := lim + 2000) (by omega)).done
          exact bodyPost_ret (v := .agg #[.int .i64 m, .slice a9 (1 + L.length) c9]) (by simp [results, Tryd.results23, go_sem, ky0, ky1]) rfl ⟨_, (m, [(15, 0, 0)] ++ L), rfl, hfin.1, by simp; omega, ⟨by simp only; omega, by simp only; omega⟩, hfin.2⟩
end Go.Proofs.YtgdggkhdollieaaDoor
