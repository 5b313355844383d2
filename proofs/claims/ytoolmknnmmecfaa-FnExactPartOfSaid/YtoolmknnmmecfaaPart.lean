/-
  The part of a graph that a worker holds.
-/
import Derived.Test.YtoolmknnmmecfaaAddE
import Derived.Test.YtoolmknnmmecfaaNum
namespace Go.Proofs.Ytoolmknnmmecfaa
open Go.RowKit
set_option linter.unusedVariables false

/-- The part of a graph. -/
def partOf (g : GraphD) (k q : Int) : GraphD := if GraphOk g ∧ (1 ≤ k ∧ k ≤ 6) ∧ (0 ≤ q ∧ q < k) then (g.1, g.2.filter fun e => ownerOf e.1 k == q) else (0, [])
theorem partOf_no {g : GraphD} {k q : Int} (h : graphOk g = false ∨ ¬ (1 ≤ k ∧ k ≤ 6) ∨ ¬ (0 ≤ q ∧ q < k)) : partOf g k q = (0, []) := by
  refine if_neg fun hh => ?_
  rcases h with h | h | h
  · rw [graphOk, decide_eq_true hh.1] at h; cases h
  · exact h hh.2.1
  · exact h hh.2.2
theorem partOf_size (g : GraphD) (k q : Int) : (partOf g k q).2.length ≤ 40 := by
  unfold partOf
  split
  · rename_i h
    exact Nat.le_trans (List.length_filter_le _ _) h.1.2.1
  · exact Nat.zero_le _
/-- What PartOf holds behind the world in which the new graph's box was laid. -/
structure PE (wp wr : World) (px : Nat) (m : Int) (hi : Nat) (v : Value) (L : List Tri) : Prop where
  hb : Below px wp wr
  bx : wr.heap[px]? = some (.cells #[.int .i64 m, v] 29 (0, 0))
  ho : Ow (px + 1) hi wr 38 3 v L.length (tris L)
  top : hi ≤ wr.heap.size
section
variable {wp wr w' w9 : World} {px : Nat} {m : Int} {hi : Nat} {v v' : Value} {L L' : List Tri}
theorem PE.plt (h : PE wp wr px m hi v L) : px < wr.heap.size := box_lt h.bx
theorem PE.keep (h : PE wp wr px m hi v L) (hb : Below wr.heap.size wr w') : PE wp w' px m hi v L :=
  ⟨h.hb.trans (hb.mono (Nat.le_of_lt h.plt)), box_keep h.bx hb, h.ho.keep hb, Nat.le_trans h.top hb.size⟩
theorem PE.push (h : PE wp wr px m hi v L) (hc : Chg (px + 1) hi wr w9) (ho : Ow (px + 1) w9.heap.size w9 38 3 v' L'.length (tris L')) :
    PE wp (w9.setCell ⟨px, 1, none⟩ v') px m w9.heap.size v' L' := by
  have hpx := h.plt
  have hs : Chg px (px + 1) w9 (w9.setCell ⟨px, 1, none⟩ v') := Chg.setCell (p := ⟨px, 1, none⟩) (Nat.le_refl _) (Nat.lt_succ_self _) _
  refine ⟨?_, ?_, ?_, by simp⟩
  · have b1 : Below px wr w9 := ⟨hc.os, hc.tape, hc.output, hc.size, fun k hk => hc.block k (by omega) (.inl (by omega))⟩
    have b2 : Below px w9 (w9.setCell ⟨px, 1, none⟩ v') := ⟨hs.os, hs.tape, hs.output, hs.size, fun k hk => hs.block k (by have := b1.size; omega) (.inl hk)⟩
    exact (h.hb.trans b1).trans b2
  · have h9 := (hc.block _ hpx (.inl (Nat.lt_succ_self _))).trans h.bx
    have := box_set h9 1 v'
    simpa using this
  · exact ho.chg hs (.inl (Nat.le_refl _))
end
theorem filter_step (ys : List Tri) (f : Tri → Bool) (t : Nat) (ht : t < ys.length) : (ys.take (t + 1)).filter f = (ys.take t).filter f ++ (if f (ys.getD t triZ) then [ys.getD t triZ] else []) := by
  rw [take_snoc ys t triZ ht, List.filter_append]
  congr 1
  generalize ys.getD t triZ = e
  cases h : f e <;> simp [h]
theorem RdGraph.eds1 {w : World} {v0 v1 : Value} {g : GraphD} (h : RdGraph w (.agg #[v0, v1]) g) : RdEdgeS w v1 g.2 := by
  obtain ⟨u, e, h1⟩ := h
  obtain ⟨-, rfl⟩ : v0 = _ ∧ v1 = u := by simpa using e
  exact h1
theorem tab_world (w : World) (k : Int) (t : TypeId) (zs : Array Value) (hz : zs.size = 16) : Below w.heap.size w ((w.alloc (.cells zs t)).setRow w.heap.size (table k)) ∧ ((w.alloc (.cells zs t)).setRow w.heap.size (table k)).heap[w.heap.size]? = some (.cells (table k) t (0, 0)) ∧ ((w.alloc (.cells zs t)).setRow w.heap.size (table k)).heap.size = w.heap.size + 1 := by
  refine ⟨((Below.refl _ _).alloc (Nat.le_refl _) _).trans ⟨rfl, rfl, rfl, by simp, fun j hj => setRow_other _ _ _ _ (by omega)⟩, setRow_heap _ _ _ _ _ _ (heap_alloc_new w _), by simp⟩
theorem ownerOf_F {v k : Int} (h : 0 ≤ v ∧ v ≤ 15) (hk : 1 ≤ k ∧ k ≤ 6) : ownerOf v k = ownerF v k := by rw [ownerOf, if_pos ⟨h.1, h.2, hk.1, hk.2⟩]

set_option maxRecDepth 100000 in
set_option maxHeartbeats 8000000 in
theorem implPartOf_any (w : World) (va : Value) (g : GraphD) (k q : Int) (h : RdGraph w va g) :
    Calls Try.prog 19 #[va, .int .i64 k, .int .i64 q] w fun e w' => ∃ s, e = .returned s ∧ OwGraph w.heap.size w'.heap.size w' s (partOf g k q) ∧ Below w.heap.size w w' := by
  obtain ⟨p, c, rfl, hr, hc, hmx⟩ := h.form
  have hb0 : Below w.heap.size w ((w.alloc (.cells #[.int .i64 g.1, .slice p g.2.length c] 29)).alloc (.cells #[.int .i64 0, .slice none 0 0] 29)) := by go_grown
  have HRG := Lib.hid (h.keep hb0)
  have HB := Lib.hid hb0
  clear h hr hb0
  have B1 := Lib.hid (box_alloc (heap_alloc_new w (.cells #[.int .i64 g.1, .slice p g.2.length c] 29)) (.cells #[.int .i64 0, .slice none 0 0] 29))
  have B2 := Lib.hid (heap_alloc_new (w.alloc (.cells #[.int .i64 g.1, .slice p g.2.length c] 29)) (.cells #[.int .i64 0, .slice none 0 0] 29))
  have hsz : ((w.alloc (.cells #[.int .i64 g.1, .slice p g.2.length c] 29)).alloc (.cells #[.int .i64 0, .slice none 0 0] 29)).heap.size = w.heap.size + 2 := by simp
  simp only [World.size_alloc] at B2
  have k10 := box_cell B1.out 0 (.int .i64 g.1) rfl; have k11 := box_cell B1.out 1 (.slice p g.2.length c) rfl
  obtain ⟨S, hS⟩ : ∃ S, partOf g k q = S := ⟨_, rfl⟩
  rw [hS]
  have HS := Lib.hid hS; clear hS
  go_enter Try.func19, Try.ntmps19
  go_wp2_with fail
  generalize ((w.alloc (.cells #[.int .i64 g.1, .slice p g.2.length c] 29)).alloc (.cells #[.int .i64 0, .slice none 0 0] 29)) = w0 at *
  refine (implGraphValid_any _ _ g HRG.out).mono ?_
  rintro e w1 ⟨rfl, hb⟩
  have hsz1 := hb.size
  replace HB := Lib.hid (HB.out.tr hb); replace B1 := Lib.hid (box_keep B1.out hb); replace B2 := Lib.hid (box_keep B2.out hb); replace HRG := Lib.hid (HRG.out.keep hb)
  clear hb k10 k11
  have kr0 := box_cell B2.out 0 (.int .i64 0) rfl; have kr1 := box_cell B2.out 1 (.slice none 0 0) rfl; have fr0 := box_frozen B2.out 0; have fr1 := box_frozen B2.out 1
  cases hok : graphOk g
  · have HSZ := Lib.hid (HS.out.symm.trans (partOf_no (.inl hok)))
    go_wp2_with fail
    have hK : Chg (w.heap.size + 1) (w.heap.size + 1 + 1) w1 ((w1.setCell ⟨w.heap.size + 1, 0, none⟩ (.int .i64 0)).setCell ⟨w.heap.size + 1, 1, none⟩ (.slice none 0 0)) := (Chg.setCell (p := ⟨w.heap.size + 1, 0, none⟩) (Nat.le_refl _) (Nat.lt_succ_self _) _).trans (Chg.setCell (p := ⟨w.heap.size + 1, 1, none⟩) (Nat.le_refl _) (Nat.lt_succ_self _) _)
    refine bodyPost_ret (v := .agg #[.int .i64 0, .slice none 0 0]) (by simp [results, Try.results19, go_sem, kr0, kr1]) rfl ⟨_, rfl, by rw [HSZ.out]; exact ⟨_, rfl, Ow.nil _ _ _ _ _ _⟩, hK.below HB.out (by omega)⟩
  have CW : ∀ b, decide (1 ≤ k ∧ k ≤ 6) = b → Hid (∀ wx, Calls Try.prog 41 #[.int .i64 k] wx fun e w' => e = .returned (.bool b) ∧ wx = w') := fun b hb => Lib.hid fun wx => by have := workersFit_any k wx; rw [hb] at this; exact this
  by_cases hk : 1 ≤ k ∧ k ≤ 6
  case neg =>
    have HSZ := Lib.hid (HS.out.symm.trans (partOf_no (.inr (.inl hk))))
    replace CW := CW _ (decide_eq_false hk)
    clear hok
    go_wp2_with (go_at_call 41; refine (CW.out _).mono ?_; rintro e w' ⟨rfl, rfl⟩)
    have hK : Chg (w.heap.size + 1) (w.heap.size + 1 + 1) w1 ((w1.setCell ⟨w.heap.size + 1, 0, none⟩ (.int .i64 0)).setCell ⟨w.heap.size + 1, 1, none⟩ (.slice none 0 0)) := (Chg.setCell (p := ⟨w.heap.size + 1, 0, none⟩) (Nat.le_refl _) (Nat.lt_succ_self _) _).trans (Chg.setCell (p := ⟨w.heap.size + 1, 1, none⟩) (Nat.le_refl _) (Nat.lt_succ_self _) _)
    refine bodyPost_ret (v := .agg #[.int .i64 0, .slice none 0 0]) (by simp [results, Try.results19, go_sem, kr0, kr1]) rfl ⟨_, rfl, by rw [HSZ.out]; exact ⟨_, rfl, Ow.nil _ _ _ _ _ _⟩, hK.below HB.out (by omega)⟩
  replace CW := CW _ (decide_eq_true hk)
  by_cases hq : 0 ≤ q ∧ q < k
  case neg =>
    have HSZ := Lib.hid (HS.out.symm.trans (partOf_no (.inr (.inr hq))))
    clear hok
    by_cases hq0 : q < 0
    · have hd0 : decide (q < 0) = true := decide_eq_true hq0
      clear hq hq0
      go_wp2_with (go_at_call 41; refine (CW.out _).mono ?_; rintro e w' ⟨rfl, rfl⟩)
      have hK : Chg (w.heap.size + 1) (w.heap.size + 1 + 1) w1 ((w1.setCell ⟨w.heap.size + 1, 0, none⟩ (.int .i64 0)).setCell ⟨w.heap.size + 1, 1, none⟩ (.slice none 0 0)) := (Chg.setCell (p := ⟨w.heap.size + 1, 0, none⟩) (Nat.le_refl _) (Nat.lt_succ_self _) _).trans (Chg.setCell (p := ⟨w.heap.size + 1, 1, none⟩) (Nat.le_refl _) (Nat.lt_succ_self _) _)
      refine bodyPost_ret (v := .agg #[.int .i64 0, .slice none 0 0]) (by simp [results, Try.results19, go_sem, kr0, kr1]) rfl ⟨_, rfl, by rw [HSZ.out]; exact ⟨_, rfl, Ow.nil _ _ _ _ _ _⟩, hK.below HB.out (by omega)⟩
    · have hd0 : decide (q < 0) = false := decide_eq_false hq0
      have hd1 : decide (k ≤ q) = true := decide_eq_true (by omega)
      clear hq hq0
      go_wp2_with (go_at_call 41; refine (CW.out _).mono ?_; rintro e w' ⟨rfl, rfl⟩)
      have hK : Chg (w.heap.size + 1) (w.heap.size + 1 + 1) w1 ((w1.setCell ⟨w.heap.size + 1, 0, none⟩ (.int .i64 0)).setCell ⟨w.heap.size + 1, 1, none⟩ (.slice none 0 0)) := (Chg.setCell (p := ⟨w.heap.size + 1, 0, none⟩) (Nat.le_refl _) (Nat.lt_succ_self _) _).trans (Chg.setCell (p := ⟨w.heap.size + 1, 1, none⟩) (Nat.le_refl _) (Nat.lt_succ_self _) _)
      refine bodyPost_ret (v := .agg #[.int .i64 0, .slice none 0 0]) (by simp [results, Try.results19, go_sem, kr0, kr1]) rfl ⟨_, rfl, by rw [HSZ.out]; exact ⟨_, rfl, Ow.nil _ _ _ _ _ _⟩, hK.below HB.out (by omega)⟩
  have hd0 : decide (q < 0) = false := decide_eq_false (by omega)
  have hd1 : decide (k ≤ q) = false := decide_eq_false (by omega)
  have hgo := graphOk_yes hok
  have HPO : Hid (S = (g.1, g.2.filter fun e => ownerOf e.1 k == q)) := Lib.hid (HS.out.symm.trans (if_pos ⟨hgo, hk, hq⟩))
  have hl40 := hgo.2.1
  have HED := Lib.hid (fun t (ht : t < g.2.length) => (hgo.2.2 t ht).1)
  have hm16 := hgo.1
  clear hok hgo hq
  go_wp2_with (go_at_call 41; refine (CW.out _).mono ?_; rintro e w' ⟨rfl, rfl⟩)
  clear CW hd0 hd1 kr0 kr1 fr0 fr1
  refine (ownerTable_any k hk.1 hk.2 _).mono ?_
  rintro e w2 ⟨rfl, hb⟩
  have hsz2 := hb.size
  replace HB := Lib.hid (HB.out.tr hb); replace B1 := Lib.hid (box_keep B1.out hb); replace B2 := Lib.hid (box_keep B2.out hb); replace HRG := Lib.hid (HRG.out.keep hb)
  clear hb
  have k10 := box_cell B1.out 0 (.int .i64 g.1) rfl; have k11 := box_cell B1.out 1 (.slice p g.2.length c) rfl
  go_wp2_with (refine wpList_store_row rfl 60 (.tmp 7) (.tmp 30) rfl w2.heap.size (table k) rfl rfl 60 _ (heap_alloc_new w2 _) (by kernel_rfl) rfl (table_one k) ?_; obtain ⟨hb, htb, hsz3⟩ := tab_world w2 k 60 _ (show (#[Value.int .i64 0, .int .i64 0, .int .i64 0, .int .i64 0, .int .i64 0, .int .i64 0, .int .i64 0, .int .i64 0, .int .i64 0, .int .i64 0, .int .i64 0, .int .i64 0, .int .i64 0, .int .i64 0, .int .i64 0, .int .i64 0]).size = 16 from rfl); have HTB := Lib.hid htb; replace HB := Lib.hid (HB.out.tr hb); replace B1 := Lib.hid (box_keep B1.out hb); replace B2 := Lib.hid (box_keep B2.out hb); replace HRG := Lib.hid (HRG.out.keep hb); clear hb htb k10 k11; generalize ((w2.alloc (.cells #[.int .i64 0, .int .i64 0, .int .i64 0, .int .i64 0, .int .i64 0, .int .i64 0, .int .i64 0, .int .i64 0, .int .i64 0, .int .i64 0, .int .i64 0, .int .i64 0, .int .i64 0, .int .i64 0, .int .i64 0, .int .i64 0] 60)).setRow w2.heap.size (table k)) = w3 at *; have k10 := box_cell B1.out 0 (.int .i64 g.1) rfl; have k11 := box_cell B1.out 1 (.slice p g.2.length c) rfl; have k12 := box_cell (box_alloc B1.out (.cells #[.int .i64 g.1, .slice none 0 0] 29)) 0 (.int .i64 g.1) rfl; have k13 := box_cell (box_alloc B1.out (.cells #[.int .i64 g.1, .slice none 0 0] 29)) 1 (.slice p g.2.length c) rfl)
  have PE0 : Hid (PE w3 (w3.alloc (.cells #[.int .i64 g.1, .slice none 0 0] 29)) w3.heap.size g.1 (w3.heap.size + 1) (.slice none 0 0) []) := Lib.hid ⟨(Below.refl _ _).alloc (Nat.le_refl _) _, heap_alloc_new _ _, Ow.nil _ _ _ _ _ _, by simp⟩
  have hB1l := box_lt B1.out; have hB2l := box_lt B2.out; have hTl := box_lt HTB.out
  generalize (w3.alloc (.cells #[.int .i64 g.1, .slice none 0 0] 29)) = w4 at *
  clear k10 k11 k12 k13
  rw [hsz3] at PE0 hTl hB1l hB2l
  generalize w2.heap.size + 1 = px at *
  generalize hl : g.2.length = l at *
  have HL := Lib.hid hl; clear hl
  go_loopw [37] (fun i wr => ∃ (t hi : Nat) (v : Value), t ≤ l ∧ i = .int .i64 t ∧ Hid (PE w3 wr px g.1 hi v ((g.2.take t).filter fun e => ownerOf e.1 k == q))) (fun i _ => l - (intOf i).toNat)
  case atStart => exact ⟨0, _, _, Nat.zero_le _, rfl, PE0⟩
  case round =>
    clear PE0
    obtain ⟨t, hi, v, ht, rfl, HP⟩ := hrel
    by_cases hlt : t < l
    · have HR2 := HRG.out.keep (HP.out.hb.mono (show w3.heap.size ≤ px by omega))
      obtain ⟨b1, o1, rfl, hb1, c0, c1, c2⟩ := Rd.tri (ys := g.2) (k := t) (by have := HR2.eds1; unfold RdEdgeS at this; rw [HL.out] at this; exact this) hlt
      clear HR2
      have hFS := filter_step g.2 (fun e => ownerOf e.1 k == q) t (by rw [HL.out]; exact hlt)
      have hed := HED.out t hlt
      generalize g.2.getD t triZ = ee at *
      obtain ⟨ta, tb, tc⟩ := ee
      simp only at c0 c1 c2 hed hFS
      rw [ownerOf_F (by omega) hk] at hFS
      obtain ⟨n, rfl⟩ := Int.eq_ofNat_of_zero_le hed.1
      have hn16 : n < 16 := by omega
      have ctb := box_cell ((HP.out.hb.block _ hTl).trans HTB.out) n _ (table_get k n hn16)
      have HP1 := Lib.hid (HP.out.keep ((Below.refl _ _).alloc (Nat.le_refl _) (.cells #[.int .i64 (n : Int), .int .i64 tb, .int .i64 tc] 38)))
      have hLl : ((g.2.take t).filter fun e => ownerOf e.1 k == q).length ≤ 40 := Nat.le_trans (List.length_filter_le _ _) (by simp; omega)
      replace hFS := Lib.hid hFS
      have HBO := Lib.hid (heap_alloc_new wr (.cells #[.int .i64 (n : Int), .int .i64 tb, .int .i64 tc] 38))
      generalize ((g.2.take t).filter fun e => ownerOf e.1 k == q) = L at *
      have ko0 := box_cell HBO.out 0 (.int .i64 (n : Int)) rfl; have ko1 := box_cell HBO.out 1 (.int .i64 tb) rfl; have ko2 := box_cell HBO.out 2 (.int .i64 tc) rfl
      have kx1 := box_cell HP1.out.bx 1 _ rfl
      have ctb1 : (wr.alloc (.cells #[.int .i64 (n : Int), .int .i64 tb, .int .i64 tc] 38)).cell? ⟨w2.heap.size, n, none⟩ = some (.int .i64 (ownerF (n : Int) k)) := (World.cell?_alloc_old _ _ _ (by have h1 := HP.out.plt; have h2 := hTl; show w2.heap.size ≠ wr.heap.size; omega)).trans ctb
      clear hed
      by_cases heq : ownerF (n : Int) k = q
      · have h9 : (ownerF (n : Int) k == q) = true := by simpa using heq
        have HF9 : Hid ((g.2.take (t + 1)).filter (fun e => ownerOf e.1 k == q) = L ++ [((n : Int), tb, tc)]) := Lib.hid (by rw [hFS.out, h9]; rfl)
        clear hFS heq
        generalize ownerF (n : Int) k = F at *
        go_wp2_with (at_builtin; refine wpList_appendC rfl _ _ 27 38 rfl (.agg #[.int .i64 0, .int .i64 0, .int .i64 0]) 3 24 Try.underlying27 infoEdge rfl (by decide) (by decide) (px + 1) _ _ L.length (tris L) (HP1.out.ho.keep ((Below.refl _ _).alloc (Nat.le_refl _) (.cells #[.int .i64 (n : Int), .int .i64 tb, .int .i64 tc] 38))) rfl _ 1 (tris [((n : Int), tb, tc)]) (lit3 _ _ (by simp) (n : Int) tb tc) rfl (tris_one _) (by omega) (by omega) (by have := HP1.out.plt; simp at this ⊢; omega) ?_; intro v' w9 hown hchg; obtain ⟨a9, c9, rfl, -, -⟩ := Rd.form hown.rd; have hch9 := (Chg.of_below (lo := px + 1) (hi := _) ((Below.refl _ _).alloc (Nat.le_refl _) (.cells #[.int .i64 (n : Int), .int .i64 tb, .int .i64 tc] 38))).trans hchg; rw [← tris_append] at hown; have HP9 := Lib.hid (HP1.out.push hch9 (L' := L ++ [((n : Int), tb, tc)]) (by rw [List.length_append]; exact hown)); have q1 := box_cell ((hch9.block _ HP1.out.plt (.inl (Nat.lt_succ_self _))).trans HP1.out.bx) 1 _ rfl; have q2 := box_frozen ((hch9.block _ HP1.out.plt (.inl (Nat.lt_succ_self _))).trans HP1.out.bx) 1; clear hown hchg)
        go_roundw
        case rel => exact ⟨t + 1, _, _, by omega, by go_num, Lib.hid (by rw [HF9.out]; exact HP9.out)⟩
        case measure => simp [intOf]; omega
      · have h9 : (ownerF (n : Int) k == q) = false := by simpa using heq
        have HF9 : Hid ((g.2.take (t + 1)).filter (fun e => ownerOf e.1 k == q) = L) := Lib.hid (by rw [hFS.out, h9]; simp)
        clear hFS heq
        generalize ownerF (n : Int) k = F at *
        go_wp2_with fail
        go_roundw
        case rel => exact ⟨t + 1, _, _, by omega, by go_num, Lib.hid (by rw [HF9.out]; exact HP1.out)⟩
        case measure => simp [intOf]; omega
    · obtain rfl : t = l := by omega
      have HF9 : Hid (g.2.take t = g.2) := Lib.hid (List.take_of_length_le (by rw [HL.out]; exact Nat.le_refl _))
      rw [HF9.out] at HP
      obtain ⟨av, cv, rfl, -, -⟩ := Rd.form HP.out.ho.rd
      generalize (g.2.filter fun e => ownerOf e.1 k == q) = L at *
      have kx0 := box_cell HP.out.bx 0 (.int .i64 g.1) rfl; have kx1 := box_cell HP.out.bx 1 (.slice av L.length cv) rfl
      have hr2 : wr.heap[w.heap.size + 1]? = some (.cells #[.int .i64 0, .slice none 0 0] 29 (0, 0)) := (HP.out.hb.block _ hB2l).trans B2.out
      have kr0 := box_cell hr2 0 (.int .i64 0) rfl; have kr1 := box_cell hr2 1 (.slice none 0 0) rfl; have fr0 := box_frozen hr2 0; have fr1 := box_frozen hr2 1
      clear hr2
      go_wp2_with fail
      have hK : Chg (w.heap.size + 1) (w.heap.size + 1 + 1) wr ((wr.setCell ⟨w.heap.size + 1, 0, none⟩ (.int .i64 g.1)).setCell ⟨w.heap.size + 1, 1, none⟩ (.slice av L.length cv)) := (Chg.setCell (p := ⟨w.heap.size + 1, 0, none⟩) (Nat.le_refl _) (Nat.lt_succ_self _) _).trans (Chg.setCell (p := ⟨w.heap.size + 1, 1, none⟩) (Nat.le_refl _) (Nat.lt_succ_self _) _)
      have htop := HP.out.top
      have HO9 := (HP.out.ho.chg hK (.inl (by omega))).mono (show w.heap.size ≤ px + 1 by omega) (show hi ≤ ((wr.setCell ⟨w.heap.size + 1, 0, none⟩ (.int .i64 g.1)).setCell ⟨w.heap.size + 1, 1, none⟩ (.slice av L.length cv)).heap.size by simp; omega)
      refine bodyPost_ret (v := .agg #[.int .i64 g.1, .slice av L.length cv]) (by simp [results, Try.results19, go_sem, kr0, kr1]) rfl ⟨_, rfl, by rw [HPO.out]; exact ⟨_, rfl, HO9⟩, hK.below (HB.out.trans (HP.out.hb.mono (by omega))) (by omega)⟩

/-- What holds while the reference lays an edge behind the others. -/
structure PG (sz : Nat) (w3 : World) (px : Nat) (m : Int) (hi : Nat) (v : Value) (Z : List Tri) (e : Tri) (L : Nat → Bool) (wx : World) : Prop where
  b : Below px w3 wx
  top : sz ≤ wx.heap.size
  plt : px < wx.heap.size
  o : L 8 = false → Ow (px + 1) hi wx 38 3 v Z.length (tris Z)
  bx : L 10 = false → wx.heap[px]? = some (.cells #[.int .i64 m, v] 29 (0, 0))
  s8 : L 8 = true → L 1 = true ∧ L 7 = true
  s10 : L 10 = true → L 8 = true ∧ ∃ aa cc, wx.heap[px]? = some (.cells #[.int .i64 m, .slice aa (Z.length + 1) cc] 29 (0, 0)) ∧ Ow (px + 1) wx.heap.size wx 38 3 (.slice aa (Z.length + 1) cc) (Z.length + 1) (tris (Z ++ [e]))
def PR (px hi j : Nat) (wx wy : World) : Prop := wx.heap.size ≤ wy.heap.size ∧ (j ≠ 8 → j ≠ 10 → Below wx.heap.size wx wy) ∧ (j = 8 → Chg (px + 1) hi wx wy) ∧ (j = 10 → Chg px (px + 1) wx wy)
theorem PR.same (px hi j : Nat) (w : World) : PR px hi j w w := ⟨Nat.le_refl _, fun _ _ => Below.refl _ _, fun _ => Chg.refl _ _ _, fun _ => Chg.refl _ _ _⟩
theorem PR.of {px hi j : Nat} {wx wy : World} (h : j ≠ 8 ∧ j ≠ 10) (hb : Below wx.heap.size wx wy) : PR px hi j wx wy := ⟨hb.size, fun _ _ => hb, fun e => (h.1 e).elim, fun e => (h.2 e).elim⟩
theorem setL_t {L : Nat → Bool} (i : Nat) {j : Nat} (h : L j = true) : setL L i j = true := by unfold setL; split <;> simp_all
theorem setL_n {L : Nat → Bool} {i j : Nat} (hij : j ≠ i) : setL L i j = L j := by simp [setL, hij]
theorem PG.keep {sz : Nat} {w3 : World} {px : Nat} {m : Int} {hi : Nat} {v : Value} {Z : List Tri} {e : Tri} {L : Nat → Bool} {wx wy : World} (h : PG sz w3 px m hi v Z e L wx) {i : Nat} (h8 : i ≠ 8 ∧ i ≠ 10) (hb : Below wx.heap.size wx wy) : PG sz w3 px m hi v Z e (setL L i) wy := by
  have e8 : setL L i 8 = L 8 := setL_n (Ne.symm h8.1)
  have e10 : setL L i 10 = L 10 := setL_n (Ne.symm h8.2)
  refine ⟨h.b.trans (hb.mono (Nat.le_of_lt h.plt)), Nat.le_trans h.top hb.size, Nat.lt_of_lt_of_le h.plt hb.size, fun h1 => ?_, fun h1 => ?_, fun h1 => ?_, fun h1 => ?_⟩
  · rw [e8] at h1; exact (h.o h1).keep hb
  · rw [e10] at h1; exact box_keep (h.bx h1) hb
  · rw [e8] at h1; exact ⟨setL_t i (h.s8 h1).1, setL_t i (h.s8 h1).2⟩
  · rw [e10] at h1
    obtain ⟨h2, aa, cc, h3, h4⟩ := h.s10 h1
    exact ⟨setL_t i h2, aa, cc, box_keep h3 hb, (h4.keep hb).mono (Nat.le_refl _) hb.size⟩
theorem lit3o (w : World) (a b c : Int) : Ow w.heap.size (w.alloc (.cells #[.int .i64 a, .int .i64 b, .int .i64 c] 38)).heap.size (w.alloc (.cells #[.int .i64 a, .int .i64 b, .int .i64 c] 38)) 38 3 (.slice (some ⟨w.heap.size, 0, none⟩) 1 1) 1 (tris [(a, b, c)]) :=
  Ow.of_row (ownsRow_lit (base := w.heap.size) (size := 3) (e := 38) w #[.int .i64 a, .int .i64 b, .int .i64 c] 1 (Nat.le_refl _) (by decide) rfl)

set_option maxRecDepth 100000 in
set_option maxHeartbeats 8000000 in
theorem specPartOf_any (w : World) (va : Value) (g : GraphD) (k q : Int) (h : RdGraph w va g) (hs : g.2.length ≤ 1099511627776) :
    Calls Try.prog 18 #[va, .int .i64 k, .int .i64 q] w fun e w' => ∃ s, e = .returned s ∧ OwGraph w.heap.size w'.heap.size w' s (partOf g k q) ∧ Below w.heap.size w w' := by
  obtain ⟨p, c, rfl, hr, hc, hmx⟩ := h.form
  have hb0 : Below w.heap.size w ((w.alloc (.cells #[.int .i64 g.1, .slice p g.2.length c] 29)).alloc (.cells #[.int .i64 0, .slice none 0 0] 29)) := by go_grown
  have HRG := Lib.hid (h.keep hb0)
  have HB := Lib.hid hb0
  clear h hr hb0
  have B1 := Lib.hid (box_alloc (heap_alloc_new w (.cells #[.int .i64 g.1, .slice p g.2.length c] 29)) (.cells #[.int .i64 0, .slice none 0 0] 29))
  have B2 := Lib.hid (heap_alloc_new (w.alloc (.cells #[.int .i64 g.1, .slice p g.2.length c] 29)) (.cells #[.int .i64 0, .slice none 0 0] 29))
  have hsz : ((w.alloc (.cells #[.int .i64 g.1, .slice p g.2.length c] 29)).alloc (.cells #[.int .i64 0, .slice none 0 0] 29)).heap.size = w.heap.size + 2 := by simp
  simp only [World.size_alloc] at B2
  have k10 := box_cell B1.out 0 (.int .i64 g.1) rfl; have k11 := box_cell B1.out 1 (.slice p g.2.length c) rfl
  obtain ⟨S, hS⟩ : ∃ S, partOf g k q = S := ⟨_, rfl⟩
  rw [hS]
  have HS := Lib.hid hS; clear hS
  go_enter Try.func18, Try.ntmps18
  go_wp2_with fail
  generalize ((w.alloc (.cells #[.int .i64 g.1, .slice p g.2.length c] 29)).alloc (.cells #[.int .i64 0, .slice none 0 0] 29)) = w0 at *
  refine (ownGraph_any w0 _ g HRG.out hs).mono ?_
  rintro e w1 ⟨s, rfl, ⟨v1, rfl, ho⟩, hb⟩
  obtain ⟨p1, c1, rfl, hcl, hcm⟩ := Rd.form ho.rd
  have hsz1 := hb.size
  have HO1 := Lib.hid ho
  replace HB := Lib.hid (HB.out.tr hb); replace B1 := Lib.hid (box_keep B1.out hb); replace B2 := Lib.hid (box_keep B2.out hb)
  clear hb ho HRG k10 k11
  have k10 := box_cell B1.out 0 (.int .i64 g.1) rfl; have k11 := box_cell B1.out 1 _ rfl; have f10 := box_frozen B1.out 0; have f11 := box_frozen B1.out 1
  have hc2 : Chg w.heap.size (w.heap.size + 1) w1 ((w1.setCell ⟨w.heap.size, 0, none⟩ (.int .i64 g.1)).setCell ⟨w.heap.size, 1, none⟩ (.slice p1 g.2.length c1)) := (Chg.setCell (p := ⟨w.heap.size, 0, none⟩) (Nat.le_refl _) (Nat.lt_succ_self _) _).trans (Chg.setCell (p := ⟨w.heap.size, 1, none⟩) (Nat.le_refl _) (Nat.lt_succ_self _) _)
  have C1 : Hid (((w1.setCell ⟨w.heap.size, 0, none⟩ (.int .i64 g.1)).setCell ⟨w.heap.size, 1, none⟩ (.slice p1 g.2.length c1)).heap[w.heap.size]? = some (.cells #[.int .i64 g.1, .slice p1 g.2.length c1] 29 (0, 0))) := Lib.hid (by have := box_set (box_set B1.out 0 (.int .i64 g.1)) 1 (.slice p1 g.2.length c1); simpa using this)
  have C2 := Lib.hid (box_other (box_other B2.out ⟨w.heap.size, 0, none⟩ (.int .i64 g.1) (by simp <;> omega)) ⟨w.heap.size, 1, none⟩ (.slice p1 g.2.length c1) (by simp <;> omega))
  have HB2 := Lib.hid (hc2.below HB.out (Nat.le_refl _))
  have HO2 := Lib.hid (HO1.out.chg hc2 (.inl (by omega)))
  have hsz2 : ((w1.setCell ⟨w.heap.size, 0, none⟩ (.int .i64 g.1)).setCell ⟨w.heap.size, 1, none⟩ (.slice p1 g.2.length c1)).heap.size = w1.heap.size := by simp
  have j10 := box_cell C1.out 0 (.int .i64 g.1) rfl; have j11 := box_cell C1.out 1 (.slice p1 g.2.length c1) rfl
  go_wp2_with fail
  generalize ((w1.setCell ⟨w.heap.size, 0, none⟩ (.int .i64 g.1)).setCell ⟨w.heap.size, 1, none⟩ (.slice p1 g.2.length c1)) = w2 at *
  clear k10 k11 f10 f11 j10 j11 B1 B2 HO1 HB hc2
  have HRG : Hid (RdGraph w2 (.agg #[.int .i64 g.1, .slice p1 g.2.length c1]) g) := Lib.hid ⟨_, rfl, HO2.out.rd⟩
  refine (specGraphValid_any _ _ g HRG.out).mono ?_
  rintro e w3 ⟨rfl, hb⟩
  have hsz3 := hb.size
  have HB := Lib.hid (HB2.out.tr hb); have B1 := Lib.hid (box_keep C1.out hb); have B2 := Lib.hid (box_keep C2.out hb); replace HRG := Lib.hid (HRG.out.keep hb)
  clear hb C1 C2 HB2 HO2
  have kr0 := box_cell B2.out 0 (.int .i64 0) rfl; have kr1 := box_cell B2.out 1 (.slice none 0 0) rfl; have fr0 := box_frozen B2.out 0; have fr1 := box_frozen B2.out 1
  cases hok : graphOk g
  · have HSZ := Lib.hid (HS.out.symm.trans (partOf_no (.inl hok)))
    go_wp2_with fail
    have hK : Chg (w.heap.size + 1) (w.heap.size + 1 + 1) w3 ((w3.setCell ⟨w.heap.size + 1, 0, none⟩ (.int .i64 0)).setCell ⟨w.heap.size + 1, 1, none⟩ (.slice none 0 0)) := (Chg.setCell (p := ⟨w.heap.size + 1, 0, none⟩) (Nat.le_refl _) (Nat.lt_succ_self _) _).trans (Chg.setCell (p := ⟨w.heap.size + 1, 1, none⟩) (Nat.le_refl _) (Nat.lt_succ_self _) _)
    refine bodyPost_ret (v := .agg #[.int .i64 0, .slice none 0 0]) (by simp [results, Try.results18, go_sem, kr0, kr1]) rfl ⟨_, rfl, by rw [HSZ.out]; exact ⟨_, rfl, Ow.nil _ _ _ _ _ _⟩, hK.below HB.out (by omega)⟩
  have CW : ∀ b, decide (1 ≤ k ∧ k ≤ 6) = b → Hid (∀ wx, Calls Try.prog 30 #[.int .i64 k, .int .i64 1, .int .i64 6] wx fun e w' => e = .returned (.bool b) ∧ wx = w') := fun b hb => Lib.hid fun wx => l1In_is k 1 6 wx b hb
  by_cases hk : 1 ≤ k ∧ k ≤ 6
  case neg =>
    have HSZ := Lib.hid (HS.out.symm.trans (partOf_no (.inr (.inl hk))))
    replace CW := CW _ (decide_eq_false hk)
    clear hok
    go_wp2_with (go_at_call 30; refine (CW.out _).mono ?_; rintro e w' ⟨rfl, rfl⟩)
    have hK : Chg (w.heap.size + 1) (w.heap.size + 1 + 1) w3 ((w3.setCell ⟨w.heap.size + 1, 0, none⟩ (.int .i64 0)).setCell ⟨w.heap.size + 1, 1, none⟩ (.slice none 0 0)) := (Chg.setCell (p := ⟨w.heap.size + 1, 0, none⟩) (Nat.le_refl _) (Nat.lt_succ_self _) _).trans (Chg.setCell (p := ⟨w.heap.size + 1, 1, none⟩) (Nat.le_refl _) (Nat.lt_succ_self _) _)
    refine bodyPost_ret (v := .agg #[.int .i64 0, .slice none 0 0]) (by simp [results, Try.results18, go_sem, kr0, kr1]) rfl ⟨_, rfl, by rw [HSZ.out]; exact ⟨_, rfl, Ow.nil _ _ _ _ _ _⟩, hK.below HB.out (by omega)⟩
  replace CW := CW _ (decide_eq_true hk)
  have hwr : IntKind.i64.wrap (k - 1) = k - 1 := IntWalk.i64_in _ (by omega)
  have CQ : ∀ b, decide (0 ≤ q ∧ q ≤ k - 1) = b → Hid (∀ wx, Calls Try.prog 30 #[.int .i64 q, .int .i64 0, .int .i64 (k - 1)] wx fun e w' => e = .returned (.bool b) ∧ wx = w') := fun b hb => Lib.hid fun wx => l1In_is q 0 (k - 1) wx b hb
  by_cases hq : 0 ≤ q ∧ q < k
  case neg =>
    have HSZ := Lib.hid (HS.out.symm.trans (partOf_no (.inr (.inr hq))))
    clear hok
    replace CQ := CQ _ (decide_eq_false (by omega))
    clear hq
    go_wp2_with (go_at_call 30; first | (with_reducible exact CW.out _) | (with_reducible refine (CW.out _).mono ?_; rintro e w' ⟨rfl, rfl⟩) | (with_reducible refine (CQ.out _).mono ?_; rintro e w' ⟨rfl, rfl⟩))
    have hK : Chg (w.heap.size + 1) (w.heap.size + 1 + 1) w3 ((w3.setCell ⟨w.heap.size + 1, 0, none⟩ (.int .i64 0)).setCell ⟨w.heap.size + 1, 1, none⟩ (.slice none 0 0)) := (Chg.setCell (p := ⟨w.heap.size + 1, 0, none⟩) (Nat.le_refl _) (Nat.lt_succ_self _) _).trans (Chg.setCell (p := ⟨w.heap.size + 1, 1, none⟩) (Nat.le_refl _) (Nat.lt_succ_self _) _)
    refine bodyPost_ret (v := .agg #[.int .i64 0, .slice none 0 0]) (by simp [results, Try.results18, go_sem, kr0, kr1]) rfl ⟨_, rfl, by rw [HSZ.out]; exact ⟨_, rfl, Ow.nil _ _ _ _ _ _⟩, hK.below HB.out (by omega)⟩
  replace CQ := CQ _ (decide_eq_true (by omega))
  have hgo := graphOk_yes hok
  have HPO : Hid (S = (g.1, g.2.filter fun e => ownerOf e.1 k == q)) := Lib.hid (HS.out.symm.trans (if_pos ⟨hgo, hk, hq⟩))
  have hl40 := hgo.2.1
  clear hok hgo hq
  have k10 := box_cell B1.out 0 (.int .i64 g.1) rfl; have k11 := box_cell B1.out 1 (.slice p1 g.2.length c1) rfl
  go_wp2_with (go_at_call 30; first | (with_reducible refine (CW.out _).mono ?_; rintro e w' ⟨rfl, rfl⟩) | (with_reducible refine (CQ.out _).mono ?_; rintro e w' ⟨rfl, rfl⟩))
  clear CW CQ kr0 kr1 fr0 fr1 hwr
  have PE0 : Hid (PE w3 (w3.alloc (.cells #[.int .i64 g.1, .slice none 0 0] 29)) w3.heap.size g.1 (w3.heap.size + 1) (.slice none 0 0) []) := Lib.hid ⟨(Below.refl _ _).alloc (Nat.le_refl _) _, heap_alloc_new _ _, Ow.nil _ _ _ _ _ _, by simp⟩
  have hB1l := box_lt B1.out; have hB2l := box_lt B2.out
  generalize (w3.alloc (.cells #[.int .i64 g.1, .slice none 0 0] 29)) = w4 at *
  clear k10 k11
  generalize hpx : w3.heap.size = px at *
  have HPX := Lib.hid hpx; clear hpx
  generalize hl : g.2.length = l at *
  have HL := Lib.hid hl; clear hl
  go_loopw [8] (fun i wr => ∃ (t hi : Nat) (v : Value), t ≤ l ∧ i = .int .i64 t ∧ Hid (PE w3 wr px g.1 hi v ((g.2.take t).filter fun e => ownerOf e.1 k == q))) (fun i _ => l - (intOf i).toNat)
  case atStart => exact ⟨0, _, _, Nat.zero_le _, rfl, PE0⟩
  case round =>
    clear PE0
    obtain ⟨t, hi, v, ht, rfl, HP⟩ := hrel
    have hg1 : wr.heap[w.heap.size]? = some (.cells #[.int .i64 g.1, .slice p1 l c1] 29 (0, 0)) := (HP.out.hb.block _ hB1l).trans B1.out
    have k10 := box_cell hg1 0 (.int .i64 g.1) rfl; have k11 := box_cell hg1 1 (.slice p1 l c1) rfl
    by_cases hlt : t < l
    · obtain ⟨b1, o1, rfl, hb1, d0, d1, d2⟩ := Rd.tri (ys := g.2) (k := t) (by have := HRG.out.eds1; unfold RdEdgeS at this; rw [HL.out] at this; exact this) hlt
      rw [HPX.out] at hb1
      have hFS := filter_step g.2 (fun e => ownerOf e.1 k == q) t (by rw [HL.out]; exact hlt)
      generalize g.2.getD t triZ = ee at *
      obtain ⟨ta, tb, tc⟩ := ee
      simp only at d0 d1 d2 hFS
      have e0 := (HP.out.hb.cell (p := ⟨b1, o1 + t * 3, none⟩) hb1).trans d0
      have CO := Lib.hid fun wx => specOwnerOf_any ta k wx
      generalize ownerOf ta k = F at *
      have hLl : ((g.2.take t).filter fun e => ownerOf e.1 k == q).length ≤ 40 := Nat.le_trans (List.length_filter_le _ _) (by simp; omega)
      replace hFS := Lib.hid hFS
      generalize ((g.2.take t).filter fun e => ownerOf e.1 k == q) = Z at *
      by_cases heq : F = q
      · have h9 : (F == q) = true := by simpa using heq
        have HF9 : Hid ((g.2.take (t + 1)).filter (fun e => ownerOf e.1 k == q) = Z ++ [(ta, tb, tc)]) := Lib.hid (by rw [hFS.out, h9]; rfl)
        clear hFS heq
        obtain ⟨a0, c0, rfl, -, -⟩ := Rd.form HP.out.ho.rd
        go_wp2_with (go_at_call 40; refine (CO.out _).mono ?_; rintro e w' ⟨rfl, rfl⟩)
        clear CO e0 k10 k11 h9
        have hhi := HP.out.top; have hpl : px + 1 ≤ wr.heap.size := HP.out.plt
        have q11 := box_cell B1.out 1 (.slice (some ⟨b1, o1, none⟩) l c1) rfl
        refine wp_region_relA (fun x => { tmps := #[.agg #[.int .i64 g.1, .slice p l c], .int .i64 k, .int .i64 q, .pointer (some ⟨w.heap.size, 0, none⟩), undef, undef, .pointer (some ⟨w.heap.size + 1, 0, none⟩), .pointer (some ⟨px, 0, none⟩), .int .i64 (t : Int), .agg #[.int .i64 g.1, .slice p l c], .agg #[.int .i64 g.1, .slice (some ⟨b1, o1, none⟩) l c1], .agg #[.int .i64 g.1, .slice (some ⟨b1, o1, none⟩) l c1], .bool true, .bool false, .bool false, .int .i64 k, .bool true, .bool false, .bool false, .bool false, .int .i64 q, .int .i64 k, .int .i64 (k - 1), .bool true, .bool false, .bool false, undef, .pointer (some ⟨w.heap.size, 0, none⟩), .int .i64 g.1, .agg #[.int .i64 g.1, .slice none 0 0], x 30, x 31, x 32, x 33, x 34, x 35, x 36, x 37, x 38, x 39, x 40, x 41, x 42, x 43, x 44, x 45, x 46, x 47, x 48, x 49, x 50, x 51, x 52, x 53, x 54, x 55, x 56, undef], defers := [] })
          (fun _ L wx => PG wr.heap.size w3 px g.1 hi (.slice a0 Z.length c0) Z (ta, tb, tc) L wx) (fun j wx wy => PR px hi j wx wy)
          (Tl [cst (.pointer (some ⟨px, 1, none⟩)), cst (.slice a0 Z.length c0), cst (.pointer (some ⟨w.heap.size, 1, none⟩)), cst (.slice (some ⟨b1, o1, none⟩) l c1), cst (.int .i64 (t : Int)), cst (.pointer (some ⟨b1, o1 + t * 3, none⟩)), cst (.agg #[.int .i64 ta, .int .i64 tb, .int .i64 tc]), (fun v wx => (∃ b, v = .slice (some ⟨b, 0, none⟩) 1 1) ∧ Ow wr.heap.size wx.heap.size wx 38 3 v 1 (tris [(ta, tb, tc)])), (fun v wx => (∃ aa cc, v = .slice aa (Z.length + 1) cc) ∧ Ow (px + 1) wx.heap.size wx 38 3 v (Z.length + 1) (tris (Z ++ [(ta, tb, tc)]))), cst (.pointer (some ⟨px, 1, none⟩)), tru]) rfl
          (by kernel_rfl) (by kernel_rfl) (by kernel_rfl) ?hT0 (fun _ _ => PR.same _ _ _ _) ⟨HP.out.hb.drew, Nat.le_refl _, HP.out.plt, fun _ => HP.out.ho, fun _ => HP.out.bx, (fun h => by cases h), (fun h => by cases h)⟩ ?hput ?hop ?hend
        case hT0 =>
          intro i j v wx wy hij hr hv
          match i with
          | 0 | 1 | 2 | 3 | 4 | 5 | 6 | 9 | 10 => exact hv
          | 7 =>
            refine ⟨hv.1, ?_⟩
            by_cases h8 : j = 8
            · exact (hv.2.chg (hr.2.2.1 h8) (.inl hhi)).mono (Nat.le_refl _) hr.1
            by_cases h10 : j = 10
            · exact (hv.2.chg (hr.2.2.2 h10) (.inl hpl)).mono (Nat.le_refl _) hr.1
            · exact (hv.2.keep (hr.2.1 h8 h10)).mono (Nat.le_refl _) hr.1
          | 8 =>
            refine ⟨hv.1, ?_⟩
            by_cases h10 : j = 10
            · exact (hv.2.chg (hr.2.2.2 h10) (.inl (Nat.le_refl _))).mono (Nat.le_refl _) hr.1
            · exact (hv.2.keep (hr.2.1 (Ne.symm hij) h10)).mono (Nat.le_refl _) hr.1
          | (n + 11) => trivial
        case hput =>
          refine ⟨?_, ?_, ?_, ?_, ?_, ?_, ?_, ?_, ?_, ?_, ?_, trivial⟩
          all_goals first | exact fun x v => rfl | exact trivial
        case hop =>
          refine ⟨?_, ?_, ?_, ?_, ?_, ?_, ?_, ?_, ?_, ?_, ?_, trivial⟩
          · refine OpRel.plain rfl fun n L x wx K hn hL hG hdep hK => ?_
            clear hdep; go_simp
            exact hK _ _ (hG.keep (by decide) (Below.refl _ _)) (PR.same _ _ _ _) rfl
          · refine OpRel.plain rfl fun n L x wx K hn hL hG hdep hK => ?_
            have h47 : x 47 = _ := (hdep 0 rfl).2 _ rfl
            have hL8 : L 8 = false := by cases h8 : L 8 with | false => rfl | true => rw [(hG.s8 h8).1] at hL; cases hL
            have hL10 : L 10 = false := by cases h9 : L 10 with | false => rfl | true => rw [(hG.s10 h9).1] at hL8; cases hL8
            have z := box_cell (hG.bx hL10) 1 (.slice a0 Z.length c0) rfl
            clear hdep; simp only [h47] at hK; go_simp
            exact hK _ _ (hG.keep (by decide) (Below.refl _ _)) (PR.same _ _ _ _) rfl
          · refine OpRel.plain rfl fun n L x wx K hn hL hG hdep hK => ?_
            clear hdep; go_simp
            exact hK _ _ (hG.keep (by decide) (Below.refl _ _)) (PR.same _ _ _ _) rfl
          · refine OpRel.plain rfl fun n L x wx K hn hL hG hdep hK => ?_
            have h49 : x 49 = _ := (hdep 2 rfl).2 _ rfl
            have z := (hG.b.cell (p := ⟨w.heap.size, 1, none⟩) hB1l).trans q11
            clear hdep; simp only [h49] at hK; go_simp
            exact hK _ _ (hG.keep (by decide) (Below.refl _ _)) (PR.same _ _ _ _) rfl
          · refine OpRel.plain rfl fun n L x wx K hn hL hG hdep hK => ?_
            clear hdep; go_simp
            exact hK _ _ (hG.keep (by decide) (Below.refl _ _)) (PR.same _ _ _ _) rfl
          · refine OpRel.plain rfl fun n L x wx K hn hL hG hdep hK => ?_
            have h50 : x 50 = _ := (hdep 3 rfl).2 _ rfl
            have h51 : x 51 = _ := (hdep 4 rfl).2 _ rfl
            clear hdep; simp only [h50, h51] at hK; go_simp
            exact hK _ _ (hG.keep (by decide) (Below.refl _ _)) (PR.same _ _ _ _) rfl
          · refine OpRel.plain rfl fun n L x wx K hn hL hG hdep hK => ?_
            have h52 : x 52 = _ := (hdep 5 rfl).2 _ rfl
            have z0 := (hG.b.cell (p := ⟨b1, o1 + t * 3, none⟩) hb1).trans d0; have z1 := (hG.b.cell (p := ⟨b1, o1 + t * 3 + 1, none⟩) hb1).trans d1; have z2 := (hG.b.cell (p := ⟨b1, o1 + t * 3 + 2, none⟩) hb1).trans d2
            clear hdep; simp only [h52] at hK; go_simp
            exact hK _ _ (hG.keep (by decide) (Below.refl _ _)) (PR.same _ _ _ _) rfl
          · refine OpRel.plain rfl fun n L x wx K hn hL hG hdep hK => ?_
            have h53 : x 53 = _ := (hdep 6 rfl).2 _ rfl
            clear hdep
            simp only [h53] at hK
            go_simp
            have hba : Below wx.heap.size wx (wx.alloc (.cells #[.int .i64 ta, .int .i64 tb, .int .i64 tc] 38)) := (Below.refl _ _).alloc (Nat.le_refl _) _
            exact hK _ _ (hG.keep (by decide) hba) (PR.of (by decide) hba) ⟨⟨_, rfl⟩, (lit3o wx ta tb tc).mono hG.top (Nat.le_refl _)⟩
          · refine OpRel.plain rfl fun n L x wx K hn hL hG hdep hK => ?_
            obtain ⟨⟨b54, h54⟩, ho54⟩ := (hdep 7 rfl).2 _ rfl
            have h48 : x 48 = _ := (hdep 1 rfl).2 _ rfl
            have hp1 := (hdep 1 rfl).1; have hp7 := (hdep 7 rfl).1
            clear hdep
            have hplt := hG.plt
            have hL10 : L 10 = false := by cases h9 : L 10 with | false => rfl | true => rw [(hG.s10 h9).1] at hL; cases hL
            refine wp_appendC _ _ 27 38 rfl (.agg #[.int .i64 0, .int .i64 0, .int .i64 0]) 3 24 Try.underlying27 infoEdge rfl (by decide) (by decide) (px + 1) hi (.slice a0 Z.length c0) Z.length (tris Z) (hG.o hL) h48 (.slice (some ⟨b54, 0, none⟩) 1 1) 1 (tris [(ta, tb, tc)]) (by rw [h54] at ho54; exact ho54.rd) h54 (tris_one _) (by omega) (by omega) (by omega) ?_
            intro v' w9 hown hchg
            obtain ⟨aa, cc, rfl, -, -⟩ := Rd.form hown.rd
            rw [← tris_append] at hown
            have hsz9 := hchg.size
            have hb9 : Below px wx w9 := ⟨hchg.os, hchg.tape, hchg.output, hchg.size, fun k hk => hchg.block k (by omega) (.inl (by omega))⟩
            exact hK _ _ ⟨hG.b.trans hb9, Nat.le_trans hG.top hsz9, Nat.lt_of_lt_of_le hplt hsz9, fun h => (by simp [setL] at h), fun h => (hchg.block px hplt (.inl (Nat.lt_succ_self _))).trans (hG.bx hL10), fun _ => ⟨setL_t 8 hp1, setL_t 8 hp7⟩, fun h => (by rw [setL_n (by decide)] at h; rw [h] at hL10; cases hL10)⟩ ⟨hsz9, fun h => (h rfl).elim, fun _ => hchg, fun h => (by cases h)⟩ ⟨⟨aa, cc, rfl⟩, hown⟩
          · refine OpRel.plain rfl fun n L x wx K hn hL hG hdep hK => ?_
            clear hdep; go_simp
            exact hK _ _ (hG.keep (by decide) (Below.refl _ _)) (PR.same _ _ _ _) rfl
          · refine OpRel.plain rfl fun n L x wx K hn hL hG hdep hK => ?_
            obtain ⟨⟨aa, cc, h55⟩, ho55⟩ := (hdep 8 rfl).2 _ rfl
            have h56 : x 56 = _ := (hdep 9 rfl).2 _ rfl
            have hp8 := (hdep 8 rfl).1
            clear hdep
            have hplt := hG.plt
            have hbx := hG.bx hL
            have z1 := box_cell hbx 1 (.slice a0 Z.length c0) rfl; have z2 := box_frozen hbx 1
            rw [h55] at ho55
            simp only [h55, h56] at hK
            go_simp
            have hs : Chg px (px + 1) wx (wx.setCell ⟨px, 1, none⟩ (.slice aa (Z.length + 1) cc)) := Chg.setCell (p := ⟨px, 1, none⟩) (Nat.le_refl _) (Nat.lt_succ_self _) _
            have hss : (wx.setCell ⟨px, 1, none⟩ (.slice aa (Z.length + 1) cc)).heap.size = wx.heap.size := by simp
            have hb9 : Below px wx (wx.setCell ⟨px, 1, none⟩ (.slice aa (Z.length + 1) cc)) := ⟨hs.os, hs.tape, hs.output, hs.size, fun k hk => hs.block k (by omega) (.inl hk)⟩
            have hbs := box_set hbx 1 (.slice aa (Z.length + 1) cc)
            exact hK undef _ ⟨hG.b.trans hb9, by rw [hss]; exact hG.top, by rw [hss]; exact hplt, fun h => (by rw [setL_n (by decide), hp8] at h; cases h), fun h => (by simp [setL] at h), fun h => (by rw [setL_n (by decide)] at h; exact ⟨setL_t 10 (hG.s8 h).1, setL_t 10 (hG.s8 h).2⟩), fun _ => ⟨setL_t 10 hp8, aa, cc, by simpa using hbs, (ho55.chg hs (.inl (Nat.le_refl _))).mono (Nat.le_refl _) (by rw [hss]; exact Nat.le_refl _)⟩⟩ ⟨by rw [hss]; exact Nat.le_refl _, fun _ h => (h rfl).elim, fun h => (by cases h), fun _ => hs⟩ trivial
        case hend =>
          intro n' L x wx _ hG hh
          obtain ⟨-, aa, cc, hbx, hown⟩ := hG.s10 (hh 10 (by decide)).1
          have HP9 : Hid (PE w3 wx px g.1 wx.heap.size (.slice aa (Z.length + 1) cc) (Z ++ [(ta, tb, tc)])) := Lib.hid ⟨hG.b, hbx, by rw [List.length_append]; exact hown, Nat.le_refl _⟩
          clear hG hh hbx hown
          go_wp2_with fail
          go_roundw
          case rel => exact ⟨t + 1, _, _, by omega, by go_num, Lib.hid (by rw [HF9.out]; exact HP9.out)⟩
          case measure => simp [intOf]; omega
      · have h9 : (F == q) = false := by simpa using heq
        have HF9 : Hid ((g.2.take (t + 1)).filter (fun e => ownerOf e.1 k == q) = Z) := Lib.hid (by rw [hFS.out, h9]; simp)
        clear hFS heq
        go_wp2_with (go_at_call 40; refine (CO.out _).mono ?_; rintro e w' ⟨rfl, rfl⟩)
        go_roundw
        case rel => exact ⟨t + 1, _, _, by omega, by go_num, Lib.hid (by rw [HF9.out]; exact HP.out)⟩
        case measure => simp [intOf]; omega
    · obtain rfl : t = l := by omega
      have HF9 : Hid (g.2.take t = g.2) := Lib.hid (List.take_of_length_le (by rw [HL.out]; exact Nat.le_refl _))
      rw [HF9.out] at HP
      obtain ⟨av, cv, rfl, -, -⟩ := Rd.form HP.out.ho.rd
      generalize (g.2.filter fun e => ownerOf e.1 k == q) = L at *
      have kx0 := box_cell HP.out.bx 0 (.int .i64 g.1) rfl; have kx1 := box_cell HP.out.bx 1 (.slice av L.length cv) rfl
      have hr2 : wr.heap[w.heap.size + 1]? = some (.cells #[.int .i64 0, .slice none 0 0] 29 (0, 0)) := (HP.out.hb.block _ hB2l).trans B2.out
      have kr0 := box_cell hr2 0 (.int .i64 0) rfl; have kr1 := box_cell hr2 1 (.slice none 0 0) rfl; have fr0 := box_frozen hr2 0; have fr1 := box_frozen hr2 1
      clear hr2
      go_wp2_with fail
      have hK : Chg (w.heap.size + 1) (w.heap.size + 1 + 1) wr ((wr.setCell ⟨w.heap.size + 1, 0, none⟩ (.int .i64 g.1)).setCell ⟨w.heap.size + 1, 1, none⟩ (.slice av L.length cv)) := (Chg.setCell (p := ⟨w.heap.size + 1, 0, none⟩) (Nat.le_refl _) (Nat.lt_succ_self _) _).trans (Chg.setCell (p := ⟨w.heap.size + 1, 1, none⟩) (Nat.le_refl _) (Nat.lt_succ_self _) _)
      have htop := HP.out.top
      have HO9 := (HP.out.ho.chg hK (.inl (by omega))).mono (show w.heap.size ≤ px + 1 by omega) (show hi ≤ ((wr.setCell ⟨w.heap.size + 1, 0, none⟩ (.int .i64 g.1)).setCell ⟨w.heap.size + 1, 1, none⟩ (.slice av L.length cv)).heap.size by simp; omega)
      refine bodyPost_ret (v := .agg #[.int .i64 g.1, .slice av L.length cv]) (by simp [results, Try.results18, go_sem, kr0, kr1]) rfl ⟨_, rfl, by rw [HPO.out]; exact ⟨_, rfl, HO9⟩, hK.below (HB.out.trans (HP.out.hb.mono (by omega))) (by omega)⟩

end Go.Proofs.Ytoolmknnmmecfaa
