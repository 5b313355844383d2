/-
  container/heap over the program's slice of pairs: Push, Pop.
-/
import Derived.Test.YtgdggkhdollieaaDoorHeapW
namespace Go.Proofs.YtgdggkhdollieaaDoor
open Go.RowKit
set_option linter.unusedVariables false

theorem ownsRow_lift {lo lo2 g n cap : Nat} {w w' : World} {e : TypeId} {s : Nat} {cs : List Value} (h : w.ownsRow lo e s (.slice (some ⟨g, 0, none⟩) n cap) n cs) (hb : w'.heap[g]? = w.heap[g]?) : w'.ownsRow lo e s (.slice (some ⟨g, 0, none⟩) n cap) n cs := by
  refine ⟨h.1, ?_⟩
  rcases h.2 with h2 | ⟨g1, cap1, cur, hv, hbg, hg, r⟩
  · exact .inl h2
  · have hgb : g1 = g := by simp only [Value.slice.injEq, Option.some.injEq, Addr.mk.injEq] at hv; exact hv.1.1.symm
    subst hgb
    exact .inr ⟨g1, cap1, cur, hv, hbg, hb.trans hg, r⟩
theorem PRow.lift {lo g n cap : Nat} {w w' : World} {L : List (Nat × Nat)} (h : PRow lo g n cap w L) (hb : w'.heap[g]? = w.heap[g]?) : PRow lo g n cap w' L := ⟨h.1, ownsRow_lift (lo2 := lo) h.2 hb⟩
theorem PRow.bounds {lo g n cap : Nat} {w : World} {L : List (Nat × Nat)} (h : PRow lo g n cap w L) : n ≤ cap ∧ cap ≤ maxLen := by
  rcases h.2.2 with ⟨h2, -⟩ | ⟨g1, cap1, cur, hv, hbg, hg, r1, r2, -⟩
  · cases h2
  · simp only [Value.slice.injEq, Option.some.injEq, Addr.mk.injEq, true_and] at hv
    obtain ⟨-, rfl⟩ := hv
    exact ⟨r1, r2⟩
theorem PRow.cut {lo g m cap : Nat} {w : World} {L : List (Nat × Nat)} (h : PRow lo g (m + 1) cap w L) : PRow lo g m cap w (L.take m) := by
  obtain ⟨h1, h2⟩ := h
  refine ⟨by rw [List.length_take]; omega, by rw [prs_length, List.length_take]; omega, ?_⟩
  rcases h2.2 with ⟨h3, -⟩ | ⟨g1, cap1, cur, hv, hbg, hg, r1, r2, r3, r4⟩
  · cases h3
  · simp only [Value.slice.injEq, Option.some.injEq, Addr.mk.injEq, and_true, true_and] at hv
    obtain ⟨rfl, rfl⟩ := hv
    refine .inr ⟨g, cap, cur, rfl, hbg, hg, by omega, r2, r3, ?_⟩
    rw [← prs_take, ← r4, List.take_take, Nat.min_eq_left (by omega)]
/-- The heap's list lies behind the pointer at block B, in the row g. -/
structure HeapS (lo B g cap : Nat) (w : World) (L : List (Nat × Nat)) : Prop where
  box : w.ownsRow B 60 1 (.slice (some ⟨B, 0, none⟩) 1 1) 1 [.slice (some ⟨g, 0, none⟩) L.length cap]
  row : PRow lo g L.length cap w L
  ne : B ≠ g
  lob : lo ≤ B
/-- Only the block B, the row g and new memory have changed. -/
structure Hop (lo B g : Nat) (w w' : World) : Prop where
  below : Below lo w w'
  block : ∀ k, k < w.heap.size → k ≠ B → k ≠ g → w'.heap[k]? = w.heap[k]?
section
variable {lo B g cap : Nat} {w w' w2 : World} {L : List (Nat × Nat)}
theorem HeapS.cell (h : HeapS lo B g cap w L) : w.cell? ⟨B, 0, none⟩ = some (.slice (some ⟨g, 0, none⟩) L.length cap) := by
  rw [h.box.cellAt 0 (by omega)]; rfl
theorem HeapS.froz (h : HeapS lo B g cap w L) : w.frozen? ⟨B, 0, none⟩ = false := h.box.frozenAt 0
theorem HeapS.lt (h : HeapS lo B g cap w L) : B ≠ g ∧ g < w.heap.size ∧ B < w.heap.size := ⟨h.ne, h.row.lt.2, (h.box.lt B rfl).2⟩
theorem HeapS.lo2 (h : HeapS lo B g cap w L) : lo ≤ B ∧ lo ≤ g := ⟨h.lob, h.row.lt.1⟩
theorem HeapS.keep (h : HeapS lo B g cap w L) (hb : Below w.heap.size w w') : HeapS lo B g cap w' L := ⟨ownsRow_keep h.box hb, h.row.keep hb, h.ne, h.lob⟩
theorem HeapS.kept (h : HeapS lo B g cap w L) {L' : List (Nat × Nat)} (hl : L'.length = L.length) (hr : PRow lo g L.length cap w' L') (hg : w.grownBy w' (some g)) : HeapS lo B g cap w' L' := by
  have h1 := h.lt
  refine ⟨?_, by rw [hl]; exact hr, h.ne, h.lob⟩
  rw [hl]
  exact ownsRow_lift (lo2 := 0) h.box (hg.block B h1.2.2 (by intro e; injection e with e; omega))
theorem Hop.refl : Hop lo B g w w := ⟨Below.refl _ _, fun _ _ _ _ => rfl⟩
theorem Hop.of_below (h : Below w.heap.size w w') (hB : B < w.heap.size) (hlo : lo ≤ B ∧ lo ≤ g) : Hop lo B g w w' := ⟨h.mono (by omega), fun k hk _ _ => h.block k hk⟩
theorem Hop.of_grown (h : w.grownBy w' (some g)) (hB : B ≠ g) (hB2 : B < w.heap.size) (hlo : lo ≤ B ∧ lo ≤ g) : Hop lo B g w w' :=
  ⟨⟨h.os, h.tape, h.output, h.size, fun k hk => h.block k (by omega) (by intro e; injection e with e; omega)⟩, fun k hk h1 h2 => h.block k hk (by intro e; injection e with e; omega)⟩
theorem Hop.trans {g' : Nat} (h : Hop lo B g w w') (k : Hop lo B g' w' w2) (hg : g' = g ∨ w.heap.size ≤ g') : Hop lo B g w w2 :=
  ⟨h.below.trans k.below, fun i hi h1 h2 => (k.block i (by have := h.below.size; omega) h1 (by rcases hg with e | e <;> omega)).trans (h.block i hi h1 h2)⟩
end
theorem add_litP (b j : Nat) : (⟨b, 0, none⟩ : Addr).add j = ⟨b, j, none⟩ := by unfold Addr.add; split <;> simp_all
theorem cell_two_new (w : World) (a b : Value) (t : TypeId) : ∀ j u, [a, b][j]? = some u → (w.alloc (.cells #[a, b] t)).cell? ((⟨w.heap.size, 0, none⟩ : Addr).add j) = some u := by
  intro j u hu
  rw [add_litP, cell_of_row _ _ _ _ _ _ (heap_alloc_new w (.cells #[a, b] t))]
  simpa using hu
theorem Stg.start2 {a b c d : Nat} {w w0 wA wB wC : World} (h : w = w0) : Stg a b c d w0 wA wB wC (fun _ => false) w := by rw [h]; exact Stg.start
theorem ownsRow_succP {w : World} {lo n s : Nat} {e : TypeId} {v : Value} {cs : List Value} (h : w.ownsRow lo e s v (n + 1) cs) : ∃ g cap, v = .slice (some ⟨g, 0, none⟩) (n + 1) cap := by
  rcases h.2 with ⟨-, h2⟩ | ⟨g, cap, cur, hv, -⟩
  · omega
  · exact ⟨g, cap, hv⟩
theorem ne_row {k g n c : Nat} (h : k ≠ g) : some k ≠ (Value.slice (some ⟨g, 0, none⟩) n c).ownBlock := by simp [Value.ownBlock, h]
def Pushed (lo B g : Nat) (w : World) (L' : List (Nat × Nat)) (e : Ending) (w' : World) : Prop := e = .returned (.tuple #[]) ∧ ∃ g' cap', HeapS lo B g' cap' w' L' ∧ Hop lo B g w w' ∧ (g' = g ∨ w.heap.size ≤ g')
theorem len_any (w : World) (a : Option Addr) (n c : Nat) : Calls Tryd.prog 27 #[.slice a n c] w fun e w' => e = .returned (.int .i64 n) ∧ w = w' := by
  go_enter Tryd.func27, Tryd.ntmps27
  go_wp2_with fail
  go_ret
  exact ⟨rfl, rfl⟩
theorem infoReached : (Tryd.prog.info? 58).map (fun i => (i.zero, i.size, i.bytes)) = some (some (.agg #[.int .i64 0, .int .i64 0]), 2, 16) := by kernel_rfl
set_option maxRecDepth 100000 in
theorem ta_reached (a b : Value) (T : TypeId) (w : World) : (Instr.typeAssert (.iface 58 (.agg #[a, b])) T 58 true).run Tryd.prog w = .ok (.tuple #[.agg #[a, b], .bool true]) w := by kernel_rfl
set_option maxRecDepth 100000 in
set_option maxHeartbeats 8000000 in
theorem pushM_any (w : World) (lo B g cap : Nat) (L : List (Nat × Nat)) (c v : Nat) (h : HeapS lo B g cap w L) (hn : L.length < 1000000) :
    Calls Tryd.prog 62 #[.pointer (some ⟨B, 0, none⟩), .iface 58 (.agg #[.int .i64 c, .int .i64 v])] w (Pushed lo B g w (L ++ [(c, v)])) := by
  have h1 := h.lt
  have hlo := h.lo2
  have hbo := h.row.bounds
  have hal : Below w.heap.size w (w.alloc (.cells #[.int .i64 c, .int .i64 v] 58)) := (Below.refl _ _).alloc (Nat.le_refl _) _
  have H1 := Lib.hid (h.keep hal)
  have HP1 := Lib.hid (Hop.of_below (g := g) hal h1.2.2 hlo)
  have BX := Lib.hid (heap_alloc_new w (.cells #[.int .i64 c, .int .i64 v] 58))
  have hsz : (w.alloc (.cells #[.int .i64 c, .int .i64 v] 58)).heap.size = w.heap.size + 1 := by simp
  have HSZ := Lib.hid hsz
  obtain ⟨p, hp⟩ : ∃ p, p = w.heap.size := ⟨_, rfl⟩
  have HPE := Lib.hid hp
  clear hal h hsz
  have hta := ta_reached (.int .i64 c) (.int .i64 v)
  go_enter Tryd.func62, Tryd.ntmps62
  go_wp2_with fail
  clear hta
  rw [← hp] at BX HSZ ⊢
  generalize (w.alloc (.cells #[.int .i64 c, .int .i64 v] 58)) = w1 at *
  clear hp
  obtain ⟨wd, hwd⟩ : ∃ wd, wd = w1.drew := ⟨_, rfl⟩
  have HD : Hid (HeapS lo B g cap wd L ∧ Hop lo B g w wd ∧ wd.heap[p]? = some (.cells #[.int .i64 c, .int .i64 v] 58 (0, 0)) ∧ wd.heap.size = p + 1) := Lib.hid (by
    rw [hwd]
    exact ⟨⟨H1.out.box, H1.out.row, H1.out.ne, H1.out.lob⟩, ⟨HP1.out.below.drew, HP1.out.block⟩, BX.out, HSZ.out⟩)
  have HWD := Lib.hid hwd
  clear hwd H1 HP1 BX HSZ
  obtain ⟨nn, hn0⟩ : ∃ n, n = L.length := ⟨_, rfl⟩
  rw [← hn0] at hn
  have hgp : g < p := by have := HPE.out; omega
  have hBp : B < p := by have := HPE.out; omega
  obtain ⟨i0, hi, hz0, hz1, hz2⟩ := info_parts infoReached
  have hs := HD.out.1
  have hal : Below wd.heap.size wd (wd.alloc (.cells #[.int .i64 c, .int .i64 v] 58)) := (Below.refl _ _).alloc (Nat.le_refl _) _
  have hsA := hs.keep hal
  have hszd := HD.out.2.2.2
  have hszA : (wd.alloc (.cells #[.int .i64 c, .int .i64 v] 58)).heap.size = p + 1 + 1 := by simp [hszd]
  have hcn : ∀ j u, [Value.int .i64 c, .int .i64 v][j]? = some u → (wd.alloc (.cells #[.int .i64 c, .int .i64 v] 58)).cell? ((⟨p + 1, 0, none⟩ : Addr).add j) = some u := by
    rw [← hszd]; exact cell_two_new _ _ _ _
  obtain ⟨v9, w9, hr9, ho9, hg9, hn9, hb9⟩ := run_append_own_at (P := Tryd.prog) _ lo 60 60 58 i0 (.agg #[.int .i64 0, .int .i64 0]) 2 16 Tryd.underlying60 hi hz0 hz1 hz2 rfl (by decide) _ L.length _ hsA.row.2 ⟨p + 1, 0, none⟩ 1 1 [.int .i64 c, .int .i64 v] rfl hcn (by simp [Value.oneCell']) (by unfold maxLen; omega) (by omega) (by rw [hszA]; omega)
  obtain ⟨g', cap', rfl⟩ := ownsRow_succP ho9
  have hB9 : w9.ownsRow B 60 1 (.slice (some ⟨B, 0, none⟩) 1 1) 1 [.slice (some ⟨g, 0, none⟩) L.length cap] := ownsRow_lift (lo2 := 0) hsA.box (hg9.block B (by rw [hszA]; omega) (ne_row (by omega)))
  have hst := hB9.stored 0 (.slice (some ⟨g', 0, none⟩) (L.length + 1) cap')
  simp only [List.set_cons_zero] at hst
  have hgg : g' = g ∨ w.heap.size ≤ g' := by
    rcases hb9 with e | e
    · left; simpa [Value.ownBlock] using e
    · right
      have e2 : g' = p + 1 + 1 := by rw [hszA] at e; simpa [Value.ownBlock] using e
      have := HPE.out; omega
  have hgl := ho9.lt g' rfl
  have hrow : PRow lo g' (L.length + 1) cap' (w9.setCell ⟨B, 0, none⟩ (.slice (some ⟨g', 0, none⟩) (L.length + 1) cap')) (L ++ [(c, v)]) :=
    PRow.lift (w := w9) ⟨by simp, by rw [prs_append]; exact ho9⟩ (hst.2.block g' hgl.2 (by intro e; injection e with e; omega))
  have hS10 : HeapS lo B g' cap' (w9.setCell ⟨B, 0, none⟩ (.slice (some ⟨g', 0, none⟩) (L.length + 1) cap')) (L ++ [(c, v)]) := ⟨by rw [List.length_append]; exact hst.1, by rw [List.length_append]; exact hrow, by omega, hlo.1⟩
  have hop10 : Hop lo B g w (w9.setCell ⟨B, 0, none⟩ (.slice (some ⟨g', 0, none⟩) (L.length + 1) cap')) := by
    have a1 := HD.out.2.1
    have a2 : Hop lo B g wd (wd.alloc (.cells #[.int .i64 c, .int .i64 v] 58)) := Hop.of_below hal (by rw [hszd]; omega) hlo
    have a3 : Hop lo B g (wd.alloc (.cells #[.int .i64 c, .int .i64 v] 58)) w9 := Hop.of_grown hg9 h1.1 (by rw [hszA]; omega) hlo
    have a4 : Hop lo B g w9 (w9.setCell ⟨B, 0, none⟩ (.slice (some ⟨g', 0, none⟩) (L.length + 1) cap')) :=
      ⟨⟨hst.2.os, hst.2.tape, hst.2.output, hst.2.size, fun k hk => hst.2.block k (by have := hg9.size; rw [hszA] at this; omega) (by intro e; injection e with e; omega)⟩, fun k hk e1 e2 => hst.2.block k hk (by intro e; injection e with e; omega)⟩
    exact ((a1.trans a2 (.inl rfl)).trans a3 (.inl rfl)).trans a4 (.inl rfl)
  have HFIN := Lib.hid (show Pushed lo B g w (L ++ [(c, v)]) (.returned (.tuple #[])) (w9.setCell ⟨B, 0, none⟩ (.slice (some ⟨g', 0, none⟩) (L.length + 1) cap')) from ⟨rfl, g', cap', hS10, hop10, hgg⟩)
  have bp : ∀ wx, (wx = wd ∨ wx = wd.alloc (.cells #[.int .i64 c, .int .i64 v] 58)) → wx.heap[p]? = some (.cells #[.int .i64 c, .int .i64 v] 58 (0, 0)) := fun wx hw => by
    rcases hw with rfl | rfl
    · exact HD.out.2.2.1
    · exact box_keep HD.out.2.2.1 hal
  have HCELL : Hid (∀ wx, (wx = wd ∨ wx = wd.alloc (.cells #[.int .i64 c, .int .i64 v] 58)) → wx.cell? ⟨p, 0, none⟩ = some (.int .i64 c) ∧ wx.cell? ⟨p, 1, none⟩ = some (.int .i64 v) ∧ wx.cell? ⟨B, 0, none⟩ = some (.slice (some ⟨g, 0, none⟩) nn cap)) := Lib.hid fun wx hw => by
    refine ⟨box_cell (bp wx hw) 0 _ rfl, box_cell (bp wx hw) 1 _ rfl, ?_⟩
    rw [hn0]
    rcases hw with rfl | rfl
    · exact hs.cell
    · exact hsA.cell
  have HPX : Hid (∀ wx, (wx = wd ∨ wx = wd.alloc (.cells #[.int .i64 c, .int .i64 v] 58) ∨ wx = w9 ∨ wx = w9.setCell ⟨B, 0, none⟩ (.slice (some ⟨g', 0, none⟩) (nn + 1) cap')) → wx.cell? ⟨p, 0, none⟩ = some (.int .i64 c) ∧ wx.cell? ⟨p, 1, none⟩ = some (.int .i64 v)) := Lib.hid fun wx hw => by
    have b9 : w9.heap[p]? = some (.cells #[.int .i64 c, .int .i64 v] 58 (0, 0)) := (hg9.block p (by rw [hszA]; omega) (ne_row (by omega))).trans (bp _ (.inr rfl))
    have hb : wx.heap[p]? = some (.cells #[.int .i64 c, .int .i64 v] 58 (0, 0)) := by
      rcases hw with e | e | e | e
      · exact bp wx (.inl e)
      · exact bp wx (.inr e)
      · rw [e]; exact b9
      · rw [e, hn0]; exact (hst.2.block p (box_lt b9) (by intro e; injection e with e; omega)).trans b9
    exact ⟨box_cell hb 0 _ rfl, box_cell hb 1 _ rfl⟩
  have HR9 := Lib.hid hr9
  have HC9 : Hid (w9.cell? ⟨B, 0, none⟩ = some (.slice (some ⟨g, 0, none⟩) nn cap) ∧ w9.frozen? ⟨B, 0, none⟩ = false) := Lib.hid ⟨by rw [hB9.cellAt 0 (by omega), hn0]; rfl, hB9.frozenAt 0⟩
  rw [← hn0] at HR9 HFIN
  have HSZD := Lib.hid hszd
  clear hr9 ho9 hg9 hn9 hb9 hB9 hst hgg hgl hrow hS10 hop10 bp hs hsA hal hszd hszA hcn HD hi hz0 hz1 hz2 hn0
  go_wp2_with fail
  refine wp_region_relA (fun x => { tmps := #[.pointer (some ⟨B, 0, none⟩), .iface 58 (.agg #[.int .i64 c, .int .i64 v]), undef, undef, .pointer (some ⟨p, 0, none⟩), .bool true, .tuple #[.agg #[.int .i64 c, .int .i64 v], .bool true], .iface 58 (.agg #[.int .i64 c, .int .i64 v]), .tuple #[.agg #[.int .i64 c, .int .i64 v], .bool true], .agg #[.int .i64 c, .int .i64 v], .bool true, .bool true, x 12, x 13, x 14, x 15, x 16, x 17, x 18, x 19], defers := [] })
    (fun _ L wx => Stg 5 6 8 3 wd (wd.alloc (.cells #[.int .i64 c, .int .i64 v] 58)) w9 (w9.setCell ⟨B, 0, none⟩ (.slice (some ⟨g', 0, none⟩) (nn + 1) cap')) L wx) (fun _ _ _ => True)
    (Tl [cst (.pointer (some ⟨B, 0, none⟩)), cst (.pointer (some ⟨B, 0, none⟩)), cst (.pointer (some ⟨B, 0, none⟩)), cst (.slice (some ⟨g, 0, none⟩) nn cap), cst (.agg #[.int .i64 c, .int .i64 v]), cst (.slice (some ⟨p + 1, 0, none⟩) 1 1), cst (.slice (some ⟨g', 0, none⟩) (nn + 1) cap'), cst (.pointer (some ⟨B, 0, none⟩)), tru]) rfl
    (by kernel_rfl) (by kernel_rfl) (by kernel_rfl) (stab_Tl ?hst) (fun _ _ => trivial) (Stg.start2 HWD.out.symm) ?hput ?hop ?hend
  case hst =>
    simp only [List.mem_cons, List.not_mem_nil, or_false, forall_eq_or_imp, forall_eq]
    refine ⟨?_, ?_, ?_, ?_, ?_, ?_, ?_, ?_, ?_⟩
    all_goals first | exact stab_cst _ _ | exact stab_tru _
  case hput =>
    refine ⟨?_, ?_, ?_, ?_, ?_, ?_, ?_, ?_, ?_, trivial⟩
    all_goals first | exact fun x v => rfl | exact trivial
  case hop =>
    refine ⟨?_, ?_, ?_, ?_, ?_, ?_, ?_, ?_, ?_, trivial⟩
    · refine OpRel.plain rfl fun n L x wx K hn hL hG hdep hK => ?_
      clear hdep; go_simp
      exact hK _ _ (hG.other (by decide)) trivial rfl
    · refine OpRel.plain rfl fun n L x wx K hn hL hG hdep hK => ?_
      clear hdep; go_simp
      exact hK _ _ (hG.other (by decide)) trivial rfl
    · refine OpRel.plain rfl fun n L x wx K hn hL hG hdep hK => ?_
      have h13 : x 13 = _ := (hdep 1 rfl).2 _ rfl
      clear hdep; simp only [h13] at hK; go_simp
      exact hK _ _ (hG.other (by decide)) trivial rfl
    · refine OpRel.plain rfl fun n L x wx K hn hL hG hdep hK => ?_
      have h14 : x 14 = _ := (hdep 2 rfl).2 _ rfl
      obtain ⟨k0, k1, k2⟩ := HCELL.out wx (hG.early hL)
      clear hdep; simp only [h14] at hK; go_simp
      exact hK _ _ (hG.other (by decide)) trivial rfl
    · refine OpRel.plain rfl fun n L x wx K hn hL hG hdep hK => ?_
      obtain ⟨k0, k1⟩ := HPX.out wx hG.world
      clear hdep; go_simp
      exact hK _ _ (hG.other (by decide)) trivial rfl
    · refine OpRel.plain rfl fun n L x wx K hn hL hG hdep hK => ?_
      have h16 : x 16 = _ := (hdep 4 rfl).2 _ rfl
      obtain ⟨hw, hS⟩ := hG.at_a hL (by decide)
      subst hw
      have hsz := HSZD.out
      clear hdep; simp only [h16] at hK; go_simp
      exact hK _ _ hS trivial rfl
    · refine OpRel.plain rfl fun n L x wx K hn hL hG hdep hK => ?_
      have h15 : x 15 = .slice (some ⟨g, 0, none⟩) nn cap := (hdep 3 rfl).2 _ rfl
      have h17 : x 17 = .slice (some ⟨p + 1, 0, none⟩) 1 1 := (hdep 5 rfl).2 _ rfl
      have l3 := (hdep 3 rfl).1; have l5 := (hdep 5 rfl).1
      obtain ⟨hw, hS⟩ := hG.at_b hL l5 l3 (by decide)
      subst hw
      clear hdep
      exact wp_append_run _ _ 60 rfl (.slice (some ⟨g, 0, none⟩) nn cap) (.slice (some ⟨p + 1, 0, none⟩) 1 1) _ h15 h17 HR9.out (hK _ _ hS trivial rfl)
    · refine OpRel.plain rfl fun n L x wx K hn hL hG hdep hK => ?_
      have h12 : x 12 = _ := (hdep 0 rfl).2 _ rfl
      clear hdep; simp only [h12] at hK; go_simp
      exact hK _ _ (hG.other (by decide)) trivial rfl
    · refine OpRel.plain rfl fun n L x wx K hn hL hG hdep hK => ?_
      have h19 : x 19 = _ := (hdep 7 rfl).2 _ rfl
      have h18 : x 18 = _ := (hdep 6 rfl).2 _ rfl
      have l6 := (hdep 6 rfl).1
      obtain ⟨hw, hS⟩ := hG.at_c hL l6 (by decide)
      subst hw
      obtain ⟨k0, k1⟩ := HC9.out
      clear hdep; simp only [h19, h18] at hK; go_simp
      exact hK undef _ hS trivial trivial
  case hend =>
    intro n L x wx _ hG hh
    have hwe := hG.end (hh 8 (by decide)).1
    subst hwe
    clear hh hG
    go_wp2_with fail
    go_end0
    exact HFIN.out
set_option maxRecDepth 100000 in
set_option maxHeartbeats 8000000 in
theorem heapPush_any (w : World) (lo B g cap : Nat) (L : List (Nat × Nat)) (c v : Nat) (h : HeapS lo B g cap w L) (hh : IsHeap L L.length) (hn : L.length < 999999) :
    Calls Tryd.prog 29 #[.iface 56 (.pointer (some ⟨B, 0, none⟩)), .iface 58 (.agg #[.int .i64 c, .int .i64 v])] w fun e w' => e = .returned (.tuple #[]) ∧ ∃ g' cap' L', HeapS lo B g' cap' w' L' ∧ IsHeap L' L'.length ∧ L'.length = L.length + 1 ∧ SameM L' ((c, v) :: L) ∧ Hop lo B g w w' ∧ (g' = g ∨ w.heap.size ≤ g') := by
  have HPM := Lib.hid (pushM_any w lo B g cap L c v h (by omega))
  have HU := Lib.hid (UpInv.start (c, v) hh)
  clear h hh
  obtain ⟨nn, hnn⟩ : ∃ nn, nn = L.length := ⟨_, rfl⟩
  have hL1 : (L ++ [(c, v)]).length = nn + 1 := by rw [hnn]; simp
  have hmem : ∀ y, y ∈ L ++ [(c, v)] ↔ y ∈ (c, v) :: L := fun y => by simp [or_comm]
  rw [← hnn] at HU hn ⊢
  have HMEM := Lib.hid hmem; have HL1 := Lib.hid hL1
  clear hmem hL1 hnn
  generalize L ++ [(c, v)] = L1 at *
  go_enter Tryd.func29, Tryd.ntmps29
  go_wp2_with fail
  refine HPM.out.mono ?_
  rintro e w1 ⟨rfl, g', cap', hs, hop, hgg⟩
  have HS := Lib.hid hs; have HOP := Lib.hid hop
  have hcell := hs.cell
  have hlt := hs.lt
  have hlo := hs.lo2
  have hbo := hs.row.bounds
  rw [HL1.out] at hcell hbo
  have hml := len_at hcell
  have HLN := Lib.hid (len_any w1 (some ⟨g', 0, none⟩) (nn + 1) cap')
  have hrow := hs.row
  rw [HL1.out] at hrow
  have HUP := Lib.hid (up_any w1 lo B g' (nn + 1) cap' nn L1 hrow hcell HU.out hs.ne (by omega) hbo.1 hbo.2)
  have e1 : ((nn + 1 : Nat) : Int) - 1 = (nn : Int) := by omega
  clear hs hop hrow HPM
  go_wp2_with fail
  refine HLN.out.mono ?_
  rintro e w2 ⟨rfl, rfl⟩
  clear HLN
  go_wp2_with fail
  refine HUP.out.mono ?_
  rintro e w3 ⟨rfl, L', hr', hh', hm', hg'⟩
  have hl' : L'.length = L1.length := by rw [HL1.out]; exact hr'.1
  have HS3 := Lib.hid (HS.out.kept hl' (by rw [HL1.out]; exact hr') hg')
  have HF : Hid (IsHeap L' L'.length ∧ L'.length = nn + 1 ∧ SameM L' ((c, v) :: L)) := Lib.hid ⟨by rw [hr'.1]; exact hh', hr'.1, fun y => (hm' y).trans (HMEM.out y)⟩
  have HO3 := Lib.hid (HOP.out.trans (Hop.of_grown hg' hlt.1 hlt.2.2 hlo) hgg)
  clear hr' hh' hm' hg' hl' HUP hml hcell
  go_wp2_with fail
  go_end0
  exact ⟨rfl, g', cap', L', HS3.out, HF.out.1, HF.out.2.1, HF.out.2.2, HO3.out, hgg⟩
set_option maxRecDepth 100000 in
set_option maxHeartbeats 8000000 in
theorem popM_any (w : World) (lo B g cap m : Nat) (L : List (Nat × Nat)) (h : HeapS lo B g cap w L) (hl : L.length = m + 1) (hn : m < 1000000) :
    Calls Tryd.prog 61 #[.pointer (some ⟨B, 0, none⟩)] w fun e w' => e = .returned (.iface 58 (.agg #[.int .i64 (cvAt L m).1, .int .i64 (cvAt L m).2])) ∧ HeapS lo B g cap w' (L.take m) ∧ Hop lo B g w w' := by
  have hlt := h.lt
  have hlo := h.lo2
  have hbo := h.row.bounds
  have hrow := h.row
  have k0 := h.cell
  have fz := h.froz
  rw [hl] at hbo hrow k0
  obtain ⟨c0, c1, -, -⟩ := hrow.cells (k := m) (by omega)
  have hcut := hrow.cut
  have hbox := h.box
  rw [hl] at hbox
  have htl : (L.take m).length = m := by rw [List.length_take]; omega
  generalize L.take m = L' at *
  generalize cvAt L m = y at *
  obtain ⟨y0, y1⟩ := y
  simp only at c0 c1 ⊢
  have e1 : ((m + 1 : Nat) : Int) - 1 = (m : Int) := by omega
  have hst := hbox.stored 0 (.slice (some ⟨g, 0, none⟩) m cap)
  simp only [List.set_cons_zero] at hst
  have hcut2 : PRow lo g m cap (w.setCell ⟨B, 0, none⟩ (.slice (some ⟨g, 0, none⟩) m cap)) L' := hcut.lift (hst.2.block g hlt.2.1 (by intro e; injection e with e; omega))
  have hS : HeapS lo B g cap (w.setCell ⟨B, 0, none⟩ (.slice (some ⟨g, 0, none⟩) m cap)) L' := ⟨by rw [htl]; exact hst.1, by rw [htl]; exact hcut2, hlt.1, hlo.1⟩
  have hop : Hop lo B g w (w.setCell ⟨B, 0, none⟩ (.slice (some ⟨g, 0, none⟩) m cap)) :=
    ⟨⟨hst.2.os, hst.2.tape, hst.2.output, hst.2.size, fun k hk => hst.2.block k (by omega) (by intro e; injection e with e; omega)⟩, fun k hk e1 e2 => hst.2.block k hk (by intro e; injection e with e; omega)⟩
  have hal : Below (w.setCell ⟨B, 0, none⟩ (.slice (some ⟨g, 0, none⟩) m cap)).heap.size (w.setCell ⟨B, 0, none⟩ (.slice (some ⟨g, 0, none⟩) m cap)) ((w.setCell ⟨B, 0, none⟩ (.slice (some ⟨g, 0, none⟩) m cap)).alloc (.cells #[.int .i64 y0, .int .i64 y1] 58)) := (Below.refl _ _).alloc (Nat.le_refl _) _
  have HFIN := Lib.hid (And.intro (hS.keep hal) (hop.trans (Hop.of_below (g := g) hal (hS.lt.2.2) hlo) (.inl rfl)))
  clear h hrow hcut hbox hal hst hcut2 hS hop
  go_enter Tryd.func61, Tryd.ntmps61
  go_wp2_with fail
  go_ret
  exact ⟨rfl, HFIN.out.1, HFIN.out.2⟩
set_option maxRecDepth 100000 in
set_option maxHeartbeats 8000000 in
theorem heapPop_any (w : World) (lo B g cap m : Nat) (L : List (Nat × Nat)) (h : HeapS lo B g cap w L) (hh : IsHeap L L.length) (hl : L.length = m + 1) (hn : m < 999999) :
    Calls Tryd.prog 28 #[.iface 56 (.pointer (some ⟨B, 0, none⟩))] w fun e w' => ∃ c v L', e = .returned (.iface 58 (.agg #[.int .i64 (c : Nat), .int .i64 (v : Nat)])) ∧ HeapS lo B g cap w' L' ∧ IsHeap L' L'.length ∧ L'.length = m ∧ SameM L ((c, v) :: L') ∧ (∀ y, y ∈ L' → CvLe (c, v) y) ∧ Hop lo B g w w' := by
  have HS := Lib.hid h
  have hlt := h.lt
  have hlo := h.lo2
  have hrow := h.row
  have hbo := hrow.bounds
  have hcell := h.cell
  rw [hl] at hrow hbo hcell hh
  have HLN := Lib.hid (len_any w (some ⟨g, 0, none⟩) (m + 1) cap)
  have HSW := Lib.hid (swap_any w lo g (m + 1) cap 0 m L hrow (by omega) (by omega) (by omega) hbo.1 hbo.2)
  have HD0 := Lib.hid (DownInv.start hh hl)
  have HSM : Hid (∀ y, y ∈ swp L 0 m ↔ y ∈ L) := Lib.hid fun y => mem_swp (by omega) (by omega) y
  have HSA : Hid (cvAt (swp L 0 m) m = cvAt L 0) := Lib.hid (by rw [swp_at (by omega) (by omega), if_pos rfl])
  have HLE : Hid (∀ y, y ∈ L → CvLe (cvAt L 0) y) := Lib.hid fun y hy => by
    obtain ⟨k, hk, rfl⟩ := mem_at.1 hy
    exact hh.least k (by omega)
  have HLL : Hid (L.length = m + 1) := Lib.hid hl
  have hml := len_at hcell
  have e1 : ((m + 1 : Nat) : Int) - 1 = (m : Int) := by omega
  clear h hrow hh hl
  generalize swp L 0 m = L1 at *
  go_enter Tryd.func28, Tryd.ntmps28
  go_wp2_with fail
  refine HLN.out.mono ?_
  rintro e w1 ⟨rfl, rfl⟩
  have hms := swap_at hcell
  clear HLN hml
  go_wp2_with fail
  refine HSW.out.mono ?_
  rintro e w2 ⟨rfl, hr2, hg2⟩
  have hl1 : L1.length = L.length := by rw [HLL.out]; exact hr2.1
  have hs2 := HS.out.kept hl1 (by rw [HLL.out]; exact hr2) hg2
  have hc2 := hs2.cell
  rw [hl1, HLL.out] at hc2
  have HS2 := Lib.hid hs2
  have HO2 := Lib.hid (Hop.of_grown hg2 hlt.1 hlt.2.2 hlo)
  have HDN := Lib.hid (down_any w2 lo B g (m + 1) cap m L1 hr2 hc2 HD0.out (by omega) hlt.1 (by omega) (by omega) hbo.1 hbo.2)
  have HL1 := Lib.hid hl1
  clear HSW hms hr2 hg2 hs2 HS hc2 hl1 hcell
  go_wp2_with fail
  refine HDN.out.mono ?_
  rintro e w3 ⟨⟨tb, rfl⟩, L2, hr3, hh3, hm3, hab, hg3⟩
  have hl2 : L2.length = m + 1 := hr3.1
  have hs3 := HS2.out.kept (L' := L2) (by rw [HL1.out, HLL.out]; exact hl2) (by rw [HL1.out, HLL.out]; exact hr3) hg3
  have HO3 := Lib.hid (HO2.out.trans (Hop.of_grown hg3 hlt.1 (by have := HS2.out.lt; omega) hlo) (.inl rfl))
  have HPM := Lib.hid (popM_any w3 lo B g cap m L2 hs3 hl2 (by omega))
  have e2 : cvAt L2 m = cvAt L 0 := (hab m (Nat.le_refl _)).trans HSA.out
  have hpm := pop_mem hl2
  have HF : Hid (IsHeap (L2.take m) (L2.take m).length ∧ (L2.take m).length = m ∧ SameM L (cvAt L 0 :: L2.take m) ∧ ∀ y, y ∈ L2.take m → CvLe (cvAt L 0) y) := Lib.hid (by
    have a1 : (L2.take m).length = m := by rw [List.length_take]; omega
    refine ⟨by rw [a1]; exact isHeap_take hh3, a1, fun y => ?_, fun y hy => ?_⟩
    · rw [← e2, ← hpm y, hm3 y]; exact (HSM.out y).symm
    · have b1 : y ∈ L2 := (hpm y).2 (List.mem_cons_of_mem _ hy)
      exact HLE.out y ((HSM.out y).1 ((hm3 y).1 b1)))
  rw [e2] at HPM
  clear hr3 hh3 hm3 hab hg3 hl2 hs3 hpm e2 HDN HO2 HS2 HL1
  generalize L2.take m = L3 at *
  generalize cvAt L 0 = y at *
  obtain ⟨y0, y1⟩ := y
  simp only at HPM
  go_wp2_with fail
  refine HPM.out.mono ?_
  rintro e w4 ⟨rfl, hs4, hop4⟩
  have HS4 := Lib.hid hs4; have HO4 := Lib.hid (HO3.out.trans hop4 (.inl rfl))
  clear hs4 hop4 HPM
  go_wp2_with fail
  go_ret
  exact ⟨y0, y1, L3, rfl, HS4.out, HF.out.1, HF.out.2.1, HF.out.2.2.1, HF.out.2.2.2, HO4.out⟩
end Go.Proofs.YtgdggkhdollieaaDoor
