/-
  The reference's copy of a graph, and its AddEdge (which graph comes back is not said: only how many edges and vertices it may have).
-/
import Derived.Test.YtgdggkhdollieaaDoorGraphV
import Derived.Test.YtgdggkhdollieaaDoorApp
namespace Go.Proofs.YtgdggkhdollieaaDoor
open Go.RowKit
set_option linter.unusedVariables false

theorem lit3 (w : World) (q : Nat) (hq : w.heap.size = q) (a b c : Int) : Rd (w.alloc (.cells #[.int .i64 a, .int .i64 b, .int .i64 c] 34)) 3 (.slice (some ⟨q, 0, none⟩) 1 1) 1 (tris [(a, b, c)]) := by
  subst hq
  exact Rd.of_own (ownsRow_lit (base := w.heap.size) (size := 3) (e := 34) w #[.int .i64 a, .int .i64 b, .int .i64 c] 1 (Nat.le_refl _) (by decide) rfl)

set_option maxRecDepth 100000 in
set_option maxHeartbeats 2000000 in
theorem ownGraph_any (w : World) (va : Value) (g : GraphD) (h : RdGraph w va g) (hs : g.2.length ≤ 1099511627776) :
    Calls Tryd.prog 41 #[va] w fun e w' => ∃ v, e = .returned v ∧ OwGraph (w.heap.size + 3) w'.heap.size w' v g ∧ Below w.heap.size w w' := by
  obtain ⟨p, c, rfl, hr, hc, hmx⟩ := h.form
  clear h
  obtain ⟨m, ys⟩ := g
  simp only at hr hc hs ⊢
  have HR : Hid (Rd w 3 (.slice p ys.length c) ys.length (tris ys)) := Lib.hid hr
  clear hr
  generalize hl : ys.length = l at *
  have HL := Lib.hid hl; clear hl
  have HB : Hid (Below w.heap.size w ((((w.alloc (.cells #[.int .i64 m, .slice p l c] 25)).alloc (.cells #[.int .i64 0, .slice none 0 0] 25)).alloc (.cells #[.int .i64 m, .slice p l c] 25)).alloc (.cells #[] 34))) := Lib.hid (by go_grown)
  have B2 := Lib.hid (box_alloc (box_alloc (heap_alloc_new (w.alloc (.cells #[.int .i64 m, .slice p l c] 25)) (.cells #[.int .i64 0, .slice none 0 0] 25)) (.cells #[.int .i64 m, .slice p l c] 25)) (.cells #[] 34))
  have B3 := Lib.hid (box_alloc (heap_alloc_new ((w.alloc (.cells #[.int .i64 m, .slice p l c] 25)).alloc (.cells #[.int .i64 0, .slice none 0 0] 25)) (.cells #[.int .i64 m, .slice p l c] 25)) (.cells #[] 34))
  have hsz : ((((w.alloc (.cells #[.int .i64 m, .slice p l c] 25)).alloc (.cells #[.int .i64 0, .slice none 0 0] 25)).alloc (.cells #[.int .i64 m, .slice p l c] 25)).alloc (.cells #[] 34)).heap.size = w.heap.size + 4 := by simp
  simp only [World.size_alloc] at B2 B3
  have HRW := Lib.hid (HR.out.keep HB.out)
  go_enter Tryd.func41, Tryd.ntmps41
  go_wp2_with (at_builtin; refine wpList_appendOw rfl _ _ 23 34 rfl (.agg #[.int .i64 0, .int .i64 0, .int .i64 0]) 3 24 Tryd.underlying23 infoEdge rfl (by decide) (by decide) (w.heap.size + 3) 0 _ 0 [] (Ow.nil _ _ _ _ _ _) rfl (.slice p l c) l (tris ys) HRW.out rfl (tris_one _) (by omega) hs (by simp) ?_; intro v' w1 hown1 hbel1; obtain ⟨aN, cN, rfl, -, -⟩ := Rd.form hown1.rd; have HO1 := Lib.hid hown1; have HB1 := Lib.hid (HB.out.trans (hbel1.mono (by omega))); have C2 := Lib.hid ((hbel1.block _ (by omega)).trans B2.out); have C3 := Lib.hid ((hbel1.block _ (by omega)).trans B3.out); clear hown1 hbel1; have k20 := box_cell C2.out 0 _ rfl; have k21 := box_cell C2.out 1 _ rfl; have f20 := box_frozen C2.out 0; have f21 := box_frozen C2.out 1; have k30 := box_cell C3.out 0 (.int .i64 m) rfl; have k31 := box_cell C3.out 1 _ rfl; have f3 := box_frozen C3.out 1)
  simp only [Nat.zero_add, List.nil_append] at HO1
  have hK : Chg (w.heap.size + 1) (w.heap.size + 1 + 1 + 1) w1 (((w1.setCell ⟨w.heap.size + 1 + 1, 1, none⟩ (.slice aN (0 + l) cN)).setCell ⟨w.heap.size + 1, 0, none⟩ (.int .i64 m)).setCell ⟨w.heap.size + 1, 1, none⟩ (.slice aN (0 + l) cN)) :=
    ((Chg.setCell (p := ⟨w.heap.size + 1 + 1, 1, none⟩) (by simp) (by simp) _).trans (Chg.setCell (p := ⟨w.heap.size + 1, 0, none⟩) (by simp) (by simp) _)).trans (Chg.setCell (p := ⟨w.heap.size + 1, 1, none⟩) (by simp) (by simp) _)
  have HO2 := HO1.out.chg hK (.inl (by omega))
  simp only [Nat.zero_add] at *
  refine bodyPost_ret (v := .agg #[.int .i64 m, .slice aN l cN]) (by simp [results, Tryd.results41, go_sem, k20, k21]) rfl ⟨_, rfl, ⟨_, rfl, ?_⟩, hK.below HB1.out (by omega)⟩
  have h9 := HO2.mono (Nat.le_refl _) (show w1.heap.size ≤ (((w1.setCell ⟨w.heap.size + 1 + 1, 1, none⟩ (.slice aN l cN)).setCell ⟨w.heap.size + 1, 0, none⟩ (.int .i64 m)).setCell ⟨w.heap.size + 1, 1, none⟩ (.slice aN l cN)).heap.size by simp)
  show Ow _ _ _ _ _ _ ys.length (tris ys)
  rw [HL.out]; exact h9
/-! The reference's AddEdge. -/
theorem Chg.of_belowB {B : Nat} {w w' : World} (h : Below B w w') (hs : w.heap.size ≤ w'.heap.size) : Chg B w.heap.size w w' := ⟨h.os, h.tape, h.output, hs, fun k hk hh => h.block k (by omega)⟩
/-- What AddEdge holds: its arguments' boxes, the result's, the edges that came in, the new graph's box and edges (these below block hi). -/
structure AE (w wr : World) (m e0 e1 e2 : Int) (sl : Value) (ys : List Tri) (px hi : Nat) (v : Value) (L : List Tri) : Prop where
  hb : Below w.heap.size w wr
  bg : wr.heap[w.heap.size]? = some (.cells #[.int .i64 m, sl] 25 (0, 0))
  be : wr.heap[w.heap.size + 1]? = some (.cells #[.int .i64 e0, .int .i64 e1, .int .i64 e2] 34 (0, 0))
  br : wr.heap[w.heap.size + 1 + 1]? = some (.cells #[.int .i64 0, .slice none 0 0] 25 (0, 0))
  hr : Ow 0 px wr 34 3 sl ys.length (tris ys)
  bx : wr.heap[px]? = some (.cells #[.int .i64 m, v] 25 (0, 0))
  ho : Ow (px + 1) hi wr 34 3 v L.length (tris L)
  lo : w.heap.size + 2 < px
  top : hi ≤ wr.heap.size
section
variable {w wr w' w9 : World} {m e0 e1 e2 : Int} {sl : Value} {ys : List Tri} {px hi : Nat} {v v' : Value} {L L' : List Tri}
theorem AE.plt (h : AE w wr m e0 e1 e2 sl ys px hi v L) : px < wr.heap.size := box_lt h.bx
theorem AE.keep (h : AE w wr m e0 e1 e2 sl ys px hi v L) (hb : Below wr.heap.size wr w') : AE w w' m e0 e1 e2 sl ys px hi v L :=
  ⟨h.hb.tr hb, box_keep h.bg hb, box_keep h.be hb, box_keep h.br hb, h.hr.keep hb, box_keep h.bx hb, h.ho.keep hb, h.lo, Nat.le_trans h.top hb.size⟩
/-- What is neither below the new graph's edges nor among them is left alone by an append and the store behind it. -/
theorem AE.apart (h : AE w wr m e0 e1 e2 sl ys px hi v L) (hc : Chg (px + 1) hi wr w9) {k : Nat} {o : Obj} (hk : k < px ∨ hi ≤ k ∧ px < k) (ho : wr.heap[k]? = some o) (u : Value) : (w9.setCell ⟨px, 1, none⟩ u).heap[k]? = some o :=
  box_other ((hc.block k (box_lt ho) (by omega)).trans ho) _ _ (by simp; omega)
/-- One edge more has been put behind the new graph's. -/
theorem AE.push (h : AE w wr m e0 e1 e2 sl ys px hi v L) (hc : Chg (px + 1) hi wr w9) (ho : Ow (px + 1) w9.heap.size w9 34 3 v' L'.length (tris L')) :
    AE w (w9.setCell ⟨px, 1, none⟩ v') m e0 e1 e2 sl ys px w9.heap.size v' L' := by
  have hlo := h.lo; have hpx := h.plt
  have hs : Chg px (px + 1) w9 (w9.setCell ⟨px, 1, none⟩ v') := Chg.setCell (p := ⟨px, 1, none⟩) (Nat.le_refl _) (Nat.lt_succ_self _) _
  refine ⟨?_, h.apart hc (.inl (by omega)) h.bg _, h.apart hc (.inl (by omega)) h.be _, h.apart hc (.inl (by omega)) h.br _, (h.hr.chg hc (.inr (by omega))).chg hs (.inr (Nat.le_refl _)), ?_, ?_, h.lo, by simp⟩
  · exact hs.below (hc.below h.hb (by omega)) (by omega)
  · have h9 := (hc.block px hpx (.inl (Nat.lt_succ_self _))).trans h.bx
    have := box_set h9 1 v'
    simpa using this
  · exact ho.chg hs (.inl (Nat.le_refl _))
end

theorem ownGraph_form (w : World) (p : Option Addr) (m : Int) (ys : List Tri) (l c : Nat) (hl : ys.length = l) (h : RdGraph w (.agg #[.int .i64 m, .slice p l c]) (m, ys)) (hs : l ≤ 1000000) :
    Calls Tryd.prog 41 #[.agg #[.int .i64 m, .slice p l c]] w fun e w' => ∃ p1 c1, e = .returned (.agg #[.int .i64 m, .slice p1 l c1]) ∧ Ow (w.heap.size + 3) w'.heap.size w' 34 3 (.slice p1 l c1) l (tris ys) ∧ l ≤ c1 ∧ c1 ≤ 9223372036854775807 ∧ Below w.heap.size w w' := by
  refine (ownGraph_any w _ (m, ys) h (by simp only; omega)).mono ?_
  rintro e w1 ⟨s, rfl, ⟨v1, rfl, ho⟩, hb⟩
  obtain ⟨p1, c1, rfl, h1, h2⟩ := Rd.form ho.rd
  simp only at h1 ho ⊢
  subst hl
  exact ⟨p1, c1, rfl, ho, h1, h2, hb⟩
set_option maxRecDepth 100000 in
set_option maxHeartbeats 8000000 in
theorem addEdge_any (w : World) (va : Value) (g : GraphD) (e0 e1 e2 : Int) (h : RdGraph w va g) (hs : g.2.length ≤ 1000000) :
    Calls Tryd.prog 33 #[va, .agg #[.int .i64 e0, .int .i64 e1, .int .i64 e2]] w fun e w' => ∃ v b y, e = .returned (.tuple #[v, .bool b]) ∧ OwGraph w.heap.size w'.heap.size w' v y ∧ y.2.length ≤ g.2.length + 1 ∧ (y.1 = g.1 ∨ y.1 = 0) ∧ Below w.heap.size w w' := by
  obtain ⟨p, c, rfl, hr, hc, hmx⟩ := h.form
  have HRG := Lib.hid h
  clear h hr
  obtain ⟨m, ys⟩ := g
  simp only at hc hs ⊢
  generalize hl : ys.length = l at *
  have HOW := Lib.hid fun wx (hb : Below w.heap.size w wx) => ownGraph_form wx p m ys l c hl (HRG.out.keep hb) hs
  have HVA := Lib.hid fun (wx : World) (sl : Value) (zs : List Tri) (hx : Rd wx 3 sl zs.length (tris zs)) => specGraphValid_any wx (.agg #[.int .i64 m, sl]) (m, zs) ⟨sl, rfl, hx⟩
  have HL := Lib.hid hl; clear hl HRG
  have HB : Hid (Below w.heap.size w (((w.alloc (.cells #[.int .i64 m, .slice p l c] 25)).alloc (.cells #[.int .i64 e0, .int .i64 e1, .int .i64 e2] 34)).alloc (.cells #[.int .i64 0, .slice none 0 0] 25))) := Lib.hid (by go_grown)
  have B1 := Lib.hid (box_alloc (box_alloc (heap_alloc_new w (.cells #[.int .i64 m, .slice p l c] 25)) (.cells #[.int .i64 e0, .int .i64 e1, .int .i64 e2] 34)) (.cells #[.int .i64 0, .slice none 0 0] 25))
  have B2 := Lib.hid (box_alloc (heap_alloc_new (w.alloc (.cells #[.int .i64 m, .slice p l c] 25)) (.cells #[.int .i64 e0, .int .i64 e1, .int .i64 e2] 34)) (.cells #[.int .i64 0, .slice none 0 0] 25))
  have B3 := Lib.hid (heap_alloc_new ((w.alloc (.cells #[.int .i64 m, .slice p l c] 25)).alloc (.cells #[.int .i64 e0, .int .i64 e1, .int .i64 e2] 34)) (.cells #[.int .i64 0, .slice none 0 0] 25))
  have hsz : (((w.alloc (.cells #[.int .i64 m, .slice p l c] 25)).alloc (.cells #[.int .i64 e0, .int .i64 e1, .int .i64 e2] 34)).alloc (.cells #[.int .i64 0, .slice none 0 0] 25)).heap.size = w.heap.size + 3 := by simp
  simp only [World.size_alloc] at B2 B3
  go_enter Tryd.func33, Tryd.ntmps33
  go_wp2_with fail
  generalize (((w.alloc (.cells #[.int .i64 m, .slice p l c] 25)).alloc (.cells #[.int .i64 e0, .int .i64 e1, .int .i64 e2] 34)).alloc (.cells #[.int .i64 0, .slice none 0 0] 25)) = w0 at *
  refine (HOW.out _ HB.out).mono ?_
  rintro e w1 ⟨p1, c1, rfl, ho1, hcl, hcm, hb⟩
  have hsz1 := hb.size
  have HO1 := Lib.hid ho1
  replace HB := Lib.hid (HB.out.tr hb); replace B1 := Lib.hid (box_keep B1.out hb); replace B2 := Lib.hid (box_keep B2.out hb); replace B3 := Lib.hid (box_keep B3.out hb)
  clear hb ho1 HOW
  have k10 := box_cell B1.out 0 (.int .i64 m) rfl; have k11 := box_cell B1.out 1 _ rfl; have f10 := box_frozen B1.out 0; have f11 := box_frozen B1.out 1
  have hc2 : Chg w.heap.size (w.heap.size + 1) w1 ((w1.setCell ⟨w.heap.size, 0, none⟩ (.int .i64 m)).setCell ⟨w.heap.size, 1, none⟩ (.slice p1 l c1)) := (Chg.setCell (p := ⟨w.heap.size, 0, none⟩) (Nat.le_refl _) (Nat.lt_succ_self _) _).trans (Chg.setCell (p := ⟨w.heap.size, 1, none⟩) (Nat.le_refl _) (Nat.lt_succ_self _) _)
  have C1 : Hid (((w1.setCell ⟨w.heap.size, 0, none⟩ (.int .i64 m)).setCell ⟨w.heap.size, 1, none⟩ (.slice p1 l c1)).heap[w.heap.size]? = some (.cells #[.int .i64 m, .slice p1 l c1] 25 (0, 0))) := Lib.hid (by have := box_set (box_set B1.out 0 (.int .i64 m)) 1 (.slice p1 l c1); simpa using this)
  have C2 := Lib.hid (box_other (box_other B2.out ⟨w.heap.size, 0, none⟩ (.int .i64 m) (by simp <;> omega)) ⟨w.heap.size, 1, none⟩ (.slice p1 l c1) (by simp <;> omega))
  have C3 := Lib.hid (box_other (box_other B3.out ⟨w.heap.size, 0, none⟩ (.int .i64 m) (by simp <;> omega)) ⟨w.heap.size, 1, none⟩ (.slice p1 l c1) (by simp <;> omega))
  have HB2 := Lib.hid (hc2.below HB.out (Nat.le_refl _))
  have HO2 := Lib.hid (HO1.out.chg hc2 (.inl (by omega)))
  have hsz2 : ((w1.setCell ⟨w.heap.size, 0, none⟩ (.int .i64 m)).setCell ⟨w.heap.size, 1, none⟩ (.slice p1 l c1)).heap.size = w1.heap.size := by simp
  have j10 := box_cell C1.out 0 (.int .i64 m) rfl; have j11 := box_cell C1.out 1 (.slice p1 l c1) rfl
  go_wp2_with fail
  generalize ((w1.setCell ⟨w.heap.size, 0, none⟩ (.int .i64 m)).setCell ⟨w.heap.size, 1, none⟩ (.slice p1 l c1)) = w2 at *
  clear k10 k11 f10 f11 j10 j11 B1 B2 B3 HO1 HB hc2
  have CV := Lib.hid (HVA.out w2 (.slice p1 l c1) ys (by rw [HL.out]; exact HO2.out.rd))
  refine CV.out.mono ?_
  rintro e w3 ⟨rfl, hb⟩
  have hsz3 := hb.size
  replace HB2 := Lib.hid (HB2.out.tr hb); replace C1 := Lib.hid (box_keep C1.out hb); replace C2 := Lib.hid (box_keep C2.out hb); replace C3 := Lib.hid (box_keep C3.out hb); replace HO2 := Lib.hid (HO2.out.keep hb)
  clear hb CV
  have kr0 := box_cell C3.out 0 (.int .i64 0) rfl; have kr1 := box_cell C3.out 1 (.slice none 0 0) rfl; have fr0 := box_frozen C3.out 0; have fr1 := box_frozen C3.out 1
  have kg0 := box_cell C1.out 0 (.int .i64 m) rfl; have kg1 := box_cell C1.out 1 (.slice p1 l c1) rfl
  cases hok : graphOk (m, ys)
  · go_wp2_with fail
    have hK : Chg (w.heap.size + 1 + 1) (w.heap.size + 1 + 1 + 1) w3 ((w3.setCell ⟨w.heap.size + 1 + 1, 0, none⟩ (.int .i64 0)).setCell ⟨w.heap.size + 1 + 1, 1, none⟩ (.slice none 0 0)) := (Chg.setCell (p := ⟨w.heap.size + 1 + 1, 0, none⟩) (Nat.le_refl _) (Nat.lt_succ_self _) _).trans (Chg.setCell (p := ⟨w.heap.size + 1 + 1, 1, none⟩) (Nat.le_refl _) (Nat.lt_succ_self _) _)
    refine bodyPost_ret (v := .tuple #[.agg #[.int .i64 0, .slice none 0 0], .bool false]) (by simp [results, Tryd.results33, go_sem, kr0, kr1]) rfl ⟨_, _, (0, []), rfl, ⟨_, rfl, Ow.nil _ _ _ _ _ _⟩, by simp, .inr rfl, hK.below HB2.out (by omega)⟩
  clear hok kr0 kr1 fr0 fr1
  go_wp2_with fail
  have AE0 : Hid (AE w (w3.alloc (.cells #[.int .i64 m, .slice none 0 0] 25)) m e0 e1 e2 (.slice p1 l c1) ys w3.heap.size (w3.heap.size + 1) (.slice none 0 0) []) := Lib.hid
    ⟨HB2.out.alloc HB2.out.size _, box_alloc C1.out _, box_alloc C2.out _, box_alloc C3.out _, (by rw [HL.out]; exact ((HO2.out.keep ((Below.refl _ _).alloc (Nat.le_refl _) _)).mono (Nat.zero_le _) (by omega))), heap_alloc_new _ _, Ow.nil _ _ _ _ _ _, by omega, by simp⟩
  generalize (w3.alloc (.cells #[.int .i64 m, .slice none 0 0] 25)) = w4 at *
  generalize hpx : w3.heap.size = px at *
  clear C1 C2 C3 HB2 HO2 kg0 kg1
  go_loopw [7, 8] (fun q i wr => ∃ (t hi : Nat) (pl : Bool) (v : Value) (L : List Tri), t ≤ l ∧ i = .int .i64 t ∧ q = .bool pl ∧ L.length ≤ t + (if pl then 1 else 0) ∧ Hid (AE w wr m e0 e1 e2 (.slice p1 l c1) ys px hi v L)) (fun _ i _ => l - (intOf i).toNat)
  case atStart => exact ⟨0, _, false, _, [], Nat.zero_le _, rfl, rfl, by simp, AE0⟩
  case round =>
    clear AE0
    obtain ⟨t, hi, pl, v, L, ht, rfl, rfl, hlen, HA⟩ := hrel
    have kg1 := box_cell HA.out.bg 1 _ rfl
    have hgl := box_lt HA.out.bg; have hel := box_lt HA.out.be; have hpl := HA.out.plt
    by_cases hlt : t < l
    · obtain ⟨b1, o1, rfl, hb1, c0, c1', c2⟩ := Rd.tri (ys := ys) (k := t) (by have := HA.out.hr.rd; rw [HL.out] at this; exact this) hlt
      generalize (ys.getD t triZ).1 = ta at *
      generalize (ys.getD t triZ).2.1 = tb at *
      generalize (ys.getD t triZ).2.2 = tc at *
      have hba : Below wr.heap.size wr (wr.alloc (.cells #[.int .i64 ta, .int .i64 tb, .int .i64 tc] 34)) := (Below.refl _ _).alloc (Nat.le_refl _) _
      have HA1 := Lib.hid (HA.out.keep hba)
      have BO := Lib.hid (heap_alloc_new wr (.cells #[.int .i64 ta, .int .i64 tb, .int .i64 tc] 34))
      have htop := HA.out.top
      have hlo := HA.out.lo
      have hsa : (wr.alloc (.cells #[.int .i64 ta, .int .i64 tb, .int .i64 tc] 34)).heap.size = wr.heap.size + 1 := by simp
      have hL1 : L.length ≤ t + 1 := by split at hlen <;> omega
      have kx1 := box_cell HA.out.bx 1 _ rfl; have ke0 := box_cell HA.out.be 0 _ rfl; have ke1 := box_cell HA.out.be 1 _ rfl; have ke2 := box_cell HA.out.be 2 _ rfl
      cases pl
      rotate_left
      · go_wp2_with (at_builtin; refine wpList_appendC rfl _ _ 23 34 rfl (.agg #[.int .i64 0, .int .i64 0, .int .i64 0]) 3 24 Tryd.underlying23 infoEdge rfl (by decide) (by decide) (px + 1) _ _ L.length (tris L) (HA1.out.ho.keep ((Below.refl _ _).alloc (Nat.le_refl _) (.cells #[.int .i64 ta, .int .i64 tb, .int .i64 tc] 34))) rfl _ 1 (tris [(ta, tb, tc)]) (lit3 _ _ (by simp) ta tb tc) rfl (tris_one _) (by skip; omega) (by omega) (by have := HA1.out.plt; simp; omega) ?_; intro v' w9 hown hchg; obtain ⟨a9, c9, rfl, -, -⟩ := Rd.form hown.rd; have hch9 := (Chg.of_below (lo := px + 1) (hi := _) ((Below.refl _ _).alloc (Nat.le_refl _) (.cells #[.int .i64 ta, .int .i64 tb, .int .i64 tc] 34))).trans hchg; rw [← tris_append] at hown; have HP9 := Lib.hid (HA1.out.push hch9 (L' := L ++ [(ta, tb, tc)]) (by rw [List.length_append]; exact hown)); have q19 := box_cell ((hch9.block px HA1.out.plt (.inl (Nat.lt_succ_self _))).trans HA1.out.bx) 1 _ rfl; have q29 := box_frozen ((hch9.block px HA1.out.plt (.inl (Nat.lt_succ_self _))).trans HA1.out.bx) 1; clear hown hchg)
        go_roundw
        case rel => exact ⟨t + 1, _, true, _, _, by omega, by go_num, rfl, by simp only [List.length_append, List.length_cons, List.length_nil]; simp at hlen ⊢; omega, HP9⟩
        case measure => simp [intOf]; omega
      obtain ⟨bb, hbb⟩ : ∃ bb, decide (Bef (ta, tb, tc) (e0, e1, e2)) = bb := ⟨_, rfl⟩
      have CB := Lib.hid fun wx => before_is ta tb tc e0 e1 e2 wx bb hbb
      clear hbb
      go_wp2_with fail
      refine (CB.out _).mono ?_
      rintro e w6 ⟨rfl, hb6⟩
      have HA2 := Lib.hid (HA1.out.keep hb6); have BO2 := Lib.hid (box_keep BO.out hb6)
      have hs6 := hb6.size
      have hp6 := HA2.out.plt
      clear hb6 CB HA1 BO hba kx1 ke0 ke1 ke2 kg1 c0 c1' c2
      have kx1 := box_cell HA2.out.bx 1 _ rfl; have ke0 := box_cell HA2.out.be 0 _ rfl; have ke1 := box_cell HA2.out.be 1 _ rfl; have ke2 := box_cell HA2.out.be 2 _ rfl
      have ko0 := box_cell BO2.out 0 _ rfl; have ko1 := box_cell BO2.out 1 _ rfl; have ko2 := box_cell BO2.out 2 _ rfl
      cases bb
      rotate_left
      · go_wp2_with (at_builtin; refine wpList_appendC rfl _ _ 23 34 rfl (.agg #[.int .i64 0, .int .i64 0, .int .i64 0]) 3 24 Tryd.underlying23 infoEdge rfl (by decide) (by decide) (px + 1) _ _ L.length (tris L) (HA2.out.ho.keep ((Below.refl _ _).alloc (Nat.le_refl _) (.cells #[.int .i64 ta, .int .i64 tb, .int .i64 tc] 34))) rfl _ 1 (tris [(ta, tb, tc)]) (lit3 _ _ (by simp) ta tb tc) rfl (tris_one _) (by skip; omega) (by omega) (by have := HA2.out.plt; simp; omega) ?_; intro v' w9 hown hchg; obtain ⟨a9, c9, rfl, -, -⟩ := Rd.form hown.rd; have hch9 := (Chg.of_below (lo := px + 1) (hi := _) ((Below.refl _ _).alloc (Nat.le_refl _) (.cells #[.int .i64 ta, .int .i64 tb, .int .i64 tc] 34))).trans hchg; rw [← tris_append] at hown; have HP9 := Lib.hid (HA2.out.push hch9 (L' := L ++ [(ta, tb, tc)]) (by rw [List.length_append]; exact hown)); have q19 := box_cell ((hch9.block px HA2.out.plt (.inl (Nat.lt_succ_self _))).trans HA2.out.bx) 1 _ rfl; have q29 := box_frozen ((hch9.block px HA2.out.plt (.inl (Nat.lt_succ_self _))).trans HA2.out.bx) 1; clear hown hchg)
        go_roundw
        case rel => exact ⟨t + 1, _, false, _, _, by omega, by go_num, rfl, by simp only [List.length_append, List.length_cons, List.length_nil]; simp at hlen ⊢; omega, HP9⟩
        case measure => simp [intOf]; omega
      by_cases h1 : ta = e0
      · have t1 : (ta == e0) = true := by simp; exact h1
        by_cases h2 : tb = e1
        · have t2 : (tb == e1) = true := by simp; exact h2
          clear h1 h2
          go_wp2_with (at_builtin; refine wpList_appendC rfl _ _ 23 34 rfl (.agg #[.int .i64 0, .int .i64 0, .int .i64 0]) 3 24 Tryd.underlying23 infoEdge rfl (by decide) (by decide) (px + 1) _ _ L.length (tris L) (HA2.out.ho.keep ((Below.refl _ _).alloc (Nat.le_refl _) (.cells #[.int .i64 e0, .int .i64 e1, .int .i64 e2] 34))) rfl _ 1 (tris [(e0, e1, e2)]) (lit3 _ _ (by simp) e0 e1 e2) rfl (tris_one _) (by skip; omega) (by omega) (by have := HA2.out.plt; simp; omega) ?_; intro v' w9 hown hchg; obtain ⟨a9, c9, rfl, -, -⟩ := Rd.form hown.rd; have hch9 := (Chg.of_below (lo := px + 1) (hi := _) ((Below.refl _ _).alloc (Nat.le_refl _) (.cells #[.int .i64 e0, .int .i64 e1, .int .i64 e2] 34))).trans hchg; rw [← tris_append] at hown; have HP9 := Lib.hid (HA2.out.push hch9 (L' := L ++ [(e0, e1, e2)]) (by rw [List.length_append]; exact hown)); have q19 := box_cell ((hch9.block px HA2.out.plt (.inl (Nat.lt_succ_self _))).trans HA2.out.bx) 1 _ rfl; have q29 := box_frozen ((hch9.block px HA2.out.plt (.inl (Nat.lt_succ_self _))).trans HA2.out.bx) 1; have BO9 := Lib.hid (HA2.out.apart hch9 (.inr ⟨by omega, by omega⟩) BO2.out (.slice a9 (L.length + 1) c9)); have ye0 := box_cell HP9.out.be 0 _ rfl; have ye1 := box_cell HP9.out.be 1 _ rfl; have yo0 := box_cell BO9.out 0 _ rfl; have yo1 := box_cell BO9.out 1 _ rfl; have yo2 := box_cell BO9.out 2 _ rfl; have yx := box_cell HP9.out.bx 1 _ rfl; clear hown hchg)
          go_roundw
          case rel => exact ⟨t + 1, _, true, _, _, by omega, by go_num, rfl, by simp only [List.length_append, List.length_cons, List.length_nil]; simp at hlen ⊢; omega, HP9⟩
          case measure => simp [intOf]; omega
        · have t2 : (tb == e1) = false := by simp; exact h2
          clear h1 h2
          go_wp2_with (first | (at_builtin; refine wpList_appendC rfl _ _ 23 34 rfl (.agg #[.int .i64 0, .int .i64 0, .int .i64 0]) 3 24 Tryd.underlying23 infoEdge rfl (by decide) (by decide) (px + 1) _ _ L.length (tris L) (HA2.out.ho.keep ((Below.refl _ _).alloc (Nat.le_refl _) (.cells #[.int .i64 e0, .int .i64 e1, .int .i64 e2] 34))) rfl _ 1 (tris [(e0, e1, e2)]) (lit3 _ _ (by simp) e0 e1 e2) rfl (tris_one _) (by skip; omega) (by omega) (by have := HA2.out.plt; simp; omega) ?_; intro v' w9 hown hchg; obtain ⟨a9, c9, rfl, -, -⟩ := Rd.form hown.rd; have hch9 := (Chg.of_below (lo := px + 1) (hi := _) ((Below.refl _ _).alloc (Nat.le_refl _) (.cells #[.int .i64 e0, .int .i64 e1, .int .i64 e2] 34))).trans hchg; rw [← tris_append] at hown; have HP9 := Lib.hid (HA2.out.push hch9 (L' := L ++ [(e0, e1, e2)]) (by rw [List.length_append]; exact hown)); have q19 := box_cell ((hch9.block px HA2.out.plt (.inl (Nat.lt_succ_self _))).trans HA2.out.bx) 1 _ rfl; have q29 := box_frozen ((hch9.block px HA2.out.plt (.inl (Nat.lt_succ_self _))).trans HA2.out.bx) 1; have BO9 := Lib.hid (HA2.out.apart hch9 (.inr ⟨by omega, by omega⟩) BO2.out (.slice a9 (L.length + 1) c9)); have ye0 := box_cell HP9.out.be 0 _ rfl; have ye1 := box_cell HP9.out.be 1 _ rfl; have yo0 := box_cell BO9.out 0 _ rfl; have yo1 := box_cell BO9.out 1 _ rfl; have yo2 := box_cell BO9.out 2 _ rfl; have yx := box_cell HP9.out.bx 1 _ rfl; clear hown hchg) | (at_builtin; refine wpList_appendC rfl _ _ 23 34 rfl (.agg #[.int .i64 0, .int .i64 0, .int .i64 0]) 3 24 Tryd.underlying23 infoEdge rfl (by decide) (by decide) (px + 1) _ _ (L ++ [(e0, e1, e2)]).length (tris (L ++ [(e0, e1, e2)])) (HP9.out.ho.keep ((Below.refl _ _).alloc (Nat.le_refl _) (.cells #[.int .i64 ta, .int .i64 tb, .int .i64 tc] 34))) rfl _ 1 (tris [(ta, tb, tc)]) (lit3 _ _ (by simp) ta tb tc) rfl (tris_one _) (by simp only [List.length_append, List.length_cons, List.length_nil]; omega) (by omega) (by have := HP9.out.plt; simp at this ⊢; omega) ?_; intro v' w10 hown hchg; obtain ⟨a10, c10, rfl, -, -⟩ := Rd.form hown.rd; have hch10 := (Chg.of_below (lo := px + 1) (hi := _) ((Below.refl _ _).alloc (Nat.le_refl _) (.cells #[.int .i64 ta, .int .i64 tb, .int .i64 tc] 34))).trans hchg; rw [← tris_append] at hown; have HP10 := Lib.hid (HP9.out.push hch10 (L' := (L ++ [(e0, e1, e2)]) ++ [(ta, tb, tc)]) (by rw [List.length_append]; exact hown)); have q110 := box_cell ((hch10.block px HP9.out.plt (.inl (Nat.lt_succ_self _))).trans HP9.out.bx) 1 _ rfl; have q210 := box_frozen ((hch10.block px HP9.out.plt (.inl (Nat.lt_succ_self _))).trans HP9.out.bx) 1; clear hown hchg))
          simp only [List.length_append, List.length_cons, List.length_nil, Nat.zero_add] at HP10
          go_roundw
          case rel => exact ⟨t + 1, _, true, _, _, by omega, by go_num, rfl, by simp only [List.length_append, List.length_cons, List.length_nil]; simp at hlen ⊢; omega, HP10⟩
          case measure => simp [intOf]; omega
      · have t1 : (ta == e0) = false := by simp; exact h1
        clear h1
        go_wp2_with (first | (at_builtin; refine wpList_appendC rfl _ _ 23 34 rfl (.agg #[.int .i64 0, .int .i64 0, .int .i64 0]) 3 24 Tryd.underlying23 infoEdge rfl (by decide) (by decide) (px + 1) _ _ L.length (tris L) (HA2.out.ho.keep ((Below.refl _ _).alloc (Nat.le_refl _) (.cells #[.int .i64 e0, .int .i64 e1, .int .i64 e2] 34))) rfl _ 1 (tris [(e0, e1, e2)]) (lit3 _ _ (by simp) e0 e1 e2) rfl (tris_one _) (by skip; omega) (by omega) (by have := HA2.out.plt; simp; omega) ?_; intro v' w9 hown hchg; obtain ⟨a9, c9, rfl, -, -⟩ := Rd.form hown.rd; have hch9 := (Chg.of_below (lo := px + 1) (hi := _) ((Below.refl _ _).alloc (Nat.le_refl _) (.cells #[.int .i64 e0, .int .i64 e1, .int .i64 e2] 34))).trans hchg; rw [← tris_append] at hown; have HP9 := Lib.hid (HA2.out.push hch9 (L' := L ++ [(e0, e1, e2)]) (by rw [List.length_append]; exact hown)); have q19 := box_cell ((hch9.block px HA2.out.plt (.inl (Nat.lt_succ_self _))).trans HA2.out.bx) 1 _ rfl; have q29 := box_frozen ((hch9.block px HA2.out.plt (.inl (Nat.lt_succ_self _))).trans HA2.out.bx) 1; have BO9 := Lib.hid (HA2.out.apart hch9 (.inr ⟨by omega, by omega⟩) BO2.out (.slice a9 (L.length + 1) c9)); have ye0 := box_cell HP9.out.be 0 _ rfl; have ye1 := box_cell HP9.out.be 1 _ rfl; have yo0 := box_cell BO9.out 0 _ rfl; have yo1 := box_cell BO9.out 1 _ rfl; have yo2 := box_cell BO9.out 2 _ rfl; have yx := box_cell HP9.out.bx 1 _ rfl; clear hown hchg) | (at_builtin; refine wpList_appendC rfl _ _ 23 34 rfl (.agg #[.int .i64 0, .int .i64 0, .int .i64 0]) 3 24 Tryd.underlying23 infoEdge rfl (by decide) (by decide) (px + 1) _ _ (L ++ [(e0, e1, e2)]).length (tris (L ++ [(e0, e1, e2)])) (HP9.out.ho.keep ((Below.refl _ _).alloc (Nat.le_refl _) (.cells #[.int .i64 ta, .int .i64 tb, .int .i64 tc] 34))) rfl _ 1 (tris [(ta, tb, tc)]) (lit3 _ _ (by simp) ta tb tc) rfl (tris_one _) (by simp only [List.length_append, List.length_cons, List.length_nil]; omega) (by omega) (by have := HP9.out.plt; simp at this ⊢; omega) ?_; intro v' w10 hown hchg; obtain ⟨a10, c10, rfl, -, -⟩ := Rd.form hown.rd; have hch10 := (Chg.of_below (lo := px + 1) (hi := _) ((Below.refl _ _).alloc (Nat.le_refl _) (.cells #[.int .i64 ta, .int .i64 tb, .int .i64 tc] 34))).trans hchg; rw [← tris_append] at hown; have HP10 := Lib.hid (HP9.out.push hch10 (L' := (L ++ [(e0, e1, e2)]) ++ [(ta, tb, tc)]) (by rw [List.length_append]; exact hown)); have q110 := box_cell ((hch10.block px HP9.out.plt (.inl (Nat.lt_succ_self _))).trans HP9.out.bx) 1 _ rfl; have q210 := box_frozen ((hch10.block px HP9.out.plt (.inl (Nat.lt_succ_self _))).trans HP9.out.bx) 1; clear hown hchg))
        simp only [List.length_append, List.length_cons, List.length_nil, Nat.zero_add] at HP10
        go_roundw
        case rel => exact ⟨t + 1, _, true, _, _, by omega, by go_num, rfl, by simp only [List.length_append, List.length_cons, List.length_nil]; simp at hlen ⊢; omega, HP10⟩
        case measure => simp [intOf]; omega
    · obtain rfl : t = l := by omega
      have hL1 : L.length ≤ t + 1 := by split at hlen <;> omega
      have kx1 := box_cell HA.out.bx 1 _ rfl; have ke0 := box_cell HA.out.be 0 _ rfl; have ke1 := box_cell HA.out.be 1 _ rfl; have ke2 := box_cell HA.out.be 2 _ rfl
      obtain ⟨av, cv, rfl, -, -⟩ := Rd.form HA.out.ho.rd
      have kx0 := box_cell HA.out.bx 0 (.int .i64 m) rfl
      have HQ : ∃ x : Nat, True := ⟨0, trivial⟩
      cases pl
      · go_wp2_with (at_builtin; refine wpList_appendC rfl _ _ 23 34 rfl (.agg #[.int .i64 0, .int .i64 0, .int .i64 0]) 3 24 Tryd.underlying23 infoEdge rfl (by decide) (by decide) (px + 1) _ _ L.length (tris L) (HA.out.ho.keep ((Below.refl _ _).alloc (Nat.le_refl _) (.cells #[.int .i64 e0, .int .i64 e1, .int .i64 e2] 34))) rfl _ 1 (tris [(e0, e1, e2)]) (lit3 _ _ (by simp) e0 e1 e2) rfl (tris_one _) (by skip; omega) (by omega) (by have := HA.out.plt; simp; omega) ?_; intro v' w9 hown hchg; obtain ⟨a9, c9, rfl, -, -⟩ := Rd.form hown.rd; have hch9 := (Chg.of_below (lo := px + 1) (hi := _) ((Below.refl _ _).alloc (Nat.le_refl _) (.cells #[.int .i64 e0, .int .i64 e1, .int .i64 e2] 34))).trans hchg; rw [← tris_append] at hown; have HP9 := Lib.hid (HA.out.push hch9 (L' := L ++ [(e0, e1, e2)]) (by rw [List.length_append]; exact hown)); have q19 := box_cell ((hch9.block px HA.out.plt (.inl (Nat.lt_succ_self _))).trans HA.out.bx) 1 _ rfl; have q29 := box_frozen ((hch9.block px HA.out.plt (.inl (Nat.lt_succ_self _))).trans HA.out.bx) 1; have yx0 := box_cell HP9.out.bx 0 _ rfl; have yx1 := box_cell HP9.out.bx 1 _ rfl; clear hown hchg)
        have HQ2 := HP9
        have hLq : Hid ((L ++ [(e0, e1, e2)]).length ≤ t + 1) := Lib.hid (by simp at hlen ⊢; omega)
        have hnq : (L ++ [(e0, e1, e2)]).length = L.length + 1 := by simp
        clear HP9 HA q19 q29 yx0 yx1 kx0 kx1 ke0 ke1 ke2 kg1 hch9
        generalize (w9.setCell ⟨px, 1, none⟩ (.slice a9 (L.length + 1) c9)) = wq at *
        generalize w9.heap.size = hq at *
        generalize (L ++ [(e0, e1, e2)]) = Lq at *
        generalize L.length + 1 = nq at *
        generalize a9 = av at *
        generalize c9 = cv at *
        obtain ⟨ok, hok⟩ : ∃ ok, graphOk (m, Lq) = ok := ⟨_, rfl⟩
        have CV := Lib.hid (HVA.out wq (.slice av nq cv) Lq HQ2.out.ho.rd)
        rw [hok] at CV
        clear hok
        refine CV.out.mono ?_
        rintro e w10 ⟨rfl, hb⟩
        have HQ3 := Lib.hid (HQ2.out.keep hb)
        have hlo := HQ3.out.lo; have htop := HQ3.out.top
        clear HQ2 CV hb HVA
        have kr0 := box_cell HQ3.out.br 0 (.int .i64 0) rfl; have kr1 := box_cell HQ3.out.br 1 (.slice none 0 0) rfl; have fr0 := box_frozen HQ3.out.br 0; have fr1 := box_frozen HQ3.out.br 1
        have kx0 := box_cell HQ3.out.bx 0 (.int .i64 m) rfl; have kx1 := box_cell HQ3.out.bx 1 (.slice av nq cv) rfl
        have kg0 := box_cell HQ3.out.bg 0 (.int .i64 m) rfl; have kg1 := box_cell HQ3.out.bg 1 (.slice p1 t c1) rfl
        cases ok
        rotate_left
        · go_wp2_with fail
          have hK : Chg (w.heap.size + 1 + 1) (w.heap.size + 1 + 1 + 1) w10 ((w10.setCell ⟨w.heap.size + 1 + 1, 0, none⟩ (.int .i64 m)).setCell ⟨w.heap.size + 1 + 1, 1, none⟩ (.slice av nq cv)) := (Chg.setCell (p := ⟨w.heap.size + 1 + 1, 0, none⟩) (Nat.le_refl _) (Nat.lt_succ_self _) _).trans (Chg.setCell (p := ⟨w.heap.size + 1 + 1, 1, none⟩) (Nat.le_refl _) (Nat.lt_succ_self _) _)
          have HO9 := (HQ3.out.ho.chg hK (.inl (by omega))).mono (show w.heap.size ≤ px + 1 by omega) (show hq ≤ ((w10.setCell ⟨w.heap.size + 1 + 1, 0, none⟩ (.int .i64 m)).setCell ⟨w.heap.size + 1 + 1, 1, none⟩ (.slice av nq cv)).heap.size by simp; omega)
          refine bodyPost_ret (v := .tuple #[.agg #[.int .i64 m, .slice av nq cv], .bool true]) (by simp [results, Tryd.results33, go_sem, kr0, kr1]) rfl ⟨_, _, (m, Lq), rfl, ⟨_, rfl, by subst hnq; exact HO9⟩, by have := hLq.out; simp only; omega, .inl rfl, hK.below HQ3.out.hb (by omega)⟩
        · go_wp2_with fail
          have hgq : w.heap.size < w10.heap.size := box_lt HQ3.out.bg
          have hrq : w.heap.size + 1 + 1 < w10.heap.size := box_lt HQ3.out.br
          have HRD : Hid (Rd w10 3 (.slice p1 t c1) t (tris ys)) := Lib.hid (by have := HQ3.out.hr.rd; rw [HL.out] at this; exact this)
          clear kr0 kr1 fr0 fr1 kx0 kx1
          refine wp_region_relA (fun x => { tmps := #[x 0, x 1, .pointer (some ⟨w.heap.size, 0, none⟩), x 3, .pointer (some ⟨w.heap.size + 1 + 1, 0, none⟩), x 5, x 6, x 7, x 8, x 9, x 10, x 11, x 12, x 13, x 14, x 15, x 16, x 17, x 18, x 19, x 20, x 21, x 22, x 23, x 24, x 25, x 26, x 27, x 28, x 29, x 30, x 31, x 32, x 33, x 34, x 35, x 36, x 37, x 38, x 39, x 40, x 41, x 42, x 43, x 44, x 45, x 46, x 47, x 48, x 49, x 50, x 51, x 52, x 53, x 54, x 55, x 56, x 57, x 58, x 59, x 60, x 61, x 62, x 63, x 64, x 65, x 66, x 67, x 68, x 69, x 70, x 71, x 72, x 73, x 74, x 75, x 76, x 77, x 78, x 79, x 80, x 81], defers := [] })
            (fun _ L wx => (L 7 = false → Below w10.heap.size w10 wx) ∧ (L 7 = true → (∀ i, i < 7 → L i = true) ∧ ∃ aa cc, Ow w10.heap.size wx.heap.size wx 34 3 (.slice aa t cc) t (tris ys) ∧ wx.heap[w.heap.size + 1 + 1]? = some (.cells #[.int .i64 m, .slice aa t cc] 25 (0, 0)) ∧ Below w.heap.size w wx)) (fun _ wx wy => Below wx.heap.size wx wy ∨ Chg (w.heap.size + 1 + 1) (w.heap.size + 1 + 1 + 1) wx wy ∧ wx.heap.size ≤ wy.heap.size)
            (Tl [cst (.pointer (some ⟨w.heap.size, 0, none⟩)), cst (.int .i64 m), (fun v _ => ∃ b, v = .slice (some ⟨b, 0, none⟩) 0 0), cst (.pointer (some ⟨w.heap.size, 1, none⟩)), cst (.slice p1 t c1), (fun v wx => ∃ aa cc, v = .slice aa t cc ∧ Ow w10.heap.size wx.heap.size wx 34 3 (.slice aa t cc) t (tris ys)), (fun v wx => ∃ aa cc, v = .agg #[.int .i64 m, .slice aa t cc] ∧ Ow w10.heap.size wx.heap.size wx 34 3 (.slice aa t cc) t (tris ys)), tru, cst (.bool false)]) rfl
            (by kernel_rfl) (by kernel_rfl) (by kernel_rfl) ?hT0 (fun _ _ => .inl (Below.refl _ _)) ⟨fun _ => (Below.refl _ _).drew, fun h => by cases h⟩ ?hput ?hop ?hend
          case hT0 =>
            intro i j v wx wy hij hr hv
            have own : ∀ aa cc, Ow w10.heap.size wx.heap.size wx 34 3 (.slice aa t cc) t (tris ys) → Ow w10.heap.size wy.heap.size wy 34 3 (.slice aa t cc) t (tris ys) := by
              intro aa cc ho
              rcases hr with hr | hr
              · exact (ho.keep hr).mono (Nat.le_refl _) hr.size
              · exact (ho.chg hr.1 (.inl (by omega))).mono (Nat.le_refl _) hr.2
            match i with
            | 0 | 1 | 2 | 3 | 4 | 7 | 8 => exact hv
            | 5 => obtain ⟨aa, cc, h1, h2⟩ := hv; exact ⟨aa, cc, h1, own aa cc h2⟩
            | 6 => obtain ⟨aa, cc, h1, h2⟩ := hv; exact ⟨aa, cc, h1, own aa cc h2⟩
            | (n + 9) => trivial
          case hput =>
            refine ⟨?_, ?_, ?_, ?_, ?_, ?_, ?_, ?_, ?_, trivial⟩
            all_goals first | exact fun x v => rfl | exact trivial
          case hop =>
            refine ⟨?_, ?_, ?_, ?_, ?_, ?_, ?_, ?_, ?_, trivial⟩
            · refine OpRel.plain rfl fun n L x wx K hn hL hG hdep hK => ?_
              have hL7 : L 7 = false := by cases h7 : L 7 with | false => rfl | true => rw [(hG.2 h7).1 0 (by decide)] at hL; cases hL
              have hP := hG.1 hL7
              clear hdep; go_simp
              exact hK _ _ ⟨fun _ => hP, fun h => by simp [setL, hL7] at h⟩ (.inl (Below.refl _ _)) rfl
            · refine OpRel.plain rfl fun n L x wx K hn hL hG hdep hK => ?_
              have h74 : x 74 = _ := (hdep 0 rfl).2 _ rfl
              have hL7 : L 7 = false := by cases h7 : L 7 with | false => rfl | true => rw [(hG.2 h7).1 1 (by decide)] at hL; cases hL
              have hP := hG.1 hL7
              have z := (hP.cell (p := ⟨w.heap.size, 0, none⟩) hgq).trans kg0
              clear hdep; simp only [h74] at hK; go_simp
              exact hK _ _ ⟨fun _ => hP, fun h => by simp [setL, hL7] at h⟩ (.inl (Below.refl _ _)) rfl
            · refine OpRel.plain rfl fun n L x wx K hn hL hG hdep hK => ?_
              have hL7 : L 7 = false := by cases h7 : L 7 with | false => rfl | true => rw [(hG.2 h7).1 2 (by decide)] at hL; cases hL
              have hP := hG.1 hL7
              clear hdep; go_simp
              (have hb := (Below.refl wx.heap.size wx).alloc (Nat.le_refl _) (.cells #[] 34); exact hK _ _ ⟨fun _ => hP.trans (hb.mono hP.size), fun h => by simp [setL, hL7] at h⟩ (.inl hb) ⟨_, rfl⟩)
            · refine OpRel.plain rfl fun n L x wx K hn hL hG hdep hK => ?_
              have hL7 : L 7 = false := by cases h7 : L 7 with | false => rfl | true => rw [(hG.2 h7).1 3 (by decide)] at hL; cases hL
              have hP := hG.1 hL7
              clear hdep; go_simp
              exact hK _ _ ⟨fun _ => hP, fun h => by simp [setL, hL7] at h⟩ (.inl (Below.refl _ _)) rfl
            · refine OpRel.plain rfl fun n L x wx K hn hL hG hdep hK => ?_
              have h77 : x 77 = _ := (hdep 3 rfl).2 _ rfl
              have hL7 : L 7 = false := by cases h7 : L 7 with | false => rfl | true => rw [(hG.2 h7).1 4 (by decide)] at hL; cases hL
              have hP := hG.1 hL7
              have z := (hP.cell (p := ⟨w.heap.size, 1, none⟩) hgq).trans kg1
              clear hdep; simp only [h77] at hK; go_simp
              exact hK _ _ ⟨fun _ => hP, fun h => by simp [setL, hL7] at h⟩ (.inl (Below.refl _ _)) rfl
            · refine OpRel.plain rfl fun n L x wx K hn hL hG hdep hK => ?_
              have hL7 : L 7 = false := by cases h7 : L 7 with | false => rfl | true => rw [(hG.2 h7).1 5 (by decide)] at hL; cases hL
              have hP := hG.1 hL7
              obtain ⟨bb, h76⟩ := (hdep 2 rfl).2 _ rfl
              have h78 : x 78 = _ := (hdep 4 rfl).2 _ rfl
              clear hdep
              refine wp_appendOw _ _ 23 34 rfl (.agg #[.int .i64 0, .int .i64 0, .int .i64 0]) 3 24 Tryd.underlying23 infoEdge rfl (by decide) (by decide) wx.heap.size wx.heap.size (.slice (some ⟨bb, 0, none⟩) 0 0) 0 [] (Ow.nil _ _ _ _ _ _) h76 (.slice p1 t c1) t (tris ys) (HRD.out.keep hP) h78 (tris_one _) (by omega) (by omega) (Nat.le_refl _) ?_
              intro v' w9' hown hbel
              obtain ⟨aa, cc, rfl, -, -⟩ := Rd.form hown.rd
              simp only [Nat.zero_add, List.nil_append] at hown
              exact hK _ _ ⟨fun _ => hP.trans (hbel.mono hP.size), fun h => by simp [setL, hL7] at h⟩ (.inl hbel) ⟨aa, cc, by rw [Nat.zero_add], hown.mono hP.size (Nat.le_refl _)⟩
            · refine OpRel.plain rfl fun n L x wx K hn hL hG hdep hK => ?_
              have h75 : x 75 = _ := (hdep 1 rfl).2 _ rfl
              have hL7 : L 7 = false := by cases h7 : L 7 with | false => rfl | true => rw [(hG.2 h7).1 6 (by decide)] at hL; cases hL
              have hP := hG.1 hL7
              obtain ⟨aa, cc, h79, hown⟩ := (hdep 5 rfl).2 _ rfl
              simp only [h79] at hK
              clear hdep; simp only [h75] at hK; go_simp
              exact hK _ _ ⟨fun _ => hP, fun h => by simp [setL, hL7] at h⟩ (.inl (Below.refl _ _)) ⟨aa, cc, rfl, hown⟩
            · refine OpRel.plain rfl fun n L x wx K hn hL hG hdep hK => ?_
              have hA : ∀ i, i < 7 → L i = true := fun i hi => match i, hi with | 0, _ => (hdep 0 rfl).1 | 1, _ => (hdep 1 rfl).1 | 2, _ => (hdep 2 rfl).1 | 3, _ => (hdep 3 rfl).1 | 4, _ => (hdep 4 rfl).1 | 5, _ => (hdep 5 rfl).1 | 6, _ => (hdep 6 rfl).1
              have hP := hG.1 hL
              obtain ⟨aa, cc, h80, hown⟩ := (hdep 6 rfl).2 _ rfl
              clear hdep
              simp only [h80] at hK
              have zb := (hP.block _ hrq).trans HQ3.out.br
              have z0 := box_cell zb 0 (.int .i64 0) rfl; have z1 := box_cell zb 1 (.slice none 0 0) rfl; have z2 := box_frozen zb 0; have z3 := box_frozen zb 1
              go_simp
              have hK2 : Chg (w.heap.size + 1 + 1) (w.heap.size + 1 + 1 + 1) wx ((wx.setCell ⟨w.heap.size + 1 + 1, 0, none⟩ (.int .i64 m)).setCell ⟨w.heap.size + 1 + 1, 1, none⟩ (.slice aa t cc)) := (Chg.setCell (p := ⟨w.heap.size + 1 + 1, 0, none⟩) (Nat.le_refl _) (Nat.lt_succ_self _) _).trans (Chg.setCell (p := ⟨w.heap.size + 1 + 1, 1, none⟩) (Nat.le_refl _) (Nat.lt_succ_self _) _)
              have hs2 : wx.heap.size ≤ ((wx.setCell ⟨w.heap.size + 1 + 1, 0, none⟩ (.int .i64 m)).setCell ⟨w.heap.size + 1 + 1, 1, none⟩ (.slice aa t cc)).heap.size := by simp
              have hbx := box_set (box_set zb 0 (.int .i64 m)) 1 (.slice aa t cc)
              exact hK (.bool false) _ ⟨fun h => by simp [setL] at h, fun _ => ⟨fun i hi => by by_cases h7 : i = 7; subst h7; rfl; simp only [setL, h7, if_false]; exact hA i hi, aa, cc, (hown.chg hK2 (.inl (by omega))).mono (Nat.le_refl _) hs2, by simpa using hbx, hK2.below (HQ3.out.hb.trans (hP.mono (by omega))) (by omega)⟩⟩ (.inr ⟨hK2, hs2⟩) trivial
            · refine OpRel.plain rfl fun n L x wx K hn hL hG hdep hK => ?_
              have hG1 := hG.1; have hG2 := hG.2
              clear hdep; go_simp
              exact hK _ _ ⟨fun h => hG1 (by simpa [setL] using h), fun h => by have h9 := hG2 (by simpa [setL] using h); exact ⟨fun i hi => by by_cases h8 : i = 8; subst h8; rfl; simp only [setL, h8, if_false]; exact h9.1 i hi, h9.2⟩⟩ (.inl (Below.refl _ _)) rfl
          case hend =>
            intro n' L x wx _ hG hh
            have h5 : x 5 = _ := (hh 8 (by decide)).2 _ rfl
            obtain ⟨-, aa, cc, hown, hbx, hbl⟩ := hG.2 (hh 7 (by decide)).1
            clear hh hG
            simp only [h5]
            have y0 := box_cell hbx 0 (.int .i64 m) rfl; have y1 := box_cell hbx 1 (.slice aa t cc) rfl
            have HOW := Lib.hid hown; have HBL := Lib.hid hbl; clear hown hbl hbx
            go_wp2_with fail
            refine bodyPost_ret (v := .tuple #[.agg #[.int .i64 m, .slice aa t cc], .bool false]) (by simp [results, Tryd.results33, go_sem, y0, y1]) rfl ⟨_, _, (m, ys), rfl, ⟨_, rfl, by have h9 := HOW.out.mono (show w.heap.size ≤ w10.heap.size by omega) (Nat.le_refl _); show Ow _ _ _ _ _ _ ys.length (tris ys); rw [HL.out]; exact h9⟩, by simp only; rw [HL.out]; omega, .inl rfl, HBL.out⟩
      · have HQ2 := HA
        have hLq : Hid (L.length ≤ t + 1) := Lib.hid hL1
        clear HA hlen hL1
        generalize hnq : L.length = nq at *
        go_wp2_with fail
        generalize L = Lq at *
        generalize wr = wq at *
        generalize hi = hq at *
        obtain ⟨ok, hok⟩ : ∃ ok, graphOk (m, Lq) = ok := ⟨_, rfl⟩
        have CV := Lib.hid (HVA.out wq (.slice av nq cv) Lq HQ2.out.ho.rd)
        rw [hok] at CV
        clear hok
        refine CV.out.mono ?_
        rintro e w10 ⟨rfl, hb⟩
        have HQ3 := Lib.hid (HQ2.out.keep hb)
        have hlo := HQ3.out.lo; have htop := HQ3.out.top
        clear HQ2 CV hb HVA
        have kr0 := box_cell HQ3.out.br 0 (.int .i64 0) rfl; have kr1 := box_cell HQ3.out.br 1 (.slice none 0 0) rfl; have fr0 := box_frozen HQ3.out.br 0; have fr1 := box_frozen HQ3.out.br 1
        have kx0 := box_cell HQ3.out.bx 0 (.int .i64 m) rfl; have kx1 := box_cell HQ3.out.bx 1 (.slice av nq cv) rfl
        have kg0 := box_cell HQ3.out.bg 0 (.int .i64 m) rfl; have kg1 := box_cell HQ3.out.bg 1 (.slice p1 t c1) rfl
        cases ok
        rotate_left
        · go_wp2_with fail
          have hK : Chg (w.heap.size + 1 + 1) (w.heap.size + 1 + 1 + 1) w10 ((w10.setCell ⟨w.heap.size + 1 + 1, 0, none⟩ (.int .i64 m)).setCell ⟨w.heap.size + 1 + 1, 1, none⟩ (.slice av nq cv)) := (Chg.setCell (p := ⟨w.heap.size + 1 + 1, 0, none⟩) (Nat.le_refl _) (Nat.lt_succ_self _) _).trans (Chg.setCell (p := ⟨w.heap.size + 1 + 1, 1, none⟩) (Nat.le_refl _) (Nat.lt_succ_self _) _)
          have HO9 := (HQ3.out.ho.chg hK (.inl (by omega))).mono (show w.heap.size ≤ px + 1 by omega) (show hq ≤ ((w10.setCell ⟨w.heap.size + 1 + 1, 0, none⟩ (.int .i64 m)).setCell ⟨w.heap.size + 1 + 1, 1, none⟩ (.slice av nq cv)).heap.size by simp; omega)
          refine bodyPost_ret (v := .tuple #[.agg #[.int .i64 m, .slice av nq cv], .bool true]) (by simp [results, Tryd.results33, go_sem, kr0, kr1]) rfl ⟨_, _, (m, Lq), rfl, ⟨_, rfl, by subst hnq; exact HO9⟩, by have := hLq.out; simp only; omega, .inl rfl, hK.below HQ3.out.hb (by omega)⟩
        · go_wp2_with fail
          have hgq : w.heap.size < w10.heap.size := box_lt HQ3.out.bg
          have hrq : w.heap.size + 1 + 1 < w10.heap.size := box_lt HQ3.out.br
          have HRD : Hid (Rd w10 3 (.slice p1 t c1) t (tris ys)) := Lib.hid (by have := HQ3.out.hr.rd; rw [HL.out] at this; exact this)
          clear kr0 kr1 fr0 fr1 kx0 kx1
          refine wp_region_relA (fun x => { tmps := #[x 0, x 1, .pointer (some ⟨w.heap.size, 0, none⟩), x 3, .pointer (some ⟨w.heap.size + 1 + 1, 0, none⟩), x 5, x 6, x 7, x 8, x 9, x 10, x 11, x 12, x 13, x 14, x 15, x 16, x 17, x 18, x 19, x 20, x 21, x 22, x 23, x 24, x 25, x 26, x 27, x 28, x 29, x 30, x 31, x 32, x 33, x 34, x 35, x 36, x 37, x 38, x 39, x 40, x 41, x 42, x 43, x 44, x 45, x 46, x 47, x 48, x 49, x 50, x 51, x 52, x 53, x 54, x 55, x 56, x 57, x 58, x 59, x 60, x 61, x 62, x 63, x 64, x 65, x 66, x 67, x 68, x 69, x 70, x 71, x 72, x 73, x 74, x 75, x 76, x 77, x 78, x 79, x 80, x 81], defers := [] })
            (fun _ L wx => (L 7 = false → Below w10.heap.size w10 wx) ∧ (L 7 = true → (∀ i, i < 7 → L i = true) ∧ ∃ aa cc, Ow w10.heap.size wx.heap.size wx 34 3 (.slice aa t cc) t (tris ys) ∧ wx.heap[w.heap.size + 1 + 1]? = some (.cells #[.int .i64 m, .slice aa t cc] 25 (0, 0)) ∧ Below w.heap.size w wx)) (fun _ wx wy => Below wx.heap.size wx wy ∨ Chg (w.heap.size + 1 + 1) (w.heap.size + 1 + 1 + 1) wx wy ∧ wx.heap.size ≤ wy.heap.size)
            (Tl [cst (.pointer (some ⟨w.heap.size, 0, none⟩)), cst (.int .i64 m), (fun v _ => ∃ b, v = .slice (some ⟨b, 0, none⟩) 0 0), cst (.pointer (some ⟨w.heap.size, 1, none⟩)), cst (.slice p1 t c1), (fun v wx => ∃ aa cc, v = .slice aa t cc ∧ Ow w10.heap.size wx.heap.size wx 34 3 (.slice aa t cc) t (tris ys)), (fun v wx => ∃ aa cc, v = .agg #[.int .i64 m, .slice aa t cc] ∧ Ow w10.heap.size wx.heap.size wx 34 3 (.slice aa t cc) t (tris ys)), tru, cst (.bool false)]) rfl
            (by kernel_rfl) (by kernel_rfl) (by kernel_rfl) ?hT0 (fun _ _ => .inl (Below.refl _ _)) ⟨fun _ => (Below.refl _ _).drew, fun h => by cases h⟩ ?hput ?hop ?hend
          case hT0 =>
            intro i j v wx wy hij hr hv
            have own : ∀ aa cc, Ow w10.heap.size wx.heap.size wx 34 3 (.slice aa t cc) t (tris ys) → Ow w10.heap.size wy.heap.size wy 34 3 (.slice aa t cc) t (tris ys) := by
              intro aa cc ho
              rcases hr with hr | hr
              · exact (ho.keep hr).mono (Nat.le_refl _) hr.size
              · exact (ho.chg hr.1 (.inl (by omega))).mono (Nat.le_refl _) hr.2
            match i with
            | 0 | 1 | 2 | 3 | 4 | 7 | 8 => exact hv
            | 5 => obtain ⟨aa, cc, h1, h2⟩ := hv; exact ⟨aa, cc, h1, own aa cc h2⟩
            | 6 => obtain ⟨aa, cc, h1, h2⟩ := hv; exact ⟨aa, cc, h1, own aa cc h2⟩
            | (n + 9) => trivial
          case hput =>
            refine ⟨?_, ?_, ?_, ?_, ?_, ?_, ?_, ?_, ?_, trivial⟩
            all_goals first | exact fun x v => rfl | exact trivial
          case hop =>
            refine ⟨?_, ?_, ?_, ?_, ?_, ?_, ?_, ?_, ?_, trivial⟩
            · refine OpRel.plain rfl fun n L x wx K hn hL hG hdep hK => ?_
              have hL7 : L 7 = false := by cases h7 : L 7 with | false => rfl | true => rw [(hG.2 h7).1 0 (by decide)] at hL; cases hL
              have hP := hG.1 hL7
              clear hdep; go_simp
              exact hK _ _ ⟨fun _ => hP, fun h => by simp [setL, hL7] at h⟩ (.inl (Below.refl _ _)) rfl
            · refine OpRel.plain rfl fun n L x wx K hn hL hG hdep hK => ?_
              have h74 : x 74 = _ := (hdep 0 rfl).2 _ rfl
              have hL7 : L 7 = false := by cases h7 : L 7 with | false => rfl | true => rw [(hG.2 h7).1 1 (by decide)] at hL; cases hL
              have hP := hG.1 hL7
              have z := (hP.cell (p := ⟨w.heap.size, 0, none⟩) hgq).trans kg0
              clear hdep; simp only [h74] at hK; go_simp
              exact hK _ _ ⟨fun _ => hP, fun h => by simp [setL, hL7] at h⟩ (.inl (Below.refl _ _)) rfl
            · refine OpRel.plain rfl fun n L x wx K hn hL hG hdep hK => ?_
              have hL7 : L 7 = false := by cases h7 : L 7 with | false => rfl | true => rw [(hG.2 h7).1 2 (by decide)] at hL; cases hL
              have hP := hG.1 hL7
              clear hdep; go_simp
              (have hb := (Below.refl wx.heap.size wx).alloc (Nat.le_refl _) (.cells #[] 34); exact hK _ _ ⟨fun _ => hP.trans (hb.mono hP.size), fun h => by simp [setL, hL7] at h⟩ (.inl hb) ⟨_, rfl⟩)
            · refine OpRel.plain rfl fun n L x wx K hn hL hG hdep hK => ?_
              have hL7 : L 7 = false := by cases h7 : L 7 with | false => rfl | true => rw [(hG.2 h7).1 3 (by decide)] at hL; cases hL
              have hP := hG.1 hL7
              clear hdep; go_simp
              exact hK _ _ ⟨fun _ => hP, fun h => by simp [setL, hL7] at h⟩ (.inl (Below.refl _ _)) rfl
            · refine OpRel.plain rfl fun n L x wx K hn hL hG hdep hK => ?_
              have h77 : x 77 = _ := (hdep 3 rfl).2 _ rfl
              have hL7 : L 7 = false := by cases h7 : L 7 with | false => rfl | true => rw [(hG.2 h7).1 4 (by decide)] at hL; cases hL
              have hP := hG.1 hL7
              have z := (hP.cell (p := ⟨w.heap.size, 1, none⟩) hgq).trans kg1
              clear hdep; simp only [h77] at hK; go_simp
              exact hK _ _ ⟨fun _ => hP, fun h => by simp [setL, hL7] at h⟩ (.inl (Below.refl _ _)) rfl
            · refine OpRel.plain rfl fun n L x wx K hn hL hG hdep hK => ?_
              have hL7 : L 7 = false := by cases h7 : L 7 with | false => rfl | true => rw [(hG.2 h7).1 5 (by decide)] at hL; cases hL
              have hP := hG.1 hL7
              obtain ⟨bb, h76⟩ := (hdep 2 rfl).2 _ rfl
              have h78 : x 78 = _ := (hdep 4 rfl).2 _ rfl
              clear hdep
              refine wp_appendOw _ _ 23 34 rfl (.agg #[.int .i64 0, .int .i64 0, .int .i64 0]) 3 24 Tryd.underlying23 infoEdge rfl (by decide) (by decide) wx.heap.size wx.heap.size (.slice (some ⟨bb, 0, none⟩) 0 0) 0 [] (Ow.nil _ _ _ _ _ _) h76 (.slice p1 t c1) t (tris ys) (HRD.out.keep hP) h78 (tris_one _) (by omega) (by omega) (Nat.le_refl _) ?_
              intro v' w9' hown hbel
              obtain ⟨aa, cc, rfl, -, -⟩ := Rd.form hown.rd
              simp only [Nat.zero_add, List.nil_append] at hown
              exact hK _ _ ⟨fun _ => hP.trans (hbel.mono hP.size), fun h => by simp [setL, hL7] at h⟩ (.inl hbel) ⟨aa, cc, by rw [Nat.zero_add], hown.mono hP.size (Nat.le_refl _)⟩
            · refine OpRel.plain rfl fun n L x wx K hn hL hG hdep hK => ?_
              have h75 : x 75 = _ := (hdep 1 rfl).2 _ rfl
              have hL7 : L 7 = false := by cases h7 : L 7 with | false => rfl | true => rw [(hG.2 h7).1 6 (by decide)] at hL; cases hL
              have hP := hG.1 hL7
              obtain ⟨aa, cc, h79, hown⟩ := (hdep 5 rfl).2 _ rfl
              simp only [h79] at hK
              clear hdep; simp only [h75] at hK; go_simp
              exact hK _ _ ⟨fun _ => hP, fun h => by simp [setL, hL7] at h⟩ (.inl (Below.refl _ _)) ⟨aa, cc, rfl, hown⟩
            · refine OpRel.plain rfl fun n L x wx K hn hL hG hdep hK => ?_
              have hA : ∀ i, i < 7 → L i = true := fun i hi => match i, hi with | 0, _ => (hdep 0 rfl).1 | 1, _ => (hdep 1 rfl).1 | 2, _ => (hdep 2 rfl).1 | 3, _ => (hdep 3 rfl).1 | 4, _ => (hdep 4 rfl).1 | 5, _ => (hdep 5 rfl).1 | 6, _ => (hdep 6 rfl).1
              have hP := hG.1 hL
              obtain ⟨aa, cc, h80, hown⟩ := (hdep 6 rfl).2 _ rfl
              clear hdep
              simp only [h80] at hK
              have zb := (hP.block _ hrq).trans HQ3.out.br
              have z0 := box_cell zb 0 (.int .i64 0) rfl; have z1 := box_cell zb 1 (.slice none 0 0) rfl; have z2 := box_frozen zb 0; have z3 := box_frozen zb 1
              go_simp
              have hK2 : Chg (w.heap.size + 1 + 1) (w.heap.size + 1 + 1 + 1) wx ((wx.setCell ⟨w.heap.size + 1 + 1, 0, none⟩ (.int .i64 m)).setCell ⟨w.heap.size + 1 + 1, 1, none⟩ (.slice aa t cc)) := (Chg.setCell (p := ⟨w.heap.size + 1 + 1, 0, none⟩) (Nat.le_refl _) (Nat.lt_succ_self _) _).trans (Chg.setCell (p := ⟨w.heap.size + 1 + 1, 1, none⟩) (Nat.le_refl _) (Nat.lt_succ_self _) _)
              have hs2 : wx.heap.size ≤ ((wx.setCell ⟨w.heap.size + 1 + 1, 0, none⟩ (.int .i64 m)).setCell ⟨w.heap.size + 1 + 1, 1, none⟩ (.slice aa t cc)).heap.size := by simp
              have hbx := box_set (box_set zb 0 (.int .i64 m)) 1 (.slice aa t cc)
              exact hK (.bool false) _ ⟨fun h => by simp [setL] at h, fun _ => ⟨fun i hi => by by_cases h7 : i = 7; subst h7; rfl; simp only [setL, h7, if_false]; exact hA i hi, aa, cc, (hown.chg hK2 (.inl (by omega))).mono (Nat.le_refl _) hs2, by simpa using hbx, hK2.below (HQ3.out.hb.trans (hP.mono (by omega))) (by omega)⟩⟩ (.inr ⟨hK2, hs2⟩) trivial
            · refine OpRel.plain rfl fun n L x wx K hn hL hG hdep hK => ?_
              have hG1 := hG.1; have hG2 := hG.2
              clear hdep; go_simp
              exact hK _ _ ⟨fun h => hG1 (by simpa [setL] using h), fun h => by have h9 := hG2 (by simpa [setL] using h); exact ⟨fun i hi => by by_cases h8 : i = 8; subst h8; rfl; simp only [setL, h8, if_false]; exact h9.1 i hi, h9.2⟩⟩ (.inl (Below.refl _ _)) rfl
          case hend =>
            intro n' L x wx _ hG hh
            have h5 : x 5 = _ := (hh 8 (by decide)).2 _ rfl
            obtain ⟨-, aa, cc, hown, hbx, hbl⟩ := hG.2 (hh 7 (by decide)).1
            clear hh hG
            simp only [h5]
            have y0 := box_cell hbx 0 (.int .i64 m) rfl; have y1 := box_cell hbx 1 (.slice aa t cc) rfl
            have HOW := Lib.hid hown; have HBL := Lib.hid hbl; clear hown hbl hbx
            go_wp2_with fail
            refine bodyPost_ret (v := .tuple #[.agg #[.int .i64 m, .slice aa t cc], .bool false]) (by simp [results, Tryd.results33, go_sem, y0, y1]) rfl ⟨_, _, (m, ys), rfl, ⟨_, rfl, by have h9 := HOW.out.mono (show w.heap.size ≤ w10.heap.size by omega) (Nat.le_refl _); show Ow _ _ _ _ _ _ ys.length (tris ys); rw [HL.out]; exact h9⟩, by simp only; rw [HL.out]; omega, .inl rfl, HBL.out⟩
end Go.Proofs.YtgdggkhdollieaaDoor
