/-
  What is drawn: a disk.
-/
import Derived.Test.YtdflpildopefaaaDrawG
import Derived.Test.YtdflpildopefaaaDisk
import Derived.Test.YtdflpildopefaaaIntSS
import Derived.Test.YtdflpildopefaaaRel
namespace Go.Proofs.Ytdflpildopefaaa
open Go.RowKit
set_option linter.unusedVariables false

/-- A disk was drawn. -/
def DrewDisk (W : World) (sv : Value) (bs : List Int) (r : Nat) (lim : Int) (w : World) (e : Ending) (w' : World) : Prop :=
  ∃ v d, e = .returned v ∧ (∀ w'', Chg r (r + 1) w' w'' → RdDisk w'' v d) ∧ d.1.length ≤ 2500 ∧ d.2.length ≤ 2500 ∧ Drw W sv bs r lim w' ∧ Chg r (r + 1) w w'

/-- What stands while one byte more is put behind Fresh. -/
structure DG (W : World) (sv : Value) (bs : List Int) (r : Nat) (lim : Int) (w0 : World) (lo hi : Nat) (sv0 : Value) (ss : List Int) (base : Nat) (fv : Value) (ys : List Int) (B S : Nat) (n : Nat) (L : Nat → Bool) (w : World) : Prop where
  drw : Drw W sv bs r (lim + (n : Int)) w
  chg : Chg r (r + 1) w0 w
  safe : OwIntS lo hi w sv0 ss
  size : S ≤ w.heap.size
  fresh : L 8 = false → w.ownsRow base 3 1 fv ys.length (ints ys)
  box : L 10 = false → w.heap[B]? = some (.cells #[sv0, fv] 25 (0, 0))
  done : L 10 = true → ∃ v z, w.heap[B]? = some (.cells #[sv0, v] 25 (0, 0)) ∧ w.ownsRow base 3 1 v (ys.length + 1) (ints (ys ++ [z]))
  ord : L 10 = true → L 8 = true ∧ L 1 = true
  res : w.heap[w0.heap.size]? = some (.cells #[.slice none 0 0, .slice none 0 0] 25 (0, 0))
/-- Where all this lies. -/
structure DP (r : Nat) (w0 : World) (lo hi base : Nat) (fv : Value) (B S : Nat) : Prop where
  r0 : r < w0.heap.size
  l0 : w0.heap.size < lo
  b0 : w0.heap.size < base
  B0 : w0.heap.size < B
  BS : B < S
  bS : base ≤ S
  Bl : B < lo ∨ hi ≤ B
  fl : ∀ g, fv.ownBlock = some g → base ≤ g ∧ g < S ∧ (g < lo ∨ hi ≤ g)
theorem own_ne {w : World} {base B n : Nat} {v : Value} {cs : List Value} {ds : Array Value} (h : w.ownsRow base 3 1 v n cs) (hb : w.heap[B]? = some (.cells ds 25 (0, 0))) : v.ownBlock ≠ some B := by
  rcases h.2 with ⟨rfl, _⟩ | ⟨g, cap, cur, rfl, _, hg, _⟩
  · simp [Value.ownBlock]
  · intro e
    obtain rfl : g = B := by simpa [Value.ownBlock] using e
    rw [hg] at hb; simp at hb
theorem own_chg1 {w w' : World} {base B n : Nat} {v : Value} {cs : List Value} (h : w.ownsRow base 3 1 v n cs) (hc : Chg B (B + 1) w w') (hne : v.ownBlock ≠ some B) : w'.ownsRow base 3 1 v n cs := by
  refine ⟨h.1, ?_⟩
  rcases h.2 with h2 | ⟨g, cap, cur, rfl, hb, hg, r⟩
  · exact .inl h2
  · refine .inr ⟨g, cap, cur, rfl, hb, ?_, r⟩
    have : g ≠ B := fun e => hne (by simp [Value.ownBlock, e])
    rw [hc.block g (box_lt hg) (by omega)]; exact hg
section
variable {W : World} {sv : Value} {bs : List Int} {r : Nat} {lim : Int} {w0 : World} {lo hi : Nat} {sv0 : Value} {ss : List Int} {base : Nat} {fv : Value} {ys : List Int} {B S n : Nat} {L : Nat → Bool} {w w' : World}
theorem DG.below (h : DG W sv bs r lim w0 lo hi sv0 ss base fv ys B S n L w) {i : Nat} (h8 : i ≠ 8) (h10 : i ≠ 10) (hb : Below w.heap.size w w') : DG W sv bs r lim w0 lo hi sv0 ss base fv ys B S (n + 1) (setL L i) w' := by
  have e8 : setL L i 8 = L 8 := by simp [setL, Ne.symm h8]
  have e10 : setL L i 10 = L 10 := by simp [setL, Ne.symm h10]
  refine ⟨(h.drw.keep hb).mono (by omega), h.chg.then (hb.mono h.chg.size), h.safe.keep hb, Nat.le_trans h.size hb.size, fun e => ?_, fun e => ?_, fun e => ?_, fun e => ?_, box_keep h.res hb⟩
  · rw [e8] at e; exact ownsRow_keep (h.fresh e) hb
  · rw [e10] at e; exact box_keep (h.box e) hb
  · rw [e10] at e; obtain ⟨v, z, h1, h2⟩ := h.done e; exact ⟨v, z, box_keep h1 hb, ownsRow_keep h2 hb⟩
  · rw [e10] at e; rw [e8]; exact ⟨(h.ord e).1, by simp [setL, (h.ord e).2]⟩
theorem DG.pick (hp : DP r w0 lo hi base fv B S) (h : DG W sv bs r lim w0 lo hi sv0 ss base fv ys B S n L w) {i : Nat} (h8 : i ≠ 8) (h10 : i ≠ 10) (hd : Drw W sv bs r (lim + (n : Int) + 1) w') (hg : Chg r (r + 1) w w') : DG W sv bs r lim w0 lo hi sv0 ss base fv ys B S (n + 1) (setL L i) w' := by
  have e8 : setL L i 8 = L 8 := by simp [setL, Ne.symm h8]
  have e10 : setL L i 10 = L 10 := by simp [setL, Ne.symm h10]
  have r0 := hp.r0; have l0 := hp.l0; have b0 := hp.b0; have B0 := hp.B0; have BS := hp.BS; have hs := h.size
  refine ⟨hd.mono (by omega), h.chg.trans hg, h.safe.chg hg (.inl (by omega)), Nat.le_trans h.size hg.size, fun e => ?_, fun e => ?_, fun e => ?_, fun e => ?_, (hg.block _ (box_lt h.res) (by omega)).trans h.res⟩
  · rw [e8] at e; exact ownsRow_chg (h.fresh e) hg (by omega)
  · rw [e10] at e; exact (hg.block B (by omega) (by omega)).trans (h.box e)
  · rw [e10] at e; obtain ⟨v, z, h1, h2⟩ := h.done e; exact ⟨v, z, (hg.block B (by omega) (by omega)).trans h1, ownsRow_chg h2 hg (by omega)⟩
  · rw [e10] at e; rw [e8]; exact ⟨(h.ord e).1, by simp [setL, (h.ord e).2]⟩
theorem DG.append (hp : DP r w0 lo hi base fv B S) (h : DG W sv bs r lim w0 lo hi sv0 ss base fv ys B S n L w) (hL : L 8 = false) (hg : w.grownBy w' fv.ownBlock) : DG W sv bs r lim w0 lo hi sv0 ss base fv ys B S (n + 1) (setL L 8) w' := by
  have e8 : setL L 8 8 = true := by simp [setL]
  have e10 : setL L 8 10 = L 10 := by simp [setL]
  have r0 := hp.r0; have l0 := hp.l0; have b0 := hp.b0; have B0 := hp.B0; have BS := hp.BS; have hs := h.size
  have h10 : L 10 = false := by
    cases e : L 10 with
    | false => rfl
    | true => rw [(h.ord e).1] at hL; cases hL
  have hcs := h.chg.size
  have bS := hp.bS
  have hb : Below base w w' := (Below.refl base w).grown hg (by omega) (fun k e => (hp.fl k e).1)
  have hne := own_ne (h.fresh hL) (h.box h10)
  have hbx : w'.heap[B]? = some (.cells #[sv0, fv] 25 (0, 0)) := (hg.block B (box_lt (h.box h10)) (Ne.symm hne)).trans (h.box h10)
  refine ⟨(h.drw.keepB hb (by omega)).mono (by omega), h.chg.then (hb.mono (by omega)), ?_, Nat.le_trans h.size hg.size, fun e => ?_, fun e => hbx, fun e => ?_, fun e => (by rw [e10, h10] at e; cases e), (hb.block _ b0).trans h.res⟩
  · cases hf : fv.ownBlock with
    | none =>
      rw [hf] at hg
      exact h.safe.keep ⟨hg.os, hg.tape, hg.output, hg.size, fun k hk => hg.block k hk (by simp)⟩
    | some g =>
      rw [hf] at hg
      have := (hp.fl g hf).2.2
      exact h.safe.chg (Chg.of_grown hg) (by omega)
  · rw [e8] at e; cases e
  · rw [e10, h10] at e; cases e
def appd (base B : Nat) (ys : List Int) : Value → World → Prop := fun v w => ∃ z : Int, w.ownsRow base 3 1 v (ys.length + 1) (ints (ys ++ [z])) ∧ v.ownBlock ≠ some B
theorem DG.store (hp : DP r w0 lo hi base fv B S) (h : DG W sv bs r lim w0 lo hi sv0 ss base fv ys B S n L w) (hL : L 10 = false) (h8 : L 8 = true) (hL1 : L 1 = true) {v : Value} (hv : appd base B ys v w) : DG W sv bs r lim w0 lo hi sv0 ss base fv ys B S (n + 1) (setL L 10) (w.setCell ⟨B, 1, none⟩ v) := by
  have e8 : setL L 10 8 = L 8 := by simp [setL]
  have e10 : setL L 10 10 = true := by simp [setL]
  have r0 := hp.r0; have B0 := hp.B0
  obtain ⟨z, h1, h2⟩ := hv
  have hc : Chg B (B + 1) w (w.setCell ⟨B, 1, none⟩ v) := Chg.setCell (p := ⟨B, 1, none⟩) (by simp) (by simp) v
  have hb : Below w0.heap.size w (w.setCell ⟨B, 1, none⟩ v) := (Below.refl _ _).setCell (p := ⟨B, 1, none⟩) (Nat.le_of_lt B0) v
  refine ⟨(h.drw.keepB hb r0).mono (by omega), h.chg.then hb, ?_, Nat.le_trans h.size hc.size, fun e => ?_, fun e => ?_, fun e => ?_, fun e => ?_, (hc.block _ (box_lt h.res) (by omega)).trans h.res⟩
  · have := hp.Bl; exact h.safe.chg hc (by omega)
  · rw [e8, h8] at e; cases e
  · rw [e10] at e; cases e
  · exact ⟨v, z, box_set (h.box hL) 1 v, own_chg1 h1 hc h2⟩
  · rw [e8]; exact ⟨h8, by simp [setL, hL1]⟩
end
/-- How the operations of that region change the world. -/
def RD (r B : Nat) (fv : Value) (j : Nat) (w w' : World) : Prop := if j = 4 then Chg r (r + 1) w w' else if j = 8 then w.grownBy w' fv.ownBlock else if j = 10 then Chg B (B + 1) w w' else Below w.heap.size w w'
theorem RD.refl (r B : Nat) (fv : Value) (j : Nat) (w : World) : RD r B fv j w w := by
  unfold RD
  split
  · exact Chg.refl _ _ _
  · split
    · exact ⟨rfl, rfl, rfl, Nat.le_refl _, fun _ _ _ => rfl⟩
    · split
      · exact Chg.refl _ _ _
      · exact Below.refl _ _
/-- A block that no operation changes. -/
theorem RD.block {r B S : Nat} {fv : Value} {j : Nat} {w w' : World} (h : RD r B fv j w w') (hr : r < S) (hB : B < S) (hf : ∀ g, fv.ownBlock = some g → g < S) {b : Nat} {o : Obj} (hb : w.heap[b]? = some o) (hbS : S ≤ b) : w'.heap[b]? = some o := by
  have hlt := box_lt hb
  unfold RD at h
  split at h
  · exact (h.block b hlt (by omega)).trans hb
  · split at h
    · exact (h.block b hlt (fun e => by have := hf b e.symm; omega)).trans hb
    · split at h
      · exact (h.block b hlt (by omega)).trans hb
      · exact (h.block b hlt).trans hb
theorem stab_all {r B base : Nat} {fv : Value} {ys : List Int} {ts : List (Value → World → Prop)} (h8 : ts[8]? = some (appd base B ys)) (hr : r < base)
    (h : ∀ i, i ≠ 8 → ∀ t, ts[i]? = some t → ∀ j, Stab (RD r B fv j) t) : ∀ i j v w w', i ≠ j → RD r B fv j w w' → Tl ts i v w → Tl ts i v w' := by
  intro i j v w w' hij hR ht
  by_cases hi8 : i = 8
  · subst hi8
    have e : Tl ts 8 = appd base B ys := by simp [Tl, h8]
    rw [e] at ht ⊢
    obtain ⟨z, h1, h2⟩ := ht
    refine ⟨z, ?_, h2⟩
    unfold RD at hR
    split at hR
    · exact ownsRow_chg h1 hR (by omega)
    · rw [if_neg (Ne.symm hij)] at hR
      split at hR
      · exact own_chg1 h1 hR h2
      · exact ownsRow_keep h1 hR
  · by_cases hi : i < ts.length
    · have e : Tl ts i = ts[i] := by simp [Tl, hi]
      rw [e] at ht ⊢
      exact h i hi8 _ (List.getElem?_eq_getElem hi) j v w w' hR ht
    · have e : Tl ts i = tru := by simp [Tl, List.getElem?_eq_none (Nat.le_of_not_lt hi)]
      rw [e]; trivial
theorem stabR_litI {r B S n : Nat} {fv : Value} {p : List Int → Prop} (hr : r < S) (hB : B < S) (hf : ∀ g, fv.ownBlock = some g → g < S) (j : Nat) : Stab (RD r B fv j) (litI (S - 1) n p) := fun v w w' hR ⟨b, cs, h1, h2, h3, h4, h5⟩ =>
  ⟨b, cs, h1, hR.block hr hB hf h2 (by omega), h3, h4, h5⟩
theorem stabR_litA {r B S n : Nat} {fv : Value} {p : List Int → Prop} (hr : r < S) (hB : B < S) (hf : ∀ g, fv.ownBlock = some g → g < S) (j : Nat) : Stab (RD r B fv j) (litA (S - 1) n p) := fun v w w' hR ⟨b, i, cs, h0, h1, h2, h3, h4, h5⟩ =>
  ⟨b, i, cs, h0, h1, hR.block hr hB hf h2 (by omega), h3, h4, h5⟩

theorem ow_made2 {w w' : World} {n : Nat} (h : w'.ownsRow w.heap.size 3 1 (.slice (some ⟨w.heap.size, 0, none⟩) n n) n (madeCells (Value.int .i64 0).cells (n * 1)).toList) : Ow w.heap.size w'.heap.size w' 3 1 (.slice (some ⟨w.heap.size, 0, none⟩) n n) n (ints (List.replicate n 0)) := by
  rw [show (madeCells (Value.int .i64 0).cells (n * 1)).toList = ints (List.replicate n 0) from by
    rw [show (Value.int .i64 0).cells = #[.int .i64 0] from rfl, toList_madeCells_one]; simp [ints]] at h
  exact Ow.of_row h

set_option maxRecDepth 100000 in
set_option maxHeartbeats 8000000 in
theorem l20Disk_any (W : World) (sv : Value) (bs : List Int) (r : Nat) (lim n : Int) (w : World) (h : Drw W sv bs r lim w) (hl : lim ≤ 700000000) (hn0 : -1000000000 ≤ n) (hn : n ≤ 1000000000) :
    Calls Try.prog 59 #[.pointer (some ⟨r, 0, none⟩), .int .i64 n] w (DrewDisk W sv bs r (lim + 900) w) := by
  have hrlt := h.lt
  have HD := Lib.hid (h.keep ((Below.refl _ _).alloc (Nat.le_refl _) (.cells #[.slice none 0 0, .slice none 0 0] 25)))
  have HG : Hid (Chg r (r + 1) w (w.alloc (.cells #[.slice none 0 0, .slice none 0 0] 25))) := Lib.hid ((Chg.refl _ _ _).alloc _)
  have HX4 := Lib.hid (heap_alloc_new w (.cells #[.slice none 0 0, .slice none 0 0] 25))
  have hsA : (w.alloc (.cells #[.slice none 0 0, .slice none 0 0] 25)).heap.size = w.heap.size + 1 := by simp
  clear h
  go_enter Try.func59, Try.ntmps59
  go_wp2_with fail
  generalize (w.alloc (.cells #[.slice none 0 0, .slice none 0 0] 25)) = wA at *
  refine (l20Frames_any W sv bs _ _ _ HD.out (by omega)).mono ?_
  rintro e w1 ⟨v1, ss, rfl, ho1, hl1, -, hd1, hg1⟩
  have HO1 := Lib.hid (Ow.of_row ho1)
  obtain ⟨sa, sc, rfl, -, -⟩ := (Rd.of_own ho1).form
  replace HD := Lib.hid hd1; replace HG := Lib.hid (HG.out.trans hg1); replace HX4 := Lib.hid ((hg1.block _ (box_lt HX4.out) (by omega)).trans HX4.out)
  have hs1 := hg1.size
  clear ho1 hd1 hg1
  go_wp2_with fail
  refine (l20Frames_any W sv bs _ _ _ HD.out (by omega)).mono ?_
  rintro e w2 ⟨v2, ys, rfl, ho2, hl2, -, hd2, hg2⟩
  have HO2 := Lib.hid ho2
  obtain ⟨fa, fc, rfl, -, -⟩ := (Rd.of_own ho2).form
  replace HD := Lib.hid hd2; replace HG := Lib.hid (HG.out.trans hg2); replace HO1 := Lib.hid (HO1.out.chg hg2 (.inl (by omega))); replace HX4 := Lib.hid ((hg2.block _ (by omega) (by omega)).trans HX4.out)
  have hs2 := hg2.size
  clear ho2 hd2 hg2
  have hb3 : Below w2.heap.size w2 (w2.alloc (.cells #[.slice sa ss.length sc, .slice fa ys.length fc] 25)) := (Below.refl _ _).alloc (Nat.le_refl _) _
  replace HD := Lib.hid (HD.out.keep hb3); replace HG := Lib.hid (HG.out.then (hb3.mono (by omega))); replace HO1 := Lib.hid (HO1.out.keep hb3); replace HO2 := Lib.hid (ownsRow_keep HO2.out hb3); replace HX4 := Lib.hid (box_keep HX4.out hb3)
  have HB := Lib.hid (heap_alloc_new w2 (.cells #[.slice sa ss.length sc, .slice fa ys.length fc] 25))
  have hs3 : (w2.alloc (.cells #[.slice sa ss.length sc, .slice fa ys.length fc] 25)).heap.size = w2.heap.size + 1 := by simp
  have hfl : ∀ g, (Value.slice fa ys.length fc).ownBlock = some g → w1.heap.size ≤ g ∧ g < w2.heap.size + 1 := fun g e => by have := HO2.out.lt g e; omega
  clear hb3
  go_wp2_with fail
  refine (odd_any W sv bs r _ 9 _ HD.out (by omega) (by omega) (by omega)).mono ?_
  rintro e w4 ⟨t, rfl, -, hd, hg⟩
  replace HD := Lib.hid hd; replace HG := Lib.hid (HG.out.trans hg); replace HO1 := Lib.hid (HO1.out.chg hg (.inl (by omega))); replace HO2 := Lib.hid (ownsRow_chg HO2.out hg (by omega)); replace HB := Lib.hid ((hg.block _ (box_lt HB.out) (by omega)).trans HB.out); replace HX4 := Lib.hid ((hg.block _ (box_lt HX4.out) (by omega)).trans HX4.out)
  have hs4 := hg.size
  rw [hs3] at hs4
  clear hd hg hs3
  cases t
  · go_wp2_with fail
    obtain ⟨lo, hi, qa, qn, qc, zs, HS, HB, hlo, hsep, hBl, hzl, hzn⟩ : ∃ lo hi qa qn qc zs, Hid (OwIntS lo hi w4 (.slice qa qn qc) zs) ∧ Hid (w4.heap[w2.heap.size]? = some (.cells #[.slice qa qn qc, .slice fa ys.length fc] 25 (0, 0))) ∧ w.heap.size + 1 ≤ lo ∧ (∀ g, (Value.slice fa ys.length fc).ownBlock = some g → g < lo ∨ hi ≤ g) ∧ (w2.heap.size < lo ∨ hi ≤ w2.heap.size) ∧ zs.length = qn ∧ qn ≤ 2400 :=
      ⟨wA.heap.size, w1.heap.size, sa, ss.length, sc, ss, HO1, HB, by omega, fun g e => .inr (hfl g e).1, .inr hs2, rfl, hl1⟩
    clear HO1 hl1
    have hwt : w2.heap.size + 1 ≤ w4.heap.size := hs4
    refine (odd_any W sv bs r _ _ _ HD.out (by omega) (by omega) (by omega)).mono ?_
    rintro e w5 ⟨u, rfl, -, hd, hg⟩
    replace HD := Lib.hid hd; replace HG := Lib.hid (HG.out.trans hg); replace HS := Lib.hid (HS.out.chg hg (.inl (by omega))); replace HO2 := Lib.hid (ownsRow_chg HO2.out hg (by omega)); replace HB := Lib.hid ((hg.block _ (box_lt HB.out) (by omega)).trans HB.out); replace HX4 := Lib.hid ((hg.block _ (box_lt HX4.out) (by omega)).trans HX4.out)
    have hs5 := hg.size
    clear hd hg
    cases u
    · have hxz := box_lt HX4.out
      have k0 := box_cell HB.out 0 _ rfl; have k1 := box_cell HB.out 1 _ rfl
      have k4 := box_cell HX4.out 0 _ rfl; have k5 := box_cell HX4.out 1 _ rfl
      have f4 := box_frozen HX4.out 0; have f5 := box_frozen HX4.out 1
      go_wp2_with fail
      have hK : Chg w.heap.size (w.heap.size + 1) w5 ((w5.setCell ⟨w.heap.size, 0, none⟩ (.slice qa qn qc)).setCell ⟨w.heap.size, 1, none⟩ (.slice fa ys.length fc)) :=
        (Chg.setCell (p := ⟨w.heap.size, 0, none⟩) (by simp) (by simp) _).trans (Chg.setCell (p := ⟨w.heap.size, 1, none⟩) (by simp) (by simp) _)
      have hKB : Below w.heap.size w5 ((w5.setCell ⟨w.heap.size, 0, none⟩ (.slice qa qn qc)).setCell ⟨w.heap.size, 1, none⟩ (.slice fa ys.length fc)) := hK.belowB (Nat.le_refl _) (by omega)
      have R0 := HS.out.chg hK (.inl (by omega))
      have R1 := ownsRow_chg HO2.out hK (by omega)
      refine bodyPost_ret (v := .agg #[.slice qa qn qc, .slice fa ys.length fc]) (by simp [results, Try.results59, go_sem, k4, k5]) rfl ⟨_, (zs, ys), rfl, fun w'' hcc => ⟨_, _, rfl, (R0.chg hcc (.inl (by omega))).rd, Rd.of_own (ownsRow_chg R1 hcc (by omega))⟩, by simp; omega, by simp; omega, (HD.out.keepB hKB hrlt).mono (by omega), HG.out.then hKB⟩
    go_wp2_with fail
    refine (pick_any W sv bs r _ _ _ HD.out (by omega) (by omega) (by omega)).mono ?_
    rintro e w6 ⟨c, rfl, c0, c1, c2, hd, hg⟩
    replace c1 := c1 (by omega)
    replace HD := Lib.hid hd; replace HG := Lib.hid (HG.out.trans hg); replace HS := Lib.hid (HS.out.chg hg (.inl (by omega))); replace HO2 := Lib.hid (ownsRow_chg HO2.out hg (by omega)); replace HB := Lib.hid ((hg.block _ (box_lt HB.out) (by omega)).trans HB.out); replace HX4 := Lib.hid ((hg.block _ (box_lt HX4.out) (by omega)).trans HX4.out)
    have hs6 := hg.size
    clear hd hg
    clear c2
    rcases (by omega : c = 0 ∨ c = 1) with rfl | rfl
    · go_wp2_with fail
      have hdp : DP r w lo hi w1.heap.size (.slice fa ys.length fc) w2.heap.size w6.heap.size := ⟨hrlt, hlo, by omega, by omega, by omega, by omega, hBl, fun g e => by have := hfl g e; exact ⟨this.1, by omega, hsep g e⟩⟩
      have hfS : ∀ g, (Value.slice fa ys.length fc).ownBlock = some g → g < w6.heap.size := fun g e => (hdp.fl g e).2.1
      have hrS : r < w6.heap.size := by omega
      have hBS : w2.heap.size < w6.heap.size := by omega
      have hr1 : r < w1.heap.size := by omega
      obtain ⟨i0, hi0, hz0, hz1, hz2⟩ := info_parts infoInt
      have Hi := Lib.hid hi0; have Hz0 := Lib.hid hz0; have Hz1 := Lib.hid hz1; have Hz2 := Lib.hid hz2; clear hi0 hz0 hz1 hz2
      refine wp_region_rel (fun x => { tmps := #[.pointer (some ⟨r, 0, none⟩), .int .i64 n, undef, undef, .pointer (some ⟨w.heap.size, 0, none⟩), .pointer (some ⟨w2.heap.size, 0, none⟩), .pointer (some ⟨r, 0, none⟩), .slice sa ss.length sc, .pointer (some ⟨r, 0, none⟩), .slice fa ys.length fc, .agg #[.slice sa ss.length sc, .slice fa ys.length fc], .pointer (some ⟨r, 0, none⟩), .bool false, undef, undef, .pointer (some ⟨r, 0, none⟩), .int .i64 n, .bool true, .pointer (some ⟨r, 0, none⟩), .int .i64 0, .bool true, x 21, x 22, x 23, x 24, x 25, x 26, x 27, x 28, x 29, x 30, undef, undef, undef], defers := [] })
        (fun _ => undef) (DG W sv bs r (lim + 803) w lo hi (.slice qa qn qc) zs w1.heap.size (.slice fa ys.length fc) ys w2.heap.size w6.heap.size) (RD r w2.heap.size (.slice fa ys.length fc))
        (Tl [cst (.pointer (some ⟨w2.heap.size, 1, none⟩)), cst (.slice fa ys.length fc), litI (w6.heap.size - 1) 2 (fun cs => ∀ c ∈ cs, c = -1 ∨ c = 256), cst (.pointer (some ⟨r, 0, none⟩)), intP (fun c => 0 ≤ c ∧ c < 2),
          litA (w6.heap.size - 1) 2 (fun cs => ∀ c ∈ cs, c = -1 ∨ c = 256), intP (fun c => c = -1 ∨ c = 256), litI (w6.heap.size - 1) 1 (fun cs => ∀ c ∈ cs, c = -1 ∨ c = 256), appd w1.heap.size w2.heap.size ys, cst (.pointer (some ⟨w2.heap.size, 1, none⟩)), tru])
        (by kernel_rfl) (by kernel_rfl) (by kernel_rfl) (stab_all rfl hr1 ?hst) (fun i wx => RD.refl _ _ _ _ _) ?hG0 ?hput ?hop ?hend
      case hst =>
        intro i hi8 t ht j
        match i, ht with
        | 0, h => cases h; exact stab_cst _ _
        | 1, h => cases h; exact stab_cst _ _
        | 2, h => cases h; exact stabR_litI hrS hBS hfS j
        | 3, h => cases h; exact stab_cst _ _
        | 4, h => cases h; exact stab_intP _ _
        | 5, h => cases h; exact stabR_litA hrS hBS hfS j
        | 6, h => cases h; exact stab_intP _ _
        | 7, h => cases h; exact stabR_litI hrS hBS hfS j
        | 8, h => exact absurd rfl hi8
        | 9, h => cases h; exact stab_cst _ _
        | 10, h => cases h; exact stab_tru _
        | i + 11, h => simp at h
      case hG0 =>
        have hdr : Below w6.heap.size w6 w6.drew := (Below.refl _ _).drew
        refine ⟨(HD.out.keep hdr).mono (by omega), HG.out.then (hdr.mono (by omega)), ?_, Nat.le_refl _, fun _ => ownsRow_keep HO2.out hdr, fun _ => box_keep HB.out hdr, (fun h => by cases h), (fun h => by cases h), box_keep HX4.out hdr⟩
        exact HS.out.keep hdr
      case hput =>
        refine ⟨?_, ?_, ?_, ?_, ?_, ?_, ?_, ?_, ?_, ?_, ?_, trivial⟩
        all_goals first | exact fun x v => rfl | exact trivial
      case hop =>
        refine ⟨?_, ?_, ?_, ?_, ?_, ?_, ?_, ?_, ?_, ?_, ?_, trivial⟩
        · refine OpRel.plain rfl fun k L x wx K hn hL hG hdep hK => ?_
          clear hdep
          go_simp
          exact hK _ _ (hG.below (by decide) (by decide) (Below.refl _ _)) (RD.refl _ _ _ _ _) rfl
        · refine OpRel.plain rfl fun k L x wx K hn hL hG hdep hK => ?_
          have h21 : x 21 = .pointer (some ⟨w2.heap.size, 1, none⟩) := (hdep 0 rfl).2 _ rfl
          have h8 : L 10 = false := by
            cases e : L 10 with
            | false => rfl
            | true => rw [(hG.ord e).2] at hL; cases hL
          have k1 := box_cell (hG.box h8) 1 _ rfl
          clear hdep
          simp only [h21] at hK
          go_simp
          exact hK _ _ (hG.below (by decide) (by decide) (Below.refl _ _)) (RD.refl _ _ _ _ _) rfl
        · refine OpRel.plain rfl fun k L x wx K hn hL hG hdep hK => ?_
          clear hdep
          go_simp
          have hb : Below wx.heap.size wx (wx.alloc (.cells #[.int .i64 (-1), .int .i64 256] 3)) := (Below.refl _ _).alloc (Nat.le_refl _) _
          have hsz := hG.size
          exact hK _ _ (hG.below (by decide) (by decide) hb) hb ⟨wx.heap.size, [-1, 256], rfl, heap_alloc_new _ _, by omega, rfl, by simp⟩
        · refine OpRel.plain rfl fun k L x wx K hn hL hG hdep hK => ?_
          clear hdep
          go_simp
          exact hK _ _ (hG.below (by decide) (by decide) (Below.refl _ _)) (RD.refl _ _ _ _ _) rfl
        · refine OpRel.plain rfl fun k L x wx K hn hL hG hdep hK => ?_
          have h24 : x 24 = .pointer (some ⟨r, 0, none⟩) := (hdep 3 rfl).2 _ rfl
          clear hdep
          simp only [h24] at hK
          go_simp
          refine (pick_any W sv bs _ _ _ _ hG.drw (by simp at hn; omega) (by omega) (by omega)).mono ?_
          rintro e w' ⟨c, rfl, c0, c1, c2, hd, hg⟩
          exact hK _ _ (hG.pick hdp (by decide) (by decide) hd hg) hg ⟨c, rfl, c0, c1 (by omega)⟩
        · refine OpRel.plain rfl fun k L x wx K hn hL hG hdep hK => ?_
          obtain ⟨b, cs, hsl, hb, hrb, hcl, hp⟩ := (hdep 2 rfl).2 _ rfl
          obtain ⟨c, hix, c0, c1⟩ := (hdep 4 rfl).2 _ rfl
          clear hdep
          obtain ⟨j, rfl⟩ := Int.eq_ofNat_of_zero_le c0
          simp only [hsl, hix] at hK
          go_simp
          exact hK _ _ (hG.below (by decide) (by decide) (Below.refl _ _)) (RD.refl _ _ _ _ _) ⟨b, j, cs, by omega, by simp, hb, hrb, hcl, hp⟩
        · refine OpRel.plain rfl fun k L x wx K hn hL hG hdep hK => ?_
          obtain ⟨b, j, cs, hj, had, hb, hrb, hcl, hp⟩ := (hdep 5 rfl).2 _ rfl
          clear hdep
          have hc := lit_cell hb (j := j) (by omega)
          have hz := hp (cs.getD j 0) (by simp [show j < cs.length by omega])
          generalize cs.getD j 0 = z at *
          simp only [had] at hK
          go_simp
          exact hK _ _ (hG.below (by decide) (by decide) (Below.refl _ _)) (RD.refl _ _ _ _ _) ⟨z, rfl, hz⟩
        · refine OpRel.plain rfl fun k L x wx K hn hL hG hdep hK => ?_
          obtain ⟨c, h27, hc⟩ := (hdep 6 rfl).2 _ rfl
          clear hdep
          simp only [h27] at hK
          go_simp
          have hb : Below wx.heap.size wx (wx.alloc (.cells #[.int .i64 c] 3)) := (Below.refl _ _).alloc (Nat.le_refl _) _
          have hsz := hG.size
          exact hK _ _ (hG.below (by decide) (by decide) hb) hb ⟨wx.heap.size, [c], rfl, heap_alloc_new _ _, by omega, rfl, by simpa using hc⟩
        · refine OpRel.plain rfl fun k L x wx K hn hL hG hdep hK => ?_
          have h22 : x 22 = .slice fa ys.length fc := (hdep 1 rfl).2 _ rfl
          obtain ⟨b, cs, h28, hb, hrb, hcl, hp⟩ := (hdep 7 rfl).2 _ rfl
          clear hdep
          have hsz := hG.size
          have hlb := box_lt hb
          obtain ⟨z, rfl⟩ : ∃ z, cs = [z] := by
            match cs, hcl with
            | [z], _ => exact ⟨z, rfl⟩
          refine wp_append_own _ _ _ 23 rfl w1.heap.size 3 i0 (.int .i64 0) 1 8 Try.underlying23 Hi.out Hz0.out Hz1.out Hz2.out rfl (by decide) (.slice fa ys.length fc) ys.length (ints ys) (by simp [Act.eval, h22]) (hG.fresh hL) ⟨b, 0, none⟩ 1 1 (ints [z]) (by simp [Act.eval, h28]) rfl ?_ (ints_one _) (by unfold maxLen; omega) (by omega) (by omega) ?_
          · intro j u hu
            rw [add_lit', Nat.zero_add]
            exact box_cell hb j u (by rw [List.getElem?_toArray]; exact hu)
          · intro v' w' h2 h3 h4
            have hG' := hG.append hdp hL h3
            have hL10 : L 10 = false := by
              cases e : L 10 with
              | false => rfl
              | true => rw [(hG.ord e).1] at hL; cases hL
            have hR : RD r w2.heap.size (.slice fa ys.length fc) 8 wx w' := h3
            exact hK _ _ hG' hR ⟨z, by rw [ints_append]; exact h2, own_ne h2 (hG'.box (by simpa [setL] using hL10))⟩
        · refine OpRel.plain rfl fun k L x wx K hn hL hG hdep hK => ?_
          clear hdep
          go_simp
          exact hK _ _ (hG.below (by decide) (by decide) (Below.refl _ _)) (RD.refl _ _ _ _ _) rfl
        · refine OpRel.plain rfl fun k L x wx K hn hL hG hdep hK => ?_
          have h30 : x 30 = .pointer (some ⟨w2.heap.size, 1, none⟩) := (hdep 9 rfl).2 _ rfl
          obtain ⟨hL8, h29⟩ := hdep 8 rfl
          have hL1 := (hdep 1 rfl).1
          replace h29 : appd w1.heap.size w2.heap.size ys (x 29) wx := h29 _ rfl
          clear hdep
          simp only [h30] at hK
          have k1 := box_cell (hG.box hL) 1 _ rfl
          have f1 := box_frozen (hG.box hL) 1
          have hone : ∃ a c, x 29 = .slice a (ys.length + 1) c := by
            obtain ⟨z, h1, _⟩ := h29
            obtain ⟨a, c, hv, _, _⟩ := (Rd.of_own h1).form
            exact ⟨a, c, hv⟩
          obtain ⟨a9, c9, h29v⟩ := hone
          rw [h29v] at h29
          simp only [h29v] at hK
          go_simp
          exact hK undef _ (hG.store hdp hL hL8 hL1 h29) (by unfold RD; rw [if_neg (by decide), if_neg (by decide), if_pos rfl]; exact Chg.setCell (p := ⟨w2.heap.size, 1, none⟩) (by simp) (by simp) _) trivial
      case hend =>
        intro k L x wx hkn hG hh
        have hL10 : L 10 = true := (hh 10 (by decide)).1
        obtain ⟨v9, z, hb9, ho9⟩ := hG.done hL10
        obtain ⟨a9, c9, rfl, -, -⟩ := (Rd.of_own ho9).form
        simp only [List.length_cons, List.length_nil] at hkn
        clear hh
        replace HD := Lib.hid hG.drw; replace HG := Lib.hid hG.chg; replace HS := Lib.hid hG.safe; have HO9 := Lib.hid ho9; replace HB := Lib.hid hb9
        have hXs := hG.size
        replace HX4 := Lib.hid hG.res
        have hxz := box_lt HX4.out
        have k0 := box_cell HB.out 0 _ rfl; have k1 := box_cell HB.out 1 _ rfl
        have k4 := box_cell HX4.out 0 _ rfl; have k5 := box_cell HX4.out 1 _ rfl
        have f4 := box_frozen HX4.out 0; have f5 := box_frozen HX4.out 1
        go_wp2_with fail
        have hK : Chg w.heap.size (w.heap.size + 1) wx ((wx.setCell ⟨w.heap.size, 0, none⟩ (.slice qa qn qc)).setCell ⟨w.heap.size, 1, none⟩ (.slice a9 (ys.length + 1) c9)) :=
          (Chg.setCell (p := ⟨w.heap.size, 0, none⟩) (by simp) (by simp) _).trans (Chg.setCell (p := ⟨w.heap.size, 1, none⟩) (by simp) (by simp) _)
        have hKB : Below w.heap.size wx ((wx.setCell ⟨w.heap.size, 0, none⟩ (.slice qa qn qc)).setCell ⟨w.heap.size, 1, none⟩ (.slice a9 (ys.length + 1) c9)) := hK.belowB (Nat.le_refl _) (by omega)
        have R0 := HS.out.chg hK (.inl (by omega))
        have R1 := ownsRow_chg HO9.out hK (by omega)
        refine bodyPost_ret (v := .agg #[.slice qa qn qc, .slice a9 (ys.length + 1) c9]) (by simp [results, Try.results59, go_sem, k4, k5]) rfl ⟨_, (zs, (ys ++ [z])), rfl, fun w'' hcc => ⟨_, _, rfl, (R0.chg hcc (.inl (by omega))).rd, by rw [RdIntS, List.length_append]; exact Rd.of_own (ownsRow_chg R1 hcc (by omega))⟩, by simp; omega, by simp; omega, (HD.out.keepB hKB hrlt).mono (by omega), HG.out.then hKB⟩
    · obtain ⟨i1, hi1, hy0, hy1, hy2⟩ := info_parts infoInt
      have Hi1 := Lib.hid hi1; have Hy0 := Lib.hid hy0; have Hy1 := Lib.hid hy1; have Hy2 := Lib.hid hy2; clear hi1 hy0 hy1 hy2
      have hB6 := box_lt HB.out
      go_wp2_with (at_make; refine wpList_make_full _ rfl _ _ 23 rfl w6.heap.size 3 i1 (.int .i64 0) 1 Try.underlying23 Hi1.out Hy0.out Hy1.out _ _ _ _ 2001 rfl rfl rfl rfl (by rw [Hy2.out]; decide) (by unfold maxLen; decide) (Nat.le_refl _) ?_; intro w7 hown7 hgrow7; have HU := Lib.hid (ow_made2 hown7); have hB7 := ((Below.refl w6.heap.size w6).grown hgrow7 (Nat.le_refl _) (by intro k hk; cases hk)); have hw7 := hB7.size; replace HD := Lib.hid (HD.out.keep hB7); replace HG := Lib.hid (HG.out.then (hB7.mono (by omega))); replace HO2 := Lib.hid (ownsRow_keep HO2.out hB7); replace HB := Lib.hid (box_keep HB.out hB7); replace HX4 := Lib.hid (box_keep HX4.out hB7); clear hown7 hgrow7 hB7; have b0 := box_cell HB.out 0 _ rfl; have g0 := box_frozen HB.out 0; have HB9 := Lib.hid (box_set HB.out 0 (.slice (some ⟨w6.heap.size, 0, none⟩) 2001 2001)); have HX9 := Lib.hid (box_other HX4.out ⟨w2.heap.size, 0, none⟩ (.slice (some ⟨w6.heap.size, 0, none⟩) 2001 2001) (by simp; omega)); have k0 := box_cell HB9.out 0 _ rfl; have k1 := box_cell HB9.out 1 _ rfl; have k4 := box_cell HX9.out 0 _ rfl; have k5 := box_cell HX9.out 1 _ rfl; have f4 := box_frozen HX9.out 0; have f5 := box_frozen HX9.out 1)
      have hK0 : Chg w2.heap.size (w2.heap.size + 1) w7 (w7.setCell ⟨w2.heap.size, 0, none⟩ (.slice (some ⟨w6.heap.size, 0, none⟩) 2001 2001)) := Chg.setCell (p := ⟨w2.heap.size, 0, none⟩) (by simp) (by simp) _
      have hK : Chg w.heap.size (w.heap.size + 1) (w7.setCell ⟨w2.heap.size, 0, none⟩ (.slice (some ⟨w6.heap.size, 0, none⟩) 2001 2001)) (((w7.setCell ⟨w2.heap.size, 0, none⟩ (.slice (some ⟨w6.heap.size, 0, none⟩) 2001 2001)).setCell ⟨w.heap.size, 0, none⟩ (.slice (some ⟨w6.heap.size, 0, none⟩) 2001 2001)).setCell ⟨w.heap.size, 1, none⟩ (.slice fa ys.length fc)) :=
        (Chg.setCell (p := ⟨w.heap.size, 0, none⟩) (by simp) (by simp) _).trans (Chg.setCell (p := ⟨w.heap.size, 1, none⟩) (by simp) (by simp) _)
      have hKB := (hK0.belowB (B := w.heap.size) (by omega) (by omega)).trans (hK.belowB (B := w.heap.size) (Nat.le_refl _) (by simp [World.setCell]; omega))
      have R0 := (HU.out.chg hK0 (.inl (by omega))).chg hK (.inl (by omega))
      have R1 := own_chg1 (own_chg1 HO2.out hK0 (own_ne HO2.out HB.out)) hK (fun e => by have := (HO2.out.lt _ e).1; omega)
      refine bodyPost_ret (v := .agg #[.slice (some ⟨w6.heap.size, 0, none⟩) 2001 2001, .slice fa ys.length fc]) (by simp [results, Try.results59, go_sem, k4, k5]) rfl ⟨_, (List.replicate 2001 0, ys), rfl, fun w'' hcc => ⟨_, _, rfl, by rw [RdIntS, List.length_replicate]; exact (R0.chg hcc (.inl (by omega))).rd, Rd.of_own (ownsRow_chg R1 hcc (by omega))⟩, by simp, by simp; omega, (HD.out.keepB hKB hrlt).mono (by omega), HG.out.then hKB⟩
  · obtain ⟨i0, hi0, hz0, hz1, hz2⟩ := info_parts infoInt
    have Hi := Lib.hid hi0; have Hz0 := Lib.hid hz0; have Hz1 := Lib.hid hz1; have Hz2 := Lib.hid hz2; clear hi0 hz0 hz1 hz2
    go_wp2_with (at_make; refine wpList_make_full _ rfl _ _ 23 rfl w4.heap.size 3 i0 (.int .i64 0) 1 Try.underlying23 Hi.out Hz0.out Hz1.out _ _ _ _ 1950 rfl rfl rfl rfl (by rw [Hz2.out]; decide) (by unfold maxLen; decide) (Nat.le_refl _) ?_; intro w3 hown7 hgrow7; have HU := Lib.hid (ow_made2 hown7); have hB7 := ((Below.refl w4.heap.size w4).grown hgrow7 (Nat.le_refl _) (by intro k hk; cases hk)); have hw7 := hB7.size; replace HD := Lib.hid (HD.out.keep hB7); replace HG := Lib.hid (HG.out.then (hB7.mono (by omega))); replace HO2 := Lib.hid (ownsRow_keep HO2.out hB7); replace HB := Lib.hid (box_keep HB.out hB7); replace HX4 := Lib.hid (box_keep HX4.out hB7); clear hown7 hgrow7 hB7; have b0 := box_cell HB.out 0 _ rfl; have g0 := box_frozen HB.out 0)
    have hlm : w4.heap.size < w3.heap.size := by
      rcases HU.out with ⟨h0, _⟩ | ⟨_, g, cap, cur, e, h1, h2, _⟩
      · omega
      · omega
    have hK0 : Chg w2.heap.size (w2.heap.size + 1) w3 (w3.setCell ⟨w2.heap.size, 0, none⟩ (.slice (some ⟨w4.heap.size, 0, none⟩) 1950 1950)) := Chg.setCell (p := ⟨w2.heap.size, 0, none⟩) (by simp) (by simp) _
    have hKB0 : Below w.heap.size w3 (w3.setCell ⟨w2.heap.size, 0, none⟩ (.slice (some ⟨w4.heap.size, 0, none⟩) 1950 1950)) := hK0.belowB (B := w.heap.size) (by omega) (by omega)
    replace HD := Lib.hid (HD.out.keepB hKB0 hrlt); replace HG := Lib.hid (HG.out.then hKB0); replace HO2 := Lib.hid (own_chg1 HO2.out hK0 (own_ne HO2.out HB.out)); replace HX4 := Lib.hid (box_other HX4.out ⟨w2.heap.size, 0, none⟩ (.slice (some ⟨w4.heap.size, 0, none⟩) 1950 1950) (by simp; omega))
    replace HB := Lib.hid (box_set HB.out 0 (.slice (some ⟨w4.heap.size, 0, none⟩) 1950 1950))
    replace HU := Lib.hid (HU.out.chg hK0 (.inl (by omega)))
    have hz8 : (w3.setCell ⟨w2.heap.size, 0, none⟩ (.slice (some ⟨w4.heap.size, 0, none⟩) 1950 1950)).heap.size = w3.heap.size := by simp [World.setCell]
    clear hK0 hKB0 b0 g0
    generalize (w3.setCell ⟨w2.heap.size, 0, none⟩ (.slice (some ⟨w4.heap.size, 0, none⟩) 1950 1950)) = w8 at *
    obtain ⟨lo, hi, qa, qn, qc, zs, HS, HB, hlo, hsep, hBl, hzl, hzn⟩ : ∃ lo hi qa qn qc zs, Hid (OwIntS lo hi w8 (.slice qa qn qc) zs) ∧ Hid (w8.heap[w2.heap.size]? = some (.cells #[.slice qa qn qc, .slice fa ys.length fc] 25 (0, 0))) ∧ w.heap.size + 1 ≤ lo ∧ (∀ g, (Value.slice fa ys.length fc).ownBlock = some g → g < lo ∨ hi ≤ g) ∧ (w2.heap.size < lo ∨ hi ≤ w2.heap.size) ∧ zs.length = qn ∧ qn ≤ 2400 :=
      ⟨w4.heap.size, w3.heap.size, some ⟨w4.heap.size, 0, none⟩, 1950, 1950, List.replicate 1950 0, Lib.hid (by rw [OwIntS, List.length_replicate]; exact HU.out), HB, by omega, fun g e => .inl (by have := hfl g e; omega), .inl (by omega), List.length_replicate, by decide⟩
    clear HO1 hl1 HU
    have hwt : w2.heap.size + 1 ≤ w8.heap.size := by omega
    refine (odd_any W sv bs r _ _ _ HD.out (by omega) (by omega) (by omega)).mono ?_
    rintro e w5 ⟨u, rfl, -, hd, hg⟩
    replace HD := Lib.hid hd; replace HG := Lib.hid (HG.out.trans hg); replace HS := Lib.hid (HS.out.chg hg (.inl (by omega))); replace HO2 := Lib.hid (ownsRow_chg HO2.out hg (by omega)); replace HB := Lib.hid ((hg.block _ (box_lt HB.out) (by omega)).trans HB.out); replace HX4 := Lib.hid ((hg.block _ (box_lt HX4.out) (by omega)).trans HX4.out)
    have hs5 := hg.size
    clear hd hg
    cases u
    · have hxz := box_lt HX4.out
      have k0 := box_cell HB.out 0 _ rfl; have k1 := box_cell HB.out 1 _ rfl
      have k4 := box_cell HX4.out 0 _ rfl; have k5 := box_cell HX4.out 1 _ rfl
      have f4 := box_frozen HX4.out 0; have f5 := box_frozen HX4.out 1
      go_wp2_with fail
      have hK : Chg w.heap.size (w.heap.size + 1) w5 ((w5.setCell ⟨w.heap.size, 0, none⟩ (.slice qa qn qc)).setCell ⟨w.heap.size, 1, none⟩ (.slice fa ys.length fc)) :=
        (Chg.setCell (p := ⟨w.heap.size, 0, none⟩) (by simp) (by simp) _).trans (Chg.setCell (p := ⟨w.heap.size, 1, none⟩) (by simp) (by simp) _)
      have hKB : Below w.heap.size w5 ((w5.setCell ⟨w.heap.size, 0, none⟩ (.slice qa qn qc)).setCell ⟨w.heap.size, 1, none⟩ (.slice fa ys.length fc)) := hK.belowB (Nat.le_refl _) (by omega)
      have R0 := HS.out.chg hK (.inl (by omega))
      have R1 := ownsRow_chg HO2.out hK (by omega)
      refine bodyPost_ret (v := .agg #[.slice qa qn qc, .slice fa ys.length fc]) (by simp [results, Try.results59, go_sem, k4, k5]) rfl ⟨_, (zs, ys), rfl, fun w'' hcc => ⟨_, _, rfl, (R0.chg hcc (.inl (by omega))).rd, Rd.of_own (ownsRow_chg R1 hcc (by omega))⟩, by simp; omega, by simp; omega, (HD.out.keepB hKB hrlt).mono (by omega), HG.out.then hKB⟩
    go_wp2_with fail
    refine (pick_any W sv bs r _ _ _ HD.out (by omega) (by omega) (by omega)).mono ?_
    rintro e w6 ⟨c, rfl, c0, c1, c2, hd, hg⟩
    replace c1 := c1 (by omega)
    replace HD := Lib.hid hd; replace HG := Lib.hid (HG.out.trans hg); replace HS := Lib.hid (HS.out.chg hg (.inl (by omega))); replace HO2 := Lib.hid (ownsRow_chg HO2.out hg (by omega)); replace HB := Lib.hid ((hg.block _ (box_lt HB.out) (by omega)).trans HB.out); replace HX4 := Lib.hid ((hg.block _ (box_lt HX4.out) (by omega)).trans HX4.out)
    have hs6 := hg.size
    clear hd hg
    clear c2
    rcases (by omega : c = 0 ∨ c = 1) with rfl | rfl
    · go_wp2_with fail
      have hdp : DP r w lo hi w1.heap.size (.slice fa ys.length fc) w2.heap.size w6.heap.size := ⟨hrlt, hlo, by omega, by omega, by omega, by omega, hBl, fun g e => by have := hfl g e; exact ⟨this.1, by omega, hsep g e⟩⟩
      have hfS : ∀ g, (Value.slice fa ys.length fc).ownBlock = some g → g < w6.heap.size := fun g e => (hdp.fl g e).2.1
      have hrS : r < w6.heap.size := by omega
      have hBS : w2.heap.size < w6.heap.size := by omega
      have hr1 : r < w1.heap.size := by omega
      obtain ⟨i0, hi0, hz0, hz1, hz2⟩ := info_parts infoInt
      have Hi := Lib.hid hi0; have Hz0 := Lib.hid hz0; have Hz1 := Lib.hid hz1; have Hz2 := Lib.hid hz2; clear hi0 hz0 hz1 hz2
      refine wp_region_rel (fun x => { tmps := #[.pointer (some ⟨r, 0, none⟩), .int .i64 n, undef, undef, .pointer (some ⟨w.heap.size, 0, none⟩), .pointer (some ⟨w2.heap.size, 0, none⟩), .pointer (some ⟨r, 0, none⟩), .slice sa ss.length sc, .pointer (some ⟨r, 0, none⟩), .slice fa ys.length fc, .agg #[.slice sa ss.length sc, .slice fa ys.length fc], .pointer (some ⟨r, 0, none⟩), .bool true, .slice (some ⟨w4.heap.size, 0, none⟩) 1950 1950, .pointer (some ⟨w2.heap.size, 0, none⟩), .pointer (some ⟨r, 0, none⟩), .int .i64 n, .bool true, .pointer (some ⟨r, 0, none⟩), .int .i64 0, .bool true, x 21, x 22, x 23, x 24, x 25, x 26, x 27, x 28, x 29, x 30, undef, undef, undef], defers := [] })
        (fun _ => undef) (DG W sv bs r (lim + 803) w lo hi (.slice qa qn qc) zs w1.heap.size (.slice fa ys.length fc) ys w2.heap.size w6.heap.size) (RD r w2.heap.size (.slice fa ys.length fc))
        (Tl [cst (.pointer (some ⟨w2.heap.size, 1, none⟩)), cst (.slice fa ys.length fc), litI (w6.heap.size - 1) 2 (fun cs => ∀ c ∈ cs, c = -1 ∨ c = 256), cst (.pointer (some ⟨r, 0, none⟩)), intP (fun c => 0 ≤ c ∧ c < 2),
          litA (w6.heap.size - 1) 2 (fun cs => ∀ c ∈ cs, c = -1 ∨ c = 256), intP (fun c => c = -1 ∨ c = 256), litI (w6.heap.size - 1) 1 (fun cs => ∀ c ∈ cs, c = -1 ∨ c = 256), appd w1.heap.size w2.heap.size ys, cst (.pointer (some ⟨w2.heap.size, 1, none⟩)), tru])
        (by kernel_rfl) (by kernel_rfl) (by kernel_rfl) (stab_all rfl hr1 ?hst) (fun i wx => RD.refl _ _ _ _ _) ?hG0 ?hput ?hop ?hend
      case hst =>
        intro i hi8 t ht j
        match i, ht with
        | 0, h => cases h; exact stab_cst _ _
        | 1, h => cases h; exact stab_cst _ _
        | 2, h => cases h; exact stabR_litI hrS hBS hfS j
        | 3, h => cases h; exact stab_cst _ _
        | 4, h => cases h; exact stab_intP _ _
        | 5, h => cases h; exact stabR_litA hrS hBS hfS j
        | 6, h => cases h; exact stab_intP _ _
        | 7, h => cases h; exact stabR_litI hrS hBS hfS j
        | 8, h => exact absurd rfl hi8
        | 9, h => cases h; exact stab_cst _ _
        | 10, h => cases h; exact stab_tru _
        | i + 11, h => simp at h
      case hG0 =>
        have hdr : Below w6.heap.size w6 w6.drew := (Below.refl _ _).drew
        refine ⟨(HD.out.keep hdr).mono (by omega), HG.out.then (hdr.mono (by omega)), ?_, Nat.le_refl _, fun _ => ownsRow_keep HO2.out hdr, fun _ => box_keep HB.out hdr, (fun h => by cases h), (fun h => by cases h), box_keep HX4.out hdr⟩
        exact HS.out.keep hdr
      case hput =>
        refine ⟨?_, ?_, ?_, ?_, ?_, ?_, ?_, ?_, ?_, ?_, ?_, trivial⟩
        all_goals first | exact fun x v => rfl | exact trivial
      case hop =>
        refine ⟨?_, ?_, ?_, ?_, ?_, ?_, ?_, ?_, ?_, ?_, ?_, trivial⟩
        · refine OpRel.plain rfl fun k L x wx K hn hL hG hdep hK => ?_
          clear hdep
          go_simp
          exact hK _ _ (hG.below (by decide) (by decide) (Below.refl _ _)) (RD.refl _ _ _ _ _) rfl
        · refine OpRel.plain rfl fun k L x wx K hn hL hG hdep hK => ?_
          have h21 : x 21 = .pointer (some ⟨w2.heap.size, 1, none⟩) := (hdep 0 rfl).2 _ rfl
          have h8 : L 10 = false := by
            cases e : L 10 with
            | false => rfl
            | true => rw [(hG.ord e).2] at hL; cases hL
          have k1 := box_cell (hG.box h8) 1 _ rfl
          clear hdep
          simp only [h21] at hK
          go_simp
          exact hK _ _ (hG.below (by decide) (by decide) (Below.refl _ _)) (RD.refl _ _ _ _ _) rfl
        · refine OpRel.plain rfl fun k L x wx K hn hL hG hdep hK => ?_
          clear hdep
          go_simp
          have hb : Below wx.heap.size wx (wx.alloc (.cells #[.int .i64 (-1), .int .i64 256] 3)) := (Below.refl _ _).alloc (Nat.le_refl _) _
          have hsz := hG.size
          exact hK _ _ (hG.below (by decide) (by decide) hb) hb ⟨wx.heap.size, [-1, 256], rfl, heap_alloc_new _ _, by omega, rfl, by simp⟩
        · refine OpRel.plain rfl fun k L x wx K hn hL hG hdep hK => ?_
          clear hdep
          go_simp
          exact hK _ _ (hG.below (by decide) (by decide) (Below.refl _ _)) (RD.refl _ _ _ _ _) rfl
        · refine OpRel.plain rfl fun k L x wx K hn hL hG hdep hK => ?_
          have h24 : x 24 = .pointer (some ⟨r, 0, none⟩) := (hdep 3 rfl).2 _ rfl
          clear hdep
          simp only [h24] at hK
          go_simp
          refine (pick_any W sv bs _ _ _ _ hG.drw (by simp at hn; omega) (by omega) (by omega)).mono ?_
          rintro e w' ⟨c, rfl, c0, c1, c2, hd, hg⟩
          exact hK _ _ (hG.pick hdp (by decide) (by decide) hd hg) hg ⟨c, rfl, c0, c1 (by omega)⟩
        · refine OpRel.plain rfl fun k L x wx K hn hL hG hdep hK => ?_
          obtain ⟨b, cs, hsl, hb, hrb, hcl, hp⟩ := (hdep 2 rfl).2 _ rfl
          obtain ⟨c, hix, c0, c1⟩ := (hdep 4 rfl).2 _ rfl
          clear hdep
          obtain ⟨j, rfl⟩ := Int.eq_ofNat_of_zero_le c0
          simp only [hsl, hix] at hK
          go_simp
          exact hK _ _ (hG.below (by decide) (by decide) (Below.refl _ _)) (RD.refl _ _ _ _ _) ⟨b, j, cs, by omega, by simp, hb, hrb, hcl, hp⟩
        · refine OpRel.plain rfl fun k L x wx K hn hL hG hdep hK => ?_
          obtain ⟨b, j, cs, hj, had, hb, hrb, hcl, hp⟩ := (hdep 5 rfl).2 _ rfl
          clear hdep
          have hc := lit_cell hb (j := j) (by omega)
          have hz := hp (cs.getD j 0) (by simp [show j < cs.length by omega])
          generalize cs.getD j 0 = z at *
          simp only [had] at hK
          go_simp
          exact hK _ _ (hG.below (by decide) (by decide) (Below.refl _ _)) (RD.refl _ _ _ _ _) ⟨z, rfl, hz⟩
        · refine OpRel.plain rfl fun k L x wx K hn hL hG hdep hK => ?_
          obtain ⟨c, h27, hc⟩ := (hdep 6 rfl).2 _ rfl
          clear hdep
          simp only [h27] at hK
          go_simp
          have hb : Below wx.heap.size wx (wx.alloc (.cells #[.int .i64 c] 3)) := (Below.refl _ _).alloc (Nat.le_refl _) _
          have hsz := hG.size
          exact hK _ _ (hG.below (by decide) (by decide) hb) hb ⟨wx.heap.size, [c], rfl, heap_alloc_new _ _, by omega, rfl, by simpa using hc⟩
        · refine OpRel.plain rfl fun k L x wx K hn hL hG hdep hK => ?_
          have h22 : x 22 = .slice fa ys.length fc := (hdep 1 rfl).2 _ rfl
          obtain ⟨b, cs, h28, hb, hrb, hcl, hp⟩ := (hdep 7 rfl).2 _ rfl
          clear hdep
          have hsz := hG.size
          have hlb := box_lt hb
          obtain ⟨z, rfl⟩ : ∃ z, cs = [z] := by
            match cs, hcl with
            | [z], _ => exact ⟨z, rfl⟩
          refine wp_append_own _ _ _ 23 rfl w1.heap.size 3 i0 (.int .i64 0) 1 8 Try.underlying23 Hi.out Hz0.out Hz1.out Hz2.out rfl (by decide) (.slice fa ys.length fc) ys.length (ints ys) (by simp [Act.eval, h22]) (hG.fresh hL) ⟨b, 0, none⟩ 1 1 (ints [z]) (by simp [Act.eval, h28]) rfl ?_ (ints_one _) (by unfold maxLen; omega) (by omega) (by omega) ?_
          · intro j u hu
            rw [add_lit', Nat.zero_add]
            exact box_cell hb j u (by rw [List.getElem?_toArray]; exact hu)
          · intro v' w' h2 h3 h4
            have hG' := hG.append hdp hL h3
            have hL10 : L 10 = false := by
              cases e : L 10 with
              | false => rfl
              | true => rw [(hG.ord e).1] at hL; cases hL
            have hR : RD r w2.heap.size (.slice fa ys.length fc) 8 wx w' := h3
            exact hK _ _ hG' hR ⟨z, by rw [ints_append]; exact h2, own_ne h2 (hG'.box (by simpa [setL] using hL10))⟩
        · refine OpRel.plain rfl fun k L x wx K hn hL hG hdep hK => ?_
          clear hdep
          go_simp
          exact hK _ _ (hG.below (by decide) (by decide) (Below.refl _ _)) (RD.refl _ _ _ _ _) rfl
        · refine OpRel.plain rfl fun k L x wx K hn hL hG hdep hK => ?_
          have h30 : x 30 = .pointer (some ⟨w2.heap.size, 1, none⟩) := (hdep 9 rfl).2 _ rfl
          obtain ⟨hL8, h29⟩ := hdep 8 rfl
          have hL1 := (hdep 1 rfl).1
          replace h29 : appd w1.heap.size w2.heap.size ys (x 29) wx := h29 _ rfl
          clear hdep
          simp only [h30] at hK
          have k1 := box_cell (hG.box hL) 1 _ rfl
          have f1 := box_frozen (hG.box hL) 1
          have hone : ∃ a c, x 29 = .slice a (ys.length + 1) c := by
            obtain ⟨z, h1, _⟩ := h29
            obtain ⟨a, c, hv, _, _⟩ := (Rd.of_own h1).form
            exact ⟨a, c, hv⟩
          obtain ⟨a9, c9, h29v⟩ := hone
          rw [h29v] at h29
          simp only [h29v] at hK
          go_simp
          exact hK undef _ (hG.store hdp hL hL8 hL1 h29) (by unfold RD; rw [if_neg (by decide), if_neg (by decide), if_pos rfl]; exact Chg.setCell (p := ⟨w2.heap.size, 1, none⟩) (by simp) (by simp) _) trivial
      case hend =>
        intro k L x wx hkn hG hh
        have hL10 : L 10 = true := (hh 10 (by decide)).1
        obtain ⟨v9, z, hb9, ho9⟩ := hG.done hL10
        obtain ⟨a9, c9, rfl, -, -⟩ := (Rd.of_own ho9).form
        simp only [List.length_cons, List.length_nil] at hkn
        clear hh
        replace HD := Lib.hid hG.drw; replace HG := Lib.hid hG.chg; replace HS := Lib.hid hG.safe; have HO9 := Lib.hid ho9; replace HB := Lib.hid hb9
        have hXs := hG.size
        replace HX4 := Lib.hid hG.res
        have hxz := box_lt HX4.out
        have k0 := box_cell HB.out 0 _ rfl; have k1 := box_cell HB.out 1 _ rfl
        have k4 := box_cell HX4.out 0 _ rfl; have k5 := box_cell HX4.out 1 _ rfl
        have f4 := box_frozen HX4.out 0; have f5 := box_frozen HX4.out 1
        go_wp2_with fail
        have hK : Chg w.heap.size (w.heap.size + 1) wx ((wx.setCell ⟨w.heap.size, 0, none⟩ (.slice qa qn qc)).setCell ⟨w.heap.size, 1, none⟩ (.slice a9 (ys.length + 1) c9)) :=
          (Chg.setCell (p := ⟨w.heap.size, 0, none⟩) (by simp) (by simp) _).trans (Chg.setCell (p := ⟨w.heap.size, 1, none⟩) (by simp) (by simp) _)
        have hKB : Below w.heap.size wx ((wx.setCell ⟨w.heap.size, 0, none⟩ (.slice qa qn qc)).setCell ⟨w.heap.size, 1, none⟩ (.slice a9 (ys.length + 1) c9)) := hK.belowB (Nat.le_refl _) (by omega)
        have R0 := HS.out.chg hK (.inl (by omega))
        have R1 := ownsRow_chg HO9.out hK (by omega)
        refine bodyPost_ret (v := .agg #[.slice qa qn qc, .slice a9 (ys.length + 1) c9]) (by simp [results, Try.results59, go_sem, k4, k5]) rfl ⟨_, (zs, (ys ++ [z])), rfl, fun w'' hcc => ⟨_, _, rfl, (R0.chg hcc (.inl (by omega))).rd, by rw [RdIntS, List.length_append]; exact Rd.of_own (ownsRow_chg R1 hcc (by omega))⟩, by simp; omega, by simp; omega, (HD.out.keepB hKB hrlt).mono (by omega), HG.out.then hKB⟩
    · obtain ⟨i1, hi1, hy0, hy1, hy2⟩ := info_parts infoInt
      have Hi1 := Lib.hid hi1; have Hy0 := Lib.hid hy0; have Hy1 := Lib.hid hy1; have Hy2 := Lib.hid hy2; clear hi1 hy0 hy1 hy2
      have hB6 := box_lt HB.out
      go_wp2_with (at_make; refine wpList_make_full _ rfl _ _ 23 rfl w6.heap.size 3 i1 (.int .i64 0) 1 Try.underlying23 Hi1.out Hy0.out Hy1.out _ _ _ _ 2001 rfl rfl rfl rfl (by rw [Hy2.out]; decide) (by unfold maxLen; decide) (Nat.le_refl _) ?_; intro w7 hown7 hgrow7; have HU := Lib.hid (ow_made2 hown7); have hB7 := ((Below.refl w6.heap.size w6).grown hgrow7 (Nat.le_refl _) (by intro k hk; cases hk)); have hw7 := hB7.size; replace HD := Lib.hid (HD.out.keep hB7); replace HG := Lib.hid (HG.out.then (hB7.mono (by omega))); replace HO2 := Lib.hid (ownsRow_keep HO2.out hB7); replace HB := Lib.hid (box_keep HB.out hB7); replace HX4 := Lib.hid (box_keep HX4.out hB7); clear hown7 hgrow7 hB7; have b0 := box_cell HB.out 0 _ rfl; have g0 := box_frozen HB.out 0; have HB9 := Lib.hid (box_set HB.out 0 (.slice (some ⟨w6.heap.size, 0, none⟩) 2001 2001)); have HX9 := Lib.hid (box_other HX4.out ⟨w2.heap.size, 0, none⟩ (.slice (some ⟨w6.heap.size, 0, none⟩) 2001 2001) (by simp; omega)); have k0 := box_cell HB9.out 0 _ rfl; have k1 := box_cell HB9.out 1 _ rfl; have k4 := box_cell HX9.out 0 _ rfl; have k5 := box_cell HX9.out 1 _ rfl; have f4 := box_frozen HX9.out 0; have f5 := box_frozen HX9.out 1)
      have hK0 : Chg w2.heap.size (w2.heap.size + 1) w7 (w7.setCell ⟨w2.heap.size, 0, none⟩ (.slice (some ⟨w6.heap.size, 0, none⟩) 2001 2001)) := Chg.setCell (p := ⟨w2.heap.size, 0, none⟩) (by simp) (by simp) _
      have hK : Chg w.heap.size (w.heap.size + 1) (w7.setCell ⟨w2.heap.size, 0, none⟩ (.slice (some ⟨w6.heap.size, 0, none⟩) 2001 2001)) (((w7.setCell ⟨w2.heap.size, 0, none⟩ (.slice (some ⟨w6.heap.size, 0, none⟩) 2001 2001)).setCell ⟨w.heap.size, 0, none⟩ (.slice (some ⟨w6.heap.size, 0, none⟩) 2001 2001)).setCell ⟨w.heap.size, 1, none⟩ (.slice fa ys.length fc)) :=
        (Chg.setCell (p := ⟨w.heap.size, 0, none⟩) (by simp) (by simp) _).trans (Chg.setCell (p := ⟨w.heap.size, 1, none⟩) (by simp) (by simp) _)
      have hKB := (hK0.belowB (B := w.heap.size) (by omega) (by omega)).trans (hK.belowB (B := w.heap.size) (Nat.le_refl _) (by simp [World.setCell]; omega))
      have R0 := (HU.out.chg hK0 (.inl (by omega))).chg hK (.inl (by omega))
      have R1 := own_chg1 (own_chg1 HO2.out hK0 (own_ne HO2.out HB.out)) hK (fun e => by have := (HO2.out.lt _ e).1; omega)
      refine bodyPost_ret (v := .agg #[.slice (some ⟨w6.heap.size, 0, none⟩) 2001 2001, .slice fa ys.length fc]) (by simp [results, Try.results59, go_sem, k4, k5]) rfl ⟨_, (List.replicate 2001 0, ys), rfl, fun w'' hcc => ⟨_, _, rfl, by rw [RdIntS, List.length_replicate]; exact (R0.chg hcc (.inl (by omega))).rd, Rd.of_own (ownsRow_chg R1 hcc (by omega))⟩, by simp, by simp; omega, (HD.out.keepB hKB hrlt).mono (by omega), HG.out.then hKB⟩
end Go.Proofs.Ytdflpildopefaaa
