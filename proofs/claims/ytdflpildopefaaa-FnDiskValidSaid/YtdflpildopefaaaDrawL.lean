/-
  What is drawn for the laws on disks.
-/
import Derived.Test.YtdflpildopefaaaDrawK
namespace Go.Proofs.Ytdflpildopefaaa
open Go.RowKit
set_option linter.unusedVariables false

/-- A list of ints that is read does not lie in a block of two slices. -/
theorem rd_box {w w' : World} {v : Value} {n : Nat} {xs : List Int} {z : Nat} {a0 a1 : Option Addr} {n0 n1 c0 c1 : Nat} {t : TypeId} {f : Nat × Nat} (h : Rd w 1 v n (ints xs)) (hz : w.heap[z]? = some (.cells #[.slice a0 n0 c0, .slice a1 n1 c1] t f)) (hc : Chg z (z + 1) w w') : Rd w' 1 v n (ints xs) := by
  obtain ⟨h1, a, cap, rfl, h2, h3, h4⟩ := h
  refine ⟨h1, a, cap, rfl, h2, h3, h4.imp id ?_⟩
  rintro ⟨b, off, rfl, hcell⟩
  refine ⟨b, off, rfl, fun i hi => ?_⟩
  have h5 := hcell i hi
  have h6 : (ints xs)[i]? = some (.int .i64 (xs.getD i 0)) := ints_get xs i (by rw [ints_length] at hi; exact hi)
  by_cases hb : b = z
  · subst hb
    rw [h6, cell_of_row w b (off + i) _ _ _ hz] at h5
    match off + i, h5 with
    | 0, h5 => simp at h5
    | 1, h5 => simp at h5
    | k + 2, h5 => simp at h5
  · rw [h6] at h5 ⊢
    rw [World.cell?_of_block (hc.block b (World.block_lt_of_cell? w _ h5) (by omega))]; exact h5
theorem rdDisk_box {w w' : World} {v : Value} {d : DiskD} {z : Nat} {a0 a1 : Option Addr} {n0 n1 c0 c1 : Nat} {t : TypeId} {f : Nat × Nat} (h : RdDisk w v d) (hz : w.heap[z]? = some (.cells #[.slice a0 n0 c0, .slice a1 n1 c1] t f)) (hc : Chg z (z + 1) w w') : RdDisk w' v d := by
  obtain ⟨v0, v1, rfl, h0, h1⟩ := h
  exact ⟨v0, v1, rfl, rd_box h0 hz hc, rd_box h1 hz hc⟩
def LawDisk (W : World) (e : Ending) (w' : World) : Prop := ∃ v d, e = .returned v ∧ RdDisk w' v d ∧ d.1.length ≤ 2500 ∧ d.2.length ≤ 2500 ∧ Below W.heap.size W w'

set_option maxRecDepth 100000 in
set_option maxHeartbeats 1000000 in
theorem DrawDiskValid_any (W : World) (va : Value) (bs : List Int) (hr : Rd W 1 va bs.length (bys bs)) (hg : ∀ x ∈ bs, 0 ≤ x ∧ x ≤ 255) :
    Calls Try.prog 16 #[va] W (LawDisk W) := by
  have hb0 : Below W.heap.size W (W.alloc (.cells #[.slice none 0 0, .slice none 0 0] 25)) := (Below.refl _ _).alloc (Nat.le_refl _) _
  have HO := Lib.hid (open_any W va bs (W.alloc (.cells #[.slice none 0 0, .slice none 0 0] 25)) hr hg hb0); clear hr hg
  have HX := Lib.hid (heap_alloc_new W (.cells #[.slice none 0 0, .slice none 0 0] 25))
  have hs0 : (W.alloc (.cells #[.slice none 0 0, .slice none 0 0] 25)).heap.size = W.heap.size + 1 := by simp
  clear hb0
  go_enter Try.func16, Try.ntmps16
  go_wp2_with fail
  generalize (W.alloc (.cells #[.slice none 0 0, .slice none 0 0] 25)) = w0 at *
  refine HO.out.mono ?_
  rintro e w1 ⟨sv, bs', rfl, hd, hb1, hs1⟩
  rw [hs0] at hd
  have HD := Lib.hid hd; replace HX := Lib.hid (box_keep HX.out hb1)
  clear hd HO hb1
  go_wp2_with fail
  refine (l20Disk_any W sv bs' _ _ _ _ HD.out (by omega) (by omega) (by omega)).mono ?_
  rintro e w3 ⟨v, d, rfl, hrd, hl0, hl1, hd, hg⟩
  replace HX := Lib.hid ((hg.block _ (box_lt HX.out) (by omega)).trans HX.out)
  have HB := Lib.hid hd.below
  have hrd := hrd _ (Chg.refl _ _ _)
  have HR := Lib.hid hrd
  obtain ⟨v0, v1, rfl, r0, r1⟩ := hrd
  obtain ⟨p0, c0, rfl, -, -⟩ := r0.form
  obtain ⟨p1, c1, rfl, -, -⟩ := r1.form
  clear hd hg HD r0 r1
  have k0 := box_cell HX.out 0 _ rfl; have k1 := box_cell HX.out 1 _ rfl
  have f0 := box_frozen HX.out 0; have f1 := box_frozen HX.out 1
  have hxl := box_lt HX.out
  go_wp2_with fail
  have hK : Chg W.heap.size (W.heap.size + 1) w3 ((w3.setCell ⟨W.heap.size, 0, none⟩ (.slice p0 d.1.length c0)).setCell ⟨W.heap.size, 1, none⟩ (.slice p1 d.2.length c1)) :=
    (Chg.setCell (p := ⟨W.heap.size, 0, none⟩) (by simp) (by simp) _).trans (Chg.setCell (p := ⟨W.heap.size, 1, none⟩) (by simp) (by simp) _)
  have hf := hK.below HB.out (Nat.le_refl _)
  have hd2 := rdDisk_box HR.out HX.out hK
  refine bodyPost_ret (v := .agg #[.slice p0 d.1.length c0, .slice p1 d.2.length c1]) (by simp [results, Try.results16, go_sem, k0, k1]) rfl ?_
  exact ⟨_, d, rfl, hd2, hl0, hl1, hf⟩
set_option maxRecDepth 100000 in
set_option maxHeartbeats 1000000 in
theorem DrawDiskSync_any (W : World) (va : Value) (bs : List Int) (hr : Rd W 1 va bs.length (bys bs)) (hg : ∀ x ∈ bs, 0 ≤ x ∧ x ≤ 255) :
    Calls Try.prog 53 #[va] W (LawDisk W) := by
  have hb0 : Below W.heap.size W (W.alloc (.cells #[.slice none 0 0, .slice none 0 0] 25)) := (Below.refl _ _).alloc (Nat.le_refl _) _
  have HO := Lib.hid (open_any W va bs (W.alloc (.cells #[.slice none 0 0, .slice none 0 0] 25)) hr hg hb0); clear hr hg
  have HX := Lib.hid (heap_alloc_new W (.cells #[.slice none 0 0, .slice none 0 0] 25))
  have hs0 : (W.alloc (.cells #[.slice none 0 0, .slice none 0 0] 25)).heap.size = W.heap.size + 1 := by simp
  clear hb0
  go_enter Try.func53, Try.ntmps53
  go_wp2_with fail
  generalize (W.alloc (.cells #[.slice none 0 0, .slice none 0 0] 25)) = w0 at *
  refine HO.out.mono ?_
  rintro e w1 ⟨sv, bs', rfl, hd, hb1, hs1⟩
  rw [hs0] at hd
  have HD := Lib.hid hd; replace HX := Lib.hid (box_keep HX.out hb1)
  clear hd HO hb1
  go_wp2_with fail
  refine (l20Disk_any W sv bs' _ _ _ _ HD.out (by omega) (by omega) (by omega)).mono ?_
  rintro e w3 ⟨v, d, rfl, hrd, hl0, hl1, hd, hg⟩
  replace HX := Lib.hid ((hg.block _ (box_lt HX.out) (by omega)).trans HX.out)
  have HB := Lib.hid hd.below
  have hrd := hrd _ (Chg.refl _ _ _)
  have HR := Lib.hid hrd
  obtain ⟨v0, v1, rfl, r0, r1⟩ := hrd
  obtain ⟨p0, c0, rfl, -, -⟩ := r0.form
  obtain ⟨p1, c1, rfl, -, -⟩ := r1.form
  clear hd hg HD r0 r1
  have k0 := box_cell HX.out 0 _ rfl; have k1 := box_cell HX.out 1 _ rfl
  have f0 := box_frozen HX.out 0; have f1 := box_frozen HX.out 1
  have hxl := box_lt HX.out
  go_wp2_with fail
  have hK : Chg W.heap.size (W.heap.size + 1) w3 ((w3.setCell ⟨W.heap.size, 0, none⟩ (.slice p0 d.1.length c0)).setCell ⟨W.heap.size, 1, none⟩ (.slice p1 d.2.length c1)) :=
    (Chg.setCell (p := ⟨W.heap.size, 0, none⟩) (by simp) (by simp) _).trans (Chg.setCell (p := ⟨W.heap.size, 1, none⟩) (by simp) (by simp) _)
  have hf := hK.below HB.out (Nat.le_refl _)
  have hd2 := rdDisk_box HR.out HX.out hK
  refine bodyPost_ret (v := .agg #[.slice p0 d.1.length c0, .slice p1 d.2.length c1]) (by simp [results, Try.results53, go_sem, k0, k1]) rfl ?_
  exact ⟨_, d, rfl, hd2, hl0, hl1, hf⟩
set_option maxRecDepth 100000 in
set_option maxHeartbeats 1000000 in
theorem DrawDiskRepair_any (W : World) (va : Value) (bs : List Int) (hr : Rd W 1 va bs.length (bys bs)) (hg : ∀ x ∈ bs, 0 ≤ x ∧ x ≤ 255) :
    Calls Try.prog 57 #[va] W (LawDisk W) := by
  have hb0 : Below W.heap.size W (W.alloc (.cells #[.slice none 0 0, .slice none 0 0] 25)) := (Below.refl _ _).alloc (Nat.le_refl _) _
  have HO := Lib.hid (open_any W va bs (W.alloc (.cells #[.slice none 0 0, .slice none 0 0] 25)) hr hg hb0); clear hr hg
  have HX := Lib.hid (heap_alloc_new W (.cells #[.slice none 0 0, .slice none 0 0] 25))
  have hs0 : (W.alloc (.cells #[.slice none 0 0, .slice none 0 0] 25)).heap.size = W.heap.size + 1 := by simp
  clear hb0
  go_enter Try.func57, Try.ntmps57
  go_wp2_with fail
  generalize (W.alloc (.cells #[.slice none 0 0, .slice none 0 0] 25)) = w0 at *
  refine HO.out.mono ?_
  rintro e w1 ⟨sv, bs', rfl, hd, hb1, hs1⟩
  rw [hs0] at hd
  have HD := Lib.hid hd; replace HX := Lib.hid (box_keep HX.out hb1)
  clear hd HO hb1
  go_wp2_with fail
  refine (l20Disk_any W sv bs' _ _ _ _ HD.out (by omega) (by omega) (by omega)).mono ?_
  rintro e w3 ⟨v, d, rfl, hrd, hl0, hl1, hd, hg⟩
  replace HX := Lib.hid ((hg.block _ (box_lt HX.out) (by omega)).trans HX.out)
  have HB := Lib.hid hd.below
  have hrd := hrd _ (Chg.refl _ _ _)
  have HR := Lib.hid hrd
  obtain ⟨v0, v1, rfl, r0, r1⟩ := hrd
  obtain ⟨p0, c0, rfl, -, -⟩ := r0.form
  obtain ⟨p1, c1, rfl, -, -⟩ := r1.form
  clear hd hg HD r0 r1
  have k0 := box_cell HX.out 0 _ rfl; have k1 := box_cell HX.out 1 _ rfl
  have f0 := box_frozen HX.out 0; have f1 := box_frozen HX.out 1
  have hxl := box_lt HX.out
  go_wp2_with fail
  have hK : Chg W.heap.size (W.heap.size + 1) w3 ((w3.setCell ⟨W.heap.size, 0, none⟩ (.slice p0 d.1.length c0)).setCell ⟨W.heap.size, 1, none⟩ (.slice p1 d.2.length c1)) :=
    (Chg.setCell (p := ⟨W.heap.size, 0, none⟩) (by simp) (by simp) _).trans (Chg.setCell (p := ⟨W.heap.size, 1, none⟩) (by simp) (by simp) _)
  have hf := hK.below HB.out (Nat.le_refl _)
  have hd2 := rdDisk_box HR.out HX.out hK
  refine bodyPost_ret (v := .agg #[.slice p0 d.1.length c0, .slice p1 d.2.length c1]) (by simp [results, Try.results57, go_sem, k0, k1]) rfl ?_
  exact ⟨_, d, rfl, hd2, hl0, hl1, hf⟩
set_option maxRecDepth 100000 in
set_option maxHeartbeats 1000000 in
theorem DrawDiskRecords_any (W : World) (va : Value) (bs : List Int) (hr : Rd W 1 va bs.length (bys bs)) (hg : ∀ x ∈ bs, 0 ≤ x ∧ x ≤ 255) :
    Calls Try.prog 58 #[va] W (LawDisk W) := by
  have hb0 : Below W.heap.size W (W.alloc (.cells #[.slice none 0 0, .slice none 0 0] 25)) := (Below.refl _ _).alloc (Nat.le_refl _) _
  have HO := Lib.hid (open_any W va bs (W.alloc (.cells #[.slice none 0 0, .slice none 0 0] 25)) hr hg hb0); clear hr hg
  have HX := Lib.hid (heap_alloc_new W (.cells #[.slice none 0 0, .slice none 0 0] 25))
  have hs0 : (W.alloc (.cells #[.slice none 0 0, .slice none 0 0] 25)).heap.size = W.heap.size + 1 := by simp
  clear hb0
  go_enter Try.func58, Try.ntmps58
  go_wp2_with fail
  generalize (W.alloc (.cells #[.slice none 0 0, .slice none 0 0] 25)) = w0 at *
  refine HO.out.mono ?_
  rintro e w1 ⟨sv, bs', rfl, hd, hb1, hs1⟩
  rw [hs0] at hd
  have HD := Lib.hid hd; replace HX := Lib.hid (box_keep HX.out hb1)
  clear hd HO hb1
  go_wp2_with fail
  refine (l20Disk_any W sv bs' _ _ _ _ HD.out (by omega) (by omega) (by omega)).mono ?_
  rintro e w3 ⟨v, d, rfl, hrd, hl0, hl1, hd, hg⟩
  replace HX := Lib.hid ((hg.block _ (box_lt HX.out) (by omega)).trans HX.out)
  have HB := Lib.hid hd.below
  have hrd := hrd _ (Chg.refl _ _ _)
  have HR := Lib.hid hrd
  obtain ⟨v0, v1, rfl, r0, r1⟩ := hrd
  obtain ⟨p0, c0, rfl, -, -⟩ := r0.form
  obtain ⟨p1, c1, rfl, -, -⟩ := r1.form
  clear hd hg HD r0 r1
  have k0 := box_cell HX.out 0 _ rfl; have k1 := box_cell HX.out 1 _ rfl
  have f0 := box_frozen HX.out 0; have f1 := box_frozen HX.out 1
  have hxl := box_lt HX.out
  go_wp2_with fail
  have hK : Chg W.heap.size (W.heap.size + 1) w3 ((w3.setCell ⟨W.heap.size, 0, none⟩ (.slice p0 d.1.length c0)).setCell ⟨W.heap.size, 1, none⟩ (.slice p1 d.2.length c1)) :=
    (Chg.setCell (p := ⟨W.heap.size, 0, none⟩) (by simp) (by simp) _).trans (Chg.setCell (p := ⟨W.heap.size, 1, none⟩) (by simp) (by simp) _)
  have hf := hK.below HB.out (Nat.le_refl _)
  have hd2 := rdDisk_box HR.out HX.out hK
  refine bodyPost_ret (v := .agg #[.slice p0 d.1.length c0, .slice p1 d.2.length c1]) (by simp [results, Try.results58, go_sem, k0, k1]) rfl ?_
  exact ⟨_, d, rfl, hd2, hl0, hl1, hf⟩

/-- What stands while a place is drawn beside a disk. -/
structure CG (W : World) (sv : Value) (bs : List Int) (v0 v1 : Value) (d : DiskD) (B : Nat) (n : Nat) (L : Nat → Bool) (w : World) : Prop where
  drw : Drw W sv bs (W.heap.size + 1) (900 + (n : Int)) w
  box : w.heap[B]? = some (.cells #[v0, v1] 25 (0, 0))
  rd : L 11 = false → ∀ w'', Chg (W.heap.size + 1) (W.heap.size + 1 + 1) w w'' → RdDisk w'' (.agg #[v0, v1]) d
  done : L 11 = true → RdDisk w (.agg #[v0, v1]) d ∧ w.heap[W.heap.size]? = some (.cells #[v0, v1] 25 (0, 0))
  ord : L 11 = true → L 6 = true
  ord2 : L 6 = true → L 2 = true
  res : L 11 = false → w.heap[W.heap.size]? = some (.cells #[.slice none 0 0, .slice none 0 0] 25 (0, 0))
  far : W.heap.size + 1 + 1 ≤ B
section
variable {W : World} {sv : Value} {bs : List Int} {v0 v1 : Value} {d : DiskD} {B n : Nat} {L : Nat → Bool} {w w' : World}
theorem CG.below (h : CG W sv bs v0 v1 d B n L w) {i : Nat} (hi : i ≠ 11) (h6 : i = 6 → L 2 = true) (hb : Below w.heap.size w w') : CG W sv bs v0 v1 d B (n + 1) (setL L i) w' := by
  have e : setL L i 11 = L 11 := by simp [setL, Ne.symm hi]
  refine ⟨(h.drw.keep hb).mono (by omega), box_keep h.box hb, fun e' w'' hc => ?_, fun e' => ?_, fun e' => ?_, fun e' => ?_, fun e' => ?_, h.far⟩
  · rw [e] at e'; exact h.rd e' w'' ((Chg.of_below hb).trans hc)
  · rw [e] at e'; exact ⟨(h.done e').1.keep hb, box_keep (h.done e').2 hb⟩
  · rw [e] at e'; simp [setL, h.ord e']
  · by_cases hi6 : i = 6
    · subst hi6; simp [setL, h6 rfl]
    · have : L 6 = true := by simpa [setL, Ne.symm hi6] using e'
      simp [setL, h.ord2 this]
  · rw [e] at e'; exact box_keep (h.res e') hb
theorem CG.pick (h : CG W sv bs v0 v1 d B n L w) {i : Nat} (hi : i ≠ 11) (h26 : i = 2 ∨ (i = 6 ∧ L 2 = true)) (hL : L i = false) (hd : Drw W sv bs (W.heap.size + 1) (900 + (n : Int) + 1) w') (hg : Chg (W.heap.size + 1) (W.heap.size + 1 + 1) w w') : CG W sv bs v0 v1 d B (n + 1) (setL L i) w' := by
  have e : setL L i 11 = L 11 := by simp [setL, Ne.symm hi]
  have hf := h.far
  have h11 : L 11 = false := by
    cases e1 : L 11 with
    | false => rfl
    | true =>
      have h6 := h.ord e1
      rcases h26 with rfl | ⟨rfl, _⟩
      · rw [h.ord2 h6] at hL; cases hL
      · rw [h6] at hL; cases hL
  refine ⟨hd.mono (by omega), (hg.block _ (box_lt h.box) (by omega)).trans h.box, fun e' w'' hc => ?_, fun e' => ?_, fun e' => ?_, fun e' => ?_, fun e' => ?_, h.far⟩
  · exact h.rd h11 w'' (hg.trans hc)
  · rw [e, h11] at e'; cases e'
  · rw [e, h11] at e'; cases e'
  · rcases h26 with rfl | ⟨rfl, h2⟩
    · simp [setL]
    · simp [setL, h2]
  · exact (hg.block _ (box_lt (h.res h11)) (by omega)).trans (h.res h11)
theorem CG.store (h : CG W sv bs v0 v1 d B n L w) (hL : L 11 = false) (h6 : L 6 = true) (hw' : w' = (w.setCell ⟨W.heap.size, 0, none⟩ v0).setCell ⟨W.heap.size, 1, none⟩ v1) : CG W sv bs v0 v1 d B (n + 1) (setL L 11) w' := by
  subst hw'
  have hf := h.far
  have hK : Chg W.heap.size (W.heap.size + 1) w ((w.setCell ⟨W.heap.size, 0, none⟩ v0).setCell ⟨W.heap.size, 1, none⟩ v1) :=
    (Chg.setCell (p := ⟨W.heap.size, 0, none⟩) (by simp) (by simp) _).trans (Chg.setCell (p := ⟨W.heap.size, 1, none⟩) (by simp) (by simp) _)
  have hD : Drw W sv bs (W.heap.size + 1) (900 + ((n + 1 : Nat) : Int)) ((w.setCell ⟨W.heap.size, 0, none⟩ v0).setCell ⟨W.heap.size, 1, none⟩ v1) := by
    obtain ⟨p, hp, p0, p1⟩ := h.drw.blk
    exact ⟨hK.below h.drw.below (Nat.le_refl _), h.drw.lo, ⟨p, (hK.block _ (box_lt hp) (by omega)).trans hp, p0, by omega⟩, h.drw.rd, h.drw.rng, h.drw.len⟩
  refine ⟨hD, (hK.block _ (box_lt h.box) (by omega)).trans h.box, fun e' => ?_, fun e' => ⟨?_, ?_⟩, fun e' => ?_, fun e' => ?_, fun e' => ?_, h.far⟩
  · simp [setL] at e'
  · exact rdDisk_box (h.rd hL w (Chg.refl _ _ _)) (h.res hL) hK
  · exact box_set (box_set (h.res hL) 0 v0) 1 v1
  · simp [setL, h6]
  · have : L 6 = true := h6
    simp [setL, h.ord2 this]
  · simp [setL] at e'
end
theorem stab_litI' (lo r n : Nat) (p : List Int → Prop) : Stab (Chg lo (r + 1)) (litI r n p) := fun v w w' hr ⟨b, cs, h1, h2, h3, h4, h5⟩ => ⟨b, cs, h1, (hr.block b (box_lt h2) (.inr (by omega))).trans h2, h3, h4, h5⟩
theorem stab_litA' (lo r n : Nat) (p : List Int → Prop) : Stab (Chg lo (r + 1)) (litA r n p) := fun v w w' hr ⟨b, j, cs, h0, h1, h2, h3, h4, h5⟩ => ⟨b, j, cs, h0, h1, (hr.block b (box_lt h2) (.inr (by omega))).trans h2, h3, h4, h5⟩

set_option maxRecDepth 100000 in
set_option maxHeartbeats 2000000 in
theorem DrawDiskCrash_any (W : World) (va : Value) (bs : List Int) (hr : Rd W 1 va bs.length (bys bs)) (hg : ∀ x ∈ bs, 0 ≤ x ∧ x ≤ 255) :
    Calls Try.prog 39 #[va] W fun e w' => ∃ v d k, e = .returned (.tuple #[v, .int .i64 k]) ∧ RdDisk w' v d ∧ d.1.length ≤ 2500 ∧ d.2.length ≤ 2500 ∧ In64 k ∧ Below W.heap.size W w' := by
  have hb0 : Below W.heap.size W (W.alloc (.cells #[.slice none 0 0, .slice none 0 0] 25)) := (Below.refl _ _).alloc (Nat.le_refl _) _
  have HO := Lib.hid (open_any W va bs (W.alloc (.cells #[.slice none 0 0, .slice none 0 0] 25)) hr hg hb0); clear hr hg
  have HX := Lib.hid (heap_alloc_new W (.cells #[.slice none 0 0, .slice none 0 0] 25))
  have hs0 : (W.alloc (.cells #[.slice none 0 0, .slice none 0 0] 25)).heap.size = W.heap.size + 1 := by simp
  clear hb0
  go_enter Try.func39, Try.ntmps39
  go_wp2_with fail
  generalize (W.alloc (.cells #[.slice none 0 0, .slice none 0 0] 25)) = w0 at *
  refine HO.out.mono ?_
  rintro e w1 ⟨sv, bs', rfl, hd, hb1, hs1⟩
  rw [hs0] at hd
  have HD := Lib.hid hd; replace HX := Lib.hid (box_keep HX.out hb1)
  clear hd HO hb1
  go_wp2_with fail
  refine (l20Disk_any W sv bs' _ _ _ _ HD.out (by omega) (by omega) (by omega)).mono ?_
  rintro e w3 ⟨v, d, rfl, hrd, hl0, hl1, hd, hg⟩
  replace HX := Lib.hid ((hg.block _ (box_lt HX.out) (by omega)).trans HX.out)
  have HR := Lib.hid hrd
  replace HD := Lib.hid hd
  obtain ⟨v0, v1, rfl, r0, r1⟩ := hrd _ (Chg.refl _ _ _)
  obtain ⟨p0, c0, rfl, -, -⟩ := r0.form
  obtain ⟨p1, c1, rfl, -, -⟩ := r1.form
  have hs3 := hg.size
  clear hd hg r0 r1
  have hb4 : Below w3.heap.size w3 (w3.alloc (.cells #[.slice p0 d.1.length c0, .slice p1 d.2.length c1] 25)) := (Below.refl _ _).alloc (Nat.le_refl _) _
  have HB := Lib.hid (heap_alloc_new w3 (.cells #[.slice p0 d.1.length c0, .slice p1 d.2.length c1] 25))
  replace HX := Lib.hid (box_keep HX.out hb4); replace HR := Lib.hid fun (w'' : World) (h : Chg (W.heap.size + 1) (W.heap.size + 1 + 1) (w3.alloc (.cells #[.slice p0 d.1.length c0, .slice p1 d.2.length c1] 25)) w'') => HR.out w'' (((Chg.refl _ _ _).alloc _).trans h); replace HD := Lib.hid (HD.out.keep hb4)
  have hs4 : (w3.alloc (.cells #[.slice p0 d.1.length c0, .slice p1 d.2.length c1] 25)).heap.size = w3.heap.size + 1 := by simp
  clear hb4
  go_wp2_with fail
  generalize (w3.alloc (.cells #[.slice p0 d.1.length c0, .slice p1 d.2.length c1] 25)) = w4 at *
  refine wp_region_rel (fun x => { tmps := #[va, undef, .pointer (some ⟨W.heap.size, 0, none⟩), x 3, .pointer (some ⟨W.heap.size + 1, 0, none⟩), .pointer (some ⟨w3.heap.size, 0, none⟩), va, .pointer (some ⟨W.heap.size + 1, 0, none⟩), .pointer (some ⟨W.heap.size + 1, 0, none⟩), .agg #[.slice p0 d.1.length c0, .slice p1 d.2.length c1], x 10, x 11, x 12, x 13, x 14, x 15, x 16, x 17, x 18, x 19, x 20], defers := [] })
    (fun k => if k = 3 then .int .i64 0 else undef) (CG W sv bs' (.slice p0 d.1.length c0) (.slice p1 d.2.length c1) d w3.heap.size) (fun _ => Chg W.heap.size (W.heap.size + 1 + 1))
    (Tl [cst (.agg #[.slice p0 d.1.length c0, .slice p1 d.2.length c1]), cst (.pointer (some ⟨W.heap.size + 1, 0, none⟩)), intP (fun c => 0 ≤ c ∧ c < 30), litI (W.heap.size + 1) 4 WfIntS, litI (W.heap.size + 1) 7 (fun cs => ∀ c ∈ cs, 0 ≤ c ∧ c < 4),
      cst (.pointer (some ⟨W.heap.size + 1, 0, none⟩)), intP (fun c => 0 ≤ c ∧ c < 7), litA (W.heap.size + 1) 7 (fun cs => ∀ c ∈ cs, 0 ≤ c ∧ c < 4), intP (fun c => 0 ≤ c ∧ c < 4), litA (W.heap.size + 1) 4 WfIntS, intP In64, tru, intP In64])
    (by kernel_rfl) (by kernel_rfl) (by kernel_rfl) (stab_Tl ?hst) (fun _ w => Chg.refl _ _ w) ?hG0 ?hput ?hop ?hend
  case hst =>
    simp only [List.mem_cons, List.not_mem_nil, or_false, forall_eq_or_imp, forall_eq]
    refine ⟨?_, ?_, ?_, ?_, ?_, ?_, ?_, ?_, ?_, ?_, ?_, ?_, ?_⟩
    all_goals first | exact stab_cst _ _ | exact stab_intP _ _ | exact stab_litI' _ _ _ _ | exact stab_litA' _ _ _ _ | exact stab_tru _
  case hG0 =>
    have hdr : Below w4.heap.size w4 w4.drew := (Below.refl _ _).drew
    exact ⟨(HD.out.keep hdr).mono (by omega), box_keep HB.out hdr, fun _ w'' h => HR.out w'' (((Chg.refl _ _ _).drew).trans h), (fun h => by cases h), (fun h => by cases h), (fun h => by cases h), fun _ => box_keep HX.out hdr, by omega⟩
  case hput =>
    refine ⟨?_, ?_, ?_, ?_, ?_, ?_, ?_, ?_, ?_, ?_, ?_, ?_, ?_, trivial⟩
    all_goals first | exact fun x v => rfl | exact trivial
  case hop =>
    refine ⟨?_, ?_, ?_, ?_, ?_, ?_, ?_, ?_, ?_, ?_, ?_, ?_, ?_, trivial⟩
    · refine OpRel.plain rfl fun n L x w K hn hL hG hdep hK => ?_
      have k0 := box_cell hG.box 0 _ rfl; have k1 := box_cell hG.box 1 _ rfl
      clear hdep
      go_simp
      exact hK _ _ (hG.below (by decide) (fun h => by cases h) (Below.refl _ _)) (Chg.refl _ _ _) rfl
    · refine OpRel.plain rfl fun n L x w K hn hL hG hdep hK => ?_
      clear hdep
      go_simp
      exact hK _ _ (hG.below (by decide) (fun h => by cases h) (Below.refl _ _)) (Chg.refl _ _ _) rfl
    · refine OpRel.plain rfl fun n L x w K hn hL hG hdep hK => ?_
      have h11 : x 11 = .pointer (some ⟨W.heap.size + 1, 0, none⟩) := (hdep 1 rfl).2 _ rfl
      clear hdep
      simp only [h11] at hK
      go_simp
      refine (pick_any W sv bs' _ _ _ _ hG.drw (by simp at hn; omega) (by omega) (by omega)).mono ?_
      rintro e w' ⟨c, rfl, c0, c1, c2, hd, hg⟩
      exact hK _ _ (hG.pick (by decide) (.inl rfl) hL hd hg) (hg.mono (by omega) (Nat.le_refl _)) ⟨c, rfl, c0, c1 (by omega)⟩
    · refine OpRel.plain rfl fun n L x w K hn hL hG hdep hK => ?_
      obtain ⟨c, h12, c0, c1⟩ := (hdep 2 rfl).2 _ rfl
      clear hdep
      simp only [h12] at hK
      go_simp
      have hlt := hG.drw.lt
      exact hK _ _ (hG.below (by decide) (fun h => by cases h) ((Below.refl _ _).alloc (Nat.le_refl _) _)) ((Chg.refl _ _ _).alloc _) ⟨w.heap.size, [c, 0, -1, 9223372036854775807], rfl, heap_alloc_new _ _, hlt, rfl, by simp [WfIntS, In64]; omega⟩
    · refine OpRel.plain rfl fun n L x w K hn hL hG hdep hK => ?_
      clear hdep
      go_simp
      have hlt := hG.drw.lt
      exact hK _ _ (hG.below (by decide) (fun h => by cases h) ((Below.refl _ _).alloc (Nat.le_refl _) _)) ((Chg.refl _ _ _).alloc _) ⟨w.heap.size, [0, 0, 0, 0, 1, 2, 3], rfl, heap_alloc_new _ _, hlt, rfl, by simp⟩
    · refine OpRel.plain rfl fun n L x w K hn hL hG hdep hK => ?_
      clear hdep
      go_simp
      exact hK _ _ (hG.below (by decide) (fun h => by cases h) (Below.refl _ _)) (Chg.refl _ _ _) rfl
    · refine OpRel.plain rfl fun n L x w K hn hL hG hdep hK => ?_
      have hL2 := (hdep 2 rfl).1
      have h15 : x 15 = .pointer (some ⟨W.heap.size + 1, 0, none⟩) := (hdep 5 rfl).2 _ rfl
      clear hdep
      simp only [h15] at hK
      go_simp
      refine (pick_any W sv bs' _ _ _ _ hG.drw (by simp at hn; omega) (by omega) (by omega)).mono ?_
      rintro e w' ⟨c, rfl, c0, c1, c2, hd, hg⟩
      exact hK _ _ (hG.pick (by decide) (.inr ⟨rfl, hL2⟩) hL hd hg) (hg.mono (by omega) (Nat.le_refl _)) ⟨c, rfl, c0, c1 (by omega)⟩
    iterate 2
      · refine OpRel.plain rfl fun n L x w K hn hL hG hdep hK => ?_
        first
          | obtain ⟨b, cs, hsl, hb, hrb, hcl, hp⟩ := (hdep 4 rfl).2 _ rfl
            obtain ⟨c, hix, c0, c1⟩ := (hdep 6 rfl).2 _ rfl
          | obtain ⟨b, cs, hsl, hb, hrb, hcl, hp⟩ := (hdep 3 rfl).2 _ rfl
            obtain ⟨c, hix, c0, c1⟩ := (hdep 8 rfl).2 _ rfl
        clear hdep
        obtain ⟨j, rfl⟩ := Int.eq_ofNat_of_zero_le c0
        simp only [hsl, hix] at hK
        go_simp
        exact hK _ _ (hG.below (by decide) (fun h => by cases h) (Below.refl _ _)) (Chg.refl _ _ _) ⟨b, j, cs, by omega, by simp, hb, hrb, hcl, hp⟩
      · refine OpRel.plain rfl fun n L x w K hn hL hG hdep hK => ?_
        first
          | obtain ⟨b, j, cs, hj, had, hb, hrb, hcl, hp⟩ := (hdep 7 rfl).2 _ rfl
          | obtain ⟨b, j, cs, hj, had, hb, hrb, hcl, hp⟩ := (hdep 9 rfl).2 _ rfl
        clear hdep
        have hc := lit_cell hb (j := j) (by omega)
        have hz := hp (cs.getD j 0) (by simp [show j < cs.length by omega])
        generalize cs.getD j 0 = z at *
        simp only [had] at hK
        go_simp
        exact hK _ _ (hG.below (by decide) (fun h => by cases h) (Below.refl _ _)) (Chg.refl _ _ _) ⟨z, rfl, hz⟩
    · refine OpRel.plain rfl fun n L x w K hn hL hG hdep hK => ?_
      have h10 : x 10 = .agg #[.slice p0 d.1.length c0, .slice p1 d.2.length c1] := (hdep 0 rfl).2 _ rfl
      have hL6 := (hdep 6 rfl).1
      clear hdep
      simp only [h10] at hK
      have k0 := box_cell (hG.res hL) 0 _ rfl; have k1 := box_cell (hG.res hL) 1 _ rfl
      have f0 := box_frozen (hG.res hL) 0; have f1 := box_frozen (hG.res hL) 1
      go_simp
      have hKc : Chg W.heap.size (W.heap.size + 1) w ((w.setCell ⟨W.heap.size, 0, none⟩ (.slice p0 d.1.length c0)).setCell ⟨W.heap.size, 1, none⟩ (.slice p1 d.2.length c1)) :=
        (Chg.setCell (p := ⟨W.heap.size, 0, none⟩) (by simp) (by simp) _).trans (Chg.setCell (p := ⟨W.heap.size, 1, none⟩) (by simp) (by simp) _)
      exact hK undef _ (hG.store hL hL6 rfl) (hKc.mono (Nat.le_refl _) (by omega)) trivial
    · refine OpRel.plain rfl fun n L x w K hn hL hG hdep hK => ?_
      obtain ⟨c, h20, hc⟩ := (hdep 10 rfl).2 _ rfl
      clear hdep
      simp only [h20] at hK
      go_simp
      exact hK _ _ (hG.below (by decide) (fun h => by cases h) (Below.refl _ _)) (Chg.refl _ _ _) ⟨c, rfl, hc⟩
  case hend =>
    intro n L x w hn hG hh
    have hL := (hh 11 (by decide)).1
    obtain ⟨y, h3, hy⟩ := (hh 12 (by decide)).2 _ rfl
    clear hh
    simp only [h3]
    obtain ⟨hrd, hres⟩ := hG.done hL
    have HRD := Lib.hid hrd; have HRES := Lib.hid hres; have HBL := Lib.hid hG.drw.below
    clear hG h3 hrd hres
    have k0 := box_cell HRES.out 0 _ rfl; have k1 := box_cell HRES.out 1 _ rfl
    go_wp2_with fail
    refine bodyPost_ret (v := .tuple #[.agg #[.slice p0 d.1.length c0, .slice p1 d.2.length c1], .int .i64 y]) (by simp [results, Try.results39, go_sem, k0, k1]) rfl ?_
    exact ⟨_, d, y, rfl, HRD.out, hl0, hl1, hy, HBL.out⟩
end Go.Proofs.Ytdflpildopefaaa
