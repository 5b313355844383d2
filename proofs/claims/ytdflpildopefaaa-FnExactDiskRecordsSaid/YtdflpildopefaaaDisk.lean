/-
  Disks: size, copy, comparison; which are valid: the program's function and the reference's.
-/
import Derived.Test.YtdflpildopefaaaArgs2
import Derived.Test.YtdflpildopefaaaBytes
import Derived.Deep.RegionHeld3
namespace Go.Proofs.Ytdflpildopefaaa
open Go.RowKit

def sizeDisk (d : DiskD) : Nat := d.1.length + d.2.length
theorem szIntS_ok (w : World) (va : Value) (xs : List Int) (left : Int) (h : RdIntS w va xs) (hl : (xs.length : Int) ≤ left) (h2 : left ≤ 1048576) :
    Calls Try.prog 66 #[va, .int .i64 left] w fun e w' => e = .returned (.int .i64 (left - (xs.length : Int))) ∧ w = w' := by
  obtain ⟨a, ca, rfl, hca, hma, Ha⟩ := h.int
  clear h Ha
  go_enter Try.func66, Try.ntmps66
  go_wp2_with fail
  go_ret
  exact ⟨rfl, rfl⟩
theorem szIntS_no (w : World) (va : Value) (xs : List Int) (left : Int) (h : RdIntS w va xs) (hl : left < (xs.length : Int)) (h0 : 0 ≤ left) (h2 : left ≤ 1048576) :
    Calls Try.prog 66 #[va, .int .i64 left] w fun e w' => e = .returned (.int .i64 (-1)) ∧ w = w' := by
  obtain ⟨a, ca, rfl, hca, hma, Ha⟩ := h.int
  clear h Ha
  go_enter Try.func66, Try.ntmps66
  go_wp2_with fail
  go_ret
  exact ⟨rfl, rfl⟩

set_option maxRecDepth 100000 in
theorem szDisk_ok (w : World) (va : Value) (d : DiskD) (left : Int) (h : RdDisk w va d) (hl : (sizeDisk d : Int) ≤ left) (h2 : left ≤ 1048576) :
    Calls Try.prog 45 #[va, .int .i64 left] w fun e w' => e = .returned (.int .i64 (left - (sizeDisk d : Int))) ∧ Below w.heap.size w w' := by
  obtain ⟨v0, v1, rfl, h0, h1⟩ := h
  unfold sizeDisk at *
  have hb : Below w.heap.size w (w.alloc (.cells #[v0, v1] 54)) := (Below.refl _ _).alloc (Nat.le_refl _) _
  have c1 := szIntS_ok _ _ _ left (h0.keep hb) (by omega) h2
  have c2 := szIntS_ok _ _ _ (left - (d.1.length : Int)) (h1.keep hb) (by omega) (by omega)
  have C1 := Lib.hid c1; have C2 := Lib.hid c2; clear c1 c2 h0 h1
  go_enter Try.func45, Try.ntmps45
  go_wp2_with fail
  refine C1.out.mono ?_
  rintro e w' ⟨rfl, rfl⟩
  go_wp2_with fail
  refine C2.out.mono ?_
  rintro e w' ⟨rfl, rfl⟩
  go_wp2_with fail
  go_ret
  exact ⟨by rw [show left - (((d.1.length + d.2.length : Nat)) : Int) = left - (d.1.length : Int) - (d.2.length : Int) from by omega]; rfl, hb⟩
set_option maxRecDepth 100000 in
theorem szDisk_no (w : World) (va : Value) (d : DiskD) (left : Int) (h : RdDisk w va d) (hl : left < (sizeDisk d : Int)) (hl0 : 0 ≤ left) (h2 : left ≤ 1048576) :
    Calls Try.prog 45 #[va, .int .i64 left] w fun e w' => e = .returned (.int .i64 (-1)) ∧ Below w.heap.size w w' := by
  obtain ⟨v0, v1, rfl, h0, h1⟩ := h
  unfold sizeDisk at *
  have hb : Below w.heap.size w (w.alloc (.cells #[v0, v1] 54)) := (Below.refl _ _).alloc (Nat.le_refl _) _
  by_cases hc : (d.1.length : Int) ≤ left
  · have c1 := szIntS_ok _ _ _ left (h0.keep hb) hc h2
    have c2 := szIntS_no _ _ _ (left - (d.1.length : Int)) (h1.keep hb) (by omega) (by omega) (by omega)
    have C1 := Lib.hid c1; have C2 := Lib.hid c2; clear c1 c2 h0 h1
    go_enter Try.func45, Try.ntmps45
    go_wp2_with fail
    refine C1.out.mono ?_
    rintro e w' ⟨rfl, rfl⟩
    go_wp2_with fail
    refine C2.out.mono ?_
    rintro e w' ⟨rfl, rfl⟩
    go_wp2_with fail
    go_ret
    exact ⟨rfl, hb⟩
  · have c1 := szIntS_no _ _ _ left (h0.keep hb) (by omega) hl0 h2
    have C1 := Lib.hid c1; clear c1 h0 h1
    go_enter Try.func45, Try.ntmps45
    go_wp2_with fail
    refine C1.out.mono ?_
    rintro e w' ⟨rfl, rfl⟩
    go_wp2_with fail
    go_ret
    exact ⟨rfl, hb⟩

theorem RdDisk.keep {w w' : World} {v : Value} {d : DiskD} (h : RdDisk w v d) (hb : Below w.heap.size w w') : RdDisk w' v d := by
  obtain ⟨v0, v1, rfl, h0, h1⟩ := h
  exact ⟨v0, v1, rfl, h0.keep hb, h1.keep hb⟩
/-- A disk that is owned: Safe's blocks, then Fresh's. -/
def OwDisk (lo hi : Nat) (w : World) (v : Value) (d : DiskD) : Prop := ∃ v0 v1 mid, v = .agg #[v0, v1] ∧ lo ≤ mid ∧ mid ≤ hi ∧ OwIntS lo mid w v0 d.1 ∧ OwIntS mid hi w v1 d.2
theorem OwDisk.rd {lo hi : Nat} {w : World} {v : Value} {d : DiskD} (h : OwDisk lo hi w v d) : RdDisk w v d := by
  obtain ⟨v0, v1, mid, rfl, _, _, h0, h1⟩ := h
  exact ⟨v0, v1, rfl, h0.rd, h1.rd⟩
theorem OwDisk.keep {lo hi : Nat} {w w' : World} {v : Value} {d : DiskD} (h : OwDisk lo hi w v d) (hb : Below w.heap.size w w') : OwDisk lo hi w' v d := by
  obtain ⟨v0, v1, mid, rfl, hl, hh, h0, h1⟩ := h
  exact ⟨v0, v1, mid, rfl, hl, hh, h0.keep hb, h1.keep hb⟩
theorem OwDisk.chg {lo hi lo' hi' : Nat} {w w' : World} {v : Value} {d : DiskD} (h : OwDisk lo hi w v d) (hc : Chg lo' hi' w w') (hd : hi' ≤ lo ∨ hi ≤ lo') : OwDisk lo hi w' v d := by
  obtain ⟨v0, v1, mid, rfl, hl, hh, h0, h1⟩ := h
  exact ⟨v0, v1, mid, rfl, hl, hh, h0.chg hc (by omega), h1.chg hc (by omega)⟩

set_option maxRecDepth 100000 in
set_option maxHeartbeats 1000000 in
theorem toDisk_any (w : World) (va : Value) (d : DiskD) (h : RdDisk w va d) (hs : sizeDisk d ≤ 1099511627776) :
    Calls Try.prog 47 #[va] w fun e w' => ∃ v, e = .returned v ∧ OwDisk w.heap.size w'.heap.size w' v d ∧ Below w.heap.size w w' := by
  obtain ⟨v0, v1, rfl, h0, h1⟩ := h
  unfold sizeDisk at *
  have H0 := Lib.hid h0; have H1 := Lib.hid h1; clear h0 h1
  go_enter Try.func47, Try.ntmps47
  go_wp2_with fail
  have B1 := Lib.hid (box_alloc (box_alloc (heap_alloc_new w (.cells #[v0, v1] 54)) (.cells #[.slice none 0 0, .slice none 0 0] 25)) (.cells #[.slice none 0 0, .slice none 0 0] 25))
  have B2 := Lib.hid (box_alloc (heap_alloc_new (w.alloc (.cells #[v0, v1] 54)) (.cells #[.slice none 0 0, .slice none 0 0] 25)) (.cells #[.slice none 0 0, .slice none 0 0] 25))
  have B3 := Lib.hid (heap_alloc_new ((w.alloc (.cells #[v0, v1] 54)).alloc (.cells #[.slice none 0 0, .slice none 0 0] 25)) (.cells #[.slice none 0 0, .slice none 0 0] 25))
  have HB : Hid (Below w.heap.size w (((w.alloc (.cells #[v0, v1] 54)).alloc (.cells #[.slice none 0 0, .slice none 0 0] 25)).alloc (.cells #[.slice none 0 0, .slice none 0 0] 25))) := Lib.hid (by go_grown)
  simp only [World.size_alloc] at B1 B2 B3
  generalize (((w.alloc (.cells #[v0, v1] 54)).alloc (.cells #[.slice none 0 0, .slice none 0 0] 25)).alloc (.cells #[.slice none 0 0, .slice none 0 0] 25)) = w0 at *
  refine (toIntS_any _ _ d.1 (H0.out.keep HB.out) (by omega)).mono ?_
  rintro e w1 ⟨x0, rfl, ho1, hb1⟩
  obtain ⟨-, a0, c0, rfl, -, -, -⟩ := ho1.rd
  replace B1 := Lib.hid (box_keep B1.out hb1)
  have hB3 := box_lt B3.out
  replace B2 := Lib.hid (box_keep B2.out hb1)
  replace B3 := Lib.hid (box_keep B3.out hb1)
  have HO1 := Lib.hid ho1
  have hw0 := HB.out.size
  have hw1 := hb1.size
  replace HB := Lib.hid (HB.out.tr hb1)
  clear ho1 hb1
  have k11 := box_cell B1.out 1 v1 rfl
  have k30 := box_cell B3.out 0 _ rfl
  have f3 := box_frozen B3.out 0
  go_wp2_with fail
  clear k11 k30 f3
  have hK : Chg (w.heap.size + 1 + 1) (w.heap.size + 1 + 1 + 1) w1 (w1.setCell ⟨w.heap.size + 1 + 1, 0, none⟩ (.slice a0 d.1.length c0)) := Chg.setCell (p := ⟨w.heap.size + 1 + 1, 0, none⟩) (Nat.le_refl _) (Nat.lt_succ_self _) _
  replace HB := Lib.hid (hK.below HB.out (by omega))
  replace HO1 := Lib.hid (HO1.out.chg hK (.inl (by omega)))
  replace B1 := Lib.hid (box_other B1.out ⟨w.heap.size + 1 + 1, 0, none⟩ (.slice a0 d.1.length c0) (by simp; omega))
  replace B2 := Lib.hid (box_other B2.out ⟨w.heap.size + 1 + 1, 0, none⟩ (.slice a0 d.1.length c0) (by simp))
  replace B3 := Lib.hid (box_set B3.out 0 (.slice a0 d.1.length c0))
  have hsz : w1.heap.size ≤ (w1.setCell ⟨w.heap.size + 1 + 1, 0, none⟩ (.slice a0 d.1.length c0)).heap.size := by simp
  clear hK
  generalize (w1.setCell ⟨w.heap.size + 1 + 1, 0, none⟩ (.slice a0 d.1.length c0)) = w2 at *
  refine (toIntS_any _ _ d.2 (H1.out.keep HB.out) (by omega)).mono ?_
  rintro e w3 ⟨x1, rfl, ho3, hb3⟩
  obtain ⟨-, a1, c1, rfl, -, -, -⟩ := ho3.rd
  replace B2 := Lib.hid (box_keep B2.out hb3)
  replace B3 := Lib.hid (box_keep B3.out hb3)
  replace HO1 := Lib.hid (HO1.out.keep hb3)
  have HO3 := Lib.hid ho3
  have hsz3 := hb3.size
  replace HB := Lib.hid (HB.out.tr hb3)
  clear ho3 hb3 B1
  have k20 := box_cell B2.out 0 _ rfl
  have k21 := box_cell B2.out 1 _ rfl
  have f20 := box_frozen B2.out 0
  have f21 := box_frozen B2.out 1
  have k30 := box_cell B3.out 0 (.slice a0 d.1.length c0) rfl
  have k31 := box_cell B3.out 1 _ rfl
  have f3 := box_frozen B3.out 1
  go_wp2_with fail
  have hK : Chg (w.heap.size + 1) (w.heap.size + 1 + 1 + 1) w3 (((w3.setCell ⟨w.heap.size + 1 + 1, 1, none⟩ (.slice a1 d.2.length c1)).setCell ⟨w.heap.size + 1, 0, none⟩ (.slice a0 d.1.length c0)).setCell ⟨w.heap.size + 1, 1, none⟩ (.slice a1 d.2.length c1)) :=
    ((Chg.setCell (p := ⟨w.heap.size + 1 + 1, 1, none⟩) (by simp) (by simp) _).trans (Chg.setCell (p := ⟨w.heap.size + 1, 0, none⟩) (by simp) (by simp) _)).trans (Chg.setCell (p := ⟨w.heap.size + 1, 1, none⟩) (by simp) (by simp) _)
  have HO1' := HO1.out.chg hK (.inl (by omega))
  have HO3' := HO3.out.chg hK (.inl (by omega))
  refine bodyPost_ret (v := .agg #[.slice a0 d.1.length c0, .slice a1 d.2.length c1]) (by simp [results, Try.results47, go_sem, k20, k21]) rfl ⟨_, rfl, ⟨_, _, w1.heap.size, rfl, by omega, by simp; omega, HO1'.mono (by omega) (Nat.le_refl _), HO3'.mono hsz (by simp)⟩, hK.below HB.out (by omega)⟩

set_option maxRecDepth 100000 in
set_option maxHeartbeats 1000000 in
theorem eqDisk_same (w : World) (va vb : Value) (d : DiskD) (ha : RdDisk w va d) (hb : RdDisk w vb d) :
    Calls Try.prog 49 #[va, vb] w fun e w' => e = .returned (.bool true) ∧ Below w.heap.size w w' := by
  obtain ⟨v0, v1, rfl, a0, a1⟩ := ha
  obtain ⟨u0, u1, rfl, b0, b1⟩ := hb
  have A0 := Lib.hid a0; have A1 := Lib.hid a1; have B0 := Lib.hid b0; have B1 := Lib.hid b1; clear a0 a1 b0 b1
  go_enter Try.func49, Try.ntmps49
  go_wp2_with fail
  have X1 := Lib.hid (box_alloc (heap_alloc_new w (.cells #[v0, v1] 25)) (.cells #[u0, u1] 25))
  have X2 := Lib.hid (heap_alloc_new (w.alloc (.cells #[v0, v1] 25)) (.cells #[u0, u1] 25))
  have HB : Hid (Below w.heap.size w ((w.alloc (.cells #[v0, v1] 25)).alloc (.cells #[u0, u1] 25))) := Lib.hid (by go_grown)
  simp only [World.size_alloc] at X1 X2
  generalize ((w.alloc (.cells #[v0, v1] 25)).alloc (.cells #[u0, u1] 25)) = w0 at *
  refine (eqIntS_same _ _ _ d.1 (A0.out.keep HB.out) (B0.out.keep HB.out)).mono ?_
  rintro e w1 ⟨rfl, hb1⟩
  replace X1 := Lib.hid (box_keep X1.out hb1)
  replace X2 := Lib.hid (box_keep X2.out hb1)
  replace HB := Lib.hid (HB.out.tr hb1)
  clear hb1
  have k1 := box_cell X1.out 1 v1 rfl
  have k2 := box_cell X2.out 1 u1 rfl
  go_wp2_with fail
  refine (eqIntS_same _ _ _ d.2 (A1.out.keep HB.out) (B1.out.keep HB.out)).mono ?_
  rintro e w2 ⟨rfl, hb2⟩
  replace HB := Lib.hid (HB.out.tr hb2)
  clear hb2 k1 k2
  go_wp2_with fail
  go_ret
  exact ⟨rfl, HB.out⟩
end Go.Proofs.Ytdflpildopefaaa
