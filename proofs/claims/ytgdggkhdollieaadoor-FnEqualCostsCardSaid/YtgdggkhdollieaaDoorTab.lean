/-
  The library's table of trailing zeros: what the row's condition says of it; the program's least number of a set; its list.
-/
import Derived.Test.YtgdggkhdollieaaDoorMasks
import Derived.Test.YtgdggkhdollieaaDoorArgs
import Derived.Test.YtgdggkhdollieaaDoorApp
import Derived.Lib.LaidTab
import Derived.LaidMore
import Derived.Shelf.Spec.TrailingZeros
namespace Go.Proofs.YtgdggkhdollieaaDoor
open Go.RowKit
set_option linter.unusedVariables false

/-- The table lies in its variable. -/
def TabW (w : World) : Prop := ∀ j, j < 32 → w.cell? ⟨0, j, none⟩ = some (.int .u8 ((Lib.deBruijn32tab.getD j 0 : Nat) : Int))
theorem TabW.lt {w : World} (h : TabW w) : 0 < w.heap.size := World.block_lt_of_cell? w _ (h 0 (by decide))
theorem TabW.keep {w w' : World} (h : TabW w) (hb : Below w.heap.size w w') : TabW w' := fun j hj =>
  (hb.cell (p := ⟨0, j, none⟩) h.lt).trans (h j hj)
/-- What lies below a block is all that is asked. -/
theorem TabW.below {w w' : World} {B : Nat} (h : TabW w) (hB : 0 < B) (hb : Below B w w') : TabW w' := fun j hj =>
  (hb.cell (p := ⟨0, j, none⟩) hB).trans (h j hj)
theorem gTab : Tryd.prog.globalNamed "math/bits.deBruijn32tab" = some 0 := by kernel_rfl
theorem tab_of_laid {W : World} (h : laidMetH Tryd.prog [("math/bits.deBruijn32tab", Rows.laid_math_bits_deBruijn32tab)] W) : TabW W := by
  rw [MakeChecks.laidMetH_plain _ _ _ (by kernel_rfl)] at h
  have hT : Lib.TabIs Tryd.prog W "math/bits.deBruijn32tab" .u8 (Lib.deBruijn32tab.map fun n => ((n : Nat) : Int)) :=
    Lib.tabIs_of_head gTab (by kernel_rfl) Tryd.underlying86 Tryd.underlying5 (by kernel_rfl) (by kernel_rfl) h
  intro j hj
  have h1 := hT.cell gTab j (by simpa [Lib.deBruijn32tab] using hj)
  rw [h1]
  have hl : j < Lib.deBruijn32tab.length := by simpa [Lib.deBruijn32tab] using hj
  simp [hl]

set_option maxHeartbeats 1000000 in
theorem tz_core (x k idx : Nat) (w : World) (hx0 : ((x : Int) == 0) = false) (key : bits BinOp.and IntKind.u32 (x : Int) (-(x : Int) % 4294967296) * 125613361 % 4294967296 / 134217728 = (idx : Int))
    (hi : idx < 32) (hk : k < 32) (hcell : w.cell? ⟨0, idx, none⟩ = some (.int .u8 k)) :
    Calls Tryd.prog 43 #[.int .u32 x] w fun e w' => e = .returned (.int .i64 k) ∧ w = w' := by
  go_enter Tryd.func43, Tryd.ntmps43
  go_wp2_with (simp only [key])
  go_ret
  exact ⟨rfl, rfl⟩
theorem tz_any (x : Nat) (hx : x < 4294967296) (hx0 : x ≠ 0) (w : World) (HT : TabW w) :
    Calls Tryd.prog 43 #[.int .u32 x] w fun e w' => e = .returned (.int .i64 ((Lib.ctz 32 x : Nat) : Int)) ∧ w = w' := by
  obtain ⟨hlow, hk⟩ := Lib.lowest_bit 32 x hx0 hx
  obtain ⟨hi, htab⟩ := Lib.deBruijn32_at _ hk
  have hcell := HT _ hi
  rw [htab] at hcell
  exact tz_core x _ _ w (by simp; omega) (tz32_key x _ hx hx0 hlow) hi hk hcell
theorem least_any (x : Nat) (hx : x < 4294967296) (hx0 : x ≠ 0) (w : World) (HT : TabW w) :
    Calls Tryd.prog 40 #[.int .u32 x] w fun e w' => e = .returned (.int .i64 ((Lib.ctz 32 x : Nat) : Int)) ∧ w = w' := by
  have C := Lib.hid (tz_any x hx hx0 w HT)
  generalize Lib.ctz 32 x = k at *
  go_enter Tryd.func40, Tryd.ntmps40
  go_wp2_with fail
  refine C.out.mono ?_
  rintro e w1 ⟨rfl, rfl⟩
  go_wp2_with fail
  go_ret
  exact ⟨rfl, rfl⟩

/-- The numbers of a set that are less than j. -/
def bitsTo (m j : Nat) : List Int := ((List.range j).filter m.testBit).map fun (u : Nat) => (u : Int)
theorem bitsTo_all (m : Nat) : bitsTo m 32 = (bitsOf m).map fun (u : Nat) => (u : Int) := rfl
theorem bitsTo_length (m j : Nat) : (bitsTo m j).length ≤ j := by
  unfold bitsTo; rw [List.length_map]; exact Nat.le_trans (List.length_filter_le _ _) (by simp)
set_option maxRecDepth 100000 in
set_option maxHeartbeats 2000000 in
theorem list_any (m : Nat) (hm : m < 65536) (w : World) (HT : TabW w) : Calls Tryd.prog 31 #[.int .u32 m] w (RetI w ((bitsOf m).map fun (u : Nat) => (u : Int))) := by
  have HTB := Lib.hid HT; clear HT
  go_enter Tryd.func31, Tryd.ntmps31
  go_wp2_with fail
  go_loopw [0, 3] (fun q r wr => ∃ (j x : Nat), j ≤ 32 ∧ q = .int .u32 x ∧ x < 65536 ∧ Hid (∀ i, x.testBit i = (decide (j ≤ i) && m.testBit i)) ∧ Hid (Ow w.heap.size wr.heap.size wr 3 1 r (bitsTo m j).length (ints (bitsTo m j))) ∧ Hid (Below w.heap.size w wr)) (fun q _ _ => (intOf q).toNat)
  case atStart => exact ⟨0, m, by decide, rfl, hm, Lib.hid fun i => by simp, Lib.hid (Ow.nil _ _ _ _ _ _), Lib.hid (Below.refl _ _)⟩
  case round =>
    obtain ⟨j, x, hj, rfl, hx, HX, HO, HB⟩ := hrel
    by_cases hx0 : x = 0
    · subst hx0
      have e : bitsTo m j = (bitsOf m).map fun (u : Nat) => (u : Int) := by
        unfold bitsTo bitsOf
        rw [range_filter_end m.testBit j 32 hj fun i h1 h2 => by have := HX.out i; simp [h1] at this; exact this]
      rw [e] at HO
      clear e
      go_wp2_with fail
      go_ret
      exact ⟨_, rfl, HO.out, HB.out⟩
    · obtain ⟨hk, t1, t0, tz⟩ := low_bit x hx0 (by omega)
      have C := Lib.hid (least_any x (by omega) hx0 wr (HTB.out.keep HB.out))
      have hjk : j ≤ Lib.ctz 32 x := by
        have := HX.out (Lib.ctz 32 x)
        rw [t1] at this
        simp at this
        exact this.1
      have HS : Hid (bitsTo m (Lib.ctz 32 x + 1) = bitsTo m j ++ [((Lib.ctz 32 x : Nat) : Int)]) := Lib.hid (by
        unfold bitsTo
        rw [range_filter_next m.testBit j (Lib.ctz 32 x) hjk (fun i h1 h2 => by have := HX.out i; rw [t0 i h2] at this; simp [h1] at this; exact this) (by have := HX.out (Lib.ctz 32 x); rw [t1] at this; simp [hjk] at this; exact this)]
        simp)
      have HX2 : Hid (∀ i, (x &&& (x - 1)).testBit i = (decide (Lib.ctz 32 x + 1 ≤ i) && m.testBit i)) := Lib.hid fun i => by
        rw [tz i]
        by_cases h1 : i < Lib.ctz 32 x
        · rw [t0 i h1]
          have : decide (Lib.ctz 32 x + 1 ≤ i) = false := by simp; omega
          rw [this]; rfl
        · by_cases h2 : i = Lib.ctz 32 x
          · have : decide (Lib.ctz 32 x + 1 ≤ i) = false := by simp; omega
            rw [this]; simp [h2]
          · have : decide (Lib.ctz 32 x + 1 ≤ i) = true := by simp; omega
            rw [this, HX.out i]
            have h3 : decide (j ≤ i) = true := by simp; omega
            rw [h3]; simp [h2]
      have hlen := bitsTo_length m j
      have hand := u32_and x (x - 1) (by omega) (by omega)
      have hand2 : x &&& (x - 1) ≤ x - 1 := Nat.and_le_right
      clear t0 t1 tz
      have hk1 : Lib.ctz 32 x + 1 ≤ 32 := by omega
      generalize Lib.ctz 32 x = k at *
      have hsub : ((x : Int) - 1) % 4294967296 = ((x - 1 : Nat) : Int) := by omega
      have hwr : IntKind.u32.wrap ((x : Int) - 1) = ((x - 1 : Nat) : Int) := by rw [IntKind.wrap_u32]; exact hsub
      have hx0' : ((x : Int) == 0) = false := by simp; omega
      have hxy : x - 1 < x := by omega
      generalize x - 1 = y at *
      generalize x &&& y = z at *
      generalize hT : bitsTo m j = T at *
      generalize hal : T.length = al at *
      have HAL := Lib.hid hal; clear hal hT
      have hws := HB.out.size
      go_wp2_with fail
      refine C.out.mono ?_
      rintro e w1 ⟨rfl, rfl⟩
      clear C
      have HA := Lib.hid (HO.out.keep ((Below.refl wr.heap.size wr).alloc (Nat.le_refl _) (.cells #[.int .i64 (k : Int)] 3)))
      have HLR : Hid (Rd (wr.alloc (.cells #[.int .i64 (k : Int)] 3)) 1 (.slice (some ⟨wr.heap.size, 0, none⟩) 1 1) 1 (ints [(k : Int)])) := Lib.hid (Rd.of_own (ownsRow_lit (base := wr.heap.size) (size := 1) (e := 3) wr #[.int .i64 (k : Int)] 1 (Nat.le_refl _) (by decide) rfl))
      have hba : Below w.heap.size w (wr.alloc (.cells #[.int .i64 (k : Int)] 3)) := HB.out.alloc hws _
      have HBA := Lib.hid hba; clear hba
      go_wp2_with (at_builtin; refine wpList_appendOw rfl _ _ 29 3 rfl (.int .i64 0) 1 8 Tryd.underlying29 infoInt rfl (by decide) (by decide) w.heap.size wr.heap.size _ al (ints T) HA.out rfl _ 1 (ints [(k : Int)]) HLR.out rfl (ints_one _) (by omega) (by omega) (by simp; omega) ?_; intro v' w1 hown1 hbel1)
      go_roundw
      case rel =>
        refine ⟨k + 1, z, hk1, by go_num, by omega, HX2, Lib.hid ?_, Lib.hid (HBA.out.trans hbel1)⟩
        rw [HS.out, ints_append, List.length_append, HAL.out]; exact hown1
      case measure => simp [intOf]; omega
end Go.Proofs.YtgdggkhdollieaaDoor
