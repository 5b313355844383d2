/-
  Disks: marking what is owned, finding the marks.
-/
import Derived.Test.YtdflpildopefaaaDiskV
namespace Go.Proofs.Ytdflpildopefaaa
open Go.RowKit
set_option linter.unusedVariables false

def MkDisk (m : Int) (d y : DiskD) : Prop := MkIntS m d.1 y.1 ∧ MkIntS (m + (d.1.length : Int)) d.2 y.2
theorem MkIntS.len {m : Int} {xs ys : List Int} (h : MkIntS m xs ys) : ys.length = xs.length := by unfold MkIntS at h; rw [h, seqI_length]
set_option maxRecDepth 100000 in
set_option maxHeartbeats 1000000 in
theorem markDisk_any (w : World) (lo hi : Nat) (va : Value) (m : Int) (d : DiskD) (ha : OwDisk lo hi w va d) (hhi : hi ≤ w.heap.size) (hm : 0 ≤ m) (hn : m + (sizeDisk d : Int) ≤ 9223372036854775000) :
    Calls Try.prog 50 #[va, .int .i64 m] w fun e w' => ∃ y, e = .returned (.int .i64 (m + (sizeDisk d : Int))) ∧ MkDisk m d y ∧ OwDisk lo hi w' va y ∧ Chg lo hi w w' := by
  obtain ⟨v0, v1, mid, rfl, hl, hh, o0, o1⟩ := ha
  unfold sizeDisk at *
  have hb : Below w.heap.size w (w.alloc (.cells #[v0, v1] 25)) := (Below.refl _ _).alloc (Nat.le_refl _) _
  have O0 := Lib.hid (o0.keep hb); have O1 := Lib.hid (o1.keep hb)
  have X := Lib.hid (heap_alloc_new w (.cells #[v0, v1] 25))
  have HC := Lib.hid ((Chg.refl lo hi w).alloc (.cells #[v0, v1] 25))
  obtain ⟨-, p0, c0, rfl, -, -, -⟩ := o0.rd
  obtain ⟨-, p1, c1, rfl, -, -, -⟩ := o1.rd
  have C1 := Lib.hid (markIntS_any _ lo mid _ m d.1 O0.out hm (by unfold cntIntS; omega))
  clear o0 o1 hb
  go_enter Try.func50, Try.ntmps50
  go_wp2_with fail
  generalize (w.alloc (.cells #[.slice p0 d.1.length c0, .slice p1 d.2.length c1] 25)) = w0 at *
  refine C1.out.mono ?_
  rintro e w1 ⟨y0, rfl, hm0, ho0, hc⟩
  replace X := Lib.hid ((hc.block _ (box_lt X.out) (.inr (by omega))).trans X.out)
  replace HC := Lib.hid (HC.out.trans (hc.mono (Nat.le_refl _) hh))
  replace O1 := Lib.hid (O1.out.chg hc (.inl (Nat.le_refl _)))
  have P0 := Lib.hid ho0; have M0 := Lib.hid hm0
  clear hc ho0 hm0 C1 O0
  have k1 := box_cell X.out 1 (.slice p1 d.2.length c1) rfl
  unfold cntIntS at *
  have C2 := Lib.hid (markIntS_any w1 mid hi _ (m + (d.1.length : Int)) d.2 O1.out (by omega) (by unfold cntIntS; omega))
  unfold cntIntS at *
  go_wp2_with fail
  refine C2.out.mono ?_
  rintro e w2 ⟨y1, rfl, hm1, ho1, hc⟩
  replace HC := Lib.hid (HC.out.trans (hc.mono hl (Nat.le_refl _)))
  replace P0 := Lib.hid (P0.out.chg hc (.inr (Nat.le_refl _)))
  have P1 := Lib.hid ho1; have M1 := Lib.hid hm1
  clear hc ho1 hm1 C2 O1 k1
  go_wp2_with fail
  go_ret
  exact ⟨(y0, y1), by rw [show m + ((d.1.length + d.2.length : Nat) : Int) = m + (d.1.length : Int) + (d.2.length : Int) from by omega]; rfl, ⟨M0.out, M1.out⟩,
    ⟨_, _, mid, rfl, hl, hh, P0.out, P1.out⟩, HC.out⟩
set_option maxRecDepth 100000 in
theorem heldDisk_any (w : World) (va : Value) (m : Int) (d y : DiskD) (hmk : MkDisk m d y) (ha : RdDisk w va y) (hm : 0 ≤ m) (hn : m + (sizeDisk d : Int) ≤ 9223372036854775000) :
    Calls Try.prog 51 #[va, .int .i64 m] w fun e w' => e = .returned (.int .i64 (m + (sizeDisk d : Int))) ∧ Below w.heap.size w w' := by
  obtain ⟨v0, v1, rfl, o0, o1⟩ := ha
  unfold sizeDisk at *
  have hb : Below w.heap.size w (w.alloc (.cells #[v0, v1] 25)) := (Below.refl _ _).alloc (Nat.le_refl _) _
  have O1 := Lib.hid (o1.keep hb)
  have X := Lib.hid (heap_alloc_new w (.cells #[v0, v1] 25))
  have HB := Lib.hid hb
  have C1 := Lib.hid (heldIntS_any _ _ m d.1 y.1 hmk.1 (o0.keep hb) hm (by unfold cntIntS; omega))
  obtain ⟨-, p0, c0, rfl, -, -, -⟩ := o0
  obtain ⟨-, p1, c1, rfl, -, -, -⟩ := o1
  have M1 := Lib.hid hmk.2
  clear hb hmk
  go_enter Try.func51, Try.ntmps51
  go_wp2_with fail
  generalize (w.alloc (.cells #[.slice p0 y.1.length c0, .slice p1 y.2.length c1] 25)) = w0 at *
  refine C1.out.mono ?_
  rintro e w1 ⟨rfl, hb1⟩
  replace X := Lib.hid (box_keep X.out hb1); replace HB := Lib.hid (HB.out.tr hb1); replace O1 := Lib.hid (O1.out.keep hb1); clear hb1 C1
  have k1 := box_cell X.out 1 (.slice p1 y.2.length c1) rfl
  unfold cntIntS at *
  have C2 := Lib.hid (heldIntS_any w1 _ (m + (d.1.length : Int)) d.2 y.2 M1.out O1.out (by omega) (by unfold cntIntS; omega))
  unfold cntIntS at *
  have hp : 0 ≤ m + (d.1.length : Int) := by omega
  go_wp2_with fail
  refine C2.out.mono ?_
  rintro e w2 ⟨rfl, hb2⟩
  replace HB := Lib.hid (HB.out.tr hb2); clear hb2 C2
  have hp2 : 0 ≤ m + (d.1.length : Int) + (d.2.length : Int) := by omega
  go_wp2_with fail
  go_ret
  exact ⟨by rw [show m + ((d.1.length + d.2.length : Nat) : Int) = m + (d.1.length : Int) + (d.2.length : Int) from by omega]; rfl, HB.out⟩
end Go.Proofs.Ytdflpildopefaaa
