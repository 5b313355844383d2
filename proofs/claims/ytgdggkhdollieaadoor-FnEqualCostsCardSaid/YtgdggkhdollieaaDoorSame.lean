/-
  What the laws' helper sameInts does: it compares lists of ints.
-/
import Derived.Test.YtgdggkhdollieaaDoorInts
namespace Go.Proofs.YtgdggkhdollieaaDoor
open Go.RowKit

set_option maxHeartbeats 400000 in
theorem sameInts_same (w : World) (va vb : Value) (xs : List Int) (ha : Rd w 1 va xs.length (ints xs)) (hb : Rd w 1 vb xs.length (ints xs)) :
    Calls Tryd.prog 5 #[va, vb] w fun e w' => e = .returned (.bool true) ∧ Below w.heap.size w w' := by
  obtain ⟨a, ca, rfl, hca, hma, Ha⟩ := ha.int
  obtain ⟨b, cb, rfl, hcb, hmb, Hb⟩ := hb.int
  clear ha hb
  generalize hn : xs.length = n at *
  have Hn := Lib.hid hn; clear hn
  go_enter Tryd.func5, Tryd.ntmps5
  go_wp2_with fail
  go_loopw [5] (fun i wr => ∃ k : Nat, k ≤ n ∧ i = .int .i64 k ∧ Below w.heap.size w wr) (fun i _ => n - (intOf i).toNat)
  case atStart => exact ⟨0, Nat.zero_le _, rfl, Below.refl _ _⟩
  case round =>
    obtain ⟨k, hk, rfl, hbel⟩ := hrel
    by_cases hlt : k < n
    · obtain ⟨b1, o1, rfl, hb1, hc1⟩ := Ha.out k hlt
      obtain ⟨b2, o2, rfl, hb2, hc2⟩ := Hb.out k hlt
      have h1 := (hbel.cell (p := ⟨b1, o1 + k, none⟩) hb1).trans hc1
      have h2 := (hbel.cell (p := ⟨b2, o2 + k, none⟩) hb2).trans hc2
      clear hc1 hc2 Ha Hb
      go_wp2_with fail
      go_quiet (fail)
      go_wp2_with fail
      go_roundw
      case rel => exact ⟨k + 1, by omega, by go_num, hbel.drewN' _⟩
      case measure => simp [intOf]; omega
    · go_wp2_with fail
      go_ret
      exact ⟨rfl, hbel⟩

end Go.Proofs.YtgdggkhdollieaaDoor
