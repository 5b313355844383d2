/-
  Bytes: which are valid, their sum, a number's digits: the program's functions and the reference's.
-/
import Derived.Test.YtgdggkhdollieaaDoorInts
import Derived.Test.YtgdggkhdollieaaDoorNum
import Derived.Test.YtgdggkhdollieaaDoorPure
namespace Go.Proofs.YtgdggkhdollieaaDoor
open Go.RowKit

set_option maxHeartbeats 400000 in
theorem implBytesValid_any (w : World) (va : Value) (xs : List Int) (ha : Rd w 1 va xs.length (ints xs)) :
    Calls Tryd.prog 30 #[va] w fun e w' => e = .returned (.bool (bytesOk xs)) ∧ Below w.heap.size w w' := by
  obtain ⟨a, ca, rfl, hca, hma, Ha⟩ := ha.int
  clear ha
  generalize hn : xs.length = n at *
  have Hn := Lib.hid hn; clear hn
  by_cases h2 : n ≤ 2000
  · have h2' : decide ((n : Int) > 2000) = false := by simp; omega
    go_enter Tryd.func30, Tryd.ntmps30
    go_wp2_with fail
    go_loopw [10] (fun i wr => ∃ k : Nat, k ≤ n ∧ i = .int .i64 k ∧ Hid (∀ i, i < k → 0 ≤ xs.getD i 0 ∧ xs.getD i 0 ≤ 255) ∧ Below w.heap.size w wr) (fun i _ => n - (intOf i).toNat)
    case atStart => exact ⟨0, Nat.zero_le _, rfl, Lib.hid (by omega), Below.refl _ _⟩
    case round =>
      obtain ⟨k, hk, rfl, HA, hbel⟩ := hrel
      by_cases hlt : k < n
      · obtain ⟨b1, o1, rfl, hb1, hc1⟩ := Ha.out k hlt
        have h1 := (hbel.cell (p := ⟨b1, o1 + k, none⟩) hb1).trans hc1
        clear hc1 Ha
        have HB := Lib.hid hbel; clear hbel
        generalize hx : xs.getD k 0 = x at h1
        have HX := Lib.hid hx; clear hx
        by_cases hr0 : x < 0
        · go_wp2_with fail
          go_ret
          exact ⟨by rw [bytesOk_at (k := k) (by rw [Hn.out]; exact hlt) (by rw [HX.out]; omega)]; rfl, HB.out⟩
        · by_cases hr1 : x > 255
          · go_wp2_with fail
            go_ret
            exact ⟨by rw [bytesOk_at (k := k) (by rw [Hn.out]; exact hlt) (by rw [HX.out]; omega)]; rfl, HB.out⟩
          · go_wp2_with fail
            go_roundw
            case rel =>
              refine ⟨k + 1, by omega, by go_num, Lib.hid fun i hi => ?_, HB.out⟩
              by_cases h : i < k
              · exact HA.out i h
              · obtain rfl : i = k := by omega
                rw [HX.out]; omega
            case measure => simp [intOf]; omega
      · have HB := Lib.hid hbel; clear hbel
        obtain rfl : k = n := by omega
        go_wp2_with fail
        go_ret
        exact ⟨by rw [bytesOk_of (by rw [Hn.out]; exact h2) (by rw [Hn.out]; exact HA.out)]; rfl, HB.out⟩
  · have h2' : decide ((n : Int) > 2000) = true := by simp; omega
    go_enter Tryd.func30, Tryd.ntmps30
    go_wp2_with fail
    go_ret
    exact ⟨by rw [bytesOk_len (by rw [Hn.out]; omega)]; rfl, Below.refl _ _⟩

set_option maxHeartbeats 400000 in
theorem implCheckSum_any (w : World) (va : Value) (xs : List Int) (ha : Rd w 1 va xs.length (ints xs)) :
    Calls Tryd.prog 20 #[va] w fun e w' => e = .returned (.int .i64 (checkSum xs)) ∧ Below w.heap.size w w' := by
  have hv := implBytesValid_any w va xs ha
  by_cases hb : bytesOk xs = true
  · rw [hb] at hv
    have hr := (bytesOk_rng hb).2
    have HR := Lib.hid hr; clear hr
    rw [checkSum, if_pos hb]
    obtain ⟨a, ca, rfl, hca, hma, Ha⟩ := ha.int
    clear ha hb
    generalize hn : xs.length = n at *
    have Hn := Lib.hid hn; clear hn
    have HV := Lib.hid hv; clear hv
    go_enter Tryd.func20, Tryd.ntmps20
    go_wp2_with (go_at_call 30; refine HV.out.mono ?_; rintro e w1 ⟨rfl, hb1⟩)
    have HB1 := Lib.hid hb1; clear hb1
    go_loopw [3, 11] (fun s i wr => ∃ k : Nat, k ≤ n ∧ i = .int .i64 k ∧ s = .int .i64 (sumTo (xs.take k)) ∧ Below w.heap.size w wr) (fun _ i _ => n - (intOf i).toNat)
    case atStart => exact ⟨0, Nat.zero_le _, rfl, rfl, HB1.out⟩
    case round =>
      obtain ⟨k, hk, rfl, rfl, hbel⟩ := hrel
      by_cases hlt : k < n
      · obtain ⟨b1, o1, rfl, hb1, hc1⟩ := Ha.out k hlt
        have h1 := (hbel.cell (p := ⟨b1, o1 + k, none⟩) hb1).trans hc1
        obtain ⟨r1, r2⟩ := HR.out k hlt
        obtain ⟨s1, s2⟩ := sumTo_rng (xs.take k)
        have hs := sumTo_snoc (xs.take k) (xs.getD k 0)
        rw [← take_snoc xs k 0 (by rw [Hn.out]; exact hlt)] at hs
        have HS := Lib.hid hs; clear hs
        clear hc1 Ha
        have HB := Lib.hid hbel; clear hbel
        generalize hx : xs.getD k 0 = x at *
        generalize hy : sumTo (xs.take k) = y at *
        clear hx hy
        go_wp2_with fail
        go_roundw
        case rel => exact ⟨k + 1, by omega, by go_num, by rw [HS.out], HB.out⟩
        case measure => simp [intOf]; omega
      · obtain rfl : k = n := by omega
        have HB := Lib.hid hbel; clear hbel
        rw [List.take_of_length_le (by rw [Hn.out]; exact Nat.le_refl _)]
        go_wp2_with fail
        go_ret
        exact ⟨rfl, HB.out⟩
  · have hb' : bytesOk xs = false := by simpa using hb
    rw [hb'] at hv
    rw [checkSum, if_neg hb]
    have HV := Lib.hid hv; clear hv hb' hb ha
    go_enter Tryd.func20, Tryd.ntmps20
    go_wp2_with (go_at_call 30; refine HV.out.mono ?_; rintro e w1 ⟨rfl, hb1⟩)
    go_ret
    exact ⟨rfl, hb1⟩

theorem alive_any (w : World) : Calls Tryd.prog 9 #[] w fun e w' => e = .returned (.bool true) ∧ Below w.heap.size w w' := by
  have h : checkSum [] = 7 := rfl
  go_enter Tryd.func9, Tryd.ntmps9
  go_wp2_with fail
  have hc := implCheckSum_any (w.alloc (.cells #[] 3)) (.slice (some ⟨w.heap.size, 0, none⟩) 0 0) [] ⟨rfl, _, _, rfl, Nat.le_refl _, by decide, .inl rfl⟩
  rw [h] at hc
  have HC := Lib.hid hc; clear hc h
  go_wp2_with (go_at_call 20; refine HC.out.mono ?_; rintro e w1 ⟨rfl, hb1⟩)
  go_ret
  exact ⟨rfl, ((Below.refl _ _).alloc (Nat.le_refl _) _).tr hb1⟩

end Go.Proofs.YtgdggkhdollieaaDoor
