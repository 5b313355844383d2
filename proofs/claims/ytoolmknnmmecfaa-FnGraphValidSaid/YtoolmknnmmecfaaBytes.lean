/-
  Bytes: which are valid, their sum, a number's digits: the program's functions and the reference's.
-/
import Derived.Test.YtoolmknnmmecfaaInts
import Derived.Test.YtoolmknnmmecfaaNum
import Derived.Test.YtoolmknnmmecfaaPure
namespace Go.Proofs.Ytoolmknnmmecfaa
open Go.RowKit

set_option maxHeartbeats 400000 in
theorem specBytesValid_any (w : World) (va : Value) (xs : List Int) (ha : Rd w 1 va xs.length (ints xs)) :
    Calls Try.prog 71 #[va] w fun e w' => e = .returned (.bool (bytesOk xs)) ∧ Below w.heap.size w w' := by
  obtain ⟨a, ca, rfl, hca, hma, Ha⟩ := ha.int
  clear ha
  generalize hn : xs.length = n at *
  have Hn := Lib.hid hn; clear hn
  go_enter Try.func71, Try.ntmps71
  go_wp2_with fail
  go_loopw [3] (fun i wr => ∃ k : Nat, k ≤ n ∧ i = .int .i64 k ∧ Hid (∀ i, i < k → 0 ≤ xs.getD i 0 ∧ xs.getD i 0 ≤ 255) ∧ Below w.heap.size w wr) (fun i _ => n - (intOf i).toNat)
  case atStart => exact ⟨0, Nat.zero_le _, rfl, Lib.hid (by omega), Below.refl _ _⟩
  case round =>
    obtain ⟨k, hk, rfl, HA, hbel⟩ := hrel
    by_cases hlt : k < n
    · obtain ⟨b1, o1, rfl, hb1, hc1⟩ := Ha.out k hlt
      have h1 := (hbel.cell (p := ⟨b1, o1 + k, none⟩) hb1).trans hc1
      clear hc1 Ha
      have HB := Lib.hid hbel; clear hbel
      generalize hx : xs.getD k 0 = x at h1
      have HX := Lib.hid hx; clear hx
      by_cases hr : 0 ≤ x ∧ x ≤ 255
      · have hr' : decide (0 ≤ x ∧ x ≤ 255) = true := by simpa using hr
        go_wp2_with (go_at_call 30; refine (l1In_any _ _ _ _).mono ?_; rintro e w' ⟨rfl, rfl⟩)
        go_roundw
        case rel =>
          refine ⟨k + 1, by omega, by go_num, Lib.hid fun i hi => ?_, HB.out⟩
          by_cases h : i < k
          · exact HA.out i h
          · obtain rfl : i = k := by omega
            rw [HX.out]; exact hr
        case measure => simp [intOf]; omega
      · have hr' : decide (0 ≤ x ∧ x ≤ 255) = false := by simpa using hr
        go_wp2_with (go_at_call 30; refine (l1In_any _ _ _ _).mono ?_; rintro e w' ⟨rfl, rfl⟩)
        go_ret
        exact ⟨by rw [bytesOk_at (k := k) (by rw [Hn.out]; exact hlt) (by rw [HX.out]; exact hr)]; rfl, HB.out⟩
    · have HB := Lib.hid hbel; clear hbel
      obtain rfl : k = n := by omega
      by_cases h2 : k ≤ 2000
      · have h2' : decide ((k : Int) ≤ 2000) = true := by simp; omega
        go_wp2_with fail
        go_ret
        exact ⟨by rw [bytesOk_of (by rw [Hn.out]; exact h2) (by rw [Hn.out]; exact HA.out)]; rfl, HB.out⟩
      · have h2' : decide ((k : Int) ≤ 2000) = false := by simp; omega
        go_wp2_with fail
        go_ret
        exact ⟨by rw [bytesOk_len (by rw [Hn.out]; omega)]; rfl, HB.out⟩

set_option maxHeartbeats 400000 in
theorem implBytesValid_any (w : World) (va : Value) (xs : List Int) (ha : Rd w 1 va xs.length (ints xs)) :
    Calls Try.prog 62 #[va] w fun e w' => e = .returned (.bool (bytesOk xs)) ∧ Below w.heap.size w w' := by
  obtain ⟨a, ca, rfl, hca, hma, Ha⟩ := ha.int
  clear ha
  generalize hn : xs.length = n at *
  have Hn := Lib.hid hn; clear hn
  by_cases h2 : n ≤ 2000
  · have h2' : decide ((n : Int) > 2000) = false := by simp; omega
    go_enter Try.func62, Try.ntmps62
    go_wp2_with fail
    go_loopw [10] (fun i wr => ∃ k : Nat, k ≤ n ∧ i = .int .i64 k ∧ Hid (∀ i, i < k → 0 ≤ xs.getD i 0 ∧ xs.getD i 0 ≤ 255) ∧ Below w.heap.size w wr) (fun i _ => n - (intOf i).toNat)
    case atStart => exact ⟨0, Nat.zero_le _, rfl, Lib.hid (by omega), Below.refl _ _⟩
    case round =>
      obtain ⟨k, hk, rfl, HA, hbel⟩ := hrel
      by_cases hlt : k < n
      · obtain ⟨b1, o1, rfl, hb1, hc1⟩ := Ha.out k hlt
        have h1 := (hbel.cell (p := ⟨b1, o1 + k, none⟩) hb1).trans hc1
        clear hc1 Ha
        have HB := Lib.hid hbel; clear hbel
        generalize hx : xs.getD k 0 = x at h1
        have HX := Lib.hid hx; clear hx
        by_cases hr0 : x < 0
        · go_wp2_with fail
          go_ret
          exact ⟨by rw [bytesOk_at (k := k) (by rw [Hn.out]; exact hlt) (by rw [HX.out]; omega)]; rfl, HB.out⟩
        · by_cases hr1 : x > 255
          · go_wp2_with fail
            go_ret
            exact ⟨by rw [bytesOk_at (k := k) (by rw [Hn.out]; exact hlt) (by rw [HX.out]; omega)]; rfl, HB.out⟩
          · go_wp2_with fail
            go_roundw
            case rel =>
              refine ⟨k + 1, by omega, by go_num, Lib.hid fun i hi => ?_, HB.out⟩
              by_cases h : i < k
              · exact HA.out i h
              · obtain rfl : i = k := by omega
                rw [HX.out]; omega
            case measure => simp [intOf]; omega
      · have HB := Lib.hid hbel; clear hbel
        obtain rfl : k = n := by omega
        go_wp2_with fail
        go_ret
        exact ⟨by rw [bytesOk_of (by rw [Hn.out]; exact h2) (by rw [Hn.out]; exact HA.out)]; rfl, HB.out⟩
  · have h2' : decide ((n : Int) > 2000) = true := by simp; omega
    go_enter Try.func62, Try.ntmps62
    go_wp2_with fail
    go_ret
    exact ⟨by rw [bytesOk_len (by rw [Hn.out]; omega)]; rfl, Below.refl _ _⟩

set_option maxHeartbeats 400000 in
theorem specCheckSum_any (w : World) (va : Value) (xs : List Int) (ha : Rd w 1 va xs.length (ints xs)) :
    Calls Try.prog 72 #[va] w fun e w' => e = .returned (.int .i64 (checkSum xs)) ∧ Below w.heap.size w w' := by
  have hv := specBytesValid_any w va xs ha
  by_cases hb : bytesOk xs = true
  · rw [hb] at hv
    have hr := (bytesOk_rng hb).2
    have HR := Lib.hid hr; clear hr
    rw [checkSum, if_pos hb]
    obtain ⟨a, ca, rfl, hca, hma, Ha⟩ := ha.int
    clear ha hb
    generalize hn : xs.length = n at *
    have Hn := Lib.hid hn; clear hn
    have HV := Lib.hid hv; clear hv
    go_enter Try.func72, Try.ntmps72
    go_wp2_with (go_at_call 71; refine HV.out.mono ?_; rintro e w1 ⟨rfl, hb1⟩)
    have HB1 := Lib.hid hb1; clear hb1
    go_loopw [3, 4] (fun s i wr => ∃ k : Nat, k ≤ n ∧ i = .int .i64 k ∧ s = .int .i64 (sumTo (xs.take k)) ∧ Below w.heap.size w wr) (fun _ i _ => n - (intOf i).toNat)
    case atStart => exact ⟨0, Nat.zero_le _, rfl, rfl, HB1.out⟩
    case round =>
      obtain ⟨k, hk, rfl, rfl, hbel⟩ := hrel
      by_cases hlt : k < n
      · obtain ⟨b1, o1, rfl, hb1, hc1⟩ := Ha.out k hlt
        have h1 := (hbel.cell (p := ⟨b1, o1 + k, none⟩) hb1).trans hc1
        obtain ⟨r1, r2⟩ := HR.out k hlt
        obtain ⟨s1, s2⟩ := sumTo_rng (xs.take k)
        have hs := sumTo_snoc (xs.take k) (xs.getD k 0)
        rw [← take_snoc xs k 0 (by rw [Hn.out]; exact hlt)] at hs
        have HS := Lib.hid hs; clear hs
        clear hc1 Ha
        have HB := Lib.hid hbel; clear hbel
        generalize hx : xs.getD k 0 = x at *
        generalize hy : sumTo (xs.take k) = y at *
        clear hx hy
        go_wp2_with fail
        go_roundw
        case rel => exact ⟨k + 1, by omega, by go_num, by rw [HS.out], HB.out⟩
        case measure => simp [intOf]; omega
      · obtain rfl : k = n := by omega
        have HB := Lib.hid hbel; clear hbel
        rw [List.take_of_length_le (by rw [Hn.out]; exact Nat.le_refl _)]
        go_wp2_with fail
        go_ret
        exact ⟨rfl, HB.out⟩
  · have hb' : bytesOk xs = false := by simpa using hb
    rw [hb'] at hv
    rw [checkSum, if_neg hb]
    have HV := Lib.hid hv; clear hv hb' hb ha
    go_enter Try.func72, Try.ntmps72
    go_wp2_with (go_at_call 71; refine HV.out.mono ?_; rintro e w1 ⟨rfl, hb1⟩)
    go_ret
    exact ⟨rfl, hb1⟩

set_option maxHeartbeats 400000 in
theorem implCheckSum_any (w : World) (va : Value) (xs : List Int) (ha : Rd w 1 va xs.length (ints xs)) :
    Calls Try.prog 38 #[va] w fun e w' => e = .returned (.int .i64 (checkSum xs)) ∧ Below w.heap.size w w' := by
  have hv := implBytesValid_any w va xs ha
  by_cases hb : bytesOk xs = true
  · rw [hb] at hv
    have hr := (bytesOk_rng hb).2
    have HR := Lib.hid hr; clear hr
    rw [checkSum, if_pos hb]
    obtain ⟨a, ca, rfl, hca, hma, Ha⟩ := ha.int
    clear ha hb
    generalize hn : xs.length = n at *
    have Hn := Lib.hid hn; clear hn
    have HV := Lib.hid hv; clear hv
    go_enter Try.func38, Try.ntmps38
    go_wp2_with (go_at_call 62; refine HV.out.mono ?_; rintro e w1 ⟨rfl, hb1⟩)
    have HB1 := Lib.hid hb1; clear hb1
    go_loopw [3, 11] (fun s i wr => ∃ k : Nat, k ≤ n ∧ i = .int .i64 k ∧ s = .int .i64 (sumTo (xs.take k)) ∧ Below w.heap.size w wr) (fun _ i _ => n - (intOf i).toNat)
    case atStart => exact ⟨0, Nat.zero_le _, rfl, rfl, HB1.out⟩
    case round =>
      obtain ⟨k, hk, rfl, rfl, hbel⟩ := hrel
      by_cases hlt : k < n
      · obtain ⟨b1, o1, rfl, hb1, hc1⟩ := Ha.out k hlt
        have h1 := (hbel.cell (p := ⟨b1, o1 + k, none⟩) hb1).trans hc1
        obtain ⟨r1, r2⟩ := HR.out k hlt
        obtain ⟨s1, s2⟩ := sumTo_rng (xs.take k)
        have hs := sumTo_snoc (xs.take k) (xs.getD k 0)
        rw [← take_snoc xs k 0 (by rw [Hn.out]; exact hlt)] at hs
        have HS := Lib.hid hs; clear hs
        clear hc1 Ha
        have HB := Lib.hid hbel; clear hbel
        generalize hx : xs.getD k 0 = x at *
        generalize hy : sumTo (xs.take k) = y at *
        clear hx hy
        go_wp2_with fail
        go_roundw
        case rel => exact ⟨k + 1, by omega, by go_num, by rw [HS.out], HB.out⟩
        case measure => simp [intOf]; omega
      · obtain rfl : k = n := by omega
        have HB := Lib.hid hbel; clear hbel
        rw [List.take_of_length_le (by rw [Hn.out]; exact Nat.le_refl _)]
        go_wp2_with fail
        go_ret
        exact ⟨rfl, HB.out⟩
  · have hb' : bytesOk xs = false := by simpa using hb
    rw [hb'] at hv
    rw [checkSum, if_neg hb]
    have HV := Lib.hid hv; clear hv hb' hb ha
    go_enter Try.func38, Try.ntmps38
    go_wp2_with (go_at_call 62; refine HV.out.mono ?_; rintro e w1 ⟨rfl, hb1⟩)
    go_ret
    exact ⟨rfl, hb1⟩

theorem alive_any (w : World) : Calls Try.prog 17 #[] w fun e w' => e = .returned (.bool true) ∧ Below w.heap.size w w' := by
  have h : checkSum [] = 7 := rfl
  go_enter Try.func17, Try.ntmps17
  go_wp2_with fail
  have hc := implCheckSum_any (w.alloc (.cells #[] 3)) (.slice (some ⟨w.heap.size, 0, none⟩) 0 0) [] ⟨rfl, _, _, rfl, Nat.le_refl _, by decide, .inl rfl⟩
  rw [h] at hc
  have HC := Lib.hid hc; clear hc h
  go_wp2_with (go_at_call 38; refine HC.out.mono ?_; rintro e w1 ⟨rfl, hb1⟩)
  go_ret
  exact ⟨rfl, ((Below.refl _ _).alloc (Nat.le_refl _) _).tr hb1⟩

set_option maxRecDepth 100000 in
set_option maxHeartbeats 1000000 in
theorem specEncodeNumber_any (w : World) (n : Int) : Calls Try.prog 48 #[.int .i64 n] w (RetI w (encode n)) := by
  by_cases h : 0 ≤ n ∧ n ≤ 1000000
  · rw [encode, if_pos h]
    obtain ⟨h1, h2⟩ := h
    go_enter Try.func48, Try.ntmps48
    go_wp2_with (go_at_call 30; refine (l1In_any _ _ _ _).mono ?_; rintro e w' ⟨rfl, rfl⟩)
    go_loopw [0, 3] (fun m v wr => ∃ (f : Nat) (q : Int) (acc : List Int), m = .int .i64 q ∧ ((f = 3 ∧ q ≤ 1000000) ∨ (f = 2 ∧ q ≤ 7812) ∨ (f = 1 ∧ q ≤ 61)) ∧ 0 ≤ q ∧ acc.length + f = 3 ∧ Hid (acc ++ encF f q = encF 3 n) ∧ Hid (wr.ownsRow w.heap.size 3 1 v acc.length (ints acc)) ∧ Hid (Below w.heap.size w wr)) (fun m _ _ => (intOf m).toNat)
    case atStart =>
      refine ⟨3, n, [], rfl, .inl ⟨rfl, h2⟩, h1, rfl, Lib.hid rfl, Lib.hid ?_, Lib.hid ((Below.refl _ _).alloc (Nat.le_refl _) _)⟩
      exact World.ownsRow_made (size := 1) w #[] 0 (Nat.le_refl _) (by decide) rfl
    case round =>
      obtain ⟨f, q, acc, rfl, hf, hq, hl, HE, HO, HB⟩ := hrel
      have hq2 : q ≤ 1000000 := by omega
      generalize hal : acc.length = al at *
      have HAL := Lib.hid hal; clear hal
      by_cases hlt : 128 ≤ q
      · obtain ⟨f', hf'⟩ : ∃ f', f = f' + 1 := ⟨f - 1, by omega⟩
        have HF := Lib.hid hf'; have HF0 := Lib.hid hf; have HL := Lib.hid hl
        have hal2 : al ≤ 3 := by omega
        clear hf hl hf'
        go_wp2_with (at_builtin; refine wpList_push (W := w) rfl _ _ 43 3 rfl (.int .i64 0) 1 8 Try.underlying43 infoInt rfl (by decide) (by decide) #[.int .i64 (q % 128 + 128)] rfl (by simp [Value.oneCell']) w.heap.size _ _ _ HO.out rfl rfl (by omega) HB.out (Nat.le_refl _) HB.out.size ?_; intro v' w1 hown1 hbel1 hne1)
        go_roundw
        case rel =>
          refine ⟨f', q / 128, acc ++ [q % 128 + 128], by go_num, ?_, by omega, ?_, Lib.hid ?_, Lib.hid ?_, Lib.hid hbel1⟩
          · have a1 := HF.out
            have a2 := HF0.out
            omega
          · have a1 := HF.out
            have a2 := HL.out
            have a3 := HAL.out
            simp; omega
          · have a1 := HE.out
            rw [HF.out, encF_ge _ _ hlt] at a1
            rw [List.append_assoc]; exact a1
          · rw [ints_append, List.length_append, HAL.out]; exact hown1
        case measure => simp [intOf]; omega
      · have HL := Lib.hid hl
        have hal2 : al ≤ 3 := by omega
        clear hf hl
        go_wp2_with (at_builtin; refine wpList_push (W := w) rfl _ _ 43 3 rfl (.int .i64 0) 1 8 Try.underlying43 infoInt rfl (by decide) (by decide) #[.int .i64 (q)] rfl (by simp [Value.oneCell']) w.heap.size _ _ _ HO.out rfl rfl (by omega) HB.out (Nat.le_refl _) HB.out.size ?_; intro v' w1 hown1 hbel1 hne1)
        go_ret
        have e : encF 3 n = acc ++ [q] := by rw [← HE.out, encF_lt _ _ (by omega)]
        rw [e]
        refine ⟨_, rfl, ?_, hbel1⟩
        have h3 := Ow.of_row hown1
        rw [ints_append, List.length_append, HAL.out]
        exact h3
  · have hd : decide (0 ≤ n ∧ n ≤ 1000000) = false := by simpa using h
    rw [encode, if_neg h]
    clear h
    go_enter Try.func48, Try.ntmps48
    go_wp2_with (go_at_call 30; refine (l1In_any _ _ _ _).mono ?_; rintro e w' ⟨rfl, rfl⟩)
    go_ret
    exact ⟨_, rfl, Ow.nil _ _ _ _ _ _, (Below.refl _ _).alloc (Nat.le_refl _) _⟩
set_option maxRecDepth 100000 in
set_option maxHeartbeats 1000000 in
theorem implEncodeNumber_any (w : World) (n : Int) : Calls Try.prog 51 #[.int .i64 n] w (RetI w (encode n)) := by
  by_cases h : 0 ≤ n ∧ n ≤ 1000000
  · rw [encode, if_pos h]
    obtain ⟨h1, h2⟩ := h
    go_enter Try.func51, Try.ntmps51
    go_wp2_with (go_at_call 30; refine (l1In_any _ _ _ _).mono ?_; rintro e w' ⟨rfl, rfl⟩)
    go_loopw [0, 3] (fun m v wr => ∃ (f : Nat) (q : Int) (acc : List Int), m = .int .i64 q ∧ ((f = 3 ∧ q ≤ 1000000) ∨ (f = 2 ∧ q ≤ 7812) ∨ (f = 1 ∧ q ≤ 61)) ∧ 0 ≤ q ∧ acc.length + f = 3 ∧ Hid (acc ++ encF f q = encF 3 n) ∧ Hid (wr.ownsRow w.heap.size 3 1 v acc.length (ints acc)) ∧ Hid (Below w.heap.size w wr)) (fun m _ _ => (intOf m).toNat)
    case atStart =>
      exact ⟨3, n, [], rfl, .inl ⟨rfl, h2⟩, h1, rfl, Lib.hid rfl, Lib.hid (World.ownsRow_nil _ _ _ _), Lib.hid (Below.refl _ _)⟩
    case round =>
      obtain ⟨f, q, acc, rfl, hf, hq, hl, HE, HO, HB⟩ := hrel
      have hq2 : q ≤ 1000000 := by omega
      generalize hal : acc.length = al at *
      have HAL := Lib.hid hal; clear hal
      by_cases hlt : 128 ≤ q
      · obtain ⟨f', hf'⟩ : ∃ f', f = f' + 1 := ⟨f - 1, by omega⟩
        have HF := Lib.hid hf'; have HF0 := Lib.hid hf; have HL := Lib.hid hl
        have hal2 : al ≤ 3 := by omega
        clear hf hl hf'
        go_wp2_with (at_builtin; refine wpList_push (W := w) rfl _ _ 43 3 rfl (.int .i64 0) 1 8 Try.underlying43 infoInt rfl (by decide) (by decide) #[.int .i64 (q % 128 + 128)] rfl (by simp [Value.oneCell']) w.heap.size _ _ _ HO.out rfl rfl (by omega) HB.out (Nat.le_refl _) HB.out.size ?_; intro v' w1 hown1 hbel1 hne1)
        go_roundw
        case rel =>
          refine ⟨f', q / 128, acc ++ [q % 128 + 128], by go_num, ?_, by omega, ?_, Lib.hid ?_, Lib.hid ?_, Lib.hid hbel1⟩
          · have a1 := HF.out
            have a2 := HF0.out
            omega
          · have a1 := HF.out
            have a2 := HL.out
            have a3 := HAL.out
            simp; omega
          · have a1 := HE.out
            rw [HF.out, encF_ge _ _ hlt] at a1
            rw [List.append_assoc]; exact a1
          · rw [ints_append, List.length_append, HAL.out]; exact hown1
        case measure => simp [intOf]; omega
      · have HL := Lib.hid hl
        have hal2 : al ≤ 3 := by omega
        clear hf hl
        go_wp2_with (at_builtin; refine wpList_push (W := w) rfl _ _ 43 3 rfl (.int .i64 0) 1 8 Try.underlying43 infoInt rfl (by decide) (by decide) #[.int .i64 (q)] rfl (by simp [Value.oneCell']) w.heap.size _ _ _ HO.out rfl rfl (by omega) HB.out (Nat.le_refl _) HB.out.size ?_; intro v' w1 hown1 hbel1 hne1)
        go_ret
        have e : encF 3 n = acc ++ [q] := by rw [← HE.out, encF_lt _ _ (by omega)]
        rw [e]
        refine ⟨_, rfl, ?_, hbel1⟩
        have h3 := Ow.of_row hown1
        rw [ints_append, List.length_append, HAL.out]
        exact h3
  · have h' : n < 0 ∨ (0 ≤ n ∧ n > 1000000) := by omega
    rw [encode, if_neg h]
    clear h
    rcases h' with h' | ⟨h', h''⟩
    all_goals
      go_enter Try.func51, Try.ntmps51
      go_wp2_with fail
      go_ret
      exact ⟨_, rfl, Ow.nil _ _ _ _ _ _, Below.refl _ _⟩
end Go.Proofs.Ytoolmknnmmecfaa
