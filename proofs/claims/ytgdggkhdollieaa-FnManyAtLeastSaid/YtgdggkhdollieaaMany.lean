/-
  ManyAtLeast: the program's function, by sorting, and the reference's, by counting.
-/
import Derived.Test.YtgdggkhdollieaaIter
import Derived.Test.YtgdggkhdollieaaSortI
import Derived.Test.YtgdggkhdollieaaManyP
import Derived.Test.YtgdggkhdollieaaLib3
namespace Go.Proofs.Ytgdggkhdollieaa
open Go.RowKit
set_option linter.unusedVariables false

theorem collect_any (w : World) (Bs : Nat) (sv : Value) (zs : List Int) (hlen : zs.length ≤ 1099511627776) (hBs : Bs < w.heap.size) (hc : w.cell? ⟨Bs, 0, none⟩ = some sv) (hI : IntsAt w.heap.size w sv zs) :
    Calls Try.prog 89 #[.func (.func 91) #[] #[.pointer (some ⟨Bs, 0, none⟩)]] w fun e W' => ∃ v, e = .returned v ∧ W'.ownsRow w.heap.size 3 1 v zs.length (ints zs) ∧ Below w.heap.size w W' := by
  have C := Lib.hid ((callsIn_wide (n := 6)).1 (appendSeq_in Fence.wide 6 trivial trivial rfl (by omega) Bs sv zs hlen w hBs hc hI))
  clear hc hI
  go_enter Try.func89, Try.ntmps89
  go_wp2_with fail
  refine C.out.mono ?_
  rintro e w1 ⟨v, rfl, ho, hb⟩
  have HO := Lib.hid ho; have HB := Lib.hid hb; clear ho hb C
  go_wp2_with fail
  go_ret
  exact ⟨_, rfl, HO.out, HB.out⟩
theorem sorted_any (w : World) (Bs : Nat) (sv : Value) (zs : List Int) (hlen : zs.length ≤ 1099511627776) (hBs : Bs < w.heap.size) (hc : w.cell? ⟨Bs, 0, none⟩ = some sv) (hI : IntsAt w.heap.size w sv zs) :
    Calls Try.prog 52 #[.func (.func 91) #[] #[.pointer (some ⟨Bs, 0, none⟩)]] w fun e W' => ∃ v, e = .returned v ∧ W'.ownsRow w.heap.size 3 1 v zs.length (ints (sortI zs)) ∧ Below w.heap.size w W' := by
  have C := Lib.hid (collect_any w Bs sv zs hlen hBs hc hI)
  have CS := Lib.hid fun wx v h => sortInts_any wx w.heap.size v zs h hlen
  clear hc hI
  go_enter Try.func52, Try.ntmps52
  go_wp2_with fail
  refine C.out.mono ?_
  rintro e w1 ⟨v, rfl, ho, hb⟩
  have HO := Lib.hid ho; have HB := Lib.hid hb; clear ho hb C
  go_wp2_with fail
  refine (CS.out _ _ HO.out).mono ?_
  rintro e w2 ⟨rfl, ho, hg⟩
  have HO2 := Lib.hid ho
  replace HB := Lib.hid (HB.out.grown hg HB.out.size (fun j hj => (HO.out.lt j hj).1))
  clear ho hg CS
  go_wp2_with fail
  go_ret
  exact ⟨_, rfl, HO2.out, HB.out⟩

set_option maxRecDepth 100000 in
set_option maxHeartbeats 2000000 in
theorem implManyAtLeast_any (w : World) (va : Value) (xs : List Int) (ha : RdIntS w va xs) (hl : xs.length ≤ 1048576) :
    Calls Try.prog 13 #[va] w fun e w' => (∃ n : Nat, e = .returned (.int .i64 n) ∧ IsMany xs n) ∧ Below w.heap.size w w' := by
  have HI := Lib.hid (IntsAt.of_rd ha)
  obtain ⟨a, ca, rfl, hca, hma⟩ := Rd.form ha
  clear ha
  have HV : Hid (Calls Try.prog 53 #[.slice a xs.length ca] w fun e w' => e = .returned (.func (.func 91) #[] #[.pointer (some ⟨w.heap.size, 0, none⟩)]) ∧ w' = w.alloc (.cells #[.slice a xs.length ca] 23)) := Lib.hid ((callsIn_wide (n := 6)).1 (values_in Fence.wide 6 trivial rfl a xs.length ca w))
  have HB : Hid (Below w.heap.size w (w.alloc (.cells #[.slice a xs.length ca] 23))) := Lib.hid (by go_grown)
  have HS : Hid (Calls Try.prog 52 #[.func (.func 91) #[] #[.pointer (some ⟨w.heap.size, 0, none⟩)]] (w.alloc (.cells #[.slice a xs.length ca] 23)) fun e W' => ∃ v, e = .returned v ∧ W'.ownsRow (w.alloc (.cells #[.slice a xs.length ca] 23)).heap.size 3 1 v xs.length (ints (sortI xs)) ∧ Below (w.alloc (.cells #[.slice a xs.length ca] 23)).heap.size (w.alloc (.cells #[.slice a xs.length ca] 23)) W') :=
    Lib.hid (sorted_any _ w.heap.size (.slice a xs.length ca) xs (by omega) (by simp) (box_cell (heap_alloc_new w _) 0 _ rfl) ((HI.out.below HB.out).mono HB.out.size))
  have HP := Lib.hid (sortI_perm xs); have HSS := Lib.hid (sortI_sorted xs)
  have HLN : Hid ((sortI xs).length = xs.length) := Lib.hid (sortI_length xs)
  generalize hS : sortI xs = S at *
  clear hS HI
  have HCG := Lib.hid fun n i hi => cntGe_sorted (S := S) HSS.out n i hi
  have HCP := Lib.hid fun n => cntGe_perm HP.out n
  have HST := Lib.hid fun n h1 h2 h3 => IsMany.stop (xs := xs) (n := n) h1 h2 h3
  generalize hn : xs.length = l at *
  have HL := Lib.hid hn; clear hn
  go_enter Try.func13, Try.ntmps13
  go_wp2_with fail
  refine HV.out.mono ?_
  rintro e w1 ⟨rfl, rfl⟩
  go_wp2_with fail
  refine HS.out.mono ?_
  rintro e w2 ⟨v, rfl, ho, hb⟩
  replace HB := Lib.hid (HB.out.tr hb)
  have hrd := Rd.of_own ho
  rw [← HLN.out] at hrd
  obtain ⟨a2, c2, rfl, hc2, hm2, H2⟩ := hrd.int
  clear ho hb HV HS hrd
  have HLE : Hid (0 ≤ cntGe xs 0) := Lib.hid (Nat.zero_le _)
  rw [HLN.out] at hc2 H2 ⊢
  go_wp2_with fail
  go_loopw [4] (fun i wr => ∃ k : Nat, k ≤ l ∧ i = .int .i64 k ∧ w2 = wr ∧ Hid (k ≤ cntGe xs k)) (fun i _ => l - (intOf i).toNat)
  case atStart => exact ⟨0, Nat.zero_le _, rfl, rfl, HLE⟩
  case round =>
    clear HLE
    obtain ⟨k, hk, rfl, rfl, HK⟩ := hrel
    by_cases hlt : k < l
    · obtain ⟨i, hi⟩ : ∃ i, i + k + 1 = l := ⟨l - 1 - k, by omega⟩
      have hil : i < l := by omega
      obtain ⟨b1, o1, rfl, hb1, hc1⟩ := H2.out i hil
      have hg := HCG.out k i (by rw [HLN.out]; exact hi)
      rw [HCP.out] at hg
      generalize S.getD i 0 = x at *
      have e1 : (l : Int) - 1 - (k : Int) = (i : Int) := by omega
      have e2 : IntKind.i64.wrap ((l : Int) - 1) = (l : Int) - 1 := IntWalk.i64_in _ (by omega)
      have e3 : IntKind.i64.wrap ((l : Int) - 1 - (k : Int)) = (i : Int) := by rw [e1]; exact IntWalk.i64_in _ (by omega)
      have hii : (i : Int) < (l : Int) := by omega
      have HGG := Lib.hid hg; clear hg H2 hi
      by_cases hx : (k : Int) < x
      · have HX := Lib.hid (HGG.out.1 hx)
        go_wp2_with fail
        go_roundw
        case rel => exact ⟨k + 1, by omega, by go_num, (by first | exact rfl | trivial), HX⟩
        case measure => simp [intOf]; omega
      · have HX := Lib.hid (mt HGG.out.2 hx)
        have HM := Lib.hid (HST.out k (by omega) HK.out HX.out)
        clear HGG
        go_wp2_with fail
        go_ret
        exact ⟨⟨k, rfl, HM.out⟩, HB.out⟩
    · obtain rfl : k = l := by omega
      have HM : Hid (IsMany xs k) := Lib.hid ⟨by rw [HL.out]; exact Nat.le_refl _, HK.out, fun h => absurd h (by rw [HL.out]; omega)⟩
      clear H2 HCG
      go_wp2_with fail
      go_ret
      exact ⟨⟨k, rfl, HM.out⟩, HB.out⟩

set_option maxRecDepth 100000 in
set_option maxHeartbeats 2000000 in
theorem specManyAtLeast_any (w : World) (va : Value) (xs : List Int) (ha : RdIntS w va xs) (hl : xs.length ≤ 1048576) :
    Calls Try.prog 14 #[va] w fun e w' => (∃ n : Nat, e = .returned (.int .i64 n) ∧ IsMany xs n) ∧ Below w.heap.size w w' := by
  obtain ⟨a, ca, rfl, hca, hma, Ha⟩ := ha.int
  clear ha
  have HST := Lib.hid fun n h1 h2 h3 => IsMany.stop (xs := xs) (n := n) h1 h2 h3
  have HCT := Lib.hid fun n k h => cntGe_take xs n k h
  have HCL := Lib.hid fun n k => cntGe_take_le xs n k
  have HALL : Hid (xs.take xs.length = xs) := Lib.hid (List.take_of_length_le (Nat.le_refl _))
  generalize hn : xs.length = l at *
  have HL := Lib.hid hn; clear hn
  have HLE : Hid (0 ≤ cntGe xs 0) := Lib.hid (Nat.zero_le _)
  go_enter Try.func14, Try.ntmps14
  go_wp2_with fail
  go_loopw [3] (fun i wr => ∃ k : Nat, k ≤ l ∧ i = .int .i64 k ∧ w = wr ∧ Hid (k ≤ cntGe xs k)) (fun i _ => l - (intOf i).toNat)
  case atStart => exact ⟨0, Nat.zero_le _, rfl, rfl, HLE⟩
  case round =>
    clear HLE
    obtain ⟨k, hk, rfl, rfl, HK⟩ := hrel
    by_cases hlt : k < l
    · go_wp2_with fail
      go_loopw [4, 5] (fun m i wr => ∃ j : Nat, j ≤ l ∧ i = .int .i64 j ∧ m = .int .i64 ((cntGe (xs.take j) (k + 1) : Nat) : Int) ∧ w = wr) (fun _ i _ => l - (intOf i).toNat)
      case atStart => exact ⟨0, Nat.zero_le _, rfl, by simp [cntGe], rfl⟩
      case round =>
        obtain ⟨j, hj, rfl, rfl, rfl⟩ := hrel
        have hcl := HCL.out (k + 1) j
        by_cases hjl : j < l
        · obtain ⟨b1, o1, rfl, hb1, hc1⟩ := Ha.out j hjl
          have HT := Lib.hid (HCT.out (k + 1) j hjl)
          generalize cntGe (xs.take j) (k + 1) = c at *
          generalize xs.getD j 0 = x at *
          have ek : (((k + 1 : Nat) : Int)) = (k : Int) + 1 := by omega
          clear Ha
          by_cases hx : (k : Int) + 1 ≤ x
          · have t1 : decide (x ≥ (k : Int) + 1) = true := by simpa using hx
            have HE := Lib.hid (HT.out.trans (by rw [ek, if_pos hx]))
            clear HT
            go_wp2_with fail
            go_roundw
            case rel => exact ⟨j + 1, by omega, by go_num, by rw [HE.out]; go_num, (by first | exact rfl | trivial)⟩
            case measure => simp [intOf]; omega
          · have t1 : decide (x ≥ (k : Int) + 1) = false := by simpa using hx
            have HE := Lib.hid (HT.out.trans (by rw [ek, if_neg hx]))
            clear HT
            go_wp2_with fail
            go_roundw
            case rel => exact ⟨j + 1, by omega, by go_num, by rw [HE.out]; simp, (by first | exact rfl | trivial)⟩
            case measure => simp [intOf]; omega
        · obtain rfl : j = l := by omega
          rw [HALL.out] at hcl ⊢
          have HCX := Lib.hid hcl
          generalize hcc : cntGe xs (k + 1) = c at *
          have HCC := Lib.hid hcc; clear hcc
          by_cases hx : (c : Int) < (k : Int) + 1
          · have HM := Lib.hid (HST.out k (by omega) HK.out (by rw [HCC.out]; omega))
            clear Ha
            go_wp2_with fail
            go_ret
            exact ⟨⟨k, rfl, HM.out⟩, Below.refl _ _⟩
          · have HN : Hid (k + 1 ≤ cntGe xs (k + 1)) := Lib.hid (by rw [HCC.out]; omega)
            clear Ha
            go_wp2_with fail
            go_roundw
            case rel => exact ⟨k + 1, by omega, by go_num, (by first | exact rfl | trivial), HN⟩
            case measure => simp [intOf]; omega
    · obtain rfl : k = l := by omega
      have HM : Hid (IsMany xs k) := Lib.hid ⟨by rw [HL.out]; exact Nat.le_refl _, HK.out, fun h => absurd h (by rw [HL.out]; omega)⟩
      clear Ha
      go_wp2_with fail
      go_ret
      exact ⟨⟨k, rfl, HM.out⟩, Below.refl _ _⟩
end Go.Proofs.Ytgdggkhdollieaa
