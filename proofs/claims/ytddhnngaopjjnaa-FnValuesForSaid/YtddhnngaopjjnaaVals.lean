/-
  The values of the messages to a vertex: the program's function and the reference's.
-/
import Derived.Test.YtddhnngaopjjnaaTri
namespace Go.Proofs.Ytddhnngaopjjnaa
open Go.RowKit
set_option linter.unusedVariables false

def valsTo (ys : List Tri) (v : Int) : List Int := (ys.filter fun y => y.1 == v).map fun y => y.2.1
def valuesFor (ys : List Tri) (v : Int) : List Int := if ys.length ≤ 2000 then valsTo ys v else []
theorem valsTo_yes (ys : List Tri) (v : Int) (k : Nat) (hk : k < ys.length) (h : (ys.getD k triZ).1 = v) : valsTo (ys.take (k + 1)) v = valsTo (ys.take k) v ++ [(ys.getD k triZ).2.1] := by
  rw [triTake_snoc ys k hk]; generalize ys.getD k triZ = t at *; simp [valsTo, List.filter_append, h]
theorem valsTo_no (ys : List Tri) (v : Int) (k : Nat) (hk : k < ys.length) (h : ¬ (ys.getD k triZ).1 = v) : valsTo (ys.take (k + 1)) v = valsTo (ys.take k) v := by
  rw [triTake_snoc ys k hk]; generalize ys.getD k triZ = t at *; simp [valsTo, List.filter_append, h]
theorem valsTo_length (ys : List Tri) (v : Int) : (valsTo ys v).length ≤ ys.length := by
  unfold valsTo; rw [List.length_map]; exact List.length_filter_le _ _
theorem valuesFor_length (ys : List Tri) (v : Int) : (valuesFor ys v).length ≤ ys.length := by
  unfold valuesFor; split
  · exact valsTo_length _ _
  · simp

set_option maxRecDepth 100000 in
set_option maxHeartbeats 2000000 in
theorem specValuesFor_any (w : World) (va : Value) (ys : List Tri) (v : Int) (ha : Rd w 3 va ys.length (tris ys)) :
    Calls Try.prog 28 #[va, .int .i64 v] w (RetI w (valuesFor ys v)) := by
  have HR := Lib.hid ha
  obtain ⟨a, ca, rfl, hca, hma⟩ := ha.form
  clear ha
  by_cases hs : ys.length ≤ 2000
  · rw [valuesFor, if_pos hs]
    have HT : Hid (ys.take ys.length = ys) := Lib.hid (List.take_of_length_le (Nat.le_refl _))
    have HV := Lib.hid fun k => valsTo_length (ys.take k) v
    generalize hn : ys.length = n at *
    have HN := Lib.hid hn; clear hn
    have hs' : decide ((n : Int) ≤ 2000) = true := by simp; omega
    go_enter Try.func28, Try.ntmps28
    go_wp2_with fail
    go_loopw [5, 6] (fun s i wr => ∃ k : Nat, k ≤ n ∧ i = .int .i64 k ∧ Hid (wr.ownsRow w.heap.size 3 1 s (valsTo (ys.take k) v).length (ints (valsTo (ys.take k) v))) ∧ Hid (Below w.heap.size w wr)) (fun _ i _ => n - (intOf i).toNat)
    case atStart => exact ⟨0, Nat.zero_le _, rfl, Lib.hid (World.ownsRow_made (size := 1) w #[] 0 (Nat.le_refl _) (by decide) rfl), Lib.hid ((Below.refl _ _).alloc (Nat.le_refl _) _)⟩
    case round =>
      obtain ⟨k, hk, rfl, HO, HB⟩ := hrel
      have hvl := HV.out k
      rw [List.length_take] at hvl
      by_cases hlt : k < n
      · obtain ⟨b1, o1, rfl, hb1, c0, c1, c2⟩ := (HR.out.keep HB.out).tri hlt
        have HY := Lib.hid (valsTo_yes ys v k (by rw [HN.out]; exact hlt))
        have HZ := Lib.hid (valsTo_no ys v k (by rw [HN.out]; exact hlt))
        generalize ys.getD k triZ = t at *
        obtain ⟨ta, tb, tc⟩ := t
        simp only at c0 c1 c2 HY HZ
        generalize valsTo (ys.take k) v = zs at *
        generalize hal : zs.length = al at *
        have HAL := Lib.hid hal; clear hal
        have hsz := HB.out.size
        by_cases hq : ta = v
        · have hq' : (ta == v) = true := by simp [hq]
          have HE := Lib.hid (HY.out hq)
          clear hq HY HZ
          go_wp2_with (at_builtin; refine wpList_pushB rfl _ _ 23 3 rfl (.int .i64 0) 1 8 Try.underlying23 infoInt rfl (by decide) (by decide) #[.int .i64 tb] rfl (by simp [Value.oneCell']) w.heap.size _ _ _ HO.out rfl rfl (by omega) hsz ?_; intro v' w5 hown5 hbel5 hne5; have HO5 := Lib.hid hown5; have HB5 := Lib.hid (HB.out.trans hbel5); clear hne5 hown5 hbel5)
          go_roundw
          case rel =>
            refine ⟨k + 1, by omega, by go_num, ?_, HB5⟩
            rw [HE.out, ints_append, List.length_append, HAL.out]; exact HO5
          case measure => simp [intOf]; omega
        · have hq' : (ta == v) = false := by simp [hq]
          have HE := Lib.hid (HZ.out hq)
          clear hq HY HZ
          go_wp2_with fail
          go_roundw
          case rel =>
            refine ⟨k + 1, by omega, by go_num, ?_, HB⟩
            rw [HE.out, HAL.out]; exact HO
          case measure => simp [intOf]; omega
      · obtain rfl : k = n := by omega
        go_wp2_with fail
        go_ret
        have h := Ow.of_row HO.out
        rw [HT.out] at h
        exact ⟨_, rfl, h, HB.out⟩
  · rw [valuesFor, if_neg hs]
    clear HR
    generalize ys.length = n at *
    have hs' : decide ((n : Int) ≤ 2000) = false := by simp; omega
    have h0 : 0 < n := by omega
    go_enter Try.func28, Try.ntmps28
    go_wp2_with fail
    refine wp_loop_rounds 1 ?_
    rw [rounds_succ]
    go_wp2_with fail
    go_ret
    exact ⟨_, rfl, Ow.nil _ _ _ _ _ _, (Below.refl _ _).alloc (Nat.le_refl _) _⟩

set_option maxRecDepth 100000 in
set_option maxHeartbeats 2000000 in
theorem valuesTo_any (w : World) (va : Value) (ys : List Tri) (v : Int) (ha : Rd w 3 va ys.length (tris ys)) (hs : ys.length ≤ 1099511627776) :
    Calls Try.prog 66 #[va, .int .i64 v] w (RetI w (valsTo ys v)) := by
  have HR := Lib.hid ha
  obtain ⟨a, ca, rfl, hca, hma⟩ := ha.form
  clear ha
  have HT : Hid (ys.take ys.length = ys) := Lib.hid (List.take_of_length_le (Nat.le_refl _))
  have HV := Lib.hid fun k => valsTo_length (ys.take k) v
  generalize hn : ys.length = n at *
  have HN := Lib.hid hn; clear hn
  go_enter Try.func66, Try.ntmps66
  go_wp2_with fail
  go_loopw [5, 10] (fun s i wr => ∃ k : Nat, k ≤ n ∧ i = .int .i64 k ∧ Hid (wr.ownsRow w.heap.size 3 1 s (valsTo (ys.take k) v).length (ints (valsTo (ys.take k) v))) ∧ Hid (Below w.heap.size w wr)) (fun _ i _ => n - (intOf i).toNat)
  case atStart => exact ⟨0, Nat.zero_le _, rfl, Lib.hid (World.ownsRow_nil _ _ _ _), Lib.hid (Below.refl _ _)⟩
  case round =>
    obtain ⟨k, hk, rfl, HO, HB⟩ := hrel
    have hvl := HV.out k
    rw [List.length_take] at hvl
    by_cases hlt : k < n
    · obtain ⟨b1, o1, rfl, hb1, c0, c1, c2⟩ := (HR.out.keep HB.out).tri hlt
      have HY := Lib.hid (valsTo_yes ys v k (by rw [HN.out]; exact hlt))
      have HZ := Lib.hid (valsTo_no ys v k (by rw [HN.out]; exact hlt))
      generalize ys.getD k triZ = t at *
      obtain ⟨ta, tb, tc⟩ := t
      simp only at c0 c1 c2 HY HZ
      generalize valsTo (ys.take k) v = zs at *
      generalize hal : zs.length = al at *
      have HAL := Lib.hid hal; clear hal
      have hsz := HB.out.size
      by_cases hq : ta = v
      · have hq' : (ta == v) = true := by simp [hq]
        have HE := Lib.hid (HY.out hq)
        have HO2 := Lib.hid (HO.out.alloc (.cells #[.int .i64 ta, .int .i64 tb, .int .i64 tc] 44))
        have HB2 := Lib.hid (HB.out.alloc hsz (.cells #[.int .i64 ta, .int .i64 tb, .int .i64 tc] 44))
        have hsz2 := HB2.out.size
        clear hq HY HZ
        go_wp2_with (at_builtin; refine wpList_pushB rfl _ _ 23 3 rfl (.int .i64 0) 1 8 Try.underlying23 infoInt rfl (by decide) (by decide) #[.int .i64 tb] rfl (by simp [Value.oneCell']) w.heap.size _ _ _ HO2.out rfl (by rw [World.size_alloc]; rfl) (by omega) hsz2 ?_; intro v' w5 hown5 hbel5 hne5; have HO5 := Lib.hid hown5; have HB5 := Lib.hid (HB2.out.trans hbel5); clear hne5 hown5 hbel5)
        go_roundw
        case rel =>
          refine ⟨k + 1, by omega, by go_num, ?_, HB5⟩
          rw [HE.out, ints_append, List.length_append, HAL.out]; exact HO5
        case measure => simp [intOf]; omega
      · have hq' : (ta == v) = false := by simp [hq]
        have HE := Lib.hid (HZ.out hq)
        have HO2 := Lib.hid (HO.out.alloc (.cells #[.int .i64 ta, .int .i64 tb, .int .i64 tc] 44))
        have HB2 := Lib.hid (HB.out.alloc hsz (.cells #[.int .i64 ta, .int .i64 tb, .int .i64 tc] 44))
        clear hq HY HZ
        go_wp2_with fail
        go_roundw
        case rel =>
          refine ⟨k + 1, by omega, by go_num, ?_, HB2⟩
          rw [HE.out, HAL.out]; exact HO2
        case measure => simp [intOf]; omega
    · obtain rfl : k = n := by omega
      go_wp2_with fail
      go_ret
      have h := Ow.of_row HO.out
      rw [HT.out] at h
      exact ⟨_, rfl, h, HB.out⟩

set_option maxHeartbeats 1000000 in
theorem implValuesFor_any (w : World) (va : Value) (ys : List Tri) (v : Int) (ha : Rd w 3 va ys.length (tris ys)) :
    Calls Try.prog 26 #[va, .int .i64 v] w (RetI w (valuesFor ys v)) := by
  by_cases hs : ys.length ≤ 2000
  · rw [valuesFor, if_pos hs]
    have C := Lib.hid (valuesTo_any w va ys v ha (by omega))
    obtain ⟨a, ca, rfl, hca, hma⟩ := ha.form
    clear ha
    generalize valsTo ys v = zs at *
    generalize ys.length = n at *
    have hs' : decide ((n : Int) > 2000) = false := by simp; omega
    go_enter Try.func26, Try.ntmps26
    go_wp2_with fail
    refine C.out.mono ?_
    rintro e w1 ⟨v1, rfl, ho, hb⟩
    have HO := Lib.hid ho; have HB := Lib.hid hb; clear ho hb
    go_wp2_with fail
    go_ret
    exact ⟨_, rfl, HO.out, HB.out⟩
  · rw [valuesFor, if_neg hs]
    obtain ⟨a, ca, rfl, hca, hma⟩ := ha.form
    clear ha
    generalize ys.length = n at *
    have hs' : decide ((n : Int) > 2000) = true := by simp; omega
    go_enter Try.func26, Try.ntmps26
    go_wp2_with fail
    go_ret
    exact ⟨_, rfl, ow_nil_ret (Below.refl _ _) _ _ _⟩
end Go.Proofs.Ytddhnngaopjjnaa
