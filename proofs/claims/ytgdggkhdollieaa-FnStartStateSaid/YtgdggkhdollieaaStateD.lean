/-
  States that are done; a number of vertices that is drawn.
-/
import Derived.Test.YtgdggkhdollieaaStateV
import Derived.Test.YtgdggkhdollieaaStart
import Derived.Test.YtgdggkhdollieaaDraw
namespace Go.Proofs.Ytgdggkhdollieaa
open Go.RowKit
set_option linter.unusedVariables false

def someB (xs : List Bool) : Bool := xs.any id
theorem someB_yes {xs : List Bool} {k : Nat} (hk : k < xs.length) (h : xs.getD k false = true) : someB xs = true := by
  unfold someB
  rw [List.any_eq_true]
  exact ⟨xs.getD k false, by simp [hk], by simpa using h⟩
theorem someB_no {xs : List Bool} (h : ∀ k, k < xs.length → xs.getD k false = false) : someB xs = false := by
  unfold someB
  rw [List.any_eq_false]
  intro x hx
  obtain ⟨k, hk, rfl⟩ := List.mem_iff_getElem.1 hx
  have := h k hk
  have e : xs.getD k false = xs[k] := by simp [hk]
  rw [e] at this; simp [this]
set_option maxRecDepth 100000 in
set_option maxHeartbeats 1000000 in
theorem indexTrue_any (w : World) (va : Value) (xs : List Bool) (ha : RdBoolS w va xs) : Calls Try.prog 102 #[va, .bool true] w fun e w' => (∃ c : Int, e = .returned (.int .i64 c) ∧ (-1 ≤ c) ∧ decide (0 ≤ c) = someB xs) ∧ w = w' := by
  obtain ⟨a, ca, rfl, hca, hma, Ha⟩ := ha.bool
  clear ha
  have HY := Lib.hid fun k => @someB_yes xs k
  have HN := Lib.hid (@someB_no xs)
  generalize someB xs = R at *
  generalize xs.length = n at *
  go_enter Try.func102, Try.ntmps102
  go_wp2_with fail
  go_loopw [8] (fun i wr => ∃ k : Nat, k ≤ n ∧ i = .int .i64 k ∧ w = wr ∧ Hid (∀ j, j < k → xs.getD j false = false)) (fun i _ => n - (intOf i).toNat)
  case atStart => exact ⟨0, Nat.zero_le _, rfl, rfl, Lib.hid fun j hj => absurd hj (Nat.not_lt_zero _)⟩
  case round =>
    obtain ⟨k, hk, rfl, rfl, HJ⟩ := hrel
    by_cases hlt : k < n
    · obtain ⟨b1, o1, rfl, hb1, hc1⟩ := Ha.out k hlt
      have HYK := Lib.hid (HY.out k hlt)
      generalize hx : xs.getD k false = x at *
      have HX := Lib.hid hx; clear hx Ha
      cases x
      · go_wp2_with fail
        go_roundw
        case rel => exact ⟨k + 1, by omega, by go_num, (by first | exact rfl | trivial), Lib.hid fun j hj => by
          by_cases e : j = k
          · subst e; exact HX.out
          · exact HJ.out j (by omega)⟩
        case measure => simp [intOf]; omega
      · have h0 := HYK.out rfl
        go_wp2_with fail
        go_ret
        exact ⟨⟨_, rfl, by omega, by first | omega | (rw [h0]; simp)⟩, rfl⟩
    · obtain rfl : k = n := by omega
      have h0 := HN.out HJ.out
      clear Ha
      go_wp2_with fail
      go_ret
      exact ⟨⟨_, rfl, by omega, by first | (rw [h0]; decide) | omega | simp⟩, rfl⟩
theorem containsTrue_any (w : World) (va : Value) (xs : List Bool) (ha : RdBoolS w va xs) : Calls Try.prog 79 #[va, .bool true] w fun e w' => e = .returned (.bool (someB xs)) ∧ w = w' := by
  have C := Lib.hid (indexTrue_any w va xs ha)
  obtain ⟨a, ca, rfl, -, -⟩ := Rd.form ha
  clear ha
  generalize someB xs = R at *
  go_enter Try.func79, Try.ntmps79
  go_wp2_with fail
  refine C.out.mono ?_
  rintro e w1 ⟨⟨c, rfl, hc, hR⟩, rfl⟩
  have HR := Lib.hid hR; clear hR
  go_wp2_with fail
  go_ret
  exact ⟨by rw [← HR.out]; rfl, rfl⟩

theorem ownValid_any (w : World) (va : Value) (s : StateD) (ha : RdState w va s) : Calls Try.prog 78 #[va] w fun e w' => e = .returned (.bool (stateOk s (s.2.1.length : Int))) ∧ Below w.heap.size w w' := by
  have CV := Lib.hid fun wx (hb : Below w.heap.size w wx) => implStateValid_any wx va s (s.2.1.length : Int) (ha.keep hb)
  obtain ⟨v1, v2, v3, rfl, r1, r2, r3⟩ := ha
  generalize stateOk s (s.2.1.length : Int) = R at *
  obtain ⟨r, xs, bs, ys⟩ := s
  simp only at *
  obtain ⟨a1, c1, rfl, -, -⟩ := Rd.form r1
  obtain ⟨a2, c2, rfl, -, -⟩ := Rd.form r2
  obtain ⟨a3, c3, rfl, -, -⟩ := Rd.form r3
  clear r1 r2 r3
  generalize xs.length = n1 at *
  generalize bs.length = n2 at *
  generalize ys.length = n3 at *
  have HB : Hid (Below w.heap.size w (w.alloc (.cells #[.int .i64 r, .slice a1 n1 c1, .slice a2 n2 c2, .slice a3 n3 c3] 41))) := Lib.hid (by go_grown)
  go_enter Try.func78, Try.ntmps78
  go_wp2_with fail
  refine (CV.out _ HB.out).mono ?_
  rintro e w1 ⟨rfl, hb⟩
  replace HB := Lib.hid (HB.out.tr hb); clear hb CV
  go_wp2_with fail
  go_ret
  exact ⟨rfl, HB.out⟩
def stateDone (s : StateD) : Bool := stateOk s (s.2.1.length : Int) && (((s.2.2.2.length : Int) == 0) && !someB s.2.2.1)
set_option maxRecDepth 100000 in
set_option maxHeartbeats 2000000 in
theorem implStateDone_any (w : World) (va : Value) (s : StateD) (ha : RdState w va s) : Calls Try.prog 39 #[va] w fun e w' => e = .returned (.bool (stateDone s)) ∧ Below w.heap.size w w' := by
  have CV := Lib.hid fun wx (hb : Below w.heap.size w wx) => ownValid_any wx va s (ha.keep hb)
  unfold stateDone
  obtain ⟨v1, v2, v3, rfl, r1, r2, r3⟩ := ha
  generalize stateOk s (s.2.1.length : Int) = R at *
  obtain ⟨r, xs, bs, ys⟩ := s
  simp only at *
  obtain ⟨a1, c1, rfl, -, -⟩ := Rd.form r1
  obtain ⟨a2, c2, rfl, -, -⟩ := Rd.form r2
  obtain ⟨a3, c3, rfl, -, -⟩ := Rd.form r3
  have CC := Lib.hid fun wx (hb : Below w.heap.size w wx) => containsTrue_any wx _ bs (r2.keep hb)
  clear r1 r2 r3
  generalize someB bs = sb at *
  generalize xs.length = n1 at *
  generalize bs.length = n2 at *
  generalize ys.length = n3 at *
  have HB : Hid (Below w.heap.size w (w.alloc (.cells #[.int .i64 r, .slice a1 n1 c1, .slice a2 n2 c2, .slice a3 n3 c3] 41))) := Lib.hid (by go_grown)
  have X := Lib.hid (heap_alloc_new w (.cells #[.int .i64 r, .slice a1 n1 c1, .slice a2 n2 c2, .slice a3 n3 c3] 41))
  cases R
  · go_enter Try.func39, Try.ntmps39
    go_wp2_with fail
    refine (CV.out _ HB.out).mono ?_
    rintro e w1 ⟨rfl, hb⟩
    replace HB := Lib.hid (HB.out.tr hb); clear hb CV
    go_wp2_with fail
    go_ret
    exact ⟨rfl, HB.out⟩
  · cases hz : ((n3 : Int) == 0)
    · go_enter Try.func39, Try.ntmps39
      go_wp2_with fail
      refine (CV.out _ HB.out).mono ?_
      rintro e w1 ⟨rfl, hb⟩
      replace HB := Lib.hid (HB.out.tr hb); replace X := Lib.hid (box_keep X.out hb); clear hb CV
      have k3 := box_cell X.out 3 (.slice a3 n3 c3) rfl
      go_wp2_with fail
      go_ret
      exact ⟨rfl, HB.out⟩
    · go_enter Try.func39, Try.ntmps39
      go_wp2_with fail
      refine (CV.out _ HB.out).mono ?_
      rintro e w1 ⟨rfl, hb⟩
      replace HB := Lib.hid (HB.out.tr hb); replace X := Lib.hid (box_keep X.out hb); clear hb CV
      have k3 := box_cell X.out 3 (.slice a3 n3 c3) rfl; have k2 := box_cell X.out 2 (.slice a2 n2 c2) rfl
      go_wp2_with fail
      refine (CC.out _ HB.out).mono ?_
      rintro e w1 ⟨rfl, rfl⟩
      clear CC k2 k3 X
      go_wp2_with fail
      go_ret
      exact ⟨rfl, HB.out⟩

set_option maxRecDepth 100000 in
theorem DrawStartState_any (W : World) (va : Value) (bs : List Int) (hr : Rd W 1 va bs.length (bys bs)) (hg : ∀ x ∈ bs, 0 ≤ x ∧ x ≤ 255) :
    Calls Try.prog 36 #[va] W fun e w' => (∃ c : Int, e = .returned (.int .i64 c) ∧ -1 ≤ c ∧ c ≤ 17) ∧ Below W.heap.size W w' := by
  have HO := Lib.hid (open_any W va bs W hr hg (Below.refl _ _)); clear hr hg
  go_enter Try.func36, Try.ntmps36
  go_wp2_with fail
  refine HO.out.mono ?_
  rintro e w1 ⟨sv, bs', rfl, hd, hb1, hs1⟩
  have HD := Lib.hid hd; clear hd HO
  go_wp2_with fail
  refine (pick_any W sv bs' _ _ _ _ HD.out (by omega) (by omega) (by omega)).mono ?_
  rintro e w2 ⟨c, rfl, c0, c1, c2, hd2, hg2⟩
  have HB := Lib.hid hd2.below
  clear hd2 hg2
  have c3 := c1 (by omega)
  go_wp2_with fail
  go_ret
  exact ⟨⟨_, rfl, by omega, by omega⟩, HB.out⟩
end Go.Proofs.Ytgdggkhdollieaa
