/-
  The weight of an edge: the program's function and the reference's.
-/
import Derived.Test.YtoolmknnmmecfaaDoorGraphV
namespace Go.Proofs.YtoolmknnmmecfaaDoor
open Go.RowKit
set_option linter.unusedVariables false

/-- The weight of the first edge from a to b; -1 if there is none. -/
def weightAt (a b : Int) : List Tri → Int
  | [] => -1
  | y :: ys => if y.1 = a ∧ y.2.1 = b then y.2.2 else weightAt a b ys
def weightOf (g : GraphD) (a b : Int) : Int := if graphOk g = true then weightAt a b g.2 else -1
theorem weightAt_no (a b : Int) : ∀ ys : List Tri, (∀ j, j < ys.length → ¬ ((ys.getD j triZ).1 = a ∧ (ys.getD j triZ).2.1 = b)) → weightAt a b ys = -1
  | [], _ => rfl
  | y :: ys, h => by
    rw [weightAt, if_neg (show ¬ (y.1 = a ∧ y.2.1 = b) from h 0 (by simp))]
    exact weightAt_no a b ys fun j hj => by simpa using h (j + 1) (by simpa using hj)
theorem weightAt_first (a b : Int) : ∀ (ys : List Tri) (k : Nat), k < ys.length → (∀ j, j < k → ¬ ((ys.getD j triZ).1 = a ∧ (ys.getD j triZ).2.1 = b)) → (ys.getD k triZ).1 = a → (ys.getD k triZ).2.1 = b → weightAt a b ys = (ys.getD k triZ).2.2
  | [], k, hk, _, _, _ => by simp at hk
  | y :: ys, 0, _, _, h1, h2 => by
    simp only [List.getD_cons_zero] at h1 h2 ⊢
    rw [weightAt, if_pos ⟨h1, h2⟩]
  | y :: ys, k + 1, hk, h, h1, h2 => by
    rw [weightAt, if_neg (show ¬ (y.1 = a ∧ y.2.1 = b) from h 0 (by omega))]
    simp only [List.getD_cons_succ] at h1 h2 ⊢
    exact weightAt_first a b ys k (by simpa using hk) (fun j hj => by simpa using h (j + 1) (by omega)) h1 h2

set_option maxRecDepth 100000 in
set_option maxHeartbeats 4000000 in
theorem implWeightOf_any (w : World) (va : Value) (g : GraphD) (a b : Int) (h : RdGraph w va g) :
    Calls Tryd.prog 29 #[va, .int .i64 a, .int .i64 b] w fun e w' => e = .returned (.int .i64 (weightOf g a b)) ∧ Below w.heap.size w w' := by
  have HRG := Lib.hid h
  obtain ⟨p, c, rfl, hr, hc, hmx⟩ := h.form
  clear h
  obtain ⟨m, ys⟩ := g
  simp only at hr hc ⊢
  have HR : Hid (Rd w 3 (.slice p ys.length c) ys.length (tris ys)) := Lib.hid hr
  clear hr
  have HB : Hid (Below w.heap.size w (w.alloc (.cells #[.int .i64 m, .slice p ys.length c] 30))) := Lib.hid ((Below.refl _ _).alloc (Nat.le_refl _) _)
  have X := Lib.hid (heap_alloc_new w (.cells #[.int .i64 m, .slice p ys.length c] 30))
  have HV := Lib.hid fun wx (hb : Below w.heap.size w wx) => implGraphValid_any wx _ _ (HRG.out.keep hb)
  unfold weightOf
  cases hok : graphOk (m, ys)
  · rw [hok] at HV
    simp only [Bool.false_eq_true, if_false]
    go_enter Tryd.func29, Tryd.ntmps29
    go_wp2_with fail
    refine (HV.out _ HB.out).mono ?_
    rintro e w1 ⟨rfl, hb⟩
    replace HB := Lib.hid (HB.out.tr hb); clear hb
    go_wp2_with fail
    go_ret
    exact ⟨rfl, HB.out⟩
  · rw [hok] at HV
    simp only [if_true]
    have HF := Lib.hid (weightAt_first a b ys)
    have HN := Lib.hid (weightAt_no a b ys)
    generalize weightAt a b ys = r at *
    generalize hn : ys.length = n at *
    have HL := Lib.hid hn; clear hn
    go_enter Tryd.func29, Tryd.ntmps29
    go_wp2_with fail
    refine (HV.out _ HB.out).mono ?_
    rintro e w1 ⟨rfl, hb⟩
    replace HB := Lib.hid (HB.out.tr hb); replace X := Lib.hid (box_keep X.out hb); clear hb HV HRG
    have k1 := box_cell X.out 1 _ rfl
    go_wp2_with fail
    clear k1 X
    go_loopw [15] (fun i wr => ∃ k : Nat, k ≤ n ∧ i = .int .i64 k ∧ Hid (Below w.heap.size w wr) ∧ Hid (∀ j, j < k → ¬ ((ys.getD j triZ).1 = a ∧ (ys.getD j triZ).2.1 = b))) (fun i _ => n - (intOf i).toNat)
    case atStart => exact ⟨0, Nat.zero_le _, rfl, HB, Lib.hid fun j hj => by omega⟩
    case round =>
      clear HB
      obtain ⟨k, hk, rfl, HB, HE⟩ := hrel
      by_cases hlt : k < n
      · obtain ⟨b1, o1, rfl, hb1, c0, c1, c2⟩ := (HR.out.keep HB.out).tri hlt
        have HT := Lib.hid (HF.out k (by omega) HE.out)
        have HS : Hid (¬ ((ys.getD k triZ).1 = a ∧ (ys.getD k triZ).2.1 = b) → ∀ j, j < k + 1 → ¬ ((ys.getD j triZ).1 = a ∧ (ys.getD j triZ).2.1 = b)) := Lib.hid fun h j hj => by
          rcases Nat.lt_succ_iff_lt_or_eq.1 hj with h' | rfl
          · exact HE.out j h'
          · exact h
        generalize (ys.getD k triZ).1 = ta at *
        generalize (ys.getD k triZ).2.1 = tb at *
        generalize (ys.getD k triZ).2.2 = tc at *
        clear HF HN
        have HB2 := Lib.hid (HB.out.tr (show Below wr.heap.size wr (wr.alloc (.cells #[.int .i64 ta, .int .i64 tb, .int .i64 tc] 48)) by go_grown))
        by_cases h1 : ta = a
        · have t1 : (ta == a) = true := by simp; exact h1
          by_cases h2 : tb = b
          · have t2 : (tb == b) = true := by simp; exact h2
            have hv := HT.out h1 h2
            subst hv
            clear h1 h2 HT HS
            go_wp2_with fail
            go_ret
            exact ⟨rfl, HB2.out⟩
          · have t2 : (tb == b) = false := by simp; exact h2
            replace HS := Lib.hid (HS.out fun h => h2 h.2)
            clear h1 h2 HT
            go_wp2_with fail
            go_roundw
            case rel => exact ⟨k + 1, by omega, by go_num, HB2, HS⟩
            case measure => simp [intOf]; omega
        · have t1 : (ta == a) = false := by simp; exact h1
          replace HS := Lib.hid (HS.out fun h => h1 h.1)
          clear h1 HT
          go_wp2_with fail
          go_roundw
          case rel => exact ⟨k + 1, by omega, by go_num, HB2, HS⟩
          case measure => simp [intOf]; omega
      · obtain rfl : k = n := by omega
        have hv := HN.out HE.out
        subst hv
        go_wp2_with fail
        go_ret
        exact ⟨rfl, HB.out⟩
end Go.Proofs.YtoolmknnmmecfaaDoor
