/-
  The weight of an edge: the program's function and the reference's.
-/
import Derived.Test.YtobhekkgbccoiaaDoorGraphV
namespace Go.Proofs.YtobhekkgbccoiaaDoor
open Go.RowKit
set_option linter.unusedVariables false

/-- The weight of the first edge from a to b; -1 if there is none. -/
def weightAt (a b : Int) : List Tri → Int
  | [] => -1
  | y :: ys => if y.1 = a ∧ y.2.1 = b then y.2.2 else weightAt a b ys
def weightOf (g : GraphD) (a b : Int) : Int := if graphOk g = true then weightAt a b g.2 else -1
theorem weightAt_no (a b : Int) : ∀ ys : List Tri, (∀ j, j < ys.length → ¬ ((ys.getD j triZ).1 = a ∧ (ys.getD j triZ).2.1 = b)) → weightAt a b ys = -1
  | [], _ => rfl
  | y :: ys, h => by
    rw [weightAt, if_neg (show ¬ (y.1 = a ∧ y.2.1 = b) from h 0 (by simp))]
    exact weightAt_no a b ys fun j hj => by simpa using h (j + 1) (by simpa using hj)
theorem weightAt_first (a b : Int) : ∀ (ys : List Tri) (k : Nat), k < ys.length → (∀ j, j < k → ¬ ((ys.getD j triZ).1 = a ∧ (ys.getD j triZ).2.1 = b)) → (ys.getD k triZ).1 = a → (ys.getD k triZ).2.1 = b → weightAt a b ys = (ys.getD k triZ).2.2
  | [], k, hk, _, _, _ => by simp at hk
  | y :: ys, 0, _, _, h1, h2 => by
    simp only [List.getD_cons_zero] at h1 h2 ⊢
    rw [weightAt, if_pos ⟨h1, h2⟩]
  | y :: ys, k + 1, hk, h, h1, h2 => by
    rw [weightAt, if_neg (show ¬ (y.1 = a ∧ y.2.1 = b) from h 0 (by omega))]
    simp only [List.getD_cons_succ] at h1 h2 ⊢
    exact weightAt_first a b ys k (by simpa using hk) (fun j hj => by simpa using h (j + 1) (by omega)) h1 h2

end Go.Proofs.YtobhekkgbccoiaaDoor
