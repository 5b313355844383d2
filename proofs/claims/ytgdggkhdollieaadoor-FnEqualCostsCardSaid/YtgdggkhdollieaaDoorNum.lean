/-
  Functions of numbers alone: is a number in a range, can there be so many workers, who owns a vertex.
-/
import Derived.Test.YtgdggkhdollieaaDoorChecked
import Derived.Test.YtgdggkhdollieaaDoorLib
namespace Go.Proofs.YtgdggkhdollieaaDoor
open Go.RowKit

theorem l1In_any (n lo hi : Int) (w : World) :
    Calls Tryd.prog 17 #[.int .i64 n, .int .i64 lo, .int .i64 hi] w fun e w' => e = .returned (.bool (decide (lo ≤ n ∧ n ≤ hi))) ∧ w = w' := by
  by_cases h1 : lo ≤ n
  · by_cases h2 : n ≤ hi
    · have h3 : decide (lo ≤ n ∧ n ≤ hi) = true := by simp [h1, h2]
      rw [h3]
      go_enter Tryd.func17, Tryd.ntmps17
      go_wp2
      go_ret
      exact ⟨rfl, rfl⟩
    · have h3 : decide (lo ≤ n ∧ n ≤ hi) = false := by simp [h2]
      rw [h3]
      go_enter Tryd.func17, Tryd.ntmps17
      go_wp2
      all_goals (go_ret; exact ⟨rfl, rfl⟩)
  · have h3 : decide (lo ≤ n ∧ n ≤ hi) = false := by simp [h1]
    rw [h3]
    go_enter Tryd.func17, Tryd.ntmps17
    go_wp2
    all_goals (go_ret; exact ⟨rfl, rfl⟩)

/-- The owner of a vertex. -/
def ownerF (v k : Int) : Int := (13 * v + 5) % 17 % k
theorem ownerF_rng (v k : Int) (h1 : 1 ≤ k) : 0 ≤ ownerF v k ∧ ownerF v k < k := by
  unfold ownerF; exact ⟨Int.emod_nonneg _ (by omega), Int.emod_lt_of_pos _ (by omega)⟩
def ownerOf (v k : Int) : Int := if 0 ≤ v ∧ v ≤ 15 ∧ 1 ≤ k ∧ k ≤ 6 then ownerF v k else -1



end Go.Proofs.YtgdggkhdollieaaDoor
