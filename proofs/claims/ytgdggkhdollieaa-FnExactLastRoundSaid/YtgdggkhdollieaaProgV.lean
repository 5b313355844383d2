/-
  Which programs are valid: the program's function and the reference's.
-/
import Derived.Test.YtgdggkhdollieaaChecked
import Derived.Test.YtgdggkhdollieaaNum
namespace Go.Proofs.Ytgdggkhdollieaa
open Go.RowKit

def progOk (k s r : Int) : Bool :=
  if k = 1 ∨ k = 2 then decide (0 ≤ s ∧ s ≤ 15) && decide (r = 0)
  else if k = 3 ∨ k = 5 then decide (s = 0) && decide (r = 0)
  else if k = 4 ∨ k = 6 then decide (s = 0) && decide (1 ≤ r ∧ r ≤ 20) else false

theorem toProgram_any (a b c : Int) (w : World) :
    Calls Try.prog 33 #[.agg #[.int .i64 a, .int .i64 b, .int .i64 c]] w fun e w' => e = .returned (.agg #[.int .i64 a, .int .i64 b, .int .i64 c]) ∧ Below w.heap.size w w' := by
  go_enter Try.func33, Try.ntmps33
  go_wp2_with fail
  exact bodyPost_ret (v := .agg #[.int .i64 a, .int .i64 b, .int .i64 c]) (by simp [results, Try.results33, go_sem]) rfl ⟨rfl, by go_grown⟩

theorem ret_bool {a b : Bool} (h : a = b) : Ending.returned (.bool a) = .returned (.bool b) := by rw [h]

set_option maxHeartbeats 2000000 in
theorem implProgramValid_any (k s r : Int) (w : World) :
    Calls Try.prog 71 #[.agg #[.int .i64 k, .int .i64 s, .int .i64 r]] w fun e w' => e = .returned (.bool (progOk k s r)) ∧ Below w.heap.size w w' := by
  generalize hp : progOk k s r = p
  have HP := Lib.hid hp; clear hp
  rcases (by omega : k = 1 ∨ k = 2 ∨ k = 3 ∨ k = 4 ∨ k = 5 ∨ k = 6 ∨ (k ≠ 1 ∧ k ≠ 2 ∧ k ≠ 3 ∧ k ≠ 4 ∧ k ≠ 5 ∧ k ≠ 6)) with rfl | rfl | rfl | rfl | rfl | rfl | ⟨k1, k2, k3, k4, k5, k6⟩
  case inr.inr.inr.inr.inr.inr =>
    have HK : Hid (k ≠ 1 ∧ k ≠ 2 ∧ k ≠ 3 ∧ k ≠ 4 ∧ k ≠ 5 ∧ k ≠ 6) := Lib.hid ⟨k1, k2, k3, k4, k5, k6⟩
    rw [← beq_eq_false_iff_ne] at k1 k2 k3 k4 k5 k6
    go_enter Try.func71, Try.ntmps71
    go_wp2_with (go_at_call 62; refine (l1In_any _ _ _ _).mono ?_; rintro e w' ⟨rfl, rfl⟩)
    all_goals go_ret
    all_goals
      refine ⟨ret_bool ?_, by go_grown⟩
      go_tidy
      have h1 := HP.out
      have h2 := HK.out
      rw [← h1]
      simp [progOk, h2]
  all_goals
    go_enter Try.func71, Try.ntmps71
    go_wp2_with (go_at_call 62; refine (l1In_any _ _ _ _).mono ?_; rintro e w' ⟨rfl, rfl⟩)
    all_goals go_ret
    all_goals
      refine ⟨ret_bool ?_, by go_grown⟩
      go_tidy
      have h1 := HP.out
      rw [← h1, Bool.eq_iff_iff]
      simp [progOk]
      try omega

set_option maxHeartbeats 2000000 in
theorem specProgramValid_any (k s r : Int) (w : World) :
    Calls Try.prog 68 #[.agg #[.int .i64 k, .int .i64 s, .int .i64 r]] w fun e w' => e = .returned (.bool (progOk k s r)) ∧ Below w.heap.size w w' := by
  generalize hp : progOk k s r = p
  have HP := Lib.hid hp; clear hp
  rcases (by omega : k = 1 ∨ k = 2 ∨ k = 3 ∨ k = 4 ∨ k = 5 ∨ k = 6 ∨ (k ≠ 1 ∧ k ≠ 2 ∧ k ≠ 3 ∧ k ≠ 4 ∧ k ≠ 5 ∧ k ≠ 6)) with rfl | rfl | rfl | rfl | rfl | rfl | ⟨k1, k2, k3, k4, k5, k6⟩
  case inr.inr.inr.inr.inr.inr =>
    have HK : Hid (k ≠ 1 ∧ k ≠ 2 ∧ k ≠ 3 ∧ k ≠ 4 ∧ k ≠ 5 ∧ k ≠ 6) := Lib.hid ⟨k1, k2, k3, k4, k5, k6⟩
    rw [← beq_eq_false_iff_ne] at k1 k2 k3 k4 k5 k6
    go_enter Try.func68, Try.ntmps68
    go_wp2_with (go_at_call 62; refine (l1In_any _ _ _ _).mono ?_; rintro e w' ⟨rfl, rfl⟩)
    all_goals go_ret
    all_goals
      refine ⟨ret_bool ?_, by go_grown⟩
      go_tidy
      have h1 := HP.out
      have h2 := HK.out
      rw [← h1]
      simp [progOk, h2]
  all_goals
    go_enter Try.func68, Try.ntmps68
    go_wp2_with (go_at_call 62; refine (l1In_any _ _ _ _).mono ?_; rintro e w' ⟨rfl, rfl⟩)
    all_goals go_ret
    all_goals
      refine ⟨ret_bool ?_, by go_grown⟩
      go_tidy
      have h1 := HP.out
      rw [← h1, Bool.eq_iff_iff]
      simp [progOk]
      try omega

end Go.Proofs.Ytgdggkhdollieaa
