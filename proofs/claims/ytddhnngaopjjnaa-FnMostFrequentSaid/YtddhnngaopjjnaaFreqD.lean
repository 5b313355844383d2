/-
  The law of MostFrequent in plain words: no number stands more often; the same for the list turned round. And 'count'.
-/
import Derived.Test.YtddhnngaopjjnaaFreq
namespace Go.Proofs.Ytddhnngaopjjnaa
open Go.RowKit

def MfBest (xs : List Int) (m : Int) : Prop := m ∈ xs ∧ ∀ x ∈ xs, xs.count x < xs.count m ∨ (xs.count x = xs.count m ∧ m ≤ x)
theorem mf_inv (xs : List Int) (k : Nat) (hk : k < xs.length) :
    (mfTo xs (k + 1)).2 = (xs.count (mfTo xs (k + 1)).1 : Int) ∧ (mfTo xs (k + 1)).1 ∈ xs.take (k + 1) ∧ ∀ x ∈ xs.take (k + 1), xs.count x < xs.count (mfTo xs (k + 1)).1 ∨ (xs.count x = xs.count (mfTo xs (k + 1)).1 ∧ (mfTo xs (k + 1)).1 ≤ x) := by
  induction k with
  | zero =>
    have hy : xs.getD 0 0 ∈ xs := getD_mem hk
    have hc : 0 < xs.count (xs.getD 0 0) := List.count_pos_iff.2 hy
    rw [mfTo_succ xs 0 hk, take_snoc xs 0 0 hk]
    generalize xs.getD 0 0 = y at *
    rw [mfStep_yes xs _ y (.inl (by simp [mfTo]; exact hy))]
    simp
  | succ k ih =>
    obtain ⟨h1, h2, h3⟩ := ih (by omega)
    have hy : xs.getD (k + 1) 0 ∈ xs := getD_mem hk
    rw [mfTo_succ xs (k + 1) hk, take_snoc xs (k + 1) 0 hk]
    generalize xs.getD (k + 1) 0 = y at *
    generalize mfTo xs (k + 1) = s at *
    by_cases hc : (xs.count y : Int) > s.2 ∨ ((xs.count y : Int) = s.2 ∧ y < s.1)
    · rw [mfStep_yes xs s y hc]
      refine ⟨rfl, by simp, ?_⟩
      intro x hx
      rcases List.mem_append.1 hx with hx | hx
      · have := h3 x hx
        dsimp only
        omega
      · simp at hx; subst hx; exact .inr ⟨rfl, Int.le_refl _⟩
    · rw [mfStep_no xs s y hc]
      refine ⟨h1, List.mem_append_left _ h2, ?_⟩
      intro x hx
      rcases List.mem_append.1 hx with hx | hx
      · exact h3 x hx
      · simp at hx; subst hx; omega
theorem mf_best (xs : List Int) (h : 0 < xs.length) : MfBest xs (mostFreq xs) := by
  have := mf_inv xs (xs.length - 1) (by omega)
  rw [show xs.length - 1 + 1 = xs.length from by omega, List.take_length] at this
  exact ⟨this.2.1, this.2.2⟩
theorem mf_nil (xs : List Int) (h : xs.length = 0) : mostFreq xs = 0 := by
  rw [List.length_eq_zero_iff.1 h]; rfl
theorem mf_reverse (xs : List Int) : mostFreq xs.reverse = mostFreq xs := by
  by_cases h : 0 < xs.length
  · obtain ⟨a1, a2⟩ := mf_best xs h
    obtain ⟨b1, b2⟩ := mf_best xs.reverse (by rw [List.length_reverse]; exact h)
    simp only [List.mem_reverse, List.count_reverse] at b1 b2
    have := a2 _ b1
    have := b2 _ a1
    omega
  · rw [mf_nil xs (by omega), mf_nil _ (by rw [List.length_reverse]; omega)]
theorem turned_step (xs : List Int) (k : Nat) (h : k < xs.length) : (xs.drop k).reverse = (xs.drop (k + 1)).reverse ++ [xs.getD k 0] := by
  rw [List.drop_eq_getElem_cons h, List.reverse_cons]
  simp [h]

set_option maxRecDepth 100000 in
theorem count_any (w : World) (va : Value) (xs : List Int) (x : Int) (ha : RdIntS w va xs) (hs : xs.length ≤ 1048576) :
    Calls Try.prog 39 #[va, .int .i64 x] w fun e w' => e = .returned (.int .i64 (xs.count x : Int)) ∧ w = w' := by
  obtain ⟨a, ca, rfl, hca, hma, Ha⟩ := ha.int
  clear ha
  generalize hn : xs.length = n at *
  have Hn := Lib.hid hn; clear hn
  go_enter Try.func39, Try.ntmps39
  go_wp2_with fail
  go_loopw [5, 6] (fun c j wr => ∃ q : Nat, q ≤ n ∧ j = .int .i64 q ∧ c = .int .i64 ((xs.take q).count x : Int) ∧ Hid (w = wr)) (fun _ j _ => n - (intOf j).toNat)
  case atStart => exact ⟨0, Nat.zero_le _, rfl, by simp, Lib.hid (by simp)⟩
  case round =>
    obtain ⟨q, hq, rfl, rfl, HW⟩ := hrel
    have hw := HW.out
    subst hw
    clear HW
    by_cases hlq : q < n
    · obtain ⟨b1, o1, rfl, hb1, h1⟩ := Ha.out q hlq
      have hcs := count_step xs x q (by rw [Hn.out]; exact hlq)
      have hcl := count_le xs x q
      have HCS := Lib.hid hcs; clear Ha hcs
      generalize hy : xs.getD q 0 = y at *
      generalize hcc : (xs.take q).count x = cc at *
      have HY := Lib.hid hy; clear hy
      have HCC := Lib.hid hcc; clear hcc
      by_cases hxy : y = x
      · subst hxy
        go_wp2_with fail
        go_roundw
        case rel => exact ⟨q + 1, by omega, by go_num, by rw [HCS.out]; simp, Lib.hid (by simp)⟩
        case measure => simp [intOf]; omega
      · have hxy' : (y == x) = false := by simpa using hxy
        have HXY := Lib.hid hxy; clear hxy
        go_wp2_with fail
        go_roundw
        case rel => exact ⟨q + 1, by omega, by go_num, by rw [HCS.out, if_neg HXY.out]; simp, Lib.hid (by simp)⟩
        case measure => simp [intOf]; omega
    · have hqn : Hid (q = n) := Lib.hid (by omega)
      have hct : Hid ((xs.take q).count x = xs.count x) := Lib.hid (by rw [List.take_of_length_le (by rw [Hn.out, hqn.out]; exact Nat.le_refl _)])
      have hcl := count_le xs x q
      generalize (xs.take q).count x = cc at *
      clear Ha
      go_wp2_with fail
      go_ret
      exact ⟨by rw [hct.out]; rfl, rfl⟩
end Go.Proofs.Ytddhnngaopjjnaa
