/-
  Plain facts on OwnedBy: they ascend; each is owned; together they are all.
-/
import Derived.Test.YtddhnngaopjjnaaOwned
namespace Go.Proofs.Ytddhnngaopjjnaa

theorem ownTo_mem {k q : Int} {n : Nat} {x : Int} (h : x ∈ ownTo k q n) : 0 ≤ x ∧ x < (n : Int) ∧ ownerF x k = q := by
  simp only [ownTo, List.mem_map, List.mem_filter, List.mem_range, beq_iff_eq] at h
  obtain ⟨v, ⟨h1, h2⟩, rfl⟩ := h
  exact ⟨by omega, by omega, h2⟩
theorem ownTo_sorted (k q : Int) (n : Nat) : (ownTo k q n).Pairwise (· < ·) := by
  unfold ownTo
  rw [List.pairwise_map]
  refine List.Pairwise.imp ?_ ((List.pairwise_lt_range (n := n)).filter _)
  intro a b h; omega
theorem ownedBy_mem {m k q x : Int} (h : x ∈ ownedBy m k q) : 0 ≤ x ∧ x < m ∧ ownerOf x k = q ∧ 0 ≤ m ∧ m ≤ 16 ∧ 1 ≤ k ∧ k ≤ 6 := by
  unfold ownedBy at h
  split at h
  · rename_i hc
    have h1 := ownTo_mem h
    have h2 : x < m := by omega
    refine ⟨h1.1, h2, ?_, hc⟩
    rw [ownerOf, if_pos ⟨h1.1, by omega, hc.2.2.1, hc.2.2.2⟩]; exact h1.2.2
  · cases h
theorem ownedBy_sorted (m k q : Int) : (ownedBy m k q).Pairwise (· < ·) := by
  unfold ownedBy
  split
  · exact ownTo_sorted _ _ _
  · exact List.Pairwise.nil
theorem sorted_at {xs : List Int} (h : xs.Pairwise (· < ·)) {i : Nat} (hi : i + 1 < xs.length) : xs.getD i 0 < xs.getD (i + 1) 0 := by
  have e1 : xs.getD i 0 = xs[i] := by simp [show i < xs.length by omega]
  have e2 : xs.getD (i + 1) 0 = xs[i + 1] := by simp [hi]
  rw [e1, e2]
  exact List.pairwise_iff_getElem.1 h i (i + 1) (by omega) hi (by omega)
/-- How many vertices the first j workers own together. -/
def ownSum (m k : Int) : Nat → Nat
  | 0 => 0
  | j + 1 => ownSum m k j + (ownedBy m k (j : Int)).length
theorem ownSum_le (m k : Int) (j : Nat) : ownSum m k j ≤ 16 * j := by
  induction j with
  | zero => simp [ownSum]
  | succ j ih => have := ownedBy_length m k (j : Int); rw [ownSum]; omega
theorem ownTo_six (k : Int) (h1 : 1 ≤ k) (h2 : k ≤ 6) (n : Nat) : (ownTo k 0 n).length + (ownTo k 1 n).length + (ownTo k 2 n).length + (ownTo k 3 n).length + (ownTo k 4 n).length + (ownTo k 5 n).length = n := by
  induction n with
  | zero => simp [ownTo]
  | succ n ih =>
    have hr := ownerF_rng (n : Int) k h1
    have yes := fun q => ownTo_succ_yes k q n
    have no := fun q => ownTo_succ_no k q n
    generalize ownerF (n : Int) k = o at *
    rcases (by omega : o = 0 ∨ o = 1 ∨ o = 2 ∨ o = 3 ∨ o = 4 ∨ o = 5) with rfl | rfl | rfl | rfl | rfl | rfl
    · rw [yes 0 rfl, no 1 (by decide), no 2 (by decide), no 3 (by decide), no 4 (by decide), no 5 (by decide)]; simp; omega
    · rw [yes 1 rfl, no 0 (by decide), no 2 (by decide), no 3 (by decide), no 4 (by decide), no 5 (by decide)]; simp; omega
    · rw [yes 2 rfl, no 0 (by decide), no 1 (by decide), no 3 (by decide), no 4 (by decide), no 5 (by decide)]; simp; omega
    · rw [yes 3 rfl, no 0 (by decide), no 1 (by decide), no 2 (by decide), no 4 (by decide), no 5 (by decide)]; simp; omega
    · rw [yes 4 rfl, no 0 (by decide), no 1 (by decide), no 2 (by decide), no 3 (by decide), no 5 (by decide)]; simp; omega
    · rw [yes 5 rfl, no 0 (by decide), no 1 (by decide), no 2 (by decide), no 3 (by decide), no 4 (by decide)]; simp; omega
theorem ownSum_good (m k : Int) (h : 0 ≤ m ∧ m ≤ 16 ∧ 1 ≤ k ∧ k ≤ 6) : (ownSum m k 6 : Int) = m := by
  have h6 := ownTo_six k h.2.2.1 h.2.2.2 m.toNat
  have e : ∀ q, ownedBy m k q = ownTo k q m.toNat := fun q => by rw [ownedBy, if_pos h]
  have : ownSum m k 6 = m.toNat := by
    simp only [ownSum, e]; simpa using h6
  omega
theorem ownSum_bad (m k : Int) (h : ¬ (0 ≤ m ∧ m ≤ 16 ∧ 1 ≤ k ∧ k ≤ 6)) (j : Nat) : ownSum m k j = 0 := by
  have e : ∀ q, ownedBy m k q = [] := fun q => by rw [ownedBy, if_neg h]
  induction j with
  | zero => rfl
  | succ j ih => rw [ownSum, ih, e]; rfl
end Go.Proofs.Ytddhnngaopjjnaa
