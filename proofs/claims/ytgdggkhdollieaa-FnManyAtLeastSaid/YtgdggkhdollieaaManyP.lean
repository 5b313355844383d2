/-
  Plain laws on the greatest number n such that at least n numbers of a list are at least n.
-/
import Derived.WalkKit
namespace Go.Proofs.Ytgdggkhdollieaa
set_option linter.unusedVariables false

def cntGe (xs : List Int) (n : Nat) : Nat := xs.countP fun x => decide ((n : Int) ≤ x)
structure IsMany (xs : List Int) (n : Nat) : Prop where
  le : n ≤ xs.length
  many : n ≤ cntGe xs n
  top : n < xs.length → cntGe xs (n + 1) ≤ n
theorem cntGe_le (xs : List Int) (n : Nat) : cntGe xs n ≤ xs.length := List.countP_le_length
theorem cntGe_anti (xs : List Int) {n m : Nat} (h : n ≤ m) : cntGe xs m ≤ cntGe xs n := by
  refine List.countP_mono_left fun x _ hx => ?_
  simp only [decide_eq_true_eq] at hx ⊢; omega
theorem IsMany.not_lt {xs : List Int} {n m : Nat} (h : IsMany xs n) (k : IsMany xs m) : ¬ n < m := fun hlt => by
  have h1 := h.top (by have := k.le; omega)
  have h2 := k.many
  have h3 := cntGe_anti xs (show n + 1 ≤ m by omega)
  omega
theorem IsMany.unique {xs : List Int} {n m : Nat} (h : IsMany xs n) (k : IsMany xs m) : n = m := by
  have := h.not_lt k; have := k.not_lt h; omega
theorem IsMany.stop {xs : List Int} {n : Nat} (hn : n ≤ xs.length) (h : n ≤ cntGe xs n) (ht : ¬ n + 1 ≤ cntGe xs (n + 1)) : IsMany xs n := ⟨hn, h, fun _ => by omega⟩
theorem cntGe_take (xs : List Int) (n k : Nat) (h : k < xs.length) : cntGe (xs.take (k + 1)) n = cntGe (xs.take k) n + (if (n : Int) ≤ xs.getD k 0 then 1 else 0) := by
  rw [List.take_succ_eq_append_getElem h]
  unfold cntGe
  rw [List.countP_append, List.countP_singleton]
  have : xs.getD k 0 = xs[k] := by simp [h]
  rw [this]; simp
theorem cntGe_take_le (xs : List Int) (n k : Nat) : cntGe (xs.take k) n ≤ k := by
  have := cntGe_le (xs.take k) n
  rw [List.length_take] at this; omega
theorem cntGe_perm {xs ys : List Int} (h : xs.Perm ys) (n : Nat) : cntGe xs n = cntGe ys n := h.countP_eq _
theorem cntGe_sorted {S : List Int} (hs : S.Pairwise (· ≤ ·)) (n i : Nat) (hi : i + n + 1 = S.length) : ((n : Int) < S.getD i 0) ↔ n + 1 ≤ cntGe S (n + 1) := by
  have e : S.getD i 0 = S[i]'(by omega) := by simp [show i < S.length by omega]
  rw [e]
  have hs2 := List.pairwise_iff_getElem.1 hs
  constructor
  · intro h
    have h1 : S = S.take i ++ S.drop i := (List.take_append_drop i S).symm
    have h2 : (S.drop i).countP (fun x => decide (((n + 1 : Nat) : Int) ≤ x)) = (S.drop i).length := by
      rw [List.countP_eq_length]
      intro x hx
      obtain ⟨k, hk, rfl⟩ := List.mem_iff_getElem.1 hx
      rw [List.length_drop] at hk
      rw [List.getElem_drop]
      have : S[i] ≤ S[i + k] := by
        by_cases hk0 : k = 0
        · subst hk0; simp
        · exact hs2 i (i + k) (by omega) (by omega) (by omega)
      simp only [decide_eq_true_eq]; omega
    unfold cntGe
    rw [h1, List.countP_append, h2, List.length_drop]; omega
  · intro h
    refine Classical.byContradiction fun hc => ?_
    have h1 : S = S.take (i + 1) ++ S.drop (i + 1) := (List.take_append_drop (i + 1) S).symm
    have h2 : (S.take (i + 1)).countP (fun x => decide (((n + 1 : Nat) : Int) ≤ x)) = 0 := by
      rw [List.countP_eq_zero]
      intro x hx
      obtain ⟨k, hk, rfl⟩ := List.mem_iff_getElem.1 hx
      rw [List.length_take] at hk
      rw [List.getElem_take]
      have : S[k] ≤ S[i] := by
        by_cases hk0 : k = i
        · subst hk0; exact Int.le_refl _
        · exact hs2 k i (by omega) (by omega) (by omega)
      simp only [decide_eq_true_eq]; omega
    unfold cntGe at h
    rw [h1, List.countP_append, h2] at h
    have h3 : (S.drop (i + 1)).countP (fun x => decide (((n + 1 : Nat) : Int) ≤ x)) ≤ (S.drop (i + 1)).length := List.countP_le_length
    rw [List.length_drop] at h3; omega
theorem IsMany.perm {xs ys : List Int} {n : Nat} (h : IsMany xs n) (hp : xs.Perm ys) : IsMany ys n :=
  ⟨by rw [← hp.length_eq]; exact h.le, by rw [← cntGe_perm hp]; exact h.many, fun hl => by rw [← cntGe_perm hp]; exact h.top (by rw [hp.length_eq]; exact hl)⟩
theorem IsMany.tail {x : Int} {xs : List Int} {n m : Nat} (h : IsMany (x :: xs) n) (k : IsMany xs m) : m ≤ n ∧ n ≤ m + 1 := by
  have hc : ∀ v, cntGe xs v ≤ cntGe (x :: xs) v ∧ cntGe (x :: xs) v ≤ cntGe xs v + 1 := fun v => by
    unfold cntGe; rw [List.countP_cons]; split <;> omega
  have hl : (x :: xs).length = xs.length + 1 := rfl
  constructor
  · refine Nat.le_of_not_lt fun hlt => ?_
    have h1 := h.top (by have := k.le; omega)
    have h2 := k.many
    have h3 := cntGe_anti xs (show n + 1 ≤ m by omega)
    have := hc (n + 1); omega
  · refine Nat.le_of_not_lt fun hlt => ?_
    have h0 := h.le
    have h1 := k.top (by omega)
    have h2 := h.many
    have h3 := cntGe_anti (x :: xs) (show m + 1 ≤ n by omega)
    have := hc (m + 1); omega
theorem IsMany.cnt {xs : List Int} {n : Nat} (h : IsMany xs n) : cntGe xs (n + 1) < n + 1 := by
  by_cases e : n < xs.length
  · have := h.top e; omega
  · have := cntGe_le xs (n + 1); have := h.le; omega
end Go.Proofs.Ytgdggkhdollieaa
