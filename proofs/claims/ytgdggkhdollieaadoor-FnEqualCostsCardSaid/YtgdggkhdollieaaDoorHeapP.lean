/-
  Plain laws on a heap of pairs in a list: one comes up, one goes down, the first is the least.
-/
import Derived.WalkKit
namespace Go.Proofs.YtgdggkhdollieaaDoor
set_option linter.unusedVariables false

/-- Not greater, by the first number, then by the second. -/
def CvLe (a b : Nat × Nat) : Prop := a.1 < b.1 ∨ (a.1 = b.1 ∧ a.2 ≤ b.2)
def cvlt (a b : Nat × Nat) : Bool := if a.1 = b.1 then decide (a.2 < b.2) else decide (a.1 < b.1)
theorem cvlt_yes {a b : Nat × Nat} (h : cvlt a b = true) : ¬ CvLe b a := by
  unfold cvlt at h; unfold CvLe
  split at h <;> simp at h <;> omega
theorem cvlt_no {a b : Nat × Nat} (h : cvlt a b = false) : CvLe b a := by
  unfold cvlt at h; unfold CvLe
  split at h <;> simp at h <;> omega
theorem CvLe.refl (a : Nat × Nat) : CvLe a a := by unfold CvLe; omega
theorem CvLe.trans {a b c : Nat × Nat} (h : CvLe a b) (k : CvLe b c) : CvLe a c := by unfold CvLe at *; omega
theorem CvLe.of_not {a b : Nat × Nat} (h : ¬ CvLe a b) : CvLe b a := by unfold CvLe at *; omega

def cvAt (L : List (Nat × Nat)) (i : Nat) : Nat × Nat := L.getD i (0, 0)
def swp (L : List (Nat × Nat)) (i j : Nat) : List (Nat × Nat) := (L.set i (cvAt L j)).set j (cvAt L i)
theorem swp_length (L : List (Nat × Nat)) (i j : Nat) : (swp L i j).length = L.length := by simp [swp]
theorem cvAt_set (L : List (Nat × Nat)) (i k : Nat) (x : Nat × Nat) (hi : i < L.length) : cvAt (L.set i x) k = if k = i then x else cvAt L k := by
  unfold cvAt
  split
  · rename_i e; subst e; simp [hi]
  · rename_i e; have : ¬ i = k := fun h => e h.symm; simp [this]
theorem swp_at {L : List (Nat × Nat)} {i j : Nat} (hi : i < L.length) (hj : j < L.length) (k : Nat) : cvAt (swp L i j) k = if k = j then cvAt L i else if k = i then cvAt L j else cvAt L k := by
  unfold swp
  rw [cvAt_set _ _ _ _ (by simpa using hj), cvAt_set _ _ _ _ hi]
theorem cvAt_mem {L : List (Nat × Nat)} {k : Nat} (h : k < L.length) : cvAt L k ∈ L := by simp [cvAt, h]
theorem mem_at {L : List (Nat × Nat)} {y : Nat × Nat} : y ∈ L ↔ ∃ k, k < L.length ∧ cvAt L k = y := by
  constructor
  · intro h
    obtain ⟨k, hk, he⟩ := List.mem_iff_getElem.1 h
    exact ⟨k, hk, by simp [cvAt, hk, he]⟩
  · rintro ⟨k, hk, rfl⟩; exact cvAt_mem hk
theorem mem_swp {L : List (Nat × Nat)} {i j : Nat} (hi : i < L.length) (hj : j < L.length) (y : Nat × Nat) : y ∈ swp L i j ↔ y ∈ L := by
  rw [mem_at, mem_at, swp_length]
  constructor
  · rintro ⟨k, hk, rfl⟩
    rw [swp_at hi hj]
    split
    · exact ⟨i, hi, rfl⟩
    · split
      · exact ⟨j, hj, rfl⟩
      · exact ⟨k, hk, rfl⟩
  · rintro ⟨k, hk, rfl⟩
    by_cases h1 : k = i
    · subst h1; exact ⟨j, hj, by rw [swp_at hi hj, if_pos rfl]⟩
    · by_cases h2 : k = j
      · subst h2
        refine ⟨i, hi, ?_⟩
        rw [swp_at hi hj, if_neg (fun e => h1 e.symm), if_pos rfl]
      · exact ⟨k, hk, by rw [swp_at hi hj, if_neg h2, if_neg h1]⟩

/-- The first m are a heap. -/
def IsHeap (L : List (Nat × Nat)) (m : Nat) : Prop := ∀ k, 0 < k → k < m → CvLe (cvAt L ((k - 1) / 2)) (cvAt L k)
theorem IsHeap.least {L : List (Nat × Nat)} {m : Nat} (h : IsHeap L m) : ∀ k, k < m → CvLe (cvAt L 0) (cvAt L k) := by
  intro k
  induction k using Nat.strongRecOn with
  | _ k ih =>
    intro hk
    by_cases h0 : k = 0
    · subst h0; exact CvLe.refl _
    · exact (ih ((k - 1) / 2) (by omega) (by omega)).trans (h k (by omega) hk)
/-- A heap but for the one at j, which may be less than what stands over it. -/
structure UpInv (L : List (Nat × Nat)) (j : Nat) : Prop where
  lt : j < L.length
  other : ∀ k, 0 < k → k < L.length → k ≠ j → CvLe (cvAt L ((k - 1) / 2)) (cvAt L k)
  child : ∀ k, 0 < j → 0 < k → k < L.length → (k - 1) / 2 = j → CvLe (cvAt L ((j - 1) / 2)) (cvAt L k)
theorem cvAt_snoc (L : List (Nat × Nat)) (x : Nat × Nat) (k : Nat) (h : k < L.length) : cvAt (L ++ [x]) k = cvAt L k := by
  simp [cvAt, List.getElem?_append_left h]
theorem UpInv.start {L : List (Nat × Nat)} (x : Nat × Nat) (h : IsHeap L L.length) : UpInv (L ++ [x]) L.length := by
  refine ⟨by simp, fun k h0 h1 h2 => ?_, fun k h0 h1 h2 h3 => ?_⟩
  · rw [List.length_append, List.length_singleton] at h1
    rw [cvAt_snoc _ _ _ (by omega), cvAt_snoc _ _ _ (by omega)]
    exact h k h0 (by omega)
  · rw [List.length_append, List.length_singleton] at h2; omega
theorem UpInv.end0 {L : List (Nat × Nat)} (h : UpInv L 0) : IsHeap L L.length := fun k h0 h1 => h.other k h0 h1 (by omega)
theorem UpInv.end1 {L : List (Nat × Nat)} {j : Nat} (h : UpInv L j) (hle : CvLe (cvAt L ((j - 1) / 2)) (cvAt L j)) : IsHeap L L.length := fun k h0 h1 => by
  by_cases e : k = j
  · subst e; exact hle
  · exact h.other k h0 h1 e
theorem UpInv.step {L : List (Nat × Nat)} {j p : Nat} (h : UpInv L j) (h0 : 0 < j) (hp : (j - 1) / 2 = p) (hlt : ¬ CvLe (cvAt L p) (cvAt L j)) : UpInv (swp L p j) p := by
  have hj := h.lt
  have hpl : p < L.length := by omega
  have hpj : p ≠ j := by omega
  have A := swp_at (i := p) (j := j) hpl hj
  refine ⟨by rw [swp_length]; exact hpl, fun k k0 k1 k2 => ?_, fun k k0 k1 k2 k3 => ?_⟩
  · rw [swp_length] at k1
    by_cases e : k = j
    · subst e
      rw [hp, A p, A k, if_neg hpj, if_pos rfl, if_pos rfl]
      exact CvLe.of_not hlt
    · rw [A k, if_neg e, if_neg k2]
      by_cases e1 : (k - 1) / 2 = j
      · rw [e1, A j, if_pos rfl]
        have := h.child k h0 k0 k1 e1
        rwa [hp] at this
      · rw [A, if_neg e1]
        by_cases e2 : (k - 1) / 2 = p
        · rw [if_pos e2]
          have := h.other k k0 k1 e
          rw [e2] at this
          exact (CvLe.of_not hlt).trans this
        · rw [if_neg e2]; exact h.other k k0 k1 e
  · rw [swp_length] at k2
    have hpp : (p - 1) / 2 ≠ j := by omega
    have hpp2 : (p - 1) / 2 ≠ p := by omega
    rw [A ((p - 1) / 2), if_neg hpp, if_neg hpp2]
    have q := h.other p k0 hpl hpj
    by_cases e : k = j
    · subst e; rw [A k, if_pos rfl]; exact q
    · have e2 : k ≠ p := by omega
      rw [A k, if_neg e, if_neg e2]
      have r := h.other k k1 k2 e
      rw [k3] at r
      exact q.trans r
/-- The first m are a heap but for the one at i, which may be greater than what stands under it. -/
structure DownInv (L : List (Nat × Nat)) (i m : Nat) : Prop where
  le : m ≤ L.length
  other : ∀ k, 0 < k → k < m → (k - 1) / 2 ≠ i → CvLe (cvAt L ((k - 1) / 2)) (cvAt L k)
  child : ∀ k, 0 < i → 0 < k → k < m → (k - 1) / 2 = i → CvLe (cvAt L ((i - 1) / 2)) (cvAt L k)
theorem DownInv.start {L : List (Nat × Nat)} {m : Nat} (h : IsHeap L (m + 1)) (hl : L.length = m + 1) : DownInv (swp L 0 m) 0 m := by
  have A := swp_at (L := L) (i := 0) (j := m) (by omega) (by omega)
  refine ⟨by rw [swp_length]; omega, fun k h0 h1 h2 => ?_, fun k h0 => by omega⟩
  rw [A, A, if_neg (by omega), if_neg h2, if_neg (by omega), if_neg (by omega)]
  exact h k h0 (by omega)
theorem DownInv.end0 {L : List (Nat × Nat)} {i m : Nat} (h : DownInv L i m) (hm : m ≤ 2 * i + 1) : IsHeap L m := fun k h0 h1 => h.other k h0 h1 (by omega)
theorem DownInv.end1 {L : List (Nat × Nat)} {i m j : Nat} (h : DownInv L i m) (hmin : ∀ k, 0 < k → k < m → (k - 1) / 2 = i → CvLe (cvAt L j) (cvAt L k)) (hle : CvLe (cvAt L i) (cvAt L j)) : IsHeap L m := fun k h0 h1 => by
  by_cases e : (k - 1) / 2 = i
  · rw [e]; exact hle.trans (hmin k h0 h1 e)
  · exact h.other k h0 h1 e
theorem DownInv.step {L : List (Nat × Nat)} {i m j : Nat} (h : DownInv L i m) (hj0 : 0 < j) (hj : j < m) (hp : (j - 1) / 2 = i) (hmin : ∀ k, 0 < k → k < m → (k - 1) / 2 = i → CvLe (cvAt L j) (cvAt L k)) (hlt : ¬ CvLe (cvAt L i) (cvAt L j)) : DownInv (swp L i j) j m := by
  have hm := h.le
  have A := swp_at (L := L) (i := i) (j := j) (by omega) (by omega)
  have hij : i ≠ j := by omega
  refine ⟨by rw [swp_length]; exact hm, fun k k0 k1 k2 => ?_, fun k k0 k1 k2 k3 => ?_⟩
  · rw [A ((k - 1) / 2), if_neg k2]
    by_cases e : (k - 1) / 2 = i
    · rw [if_pos e, A k]
      by_cases e1 : k = j
      · rw [if_pos e1]; exact CvLe.of_not hlt
      · rw [if_neg e1, if_neg (by omega)]; exact hmin k k0 k1 e
    · rw [if_neg e, A k]
      by_cases e1 : k = i
      · rw [if_neg (by omega), if_pos e1]
        subst e1
        exact h.child j k0 hj0 hj hp
      · rw [if_neg (by omega), if_neg e1]; exact h.other k k0 k1 e
  · rw [hp, A i, if_neg hij, if_pos rfl, A k, if_neg (by omega), if_neg (by omega)]
    have := h.other k k1 k2 (by omega)
    rwa [k3] at this
/-- The children of i, of which j is the least. -/
theorem child_min1 {L : List (Nat × Nat)} {i m : Nat} (h : m ≤ 2 * i + 2) : ∀ k, 0 < k → k < m → (k - 1) / 2 = i → CvLe (cvAt L (2 * i + 1)) (cvAt L k) := fun k h0 h1 h2 => by
  obtain rfl : k = 2 * i + 1 := by omega
  exact CvLe.refl _
theorem child_minL {L : List (Nat × Nat)} {i m : Nat} (h : CvLe (cvAt L (2 * i + 1)) (cvAt L (2 * i + 2))) : ∀ k, 0 < k → k < m → (k - 1) / 2 = i → CvLe (cvAt L (2 * i + 1)) (cvAt L k) := fun k h0 h1 h2 => by
  rcases (by omega : k = 2 * i + 1 ∨ k = 2 * i + 2) with rfl | rfl
  · exact CvLe.refl _
  · exact h
theorem child_minR {L : List (Nat × Nat)} {i m : Nat} (h : CvLe (cvAt L (2 * i + 2)) (cvAt L (2 * i + 1))) : ∀ k, 0 < k → k < m → (k - 1) / 2 = i → CvLe (cvAt L (2 * i + 2)) (cvAt L k) := fun k h0 h1 h2 => by
  rcases (by omega : k = 2 * i + 1 ∨ k = 2 * i + 2) with rfl | rfl
  · exact h
  · exact CvLe.refl _
/-- The last one of a list that has been swapped with the first. -/
theorem pop_mem {L : List (Nat × Nat)} {m : Nat} (hl : L.length = m + 1) (y : Nat × Nat) : y ∈ L ↔ y ∈ cvAt L m :: L.take m := by
  have e : L = L.take m ++ [cvAt L m] := by
    have h1 : L.take (m + 1) = L := List.take_of_length_le (by omega)
    rw [List.take_succ_eq_append_getElem (by omega)] at h1
    have h2 : cvAt L m = L[m] := by simp [cvAt, hl]
    rw [h2]
    exact h1.symm
  constructor
  · intro h; rw [e] at h; simp at h; simp; rcases h with h | h
    · exact .inr h
    · exact .inl h
  · intro h; rw [e]; simp at h ⊢; rcases h with h | h
    · exact .inr h
    · exact .inl h
theorem isHeap_take {L : List (Nat × Nat)} {m : Nat} (h : IsHeap L m) : IsHeap (L.take m) m := fun k h0 h1 => by
  have e : ∀ i, i < m → cvAt (L.take m) i = cvAt L i := fun i hi => by simp [cvAt, hi]
  rw [e k h1, e _ (by omega)]; exact h k h0 h1
end Go.Proofs.YtgdggkhdollieaaDoor
