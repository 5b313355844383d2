/-
  Plain laws on cores.
-/
import Derived.Test.YtobhekkgbccoiaaDoorSums
import Derived.Test.YtobhekkgbccoiaaDoorDist
namespace Go.Proofs.YtobhekkgbccoiaaDoor
open Go.RowKit
set_option linter.unusedVariables false
/-! Cores. -/
def cntN (f : Nat → Nat → Bool) (S : Nat → Bool) (n u : Nat) : Nat := sumN (fun w => tick (f u w && S w)) n
def Good (f : Nat → Nat → Bool) (n k : Nat) (S : Nat → Bool) : Prop := ∀ u, u < n → S u = true → k ≤ cntN f S n u
def InCore (f : Nat → Nat → Bool) (n k v : Nat) : Prop := ∃ S : Nat → Bool, Good f n k S ∧ S v = true
structure IsCores (f : Nat → Nat → Bool) (n : Nat) (C : List Int) : Prop where
  len : C.length = n
  at_ : ∀ v, v < n → 0 ≤ C.getD v 0 ∧ InCore f n (C.getD v 0).toNat v ∧ ¬ InCore f n ((C.getD v 0).toNat + 1) v
section
variable {f : Nat → Nat → Bool} {n k : Nat}
theorem tick_mono {a b : Bool} (h : a = true → b = true) : tick a ≤ tick b := by cases a <;> cases b <;> simp_all [tick]
theorem cntN_mono {S S' : Nat → Bool} (h : ∀ w, w < n → S w = true → S' w = true) (u : Nat) : cntN f S n u ≤ cntN f S' n u :=
  sumN_le fun w hw => tick_mono fun h1 => by simp only [Bool.and_eq_true] at h1 ⊢; exact ⟨h1.1, h w hw h1.2⟩
theorem cntN_le (S : Nat → Bool) (u : Nat) : cntN f S n u ≤ n := by
  have := sumN_bound (fun w => tick (f u w && S w)) 1 (fun i => by unfold tick; split <;> omega) n
  unfold cntN; omega
theorem InCore.mono {j v : Nat} (h : InCore f n k v) (hj : j ≤ k) : InCore f n j v := by
  obtain ⟨S, h1, h2⟩ := h
  exact ⟨S, fun u hu hs => Nat.le_trans hj (h1 u hu hs), h2⟩
theorem InCore.zero (v : Nat) : InCore f n 0 v := ⟨fun _ => true, fun _ _ _ => Nat.zero_le _, rfl⟩
theorem InCore.le {v : Nat} (h : InCore f n k v) (hv : v < n) : k ≤ n := by
  obtain ⟨S, h1, h2⟩ := h
  exact Nat.le_trans (h1 v hv h2) (cntN_le S v)
theorem InCore.lt {v : Nat} (h : InCore f n k v) (hv : v < n) (hf : f v v = false) : k < n := by
  obtain ⟨S, h1, h2⟩ := h
  have h3 := h1 v hv h2
  have h4 : cntN f S n v < n := by
    have key : ∀ m, sumN (fun w => tick (f v w && S w)) m ≤ m ∧ (v < m → sumN (fun w => tick (f v w && S w)) m < m) := by
      intro m
      induction m with
      | zero => exact ⟨Nat.le_refl _, fun h => by omega⟩
      | succ m ih =>
        have ht : tick (f v m && S m) ≤ 1 := by unfold tick; split <;> omega
        refine ⟨by rw [sumN]; omega, fun hm => ?_⟩
        rw [sumN]
        by_cases e : v = m
        · subst e
          have : tick (f v v && S v) = 0 := by simp [tick, hf]
          omega
        · have := ih.2 (by omega); omega
    exact (key n).2 hv
  omega
theorem IsCores.unique {C C' : List Int} (h : IsCores f n C) (h' : IsCores f n C') : C = C' := by
  refine List.ext_getElem (by rw [h.len, h'.len]) fun i h1 h2 => ?_
  have hi : i < n := by rw [← h.len]; exact h1
  have e1 : C.getD i 0 = C[i] := by simp [h1]
  have e2 : C'.getD i 0 = C'[i] := by simp [h2]
  rw [← e1, ← e2]
  obtain ⟨a1, a2, a3⟩ := h.at_ i hi
  obtain ⟨b1, b2, b3⟩ := h'.at_ i hi
  have n1 : ¬ (C.getD i 0).toNat + 1 ≤ (C'.getD i 0).toNat := fun hh => a3 (b2.mono hh)
  have n2 : ¬ (C'.getD i 0).toNat + 1 ≤ (C.getD i 0).toNat := fun hh => b3 (a2.mono hh)
  omega
theorem IsCores.ge {C : List Int} (h : IsCores f n C) {v j : Nat} (hv : v < n) : InCore f n j v ↔ (j : Int) ≤ C.getD v 0 := by
  obtain ⟨a1, a2, a3⟩ := h.at_ v hv
  constructor
  · intro hc
    have n1 : ¬ (C.getD v 0).toNat + 1 ≤ j := fun hh => a3 (hc.mono hh)
    omega
  · intro hj; exact a2.mono (by omega)
theorem IsCores.le {C : List Int} (h : IsCores f n C) {v : Nat} (hv : v < n) : C.getD v 0 ≤ (n : Int) := by
  obtain ⟨a1, a2, a3⟩ := h.at_ v hv
  have := a2.le hv
  omega
/-- Every vertex has at least as many neighbours with at least its number. -/
theorem IsCores.many {C : List Int} (h : IsCores f n C) {v : Nat} (hv : v < n) : C.getD v 0 ≤ (cntN f (fun u => decide (C.getD v 0 ≤ C.getD u 0)) n v : Nat) := by
  obtain ⟨a1, ⟨S, h1, h2⟩, a3⟩ := h.at_ v hv
  have h3 := h1 v hv h2
  have h4 : cntN f S n v ≤ cntN f (fun u => decide (C.getD v 0 ≤ C.getD u 0)) n v := cntN_mono (fun w hw hs => by
    have := (h.ge hw).1 ⟨S, h1, hs⟩
    exact decide_eq_true (by omega)) v
  omega
/-- It has at most as many with a greater one. -/
theorem IsCores.more {C : List Int} (h : IsCores f n C) {v : Nat} (hv : v < n) : (cntN f (fun u => decide (C.getD v 0 < C.getD u 0)) n v : Nat) ≤ C.getD v 0 := by
  obtain ⟨a1, a2, a3⟩ := h.at_ v hv
  by_cases hn : (C.getD v 0).toNat + 1 ≤ cntN f (fun u => decide (C.getD v 0 < C.getD u 0)) n v
  · exfalso
    refine a3 ⟨fun u => decide (C.getD v 0 < C.getD u 0) || decide (u = v), fun u hu hs => ?_, by simp⟩
    simp only [Bool.or_eq_true, decide_eq_true_eq] at hs
    have hm : ∀ x, cntN f (fun u => decide (C.getD v 0 < C.getD u 0)) n x ≤ cntN f (fun u => decide (C.getD v 0 < C.getD u 0) || decide (u = v)) n x := fun x => cntN_mono (fun w _ hw => by simp only [hw, Bool.true_or]) x
    by_cases e : u = v
    · subst e; exact Nat.le_trans hn (hm u)
    · have hlt := hs.resolve_right e
      obtain ⟨S, h1, h2⟩ := (h.ge (j := (C.getD v 0).toNat + 1) hu).2 (by omega)
      refine Nat.le_trans (h1 u hu h2) (Nat.le_trans (cntN_mono (fun w hw hs => ?_) u) (hm u))
      have := (h.ge hw).1 ⟨S, h1, hs⟩
      exact decide_eq_true (by omega)
  · omega

/-! Taking away vertices. -/
def Peel (f : Nat → Nat → Bool) (n k : Nat) (T : Nat → Bool) : Prop := ∀ v, v < n → InCore f n k v → T v = true
theorem Peel.all : Peel f n k fun _ => true := fun _ _ _ => rfl
theorem Peel.drop {T T' : Nat → Bool} {v : Nat} (h : Peel f n k T) (hv : v < n) (hc : cntN f T n v < k) (hT : ∀ u, u < n → u ≠ v → T' u = T u) : Peel f n k T' := by
  intro u hu hin
  by_cases e : u = v
  · subst e
    exfalso
    obtain ⟨S, h1, h2⟩ := hin
    have h3 := h1 u hu h2
    have h4 : cntN f S n u ≤ cntN f T n u := cntN_mono (fun w hw hs => h w hw ⟨S, h1, hs⟩) u
    omega
  · rw [hT u hu e]; exact h u hu hin
theorem Peel.core {T : Nat → Bool} (h : Peel f n k T) (hg : Good f n k T) {v : Nat} (hv : v < n) : T v = true ↔ InCore f n k v := ⟨fun ht => ⟨T, hg, ht⟩, h v hv⟩
/-- The numbers behind the k-th core. -/
structure CoreTo (f : Nat → Nat → Bool) (n k : Nat) (C : List Int) : Prop where
  len : C.length = n
  at_ : ∀ v, v < n → 0 ≤ C.getD v 0 ∧ C.getD v 0 ≤ (k : Int) ∧ InCore f n (C.getD v 0).toNat v ∧ ∀ j, (C.getD v 0).toNat < j → j ≤ k → ¬ InCore f n j v
theorem CoreTo.start : CoreTo f n 0 (List.replicate n 0) := ⟨by simp, fun v hv => by
  have : (List.replicate n (0 : Int)).getD v 0 = 0 := by simp [hv]
  rw [this]
  exact ⟨Int.le_refl _, Int.le_refl _, InCore.zero v, fun j h1 h2 => by omega⟩⟩
/-- So many vertices (those for which m holds) have got the number k + 1. -/
structure CoreIn (f : Nat → Nat → Bool) (n k : Nat) (m : Nat → Prop) (C : List Int) : Prop where
  len : C.length = n
  old : ∀ v, v < n → ¬ m v → 0 ≤ C.getD v 0 ∧ C.getD v 0 ≤ (k : Int) ∧ InCore f n (C.getD v 0).toNat v ∧ ∀ j, (C.getD v 0).toNat < j → j ≤ k → ¬ InCore f n j v
  new : ∀ v, v < n → m v → C.getD v 0 = (k : Int) + 1 ∧ InCore f n (k + 1) v ∨ (0 ≤ C.getD v 0 ∧ C.getD v 0 ≤ (k : Int) ∧ InCore f n (C.getD v 0).toNat v ∧ ∀ j, (C.getD v 0).toNat < j → j ≤ k + 1 → ¬ InCore f n j v)
theorem CoreTo.open {C : List Int} (h : CoreTo f n k C) : CoreIn f n k (fun _ => False) C := ⟨h.len, fun v hv _ => h.at_ v hv, fun v _ hf => hf.elim⟩
theorem CoreIn.put {C : List Int} {m m' : Nat → Prop} {v : Nat} (h : CoreIn f n k m C) (hv : v < n) (hc : InCore f n (k + 1) v) (hm : ∀ u, m' u ↔ m u ∨ u = v) : CoreIn f n k m' (C.set v ((k : Int) + 1)) := by
  have hl : v < C.length := by rw [h.len]; exact hv
  refine ⟨by simpa using h.len, fun u hu hn => ?_, fun u hu hy => ?_⟩
  · have hne : u ≠ v := fun e => hn ((hm u).2 (.inr e))
    rw [getD_set_ne' _ hne]; exact h.old u hu fun hh => hn ((hm u).2 (.inl hh))
  · by_cases e : u = v
    · subst e; rw [getD_set_eq _ hl]; exact .inl ⟨rfl, hc⟩
    · rw [getD_set_ne' _ e]; exact h.new u hu (((hm u).1 hy).resolve_right e)
theorem CoreIn.keep {C : List Int} {m m' : Nat → Prop} (h : CoreIn f n k m C) (hm : ∀ u, u < n → m' u → m u ∨ ¬ InCore f n (k + 1) u) (hm2 : ∀ u, u < n → m u → m' u) : CoreIn f n k m' C := by
  classical
  refine ⟨h.len, fun u hu hn => h.old u hu fun hh => hn (hm2 u hu hh), fun u hu hy => ?_⟩
  by_cases hmu : m u
  · exact h.new u hu hmu
  · have hno := (hm u hu hy).resolve_left hmu
    obtain ⟨h1, h2, h3, h4⟩ := h.old u hu hmu
    refine .inr ⟨h1, h2, h3, fun j hj hj2 => ?_⟩
    by_cases e : j = k + 1
    · subst e; exact hno
    · exact h4 j hj (by omega)
theorem CoreIn.close {C : List Int} {m : Nat → Prop} (h : CoreIn f n k m C) (hm : ∀ u, u < n → m u ∨ ¬ InCore f n (k + 1) u) : CoreTo f n (k + 1) C := by
  have h2 := h.keep (m' := fun _ => True) (fun u hu _ => hm u hu) fun _ _ _ => trivial
  refine ⟨h2.len, fun v hv => ?_⟩
  rcases h2.new v hv trivial with ⟨h3, h4⟩ | ⟨h3, h4, h5, h6⟩
  · rw [h3, show ((k : Int) + 1).toNat = k + 1 by omega]
    exact ⟨by omega, by omega, h4, fun j h1 h2 => by omega⟩
  · exact ⟨h3, by omega, h5, fun j h1 h2 => h6 j h1 (by omega)⟩
theorem CoreTo.cores {C : List Int} (h : CoreTo f n k C) (he : ∀ v, v < n → ∀ j, k < j → ¬ InCore f n j v) : IsCores f n C := by
  refine ⟨h.len, fun v hv => ?_⟩
  obtain ⟨h1, h2, h3, h4⟩ := h.at_ v hv
  refine ⟨h1, h3, ?_⟩
  by_cases e : (C.getD v 0).toNat + 1 ≤ k
  · exact h4 _ (by omega) e
  · exact he v hv _ (by omega)
end
end Go.Proofs.YtobhekkgbccoiaaDoor
