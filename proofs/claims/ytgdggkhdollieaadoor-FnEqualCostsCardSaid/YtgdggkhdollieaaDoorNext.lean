/-
  Where edges lead to: the program's function and the reference's; the program's NearOf.
-/
import Derived.Test.YtgdggkhdollieaaDoorDegrees
import Derived.Test.YtgdggkhdollieaaDoorTab
namespace Go.Proofs.YtgdggkhdollieaaDoor
open Go.RowKit
set_option linter.unusedVariables false

/-! Lists in order. -/
theorem eq_of_sorted : ∀ {xs ys : List Int}, xs.Pairwise (· < ·) → ys.Pairwise (· < ·) → (∀ z, z ∈ xs ↔ z ∈ ys) → xs = ys
  | [], [], _, _, _ => rfl
  | [], y :: ys, _, _, h => by have := (h y).2 (by simp); simp at this
  | x :: xs, [], _, _, h => by have := (h x).1 (by simp); simp at this
  | x :: xs, y :: ys, h1, h2, h => by
    rw [List.pairwise_cons] at h1 h2
    have hxy : x = y := by
      have a := (h x).1 (by simp)
      have b := (h y).2 (by simp)
      rw [List.mem_cons] at a b
      rcases a with a | a
      · exact a
      · rcases b with b | b
        · exact b.symm
        · have := h2.1 x a; have := h1.1 y b; omega
    subst hxy
    congr 1
    refine eq_of_sorted h1.2 h2.2 fun z => ?_
    constructor
    · intro hz
      have := (h z).1 (List.mem_cons_of_mem _ hz)
      rw [List.mem_cons] at this
      rcases this with rfl | h3
      · have := h1.1 z hz; omega
      · exact h3
    · intro hz
      have := (h z).2 (List.mem_cons_of_mem _ hz)
      rw [List.mem_cons] at this
      rcases this with rfl | h3
      · have := h2.1 z hz; omega
      · exact h3
theorem Bef.trans {a b c : Tri} (h : Bef a b) (k : Bef b c) : Bef a c := by unfold Bef at *; omega
theorem pairwise_bef : ∀ {ys : List Tri}, (∀ k, k + 1 < ys.length → Bef (ys.getD k triZ) (ys.getD (k + 1) triZ)) → ys.Pairwise Bef
  | [], _ => List.Pairwise.nil
  | y :: ys, h => by
    have ih := pairwise_bef (ys := ys) fun k hk => by simpa using h (k + 1) (by simpa using hk)
    refine List.Pairwise.cons (fun z hz => ?_) ih
    have all : ∀ i, i < ys.length → Bef y (ys.getD i triZ) := by
      intro i
      induction i with
      | zero => intro hi; simpa using h 0 (by simpa using hi)
      | succ i ih2 =>
        intro hi
        exact (ih2 (by omega)).trans (by simpa using h (i + 1) (by simpa using hi))
    obtain ⟨i, hi, rfl⟩ := List.mem_iff_getElem.1 hz
    have := all i hi
    simpa [hi] using this
theorem GraphOk.sorted {g : GraphD} (h : GraphOk g) : g.2.Pairwise Bef := pairwise_bef fun k hk => by
  have := (h.2.2 (k + 1) hk).2.2.2.2 (by omega)
  simpa using this
theorem range_sorted (n : Nat) (f : Nat → Bool) : (((List.range n).filter f).map fun (u : Nat) => (u : Int)).Pairwise (· < ·) := by
  rw [List.pairwise_map]
  refine (List.Pairwise.filter f List.pairwise_lt_range).imp fun h => ?_
  omega

def nextTo (ys : List Tri) (v : Int) (k : Nat) : List Int := ((ys.take k).filter fun e => decide (e.1 = v)).map fun e => e.2.1
def nextOf (g : GraphD) (v : Int) : List Int := if graphOk g = true then nextTo g.2 v g.2.length else []
theorem nextTo_yes (ys : List Tri) (v : Int) (k : Nat) (hk : k < ys.length) (h : (ys.getD k triZ).1 = v) : nextTo ys v (k + 1) = nextTo ys v k ++ [(ys.getD k triZ).2.1] := by
  unfold nextTo
  rw [triTake_snoc ys k hk, List.filter_append, List.map_append, List.filter_cons, if_pos (by simpa using h)]
  rfl
theorem nextTo_no (ys : List Tri) (v : Int) (k : Nat) (hk : k < ys.length) (h : ¬ (ys.getD k triZ).1 = v) : nextTo ys v (k + 1) = nextTo ys v k := by
  unfold nextTo
  rw [triTake_snoc ys k hk, List.filter_append, List.map_append, List.filter_cons, if_neg (by simpa using h)]
  simp
theorem nextTo_length (ys : List Tri) (v : Int) (k : Nat) : (nextTo ys v k).length ≤ k := by
  unfold nextTo; rw [List.length_map]
  exact Nat.le_trans (List.length_filter_le _ _) (by rw [List.length_take]; omega)
theorem nextOf_length (g : GraphD) (v : Int) : (nextOf g v).length ≤ 40 := by
  unfold nextOf; split
  · rename_i h
    have h1 := nextTo_length g.2 v g.2.length
    have h2 := (graphOk_yes h).2.1
    omega
  · simp
theorem nextTo_sorted {g : GraphD} (hok : GraphOk g) (v : Int) : (nextTo g.2 v g.2.length).Pairwise (· < ·) := by
  unfold nextTo
  rw [List.take_of_length_le (Nat.le_refl _), List.pairwise_map]
  have h := List.Pairwise.filter (fun e : Tri => decide (e.1 = v)) hok.sorted
  refine List.Pairwise.imp_of_mem (fun {a b} ha hb hab => ?_) h
  have h1 := (List.mem_filter.1 ha).2; have h2 := (List.mem_filter.1 hb).2
  simp at h1 h2
  unfold Bef at hab
  omega
theorem nextOf_out {g : GraphD} (v : Int) (h : ¬ (0 ≤ v ∧ v < g.1)) : nextOf g v = [] := by
  unfold nextOf
  split
  · rename_i hok
    unfold nextTo
    rw [List.map_eq_nil_iff, List.filter_eq_nil_iff]
    intro e he
    have := ends_lt (graphOk_yes hok) (List.mem_of_mem_take he)
    simp; omega
  · rfl
theorem nearOf_out {g : GraphD} (v : Int) (h : ¬ (0 ≤ v ∧ v < g.1)) : nearOf g v = [] := by
  unfold nearOf
  split
  · rename_i hok
    unfold nearTo
    rw [List.map_eq_nil_iff, List.filter_eq_nil_iff]
    intro u _
    unfold nearQ
    rw [Bool.not_eq_true, List.any_eq_false]
    intro e he
    have := ends_lt (graphOk_yes hok) he
    simp; omega
  · rfl
/-- The set of those to which edges lead, as a list. -/
theorem next_bits {g : GraphD} (hok : GraphOk g) {M : List Nat} (hM : MaskOK (nextP g.2) g.1.toNat M) {v : Nat} (hv : v < g.1.toNat) : (bitsOf (M.getD v 0)).map (fun (u : Nat) => (u : Int)) = nextOf g (v : Int) := by
  have hn : g.1.toNat ≤ 16 := by have := hok.1; omega
  rw [bits_range (n := g.1.toNat) (by omega) (hM.2 v hv).2 fun i hi => nextP_big hok v i hi]
  unfold nextOf
  rw [if_pos (show graphOk g = true from decide_eq_true hok)]
  refine eq_of_sorted (range_sorted _ _) (nextTo_sorted hok _) fun z => ?_
  unfold nextTo
  rw [List.take_of_length_le (Nat.le_refl _)]
  simp only [List.mem_map, List.mem_filter, List.mem_range, nextP, List.any_eq_true, Bool.and_eq_true, decide_eq_true_eq]
  constructor
  · rintro ⟨u, ⟨hu, e, he, h1, h2⟩, rfl⟩
    exact ⟨e, ⟨he, h1⟩, h2⟩
  · rintro ⟨e, ⟨he, h1⟩, h2⟩
    have := ends_lt hok he
    exact ⟨e.2.1.toNat, ⟨by omega, e, he, h1, by omega⟩, by omega⟩


end Go.Proofs.YtgdggkhdollieaaDoor
