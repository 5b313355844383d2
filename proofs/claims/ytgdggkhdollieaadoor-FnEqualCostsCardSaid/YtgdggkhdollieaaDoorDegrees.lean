/-
  The degrees of all vertices: the program's function and the reference's.
-/
import Derived.Test.YtgdggkhdollieaaDoorNear
import Derived.Test.YtgdggkhdollieaaDoorMasks
namespace Go.Proofs.YtgdggkhdollieaaDoor
open Go.RowKit
set_option linter.unusedVariables false

theorem nearQ_eq (ys : List Tri) (v u : Nat) : nearQ ys (v : Int) u = nearP ys v u := by
  unfold nearQ nearP nextP prevP
  induction ys with
  | nil => rfl
  | cons y ys ih =>
    simp only [List.any_cons, ih]
    cases decide (y.1 = (v : Int)) <;> cases decide (y.2.1 = (u : Int)) <;> cases decide (y.1 = (u : Int)) <;> cases decide (y.2.1 = (v : Int)) <;> simp
theorem ends_lt {g : GraphD} (hok : GraphOk g) {e : Tri} (he : e ∈ g.2) : (0 ≤ e.1 ∧ e.1 < g.1) ∧ (0 ≤ e.2.1 ∧ e.2.1 < g.1) ∧ e.1 ≠ e.2.1 := by
  obtain ⟨k, hk, rfl⟩ := List.mem_iff_getElem.1 he
  have h := hok.2.2 k hk
  have e : g.2.getD k triZ = g.2[k] := by simp [hk]
  unfold EdgeAt at h
  rw [e] at h
  omega
theorem nextP_big {g : GraphD} (hok : GraphOk g) (v u : Nat) (hu : g.1.toNat ≤ u) : nextP g.2 v u = false := by
  unfold nextP
  rw [List.any_eq_false]
  intro e he
  have := ends_lt hok he
  simp; omega
theorem prevP_big {g : GraphD} (hok : GraphOk g) (v u : Nat) (hu : g.1.toNat ≤ u) : prevP g.2 v u = false := by
  unfold prevP
  rw [List.any_eq_false]
  intro e he
  have := ends_lt hok he
  simp; omega
theorem bits_range {f : Nat → Bool} {m n : Nat} (hn : n ≤ 32) (h : ∀ i, m.testBit i = f i) (hf : ∀ i, n ≤ i → f i = false) : bitsOf m = (List.range n).filter f := by
  have e : m.testBit = f := funext h
  unfold bitsOf
  rw [e]
  exact range_filter_end f n 32 hn fun i h1 _ => hf i h1
/-- The set of the neighbours, as a list. -/
theorem near_bits {g : GraphD} (hok : GraphOk g) {M : List Nat} (hM : MaskOK (nearP g.2) g.1.toNat M) {v : Nat} (hv : v < g.1.toNat) : (bitsOf (M.getD v 0)).map (fun (u : Nat) => (u : Int)) = nearOf g (v : Int) := by
  have hn : g.1.toNat ≤ 16 := by have := hok.1; omega
  rw [bits_range (n := g.1.toNat) (by omega) (hM.2 v hv).2 fun i hi => by unfold nearP; rw [nextP_big hok v i hi, prevP_big hok v i hi]; rfl]
  unfold nearOf
  rw [if_pos (show graphOk g = true from decide_eq_true hok)]
  unfold nearTo
  congr 2
  funext u
  rw [nearQ_eq]
def degreesTo (g : GraphD) (t : Nat) : List Int := (List.range t).map fun (v : Nat) => ((nearOf g (v : Int)).length : Int)
def degreesOf (g : GraphD) : List Int := if graphOk g = true then degreesTo g g.1.toNat else []
theorem degreesTo_succ (g : GraphD) (t : Nat) : degreesTo g (t + 1) = degreesTo g t ++ [((nearOf g (t : Int)).length : Int)] := by simp [degreesTo, List.range_succ]
theorem degreesTo_length (g : GraphD) (t : Nat) : (degreesTo g t).length = t := by simp [degreesTo]
theorem degreesOf_length (g : GraphD) : (degreesOf g).length ≤ 16 := by
  unfold degreesOf; split
  · rename_i h
    have h2 := (graphOk_yes h).1
    rw [degreesTo_length]; omega
  · simp


end Go.Proofs.YtgdggkhdollieaaDoor
