/-
  Plain facts on frames: the frame of a record; the record of the frame at a place.
-/
import Derived.Test.YtoolmknnmmecfaaPure
namespace Go.Proofs.Ytoolmknnmmecfaa

def bodyOk (b : List Int) : Bool := decide (1 ≤ b.length) && decide (b.length ≤ 100) && bytesOk b
def frameOf (b : List Int) : List Int := if bodyOk b = true then (b.length : Int) :: (b ++ [sumTo b]) else []
theorem frameOf_length (b : List Int) : (frameOf b).length ≤ 102 := by
  unfold frameOf
  split
  · rename_i h
    simp only [bodyOk, Bool.and_eq_true, decide_eq_true_eq] at h
    simp; omega
  · simp
/-- The part of a list that has n numbers from a place on. -/
def partOf (xs : List Int) (p n : Nat) : List Int := (xs.drop p).take n
theorem partOf_length (xs : List Int) (p n : Nat) (h : p + n ≤ xs.length) : (partOf xs p n).length = n := by
  rw [partOf, List.length_take, List.length_drop]; omega
theorem partOf_ok {xs : List Int} (h : bytesOk xs = true) (p n : Nat) : bytesOk (partOf xs p n) = true := by
  simp only [bytesOk, Bool.and_eq_true, List.all_eq_true, decide_eq_true_eq] at *
  exact ⟨by rw [partOf, List.length_take, List.length_drop]; omega, fun x hx => h.2 x (List.mem_of_mem_drop (List.mem_of_mem_take hx))⟩
/-- Does a frame stand at place p? The number n that stands there says how long its record is. -/
def frameB (xs : List Int) (p : Nat) : Bool :=
  decide (1 ≤ xs.getD p 0) && decide (xs.getD p 0 ≤ 100) && decide (p + (xs.getD p 0).toNat + 1 < xs.length) && decide (xs.getD (p + (xs.getD p 0).toNat + 1) 0 = sumTo (partOf xs (p + 1) (xs.getD p 0).toNat))
/-- The record of the frame at place p of valid bytes, and the place behind it. -/
def frameAt (xs : List Int) (p : Nat) : Option (List Int × Nat) :=
  if frameB xs p = true then some (partOf xs (p + 1) (xs.getD p 0).toNat, p + (xs.getD p 0).toNat + 2) else none
theorem frameB_lt {xs : List Int} {p : Nat} (h : frameB xs p = true) : 1 ≤ xs.getD p 0 ∧ xs.getD p 0 ≤ 100 ∧ p + (xs.getD p 0).toNat + 1 < xs.length ∧ xs.getD (p + (xs.getD p 0).toNat + 1) 0 = sumTo (partOf xs (p + 1) (xs.getD p 0).toNat) := by
  simp only [frameB, Bool.and_eq_true, decide_eq_true_eq] at h
  exact ⟨h.1.1.1, h.1.1.2, h.1.2, h.2⟩
/-- ReadFrame: the record, the place behind it. -/
def readF (xs : List Int) (p : Int) : Option (List Int × Nat) :=
  if bytesOk xs = true ∧ 0 ≤ p then frameAt xs p.toNat else none
def rfBody (o : Option (List Int × Nat)) : List Int := (o.map (·.1)).getD []
def rfNext (o : Option (List Int × Nat)) : Int := (o.map fun x => (x.2 : Int)).getD 0
theorem readF_bad {xs : List Int} {p : Int} (h : bytesOk xs = false) : readF xs p = none := by rw [readF, if_neg (by simp [h])]
theorem readF_neg {xs : List Int} {p : Int} (h : p < 0) : readF xs p = none := by rw [readF, if_neg (by omega)]
theorem readF_at {xs : List Int} {p : Nat} (h : bytesOk xs = true) : readF xs (p : Int) = frameAt xs p := by rw [readF, if_pos ⟨h, by omega⟩, Int.toNat_natCast]
theorem frameB_end {xs : List Int} {p : Nat} (h : xs.length ≤ p) : frameB xs p = false := by
  rw [Bool.eq_false_iff]; intro hb
  have := frameB_lt hb; omega
theorem frameAt_length {xs : List Int} {p : Nat} {b : List Int} {q : Nat} (h : frameAt xs p = some (b, q)) : b.length ≤ 100 ∧ 1 ≤ b.length ∧ q ≤ xs.length ∧ p < q ∧ q = p + b.length + 2 := by
  unfold frameAt at h
  split at h
  · rename_i hb
    have h1 := frameB_lt hb
    simp only [Option.some.injEq, Prod.mk.injEq] at h
    obtain ⟨rfl, rfl⟩ := h
    have hl := partOf_length xs (p + 1) (xs.getD p 0).toNat (by omega)
    omega
  · cases h
theorem rfBody_length (xs : List Int) (p : Int) : (rfBody (readF xs p)).length ≤ 100 := by
  unfold readF
  split
  · cases hf : frameAt xs p.toNat with
    | none => simp [rfBody]
    | some x => obtain ⟨b, q⟩ := x; have := frameAt_length hf; simpa [rfBody] using this.1
  · simp [rfBody]
end Go.Proofs.Ytoolmknnmmecfaa
