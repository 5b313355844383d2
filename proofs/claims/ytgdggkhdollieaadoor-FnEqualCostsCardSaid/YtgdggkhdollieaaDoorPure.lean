/-
  Plain facts on lists and numbers: which bytes are valid, sums, the digits of a number.
-/
import Derived.Test.YtgdggkhdollieaaDoorLib
namespace Go.Proofs.YtgdggkhdollieaaDoor

def byteB (x : Int) : Bool := decide (0 ≤ x ∧ x ≤ 255)
/-- Are there at most 2000 bytes, each in 0..255? -/
def bytesOk (xs : List Int) : Bool := decide (xs.length ≤ 2000) && xs.all byteB

theorem getD_mem {xs : List Int} {k : Nat} (h : k < xs.length) : xs.getD k 0 ∈ xs := by
  simp [h]
theorem bytesOk_len {xs : List Int} (h : 2000 < xs.length) : bytesOk xs = false := by
  have h' : ¬ xs.length ≤ 2000 := by omega
  simp [bytesOk, h']
theorem bytesOk_at {xs : List Int} {k : Nat} (hk : k < xs.length) (h : ¬ (0 ≤ xs.getD k 0 ∧ xs.getD k 0 ≤ 255)) : bytesOk xs = false := by
  rw [Bool.eq_false_iff]
  intro hb
  simp only [bytesOk, Bool.and_eq_true, List.all_eq_true] at hb
  have := hb.2 _ (getD_mem hk)
  simp only [byteB, decide_eq_true_eq] at this
  exact h this
theorem bytesOk_of {xs : List Int} (h : xs.length ≤ 2000) (h2 : ∀ i, i < xs.length → 0 ≤ xs.getD i 0 ∧ xs.getD i 0 ≤ 255) : bytesOk xs = true := by
  simp only [bytesOk, Bool.and_eq_true, List.all_eq_true, decide_eq_true_eq]
  refine ⟨h, fun x hx => ?_⟩
  obtain ⟨i, hi, rfl⟩ := List.mem_iff_getElem.1 hx
  have := h2 i hi
  simp only [byteB, decide_eq_true_eq]
  simpa [hi] using this
theorem bytesOk_rng {xs : List Int} (h : bytesOk xs = true) : xs.length ≤ 2000 ∧ ∀ i, i < xs.length → 0 ≤ xs.getD i 0 ∧ xs.getD i 0 ≤ 255 := by
  simp only [bytesOk, Bool.and_eq_true, List.all_eq_true, decide_eq_true_eq] at h
  refine ⟨h.1, fun i hi => ?_⟩
  have := h.2 _ (getD_mem hi)
  simpa [byteB] using this
theorem bytesOk_nil : bytesOk [] = true := rfl

def sumTo (xs : List Int) : Int := xs.foldl (fun s b => (31 * s + b + 1) % 251) 7
def checkSum (xs : List Int) : Int := if bytesOk xs = true then sumTo xs else -1
theorem sumTo_snoc (xs : List Int) (x : Int) : sumTo (xs ++ [x]) = (31 * sumTo xs + x + 1) % 251 := by simp [sumTo]
theorem sumFrom_rng (xs : List Int) : ∀ s : Int, 0 ≤ s ∧ s ≤ 250 → 0 ≤ xs.foldl (fun s b => (31 * s + b + 1) % 251) s ∧ xs.foldl (fun s b => (31 * s + b + 1) % 251) s ≤ 250 := by
  induction xs with
  | nil => intro s h; exact h
  | cons x xs ih =>
    intro s h
    have h1 : 0 ≤ (31 * s + x + 1) % 251 := Int.emod_nonneg _ (by decide)
    have h2 : (31 * s + x + 1) % 251 < 251 := Int.emod_lt_of_pos _ (by decide)
    exact ih ((31 * s + x + 1) % 251) ⟨h1, by omega⟩
theorem sumTo_rng (xs : List Int) : 0 ≤ sumTo xs ∧ sumTo xs ≤ 250 := sumFrom_rng xs 7 (by decide)

/-- The digits of a number to the base 128, with fuel. -/
def encF : Nat → Int → List Int
  | 0, n => [n]
  | f + 1, n => if n < 128 then [n] else (n % 128 + 128) :: encF f (n / 128)
def encode (n : Int) : List Int := if 0 ≤ n ∧ n ≤ 1000000 then encF 3 n else []
theorem encF_lt (f : Nat) (n : Int) (h : n < 128) : encF f n = [n] := by cases f <;> simp [encF, h]
theorem encF_ge (f : Nat) (n : Int) (h : 128 ≤ n) : encF (f + 1) n = (n % 128 + 128) :: encF f (n / 128) := by
  rw [encF, if_neg (by omega)]
theorem encF_length (f : Nat) (n : Int) : 1 ≤ (encF f n).length ∧ (encF f n).length ≤ f + 1 := by
  induction f generalizing n with
  | zero => simp [encF]
  | succ f ih =>
    rw [encF]
    split
    · simp
    · have := ih (n / 128); simp; omega
theorem encode_length (n : Int) : (encode n).length ≤ 4 := by
  unfold encode
  split
  · exact (encF_length 3 n).2
  · simp

theorem bytesOk_take {xs : List Int} (h : bytesOk xs = true) (m : Nat) : bytesOk (xs.take m) = true := by
  simp only [bytesOk, Bool.and_eq_true, List.all_eq_true, decide_eq_true_eq] at *
  exact ⟨by rw [List.length_take]; omega, fun x hx => h.2 x (List.mem_of_mem_take hx)⟩
theorem bytesOk_bad {xs : List Int} {z : Int} (h : ¬ (0 ≤ z ∧ z ≤ 255)) : bytesOk (xs ++ [z]) = false := by
  rw [Bool.eq_false_iff]
  intro hb
  simp only [bytesOk, Bool.and_eq_true, List.all_eq_true] at hb
  have := hb.2 z (by simp)
  simp only [byteB, decide_eq_true_eq] at this
  exact h this
end Go.Proofs.YtgdggkhdollieaaDoor
