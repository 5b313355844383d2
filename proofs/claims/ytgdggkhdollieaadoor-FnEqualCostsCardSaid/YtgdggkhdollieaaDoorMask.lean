/-
  Sets of small numbers as the bits of a number: plain laws; no program in sight.
-/
import Derived.Test.YtgdggkhdollieaaDoorLib
import Derived.Lib.TrailingZeros
import Derived.Laws.BitsLemmas
namespace Go.Proofs.YtgdggkhdollieaaDoor
open Go.RowKit

/-- The numbers of a set in ascending order. -/
def bitsOf (m : Nat) : List Nat := (List.range 32).filter m.testBit
theorem testBit_big {m i : Nat} (hm : m < 2 ^ 32) (hi : 32 ≤ i) : m.testBit i = false :=
  Nat.testBit_lt_two_pow (Nat.lt_of_lt_of_le hm (Nat.pow_le_pow_right (by decide) hi))
theorem bitsOf_mem {m : Nat} (hm : m < 2 ^ 32) (i : Nat) : i ∈ bitsOf m ↔ m.testBit i = true := by
  simp only [bitsOf, List.mem_filter, List.mem_range]
  constructor
  · exact fun h => h.2
  · intro h
    refine ⟨?_, h⟩
    rcases Nat.lt_or_ge i 32 with h32 | h32
    · exact h32
    · rw [testBit_big hm h32] at h; cases h
theorem range_filter_gap (f : Nat → Bool) (j : Nat) : ∀ d, (∀ i, j ≤ i → i < j + d → f i = false) → (List.range (j + d)).filter f = (List.range j).filter f
  | 0, _ => rfl
  | d + 1, h => by
    rw [show j + (d + 1) = (j + d) + 1 from rfl, List.range_succ, List.filter_append, range_filter_gap f j d fun i h1 h2 => h i h1 (by omega)]
    simp [h (j + d) (by omega) (by omega)]
/-- From j on, the next number of the set is k. -/
theorem range_filter_next (f : Nat → Bool) (j k : Nat) (hjk : j ≤ k) (h : ∀ i, j ≤ i → i < k → f i = false) (hk : f k = true) : (List.range (k + 1)).filter f = (List.range j).filter f ++ [k] := by
  rw [List.range_succ, List.filter_append, show k = j + (k - j) from by omega, range_filter_gap f j (k - j) (fun i h1 h2 => h i h1 (by omega))]
  simp only [show j + (k - j) = k from by omega]
  simp [hk]
theorem range_filter_end (f : Nat → Bool) (j n : Nat) (hj : j ≤ n) (h : ∀ i, j ≤ i → i < n → f i = false) : (List.range n).filter f = (List.range j).filter f := by
  obtain ⟨d, rfl⟩ := Nat.exists_eq_add_of_le hj
  exact range_filter_gap f j d h

/-- The lowest bit: which it is; what is left without it. -/
theorem low_bit (m : Nat) (h0 : m ≠ 0) (hm : m < 2 ^ 32) : Lib.ctz 32 m < 32 ∧ m.testBit (Lib.ctz 32 m) = true ∧ (∀ i, i < Lib.ctz 32 m → m.testBit i = false) ∧
    ∀ i, (m &&& (m - 1)).testBit i = (m.testBit i && decide (i ≠ Lib.ctz 32 m)) := by
  obtain ⟨j, hj, hk⟩ := Lib.ctzFrom_spec 32 m (by omega) hm
  have he : Lib.ctz 32 m = Lib.ctzFrom 32 m := by unfold Lib.ctz; rw [if_neg h0]
  rw [he]
  generalize Lib.ctzFrom 32 m = k at *
  have hp : 0 < 2 ^ k := Nat.two_pow_pos k
  have b0 : m = 2 ^ k * (2 * j + 1) := hj
  have hm1 : m - 1 = 2 ^ k * (2 * j) + (2 ^ k - 1) := by rw [b0, Nat.mul_add, Nat.mul_one]; omega
  have t0 : ∀ i, i < k → m.testBit i = false := by
    intro i hi
    rw [b0, Nat.testBit_two_pow_mul]; simp; omega
  have t1 : m.testBit k = true := by
    rw [b0, Nat.testBit_two_pow_mul]; simp
  refine ⟨hk, t1, t0, fun i => ?_⟩
  rw [Nat.testBit_and]
  have q : (m - 1).testBit i = if i < k then true else (2 * j).testBit (i - k) := by
    rw [hm1, Nat.testBit_two_pow_mul_add _ (by omega)]
    split
    · rename_i h; rw [Nat.testBit_two_pow_sub_one]; simp [h]
    · rfl
  rw [q]
  by_cases h1 : i < k
  · rw [t0 i h1]; simp
  · rw [if_neg h1]
    by_cases h2 : i = k
    · subst h2; simp
    · have e : m.testBit i = (2 * j + 1).testBit (i - k) := by
        rw [b0, Nat.testBit_two_pow_mul]; simp; omega
      obtain ⟨d, hd⟩ : ∃ d, i - k = d + 1 := ⟨i - k - 1, by omega⟩
      rw [e, hd, Nat.testBit_succ, Nat.testBit_succ, show (2 * j + 1) / 2 = j from by omega, show 2 * j / 2 = j from by omega]
      simp [h2]

/-- Out of the sets of the lower and the higher eight numbers. -/
def cnt8 (b : Nat) : Nat := ((List.range 8).filter b.testBit).length
theorem count_split (m : Nat) (hm : m < 65536) : (bitsOf m).length = cnt8 (m % 256) + cnt8 (m / 256) := by
  have h1 : ∀ i, 16 ≤ i → m.testBit i = false := fun i hi => Nat.testBit_lt_two_pow (Nat.lt_of_lt_of_le (by omega : m < 2 ^ 16) (Nat.pow_le_pow_right (by decide) hi))
  have h2 : bitsOf m = (List.range 16).filter m.testBit := range_filter_end _ 16 32 (by decide) fun i hi _ => h1 i hi
  have h3 : (List.range 16) = List.range 8 ++ (List.range 8).map (· + 8) := by decide
  rw [h2, h3, List.filter_append, List.length_append, List.filter_map, List.length_map]
  unfold cnt8
  congr 1
  · congr 1
    refine List.filter_congr fun i hi => ?_
    have : i < 8 := List.mem_range.1 hi
    rw [show (256 : Nat) = 2 ^ 8 from rfl, Nat.testBit_mod_two_pow]; simp [this]
  · congr 1
    refine List.filter_congr fun i hi => ?_
    rw [show (256 : Nat) = 2 ^ 8 from rfl, Nat.testBit_div_two_pow]; rfl

/-! The operations on u32 numbers. -/
theorem u32_or (a b : Nat) (ha : a < 2 ^ 32) (hb : b < 2 ^ 32) : bits .or .u32 (a : Int) (b : Int) = ((a ||| b : Nat) : Int) :=
  (bits_nat .u32 32 (by decide) (fun n h0 h1 => by rw [IntKind.wrap_u32]; omega) a b ha hb).2
theorem u32_and (a b : Nat) (ha : a < 2 ^ 32) (hb : b < 2 ^ 32) : bits .and .u32 (a : Int) (b : Int) = ((a &&& b : Nat) : Int) :=
  (bits_nat .u32 32 (by decide) (fun n h0 h1 => by rw [IntKind.wrap_u32]; omega) a b ha hb).1
/-- a without b. -/
def natAndNot (a b : Nat) : Nat := a &&& (4294967295 - b)
theorem natAndNot_testBit (a b i : Nat) (ha : a < 2 ^ 32) (hb : b < 2 ^ 32) : (natAndNot a b).testBit i = (a.testBit i && !b.testBit i) := by
  rw [natAndNot, Nat.testBit_and, show 4294967295 - b = 2 ^ 32 - (b + 1) from by omega, Nat.testBit_two_pow_sub_succ hb]
  by_cases h : i < 32
  · simp [h]
  · rw [testBit_big ha (by omega)]; simp
theorem u32_andNot (a b : Nat) (ha : a < 2 ^ 32) (hb : b < 2 ^ 32) : bits .andNot .u32 (a : Int) (b : Int) = ((natAndNot a b : Nat) : Int) := by
  have ha' : a % 2 ^ IntKind.u32.bits = a := Nat.mod_eq_of_lt ha
  have hb' : b % 2 ^ IntKind.u32.bits = b := Nat.mod_eq_of_lt hb
  simp only [bits, BitVec.ofInt_natCast, BitVec.toNat_and, BitVec.toNat_ofNat, BitVec.toNat_not, ha', hb']
  have e : a &&& (2 ^ IntKind.u32.bits - 1 - b) = natAndNot a b := rfl
  rw [e, IntKind.wrap_u32]
  have : natAndNot a b < 2 ^ 32 := Nat.and_lt_two_pow _ (by omega)
  omega
theorem natAndNot_lt (a b : Nat) (ha : a < 65536) : natAndNot a b < 65536 := by
  unfold natAndNot
  exact Nat.lt_of_le_of_lt Nat.and_le_left ha

/-- The table of how many numbers a set of numbers under eight has. -/
def pop8 : List Nat := (List.range 256).map cnt8
theorem pop8_get (b : Nat) (h : b < 256) : pop8.getD b 0 = cnt8 b := by simp [pop8, h]
theorem eq_of_bits {a b : Nat} (ha : a < 65536) (hb : b < 65536) (h : ∀ i, i < 16 → a.testBit i = b.testBit i) : a = b := by
  refine Nat.eq_of_testBit_eq fun i => ?_
  by_cases hi : i < 16
  · exact h i hi
  · have p : (2 : Nat) ^ 16 ≤ 2 ^ i := Nat.pow_le_pow_right (by decide) (by omega)
    rw [Nat.testBit_lt_two_pow (Nat.lt_of_lt_of_le (show a < 2 ^ 16 from ha) p), Nat.testBit_lt_two_pow (Nat.lt_of_lt_of_le (show b < 2 ^ 16 from hb) p)]
theorem two_pow_lt16 {v : Nat} (h : v < 16) : 2 ^ v < 65536 := Nat.pow_lt_pow_right (by decide) h
theorem or_lt16 {a b : Nat} (ha : a < 65536) (hb : b < 65536) : a ||| b < 65536 := Nat.or_lt_two_pow (n := 16) ha hb
/-- The set of the numbers for which f holds. -/
def setOf (f : Nat → Bool) (n : Nat) : Nat := match n with
  | 0 => 0
  | n + 1 => setOf f n ||| (if f n then 2 ^ n else 0)
theorem setOf_testBit (f : Nat → Bool) : ∀ n i, (setOf f n).testBit i = (decide (i < n) && f i)
  | 0, i => by simp [setOf]
  | n + 1, i => by
    rw [setOf, Nat.testBit_or, setOf_testBit f n i]
    by_cases h : f n = true
    · rw [if_pos h, Nat.testBit_two_pow]
      by_cases hi : n = i
      · subst hi; simp [h]
      · have : decide (i < n + 1) = decide (i < n) := by simp; omega
        simp [hi, this]
    · rw [if_neg h, Nat.zero_testBit]
      by_cases hi : n = i
      · subst hi; simp [h]
      · have : decide (i < n + 1) = decide (i < n) := by simp; omega
        simp [this]
end Go.Proofs.YtgdggkhdollieaaDoor
