/-
  The library's sort at lists of ints that are owned.
-/
import Derived.Sort.OwnSortedInts
import Derived.Test.YtgdggkhdollieaaInts
import Derived.Test.YtgdggkhdollieaaShelfS
namespace Go.Proofs.Ytgdggkhdollieaa
open Go.RowKit Go.Shelf Go.Sort
set_option linter.unusedVariables false

def sortI (xs : List Int) : List Int := xs.mergeSort fun x y => decide (x ≤ y)
theorem sortI_perm (xs : List Int) : (sortI xs).Perm xs := List.mergeSort_perm xs _
theorem sortI_length (xs : List Int) : (sortI xs).length = xs.length := (sortI_perm xs).length_eq
theorem sortI_sorted (xs : List Int) : (sortI xs).Pairwise (· ≤ ·) := by
  have := List.pairwise_mergeSort (le := fun x y : Int => decide (x ≤ y)) (fun a b c h k => by simp only [decide_eq_true_eq] at *; omega) (fun a b => by simp only [Bool.or_eq_true, decide_eq_true_eq]; omega) xs
  exact this.imp fun h => by simpa only [decide_eq_true_eq] using h
theorem sortInts_any (w : World) (base : Nat) (v : Value) (xs : List Int) (h : w.ownsRow base 3 1 v xs.length (ints xs)) (hl : xs.length ≤ 1099511627776) :
    Calls Try.prog 90 #[v] w fun e w' => e = .returned (.tuple #[]) ∧ w'.ownsRow base 3 1 v xs.length (ints (sortI xs)) ∧ w.grownBy w' v.ownBlock := by
  rcases h.2 with ⟨rfl, hz⟩ | ⟨gb, cap, cur, rfl, hbase, hgb, r1, r2, r3, r4⟩
  · have hx : xs = [] := List.eq_nil_of_length_eq_zero hz
    subst hx
    refine (AnyM.slices_Sort_int_none sortA none 0 w).mono ?_
    rintro e w' ⟨rfl, rfl⟩
    exact ⟨rfl, by simpa [sortI] using h, ⟨rfl, rfl, rfl, Nat.le_refl _, fun _ _ _ => rfl⟩⟩
  · have hH : Holds (Value.int .i64) w gb 0 xs.toArray := holds_of_blockI hgb (by simpa [ints] using r4)
    have hgl : gb < w.heap.size := (Array.getElem?_eq_some_iff.1 hgb).1
    refine (AnyM.slices_Sort_int sortA gb 0 cap xs w hH hgl (by omega)).mono ?_
    rintro e w' ⟨rfl, n, os, rfl⟩
    exact ⟨rfl, ownsRow_sortedI (by simp) hbase hgb r1 r2 r3, grownBy_sortedI _⟩
end Go.Proofs.Ytgdggkhdollieaa
