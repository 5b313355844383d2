/-
  Triangles are counted once: the sum over their greatest vertices is the sum over their least.
-/
import Derived.Test.YtobhekkgbccoiaaDoorTriang
namespace Go.Proofs.YtobhekkgbccoiaaDoor
open Go.RowKit
set_option linter.unusedVariables false

theorem sumN_comm (f : Nat → Nat → Nat) (m : Nat) : ∀ n : Nat, sumN (fun i => sumN (f i) m) n = sumN (fun j => sumN (fun i => f i j) n) m
  | 0 => (sumN_zero m).symm
  | n + 1 => by
    rw [sumN, sumN_comm f m n, ← sumN_add]
    rfl
/-- The sum over a list that a range gives. -/
theorem sum_range (p : Nat → Bool) (f : Int → Nat) : ∀ n : Nat, ((((List.range n).filter p).map fun (u : Nat) => (u : Int)).map f).sum = sumN (fun i => if p i = true then f (i : Int) else 0) n
  | 0 => rfl
  | n + 1 => by
    rw [List.range_succ, List.filter_append, List.map_append, List.map_append, List.sum_append, sum_range p f n, sumN]
    congr 1
    cases h : p n <;> simp [h]
theorem count_range (p : Nat → Bool) (f : Int → Bool) (n : Nat) : (((List.range n).filter p).map fun (u : Nat) => (u : Int)).countP f = sumN (fun i => tick (p i && f (i : Int))) n := by
  rw [List.countP_map, List.countP_filter, List.countP_eq_length_filter, filter_tick]
  refine sumN_congr fun i _ => ?_
  simp only [Function.comp_apply]
  rw [Bool.and_comm]
/-- As the law counts them: those in which a vertex is the least. -/
def manyR (g : GraphD) (a : Int) : List Int → Nat
  | [] => 0
  | b :: r => r.countP (fun c => decide (a < b) && decide (c ∈ nearOf g b)) + manyR g a r
def manyAt (g : GraphD) (a : Nat) : Nat := manyR g (a : Int) (nearOf g (a : Int))
theorem manyR_le (g : GraphD) (v : Int) : ∀ l : List Int, manyR g v l ≤ l.length * l.length
  | [] => Nat.zero_le _
  | a :: r => by
    have h1 := manyR_le g v r
    have h2 : r.countP (fun b => decide (v < a) && decide (b ∈ nearOf g a)) ≤ r.length := List.countP_le_length
    simp only [manyR, List.length_cons, Nat.add_mul, Nat.mul_add]; omega
theorem manyAt_le (g : GraphD) (v : Nat) : manyAt g v ≤ 256 := by
  have h1 := manyR_le g (v : Int) (nearOf g (v : Int))
  have h2 := Nat.mul_le_mul (nearOf_length g (v : Int)) (nearOf_length g (v : Int))
  unfold manyAt; omega
theorem manyR_drop (g : GraphD) (v : Int) (N : List Int) (i : Nat) (h : i < N.length) : manyR g v (N.drop i) = (N.drop (i + 1)).countP (fun c => decide (v < N.getD i 0) && decide (c ∈ nearOf g (N.getD i 0))) + manyR g v (N.drop (i + 1)) := by
  rw [drop_get N i 0 h]; rfl
theorem manyR_sums (g : GraphD) (a : Int) : ∀ M : List Int, M.Pairwise (· < ·) → manyR g a M = (M.map fun b => M.countP fun c => decide (b < c) && (decide (a < b) && decide (c ∈ nearOf g b))).sum
  | [], _ => rfl
  | b :: r, h => by
    rw [List.pairwise_cons] at h
    have ih := manyR_sums g a r h.2
    have e1 : (b :: r).countP (fun c => decide (b < c) && (decide (a < b) && decide (c ∈ nearOf g b))) = r.countP fun c => decide (a < b) && decide (c ∈ nearOf g b) := by
      rw [List.countP_cons, if_neg (by simp), Nat.add_zero]
      refine countP_congr' fun c hc => ?_
      have := h.1 c hc
      simp [this]
    have e2 : (r.map fun b' => (b :: r).countP fun c => decide (b' < c) && (decide (a < b') && decide (c ∈ nearOf g b'))) = r.map fun b' => r.countP fun c => decide (b' < c) && (decide (a < b') && decide (c ∈ nearOf g b')) := by
      refine List.map_congr_left fun b' hb => ?_
      have h9 := h.1 b' hb
      rw [List.countP_cons, if_neg (by simp; omega), Nat.add_zero]
    simp only [List.map_cons, List.sum_cons, e1, e2, manyR, ih]
theorem near_filter {g : GraphD} (hok : GraphOk g) (v : Nat) : nearOf g (v : Int) = ((List.range g.1.toNat).filter fun u => nearQ g.2 (v : Int) u).map fun (u : Nat) => (u : Int) := by
  unfold nearOf nearTo
  rw [if_pos (show graphOk g = true from decide_eq_true hok)]
theorem near_dec {g : GraphD} (hok : GraphOk g) (a b : Nat) (hb : b < g.1.toNat) : decide ((b : Int) ∈ nearOf g (a : Int)) = nearQ g.2 (a : Int) b := by
  cases h : nearQ g.2 (a : Int) b
  · refine decide_eq_false fun hm => ?_
    obtain ⟨-, u, hu, hq, he⟩ := (mem_near _ _).1 hm
    have : u = b := by omega
    subst this; rw [h] at hq; cases hq
  · exact decide_eq_true ((mem_near _ _).2 ⟨decide_eq_true hok, b, hb, h, rfl⟩)
def triF (g : GraphD) (v b c : Nat) : Nat := tick (decide (c < b) && decide (b < v) && (nearQ g.2 (v : Int) b && nearQ g.2 (v : Int) c && nearQ g.2 (b : Int) c))
theorem triF_rev (g : GraphD) (a b c : Nat) : triF g c b a = tick (decide (a < b) && decide (b < c) && (nearQ g.2 (a : Int) b && nearQ g.2 (a : Int) c && nearQ g.2 (b : Int) c)) := by
  unfold triF
  rw [nearQ_symm g.2 c b, nearQ_symm g.2 c a, nearQ_symm g.2 b a]
  congr 2
  cases nearQ g.2 (b : Int) c <;> cases nearQ g.2 (a : Int) c <;> cases nearQ g.2 (a : Int) b <;> rfl
theorem tri_sums {g : GraphD} (hok : GraphOk g) (v : Nat) : triAt g v = sumN (fun b => sumN (fun c => triF g v b c) g.1.toNat) g.1.toNat := by
  rw [tri_same, near_filter hok, List.filter_map, List.filter_filter]
  unfold triL
  rw [sum_range]
  refine sumN_congr fun b hb => ?_
  simp only [count_range, Function.comp_apply]
  split
  · rename_i h
    refine sumN_congr fun c hc => ?_
    rw [near_dec hok b c hc]
    unfold triF
    congr 1
    simp only [Bool.and_eq_true, decide_eq_true_eq] at h
    rw [h.2]
    have h1 : b < v := by omega
    by_cases h2 : c < b
    · have h3 : c < v := by omega
      simp [h1, h2, h3]
    · simp [h2]
  · rename_i h
    have : ∀ c, triF g v b c = 0 := fun c => by
      unfold triF tick
      rw [if_neg]
      intro hh
      simp only [Bool.and_eq_true, decide_eq_true_eq] at hh
      refine h ?_
      simp only [Bool.and_eq_true, decide_eq_true_eq]
      exact ⟨by omega, hh.2.1.1⟩
    rw [show (fun c => triF g v b c) = fun _ => 0 from funext this, sumN_zero]
theorem many_sums {g : GraphD} (hok : GraphOk g) (a : Nat) : manyAt g a = sumN (fun b => sumN (fun c => triF g c b a) g.1.toNat) g.1.toNat := by
  unfold manyAt
  rw [manyR_sums g _ _ (near_sorted g _), near_filter hok, sum_range]
  refine sumN_congr fun b hb => ?_
  simp only [count_range]
  split
  · rename_i h
    refine sumN_congr fun c hc => ?_
    rw [near_dec hok b c hc, triF_rev, h]
    congr 1
    by_cases h1 : a < b <;> by_cases h2 : b < c <;> simp [h1, h2] <;> (try rw [Bool.and_comm])
  · rename_i h
    have : ∀ c, triF g c b a = 0 := fun c => by
      rw [triF_rev]
      unfold tick
      rw [if_neg]
      intro hh
      simp only [Bool.and_eq_true] at hh
      exact h hh.2.1.1
    rw [show (fun c => triF g c b a) = fun _ => 0 from funext this, sumN_zero]
theorem tri_many {g : GraphD} (hok : GraphOk g) : sumN (triAt g) g.1.toNat = sumN (manyAt g) g.1.toNat := by
  rw [sumN_congr fun v _ => tri_sums hok v, sumN_congr fun a _ => many_sums hok a]
  rw [sumN_comm]
  rw [sumN_comm (fun a b => sumN (fun c => triF g c b a) g.1.toNat)]
  refine sumN_congr fun b _ => ?_
  rw [sumN_comm]
end Go.Proofs.YtobhekkgbccoiaaDoor
