/-
  Functions of numbers alone: is a number in a range, can there be so many workers, who owns a vertex.
-/
import Derived.Test.YtoolmknnmmecfaaChecked
import Derived.Test.YtoolmknnmmecfaaLib
namespace Go.Proofs.Ytoolmknnmmecfaa
open Go.RowKit

theorem l1In_any (n lo hi : Int) (w : World) :
    Calls Try.prog 30 #[.int .i64 n, .int .i64 lo, .int .i64 hi] w fun e w' => e = .returned (.bool (decide (lo ≤ n ∧ n ≤ hi))) ∧ w = w' := by
  by_cases h1 : lo ≤ n
  · by_cases h2 : n ≤ hi
    · have h3 : decide (lo ≤ n ∧ n ≤ hi) = true := by simp [h1, h2]
      rw [h3]
      go_enter Try.func30, Try.ntmps30
      go_wp2
      go_ret
      exact ⟨rfl, rfl⟩
    · have h3 : decide (lo ≤ n ∧ n ≤ hi) = false := by simp [h2]
      rw [h3]
      go_enter Try.func30, Try.ntmps30
      go_wp2
      all_goals (go_ret; exact ⟨rfl, rfl⟩)
  · have h3 : decide (lo ≤ n ∧ n ≤ hi) = false := by simp [h1]
    rw [h3]
    go_enter Try.func30, Try.ntmps30
    go_wp2
    all_goals (go_ret; exact ⟨rfl, rfl⟩)

/-- The owner of a vertex. -/
def ownerF (v k : Int) : Int := (13 * v + 5) % 17 % k
theorem ownerF_rng (v k : Int) (h1 : 1 ≤ k) : 0 ≤ ownerF v k ∧ ownerF v k < k := by
  unfold ownerF; exact ⟨Int.emod_nonneg _ (by omega), Int.emod_lt_of_pos _ (by omega)⟩
def ownerOf (v k : Int) : Int := if 0 ≤ v ∧ v ≤ 15 ∧ 1 ≤ k ∧ k ≤ 6 then ownerF v k else -1

theorem workersFit_any (n : Int) (w : World) :
    Calls Try.prog 41 #[.int .i64 n] w fun e w' => e = .returned (.bool (decide (1 ≤ n ∧ n ≤ 6))) ∧ w = w' := by
  by_cases h1 : 1 ≤ n <;> by_cases h2 : n ≤ 6
  all_goals
    simp only [h1, h2, and_self, and_true, and_false, decide_true, decide_false]
    go_enter Try.func41, Try.ntmps41
    go_wp2
    all_goals (go_ret; exact ⟨rfl, rfl⟩)

theorem specOwnerOf_any (v k : Int) (w : World) :
    Calls Try.prog 40 #[.int .i64 v, .int .i64 k] w fun e w' => e = .returned (.int .i64 (ownerOf v k)) ∧ w = w' := by
  by_cases h : 0 ≤ v ∧ v ≤ 15
  · by_cases h' : 1 ≤ k ∧ k ≤ 6
    · have e : ownerOf v k = (13 * v + 5) % 17 % k := by rw [ownerOf, if_pos ⟨h.1, h.2, h'.1, h'.2⟩, ownerF]
      rw [e]
      obtain ⟨h1, h2⟩ := h
      obtain ⟨h3, h4⟩ := h'
      have h5 : 0 ≤ (13 * v + 5) % 17 := Int.emod_nonneg _ (by omega)
      go_enter Try.func40, Try.ntmps40
      go_wp2_with (go_at_call 30; refine (l1In_any _ _ _ _).mono ?_; rintro e w' ⟨rfl, rfl⟩)
      go_ret
      exact ⟨rfl, rfl⟩
    · have e : ownerOf v k = -1 := by rw [ownerOf, if_neg (fun x => h' x.2.2)]
      rw [e]
      have h'' : decide (1 ≤ k ∧ k ≤ 6) = false := by simpa using h'
      go_enter Try.func40, Try.ntmps40
      go_wp2_with (go_at_call 30; refine (l1In_any _ _ _ _).mono ?_; rintro e w' ⟨rfl, rfl⟩)
      all_goals go_ret
      all_goals exact ⟨rfl, rfl⟩
  · have e : ownerOf v k = -1 := by rw [ownerOf, if_neg (fun x => h ⟨x.1, x.2.1⟩)]
    rw [e]
    have h'' : decide (0 ≤ v ∧ v ≤ 15) = false := by simpa using h
    go_enter Try.func40, Try.ntmps40
    go_wp2_with (go_at_call 30; refine (l1In_any _ _ _ _).mono ?_; rintro e w' ⟨rfl, rfl⟩)
    all_goals go_ret
    all_goals exact ⟨rfl, rfl⟩

/-- The table of owners as it is filled. -/
def tabK (kk : Int) (k : Nat) : Array Value := ((List.range 16).map fun (i : Nat) => if i < k then Value.int .i64 (ownerF (i : Int) kk) else .int .i64 0).toArray
theorem tabK_size (kk : Int) (k : Nat) : (tabK kk k).size = 16 := by simp [tabK]
theorem tabK_get (kk : Int) (k : Nat) (h : k < 16) : (tabK kk k)[k]? = some (.int .i64 0) := by simp [tabK, h]
theorem tabK_set (kk : Int) (k : Nat) : (tabK kk k).setIfInBounds k (.int .i64 (ownerF (k : Int) kk)) = tabK kk (k + 1) := by
  apply Array.ext_getElem?
  intro i
  simp only [tabK, Array.getElem?_setIfInBounds, List.getElem?_toArray, List.getElem?_map]
  by_cases hi : i < 16
  · by_cases h : k = i
    · subst h; simp [hi]
    · simp [h, hi]
      have h2 : (i < k) ↔ (i < k + 1) := by omega
      simp [h2]
  · simp [hi]; omega
def table (kk : Int) : Array Value := #[.int .i64 (ownerF 0 kk), .int .i64 (ownerF 1 kk), .int .i64 (ownerF 2 kk), .int .i64 (ownerF 3 kk), .int .i64 (ownerF 4 kk), .int .i64 (ownerF 5 kk), .int .i64 (ownerF 6 kk), .int .i64 (ownerF 7 kk), .int .i64 (ownerF 8 kk), .int .i64 (ownerF 9 kk), .int .i64 (ownerF 10 kk), .int .i64 (ownerF 11 kk), .int .i64 (ownerF 12 kk), .int .i64 (ownerF 13 kk), .int .i64 (ownerF 14 kk), .int .i64 (ownerF 15 kk)]
theorem tabK_all (kk : Int) : tabK kk 16 = table kk := rfl
theorem tabK_none (kk : Int) : tabK kk 0 = #[.int .i64 0, .int .i64 0, .int .i64 0, .int .i64 0, .int .i64 0, .int .i64 0, .int .i64 0, .int .i64 0, .int .i64 0, .int .i64 0, .int .i64 0, .int .i64 0, .int .i64 0, .int .i64 0, .int .i64 0, .int .i64 0] := rfl
theorem table_get (kk : Int) (v : Nat) (h : v < 16) : (table kk)[v]? = some (.int .i64 (ownerF (v : Int) kk)) := by
  rw [← tabK_all]; simp [tabK, h]

theorem tab_size (kk : Int) : (tabK kk 0).size = (table kk).size := by rw [tabK_size]; rfl
theorem table_one (kk : Int) : (table kk).all (·.oneCell') = true := by simp [table, Value.oneCell']

set_option maxHeartbeats 1000000 in
theorem ownerTable_any (kk : Int) (h1 : 1 ≤ kk) (h2 : kk ≤ 6) (w : World) :
    Calls Try.prog 42 #[.int .i64 kk] w fun e w' => e = .returned (.agg (table kk)) ∧ Below w.heap.size w w' := by
  go_enter Try.func42, Try.ntmps42
  go_wp2_with fail
  go_loopw [5] (fun i wr => ∃ k : Nat, k ≤ 16 ∧ i = .int .i64 k ∧ wr = (w.alloc (.cells (tabK kk 0) 60)).alloc (.cells (tabK kk k) 60)) (fun i _ => 16 - (intOf i).toNat)
  case atStart => exact ⟨0, Nat.zero_le _, rfl, by rw [tabK_none]⟩
  case round =>
    obtain ⟨k, hk, rfl, rfl⟩ := hrel
    by_cases hlt : k < 16
    · have g := tabK_get kk k hlt
      have h5 : 0 ≤ (13 * (k : Int) + 5) % 17 := Int.emod_nonneg _ (by omega)
      go_wp2_with fail
      go_roundw
      case rel => exact ⟨k + 1, by omega, by go_num, by rw [← tabK_set]; rfl⟩
      case measure => simp [intOf]; omega
    · have ek : tabK kk k = table kk := by
        obtain rfl : k = 16 := by omega
        rfl
      rw [ek]
      clear ek
      have hs : ((w.alloc (.cells (tabK kk 0) 60)).alloc (.cells (table kk) 60)).heap[w.heap.size + 1]? = some (.cells (table kk) 60 (0, 0)) := heap_alloc2_new _ _ _
      have hs2 : ((w.alloc (.cells (tabK kk 0) 60)).alloc (.cells (table kk) 60)).heap[w.heap.size]? = some (.cells (tabK kk 0) 60 (0, 0)) := heap_alloc2_old _ _ _
      have hb : Below w.heap.size w ((w.alloc (.cells (tabK kk 0) 60)).alloc (.cells (table kk) 60)) := by go_grown
      generalize ((w.alloc (.cells (tabK kk 0) 60)).alloc (.cells (table kk) 60)) = w2 at *
      have HS := Lib.hid hs; have HS2 := Lib.hid hs2; have HB := Lib.hid hb; clear hs hs2 hb
      go_wp2_with (first | refine wpList_load_row rfl 60 (.tmp 3) rfl (w.heap.size + 1) rfl 60 (table kk) (0, 0) _ HS.out Try.underlying60 rfl (by kernel_rfl) ?_ | refine wpList_store_row rfl 60 (.tmp 2) (.tmp 17) rfl w.heap.size (table kk) rfl rfl 60 (tabK kk 0) HS2.out (by kernel_rfl) (tab_size kk) (table_one kk) ?_)
      refine bodyPost_ret (v := .agg (table kk)) (results_cell_row (p := 2) rfl _ _ w.heap.size 60 (table kk) (0, 0) _ rfl (setRow_heap _ _ _ _ _ _ HS2.out) Try.underlying60 rfl (by kernel_rfl)) rfl ⟨rfl, ?_⟩
      exact HB.out.trans ⟨rfl, rfl, rfl, by simp, fun k hk => setRow_other _ _ _ _ (by omega)⟩

end Go.Proofs.Ytoolmknnmmecfaa
