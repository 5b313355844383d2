/-
  Lists of one number: the program's and the reference's.
-/
import Derived.Test.YtgdggkhdollieaaDoorTri
import Derived.Test.YtgdggkhdollieaaDoorInts
namespace Go.Proofs.YtgdggkhdollieaaDoor
open Go.RowKit
set_option linter.unusedVariables false

set_option maxHeartbeats 800000 in
theorem unknowns_any (w : World) (n : Nat) (hn : n ≤ 1000) : Calls Tryd.prog 26 #[.int .i64 n] w fun e w' => e = .returned (.slice (some ⟨w.heap.size, 0, none⟩) n n) ∧ w'.ownsRow w.heap.size 3 1 (.slice (some ⟨w.heap.size, 0, none⟩) n n) n (ints (List.replicate n (-1))) ∧ Below w.heap.size w w' := by
  have HN : Hid ((List.replicate n (-1 : Int)).length = n) := Lib.hid (by simp)
  have HG : Hid (∀ k, k < n → (List.replicate n (-1 : Int)).getD k 0 = -1) := Lib.hid fun k hk => by simp [hk]
  generalize List.replicate n (-1 : Int) = xs at *
  obtain ⟨i0, hi, hz0, hz1, hz2⟩ := info_parts infoInt
  have Hi := Lib.hid hi; have Hz0 := Lib.hid hz0; have Hz1 := Lib.hid hz1; have Hz2 := Lib.hid hz2; clear hi hz0 hz1 hz2
  go_enter Tryd.func26, Tryd.ntmps26
  go_wp2_with (at_make; refine wpList_make_full _ rfl _ _ 29 rfl w.heap.size 3 i0 (.int .i64 0) 1 Tryd.underlying29 Hi.out Hz0.out Hz1.out _ _ _ _ n rfl rfl rfl rfl (by rw [Hz2.out]; omega) (by unfold maxLen; omega) (Nat.le_refl _) ?_)
  intro w1 hown hgrow
  have HO := Lib.hid hown; have HGR := Lib.hid hgrow; clear hown hgrow
  go_wp2_with fail
  go_loopw [9] (fun i wr => ∃ k : Nat, k ≤ n ∧ i = .int .i64 k ∧ Hid (wr.ownsRow w.heap.size 3 1 (.slice (some ⟨w.heap.size, 0, none⟩) n n) n (fillI n k xs)) ∧ Hid (Below w.heap.size w wr)) (fun i _ => n - (intOf i).toNat)
  case atStart =>
    refine ⟨0, Nat.zero_le _, rfl, Lib.hid ?_, Lib.hid ((Below.refl _ _).grown HGR.out (Nat.le_refl _) (by intro k hk; cases hk))⟩
    have h := HO.out
    rw [toList_madeCells_one] at h
    rw [fillI_start]; exact h
  case round =>
    clear HO HGR
    obtain ⟨k, hk, rfl, HO, HB⟩ := hrel
    by_cases hlt : k < n
    · have h2 : wr.cell? ⟨w.heap.size, k, none⟩ = some (.int .i64 0) := by
        rw [HO.out.cellAt k (by omega), fillI_get n k xs HN.out hlt]
      have h3 : wr.frozen? ⟨w.heap.size, k, none⟩ = false := HO.out.frozenAt k
      have HST := Lib.hid (HO.out.stored k (.int .i64 (-1)))
      go_wp2_with fail
      go_roundw
      case rel =>
        refine ⟨k + 1, by omega, by go_num, Lib.hid ?_, Lib.hid (HB.out.grown HST.out.2 HB.out.size (by intro j hj; cases hj; exact Nat.le_refl _))⟩
        rw [← fillI_set n k xs HN.out hlt, HG.out k hlt]; exact HST.out.1
      case measure => simp [intOf]; omega
    · obtain rfl : k = n := by omega
      have h9 := HO.out
      rw [fillI_all k xs HN.out] at h9
      have H9 := Lib.hid h9; clear h9
      go_wp2_with fail
      go_ret
      exact ⟨rfl, H9.out, HB.out⟩

set_option maxRecDepth 100000 in
set_option maxHeartbeats 4000000 in
theorem l8Fill_any (w : World) (n : Nat) (x : Int) (hn : n ≤ 1000) : Calls Tryd.prog 18 #[.int .i64 n, .int .i64 x] w fun e w' => ∃ v, e = .returned v ∧ w'.ownsRow w.heap.size 3 1 v n (ints (List.replicate n x)) ∧ Below w.heap.size w w' := by
  have HO0 := Lib.hid (World.ownsRow_made (size := 1) (e := 3) (base := w.heap.size) w #[] 0 (by simp) (by decide) rfl)
  have HB : Hid (Below w.heap.size w (w.alloc (.cells #[] 3))) := Lib.hid (by go_grown)
  have HRS := Lib.hid fun k => (List.replicate_succ' (n := k) (a := x))
  go_enter Tryd.func18, Tryd.ntmps18
  go_wp2_with fail
  generalize (w.alloc (.cells #[] 3)) = w0 at *
  go_loopw [5, 6] (fun r i wr => ∃ t : Nat, t ≤ n ∧ i = .int .i64 t ∧ Hid (wr.ownsRow w.heap.size 3 1 r t (ints (List.replicate t x))) ∧ Hid (Below w.heap.size w wr)) (fun _ i _ => n - (intOf i).toNat)
  case atStart => exact ⟨0, Nat.zero_le _, rfl, HO0, HB⟩
  case round =>
    clear HB HO0
    obtain ⟨t, ht, rfl, HO, HB⟩ := hrel
    by_cases hlt : t < n
    · have hws := HB.out.size
      go_wp2_with (at_builtin; refine wpList_pushB rfl _ _ 29 3 rfl (.int .i64 0) 1 8 Tryd.underlying29 infoInt rfl (by decide) (by decide) #[.int .i64 x] rfl (by simp [Value.oneCell']) w.heap.size _ _ _ HO.out rfl rfl (by omega) hws ?_; intro v' w9 hown1 hbel1 hne1)
      go_roundw
      case rel => exact ⟨t + 1, by omega, by go_num, Lib.hid (by rw [HRS.out, ints_append]; exact hown1), Lib.hid (HB.out.trans hbel1)⟩
      case measure => simp [intOf]; omega
    · obtain rfl : t = n := by omega
      go_wp2_with fail
      go_ret
      exact ⟨_, rfl, HO.out, HB.out⟩

end Go.Proofs.YtgdggkhdollieaaDoor
