/-
  OwnedBy: the vertices that a worker owns: the program's function and the reference's.
-/
import Derived.Test.YtddhnngaopjjnaaInts
import Derived.Test.YtddhnngaopjjnaaNum
import Derived.Deep.WholeRow
namespace Go.Proofs.Ytddhnngaopjjnaa
open Go.RowKit

/-- The vertices below 'to' that worker q of k workers owns. -/
def ownTo (k q : Int) (to : Nat) : List Int := ((List.range to).filter fun (v : Nat) => ownerF (v : Int) k == q).map fun (v : Nat) => (v : Int)
def ownedBy (many k q : Int) : List Int := if 0 ≤ many ∧ many ≤ 16 ∧ 1 ≤ k ∧ k ≤ 6 then ownTo k q many.toNat else []
theorem ownTo_succ_yes (k q : Int) (to : Nat) (h : ownerF (to : Int) k = q) : ownTo k q (to + 1) = ownTo k q to ++ [(to : Int)] := by
  simp [ownTo, List.range_succ, List.filter_append, h]
theorem ownTo_succ_no (k q : Int) (to : Nat) (h : ¬ ownerF (to : Int) k = q) : ownTo k q (to + 1) = ownTo k q to := by
  simp [ownTo, List.range_succ, List.filter_append, h]
theorem ownTo_length (k q : Int) (to : Nat) : (ownTo k q to).length ≤ to := by
  unfold ownTo; rw [List.length_map]; exact Nat.le_trans (List.length_filter_le _ _) (by simp)
theorem ownedBy_length (many k q : Int) : (ownedBy many k q).length ≤ 16 := by
  unfold ownedBy; split
  · have := ownTo_length k q many.toNat; omega
  · simp
theorem ownedBy_out (many k q : Int) (h : q < 0 ∨ k ≤ q) : ownedBy many k q = [] := by
  unfold ownedBy
  split
  · rename_i h1
    rw [ownTo, List.map_eq_nil_iff, List.filter_eq_nil_iff]
    intro v _
    have := ownerF_rng (v : Int) k h1.2.2.1
    simp; omega
  · rfl

set_option maxRecDepth 100000 in
set_option maxHeartbeats 1000000 in
theorem specOwnedBy_any (w : World) (many k q : Int) (hm : In64 many) : Calls Try.prog 49 #[.int .i64 many, .int .i64 k, .int .i64 q] w (RetI w (ownedBy many k q)) := by
  by_cases h : 0 ≤ many ∧ many ≤ 16 ∧ 1 ≤ k ∧ k ≤ 6
  · rw [ownedBy, if_pos h]
    obtain ⟨h1, h2, h3, h4⟩ := h
    obtain ⟨n, rfl⟩ := Int.eq_ofNat_of_zero_le h1
    rw [Int.toNat_natCast]
    go_enter Try.func49, Try.ntmps49
    go_wp2_with fail
    go_loopw [7, 8] (fun v i wr => ∃ t : Nat, t ≤ n ∧ i = .int .i64 t ∧ Hid (wr.ownsRow w.heap.size 3 1 v (ownTo k q t).length (ints (ownTo k q t))) ∧ Hid (Below w.heap.size w wr)) (fun _ i _ => n - (intOf i).toNat)
    case atStart => exact ⟨0, Nat.zero_le _, rfl, Lib.hid (World.ownsRow_made (size := 1) w #[] 0 (Nat.le_refl _) (by decide) rfl), Lib.hid ((Below.refl _ _).alloc (Nat.le_refl _) _)⟩
    case round =>
      obtain ⟨t, ht, rfl, HO, HB⟩ := hrel
      have hlen := ownTo_length k q t
      by_cases hlt : t < n
      · have eo : ownerOf (t : Int) k = ownerF (t : Int) k := by rw [ownerOf, if_pos ⟨by omega, by omega, h3, h4⟩]
        have EO := Lib.hid eo; clear eo
        have HY := Lib.hid (ownTo_succ_yes k q t); have HN := Lib.hid (ownTo_succ_no k q t)
        generalize hT : ownTo k q t = T at *
        generalize hal : T.length = al at *
        have HAL := Lib.hid hal; have HT := Lib.hid hT; clear hal hT
        generalize hf : ownerF (t : Int) k = fv at *
        have HF := Lib.hid hf; clear hf
        by_cases hq : fv = q
        · subst hq
          go_wp2_with (first | (go_at_call 71; refine (l1In_any _ _ _ _).mono ?_; rintro e w' ⟨rfl, rfl⟩) | (go_at_call 79; refine (specOwnerOf_any _ _ _).mono ?_; rw [EO.out]; rintro e w' ⟨rfl, rfl⟩) | (at_builtin; refine wpList_push (W := w) rfl _ _ 23 3 rfl (.int .i64 0) 1 8 Try.underlying23 infoInt rfl (by decide) (by decide) #[.int .i64 (t : Int)] rfl (by simp [Value.oneCell']) w.heap.size _ _ _ HO.out rfl rfl (by omega) HB.out (Nat.le_refl _) HB.out.size ?_; intro v' w1 hown1 hbel1 hne1))
          go_roundw
          case rel =>
            refine ⟨t + 1, by omega, by go_num, Lib.hid ?_, Lib.hid hbel1⟩
            rw [HY.out (by simp), ints_append, List.length_append, HAL.out]; exact hown1
          case measure => simp [intOf]; omega
        · have hq' : (fv == q) = false := by simpa using hq
          go_wp2_with (first | (go_at_call 71; refine (l1In_any _ _ _ _).mono ?_; rintro e w' ⟨rfl, rfl⟩) | (go_at_call 79; refine (specOwnerOf_any _ _ _).mono ?_; rw [EO.out]; rintro e w' ⟨rfl, rfl⟩))
          go_roundw
          case rel => exact ⟨t + 1, by omega, by go_num, by rw [HN.out hq, HAL.out]; exact HO, HB⟩
          case measure => simp [intOf]; omega
      · obtain rfl : t = n := by omega
        go_wp2_with fail
        go_ret
        exact ⟨_, rfl, Ow.of_row HO.out, HB.out⟩
  · rw [ownedBy, if_neg h]
    go_enter Try.func49, Try.ntmps49
    go_wp2_with fail
    refine wp_loop_rounds 1 ?_
    rw [rounds_succ]
    by_cases h1 : 0 < many
    · by_cases h2 : many ≤ 16
      · have h3 : decide (1 ≤ k ∧ k ≤ 6) = false := by simp; omega
        clear h
        go_wp2_with (go_at_call 71; refine (l1In_any _ _ _ _).mono ?_; rintro e w' ⟨rfl, rfl⟩)
        go_ret
        exact ⟨_, rfl, Ow.nil _ _ _ _ _ _, (Below.refl _ _).alloc (Nat.le_refl _) _⟩
      · have h3 : decide (0 ≤ many ∧ many ≤ 16) = false := by simp; omega
        clear h
        go_wp2_with (go_at_call 71; refine (l1In_any _ _ _ _).mono ?_; rintro e w' ⟨rfl, rfl⟩)
        go_ret
        exact ⟨_, rfl, Ow.nil _ _ _ _ _ _, (Below.refl _ _).alloc (Nat.le_refl _) _⟩
    · clear h
      go_wp2_with fail
      go_ret
      exact ⟨_, rfl, Ow.nil _ _ _ _ _ _, (Below.refl _ _).alloc (Nat.le_refl _) _⟩

set_option maxRecDepth 100000 in
set_option maxHeartbeats 1000000 in
theorem implOwnedBy_any (w : World) (many k q : Int) : Calls Try.prog 48 #[.int .i64 many, .int .i64 k, .int .i64 q] w (RetI w (ownedBy many k q)) := by
  by_cases h : (0 ≤ many ∧ many ≤ 16 ∧ 1 ≤ k ∧ k ≤ 6) ∧ 0 ≤ q ∧ q < k
  · rw [ownedBy, if_pos h.1]
    obtain ⟨⟨h1, h2, h3, h4⟩, h5, h6⟩ := h
    obtain ⟨n, rfl⟩ := Int.eq_ofNat_of_zero_le h1
    rw [Int.toNat_natCast]
    have hd : decide (1 ≤ k ∧ k ≤ 6) = true := by simp; omega
    go_enter Try.func48, Try.ntmps48
    go_wp2_with (first | (go_at_call 77; refine (workersFit_any _ _).mono ?_; rintro e w' ⟨rfl, rfl⟩) | (go_at_call 78; refine (ownerTable_any _ (by omega) (by omega) _).mono ?_; rintro e w1 ⟨rfl, hb1⟩) | refine wpList_store_row rfl 85 (.tmp 7) (.tmp 31) rfl w1.heap.size (table k) rfl rfl 85 _ (heap_alloc_new _ _) (by kernel_rfl) rfl (table_one k) ?_)
    rw [World.setRow_alloc_new]
    have HB0 : Hid (Below w.heap.size w (w1.alloc (.cells (table k) 85))) := Lib.hid (hb1.alloc hb1.size _)
    have hcell : ∀ v : Nat, v < 16 → (w1.alloc (.cells (table k) 85)).cell? ⟨w1.heap.size, v, none⟩ = some (.int .i64 (ownerF (v : Int) k)) := fun v hv => by
      rw [World.cell?_alloc_at _ _ _ _ rfl]; exact table_get k v hv
    have HCELL := Lib.hid hcell; clear hcell
    have hsz : w1.heap.size < (w1.alloc (.cells (table k) 85)).heap.size := by simp
    have hB1 := hb1.size
    clear hb1
    generalize (w1.alloc (.cells (table k) 85)) = w2 at *
    generalize w1.heap.size = B at *
    go_loopw [8, 33] (fun v i wr => ∃ t : Nat, t ≤ n ∧ i = .int .i64 t ∧ Hid (wr.ownsRow w2.heap.size 3 1 v (ownTo k q t).length (ints (ownTo k q t))) ∧ Hid (Below w2.heap.size w2 wr)) (fun _ i _ => n - (intOf i).toNat)
    case atStart => exact ⟨0, Nat.zero_le _, rfl, Lib.hid (World.ownsRow_nil _ _ _ _), Lib.hid (Below.refl _ _)⟩
    case round =>
      obtain ⟨t, ht, rfl, HO, HB⟩ := hrel
      have hlen := ownTo_length k q t
      by_cases hlt : t < n
      · have hc1 := (HB.out.cell (p := ⟨B, t, none⟩) hsz).trans (HCELL.out t (by omega))
        have HY := Lib.hid (ownTo_succ_yes k q t); have HN := Lib.hid (ownTo_succ_no k q t)
        generalize hT : ownTo k q t = T at *
        generalize hal : T.length = al at *
        have HAL := Lib.hid hal; have HT := Lib.hid hT; clear hal hT
        generalize hf : ownerF (t : Int) k = fv at *
        have HF := Lib.hid hf; clear hf
        by_cases hq : fv = q
        · subst hq
          go_wp2_with (at_builtin; refine wpList_push (W := w2) rfl _ _ 23 3 rfl (.int .i64 0) 1 8 Try.underlying23 infoInt rfl (by decide) (by decide) #[.int .i64 (t : Int)] rfl (by simp [Value.oneCell']) w2.heap.size _ _ _ HO.out rfl rfl (by omega) HB.out (Nat.le_refl _) HB.out.size ?_; intro v' w1 hown1 hbel1 hne1)
          go_roundw
          case rel =>
            refine ⟨t + 1, by omega, by go_num, Lib.hid ?_, Lib.hid hbel1⟩
            rw [HY.out (by simp), ints_append, List.length_append, HAL.out]; exact hown1
          case measure => simp [intOf]; omega
        · have hq' : (fv == q) = false := by simpa using hq
          go_wp2_with fail
          go_roundw
          case rel => exact ⟨t + 1, by omega, by go_num, by rw [HN.out hq, HAL.out]; exact HO, HB⟩
          case measure => simp [intOf]; omega
      · obtain rfl : t = n := by omega
        go_wp2_with fail
        go_ret
        exact ⟨_, rfl, (Ow.of_row HO.out).mono HB0.out.size (Nat.le_refl _), HB0.out.tr HB.out⟩
  · have e : ownedBy many k q = [] := by
      by_cases h' : 0 ≤ many ∧ many ≤ 16 ∧ 1 ≤ k ∧ k ≤ 6
      · exact ownedBy_out many k q (by omega)
      · rw [ownedBy, if_neg h']
    rw [e]
    clear e
    by_cases h1 : many < 0
    · clear h
      go_enter Try.func48, Try.ntmps48
      go_wp2_with fail
      go_ret
      exact ⟨_, rfl, Ow.nil _ _ _ _ _ _, Below.refl _ _⟩
    · by_cases h2 : many > 16
      · clear h
        go_enter Try.func48, Try.ntmps48
        go_wp2_with fail
        go_ret
        exact ⟨_, rfl, Ow.nil _ _ _ _ _ _, Below.refl _ _⟩
      · by_cases h3 : 1 ≤ k ∧ k ≤ 6
        · have hd : decide (1 ≤ k ∧ k ≤ 6) = true := by simpa using h3
          by_cases h4 : q < 0
          · clear h
            go_enter Try.func48, Try.ntmps48
            go_wp2_with (go_at_call 77; refine (workersFit_any _ _).mono ?_; rintro e w' ⟨rfl, rfl⟩)
            go_ret
            exact ⟨_, rfl, Ow.nil _ _ _ _ _ _, Below.refl _ _⟩
          · have h5 : k ≤ q := by omega
            clear h
            go_enter Try.func48, Try.ntmps48
            go_wp2_with (go_at_call 77; refine (workersFit_any _ _).mono ?_; rintro e w' ⟨rfl, rfl⟩)
            go_ret
            exact ⟨_, rfl, Ow.nil _ _ _ _ _ _, Below.refl _ _⟩
        · have hd : decide (1 ≤ k ∧ k ≤ 6) = false := by simpa using h3
          clear h h3
          go_enter Try.func48, Try.ntmps48
          go_wp2_with (go_at_call 77; refine (workersFit_any _ _).mono ?_; rintro e w' ⟨rfl, rfl⟩)
          go_ret
          exact ⟨_, rfl, Ow.nil _ _ _ _ _ _, Below.refl _ _⟩
end Go.Proofs.Ytddhnngaopjjnaa
