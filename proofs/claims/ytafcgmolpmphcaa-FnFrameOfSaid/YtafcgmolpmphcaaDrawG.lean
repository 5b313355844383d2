/-
  What is drawn for the laws on frames: a record; bytes and a place; bytes.
-/
import Derived.Test.YtafcgmolpmphcaaDrawF
namespace Go.Proofs.Ytafcgmolpmphcaa
open Go.RowKit
set_option linter.unusedVariables false

set_option maxRecDepth 100000 in
set_option maxHeartbeats 1000000 in
theorem DrawFrameOf_any (W : World) (va : Value) (bs : List Int) (hr : Rd W 1 va bs.length (bys bs)) (hg : ∀ x ∈ bs, 0 ≤ x ∧ x ≤ 255) :
    Calls Try.prog 23 #[va] W fun e w' => ∃ v xs, e = .returned v ∧ Rd w' 1 v xs.length (ints xs) ∧ xs.length ≤ 2012 ∧ Below W.heap.size W w' := by
  have HO := Lib.hid (open_any W va bs W hr hg (Below.refl _ _)); clear hr hg
  go_enter Try.func23, Try.ntmps23
  go_wp2_with fail
  refine HO.out.mono ?_
  rintro e w1 ⟨sv, bs', rfl, hd, hb1, hs1⟩
  have HD := Lib.hid hd
  clear hd HO
  go_wp2_with fail
  refine (odd_any W sv bs' _ _ 9 _ HD.out (by omega) (by omega) (by omega)).mono ?_
  rintro e w2 ⟨t, rfl, ht, hd, hg⟩
  have hg2 := hg.size
  replace HD := Lib.hid hd; clear hd hg ht
  cases t
  · go_wp2_with fail
    refine (l20Bytes_any W sv bs' _ _ _ _ HD.out (by omega) (by omega) (by omega)).mono ?_
    rintro e w3 ⟨v, xs, rfl, ho, ⟨hl, -⟩, -, hd, hg⟩
    have hR := Rd.of_own ho
    have hb := hd.below
    clear ho hd hg
    go_wp2_with fail
    go_ret
    exact ⟨_, xs, rfl, hR, hl, hb⟩
  · go_wp2_with fail
    have HC : Hid (∀ j : Nat, j < 3 → ∃ z : Nat, (w2.alloc (.cells #[.int .i64 100, .int .i64 101, .int .i64 0] 3)).cell? ⟨w2.heap.size, j, none⟩ = some (.int .i64 (z : Int)) ∧ z ≤ 101) := Lib.hid (by
      intro j hj
      rw [World.cell?_alloc_at _ _ _ _ rfl]
      match j, hj with
      | 0, _ => exact ⟨100, rfl, by omega⟩
      | 1, _ => exact ⟨101, rfl, by omega⟩
      | 2, _ => exact ⟨0, rfl, by omega⟩)
    have HSZ : Hid ((w2.alloc (.cells #[.int .i64 100, .int .i64 101, .int .i64 0] 3)).heap.size = w2.heap.size + 1) := Lib.hid (by simp)
    replace HD := Lib.hid (HD.out.keep ((Below.refl _ _).alloc (Nat.le_refl _) (.cells #[.int .i64 100, .int .i64 101, .int .i64 0] 3)))
    generalize (w2.alloc (.cells #[.int .i64 100, .int .i64 101, .int .i64 0] 3)) = w3 at *
    refine (pick_any W sv _ _ _ _ _ HD.out (by omega) (by omega) (by omega)).mono ?_
    rintro e w4 ⟨c, rfl, c0, c1, c2, hd, hg⟩
    replace c1 := c1 (by omega)
    obtain ⟨j, rfl⟩ := Int.eq_ofNat_of_zero_le c0
    obtain ⟨z, hz, hzi⟩ := HC.out j (by omega)
    have hz' : w4.cell? ⟨w2.heap.size, j, none⟩ = some (.int .i64 (z : Int)) := by
      rw [World.cell?_of_block (hg.block w2.heap.size (by rw [HSZ.out]; omega) (by omega))]; exact hz
    have HB := Lib.hid hd.below
    clear hz HC HSZ hd hg c2 HD
    obtain ⟨i0, hi, hz0, hz1, hz2⟩ := info_parts infoInt
    have Hi := Lib.hid hi; have Hz0 := Lib.hid hz0; have Hz1 := Lib.hid hz1; have Hz2 := Lib.hid hz2; clear hi hz0 hz1 hz2
    have hw4 := HB.out.size
    go_wp2_with (at_make; refine wpList_make_full _ rfl _ _ 23 rfl w4.heap.size 3 i0 (.int .i64 0) 1 Try.underlying23 Hi.out Hz0.out Hz1.out _ _ _ _ z rfl rfl rfl rfl (by rw [Hz2.out]; omega) (by unfold maxLen; omega) (Nat.le_refl _) ?_; intro w7 hown7 hgrow7; have HOW := Lib.hid hown7; have HB7 := Lib.hid ((Below.refl w4.heap.size w4).grown hgrow7 (Nat.le_refl _) (by intro k hk; cases hk)); clear hown7 hgrow7)
    go_ret
    refine ⟨_, List.replicate z 0, rfl, ?_, by simp; omega, HB.out.tr HB7.out⟩
    have h7 := HOW.out
    rw [show (madeCells (Value.int .i64 0).cells (z * 1)).toList = ints (List.replicate z 0) from by
      rw [show (Value.int .i64 0).cells = #[.int .i64 0] from rfl, toList_madeCells_one]; simp [ints]] at h7
    rw [List.length_replicate]; exact Rd.of_own h7

set_option maxRecDepth 100000 in
theorem DrawScanFrames_any (W : World) (va : Value) (bs : List Int) (hr : Rd W 1 va bs.length (bys bs)) (hg : ∀ x ∈ bs, 0 ≤ x ∧ x ≤ 255) :
    Calls Try.prog 58 #[va] W fun e w' => ∃ v xs, e = .returned v ∧ Rd w' 1 v xs.length (ints xs) ∧ xs.length ≤ 2400 ∧ Below W.heap.size W w' := by
  have HO := Lib.hid (open_any W va bs W hr hg (Below.refl _ _)); clear hr hg
  go_enter Try.func58, Try.ntmps58
  go_wp2_with fail
  refine HO.out.mono ?_
  rintro e w1 ⟨sv, bs', rfl, hd, hb1, hs1⟩
  have HD := Lib.hid hd
  clear hd HO
  go_wp2_with fail
  refine (l20Frames_any W sv bs' _ _ _ HD.out (by omega)).mono ?_
  rintro e w3 ⟨v, xs, rfl, ho, hl, -, hd, hg⟩
  have hR := Rd.of_own ho
  have hb := hd.below
  clear ho hd hg
  go_wp2_with fail
  go_ret
  exact ⟨_, xs, rfl, hR, hl, hb⟩
end Go.Proofs.Ytafcgmolpmphcaa
