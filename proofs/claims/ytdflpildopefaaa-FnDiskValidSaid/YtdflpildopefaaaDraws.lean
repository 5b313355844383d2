/-
  What is drawn: lists of bytes, of numbers; numbers of workers.
-/
import Derived.Test.YtdflpildopefaaaDraw
namespace Go.Proofs.Ytdflpildopefaaa
open Go.RowKit

theorem Drw.keepB {W : World} {sv : Value} {bs : List Int} {r B : Nat} {lim : Int} {w w' : World} (h : Drw W sv bs r lim w) (hb : Below B w w') (hr : r < B) : Drw W sv bs r lim w' := by
  have := h.lo
  refine ⟨h.below.trans (hb.mono (by omega)), h.lo, ?_, h.rd, h.rng, h.len⟩
  obtain ⟨p, hp, h1⟩ := h.blk
  exact ⟨p, (hb.block r hr).trans hp, h1⟩

/-- A list of at most B ints was drawn, in new memory. -/
def DrewInts (W : World) (sv : Value) (bs : List Int) (r : Nat) (lim : Int) (B : Nat) (w : World) (e : Ending) (w' : World) : Prop :=
  ∃ v xs, e = .returned v ∧ w'.ownsRow w.heap.size 3 1 v xs.length (ints xs) ∧ (xs.length ≤ B ∧ (xs.length ≤ 12 ∨ xs.length = 2001)) ∧ WfIntS xs ∧ Drw W sv bs r lim w' ∧ Chg r (r + 1) w w'

theorem wf_snoc {xs : List Int} (h : WfIntS xs) {z : Int} (hz : In64 z) : WfIntS (xs ++ [z]) := by
  intro x hx
  rcases List.mem_append.1 hx with h1 | h1
  · exact h x h1
  · simp at h1; subst h1; exact hz
theorem wf_nil : WfIntS [] := fun x hx => by cases hx
theorem wf_replicate (n : Nat) : WfIntS (List.replicate n 0) := fun x hx => by
  rw [List.eq_of_mem_replicate hx]; exact ⟨by decide, by decide⟩

set_option maxRecDepth 100000 in
set_option maxHeartbeats 4000000 in
theorem l20Bytes_any (W : World) (sv : Value) (bs : List Int) (r : Nat) (lim n : Int) (w : World) (h : Drw W sv bs r lim w) (hl : lim ≤ 900000000) (hn0 : -1000000000 ≤ n) (hn : n ≤ 1000000000) :
    Calls Try.prog 79 #[.pointer (some ⟨r, 0, none⟩), .int .i64 n] w (DrewInts W sv bs r (lim + 60) 2012 w) := by
  have hrlt := h.lt
  have HD := Lib.hid (h.keep ((Below.refl _ _).alloc (Nat.le_refl _) (.cells #[] 3)))
  have HG : Hid (Chg r (r + 1) w (w.alloc (.cells #[] 3))) := Lib.hid ((Chg.refl _ _ _).alloc _)
  have HO : Hid ((w.alloc (.cells #[] 3)).ownsRow w.heap.size 3 1 (.slice (some ⟨w.heap.size, 0, none⟩) 0 0) 0 []) := Lib.hid (World.ownsRow_made (size := 1) w #[] 0 (Nat.le_refl _) (by decide) rfl)
  clear h
  go_enter Try.func79, Try.ntmps79
  go_wp2_with fail
  refine (pick_any W sv _ _ _ _ _ HD.out (by omega) (by omega) (by omega)).mono ?_
  rintro e w1 ⟨c, rfl, c0, c1, c2, hd, hg⟩
  replace HD := Lib.hid hd
  replace HO := Lib.hid (ownsRow_chg HO.out hg (by omega))
  replace HG := Lib.hid (HG.out.trans hg)
  replace c1 := c1 (by omega)
  clear hd hg c2
  go_wp2_with fail
  go_loopw [5, 6] (fun v i wr => ∃ (k : Nat) (xs : List Int), k ≤ 11 ∧ i = .int .i64 k ∧ xs.length + k ≤ 11 ∧ Hid (WfIntS xs) ∧ Hid (wr.ownsRow w.heap.size 3 1 v xs.length (ints xs)) ∧ Hid (Drw W sv bs r (lim + 49 - 4 * (k : Int)) wr) ∧ Hid (Chg r (r + 1) w wr)) (fun _ i _ => (intOf i).toNat)
  case atStart =>
    obtain ⟨k, rfl⟩ := Int.eq_ofNat_of_zero_le c0
    exact ⟨k, [], by omega, rfl, by simp; omega, Lib.hid wf_nil, HO, Lib.hid (HD.out.mono (by omega)), HG⟩
  case round =>
    clear HD HG HO c0 c1
    obtain ⟨k, xs, hk, rfl, hxl, HW, HO, HD, HG⟩ := hrel
    have HL := Lib.hid hxl; clear hxl
    have hxl2 : xs.length ≤ 11 := by have := HL.out; omega
    generalize hal : xs.length = al at *
    have HAL := Lib.hid hal; clear hal
    by_cases hk0 : 0 < k
    · go_wp2_with fail
      refine (pick_any W sv _ _ _ _ _ HD.out (by omega) (by omega) (by omega)).mono ?_
      rintro e w2 ⟨a, rfl, a0, a1, a2, hd, hg⟩
      replace HD := Lib.hid hd
      replace HO := Lib.hid (ownsRow_chg HO.out hg (by omega))
      replace HG := Lib.hid (HG.out.trans hg)
      replace a1 := a1 (by omega)
      clear hd hg a2
      go_wp2_with fail
      refine (pick_any W sv _ _ _ _ _ HD.out (by omega) (by omega) (by omega)).mono ?_
      rintro e w3 ⟨b, rfl, b0, b1, b2, hd, hg⟩
      replace HD := Lib.hid hd
      replace HO := Lib.hid (ownsRow_chg HO.out hg (by omega))
      replace HG := Lib.hid (HG.out.trans hg)
      replace b1 := b1 (by omega)
      clear hd hg b2
      go_wp2_with fail
      refine (pick_any W sv _ _ _ _ _ HD.out (by omega) (by omega) (by omega)).mono ?_
      rintro e w4 ⟨d, rfl, d0, d1, d2, hd, hg⟩
      replace HD := Lib.hid hd
      replace HO := Lib.hid (ownsRow_chg HO.out hg (by omega))
      replace HG := Lib.hid (HG.out.trans hg)
      replace d1 := d1 (by omega)
      clear hd hg d2
      go_wp2_with fail
      have hw4 := HG.out.size
      have HC : Hid (∀ j : Nat, j < 3 → ∃ z : Int, (w4.alloc (.cells #[.int .i64 a, .int .i64 b, .int .i64 (127 + d)] 3)).cell? ⟨w4.heap.size, j, none⟩ = some (.int .i64 z) ∧ 0 ≤ z ∧ z ≤ 255) := Lib.hid (by
        intro j hj
        rw [World.cell?_alloc_at _ _ _ _ rfl]
        match j, hj with
        | 0, _ => exact ⟨a, rfl, by omega, by omega⟩
        | 1, _ => exact ⟨b, rfl, by omega, by omega⟩
        | 2, _ => exact ⟨127 + d, rfl, by omega, by omega⟩)
      have HSZ : Hid ((w4.alloc (.cells #[.int .i64 a, .int .i64 b, .int .i64 (127 + d)] 3)).heap.size = w4.heap.size + 1) := Lib.hid (by simp)
      replace HD := Lib.hid (HD.out.keep ((Below.refl _ _).alloc (Nat.le_refl _) (.cells #[.int .i64 a, .int .i64 b, .int .i64 (127 + d)] 3)))
      replace HO := Lib.hid (HO.out.alloc (.cells #[.int .i64 a, .int .i64 b, .int .i64 (127 + d)] 3))
      replace HG := Lib.hid (HG.out.alloc (.cells #[.int .i64 a, .int .i64 b, .int .i64 (127 + d)] 3))
      generalize (w4.alloc (.cells #[.int .i64 a, .int .i64 b, .int .i64 (127 + d)] 3)) = w5 at *
      clear a0 a1 b0 b1 d0 d1
      refine (pick_any W sv _ r _ _ _ HD.out (by omega) (by omega) (by omega)).mono ?_
      rintro e w6 ⟨c, rfl, c0, c1, c2, hd, hg⟩
      obtain ⟨j, rfl⟩ := Int.eq_ofNat_of_zero_le c0
      obtain ⟨z, hz, hz0, hz1⟩ := HC.out j (by omega)
      have hz' : w6.cell? ⟨w4.heap.size, j, none⟩ = some (.int .i64 z) := by
        rw [World.cell?_of_block (hg.block w4.heap.size (by rw [HSZ.out]; omega) (by omega))]; exact hz
      clear hz
      replace HD := Lib.hid hd
      replace HO := Lib.hid (ownsRow_chg HO.out hg (by omega))
      replace HG := Lib.hid (HG.out.trans hg)
      have hw6 := HG.out.size
      clear hd hg c2 HC HSZ
      go_wp2_with (at_builtin; refine wpList_pushB rfl _ _ 23 3 rfl (.int .i64 0) 1 8 Try.underlying23 infoInt rfl (by decide) (by decide) #[.int .i64 z] rfl (by simp [Value.oneCell']) w.heap.size _ _ _ HO.out rfl rfl (by omega) hw6 ?_; intro v' w7 hown7 hbel7 hne7)
      go_roundw
      case rel =>
        refine ⟨k - 1, xs ++ [z], by omega, by go_num, by have := HL.out; have := HAL.out; simp; omega, Lib.hid (wf_snoc HW.out ⟨by omega, by omega⟩), Lib.hid ?_, Lib.hid ((HD.out.keepB hbel7 (by omega)).mono (by omega)), Lib.hid (HG.out.then hbel7)⟩
        rw [ints_append, List.length_append, HAL.out]; exact hown7
      case measure => simp [intOf]; omega
    · have hk1 : k = 0 := by omega
      subst hk1
      go_wp2_with fail
      refine (odd_any W sv bs r _ n _ HD.out (by omega) hn0 hn).mono ?_
      rintro e w2 ⟨b, rfl, hb, hd, hg⟩
      replace HD := Lib.hid hd
      replace HO := Lib.hid (ownsRow_chg HO.out hg (by omega))
      replace HG := Lib.hid (HG.out.trans hg)
      clear hd hg hb
      cases b
      · go_wp2_with fail
        go_ret
        exact ⟨_, xs, rfl, by rw [HAL.out]; exact HO.out, by rw [HAL.out]; omega, HW.out, HD.out.mono (by omega), HG.out⟩
      · go_wp2_with fail
        refine (pick_any W sv _ _ _ _ _ HD.out (by omega) (by omega) (by omega)).mono ?_
        rintro e w3 ⟨c, rfl, c0, c1, c2, hd, hg⟩
        replace HD := Lib.hid hd
        replace HO := Lib.hid (ownsRow_chg HO.out hg (by omega))
        replace HG := Lib.hid (HG.out.trans hg)
        replace c1 := c1 (by omega)
        clear hd hg c2
        by_cases hc : c = 0
        · subst hc
          go_wp2_with fail
          have hw3 := HG.out.size
          have HC : Hid (∀ j : Nat, j < 2 → ∃ z : Int, (w3.alloc (.cells #[.int .i64 (-1), .int .i64 256] 3)).cell? ⟨w3.heap.size, j, none⟩ = some (.int .i64 z) ∧ -1 ≤ z ∧ z ≤ 256) := Lib.hid (by
            intro j hj
            rw [World.cell?_alloc_at _ _ _ _ rfl]
            match j, hj with
            | 0, _ => exact ⟨-1, rfl, by omega, by omega⟩
            | 1, _ => exact ⟨256, rfl, by omega, by omega⟩)
          have HSZ : Hid ((w3.alloc (.cells #[.int .i64 (-1), .int .i64 256] 3)).heap.size = w3.heap.size + 1) := Lib.hid (by simp)
          replace HD := Lib.hid (HD.out.keep ((Below.refl _ _).alloc (Nat.le_refl _) (.cells #[.int .i64 (-1), .int .i64 256] 3)))
          replace HO := Lib.hid (HO.out.alloc (.cells #[.int .i64 (-1), .int .i64 256] 3))
          replace HG := Lib.hid (HG.out.alloc (.cells #[.int .i64 (-1), .int .i64 256] 3))
          generalize (w3.alloc (.cells #[.int .i64 (-1), .int .i64 256] 3)) = w5 at *
          refine (pick_any W sv _ r _ _ _ HD.out (by omega) (by omega) (by omega)).mono ?_
          rintro e w6 ⟨c, rfl, c0, c1, c2, hd, hg⟩
          obtain ⟨j, rfl⟩ := Int.eq_ofNat_of_zero_le c0
          obtain ⟨z, hz, hz0, hz1⟩ := HC.out j (by omega)
          have hz' : w6.cell? ⟨w3.heap.size, j, none⟩ = some (.int .i64 z) := by
            rw [World.cell?_of_block (hg.block w3.heap.size (by rw [HSZ.out]; omega) (by omega))]; exact hz
          clear hz
          replace HD := Lib.hid hd
          replace HO := Lib.hid (ownsRow_chg HO.out hg (by omega))
          replace HG := Lib.hid (HG.out.trans hg)
          have hw6 := HG.out.size
          clear hd hg c2 HC HSZ
          go_wp2_with (at_builtin; refine wpList_pushB rfl _ _ 23 3 rfl (.int .i64 0) 1 8 Try.underlying23 infoInt rfl (by decide) (by decide) #[.int .i64 z] rfl (by simp [Value.oneCell']) w.heap.size _ _ _ HO.out rfl rfl (by omega) hw6 ?_; intro v' w7 hown7 hbel7 hne7)
          go_ret
          refine ⟨_, xs ++ [z], rfl, ?_, by have := HAL.out; simp; omega, wf_snoc HW.out ⟨by omega, by omega⟩, (HD.out.keepB hbel7 (by omega)).mono (by omega), HG.out.then hbel7⟩
          rw [ints_append, List.length_append, HAL.out]; exact hown7
        · have hc' : (c == 0) = false := by simpa using hc
          have hw3 := HG.out.size
          obtain ⟨i0, hi, hz0, hz1, hz2⟩ := info_parts infoInt
          have Hi := Lib.hid hi; have Hz0 := Lib.hid hz0; have Hz1 := Lib.hid hz1; have Hz2 := Lib.hid hz2; clear hi hz0 hz1 hz2 hc
          go_wp2_with (at_make; refine wpList_make_full _ rfl _ _ 23 rfl w.heap.size 3 i0 (.int .i64 0) 1 Try.underlying23 Hi.out Hz0.out Hz1.out _ _ _ _ 2001 rfl rfl rfl rfl (by rw [Hz2.out]; omega) (by unfold maxLen; omega) hw3 ?_; intro w7 hown7 hgrow7; have HOW := Lib.hid hown7; clear hown7)
          go_ret
          have hb7 : Below w3.heap.size w3 w7 := (Below.refl _ _).grown hgrow7 (Nat.le_refl _) (by intro k hk; cases hk)
          refine ⟨_, List.replicate 2001 0, rfl, ?_, by simp, wf_replicate _, (HD.out.keep hb7).mono (by omega), HG.out.then (hb7.mono hw3)⟩
          have h7 := HOW.out
          rw [show (madeCells (Value.int .i64 0).cells (2001 * 1)).toList = ints (List.replicate 2001 0) from by
            rw [show (Value.int .i64 0).cells = #[.int .i64 0] from rfl, toList_madeCells_one]; simp [ints]] at h7
          rw [List.length_replicate]; exact h7



/-- What a law has drawn: a list of at most B ints, in new memory. -/
def LawInts (W : World) (B : Nat) (e : Ending) (w' : World) : Prop :=
  ∃ v xs, e = .returned v ∧ w'.ownsRow W.heap.size 3 1 v xs.length (ints xs) ∧ (xs.length ≤ B ∧ (xs.length ≤ 12 ∨ xs.length = 2001)) ∧ WfIntS xs ∧ Below W.heap.size W w'
end Go.Proofs.Ytdflpildopefaaa
