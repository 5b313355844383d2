/-
  What is drawn: lists of bytes, of numbers; numbers of workers.
-/
import Derived.Test.YtgdggkhdollieaaDraw
namespace Go.Proofs.Ytgdggkhdollieaa
open Go.RowKit

theorem Drw.keepB {W : World} {sv : Value} {bs : List Int} {r B : Nat} {lim : Int} {w w' : World} (h : Drw W sv bs r lim w) (hb : Below B w w') (hr : r < B) : Drw W sv bs r lim w' := by
  have := h.lo
  refine ⟨h.below.trans (hb.mono (by omega)), h.lo, ?_, h.rd, h.rng, h.len⟩
  obtain ⟨p, hp, h1⟩ := h.blk
  exact ⟨p, (hb.block r hr).trans hp, h1⟩

/-- A list of at most B ints was drawn, in new memory. -/
def DrewInts (W : World) (sv : Value) (bs : List Int) (r : Nat) (lim : Int) (B : Nat) (w : World) (e : Ending) (w' : World) : Prop :=
  ∃ v xs, e = .returned v ∧ w'.ownsRow w.heap.size 3 1 v xs.length (ints xs) ∧ (xs.length ≤ B ∧ (xs.length ≤ 12 ∨ xs.length = 2001)) ∧ WfIntS xs ∧ Drw W sv bs r lim w' ∧ Chg r (r + 1) w w'

theorem wf_snoc {xs : List Int} (h : WfIntS xs) {z : Int} (hz : In64 z) : WfIntS (xs ++ [z]) := by
  intro x hx
  rcases List.mem_append.1 hx with h1 | h1
  · exact h x h1
  · simp at h1; subst h1; exact hz
theorem wf_nil : WfIntS [] := fun x hx => by cases hx
theorem wf_replicate (n : Nat) : WfIntS (List.replicate n 0) := fun x hx => by
  rw [List.eq_of_mem_replicate hx]; exact ⟨by decide, by decide⟩


set_option maxRecDepth 100000 in
set_option maxHeartbeats 4000000 in
theorem l20Ints_any (W : World) (sv : Value) (bs : List Int) (r : Nat) (lim top : Int) (w : World) (h : Drw W sv bs r lim w) (hl : lim ≤ 900000000) (ht0 : 1 ≤ top) (ht : top ≤ 1000000000) :
    Calls Try.prog 50 #[.pointer (some ⟨r, 0, none⟩), .int .i64 top] w (DrewInts W sv bs r (lim + 20) 8 w) := by
  have hrlt := h.lt
  have HD := Lib.hid (h.keep ((Below.refl _ _).alloc (Nat.le_refl _) (.cells #[] 3)))
  have HG : Hid (Chg r (r + 1) w (w.alloc (.cells #[] 3))) := Lib.hid ((Chg.refl _ _ _).alloc _)
  have HO : Hid ((w.alloc (.cells #[] 3)).ownsRow w.heap.size 3 1 (.slice (some ⟨w.heap.size, 0, none⟩) 0 0) 0 []) := Lib.hid (World.ownsRow_made (size := 1) w #[] 0 (Nat.le_refl _) (by decide) rfl)
  clear h
  go_enter Try.func50, Try.ntmps50
  go_wp2_with fail
  refine (pick_any W sv _ _ _ _ _ HD.out (by omega) (by omega) (by omega)).mono ?_
  rintro e w1 ⟨c, rfl, c0, c1, c2, hd, hg⟩
  replace HD := Lib.hid hd
  replace HO := Lib.hid (ownsRow_chg HO.out hg (by omega))
  replace HG := Lib.hid (HG.out.trans hg)
  replace c1 := c1 (by omega)
  clear hd hg c2
  go_wp2_with fail
  go_loopw [5, 6] (fun v i wr => ∃ (k : Nat) (xs : List Int), k ≤ 8 ∧ i = .int .i64 k ∧ xs.length + k ≤ 8 ∧ Hid (WfIntS xs) ∧ Hid (wr.ownsRow w.heap.size 3 1 v xs.length (ints xs)) ∧ Hid (Drw W sv bs r (lim + 17 - 2 * (k : Int)) wr) ∧ Hid (Chg r (r + 1) w wr)) (fun _ i _ => (intOf i).toNat)
  case atStart =>
    obtain ⟨k, rfl⟩ := Int.eq_ofNat_of_zero_le c0
    exact ⟨k, [], by omega, rfl, by simp; omega, Lib.hid wf_nil, HO, Lib.hid (HD.out.mono (by omega)), HG⟩
  case round =>
    clear HD HG HO c0 c1
    obtain ⟨k, xs, hk, rfl, hxl, HW, HO, HD, HG⟩ := hrel
    have HL := Lib.hid hxl; clear hxl
    have hxl2 : xs.length ≤ 8 := by have := HL.out; omega
    generalize hal : xs.length = al at *
    have HAL := Lib.hid hal; clear hal
    by_cases hk0 : 0 < k
    · go_wp2_with fail
      refine (pick_any W sv _ _ _ _ _ HD.out (by omega) (by omega) (by omega)).mono ?_
      rintro e w2 ⟨a, rfl, a0, a1, a2, hd, hg⟩
      replace HD := Lib.hid hd
      replace HO := Lib.hid (ownsRow_chg HO.out hg (by omega))
      replace HG := Lib.hid (HG.out.trans hg)
      replace a1 := a1 (by omega)
      clear hd hg a2
      go_wp2_with fail
      refine (pick_any W sv _ _ _ _ _ HD.out (by omega) (by omega) (by omega)).mono ?_
      rintro e w3 ⟨b, rfl, b0, b1, b2, hd, hg⟩
      replace HD := Lib.hid hd
      replace HO := Lib.hid (ownsRow_chg HO.out hg (by omega))
      replace HG := Lib.hid (HG.out.trans hg)
      replace b1 := b1 (by omega)
      clear hd hg b2
      have hw3 := HG.out.size
      go_wp2_with (at_builtin; refine wpList_pushB rfl _ _ 23 3 rfl (.int .i64 0) 1 8 Try.underlying23 infoInt rfl (by decide) (by decide) #[.int .i64 (a - b / 8)] rfl (by simp [Value.oneCell']) w.heap.size _ _ _ HO.out rfl rfl (by omega) hw3 ?_; intro v' w7 hown7 hbel7 hne7)
      go_roundw
      case rel =>
        refine ⟨k - 1, xs ++ [a - b / 8], by omega, by go_num, by have := HL.out; have := HAL.out; simp; omega, Lib.hid (wf_snoc HW.out ⟨by omega, by omega⟩), Lib.hid ?_, Lib.hid ((HD.out.keepB hbel7 (by omega)).mono (by omega)), Lib.hid (HG.out.then hbel7)⟩
        rw [ints_append, List.length_append, HAL.out]; exact hown7
      case measure => simp [intOf]; omega
    · have hk1 : k = 0 := by omega
      subst hk1
      go_wp2_with fail
      go_ret
      exact ⟨_, xs, rfl, by rw [HAL.out]; exact HO.out, by rw [HAL.out]; omega, HW.out, HD.out.mono (by omega), HG.out⟩


/-- What a law has drawn: a list of at most B ints, in new memory. -/
def LawInts (W : World) (B : Nat) (e : Ending) (w' : World) : Prop :=
  ∃ v xs, e = .returned v ∧ w'.ownsRow W.heap.size 3 1 v xs.length (ints xs) ∧ (xs.length ≤ B ∧ (xs.length ≤ 12 ∨ xs.length = 2001)) ∧ WfIntS xs ∧ Below W.heap.size W w'
set_option maxRecDepth 100000 in
theorem DrawManyAtLeast_any (W : World) (va : Value) (bs : List Int) (hr : Rd W 1 va bs.length (bys bs)) (hg : ∀ x ∈ bs, 0 ≤ x ∧ x ≤ 255) :
    Calls Try.prog 12 #[va] W (LawInts W 8) := by
  have HO := Lib.hid (open_any W va bs W hr hg (Below.refl _ _)); clear hr hg
  go_enter Try.func12, Try.ntmps12
  go_wp2_with fail
  refine HO.out.mono ?_
  rintro e w1 ⟨sv, bs', rfl, hd, hb1, hs1⟩
  have HD := Lib.hid hd; clear hd HO
  go_wp2_with fail
  refine (l20Ints_any W sv bs' _ _ _ _ HD.out (by omega) (by omega) (by omega)).mono ?_
  rintro e w2 ⟨v, xs, rfl, hown, hlen, hwf, hd2, hg2⟩
  have hb2 := hd2.below
  clear hd2 hg2
  go_wp2_with fail
  go_ret
  exact ⟨v, xs, rfl, by
    refine ⟨hown.1, hown.2.imp id ?_⟩
    rintro ⟨g, cap, cur, h1, h2, h3⟩
    exact ⟨g, cap, cur, h1, by have := hb1.size; omega, h3⟩, hlen, hwf, hb2⟩
end Go.Proofs.Ytgdggkhdollieaa
