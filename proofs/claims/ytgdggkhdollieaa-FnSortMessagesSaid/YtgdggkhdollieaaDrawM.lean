/-
  What is drawn: messages.
-/
import Derived.Test.YtgdggkhdollieaaDraws
import Derived.Test.YtgdggkhdollieaaTri
namespace Go.Proofs.Ytgdggkhdollieaa
open Go.RowKit
set_option linter.unusedVariables false

/-- Messages to the vertices below 'many'. -/
def MsgsOk (many : Int) (ys : List Tri) : Prop := ys.length ≤ 8 ∧ ∀ y ∈ ys, (0 ≤ y.1 ∧ y.1 < many) ∧ (0 ≤ y.2.1 ∧ y.2.1 < 9) ∧ (0 ≤ y.2.2 ∧ y.2.2 < many)
/-- Messages were drawn, in new memory. -/
def DrewMsgs (W : World) (sv : Value) (bs : List Int) (r : Nat) (lim many : Int) (w : World) (e : Ending) (w' : World) : Prop :=
  ∃ v ys, e = .returned v ∧ w'.ownsRow w.heap.size 33 3 v ys.length (tris ys) ∧ MsgsOk many ys ∧ Drw W sv bs r lim w' ∧ Chg r (r + 1) w w'
theorem msgs_snoc {many : Int} {ys : List Tri} (h : ∀ y ∈ ys, (0 ≤ y.1 ∧ y.1 < many) ∧ (0 ≤ y.2.1 ∧ y.2.1 < 9) ∧ (0 ≤ y.2.2 ∧ y.2.2 < many)) {a b c : Int} (ha : 0 ≤ a ∧ a < many) (hb : 0 ≤ b ∧ b < 9) (hc : 0 ≤ c ∧ c < many) :
    ∀ y ∈ ys ++ [(a, b, c)], (0 ≤ y.1 ∧ y.1 < many) ∧ (0 ≤ y.2.1 ∧ y.2.1 < 9) ∧ (0 ≤ y.2.2 ∧ y.2.2 < many) := by
  intro y hy
  rcases List.mem_append.1 hy with h1 | h1
  · exact h y h1
  · simp at h1; subst h1; exact ⟨ha, hb, hc⟩

set_option maxRecDepth 100000 in
set_option maxHeartbeats 4000000 in
theorem l20Messages_any (W : World) (sv : Value) (bs : List Int) (r : Nat) (lim many : Int) (w : World) (h : Drw W sv bs r lim w) (hl : lim ≤ 900000000) (hm0 : 1 ≤ many) (hm : many ≤ 1000000000) :
    Calls Try.prog 56 #[.pointer (some ⟨r, 0, none⟩), .int .i64 many] w (DrewMsgs W sv bs r (lim + 40) many w) := by
  have hrlt := h.lt
  have HD := Lib.hid (h.keep ((Below.refl _ _).alloc (Nat.le_refl _) (.cells #[] 33)))
  have HG : Hid (Chg r (r + 1) w (w.alloc (.cells #[] 33))) := Lib.hid ((Chg.refl _ _ _).alloc _)
  have HO : Hid ((w.alloc (.cells #[] 33)).ownsRow w.heap.size 33 3 (.slice (some ⟨w.heap.size, 0, none⟩) 0 0) 0 []) := Lib.hid (World.ownsRow_made (size := 3) w #[] 0 (Nat.le_refl _) (by decide) rfl)
  clear h
  go_enter Try.func56, Try.ntmps56
  go_wp2_with fail
  refine (pick_any W sv _ _ _ _ _ HD.out (by omega) (by omega) (by omega)).mono ?_
  rintro e w1 ⟨c, rfl, c0, c1, c2, hd, hg⟩
  replace HD := Lib.hid hd
  replace HO := Lib.hid (ownsRow_chg HO.out hg (by omega))
  replace HG := Lib.hid (HG.out.trans hg)
  replace c1 := c1 (by omega)
  clear hd hg c2
  have hmany : decide (many > 0) = true := by simp; omega
  go_wp2_with fail
  go_loopw [5, 6] (fun v i wr => ∃ (k : Nat) (ys : List Tri), k ≤ 8 ∧ i = .int .i64 k ∧ ys.length + k ≤ 8 ∧ Hid (∀ y ∈ ys, (0 ≤ y.1 ∧ y.1 < many) ∧ (0 ≤ y.2.1 ∧ y.2.1 < 9) ∧ (0 ≤ y.2.2 ∧ y.2.2 < many)) ∧ Hid (wr.ownsRow w.heap.size 33 3 v ys.length (tris ys)) ∧ Hid (Drw W sv bs r (lim + 33 - 4 * (k : Int)) wr) ∧ Hid (Chg r (r + 1) w wr)) (fun _ i _ => (intOf i).toNat)
  case atStart =>
    obtain ⟨k, rfl⟩ := Int.eq_ofNat_of_zero_le c0
    exact ⟨k, [], by omega, rfl, by simp; omega, Lib.hid (fun y hy => by cases hy), HO, Lib.hid (HD.out.mono (by omega)), HG⟩
  case round =>
    clear HD HG HO c0 c1
    obtain ⟨k, ys, hk, rfl, hxl, HW, HO, HD, HG⟩ := hrel
    have HL := Lib.hid hxl; clear hxl
    have hxl2 : ys.length ≤ 8 := by have := HL.out; omega
    generalize hal : ys.length = al at *
    have HAL := Lib.hid hal; clear hal
    by_cases hk0 : 0 < k
    · go_wp2_with fail
      refine (pick_any W sv _ _ _ _ _ HD.out (by omega) (by omega) (by omega)).mono ?_
      rintro e w2 ⟨a, rfl, a0, a1, a2, hd, hg⟩
      replace HD := Lib.hid hd
      replace HO := Lib.hid (ownsRow_chg HO.out hg (by omega))
      replace HG := Lib.hid (HG.out.trans hg)
      replace a1 := a1 (by omega)
      clear hd hg a2
      go_wp2_with fail
      refine (pick_any W sv _ _ _ _ _ HD.out (by omega) (by omega) (by omega)).mono ?_
      rintro e w3 ⟨b, rfl, b0, b1, b2, hd, hg⟩
      replace HD := Lib.hid hd
      replace HO := Lib.hid (ownsRow_chg HO.out hg (by omega))
      replace HG := Lib.hid (HG.out.trans hg)
      replace b1 := b1 (by omega)
      clear hd hg b2
      go_wp2_with fail
      refine (pick_any W sv _ _ _ _ _ HD.out (by omega) (by omega) (by omega)).mono ?_
      rintro e w4 ⟨d, rfl, d0, d1, d2, hd, hg⟩
      replace HD := Lib.hid hd
      replace HO := Lib.hid (ownsRow_chg HO.out hg (by omega))
      replace HG := Lib.hid (HG.out.trans hg)
      replace d1 := d1 (by omega)
      clear hd hg d2
      have hw4 := HG.out.size
      go_wp2_with (at_builtin; refine wpList_pushB rfl _ _ 28 33 rfl (.agg #[.int .i64 0, .int .i64 0, .int .i64 0]) 3 24 Try.underlying28 infoMessage rfl (by decide) (by decide) #[.int .i64 a, .int .i64 b, .int .i64 d] rfl (by simp [Value.oneCell']) w.heap.size _ _ _ HO.out rfl rfl (by omega) hw4 ?_; intro v' w7 hown7 hbel7 hne7; have HO7 := Lib.hid hown7; have HB7 := Lib.hid hbel7; clear hown7 hbel7 hne7)
      go_roundw
      case rel =>
        refine ⟨k - 1, ys ++ [(a, b, d)], by omega, by go_num, by have := HL.out; have := HAL.out; simp; omega, Lib.hid (msgs_snoc HW.out ⟨by omega, by omega⟩ ⟨by omega, by omega⟩ ⟨by omega, by omega⟩), Lib.hid ?_, Lib.hid ((HD.out.keepB HB7.out (by omega)).mono (by omega)), Lib.hid (HG.out.then HB7.out)⟩
        rw [tris_append, List.length_append, HAL.out]; exact HO7.out
      case measure => simp [intOf]; omega
    · have hk1 : k = 0 := by omega
      subst hk1
      go_wp2_with fail
      go_ret
      exact ⟨_, ys, rfl, by rw [HAL.out]; exact HO.out, ⟨by rw [HAL.out]; omega, HW.out⟩, HD.out.mono (by omega), HG.out⟩


theorem wfT_of_ok {many : Int} {ys : List Tri} (h : MsgsOk many ys) (hm : many ≤ 1000000000) : WfTriS ys := fun y hy => by
  have := h.2 y hy
  exact ⟨by unfold In64; omega, by unfold In64; omega, by unfold In64; omega⟩
theorem wfT_replicate (n : Nat) : WfTriS (List.replicate n triZ) := fun y hy => by
  rw [(List.mem_replicate.1 hy).2]
  exact ⟨by unfold In64 triZ; decide, by unfold In64 triZ; decide, by unfold In64 triZ; decide⟩
set_option maxRecDepth 100000 in
set_option maxHeartbeats 4000000 in
theorem DrawSortMessages_any (W : World) (va : Value) (bs : List Int) (hr : Rd W 1 va bs.length (bys bs)) (hg : ∀ x ∈ bs, 0 ≤ x ∧ x ≤ 255) :
    Calls Try.prog 16 #[va] W fun e w' => ∃ v ys, e = .returned v ∧ Rd w' 3 v ys.length (tris ys) ∧ ys.length ≤ 2001 ∧ WfTriS ys ∧ Below W.heap.size W w' := by
  have HO := Lib.hid (open_any W va bs W hr hg (Below.refl _ _)); clear hr hg
  go_enter Try.func16, Try.ntmps16
  go_wp2_with fail
  refine HO.out.mono ?_
  rintro e w1 ⟨sv, bs', rfl, hd, hb1, hs1⟩
  have HD := Lib.hid hd
  have HG : Hid (Chg W.heap.size (W.heap.size + 1) w1 w1) := Lib.hid (Chg.refl _ _ _)
  clear hd HO
  go_wp2_with fail
  refine (odd_any W sv bs' _ _ 24 _ HD.out (by omega) (by omega) (by omega)).mono ?_
  rintro e w2 ⟨t, rfl, ht, hd, hg⟩
  replace HD := Lib.hid hd
  have hz2 := HG.out.size
  replace HG := Lib.hid (HG.out.trans hg)
  clear hd hg ht
  cases t
  · go_wp2_with fail
    refine (pick_any W sv _ _ _ _ _ HD.out (by omega) (by omega) (by omega)).mono ?_
    rintro e w3 ⟨c, rfl, c0, c1, c2, hd, hg⟩
    replace HD := Lib.hid hd
    replace HG := Lib.hid (HG.out.trans hg)
    replace c1 := c1 (by omega)
    clear hd hg c2
    go_wp2_with fail
    refine (l20Messages_any W sv bs' _ _ _ _ HD.out (by omega) (by omega) (by omega)).mono ?_
    rintro e w4 ⟨v, ys, rfl, ho, hok, hd2, hg2⟩
    replace HD := Lib.hid hd2
    have hb4 := HD.out.below
    have HO3 := Lib.hid ho; have HOK := Lib.hid hok
    clear hd2 hg2 ho hok
    go_wp2_with fail
    go_ret
    exact ⟨_, ys, rfl, Rd.of_own HO3.out, by have := HOK.out.1; omega, wfT_of_ok HOK.out (by omega), hb4⟩
  · obtain ⟨i0, hi, hz0, hz1, hz2'⟩ := info_parts infoMessage
    have Hi := Lib.hid hi; have Hz0 := Lib.hid hz0; have Hz1 := Lib.hid hz1; have Hz2 := Lib.hid hz2'; clear hi hz0 hz1 hz2'
    have hb2 := HD.out.below
    have HB2 := Lib.hid hb2; clear hb2
    go_wp2_with (at_make; refine wpList_make_full _ rfl _ _ 28 rfl w2.heap.size 33 i0 (.agg #[.int .i64 0, .int .i64 0, .int .i64 0]) 3 Try.underlying28 Hi.out Hz0.out Hz1.out _ _ _ _ 2001 rfl rfl rfl rfl (by rw [Hz2.out]; omega) (by unfold maxLen; omega) (Nat.le_refl _) ?_; intro w7 hown7 hgrow7; have HOW := Lib.hid hown7; clear hown7)
    go_ret
    have hb7 : Below w2.heap.size w2 w7 := (Below.refl _ _).grown hgrow7 (Nat.le_refl _) (by intro k hk; cases hk)
    have h7 := HOW.out
    rw [show (madeCells (Value.agg #[.int .i64 0, .int .i64 0, .int .i64 0]).cells (2001 * 3)).toList = tris (List.replicate 2001 triZ) from made_tris 2001] at h7
    refine ⟨_, List.replicate 2001 triZ, rfl, ?_, by simp, wfT_replicate _, HB2.out.tr hb7⟩
    rw [List.length_replicate]; exact Rd.of_own h7
end Go.Proofs.Ytgdggkhdollieaa
