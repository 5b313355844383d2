/-
  What is drawn: messages.
-/
import Derived.Test.YtddhnngaopjjnaaDraws
import Derived.Test.YtddhnngaopjjnaaVals
namespace Go.Proofs.Ytddhnngaopjjnaa
open Go.RowKit
set_option linter.unusedVariables false

/-- Messages to the vertices below 'many'. -/
def MsgsOk (many : Int) (ys : List Tri) : Prop := ys.length ≤ 8 ∧ ∀ y ∈ ys, (0 ≤ y.1 ∧ y.1 < many) ∧ (0 ≤ y.2.1 ∧ y.2.1 < 9) ∧ (0 ≤ y.2.2 ∧ y.2.2 < many)
/-- Messages were drawn, in new memory. -/
def DrewMsgs (W : World) (sv : Value) (bs : List Int) (r : Nat) (lim many : Int) (w : World) (e : Ending) (w' : World) : Prop :=
  ∃ v ys, e = .returned v ∧ w'.ownsRow w.heap.size 44 3 v ys.length (tris ys) ∧ MsgsOk many ys ∧ Drw W sv bs r lim w' ∧ Chg r (r + 1) w w'
theorem msgs_snoc {many : Int} {ys : List Tri} (h : ∀ y ∈ ys, (0 ≤ y.1 ∧ y.1 < many) ∧ (0 ≤ y.2.1 ∧ y.2.1 < 9) ∧ (0 ≤ y.2.2 ∧ y.2.2 < many)) {a b c : Int} (ha : 0 ≤ a ∧ a < many) (hb : 0 ≤ b ∧ b < 9) (hc : 0 ≤ c ∧ c < many) :
    ∀ y ∈ ys ++ [(a, b, c)], (0 ≤ y.1 ∧ y.1 < many) ∧ (0 ≤ y.2.1 ∧ y.2.1 < 9) ∧ (0 ≤ y.2.2 ∧ y.2.2 < many) := by
  intro y hy
  rcases List.mem_append.1 hy with h1 | h1
  · exact h y h1
  · simp at h1; subst h1; exact ⟨ha, hb, hc⟩

set_option maxRecDepth 100000 in
set_option maxHeartbeats 4000000 in
theorem l20Messages_any (W : World) (sv : Value) (bs : List Int) (r : Nat) (lim many : Int) (w : World) (h : Drw W sv bs r lim w) (hl : lim ≤ 900000000) (hm0 : 1 ≤ many) (hm : many ≤ 1000000000) :
    Calls Try.prog 64 #[.pointer (some ⟨r, 0, none⟩), .int .i64 many] w (DrewMsgs W sv bs r (lim + 40) many w) := by
  have hrlt := h.lt
  have HD := Lib.hid (h.keep ((Below.refl _ _).alloc (Nat.le_refl _) (.cells #[] 44)))
  have HG : Hid (Chg r (r + 1) w (w.alloc (.cells #[] 44))) := Lib.hid ((Chg.refl _ _ _).alloc _)
  have HO : Hid ((w.alloc (.cells #[] 44)).ownsRow w.heap.size 44 3 (.slice (some ⟨w.heap.size, 0, none⟩) 0 0) 0 []) := Lib.hid (World.ownsRow_made (size := 3) w #[] 0 (Nat.le_refl _) (by decide) rfl)
  clear h
  go_enter Try.func64, Try.ntmps64
  go_wp2_with fail
  refine (pick_any W sv _ _ _ _ _ HD.out (by omega) (by omega) (by omega)).mono ?_
  rintro e w1 ⟨c, rfl, c0, c1, c2, hd, hg⟩
  replace HD := Lib.hid hd
  replace HO := Lib.hid (ownsRow_chg HO.out hg (by omega))
  replace HG := Lib.hid (HG.out.trans hg)
  replace c1 := c1 (by omega)
  clear hd hg c2
  have hmany : decide (many > 0) = true := by simp; omega
  go_wp2_with fail
  go_loopw [5, 6] (fun v i wr => ∃ (k : Nat) (ys : List Tri), k ≤ 8 ∧ i = .int .i64 k ∧ ys.length + k ≤ 8 ∧ Hid (∀ y ∈ ys, (0 ≤ y.1 ∧ y.1 < many) ∧ (0 ≤ y.2.1 ∧ y.2.1 < 9) ∧ (0 ≤ y.2.2 ∧ y.2.2 < many)) ∧ Hid (wr.ownsRow w.heap.size 44 3 v ys.length (tris ys)) ∧ Hid (Drw W sv bs r (lim + 33 - 4 * (k : Int)) wr) ∧ Hid (Chg r (r + 1) w wr)) (fun _ i _ => (intOf i).toNat)
  case atStart =>
    obtain ⟨k, rfl⟩ := Int.eq_ofNat_of_zero_le c0
    exact ⟨k, [], by omega, rfl, by simp; omega, Lib.hid (fun y hy => by cases hy), HO, Lib.hid (HD.out.mono (by omega)), HG⟩
  case round =>
    clear HD HG HO c0 c1
    obtain ⟨k, ys, hk, rfl, hxl, HW, HO, HD, HG⟩ := hrel
    have HL := Lib.hid hxl; clear hxl
    have hxl2 : ys.length ≤ 8 := by have := HL.out; omega
    generalize hal : ys.length = al at *
    have HAL := Lib.hid hal; clear hal
    by_cases hk0 : 0 < k
    · go_wp2_with fail
      refine (pick_any W sv _ _ _ _ _ HD.out (by omega) (by omega) (by omega)).mono ?_
      rintro e w2 ⟨a, rfl, a0, a1, a2, hd, hg⟩
      replace HD := Lib.hid hd
      replace HO := Lib.hid (ownsRow_chg HO.out hg (by omega))
      replace HG := Lib.hid (HG.out.trans hg)
      replace a1 := a1 (by omega)
      clear hd hg a2
      go_wp2_with fail
      refine (pick_any W sv _ _ _ _ _ HD.out (by omega) (by omega) (by omega)).mono ?_
      rintro e w3 ⟨b, rfl, b0, b1, b2, hd, hg⟩
      replace HD := Lib.hid hd
      replace HO := Lib.hid (ownsRow_chg HO.out hg (by omega))
      replace HG := Lib.hid (HG.out.trans hg)
      replace b1 := b1 (by omega)
      clear hd hg b2
      go_wp2_with fail
      refine (pick_any W sv _ _ _ _ _ HD.out (by omega) (by omega) (by omega)).mono ?_
      rintro e w4 ⟨d, rfl, d0, d1, d2, hd, hg⟩
      replace HD := Lib.hid hd
      replace HO := Lib.hid (ownsRow_chg HO.out hg (by omega))
      replace HG := Lib.hid (HG.out.trans hg)
      replace d1 := d1 (by omega)
      clear hd hg d2
      have hw4 := HG.out.size
      go_wp2_with (at_builtin; refine wpList_pushB rfl _ _ 36 44 rfl (.agg #[.int .i64 0, .int .i64 0, .int .i64 0]) 3 24 Try.underlying36 infoMessage rfl (by decide) (by decide) #[.int .i64 a, .int .i64 b, .int .i64 d] rfl (by simp [Value.oneCell']) w.heap.size _ _ _ HO.out rfl rfl (by omega) hw4 ?_; intro v' w7 hown7 hbel7 hne7; have HO7 := Lib.hid hown7; have HB7 := Lib.hid hbel7; clear hown7 hbel7 hne7)
      go_roundw
      case rel =>
        refine ⟨k - 1, ys ++ [(a, b, d)], by omega, by go_num, by have := HL.out; have := HAL.out; simp; omega, Lib.hid (msgs_snoc HW.out ⟨by omega, by omega⟩ ⟨by omega, by omega⟩ ⟨by omega, by omega⟩), Lib.hid ?_, Lib.hid ((HD.out.keepB HB7.out (by omega)).mono (by omega)), Lib.hid (HG.out.then HB7.out)⟩
        rw [tris_append, List.length_append, HAL.out]; exact HO7.out
      case measure => simp [intOf]; omega
    · have hk1 : k = 0 := by omega
      subst hk1
      go_wp2_with fail
      go_ret
      exact ⟨_, ys, rfl, by rw [HAL.out]; exact HO.out, ⟨by rw [HAL.out]; omega, HW.out⟩, HD.out.mono (by omega), HG.out⟩

set_option maxRecDepth 100000 in
theorem DrawValuesFor_any (W : World) (va : Value) (bs : List Int) (hr : Rd W 1 va bs.length (bys bs)) (hg : ∀ x ∈ bs, 0 ≤ x ∧ x ≤ 255) :
    Calls Try.prog 25 #[va] W fun e w' => ∃ v ys q, e = .returned (.tuple #[v, .int .i64 q]) ∧ Rd w' 3 v ys.length (tris ys) ∧ MsgsOk 4 ys ∧ (0 ≤ q ∧ q < 5) ∧ Below W.heap.size W w' := by
  have HO := Lib.hid (open_any W va bs W hr hg (Below.refl _ _)); clear hr hg
  go_enter Try.func25, Try.ntmps25
  go_wp2_with fail
  refine HO.out.mono ?_
  rintro e w1 ⟨sv, bs', rfl, hd, hb1, hs1⟩
  have HD := Lib.hid hd
  have HG : Hid (Chg W.heap.size (W.heap.size + 1) w1 w1) := Lib.hid (Chg.refl _ _ _)
  clear hd HO
  go_wp2_with fail
  refine (pick_any W sv _ _ _ _ _ HD.out (by omega) (by omega) (by omega)).mono ?_
  rintro e w2 ⟨c, rfl, c0, c1, c2, hd, hg⟩
  replace HD := Lib.hid hd
  replace HG := Lib.hid (HG.out.trans hg)
  replace c1 := c1 (by omega)
  clear hd hg c2
  go_wp2_with fail
  refine (l20Messages_any W sv bs' _ _ _ _ HD.out (by omega) (by omega) (by omega)).mono ?_
  rintro e w3 ⟨v, ys, rfl, ho, hok, hd2, hg2⟩
  replace HD := Lib.hid hd2
  have hz2 := HG.out.size
  replace HG := Lib.hid (HG.out.trans hg2)
  have HO3 := Lib.hid (ho); have HOK := Lib.hid hok
  clear hd2 hg2 ho hok
  go_wp2_with fail
  refine (pick_any W sv _ _ _ _ _ HD.out (by omega) (by omega) (by omega)).mono ?_
  rintro e w4 ⟨d, rfl, d0, d1, d2, hd, hg⟩
  replace HD := Lib.hid hd
  replace HO3 := Lib.hid (ownsRow_chg HO3.out hg (by omega))
  replace HG := Lib.hid (HG.out.trans hg)
  replace d1 := d1 (by omega)
  clear hd hg d2
  have hb4 := HD.out.below
  go_wp2_with fail
  go_ret2
  exact ⟨_, ys, _, rfl, Rd.of_own HO3.out, ⟨HOK.out.1, fun y hy => by have := HOK.out.2 y hy; omega⟩, ⟨by omega, by omega⟩, hb4⟩
end Go.Proofs.Ytddhnngaopjjnaa
