/-
  What is drawn: frames.
-/
import Derived.Test.YtdflpildopefaaaDraws
import Derived.Test.YtdflpildopefaaaFrame
namespace Go.Proofs.Ytdflpildopefaaa
open Go.RowKit
set_option linter.unusedVariables false

def Bytes (xs : List Int) : Prop := ∀ x ∈ xs, 0 ≤ x ∧ x ≤ 255
theorem Bytes.wf {xs : List Int} (h : Bytes xs) : WfIntS xs := fun x hx => by have := h x hx; exact ⟨by omega, by omega⟩
theorem Bytes.append {xs ys : List Int} (h : Bytes xs) (k : Bytes ys) : Bytes (xs ++ ys) := fun x hx => by
  rcases List.mem_append.1 hx with h1 | h1
  · exact h x h1
  · exact k x h1
theorem frameOf_bytes (b : List Int) : Bytes (frameOf b) := by
  unfold frameOf
  split
  · rename_i h
    simp only [bodyOk, Bool.and_eq_true, decide_eq_true_eq] at h
    obtain ⟨⟨h1, h2⟩, h3⟩ := h
    intro x hx
    have hs := sumTo_rng b
    simp only [List.mem_cons, List.mem_append, List.not_mem_nil, or_false] at hx
    rcases hx with rfl | hx | rfl
    · omega
    · simp only [bytesOk, Bool.and_eq_true, List.all_eq_true] at h3
      have := h3.2 x hx; simpa [byteB] using this
    · omega
  · intro x hx; cases hx
theorem wf_append {xs ys : List Int} (h : WfIntS xs) (k : WfIntS ys) : WfIntS (xs ++ ys) := fun x hx => by
  rcases List.mem_append.1 hx with h1 | h1
  · exact h x h1
  · exact k x h1
theorem wf_take {xs : List Int} (h : WfIntS xs) (k : Nat) : WfIntS (xs.take k) := fun x hx => h x (List.mem_of_mem_take hx)
theorem wf_set {xs : List Int} (h : WfIntS xs) (k : Nat) {z : Int} (hz : In64 z) : WfIntS (xs.set k z) := fun x hx => by
  rcases List.mem_or_eq_of_mem_set hx with h1 | h1
  · exact h x h1
  · subst h1; exact hz
/-- A beginning of a row that is owned. -/
theorem own_take {w : World} {base size n cap g : Nat} {e : TypeId} {cs : List Value} (h : w.ownsRow base e size (.slice (some ⟨g, 0, none⟩) n cap) n cs) (m : Nat) (hm : m ≤ n) :
    w.ownsRow base e size (.slice (some ⟨g, 0, none⟩) m cap) m (cs.take (m * size)) := by
  have hl := h.1
  have hle : m * size ≤ n * size := Nat.mul_le_mul_right _ hm
  refine ⟨by rw [List.length_take]; omega, ?_⟩
  rcases h.2 with ⟨h2, _⟩ | ⟨g', cap', cur, hv, hb, hg, hn, hmx, hs, ht⟩
  · cases h2
  · simp only [Value.slice.injEq, Option.some.injEq, Addr.mk.injEq, and_true, true_and] at hv
    obtain ⟨rfl, rfl⟩ := hv
    refine .inr ⟨g, cap, cur, rfl, hb, hg, by omega, hmx, hs, ?_⟩
    rw [← ht, List.take_take, Nat.min_eq_left hle]

/-- A list of at most B ints was drawn, in new memory. -/
def DrewList (W : World) (sv : Value) (bs : List Int) (r : Nat) (lim : Int) (B : Nat) (w : World) (e : Ending) (w' : World) : Prop :=
  ∃ v xs, e = .returned v ∧ w'.ownsRow w.heap.size 3 1 v xs.length (ints xs) ∧ xs.length ≤ B ∧ WfIntS xs ∧ Drw W sv bs r lim w' ∧ Chg r (r + 1) w w'

set_option maxRecDepth 100000 in
set_option maxHeartbeats 8000000 in
theorem l20Frames_any (W : World) (sv : Value) (bs : List Int) (r : Nat) (lim : Int) (w : World) (h : Drw W sv bs r lim w) (hl : lim ≤ 800000000) :
    Calls Try.prog 69 #[.pointer (some ⟨r, 0, none⟩)] w (DrewList W sv bs r (lim + 400) 2400 w) := by
  have hrlt := h.lt
  have HD := Lib.hid (h.keep ((Below.refl _ _).alloc (Nat.le_refl _) (.cells #[] 3)))
  have HG : Hid (Chg r (r + 1) w (w.alloc (.cells #[] 3))) := Lib.hid ((Chg.refl _ _ _).alloc _)
  have HO : Hid ((w.alloc (.cells #[] 3)).ownsRow w.heap.size 3 1 (.slice (some ⟨w.heap.size, 0, none⟩) 0 0) 0 []) := Lib.hid (World.ownsRow_made (size := 1) w #[] 0 (Nat.le_refl _) (by decide) rfl)
  clear h
  go_enter Try.func69, Try.ntmps69
  go_wp2_with fail
  refine (pick_any W sv _ _ _ _ _ HD.out (by omega) (by omega) (by omega)).mono ?_
  rintro e w1 ⟨c, rfl, c0, c1, c2, hd, hg⟩
  replace HD := Lib.hid hd
  replace HO := Lib.hid (ownsRow_chg HO.out hg (by omega))
  replace HG := Lib.hid (HG.out.trans hg)
  replace c1 := c1 (by omega)
  clear hd hg c2
  go_wp2_with fail
  go_loopw [3, 4] (fun v i wr => ∃ (k : Nat) (xs : List Int), k ≤ 3 ∧ i = .int .i64 k ∧ xs.length + 102 * k ≤ 306 ∧ Hid (Bytes xs) ∧ Hid (wr.ownsRow w.heap.size 3 1 v xs.length (ints xs)) ∧ Hid (Drw W sv bs r (lim + 250 - 70 * (k : Int)) wr) ∧ Hid (Chg r (r + 1) w wr)) (fun _ i _ => (intOf i).toNat)
  case atStart =>
    obtain ⟨k, rfl⟩ := Int.eq_ofNat_of_zero_le c0
    exact ⟨k, [], by omega, rfl, by simp; omega, Lib.hid (fun x hx => by cases hx), HO, Lib.hid (HD.out.mono (by omega)), HG⟩
  case round =>
    clear HD HG HO c0 c1
    obtain ⟨k, xs, hk, rfl, hxl, HW, HO, HD, HG⟩ := hrel
    have HL := Lib.hid hxl; clear hxl
    have hxl2 : xs.length ≤ 306 := by have := HL.out; omega
    generalize hal : xs.length = al at *
    have HAL := Lib.hid hal; clear hal
    have hwr := HG.out.size
    by_cases hk0 : 0 < k
    · go_wp2_with fail
      refine (l20Bytes_any W sv bs _ _ _ _ HD.out (by omega) (by omega) (by omega)).mono ?_
      rintro e w2 ⟨v2, ys, rfl, ho2, ⟨hyl, -⟩, -, hd2, hg2⟩
      have HO2 := Lib.hid ho2; replace HD := Lib.hid hd2; have HGA := Lib.hid hg2; clear ho2 hd2 hg2
      go_wp2_with fail
      refine (pick_any W sv _ _ _ _ _ HD.out (by omega) (by omega) (by omega)).mono ?_
      rintro e w3 ⟨d, rfl, d0, d1, d2, hd, hg⟩
      replace HD := Lib.hid hd; replace HO2 := Lib.hid (ownsRow_chg HO2.out hg (by omega)); replace HGA := Lib.hid (HGA.out.trans hg); clear hd hg d1 d2
      have hw3 := HGA.out.size
      go_wp2_with (at_builtin; refine wpList_pushB rfl _ _ 23 3 rfl (.int .i64 0) 1 8 Try.underlying23 infoInt rfl (by decide) (by decide) #[.int .i64 d] rfl (by simp [Value.oneCell']) wr.heap.size _ _ _ HO2.out rfl rfl (by omega) hw3 ?_; intro v4 w4 hown4 hbel4 hne4; have HO4 := Lib.hid hown4; replace HGA := Lib.hid (HGA.out.then hbel4); replace HD := Lib.hid (HD.out.keepB hbel4 (by omega)); clear hown4 hbel4 hne4)
      have hfr := specFrameOf_any w4 v4 (ys ++ [d]) (by
        have := Rd.of_own HO4.out
        rw [List.length_append, ints_append]; exact this) (by simp; omega)
      have HFB := Lib.hid (frameOf_bytes (ys ++ [d]))
      have hfl := frameOf_length (ys ++ [d])
      generalize frameOf (ys ++ [d]) = fr at *
      refine hfr.mono ?_
      clear hfr
      rintro e w5 ⟨v5, rfl, ho5, hb5⟩
      have HR5 := Lib.hid ho5.rd; replace HD := Lib.hid (HD.out.keep hb5)
      have hw4 := HGA.out.size
      replace HGA := Lib.hid (HGA.out.then (hb5.mono hw4))
      clear ho5 hb5 HO2 HO4
      have HO5 := Lib.hid (ownsRow_chg HO.out HGA.out (by omega))
      have hw5 := HGA.out.size
      generalize hfl2 : fr.length = fl at *
      have HFL := Lib.hid hfl2; clear hfl2
      go_wp2_with (at_builtin; refine wpList_pushAllB rfl _ _ 23 3 rfl (.int .i64 0) 1 8 Try.underlying23 infoInt rfl (by decide) (by decide) w.heap.size _ _ _ HO5.out rfl v5 fl (ints fr) HR5.out rfl (ints_one fr) (by omega) (by omega) (by omega) ?_; intro v6 w6 hown6 hbel6 hne6; have HO6 := Lib.hid hown6; have HB6 := Lib.hid hbel6; clear hown6 hbel6 hne6)
      go_roundw
      case rel =>
        refine ⟨k - 1, xs ++ fr, by omega, by go_num, by have := HL.out; rw [List.length_append, HAL.out, HFL.out]; omega, Lib.hid (HW.out.append HFB.out), Lib.hid ?_, Lib.hid ((HD.out.keepB HB6.out (by omega)).mono (by omega)), Lib.hid ((HG.out.trans HGA.out).then HB6.out)⟩
        rw [ints_append, List.length_append, HAL.out, HFL.out]; exact HO6.out
      case measure => simp [intOf]; omega
    · have hk1 : k = 0 := by omega
      subst hk1
      go_wp2_with fail
      refine (odd_any W sv bs r _ 2 _ HD.out (by omega) (by omega) (by omega)).mono ?_
      rintro e w2 ⟨t, rfl, ht, hd, hg⟩
      replace HD := Lib.hid hd
      replace HO := Lib.hid (ownsRow_chg HO.out hg (by omega))
      replace HG := Lib.hid (HG.out.trans hg)
      clear hd hg ht
      cases t
      · go_wp2_with fail
        go_ret
        exact ⟨_, xs, rfl, by rw [HAL.out]; exact HO.out, by rw [HAL.out]; omega, HW.out.wf, HD.out.mono (by omega), HG.out⟩
      by_cases hz : al = 0
      · subst hz
        obtain ⟨a0, c0, ev, _, _⟩ := (Rd.of_own HO.out).form
        subst ev
        go_wp2_with fail
        go_ret
        exact ⟨_, xs, rfl, by rw [HAL.out]; exact HO.out, by rw [HAL.out]; omega, HW.out.wf, HD.out.mono (by omega), HG.out⟩
      obtain ⟨g, cap, ev, hg0, hg1, hnc, hmc⟩ := own_form HO.out (by omega)
      subst ev
      clear hg1
      have hal0 : decide ((al : Int) > 0) = true := by simp; omega
      go_wp2_with fail
      refine (pick_any W sv _ _ _ _ _ HD.out (by omega) (by omega) (by omega)).mono ?_
      rintro e w3 ⟨c, rfl, c0, c1, c2, hd, hg⟩
      replace HD := Lib.hid hd; replace HO := Lib.hid (ownsRow_chg HO.out hg (by omega)); replace HG := Lib.hid (HG.out.trans hg); replace c1 := c1 (by omega); clear hd hg c2
      have hminB : ∃ mm : Int, min 256 (al : Int) = mm ∧ 1 ≤ mm ∧ mm ≤ al := ⟨_, rfl, by omega, by omega⟩
      rcases (by omega : c = 0 ∨ c = 1 ∨ c = 2) with rfl | rfl | rfl
      · by_cases h256 : (256 : Int) ≤ (al : Int)
        all_goals
          go_wp2_with fail
          refine (pick_any W sv _ _ _ _ _ HD.out (by omega) (by omega) (by omega)).mono ?_
          rintro e w4 ⟨m, rfl, m0, m1, m2, hd, hg⟩
          replace HD := Lib.hid hd; replace HO := Lib.hid (ownsRow_chg HO.out hg (by omega)); replace HG := Lib.hid (HG.out.trans hg); replace m1 := m1 (by omega); clear hd hg m2
          obtain ⟨m, rfl⟩ := Int.eq_ofNat_of_zero_le m0
          have HT := Lib.hid (own_take HO.out m (by omega))
          go_wp2_with fail
          go_ret
          have e1 : (xs.take m).length = m := by rw [List.length_take, HAL.out]; omega
          have e2 : (ints xs).take (m * 1) = ints (xs.take m) := by simp [ints]
          have h9 := HT.out
          rw [e2] at h9
          exact ⟨_, xs.take m, rfl, by rw [e1]; exact h9, by rw [e1]; omega, wf_take HW.out.wf _, HD.out.mono (by omega), HG.out⟩
      · by_cases h256 : (256 : Int) ≤ (al : Int)
        all_goals
          go_wp2_with fail
          refine (pick_any W sv _ _ _ _ _ HD.out (by omega) (by omega) (by omega)).mono ?_
          rintro e w4 ⟨m, rfl, m0, m1, m2, hd, hg⟩
          replace HD := Lib.hid hd; replace HO := Lib.hid (ownsRow_chg HO.out hg (by omega)); replace HG := Lib.hid (HG.out.trans hg); replace m1 := m1 (by omega); clear hd hg m2
          obtain ⟨m, rfl⟩ := Int.eq_ofNat_of_zero_le m0
          have hmem : xs.getD m 0 ∈ xs := getD_mem (by rw [HAL.out]; omega)
          obtain ⟨x0, x1⟩ := HW.out _ hmem
          have hc := HO.out.cellAt m (by omega)
          rw [ints_get xs m (by rw [HAL.out]; omega)] at hc
          have hf := HO.out.frozenAt m
          clear hmem
          generalize xs.getD m 0 = x at *
          have hst := HO.out.stored m (.int .i64 ((x + 1) % 256))
          have HO9 := Lib.hid hst.1
          have hbel : Below w.heap.size w4 (w4.setCell ⟨g, m, none⟩ (.int .i64 ((x + 1) % 256))) := (Below.refl _ _).setCell hg0 _
          have HB9 := Lib.hid hbel
          have hx2 : 0 ≤ (x + 1) % 256 ∧ (x + 1) % 256 ≤ 255 := by omega
          clear hst hbel
          go_wp2_with fail
          go_ret
          have h9 := HO9.out
          rw [ints_set] at h9
          exact ⟨_, xs.set m ((x + 1) % 256), rfl, by rw [List.length_set, HAL.out]; exact h9, by rw [List.length_set, HAL.out]; omega, wf_set HW.out.wf _ ⟨by omega, by omega⟩, (HD.out.keepB HB9.out (by omega)).mono (by omega), HG.out.then HB9.out⟩
      · go_wp2_with fail
        refine (l20Bytes_any W sv bs _ _ _ _ HD.out (by omega) (by omega) (by omega)).mono ?_
        rintro e w4 ⟨v4, ys, rfl, ho4, ⟨hyl, -⟩, hwf4, hd4, hg4⟩
        have HR4 := Lib.hid (Rd.of_own ho4); replace HD := Lib.hid hd4; replace HO := Lib.hid (ownsRow_chg HO.out hg4 (by omega)); replace HG := Lib.hid (HG.out.trans hg4)
        have HW4 := Lib.hid hwf4
        clear ho4 hd4 hg4 hwf4
        have hw4 := HG.out.size
        generalize hyl2 : ys.length = yl at *
        have HYL := Lib.hid hyl2; clear hyl2
        go_wp2_with (at_builtin; refine wpList_pushAllB rfl _ _ 23 3 rfl (.int .i64 0) 1 8 Try.underlying23 infoInt rfl (by decide) (by decide) w.heap.size _ _ _ HO.out rfl v4 yl (ints ys) HR4.out rfl (ints_one ys) (by omega) (by omega) (by omega) ?_; intro v6 w6 hown6 hbel6 hne6; have HO6 := Lib.hid hown6; have HB6 := Lib.hid hbel6; clear hown6 hbel6 hne6)
        go_ret
        exact ⟨_, xs ++ ys, rfl, by rw [ints_append, List.length_append, HAL.out, HYL.out]; exact HO6.out, by rw [List.length_append, HAL.out, HYL.out]; omega, wf_append HW.out.wf HW4.out, (HD.out.keepB HB6.out (by omega)).mono (by omega), HG.out.then HB6.out⟩
end Go.Proofs.Ytdflpildopefaaa
