/-
  What is drawn: records.
-/
import Derived.Test.YtdflpildopefaaaDrawG
import Derived.Test.YtdflpildopefaaaScanS
namespace Go.Proofs.Ytdflpildopefaaa
open Go.RowKit
set_option linter.unusedVariables false

/-- At most B lists, each of at most 2013 ints. -/
def Few (B : Nat) (xss : List (List Int)) : Prop := xss.length ≤ B ∧ ∀ xs ∈ xss, xs.length ≤ 2013
theorem Few.nil (B : Nat) : Few B [] := ⟨Nat.zero_le _, fun xs h => by cases h⟩
theorem Few.snoc {B : Nat} {xss : List (List Int)} {xs : List Int} (h : Few B xss) (hx : xs.length ≤ 2013) : Few (B + 1) (xss ++ [xs]) := by
  refine ⟨by rw [List.length_append]; have := h.1; simp; omega, fun y hy => ?_⟩
  rcases List.mem_append.1 hy with h1 | h1
  · exact h.2 y h1
  · simp at h1; subst h1; exact hx
theorem Few.mono {B B' : Nat} {xss : List (List Int)} (h : Few B xss) (hb : B ≤ B') : Few B' xss := ⟨Nat.le_trans h.1 hb, h.2⟩
theorem Few.each {B : Nat} {xss : List (List Int)} (h : Few B xss) : ∀ k, k < xss.length → (xss.getD k []).length ≤ 1099511627776 := fun k hk => by
  have := h.2 (xss.getD k []) (by simp [hk]); omega
/-- Lists were drawn, in new memory. -/
def DrewRows (W : World) (sv : Value) (bs : List Int) (r : Nat) (lim : Int) (B : Nat) (w : World) (e : Ending) (w' : World) : Prop :=
  ∃ v xss, e = .returned v ∧ OwIntSS w.heap.size w'.heap.size w' v xss ∧ Few B xss ∧ Drw W sv bs r lim w' ∧ Chg r (r + 1) w w'

theorem ow_snoc {w : World} {lo : Nat} {v : Value} {ys : List Int} {d : Int} (h : w.ownsRow lo 3 1 v (ys.length + 1) (ints ys ++ #[Value.int .i64 d].toList)) : OwIntS lo w.heap.size w v (ys ++ [d]) := by
  have h := Ow.of_row h
  rw [OwIntS, List.length_append, ints_append]; exact h

theorem ow_made {w w' : World} {n : Nat} (h : w'.ownsRow w.heap.size 3 1 (.slice (some ⟨w.heap.size, 0, none⟩) n n) n (madeCells (Value.int .i64 0).cells (n * 1)).toList) : OwIntS w.heap.size w'.heap.size w' (.slice (some ⟨w.heap.size, 0, none⟩) n n) (List.replicate n 0) := by
  rw [show (madeCells (Value.int .i64 0).cells (n * 1)).toList = ints (List.replicate n 0) from by
    rw [show (Value.int .i64 0).cells = #[.int .i64 0] from rfl, toList_madeCells_one]; simp [ints]] at h
  have h := Ow.of_row h
  rw [OwIntS, List.length_replicate]; exact h

set_option maxRecDepth 100000 in
set_option maxHeartbeats 4000000 in
theorem l20Records_any (W : World) (sv : Value) (bs : List Int) (r : Nat) (lim n : Int) (w : World) (h : Drw W sv bs r lim w) (hl : lim ≤ 800000000) (hn0 : -1000000000 ≤ n) (hn : n ≤ 1000000000) :
    Calls Try.prog 64 #[.pointer (some ⟨r, 0, none⟩), .int .i64 n] w (DrewRows W sv bs r (lim + 400) 24 w) := by
  have hrlt := h.lt
  have HD := Lib.hid (h.keep ((Below.refl _ _).alloc (Nat.le_refl _) (.cells #[] 23)))
  have HG : Hid (Chg r (r + 1) w (w.alloc (.cells #[] 23))) := Lib.hid ((Chg.refl _ _ _).alloc _)
  have HO : Hid (OwIntSS w.heap.size (w.alloc (.cells #[] 23)).heap.size (w.alloc (.cells #[] 23)) (.slice (some ⟨w.heap.size, 0, none⟩) 0 0) []) := Lib.hid (OwIntSS.empty (Nat.le_refl _) (by simp))
  clear h
  go_enter Try.func64, Try.ntmps64
  go_wp2_with fail
  refine (pick_any W sv _ _ _ _ _ HD.out (by omega) (by omega) (by omega)).mono ?_
  rintro e w1 ⟨c, rfl, c0, c1, c2, hd, hg⟩
  replace HD := Lib.hid hd; replace HO := Lib.hid ((HO.out.chg hg (.inl (by omega))).mono (Nat.le_refl _) hg.size); replace HG := Lib.hid (HG.out.trans hg); replace c1 := c1 (by omega); clear hd hg c2
  go_wp2_with fail
  go_loopw [5, 6] (fun v i wr => ∃ (k : Nat) (xss : List (List Int)), k ≤ 4 ∧ i = .int .i64 k ∧ Hid (Few (4 - k) xss) ∧ Hid (OwIntSS w.heap.size wr.heap.size wr v xss) ∧ Hid (Drw W sv bs r (lim + 300 - 70 * (k : Int)) wr) ∧ Hid (Chg r (r + 1) w wr)) (fun _ i _ => (intOf i).toNat)
  case atStart =>
    obtain ⟨k, rfl⟩ := Int.eq_ofNat_of_zero_le c0
    exact ⟨k, [], by omega, rfl, Lib.hid (Few.nil _), HO, Lib.hid (HD.out.mono (by omega)), HG⟩
  case round =>
    clear HD HG HO c0 c1
    obtain ⟨k, xss, hk, rfl, HF, HO, HD, HG⟩ := hrel
    obtain ⟨a0, c0, rfl⟩ := HO.out.form
    have hwr := HG.out.size
    have hfl := HF.out.1
    by_cases hk0 : 0 < k
    · go_wp2_with fail
      refine (l20Bytes_any W sv bs _ _ _ _ HD.out (by omega) (by omega) (by omega)).mono ?_
      rintro e w2 ⟨v2, ys, rfl, ho2, ⟨hyl, -⟩, -, hd2, hg2⟩
      have HO2 := Lib.hid ho2; replace HD := Lib.hid hd2; have HGA := Lib.hid hg2; clear ho2 hd2 hg2
      go_wp2_with fail
      refine (pick_any W sv _ _ _ _ _ HD.out (by omega) (by omega) (by omega)).mono ?_
      rintro e w3 ⟨d, rfl, d0, d1, d2, hd, hg⟩
      replace HD := Lib.hid hd; replace HO2 := Lib.hid (ownsRow_chg HO2.out hg (by omega)); replace HGA := Lib.hid (HGA.out.trans hg); clear hd hg d1 d2
      have hw3 := HGA.out.size
      have HO3 := Lib.hid ((HO.out.chg HGA.out (.inl (by omega))))
      go_wp2_with (first
        | (at_builtin; refine wpList_pushB rfl _ _ 23 3 rfl (.int .i64 0) 1 8 Try.underlying23 infoInt rfl (by decide) (by decide) #[.int .i64 d] rfl (by simp [Value.oneCell']) wr.heap.size _ _ _ HO2.out rfl rfl (by omega) hw3 ?_; intro v4 w4 hown4 hbel4 hne4; obtain ⟨g4, cap4, ev4, hg40, hg41, hg42, hg43⟩ := own_form hown4 (by omega); subst ev4; have HO4 := Lib.hid hown4; have HB4 := Lib.hid hbel4; have hw4 := HB4.out.size; replace HD := Lib.hid (HD.out.keepB HB4.out (by omega)); replace HGA := Lib.hid (HGA.out.then HB4.out); replace HO3 := Lib.hid (HO.out.chg HGA.out (.inl (by omega))); have HU := Lib.hid (ow_snoc HO4.out); have hzl : (ys ++ [d]).length ≤ 2013 := (by simp; omega); generalize ys ++ [d] = zs at *; generalize ys.length = yl at *; clear hown4 hbel4 hne4 hg40 hg41 hg42 hg43)
        | (at_builtin; refine wpList_pushRow rfl _ _ 30 rfl Try.underlying30 infoRow w.heap.size wr.heap.size _ (.slice (some ⟨g4, 0, none⟩) (yl + 1) cap4) xss zs HO3.out HU.out rfl rfl rfl (by omega) hwr (by omega) ?_; rintro v5 w5 hown5 hbel5 ⟨a5, c5, rfl⟩; have HO5 := Lib.hid hown5; have HB5 := Lib.hid hbel5; clear hown5 hbel5))
      go_roundw
      case rel =>
        exact ⟨k - 1, xss ++ [zs], by omega, by go_num, Lib.hid ((HF.out.snoc hzl).mono (by omega)), HO5, Lib.hid ((HD.out.keepB HB5.out (by omega)).mono (by omega)), Lib.hid ((HG.out.trans HGA.out).then HB5.out)⟩
      case measure => simp [intOf]; omega
    · have hk1 : k = 0 := by omega
      subst hk1
      go_wp2_with fail
      refine (odd_any W sv bs r _ _ _ HD.out (by omega) (by omega) (by omega)).mono ?_
      rintro e w2 ⟨t, rfl, ht, hd, hg⟩
      replace HD := Lib.hid hd
      replace HO := Lib.hid ((HO.out.chg hg (.inl (by omega))).mono (Nat.le_refl _) hg.size)
      replace HG := Lib.hid (HG.out.trans hg)
      have hw2 := HG.out.size
      clear hd hg ht
      cases t
      · go_wp2_with fail
        go_ret
        exact ⟨_, xss, rfl, HO.out, HF.out.mono (by omega), HD.out.mono (by omega), HG.out⟩
      go_wp2_with fail
      refine (pick_any W sv _ _ _ _ _ HD.out (by omega) (by omega) (by omega)).mono ?_
      rintro e w3 ⟨c, rfl, c0', c1, c2, hd, hg⟩
      replace HD := Lib.hid hd; replace HO := Lib.hid ((HO.out.chg hg (.inl (by omega))).mono (Nat.le_refl _) hg.size); replace HG := Lib.hid (HG.out.trans hg); replace c1 := c1 (by omega); clear hd hg c2
      have hw3 := HG.out.size
      rcases (by omega : c = 0 ∨ c = 1 ∨ c = 2) with rfl | rfl | rfl
      · have HO3 := Lib.hid (HO.out.keep ((Below.refl _ _).alloc (Nat.le_refl _) (.cells #[] 3)))
        have HD3 := Lib.hid (HD.out.keep ((Below.refl _ _).alloc (Nat.le_refl _) (.cells #[] 3)))
        have HG3 : Hid (Chg r (r + 1) w (w3.alloc (.cells #[] 3))) := Lib.hid (HG.out.alloc _)
        have hsz3 : (w3.alloc (.cells #[] 3)).heap.size = w3.heap.size + 1 := by simp
        go_wp2_with (at_builtin; refine wpList_pushRow rfl _ _ 30 rfl Try.underlying30 infoRow w.heap.size w3.heap.size _ (.slice (some ⟨w3.heap.size, 0, none⟩) 0 0) xss [] HO3.out (Ow.nil _ _ _ _ _ _) rfl rfl (by rw [hsz3]; rfl) (by omega) hw3 (by omega) ?_; rintro v5 w5 hown5 hbel5 ⟨a5, c5, rfl⟩; have HO5 := Lib.hid hown5; have HB5 := Lib.hid hbel5; clear hown5 hbel5)
        go_ret
        exact ⟨_, _, rfl, HO5.out, (HF.out.snoc (by simp)).mono (by omega), (HD3.out.keepB HB5.out (by omega)).mono (by omega), HG3.out.then HB5.out⟩
      · have HO3 := Lib.hid (HO.out.keep ((Below.refl _ _).alloc (Nat.le_refl _) (.cells #[.int .i64 256] 3)))
        have HD3 := Lib.hid (HD.out.keep ((Below.refl _ _).alloc (Nat.le_refl _) (.cells #[.int .i64 256] 3)))
        have HG3 : Hid (Chg r (r + 1) w (w3.alloc (.cells #[.int .i64 256] 3))) := Lib.hid (HG.out.alloc _)
        have hsz3 : (w3.alloc (.cells #[.int .i64 256] 3)).heap.size = w3.heap.size + 1 := by simp
        have HU : Hid (OwIntS w3.heap.size (w3.alloc (.cells #[.int .i64 256] 3)).heap.size (w3.alloc (.cells #[.int .i64 256] 3)) (.slice (some ⟨w3.heap.size, 0, none⟩) 1 1) [256]) := Lib.hid (Ow.of_row (ownsRow_lit w3 #[.int .i64 256] 1 (Nat.le_refl _) (by decide) rfl))
        go_wp2_with (at_builtin; refine wpList_pushRow rfl _ _ 30 rfl Try.underlying30 infoRow w.heap.size w3.heap.size _ (.slice (some ⟨w3.heap.size, 0, none⟩) 1 1) xss [256] HO3.out HU.out rfl rfl (by rw [hsz3]; rfl) (by omega) hw3 (by omega) ?_; rintro v5 w5 hown5 hbel5 ⟨a5, c5, rfl⟩; have HO5 := Lib.hid hown5; have HB5 := Lib.hid hbel5; clear hown5 hbel5)
        go_ret
        exact ⟨_, _, rfl, HO5.out, (HF.out.snoc (by simp)).mono (by omega), (HD3.out.keepB HB5.out (by omega)).mono (by omega), HG3.out.then HB5.out⟩
      · go_wp2_with fail
        obtain ⟨i0, hi, hz0, hz1, hz2⟩ := info_parts infoInt
        have Hi := Lib.hid hi; have Hz0 := Lib.hid hz0; have Hz1 := Lib.hid hz1; have Hz2 := Lib.hid hz2; clear hi hz0 hz1 hz2
        have HD0 := Lib.hid (HD.out.mono (lim' := lim + 400) (by omega))
        have HF0 := Lib.hid (HF.out.mono (B' := 4) (by omega))
        go_loopw [5, 7] (fun v i wr => ∃ (k : Nat) (yss : List (List Int)), k ≤ 20 ∧ i = .int .i64 k ∧ Hid (Few (4 + k) yss) ∧ Hid (OwIntSS w.heap.size wr.heap.size wr v yss) ∧ Hid (Drw W sv bs r (lim + 400) wr) ∧ Hid (Chg r (r + 1) w wr)) (fun _ i _ => 20 - (intOf i).toNat)
        case atStart => exact ⟨0, xss, by omega, rfl, HF0, HO, HD0, HG⟩
        case round =>
          clear HD HG HO HD0 HF HF0
          obtain ⟨k, yss, hk, rfl, HF, HO, HD, HG⟩ := hrel
          obtain ⟨a6, c6, rfl⟩ := HO.out.form
          have hwr := HG.out.size
          have hfl := HF.out.1
          by_cases hlt : k < 20
          · go_wp2_with (first
              | (at_make; refine wpList_make_full _ rfl _ _ 23 rfl wr.heap.size 3 i0 (.int .i64 0) 1 Try.underlying23 Hi.out Hz0.out Hz1.out _ _ _ _ 100 rfl rfl rfl rfl (by rw [Hz2.out]; decide) (by unfold maxLen; decide) (Nat.le_refl _) ?_; intro w7 hown7 hgrow7; have HU := Lib.hid (ow_made hown7); have HB7 := Lib.hid ((Below.refl wr.heap.size wr).grown hgrow7 (Nat.le_refl _) (by intro k hk; cases hk)); have hw7 := HB7.out.size; have HO7 := Lib.hid (HO.out.keep HB7.out); clear hown7 hgrow7; generalize hrep : List.replicate 100 (0 : Int) = rep at *; have hrl : rep.length = 100 := (by rw [← hrep]; simp); clear hrep)
              | (at_builtin; refine wpList_pushRow rfl _ _ 30 rfl Try.underlying30 infoRow w.heap.size wr.heap.size _ (.slice (some ⟨wr.heap.size, 0, none⟩) 100 100) yss rep HO7.out HU.out rfl rfl rfl (by omega) hwr hw7 ?_; rintro v5 w5 hown5 hbel5 ⟨a5, c5, rfl⟩; have HO5 := Lib.hid hown5; have HB5 := Lib.hid hbel5; clear hown5 hbel5))
            go_roundw
            case rel =>
              exact ⟨k + 1, yss ++ [rep], by omega, by go_num, Lib.hid (HF.out.snoc (by omega)), HO5, Lib.hid ((HD.out.keep HB7.out).keepB HB5.out (by omega)), Lib.hid ((HG.out.then (HB7.out.mono hwr)).then HB5.out)⟩
            case measure => simp [intOf]; omega
          · obtain rfl : k = 20 := by omega
            go_wp2_with fail
            go_ret
            exact ⟨_, _, rfl, HO.out, HF.out.mono (by omega), HD.out, HG.out⟩

set_option maxRecDepth 100000 in
theorem DrawJoinFrames_any (W : World) (va : Value) (bs : List Int) (hr : Rd W 1 va bs.length (bys bs)) (hg : ∀ x ∈ bs, 0 ≤ x ∧ x ≤ 255) :
    Calls Try.prog 20 #[va] W fun e w' => ∃ v xss, e = .returned v ∧ RdIntSS w' v xss ∧ Few 24 xss ∧ Below W.heap.size W w' := by
  have HO := Lib.hid (open_any W va bs W hr hg (Below.refl _ _)); clear hr hg
  go_enter Try.func20, Try.ntmps20
  go_wp2_with fail
  refine HO.out.mono ?_
  rintro e w1 ⟨sv, bs', rfl, hd, hb1, hs1⟩
  have HD := Lib.hid hd
  clear hd HO
  go_wp2_with fail
  refine (l20Records_any W sv bs' _ _ _ _ HD.out (by omega) (by omega) (by omega)).mono ?_
  rintro e w3 ⟨v, xss, rfl, ho, hf, hd, hg⟩
  have hR := ho.rd
  have hb := hd.below
  clear ho hd hg
  go_wp2_with fail
  go_ret
  exact ⟨_, xss, rfl, hR, hf, hb⟩
end Go.Proofs.Ytdflpildopefaaa
