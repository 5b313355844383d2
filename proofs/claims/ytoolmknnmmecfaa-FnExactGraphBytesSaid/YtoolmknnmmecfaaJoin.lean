/-
  Frames one behind the other: JoinFrames, the program's function and the reference's.
-/
import Derived.Test.YtoolmknnmmecfaaFrame
import Derived.Test.YtoolmknnmmecfaaScanP
import Derived.Test.YtoolmknnmmecfaaIntSS
namespace Go.Proofs.Ytoolmknnmmecfaa
open Go.RowKit
set_option linter.unusedVariables false

/-- The first k records can be joined. -/
def JoinTo (bs : List (List Int)) (k : Nat) : Prop := (∀ b ∈ bs.take k, bodyOk b = true) ∧ (joinL (bs.take k)).length ≤ 2000
theorem JoinTo.zero (bs : List (List Int)) : JoinTo bs 0 := ⟨fun b h => by simp at h, by simp [joinL]⟩
theorem joinL_snoc (bs : List (List Int)) (k : Nat) (h : k < bs.length) : joinL (bs.take (k + 1)) = joinL (bs.take k) ++ frameOf (bs.getD k []) := by
  rw [rowTake_snoc bs k h, joinL_append, joinL_one]
theorem JoinTo.succ {bs : List (List Int)} {k : Nat} (h : JoinTo bs k) (hk : k < bs.length) (hb : bodyOk (bs.getD k []) = true) (hl : (joinL (bs.take k)).length + (frameOf (bs.getD k [])).length ≤ 2000) : JoinTo bs (k + 1) := by
  refine ⟨fun b hb' => ?_, by rw [joinL_snoc bs k hk, List.length_append]; exact hl⟩
  rw [rowTake_snoc bs k hk] at hb'
  rcases List.mem_append.1 hb' with h1 | h1
  · exact h.1 b h1
  · simp at h1; subst h1; simpa [hk] using hb
theorem rowD_mem {bs : List (List Int)} {k : Nat} (h : k < bs.length) : bs.getD k [] ∈ bs := by simp [h]
theorem joinOk_noBody {bs : List (List Int)} {k : Nat} (hk : k < bs.length) (h : bodyOk (bs.getD k []) = false) : joinOk bs = false := by
  rw [Bool.eq_false_iff]; intro hj
  simp only [joinOk, Bool.and_eq_true, List.all_eq_true] at hj
  rw [hj.1 _ (rowD_mem hk)] at h; cases h
theorem joinL_le (bs : List (List Int)) (k : Nat) : (joinL (bs.take k)).length ≤ (joinL bs).length := by
  have : joinL bs = joinL (bs.take k) ++ joinL (bs.drop k) := by rw [← joinL_append, List.take_append_drop]
  rw [this, List.length_append]; omega
theorem joinOk_noLen {bs : List (List Int)} {k : Nat} (hk : k < bs.length) (h : 2000 < (joinL (bs.take k)).length + (frameOf (bs.getD k [])).length) : joinOk bs = false := by
  rw [Bool.eq_false_iff]; intro hj
  simp only [joinOk, Bool.and_eq_true, decide_eq_true_eq] at hj
  have h1 := joinL_le bs (k + 1)
  rw [joinL_snoc bs k hk, List.length_append] at h1
  omega
theorem joinOk_of {bs : List (List Int)} (h : JoinTo bs bs.length) : joinOk bs = true := by
  obtain ⟨h1, h2⟩ := h
  rw [List.take_of_length_le (Nat.le_refl _)] at h1 h2
  simp only [joinOk, Bool.and_eq_true, List.all_eq_true, decide_eq_true_eq]
  exact ⟨h1, h2⟩
/-- What JoinFrames hands back. -/
def joinB (bs : List (List Int)) : List Int := if joinOk bs = true then joinL bs else []
theorem joinB_yes {bs : List (List Int)} (h : joinOk bs = true) : joinB bs = joinL bs := by rw [joinB, if_pos h]
theorem joinB_no {bs : List (List Int)} (h : joinOk bs = false) : joinB bs = [] := by rw [joinB, if_neg (by simp [h])]
theorem joinB_length (bs : List (List Int)) : (joinB bs).length ≤ 2000 := by
  unfold joinB; split
  · rename_i h; simp only [joinOk, Bool.and_eq_true, decide_eq_true_eq] at h; exact h.2
  · simp
def RetJ (w : World) (bs : List (List Int)) (e : Ending) (w' : World) : Prop :=
  ∃ v, e = .returned (.tuple #[v, .bool (joinOk bs)]) ∧ OwIntS w.heap.size w'.heap.size w' v (joinB bs) ∧ Below w.heap.size w w'
theorem RetJ.no {w w' : World} {bs : List (List Int)} (h : joinOk bs = false) (hb : Below w.heap.size w w') (a : Option Addr) : RetJ w bs (.returned (.tuple #[.slice a 0 0, .bool false])) w' :=
  ⟨_, by rw [h], by rw [joinB_no h]; exact Ow.nil _ _ _ _ _ _, hb⟩
theorem RetJ.yes {w w' : World} {bs : List (List Int)} (h : JoinTo bs bs.length) (hb : Below w.heap.size w w') {v : Value} (ho : w'.ownsRow w.heap.size 3 1 v (joinL (bs.take bs.length)).length (ints (joinL (bs.take bs.length)))) : RetJ w bs (.returned (.tuple #[v, .bool true])) w' := by
  have hj := joinOk_of h
  rw [List.take_of_length_le (Nat.le_refl _)] at ho
  exact ⟨_, by rw [hj], by rw [joinB_yes hj]; exact Ow.of_row ho, hb⟩
/-- What owns elements is no nil. -/
theorem ow_form {lo hi : Nat} {w : World} {e : TypeId} {size n : Nat} {v : Value} {cs : List Value} (h : Ow lo hi w e size v n cs) (hn : 0 < n) : ∃ g cap, v = .slice (some ⟨g, 0, none⟩) n cap ∧ lo ≤ g ∧ g < hi ∧ n ≤ cap ∧ cap ≤ 9223372036854775807 := by
  rcases h with ⟨rfl, _⟩ | ⟨_, g, cap, cur, rfl, hb, hh, hg, hn, hm, hs, ht⟩
  · omega
  · exact ⟨g, cap, rfl, hb, hh, hn, by unfold maxLen at hm; omega⟩

set_option maxRecDepth 100000 in
set_option maxHeartbeats 1000000 in
theorem implFrameOf_no (w : World) (va : Value) (xs : List Int) (ha : Rd w 1 va xs.length (ints xs)) (hok : bodyOk xs = false) :
    Calls Try.prog 69 #[va] w fun e w' => e = .returned (.slice none 0 0) ∧ Below w.heap.size w w' := by
  have C := Lib.hid (bodyValid_any w va xs ha)
  obtain ⟨a, c, rfl, hc, hm⟩ := ha.form
  clear ha
  rw [hok] at C
  clear hok
  go_enter Try.func69, Try.ntmps69
  go_wp2_with fail
  refine C.out.mono ?_
  rintro e w1 ⟨rfl, hb⟩
  have HB := Lib.hid hb; clear hb C
  go_wp2_with fail
  go_ret
  exact ⟨rfl, HB.out⟩

set_option maxRecDepth 100000 in
set_option maxHeartbeats 2000000 in
theorem implJoinFrames_any (w : World) (va : Value) (bss : List (List Int)) (h : RdIntSS w va bss) (hs : ∀ k, k < bss.length → (bss.getD k []).length ≤ 1099511627776) :
    Calls Try.prog 53 #[va] w (RetJ w bss) := by
  have HR := Lib.hid h
  obtain ⟨a, c, rfl, hc, hm⟩ := h.form
  clear h
  have HNB := Lib.hid fun k => @joinOk_noBody bss k
  have HNL := Lib.hid fun k => @joinOk_noLen bss k
  have HSN := Lib.hid (joinL_snoc bss)
  have HJS := Lib.hid fun k => @JoinTo.succ bss k
  have HY := Lib.hid fun (w' : World) h1 h2 v h3 => @RetJ.yes w w' bss h1 h2 v h3
  have HS := Lib.hid hs; clear hs
  generalize hn : bss.length = n at *
  have HN := Lib.hid hn; clear hn
  go_enter Try.func53, Try.ntmps53
  go_wp2_with fail
  go_loopw [4, 10] (fun v i wr => ∃ k : Nat, k ≤ n ∧ i = .int .i64 k ∧ Hid (JoinTo bss k) ∧ Hid (wr.ownsRow w.heap.size 3 1 v (joinL (bss.take k)).length (ints (joinL (bss.take k)))) ∧ Hid (Below w.heap.size w wr)) (fun _ i _ => n - (intOf i).toNat)
  case atStart => exact ⟨0, Nat.zero_le _, rfl, Lib.hid (JoinTo.zero _), Lib.hid (World.ownsRow_nil _ _ _ _), Lib.hid (Below.refl _ _)⟩
  case round =>
    obtain ⟨k, hk, rfl, HJ, HO, HB⟩ := hrel
    obtain ⟨a0, c0, ev, _, _⟩ := (Rd.of_own HO.out).form
    subst ev
    have hwr := HB.out.size
    by_cases hlt : k < n
    · obtain ⟨b, off, u, rfl, hb, hcell, hrd⟩ := HR.out.at_ HN.out hlt
      obtain ⟨a2, c2, rfl, hc2, hm2⟩ := hrd.form
      have h1 := (HB.out.cell (p := ⟨b, off + k, none⟩) hb).trans hcell
      have HRU := Lib.hid (hrd.keep HB.out)
      have HK := Lib.hid (HS.out k hlt)
      have HSK := Lib.hid (HSN.out k hlt)
      have HNBk := Lib.hid (HNB.out k hlt)
      have HNLk := Lib.hid (HNL.out k hlt)
      have HJSk := Lib.hid (HJS.out k HJ.out hlt)
      have hm0 := HJ.out.2
      clear hcell hrd
      generalize bss.getD k [] = body at *
      generalize hm' : (joinL (bss.take k)).length = m at *
      have HM := Lib.hid hm'; clear hm'
      by_cases hok : bodyOk body = true
      · have CF := Lib.hid (implFrameOf_any wr _ body HRU.out HK.out)
        have HFL := Lib.hid (frameOf_len hok)
        have hfl := frameOf_length body
        have HJS2 := Lib.hid (HJSk.out hok)
        have hpos : 0 < (frameOf body).length := by rw [HFL.out]; omega
        clear HNBk HJSk hok
        generalize frameOf body = fr at *
        generalize hfl' : fr.length = fl at *
        have HFL2 := Lib.hid hfl'; clear hfl'
        go_wp2_with fail
        refine CF.out.mono ?_
        rintro e w2 ⟨v2, rfl, ho2, hb2⟩
        rw [HFL2.out] at ho2
        obtain ⟨g2, cap2, rfl, hg2, hg3, hnc2, hmc2⟩ := ow_form ho2 hpos
        have HR2 := Lib.hid ho2.rd
        replace HO := Lib.hid (ownsRow_keep HO.out hb2)
        replace HB := Lib.hid (HB.out.trans (hb2.mono hwr))
        have hw2 := HB.out.size
        clear ho2 hb2 CF
        have hq := fun wx => Lib.run_eql_slice_nil (P := Try.prog) wx 43 3 (some ⟨g2, 0, none⟩) fl cap2 0 0 Try.underlying43
        by_cases hfit : m + fl ≤ 2000
        · have t1 : decide ((m : Int) + (fl : Int) > 2000) = false := by simp; omega
          go_wp2_with (at_builtin; refine wpList_pushAllB rfl _ _ 43 3 rfl (.int .i64 0) 1 8 Try.underlying43 infoInt rfl (by decide) (by decide) w.heap.size _ _ _ HO.out rfl (.slice (some ⟨g2, 0, none⟩) fl cap2) fl (ints fr) HR2.out rfl (ints_one fr) (by omega) (by omega) hw2 ?_; intro v5 w5 hown5 hbel5 hne5; have HO5 := Lib.hid hown5; have HB5 := Lib.hid (HB.out.trans hbel5); clear hown5 hbel5 hne5)
          go_roundw
          case rel =>
            refine ⟨k + 1, by omega, by go_num, Lib.hid (HJS2.out hfit), ?_, HB5⟩
            rw [HSK.out, List.length_append, HM.out, HFL2.out, ints_append]; exact HO5
          case measure => simp [intOf]; omega
        · have t1 : decide ((m : Int) + (fl : Int) > 2000) = true := by simp; omega
          go_wp2_with fail
          go_ret2
          exact RetJ.no (HNLk.out (by omega)) HB.out _
      · have hok : bodyOk body = false := by simpa using hok
        have CF := Lib.hid (implFrameOf_no wr _ body HRU.out hok)
        have HJN := Lib.hid (HNBk.out hok)
        clear hok HNBk HNLk HJSk
        go_wp2_with fail
        refine CF.out.mono ?_
        rintro e w2 ⟨rfl, hb2⟩
        replace HB := Lib.hid (HB.out.trans (hb2.mono hwr))
        clear hb2 CF
        have hq := fun wx => Lib.run_eql_slice_nil (P := Try.prog) wx 43 3 none 0 0 0 0 Try.underlying43
        go_wp2_with fail
        go_ret2
        exact RetJ.no HJN.out HB.out _
    · obtain rfl : k = n := by omega
      go_wp2_with fail
      go_ret2
      exact HY.out _ HJ.out HB.out _ HO.out

set_option maxRecDepth 100000 in
set_option maxHeartbeats 2000000 in
theorem specJoinFrames_any (w : World) (va : Value) (bss : List (List Int)) (h : RdIntSS w va bss) (hs : ∀ k, k < bss.length → (bss.getD k []).length ≤ 1099511627776) :
    Calls Try.prog 50 #[va] w (RetJ w bss) := by
  have HR := Lib.hid h
  obtain ⟨a, c, rfl, hc, hm⟩ := h.form
  clear h
  have HNB := Lib.hid fun k => @joinOk_noBody bss k
  have HNL := Lib.hid fun k => @joinOk_noLen bss k
  have HSN := Lib.hid (joinL_snoc bss)
  have HJS := Lib.hid fun k => @JoinTo.succ bss k
  have HY := Lib.hid fun (w' : World) h1 h2 v h3 => @RetJ.yes w w' bss h1 h2 v h3
  have HS := Lib.hid hs; clear hs
  generalize hn : bss.length = n at *
  have HN := Lib.hid hn; clear hn
  go_enter Try.func50, Try.ntmps50
  go_wp2_with fail
  go_loopw [4, 5] (fun v i wr => ∃ k : Nat, k ≤ n ∧ i = .int .i64 k ∧ Hid (JoinTo bss k) ∧ Hid (wr.ownsRow w.heap.size 3 1 v (joinL (bss.take k)).length (ints (joinL (bss.take k)))) ∧ Hid (Below w.heap.size w wr)) (fun _ i _ => n - (intOf i).toNat)
  case atStart => exact ⟨0, Nat.zero_le _, rfl, Lib.hid (JoinTo.zero _), Lib.hid (World.ownsRow_made (size := 1) w #[] 0 (Nat.le_refl _) (by decide) rfl), Lib.hid ((Below.refl _ _).alloc (Nat.le_refl _) _)⟩
  case round =>
    obtain ⟨k, hk, rfl, HJ, HO, HB⟩ := hrel
    obtain ⟨a0, c0, ev, _, _⟩ := (Rd.of_own HO.out).form
    subst ev
    have hwr := HB.out.size
    by_cases hlt : k < n
    · obtain ⟨b, off, u, rfl, hb, hcell, hrd⟩ := HR.out.at_ HN.out hlt
      obtain ⟨a2, c2, rfl, hc2, hm2⟩ := hrd.form
      have h1 := (HB.out.cell (p := ⟨b, off + k, none⟩) hb).trans hcell
      have HRU := Lib.hid (hrd.keep HB.out)
      have HK := Lib.hid (HS.out k hlt)
      have HSK := Lib.hid (HSN.out k hlt)
      have HNBk := Lib.hid (HNB.out k hlt)
      have HNLk := Lib.hid (HNL.out k hlt)
      have HJSk := Lib.hid (HJS.out k HJ.out hlt)
      have hm0 := HJ.out.2
      clear hcell hrd
      generalize bss.getD k [] = body at *
      generalize hm' : (joinL (bss.take k)).length = m at *
      have HM := Lib.hid hm'; clear hm'
      have CF := Lib.hid (specFrameOf_any wr _ body HRU.out HK.out)
      by_cases hok : bodyOk body = true
      · have HFL := Lib.hid (frameOf_len hok)
        have hfl := frameOf_length body
        have HJS2 := Lib.hid (HJSk.out hok)
        have hpos : 0 < (frameOf body).length := by rw [HFL.out]; omega
        clear HNBk HJSk hok
        generalize frameOf body = fr at *
        generalize hfl' : fr.length = fl at *
        have HFL2 := Lib.hid hfl'; clear hfl'
        go_wp2_with fail
        refine CF.out.mono ?_
        rintro e w2 ⟨v2, rfl, ho2, hb2⟩
        rw [HFL2.out] at ho2
        obtain ⟨g2, cap2, rfl, hg2, hg3, hnc2, hmc2⟩ := ow_form ho2 hpos
        have HR2 := Lib.hid ho2.rd
        replace HO := Lib.hid (ownsRow_keep HO.out hb2)
        replace HB := Lib.hid (HB.out.trans (hb2.mono hwr))
        have hw2 := HB.out.size
        have t0 : ((fl : Int) == 0) = false := by rw [beq_eq_false_iff_ne]; omega
        clear ho2 hb2 CF
        by_cases hfit : m + fl ≤ 2000
        · have t1 : decide ((m : Int) + (fl : Int) > 2000) = false := by simp; omega
          go_wp2_with (at_builtin; refine wpList_pushAllB rfl _ _ 43 3 rfl (.int .i64 0) 1 8 Try.underlying43 infoInt rfl (by decide) (by decide) w.heap.size _ _ _ HO.out rfl (.slice (some ⟨g2, 0, none⟩) fl cap2) fl (ints fr) HR2.out rfl (ints_one fr) (by omega) (by omega) hw2 ?_; intro v5 w5 hown5 hbel5 hne5; have HO5 := Lib.hid hown5; have HB5 := Lib.hid (HB.out.trans hbel5); clear hown5 hbel5 hne5)
          go_roundw
          case rel =>
            refine ⟨k + 1, by omega, by go_num, Lib.hid (HJS2.out hfit), ?_, HB5⟩
            rw [HSK.out, List.length_append, HM.out, HFL2.out, ints_append]; exact HO5
          case measure => simp [intOf]; omega
        · have t1 : decide ((m : Int) + (fl : Int) > 2000) = true := by simp; omega
          go_wp2_with fail
          go_ret2
          exact RetJ.no (HNLk.out (by omega)) (HB.out.alloc hw2 _) _
      · have hok : bodyOk body = false := by simpa using hok
        rw [frameOf_no hok] at CF
        have HJN := Lib.hid (HNBk.out hok)
        clear hok HNBk HNLk HJSk
        go_wp2_with fail
        refine CF.out.mono ?_
        rintro e w2 ⟨v2, rfl, ho2, hb2⟩
        obtain ⟨a3, c3, rfl, _, _⟩ := ho2.rd.form
        replace HB := Lib.hid (HB.out.trans (hb2.mono hwr))
        have hw2 := HB.out.size
        clear hb2 CF ho2
        go_wp2_with fail
        go_ret2
        exact RetJ.no HJN.out (HB.out.alloc hw2 _) _
    · obtain rfl : k = n := by omega
      go_wp2_with fail
      go_ret2
      exact HY.out _ HJ.out HB.out _ HO.out
end Go.Proofs.Ytoolmknnmmecfaa
