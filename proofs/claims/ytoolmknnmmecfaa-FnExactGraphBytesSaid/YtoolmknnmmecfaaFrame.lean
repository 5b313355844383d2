/-
  The frame of a record: the program's function and the reference's.
-/
import Derived.Test.YtoolmknnmmecfaaFrameP
import Derived.Test.YtoolmknnmmecfaaBytes
import Derived.Test.YtoolmknnmmecfaaNum
import Derived.Test.YtoolmknnmmecfaaLib3
namespace Go.Proofs.Ytoolmknnmmecfaa
open Go.RowKit

theorem bodyOk_bad {xs : List Int} (h : bytesOk xs = false) : bodyOk xs = false := by simp [bodyOk, h]
theorem bodyOk_short {xs : List Int} (h : ¬ (1 ≤ xs.length ∧ xs.length ≤ 100)) : bodyOk xs = false := by
  rw [Bool.eq_false_iff]; intro hb
  simp only [bodyOk, Bool.and_eq_true, decide_eq_true_eq] at hb
  exact h hb.1
theorem bodyOk_good {xs : List Int} (h1 : 1 ≤ xs.length) (h2 : xs.length ≤ 100) (h : bytesOk xs = true) : bodyOk xs = true := by simp [bodyOk, h, h1, h2]
theorem frameOf_no {xs : List Int} (h : bodyOk xs = false) : frameOf xs = [] := by rw [frameOf, if_neg (by simp [h])]
theorem frameOf_yes {xs : List Int} (h : bodyOk xs = true) : frameOf xs = (xs.length : Int) :: (xs ++ [sumTo xs]) := by rw [frameOf, if_pos h]
theorem checkSum_ok {xs : List Int} (h : bytesOk xs = true) : checkSum xs = sumTo xs := by rw [checkSum, if_pos h]

set_option maxHeartbeats 1000000 in
theorem bodyValid_any (w : World) (va : Value) (xs : List Int) (ha : Rd w 1 va xs.length (ints xs)) :
    Calls Try.prog 73 #[va] w fun e w' => e = .returned (.bool (bodyOk xs)) ∧ Below w.heap.size w w' := by
  have C := Lib.hid (implBytesValid_any w va xs ha)
  obtain ⟨a, c, rfl, hc, hm⟩ := ha.form
  clear ha
  by_cases h1 : 1 ≤ xs.length
  · by_cases h2 : xs.length ≤ 100
    · have e : bodyOk xs = bytesOk xs := by simp [bodyOk, h1, h2]
      rw [e]
      generalize bytesOk xs = b at *
      clear e
      generalize xs.length = n at *
      go_enter Try.func73, Try.ntmps73
      go_wp2_with fail
      refine C.out.mono ?_
      rintro e w1 ⟨rfl, hb⟩
      have HB := Lib.hid hb; clear hb
      go_wp2_with fail
      go_ret
      exact ⟨rfl, HB.out⟩
    · rw [bodyOk_short (by omega)]
      clear C
      generalize xs.length = n at *
      have t : decide ((n : Int) ≤ 100) = false := by simp; omega
      go_enter Try.func73, Try.ntmps73
      go_wp2_with fail
      go_ret
      exact ⟨rfl, Below.refl _ _⟩
  · rw [bodyOk_short (by omega)]
    clear C
    generalize xs.length = n at *
    have t : decide ((n : Int) ≥ 1) = false := by simp; omega
    go_enter Try.func73, Try.ntmps73
    go_wp2_with fail
    go_ret
    exact ⟨rfl, Below.refl _ _⟩

set_option maxRecDepth 100000 in
set_option maxHeartbeats 2000000 in
theorem specFrameOf_any (w : World) (va : Value) (xs : List Int) (ha : Rd w 1 va xs.length (ints xs)) (hs : xs.length ≤ 1099511627776) :
    Calls Try.prog 66 #[va] w (RetI w (frameOf xs)) := by
  have C := Lib.hid (specBytesValid_any w va xs ha)
  have HR := Lib.hid ha
  obtain ⟨a, c, rfl, hc, hm⟩ := ha.form
  clear ha
  by_cases hok : bytesOk xs = true
  · by_cases h : 1 ≤ xs.length ∧ xs.length ≤ 100
    · rw [frameOf_yes (bodyOk_good h.1 h.2 hok)]
      have CS := Lib.hid fun wx (h : Rd wx 1 (.slice a xs.length c) xs.length (ints xs)) => specCheckSum_any wx _ xs h
      rw [checkSum_ok hok] at CS
      rw [hok] at C
      clear hok
      obtain ⟨h1, h2⟩ := h
      generalize sumTo xs = s at *
      generalize hn : xs.length = n at *
      have HN := Lib.hid hn; clear hn
      go_enter Try.func66, Try.ntmps66
      go_wp2_with fail
      refine C.out.mono ?_
      rintro e w1 ⟨rfl, hb⟩
      have HB := Lib.hid hb; replace HR := Lib.hid (HR.out.keep hb); clear hb C
      go_wp2_with fail
      refine (l1In_any _ _ _ _).mono ?_
      rw [show decide ((1 : Int) ≤ (n : Int) ∧ (n : Int) ≤ 100) = true from by simp; omega]
      rintro e w2 ⟨rfl, rfl⟩
      have hsz := HB.out.size
      go_wp2_with (first
        | (at_builtin; refine wpList_pushAllB rfl _ _ 43 3 rfl (.int .i64 0) 1 8 Try.underlying43 infoInt rfl (by decide) (by decide) w1.heap.size _ 1 [.int .i64 n] (ownsRow_lit w1 #[.int .i64 n] 1 (Nat.le_refl _) (by decide) rfl) rfl (.slice a n c) n (ints xs) (HR.out.keep ((Below.refl _ _).alloc (Nat.le_refl _) _)) rfl (ints_one xs) (by omega) (by omega) (by simp) ?_; intro v5 w5 hown5 hbel5 hne5; have HO := Lib.hid hown5; have HB5 := Lib.hid (((Below.refl _ _).alloc (Nat.le_refl _) _).trans hbel5); replace HR := Lib.hid (HR.out.keep HB5.out); have hz5 := HB5.out.size; clear hown5 hbel5 hne5)
        | fail)
      refine (CS.out _ HR.out).mono ?_
      rintro e w6 ⟨rfl, hb⟩
      replace HO := Lib.hid (ownsRow_keep HO.out hb); replace HB5 := Lib.hid (HB5.out.trans (hb.mono hz5)); have hz6 := HB5.out.size; clear hb
      go_wp2_with (at_builtin; refine wpList_pushB rfl _ _ 43 3 rfl (.int .i64 0) 1 8 Try.underlying43 infoInt rfl (by decide) (by decide) #[.int .i64 s] rfl (by simp [Value.oneCell']) w1.heap.size _ _ _ HO.out rfl rfl (by omega) hz6 ?_; intro v7 w7 hown7 hbel7 hne7; have HO7 := Lib.hid hown7; have HB7 := Lib.hid (HB5.out.trans hbel7); clear hown7 hbel7 hne7)
      go_ret
      refine ⟨_, rfl, ?_, HB.out.trans (HB7.out.mono hsz)⟩
      have h8 := (Ow.of_row HO7.out).mono hsz (Nat.le_refl _)
      have e1 : (↑n :: (xs ++ [s])).length = 1 + n + 1 := by simp [HN.out]; omega
      have e2 : ints (↑n :: (xs ++ [s])) = [.int .i64 (n : Int)] ++ ints xs ++ #[Value.int .i64 s].toList := by simp [ints]
      rw [e1, e2]; exact h8
    · rw [frameOf_no (bodyOk_short h)]
      rw [hok] at C
      clear hok HR
      generalize xs.length = n at *
      go_enter Try.func66, Try.ntmps66
      go_wp2_with fail
      refine C.out.mono ?_
      rintro e w1 ⟨rfl, hb⟩
      have HB := Lib.hid hb; clear hb C
      go_wp2_with fail
      refine (l1In_any _ _ _ _).mono ?_
      rw [show decide ((1 : Int) ≤ (n : Int) ∧ (n : Int) ≤ 100) = false from by simp; omega]
      rintro e w2 ⟨rfl, rfl⟩
      go_wp2_with fail
      go_ret
      exact ⟨_, rfl, ow_nil_ret (HB.out.alloc HB.out.size _) _ _ _⟩
  · have hok : bytesOk xs = false := by simpa using hok
    rw [frameOf_no (bodyOk_bad hok)]
    rw [hok] at C
    clear hok HR
    go_enter Try.func66, Try.ntmps66
    go_wp2_with fail
    refine C.out.mono ?_
    rintro e w1 ⟨rfl, hb⟩
    have HB := Lib.hid hb; clear hb C
    go_wp2_with fail
    go_ret
    exact ⟨_, rfl, ow_nil_ret (HB.out.alloc HB.out.size _) _ _ _⟩

set_option maxRecDepth 100000 in
set_option maxHeartbeats 2000000 in
theorem implFrameOf_any (w : World) (va : Value) (xs : List Int) (ha : Rd w 1 va xs.length (ints xs)) (hs : xs.length ≤ 1099511627776) :
    Calls Try.prog 69 #[va] w (RetI w (frameOf xs)) := by
  have C := Lib.hid (bodyValid_any w va xs ha)
  have HR := Lib.hid ha
  obtain ⟨a, c, rfl, hc, hm⟩ := ha.form
  clear ha
  by_cases hok : bodyOk xs = true
  · rw [frameOf_yes hok]
    have h : 1 ≤ xs.length ∧ xs.length ≤ 100 ∧ bytesOk xs = true := by simpa [bodyOk, and_assoc] using hok
    have CS := Lib.hid fun wx (h : Rd wx 1 (.slice a xs.length c) xs.length (ints xs)) => implCheckSum_any wx _ xs h
    rw [checkSum_ok h.2.2] at CS
    rw [hok] at C
    obtain ⟨h1, h2, -⟩ := h
    clear hok
    generalize sumTo xs = s at *
    generalize hn : xs.length = n at *
    have HN := Lib.hid hn; clear hn
    obtain ⟨i0, hi, hz0, hz1, hz2⟩ := info_parts infoInt
    have Hi := Lib.hid hi; have Hz0 := Lib.hid hz0; have Hz1 := Lib.hid hz1; have Hz2 := Lib.hid hz2; clear hi hz0 hz1 hz2
    go_enter Try.func69, Try.ntmps69
    go_wp2_with fail
    refine C.out.mono ?_
    rintro e w1 ⟨rfl, hb⟩
    have HB := Lib.hid hb; replace HR := Lib.hid (HR.out.keep hb); clear hb C
    have hsz := HB.out.size
    go_wp2_with (first
      | (at_make; refine wpList_make_own _ rfl _ _ 43 rfl w1.heap.size 3 i0 (.int .i64 0) 1 Try.underlying43 Hi.out Hz0.out Hz1.out _ _ _ (n + 2) rfl rfl (by simp) (by rw [Hz2.out]; omega) (by unfold maxLen; omega) (Nat.le_refl _) ?_; intro w3 hown3 hgrow3; have HO := Lib.hid hown3; have HB3 := Lib.hid ((Below.refl w1.heap.size w1).grown hgrow3 (Nat.le_refl _) (by intro k hk; cases hk)); have hz3 := HB3.out.size; clear hown3 hgrow3)
      | (at_builtin; refine wpList_pushB rfl _ _ 43 3 rfl (.int .i64 0) 1 8 Try.underlying43 infoInt rfl (by decide) (by decide) #[.int .i64 n] rfl (by simp [Value.oneCell']) w1.heap.size _ _ _ HO.out rfl rfl (by omega) hz3 ?_; intro v4 w4 hown4 hbel4 hne4; have HO4 := Lib.hid hown4; have HB4 := Lib.hid (HB3.out.trans hbel4); have hz4 := HB4.out.size; clear hown4 hbel4 hne4)
      | (at_builtin; refine wpList_pushAllB rfl _ _ 43 3 rfl (.int .i64 0) 1 8 Try.underlying43 infoInt rfl (by decide) (by decide) w1.heap.size _ _ _ HO4.out rfl (.slice a n c) n (ints xs) (HR.out.keep HB4.out) rfl (ints_one xs) (by omega) (by omega) hz4 ?_; intro v5 w5 hown5 hbel5 hne5; have HO5 := Lib.hid hown5; have HB5 := Lib.hid (HB4.out.trans hbel5); have hz5 := HB5.out.size; clear hown5 hbel5 hne5))
    refine (CS.out _ (HR.out.keep HB5.out)).mono ?_
    rintro e w6 ⟨rfl, hb⟩
    replace HO := Lib.hid (ownsRow_keep HO5.out hb); have HB6 := Lib.hid (HB5.out.trans (hb.mono hz5)); have hz6 := HB6.out.size; clear hb
    go_wp2_with (at_builtin; refine wpList_pushB rfl _ _ 43 3 rfl (.int .i64 0) 1 8 Try.underlying43 infoInt rfl (by decide) (by decide) #[.int .i64 s] rfl (by simp [Value.oneCell']) w1.heap.size _ _ _ HO.out rfl rfl (by omega) hz6 ?_; intro v7 w7 hown7 hbel7 hne7; have HO7 := Lib.hid hown7; have HB7 := Lib.hid (HB6.out.trans hbel7); clear hown7 hbel7 hne7)
    go_ret
    refine ⟨_, rfl, ?_, HB.out.trans (HB7.out.mono hsz)⟩
    have h8 := (Ow.of_row HO7.out).mono hsz (Nat.le_refl _)
    have e1 : (↑n :: (xs ++ [s])).length = 0 + 1 + n + 1 := by simp [HN.out]; omega
    have e2 : ints (↑n :: (xs ++ [s])) = [] ++ #[Value.int .i64 (n : Int)].toList ++ ints xs ++ #[Value.int .i64 s].toList := by simp [ints]
    rw [e1, e2]; exact h8
  · have hok : bodyOk xs = false := by simpa using hok
    rw [frameOf_no hok]
    rw [hok] at C
    clear hok HR
    go_enter Try.func69, Try.ntmps69
    go_wp2_with fail
    refine C.out.mono ?_
    rintro e w1 ⟨rfl, hb⟩
    have HB := Lib.hid hb; clear hb C
    go_wp2_with fail
    go_ret
    exact ⟨_, rfl, ow_nil_ret HB.out _ _ _⟩
end Go.Proofs.Ytoolmknnmmecfaa
