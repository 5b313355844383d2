/-
  The record of the frame at a place: the program's function and the reference's.
-/
import Derived.Test.YtdflpildopefaaaFrame
import Derived.WalkSpells
namespace Go.Proofs.Ytdflpildopefaaa
open Go.RowKit
set_option linter.unusedVariables false

/-- What ReadFrame hands back. -/
def RetF (w : World) (o : Option (List Int × Nat)) (e : Ending) (w' : World) : Prop :=
  ∃ v, e = .returned (.tuple #[v, .int .i64 (rfNext o), .bool o.isSome]) ∧ Ow w.heap.size w'.heap.size w' 3 1 v (rfBody o).length (ints (rfBody o)) ∧ Below w.heap.size w w'
theorem RetF.none_ {w w' : World} (h : Below w.heap.size w w') (a : Option Addr) : RetF w none (.returned (.tuple #[.slice a 0 0, .int .i64 0, .bool false])) w' := ⟨_, rfl, Ow.nil _ _ _ _ _ _, h⟩
theorem frameAt_no {xs : List Int} {p : Nat} (h : frameB xs p = false) : frameAt xs p = none := by rw [frameAt, if_neg (by simp [h])]
theorem frameB_one {xs : List Int} {p : Nat} (h : ¬ (1 ≤ xs.getD p 0 ∧ xs.getD p 0 ≤ 100)) : frameB xs p = false := by
  rw [Bool.eq_false_iff]; intro hb; have := frameB_lt hb; exact h ⟨this.1, this.2.1⟩
theorem frameB_two {xs : List Int} {p : Nat} (h : xs.length ≤ p + (xs.getD p 0).toNat + 1) : frameB xs p = false := by
  rw [Bool.eq_false_iff]; intro hb; have := frameB_lt hb; omega
theorem frameB_three {xs : List Int} {p : Nat} (h : ¬ xs.getD (p + (xs.getD p 0).toNat + 1) 0 = sumTo (partOf xs (p + 1) (xs.getD p 0).toNat)) : frameB xs p = false := by
  rw [Bool.eq_false_iff]; intro hb; have := frameB_lt hb; exact h this.2.2.2
theorem frameB_yes {xs : List Int} {p : Nat} (h1 : 1 ≤ xs.getD p 0) (h2 : xs.getD p 0 ≤ 100) (h3 : p + (xs.getD p 0).toNat + 1 < xs.length) (h4 : xs.getD (p + (xs.getD p 0).toNat + 1) 0 = sumTo (partOf xs (p + 1) (xs.getD p 0).toNat)) : frameB xs p = true := by
  simp only [frameB, Bool.and_eq_true, decide_eq_true_eq]; exact ⟨⟨⟨h1, h2⟩, h3⟩, h4⟩
theorem l1In_yes (w : World) (n lo hi : Int) (h : lo ≤ n ∧ n ≤ hi) : Calls Try.prog 72 #[.int .i64 n, .int .i64 lo, .int .i64 hi] w fun e w' => e = .returned (.bool true) ∧ w = w' := by
  have := l1In_any n lo hi w
  rwa [decide_eq_true h] at this
theorem l1In_no (w : World) (n lo hi : Int) (h : ¬ (lo ≤ n ∧ n ≤ hi)) : Calls Try.prog 72 #[.int .i64 n, .int .i64 lo, .int .i64 hi] w fun e w' => e = .returned (.bool false) ∧ w = w' := by
  have := l1In_any n lo hi w
  rwa [decide_eq_false h] at this

set_option maxRecDepth 100000 in
set_option maxHeartbeats 1000000 in
theorem cloneInt_any (w : World) (va : Value) (xs : List Int) (ha : Rd w 1 va xs.length (ints xs)) (hs : xs.length ≤ 1099511627776) : Calls Try.prog 68 #[va] w (RetI w xs) := by
  have HR := Lib.hid ha
  obtain ⟨hl, a, c, rfl, hc, hm, hcell⟩ := ha
  cases a with
  | none =>
    have h0 : xs = [] := by
      rcases hcell with h | ⟨b, off, h, _⟩
      · simpa [ints] using h
      · cases h
    subst h0
    clear hcell HR hc hl hs
    have hq := fun wx => Lib.run_eql_slice_nil (P := Try.prog) wx 23 3 none 0 c 0 0 Try.underlying23
    show Calls Try.prog 68 #[.slice none 0 c] w (RetI w [])
    go_enter Try.func68, Try.ntmps68
    go_wp2_with fail
    go_ret
    exact ⟨_, rfl, Ow.nil _ _ _ _ _ _, Below.refl _ _⟩
  | some ad =>
    clear hcell hl
    generalize hn : xs.length = n at *
    have HN := Lib.hid hn; clear hn
    have hq := fun wx => Lib.run_eql_slice_nil (P := Try.prog) wx 23 3 (some ad) n c 0 0 Try.underlying23
    go_enter Try.func68, Try.ntmps68
    go_wp2_with (at_builtin; refine wpList_pushAllB rfl _ _ 23 3 rfl (.int .i64 0) 1 8 Try.underlying23 infoInt rfl (by decide) (by decide) w.heap.size _ 0 [] (World.ownsRow_made (size := 1) w #[] 0 (Nat.le_refl _) (by decide) rfl) rfl (.slice (some ad) n c) n (ints xs) (HR.out.keep ((Below.refl _ _).alloc (Nat.le_refl _) _)) rfl (ints_one xs) (by omega) (by omega) (by simp) ?_; intro v5 w5 hown5 hbel5 hne5; have HO := Lib.hid hown5; have HB5 := Lib.hid (((Below.refl _ _).alloc (Nat.le_refl _) _).trans hbel5); clear hown5 hbel5 hne5)
    go_ret
    refine ⟨_, rfl, ?_, HB5.out⟩
    have h := Ow.of_row HO.out
    rw [Nat.zero_add, List.nil_append] at h
    rw [HN.out]; exact h

set_option maxRecDepth 100000 in
set_option maxHeartbeats 4000000 in
theorem specReadFrame_any (w : World) (va : Value) (xs : List Int) (p : Int) (ha : Rd w 1 va xs.length (ints xs)) (hs : xs.length ≤ 1099511627776) (hp : In64 p) :
    Calls Try.prog 37 #[va, .int .i64 p] w (RetF w (readF xs p)) := by
  have C := Lib.hid (specBytesValid_any w va xs ha)
  have HR := Lib.hid ha
  obtain ⟨a, c, rfl, hc, hm⟩ := ha.form
  clear ha
  obtain ⟨p0, p1⟩ := hp
  by_cases hok : bytesOk xs = true
  case neg =>
    have hok : bytesOk xs = false := by simpa using hok
    rw [readF_bad hok]
    rw [hok] at C
    clear hok HR p0 p1
    go_enter Try.func37, Try.ntmps37
    go_wp2_with fail
    refine C.out.mono ?_
    rintro e w1 ⟨rfl, hb⟩
    have HB := Lib.hid hb; clear hb C
    go_wp2_with fail
    go_ret3
    exact RetF.none_ (HB.out.alloc HB.out.size _) _
  case pos =>
  rw [hok] at C
  have hl2 := (bytesOk_rng hok).1
  have HRNG := Lib.hid (bytesOk_rng hok).2
  by_cases hin : 0 ≤ p ∧ p ≤ (xs.length : Int) - 1
  case neg =>
    have e : readF xs p = none := by
      by_cases h0 : p < 0
      · exact readF_neg h0
      · obtain ⟨q, rfl⟩ := Int.eq_ofNat_of_zero_le (by omega : 0 ≤ p)
        rw [show ((q : Nat) : Int) = Int.ofNat q from rfl] at hin
        have := readF_at (p := q) hok
        rw [show Int.ofNat q = (q : Int) from rfl] at *
        rw [this, frameAt_no (frameB_end (by omega))]
    rw [e]
    clear hok HR e HRNG
    generalize xs.length = n at *
    go_enter Try.func37, Try.ntmps37
    go_wp2_with fail
    refine C.out.mono ?_
    rintro e w1 ⟨rfl, hb⟩
    have HB := Lib.hid hb; clear hb C
    go_wp2_with fail
    refine (l1In_no _ _ _ _ hin).mono ?_
    rintro e w' ⟨rfl, rfl⟩
    go_wp2_with fail
    go_ret3
    exact RetF.none_ (HB.out.alloc HB.out.size _) _
  case pos =>
  obtain ⟨q, rfl⟩ := Int.eq_ofNat_of_zero_le hin.1
  rw [readF_at hok]
  have hq : q < xs.length := by omega
  obtain ⟨x0, x1⟩ := HRNG.out q hq
  obtain ⟨b1, o1, rfl, hb1, h1⟩ := HR.out.at_ hq
  have HF1 := Lib.hid (frameB_one (xs := xs) (p := q))
  have HF2 := Lib.hid (frameB_two (xs := xs) (p := q))
  have HF3 := Lib.hid (frameB_three (xs := xs) (p := q))
  have HF4 := Lib.hid (frameB_yes (xs := xs) (p := q))
  have HFA : Hid (frameB xs q = true → frameAt xs q = some (partOf xs (q + 1) (xs.getD q 0).toNat, q + (xs.getD q 0).toNat + 2)) := Lib.hid fun h => by rw [frameAt, if_pos h]
  generalize hx : xs.getD q 0 = x at *
  obtain ⟨m, rfl⟩ := Int.eq_ofNat_of_zero_le x0
  rw [Int.toNat_natCast] at HF2 HF3 HF4 HFA
  clear hx
  have HOK := Lib.hid hok; clear hok
  generalize hn : xs.length = n at *
  have HN := Lib.hid hn; clear hn
  have hlen1 : (0 : Int) ≤ (q : Int) ∧ (q : Int) ≤ (n : Int) - 1 := hin
  clear hin p0 p1
  by_cases hr : 1 ≤ (m : Int) ∧ (m : Int) ≤ 100
  case neg =>
    rw [frameAt_no (HF1.out hr)]
    clear HF1 HF2 HF3 HF4 HFA HRNG HR
    have L2 := Lib.hid fun (p : GrownW w.heap.size w) => l1In_no p.v m 1 100 hr
    go_enter Try.func37, Try.ntmps37
    go_wp2_with fail
    refine C.out.mono ?_
    rintro e w1 ⟨rfl, hb⟩
    have h1' := (hb.cell (p := ⟨b1, o1 + q, none⟩) hb1).trans h1
    have HB := Lib.hid hb; clear hb C h1
    go_wp2_with fail
    refine (l1In_yes _ _ _ _ hlen1).mono ?_
    rintro e w' ⟨rfl, rfl⟩
    go_wp2_with fail
    refine wp_region_grown w1.heap.size (by kernel_rfl) (by kernel_rfl) ?_
    repeat (go_big_quiet_step ((go_at_call 72; exact GrownW.call_same (l1In_no _ _ _ _ hr))))
    refine wpQuiet_done ?_
    intro w9 hb9
    replace HB := Lib.hid (HB.out.tr hb9); clear hb9
    go_wp2_with fail
    go_ret3
    exact RetF.none_ (HB.out.alloc HB.out.size _) _
  case pos =>
  obtain ⟨r1, r2⟩ := hr
  clear HF1
  by_cases he : n ≤ q + m + 1
  case pos =>
    rw [frameAt_no (HF2.out he)]
    clear HF2 HF3 HF4 HFA HRNG HR
    have t1 : decide ((q : Int) + 1 + (m : Int) ≥ (n : Int)) = true := by simp; omega
    have T1 := Lib.hid t1; clear t1
    go_enter Try.func37, Try.ntmps37
    go_wp2_with fail
    refine C.out.mono ?_
    rintro e w1 ⟨rfl, hb⟩
    have h1' := (hb.cell (p := ⟨b1, o1 + q, none⟩) hb1).trans h1
    have HB := Lib.hid hb; clear hb C h1
    go_wp2_with fail
    refine (l1In_yes _ _ _ _ hlen1).mono ?_
    rintro e w' ⟨rfl, rfl⟩
    go_wp2_with fail
    have t1 := T1.out
    refine wp_region_grown w1.heap.size (by kernel_rfl) (by kernel_rfl) ?_
    repeat (go_big_quiet_step ((go_at_call 72; exact GrownW.call_same (l1In_yes _ _ _ _ ⟨r1, r2⟩))))
    refine wpQuiet_done ?_
    intro w9 hb9
    replace HB := Lib.hid (HB.out.tr hb9); clear hb9 t1
    go_wp2_with fail
    go_ret3
    exact RetF.none_ (HB.out.alloc HB.out.size _) _
  case neg =>
  clear HF2
  have hsub := HR.out.sub (q + 1) m (by omega)
  have hpo : bytesOk (partOf xs (q + 1) m) = true := partOf_ok HOK.out _ _
  have hpl : (partOf xs (q + 1) m).length = m := partOf_length _ _ _ (by rw [HN.out]; omega)
  have HSUB : Hid (Rd w 1 (.slice (some ⟨b1, o1 + (q + 1), none⟩) m (c - (q + 1))) m (ints (partOf xs (q + 1) m))) := Lib.hid hsub
  have CS := Lib.hid fun wx (hb : Below w.heap.size w wx) => specCheckSum_any wx (.slice (some ⟨b1, o1 + (q + 1), none⟩) m (c - (q + 1))) (partOf xs (q + 1) m) (by rw [hpl]; exact hsub.keep hb)
  rw [checkSum_ok hpo] at CS
  obtain ⟨b2, o2, eb, hb2, h2⟩ := HR.out.at_ (k := q + 1 + m) (by omega)
  simp only [Option.some.injEq, Addr.mk.injEq, and_true] at eb
  obtain ⟨rfl, rfl⟩ := eb
  rw [show q + m + 1 = q + 1 + m from by omega] at HF3 HF4
  clear hsub hpo
  generalize hbody : partOf xs (q + 1) m = body at *
  have HBODY := Lib.hid hbody; clear hbody
  generalize hy : xs.getD (q + 1 + m) 0 = y at *
  clear hy
  generalize sumTo body = s at *
  have t1 : decide ((q : Int) + 1 + (m : Int) ≥ (n : Int)) = false := by simp; omega
  have t2 : IntKind.i64.wrap ((q : Int) + 1) = (q : Int) + 1 := IntWalk.i64_in _ (by omega)
  have t3 : ((q : Int) + 1).toNat = q + 1 := by omega
  have t4 : ((q : Int) + 1 + (m : Int)).toNat = q + 1 + m := by omega
  have T1 := Lib.hid t1; have T2 := Lib.hid t2; have T3 := Lib.hid t3; have T4 := Lib.hid t4
  clear t1 t2 t3 t4
  by_cases hy : y = s
  case neg =>
    rw [frameAt_no (HF3.out hy)]
    have hne : (y != s) = true := by rw [bne_iff_ne]; exact hy
    have HNE := Lib.hid hne; clear hne hy HF3 HF4 HFA
    go_enter Try.func37, Try.ntmps37
    go_wp2_with fail
    refine C.out.mono ?_
    rintro e w1 ⟨rfl, hb⟩
    have h1' := (hb.cell (p := ⟨b1, o1 + q, none⟩) hb1).trans h1
    have h2' := (hb.cell (p := ⟨b1, o1 + (q + 1 + m), none⟩) hb1).trans h2
    have hbl1 : b1 < w1.heap.size := Nat.lt_of_lt_of_le hb1 hb.size
    have HB := Lib.hid hb; clear hb C h1 h2
    go_wp2_with fail
    refine (l1In_yes _ _ _ _ hlen1).mono ?_
    rintro e w' ⟨rfl, rfl⟩
    go_wp2_with fail
    have t1 := T1.out; have t2 := T2.out; have t3 := T3.out; have t4 := T4.out; have t5 := HNE.out
    have g2 := fun p => GrownW.cell (B := w1.heap.size) h2' hbl1 p
    refine wp_region_grown w1.heap.size (by kernel_rfl) (by kernel_rfl) ?_
    repeat (go_big_quiet_step ((first | (go_at_call 72; exact GrownW.call_same (l1In_yes _ _ _ _ ⟨r1, r2⟩)) | (go_at_call 73; exact GrownW.call (Nat.le_refl _) (CS.out _ (HB.out.tr (GrownW.h _)))))))
    refine wpQuiet_done ?_
    intro w9 hb9
    replace HB := Lib.hid (HB.out.tr hb9); clear hb9 t1 t2 t3 t4 t5 g2
    go_wp2_with fail
    go_ret3
    exact RetF.none_ (HB.out.alloc HB.out.size _) _
  case pos =>
  have hfa := HFA.out (HF4.out r1 r2 (by omega) hy)
  rw [hfa]
  subst hy
  clear HF3 HF4 HFA hfa HRNG
  have t5 : (y != y) = false := by simp
  have T5 := Lib.hid t5; clear t5
  go_enter Try.func37, Try.ntmps37
  go_wp2_with fail
  refine C.out.mono ?_
  rintro e w1 ⟨rfl, hb⟩
  have h1' := (hb.cell (p := ⟨b1, o1 + q, none⟩) hb1).trans h1
  have h2' := (hb.cell (p := ⟨b1, o1 + (q + 1 + m), none⟩) hb1).trans h2
  have hbl1 : b1 < w1.heap.size := Nat.lt_of_lt_of_le hb1 hb.size
  have HB := Lib.hid hb; clear hb C h1 h2
  go_wp2_with fail
  refine (l1In_yes _ _ _ _ hlen1).mono ?_
  rintro e w' ⟨rfl, rfl⟩
  go_wp2_with fail
  have t1 := T1.out; have t2 := T2.out; have t3 := T3.out; have t4 := T4.out; have t5 := T5.out
  have g2 := fun p => GrownW.cell (B := w1.heap.size) h2' hbl1 p
  refine wp_region_grown w1.heap.size (by kernel_rfl) (by kernel_rfl) ?_
  repeat (go_big_quiet_step ((first | (go_at_call 72; exact GrownW.call_same (l1In_yes _ _ _ _ ⟨r1, r2⟩)) | (go_at_call 73; exact GrownW.call (Nat.le_refl _) (CS.out _ (HB.out.tr (GrownW.h _)))))))
  refine wpQuiet_done ?_
  intro w9 hb9
  replace HB := Lib.hid (HB.out.tr hb9); clear hb9 t1 t2 t3 t4 t5 g2
  have hsz := HB.out.size
  have hc2 : q + 1 + m ≤ c := by omega
  have HSUB3 : Hid (Rd w9 1 (.slice (some ⟨b1, o1 + (q + 1), none⟩) (q + 1 + m - (q + 1)) (c - (q + 1))) m (ints body)) := Lib.hid (by rw [show q + 1 + m - (q + 1) = m from by omega]; exact HSUB.out.keep HB.out)
  go_wp2_with (at_builtin; refine wpList_pushAllB rfl _ _ 23 3 rfl (.int .i64 0) 1 8 Try.underlying23 infoInt rfl (by decide) (by decide) w9.heap.size _ 0 [] (World.ownsRow_made (size := 1) w9 #[] 0 (Nat.le_refl _) (by decide) rfl) rfl _ m (ints body) (HSUB3.out.keep ((Below.refl _ _).alloc (Nat.le_refl _) _)) rfl (ints_one body) (by omega) (by omega) (by simp) ?_; intro v5 w5 hown5 hbel5 hne5; have HO := Lib.hid hown5; have HB5 := Lib.hid (((Below.refl _ _).alloc (Nat.le_refl _) _).trans hbel5); clear hown5 hbel5 hne5)
  go_ret3
  have h := (Ow.of_row HO.out).mono hsz (Nat.le_refl _)
  rw [Nat.zero_add, List.nil_append] at h
  have e2 : (q : Int) + 1 + (m : Int) + 1 = rfNext (some (body, q + m + 2)) := by simp [rfNext]; omega
  refine ⟨_, by rw [e2]; rfl, ?_, HB.out.tr HB5.out⟩
  show Ow _ _ _ _ _ _ body.length (ints body)
  rw [hpl]; exact h

/-- What frameAt hands back: the record is a part of the list. -/
def PartF (va : Value) (xs : List Int) (w : World) (o : Option (List Int × Nat)) (e : Ending) (w' : World) : Prop :=
  ∃ v, e = .returned (.tuple #[v, .int .i64 (rfNext o), .bool o.isSome]) ∧ (∀ wx, Rd wx 1 va xs.length (ints xs) → Rd wx 1 v (rfBody o).length (ints (rfBody o))) ∧ Below w.heap.size w w'
theorem PartF.none_ {va : Value} {xs : List Int} {w w' : World} (h : Below w.heap.size w w') : PartF va xs w none (.returned (.tuple #[.slice none 0 0, .int .i64 0, .bool false])) w' := ⟨_, rfl, fun _ _ => Rd.nil _ _, h⟩
set_option maxRecDepth 100000 in
set_option maxHeartbeats 4000000 in
theorem frameAt_any (w : World) (va : Value) (xs : List Int) (p : Int) (ha : Rd w 1 va xs.length (ints xs)) (hok : bytesOk xs = true) (hp : In64 p) :
    Calls Try.prog 71 #[va, .int .i64 p] w (PartF va xs w (readF xs p)) := by
  have HR := Lib.hid ha
  obtain ⟨a, c, rfl, hc, hm⟩ := ha.form
  clear ha
  obtain ⟨p0, p1⟩ := hp
  have hl2 := (bytesOk_rng hok).1
  have HRNG := Lib.hid (bytesOk_rng hok).2
  by_cases h0 : 0 ≤ p
  case neg =>
    rw [readF_neg (by omega)]
    clear hok HR HRNG
    generalize xs.length = n at *
    have t0 : decide (p < 0) = true := by simp; omega
    go_enter Try.func71, Try.ntmps71
    go_wp2_with fail
    go_ret3
    exact PartF.none_ (Below.refl _ _)
  case pos =>
  obtain ⟨q, rfl⟩ := Int.eq_ofNat_of_zero_le h0
  rw [readF_at hok]
  have t0 : decide ((q : Int) < 0) = false := by simp
  by_cases hq : q < xs.length
  case neg =>
    rw [frameAt_no (frameB_end (by omega))]
    clear hok HR HRNG
    generalize xs.length = n at *
    have t1 : decide ((q : Int) ≥ (n : Int)) = true := by simp; omega
    go_enter Try.func71, Try.ntmps71
    go_wp2_with fail
    go_ret3
    exact PartF.none_ (Below.refl _ _)
  case pos =>
  obtain ⟨x0, x1⟩ := HRNG.out q hq
  obtain ⟨b1, o1, rfl, hb1, h1⟩ := HR.out.at_ hq
  have HF1 := Lib.hid (frameB_one (xs := xs) (p := q))
  have HF2 := Lib.hid (frameB_two (xs := xs) (p := q))
  have HF3 := Lib.hid (frameB_three (xs := xs) (p := q))
  have HF4 := Lib.hid (frameB_yes (xs := xs) (p := q))
  have HFA : Hid (frameB xs q = true → frameAt xs q = some (partOf xs (q + 1) (xs.getD q 0).toNat, q + (xs.getD q 0).toNat + 2)) := Lib.hid fun h => by rw [frameAt, if_pos h]
  generalize hx : xs.getD q 0 = x at *
  obtain ⟨m, rfl⟩ := Int.eq_ofNat_of_zero_le x0
  rw [Int.toNat_natCast] at HF2 HF3 HF4 HFA
  clear hx
  have HOK := Lib.hid hok; clear hok
  generalize hn : xs.length = n at *
  have HN := Lib.hid hn; clear hn
  clear p0 p1 h0
  by_cases r1 : 1 ≤ (m : Int)
  case neg =>
    rw [frameAt_no (HF1.out (by omega))]
    clear HF1 HF2 HF3 HF4 HFA HRNG HR
    go_enter Try.func71, Try.ntmps71
    go_wp2_with fail
    go_ret3
    exact PartF.none_ (Below.refl _ _)
  case pos =>
  by_cases r2 : (m : Int) ≤ 100
  case neg =>
    rw [frameAt_no (HF1.out (by omega))]
    clear HF1 HF2 HF3 HF4 HFA HRNG HR
    go_enter Try.func71, Try.ntmps71
    go_wp2_with fail
    go_ret3
    exact PartF.none_ (Below.refl _ _)
  case pos =>
  clear HF1
  by_cases he : n ≤ q + m + 1
  case pos =>
    rw [frameAt_no (HF2.out he)]
    clear HF2 HF3 HF4 HFA HRNG HR
    have t2 : decide ((m : Int) + 2 > (n : Int) - (q : Int)) = true := by simp; omega
    go_enter Try.func71, Try.ntmps71
    go_wp2_with fail
    go_ret3
    exact PartF.none_ (Below.refl _ _)
  case neg =>
  clear HF2
  have hsub := HR.out.sub (q + 1) m (by omega)
  have hpo : bytesOk (partOf xs (q + 1) m) = true := partOf_ok HOK.out _ _
  have hpl : (partOf xs (q + 1) m).length = m := partOf_length _ _ _ (by rw [HN.out]; omega)
  have HSUB : Hid (Rd w 1 (.slice (some ⟨b1, o1 + (q + 1), none⟩) m (c - (q + 1))) m (ints (partOf xs (q + 1) m))) := Lib.hid hsub
  have CS := Lib.hid fun wx (hb : Below w.heap.size w wx) => implCheckSum_any wx (.slice (some ⟨b1, o1 + (q + 1), none⟩) m (c - (q + 1))) (partOf xs (q + 1) m) (by rw [hpl]; exact hsub.keep hb)
  rw [checkSum_ok hpo] at CS
  obtain ⟨b2, o2, eb, hb2, h2⟩ := HR.out.at_ (k := q + 1 + m) (by omega)
  simp only [Option.some.injEq, Addr.mk.injEq, and_true] at eb
  obtain ⟨rfl, rfl⟩ := eb
  rw [show q + m + 1 = q + 1 + m from by omega] at HF3 HF4
  clear hsub hpo
  generalize hbody : partOf xs (q + 1) m = body at *
  have HBODY := Lib.hid hbody; clear hbody
  generalize hy : xs.getD (q + 1 + m) 0 = y at *
  clear hy
  generalize sumTo body = s at *
  have t2 : IntKind.i64.wrap ((q : Int) + 1) = (q : Int) + 1 := IntWalk.i64_in _ (by omega)
  have t3 : ((q : Int) + 1).toNat = q + 1 := by omega
  have t4 : ((q : Int) + 1 + (m : Int)).toNat = q + 1 + m := by omega
  have t6 : IntKind.i64.wrap ((q : Int) + 1 + (m : Int)) = (q : Int) + 1 + (m : Int) := IntWalk.i64_in _ (by omega)
  have T2 := Lib.hid t2; have T3 := Lib.hid t3; have T4 := Lib.hid t4; have T6 := Lib.hid t6
  clear t2 t3 t4 t6
  have hc2 : q + 1 + m ≤ c := by omega
  have hf : ∀ (t : Bool) (o : Option (List Int × Nat)), (y != s) = t → (t = true → o = none) → (t = false → o = some (body, q + m + 2)) → Calls Try.prog 71 #[.slice (some ⟨b1, o1, none⟩) n c, .int .i64 (q : Int)] w (PartF (.slice (some ⟨b1, o1, none⟩) n c) xs w o) := by
    intro t o ht ho1 ho2
    have HT := Lib.hid ht; have HO1 := Lib.hid ho1; have HO2 := Lib.hid ho2; clear ht HF3 HF4 HFA ho1 ho2
    go_enter Try.func71, Try.ntmps71
    go_wp2_with fail
    have t2 := T2.out; have t3 := T3.out; have t4 := T4.out; have t5 := HT.out; have t6 := T6.out
    have g2 := fun p => GrownW.cell (B := w.heap.size) h2 hb1 p
    refine wp_region_grown w.heap.size (by kernel_rfl) (by kernel_rfl) ?_
    repeat (go_big_quiet_step ((go_at_call 63; exact GrownW.call (Nat.le_refl _) (CS.out _ (GrownW.h _)))))
    refine wpQuiet_done ?_
    intro w9 hb9
    have HB := Lib.hid hb9; clear hb9 t2 t3 t4 t5 t6 g2
    cases t
    · go_wp2_with fail
      go_ret3
      rw [HO2.out trivial]
      have e2 : (q : Int) + (m : Int) + 2 = rfNext (some (body, q + m + 2)) := by simp [rfNext]
      refine ⟨_, by rw [← e2]; rfl, fun wx hx => ?_, HB.out⟩
      show Rd wx _ _ body.length (ints body)
      rw [hpl]
      rw [HN.out] at hx
      have h := hx.sub (q + 1) m (by omega)
      rw [← HBODY.out]; exact h
    · go_wp2_with fail
      go_ret3
      rw [HO1.out trivial]
      exact PartF.none_ HB.out
  by_cases hy : y = s
  · exact hf false _ (by simp [hy]) (fun h => by cases h) (fun _ => HFA.out (HF4.out r1 r2 (by omega) hy))
  · exact hf true _ (by rw [bne_iff_ne]; exact hy) (fun _ => frameAt_no (HF3.out hy)) (fun h => by cases h)

set_option maxRecDepth 100000 in
set_option maxHeartbeats 2000000 in
theorem implReadFrame_any (w : World) (va : Value) (xs : List Int) (p : Int) (ha : Rd w 1 va xs.length (ints xs)) (hs : xs.length ≤ 1099511627776) (hp : In64 p) :
    Calls Try.prog 36 #[va, .int .i64 p] w (RetF w (readF xs p)) := by
  have C := Lib.hid (implBytesValid_any w va xs ha)
  have HR := Lib.hid ha
  by_cases hok : bytesOk xs = true
  · have F := Lib.hid fun wx h => frameAt_any wx va xs p h hok hp
    have hbl := rfBody_length xs p
    rw [hok] at C
    generalize readF xs p = o at *
    clear ha hok hp
    go_enter Try.func36, Try.ntmps36
    go_wp2_with fail
    refine C.out.mono ?_
    rintro e w1 ⟨rfl, hb⟩
    have HB := Lib.hid hb; replace HR := Lib.hid (HR.out.keep hb); clear hb C
    go_wp2_with fail
    refine (F.out _ HR.out).mono ?_
    rintro e w2 ⟨v, rfl, hv, hb⟩
    have HV := Lib.hid ((hv _ HR.out).keep hb); replace HB := Lib.hid (HB.out.tr hb); clear hv hb F HR
    cases o with
    | none =>
      simp only [Option.isSome_none]
      go_wp2_with fail
      go_ret3
      exact RetF.none_ HB.out _
    | some x =>
      obtain ⟨body, q⟩ := x
      have e1 : rfBody (some (body, q)) = body := rfl
      have e2 : rfNext (some (body, q)) = (q : Int) := rfl
      rw [e1] at HV hbl
      simp only [Option.isSome_some, e2]
      have CL := Lib.hid (cloneInt_any w2 v body HV.out (by omega))
      have hsz := HB.out.size
      clear e1 e2
      go_wp2_with fail
      refine CL.out.mono ?_
      rintro e w3 ⟨v3, rfl, ho, hb⟩
      have HO := Lib.hid ho; replace HB := Lib.hid (HB.out.tr hb); clear ho hb CL
      go_wp2_with fail
      go_ret3
      exact ⟨_, rfl, HO.out.mono hsz (Nat.le_refl _), HB.out⟩
  · have hok : bytesOk xs = false := by simpa using hok
    rw [readF_bad hok]
    rw [hok] at C
    clear ha hok HR hp
    go_enter Try.func36, Try.ntmps36
    go_wp2_with fail
    refine C.out.mono ?_
    rintro e w1 ⟨rfl, hb⟩
    have HB := Lib.hid hb; clear hb C
    go_wp2_with fail
    go_ret3
    exact RetF.none_ HB.out _
end Go.Proofs.Ytdflpildopefaaa
