/-
  Which states are valid: the program's function and the reference's.
-/
import Derived.Test.YtgdggkhdollieaaState
import Derived.Test.YtgdggkhdollieaaMsg
import Derived.Test.YtgdggkhdollieaaLib3
namespace Go.Proofs.Ytgdggkhdollieaa
open Go.RowKit
set_option linter.unusedVariables false

def valOk (xs : List Int) : Bool := xs.all fun x => decide (-1 ≤ x ∧ x < 1000000)
def msgOk (many : Int) (y : Tri) : Bool := decide ((0 ≤ y.1 ∧ y.1 < many) ∧ (0 ≤ y.2.2 ∧ y.2.2 < many) ∧ 0 ≤ y.2.1 ∧ y.2.1 < 1000000)
def sortedB (ys : List Tri) : Bool := (List.range ys.length).all fun i => i == 0 || !tBefore (ys.getD i triZ) (ys.getD (i - 1) triZ)
def msgsOk (many : Int) (ys : List Tri) : Bool := ys.all (msgOk many)
def stateOk (s : StateD) (many : Int) : Bool := (decide (0 ≤ many ∧ many ≤ 16) && (decide (0 ≤ s.1 ∧ s.1 ≤ 100) && (decide ((s.2.1.length : Int) = many) && decide ((s.2.2.1.length : Int) = many)))) && (valOk s.2.1 && (decide (s.2.2.2.length ≤ 2000) && (sortedB s.2.2.2 && msgsOk many s.2.2.2)))
theorem valOk_no {xs : List Int} {k : Nat} (hk : k < xs.length) (h : ¬ (-1 ≤ xs.getD k 0 ∧ xs.getD k 0 < 1000000)) : valOk xs = false := by
  unfold valOk
  rw [List.all_eq_false]
  exact ⟨xs.getD k 0, by simp [hk], by simpa using h⟩
theorem valOk_yes {xs : List Int} (h : ∀ k, k < xs.length → -1 ≤ xs.getD k 0 ∧ xs.getD k 0 < 1000000) : valOk xs = true := by
  unfold valOk
  rw [List.all_eq_true]
  intro x hx
  obtain ⟨k, hk, rfl⟩ := List.mem_iff_getElem.1 hx
  have := h k hk
  have e : xs.getD k 0 = xs[k] := by simp [hk]
  rw [e] at this; simpa using this
theorem msgsOk_no {many : Int} {ys : List Tri} {k : Nat} (hk : k < ys.length) (h : msgOk many (ys.getD k triZ) = false) : msgsOk many ys = false := by
  unfold msgsOk
  rw [List.all_eq_false]
  exact ⟨ys.getD k triZ, triD_mem hk, by rw [h]; simp⟩
theorem msgsOk_yes {many : Int} {ys : List Tri} (h : ∀ k, k < ys.length → msgOk many (ys.getD k triZ) = true) : msgsOk many ys = true := by
  unfold msgsOk
  rw [List.all_eq_true]
  intro x hx
  obtain ⟨k, hk, rfl⟩ := List.mem_iff_getElem.1 hx
  have := h k hk
  have e : ys.getD k triZ = ys[k] := by simp [hk]
  rw [e] at this; exact this
theorem sortedB_no {ys : List Tri} {k : Nat} (hk : k < ys.length) (h0 : 0 < k) (h : tBefore (ys.getD k triZ) (ys.getD (k - 1) triZ) = true) : sortedB ys = false := by
  unfold sortedB
  rw [List.all_eq_false]
  refine ⟨k, by simpa using hk, ?_⟩
  have : ¬ k = 0 := by omega
  rw [h]; simp [this]
theorem sortedB_yes {ys : List Tri} (h : ∀ k, k < ys.length → 0 < k → tBefore (ys.getD k triZ) (ys.getD (k - 1) triZ) = false) : sortedB ys = true := by
  unfold sortedB
  rw [List.all_eq_true]
  intro k hk
  have hk2 : k < ys.length := by simpa using hk
  by_cases e : k = 0
  · simp [e]
  · rw [h k hk2 (by omega)]; simp
theorem cmp_before (a b : Tri) : decide (cmpMsg a b < 0) = tBefore a b := by
  rw [Bool.eq_iff_iff, decide_eq_true_eq, cmpMsg_neg, tBefore_iff]

theorem valueFits_any (x : Int) (w : World) : Calls Try.prog 99 #[.int .i64 x] w fun e w' => e = .returned (.bool (decide (-1 ≤ x ∧ x < 1000000))) ∧ w = w' := by
  by_cases h : -1 ≤ x
  · by_cases h' : x < 1000000
    · rw [decide_eq_true ⟨h, h'⟩]
      go_enter Try.func99, Try.ntmps99
      go_wp2_with fail
      go_ret
      exact ⟨rfl, rfl⟩
    · rw [decide_eq_false (fun k => h' k.2)]
      go_enter Try.func99, Try.ntmps99
      go_wp2_with fail
      go_ret
      exact ⟨rfl, rfl⟩
  · rw [decide_eq_false (fun k => h k.1)]
    go_enter Try.func99, Try.ntmps99
    go_wp2_with fail
    go_ret
    exact ⟨rfl, rfl⟩
theorem roundFits_any (x : Int) (w : World) : Calls Try.prog 75 #[.int .i64 x] w fun e w' => e = .returned (.bool (decide (0 ≤ x ∧ x ≤ 100))) ∧ w = w' := by
  by_cases h : 0 ≤ x
  · by_cases h' : x ≤ 100
    · rw [decide_eq_true ⟨h, h'⟩]
      go_enter Try.func75, Try.ntmps75
      go_wp2_with fail
      go_ret
      exact ⟨rfl, rfl⟩
    · rw [decide_eq_false (fun k => h' k.2)]
      go_enter Try.func75, Try.ntmps75
      go_wp2_with fail
      go_ret
      exact ⟨rfl, rfl⟩
  · rw [decide_eq_false (fun k => h k.1)]
    go_enter Try.func75, Try.ntmps75
    go_wp2_with fail
    go_ret
    exact ⟨rfl, rfl⟩
set_option maxHeartbeats 1000000 in
theorem valuesFit_any (w : World) (va : Value) (xs : List Int) (ha : RdIntS w va xs) : Calls Try.prog 76 #[va] w fun e w' => e = .returned (.bool (valOk xs)) ∧ w = w' := by
  obtain ⟨a, ca, rfl, hca, hma, Ha⟩ := ha.int
  clear ha
  have HNO := Lib.hid fun k => @valOk_no xs k
  have HYES := Lib.hid (@valOk_yes xs)
  generalize valOk xs = ok at *
  generalize hn : xs.length = n at *
  clear hn
  have CV := Lib.hid fun x => valueFits_any x w
  go_enter Try.func76, Try.ntmps76
  go_wp2_with fail
  go_loopw [7] (fun i wr => ∃ k : Nat, k ≤ n ∧ i = .int .i64 k ∧ w = wr ∧ Hid (∀ j, j < k → -1 ≤ xs.getD j 0 ∧ xs.getD j 0 < 1000000)) (fun i _ => n - (intOf i).toNat)
  case atStart => exact ⟨0, Nat.zero_le _, rfl, rfl, Lib.hid fun j hj => absurd hj (Nat.not_lt_zero _)⟩
  case round =>
    obtain ⟨k, hk, rfl, rfl, HJ⟩ := hrel
    by_cases hlt : k < n
    · obtain ⟨b1, o1, rfl, hb1, hc1⟩ := Ha.out k hlt
      have HNK := Lib.hid (HNO.out k hlt)
      generalize hx : xs.getD k 0 = x at *
      have HX := Lib.hid hx; clear hx Ha
      have CX := CV.out x
      by_cases hq : -1 ≤ x ∧ x < 1000000
      · rw [decide_eq_true hq] at CX
        have HQ := Lib.hid hq; clear hq
        go_wp2_with fail
        refine CX.mono ?_
        rintro e w1 ⟨rfl, rfl⟩
        clear CX
        go_wp2_with fail
        go_roundw
        case rel => exact ⟨k + 1, by omega, by go_num, (by first | exact rfl | trivial), Lib.hid fun j hj => by
          by_cases e : j = k
          · subst e; rw [HX.out]; exact HQ.out
          · exact HJ.out j (by omega)⟩
        case measure => simp [intOf]; omega
      · rw [decide_eq_false hq] at CX
        have h0 := HNK.out hq
        subst h0
        clear hq HNK
        go_wp2_with fail
        refine CX.mono ?_
        rintro e w1 ⟨rfl, rfl⟩
        clear CX
        go_wp2_with fail
        go_ret
        exact ⟨rfl, rfl⟩
    · obtain rfl : k = n := by omega
      have h0 := HYES.out HJ.out
      subst h0
      go_wp2_with fail
      go_ret
      exact ⟨rfl, rfl⟩

set_option maxRecDepth 100000 in
set_option maxHeartbeats 2000000 in
theorem messageFits_any (a0 a1 a2 many : Int) (w : World) : Calls Try.prog 101 #[.agg #[.int .i64 a0, .int .i64 a1, .int .i64 a2], .int .i64 many] w fun e w' => e = .returned (.bool (msgOk many (a0, a1, a2))) ∧ Below w.heap.size w w' := by
  have HV : Hid (∀ b, ((0 ≤ a0 ∧ a0 < many) ∧ (0 ≤ a2 ∧ a2 < many) ∧ 0 ≤ a1 ∧ a1 < 1000000 ↔ b = true) → msgOk many (a0, a1, a2) = b) := Lib.hid fun b hb => by
    unfold msgOk; rw [Bool.eq_iff_iff, decide_eq_true_eq]; exact hb
  generalize msgOk many (a0, a1, a2) = ok at *
  have HB : Hid (Below w.heap.size w (w.alloc (.cells #[.int .i64 a0, .int .i64 a1, .int .i64 a2] 33))) := Lib.hid (by go_grown)
  by_cases h1 : 0 ≤ a0
  · by_cases h2 : a0 < many
    · by_cases h3 : 0 ≤ a2
      · by_cases h4 : a2 < many
        · by_cases h5 : 0 ≤ a1
          · by_cases h6 : a1 < 1000000
            · have hv := HV.out true (by simp; omega)
              subst hv
              clear HV
              go_enter Try.func101, Try.ntmps101
              go_wp2_with fail
              go_ret
              exact ⟨rfl, HB.out⟩
            · have hv := HV.out false (by simp; omega)
              subst hv
              clear HV
              go_enter Try.func101, Try.ntmps101
              go_wp2_with fail
              go_ret
              exact ⟨rfl, HB.out⟩
          · have hv := HV.out false (by simp; omega)
            subst hv
            clear HV
            go_enter Try.func101, Try.ntmps101
            go_wp2_with fail
            go_ret
            exact ⟨rfl, HB.out⟩
        · have hv := HV.out false (by simp; omega)
          subst hv
          clear HV
          go_enter Try.func101, Try.ntmps101
          go_wp2_with fail
          go_ret
          exact ⟨rfl, HB.out⟩
      · have hv := HV.out false (by simp; omega)
        subst hv
        clear HV
        go_enter Try.func101, Try.ntmps101
        go_wp2_with fail
        go_ret
        exact ⟨rfl, HB.out⟩
    · have hv := HV.out false (by simp; omega)
      subst hv
      clear HV
      go_enter Try.func101, Try.ntmps101
      go_wp2_with fail
      go_ret
      exact ⟨rfl, HB.out⟩
  · have hv := HV.out false (by simp; omega)
    subst hv
    clear HV
    go_enter Try.func101, Try.ntmps101
    go_wp2_with fail
    go_ret
    exact ⟨rfl, HB.out⟩

set_option maxRecDepth 100000 in
set_option maxHeartbeats 4000000 in
theorem isSorted_any (w : World) (va : Value) (ys : List Tri) (ha : Rd w 3 va ys.length (tris ys)) (hs : ys.length ≤ 2000) : Calls Try.prog 100 #[va, .func (.func 94) #[] #[]] w fun e w' => e = .returned (.bool (sortedB ys)) ∧ Below w.heap.size w w' := by
  have HR := Lib.hid ha
  obtain ⟨a, ca, rfl, hca, hma⟩ := ha.form
  clear ha
  have HNO := Lib.hid fun k => @sortedB_no ys k
  have HYES := Lib.hid (@sortedB_yes ys)
  generalize sortedB ys = ok at *
  generalize hn : ys.length = n at *
  clear hn
  by_cases hn0 : n = 0
  · subst hn0
    have h0 := HYES.out fun k hk => absurd hk (Nat.not_lt_zero _)
    subst h0
    clear HNO HYES HR
    go_enter Try.func100, Try.ntmps100
    go_wp2_with fail
    refine wp_loop_rounds 1 ?_
    rw [rounds_succ]
    go_wp2_with fail
    go_ret
    exact ⟨rfl, Below.refl _ _⟩
  obtain ⟨m, hnm⟩ : ∃ m, n = m + 1 := ⟨n - 1, by omega⟩
  have HNM := Lib.hid hnm
  have hw1 : IntKind.i64.wrap ((n : Int) - 1) = (m : Int) := by rw [IntWalk.i64_in _ (by omega)]; omega
  have hm1 : (n : Int) - 1 = (m : Int) := by omega
  have hmn : m < n := by omega
  clear hnm hn0
  go_enter Try.func100, Try.ntmps100
  go_wp2_with fail
  clear hw1 hm1
  go_loopw [5] (fun i wr => ∃ j : Nat, j ≤ m ∧ i = .int .i64 (j : Int) ∧ Hid (Below w.heap.size w wr) ∧ Hid (∀ q, j < q → q < n → tBefore (ys.getD q triZ) (ys.getD (q - 1) triZ) = false)) (fun i _ => (intOf i).toNat)
  case atStart => exact ⟨m, Nat.le_refl _, by first | rfl | (have := HNM.out; congr 1; omega), Lib.hid (Below.refl _ _), Lib.hid fun q hq hq2 => absurd hq2 (by have := HNM.out; omega)⟩
  case round =>
    obtain ⟨j, hj, rfl, HB, HJ⟩ := hrel
    by_cases hlt : 0 < j
    · obtain ⟨k, hk⟩ : ∃ k, j = k + 1 := ⟨j - 1, by omega⟩
      have HK := Lib.hid hk
      have hjn : j < n := by omega
      have hkn : k < n := by omega
      obtain ⟨b1, o1, rfl, hb1, c0, c1, c2⟩ := (HR.out.keep HB.out).tri hjn
      obtain ⟨b2, o2, e2, hb2, d0, d1, d2⟩ := (HR.out.keep HB.out).tri hkn
      simp only [Option.some.injEq, Addr.mk.injEq, and_true] at e2
      obtain ⟨rfl, rfl⟩ := e2
      have hnj := HNO.out j hjn hlt
      have hjj : tBefore (ys.getD j triZ) (ys.getD (j - 1) triZ) = tBefore (ys.getD j triZ) (ys.getD k triZ) := by rw [show j - 1 = k by omega]
      rw [hjj] at hnj
      have HNJ := Lib.hid hnj; have HJJ := Lib.hid hjj
      have hcb := cmp_before (ys.getD j triZ) (ys.getD k triZ)
      have CC := Lib.hid fun wx => (compareMessages_any (ys.getD j triZ).1 (ys.getD j triZ).2.1 (ys.getD j triZ).2.2 (ys.getD k triZ).1 (ys.getD k triZ).2.1 (ys.getD k triZ).2.2 wx).mono fun e w' h => (show e = .returned (.int .i64 (cmpMsg (ys.getD j triZ) (ys.getD k triZ))) ∧ Below wx.heap.size wx w' from ⟨h.1, h.2.below⟩)
      generalize cmpMsg (ys.getD j triZ) (ys.getD k triZ) = cv at *
      generalize hbv : tBefore (ys.getD j triZ) (ys.getD k triZ) = bv at *
      have HBV := Lib.hid hbv
      clear hnj hjj hbv
      generalize (ys.getD j triZ).1 = p0 at *
      generalize (ys.getD j triZ).2.1 = p1 at *
      generalize (ys.getD j triZ).2.2 = p2 at *
      generalize (ys.getD k triZ).1 = r0 at *
      generalize (ys.getD k triZ).2.1 = r1 at *
      generalize (ys.getD k triZ).2.2 = r2 at *
      have hwk : IntKind.i64.wrap ((j : Int) - 1) = (k : Int) := by rw [IntWalk.i64_in _ (by omega)]; omega
      have hjk : (j : Int) - 1 = (k : Int) := by omega
      have t1 : decide ((0 : Int) < (j : Int)) = true := by simp; omega
      have hji : (j : Int) < (n : Int) := by omega
      have hki : (k : Int) < (n : Int) := by omega
      have g0 := fun p => GrownW.cell (B := wr.heap.size) c0 hb1 p
      have g1 := fun p => GrownW.cell (B := wr.heap.size) c1 hb1 p
      have g2 := fun p => GrownW.cell (B := wr.heap.size) c2 hb1 p
      have g3 := fun p => GrownW.cell (B := wr.heap.size) d0 hb1 p
      have g4 := fun p => GrownW.cell (B := wr.heap.size) d1 hb1 p
      have g5 := fun p => GrownW.cell (B := wr.heap.size) d2 hb1 p
      clear hk c0 c1 c2 d0 d1 d2 hb2
      go_wp2_with fail
      refine wp_region_grown wr.heap.size (by kernel_rfl) (by kernel_rfl) ?_
      repeat (go_big_quiet_step ((go_at_call 94; exact GrownW.call (Nat.le_refl _) (CC.out _))))
      refine wpQuiet_done ?_
      intro w9 hb9
      clear g0 g1 g2 g3 g4 g5 CC
      clear hwk t1 hji hki hcb
      replace HB := Lib.hid (HB.out.tr hb9)
      cases bv
      · go_wp2_with fail
        go_roundw
        case rel => exact ⟨k, by omega, by first | rfl | (congr 1; omega), HB, Lib.hid fun q hq hqn => by
          have := HK.out
          by_cases e : q = j
          · subst e; exact HJJ.out
          · exact HJ.out q (by omega) hqn⟩
        case measure => have := HK.out; simp [intOf]; omega
      · have h0 := HNJ.out rfl
        subst h0
        clear HYES
        go_wp2_with fail
        go_ret
        exact ⟨rfl, HB.out⟩
    · obtain rfl : j = 0 := by omega
      have h0 := HYES.out fun q hq hq0 => HJ.out q hq0 hq
      subst h0
      clear HNO HYES HR HJ
      go_wp2_with fail
      go_ret
      exact ⟨rfl, HB.out⟩

set_option maxRecDepth 100000 in
set_option maxHeartbeats 4000000 in
theorem inboxFits_any (w : World) (va : Value) (ys : List Tri) (many : Int) (ha : Rd w 3 va ys.length (tris ys)) : Calls Try.prog 77 #[va, .int .i64 many] w fun e w' => e = .returned (.bool (decide (ys.length ≤ 2000) && (sortedB ys && msgsOk many ys))) ∧ Below w.heap.size w w' := by
  have HR := Lib.hid ha
  obtain ⟨a, ca, rfl, hca, hma⟩ := ha.form
  clear ha
  have HNO := Lib.hid fun k => @msgsOk_no many ys k
  have HYES := Lib.hid (@msgsOk_yes many ys)
  have CS := Lib.hid fun wx (hb : Below w.heap.size w wx) hs => isSorted_any wx _ ys (HR.out.keep hb) hs
  generalize msgsOk many ys = ok at *
  generalize sortedB ys = sb at *
  generalize hn : ys.length = n at *
  clear hn
  by_cases hs : n ≤ 2000
  · have t0 : decide ((n : Int) > 2000) = false := by simp; omega
    rw [decide_eq_true hs]
    cases sb
    · go_enter Try.func77, Try.ntmps77
      go_wp2_with fail
      refine (CS.out _ (Below.refl _ _) hs).mono ?_
      rintro e w1 ⟨rfl, hb⟩
      have HB := Lib.hid hb; clear hb CS HNO HYES
      go_wp2_with fail
      go_ret
      exact ⟨rfl, HB.out⟩
    · simp only [Bool.true_and]
      go_enter Try.func77, Try.ntmps77
      go_wp2_with fail
      refine (CS.out _ (Below.refl _ _) hs).mono ?_
      rintro e w1 ⟨rfl, hb⟩
      have HB := Lib.hid hb; clear hb CS
      go_wp2_with fail
      go_loopw [17] (fun i wr => ∃ k : Nat, k ≤ n ∧ i = .int .i64 k ∧ Hid (Below w.heap.size w wr) ∧ Hid (∀ j, j < k → msgOk many (ys.getD j triZ) = true)) (fun i _ => n - (intOf i).toNat)
      case atStart => exact ⟨0, Nat.zero_le _, rfl, HB, Lib.hid fun j hj => absurd hj (Nat.not_lt_zero _)⟩
      case round =>
        clear HB
        obtain ⟨k, hk, rfl, HB, HJ⟩ := hrel
        by_cases hlt : k < n
        · obtain ⟨b1, o1, rfl, hb1, c0, c1, c2⟩ := (HR.out.keep HB.out).tri hlt
          have HNK := Lib.hid (HNO.out k hlt)
          have hmv : ∀ wx, Calls Try.prog 101 #[.agg #[.int .i64 (ys.getD k triZ).1, .int .i64 (ys.getD k triZ).2.1, .int .i64 (ys.getD k triZ).2.2], .int .i64 many] wx fun e w' => e = .returned (.bool (msgOk many (ys.getD k triZ))) ∧ Below wx.heap.size wx w' := fun wx => messageFits_any _ _ _ many wx
          have CM := Lib.hid hmv
          generalize hmo : msgOk many (ys.getD k triZ) = mo at *
          have HMO := Lib.hid hmo
          clear hmv hmo
          generalize (ys.getD k triZ).1 = p0 at *
          generalize (ys.getD k triZ).2.1 = p1 at *
          generalize (ys.getD k triZ).2.2 = p2 at *
          have hal : Below wr.heap.size wr (wr.alloc (.cells #[.int .i64 p0, .int .i64 p1, .int .i64 p2] 33)) := (Below.refl _ _).alloc (Nat.le_refl _) _
          replace HB := Lib.hid (HB.out.tr hal)
          clear hal
          cases mo
          · have h0 := HNK.out rfl
            subst h0
            clear HNK HNO HYES
            go_wp2_with fail
            refine (CM.out _).mono ?_
            rintro e w9 ⟨rfl, hb9⟩
            replace HB := Lib.hid (HB.out.tr hb9); clear hb9 CM
            go_wp2_with fail
            go_ret
            exact ⟨rfl, HB.out⟩
          · go_wp2_with fail
            refine (CM.out _).mono ?_
            rintro e w9 ⟨rfl, hb9⟩
            replace HB := Lib.hid (HB.out.tr hb9); clear hb9 CM
            go_wp2_with fail
            go_roundw
            case rel => exact ⟨k + 1, by omega, by go_num, HB, Lib.hid fun j hj => by
              by_cases e : j = k
              · subst e; exact HMO.out
              · exact HJ.out j (by omega)⟩
            case measure => simp [intOf]; omega
        · obtain rfl : k = n := by omega
          have h0 := HYES.out HJ.out
          subst h0
          clear HNO HYES HR
          go_wp2_with fail
          go_ret
          exact ⟨rfl, HB.out⟩
  · have t0 : decide ((n : Int) > 2000) = true := by simp; omega
    rw [decide_eq_false hs]
    clear CS HNO HYES HR
    go_enter Try.func77, Try.ntmps77
    go_wp2_with fail
    go_ret
    exact ⟨rfl, Below.refl _ _⟩

set_option maxRecDepth 100000 in
set_option maxHeartbeats 4000000 in
theorem implStateValid_any (w : World) (va : Value) (s : StateD) (many : Int) (ha : RdState w va s) : Calls Try.prog 38 #[va, .int .i64 many] w fun e w' => e = .returned (.bool (stateOk s many)) ∧ Below w.heap.size w w' := by
  obtain ⟨v1, v2, v3, rfl, r1, r2, r3⟩ := ha
  obtain ⟨r, xs, bs, ys⟩ := s
  unfold stateOk
  simp only at *
  obtain ⟨a1, c1, rfl, hc1, -⟩ := Rd.form r1
  obtain ⟨a2, c2, rfl, hc2, -⟩ := Rd.form r2
  obtain ⟨a3, c3, rfl, hc3, -⟩ := Rd.form r3
  have HB : Hid (Below w.heap.size w (w.alloc (.cells #[.int .i64 r, .slice a1 xs.length c1, .slice a2 bs.length c2, .slice a3 ys.length c3] 41))) := Lib.hid (by go_grown)
  have CR := Lib.hid fun wx => roundFits_any r wx
  have CV := Lib.hid fun wx (hb : Below w.heap.size w wx) => valuesFit_any wx _ xs (r1.keep hb)
  have CI := Lib.hid fun wx (hb : Below w.heap.size w wx) => inboxFits_any wx _ ys many (r3.keep hb)
  have X := Lib.hid (heap_alloc_new w (.cells #[.int .i64 r, .slice a1 xs.length c1, .slice a2 bs.length c2, .slice a3 ys.length c3] 41))
  clear r1 r2 r3
  generalize (decide (ys.length ≤ 2000) && (sortedB ys && msgsOk many ys)) = io at *
  generalize valOk xs = vo at *
  generalize xs.length = n1 at *
  generalize bs.length = n2 at *
  generalize ys.length = n3 at *
  by_cases h1 : 0 ≤ many
  · by_cases h2 : many ≤ 16
    · rw [decide_eq_true (show 0 ≤ many ∧ many ≤ 16 from ⟨h1, h2⟩)]
      have t1 : decide (many < 0) = false := by simp; omega
      have t2 : decide (many > 16) = false := by simp; omega
      generalize (decide (0 ≤ r ∧ r ≤ 100)) = ro at *
      clear h1 h2
      cases ro
      · go_enter Try.func38, Try.ntmps38
        go_wp2_with fail
        refine (CR.out _).mono ?_
        rintro e w1 ⟨rfl, rfl⟩
        clear CR CV CI
        go_wp2_with fail
        go_ret
        exact ⟨rfl, HB.out⟩
      · by_cases h3 : (n1 : Int) = many
        · have t3 : ((n1 : Int) != many) = false := by simp [h3]
          rw [decide_eq_true h3]
          by_cases h4 : (n2 : Int) = many
          · have t4 : ((n2 : Int) != many) = false := by simp [h4]
            rw [decide_eq_true h4]
            clear h3 h4
            simp only [Bool.true_and]
            cases vo
            · go_enter Try.func38, Try.ntmps38
              go_wp2_with fail
              refine (CR.out _).mono ?_
              rintro e w1 ⟨rfl, rfl⟩
              go_wp2_with fail
              refine (CV.out _ HB.out).mono ?_
              rintro e w1 ⟨rfl, rfl⟩
              clear CR CV CI
              go_wp2_with fail
              go_ret
              exact ⟨rfl, HB.out⟩
            · simp only [Bool.true_and]
              go_enter Try.func38, Try.ntmps38
              go_wp2_with fail
              refine (CR.out _).mono ?_
              rintro e w1 ⟨rfl, rfl⟩
              go_wp2_with fail
              refine (CV.out _ HB.out).mono ?_
              rintro e w1 ⟨rfl, rfl⟩
              go_wp2_with fail
              refine (CI.out _ HB.out).mono ?_
              rintro e w1 ⟨rfl, hb⟩
              replace HB := Lib.hid (HB.out.tr hb); clear hb CR CV CI X
              go_wp2_with fail
              go_ret
              exact ⟨rfl, HB.out⟩
          · have t4 : ((n2 : Int) != many) = true := by simpa using h4
            rw [decide_eq_false h4]
            clear h3 h4
            go_enter Try.func38, Try.ntmps38
            go_wp2_with fail
            refine (CR.out _).mono ?_
            rintro e w1 ⟨rfl, rfl⟩
            clear CR CV CI
            go_wp2_with fail
            go_ret
            exact ⟨rfl, HB.out⟩
        · have t3 : ((n1 : Int) != many) = true := by simpa using h3
          rw [decide_eq_false h3]
          clear h3
          go_enter Try.func38, Try.ntmps38
          go_wp2_with fail
          refine (CR.out _).mono ?_
          rintro e w1 ⟨rfl, rfl⟩
          clear CR CV CI
          go_wp2_with fail
          go_ret
          exact ⟨rfl, HB.out⟩
    · rw [decide_eq_false (fun k : 0 ≤ many ∧ many ≤ 16 => h2 k.2)]
      have t1 : decide (many < 0) = false := by simp; omega
      have t2 : decide (many > 16) = true := by simp; omega
      clear h1 h2 CR CV CI
      go_enter Try.func38, Try.ntmps38
      go_wp2_with fail
      go_ret
      exact ⟨rfl, HB.out⟩
  · rw [decide_eq_false (fun k : 0 ≤ many ∧ many ≤ 16 => h1 k.1)]
    have t1 : decide (many < 0) = true := by simp; omega
    clear h1 CR CV CI
    go_enter Try.func38, Try.ntmps38
    go_wp2_with fail
    go_ret
    exact ⟨rfl, HB.out⟩

def msgOkS (h : Int) (y : Tri) : Bool := decide (0 ≤ y.1 ∧ y.1 ≤ h) && (decide (0 ≤ y.2.2 ∧ y.2.2 ≤ h) && decide (0 ≤ y.2.1 ∧ y.2.1 ≤ 999999))
theorem msgOkS_eq {many h : Int} (hh : h = many - 1) (y : Tri) : msgOkS h y = msgOk many y := by
  unfold msgOkS msgOk
  rw [Bool.eq_iff_iff]
  simp only [Bool.and_eq_true, decide_eq_true_eq]
  omega
set_option maxRecDepth 100000 in
set_option maxHeartbeats 2000000 in
theorem l11Message_any (a0 a1 a2 many h : Int) (w : World) (hw : IntKind.i64.wrap (many - 1) = h) : Calls Try.prog 82 #[.agg #[.int .i64 a0, .int .i64 a1, .int .i64 a2], .int .i64 many] w fun e w' => e = .returned (.bool (msgOkS h (a0, a1, a2))) ∧ Below w.heap.size w w' := by
  unfold msgOkS
  simp only
  have C0 := Lib.hid fun wx => l1In_any a0 0 h wx
  have C1 := Lib.hid fun wx => l1In_any a2 0 h wx
  have C2 := Lib.hid fun wx => l1In_any a1 0 999999 wx
  generalize decide (0 ≤ a0 ∧ a0 ≤ h) = b0 at *
  generalize decide (0 ≤ a2 ∧ a2 ≤ h) = b1 at *
  generalize decide (0 ≤ a1 ∧ a1 ≤ 999999) = b2 at *
  have HB : Hid (Below w.heap.size w (w.alloc (.cells #[.int .i64 a0, .int .i64 a1, .int .i64 a2] 33))) := Lib.hid (by go_grown)
  cases b0
  · go_enter Try.func82, Try.ntmps82
    go_wp2_with fail
    refine (C0.out _).mono ?_
    rintro e w1 ⟨rfl, rfl⟩
    go_wp2_with fail
    go_ret
    exact ⟨rfl, HB.out⟩
  · cases b1
    · go_enter Try.func82, Try.ntmps82
      go_wp2_with fail
      refine (C0.out _).mono ?_
      rintro e w1 ⟨rfl, rfl⟩
      go_wp2_with fail
      refine (C1.out _).mono ?_
      rintro e w1 ⟨rfl, rfl⟩
      go_wp2_with fail
      go_ret
      exact ⟨rfl, HB.out⟩
    · simp only [Bool.true_and]
      go_enter Try.func82, Try.ntmps82
      go_wp2_with fail
      refine (C0.out _).mono ?_
      rintro e w1 ⟨rfl, rfl⟩
      go_wp2_with fail
      refine (C1.out _).mono ?_
      rintro e w1 ⟨rfl, rfl⟩
      go_wp2_with fail
      refine (C2.out _).mono ?_
      rintro e w1 ⟨rfl, rfl⟩
      go_wp2_with fail
      go_ret
      exact ⟨rfl, HB.out⟩

theorem stateOk_val {s : StateD} {many : Int} (k : Nat) (hk : k < s.2.1.length) (h : decide (-1 ≤ s.2.1.getD k 0 ∧ s.2.1.getD k 0 ≤ 999999) = false) : stateOk s many = false := by
  unfold stateOk
  rw [valOk_no hk (by rw [decide_eq_false_iff_not] at h; omega)]; simp
theorem stateOk_msg {s : StateD} {many h : Int} (hw : IntKind.i64.wrap (many - 1) = h) (k : Nat) (hk : k < s.2.2.2.length) (hm : msgOkS h (s.2.2.2.getD k triZ) = false) : stateOk s many = false := by
  unfold stateOk
  by_cases h1 : 0 ≤ many ∧ many ≤ 16
  · rw [msgOkS_eq (by rw [← hw, IntWalk.i64_in _ (by omega)])] at hm
    rw [msgsOk_no hk hm]; simp
  · rw [decide_eq_false h1]; rfl
theorem stateOk_ord {s : StateD} {many : Int} (k : Nat) (hk : k < s.2.2.2.length) (h0 : 0 < k) (h : tBefore (s.2.2.2.getD k triZ) (s.2.2.2.getD (k - 1) triZ) = true) : stateOk s many = false := by
  unfold stateOk
  rw [sortedB_no hk h0 h]; simp
theorem stateOk_end {s : StateD} {many h : Int} (hw : IntKind.i64.wrap (many - 1) = h) (h1 : ∀ k, k < s.2.1.length → decide (-1 ≤ s.2.1.getD k 0 ∧ s.2.1.getD k 0 ≤ 999999) = true) (h2 : ∀ k, k < s.2.2.2.length → msgOkS h (s.2.2.2.getD k triZ) = true)
    (h3 : ∀ k, k < s.2.2.2.length → 0 < k → tBefore (s.2.2.2.getD k triZ) (s.2.2.2.getD (k - 1) triZ) = false) :
    stateOk s many = (decide (0 ≤ many ∧ many ≤ 16) && (decide (0 ≤ s.1 ∧ s.1 ≤ 100) && (((s.2.1.length : Int) == many) && (((s.2.2.1.length : Int) == many) && decide ((s.2.2.2.length : Int) ≤ 2000))))) := by
  have e : ∀ (a b : Int), (a == b) = decide (a = b) := fun a b => by rw [Bool.eq_iff_iff]; simp
  have e2 : decide ((s.2.2.2.length : Int) ≤ 2000) = decide (s.2.2.2.length ≤ 2000) := by rw [Bool.eq_iff_iff, decide_eq_true_eq, decide_eq_true_eq]; omega
  unfold stateOk
  rw [valOk_yes fun k hk => by have := h1 k hk; rw [decide_eq_true_eq] at this; omega, sortedB_yes h3, e, e, e2]
  by_cases hm : 0 ≤ many ∧ many ≤ 16
  · rw [msgsOk_yes fun k hk => by have := h2 k hk; rwa [msgOkS_eq (by rw [← hw, IntWalk.i64_in _ (by omega)])] at this]
    simp [Bool.and_assoc]
  · rw [decide_eq_false hm]; simp

set_option maxRecDepth 100000 in
set_option maxHeartbeats 8000000 in
theorem specStateValid_any (w : World) (va : Value) (s : StateD) (many : Int) (ha : RdState w va s) : Calls Try.prog 41 #[va, .int .i64 many] w fun e w' => e = .returned (.bool (stateOk s many)) ∧ Below w.heap.size w w' := by
  obtain ⟨h, hw⟩ : ∃ h, IntKind.i64.wrap (many - 1) = h := ⟨_, rfl⟩
  have F1 := Lib.hid fun k => stateOk_val (s := s) (many := many) k
  have F2 := Lib.hid fun k => stateOk_msg (s := s) hw k
  have F3 := Lib.hid fun k => stateOk_ord (s := s) (many := many) k
  have F4 := Lib.hid (stateOk_end (s := s) hw)
  have CM := Lib.hid fun a0 a1 a2 wx => l11Message_any a0 a1 a2 many h wx hw
  clear hw
  obtain ⟨v1, v2, v3, rfl, r1, r2, r3⟩ := ha
  obtain ⟨r, xs, bs, ys⟩ := s
  simp only at *
  generalize stateOk (r, xs, bs, ys) many = R at *
  obtain ⟨a1, c1, rfl, hc1, hm1, H1⟩ := Rd.int r1
  obtain ⟨a2, c2, rfl, hc2, hm2⟩ := Rd.form r2
  obtain ⟨a3, c3, rfl, hc3, hm3⟩ := Rd.form r3
  have HR3 := Lib.hid r3
  clear r1 r2 r3
  have HB : Hid (Below w.heap.size w (w.alloc (.cells #[.int .i64 r, .slice a1 xs.length c1, .slice a2 bs.length c2, .slice a3 ys.length c3] 41))) := Lib.hid (by go_grown)
  have X := Lib.hid (heap_alloc_new w (.cells #[.int .i64 r, .slice a1 xs.length c1, .slice a2 bs.length c2, .slice a3 ys.length c3] 41))
  have CI := Lib.hid fun n lo hi wx => l1In_any n lo hi wx
  generalize xs.length = n1 at *
  generalize bs.length = n2 at *
  generalize ys.length = n3 at *
  go_enter Try.func41, Try.ntmps41
  go_wp2_with fail
  generalize (w.alloc (.cells #[.int .i64 r, .slice a1 n1 c1, .slice a2 n2 c2, .slice a3 n3 c3] 41)) = w0 at *
  go_loopw [5] (fun i wr => ∃ k : Nat, k ≤ n1 ∧ i = .int .i64 k ∧ w0 = wr ∧ Hid (∀ j, j < k → decide (-1 ≤ xs.getD j 0 ∧ xs.getD j 0 ≤ 999999) = true)) (fun i _ => n1 - (intOf i).toNat)
  case atStart => exact ⟨0, Nat.zero_le _, rfl, rfl, Lib.hid fun j hj => absurd hj (Nat.not_lt_zero _)⟩
  case round =>
    obtain ⟨k, hk, rfl, rfl, HJ⟩ := hrel
    have k1 := box_cell X.out 1 (.slice a1 n1 c1) rfl
    by_cases hlt : k < n1
    · obtain ⟨b1, o1, rfl, hb1, hc1'⟩ := H1.out k hlt
      have hc1' := (HB.out.cell (p := ⟨b1, o1 + k, none⟩) hb1).trans hc1'
      have F1K := Lib.hid (F1.out k hlt)
      have CX := CI.out (xs.getD k 0) (-1) 999999
      generalize hq : decide (-1 ≤ xs.getD k 0 ∧ xs.getD k 0 ≤ 999999) = q at *
      have HQ := Lib.hid hq; clear hq H1
      generalize hx : xs.getD k 0 = x at *
      have HX := Lib.hid hx; clear hx
      have CXH := Lib.hid CX; clear CX
      cases q
      · have h0 := F1K.out rfl
        subst h0
        clear F1 F2 F3 F4 F1K
        go_wp2_with fail
        refine (CXH.out _).mono ?_
        rintro e w1 ⟨rfl, rfl⟩
        go_wp2_with fail
        go_ret
        exact ⟨rfl, HB.out⟩
      · go_wp2_with fail
        refine (CXH.out _).mono ?_
        rintro e w1 ⟨rfl, rfl⟩
        go_wp2_with fail
        go_roundw
        case rel => exact ⟨k + 1, by omega, by go_num, (by first | exact rfl | trivial), Lib.hid fun j hj => by
          by_cases e : j = k
          · subst e; rw [HX.out]; exact HQ.out
          · exact HJ.out j (by omega)⟩
        case measure => simp [intOf]; omega
    · obtain rfl : k = n1 := by omega
      have HF1 := HJ
      clear HJ F1 H1
      go_wp2_with fail
      clear k1
      go_loopw [6] (fun i wr => ∃ t : Nat, t ≤ n3 ∧ i = .int .i64 t ∧ Hid (Below w.heap.size w wr) ∧ Hid (wr.heap[w.heap.size]? = some (.cells #[.int .i64 r, .slice a1 k c1, .slice a2 n2 c2, .slice a3 n3 c3] 41 (0, 0))) ∧ Hid (∀ j, j < t → msgOkS h (ys.getD j triZ) = true ∧ (0 < j → tBefore (ys.getD j triZ) (ys.getD (j - 1) triZ) = false))) (fun i _ => n3 - (intOf i).toNat)
      case atStart => exact ⟨0, Nat.zero_le _, rfl, HB, X, Lib.hid fun j hj => absurd hj (Nat.not_lt_zero _)⟩
      case round =>
        clear HB X
        obtain ⟨t, ht, rfl, HB, X, HJ⟩ := hrel
        have k3 := box_cell X.out 3 (.slice a3 n3 c3) rfl
        by_cases hlt : t < n3
        · obtain ⟨b1, o1, rfl, hb1, d0, d1, d2⟩ := (HR3.out.keep HB.out).tri hlt
          have hti : (t : Int) < (n3 : Int) := by omega
          have hx0 := box_lt X.out
          have F2K := Lib.hid (F2.out t hlt); have F3K := Lib.hid (F3.out t hlt)
          have hcm : ∀ wx, Calls Try.prog 82 #[.agg #[.int .i64 (ys.getD t triZ).1, .int .i64 (ys.getD t triZ).2.1, .int .i64 (ys.getD t triZ).2.2], .int .i64 many] wx fun e w' => e = .returned (.bool (msgOkS h (ys.getD t triZ))) ∧ Below wx.heap.size wx w' := fun wx => CM.out _ _ _ wx
          generalize hmo : msgOkS h (ys.getD t triZ) = mo at *
          have HMO := Lib.hid hmo; have HCM := Lib.hid hcm; clear hmo hcm
          have g0 := fun p => GrownW.cell (B := wr.heap.size) k3 hx0 p
          have g1 := fun p => GrownW.cell (B := wr.heap.size) d0 hb1 p
          have g2 := fun p => GrownW.cell (B := wr.heap.size) d1 hb1 p
          have g3 := fun p => GrownW.cell (B := wr.heap.size) d2 hb1 p
          cases mo
          · have h0 := F2K.out rfl
            subst h0
            clear F2 F3 F4 F2K F3K HMO HF1 d0 d1 d2
            generalize (ys.getD t triZ).1 = p0 at *
            generalize (ys.getD t triZ).2.1 = p1 at *
            generalize (ys.getD t triZ).2.2 = p2 at *
            go_wp2_with fail
            refine wp_region_grown wr.heap.size (by kernel_rfl) (by kernel_rfl) ?_
            repeat (go_big_quiet_step ((go_at_call 82; exact GrownW.call (Nat.le_refl _) (HCM.out _))))
            refine wpQuiet_done ?_
            intro w9 hb9
            replace HB := Lib.hid (HB.out.tr hb9); clear hb9 g0 g1 g2 g3
            go_wp2_with fail
            go_ret
            exact ⟨rfl, HB.out⟩
          · by_cases h0t : 0 < t
            · have t6 : decide (0 < t) = true := by simp; omega
              obtain ⟨k2, hk2⟩ : ∃ k2, t = k2 + 1 := ⟨t - 1, by omega⟩
              have HK2 := Lib.hid hk2
              have hk2n : k2 < n3 := by omega
              obtain ⟨b2, o2, e2, hb2, f0, f1, f2⟩ := (HR3.out.keep HB.out).tri hk2n
              simp only [Option.some.injEq, Addr.mk.injEq, and_true] at e2
              obtain ⟨rfl, rfl⟩ := e2
              have hkk : t - 1 = k2 := by omega
              have hcb : ∀ wx, Calls Try.prog 59 #[.agg #[.int .i64 (ys.getD t triZ).1, .int .i64 (ys.getD t triZ).2.1, .int .i64 (ys.getD t triZ).2.2], .agg #[.int .i64 (ys.getD k2 triZ).1, .int .i64 (ys.getD k2 triZ).2.1, .int .i64 (ys.getD k2 triZ).2.2]] wx fun e w' => e = .returned (.bool (tBefore (ys.getD t triZ) (ys.getD k2 triZ))) ∧ Below wx.heap.size wx w' := fun wx => l9Before_any _ _ _ _ _ _ wx
              have HB3 : Hid (tBefore (ys.getD t triZ) (ys.getD (t - 1) triZ) = tBefore (ys.getD t triZ) (ys.getD k2 triZ)) := Lib.hid (by rw [hkk])
              rw [HB3.out] at F3K
              have F3K' := Lib.hid (F3K.out h0t); clear F3K
              generalize tBefore (ys.getD t triZ) (ys.getD k2 triZ) = bv at *
              have HCB := Lib.hid hcb; clear hcb
              generalize (ys.getD t triZ).1 = p0 at *
              generalize (ys.getD t triZ).2.1 = p1 at *
              generalize (ys.getD t triZ).2.2 = p2 at *
              generalize (ys.getD k2 triZ).1 = r0 at *
              generalize (ys.getD k2 triZ).2.1 = r1 at *
              generalize (ys.getD k2 triZ).2.2 = r2 at *
              have hwk : IntKind.i64.wrap ((t : Int) - 1) = (k2 : Int) := by rw [IntWalk.i64_in _ (by omega)]; omega
              have htk : (t : Int) - 1 = (k2 : Int) := by omega
              have hki : (k2 : Int) < (n3 : Int) := by omega
              have g4 := fun p => GrownW.cell (B := wr.heap.size) f0 hb1 p
              have g5 := fun p => GrownW.cell (B := wr.heap.size) f1 hb1 p
              have g6 := fun p => GrownW.cell (B := wr.heap.size) f2 hb1 p
              clear d0 d1 d2 f0 f1 f2 hk2 hb2 hkk
              cases bv
              · go_wp2_with fail
                refine wp_region_grown wr.heap.size (by kernel_rfl) (by kernel_rfl) ?_
                repeat (go_big_quiet_step ((first | (go_at_call 82; exact GrownW.call (Nat.le_refl _) (HCM.out _)) | (go_at_call 59; exact GrownW.call (Nat.le_refl _) (HCB.out _)))))
                refine wpQuiet_done ?_
                intro w9 hb9
                replace HB := Lib.hid (HB.out.tr hb9); replace X := Lib.hid (box_keep X.out hb9)
                clear hb9 g0 g1 g2 g3 g4 g5 g6 hwk htk hki k3
                go_wp2_with fail
                go_roundw
                case rel => exact ⟨t + 1, by omega, by go_num, HB, X, Lib.hid fun j hj => by
                  by_cases e : j = t
                  · subst e; exact ⟨HMO.out, fun _ => HB3.out⟩
                  · exact HJ.out j (by omega)⟩
                case measure => simp [intOf]; omega
              · have h0 := F3K'.out rfl
                subst h0
                clear F2 F3 F4 F2K HMO HF1 HB3 HJ
                go_wp2_with fail
                refine wp_region_grown wr.heap.size (by kernel_rfl) (by kernel_rfl) ?_
                repeat (go_big_quiet_step ((first | (go_at_call 82; exact GrownW.call (Nat.le_refl _) (HCM.out _)) | (go_at_call 59; exact GrownW.call (Nat.le_refl _) (HCB.out _)))))
                refine wpQuiet_done ?_
                intro w9 hb9
                replace HB := Lib.hid (HB.out.tr hb9)
                clear hb9 g0 g1 g2 g3 g4 g5 g6 hwk htk hki
                go_wp2_with fail
                go_ret
                exact ⟨rfl, HB.out⟩
            · have t6 : decide (0 < t) = false := by simp; omega
              have H0T := Lib.hid h0t; clear h0t
              generalize (ys.getD t triZ).1 = p0 at *
              generalize (ys.getD t triZ).2.1 = p1 at *
              generalize (ys.getD t triZ).2.2 = p2 at *
              clear d0 d1 d2
              go_wp2_with fail
              refine wp_region_grown wr.heap.size (by kernel_rfl) (by kernel_rfl) ?_
              repeat (go_big_quiet_step ((go_at_call 82; exact GrownW.call (Nat.le_refl _) (HCM.out _))))
              refine wpQuiet_done ?_
              intro w9 hb9
              replace HB := Lib.hid (HB.out.tr hb9); replace X := Lib.hid (box_keep X.out hb9)
              clear hb9 g0 g1 g2 g3 k3
              go_wp2_with fail
              go_roundw
              case rel => exact ⟨t + 1, by omega, by go_num, HB, X, Lib.hid fun j hj => by
                by_cases e : j = t
                · subst e; exact ⟨HMO.out, fun h => absurd h H0T.out⟩
                · exact HJ.out j (by omega)⟩
              case measure => simp [intOf]; omega
        · obtain rfl : t = n3 := by omega
          have hR := F4.out HF1.out (fun j hj => (HJ.out j hj).1) (fun j hj h0 => (HJ.out j hj).2 h0)
          subst hR
          clear F2 F3 F4 HF1 HJ HR3 CM k3
          have C0 := Lib.hid fun wx => CI.out many 0 16 wx
          have C1 := Lib.hid fun wx => CI.out r 0 100 wx
          generalize hb0 : decide (0 ≤ many ∧ many ≤ 16) = b0 at *
          generalize hb1 : decide (0 ≤ r ∧ r ≤ 100) = b1 at *
          have H0 := Lib.hid hb0; have H1 := Lib.hid hb1; clear hb0 hb1
          have j0 := box_cell X.out 0 (.int .i64 r) rfl; have j1 := box_cell X.out 1 (.slice a1 k c1) rfl; have j2 := box_cell X.out 2 (.slice a2 n2 c2) rfl; have j3 := box_cell X.out 3 (.slice a3 t c3) rfl
          cases b0
          · go_wp2_with fail
            refine (C0.out _).mono ?_
            rintro e w1 ⟨rfl, rfl⟩
            go_wp2_with fail
            go_ret
            exact ⟨by rw [H0.out]; rfl, HB.out⟩
          · go_wp2_with fail
            refine (C0.out _).mono ?_
            rintro e w1 ⟨rfl, rfl⟩
            cases b1
            · go_wp2_with fail
              refine (C1.out _).mono ?_
              rintro e w1 ⟨rfl, rfl⟩
              go_wp2_with fail
              go_ret
              exact ⟨by rw [H0.out, H1.out]; rfl, HB.out⟩
            · go_wp2_with fail
              refine (C1.out _).mono ?_
              rintro e w1 ⟨rfl, rfl⟩
              cases hb2 : ((k : Int) == many)
              · have H2 := Lib.hid hb2
                go_wp2_with fail
                go_ret
                exact ⟨by rw [H0.out, H1.out, H2.out]; rfl, HB.out⟩
              · have H2 := Lib.hid hb2
                cases hb3 : ((n2 : Int) == many)
                · have H3 := Lib.hid hb3
                  go_wp2_with fail
                  go_ret
                  exact ⟨by rw [H0.out, H1.out, H2.out, H3.out]; rfl, HB.out⟩
                · have H3 := Lib.hid hb3
                  cases hb4 : decide ((t : Int) ≤ 2000)
                  · have H4 := Lib.hid hb4
                    go_wp2_with fail
                    go_ret
                    exact ⟨by rw [H0.out, H1.out, H2.out, H3.out, H4.out]; rfl, HB.out⟩
                  · have H4 := Lib.hid hb4
                    go_wp2_with fail
                    go_ret
                    exact ⟨by rw [H0.out, H1.out, H2.out, H3.out, H4.out]; rfl, HB.out⟩
end Go.Proofs.Ytgdggkhdollieaa
