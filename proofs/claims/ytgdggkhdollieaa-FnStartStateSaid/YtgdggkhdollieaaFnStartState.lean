/-
  The state at the start is valid; it is done only without vertices; all vertices go on: for every code: no condition.
-/
import Derived.Test.YtgdggkhdollieaaArgs
import Derived.Test.YtgdggkhdollieaaStateD
import Derived.Test.YtgdggkhdollieaaBytes
import Derived.Deep.RegionHeld3
import Derived.Test.YtgdggkhdollieaaFacts
namespace Go.Proofs.Ytgdggkhdollieaa
open Go.ChangeShapes Go.WideShapes Go.ChangeAt Go.RowKit
set_option linter.unusedVariables false

theorem startOk (n : Nat) (hn : n ≤ 16) : stateOk (0, List.replicate n 0, List.replicate n true, []) (n : Int) = true := by
  unfold stateOk
  have h1 : valOk (List.replicate n 0) = true := valOk_yes fun k hk => by
    have : k < n := by simpa using hk
    simp [this]
  have h2 : sortedB [] = true := rfl
  have h3 : msgsOk (n : Int) [] = true := rfl
  simp only [h1, h2, h3, List.length_replicate, List.length_nil]
  simp; omega
theorem startDone (n : Nat) (hn : n ≤ 16) : stateDone (0, List.replicate n 0, List.replicate n true, []) = ((n : Int) == 0) := by
  unfold stateDone
  simp only [List.length_replicate, List.length_nil]
  rw [startOk n hn]
  cases n with
  | zero => rfl
  | succ n =>
    have : someB (List.replicate (n + 1) true) = true := someB_yes (k := 0) (by simp) (by simp)
    rw [this]
    simp; omega

set_option maxRecDepth 100000 in
set_option maxHeartbeats 4000000 in
theorem FnStartState_walk (w : World) (va : Value) (bs : List Int) (hv : Rd w 1 va bs.length (bys bs)) (hx : ∀ x ∈ bs, 0 ≤ x ∧ x ≤ 255) :
    Calls Try.prog 8 #[va] w fun e w' => e = .returned (.bool true) ∧ Below w.heap.size w w' := by
  have HDR := Lib.hid (DrawStartState_any w va bs hv hx)
  obtain ⟨hlb, av, acap, rfl, hcap, hmc, hcell⟩ := hv
  clear hlb hcap hmc hcell hx
  by_cases hl : bs.length ≤ 1048576
  · have hl' : decide ((bs.length : Int) > 1048576) = false := by simp; omega
    go_enter Try.func8, Try.ntmps8
    go_wp2_with fail
    refine HDR.out.mono ?_
    rintro e w1 ⟨⟨c, rfl, c0, c1⟩, hb1⟩
    have HB := Lib.hid hb1
    clear hb1 HDR hl hl'
    have CI := Lib.hid fun wx => implStartState_any wx c
    have CS := Lib.hid fun wx => specStartState_any wx c
    by_cases hv : 0 ≤ c ∧ c ≤ 16
    · obtain ⟨n, rfl⟩ := Int.eq_ofNat_of_zero_le hv.1
      have hn : n ≤ 16 := by omega
      rw [startState_yes n hn] at CI CS
      have HOK := Lib.hid (startOk n hn); have HDN := Lib.hid (startDone n hn)
      have HSM := Lib.hid fun wx v1 v2 h1 h2 => sameState_same wx v1 v2 (0, List.replicate n 0, List.replicate n true, []) h1 h2
      have CV := Lib.hid fun wx vx h => implStateValid_any wx vx (0, List.replicate n 0, List.replicate n true, []) (n : Int) h
      have CD := Lib.hid fun wx vx h => implStateDone_any wx vx (0, List.replicate n 0, List.replicate n true, []) h
      rw [HOK.out] at CV; rw [HDN.out] at CD
      clear HOK HDN hv c0 c1
      have t1 : decide ((n : Int) < 0) = false := by simp
      have t2 : decide ((n : Int) > 16) = false := by simp; omega
      go_wp2_with fail
      refine (CI.out _).mono ?_
      rintro e w2 ⟨v, rfl, ho, hb⟩
      replace HB := Lib.hid (HB.out.tr hb); clear hb CI
      obtain ⟨v1, v2, v3, hve, o1, o2, o3⟩ := id ho
      simp only at hve o1 o2 o3
      obtain ⟨a1, c1, rfl, -, -⟩ := Rd.form o1.rd
      obtain ⟨a2, c2, rfl, -, -⟩ := Rd.form o2.rd
      obtain ⟨a3, c3, rfl, -, -⟩ := Rd.form o3.rd
      subst hve
      simp only [List.length_replicate, List.length_nil] at ho o1 o2 o3 ⊢
      have hal : Below w2.heap.size w2 (w2.alloc (.cells #[.int .i64 0, .slice a1 n c1, .slice a2 n c2, .slice a3 0 c3] 41)) := (Below.refl _ _).alloc (Nat.le_refl _) _
      have HS := Lib.hid (ho.keep hal)
      have HG := Lib.hid (o2.keep hal)
      replace HB := Lib.hid (HB.out.tr hal)
      have X := Lib.hid (heap_alloc_new w2 (.cells #[.int .i64 0, .slice a1 n c1, .slice a2 n c2, .slice a3 0 c3] 41))
      clear ho o1 o2 o3 hal
      go_wp2_with fail
      generalize (w2.alloc (.cells #[.int .i64 0, .slice a1 n c1, .slice a2 n c2, .slice a3 0 c3] 41)) = w3 at *
      have hxl := box_lt X.out
      have k0 := box_cell X.out 0 (.int .i64 0) rfl; have k1 := box_cell X.out 1 (.slice a1 n c1) rfl; have k2 := box_cell X.out 2 (.slice a2 n c2) rfl; have k3 := box_cell X.out 3 (.slice a3 0 c3) rfl
      have BD : Hid (Below w3.heap.size w3 w3.drew) := Lib.hid (Below.refl _ _).drew
      go_region_held3 (fun w' => w'.cell? ⟨w2.heap.size, 0, none⟩ = some (.int .i64 0) ∧ w'.cell? ⟨w2.heap.size, 1, none⟩ = some (.slice a1 n c1) ∧ w'.cell? ⟨w2.heap.size, 2, none⟩ = some (.slice a2 n c2) ∧ w'.cell? ⟨w2.heap.size, 3, none⟩ = some (.slice a3 0 c3)) (go_keep) (first
        | (go_at_call 25; refine (CS.out _).mono ?_; rintro e wx ⟨c, rfl, hc, hb⟩; have HC := Lib.hid hc; replace BD := Lib.hid (BD.out.tr hb); have z0 := (BD.out.cell (p := ⟨w2.heap.size, 0, none⟩) hxl).trans k0; have z1 := (BD.out.cell (p := ⟨w2.heap.size, 1, none⟩) hxl).trans k1; have z2 := (BD.out.cell (p := ⟨w2.heap.size, 2, none⟩) hxl).trans k2; have z3 := (BD.out.cell (p := ⟨w2.heap.size, 3, none⟩) hxl).trans k3; clear hc hb)
        | (go_at_call 37; refine (HSM.out _ _ _ (HS.out.keep BD.out).rd HC.out.rd).mono ?_; rintro e wx ⟨rfl, hb⟩; replace BD := Lib.hid (BD.out.tr hb); have z0 := (BD.out.cell (p := ⟨w2.heap.size, 0, none⟩) hxl).trans k0; have z1 := (BD.out.cell (p := ⟨w2.heap.size, 1, none⟩) hxl).trans k1; have z2 := (BD.out.cell (p := ⟨w2.heap.size, 2, none⟩) hxl).trans k2; have z3 := (BD.out.cell (p := ⟨w2.heap.size, 3, none⟩) hxl).trans k3; clear hb))
      replace HB := Lib.hid (HB.out.tr BD.out); replace X := Lib.hid (box_keep X.out BD.out); replace HS := Lib.hid (HS.out.keep BD.out); replace HG := Lib.hid (HG.out.keep BD.out)
      clear BD HC CS HSM z0 z1 z2 z3 k0 k1 k2 k3 hxl
      obtain ⟨w4, hw4⟩ : ∃ w4 : World, w4 = wx := ⟨_, rfl⟩
      subst hw4
      go_wp2_with fail
      go_loopw [5] (fun i wr => ∃ k : Nat, k ≤ n ∧ i = .int .i64 k ∧ w4 = wr) (fun i _ => n - (intOf i).toNat)
      case atStart => exact ⟨0, Nat.zero_le _, rfl, rfl⟩
      case round =>
        obtain ⟨k, hk, rfl, rfl⟩ := hrel
        have k2 := box_cell X.out 2 (.slice a2 n c2) rfl
        by_cases hlt : k < n
        · have hrd := HG.out.rd
          have hrd2 : Rd w4 1 (.slice a2 n c2) (List.replicate n true).length (bools (List.replicate n true)) := by simpa using hrd
          obtain ⟨a9, c9, e9, -, -, H9⟩ := hrd2.bool
          simp only [Value.slice.injEq] at e9
          obtain ⟨rfl, -, rfl⟩ := e9
          obtain ⟨b1, o1, rfl, hb1, hc1⟩ := H9.out k (by simpa using hlt)
          have hgt : (List.replicate n true).getD k false = true := by simp [hlt]
          rw [hgt] at hc1
          clear hgt H9 hrd hrd2
          go_wp2_with fail
          go_roundw
          case rel => exact ⟨k + 1, by omega, by go_num, (by first | exact rfl | trivial)⟩
          case measure => simp [intOf]; omega
        · obtain rfl : k = n := by omega
          have k0 := box_cell X.out 0 (.int .i64 0) rfl; have k1 := box_cell X.out 1 (.slice a1 k c1) rfl; have k3 := box_cell X.out 3 (.slice a3 0 c3) rfl
          go_wp2_with fail
          refine (CV.out _ _ HS.out.rd).mono ?_
          rintro e w5 ⟨rfl, hb⟩
          replace HB := Lib.hid (HB.out.tr hb); replace X := Lib.hid (box_keep X.out hb); replace HS := Lib.hid (HS.out.keep hb)
          clear hb k0 k1 k2 k3 CV
          have k0 := box_cell X.out 0 (.int .i64 0) rfl; have k1 := box_cell X.out 1 (.slice a1 k c1) rfl; have k2 := box_cell X.out 2 (.slice a2 k c2) rfl; have k3 := box_cell X.out 3 (.slice a3 0 c3) rfl
          go_wp2_with fail
          refine (CD.out _ _ HS.out.rd).mono ?_
          rintro e w6 ⟨rfl, hb⟩
          replace HB := Lib.hid (HB.out.tr hb); replace X := Lib.hid (box_keep X.out hb)
          clear hb k0 k1 k2 k3 CD HS HG
          have k0 := box_cell X.out 0 (.int .i64 0) rfl
          have tz : (((k : Int) == 0) == ((k : Int) == 0)) = true := by simp
          go_wp2_with fail
          go_ret
          exact ⟨by simp, HB.out⟩
    · rw [startState_no hv] at CI CS
      have HSM := Lib.hid fun wx v1 v2 h1 h2 => sameState_same wx v1 v2 (0, [], [], []) h1 h2
      have CA := Lib.hid fun wx => alive_any wx
      have E : decide (c < 0) = true ∨ (decide (c < 0) = false ∧ decide (c > 16) = true) := by
        simp only [decide_eq_true_eq, decide_eq_false_iff_not]; omega
      clear hv c0 c1
      go_wp2_with fail
      refine (CI.out _).mono ?_
      rintro e w2 ⟨v, rfl, ho, hb⟩
      replace HB := Lib.hid (HB.out.tr hb); clear hb CI
      obtain ⟨v1, v2, v3, hve, o1, o2, o3⟩ := id ho
      simp only at hve o1 o2 o3
      obtain ⟨a1, c1, rfl, -, -⟩ := Rd.form o1.rd
      obtain ⟨a2, c2, rfl, -, -⟩ := Rd.form o2.rd
      obtain ⟨a3, c3, rfl, -, -⟩ := Rd.form o3.rd
      subst hve
      simp only [List.length_nil] at ho o1 o2 o3 ⊢
      have hal : Below w2.heap.size w2 (w2.alloc (.cells #[.int .i64 0, .slice a1 0 c1, .slice a2 0 c2, .slice a3 0 c3] 41)) := (Below.refl _ _).alloc (Nat.le_refl _) _
      have HS := Lib.hid (ho.keep hal)
      replace HB := Lib.hid (HB.out.tr hal)
      have X := Lib.hid (heap_alloc_new w2 (.cells #[.int .i64 0, .slice a1 0 c1, .slice a2 0 c2, .slice a3 0 c3] 41))
      clear ho o1 o2 o3 hal
      go_wp2_with fail
      generalize (w2.alloc (.cells #[.int .i64 0, .slice a1 0 c1, .slice a2 0 c2, .slice a3 0 c3] 41)) = w3 at *
      have hxl := box_lt X.out
      have k0 := box_cell X.out 0 (.int .i64 0) rfl; have k1 := box_cell X.out 1 (.slice a1 0 c1) rfl; have k2 := box_cell X.out 2 (.slice a2 0 c2) rfl; have k3 := box_cell X.out 3 (.slice a3 0 c3) rfl
      have BD : Hid (Below w3.heap.size w3 w3.drew) := Lib.hid (Below.refl _ _).drew
      go_region_held3 (fun w' => w'.cell? ⟨w2.heap.size, 0, none⟩ = some (.int .i64 0) ∧ w'.cell? ⟨w2.heap.size, 1, none⟩ = some (.slice a1 0 c1) ∧ w'.cell? ⟨w2.heap.size, 2, none⟩ = some (.slice a2 0 c2) ∧ w'.cell? ⟨w2.heap.size, 3, none⟩ = some (.slice a3 0 c3)) (go_keep) (first
        | (go_at_call 25; refine (CS.out _).mono ?_; rintro e wx ⟨c, rfl, hc, hb⟩; have HC := Lib.hid hc; replace BD := Lib.hid (BD.out.tr hb); have z0 := (BD.out.cell (p := ⟨w2.heap.size, 0, none⟩) hxl).trans k0; have z1 := (BD.out.cell (p := ⟨w2.heap.size, 1, none⟩) hxl).trans k1; have z2 := (BD.out.cell (p := ⟨w2.heap.size, 2, none⟩) hxl).trans k2; have z3 := (BD.out.cell (p := ⟨w2.heap.size, 3, none⟩) hxl).trans k3; clear hc hb)
        | (go_at_call 37; refine (HSM.out _ _ _ (HS.out.keep BD.out).rd HC.out.rd).mono ?_; rintro e wx ⟨rfl, hb⟩; replace BD := Lib.hid (BD.out.tr hb); have z0 := (BD.out.cell (p := ⟨w2.heap.size, 0, none⟩) hxl).trans k0; have z1 := (BD.out.cell (p := ⟨w2.heap.size, 1, none⟩) hxl).trans k1; have z2 := (BD.out.cell (p := ⟨w2.heap.size, 2, none⟩) hxl).trans k2; have z3 := (BD.out.cell (p := ⟨w2.heap.size, 3, none⟩) hxl).trans k3; clear hb))
      replace HB := Lib.hid (HB.out.tr BD.out); replace X := Lib.hid (box_keep X.out BD.out)
      clear BD HC CS HSM z0 z1 z2 z3 k0 k1 k2 k3 hxl HS
      have k1 := box_cell X.out 1 (.slice a1 0 c1) rfl
      rcases E with E1 | ⟨E1, E2⟩
      all_goals
        go_wp2_with fail
        refine (CA.out _).mono ?_
        rintro e w5 ⟨rfl, hb⟩
        replace HB := Lib.hid (HB.out.tr hb); clear hb
        go_wp2_with fail
        go_ret
        exact ⟨rfl, HB.out⟩
  · have hl' : decide ((bs.length : Int) > 1048576) = true := by simp; omega
    clear HDR
    go_enter Try.func8, Try.ntmps8
    go_wp2_with fail
    go_ret
    exact ⟨rfl, Below.refl _ _⟩
set_option maxRecDepth 100000 in
theorem FnStartState_lifted (os : Os) (started : os.Started) (H : Type) (enc : TypeId × Value → H) :
    ReturnsInHanded {} Try.checked os 8 .any (Rows.fnStartStateSpec.pre6 enc Try.prog Try.f8 Rows.fnStartStateRow.domain false) (Rows.fnStartStateSpec.post enc Try.prog Try.f8 false true false false) := by
  refine returnsInHanded_of_change (C := Try.checked) tryOwn started (by kernel_rfl) Try.func8
    (ChangeSpec.witness6 (enc := enc) (C := Try.checked) false ⟨#[], #[.slice none 0 0], []⟩ 8 (by kernel_rfl) (by kernel_rfl) (by kernel_rfl) (by kernel_rfl)) ?_
  intro W base args ds gs before hval0 hW hcnd _
  have hval : ∀ (j : Nat) t v, Try.f8.params[j]? = some t → args[j]? = some v → Value.okWide Try.prog W .any base t v := hval0
  have hW' := hW
  obtain ⟨p, q, hA0, hV, rfl, hfz, hnd⟩ := hW
  have hA : DataW.TrodAll enc Try.prog W 0 (fun _ => true) true Try.f8.params.toList args.toList ds p := hA0
  rw [Try.params8] at hA hval
  obtain ⟨v0, vs0, d0, ds0, p0, q0, hargs, rfl, rfl, h0, r0⟩ := trodAll_cons hA
  obtain ⟨rfl, rfl, rfl⟩ := trodAll_nil r0
  obtain rfl : args = #[v0] := by cases args; simp_all
  obtain ⟨rfl, rfl⟩ := trodVars_none hV
  have k0 := h0
  have lt0 : ∀ x ∈ p0, x.block < W.heap.size := by obtain ⟨m, hm⟩ := k0; exact DataW.trod_lt m _ _ _ hm
  obtain ⟨c0, len0, cap0, rfl⟩ := okWide_slice Try.underlying22 (hval 0 22 v0 rfl rfl)
  obtain ⟨n0, x0, t0⟩ := trod_of rfl h0
  obtain ⟨xs0, w0, g0⟩ := trod_bytes Try.underlying22 Try.underlying5 (by kernel_rfl) t0
  clear hA0 hval0
  refine (FnStartState_walk W _ xs0 w0 g0).mono fun e W' ⟨he, bel⟩ => ?_
  subst he
  exact ⟨_, rfl, _, _, _, [], _, [], hW', trodAll_mk1 (shut_bool Try.underlying4 _), (trodAll_cons_mk (Below.trod tryLaidOut (by kernel_rfl) (of_decide_eq_true (by kernel_rfl)) k0 bel lt0) trodAll_mk0), rfl, bel.frame _, fun h => by cases h⟩

set_option maxHeartbeats 4000000 in
set_option maxRecDepth 100000 in
theorem FnStartState_holds : Rows.FnStartStateSaid := by
  refine OpenClaim.holds_of_wide 8 Try.f8 rfl rfl rfl rfl rfl rfl rfl ⟨rfl, rfl, rfl, rfl, rfl⟩ rfl rfl rfl rfl rfl ?hfn Try.func8 ?closed ?hinst ?hwrap (fun os started H enc _ => FnStartState_lifted os started H enc)
  case hfn => as_aux_lemma => kernel_rfl
  case hinst => exact of_decide_eq_true (by as_aux_lemma => kernel_rfl)
  case hwrap => unfold Func.isWrapper; first | (rw [if_pos (by decide +kernel)]; kernel_rfl) | (rw [if_neg (by decide +kernel)]; exact ⟨rfl, rfl⟩)
  case closed =>
    simp only [joinedFacts, Bool.and_eq_true]
    repeat' apply And.intro
    all_goals first
      | with_reducible exact mayEnter_ok
      | (rewrite [liftsFinal_no]; as_aux_lemma => kernel_rfl)
      | (rewrite [make_cut]; as_aux_lemma => kernel_rfl)
      | as_aux_lemma => kernel_rfl
end Go.Proofs.Ytgdggkhdollieaa
