/-
  The program's LastRound returns what the reference's returns, for all arguments: no condition.
-/
import Derived.Test.YtgdggkhdollieaaGraph
import Derived.Test.YtgdggkhdollieaaLast
import Derived.Test.YtgdggkhdollieaaInts
import Derived.Deep.RegionHeld3
import Derived.Test.YtgdggkhdollieaaFacts
namespace Go.Proofs.Ytgdggkhdollieaa
open Go.ChangeShapes Go.WideShapes Go.ChangeAt Go.RowKit
set_option linter.unusedVariables false

set_option maxRecDepth 100000 in
set_option maxHeartbeats 8000000 in
theorem FnExactLastRound_walk (w : World) (va : Value) (g : GraphD) (hv : RdGraph w va g) (hg : WfGraph g) (y : Tri) (hy : WfTri y) :
    Calls Try.prog 7 #[va, triV y] w fun e w' => e = .returned (.bool true) ∧ Below w.heap.size w w' := by
  obtain ⟨k, s, r⟩ := y
  simp only [triV]
  have HV := Lib.hid hv
  obtain ⟨p0, c0, rfl, -, hc0, hc1⟩ := hv.form
  clear hg hv hy
  have HB : Hid (Below w.heap.size w ((w.alloc (.cells #[.int .i64 g.1, .slice p0 g.2.length c0] 48)).alloc (.cells #[.int .i64 k, .int .i64 s, .int .i64 r] 50))) := Lib.hid (by go_grown)
  have X := Lib.hid (box_alloc (heap_alloc_new w (.cells #[.int .i64 g.1, .slice p0 g.2.length c0] 48)) (.cells #[.int .i64 k, .int .i64 s, .int .i64 r] 50))
  have Y := Lib.hid (heap_alloc_new (w.alloc (.cells #[.int .i64 g.1, .slice p0 g.2.length c0] 48)) (.cells #[.int .i64 k, .int .i64 s, .int .i64 r] 50))
  rw [World.size_alloc] at Y
  generalize hw0 : ((w.alloc (.cells #[.int .i64 g.1, .slice p0 g.2.length c0] 48)).alloc (.cells #[.int .i64 k, .int .i64 s, .int .i64 r] 50)) = w0 at *
  have HW0 := Lib.hid hw0; clear hw0
  have CP := Lib.hid fun wx => toProgram_any k s r wx
  by_cases hl : sizeGraph g ≤ 1048576
  · have S0 := Lib.hid (szGraph_ok _ _ g 1048576 (HV.out.keep HB.out) (by omega) (by omega))
    have CSP := Lib.hid fun (wx : World) (vx : Value) (h : RdGraph wx vx g) => specLastRound_any wx vx g k s r h
    have CIM := Lib.hid fun (wx : World) (vx : Value) (h : RdGraph wx vx g)  => implLastRound_any wx vx g k s r h
    generalize lastRound g (k, s, r) = S at *
    go_enter Try.func7, Try.ntmps7
    have hx0 := box_lt X.out
    have hy0 := box_lt Y.out
    have k00 := box_cell X.out 0 (.int .i64 g.1) rfl; have k01 := box_cell X.out 1 (.slice p0 g.2.length c0) rfl
    go_wp2_with fail
    rw [HW0.out]
    clear k00 k01
    refine S0.out.mono ?_
    rintro e w1 ⟨rfl, hb⟩
    replace X := Lib.hid (box_keep X.out hb); replace Y := Lib.hid (box_keep Y.out hb); replace HB := Lib.hid (HB.out.tr hb)
    clear hb S0
    have hl2 : 0 ≤ (1048576 : Int) - (sizeGraph g : Int) := by omega
    have hxl : w.heap.size < w1.heap.size := box_lt X.out
    have hyl : w.heap.size + 1 < w1.heap.size := box_lt Y.out
    have k00 := box_cell X.out 0 (.int .i64 g.1) rfl; have k01 := box_cell X.out 1 (.slice p0 g.2.length c0) rfl
    have j0 := box_cell Y.out 0 (.int .i64 k) rfl; have j1 := box_cell Y.out 1 (.int .i64 s) rfl; have j2 := box_cell Y.out 2 (.int .i64 r) rfl
    go_wp2_with fail
    have BD : Hid (Below w1.heap.size w1 w1.drew) := Lib.hid (Below.refl _ _).drew
    go_region_held3 (fun w' => w'.cell? ⟨w.heap.size, 0, none⟩ = some (.int .i64 g.1) ∧ w'.cell? ⟨w.heap.size, 1, none⟩ = some (.slice p0 g.2.length c0) ∧ w'.cell? ⟨w.heap.size + 1, 0, none⟩ = some (.int .i64 k) ∧ w'.cell? ⟨w.heap.size + 1, 1, none⟩ = some (.int .i64 s) ∧ w'.cell? ⟨w.heap.size + 1, 2, none⟩ = some (.int .i64 r)) (go_keep) (first
      | (go_at_call 32; refine (toGraph_any _ _ g (HV.out.keep (HB.out.tr BD.out)) (by omega)).mono ?_; rintro e wx ⟨c, rfl, hc, hb⟩; have HC := Lib.hid hc; replace BD := Lib.hid (BD.out.tr hb); have z0 := (BD.out.cell (p := ⟨w.heap.size, 0, none⟩) hxl).trans k00; have z1 := (BD.out.cell (p := ⟨w.heap.size, 1, none⟩) hxl).trans k01; have z2 := (BD.out.cell (p := ⟨w.heap.size + 1, 0, none⟩) hyl).trans j0; have z3 := (BD.out.cell (p := ⟨w.heap.size + 1, 1, none⟩) hyl).trans j1; have z4 := (BD.out.cell (p := ⟨w.heap.size + 1, 2, none⟩) hyl).trans j2; clear hc hb)
      | (go_at_call 33; refine (CP.out _).mono ?_; rintro e wx ⟨rfl, hb⟩; (first | (replace HC := Lib.hid (HC.out.keep hb)) | skip); replace BD := Lib.hid (BD.out.tr hb); have z0 := (BD.out.cell (p := ⟨w.heap.size, 0, none⟩) hxl).trans k00; have z1 := (BD.out.cell (p := ⟨w.heap.size, 1, none⟩) hxl).trans k01; have z2 := (BD.out.cell (p := ⟨w.heap.size + 1, 0, none⟩) hyl).trans j0; have z3 := (BD.out.cell (p := ⟨w.heap.size + 1, 1, none⟩) hyl).trans j1; have z4 := (BD.out.cell (p := ⟨w.heap.size + 1, 2, none⟩) hyl).trans j2; clear hb)
      | (go_at_call 31; refine (CSP.out _ _ HC.out.rd).mono ?_; rintro e wx ⟨rfl, hb⟩; replace BD := Lib.hid (BD.out.tr hb); have z0 := (BD.out.cell (p := ⟨w.heap.size, 0, none⟩) hxl).trans k00; have z1 := (BD.out.cell (p := ⟨w.heap.size, 1, none⟩) hxl).trans k01; have z2 := (BD.out.cell (p := ⟨w.heap.size + 1, 0, none⟩) hyl).trans j0; have z3 := (BD.out.cell (p := ⟨w.heap.size + 1, 1, none⟩) hyl).trans j1; have z4 := (BD.out.cell (p := ⟨w.heap.size + 1, 2, none⟩) hyl).trans j2; clear hb))
    replace HB := Lib.hid (HB.out.tr BD.out); replace X := Lib.hid (box_keep X.out BD.out); replace Y := Lib.hid (box_keep Y.out BD.out)
    clear BD HC z0 z1 z2 z3 z4 k00 k01 j0 j1 j2 hxl hyl CSP
    obtain ⟨w1, hw1⟩ : ∃ w1 : World, w1 = wx := ⟨_, rfl⟩
    subst hw1
    have k00 := box_cell X.out 0 (.int .i64 g.1) rfl; have k01 := box_cell X.out 1 (.slice p0 g.2.length c0) rfl
    go_wp2_with fail
    refine (toGraph_any _ _ g (HV.out.keep HB.out) (by omega)).mono ?_
    rintro e w2 ⟨xI, rfl, hI, hb⟩
    obtain ⟨aI, fI, rfl⟩ := hI.form
    replace HB := Lib.hid (HB.out.tr hb); replace X := Lib.hid (box_keep X.out hb); replace Y := Lib.hid (box_keep Y.out hb)
    have hal : Below w2.heap.size w2 (w2.alloc (.cells #[.int .i64 g.1, .slice aI g.2.length fI] 55)) := (Below.refl _ _).alloc (Nat.le_refl _) _
    have HI := Lib.hid (hI.keep hal)
    replace HB := Lib.hid (HB.out.tr hal); replace X := Lib.hid (box_keep X.out hal); replace Y := Lib.hid (box_keep Y.out hal)
    have I := Lib.hid (heap_alloc_new w2 (.cells #[.int .i64 g.1, .slice aI g.2.length fI] 55))
    clear hI hb hal k00 k01
    go_wp2_with fail
    generalize (w2.alloc (.cells #[.int .i64 g.1, .slice aI g.2.length fI] 55)) = w3 at *
    have hil : w2.heap.size < w3.heap.size := box_lt I.out
    have hyl : w.heap.size + 1 < w3.heap.size := box_lt Y.out
    have i0 := box_cell I.out 0 (.int .i64 g.1) rfl; have i1 := box_cell I.out 1 (.slice aI g.2.length fI) rfl
    have j0 := box_cell Y.out 0 (.int .i64 k) rfl; have j1 := box_cell Y.out 1 (.int .i64 s) rfl; have j2 := box_cell Y.out 2 (.int .i64 r) rfl
    have BD : Hid (Below w3.heap.size w3 w3.drew) := Lib.hid (Below.refl _ _).drew
    go_region_held3 (fun w' => w'.cell? ⟨w2.heap.size, 0, none⟩ = some (.int .i64 g.1) ∧ w'.cell? ⟨w2.heap.size, 1, none⟩ = some (.slice aI g.2.length fI) ∧ w'.cell? ⟨w.heap.size + 1, 0, none⟩ = some (.int .i64 k) ∧ w'.cell? ⟨w.heap.size + 1, 1, none⟩ = some (.int .i64 s) ∧ w'.cell? ⟨w.heap.size + 1, 2, none⟩ = some (.int .i64 r)) (go_keep) (first
      | (go_at_call 33; refine (CP.out _).mono ?_; rintro e wx ⟨rfl, hb⟩; replace BD := Lib.hid (BD.out.tr hb); have z0 := (BD.out.cell (p := ⟨w2.heap.size, 0, none⟩) hil).trans i0; have z1 := (BD.out.cell (p := ⟨w2.heap.size, 1, none⟩) hil).trans i1; have z2 := (BD.out.cell (p := ⟨w.heap.size + 1, 0, none⟩) hyl).trans j0; have z3 := (BD.out.cell (p := ⟨w.heap.size + 1, 1, none⟩) hyl).trans j1; have z4 := (BD.out.cell (p := ⟨w.heap.size + 1, 2, none⟩) hyl).trans j2; clear hb)
      | (go_at_call 34; refine (CIM.out _ _ (HI.out.keep BD.out).rd).mono ?_; rintro e wx ⟨rfl, hb⟩; replace BD := Lib.hid (BD.out.tr hb); have z0 := (BD.out.cell (p := ⟨w2.heap.size, 0, none⟩) hil).trans i0; have z1 := (BD.out.cell (p := ⟨w2.heap.size, 1, none⟩) hil).trans i1; have z2 := (BD.out.cell (p := ⟨w.heap.size + 1, 0, none⟩) hyl).trans j0; have z3 := (BD.out.cell (p := ⟨w.heap.size + 1, 1, none⟩) hyl).trans j1; have z4 := (BD.out.cell (p := ⟨w.heap.size + 1, 2, none⟩) hyl).trans j2; clear hb))
    replace HB := Lib.hid (HB.out.tr BD.out); replace X := Lib.hid (box_keep X.out BD.out); replace I := Lib.hid (box_keep I.out BD.out); replace HI := Lib.hid (HI.out.keep BD.out)
    clear BD z0 z1 z2 z3 z4 i0 i1 j0 j1 j2 hil hyl CIM Y
    obtain ⟨w4, hw4⟩ : ∃ w4 : World, w4 = wx := ⟨_, rfl⟩
    subst hw4
    have hxl : w.heap.size < w4.heap.size := box_lt X.out
    have hil : w2.heap.size < w4.heap.size := box_lt I.out
    have k00 := box_cell X.out 0 (.int .i64 g.1) rfl; have k01 := box_cell X.out 1 (.slice p0 g.2.length c0) rfl
    have i0 := box_cell I.out 0 (.int .i64 g.1) rfl; have i1 := box_cell I.out 1 (.slice aI g.2.length fI) rfl
    go_wp2_with fail
    have BD : Hid (Below w4.heap.size w4 w4.drew) := Lib.hid (Below.refl _ _).drew
    go_region_held3 (fun w' => w'.cell? ⟨w.heap.size, 0, none⟩ = some (.int .i64 g.1) ∧ w'.cell? ⟨w.heap.size, 1, none⟩ = some (.slice p0 g.2.length c0) ∧ w'.cell? ⟨w2.heap.size, 0, none⟩ = some (.int .i64 g.1) ∧ w'.cell? ⟨w2.heap.size, 1, none⟩ = some (.slice aI g.2.length fI)) (go_keep) (first
      | (go_at_call 32; refine (toGraph_any _ _ g (HV.out.keep (HB.out.tr BD.out)) (by omega)).mono ?_; rintro e wx ⟨c, rfl, hc, hb⟩; have HC := Lib.hid hc; replace BD := Lib.hid (BD.out.tr hb); have z0 := (BD.out.cell (p := ⟨w.heap.size, 0, none⟩) hxl).trans k00; have z1 := (BD.out.cell (p := ⟨w.heap.size, 1, none⟩) hxl).trans k01; have z2 := (BD.out.cell (p := ⟨w2.heap.size, 0, none⟩) hil).trans i0; have z3 := (BD.out.cell (p := ⟨w2.heap.size, 1, none⟩) hil).trans i1; clear hc hb)
      | (go_at_call 35; refine (eqGraph_same _ _ _ g (HI.out.keep BD.out).rd HC.out.rd).mono ?_; rintro e wx ⟨rfl, hb⟩; replace BD := Lib.hid (BD.out.tr hb); have z0 := (BD.out.cell (p := ⟨w.heap.size, 0, none⟩) hxl).trans k00; have z1 := (BD.out.cell (p := ⟨w.heap.size, 1, none⟩) hxl).trans k01; have z2 := (BD.out.cell (p := ⟨w2.heap.size, 0, none⟩) hil).trans i0; have z3 := (BD.out.cell (p := ⟨w2.heap.size, 1, none⟩) hil).trans i1; clear hb))
    replace HB := Lib.hid (HB.out.tr BD.out)
    go_wp2_with fail
    go_ret
    exact ⟨rfl, HB.out⟩
  · have S0 := Lib.hid (szGraph_no _ _ g 1048576 (HV.out.keep HB.out) (by omega) (by omega) (by omega))
    have k00 := box_cell X.out 0 (.int .i64 g.1) rfl; have k01 := box_cell X.out 1 (.slice p0 g.2.length c0) rfl
    go_enter Try.func7, Try.ntmps7
    go_wp2_with fail
    rw [HW0.out]
    refine S0.out.mono ?_
    rintro e w1 ⟨rfl, hb⟩
    replace HB := Lib.hid (HB.out.tr hb); clear hb S0 k00 k01
    go_wp2_with fail
    go_ret
    exact ⟨rfl, HB.out⟩
set_option maxRecDepth 100000 in
theorem FnExactLastRound_lifted (os : Os) (started : os.Started) (H : Type) (enc : TypeId × Value → H) :
    ReturnsInHanded {} Try.checked os 7 .any (Rows.fnExactLastRoundSpec.pre6 enc Try.prog Try.f7 Rows.fnExactLastRoundRow.domain false) (Rows.fnExactLastRoundSpec.post enc Try.prog Try.f7 false true false false) := by
  refine returnsInHanded_of_change (C := Try.checked) tryOwn started (by kernel_rfl) Try.func7
    (ChangeSpec.witness6 (enc := enc) (C := Try.checked) false ⟨#[], #[.agg #[.int .i64 0, .slice none 0 0], .agg #[.int .i64 0, .int .i64 0, .int .i64 0]], []⟩ 8 (by kernel_rfl) (by kernel_rfl) (by kernel_rfl) (by kernel_rfl)) ?_
  intro W base args ds gs before hval0 hW hcnd _
  have hval : ∀ (j : Nat) t v, Try.f7.params[j]? = some t → args[j]? = some v → Value.okWide Try.prog W .any base t v := hval0
  have hW' := hW
  obtain ⟨p, q, hA0, hV, rfl, hfz, hnd⟩ := hW
  have hA : DataW.TrodAll enc Try.prog W 0 (fun _ => true) true Try.f7.params.toList args.toList ds p := hA0
  rw [Try.params7] at hA hval
  obtain ⟨v0, vs0, d0, ds0, p0, q0, hargs, rfl, rfl, h0, r0⟩ := trodAll_cons hA
  obtain ⟨v1, vs1, d1, ds1, p1, q1, rfl, rfl, rfl, h1, r1⟩ := trodAll_cons r0
  obtain ⟨rfl, rfl, rfl⟩ := trodAll_nil r1
  obtain rfl : args = #[v0, v1] := by cases args; simp_all
  obtain ⟨rfl, rfl⟩ := trodVars_none hV
  have k0 := h0
  have lt0 : ∀ x ∈ p0, x.block < W.heap.size := by obtain ⟨m, hm⟩ := k0; exact DataW.trod_lt m _ _ _ hm
  obtain ⟨y0, w0, g0⟩ := open_graph Try.underlying48 (by kernel_rfl) (by kernel_rfl) Try.underlying3 Try.underlying46 Try.underlying115 (by kernel_rfl) (by kernel_rfl) Try.underlying3 Try.underlying3 Try.underlying3 (hval 0 48 v0 rfl rfl) h0
  have k1 := h1
  have lt1 : ∀ x ∈ p1, x.block < W.heap.size := by obtain ⟨m, hm⟩ := k1; exact DataW.trod_lt m _ _ _ hm
  obtain ⟨y1, rfl, w1⟩ := open_tri Try.underlying50 (by kernel_rfl) (by kernel_rfl) Try.underlying3 Try.underlying3 Try.underlying3 (hval 1 50 v1 rfl rfl) h1
  clear hA0 hval0
  refine (FnExactLastRound_walk W _ y0 w0 g0 y1 w1).mono fun e W' ⟨he, bel⟩ => ?_
  subst he
  exact ⟨_, rfl, _, _, _, [], _, [], hW', trodAll_mk1 (shut_bool Try.underlying4 _), (trodAll_cons_mk (Below.trod tryLaidOut (by kernel_rfl) (of_decide_eq_true (by kernel_rfl)) k0 bel lt0) (trodAll_cons_mk (Below.trod tryLaidOut (by kernel_rfl) (of_decide_eq_true (by kernel_rfl)) k1 bel lt1) trodAll_mk0)), rfl, bel.frame _, fun h => by cases h⟩

set_option maxHeartbeats 4000000 in
set_option maxRecDepth 100000 in
theorem FnExactLastRound_holds : Rows.FnExactLastRoundSaid := by
  refine OpenClaim.holds_of_wide 7 Try.f7 rfl rfl rfl rfl rfl rfl rfl ⟨rfl, rfl, rfl, rfl, rfl⟩ rfl rfl rfl rfl rfl ?hfn Try.func7 ?closed ?hinst ?hwrap (fun os started H enc _ => FnExactLastRound_lifted os started H enc)
  case hfn => as_aux_lemma => kernel_rfl
  case hinst => exact of_decide_eq_true (by as_aux_lemma => kernel_rfl)
  case hwrap => unfold Func.isWrapper; first | (rw [if_pos (by decide +kernel)]; kernel_rfl) | (rw [if_neg (by decide +kernel)]; exact ⟨rfl, rfl⟩)
  case closed =>
    simp only [joinedFacts, Bool.and_eq_true]
    repeat' apply And.intro
    all_goals first
      | with_reducible exact mayEnter_ok
      | (rewrite [liftsFinal_no]; as_aux_lemma => kernel_rfl)
      | (rewrite [make_cut]; as_aux_lemma => kernel_rfl)
      | as_aux_lemma => kernel_rfl
end Go.Proofs.Ytgdggkhdollieaa
