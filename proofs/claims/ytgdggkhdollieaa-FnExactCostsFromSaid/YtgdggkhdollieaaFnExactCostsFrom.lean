/-
  The program's CostsFrom returns what the reference's returns, for all arguments: no condition.
-/
import Derived.Test.YtgdggkhdollieaaGraph
import Derived.Test.YtgdggkhdollieaaCostsF
import Derived.Test.YtgdggkhdollieaaInts
import Derived.Deep.RegionHeld3
import Derived.Test.YtgdggkhdollieaaFacts
namespace Go.Proofs.Ytgdggkhdollieaa
open Go.ChangeShapes Go.WideShapes Go.ChangeAt Go.RowKit
set_option linter.unusedVariables false

set_option maxRecDepth 100000 in
set_option maxHeartbeats 8000000 in
theorem FnExactCostsFrom_walk (w : World) (va : Value) (g : GraphD) (hv : RdGraph w va g) (hg : WfGraph g) (a : Int) (ha : In64 a) :
    Calls Try.prog 10 #[va, .int .i64 a] w fun e w' => e = .returned (.bool true) ∧ Below w.heap.size w w' := by
  have HV := Lib.hid hv
  obtain ⟨p0, c0, rfl, -, hc0, hc1⟩ := hv.form
  clear hg hv
  have HB : Hid (Below w.heap.size w (w.alloc (.cells #[.int .i64 g.1, .slice p0 g.2.length c0] 48))) := Lib.hid ((Below.refl _ _).alloc (Nat.le_refl _) _)
  have X := Lib.hid (heap_alloc_new w (.cells #[.int .i64 g.1, .slice p0 g.2.length c0] 48))
  have hx0 : w.heap.size < (w.alloc (.cells #[.int .i64 g.1, .slice p0 g.2.length c0] 48)).heap.size := by simp
  by_cases hl : sizeGraph g ≤ 1048576
  · have S0 := Lib.hid (szGraph_ok _ _ g 1048576 (HV.out.keep HB.out) (by omega) (by omega))
    have hSz := costsFrom_length g a
    have CSP := Lib.hid fun (wx : World) (vx : Value) (h : RdGraph wx vx g) => specCostsFrom_any wx vx g a h
    have CIM := Lib.hid fun (wx : World) (vx : Value) (h : RdGraph wx vx g)  => implCostsFrom_any wx vx g a h
    generalize costsFrom g a = S at *
    go_enter Try.func10, Try.ntmps10
    go_wp2_with fail
    refine S0.out.mono ?_
    rintro e w1 ⟨rfl, hb⟩
    have hsw1 := hb.size
    replace X := Lib.hid (box_keep X.out hb)
    replace HB := Lib.hid (HB.out.tr hb)
    clear hb S0
    have hl2 : 0 ≤ (1048576 : Int) - (sizeGraph g : Int) := by omega
    have hxl : w.heap.size < w1.heap.size := box_lt X.out
    have k00 := box_cell X.out 0 (.int .i64 g.1) rfl; have k01 := box_cell X.out 1 (.slice p0 g.2.length c0) rfl
    go_wp2_with fail
    refine (toGraph_any _ _ g (HV.out.keep HB.out) (by omega)).mono ?_
    rintro e w2 ⟨s, rfl, hs, hb⟩
    have hsw2 := hb.size
    replace X := Lib.hid (box_keep X.out hb)
    replace HB := Lib.hid (HB.out.tr hb)
    have HS := Lib.hid hs; clear hs hb
    clear k00 k01
    go_wp2_with fail
    refine (CSP.out _ _ HS.out.rd).mono ?_
    rintro e w3 ⟨s, rfl, hs, hb⟩
    have hsw3 := hb.size
    have HW := Lib.hid hs; clear hs
    obtain ⟨aHW, fHW, rfl, -, -⟩ := Rd.form HW.out.rd
    replace X := Lib.hid (box_keep X.out hb)
    replace HB := Lib.hid (HB.out.tr hb)
    replace HS := Lib.hid (HS.out.keep hb)
    clear hb
    clear HS
    clear CSP
    have k00 := box_cell X.out 0 (.int .i64 g.1) rfl; have k01 := box_cell X.out 1 (.slice p0 g.2.length c0) rfl
    go_wp2_with fail
    refine (toGraph_any _ _ g (HV.out.keep HB.out) (by omega)).mono ?_
    rintro e w4 ⟨s, rfl, hs, hb⟩
    have hsw4 := hb.size
    replace X := Lib.hid (box_keep X.out hb)
    replace HB := Lib.hid (HB.out.tr hb)
    replace HW := Lib.hid (HW.out.keep hb)
    have HI := Lib.hid hs; clear hs hb
    clear k00 k01
    obtain ⟨aI, fI, rfl⟩ := HI.out.form
    have hb : Below w4.heap.size w4 (w4.alloc (.cells #[.int .i64 g.1, .slice aI g.2.length fI] 55)) := (Below.refl _ _).alloc (Nat.le_refl _) _
    have hsw5 : (w4.alloc (.cells #[.int .i64 g.1, .slice aI g.2.length fI] 55)).heap.size = w4.heap.size + 1 := by simp
    replace X := Lib.hid (box_keep X.out hb)
    replace HB := Lib.hid (HB.out.tr hb)
    replace HW := Lib.hid (HW.out.keep hb)
    replace HI := Lib.hid (HI.out.keep hb)
    clear hb
    have YI := Lib.hid (heap_alloc_new w4 (.cells #[.int .i64 g.1, .slice aI g.2.length fI] 55))
    go_wp2_with fail
    generalize (w4.alloc (.cells #[.int .i64 g.1, .slice aI g.2.length fI] 55)) = w5 at *
    have CIM2 := CIM.out _ _ HI.out.rd
    refine CIM2.mono ?_
    clear CIM2
    rintro e w6 ⟨s, rfl, hs, hb⟩
    have hsw6 := hb.size
    have HG := Lib.hid hs; clear hs
    obtain ⟨aHG, fHG, rfl, -, -⟩ := Rd.form HG.out.rd
    replace X := Lib.hid (box_keep X.out hb)
    replace HB := Lib.hid (HB.out.tr hb)
    replace HW := Lib.hid (HW.out.keep hb)
    replace HI := Lib.hid (HI.out.keep hb)
    replace YI := Lib.hid (box_keep YI.out hb)
    clear hb
    go_wp2_with fail
    refine (eqIntS_same _ _ _ S HG.out.rd HW.out.rd).mono ?_
    rintro e w7 ⟨rfl, hb⟩
    have hsw7 := hb.size
    replace X := Lib.hid (box_keep X.out hb)
    replace HB := Lib.hid (HB.out.tr hb)
    replace HW := Lib.hid (HW.out.keep hb)
    replace HI := Lib.hid (HI.out.keep hb)
    replace YI := Lib.hid (box_keep YI.out hb)
    replace HG := Lib.hid (HG.out.keep hb)
    clear hb
    have k00 := box_cell X.out 0 (.int .i64 g.1) rfl; have k01 := box_cell X.out 1 (.slice p0 g.2.length c0) rfl
    have k10 := box_cell YI.out 0 (.int .i64 g.1) rfl; have k11 := box_cell YI.out 1 (.slice aI g.2.length fI) rfl
    have hxlt : w.heap.size < w7.heap.size := box_lt X.out
    have hylt : w4.heap.size < w7.heap.size := box_lt YI.out
    go_wp2_with fail
    go_region_held3 (fun w' => w'.cell? ⟨w.heap.size, 0, none⟩ = some (.int .i64 g.1) ∧ w'.cell? ⟨w.heap.size, 1, none⟩ = some (.slice p0 g.2.length c0) ∧ w'.cell? ⟨w4.heap.size, 0, none⟩ = some (.int .i64 g.1) ∧ w'.cell? ⟨w4.heap.size, 1, none⟩ = some (.slice aI g.2.length fI)) (go_keep) (first
      | (go_at_call 32; refine (toGraph_any _ _ g (HV.out.keep HB.out.drew) (by omega)).mono ?_; rintro e w8 ⟨c, rfl, hc, hb10⟩; have HC := Lib.hid hc; have z0 := (hb10.cell (p := ⟨w.heap.size, 0, none⟩) hxlt).trans k00; have z1 := (hb10.cell (p := ⟨w.heap.size, 1, none⟩) hxlt).trans k01; have z2 := (hb10.cell (p := ⟨w4.heap.size, 0, none⟩) hylt).trans k10; have z3 := (hb10.cell (p := ⟨w4.heap.size, 1, none⟩) hylt).trans k11; have BD := Lib.hid ((Below.refl w7.heap.size w7).drew.tr hb10); have hsw8 := BD.out.size; clear hc)
      | (go_at_call 35; refine (eqGraph_same _ _ _ g (HI.out.keep BD.out).rd HC.out.rd).mono ?_; rintro e w9 ⟨rfl, hb11⟩; have y0 := (hb11.cell (p := ⟨w.heap.size, 0, none⟩) (World.block_lt_of_cell? _ _ z0)).trans z0; have y1 := (hb11.cell (p := ⟨w.heap.size, 1, none⟩) (World.block_lt_of_cell? _ _ z1)).trans z1; have y2 := (hb11.cell (p := ⟨w4.heap.size, 0, none⟩) (World.block_lt_of_cell? _ _ z2)).trans z2; have y3 := (hb11.cell (p := ⟨w4.heap.size, 1, none⟩) (World.block_lt_of_cell? _ _ z3)).trans z3; replace BD := Lib.hid (BD.out.tr hb11); have hsw9 := BD.out.size; replace X := Lib.hid (box_keep X.out BD.out); replace HB := Lib.hid (HB.out.tr BD.out); replace HW := Lib.hid (HW.out.keep BD.out); replace HI := Lib.hid (HI.out.keep BD.out); replace YI := Lib.hid (box_keep YI.out BD.out); replace HG := Lib.hid (HG.out.keep BD.out)))
    have hng : cntGraph g ≤ 4194304 := by unfold cntGraph; unfold sizeGraph at hl; omega
    have hns : cntIntS S ≤ 4194304 := by unfold cntIntS; omega
    have MK := Lib.hid (markGraph_any w9 w3.heap.size w4.heap.size _ 1 g HI.out (by omega) (by omega))
    go_wp2_with fail
    refine MK.out.mono ?_
    rintro e w10 ⟨yi, rfl, -, -, hc⟩
    have hsw10 := hc.size
    clear MK HC k00 k01 k10 k11 y0 y1 y2 y3
    clear HI
    clear YI
    replace X := Lib.hid ((hc.block _ (by omega) (by omega)).trans X.out)
    replace HB := Lib.hid (hc.below HB.out (by omega))
    replace HW := Lib.hid (HW.out.chg hc (by omega))
    replace HG := Lib.hid (HG.out.chg hc (by omega))
    clear hc
    have hp : 0 ≤ (1 : Int) + (cntGraph g : Int) := by omega
    go_wp2_with fail
    refine (eqIntS_same _ _ _ S HG.out.rd HW.out.rd).mono ?_
    rintro e w11 ⟨rfl, hb⟩
    have hsw11 := hb.size
    replace X := Lib.hid (box_keep X.out hb)
    replace HB := Lib.hid (HB.out.tr hb)
    replace HW := Lib.hid (HW.out.keep hb)
    replace HG := Lib.hid (HG.out.keep hb)
    clear hb
    have MK := Lib.hid (markIntS_any w11 w5.heap.size w6.heap.size _ 1 S HG.out (by omega) (by omega))
    go_wp2_with fail
    refine MK.out.mono ?_
    rintro e w12 ⟨ysM, rfl, hm, ho, hc⟩
    have HM := Lib.hid hm; have hsw12 := hc.size
    clear HG
    replace X := Lib.hid ((hc.block _ (by omega) (by omega)).trans X.out)
    replace HB := Lib.hid (hc.below HB.out (by omega))
    replace HW := Lib.hid (HW.out.chg hc (by omega))
    have HG := Lib.hid ho; clear hm ho hc MK
    have hyl : ysM.length = S.length := by have := HM.out; unfold MkIntS at this; rw [this, seqI_length]
    skip
    have hp2 : 0 ≤ (1 : Int) + (cntIntS S : Int) := by omega
    go_wp2_with fail
    refine (heldIntS_any _ _ 1 S ysM HM.out HG.out.rd (by omega) (by omega)).mono ?_
    rintro e w13 ⟨rfl, hb⟩
    have hsw13 := hb.size
    replace X := Lib.hid (box_keep X.out hb)
    replace HB := Lib.hid (HB.out.tr hb)
    replace HW := Lib.hid (HW.out.keep hb)
    replace HG := Lib.hid (HG.out.keep hb)
    clear hb
    have k00 := box_cell X.out 0 (.int .i64 g.1) rfl; have k01 := box_cell X.out 1 (.slice p0 g.2.length c0) rfl
    go_wp2_with fail
    refine (toGraph_any _ _ g (HV.out.keep HB.out) (by omega)).mono ?_
    rintro e w14 ⟨s, rfl, hs, hb⟩
    have hsw14 := hb.size
    replace X := Lib.hid (box_keep X.out hb)
    replace HB := Lib.hid (HB.out.tr hb)
    replace HW := Lib.hid (HW.out.keep hb)
    replace HG := Lib.hid (HG.out.keep hb)
    have HS := Lib.hid hs; clear hs hb
    clear k00 k01
    clear X
    have CIM2 := CIM.out _ _ HS.out.rd
    go_wp2_with fail
    refine (CIM2).mono ?_
    rintro e w15 ⟨s, rfl, hs, hb⟩
    have hsw15 := hb.size
    have HA := Lib.hid hs; clear hs
    obtain ⟨aHA, fHA, rfl, -, -⟩ := Rd.form HA.out.rd
    replace HB := Lib.hid (HB.out.tr hb)
    replace HW := Lib.hid (HW.out.keep hb)
    replace HG := Lib.hid (HG.out.keep hb)
    replace HS := Lib.hid (HS.out.keep hb)
    clear hb
    clear HS
    clear CIM2 CIM
    go_wp2_with fail
    refine (eqIntS_same _ _ _ S HA.out.rd HW.out.rd).mono ?_
    rintro e w16 ⟨rfl, hb⟩
    have hsw16 := hb.size
    replace HB := Lib.hid (HB.out.tr hb)
    replace HW := Lib.hid (HW.out.keep hb)
    replace HG := Lib.hid (HG.out.keep hb)
    replace HA := Lib.hid (HA.out.keep hb)
    clear hb
    go_wp2_with fail
    refine (heldIntS_any _ _ 1 S ysM HM.out HG.out.rd (by omega) (by omega)).mono ?_
    rintro e w17 ⟨rfl, hb⟩
    have hsw17 := hb.size
    replace HB := Lib.hid (HB.out.tr hb)
    replace HW := Lib.hid (HW.out.keep hb)
    replace HG := Lib.hid (HG.out.keep hb)
    replace HA := Lib.hid (HA.out.keep hb)
    clear hb
    go_wp2_with fail
    go_ret
    exact ⟨rfl, HB.out⟩
  · have S0 := Lib.hid (szGraph_no _ _ g 1048576 (HV.out.keep HB.out) (by omega) (by omega) (by omega))
    go_enter Try.func10, Try.ntmps10
    go_wp2_with fail
    refine S0.out.mono ?_
    rintro e w1 ⟨rfl, hb⟩
    replace HB := Lib.hid (HB.out.tr hb); clear hb S0
    go_wp2_with fail
    go_ret
    exact ⟨rfl, HB.out⟩
set_option maxRecDepth 100000 in
theorem FnExactCostsFrom_lifted (os : Os) (started : os.Started) (H : Type) (enc : TypeId × Value → H) :
    ReturnsInHanded {} Try.checked os 10 .any (Rows.fnExactCostsFromSpec.pre6 enc Try.prog Try.f10 Rows.fnExactCostsFromRow.domain false) (Rows.fnExactCostsFromSpec.post enc Try.prog Try.f10 false true false false) := by
  refine returnsInHanded_of_change (C := Try.checked) tryOwn started (by kernel_rfl) Try.func10
    (ChangeSpec.witness6 (enc := enc) (C := Try.checked) false ⟨#[], #[.agg #[.int .i64 0, .slice none 0 0], .int .i64 0], []⟩ 8 (by kernel_rfl) (by kernel_rfl) (by kernel_rfl) (by kernel_rfl)) ?_
  intro W base args ds gs before hval0 hW hcnd _
  have hval : ∀ (j : Nat) t v, Try.f10.params[j]? = some t → args[j]? = some v → Value.okWide Try.prog W .any base t v := hval0
  have hW' := hW
  obtain ⟨p, q, hA0, hV, rfl, hfz, hnd⟩ := hW
  have hA : DataW.TrodAll enc Try.prog W 0 (fun _ => true) true Try.f10.params.toList args.toList ds p := hA0
  rw [Try.params10] at hA hval
  obtain ⟨v0, vs0, d0, ds0, p0, q0, hargs, rfl, rfl, h0, r0⟩ := trodAll_cons hA
  obtain ⟨v1, vs1, d1, ds1, p1, q1, rfl, rfl, rfl, h1, r1⟩ := trodAll_cons r0
  obtain ⟨rfl, rfl, rfl⟩ := trodAll_nil r1
  obtain rfl : args = #[v0, v1] := by cases args; simp_all
  obtain ⟨rfl, rfl⟩ := trodVars_none hV
  have k0 := h0
  have lt0 : ∀ x ∈ p0, x.block < W.heap.size := by obtain ⟨m, hm⟩ := k0; exact DataW.trod_lt m _ _ _ hm
  obtain ⟨y0, w0, g0⟩ := open_graph Try.underlying48 (by kernel_rfl) (by kernel_rfl) Try.underlying3 Try.underlying46 Try.underlying115 (by kernel_rfl) (by kernel_rfl) Try.underlying3 Try.underlying3 Try.underlying3 (hval 0 48 v0 rfl rfl) h0
  have k1 := h1
  have lt1 : ∀ x ∈ p1, x.block < W.heap.size := by obtain ⟨m, hm⟩ := k1; exact DataW.trod_lt m _ _ _ hm
  obtain ⟨a1, rfl, _, _, w1⟩ := open_int Try.underlying3 (hval 1 3 v1 rfl rfl) h1
  clear hA0 hval0
  refine (FnExactCostsFrom_walk W _ y0 w0 g0 a1 (in64_of_wf w1)).mono fun e W' ⟨he, bel⟩ => ?_
  subst he
  exact ⟨_, rfl, _, _, _, [], _, [], hW', trodAll_mk1 (shut_bool Try.underlying4 _), (trodAll_cons_mk (Below.trod tryLaidOut (by kernel_rfl) (of_decide_eq_true (by kernel_rfl)) k0 bel lt0) (trodAll_cons_mk (Below.trod tryLaidOut (by kernel_rfl) (of_decide_eq_true (by kernel_rfl)) k1 bel lt1) trodAll_mk0)), rfl, bel.frame _, fun h => by cases h⟩

set_option maxHeartbeats 4000000 in
set_option maxRecDepth 100000 in
theorem FnExactCostsFrom_holds : Rows.FnExactCostsFromSaid := by
  refine OpenClaim.holds_of_wide 10 Try.f10 rfl rfl rfl rfl rfl rfl rfl ⟨rfl, rfl, rfl, rfl, rfl⟩ rfl rfl rfl rfl rfl ?hfn Try.func10 ?closed ?hinst ?hwrap (fun os started H enc _ => FnExactCostsFrom_lifted os started H enc)
  case hfn => as_aux_lemma => kernel_rfl
  case hinst => exact of_decide_eq_true (by as_aux_lemma => kernel_rfl)
  case hwrap => unfold Func.isWrapper; first | (rw [if_pos (by decide +kernel)]; kernel_rfl) | (rw [if_neg (by decide +kernel)]; exact ⟨rfl, rfl⟩)
  case closed =>
    simp only [joinedFacts, Bool.and_eq_true]
    repeat' apply And.intro
    all_goals first
      | with_reducible exact mayEnter_ok
      | (rewrite [liftsFinal_no]; as_aux_lemma => kernel_rfl)
      | (rewrite [make_cut]; as_aux_lemma => kernel_rfl)
      | as_aux_lemma => kernel_rfl
end Go.Proofs.Ytgdggkhdollieaa
