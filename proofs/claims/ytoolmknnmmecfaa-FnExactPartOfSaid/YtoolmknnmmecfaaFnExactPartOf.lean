/-
  The program's PartOf returns what the reference's returns, for all arguments: no condition.
-/
import Derived.Test.YtoolmknnmmecfaaGraph
import Derived.Test.YtoolmknnmmecfaaPart
import Derived.Test.YtoolmknnmmecfaaInts
import Derived.Deep.RegionHeld3
import Derived.Test.YtoolmknnmmecfaaFacts
namespace Go.Proofs.Ytoolmknnmmecfaa
open Go.ChangeShapes Go.WideShapes Go.ChangeAt Go.RowKit
set_option linter.unusedVariables false

set_option maxRecDepth 100000 in
set_option maxHeartbeats 8000000 in
theorem FnExactPartOf_walk (w : World) (va : Value) (g : GraphD) (hv : RdGraph w va g) (hg : WfGraph g) (a : Int) (ha : In64 a) (b : Int) (hb : In64 b) :
    Calls Try.prog 6 #[va, .int .i64 a, .int .i64 b] w fun e w' => e = .returned (.bool true) ∧ Below w.heap.size w w' := by
  have HV := Lib.hid hv
  obtain ⟨p0, c0, rfl, -, hc0, hc1⟩ := hv.form
  clear hg hv
  have HB : Hid (Below w.heap.size w (w.alloc (.cells #[.int .i64 g.1, .slice p0 g.2.length c0] 24))) := Lib.hid ((Below.refl _ _).alloc (Nat.le_refl _) _)
  have X := Lib.hid (heap_alloc_new w (.cells #[.int .i64 g.1, .slice p0 g.2.length c0] 24))
  have hx0 : w.heap.size < (w.alloc (.cells #[.int .i64 g.1, .slice p0 g.2.length c0] 24)).heap.size := by simp
  by_cases hl : sizeGraph g ≤ 1048576
  · have S0 := Lib.hid (szGraph_ok _ _ g 1048576 (HV.out.keep HB.out) (by omega) (by omega))
    have hSz := partOf_size g a b
    have CSP := Lib.hid fun (wx : World) (vx : Value) (h : RdGraph wx vx g) => specPartOf_any wx vx g a b h (by have := hl; unfold sizeGraph at this; omega)
    have CIM := Lib.hid fun (wx : World) (vx : Value) (h : RdGraph wx vx g)  => implPartOf_any wx vx g a b h
    generalize partOf g a b = S at *
    go_enter Try.func6, Try.ntmps6
    go_wp2_with fail
    refine S0.out.mono ?_
    rintro e w1 ⟨rfl, hb⟩
    have hsw1 := hb.size
    replace X := Lib.hid (box_keep X.out hb)
    replace HB := Lib.hid (HB.out.tr hb)
    clear hb S0
    have hl2 : 0 ≤ (1048576 : Int) - (sizeGraph g : Int) := by omega
    have hxl : w.heap.size < w1.heap.size := box_lt X.out
    have k00 := box_cell X.out 0 (.int .i64 g.1) rfl; have k01 := box_cell X.out 1 (.slice p0 g.2.length c0) rfl
    go_wp2_with fail
    refine (toGraph_any _ _ g (HV.out.keep HB.out) (by omega)).mono ?_
    rintro e w2 ⟨s, rfl, hs, hb⟩
    have hsw2 := hb.size
    replace X := Lib.hid (box_keep X.out hb)
    replace HB := Lib.hid (HB.out.tr hb)
    have HS := Lib.hid hs; clear hs hb
    clear k00 k01
    go_wp2_with fail
    refine (CSP.out _ _ HS.out.rd).mono ?_
    rintro e w3 ⟨s, rfl, hs, hb⟩
    have hsw3 := hb.size
    have HW := Lib.hid hs; clear hs
    obtain ⟨aHW, fHW, rfl⟩ := HW.out.form
    replace X := Lib.hid (box_keep X.out hb)
    replace HB := Lib.hid (HB.out.tr hb)
    replace HS := Lib.hid (HS.out.keep hb)
    clear hb
    clear HS
    clear CSP
    have hb : Below w3.heap.size w3 (w3.alloc (.cells #[.int .i64 S.1, .slice aHW S.2.length fHW] 29)) := (Below.refl _ _).alloc (Nat.le_refl _) _
    have hsw4 : (w3.alloc (.cells #[.int .i64 S.1, .slice aHW S.2.length fHW] 29)).heap.size = w3.heap.size + 1 := by simp
    replace X := Lib.hid (box_keep X.out hb)
    replace HB := Lib.hid (HB.out.tr hb)
    replace HW := Lib.hid (HW.out.keep hb)
    clear hb
    have YW := Lib.hid (heap_alloc_new w3 (.cells #[.int .i64 S.1, .slice aHW S.2.length fHW] 29))
    have k00 := box_cell X.out 0 (.int .i64 g.1) rfl; have k01 := box_cell X.out 1 (.slice p0 g.2.length c0) rfl
    go_wp2_with fail
    skip
    generalize (w3.alloc (.cells #[.int .i64 S.1, .slice aHW S.2.length fHW] 29)) = w4 at *
    refine (toGraph_any _ _ g (HV.out.keep HB.out) (by omega)).mono ?_
    rintro e w5 ⟨s, rfl, hs, hb⟩
    have hsw5 := hb.size
    replace X := Lib.hid (box_keep X.out hb)
    replace HB := Lib.hid (HB.out.tr hb)
    replace HW := Lib.hid (HW.out.keep hb)
    replace YW := Lib.hid (box_keep YW.out hb)
    have HI := Lib.hid hs; clear hs hb
    clear k00 k01
    obtain ⟨aI, fI, rfl⟩ := HI.out.form
    have hb : Below w5.heap.size w5 (w5.alloc (.cells #[.int .i64 g.1, .slice aI g.2.length fI] 29)) := (Below.refl _ _).alloc (Nat.le_refl _) _
    have hsw6 : (w5.alloc (.cells #[.int .i64 g.1, .slice aI g.2.length fI] 29)).heap.size = w5.heap.size + 1 := by simp
    replace X := Lib.hid (box_keep X.out hb)
    replace HB := Lib.hid (HB.out.tr hb)
    replace HW := Lib.hid (HW.out.keep hb)
    replace YW := Lib.hid (box_keep YW.out hb)
    replace HI := Lib.hid (HI.out.keep hb)
    clear hb
    have YI := Lib.hid (heap_alloc_new w5 (.cells #[.int .i64 g.1, .slice aI g.2.length fI] 29))
    go_wp2_with fail
    generalize (w5.alloc (.cells #[.int .i64 g.1, .slice aI g.2.length fI] 29)) = w6 at *
    have CIM2 := CIM.out _ _ HI.out.rd
    refine CIM2.mono ?_
    clear CIM2
    rintro e w7 ⟨s, rfl, hs, hb⟩
    have hsw7 := hb.size
    have HG := Lib.hid hs; clear hs
    obtain ⟨aHG, fHG, rfl⟩ := HG.out.form
    replace X := Lib.hid (box_keep X.out hb)
    replace HB := Lib.hid (HB.out.tr hb)
    replace HW := Lib.hid (HW.out.keep hb)
    replace YW := Lib.hid (box_keep YW.out hb)
    replace HI := Lib.hid (HI.out.keep hb)
    replace YI := Lib.hid (box_keep YI.out hb)
    clear hb
    have hb : Below w7.heap.size w7 (w7.alloc (.cells #[.int .i64 S.1, .slice aHG S.2.length fHG] 29)) := (Below.refl _ _).alloc (Nat.le_refl _) _
    have hsw8 : (w7.alloc (.cells #[.int .i64 S.1, .slice aHG S.2.length fHG] 29)).heap.size = w7.heap.size + 1 := by simp
    replace X := Lib.hid (box_keep X.out hb)
    replace HB := Lib.hid (HB.out.tr hb)
    replace HW := Lib.hid (HW.out.keep hb)
    replace YW := Lib.hid (box_keep YW.out hb)
    replace HI := Lib.hid (HI.out.keep hb)
    replace YI := Lib.hid (box_keep YI.out hb)
    replace HG := Lib.hid (HG.out.keep hb)
    clear hb
    have YG := Lib.hid (heap_alloc_new w7 (.cells #[.int .i64 S.1, .slice aHG S.2.length fHG] 29))
    have k00 := box_cell YW.out 0 (.int .i64 S.1) rfl; have k01 := box_cell YW.out 1 (.slice aHW S.2.length fHW) rfl
    go_wp2_with fail
    generalize (w7.alloc (.cells #[.int .i64 S.1, .slice aHG S.2.length fHG] 29)) = w8 at *
    clear k00 k01
    refine (eqGraph_same _ _ _ S HG.out.rd HW.out.rd).mono ?_
    rintro e w9 ⟨rfl, hb⟩
    have hsw9 := hb.size
    replace X := Lib.hid (box_keep X.out hb)
    replace HB := Lib.hid (HB.out.tr hb)
    replace HW := Lib.hid (HW.out.keep hb)
    replace YW := Lib.hid (box_keep YW.out hb)
    replace HI := Lib.hid (HI.out.keep hb)
    replace YI := Lib.hid (box_keep YI.out hb)
    replace HG := Lib.hid (HG.out.keep hb)
    replace YG := Lib.hid (box_keep YG.out hb)
    clear hb
    have k00 := box_cell X.out 0 (.int .i64 g.1) rfl; have k01 := box_cell X.out 1 (.slice p0 g.2.length c0) rfl
    have k10 := box_cell YI.out 0 (.int .i64 g.1) rfl; have k11 := box_cell YI.out 1 (.slice aI g.2.length fI) rfl
    have hxlt : w.heap.size < w9.heap.size := box_lt X.out
    have hylt : w5.heap.size < w9.heap.size := box_lt YI.out
    go_wp2_with fail
    go_region_held3 (fun w' => w'.cell? ⟨w.heap.size, 0, none⟩ = some (.int .i64 g.1) ∧ w'.cell? ⟨w.heap.size, 1, none⟩ = some (.slice p0 g.2.length c0) ∧ w'.cell? ⟨w5.heap.size, 0, none⟩ = some (.int .i64 g.1) ∧ w'.cell? ⟨w5.heap.size, 1, none⟩ = some (.slice aI g.2.length fI)) (go_keep) (first
      | (go_at_call 11; refine (toGraph_any _ _ g (HV.out.keep HB.out.drew) (by omega)).mono ?_; rintro e w10 ⟨c, rfl, hc, hb10⟩; have HC := Lib.hid hc; have z0 := (hb10.cell (p := ⟨w.heap.size, 0, none⟩) hxlt).trans k00; have z1 := (hb10.cell (p := ⟨w.heap.size, 1, none⟩) hxlt).trans k01; have z2 := (hb10.cell (p := ⟨w5.heap.size, 0, none⟩) hylt).trans k10; have z3 := (hb10.cell (p := ⟨w5.heap.size, 1, none⟩) hylt).trans k11; have BD := Lib.hid ((Below.refl w9.heap.size w9).drew.tr hb10); have hsw10 := BD.out.size; clear hc)
      | (go_at_call 13; refine (eqGraph_same _ _ _ g (HI.out.keep BD.out).rd HC.out.rd).mono ?_; rintro e w11 ⟨rfl, hb11⟩; have y0 := (hb11.cell (p := ⟨w.heap.size, 0, none⟩) (World.block_lt_of_cell? _ _ z0)).trans z0; have y1 := (hb11.cell (p := ⟨w.heap.size, 1, none⟩) (World.block_lt_of_cell? _ _ z1)).trans z1; have y2 := (hb11.cell (p := ⟨w5.heap.size, 0, none⟩) (World.block_lt_of_cell? _ _ z2)).trans z2; have y3 := (hb11.cell (p := ⟨w5.heap.size, 1, none⟩) (World.block_lt_of_cell? _ _ z3)).trans z3; replace BD := Lib.hid (BD.out.tr hb11); have hsw11 := BD.out.size; replace X := Lib.hid (box_keep X.out BD.out); replace HB := Lib.hid (HB.out.tr BD.out); replace HW := Lib.hid (HW.out.keep BD.out); replace YW := Lib.hid (box_keep YW.out BD.out); replace HI := Lib.hid (HI.out.keep BD.out); replace YI := Lib.hid (box_keep YI.out BD.out); replace HG := Lib.hid (HG.out.keep BD.out); replace YG := Lib.hid (box_keep YG.out BD.out)))
    have hng : cntGraph g ≤ 4194304 := by unfold cntGraph; unfold sizeGraph at hl; omega
    have hns : cntGraph S ≤ 4194304 := by unfold cntGraph; omega
    have MK := Lib.hid (markGraph_any w11 w4.heap.size w5.heap.size _ 1 g HI.out (by omega) (by omega))
    go_wp2_with fail
    refine MK.out.mono ?_
    rintro e w12 ⟨yi, rfl, -, -, hc⟩
    have hsw12 := hc.size
    clear MK HC k00 k01 k10 k11 y0 y1 y2 y3
    clear HI
    clear YI
    replace X := Lib.hid ((hc.block _ (by omega) (by omega)).trans X.out)
    replace HB := Lib.hid (hc.below HB.out (by omega))
    replace HW := Lib.hid (HW.out.chg hc (by omega))
    replace YW := Lib.hid ((hc.block _ (by omega) (by omega)).trans YW.out)
    replace HG := Lib.hid (HG.out.chg hc (by omega))
    replace YG := Lib.hid ((hc.block _ (by omega) (by omega)).trans YG.out)
    clear hc
    have hp : 0 ≤ (1 : Int) + (cntGraph g : Int) := by omega
    have k00 := box_cell YW.out 0 (.int .i64 S.1) rfl; have k01 := box_cell YW.out 1 (.slice aHW S.2.length fHW) rfl
    have k10 := box_cell YG.out 0 (.int .i64 S.1) rfl; have k11 := box_cell YG.out 1 (.slice aHG S.2.length fHG) rfl
    go_wp2_with fail
    refine (eqGraph_same _ _ _ S HG.out.rd HW.out.rd).mono ?_
    rintro e w13 ⟨rfl, hb⟩
    have hsw13 := hb.size
    replace X := Lib.hid (box_keep X.out hb)
    replace HB := Lib.hid (HB.out.tr hb)
    replace HW := Lib.hid (HW.out.keep hb)
    replace YW := Lib.hid (box_keep YW.out hb)
    replace HG := Lib.hid (HG.out.keep hb)
    replace YG := Lib.hid (box_keep YG.out hb)
    clear hb
    clear k00 k01 k10 k11
    have MK := Lib.hid (markGraph_any w13 w6.heap.size w7.heap.size _ 1 S HG.out (by omega) (by omega))
    have k00 := box_cell YG.out 0 (.int .i64 S.1) rfl; have k01 := box_cell YG.out 1 (.slice aHG S.2.length fHG) rfl
    go_wp2_with fail
    refine MK.out.mono ?_
    rintro e w14 ⟨ysM, rfl, hm, ho, hc⟩
    have HM := Lib.hid hm; have hsw14 := hc.size
    clear k00 k01
    clear HG
    replace X := Lib.hid ((hc.block _ (by omega) (by omega)).trans X.out)
    replace HB := Lib.hid (hc.below HB.out (by omega))
    replace HW := Lib.hid (HW.out.chg hc (by omega))
    replace YW := Lib.hid ((hc.block _ (by omega) (by omega)).trans YW.out)
    replace YG := Lib.hid ((hc.block _ (by omega) (by omega)).trans YG.out)
    have HG := Lib.hid ho; clear hm ho hc MK
    have hp2 : 0 ≤ (1 : Int) + (cntGraph S : Int) := by omega
    have k00 := box_cell YG.out 0 (.int .i64 S.1) rfl; have k01 := box_cell YG.out 1 (.slice aHG S.2.length fHG) rfl
    go_wp2_with fail
    refine (heldGraph_any _ _ 1 S ysM HM.out HG.out.rd (by omega) (by omega)).mono ?_
    rintro e w15 ⟨rfl, hb⟩
    have hsw15 := hb.size
    replace X := Lib.hid (box_keep X.out hb)
    replace HB := Lib.hid (HB.out.tr hb)
    replace HW := Lib.hid (HW.out.keep hb)
    replace YW := Lib.hid (box_keep YW.out hb)
    replace YG := Lib.hid (box_keep YG.out hb)
    replace HG := Lib.hid (HG.out.keep hb)
    clear hb
    clear k00 k01
    have k00 := box_cell X.out 0 (.int .i64 g.1) rfl; have k01 := box_cell X.out 1 (.slice p0 g.2.length c0) rfl
    go_wp2_with fail
    refine (toGraph_any _ _ g (HV.out.keep HB.out) (by omega)).mono ?_
    rintro e w16 ⟨s, rfl, hs, hb⟩
    have hsw16 := hb.size
    replace X := Lib.hid (box_keep X.out hb)
    replace HB := Lib.hid (HB.out.tr hb)
    replace HW := Lib.hid (HW.out.keep hb)
    replace YW := Lib.hid (box_keep YW.out hb)
    replace YG := Lib.hid (box_keep YG.out hb)
    replace HG := Lib.hid (HG.out.keep hb)
    have HS := Lib.hid hs; clear hs hb
    clear k00 k01
    clear X
    have CIM2 := CIM.out _ _ HS.out.rd
    go_wp2_with fail
    refine (CIM2).mono ?_
    rintro e w17 ⟨s, rfl, hs, hb⟩
    have hsw17 := hb.size
    have HA := Lib.hid hs; clear hs
    obtain ⟨aHA, fHA, rfl⟩ := HA.out.form
    replace HB := Lib.hid (HB.out.tr hb)
    replace HW := Lib.hid (HW.out.keep hb)
    replace YW := Lib.hid (box_keep YW.out hb)
    replace YG := Lib.hid (box_keep YG.out hb)
    replace HG := Lib.hid (HG.out.keep hb)
    replace HS := Lib.hid (HS.out.keep hb)
    clear hb
    clear HS
    clear CIM2 CIM
    have hb : Below w17.heap.size w17 (w17.alloc (.cells #[.int .i64 S.1, .slice aHA S.2.length fHA] 29)) := (Below.refl _ _).alloc (Nat.le_refl _) _
    have hsw18 : (w17.alloc (.cells #[.int .i64 S.1, .slice aHA S.2.length fHA] 29)).heap.size = w17.heap.size + 1 := by simp
    replace HB := Lib.hid (HB.out.tr hb)
    replace HW := Lib.hid (HW.out.keep hb)
    replace YW := Lib.hid (box_keep YW.out hb)
    replace YG := Lib.hid (box_keep YG.out hb)
    replace HG := Lib.hid (HG.out.keep hb)
    replace HA := Lib.hid (HA.out.keep hb)
    clear hb
    have YA := Lib.hid (heap_alloc_new w17 (.cells #[.int .i64 S.1, .slice aHA S.2.length fHA] 29))
    have k00 := box_cell YW.out 0 (.int .i64 S.1) rfl; have k01 := box_cell YW.out 1 (.slice aHW S.2.length fHW) rfl
    go_wp2_with fail
    generalize (w17.alloc (.cells #[.int .i64 S.1, .slice aHA S.2.length fHA] 29)) = w18 at *
    clear k00 k01
    refine (eqGraph_same _ _ _ S HA.out.rd HW.out.rd).mono ?_
    rintro e w19 ⟨rfl, hb⟩
    have hsw19 := hb.size
    replace HB := Lib.hid (HB.out.tr hb)
    replace HW := Lib.hid (HW.out.keep hb)
    replace YW := Lib.hid (box_keep YW.out hb)
    replace YG := Lib.hid (box_keep YG.out hb)
    replace HG := Lib.hid (HG.out.keep hb)
    replace HA := Lib.hid (HA.out.keep hb)
    replace YA := Lib.hid (box_keep YA.out hb)
    clear hb
    have k00 := box_cell YG.out 0 (.int .i64 S.1) rfl; have k01 := box_cell YG.out 1 (.slice aHG S.2.length fHG) rfl
    go_wp2_with fail
    refine (heldGraph_any _ _ 1 S ysM HM.out HG.out.rd (by omega) (by omega)).mono ?_
    rintro e w20 ⟨rfl, hb⟩
    have hsw20 := hb.size
    replace HB := Lib.hid (HB.out.tr hb)
    replace HW := Lib.hid (HW.out.keep hb)
    replace YW := Lib.hid (box_keep YW.out hb)
    replace YG := Lib.hid (box_keep YG.out hb)
    replace HG := Lib.hid (HG.out.keep hb)
    replace HA := Lib.hid (HA.out.keep hb)
    replace YA := Lib.hid (box_keep YA.out hb)
    clear hb
    clear k00 k01
    go_wp2_with fail
    go_ret
    exact ⟨rfl, HB.out⟩
  · have S0 := Lib.hid (szGraph_no _ _ g 1048576 (HV.out.keep HB.out) (by omega) (by omega) (by omega))
    go_enter Try.func6, Try.ntmps6
    go_wp2_with fail
    refine S0.out.mono ?_
    rintro e w1 ⟨rfl, hb⟩
    replace HB := Lib.hid (HB.out.tr hb); clear hb S0
    go_wp2_with fail
    go_ret
    exact ⟨rfl, HB.out⟩
set_option maxRecDepth 100000 in
theorem FnExactPartOf_lifted (os : Os) (started : os.Started) (H : Type) (enc : TypeId × Value → H) :
    ReturnsInHanded {} Try.checked os 6 .any (Rows.fnExactPartOfSpec.pre6 enc Try.prog Try.f6 Rows.fnExactPartOfRow.domain false) (Rows.fnExactPartOfSpec.post enc Try.prog Try.f6 false true false false) := by
  refine returnsInHanded_of_change (C := Try.checked) tryOwn started (by kernel_rfl) Try.func6
    (ChangeSpec.witness6 (enc := enc) (C := Try.checked) false ⟨#[], #[.agg #[.int .i64 0, .slice none 0 0], .int .i64 0, .int .i64 0], []⟩ 8 (by kernel_rfl) (by kernel_rfl) (by kernel_rfl) (by kernel_rfl)) ?_
  intro W base args ds gs before hval0 hW hcnd _
  have hval : ∀ (j : Nat) t v, Try.f6.params[j]? = some t → args[j]? = some v → Value.okWide Try.prog W .any base t v := hval0
  have hW' := hW
  obtain ⟨p, q, hA0, hV, rfl, hfz, hnd⟩ := hW
  have hA : DataW.TrodAll enc Try.prog W 0 (fun _ => true) true Try.f6.params.toList args.toList ds p := hA0
  rw [Try.params6] at hA hval
  obtain ⟨v0, vs0, d0, ds0, p0, q0, hargs, rfl, rfl, h0, r0⟩ := trodAll_cons hA
  obtain ⟨v1, vs1, d1, ds1, p1, q1, rfl, rfl, rfl, h1, r1⟩ := trodAll_cons r0
  obtain ⟨v2, vs2, d2, ds2, p2, q2, rfl, rfl, rfl, h2, r2⟩ := trodAll_cons r1
  obtain ⟨rfl, rfl, rfl⟩ := trodAll_nil r2
  obtain rfl : args = #[v0, v1, v2] := by cases args; simp_all
  obtain ⟨rfl, rfl⟩ := trodVars_none hV
  have k0 := h0
  have lt0 : ∀ x ∈ p0, x.block < W.heap.size := by obtain ⟨m, hm⟩ := k0; exact DataW.trod_lt m _ _ _ hm
  obtain ⟨y0, w0, g0⟩ := open_graph Try.underlying24 (by kernel_rfl) (by kernel_rfl) Try.underlying3 Try.underlying22 Try.underlying75 (by kernel_rfl) (by kernel_rfl) Try.underlying3 Try.underlying3 Try.underlying3 (hval 0 24 v0 rfl rfl) h0
  have k1 := h1
  have lt1 : ∀ x ∈ p1, x.block < W.heap.size := by obtain ⟨m, hm⟩ := k1; exact DataW.trod_lt m _ _ _ hm
  obtain ⟨a1, rfl, _, _, w1⟩ := open_int Try.underlying3 (hval 1 3 v1 rfl rfl) h1
  have k2 := h2
  have lt2 : ∀ x ∈ p2, x.block < W.heap.size := by obtain ⟨m, hm⟩ := k2; exact DataW.trod_lt m _ _ _ hm
  obtain ⟨a2, rfl, _, _, w2⟩ := open_int Try.underlying3 (hval 2 3 v2 rfl rfl) h2
  clear hA0 hval0
  refine (FnExactPartOf_walk W _ y0 w0 g0 a1 (in64_of_wf w1) a2 (in64_of_wf w2)).mono fun e W' ⟨he, bel⟩ => ?_
  subst he
  exact ⟨_, rfl, _, _, _, [], _, [], hW', trodAll_mk1 (shut_bool Try.underlying4 _), (trodAll_cons_mk (Below.trod tryLaidOut (by kernel_rfl) (of_decide_eq_true (by kernel_rfl)) k0 bel lt0) (trodAll_cons_mk (Below.trod tryLaidOut (by kernel_rfl) (of_decide_eq_true (by kernel_rfl)) k1 bel lt1) (trodAll_cons_mk (Below.trod tryLaidOut (by kernel_rfl) (of_decide_eq_true (by kernel_rfl)) k2 bel lt2) trodAll_mk0))), rfl, bel.frame _, fun h => by cases h⟩

set_option maxHeartbeats 4000000 in
set_option maxRecDepth 100000 in
theorem FnExactPartOf_holds : Rows.FnExactPartOfSaid := by
  refine OpenClaim.holds_of_wide 6 Try.f6 rfl rfl rfl rfl rfl rfl rfl ⟨rfl, rfl, rfl, rfl, rfl⟩ rfl rfl rfl rfl rfl ?hfn Try.func6 ?closed ?hinst ?hwrap (fun os started H enc _ => FnExactPartOf_lifted os started H enc)
  case hfn => as_aux_lemma => kernel_rfl
  case hinst => exact of_decide_eq_true (by as_aux_lemma => kernel_rfl)
  case hwrap => unfold Func.isWrapper; first | (rw [if_pos (by decide +kernel)]; kernel_rfl) | (rw [if_neg (by decide +kernel)]; exact ⟨rfl, rfl⟩)
  case closed =>
    simp only [joinedFacts, Bool.and_eq_true]
    repeat' apply And.intro
    all_goals first
      | with_reducible exact mayEnter_ok
      | (rewrite [liftsFinal_no]; as_aux_lemma => kernel_rfl)
      | (rewrite [make_cut]; as_aux_lemma => kernel_rfl)
      | as_aux_lemma => kernel_rfl
end Go.Proofs.Ytoolmknnmmecfaa
