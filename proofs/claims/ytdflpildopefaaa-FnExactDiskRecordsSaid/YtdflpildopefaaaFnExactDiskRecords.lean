/-
  The program's DiskRecords returns what the reference's returns, for all arguments: no condition.
-/
import Derived.Test.YtdflpildopefaaaArgs2
import Derived.Test.YtdflpildopefaaaDiskR
import Derived.Test.YtdflpildopefaaaDiskM
import Derived.Test.YtdflpildopefaaaRowS
import Derived.Test.YtdflpildopefaaaFacts
namespace Go.Proofs.Ytdflpildopefaaa
open Go.ChangeShapes Go.WideShapes Go.ChangeAt Go.RowKit
set_option linter.unusedVariables false

theorem joinL_cnt (bs : List (List Int)) (h : ∀ b ∈ bs, bodyOk b = true) : (bs.map List.length).sum ≤ (joinL bs).length := by
  induction bs with
  | nil => simp
  | cons b bs ih =>
    have := ih fun x hx => h x (List.mem_cons_of_mem _ hx)
    have h2 := frameOf_len (h b (List.mem_cons_self ..))
    simp only [joinL, List.flatMap_cons, List.length_append, List.map_cons, List.sum_cons] at *
    omega
theorem scanB_cnt (xs : List Int) : cntIntSS (scanB xs) ≤ xs.length := by
  by_cases h : bytesOk xs = true
  · rw [scanB_yes h]
    obtain ⟨h1, h2⟩ := scan_joins h
    have h3 := joinL_cnt _ h1
    have h4 : (joinL (scan xs).1).length ≤ xs.length := by rw [h2, List.length_take]; omega
    rw [cntIntSS, cntTo, List.take_of_length_le (Nat.le_refl _)]; omega
  · rw [scanB_no (by simpa using h)]; exact Nat.zero_le _

theorem recordsD_cnt (d : DiskD) : cntIntSS (recordsD d) ≤ sizeDisk d := by
  by_cases h : diskOk d = true
  · rw [recordsD_scan h]; have := scanB_cnt (d.1 ++ d.2); rw [List.length_append] at this; exact this
  · rw [recordsD_no (by simpa using h)]; exact Nat.zero_le _

set_option maxRecDepth 100000 in
set_option maxHeartbeats 8000000 in
theorem FnExactDiskRecords_walk (w : World) (va : Value) (d : DiskD) (hv : RdDisk w va d) (hg : WfDisk d) :
    Calls Try.prog 13 #[va] w fun e w' => e = .returned (.bool true) ∧ Below w.heap.size w w' := by
  have HV := Lib.hid hv
  obtain ⟨v0, v1, rfl, h0, h1⟩ := hv
  obtain ⟨-, p0, c0, rfl, -, -, -⟩ := h0
  obtain ⟨-, p1, c1, rfl, -, -, -⟩ := h1
  clear hg
  have HB : Hid (Below w.heap.size w (w.alloc (.cells #[.slice p0 d.1.length c0, .slice p1 d.2.length c1] 54))) := Lib.hid ((Below.refl _ _).alloc (Nat.le_refl _) _)
  have X := Lib.hid (heap_alloc_new w (.cells #[.slice p0 d.1.length c0, .slice p1 d.2.length c1] 54))
  have hx0 : w.heap.size < (w.alloc (.cells #[.slice p0 d.1.length c0, .slice p1 d.2.length c1] 54)).heap.size := by simp
  by_cases hl : sizeDisk d ≤ 1048576
  · have S0 := Lib.hid (szDisk_ok _ _ d 1048576 (HV.out.keep HB.out) (by omega) (by omega))
    have hSz := recordsD_cnt d
    have CSP := Lib.hid fun (wx : World) (vx : Value) h => specDiskRecords_any wx vx d h (by omega)
    have CIM := Lib.hid fun (wx : World) (vx : Value) h => implDiskRecords_any wx vx d h
    generalize recordsD d = S at *
    go_enter Try.func13, Try.ntmps13
    go_wp2_with fail
    refine S0.out.mono ?_
    rintro e w1 ⟨rfl, hb1⟩
    have hs1 := hb1.size
    replace X := Lib.hid (box_keep X.out hb1); replace HB := Lib.hid (HB.out.tr hb1); clear hb1 S0
    have k0 := box_cell X.out 0 (.slice p0 d.1.length c0) rfl; have k1 := box_cell X.out 1 (.slice p1 d.2.length c1) rfl
    have hl2 : 0 ≤ (1048576 : Int) - (sizeDisk d : Int) := by omega
    have hx1 : w.heap.size < w1.heap.size := box_lt X.out
    go_wp2_with fail
    refine (toDisk_any _ _ d (HV.out.keep HB.out) (by omega)).mono ?_
    rintro e w2 ⟨s, rfl, hs, hb2⟩
    have hs2 := hb2.size
    have HS := Lib.hid hs; replace X := Lib.hid (box_keep X.out hb2); replace HB := Lib.hid (HB.out.tr hb2); clear hs hb2 k0 k1
    go_wp2_with fail
    refine (CSP.out _ _ HS.out.rd).mono ?_
    rintro e w3 ⟨s, rfl, hs, hb3⟩
    have hs3 := hb3.size
    obtain ⟨q0, e0, rfl⟩ := hs.form
    clear HS CSP
    have HW := Lib.hid hs; replace X := Lib.hid (box_keep X.out hb3); replace HB := Lib.hid (HB.out.tr hb3); clear hs hb3
    have k0 := box_cell X.out 0 (.slice p0 d.1.length c0) rfl; have k1 := box_cell X.out 1 (.slice p1 d.2.length c1) rfl
    go_wp2_with fail
    clear k0 k1
    refine (toDisk_any _ _ d (HV.out.keep HB.out) (by omega)).mono ?_
    rintro e w5 ⟨s, rfl, hs, hb5⟩
    have hs5 := hb5.size
    obtain ⟨a0, a1, mid, rfl, m1, m2, y0, y1⟩ := id hs
    obtain ⟨-, i0, n0, rfl, -, -, -⟩ := y0.rd
    obtain ⟨-, i1, n1, rfl, -, -, -⟩ := y1.rd
    clear y0 y1 m1 m2
    have HI := Lib.hid hs; replace X := Lib.hid (box_keep X.out hb5); replace HB := Lib.hid (HB.out.tr hb5); replace HW := Lib.hid (HW.out.keep hb5); clear hs hb5
    have hb6 : Below w5.heap.size w5 (w5.alloc (.cells #[.slice i0 d.1.length n0, .slice i1 d.2.length n1] 25)) := (Below.refl _ _).alloc (Nat.le_refl _) _
    have Y5 := Lib.hid (heap_alloc_new w5 (.cells #[.slice i0 d.1.length n0, .slice i1 d.2.length n1] 25))
    have hs6 : (w5.alloc (.cells #[.slice i0 d.1.length n0, .slice i1 d.2.length n1] 25)).heap.size = w5.heap.size + 1 := by simp
    replace X := Lib.hid (box_keep X.out hb6); replace HB := Lib.hid (HB.out.tr hb6); replace HW := Lib.hid (HW.out.keep hb6); replace HI := Lib.hid (HI.out.keep hb6); clear hb6
    go_wp2_with fail
    generalize (w5.alloc (.cells #[.slice i0 d.1.length n0, .slice i1 d.2.length n1] 25)) = w6 at *
    refine (CIM.out _ _ HI.out.rd).mono ?_
    rintro e w7 ⟨s, rfl, hs, hb7⟩
    have hs7 := hb7.size
    obtain ⟨g0, f0, rfl⟩ := hs.form
    have HG := Lib.hid hs; replace X := Lib.hid (box_keep X.out hb7); replace HB := Lib.hid (HB.out.tr hb7); replace HW := Lib.hid (HW.out.keep hb7); replace HI := Lib.hid (HI.out.keep hb7); replace Y5 := Lib.hid (box_keep Y5.out hb7); clear hs hb7
    go_wp2_with fail
    refine (eqIntSS_same _ _ _ S HG.out.rd HW.out.rd).mono ?_
    rintro e w9 ⟨rfl, hb9⟩
    have hs9 := hb9.size
    replace X := Lib.hid (box_keep X.out hb9); replace HB := Lib.hid (HB.out.tr hb9); replace HW := Lib.hid (HW.out.keep hb9); replace HI := Lib.hid (HI.out.keep hb9); replace HG := Lib.hid (HG.out.keep hb9); replace Y5 := Lib.hid (box_keep Y5.out hb9); clear hb9
    have k0 := box_cell X.out 0 (.slice p0 d.1.length c0) rfl; have k1 := box_cell X.out 1 (.slice p1 d.2.length c1) rfl
    have k2 := box_cell Y5.out 0 (.slice i0 d.1.length n0) rfl; have k3 := box_cell Y5.out 1 (.slice i1 d.2.length n1) rfl
    have hxlt : w.heap.size < w9.heap.size := box_lt X.out
    have hylt : w5.heap.size < w9.heap.size := box_lt Y5.out
    go_wp2_with fail
    go_region_held3 (fun w' => w'.cell? ⟨w.heap.size, 0, none⟩ = some (.slice p0 d.1.length c0) ∧ w'.cell? ⟨w.heap.size, 1, none⟩ = some (.slice p1 d.2.length c1) ∧ w'.cell? ⟨w5.heap.size, 0, none⟩ = some (.slice i0 d.1.length n0) ∧ w'.cell? ⟨w5.heap.size, 1, none⟩ = some (.slice i1 d.2.length n1)) (go_keep) (first
      | (go_at_call 47; refine (toDisk_any _ _ d (HV.out.keep HB.out.drew) (by omega)).mono ?_; rintro e w10 ⟨c, rfl, hc, hb10⟩; have HC := Lib.hid hc; have z0 := (hb10.cell (p := ⟨w.heap.size, 0, none⟩) hxlt).trans k0; have z1 := (hb10.cell (p := ⟨w.heap.size, 1, none⟩) hxlt).trans k1; have z2 := (hb10.cell (p := ⟨w5.heap.size, 0, none⟩) hylt).trans k2; have z3 := (hb10.cell (p := ⟨w5.heap.size, 1, none⟩) hylt).trans k3; have BD := Lib.hid ((Below.refl w9.heap.size w9).drew.tr hb10); have hs10 := BD.out.size; clear hc)
      | (go_at_call 49; refine (eqDisk_same _ _ _ d (HI.out.keep BD.out).rd HC.out.rd).mono ?_; rintro e w11 ⟨rfl, hb11⟩; have y0 := (hb11.cell (p := ⟨w.heap.size, 0, none⟩) (World.block_lt_of_cell? _ _ z0)).trans z0; have y1 := (hb11.cell (p := ⟨w.heap.size, 1, none⟩) (World.block_lt_of_cell? _ _ z1)).trans z1; have y2 := (hb11.cell (p := ⟨w5.heap.size, 0, none⟩) (World.block_lt_of_cell? _ _ z2)).trans z2; have y3 := (hb11.cell (p := ⟨w5.heap.size, 1, none⟩) (World.block_lt_of_cell? _ _ z3)).trans z3; replace BD := Lib.hid (BD.out.tr hb11); have hs11 := BD.out.size; replace HB := Lib.hid (HB.out.tr BD.out); replace X := Lib.hid (box_keep X.out BD.out); replace HW := Lib.hid (HW.out.keep BD.out); replace HI := Lib.hid (HI.out.keep BD.out); replace HG := Lib.hid (HG.out.keep BD.out); replace Y5 := Lib.hid (box_keep Y5.out BD.out)))
    have MK := Lib.hid (markDisk_any w11 w3.heap.size w5.heap.size _ 1 d HI.out (by omega) (by omega) (by omega))
    go_wp2_with fail
    refine MK.out.mono ?_
    rintro e w12 ⟨yi, rfl, -, -, hc⟩
    have hs12 := hc.size
    clear HI MK HC k0 k1 k2 k3 y0 y1 y2 y3
    replace X := Lib.hid ((hc.block _ (by omega) (.inl (by omega))).trans X.out); replace HB := Lib.hid (hc.below HB.out (by omega)); replace HW := Lib.hid (HW.out.chg hc (.inr (by omega))); replace HG := Lib.hid (HG.out.chg hc (.inl (by omega)))
    clear hc Y5
    have hp : 0 ≤ (1 : Int) + (sizeDisk d : Int) := by omega
    go_wp2_with fail
    refine (eqIntSS_same _ _ _ S HG.out.rd HW.out.rd).mono ?_
    rintro e w13 ⟨rfl, hb13⟩
    have hs13 := hb13.size
    replace X := Lib.hid (box_keep X.out hb13); replace HB := Lib.hid (HB.out.tr hb13); replace HW := Lib.hid (HW.out.keep hb13); replace HG := Lib.hid (HG.out.keep hb13); clear hb13
    have MK := Lib.hid (markIntSS_any w13 w6.heap.size w7.heap.size _ 1 S HG.out (by omega) (by omega))
    go_wp2_with fail
    refine MK.out.mono ?_
    rintro e w14 ⟨ys, rfl, hm, ho, hc⟩
    have hyl : Hid (ys.length = S.length) := Lib.hid hm.1
    have HM := Lib.hid hm; replace HG := Lib.hid ho; clear hm ho MK
    have hs14 := hc.size
    replace X := Lib.hid ((hc.block _ (by omega) (.inl (by omega))).trans X.out); replace HB := Lib.hid (hc.below HB.out (by omega)); replace HW := Lib.hid (HW.out.chg hc (.inr (by omega)))
    clear hc
    have hp2 : 0 ≤ (1 : Int) + (cntIntSS S : Int) := by omega
    go_wp2_with fail
    refine (heldIntSS_any _ _ 1 S ys HM.out HG.out.rd (by omega) (by omega)).mono ?_
    rintro e w15 ⟨rfl, hb15⟩
    have hs15 := hb15.size
    replace X := Lib.hid (box_keep X.out hb15); replace HB := Lib.hid (HB.out.tr hb15); replace HW := Lib.hid (HW.out.keep hb15); replace HG := Lib.hid (HG.out.keep hb15); clear hb15
    have k0 := box_cell X.out 0 (.slice p0 d.1.length c0) rfl; have k1 := box_cell X.out 1 (.slice p1 d.2.length c1) rfl
    go_wp2_with fail
    refine (toDisk_any _ _ d (HV.out.keep HB.out) (by omega)).mono ?_
    rintro e w16 ⟨s, rfl, hs, hb16⟩
    have HS := Lib.hid hs; have hs16 := hb16.size
    replace HB := Lib.hid (HB.out.tr hb16); replace HW := Lib.hid (HW.out.keep hb16); replace HG := Lib.hid (HG.out.keep hb16); clear hs hb16 k0 k1 X
    go_wp2_with fail
    refine (CIM.out _ _ HS.out.rd).mono ?_
    rintro e w17 ⟨s, rfl, hs, hb17⟩
    obtain ⟨r0, l0, rfl⟩ := hs.form
    clear HS
    have HA := Lib.hid hs; have hs17 := hb17.size
    replace HB := Lib.hid (HB.out.tr hb17); replace HW := Lib.hid (HW.out.keep hb17); replace HG := Lib.hid (HG.out.keep hb17); clear hs hb17
    go_wp2_with fail
    refine (eqIntSS_same _ _ _ S HA.out.rd HW.out.rd).mono ?_
    rintro e w19 ⟨rfl, hb19⟩
    replace HB := Lib.hid (HB.out.tr hb19); replace HG := Lib.hid (HG.out.keep hb19); clear hb19 HA HW
    go_wp2_with fail
    refine (heldIntSS_any _ _ 1 S ys HM.out HG.out.rd (by omega) (by omega)).mono ?_
    rintro e w20 ⟨rfl, hb20⟩
    replace HB := Lib.hid (HB.out.tr hb20); clear hb20
    go_wp2_with fail
    go_ret
    exact ⟨rfl, HB.out⟩
  · have S0 := Lib.hid (szDisk_no _ _ d 1048576 (HV.out.keep HB.out) (by omega) (by omega) (by omega))
    go_enter Try.func13, Try.ntmps13
    go_wp2_with fail
    refine S0.out.mono ?_
    rintro e w1 ⟨rfl, hb1⟩
    replace HB := Lib.hid (HB.out.tr hb1); clear hb1 S0
    go_wp2_with fail
    go_ret
    exact ⟨rfl, HB.out⟩
set_option maxRecDepth 100000 in
theorem FnExactDiskRecords_lifted (os : Os) (started : os.Started) (H : Type) (enc : TypeId × Value → H) :
    ReturnsInHanded {} Try.checked os 13 .any (Rows.fnExactDiskRecordsSpec.pre6 enc Try.prog Try.f13 Rows.fnExactDiskRecordsRow.domain false) (Rows.fnExactDiskRecordsSpec.post enc Try.prog Try.f13 false true false false) := by
  refine returnsInHanded_of_change (C := Try.checked) tryOwn started (by kernel_rfl) Try.func13
    (ChangeSpec.witness6 (enc := enc) (C := Try.checked) false ⟨#[], #[.agg #[.slice none 0 0, .slice none 0 0]], []⟩ 8 (by kernel_rfl) (by kernel_rfl) (by kernel_rfl) (by kernel_rfl)) ?_
  intro W base args ds gs before hval0 hW hcnd _
  have hval : ∀ (j : Nat) t v, Try.f13.params[j]? = some t → args[j]? = some v → Value.okWide Try.prog W .any base t v := hval0
  have hW' := hW
  obtain ⟨p, q, hA0, hV, rfl, hfz, hnd⟩ := hW
  have hA : DataW.TrodAll enc Try.prog W 0 (fun _ => true) true Try.f13.params.toList args.toList ds p := hA0
  rw [Try.params13] at hA hval
  obtain ⟨v0, vs0, d0, ds0, p0, q0, hargs, rfl, rfl, h0, r0⟩ := trodAll_cons hA
  obtain ⟨rfl, rfl, rfl⟩ := trodAll_nil r0
  obtain rfl : args = #[v0] := by cases args; simp_all
  obtain ⟨rfl, rfl⟩ := trodVars_none hV
  have k0 := h0
  have lt0 : ∀ x ∈ p0, x.block < W.heap.size := by obtain ⟨m, hm⟩ := k0; exact DataW.trod_lt m _ _ _ hm
  obtain ⟨y0, w0, g0⟩ := open_disk Try.underlying54 (by kernel_rfl) (by kernel_rfl) Try.underlying23 Try.underlying23 Try.underlying3 (by kernel_rfl) (hval 0 54 v0 rfl rfl) h0
  clear hA0 hval0
  refine (FnExactDiskRecords_walk W _ y0 w0 g0).mono fun e W' ⟨he, bel⟩ => ?_
  subst he
  exact ⟨_, rfl, _, _, _, [], _, [], hW', trodAll_mk1 (shut_bool Try.underlying4 _), (trodAll_cons_mk (Below.trod tryLaidOut (by kernel_rfl) (of_decide_eq_true (by kernel_rfl)) k0 bel lt0) trodAll_mk0), rfl, bel.frame _, fun h => by cases h⟩

set_option maxHeartbeats 4000000 in
set_option maxRecDepth 100000 in
theorem FnExactDiskRecords_holds : Rows.FnExactDiskRecordsSaid := by
  refine OpenClaim.holds_of_wide 13 Try.f13 rfl rfl rfl rfl rfl rfl rfl ⟨rfl, rfl, rfl, rfl, rfl⟩ rfl rfl rfl rfl rfl ?hfn Try.func13 ?closed ?hinst ?hwrap (fun os started H enc _ => FnExactDiskRecords_lifted os started H enc)
  case hfn => as_aux_lemma => kernel_rfl
  case hinst => exact of_decide_eq_true (by as_aux_lemma => kernel_rfl)
  case hwrap => unfold Func.isWrapper; first | (rw [if_pos (by decide +kernel)]; kernel_rfl) | (rw [if_neg (by decide +kernel)]; exact ⟨rfl, rfl⟩)
  case closed =>
    simp only [joinedFacts, Bool.and_eq_true]
    repeat' apply And.intro
    all_goals first
      | with_reducible exact mayEnter_ok
      | (rewrite [liftsFinal_no]; as_aux_lemma => kernel_rfl)
      | (rewrite [make_cut]; as_aux_lemma => kernel_rfl)
      | as_aux_lemma => kernel_rfl
end Go.Proofs.Ytdflpildopefaaa
