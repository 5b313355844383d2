/-
  A repaired disk is repaired, and holds what was safe: for every code: no condition.
-/
import Derived.Test.YtdflpildopefaaaArgs
import Derived.Test.YtdflpildopefaaaDrawL
import Derived.Test.YtdflpildopefaaaDiskC
import Derived.Test.YtdflpildopefaaaDiskR
import Derived.Test.YtdflpildopefaaaRowS
import Derived.Deep.RegionHeld3
import Derived.Test.YtdflpildopefaaaFacts
namespace Go.Proofs.Ytdflpildopefaaa
open Go.ChangeShapes Go.WideShapes Go.ChangeAt Go.RowKit
set_option linter.unusedVariables false

theorem RdDisk.one {w : World} {v0 v1 : Value} {d : DiskD} (h : RdDisk w (.agg #[v0, v1]) d) : Rd w 1 v0 d.1.length (ints d.1) := by
  obtain ⟨u0, u1, e, h0, h1⟩ := h
  obtain ⟨rfl, rfl⟩ : v0 = u0 ∧ v1 = u1 := by simpa using e
  exact h0
theorem RdDisk.safe {w : World} {v0 v1 : Value} {d : DiskD} (h : RdDisk w (.agg #[v0, v1]) d) : RdDisk w (.agg #[v0, .slice none 0 0]) (d.1, []) :=
  ⟨_, _, rfl, h.one, Rd.nil w 1⟩

set_option maxRecDepth 100000 in
set_option maxHeartbeats 4000000 in
theorem FnDiskRepair_walk (w : World) (va : Value) (bs : List Int) (hv : Rd w 1 va bs.length (bys bs)) (hx : ∀ x ∈ bs, 0 ≤ x ∧ x ≤ 255) :
    Calls Try.prog 14 #[va] w fun e w' => e = .returned (.bool true) ∧ Below w.heap.size w w' := by
  have HDR := Lib.hid (DrawDiskRepair_any w va bs hv hx)
  obtain ⟨hlb, av, acap, rfl, hcap, hmc, hcell⟩ := hv
  clear hlb hcap hmc hcell hx
  by_cases hl : bs.length ≤ 1048576
  case neg =>
    have hl' : decide ((bs.length : Int) > 1048576) = true := by simp; omega
    go_enter Try.func14, Try.ntmps14
    go_wp2_with fail
    go_ret
    exact ⟨rfl, Below.refl _ _⟩
  case pos =>
  have hl' : decide ((bs.length : Int) > 1048576) = false := by simp; omega
  go_enter Try.func14, Try.ntmps14
  go_wp2_with fail
  refine HDR.out.mono ?_
  rintro e w1 ⟨v, d, rfl, hr, hl0, hl1, hb1⟩
  obtain ⟨v0, v1, rfl, h0, h1⟩ := id hr
  obtain ⟨p0, c0, rfl, -, -⟩ := h0.form
  obtain ⟨p1, c1, rfl, -, -⟩ := h1.form
  have hA : Below w1.heap.size w1 (w1.alloc (.cells #[.slice p0 d.1.length c0, .slice p1 d.2.length c1] 25)) := (Below.refl _ _).alloc (Nat.le_refl _) _
  have HB := Lib.hid (hb1.tr hA); have HR := Lib.hid (hr.keep hA); have X := Lib.hid (heap_alloc_new w1 (.cells #[.slice p0 d.1.length c0, .slice p1 d.2.length c1] 25))
  have hs2 : (w1.alloc (.cells #[.slice p0 d.1.length c0, .slice p1 d.2.length c1] 25)).heap.size = w1.heap.size + 1 := by simp
  clear hA hb1 hr h0 h1 HDR hl'
  have hsz : sizeDisk d ≤ 1099511627776 := by unfold sizeDisk; omega
  go_wp2_with fail
  generalize (w1.alloc (.cells #[.slice p0 d.1.length c0, .slice p1 d.2.length c1] 25)) = w2 at *
  have HI := implDiskRepair_any w2 _ d HR.out
  have HSP := fun wx vx h => specDiskRepair_any wx vx d h hsz
  have hSd := Lib.hid (rfl : repairD d = repairD d)
  generalize hS : repairD d = S at HI HSP
  replace HSP := Lib.hid HSP
  clear hSd
  replace hS := Lib.hid hS
  refine HI.mono ?_
  rintro e w3 ⟨v, rfl, ho, hb3⟩
  have ho := ho.rd
  obtain ⟨x0, x1, rfl, y0, y1⟩ := id ho
  obtain ⟨q0, e0, rfl, -, -⟩ := y0.form
  obtain ⟨q1, e1, rfl, -, -⟩ := y1.form
  have hA := hb3.tr ((Below.refl w3.heap.size w3).alloc (Nat.le_refl _) (.cells #[.slice q0 S.1.length e0, .slice q1 S.2.length e1] 25))
  have Y := Lib.hid (heap_alloc_new w3 (.cells #[.slice q0 S.1.length e0, .slice q1 S.2.length e1] 25))
  have HX := Lib.hid (ho.keep ((Below.refl w3.heap.size w3).alloc (Nat.le_refl _) (.cells #[.slice q0 S.1.length e0, .slice q1 S.2.length e1] 25)))
  replace X := Lib.hid (box_keep X.out hA); replace HB := Lib.hid (HB.out.tr hA); replace HR := Lib.hid (HR.out.keep hA)
  clear hA ho y0 y1 hb3 HI
  have k0 := box_cell X.out 0 _ rfl; have k1 := box_cell X.out 1 _ rfl; have k2 := box_cell Y.out 0 _ rfl; have k3 := box_cell Y.out 1 _ rfl
  go_wp2_with fail
  generalize (w3.alloc (.cells #[.slice q0 S.1.length e0, .slice q1 S.2.length e1] 25)) = w4 at *
  have hm : Try.prog.follows .mixedOrders = true := by kernel_rfl
  go_region_held3 (fun w' => w'.cell? ⟨w1.heap.size, 0, none⟩ = some (.slice p0 d.1.length c0) ∧ w'.cell? ⟨w1.heap.size, 1, none⟩ = some (.slice p1 d.2.length c1) ∧ w'.cell? ⟨w3.heap.size, 0, none⟩ = some (.slice q0 S.1.length e0) ∧ w'.cell? ⟨w3.heap.size, 1, none⟩ = some (.slice q1 S.2.length e1)) (go_keep) (first
    | (go_at_call 46; refine (HSP.out _ _ (HR.out.keep (Below.refl _ _).drew)).mono ?_; rintro e w5 ⟨v5, rfl, ho5, hb5⟩; have HV5 := Lib.hid ho5.rd; have BD := Lib.hid ((Below.refl w4.heap.size w4).drew.tr hb5); clear ho5 hb5; have z0 := box_cell (box_keep X.out BD.out) 0 _ rfl; have z1 := box_cell (box_keep X.out BD.out) 1 _ rfl; have z2 := box_cell (box_keep Y.out BD.out) 0 _ rfl; have z3 := box_cell (box_keep Y.out BD.out) 1 _ rfl)
    | (go_at_call 41; refine (sameDisk_same _ _ _ S (HX.out.keep BD.out) HV5.out).mono ?_; rintro e w6 ⟨rfl, hb6⟩; replace BD := Lib.hid (BD.out.tr hb6); clear hb6; replace X := Lib.hid (box_keep X.out BD.out); replace Y := Lib.hid (box_keep Y.out BD.out); replace HB := Lib.hid (HB.out.tr BD.out); replace HR := Lib.hid (HR.out.keep BD.out); replace HX := Lib.hid (HX.out.keep BD.out); have y0 := box_cell X.out 0 _ rfl; have y1 := box_cell X.out 1 _ rfl; have y2 := box_cell Y.out 0 _ rfl; have y3 := box_cell Y.out 1 _ rfl))
  clear k0 k1 k2 k3 z0 z1 z2 z3 BD HV5 HSP
  have HV := specDiskValid_any _ _ d HR.out
  go_wp2_with fail
  by_cases hok : diskOk d = true
  · rw [hok] at HV
    replace HV := Lib.hid HV
    have hSe : S = (d.1.take (scan d.1).2, []) := by rw [← hS.out, repairD_yes hok]
    have hlen := bytesOk_lens hok
    have hk : repairD S = S := by rw [← hS.out]; exact repair_twice hok
    have HRP := fun wx vx h => implDiskRepair_any wx vx S h
    rw [hk] at HRP
    replace HRP := Lib.hid HRP
    have hbl : bytesOk S.1 = true := by rw [hSe]; exact bytesOk_take (bytesOk_left hok) _
    have hsn : scanN S.1 = (S.1.length : Int) := by rw [scanN_yes hbl]; have := scan_repair_len hok; rw [hS.out] at this; rw [this]
    have HSC := fun wx vx h => implScanFrames_any wx vx S.1 h (by rw [hSe]; rw [List.length_take]; omega)
    unfold RetS at HSC
    rw [hsn] at HSC
    replace HSC := Lib.hid HSC
    have hrs : recordsD S = recordsD (d.1, []) := by rw [← hS.out]; exact records_repair hok
    have HRC : Hid (∀ wx vx, (RdDisk wx vx S ∨ RdDisk wx vx (d.1, [])) → Calls Try.prog 55 #[vx] wx (RetR wx (recordsD (d.1, [])))) := Lib.hid fun wx vx h => by
      rcases h with h | h
      · have := implDiskRecords_any wx vx S h; rwa [hrs] at this
      · exact implDiskRecords_any wx vx (d.1, []) h
    have ht0 : ((S.2.length : Int) == 0) = true := by rw [hSe]; rfl
    generalize recordsD (d.1, []) = L at *
    generalize scanB S.1 = SB at *
    clear hk hrs hSe hsz hsn hbl hlen
    refine HV.out.mono ?_
    rintro e w5 ⟨rfl, hb5⟩
    replace X := Lib.hid (box_keep X.out hb5); replace Y := Lib.hid (box_keep Y.out hb5); replace HB := Lib.hid (HB.out.tr hb5); replace HR := Lib.hid (HR.out.keep hb5); replace HX := Lib.hid (HX.out.keep hb5)
    clear hb5 HV y0 y1 y2 y3
    have k0 := box_cell X.out 0 _ rfl; have k1 := box_cell X.out 1 _ rfl; have k2 := box_cell Y.out 0 _ rfl; have k3 := box_cell Y.out 1 _ rfl
    go_wp2_with fail
    refine (HSC.out _ _ HX.out.one).mono ?_
    rintro e w6 ⟨v6, rfl, ho6, hb6⟩
    obtain ⟨a6, c6, rfl⟩ := ho6.form
    replace X := Lib.hid (box_keep X.out hb6); replace Y := Lib.hid (box_keep Y.out hb6); replace HB := Lib.hid (HB.out.tr hb6); replace HR := Lib.hid (HR.out.keep hb6); replace HX := Lib.hid (HX.out.keep hb6)
    clear ho6 hb6 HSC k0 k1 k2 k3
    have k0 := box_cell X.out 0 _ rfl; have k1 := box_cell X.out 1 _ rfl; have k2 := box_cell Y.out 0 _ rfl; have k3 := box_cell Y.out 1 _ rfl
    go_wp2_with fail
    go_region_held3 (fun w' => w'.cell? ⟨w1.heap.size, 0, none⟩ = some (.slice p0 d.1.length c0) ∧ w'.cell? ⟨w1.heap.size, 1, none⟩ = some (.slice p1 d.2.length c1) ∧ w'.cell? ⟨w3.heap.size, 0, none⟩ = some (.slice q0 S.1.length e0) ∧ w'.cell? ⟨w3.heap.size, 1, none⟩ = some (.slice q1 S.2.length e1)) (go_keep) (first
      | (go_at_call 48; refine (HRP.out _ _ (HX.out.keep (Below.refl _ _).drew)).mono ?_; rintro e w7 ⟨v7, rfl, ho7, hb7⟩; have HV7 := Lib.hid ho7.rd; have BD := Lib.hid ((Below.refl w6.heap.size w6).drew.tr hb7); clear ho7 hb7; have z0 := box_cell (box_keep X.out BD.out) 0 _ rfl; have z1 := box_cell (box_keep X.out BD.out) 1 _ rfl; have z2 := box_cell (box_keep Y.out BD.out) 0 _ rfl; have z3 := box_cell (box_keep Y.out BD.out) 1 _ rfl)
      | (go_at_call 41; refine (sameDisk_same _ _ _ S HV7.out (HX.out.keep BD.out)).mono ?_; rintro e w8 ⟨rfl, hb8⟩; have B8 := Lib.hid (BD.out.tr hb8); clear hb8 HV7; have y0 := box_cell (box_keep X.out B8.out) 0 _ rfl; have y1 := box_cell (box_keep X.out B8.out) 1 _ rfl; have y2 := box_cell (box_keep Y.out B8.out) 0 _ rfl; have y3 := box_cell (box_keep Y.out B8.out) 1 _ rfl)
      | (go_at_call 55; refine (HRC.out _ _ (by first | exact .inl (HX.out.keep B8.out) | exact .inr (HR.out.keep B8.out).safe)).mono ?_; rintro e w9 ⟨v9, rfl, ho9, hb9⟩; have HV9 := Lib.hid ho9.rd; have B9 := Lib.hid (B8.out.tr hb9); clear ho9 hb9; have x0 := box_cell (box_keep X.out B9.out) 0 _ rfl; have x1 := box_cell (box_keep X.out B9.out) 1 _ rfl; have x2 := box_cell (box_keep Y.out B9.out) 0 _ rfl; have x3 := box_cell (box_keep Y.out B9.out) 1 _ rfl)
      | (go_at_call 55; refine (HRC.out _ _ (by first | exact .inl (HX.out.keep B9.out) | exact .inr (HR.out.keep B9.out).safe)).mono ?_; rintro e w10 ⟨v10, rfl, ho10, hb10⟩; have HV10 := Lib.hid ho10.rd; replace HV9 := Lib.hid (HV9.out.keep hb10); have B10 := Lib.hid (B9.out.tr hb10); clear ho10 hb10; have u0 := box_cell (box_keep X.out B10.out) 0 _ rfl; have u1 := box_cell (box_keep X.out B10.out) 1 _ rfl; have u2 := box_cell (box_keep Y.out B10.out) 0 _ rfl; have u3 := box_cell (box_keep Y.out B10.out) 1 _ rfl)
      | (go_at_call 44; refine (sameRecords_same _ _ _ L (by first | exact HV9.out | exact HV10.out) (by first | exact HV10.out | exact HV9.out)).mono ?_; rintro e w11 ⟨rfl, hb11⟩; have B11 := Lib.hid (B10.out.tr hb11); clear hb11; have s0 := box_cell (box_keep X.out B11.out) 0 _ rfl; have s1 := box_cell (box_keep X.out B11.out) 1 _ rfl; have s2 := box_cell (box_keep Y.out B11.out) 0 _ rfl; have s3 := box_cell (box_keep Y.out B11.out) 1 _ rfl))
    all_goals
      go_wp2_with fail
      go_ret
      exact ⟨rfl, HB.out.tr B11.out⟩
  · have hok : diskOk d = false := by simpa using hok
    rw [hok] at HV
    replace HV := Lib.hid HV
    have hSe : S = ([], []) := by rw [← hS.out, repairD_no hok]
    have ht0 : ((S.1.length : Int) == 0) = true := by rw [hSe]; rfl
    clear hSe hsz
    refine HV.out.mono ?_
    rintro e w5 ⟨rfl, hb5⟩
    replace X := Lib.hid (box_keep X.out hb5); replace Y := Lib.hid (box_keep Y.out hb5); replace HB := Lib.hid (HB.out.tr hb5)
    clear hb5 HV y0 y1 y2 y3 HR HX
    have k0 := box_cell X.out 0 _ rfl; have k1 := box_cell X.out 1 _ rfl; have k2 := box_cell Y.out 0 _ rfl; have k3 := box_cell Y.out 1 _ rfl
    go_wp2_with fail
    refine (alive_any _).mono ?_
    rintro e w6 ⟨rfl, hb6⟩
    replace HB := Lib.hid (HB.out.tr hb6); clear hb6
    go_wp2_with fail
    go_ret
    exact ⟨rfl, HB.out⟩
set_option maxRecDepth 100000 in
theorem FnDiskRepair_lifted (os : Os) (started : os.Started) (H : Type) (enc : TypeId × Value → H) :
    ReturnsInHanded {} Try.checked os 14 .any (Rows.fnDiskRepairSpec.pre6 enc Try.prog Try.f14 Rows.fnDiskRepairRow.domain false) (Rows.fnDiskRepairSpec.post enc Try.prog Try.f14 false true false false) := by
  refine returnsInHanded_of_change (C := Try.checked) tryOwn started (by kernel_rfl) Try.func14
    (ChangeSpec.witness6 (enc := enc) (C := Try.checked) false ⟨#[], #[.slice none 0 0], []⟩ 8 (by kernel_rfl) (by kernel_rfl) (by kernel_rfl) (by kernel_rfl)) ?_
  intro W base args ds gs before hval0 hW hcnd _
  have hval : ∀ (j : Nat) t v, Try.f14.params[j]? = some t → args[j]? = some v → Value.okWide Try.prog W .any base t v := hval0
  have hW' := hW
  obtain ⟨p, q, hA0, hV, rfl, hfz, hnd⟩ := hW
  have hA : DataW.TrodAll enc Try.prog W 0 (fun _ => true) true Try.f14.params.toList args.toList ds p := hA0
  rw [Try.params14] at hA hval
  obtain ⟨v0, vs0, d0, ds0, p0, q0, hargs, rfl, rfl, h0, r0⟩ := trodAll_cons hA
  obtain ⟨rfl, rfl, rfl⟩ := trodAll_nil r0
  obtain rfl : args = #[v0] := by cases args; simp_all
  obtain ⟨rfl, rfl⟩ := trodVars_none hV
  have k0 := h0
  have lt0 : ∀ x ∈ p0, x.block < W.heap.size := by obtain ⟨m, hm⟩ := k0; exact DataW.trod_lt m _ _ _ hm
  obtain ⟨c0, len0, cap0, rfl⟩ := okWide_slice Try.underlying22 (hval 0 22 v0 rfl rfl)
  obtain ⟨n0, x0, t0⟩ := trod_of rfl h0
  obtain ⟨xs0, w0, g0⟩ := trod_bytes Try.underlying22 Try.underlying5 (by kernel_rfl) t0
  clear hA0 hval0
  refine (FnDiskRepair_walk W _ xs0 w0 g0).mono fun e W' ⟨he, bel⟩ => ?_
  subst he
  exact ⟨_, rfl, _, _, _, [], _, [], hW', trodAll_mk1 (shut_bool Try.underlying4 _), (trodAll_cons_mk (Below.trod tryLaidOut (by kernel_rfl) (of_decide_eq_true (by kernel_rfl)) k0 bel lt0) trodAll_mk0), rfl, bel.frame _, fun h => by cases h⟩

set_option maxHeartbeats 4000000 in
set_option maxRecDepth 100000 in
theorem FnDiskRepair_holds : Rows.FnDiskRepairSaid := by
  refine OpenClaim.holds_of_wide 14 Try.f14 rfl rfl rfl rfl rfl rfl rfl ⟨rfl, rfl, rfl, rfl, rfl⟩ rfl rfl rfl rfl rfl ?hfn Try.func14 ?closed ?hinst ?hwrap (fun os started H enc _ => FnDiskRepair_lifted os started H enc)
  case hfn => as_aux_lemma => kernel_rfl
  case hinst => exact of_decide_eq_true (by as_aux_lemma => kernel_rfl)
  case hwrap => unfold Func.isWrapper; first | (rw [if_pos (by decide +kernel)]; kernel_rfl) | (rw [if_neg (by decide +kernel)]; exact ⟨rfl, rfl⟩)
  case closed =>
    simp only [joinedFacts, Bool.and_eq_true]
    repeat' apply And.intro
    all_goals first
      | with_reducible exact mayEnter_ok
      | (rewrite [liftsFinal_no]; as_aux_lemma => kernel_rfl)
      | (rewrite [make_cut]; as_aux_lemma => kernel_rfl)
      | as_aux_lemma => kernel_rfl
end Go.Proofs.Ytdflpildopefaaa
