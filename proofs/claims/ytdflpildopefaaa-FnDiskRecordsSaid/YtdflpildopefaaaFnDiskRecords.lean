/-
  Behind a crash and a repair the records are a beginning of those before: for every code: no condition.
-/
import Derived.Test.YtdflpildopefaaaArgs
import Derived.Test.YtdflpildopefaaaDrawL
import Derived.Test.YtdflpildopefaaaDiskC
import Derived.Test.YtdflpildopefaaaDiskR
import Derived.Test.YtdflpildopefaaaRowS
import Derived.Deep.RegionHeld3
import Derived.Test.YtdflpildopefaaaFacts
namespace Go.Proofs.Ytdflpildopefaaa
open Go.ChangeShapes Go.WideShapes Go.ChangeAt Go.RowKit
set_option linter.unusedVariables false

theorem RdIntSS.take {w : World} {a : Option Addr} {cap : Nat} {xss : List (List Int)} (h : RdIntSS w (.slice a xss.length cap) xss) {m : Nat} (hm : m ≤ xss.length) : RdIntSS w (.slice a m cap) (xss.take m) := by
  obtain ⟨vs, h1, h2⟩ := h
  have e : (xss.take m).length = m := by rw [List.length_take]; omega
  have h3 := h1.take m hm
  rw [Nat.mul_one] at h3
  refine ⟨vs.take m, by rw [e]; exact h3, fun i hi => ?_⟩
  rw [e] at hi
  obtain ⟨u, h4, h5⟩ := h2 i (by omega)
  exact ⟨u, by rw [List.getElem?_take_of_lt hi]; exact h4, by rw [List.getD_eq_getElem?_getD, List.getElem?_take_of_lt hi, ← List.getD_eq_getElem?_getD]; exact h5⟩

set_option maxRecDepth 100000 in
set_option maxHeartbeats 4000000 in
theorem FnDiskRecords_walk (w : World) (va : Value) (bs : List Int) (hv : Rd w 1 va bs.length (bys bs)) (hx : ∀ x ∈ bs, 0 ≤ x ∧ x ≤ 255) :
    Calls Try.prog 15 #[va] w fun e w' => e = .returned (.bool true) ∧ Below w.heap.size w w' := by
  have HDR := Lib.hid (DrawDiskRecords_any w va bs hv hx)
  obtain ⟨hlb, av, acap, rfl, hcap, hmc, hcell⟩ := hv
  clear hlb hcap hmc hcell hx
  by_cases hl : bs.length ≤ 1048576
  case neg =>
    have hl' : decide ((bs.length : Int) > 1048576) = true := by simp; omega
    go_enter Try.func15, Try.ntmps15
    go_wp2_with fail
    go_ret
    exact ⟨rfl, Below.refl _ _⟩
  case pos =>
  have hl' : decide ((bs.length : Int) > 1048576) = false := by simp; omega
  go_enter Try.func15, Try.ntmps15
  go_wp2_with fail
  refine HDR.out.mono ?_
  rintro e w1 ⟨v, d, rfl, hr, hl0, hl1, hb1⟩
  obtain ⟨v0, v1, rfl, h0, h1⟩ := id hr
  obtain ⟨p0, c0, rfl, -, -⟩ := h0.form
  obtain ⟨p1, c1, rfl, -, -⟩ := h1.form
  have hA : Below w1.heap.size w1 (w1.alloc (.cells #[.slice p0 d.1.length c0, .slice p1 d.2.length c1] 25)) := (Below.refl _ _).alloc (Nat.le_refl _) _
  have HB := Lib.hid (hb1.tr hA); have HR := Lib.hid (hr.keep hA); have X := Lib.hid (heap_alloc_new w1 (.cells #[.slice p0 d.1.length c0, .slice p1 d.2.length c1] 25))
  have hs2 : (w1.alloc (.cells #[.slice p0 d.1.length c0, .slice p1 d.2.length c1] 25)).heap.size = w1.heap.size + 1 := by simp
  clear hA hb1 hr h0 h1 HDR hl'
  have hsz : sizeDisk d ≤ 1099511627776 := by unfold sizeDisk; omega
  go_wp2_with fail
  generalize (w1.alloc (.cells #[.slice p0 d.1.length c0, .slice p1 d.2.length c1] 25)) = w2 at *
  have HI := implDiskRecords_any w2 _ d HR.out
  have HSP := fun wx vx h => specDiskRecords_any wx vx d h hsz
  generalize hL : recordsD d = L at HI HSP
  replace HSP := Lib.hid HSP
  replace hL := Lib.hid hL
  refine HI.mono ?_
  rintro e w3 ⟨v, rfl, ho, hb3⟩
  obtain ⟨a3, c3, rfl, hLc, -⟩ := ho.rd.form
  have HLR := Lib.hid ho.rd
  replace X := Lib.hid (box_keep X.out hb3); replace HB := Lib.hid (HB.out.tr hb3); replace HR := Lib.hid (HR.out.keep hb3)
  clear hb3 HI ho
  have k0 := box_cell X.out 0 _ rfl; have k1 := box_cell X.out 1 _ rfl
  go_wp2_with fail
  refine (HSP.out _ _ HR.out).mono ?_
  rintro e w4 ⟨v4, rfl, ho4, hb4⟩
  have HL4 := Lib.hid ho4.rd
  replace X := Lib.hid (box_keep X.out hb4); replace HB := Lib.hid (HB.out.tr hb4); replace HR := Lib.hid (HR.out.keep hb4); replace HLR := Lib.hid (HLR.out.keep hb4)
  clear hb4 HSP ho4 k0 k1
  have k0 := box_cell X.out 0 _ rfl; have k1 := box_cell X.out 1 _ rfl
  go_wp2_with fail
  refine (sameRecords_same _ _ _ L HLR.out HL4.out).mono ?_
  rintro e w5 ⟨rfl, hb5⟩
  replace X := Lib.hid (box_keep X.out hb5); replace HB := Lib.hid (HB.out.tr hb5); replace HR := Lib.hid (HR.out.keep hb5); replace HLR := Lib.hid (HLR.out.keep hb5)
  clear hb5 HL4 k0 k1
  have k0 := box_cell X.out 0 _ rfl; have k1 := box_cell X.out 1 _ rfl
  have HV := specDiskValid_any _ _ d HR.out
  go_wp2_with fail
  by_cases hok : diskOk d = true
  · rw [hok] at HV
    have hkp := Int.tmod_nonneg (20 : Int) (show (0 : Int) ≤ (bs.length : Int) by omega)
    have h64 : In64 ((bs.length : Int).tmod 20) := by
      have h2 := Int.tmod_lt_of_pos (bs.length : Int) (show (0 : Int) < 20 by omega)
      unfold In64; omega
    have hrc := records_crash hok hkp
    rw [hL.out] at hrc
    have HCR := Lib.hid fun wx vx h => implDiskCrash_any wx vx d ((bs.length : Int).tmod 20) h64 h
    generalize hC : crashD d ((bs.length : Int).tmod 20) = C at *
    clear hkp h64 hC
    have HRP := Lib.hid fun wx vx h => implDiskRepair_any wx vx C h
    generalize hC : repairD C = R at *
    clear hC
    have HRC := Lib.hid fun wx vx h => implDiskRecords_any wx vx R h
    generalize hC : recordsD R = M at *
    clear hC
    have hML := hrc.1
    have HM := Lib.hid hrc.2
    clear hrc
    refine HV.mono ?_
    rintro e w6 ⟨rfl, hb6⟩
    replace X := Lib.hid (box_keep X.out hb6); replace HB := Lib.hid (HB.out.tr hb6); replace HR := Lib.hid (HR.out.keep hb6); replace HLR := Lib.hid (HLR.out.keep hb6)
    clear hb6 HV k0 k1
    have k0 := box_cell X.out 0 _ rfl; have k1 := box_cell X.out 1 _ rfl
    go_wp2_with fail
    refine (HCR.out _ _ HR.out).mono ?_
    rintro e w7 ⟨v7, rfl, ho7, hb7⟩
    have H7 := Lib.hid ho7.rd; replace HB := Lib.hid (HB.out.tr hb7); replace HLR := Lib.hid (HLR.out.keep hb7)
    clear ho7 hb7 HCR HR X k0 k1
    go_wp2_with fail
    refine (HRP.out _ _ H7.out).mono ?_
    rintro e w8 ⟨v8, rfl, ho8, hb8⟩
    have H8 := Lib.hid ho8.rd; replace HB := Lib.hid (HB.out.tr hb8); replace HLR := Lib.hid (HLR.out.keep hb8)
    clear ho8 hb8 HRP H7
    go_wp2_with fail
    refine (HRC.out _ _ H8.out).mono ?_
    rintro e w9 ⟨v9, rfl, ho9, hb9⟩
    obtain ⟨a9, c9, rfl⟩ := ho9.form
    have H9 := Lib.hid ho9.rd; replace HB := Lib.hid (HB.out.tr hb9); replace HLR := Lib.hid (HLR.out.keep hb9)
    clear ho9 hb9 HRC H8
    have HT : Hid (RdIntSS w9 (.slice a3 M.length c3) M) := Lib.hid (by have h := HLR.out.take hML; rw [← HM.out] at h; exact h)
    have hMc : M.length ≤ c3 := by omega
    have ht : decide (M.length ≤ L.length) = true := by simp; exact hML
    go_wp2_with fail
    refine (sameRecords_same _ _ _ M H9.out HT.out).mono ?_
    rintro e w10 ⟨rfl, hb10⟩
    replace HB := Lib.hid (HB.out.tr hb10); clear hb10
    go_wp2_with fail
    go_ret
    exact ⟨rfl, HB.out⟩
  · have hok : diskOk d = false := by simpa using hok
    rw [hok] at HV
    have hLe : L = [] := by rw [← hL.out, recordsD_no hok]
    have ht0 : ((L.length : Int) == 0) = true := by rw [hLe]; rfl
    clear hLe hsz
    refine HV.mono ?_
    rintro e w6 ⟨rfl, hb6⟩
    replace HB := Lib.hid (HB.out.tr hb6)
    clear hb6 HR X k0 k1
    go_wp2_with fail
    refine (alive_any _).mono ?_
    rintro e w7 ⟨rfl, hb7⟩
    replace HB := Lib.hid (HB.out.tr hb7); clear hb7
    go_wp2_with fail
    go_ret
    exact ⟨rfl, HB.out⟩
set_option maxRecDepth 100000 in
theorem FnDiskRecords_lifted (os : Os) (started : os.Started) (H : Type) (enc : TypeId × Value → H) :
    ReturnsInHanded {} Try.checked os 15 .any (Rows.fnDiskRecordsSpec.pre6 enc Try.prog Try.f15 Rows.fnDiskRecordsRow.domain false) (Rows.fnDiskRecordsSpec.post enc Try.prog Try.f15 false true false false) := by
  refine returnsInHanded_of_change (C := Try.checked) tryOwn started (by kernel_rfl) Try.func15
    (ChangeSpec.witness6 (enc := enc) (C := Try.checked) false ⟨#[], #[.slice none 0 0], []⟩ 8 (by kernel_rfl) (by kernel_rfl) (by kernel_rfl) (by kernel_rfl)) ?_
  intro W base args ds gs before hval0 hW hcnd _
  have hval : ∀ (j : Nat) t v, Try.f15.params[j]? = some t → args[j]? = some v → Value.okWide Try.prog W .any base t v := hval0
  have hW' := hW
  obtain ⟨p, q, hA0, hV, rfl, hfz, hnd⟩ := hW
  have hA : DataW.TrodAll enc Try.prog W 0 (fun _ => true) true Try.f15.params.toList args.toList ds p := hA0
  rw [Try.params15] at hA hval
  obtain ⟨v0, vs0, d0, ds0, p0, q0, hargs, rfl, rfl, h0, r0⟩ := trodAll_cons hA
  obtain ⟨rfl, rfl, rfl⟩ := trodAll_nil r0
  obtain rfl : args = #[v0] := by cases args; simp_all
  obtain ⟨rfl, rfl⟩ := trodVars_none hV
  have k0 := h0
  have lt0 : ∀ x ∈ p0, x.block < W.heap.size := by obtain ⟨m, hm⟩ := k0; exact DataW.trod_lt m _ _ _ hm
  obtain ⟨c0, len0, cap0, rfl⟩ := okWide_slice Try.underlying22 (hval 0 22 v0 rfl rfl)
  obtain ⟨n0, x0, t0⟩ := trod_of rfl h0
  obtain ⟨xs0, w0, g0⟩ := trod_bytes Try.underlying22 Try.underlying5 (by kernel_rfl) t0
  clear hA0 hval0
  refine (FnDiskRecords_walk W _ xs0 w0 g0).mono fun e W' ⟨he, bel⟩ => ?_
  subst he
  exact ⟨_, rfl, _, _, _, [], _, [], hW', trodAll_mk1 (shut_bool Try.underlying4 _), (trodAll_cons_mk (Below.trod tryLaidOut (by kernel_rfl) (of_decide_eq_true (by kernel_rfl)) k0 bel lt0) trodAll_mk0), rfl, bel.frame _, fun h => by cases h⟩

set_option maxHeartbeats 4000000 in
set_option maxRecDepth 100000 in
theorem FnDiskRecords_holds : Rows.FnDiskRecordsSaid := by
  refine OpenClaim.holds_of_wide 15 Try.f15 rfl rfl rfl rfl rfl rfl rfl ⟨rfl, rfl, rfl, rfl, rfl⟩ rfl rfl rfl rfl rfl ?hfn Try.func15 ?closed ?hinst ?hwrap (fun os started H enc _ => FnDiskRecords_lifted os started H enc)
  case hfn => as_aux_lemma => kernel_rfl
  case hinst => exact of_decide_eq_true (by as_aux_lemma => kernel_rfl)
  case hwrap => unfold Func.isWrapper; first | (rw [if_pos (by decide +kernel)]; kernel_rfl) | (rw [if_neg (by decide +kernel)]; exact ⟨rfl, rfl⟩)
  case closed =>
    simp only [joinedFacts, Bool.and_eq_true]
    repeat' apply And.intro
    all_goals first
      | with_reducible exact mayEnter_ok
      | (rewrite [liftsFinal_no]; as_aux_lemma => kernel_rfl)
      | (rewrite [make_cut]; as_aux_lemma => kernel_rfl)
      | as_aux_lemma => kernel_rfl
end Go.Proofs.Ytdflpildopefaaa
