/-
  Scanned records are framed again: JoinFrames of the records are the bytes that they take; behind them there is no frame: for every code: no condition.
-/
import Derived.Test.YtdflpildopefaaaArgs
import Derived.Test.YtdflpildopefaaaDrawG
import Derived.Test.YtdflpildopefaaaScanI
import Derived.Test.YtdflpildopefaaaJoin
import Derived.Test.YtdflpildopefaaaRowS
import Derived.Test.YtdflpildopefaaaFacts
namespace Go.Proofs.Ytdflpildopefaaa
open Go.ChangeShapes Go.WideShapes Go.ChangeAt Go.RowKit
set_option linter.unusedVariables false

theorem scan_joinOk {xs : List Int} (h : bytesOk xs = true) : joinOk (scan xs).1 = true := by
  obtain ⟨h1, h2⟩ := scan_joins h
  simp only [joinOk, Bool.and_eq_true, List.all_eq_true, decide_eq_true_eq]
  refine ⟨h1, ?_⟩
  rw [h2, List.length_take]; have := (bytesOk_rng h).1; omega
theorem scan_joinB {xs : List Int} (h : bytesOk xs = true) : joinB (scan xs).1 = xs.take (scan xs).2 := by rw [joinB_yes (scan_joinOk h), (scan_joins h).2]
theorem scan_each {xs : List Int} (h : bytesOk xs = true) : ∀ k, k < (scan xs).1.length → ((scan xs).1.getD k []).length ≤ 1099511627776 := fun k hk => by
  have := bodyOk_rng ((scan_joins h).1 _ (rowD_mem hk)); omega
theorem readF_stops {xs : List Int} (h : bytesOk xs = true) : readF xs ((scan xs).2 : Int) = none := by rw [readF_at h, scan_stops]

set_option maxRecDepth 100000 in
set_option maxHeartbeats 4000000 in
theorem FnScanFrames_walk (w : World) (va : Value) (bs : List Int) (hv : Rd w 1 va bs.length (bys bs)) (hx : ∀ x ∈ bs, 0 ≤ x ∧ x ≤ 255) :
    Calls Try.prog 11 #[va] w fun e w' => e = .returned (.bool true) ∧ Below w.heap.size w w' := by
  have HDR := Lib.hid (DrawScanFrames_any w va bs hv hx)
  obtain ⟨hlb, av, acap, rfl, hcap, hmc, hcell⟩ := hv
  clear hlb hcap hmc hcell hx
  by_cases hl : bs.length ≤ 1048576
  · have hl' : decide ((bs.length : Int) > 1048576) = false := by simp; omega
    go_enter Try.func11, Try.ntmps11
    go_wp2_with fail
    refine HDR.out.mono ?_
    rintro e w1 ⟨v, xs, rfl, hr, hlen, hb1⟩
    have HB := Lib.hid hb1; have HR := Lib.hid hr
    obtain ⟨a, ca, rfl, hca, hma⟩ := hr.form
    clear hb1 HDR hl hl' hr
    have HI := Lib.hid fun wx h => implScanFrames_any wx (.slice a xs.length ca) xs h (by omega)
    have HSP := Lib.hid fun wx h => specScanFrames_any wx (.slice a xs.length ca) xs h (by omega)
    unfold RetS at HI HSP
    by_cases hok : bytesOk xs = true
    · rw [scanB_yes hok, scanN_yes hok] at HI HSP
      have hrng := scan_rng xs
      have HJ := Lib.hid fun wx vx h => implJoinFrames_any wx vx (scan xs).1 h (scan_each hok)
      unfold RetJ at HJ
      rw [scan_joinOk hok, scan_joinB hok] at HJ
      have HRF := Lib.hid fun wx (h : Rd wx 1 (.slice a xs.length ca) xs.length (ints xs)) => implReadFrame_any wx (.slice a xs.length ca) xs ((scan xs).2 : Int) h (by omega) ⟨by omega, by omega⟩
      rw [readF_stops hok] at HRF
      clear hok
      obtain ⟨hrng, -⟩ := hrng
      have HT : Hid ((xs.take (scan xs).2).length = (scan xs).2) := Lib.hid (by rw [List.length_take]; omega)
      have HTI : Hid ((ints xs).take ((scan xs).2 * 1) = ints (xs.take (scan xs).2)) := Lib.hid (by simp [ints])
      generalize (scan xs).2 = m at *
      generalize xs.take m = ys at *
      generalize (scan xs).1 = rs at *
      generalize xs.length = n at *
      go_wp2_with fail
      refine (HI.out _ HR.out).mono ?_
      rintro e w2 ⟨v2, rfl, ho2, hb2⟩
      have HX := Lib.hid ho2.rd; replace HB := Lib.hid (HB.out.tr hb2); replace HR := Lib.hid (HR.out.keep hb2)
      obtain ⟨a2, c2, rfl, hc2, hm2⟩ := ho2.rd.form
      clear ho2 hb2
      go_wp2_with fail
      refine (HSP.out _ HR.out).mono ?_
      rintro e w3 ⟨v3, rfl, ho3, hb3⟩
      have HX3 := Lib.hid ho3.rd; replace HB := Lib.hid (HB.out.tr hb3); replace HR := Lib.hid (HR.out.keep hb3); replace HX := Lib.hid (HX.out.keep hb3)
      obtain ⟨a3, c3, rfl, hc3, hm3⟩ := ho3.rd.form
      clear ho3 hb3 HI HSP
      go_wp2_with fail
      refine (sameRecords_same _ _ _ _ HX.out HX3.out).mono ?_
      rintro e w4 ⟨rfl, hb4⟩
      replace HB := Lib.hid (HB.out.tr hb4); replace HR := Lib.hid (HR.out.keep hb4); replace HX := Lib.hid (HX.out.keep hb4); clear hb4 HX3
      have t1 : decide ((m : Int) < 0) = false := by simp
      have t2 : decide ((m : Int) > (n : Int)) = false := by simp; omega
      go_wp2_with fail
      refine (HJ.out _ _ HX.out).mono ?_
      rintro e w5 ⟨v5, rfl, ho5, hb5⟩
      have ho5 := ho5.rd
      rw [HT.out] at ho5
      have HO5 := Lib.hid ho5; replace HB := Lib.hid (HB.out.tr hb5); replace HR := Lib.hid (HR.out.keep hb5)
      obtain ⟨a5, c5, rfl, hc5, hm5⟩ := ho5.form
      clear ho5 hb5 HJ HX t1 t2
      go_wp2_with fail
      refine (HRF.out _ HR.out).mono ?_
      rintro e w6 ⟨v6, rfl, ho6, hb6⟩
      have e1 : rfNext none = 0 := rfl
      have e2 : rfBody none = [] := rfl
      obtain ⟨a6, c6, rfl, hc6, hm6⟩ := ho6.rd.form
      replace HB := Lib.hid (HB.out.tr hb6); replace HR := Lib.hid (HR.out.keep hb6); replace HO5 := Lib.hid (HO5.out.keep hb6)
      simp only [e1, e2, Option.isSome_none]
      clear ho6 hb6 HRF e1 e2
      have hmc : m ≤ ca := by omega
      go_wp2_with fail
      refine (sameInts_same _ _ _ ys (by rw [HT.out]; exact HO5.out) (by have := HR.out.take m hrng; rw [HTI.out] at this; rw [HT.out]; exact this)).mono ?_
      rintro e w7 ⟨rfl, hb7⟩
      replace HB := Lib.hid (HB.out.tr hb7); clear hb7
      go_wp2_with fail
      go_ret
      exact ⟨rfl, HB.out⟩
    · have hok : bytesOk xs = false := by simpa using hok
      rw [scanB_no hok, scanN_no hok] at HI HSP
      clear hok
      generalize xs.length = n at *
      go_wp2_with fail
      refine (HI.out _ HR.out).mono ?_
      rintro e w2 ⟨v2, rfl, ho2, hb2⟩
      have HX := Lib.hid ho2.rd; replace HB := Lib.hid (HB.out.tr hb2); replace HR := Lib.hid (HR.out.keep hb2)
      obtain ⟨a2, c2, rfl, hc2, hm2⟩ := ho2.rd.form
      clear ho2 hb2
      go_wp2_with fail
      refine (HSP.out _ HR.out).mono ?_
      rintro e w3 ⟨v3, rfl, ho3, hb3⟩
      have HX3 := Lib.hid ho3.rd; replace HB := Lib.hid (HB.out.tr hb3); replace HR := Lib.hid (HR.out.keep hb3); replace HX := Lib.hid (HX.out.keep hb3)
      obtain ⟨a3, c3, rfl, hc3, hm3⟩ := ho3.rd.form
      clear ho3 hb3 HI HSP
      go_wp2_with fail
      refine (sameRecords_same _ _ _ _ HX.out HX3.out).mono ?_
      rintro e w4 ⟨rfl, hb4⟩
      replace HB := Lib.hid (HB.out.tr hb4); clear hb4 HX3 HX
      go_wp2_with fail
      refine (alive_any _).mono ?_
      rintro e w5 ⟨rfl, hb5⟩
      replace HB := Lib.hid (HB.out.tr hb5); clear hb5
      go_wp2_with fail
      go_ret
      exact ⟨rfl, HB.out⟩
  · have hl' : decide ((bs.length : Int) > 1048576) = true := by simp; omega
    go_enter Try.func11, Try.ntmps11
    go_wp2_with fail
    go_ret
    exact ⟨rfl, Below.refl _ _⟩
set_option maxRecDepth 100000 in
theorem FnScanFrames_lifted (os : Os) (started : os.Started) (H : Type) (enc : TypeId × Value → H) :
    ReturnsInHanded {} Try.checked os 11 .any (Rows.fnScanFramesSpec.pre6 enc Try.prog Try.f11 Rows.fnScanFramesRow.domain false) (Rows.fnScanFramesSpec.post enc Try.prog Try.f11 false true false false) := by
  refine returnsInHanded_of_change (C := Try.checked) tryOwn started (by kernel_rfl) Try.func11
    (ChangeSpec.witness6 (enc := enc) (C := Try.checked) false ⟨#[], #[.slice none 0 0], []⟩ 8 (by kernel_rfl) (by kernel_rfl) (by kernel_rfl) (by kernel_rfl)) ?_
  intro W base args ds gs before hval0 hW hcnd _
  have hval : ∀ (j : Nat) t v, Try.f11.params[j]? = some t → args[j]? = some v → Value.okWide Try.prog W .any base t v := hval0
  have hW' := hW
  obtain ⟨p, q, hA0, hV, rfl, hfz, hnd⟩ := hW
  have hA : DataW.TrodAll enc Try.prog W 0 (fun _ => true) true Try.f11.params.toList args.toList ds p := hA0
  rw [Try.params11] at hA hval
  obtain ⟨v0, vs0, d0, ds0, p0, q0, hargs, rfl, rfl, h0, r0⟩ := trodAll_cons hA
  obtain ⟨rfl, rfl, rfl⟩ := trodAll_nil r0
  obtain rfl : args = #[v0] := by cases args; simp_all
  obtain ⟨rfl, rfl⟩ := trodVars_none hV
  have k0 := h0
  have lt0 : ∀ x ∈ p0, x.block < W.heap.size := by obtain ⟨m, hm⟩ := k0; exact DataW.trod_lt m _ _ _ hm
  obtain ⟨c0, len0, cap0, rfl⟩ := okWide_slice Try.underlying22 (hval 0 22 v0 rfl rfl)
  obtain ⟨n0, x0, t0⟩ := trod_of rfl h0
  obtain ⟨xs0, w0, g0⟩ := trod_bytes Try.underlying22 Try.underlying5 (by kernel_rfl) t0
  clear hA0 hval0
  refine (FnScanFrames_walk W _ xs0 w0 g0).mono fun e W' ⟨he, bel⟩ => ?_
  subst he
  exact ⟨_, rfl, _, _, _, [], _, [], hW', trodAll_mk1 (shut_bool Try.underlying4 _), (trodAll_cons_mk (Below.trod tryLaidOut (by kernel_rfl) (of_decide_eq_true (by kernel_rfl)) k0 bel lt0) trodAll_mk0), rfl, bel.frame _, fun h => by cases h⟩

set_option maxHeartbeats 4000000 in
set_option maxRecDepth 100000 in
theorem FnScanFrames_holds : Rows.FnScanFramesSaid := by
  refine OpenClaim.holds_of_wide 11 Try.f11 rfl rfl rfl rfl rfl rfl rfl ⟨rfl, rfl, rfl, rfl, rfl⟩ rfl rfl rfl rfl rfl ?hfn Try.func11 ?closed ?hinst ?hwrap (fun os started H enc _ => FnScanFrames_lifted os started H enc)
  case hfn => as_aux_lemma => kernel_rfl
  case hinst => exact of_decide_eq_true (by as_aux_lemma => kernel_rfl)
  case hwrap => unfold Func.isWrapper; first | (rw [if_pos (by decide +kernel)]; kernel_rfl) | (rw [if_neg (by decide +kernel)]; exact ⟨rfl, rfl⟩)
  case closed =>
    simp only [joinedFacts, Bool.and_eq_true]
    repeat' apply And.intro
    all_goals first
      | with_reducible exact mayEnter_ok
      | (rewrite [liftsFinal_no]; as_aux_lemma => kernel_rfl)
      | (rewrite [make_cut]; as_aux_lemma => kernel_rfl)
      | as_aux_lemma => kernel_rfl
end Go.Proofs.Ytdflpildopefaaa
