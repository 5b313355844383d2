/-
  Joined frames are scanned: ScanFrames returns the records, and takes all bytes: for every code: no condition.
-/
import Derived.Test.YtdflpildopefaaaArgs
import Derived.Test.YtdflpildopefaaaDrawJ
import Derived.Test.YtdflpildopefaaaScanI
import Derived.Test.YtdflpildopefaaaJoin
import Derived.Test.YtdflpildopefaaaRowS
import Derived.Test.YtdflpildopefaaaFacts
namespace Go.Proofs.Ytdflpildopefaaa
open Go.ChangeShapes Go.WideShapes Go.ChangeAt Go.RowKit
set_option linter.unusedVariables false

theorem join_bytes {bs : List (List Int)} (h : joinOk bs = true) : bytesOk (joinL bs) = true := by
  simp only [joinOk, Bool.and_eq_true, decide_eq_true_eq] at h
  simp only [bytesOk, Bool.and_eq_true, List.all_eq_true, decide_eq_true_eq]
  refine ⟨h.2, fun x hx => ?_⟩
  obtain ⟨b, _, hb⟩ := List.mem_flatMap.1 hx
  have := frameOf_bytes b x hb
  simpa [byteB] using this
theorem join_scanB {bs : List (List Int)} (h : joinOk bs = true) : scanB (joinL bs) = bs ∧ scanN (joinL bs) = ((joinL bs).length : Int) := by
  have hb := join_bytes h
  have hs : ∀ b ∈ bs, bodyOk b = true := by simp only [joinOk, Bool.and_eq_true, List.all_eq_true] at h; exact h.1
  rw [scanB_yes hb, scanN_yes hb, scan_join bs hs]
  exact ⟨rfl, rfl⟩

set_option maxRecDepth 100000 in
set_option maxHeartbeats 4000000 in
theorem FnJoinFrames_walk (w : World) (va : Value) (bs : List Int) (hv : Rd w 1 va bs.length (bys bs)) (hx : ∀ x ∈ bs, 0 ≤ x ∧ x ≤ 255) :
    Calls Try.prog 9 #[va] w fun e w' => e = .returned (.bool true) ∧ Below w.heap.size w w' := by
  have HDR := Lib.hid (DrawJoinFrames_any w va bs hv hx)
  obtain ⟨hlb, av, acap, rfl, hcap, hmc, hcell⟩ := hv
  clear hlb hcap hmc hcell hx
  by_cases hl : bs.length ≤ 1048576
  · have hl' : decide ((bs.length : Int) > 1048576) = false := by simp; omega
    go_enter Try.func9, Try.ntmps9
    go_wp2_with fail
    refine HDR.out.mono ?_
    rintro e w1 ⟨v, xss, rfl, hr, hf, hb1⟩
    have HB := Lib.hid hb1; have HR := Lib.hid hr
    obtain ⟨a, ca, rfl, hca, hma⟩ := hr.form
    clear hb1 HDR hl hl' hr
    have HI := Lib.hid fun wx h => implJoinFrames_any wx (.slice a xss.length ca) xss h hf.each
    have HSP := Lib.hid fun wx h => specJoinFrames_any wx (.slice a xss.length ca) xss h hf.each
    unfold RetJ at HI HSP
    have hjl := joinB_length xss
    clear hf
    by_cases hok : joinOk xss = true
    · have HSC := Lib.hid (join_scanB hok)
      rw [joinB_yes hok, hok] at HI HSP
      rw [joinB_yes hok] at hjl
      clear hok
      have HS := Lib.hid fun wx vx h => implScanFrames_any wx vx (joinL xss) h (by omega)
      unfold RetS at HS
      rw [HSC.out.1, HSC.out.2] at HS
      clear HSC
      generalize joinL xss = js at *
      generalize hjn : js.length = jn at *
      have HJN := Lib.hid hjn; clear hjn
      generalize hxn : xss.length = n at *
      have HXN := Lib.hid hxn; clear hxn
      go_wp2_with fail
      refine (HI.out _ HR.out).mono ?_
      rintro e w2 ⟨v2, rfl, ho2, hb2⟩
      have ho2 := ho2.rd
      rw [HJN.out] at ho2
      have HX := Lib.hid ho2; replace HB := Lib.hid (HB.out.tr hb2); replace HR := Lib.hid (HR.out.keep hb2)
      obtain ⟨a2, c2, rfl, hc2, hm2⟩ := ho2.form
      clear ho2 hb2
      go_wp2_with fail
      refine (HSP.out _ HR.out).mono ?_
      rintro e w3 ⟨v3, rfl, ho3, hb3⟩
      have ho3 := ho3.rd
      rw [HJN.out] at ho3
      have HX3 := Lib.hid ho3; replace HB := Lib.hid (HB.out.tr hb3); replace HR := Lib.hid (HR.out.keep hb3); replace HX := Lib.hid (HX.out.keep hb3)
      obtain ⟨a3, c3, rfl, hc3, hm3⟩ := ho3.form
      clear ho3 hb3 HI HSP
      go_wp2_with fail
      refine (sameInts_same _ _ _ js (by rw [HJN.out]; exact HX.out) (by rw [HJN.out]; exact HX3.out)).mono ?_
      rintro e w4 ⟨rfl, hb4⟩
      replace HB := Lib.hid (HB.out.tr hb4); replace HR := Lib.hid (HR.out.keep hb4); replace HX := Lib.hid (HX.out.keep hb4); clear hb4 HX3
      go_wp2_with fail
      refine (HS.out _ _ HX.out).mono ?_
      rintro e w5 ⟨v5, rfl, ho5, hb5⟩
      have ho5 := ho5.rd
      have HO5 := Lib.hid ho5; replace HB := Lib.hid (HB.out.tr hb5); replace HR := Lib.hid (HR.out.keep hb5)
      obtain ⟨a5, c5, ev5, hc5, hm5⟩ := ho5.form
      rw [HXN.out] at ev5
      subst ev5
      clear ho5 hb5 HS HX
      go_wp2_with fail
      refine (sameRecords_same _ _ _ xss HO5.out HR.out).mono ?_
      rintro e w7 ⟨rfl, hb7⟩
      replace HB := Lib.hid (HB.out.tr hb7); clear hb7
      go_wp2_with fail
      go_ret
      exact ⟨rfl, HB.out⟩
    · have hok : joinOk xss = false := by simpa using hok
      rw [joinB_no hok, hok] at HI HSP
      clear hok
      go_wp2_with fail
      refine (HI.out _ HR.out).mono ?_
      rintro e w2 ⟨v2, rfl, ho2, hb2⟩
      have HX := Lib.hid ho2.rd; replace HB := Lib.hid (HB.out.tr hb2); replace HR := Lib.hid (HR.out.keep hb2)
      obtain ⟨a2, c2, rfl, hc2, hm2⟩ := ho2.rd.form
      clear ho2 hb2
      go_wp2_with fail
      refine (HSP.out _ HR.out).mono ?_
      rintro e w3 ⟨v3, rfl, ho3, hb3⟩
      have HX3 := Lib.hid ho3.rd; replace HB := Lib.hid (HB.out.tr hb3); replace HX := Lib.hid (HX.out.keep hb3)
      obtain ⟨a3, c3, rfl, hc3, hm3⟩ := ho3.rd.form
      clear ho3 hb3 HI HSP HR
      go_wp2_with fail
      refine (sameInts_same _ _ _ _ HX.out HX3.out).mono ?_
      rintro e w4 ⟨rfl, hb4⟩
      replace HB := Lib.hid (HB.out.tr hb4); clear hb4 HX3 HX
      go_wp2_with fail
      refine (alive_any _).mono ?_
      rintro e w5 ⟨rfl, hb5⟩
      replace HB := Lib.hid (HB.out.tr hb5); clear hb5
      go_wp2_with fail
      go_ret
      exact ⟨rfl, HB.out⟩
  · have hl' : decide ((bs.length : Int) > 1048576) = true := by simp; omega
    go_enter Try.func9, Try.ntmps9
    go_wp2_with fail
    go_ret
    exact ⟨rfl, Below.refl _ _⟩
set_option maxRecDepth 100000 in
theorem FnJoinFrames_lifted (os : Os) (started : os.Started) (H : Type) (enc : TypeId × Value → H) :
    ReturnsInHanded {} Try.checked os 9 .any (Rows.fnJoinFramesSpec.pre6 enc Try.prog Try.f9 Rows.fnJoinFramesRow.domain false) (Rows.fnJoinFramesSpec.post enc Try.prog Try.f9 false true false false) := by
  refine returnsInHanded_of_change (C := Try.checked) tryOwn started (by kernel_rfl) Try.func9
    (ChangeSpec.witness6 (enc := enc) (C := Try.checked) false ⟨#[], #[.slice none 0 0], []⟩ 8 (by kernel_rfl) (by kernel_rfl) (by kernel_rfl) (by kernel_rfl)) ?_
  intro W base args ds gs before hval0 hW hcnd _
  have hval : ∀ (j : Nat) t v, Try.f9.params[j]? = some t → args[j]? = some v → Value.okWide Try.prog W .any base t v := hval0
  have hW' := hW
  obtain ⟨p, q, hA0, hV, rfl, hfz, hnd⟩ := hW
  have hA : DataW.TrodAll enc Try.prog W 0 (fun _ => true) true Try.f9.params.toList args.toList ds p := hA0
  rw [Try.params9] at hA hval
  obtain ⟨v0, vs0, d0, ds0, p0, q0, hargs, rfl, rfl, h0, r0⟩ := trodAll_cons hA
  obtain ⟨rfl, rfl, rfl⟩ := trodAll_nil r0
  obtain rfl : args = #[v0] := by cases args; simp_all
  obtain ⟨rfl, rfl⟩ := trodVars_none hV
  have k0 := h0
  have lt0 : ∀ x ∈ p0, x.block < W.heap.size := by obtain ⟨m, hm⟩ := k0; exact DataW.trod_lt m _ _ _ hm
  obtain ⟨c0, len0, cap0, rfl⟩ := okWide_slice Try.underlying22 (hval 0 22 v0 rfl rfl)
  obtain ⟨n0, x0, t0⟩ := trod_of rfl h0
  obtain ⟨xs0, w0, g0⟩ := trod_bytes Try.underlying22 Try.underlying5 (by kernel_rfl) t0
  clear hA0 hval0
  refine (FnJoinFrames_walk W _ xs0 w0 g0).mono fun e W' ⟨he, bel⟩ => ?_
  subst he
  exact ⟨_, rfl, _, _, _, [], _, [], hW', trodAll_mk1 (shut_bool Try.underlying4 _), (trodAll_cons_mk (Below.trod tryLaidOut (by kernel_rfl) (of_decide_eq_true (by kernel_rfl)) k0 bel lt0) trodAll_mk0), rfl, bel.frame _, fun h => by cases h⟩

set_option maxHeartbeats 4000000 in
set_option maxRecDepth 100000 in
theorem FnJoinFrames_holds : Rows.FnJoinFramesSaid := by
  refine OpenClaim.holds_of_wide 9 Try.f9 rfl rfl rfl rfl rfl rfl rfl ⟨rfl, rfl, rfl, rfl, rfl⟩ rfl rfl rfl rfl rfl ?hfn Try.func9 ?closed ?hinst ?hwrap (fun os started H enc _ => FnJoinFrames_lifted os started H enc)
  case hfn => as_aux_lemma => kernel_rfl
  case hinst => exact of_decide_eq_true (by as_aux_lemma => kernel_rfl)
  case hwrap => unfold Func.isWrapper; first | (rw [if_pos (by decide +kernel)]; kernel_rfl) | (rw [if_neg (by decide +kernel)]; exact ⟨rfl, rfl⟩)
  case closed =>
    simp only [joinedFacts, Bool.and_eq_true]
    repeat' apply And.intro
    all_goals first
      | with_reducible exact mayEnter_ok
      | (rewrite [liftsFinal_no]; as_aux_lemma => kernel_rfl)
      | (rewrite [make_cut]; as_aux_lemma => kernel_rfl)
      | as_aux_lemma => kernel_rfl
end Go.Proofs.Ytdflpildopefaaa
