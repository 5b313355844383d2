/-
  Framed records can be read; there are two bytes more: for every code: no condition.
-/
import Derived.Test.YtafcgmolpmphcaaArgs
import Derived.Test.YtafcgmolpmphcaaDrawG
import Derived.Test.YtafcgmolpmphcaaReadF
import Derived.Test.YtafcgmolpmphcaaScanP
import Derived.Test.YtafcgmolpmphcaaSame
import Derived.Test.YtafcgmolpmphcaaFacts
namespace Go.Proofs.Ytafcgmolpmphcaa
open Go.ChangeShapes Go.WideShapes Go.ChangeAt Go.RowKit
set_option linter.unusedVariables false

theorem bytesOk_frame {b : List Int} (h : bodyOk b = true) : bytesOk (frameOf b) = true := by
  have hl := frameOf_length b
  have hb := frameOf_bytes b
  simp only [bytesOk, Bool.and_eq_true, List.all_eq_true, decide_eq_true_eq]
  exact ⟨by omega, fun x hx => by have := hb x hx; simp [byteB]; exact this⟩
theorem readF_frame {b : List Int} (h : bodyOk b = true) : readF (frameOf b) 0 = some (b, (frameOf b).length) := by
  have h1 := frameAt_mid h [] []
  have h2 := readF_at (p := 0) (bytesOk_frame h)
  simp only [List.nil_append, List.append_nil, List.length_nil, Nat.zero_add] at h1
  rw [show ((0 : Nat) : Int) = 0 from rfl] at h2
  rw [h2, h1]

set_option maxRecDepth 100000 in
set_option maxHeartbeats 4000000 in
theorem FnFrameOf_walk (w : World) (va : Value) (bs : List Int) (hv : Rd w 1 va bs.length (bys bs)) (hx : ∀ x ∈ bs, 0 ≤ x ∧ x ≤ 255) :
    Calls Try.prog 4 #[va] w fun e w' => e = .returned (.bool true) ∧ Below w.heap.size w w' := by
  have HDR := Lib.hid (DrawFrameOf_any w va bs hv hx)
  obtain ⟨hlb, av, acap, rfl, hcap, hmc, hcell⟩ := hv
  clear hlb hcap hmc hcell hx
  by_cases hl : bs.length ≤ 1048576
  · have hl' : decide ((bs.length : Int) > 1048576) = false := by simp; omega
    go_enter Try.func4, Try.ntmps4
    go_wp2_with fail
    refine HDR.out.mono ?_
    rintro e w1 ⟨v, xs, rfl, hr, hlen, hb1⟩
    have HB := Lib.hid hb1; have HR := Lib.hid hr
    obtain ⟨a, ca, rfl, hca, hma⟩ := hr.form
    clear hb1 HDR hl hl' hr
    have HI := Lib.hid fun wx h => implFrameOf_any wx (.slice a xs.length ca) xs h (by omega)
    have HSP := Lib.hid fun wx h => specFrameOf_any wx (.slice a xs.length ca) xs h (by omega)
    have hfl := frameOf_length xs
    by_cases hok : bodyOk xs = true
    · have HF : Hid ((frameOf xs).length = xs.length + 2) := Lib.hid (frameOf_len hok)
      have HRF := Lib.hid (readF_frame hok)
      have HZ : Hid (0 < (frameOf xs).length) := Lib.hid (by rw [HF.out]; omega)
      have HRD := Lib.hid fun wx vx (h : Rd wx 1 vx (frameOf xs).length (ints (frameOf xs))) => implReadFrame_any wx vx (frameOf xs) 0 h (by omega) ⟨by omega, by omega⟩
      rw [HRF.out] at HRD
      clear HRF hok
      generalize frameOf xs = fs at *
      go_wp2_with fail
      refine (HI.out _ HR.out).mono ?_
      rintro e w2 ⟨v2, rfl, ho2, hb2⟩
      have HO := Lib.hid ho2.rd; replace HB := Lib.hid (HB.out.tr hb2); replace HR := Lib.hid (HR.out.keep hb2); clear ho2 hb2
      obtain ⟨a2, c2, rfl, hc2, hm2⟩ := HO.out.form
      go_wp2_with fail
      refine (HSP.out _ HR.out).mono ?_
      rintro e w3 ⟨v3, rfl, ho3, hb3⟩
      have HO3 := Lib.hid ho3.rd; replace HB := Lib.hid (HB.out.tr hb3); replace HO := Lib.hid (HO.out.keep hb3); replace HR := Lib.hid (HR.out.keep hb3); clear ho3 hb3 HI HSP
      go_wp2_with fail
      refine (sameInts_same _ _ _ _ HO.out HO3.out).mono ?_
      rintro e w4 ⟨rfl, hb4⟩
      replace HB := Lib.hid (HB.out.tr hb4); replace HO := Lib.hid (HO.out.keep hb4); replace HR := Lib.hid (HR.out.keep hb4); clear hb4 HO3
      have hz0 : ((fs.length : Int) == 0) = false := by have := HZ.out; simp; intro h; rw [h] at this; simp at this
      go_wp2_with fail
      refine (HRD.out _ _ HO.out).mono ?_
      rintro e w5 ⟨v5, rfl, ho5, hb5⟩
      have HO5 := Lib.hid ho5.rd; replace HB := Lib.hid (HB.out.tr hb5); replace HR := Lib.hid (HR.out.keep hb5); clear ho5 hb5 HRD
      have e1 : rfBody (some (xs, fs.length)) = xs := rfl
      have e2 : rfNext (some (xs, fs.length)) = (fs.length : Int) := rfl
      rw [e1] at HO5
      simp only [e2, Option.isSome_some]
      clear e1 e2
      generalize hfn : fs.length = fl at *
      have hF := HF.out
      clear HF HZ hfn
      generalize hxn : xs.length = n at *
      have HXN := Lib.hid hxn; clear hxn
      subst hF
      go_wp2_with fail
      refine (sameInts_same _ _ _ xs (by rw [HXN.out]; exact HO5.out) (by rw [HXN.out]; exact HR.out)).mono ?_
      rintro e w6 ⟨rfl, hb6⟩
      replace HB := Lib.hid (HB.out.tr hb6); clear hb6
      go_wp2_with fail
      go_ret
      exact ⟨rfl, HB.out⟩
    · have hok : bodyOk xs = false := by simpa using hok
      have hfe := frameOf_no hok
      rw [hfe] at HI HSP
      clear hfe hok hfl
      go_wp2_with fail
      refine (HI.out _ HR.out).mono ?_
      rintro e w2 ⟨v2, rfl, ho2, hb2⟩
      have HO := Lib.hid ho2.rd; replace HB := Lib.hid (HB.out.tr hb2); replace HR := Lib.hid (HR.out.keep hb2); clear ho2 hb2
      obtain ⟨a2, c2, rfl, hc2, hm2⟩ := HO.out.form
      go_wp2_with fail
      refine (HSP.out _ HR.out).mono ?_
      rintro e w3 ⟨v3, rfl, ho3, hb3⟩
      have HO3 := Lib.hid ho3.rd; replace HB := Lib.hid (HB.out.tr hb3); replace HO := Lib.hid (HO.out.keep hb3); clear ho3 hb3 HI HSP HR
      go_wp2_with fail
      refine (sameInts_same _ _ _ _ HO.out HO3.out).mono ?_
      rintro e w4 ⟨rfl, hb4⟩
      replace HB := Lib.hid (HB.out.tr hb4); clear hb4 HO3 HO
      go_wp2_with fail
      refine (alive_any _).mono ?_
      rintro e w5 ⟨rfl, hb5⟩
      replace HB := Lib.hid (HB.out.tr hb5); clear hb5
      go_wp2_with fail
      go_ret
      exact ⟨rfl, HB.out⟩
  · have hl' : decide ((bs.length : Int) > 1048576) = true := by simp; omega
    go_enter Try.func4, Try.ntmps4
    go_wp2_with fail
    go_ret
    exact ⟨rfl, Below.refl _ _⟩
set_option maxRecDepth 100000 in
theorem FnFrameOf_lifted (os : Os) (started : os.Started) (H : Type) (enc : TypeId × Value → H) :
    ReturnsInHanded {} Try.checked os 4 .any (Rows.fnFrameOfSpec.pre6 enc Try.prog Try.f4 Rows.fnFrameOfRow.domain false) (Rows.fnFrameOfSpec.post enc Try.prog Try.f4 false true false false) := by
  refine returnsInHanded_of_change (C := Try.checked) tryOwn started (by kernel_rfl) Try.func4
    (ChangeSpec.witness6 (enc := enc) (C := Try.checked) false ⟨#[], #[.slice none 0 0], []⟩ 8 (by kernel_rfl) (by kernel_rfl) (by kernel_rfl) (by kernel_rfl)) ?_
  intro W base args ds gs before hval0 hW hcnd _
  have hval : ∀ (j : Nat) t v, Try.f4.params[j]? = some t → args[j]? = some v → Value.okWide Try.prog W .any base t v := hval0
  have hW' := hW
  obtain ⟨p, q, hA0, hV, rfl, hfz, hnd⟩ := hW
  have hA : DataW.TrodAll enc Try.prog W 0 (fun _ => true) true Try.f4.params.toList args.toList ds p := hA0
  rw [Try.params4] at hA hval
  obtain ⟨v0, vs0, d0, ds0, p0, q0, hargs, rfl, rfl, h0, r0⟩ := trodAll_cons hA
  obtain ⟨rfl, rfl, rfl⟩ := trodAll_nil r0
  obtain rfl : args = #[v0] := by cases args; simp_all
  obtain ⟨rfl, rfl⟩ := trodVars_none hV
  have k0 := h0
  have lt0 : ∀ x ∈ p0, x.block < W.heap.size := by obtain ⟨m, hm⟩ := k0; exact DataW.trod_lt m _ _ _ hm
  obtain ⟨c0, len0, cap0, rfl⟩ := okWide_slice Try.underlying22 (hval 0 22 v0 rfl rfl)
  obtain ⟨n0, x0, t0⟩ := trod_of rfl h0
  obtain ⟨xs0, w0, g0⟩ := trod_bytes Try.underlying22 Try.underlying5 (by kernel_rfl) t0
  clear hA0 hval0
  refine (FnFrameOf_walk W _ xs0 w0 g0).mono fun e W' ⟨he, bel⟩ => ?_
  subst he
  exact ⟨_, rfl, _, _, _, [], _, [], hW', trodAll_mk1 (shut_bool Try.underlying4 _), (trodAll_cons_mk (Below.trod tryLaidOut (by kernel_rfl) (of_decide_eq_true (by kernel_rfl)) k0 bel lt0) trodAll_mk0), rfl, bel.frame _, fun h => by cases h⟩

set_option maxHeartbeats 4000000 in
set_option maxRecDepth 100000 in
theorem FnFrameOf_holds : Rows.FnFrameOfSaid := by
  refine OpenClaim.holds_of_wide 4 Try.f4 rfl rfl rfl rfl rfl rfl rfl ⟨rfl, rfl, rfl, rfl, rfl⟩ rfl rfl rfl rfl rfl ?hfn Try.func4 ?closed ?hinst ?hwrap (fun os started H enc _ => FnFrameOf_lifted os started H enc)
  case hfn => as_aux_lemma => kernel_rfl
  case hinst => exact of_decide_eq_true (by as_aux_lemma => kernel_rfl)
  case hwrap => unfold Func.isWrapper; first | (rw [if_pos (by decide +kernel)]; kernel_rfl) | (rw [if_neg (by decide +kernel)]; exact ⟨rfl, rfl⟩)
  case closed =>
    simp only [joinedFacts, Bool.and_eq_true]
    repeat' apply And.intro
    all_goals first
      | with_reducible exact mayEnter_ok
      | (rewrite [liftsFinal_no]; as_aux_lemma => kernel_rfl)
      | (rewrite [make_cut]; as_aux_lemma => kernel_rfl)
      | as_aux_lemma => kernel_rfl
end Go.Proofs.Ytafcgmolpmphcaa
