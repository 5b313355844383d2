/-
  The program's ManyAtLeast returns what the reference's returns, for all arguments: no condition.
-/
import Derived.Test.YtgdggkhdollieaaArgs
import Derived.Test.YtgdggkhdollieaaMany
import Derived.Test.YtgdggkhdollieaaFacts
namespace Go.Proofs.Ytgdggkhdollieaa
open Go.ChangeShapes Go.WideShapes Go.ChangeAt Go.RowKit
set_option linter.unusedVariables false

set_option maxRecDepth 100000 in
set_option maxHeartbeats 4000000 in
theorem FnExactManyAtLeast_walk (w : World) (va : Value) (xs : List Int) (hv : RdIntS w va xs) (hg : WfIntS xs) :
    Calls Try.prog 11 #[va] w fun e w' => e = .returned (.bool true) ∧ Below w.heap.size w w' := by
  have HV := Lib.hid hv
  obtain ⟨a, ca, rfl, hca, hma⟩ := Rd.form hv
  clear hv hg
  by_cases hl : xs.length ≤ 1048576
  · have hl' : decide ((xs.length : Int) > 1048576) = false := by simp; omega
    have CT := Lib.hid fun wx (hb : Below w.heap.size w wx) => toIntS_any wx _ xs (HV.out.keep hb) (by omega)
    have CS := Lib.hid fun wx vx h => specManyAtLeast_any wx vx xs h hl
    have CI := Lib.hid fun wx vx h => implManyAtLeast_any wx vx xs h hl
    go_enter Try.func11, Try.ntmps11
    go_wp2_with fail
    refine (CT.out _ (Below.refl _ _)).mono ?_
    rintro e w1 ⟨v1, rfl, ho, hb⟩
    have HB := Lib.hid hb; have HO := Lib.hid ho; clear ho hb
    go_wp2_with fail
    refine (CS.out _ _ HO.out.rd).mono ?_
    rintro e w2 ⟨⟨n, rfl, hn⟩, hb⟩
    have HN := Lib.hid hn
    replace HB := Lib.hid (HB.out.tr hb); clear hb hn CS HO
    go_wp2_with fail
    refine (CT.out _ HB.out).mono ?_
    rintro e w3 ⟨v1, rfl, ho, hb⟩
    obtain ⟨a3, c3, rfl, -, -⟩ := Rd.form ho.rd
    have HO := Lib.hid ho
    replace HB := Lib.hid (HB.out.tr hb); clear hb ho
    go_wp2_with fail
    refine (CI.out _ _ HO.out.rd).mono ?_
    rintro e w4 ⟨⟨n', rfl, hn⟩, hb⟩
    obtain rfl := hn.unique HN.out
    replace HB := Lib.hid (HB.out.tr hb); replace HO := Lib.hid (HO.out.keep hb); clear hb hn HN CI
    go_wp2_with fail
    refine (CT.out _ HB.out).mono ?_
    rintro e w5 ⟨v5, rfl, ho, hb⟩
    have HO5 := Lib.hid ho
    replace HB := Lib.hid (HB.out.tr hb); replace HO := Lib.hid (HO.out.keep hb); clear hb ho
    go_wp2_with fail
    refine (eqIntS_same _ _ _ xs HO.out.rd HO5.out.rd).mono ?_
    rintro e w6 ⟨rfl, hb⟩
    replace HB := Lib.hid (HB.out.tr hb); clear hb
    go_wp2_with fail
    go_ret
    exact ⟨rfl, HB.out⟩
  · have hl' : decide ((xs.length : Int) > 1048576) = true := by simp; omega
    go_enter Try.func11, Try.ntmps11
    go_wp2_with fail
    go_ret
    exact ⟨rfl, Below.refl _ _⟩
set_option maxRecDepth 100000 in
theorem FnExactManyAtLeast_lifted (os : Os) (started : os.Started) (H : Type) (enc : TypeId × Value → H) :
    ReturnsInHanded {} Try.checked os 11 .any (Rows.fnExactManyAtLeastSpec.pre6 enc Try.prog Try.f11 Rows.fnExactManyAtLeastRow.domain false) (Rows.fnExactManyAtLeastSpec.post enc Try.prog Try.f11 false true false false) := by
  refine returnsInHanded_of_change (C := Try.checked) tryOwn started (by kernel_rfl) Try.func11
    (ChangeSpec.witness6 (enc := enc) (C := Try.checked) false ⟨#[], #[.slice none 0 0], []⟩ 8 (by kernel_rfl) (by kernel_rfl) (by kernel_rfl) (by kernel_rfl)) ?_
  intro W base args ds gs before hval0 hW hcnd _
  have hval : ∀ (j : Nat) t v, Try.f11.params[j]? = some t → args[j]? = some v → Value.okWide Try.prog W .any base t v := hval0
  have hW' := hW
  obtain ⟨p, q, hA0, hV, rfl, hfz, hnd⟩ := hW
  have hA : DataW.TrodAll enc Try.prog W 0 (fun _ => true) true Try.f11.params.toList args.toList ds p := hA0
  rw [Try.params11] at hA hval
  obtain ⟨v0, vs0, d0, ds0, p0, q0, hargs, rfl, rfl, h0, r0⟩ := trodAll_cons hA
  obtain ⟨rfl, rfl, rfl⟩ := trodAll_nil r0
  obtain rfl : args = #[v0] := by cases args; simp_all
  obtain ⟨rfl, rfl⟩ := trodVars_none hV
  have k0 := h0
  have lt0 : ∀ x ∈ p0, x.block < W.heap.size := by obtain ⟨m, hm⟩ := k0; exact DataW.trod_lt m _ _ _ hm
  obtain ⟨c0, len0, cap0, rfl⟩ := okWide_slice Try.underlying23 (hval 0 23 v0 rfl rfl)
  obtain ⟨n0, x0, t0⟩ := trod_of rfl h0
  obtain ⟨xs0, w0, g0⟩ := trod_ints Try.underlying23 Try.underlying3 (by kernel_rfl) t0
  clear hA0 hval0
  refine (FnExactManyAtLeast_walk W _ xs0 w0 g0).mono fun e W' ⟨he, bel⟩ => ?_
  subst he
  exact ⟨_, rfl, _, _, _, [], _, [], hW', trodAll_mk1 (shut_bool Try.underlying4 _), (trodAll_cons_mk (Below.trod tryLaidOut (by kernel_rfl) (of_decide_eq_true (by kernel_rfl)) k0 bel lt0) trodAll_mk0), rfl, bel.frame _, fun h => by cases h⟩

set_option maxHeartbeats 4000000 in
set_option maxRecDepth 100000 in
theorem FnExactManyAtLeast_holds : Rows.FnExactManyAtLeastSaid := by
  refine OpenClaim.holds_of_wide 11 Try.f11 rfl rfl rfl rfl rfl rfl rfl ⟨rfl, rfl, rfl, rfl, rfl⟩ rfl rfl rfl rfl rfl ?hfn Try.func11 ?closed ?hinst ?hwrap (fun os started H enc _ => FnExactManyAtLeast_lifted os started H enc)
  case hfn => as_aux_lemma => kernel_rfl
  case hinst => exact of_decide_eq_true (by as_aux_lemma => kernel_rfl)
  case hwrap => unfold Func.isWrapper; first | (rw [if_pos (by decide +kernel)]; kernel_rfl) | (rw [if_neg (by decide +kernel)]; exact ⟨rfl, rfl⟩)
  case closed =>
    simp only [joinedFacts, Bool.and_eq_true]
    repeat' apply And.intro
    all_goals first
      | with_reducible exact mayEnter_ok
      | (rewrite [liftsFinal_no]; as_aux_lemma => kernel_rfl)
      | (rewrite [make_cut]; as_aux_lemma => kernel_rfl)
      | as_aux_lemma => kernel_rfl
end Go.Proofs.Ytgdggkhdollieaa
