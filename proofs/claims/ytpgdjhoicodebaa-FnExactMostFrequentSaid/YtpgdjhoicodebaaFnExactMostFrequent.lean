/-
  The program's MostFrequent returns what the reference's returns, for all arguments: no condition.
-/
import Derived.Test.YtpgdjhoicodebaaArgs
import Derived.Test.YtpgdjhoicodebaaFreq
namespace Go.Proofs.Ytpgdjhoicodebaa
open Go.ChangeShapes Go.WideShapes Go.ChangeAt Go.RowKit
set_option linter.unusedVariables false

set_option maxRecDepth 100000 in
set_option maxHeartbeats 4000000 in
theorem FnExactMostFrequent_walk (w : World) (va0 : Value) (xs : List Int) (hv0 : RdIntS w va0 xs) (hg0 : WfIntS xs) :
    Calls Try.prog 7 #[va0] w fun e w' => e = .returned (.bool true) ∧ Below w.heap.size w w' := by
  have HV0 := Lib.hid hv0; have HG0 := Lib.hid hg0; clear hv0 hg0
  obtain ⟨av, ac, eav, hca, hma, Ha⟩ := Rd.int HV0.out
  subst eav
  clear Ha
  generalize hn : xs.length = n at *
  have HN := Lib.hid hn; clear hn
  by_cases hl : n ≤ 1048576
  · skip
    have hl' : decide ((n : Int) > 1048576) = false := by simp; omega
    have HS0 : Hid (xs.length ≤ 1048576) := Lib.hid (by rw [HN.out]; exact hl)
    generalize hr0 : (mostFreq xs) = D0
    have HR0 := Lib.hid hr0; clear hr0
    go_enter Try.func7, Try.ntmps7
    go_wp2_with fail
    have c1 := toIntS_any w _ xs HV0.out (by have := HS0.out; omega)
    refine c1.mono ?_
    clear c1
    rintro e w1 ⟨s0, rfl, ho1, hb1⟩
    have HC1 : Hid (Below w.heap.size w w1) := Lib.hid hb1; clear hb1
    have HB1 : Hid (Below w.heap.size w w1) := Lib.hid (HC1.out)
    have hsz1 := HC1.out.size
    have HO1 := Lib.hid ho1; clear ho1
    go_wp2_with fail
    have c2 := specMostFrequent_any w1 _ xs HO1.out.rd (by have := HS0.out; omega)
    rw [HR0.out] at c2
    refine c2.mono ?_
    clear c2
    rintro e w2 ⟨rfl, hb2⟩
    have HC2 : Hid (Below w1.heap.size w1 w2) := Lib.hid hb2; clear hb2
    have HB2 : Hid (Below w.heap.size w w2) := Lib.hid (HB1.out.tr HC2.out)
    have hsz2 := HC2.out.size
    have HO1a := Lib.hid (HO1.out.keep HC2.out); clear HO1; have HO1 := Lib.hid HO1a.out; clear HO1a
    go_wp2_with fail
    have c3 := toIntS_any w2 _ xs (HV0.out.keep HB2.out) (by have := HS0.out; omega)
    refine c3.mono ?_
    clear c3
    rintro e w3 ⟨xv0, rfl, ho3, hb3⟩
    have HC3 : Hid (Below w2.heap.size w2 w3) := Lib.hid hb3; clear hb3
    have HB3 : Hid (Below w.heap.size w w3) := Lib.hid (HB2.out.tr HC3.out)
    have hsz3 := HC3.out.size
    have HO3 := Lib.hid ho3; clear ho3
    go_wp2_with fail
    have c4 := implMostFrequent_any w3 _ xs HO3.out.rd (by have := HS0.out; omega) HG0.out
    rw [HR0.out] at c4
    refine c4.mono ?_
    clear c4
    rintro e w4 ⟨rfl, hb4⟩
    have HC4 : Hid (Below w3.heap.size w3 w4) := Lib.hid hb4; clear hb4
    have HB4 : Hid (Below w.heap.size w w4) := Lib.hid (HB3.out.tr HC4.out)
    have hsz4 := HC4.out.size
    have HO3a := Lib.hid (HO3.out.keep HC4.out); clear HO3; have HO3 := Lib.hid HO3a.out; clear HO3a
    go_wp2_with fail
    have c5 := toIntS_any w4 _ xs (HV0.out.keep HB4.out) (by have := HS0.out; omega)
    refine c5.mono ?_
    clear c5
    rintro e w5 ⟨cv0, rfl, ho5, hb5⟩
    have HC5 : Hid (Below w4.heap.size w4 w5) := Lib.hid hb5; clear hb5
    have HB5 : Hid (Below w.heap.size w w5) := Lib.hid (HB4.out.tr HC5.out)
    have hsz5 := HC5.out.size
    have HO3a := Lib.hid (HO3.out.keep HC5.out); clear HO3; have HO3 := Lib.hid HO3a.out; clear HO3a
    have HO5 := Lib.hid ho5; clear ho5
    go_wp2_with fail
    have c6 := eqIntS_same w5 _ _ xs HO3.out.rd HO5.out.rd
    refine c6.mono ?_
    clear c6
    rintro e w6 ⟨rfl, hb6⟩
    have HC6 : Hid (Below w5.heap.size w5 w6) := Lib.hid hb6; clear hb6
    have HB6 : Hid (Below w.heap.size w w6) := Lib.hid (HB5.out.tr HC6.out)
    have hsz6 := HC6.out.size
    have HO3a := Lib.hid (HO3.out.keep HC6.out); clear HO3; have HO3 := Lib.hid HO3a.out; clear HO3a
    have HO5a := Lib.hid (HO5.out.keep HC6.out); clear HO5; have HO5 := Lib.hid HO5a.out; clear HO5a
    go_wp2_with fail
    go_ret
    exact ⟨rfl, HB6.out⟩
  · have hl' : decide ((n : Int) > 1048576) = true := by simp; omega
    go_enter Try.func7, Try.ntmps7
    go_wp2_with fail
    go_ret
    exact ⟨rfl, Below.refl _ _⟩
set_option maxRecDepth 100000 in
theorem FnExactMostFrequent_lifted (os : Os) (started : os.Started) (H : Type) (enc : TypeId × Value → H) :
    ReturnsInHanded {} Try.checked os 7 .any (Rows.fnExactMostFrequentSpec.pre6 enc Try.prog Try.f7 Rows.fnExactMostFrequentRow.domain false) (Rows.fnExactMostFrequentSpec.post enc Try.prog Try.f7 false true false false) := by
  refine returnsInHanded_of_change (C := Try.checked) tryOwn started (by kernel_rfl) Try.func7
    (ChangeSpec.witness6 (enc := enc) (C := Try.checked) false ⟨#[], #[.slice none 0 0], []⟩ 8 (by kernel_rfl) (by kernel_rfl) (by kernel_rfl) (by kernel_rfl)) ?_
  intro W base args ds gs before hval0 hW hcnd _
  have hval : ∀ (j : Nat) t v, Try.f7.params[j]? = some t → args[j]? = some v → Value.okWide Try.prog W .any base t v := hval0
  have hW' := hW
  obtain ⟨p, q, hA0, hV, rfl, hfz, hnd⟩ := hW
  have hA : DataW.TrodAll enc Try.prog W 0 (fun _ => true) true Try.f7.params.toList args.toList ds p := hA0
  rw [Try.params7] at hA hval
  obtain ⟨v0, vs0, d0, ds0, p0, q0, hargs, rfl, rfl, h0, r0⟩ := trodAll_cons hA
  obtain ⟨rfl, rfl, rfl⟩ := trodAll_nil r0
  obtain rfl : args = #[v0] := by cases args; simp_all
  obtain ⟨rfl, rfl⟩ := trodVars_none hV
  have k0 := h0
  have lt0 : ∀ x ∈ p0, x.block < W.heap.size := by obtain ⟨m, hm⟩ := k0; exact DataW.trod_lt m _ _ _ hm
  obtain ⟨c0, len0, cap0, rfl⟩ := okWide_slice Try.underlying31 (hval 0 31 v0 rfl rfl)
  obtain ⟨n0, x0, t0⟩ := trod_of rfl h0
  obtain ⟨xs0, w0, g0⟩ := trod_ints Try.underlying31 Try.underlying3 (by kernel_rfl) t0
  clear hA0 hval0
  refine (FnExactMostFrequent_walk W _ xs0 w0 g0).mono fun e W' ⟨he, bel⟩ => ?_
  subst he
  exact ⟨_, rfl, _, _, _, [], _, [], hW', trodAll_mk1 (shut_bool Try.underlying4 _), (trodAll_cons_mk (Below.trod tryLaidOut (by kernel_rfl) (of_decide_eq_true (by kernel_rfl)) k0 bel lt0) trodAll_mk0), rfl, bel.frame _, fun h => by cases h⟩

theorem FnExactMostFrequent_holds : Rows.FnExactMostFrequentSaid :=
  OpenClaim.holds_of_wide 7 Try.f7 rfl rfl rfl rfl rfl rfl rfl ⟨rfl, rfl, rfl, rfl, rfl⟩ rfl rfl rfl rfl rfl (by kernel_rfl) Try.func7 (by kernel_rfl)
    (of_decide_eq_true (by kernel_rfl)) (by unfold Func.isWrapper; first | (rw [if_pos (by decide +kernel)]; kernel_rfl) | (rw [if_neg (by decide +kernel)]; exact ⟨rfl, rfl⟩))
    (fun os started H enc _ => FnExactMostFrequent_lifted os started H enc)
end Go.Proofs.Ytpgdjhoicodebaa
