/-
  The program's SortMessages returns what the reference's returns, for all arguments: no condition.
-/
import Derived.Test.YtgdggkhdollieaaArgs3
import Derived.Test.YtgdggkhdollieaaSpecSort
import Derived.Test.YtgdggkhdollieaaImplSort
import Derived.Test.YtgdggkhdollieaaFacts
namespace Go.Proofs.Ytgdggkhdollieaa
open Go.ChangeShapes Go.WideShapes Go.ChangeAt Go.RowKit
set_option linter.unusedVariables false

theorem sortMsgs_length (ys : List Tri) : (sortMsgs ys).length ≤ ys.length := by
  unfold sortMsgs
  split
  · rw [sortT_length]; exact Nat.le_refl _
  · exact Nat.zero_le _
set_option maxRecDepth 100000 in
set_option maxHeartbeats 4000000 in
theorem FnExactSortMessages_walk (w : World) (va0 : Value) (ys : List Tri) (hv0 : RdMessageS w va0 ys) (hg0 : WfMessageS ys) :
    Calls Try.prog 5 #[va0] w fun e w' => e = .returned (.bool true) ∧ Below w.heap.size w w' := by
  have HV0 := Lib.hid hv0; have HG0 := Lib.hid hg0; clear hv0 hg0
  by_cases hl : ys.length ≤ 1048576
  · skip
    have HS0 : Hid (ys.length ≤ 1048576) := Lib.hid hl
    have SZ := Lib.hid (szMessageS_ok w va0 ys 1048576 HV0.out (by omega) (by omega))
    generalize hr0 : (sortMsgs ys) = D0
    have HR0 := Lib.hid hr0; clear hr0
    go_enter Try.func5, Try.ntmps5
    go_wp2_with fail
    refine SZ.out.mono ?_
    rintro e w' ⟨rfl, rfl⟩
    clear SZ
    have hl2 : 0 ≤ (1048576 : Int) - (ys.length : Int) := by omega
    generalize (1048576 : Int) - (ys.length : Int) = left at *
    clear hl
    go_wp2_with fail
    have c1 := toMessageS_any w _ ys HV0.out (by have := HS0.out; omega)
    refine c1.mono ?_
    clear c1
    rintro e w1 ⟨s0, rfl, ho1, hb1⟩
    have HC1 : Hid (Below w.heap.size w w1) := Lib.hid hb1; clear hb1
    have HB1 : Hid (Below w.heap.size w w1) := Lib.hid (HC1.out)
    have hsz1 := HC1.out.size
    have HO1 := Lib.hid ho1; clear ho1
    go_wp2_with fail
    have c2 := specSortMessages_any w1 _ ys HO1.out.rd
    rw [HR0.out] at c2
    refine c2.mono ?_
    clear c2
    rintro e w2 ⟨ws0, rfl, ho2, hb2⟩
    have HC2 : Hid (Below w1.heap.size w1 w2) := Lib.hid hb2; clear hb2
    have HB2 : Hid (Below w.heap.size w w2) := Lib.hid (HB1.out.tr HC2.out)
    have hsz2 := HC2.out.size
    have HO1a := Lib.hid (HO1.out.keep HC2.out); clear HO1; have HO1 := Lib.hid HO1a.out; clear HO1a
    have HO2 := Lib.hid ho2; clear ho2
    go_wp2_with fail
    have c3 := toMessageS_any w2 _ ys (HV0.out.keep HB2.out) (by have := HS0.out; omega)
    refine c3.mono ?_
    clear c3
    rintro e w3 ⟨xv0, rfl, ho3, hb3⟩
    have HC3 : Hid (Below w2.heap.size w2 w3) := Lib.hid hb3; clear hb3
    have HB3 : Hid (Below w.heap.size w w3) := Lib.hid (HB2.out.tr HC3.out)
    have hsz3 := HC3.out.size
    have HO2a := Lib.hid (HO2.out.keep HC3.out); clear HO2; have HO2 := Lib.hid HO2a.out; clear HO2a
    have HO3 := Lib.hid ho3; clear ho3
    go_wp2_with fail
    have c4 := implSortMessages_any w3 _ ys HO3.out.rd HG0.out
    rw [HR0.out] at c4
    refine c4.mono ?_
    clear c4
    rintro e w4 ⟨gv0, rfl, ho4, hb4⟩
    have HC4 : Hid (Below w3.heap.size w3 w4) := Lib.hid hb4; clear hb4
    have HB4 : Hid (Below w.heap.size w w4) := Lib.hid (HB3.out.tr HC4.out)
    have hsz4 := HC4.out.size
    have HO2a := Lib.hid (HO2.out.keep HC4.out); clear HO2; have HO2 := Lib.hid HO2a.out; clear HO2a
    have HO3a := Lib.hid (HO3.out.keep HC4.out); clear HO3; have HO3 := Lib.hid HO3a.out; clear HO3a
    have HO4 := Lib.hid ho4; clear ho4
    go_wp2_with fail
    have c5 := eqMessageS_same w4 _ _ D0 HO4.out.rd HO2.out.rd
    refine c5.mono ?_
    clear c5
    rintro e w5 ⟨rfl, hb5⟩
    have HC5 : Hid (Below w4.heap.size w4 w5) := Lib.hid hb5; clear hb5
    have HB5 : Hid (Below w.heap.size w w5) := Lib.hid (HB4.out.tr HC5.out)
    have hsz5 := HC5.out.size
    have HO2a := Lib.hid (HO2.out.keep HC5.out); clear HO2; have HO2 := Lib.hid HO2a.out; clear HO2a
    have HO3a := Lib.hid (HO3.out.keep HC5.out); clear HO3; have HO3 := Lib.hid HO3a.out; clear HO3a
    have HO4a := Lib.hid (HO4.out.keep HC5.out); clear HO4; have HO4 := Lib.hid HO4a.out; clear HO4a
    go_wp2_with fail
    have c6 := toMessageS_any w5 _ ys (HV0.out.keep HB5.out) (by have := HS0.out; omega)
    refine c6.mono ?_
    clear c6
    rintro e w6 ⟨cv0, rfl, ho6, hb6⟩
    have HC6 : Hid (Below w5.heap.size w5 w6) := Lib.hid hb6; clear hb6
    have HB6 : Hid (Below w.heap.size w w6) := Lib.hid (HB5.out.tr HC6.out)
    have hsz6 := HC6.out.size
    have HO2a := Lib.hid (HO2.out.keep HC6.out); clear HO2; have HO2 := Lib.hid HO2a.out; clear HO2a
    have HO3a := Lib.hid (HO3.out.keep HC6.out); clear HO3; have HO3 := Lib.hid HO3a.out; clear HO3a
    have HO4a := Lib.hid (HO4.out.keep HC6.out); clear HO4; have HO4 := Lib.hid HO4a.out; clear HO4a
    have HO6 := Lib.hid ho6; clear ho6
    go_wp2_with fail
    have c7 := eqMessageS_same w6 _ _ ys HO3.out.rd HO6.out.rd
    refine c7.mono ?_
    clear c7
    rintro e w7 ⟨rfl, hb7⟩
    have HC7 : Hid (Below w6.heap.size w6 w7) := Lib.hid hb7; clear hb7
    have HB7 : Hid (Below w.heap.size w w7) := Lib.hid (HB6.out.tr HC7.out)
    have hsz7 := HC7.out.size
    have HO2a := Lib.hid (HO2.out.keep HC7.out); clear HO2; have HO2 := Lib.hid HO2a.out; clear HO2a
    have HO3a := Lib.hid (HO3.out.keep HC7.out); clear HO3; have HO3 := Lib.hid HO3a.out; clear HO3a
    have HO4a := Lib.hid (HO4.out.keep HC7.out); clear HO4; have HO4 := Lib.hid HO4a.out; clear HO4a
    have HO6a := Lib.hid (HO6.out.keep HC7.out); clear HO6; have HO6 := Lib.hid HO6a.out; clear HO6a
    have CN_xv0 : Hid (cntMessageS ys ≤ 1099511627776) := Lib.hid (by have := HS0.out; simp only [cntMessageS]; omega)
    have CN_gv0 : Hid (cntMessageS D0 ≤ 1099511627776) := Lib.hid (by rw [← HR0.out]; exact (by have := HS0.out; have := sortMsgs_length ys; unfold cntMessageS; omega))
    go_wp2_with fail
    have c8 := markMessageS_any w7 w2.heap.size w3.heap.size _ (1) ys HO3.out (by omega) (by have := CN_xv0.out; omega)
    refine c8.mono ?_
    clear c8
    rintro e w8 ⟨dm8, rfl, hm8, ho8, hb8⟩
    have HC8 : Hid (Chg w2.heap.size w3.heap.size w7 w8) := Lib.hid hb8; clear hb8
    have HB8 : Hid (Below w.heap.size w w8) := Lib.hid (HC8.out.below HB7.out (by omega))
    have hsz8 := HC8.out.size
    have HO2a := Lib.hid (HO2.out.chg HC8.out (.inr (by omega))); clear HO2; have HO2 := Lib.hid HO2a.out; clear HO2a
    have HO4a := Lib.hid (HO4.out.chg HC8.out (.inl (by omega))); clear HO4; have HO4 := Lib.hid HO4a.out; clear HO4a
    have HO8 := Lib.hid ho8; have HM8 := Lib.hid hm8; clear ho8 hm8 HO3
    go_wp2_with fail
    have c9 := eqMessageS_same w8 _ _ D0 HO4.out.rd HO2.out.rd
    refine c9.mono ?_
    clear c9
    rintro e w9 ⟨rfl, hb9⟩
    have HC9 : Hid (Below w8.heap.size w8 w9) := Lib.hid hb9; clear hb9
    have HB9 : Hid (Below w.heap.size w w9) := Lib.hid (HB8.out.tr HC9.out)
    have hsz9 := HC9.out.size
    have HO2a := Lib.hid (HO2.out.keep HC9.out); clear HO2; have HO2 := Lib.hid HO2a.out; clear HO2a
    have HO8a := Lib.hid (HO8.out.keep HC9.out); clear HO8; have HO8 := Lib.hid HO8a.out; clear HO8a
    have HO4a := Lib.hid (HO4.out.keep HC9.out); clear HO4; have HO4 := Lib.hid HO4a.out; clear HO4a
    go_wp2_with fail
    have c10 := markMessageS_any w9 w3.heap.size w4.heap.size _ (1) D0 HO4.out (by omega) (by have := CN_gv0.out; omega)
    refine c10.mono ?_
    clear c10
    rintro e w10 ⟨dm10, rfl, hm10, ho10, hb10⟩
    have HC10 : Hid (Chg w3.heap.size w4.heap.size w9 w10) := Lib.hid hb10; clear hb10
    have HB10 : Hid (Below w.heap.size w w10) := Lib.hid (HC10.out.below HB9.out (by omega))
    have hsz10 := HC10.out.size
    have HO2a := Lib.hid (HO2.out.chg HC10.out (.inr (by omega))); clear HO2; have HO2 := Lib.hid HO2a.out; clear HO2a
    have HO8a := Lib.hid (HO8.out.chg HC10.out (.inr (by omega))); clear HO8; have HO8 := Lib.hid HO8a.out; clear HO8a
    have HO10 := Lib.hid ho10; have HM10 := Lib.hid hm10; clear ho10 hm10 HO4
    go_wp2_with fail
    have c11 := heldMessageS_any w10 _ (1) D0 dm10 HM10.out HO10.out.rd (by omega) (by have := CN_gv0.out; omega)
    refine c11.mono ?_
    clear c11
    rintro e w11 ⟨rfl, hb11⟩
    have HC11 : Hid (Below w10.heap.size w10 w11) := Lib.hid hb11; clear hb11
    have HB11 : Hid (Below w.heap.size w w11) := Lib.hid (HB10.out.tr HC11.out)
    have hsz11 := HC11.out.size
    have HO2a := Lib.hid (HO2.out.keep HC11.out); clear HO2; have HO2 := Lib.hid HO2a.out; clear HO2a
    have HO8a := Lib.hid (HO8.out.keep HC11.out); clear HO8; have HO8 := Lib.hid HO8a.out; clear HO8a
    have HO10a := Lib.hid (HO10.out.keep HC11.out); clear HO10; have HO10 := Lib.hid HO10a.out; clear HO10a
    go_wp2_with fail
    have c12 := toMessageS_any w11 _ ys (HV0.out.keep HB11.out) (by have := HS0.out; omega)
    refine c12.mono ?_
    clear c12
    rintro e w12 ⟨t0, rfl, ho12, hb12⟩
    have HC12 : Hid (Below w11.heap.size w11 w12) := Lib.hid hb12; clear hb12
    have HB12 : Hid (Below w.heap.size w w12) := Lib.hid (HB11.out.tr HC12.out)
    have hsz12 := HC12.out.size
    have HO2a := Lib.hid (HO2.out.keep HC12.out); clear HO2; have HO2 := Lib.hid HO2a.out; clear HO2a
    have HO8a := Lib.hid (HO8.out.keep HC12.out); clear HO8; have HO8 := Lib.hid HO8a.out; clear HO8a
    have HO10a := Lib.hid (HO10.out.keep HC12.out); clear HO10; have HO10 := Lib.hid HO10a.out; clear HO10a
    have HO12 := Lib.hid ho12; clear ho12
    go_wp2_with fail
    have c13 := implSortMessages_any w12 _ ys HO12.out.rd HG0.out
    rw [HR0.out] at c13
    refine c13.mono ?_
    clear c13
    rintro e w13 ⟨hv0, rfl, ho13, hb13⟩
    have HC13 : Hid (Below w12.heap.size w12 w13) := Lib.hid hb13; clear hb13
    have HB13 : Hid (Below w.heap.size w w13) := Lib.hid (HB12.out.tr HC13.out)
    have hsz13 := HC13.out.size
    have HO2a := Lib.hid (HO2.out.keep HC13.out); clear HO2; have HO2 := Lib.hid HO2a.out; clear HO2a
    have HO8a := Lib.hid (HO8.out.keep HC13.out); clear HO8; have HO8 := Lib.hid HO8a.out; clear HO8a
    have HO10a := Lib.hid (HO10.out.keep HC13.out); clear HO10; have HO10 := Lib.hid HO10a.out; clear HO10a
    have HO12a := Lib.hid (HO12.out.keep HC13.out); clear HO12; have HO12 := Lib.hid HO12a.out; clear HO12a
    have HO13 := Lib.hid ho13; clear ho13
    go_wp2_with fail
    have c14 := eqMessageS_same w13 _ _ D0 HO13.out.rd HO2.out.rd
    refine c14.mono ?_
    clear c14
    rintro e w14 ⟨rfl, hb14⟩
    have HC14 : Hid (Below w13.heap.size w13 w14) := Lib.hid hb14; clear hb14
    have HB14 : Hid (Below w.heap.size w w14) := Lib.hid (HB13.out.tr HC14.out)
    have hsz14 := HC14.out.size
    have HO2a := Lib.hid (HO2.out.keep HC14.out); clear HO2; have HO2 := Lib.hid HO2a.out; clear HO2a
    have HO8a := Lib.hid (HO8.out.keep HC14.out); clear HO8; have HO8 := Lib.hid HO8a.out; clear HO8a
    have HO10a := Lib.hid (HO10.out.keep HC14.out); clear HO10; have HO10 := Lib.hid HO10a.out; clear HO10a
    have HO12a := Lib.hid (HO12.out.keep HC14.out); clear HO12; have HO12 := Lib.hid HO12a.out; clear HO12a
    have HO13a := Lib.hid (HO13.out.keep HC14.out); clear HO13; have HO13 := Lib.hid HO13a.out; clear HO13a
    go_wp2_with fail
    have c15 := heldMessageS_any w14 _ (1) D0 dm10 HM10.out HO10.out.rd (by omega) (by have := CN_gv0.out; omega)
    refine c15.mono ?_
    clear c15
    rintro e w15 ⟨rfl, hb15⟩
    have HC15 : Hid (Below w14.heap.size w14 w15) := Lib.hid hb15; clear hb15
    have HB15 : Hid (Below w.heap.size w w15) := Lib.hid (HB14.out.tr HC15.out)
    have hsz15 := HC15.out.size
    have HO2a := Lib.hid (HO2.out.keep HC15.out); clear HO2; have HO2 := Lib.hid HO2a.out; clear HO2a
    have HO8a := Lib.hid (HO8.out.keep HC15.out); clear HO8; have HO8 := Lib.hid HO8a.out; clear HO8a
    have HO10a := Lib.hid (HO10.out.keep HC15.out); clear HO10; have HO10 := Lib.hid HO10a.out; clear HO10a
    have HO12a := Lib.hid (HO12.out.keep HC15.out); clear HO12; have HO12 := Lib.hid HO12a.out; clear HO12a
    have HO13a := Lib.hid (HO13.out.keep HC15.out); clear HO13; have HO13 := Lib.hid HO13a.out; clear HO13a
    go_wp2_with fail
    go_ret
    exact ⟨rfl, HB15.out⟩
  · have SZ := Lib.hid (szMessageS_no w va0 ys 1048576 HV0.out (by omega) (by omega) (by omega))
    go_enter Try.func5, Try.ntmps5
    go_wp2_with fail
    refine SZ.out.mono ?_
    rintro e w' ⟨rfl, rfl⟩
    go_wp2_with fail
    go_ret
    exact ⟨rfl, Below.refl _ _⟩
set_option maxRecDepth 100000 in
theorem FnExactSortMessages_lifted (os : Os) (started : os.Started) (H : Type) (enc : TypeId × Value → H) :
    ReturnsInHanded {} Try.checked os 5 .any (Rows.fnExactSortMessagesSpec.pre6 enc Try.prog Try.f5 Rows.fnExactSortMessagesRow.domain false) (Rows.fnExactSortMessagesSpec.post enc Try.prog Try.f5 false true false false) := by
  refine returnsInHanded_of_change (C := Try.checked) tryOwn started (by kernel_rfl) Try.func5
    (ChangeSpec.witness6 (enc := enc) (C := Try.checked) false ⟨#[], #[.slice none 0 0], []⟩ 8 (by kernel_rfl) (by kernel_rfl) (by kernel_rfl) (by kernel_rfl)) ?_
  intro W base args ds gs before hval0 hW hcnd _
  have hval : ∀ (j : Nat) t v, Try.f5.params[j]? = some t → args[j]? = some v → Value.okWide Try.prog W .any base t v := hval0
  have hW' := hW
  obtain ⟨p, q, hA0, hV, rfl, hfz, hnd⟩ := hW
  have hA : DataW.TrodAll enc Try.prog W 0 (fun _ => true) true Try.f5.params.toList args.toList ds p := hA0
  rw [Try.params5] at hA hval
  obtain ⟨v0, vs0, d0, ds0, p0, q0, hargs, rfl, rfl, h0, r0⟩ := trodAll_cons hA
  obtain ⟨rfl, rfl, rfl⟩ := trodAll_nil r0
  obtain rfl : args = #[v0] := by cases args; simp_all
  obtain ⟨rfl, rfl⟩ := trodVars_none hV
  have k0 := h0
  have lt0 : ∀ x ∈ p0, x.block < W.heap.size := by obtain ⟨m, hm⟩ := k0; exact DataW.trod_lt m _ _ _ hm
  obtain ⟨c0, len0, cap0, rfl⟩ := okWide_slice Try.underlying34 (hval 0 34 v0 rfl rfl)
  obtain ⟨n0, x0, t0⟩ := trod_of rfl h0
  obtain ⟨xs0, w0, g0⟩ := trod_tris Try.underlying34 Try.underlying87 (by kernel_rfl) (by kernel_rfl) Try.underlying3 Try.underlying3 Try.underlying3 t0
  clear hA0 hval0
  refine (FnExactSortMessages_walk W _ xs0 w0 g0).mono fun e W' ⟨he, bel⟩ => ?_
  subst he
  exact ⟨_, rfl, _, _, _, [], _, [], hW', trodAll_mk1 (shut_bool Try.underlying4 _), (trodAll_cons_mk (Below.trod tryLaidOut (by kernel_rfl) (of_decide_eq_true (by kernel_rfl)) k0 bel lt0) trodAll_mk0), rfl, bel.frame _, fun h => by cases h⟩

set_option maxHeartbeats 4000000 in
set_option maxRecDepth 100000 in
theorem FnExactSortMessages_holds : Rows.FnExactSortMessagesSaid := by
  refine OpenClaim.holds_of_wide 5 Try.f5 rfl rfl rfl rfl rfl rfl rfl ⟨rfl, rfl, rfl, rfl, rfl⟩ rfl rfl rfl rfl rfl ?hfn Try.func5 ?closed ?hinst ?hwrap (fun os started H enc _ => FnExactSortMessages_lifted os started H enc)
  case hfn => as_aux_lemma => kernel_rfl
  case hinst => exact of_decide_eq_true (by as_aux_lemma => kernel_rfl)
  case hwrap => unfold Func.isWrapper; first | (rw [if_pos (by decide +kernel)]; kernel_rfl) | (rw [if_neg (by decide +kernel)]; exact ⟨rfl, rfl⟩)
  case closed =>
    simp only [joinedFacts, Bool.and_eq_true]
    repeat' apply And.intro
    all_goals first
      | with_reducible exact mayEnter_ok
      | (rewrite [liftsFinal_no]; as_aux_lemma => kernel_rfl)
      | (rewrite [make_cut]; as_aux_lemma => kernel_rfl)
      | as_aux_lemma => kernel_rfl
end Go.Proofs.Ytgdggkhdollieaa
