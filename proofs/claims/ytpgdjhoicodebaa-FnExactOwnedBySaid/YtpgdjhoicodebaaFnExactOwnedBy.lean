/-
  The program's OwnedBy returns what the reference's returns, for all arguments: no condition.
-/
import Derived.Test.YtpgdjhoicodebaaArgs
import Derived.Test.YtpgdjhoicodebaaOwned
namespace Go.Proofs.Ytpgdjhoicodebaa
open Go.ChangeShapes Go.WideShapes Go.ChangeAt Go.RowKit
set_option linter.unusedVariables false

set_option maxRecDepth 100000 in
set_option maxHeartbeats 4000000 in
theorem FnExactOwnedBy_walk (w : World) (many : Int) (h0 : In64 many) (k : Int) (h1 : In64 k) (q : Int) (h2 : In64 q) :
    Calls Try.prog 11 #[.int .i64 many, .int .i64 k, .int .i64 q] w fun e w' => e = .returned (.bool true) ∧ Below w.heap.size w w' := by
  have HI0 := Lib.hid h0; clear h0
  have HI1 := Lib.hid h1; clear h1
  have HI2 := Lib.hid h2; clear h2
  generalize hr0 : (ownedBy many k q) = D0
  have HR0 := Lib.hid hr0; clear hr0
  go_enter Try.func11, Try.ntmps11
  go_wp2_with fail
  have c1 := specOwnedBy_any w many k q HI0.out
  rw [HR0.out] at c1
  refine c1.mono ?_
  clear c1
  rintro e w1 ⟨ws0, rfl, ho1, hb1⟩
  have HC1 : Hid (Below w.heap.size w w1) := Lib.hid hb1; clear hb1
  have HB1 : Hid (Below w.heap.size w w1) := Lib.hid (HC1.out)
  have hsz1 := HC1.out.size
  have HO1 := Lib.hid ho1; clear ho1
  go_wp2_with fail
  have c2 := implOwnedBy_any w1 many k q
  rw [HR0.out] at c2
  refine c2.mono ?_
  clear c2
  rintro e w2 ⟨gv0, rfl, ho2, hb2⟩
  have HC2 : Hid (Below w1.heap.size w1 w2) := Lib.hid hb2; clear hb2
  have HB2 : Hid (Below w.heap.size w w2) := Lib.hid (HB1.out.tr HC2.out)
  have hsz2 := HC2.out.size
  have HO1a := Lib.hid (HO1.out.keep HC2.out); clear HO1; have HO1 := Lib.hid HO1a.out; clear HO1a
  have HO2 := Lib.hid ho2; clear ho2
  go_wp2_with fail
  have c3 := eqIntS_same w2 _ _ D0 HO2.out.rd HO1.out.rd
  refine c3.mono ?_
  clear c3
  rintro e w3 ⟨rfl, hb3⟩
  have HC3 : Hid (Below w2.heap.size w2 w3) := Lib.hid hb3; clear hb3
  have HB3 : Hid (Below w.heap.size w w3) := Lib.hid (HB2.out.tr HC3.out)
  have hsz3 := HC3.out.size
  have HO1a := Lib.hid (HO1.out.keep HC3.out); clear HO1; have HO1 := Lib.hid HO1a.out; clear HO1a
  have HO2a := Lib.hid (HO2.out.keep HC3.out); clear HO2; have HO2 := Lib.hid HO2a.out; clear HO2a
  have CN_gv0 : Hid (cntIntS D0 ≤ 1099511627776) := Lib.hid (by rw [← HR0.out]; exact (by have := ownedBy_length many k q; unfold cntIntS; omega))
  go_wp2_with fail
  have c4 := markIntS_any w3 w1.heap.size w2.heap.size _ (1) D0 HO2.out (by omega) (by have := CN_gv0.out; omega)
  refine c4.mono ?_
  clear c4
  rintro e w4 ⟨dm4, rfl, hm4, ho4, hb4⟩
  have HC4 : Hid (Chg w1.heap.size w2.heap.size w3 w4) := Lib.hid hb4; clear hb4
  have HB4 : Hid (Below w.heap.size w w4) := Lib.hid (HC4.out.below HB3.out (by omega))
  have hsz4 := HC4.out.size
  have HO1a := Lib.hid (HO1.out.chg HC4.out (.inr (by omega))); clear HO1; have HO1 := Lib.hid HO1a.out; clear HO1a
  have HO4 := Lib.hid ho4; have HM4 := Lib.hid hm4; clear ho4 hm4 HO2
  go_wp2_with fail
  have c5 := heldIntS_any w4 _ (1) D0 dm4 HM4.out HO4.out.rd (by omega) (by have := CN_gv0.out; omega)
  refine c5.mono ?_
  clear c5
  rintro e w5 ⟨rfl, hb5⟩
  have HC5 : Hid (Below w4.heap.size w4 w5) := Lib.hid hb5; clear hb5
  have HB5 : Hid (Below w.heap.size w w5) := Lib.hid (HB4.out.tr HC5.out)
  have hsz5 := HC5.out.size
  have HO1a := Lib.hid (HO1.out.keep HC5.out); clear HO1; have HO1 := Lib.hid HO1a.out; clear HO1a
  have HO4a := Lib.hid (HO4.out.keep HC5.out); clear HO4; have HO4 := Lib.hid HO4a.out; clear HO4a
  go_wp2_with fail
  have c6 := implOwnedBy_any w5 many k q
  rw [HR0.out] at c6
  refine c6.mono ?_
  clear c6
  rintro e w6 ⟨hv0, rfl, ho6, hb6⟩
  have HC6 : Hid (Below w5.heap.size w5 w6) := Lib.hid hb6; clear hb6
  have HB6 : Hid (Below w.heap.size w w6) := Lib.hid (HB5.out.tr HC6.out)
  have hsz6 := HC6.out.size
  have HO1a := Lib.hid (HO1.out.keep HC6.out); clear HO1; have HO1 := Lib.hid HO1a.out; clear HO1a
  have HO4a := Lib.hid (HO4.out.keep HC6.out); clear HO4; have HO4 := Lib.hid HO4a.out; clear HO4a
  have HO6 := Lib.hid ho6; clear ho6
  go_wp2_with fail
  have c7 := eqIntS_same w6 _ _ D0 HO6.out.rd HO1.out.rd
  refine c7.mono ?_
  clear c7
  rintro e w7 ⟨rfl, hb7⟩
  have HC7 : Hid (Below w6.heap.size w6 w7) := Lib.hid hb7; clear hb7
  have HB7 : Hid (Below w.heap.size w w7) := Lib.hid (HB6.out.tr HC7.out)
  have hsz7 := HC7.out.size
  have HO1a := Lib.hid (HO1.out.keep HC7.out); clear HO1; have HO1 := Lib.hid HO1a.out; clear HO1a
  have HO4a := Lib.hid (HO4.out.keep HC7.out); clear HO4; have HO4 := Lib.hid HO4a.out; clear HO4a
  have HO6a := Lib.hid (HO6.out.keep HC7.out); clear HO6; have HO6 := Lib.hid HO6a.out; clear HO6a
  go_wp2_with fail
  have c8 := heldIntS_any w7 _ (1) D0 dm4 HM4.out HO4.out.rd (by omega) (by have := CN_gv0.out; omega)
  refine c8.mono ?_
  clear c8
  rintro e w8 ⟨rfl, hb8⟩
  have HC8 : Hid (Below w7.heap.size w7 w8) := Lib.hid hb8; clear hb8
  have HB8 : Hid (Below w.heap.size w w8) := Lib.hid (HB7.out.tr HC8.out)
  have hsz8 := HC8.out.size
  have HO1a := Lib.hid (HO1.out.keep HC8.out); clear HO1; have HO1 := Lib.hid HO1a.out; clear HO1a
  have HO4a := Lib.hid (HO4.out.keep HC8.out); clear HO4; have HO4 := Lib.hid HO4a.out; clear HO4a
  have HO6a := Lib.hid (HO6.out.keep HC8.out); clear HO6; have HO6 := Lib.hid HO6a.out; clear HO6a
  go_wp2_with fail
  go_ret
  exact ⟨rfl, HB8.out⟩
set_option maxRecDepth 100000 in
theorem FnExactOwnedBy_lifted (os : Os) (started : os.Started) (H : Type) (enc : TypeId × Value → H) :
    ReturnsInHanded {} Try.checked os 11 .any (Rows.fnExactOwnedBySpec.pre6 enc Try.prog Try.f11 Rows.fnExactOwnedByRow.domain false) (Rows.fnExactOwnedBySpec.post enc Try.prog Try.f11 false true false false) := by
  refine returnsInHanded_of_change (C := Try.checked) tryOwn started (by kernel_rfl) Try.func11
    (ChangeSpec.witness6 (enc := enc) (C := Try.checked) false ⟨#[], #[.int .i64 0, .int .i64 0, .int .i64 0], []⟩ 8 (by kernel_rfl) (by kernel_rfl) (by kernel_rfl) (by kernel_rfl)) ?_
  intro W base args ds gs before hval0 hW hcnd _
  have hval : ∀ (j : Nat) t v, Try.f11.params[j]? = some t → args[j]? = some v → Value.okWide Try.prog W .any base t v := hval0
  have hW' := hW
  obtain ⟨p, q, hA0, hV, rfl, hfz, hnd⟩ := hW
  have hA : DataW.TrodAll enc Try.prog W 0 (fun _ => true) true Try.f11.params.toList args.toList ds p := hA0
  rw [Try.params11] at hA hval
  obtain ⟨v0, vs0, d0, ds0, p0, q0, hargs, rfl, rfl, h0, r0⟩ := trodAll_cons hA
  obtain ⟨v1, vs1, d1, ds1, p1, q1, rfl, rfl, rfl, h1, r1⟩ := trodAll_cons r0
  obtain ⟨v2, vs2, d2, ds2, p2, q2, rfl, rfl, rfl, h2, r2⟩ := trodAll_cons r1
  obtain ⟨rfl, rfl, rfl⟩ := trodAll_nil r2
  obtain rfl : args = #[v0, v1, v2] := by cases args; simp_all
  obtain ⟨rfl, rfl⟩ := trodVars_none hV
  have k0 := h0
  have lt0 : ∀ x ∈ p0, x.block < W.heap.size := by obtain ⟨m, hm⟩ := k0; exact DataW.trod_lt m _ _ _ hm
  obtain ⟨a0, rfl, _, _, w0⟩ := open_int Try.underlying3 (hval 0 3 v0 rfl rfl) h0
  have k1 := h1
  have lt1 : ∀ x ∈ p1, x.block < W.heap.size := by obtain ⟨m, hm⟩ := k1; exact DataW.trod_lt m _ _ _ hm
  obtain ⟨a1, rfl, _, _, w1⟩ := open_int Try.underlying3 (hval 1 3 v1 rfl rfl) h1
  have k2 := h2
  have lt2 : ∀ x ∈ p2, x.block < W.heap.size := by obtain ⟨m, hm⟩ := k2; exact DataW.trod_lt m _ _ _ hm
  obtain ⟨a2, rfl, _, _, w2⟩ := open_int Try.underlying3 (hval 2 3 v2 rfl rfl) h2
  clear hA0 hval0
  refine (FnExactOwnedBy_walk W a0 (in64_of_wf w0) a1 (in64_of_wf w1) a2 (in64_of_wf w2)).mono fun e W' ⟨he, bel⟩ => ?_
  subst he
  exact ⟨_, rfl, _, _, _, [], _, [], hW', trodAll_mk1 (shut_bool Try.underlying4 _), (trodAll_cons_mk (Below.trod tryLaidOut (by kernel_rfl) (of_decide_eq_true (by kernel_rfl)) k0 bel lt0) (trodAll_cons_mk (Below.trod tryLaidOut (by kernel_rfl) (of_decide_eq_true (by kernel_rfl)) k1 bel lt1) (trodAll_cons_mk (Below.trod tryLaidOut (by kernel_rfl) (of_decide_eq_true (by kernel_rfl)) k2 bel lt2) trodAll_mk0))), rfl, bel.frame _, fun h => by cases h⟩

theorem FnExactOwnedBy_holds : Rows.FnExactOwnedBySaid :=
  OpenClaim.holds_of_wide 11 Try.f11 rfl rfl rfl rfl rfl rfl rfl ⟨rfl, rfl, rfl, rfl, rfl⟩ rfl rfl rfl rfl rfl (by kernel_rfl) Try.func11 (by kernel_rfl)
    (of_decide_eq_true (by kernel_rfl)) (by unfold Func.isWrapper; first | (rw [if_pos (by decide +kernel)]; kernel_rfl) | (rw [if_neg (by decide +kernel)]; exact ⟨rfl, rfl⟩))
    (fun os started H enc _ => FnExactOwnedBy_lifted os started H enc)
end Go.Proofs.Ytpgdjhoicodebaa
