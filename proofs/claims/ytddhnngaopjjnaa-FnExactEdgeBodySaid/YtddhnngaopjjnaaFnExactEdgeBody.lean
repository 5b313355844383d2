/-
  The program's EdgeBody returns what the reference's returns, for all arguments: no condition.
-/
import Derived.Test.YtddhnngaopjjnaaArgs2
import Derived.Test.YtddhnngaopjjnaaEdgeJ
namespace Go.Proofs.Ytddhnngaopjjnaa
open Go.ChangeShapes Go.WideShapes Go.ChangeAt Go.RowKit
set_option linter.unusedVariables false

set_option maxRecDepth 100000 in
set_option maxHeartbeats 4000000 in
theorem FnExactEdgeBody_walk (w : World) (y : Tri) (h0 : WfTri y) :
    Calls Try.prog 4 #[triV y] w fun e w' => e = .returned (.bool true) ∧ Below w.heap.size w w' := by
  obtain ⟨ya, yb, yc⟩ := y; clear h0; simp only [triV]
  generalize hr0 : (edgeBody ya yb yc) = D0
  have HR0 := Lib.hid hr0; clear hr0
  have HX0 := Lib.hid (heap_alloc_new w (.cells #[.int .i64 ya, .int .i64 yb, .int .i64 yc] 29))
  have HB0 : Hid (Below w.heap.size w (w.alloc (.cells #[.int .i64 ya, .int .i64 yb, .int .i64 yc] 29))) := Lib.hid ((Below.refl _ _).alloc (Nat.le_refl _) _)
  have hblt0 : w.heap.size < (w.alloc (.cells #[.int .i64 ya, .int .i64 yb, .int .i64 yc] 29)).heap.size := by simp
  go_enter Try.func4, Try.ntmps4
  go_wp2_with fail
  generalize (w.alloc (.cells #[.int .i64 ya, .int .i64 yb, .int .i64 yc] 29)) = w0 at *
  have k0 := box_cell HX0.out 0 _ rfl; have k1 := box_cell HX0.out 1 _ rfl; have k2 := box_cell HX0.out 2 _ rfl
  go_wp2_with fail
  have c1 := toEdge_any ya yb yc w0
  refine c1.mono ?_
  clear c1
  rintro e w1 ⟨rfl, hb1⟩
  have HC1 : Hid (Below w0.heap.size w0 w1) := Lib.hid hb1; clear hb1
  have HB1 : Hid (Below w.heap.size w w1) := Lib.hid (HB0.out.tr HC1.out)
  have hsz1 := HC1.out.size
  replace HX0 := Lib.hid (box_keep HX0.out HC1.out)
  clear k0 k1 k2
  go_wp2_with fail
  have c2 := specEdgeBody_any w1 ya yb yc
  rw [HR0.out] at c2
  refine c2.mono ?_
  clear c2
  rintro e w2 ⟨ws0, rfl, ho2, hb2⟩
  have HC2 : Hid (Below w1.heap.size w1 w2) := Lib.hid hb2; clear hb2
  have HB2 : Hid (Below w.heap.size w w2) := Lib.hid (HB1.out.tr HC2.out)
  have hsz2 := HC2.out.size
  replace HX0 := Lib.hid (box_keep HX0.out HC2.out)
  have HO2 := Lib.hid ho2; clear ho2
  have k0 := box_cell HX0.out 0 _ rfl; have k1 := box_cell HX0.out 1 _ rfl; have k2 := box_cell HX0.out 2 _ rfl
  go_wp2_with fail
  have c3 := toEdge_any ya yb yc w2
  refine c3.mono ?_
  clear c3
  rintro e w3 ⟨rfl, hb3⟩
  have HC3 : Hid (Below w2.heap.size w2 w3) := Lib.hid hb3; clear hb3
  have HB3 : Hid (Below w.heap.size w w3) := Lib.hid (HB2.out.tr HC3.out)
  have hsz3 := HC3.out.size
  replace HX0 := Lib.hid (box_keep HX0.out HC3.out)
  have HO2a := Lib.hid (HO2.out.keep HC3.out); clear HO2; have HO2 := Lib.hid HO2a.out; clear HO2a
  clear k0 k1 k2
  go_wp2_with fail
  have c4 := implEdgeBody_any w3 ya yb yc
  rw [HR0.out] at c4
  refine c4.mono ?_
  clear c4
  rintro e w4 ⟨gv0, rfl, ho4, hb4⟩
  have HC4 : Hid (Below w3.heap.size w3 w4) := Lib.hid hb4; clear hb4
  have HB4 : Hid (Below w.heap.size w w4) := Lib.hid (HB3.out.tr HC4.out)
  have hsz4 := HC4.out.size
  replace HX0 := Lib.hid (box_keep HX0.out HC4.out)
  have HO2a := Lib.hid (HO2.out.keep HC4.out); clear HO2; have HO2 := Lib.hid HO2a.out; clear HO2a
  have HO4 := Lib.hid ho4; clear ho4
  go_wp2_with fail
  have c5 := eqIntS_same w4 _ _ D0 HO4.out.rd HO2.out.rd
  refine c5.mono ?_
  clear c5
  rintro e w5 ⟨rfl, hb5⟩
  have HC5 : Hid (Below w4.heap.size w4 w5) := Lib.hid hb5; clear hb5
  have HB5 : Hid (Below w.heap.size w w5) := Lib.hid (HB4.out.tr HC5.out)
  have hsz5 := HC5.out.size
  replace HX0 := Lib.hid (box_keep HX0.out HC5.out)
  have HO2a := Lib.hid (HO2.out.keep HC5.out); clear HO2; have HO2 := Lib.hid HO2a.out; clear HO2a
  have HO4a := Lib.hid (HO4.out.keep HC5.out); clear HO4; have HO4 := Lib.hid HO4a.out; clear HO4a
  have CN_gv0 : Hid (cntIntS D0 ≤ 1099511627776) := Lib.hid (by rw [← HR0.out]; exact (by have := edgeBody_length ya yb yc; unfold cntIntS; omega))
  go_wp2_with fail
  have c6 := markIntS_any w5 w3.heap.size w4.heap.size _ (1) D0 HO4.out (by omega) (by have := CN_gv0.out; omega)
  refine c6.mono ?_
  clear c6
  rintro e w6 ⟨dm6, rfl, hm6, ho6, hb6⟩
  have HC6 : Hid (Chg w3.heap.size w4.heap.size w5 w6) := Lib.hid hb6; clear hb6
  have HB6 : Hid (Below w.heap.size w w6) := Lib.hid (HC6.out.below HB5.out (by omega))
  have hsz6 := HC6.out.size
  replace HX0 := Lib.hid ((HC6.out.block _ (box_lt HX0.out) (.inl (by omega))).trans HX0.out)
  have HO2a := Lib.hid (HO2.out.chg HC6.out (.inr (by omega))); clear HO2; have HO2 := Lib.hid HO2a.out; clear HO2a
  have HO6 := Lib.hid ho6; have HM6 := Lib.hid hm6; clear ho6 hm6 HO4
  go_wp2_with fail
  have c7 := heldIntS_any w6 _ (1) D0 dm6 HM6.out HO6.out.rd (by omega) (by have := CN_gv0.out; omega)
  refine c7.mono ?_
  clear c7
  rintro e w7 ⟨rfl, hb7⟩
  have HC7 : Hid (Below w6.heap.size w6 w7) := Lib.hid hb7; clear hb7
  have HB7 : Hid (Below w.heap.size w w7) := Lib.hid (HB6.out.tr HC7.out)
  have hsz7 := HC7.out.size
  replace HX0 := Lib.hid (box_keep HX0.out HC7.out)
  have HO2a := Lib.hid (HO2.out.keep HC7.out); clear HO2; have HO2 := Lib.hid HO2a.out; clear HO2a
  have HO6a := Lib.hid (HO6.out.keep HC7.out); clear HO6; have HO6 := Lib.hid HO6a.out; clear HO6a
  have k0 := box_cell HX0.out 0 _ rfl; have k1 := box_cell HX0.out 1 _ rfl; have k2 := box_cell HX0.out 2 _ rfl
  go_wp2_with fail
  have c8 := toEdge_any ya yb yc w7
  refine c8.mono ?_
  clear c8
  rintro e w8 ⟨rfl, hb8⟩
  have HC8 : Hid (Below w7.heap.size w7 w8) := Lib.hid hb8; clear hb8
  have HB8 : Hid (Below w.heap.size w w8) := Lib.hid (HB7.out.tr HC8.out)
  have hsz8 := HC8.out.size
  replace HX0 := Lib.hid (box_keep HX0.out HC8.out)
  have HO2a := Lib.hid (HO2.out.keep HC8.out); clear HO2; have HO2 := Lib.hid HO2a.out; clear HO2a
  have HO6a := Lib.hid (HO6.out.keep HC8.out); clear HO6; have HO6 := Lib.hid HO6a.out; clear HO6a
  clear k0 k1 k2
  go_wp2_with fail
  have c9 := implEdgeBody_any w8 ya yb yc
  rw [HR0.out] at c9
  refine c9.mono ?_
  clear c9
  rintro e w9 ⟨hv0, rfl, ho9, hb9⟩
  have HC9 : Hid (Below w8.heap.size w8 w9) := Lib.hid hb9; clear hb9
  have HB9 : Hid (Below w.heap.size w w9) := Lib.hid (HB8.out.tr HC9.out)
  have hsz9 := HC9.out.size
  replace HX0 := Lib.hid (box_keep HX0.out HC9.out)
  have HO2a := Lib.hid (HO2.out.keep HC9.out); clear HO2; have HO2 := Lib.hid HO2a.out; clear HO2a
  have HO6a := Lib.hid (HO6.out.keep HC9.out); clear HO6; have HO6 := Lib.hid HO6a.out; clear HO6a
  have HO9 := Lib.hid ho9; clear ho9
  go_wp2_with fail
  have c10 := eqIntS_same w9 _ _ D0 HO9.out.rd HO2.out.rd
  refine c10.mono ?_
  clear c10
  rintro e w10 ⟨rfl, hb10⟩
  have HC10 : Hid (Below w9.heap.size w9 w10) := Lib.hid hb10; clear hb10
  have HB10 : Hid (Below w.heap.size w w10) := Lib.hid (HB9.out.tr HC10.out)
  have hsz10 := HC10.out.size
  replace HX0 := Lib.hid (box_keep HX0.out HC10.out)
  have HO2a := Lib.hid (HO2.out.keep HC10.out); clear HO2; have HO2 := Lib.hid HO2a.out; clear HO2a
  have HO6a := Lib.hid (HO6.out.keep HC10.out); clear HO6; have HO6 := Lib.hid HO6a.out; clear HO6a
  have HO9a := Lib.hid (HO9.out.keep HC10.out); clear HO9; have HO9 := Lib.hid HO9a.out; clear HO9a
  go_wp2_with fail
  have c11 := heldIntS_any w10 _ (1) D0 dm6 HM6.out HO6.out.rd (by omega) (by have := CN_gv0.out; omega)
  refine c11.mono ?_
  clear c11
  rintro e w11 ⟨rfl, hb11⟩
  have HC11 : Hid (Below w10.heap.size w10 w11) := Lib.hid hb11; clear hb11
  have HB11 : Hid (Below w.heap.size w w11) := Lib.hid (HB10.out.tr HC11.out)
  have hsz11 := HC11.out.size
  replace HX0 := Lib.hid (box_keep HX0.out HC11.out)
  have HO2a := Lib.hid (HO2.out.keep HC11.out); clear HO2; have HO2 := Lib.hid HO2a.out; clear HO2a
  have HO6a := Lib.hid (HO6.out.keep HC11.out); clear HO6; have HO6 := Lib.hid HO6a.out; clear HO6a
  have HO9a := Lib.hid (HO9.out.keep HC11.out); clear HO9; have HO9 := Lib.hid HO9a.out; clear HO9a
  go_wp2_with fail
  go_ret
  exact ⟨rfl, HB11.out⟩
set_option maxRecDepth 100000 in
theorem FnExactEdgeBody_lifted (os : Os) (started : os.Started) (H : Type) (enc : TypeId × Value → H) :
    ReturnsInHanded {} Try.checked os 4 .any (Rows.fnExactEdgeBodySpec.pre6 enc Try.prog Try.f4 Rows.fnExactEdgeBodyRow.domain false) (Rows.fnExactEdgeBodySpec.post enc Try.prog Try.f4 false true false false) := by
  refine returnsInHanded_of_change (C := Try.checked) tryOwn started (by kernel_rfl) Try.func4
    (ChangeSpec.witness6 (enc := enc) (C := Try.checked) false ⟨#[], #[.agg #[.int .i64 0, .int .i64 0, .int .i64 0]], []⟩ 8 (by kernel_rfl) (by kernel_rfl) (by kernel_rfl) (by kernel_rfl)) ?_
  intro W base args ds gs before hval0 hW hcnd _
  have hval : ∀ (j : Nat) t v, Try.f4.params[j]? = some t → args[j]? = some v → Value.okWide Try.prog W .any base t v := hval0
  have hW' := hW
  obtain ⟨p, q, hA0, hV, rfl, hfz, hnd⟩ := hW
  have hA : DataW.TrodAll enc Try.prog W 0 (fun _ => true) true Try.f4.params.toList args.toList ds p := hA0
  rw [Try.params4] at hA hval
  obtain ⟨v0, vs0, d0, ds0, p0, q0, hargs, rfl, rfl, h0, r0⟩ := trodAll_cons hA
  obtain ⟨rfl, rfl, rfl⟩ := trodAll_nil r0
  obtain rfl : args = #[v0] := by cases args; simp_all
  obtain ⟨rfl, rfl⟩ := trodVars_none hV
  have k0 := h0
  have lt0 : ∀ x ∈ p0, x.block < W.heap.size := by obtain ⟨m, hm⟩ := k0; exact DataW.trod_lt m _ _ _ hm
  obtain ⟨y0, rfl, w0⟩ := open_tri Try.underlying29 (by kernel_rfl) (by kernel_rfl) Try.underlying3 Try.underlying3 Try.underlying3 (hval 0 29 v0 rfl rfl) h0
  clear hA0 hval0
  refine (FnExactEdgeBody_walk W y0 w0).mono fun e W' ⟨he, bel⟩ => ?_
  subst he
  exact ⟨_, rfl, _, _, _, [], _, [], hW', trodAll_mk1 (shut_bool Try.underlying4 _), (trodAll_cons_mk (Below.trod tryLaidOut (by kernel_rfl) (of_decide_eq_true (by kernel_rfl)) k0 bel lt0) trodAll_mk0), rfl, bel.frame _, fun h => by cases h⟩

theorem FnExactEdgeBody_holds : Rows.FnExactEdgeBodySaid :=
  OpenClaim.holds_of_wide 4 Try.f4 rfl rfl rfl rfl rfl rfl rfl ⟨rfl, rfl, rfl, rfl, rfl⟩ rfl rfl rfl rfl rfl (by kernel_rfl) Try.func4 (by kernel_rfl)
    (of_decide_eq_true (by kernel_rfl)) (by unfold Func.isWrapper; first | (rw [if_pos (by decide +kernel)]; kernel_rfl) | (rw [if_neg (by decide +kernel)]; exact ⟨rfl, rfl⟩))
    (fun os started H enc _ => FnExactEdgeBody_lifted os started H enc)
end Go.Proofs.Ytddhnngaopjjnaa
