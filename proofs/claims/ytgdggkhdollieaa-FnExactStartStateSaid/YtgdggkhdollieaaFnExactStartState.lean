/-
  The program's StartState returns what the reference's returns, for all arguments: no condition.
-/
import Derived.Test.YtgdggkhdollieaaStart
import Derived.Test.YtgdggkhdollieaaStateM
import Derived.Test.YtgdggkhdollieaaFacts
namespace Go.Proofs.Ytgdggkhdollieaa
open Go.ChangeShapes Go.WideShapes Go.ChangeAt Go.RowKit
set_option linter.unusedVariables false

theorem startState_cnt (many : Int) : cntState (startState many) ≤ 32 := by
  unfold startState
  split
  · simp [cntState, cntIntS, cntBoolS, cntMessageS]; omega
  · simp [cntState, cntIntS, cntBoolS, cntMessageS]
theorem OwState.form {lo hi : Nat} {w : World} {v : Value} {s : StateD} (h : OwState lo hi w v s) : ∃ a1 c1 a2 c2 a3 c3, v = .agg #[.int .i64 s.1, .slice a1 s.2.1.length c1, .slice a2 s.2.2.1.length c2, .slice a3 s.2.2.2.length c3] := by
  obtain ⟨v1, v2, v3, rfl, h1, h2, h3⟩ := h
  obtain ⟨a1, c1, rfl, -, -⟩ := Rd.form h1.rd
  obtain ⟨a2, c2, rfl, -, -⟩ := Rd.form h2.rd
  obtain ⟨a3, c3, rfl, -, -⟩ := Rd.form h3.rd
  exact ⟨a1, c1, a2, c2, a3, c3, rfl⟩
theorem OwState.chg {lo hi lo' hi' : Nat} {w w' : World} {v : Value} {s : StateD} (h : OwState lo hi w v s) (hc : Chg lo' hi' w w') (hd : hi' ≤ lo ∨ hi ≤ lo') : OwState lo hi w' v s := by
  obtain ⟨v1, v2, v3, rfl, h1, h2, h3⟩ := h
  exact ⟨v1, v2, v3, rfl, h1.chg hc hd, h2.chg hc hd, h3.chg hc hd⟩

set_option maxRecDepth 100000 in
set_option maxHeartbeats 8000000 in
theorem FnExactStartState_walk (w : World) (many : Int) (h0 : In64 many) :
    Calls Try.prog 6 #[.int .i64 many] w fun e w' => e = .returned (.bool true) ∧ Below w.heap.size w w' := by
  clear h0
  have CS := Lib.hid fun wx => specStartState_any wx many
  have CI := Lib.hid fun wx => implStartState_any wx many
  have HCN := startState_cnt many
  generalize startState many = S at *
  have HB : Hid (Below w.heap.size w w) := Lib.hid (Below.refl _ _)
  go_enter Try.func6, Try.ntmps6
  go_wp2_with fail
  refine (CS.out _).mono ?_
  rintro e w1 ⟨x, rfl, ho, hb⟩
  have hsw1 := hb.size
  replace HB := Lib.hid (HB.out.tr hb)
  obtain ⟨a1x, c1x, a2x, c2x, a3x, c3x, rfl⟩ := ho.form
  have HW := Lib.hid ho; clear ho hb
  have hb : Below w1.heap.size w1 (w1.alloc (.cells #[.int .i64 S.1, .slice a1x S.2.1.length c1x, .slice a2x S.2.2.1.length c2x, .slice a3x S.2.2.2.length c3x] 41)) := (Below.refl _ _).alloc (Nat.le_refl _) _
  have hsw2 : w1.heap.size + 1 ≤ (w1.alloc (.cells #[.int .i64 S.1, .slice a1x S.2.1.length c1x, .slice a2x S.2.2.1.length c2x, .slice a3x S.2.2.2.length c3x] 41)).heap.size := by simp
  replace HB := Lib.hid (HB.out.tr hb)
  replace HW := Lib.hid (HW.out.keep hb)
  clear hb
  have BW := Lib.hid (heap_alloc_new w1 (.cells #[.int .i64 S.1, .slice a1x S.2.1.length c1x, .slice a2x S.2.2.1.length c2x, .slice a3x S.2.2.2.length c3x] 41))
  go_wp2_with fail
  generalize (w1.alloc (.cells #[.int .i64 S.1, .slice a1x S.2.1.length c1x, .slice a2x S.2.2.1.length c2x, .slice a3x S.2.2.2.length c3x] 41)) = w2 at *
  go_wp2_with fail
  refine (CI.out _).mono ?_
  rintro e w3 ⟨g, rfl, ho, hb⟩
  have hsw3 := hb.size
  replace HB := Lib.hid (HB.out.tr hb)
  replace HW := Lib.hid (HW.out.keep hb)
  replace BW := Lib.hid (box_keep BW.out hb)
  obtain ⟨a1g, c1g, a2g, c2g, a3g, c3g, rfl⟩ := ho.form
  have HG := Lib.hid ho; clear ho hb
  have hb : Below w3.heap.size w3 (w3.alloc (.cells #[.int .i64 S.1, .slice a1g S.2.1.length c1g, .slice a2g S.2.2.1.length c2g, .slice a3g S.2.2.2.length c3g] 41)) := (Below.refl _ _).alloc (Nat.le_refl _) _
  have hsw4 : w3.heap.size + 1 ≤ (w3.alloc (.cells #[.int .i64 S.1, .slice a1g S.2.1.length c1g, .slice a2g S.2.2.1.length c2g, .slice a3g S.2.2.2.length c3g] 41)).heap.size := by simp
  replace HB := Lib.hid (HB.out.tr hb)
  replace HW := Lib.hid (HW.out.keep hb)
  replace BW := Lib.hid (box_keep BW.out hb)
  replace HG := Lib.hid (HG.out.keep hb)
  clear hb
  have BG := Lib.hid (heap_alloc_new w3 (.cells #[.int .i64 S.1, .slice a1g S.2.1.length c1g, .slice a2g S.2.2.1.length c2g, .slice a3g S.2.2.2.length c3g] 41))
  have kx0 := box_cell BW.out 0 (.int .i64 S.1) rfl; have kx1 := box_cell BW.out 1 (.slice a1x S.2.1.length c1x) rfl; have kx2 := box_cell BW.out 2 (.slice a2x S.2.2.1.length c2x) rfl; have kx3 := box_cell BW.out 3 (.slice a3x S.2.2.2.length c3x) rfl
  have kg0 := box_cell BG.out 0 (.int .i64 S.1) rfl; have kg1 := box_cell BG.out 1 (.slice a1g S.2.1.length c1g) rfl; have kg2 := box_cell BG.out 2 (.slice a2g S.2.2.1.length c2g) rfl; have kg3 := box_cell BG.out 3 (.slice a3g S.2.2.2.length c3g) rfl
  go_wp2_with fail
  generalize (w3.alloc (.cells #[.int .i64 S.1, .slice a1g S.2.1.length c1g, .slice a2g S.2.2.1.length c2g, .slice a3g S.2.2.2.length c3g] 41)) = w4 at *
  refine (eqState_same _ _ _ S HG.out.rd HW.out.rd).mono ?_
  rintro e w5 ⟨rfl, hb⟩
  have hsw5 := hb.size
  replace HB := Lib.hid (HB.out.tr hb)
  replace HW := Lib.hid (HW.out.keep hb)
  replace BW := Lib.hid (box_keep BW.out hb)
  replace HG := Lib.hid (HG.out.keep hb)
  replace BG := Lib.hid (box_keep BG.out hb)
  clear hb
  clear kx0 kx1 kx2 kx3
  clear kg0 kg1 kg2 kg3
  have kg0 := box_cell BG.out 0 (.int .i64 S.1) rfl; have kg1 := box_cell BG.out 1 (.slice a1g S.2.1.length c1g) rfl; have kg2 := box_cell BG.out 2 (.slice a2g S.2.2.1.length c2g) rfl; have kg3 := box_cell BG.out 3 (.slice a3g S.2.2.2.length c3g) rfl
  go_wp2_with fail
  refine (markState_any _ w2.heap.size w3.heap.size _ 1 S HG.out (by omega) (by omega) (by omega)).mono ?_
  rintro e w6 ⟨y, rfl, hm, ho, hc⟩
  have hsw6 := hc.size
  have HM := Lib.hid hm
  have hbg := box_lt BG.out; have hbw := box_lt BW.out
  replace HB := Lib.hid (hc.below HB.out (by omega))
  replace HW := Lib.hid (HW.out.chg hc (by omega))
  replace BW := Lib.hid ((hc.block _ (box_lt BW.out) (by omega)).trans BW.out)
  replace BG := Lib.hid ((hc.block _ (box_lt BG.out) (by omega)).trans BG.out)
  replace HG := Lib.hid ho; clear ho hm hc
  clear kg0 kg1 kg2 kg3
  have hp : 0 ≤ (1 : Int) + (cntState S : Int) := by omega
  have kg0 := box_cell BG.out 0 (.int .i64 S.1) rfl; have kg1 := box_cell BG.out 1 (.slice a1g S.2.1.length c1g) rfl; have kg2 := box_cell BG.out 2 (.slice a2g S.2.2.1.length c2g) rfl; have kg3 := box_cell BG.out 3 (.slice a3g S.2.2.2.length c3g) rfl
  go_wp2_with fail
  refine (heldState_any _ _ 1 S y HM.out HG.out.rd (by omega) (by omega)).mono ?_
  rintro e w7 ⟨rfl, hb⟩
  have hsw7 := hb.size
  replace HB := Lib.hid (HB.out.tr hb)
  replace HW := Lib.hid (HW.out.keep hb)
  replace BW := Lib.hid (box_keep BW.out hb)
  replace HG := Lib.hid (HG.out.keep hb)
  replace BG := Lib.hid (box_keep BG.out hb)
  clear hb
  clear kg0 kg1 kg2 kg3
  go_wp2_with fail
  refine (CI.out _).mono ?_
  rintro e w8 ⟨h, rfl, ho, hb⟩
  have hsw8 := hb.size
  replace HB := Lib.hid (HB.out.tr hb)
  replace HW := Lib.hid (HW.out.keep hb)
  replace BW := Lib.hid (box_keep BW.out hb)
  replace HG := Lib.hid (HG.out.keep hb)
  replace BG := Lib.hid (box_keep BG.out hb)
  obtain ⟨a1h, c1h, a2h, c2h, a3h, c3h, rfl⟩ := ho.form
  have HH := Lib.hid ho; clear ho hb
  have hb : Below w8.heap.size w8 (w8.alloc (.cells #[.int .i64 S.1, .slice a1h S.2.1.length c1h, .slice a2h S.2.2.1.length c2h, .slice a3h S.2.2.2.length c3h] 41)) := (Below.refl _ _).alloc (Nat.le_refl _) _
  have hsw9 : w8.heap.size + 1 ≤ (w8.alloc (.cells #[.int .i64 S.1, .slice a1h S.2.1.length c1h, .slice a2h S.2.2.1.length c2h, .slice a3h S.2.2.2.length c3h] 41)).heap.size := by simp
  replace HB := Lib.hid (HB.out.tr hb)
  replace HW := Lib.hid (HW.out.keep hb)
  replace BW := Lib.hid (box_keep BW.out hb)
  replace HG := Lib.hid (HG.out.keep hb)
  replace BG := Lib.hid (box_keep BG.out hb)
  replace HH := Lib.hid (HH.out.keep hb)
  clear hb
  have BH := Lib.hid (heap_alloc_new w8 (.cells #[.int .i64 S.1, .slice a1h S.2.1.length c1h, .slice a2h S.2.2.1.length c2h, .slice a3h S.2.2.2.length c3h] 41))
  have kx0 := box_cell BW.out 0 (.int .i64 S.1) rfl; have kx1 := box_cell BW.out 1 (.slice a1x S.2.1.length c1x) rfl; have kx2 := box_cell BW.out 2 (.slice a2x S.2.2.1.length c2x) rfl; have kx3 := box_cell BW.out 3 (.slice a3x S.2.2.2.length c3x) rfl
  have kh0 := box_cell BH.out 0 (.int .i64 S.1) rfl; have kh1 := box_cell BH.out 1 (.slice a1h S.2.1.length c1h) rfl; have kh2 := box_cell BH.out 2 (.slice a2h S.2.2.1.length c2h) rfl; have kh3 := box_cell BH.out 3 (.slice a3h S.2.2.2.length c3h) rfl
  go_wp2_with fail
  generalize (w8.alloc (.cells #[.int .i64 S.1, .slice a1h S.2.1.length c1h, .slice a2h S.2.2.1.length c2h, .slice a3h S.2.2.2.length c3h] 41)) = w9 at *
  refine (eqState_same _ _ _ S HH.out.rd HW.out.rd).mono ?_
  rintro e w10 ⟨rfl, hb⟩
  have hsw10 := hb.size
  replace HB := Lib.hid (HB.out.tr hb)
  replace HW := Lib.hid (HW.out.keep hb)
  replace BW := Lib.hid (box_keep BW.out hb)
  replace HG := Lib.hid (HG.out.keep hb)
  replace BG := Lib.hid (box_keep BG.out hb)
  replace HH := Lib.hid (HH.out.keep hb)
  replace BH := Lib.hid (box_keep BH.out hb)
  clear hb
  clear kx0 kx1 kx2 kx3
  clear kh0 kh1 kh2 kh3
  have kg0 := box_cell BG.out 0 (.int .i64 S.1) rfl; have kg1 := box_cell BG.out 1 (.slice a1g S.2.1.length c1g) rfl; have kg2 := box_cell BG.out 2 (.slice a2g S.2.2.1.length c2g) rfl; have kg3 := box_cell BG.out 3 (.slice a3g S.2.2.2.length c3g) rfl
  go_wp2_with fail
  refine (heldState_any _ _ 1 S y HM.out HG.out.rd (by omega) (by omega)).mono ?_
  rintro e w11 ⟨rfl, hb⟩
  have hsw11 := hb.size
  replace HB := Lib.hid (HB.out.tr hb)
  replace HW := Lib.hid (HW.out.keep hb)
  replace BW := Lib.hid (box_keep BW.out hb)
  replace HG := Lib.hid (HG.out.keep hb)
  replace BG := Lib.hid (box_keep BG.out hb)
  replace HH := Lib.hid (HH.out.keep hb)
  replace BH := Lib.hid (box_keep BH.out hb)
  clear hb
  clear kg0 kg1 kg2 kg3
  go_wp2_with fail
  go_ret
  exact ⟨rfl, HB.out⟩
set_option maxRecDepth 100000 in
theorem FnExactStartState_lifted (os : Os) (started : os.Started) (H : Type) (enc : TypeId × Value → H) :
    ReturnsInHanded {} Try.checked os 6 .any (Rows.fnExactStartStateSpec.pre6 enc Try.prog Try.f6 Rows.fnExactStartStateRow.domain false) (Rows.fnExactStartStateSpec.post enc Try.prog Try.f6 false true false false) := by
  refine returnsInHanded_of_change (C := Try.checked) tryOwn started (by kernel_rfl) Try.func6
    (ChangeSpec.witness6 (enc := enc) (C := Try.checked) false ⟨#[], #[.int .i64 0], []⟩ 8 (by kernel_rfl) (by kernel_rfl) (by kernel_rfl) (by kernel_rfl)) ?_
  intro W base args ds gs before hval0 hW hcnd _
  have hval : ∀ (j : Nat) t v, Try.f6.params[j]? = some t → args[j]? = some v → Value.okWide Try.prog W .any base t v := hval0
  have hW' := hW
  obtain ⟨p, q, hA0, hV, rfl, hfz, hnd⟩ := hW
  have hA : DataW.TrodAll enc Try.prog W 0 (fun _ => true) true Try.f6.params.toList args.toList ds p := hA0
  rw [Try.params6] at hA hval
  obtain ⟨v0, vs0, d0, ds0, p0, q0, hargs, rfl, rfl, h0, r0⟩ := trodAll_cons hA
  obtain ⟨rfl, rfl, rfl⟩ := trodAll_nil r0
  obtain rfl : args = #[v0] := by cases args; simp_all
  obtain ⟨rfl, rfl⟩ := trodVars_none hV
  have k0 := h0
  have lt0 : ∀ x ∈ p0, x.block < W.heap.size := by obtain ⟨m, hm⟩ := k0; exact DataW.trod_lt m _ _ _ hm
  obtain ⟨a0, rfl, _, _, w0⟩ := open_int Try.underlying3 (hval 0 3 v0 rfl rfl) h0
  clear hA0 hval0
  refine (FnExactStartState_walk W a0 (in64_of_wf w0)).mono fun e W' ⟨he, bel⟩ => ?_
  subst he
  exact ⟨_, rfl, _, _, _, [], _, [], hW', trodAll_mk1 (shut_bool Try.underlying4 _), (trodAll_cons_mk (Below.trod tryLaidOut (by kernel_rfl) (of_decide_eq_true (by kernel_rfl)) k0 bel lt0) trodAll_mk0), rfl, bel.frame _, fun h => by cases h⟩

set_option maxHeartbeats 4000000 in
set_option maxRecDepth 100000 in
theorem FnExactStartState_holds : Rows.FnExactStartStateSaid := by
  refine OpenClaim.holds_of_wide 6 Try.f6 rfl rfl rfl rfl rfl rfl rfl ⟨rfl, rfl, rfl, rfl, rfl⟩ rfl rfl rfl rfl rfl ?hfn Try.func6 ?closed ?hinst ?hwrap (fun os started H enc _ => FnExactStartState_lifted os started H enc)
  case hfn => as_aux_lemma => kernel_rfl
  case hinst => exact of_decide_eq_true (by as_aux_lemma => kernel_rfl)
  case hwrap => unfold Func.isWrapper; first | (rw [if_pos (by decide +kernel)]; kernel_rfl) | (rw [if_neg (by decide +kernel)]; exact ⟨rfl, rfl⟩)
  case closed =>
    simp only [joinedFacts, Bool.and_eq_true]
    repeat' apply And.intro
    all_goals first
      | with_reducible exact mayEnter_ok
      | (rewrite [liftsFinal_no]; as_aux_lemma => kernel_rfl)
      | (rewrite [make_cut]; as_aux_lemma => kernel_rfl)
      | as_aux_lemma => kernel_rfl
end Go.Proofs.Ytgdggkhdollieaa
