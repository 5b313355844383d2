/-
  The program's StateValid returns what the reference's returns, for all arguments: no condition.
-/
import Derived.Test.YtgdggkhdollieaaStateV
import Derived.Deep.RegionHeld3
import Derived.Test.YtgdggkhdollieaaFacts
namespace Go.Proofs.Ytgdggkhdollieaa
open Go.ChangeShapes Go.WideShapes Go.ChangeAt Go.RowKit
set_option linter.unusedVariables false

theorem OwState.formV {lo hi : Nat} {w : World} {v : Value} {s : StateD} (h : OwState lo hi w v s) : ∃ a1 c1 a2 c2 a3 c3, v = .agg #[.int .i64 s.1, .slice a1 s.2.1.length c1, .slice a2 s.2.2.1.length c2, .slice a3 s.2.2.2.length c3] := by
  obtain ⟨v1, v2, v3, rfl, h1, h2, h3⟩ := h
  obtain ⟨a1, c1, rfl, -, -⟩ := Rd.form h1.rd
  obtain ⟨a2, c2, rfl, -, -⟩ := Rd.form h2.rd
  obtain ⟨a3, c3, rfl, -, -⟩ := Rd.form h3.rd
  exact ⟨a1, c1, a2, c2, a3, c3, rfl⟩
theorem RdState.formV {w : World} {v : Value} {s : StateD} (h : RdState w v s) : ∃ a1 c1 a2 c2 a3 c3, v = .agg #[.int .i64 s.1, .slice a1 s.2.1.length c1, .slice a2 s.2.2.1.length c2, .slice a3 s.2.2.2.length c3] := by
  obtain ⟨v1, v2, v3, rfl, h1, h2, h3⟩ := h
  obtain ⟨a1, c1, rfl, -, -⟩ := Rd.form h1
  obtain ⟨a2, c2, rfl, -, -⟩ := Rd.form h2
  obtain ⟨a3, c3, rfl, -, -⟩ := Rd.form h3
  exact ⟨a1, c1, a2, c2, a3, c3, rfl⟩

set_option maxRecDepth 100000 in
set_option maxHeartbeats 8000000 in
theorem FnExactStateValid_walk (w : World) (va : Value) (s : StateD) (hv : RdState w va s) (hg : WfState s) (many : Int) (hm : In64 many) :
    Calls Try.prog 9 #[va, .int .i64 many] w fun e w' => e = .returned (.bool true) ∧ Below w.heap.size w w' := by
  obtain ⟨a1, c1, a2, c2, a3, c3, rfl⟩ := hv.formV
  have HV := Lib.hid hv
  clear hg hv hm
  have CSP := Lib.hid fun (wx : World) (vx : Value) (h : RdState wx vx s) => specStateValid_any wx vx s many h
  have CIM := Lib.hid fun (wx : World) (vx : Value) (h : RdState wx vx s) => implStateValid_any wx vx s many h
  have CT := Lib.hid fun (wx : World) (hb : Below w.heap.size w wx) (hs : sizeState s ≤ 1099511627776) => toState_any wx _ s (HV.out.keep hb) hs
  have CE := Lib.hid fun (wx : World) (v1 v2 : Value) (h1 : RdState wx v1 s) (h2 : RdState wx v2 s) => eqState_same wx v1 v2 s h1 h2
  have SZ := Lib.hid fun wx (hb : Below w.heap.size w wx) (hl : (sizeState s : Int) ≤ 1048576) => szState_ok wx _ s 1048576 (HV.out.keep hb) hl (by omega)
  have SN := Lib.hid fun wx (hb : Below w.heap.size w wx) (hl : 1048576 < (sizeState s : Int)) => szState_no wx _ s 1048576 (HV.out.keep hb) hl (by omega) (by omega)
  have HF := Lib.hid fun lo hi wx v (h : OwState lo hi wx v s) => h.formV
  generalize stateOk s many = S at *
  generalize sizeState s = sz at *
  clear HV
  obtain ⟨r, xs, bs, ys⟩ := s
  simp only at *
  have HRD := Lib.hid fun lo hi wx v (h : OwState lo hi wx v (r, xs, bs, ys)) => h.rd
  have HKP := Lib.hid fun lo hi wx wy v (h : OwState lo hi wx v (r, xs, bs, ys)) (hb : Below wx.heap.size wx wy) => h.keep hb
  have RK := Lib.hid fun wx wy v (h : RdState wx v (r, xs, bs, ys)) (hb : Below wx.heap.size wx wy) => h.keep hb
  generalize hsd : (r, xs, bs, ys) = sd at *
  clear hsd
  generalize xs.length = n1 at *
  generalize bs.length = n2 at *
  generalize ys.length = n3 at *
  have HB : Hid (Below w.heap.size w (w.alloc (.cells #[.int .i64 r, .slice a1 n1 c1, .slice a2 n2 c2, .slice a3 n3 c3] 65))) := Lib.hid (by go_grown)
  have X := Lib.hid (heap_alloc_new w (.cells #[.int .i64 r, .slice a1 n1 c1, .slice a2 n2 c2, .slice a3 n3 c3] 65))
  generalize hw0 : (w.alloc (.cells #[.int .i64 r, .slice a1 n1 c1, .slice a2 n2 c2, .slice a3 n3 c3] 65)) = w0 at *
  have HW0 := Lib.hid hw0; clear hw0
  have k00 := box_cell X.out 0 (.int .i64 r) rfl; have k01 := box_cell X.out 1 (.slice a1 n1 c1) rfl; have k02 := box_cell X.out 2 (.slice a2 n2 c2) rfl; have k03 := box_cell X.out 3 (.slice a3 n3 c3) rfl
  by_cases hl : sz ≤ 1048576
  · go_enter Try.func9, Try.ntmps9
    have hx0 := box_lt X.out
    go_wp2_with fail
    rw [HW0.out]
    clear k00 k01 k02 k03
    refine (SZ.out _ HB.out (by omega)).mono ?_
    rintro e w1 ⟨rfl, hb⟩
    replace X := Lib.hid (box_keep X.out hb); replace HB := Lib.hid (HB.out.tr hb)
    clear hb SZ SN
    have hl2 : 0 ≤ (1048576 : Int) - (sz : Int) := by omega
    have k00 := box_cell X.out 0 (.int .i64 r) rfl; have k01 := box_cell X.out 1 (.slice a1 n1 c1) rfl; have k02 := box_cell X.out 2 (.slice a2 n2 c2) rfl; have k03 := box_cell X.out 3 (.slice a3 n3 c3) rfl
    go_wp2_with fail
    refine (CT.out _ HB.out (by omega)).mono ?_
    rintro e w1 ⟨v, rfl, hs, hb⟩
    have HS := Lib.hid hs; clear hs
    replace X := Lib.hid (box_keep X.out hb); replace HB := Lib.hid (HB.out.tr hb)
    clear hb k00 k01 k02 k03
    go_wp2_with fail
    refine (CSP.out _ _ (HRD.out _ _ _ _ HS.out)).mono ?_
    rintro e w1 ⟨rfl, hb⟩
    replace X := Lib.hid (box_keep X.out hb); replace HB := Lib.hid (HB.out.tr hb)
    clear hb HS CSP
    have k00 := box_cell X.out 0 (.int .i64 r) rfl; have k01 := box_cell X.out 1 (.slice a1 n1 c1) rfl; have k02 := box_cell X.out 2 (.slice a2 n2 c2) rfl; have k03 := box_cell X.out 3 (.slice a3 n3 c3) rfl
    go_wp2_with fail
    refine (CT.out _ HB.out (by omega)).mono ?_
    rintro e w2 ⟨v, rfl, hs, hb⟩
    obtain ⟨a1I, c1I, a2I, c2I, a3I, c3I, rfl⟩ := HF.out _ _ _ _ hs
    replace X := Lib.hid (box_keep X.out hb); replace HB := Lib.hid (HB.out.tr hb)
    have hal : Below w2.heap.size w2 (w2.alloc (.cells #[.int .i64 r, .slice a1I n1 c1I, .slice a2I n2 c2I, .slice a3I n3 c3I] 41)) := (Below.refl _ _).alloc (Nat.le_refl _) _
    have HI := Lib.hid (HKP.out _ _ _ _ _ hs hal)
    replace HB := Lib.hid (HB.out.tr hal); replace X := Lib.hid (box_keep X.out hal)
    have I := Lib.hid (heap_alloc_new w2 (.cells #[.int .i64 r, .slice a1I n1 c1I, .slice a2I n2 c2I, .slice a3I n3 c3I] 41))
    clear hb hs hal k00 k01 k02 k03
    have i0 := box_cell I.out 0 (.int .i64 r) rfl; have i1 := box_cell I.out 1 (.slice a1I n1 c1I) rfl; have i2 := box_cell I.out 2 (.slice a2I n2 c2I) rfl; have i3 := box_cell I.out 3 (.slice a3I n3 c3I) rfl
    go_wp2_with fail
    generalize (w2.alloc (.cells #[.int .i64 r, .slice a1I n1 c1I, .slice a2I n2 c2I, .slice a3I n3 c3I] 41)) = w3 at *
    clear i0 i1 i2 i3
    refine (CIM.out _ _ (HRD.out _ _ _ _ HI.out)).mono ?_
    rintro e w4 ⟨rfl, hb⟩
    replace X := Lib.hid (box_keep X.out hb); replace HB := Lib.hid (HB.out.tr hb); replace I := Lib.hid (box_keep I.out hb); replace HI := Lib.hid (HKP.out _ _ _ _ _ HI.out hb)
    clear hb CIM
    have hxl : w.heap.size < w4.heap.size := box_lt X.out
    have hil : w2.heap.size < w4.heap.size := box_lt I.out
    have k00 := box_cell X.out 0 (.int .i64 r) rfl; have k01 := box_cell X.out 1 (.slice a1 n1 c1) rfl; have k02 := box_cell X.out 2 (.slice a2 n2 c2) rfl; have k03 := box_cell X.out 3 (.slice a3 n3 c3) rfl
    have i0 := box_cell I.out 0 (.int .i64 r) rfl; have i1 := box_cell I.out 1 (.slice a1I n1 c1I) rfl; have i2 := box_cell I.out 2 (.slice a2I n2 c2I) rfl; have i3 := box_cell I.out 3 (.slice a3I n3 c3I) rfl
    go_wp2_with fail
    have BD : Hid (Below w4.heap.size w4 w4.drew) := Lib.hid (Below.refl _ _).drew
    go_region_held3 (fun w' => w'.cell? ⟨w.heap.size, 0, none⟩ = some (.int .i64 r) ∧ w'.cell? ⟨w.heap.size, 1, none⟩ = some (.slice a1 n1 c1) ∧ w'.cell? ⟨w.heap.size, 2, none⟩ = some (.slice a2 n2 c2) ∧ w'.cell? ⟨w.heap.size, 3, none⟩ = some (.slice a3 n3 c3) ∧ w'.cell? ⟨w2.heap.size, 0, none⟩ = some (.int .i64 r) ∧ w'.cell? ⟨w2.heap.size, 1, none⟩ = some (.slice a1I n1 c1I) ∧ w'.cell? ⟨w2.heap.size, 2, none⟩ = some (.slice a2I n2 c2I) ∧ w'.cell? ⟨w2.heap.size, 3, none⟩ = some (.slice a3I n3 c3I)) (go_keep) (first
      | (go_at_call 42; refine (CT.out _ (HB.out.tr BD.out) (by omega)).mono ?_; rintro e wx ⟨c, rfl, hc, hb⟩; have HC := Lib.hid hc; replace BD := Lib.hid (BD.out.tr hb); have z0 := (BD.out.cell (p := ⟨w.heap.size, 0, none⟩) hxl).trans k00; have z1 := (BD.out.cell (p := ⟨w.heap.size, 1, none⟩) hxl).trans k01; have z2 := (BD.out.cell (p := ⟨w.heap.size, 2, none⟩) hxl).trans k02; have z3 := (BD.out.cell (p := ⟨w.heap.size, 3, none⟩) hxl).trans k03; have z4 := (BD.out.cell (p := ⟨w2.heap.size, 0, none⟩) hil).trans i0; have z5 := (BD.out.cell (p := ⟨w2.heap.size, 1, none⟩) hil).trans i1; have z6 := (BD.out.cell (p := ⟨w2.heap.size, 2, none⟩) hil).trans i2; have z7 := (BD.out.cell (p := ⟨w2.heap.size, 3, none⟩) hil).trans i3; clear hc hb)
      | (go_at_call 27; refine (CE.out _ _ _ (HRD.out _ _ _ _ (HKP.out _ _ _ _ _ HI.out BD.out)) (HRD.out _ _ _ _ HC.out)).mono ?_; rintro e wx ⟨rfl, hb⟩; replace BD := Lib.hid (BD.out.tr hb); have z0 := (BD.out.cell (p := ⟨w.heap.size, 0, none⟩) hxl).trans k00; have z1 := (BD.out.cell (p := ⟨w.heap.size, 1, none⟩) hxl).trans k01; have z2 := (BD.out.cell (p := ⟨w.heap.size, 2, none⟩) hxl).trans k02; have z3 := (BD.out.cell (p := ⟨w.heap.size, 3, none⟩) hxl).trans k03; have z4 := (BD.out.cell (p := ⟨w2.heap.size, 0, none⟩) hil).trans i0; have z5 := (BD.out.cell (p := ⟨w2.heap.size, 1, none⟩) hil).trans i1; have z6 := (BD.out.cell (p := ⟨w2.heap.size, 2, none⟩) hil).trans i2; have z7 := (BD.out.cell (p := ⟨w2.heap.size, 3, none⟩) hil).trans i3; clear hb))
    replace HB := Lib.hid (HB.out.tr BD.out)
    go_wp2_with fail
    go_ret
    exact ⟨rfl, HB.out⟩
  · go_enter Try.func9, Try.ntmps9
    go_wp2_with fail
    rw [HW0.out]
    refine (SN.out _ HB.out (by omega)).mono ?_
    rintro e w1 ⟨rfl, hb⟩
    replace HB := Lib.hid (HB.out.tr hb); clear hb SN SZ k00 k01 k02 k03
    go_wp2_with fail
    go_ret
    exact ⟨rfl, HB.out⟩
set_option maxRecDepth 100000 in
theorem FnExactStateValid_lifted (os : Os) (started : os.Started) (H : Type) (enc : TypeId × Value → H) :
    ReturnsInHanded {} Try.checked os 9 .any (Rows.fnExactStateValidSpec.pre6 enc Try.prog Try.f9 Rows.fnExactStateValidRow.domain false) (Rows.fnExactStateValidSpec.post enc Try.prog Try.f9 false true false false) := by
  refine returnsInHanded_of_change (C := Try.checked) tryOwn started (by kernel_rfl) Try.func9
    (ChangeSpec.witness6 (enc := enc) (C := Try.checked) false ⟨#[], #[.agg #[.int .i64 0, .slice none 0 0, .slice none 0 0, .slice none 0 0], .int .i64 0], []⟩ 8 (by kernel_rfl) (by kernel_rfl) (by kernel_rfl) (by kernel_rfl)) ?_
  intro W base args ds gs before hval0 hW hcnd _
  have hval : ∀ (j : Nat) t v, Try.f9.params[j]? = some t → args[j]? = some v → Value.okWide Try.prog W .any base t v := hval0
  have hW' := hW
  obtain ⟨p, q, hA0, hV, rfl, hfz, hnd⟩ := hW
  have hA : DataW.TrodAll enc Try.prog W 0 (fun _ => true) true Try.f9.params.toList args.toList ds p := hA0
  rw [Try.params9] at hA hval
  obtain ⟨v0, vs0, d0, ds0, p0, q0, hargs, rfl, rfl, h0, r0⟩ := trodAll_cons hA
  obtain ⟨v1, vs1, d1, ds1, p1, q1, rfl, rfl, rfl, h1, r1⟩ := trodAll_cons r0
  obtain ⟨rfl, rfl, rfl⟩ := trodAll_nil r1
  obtain rfl : args = #[v0, v1] := by cases args; simp_all
  obtain ⟨rfl, rfl⟩ := trodVars_none hV
  have k0 := h0
  have lt0 : ∀ x ∈ p0, x.block < W.heap.size := by obtain ⟨m, hm⟩ := k0; exact DataW.trod_lt m _ _ _ hm
  obtain ⟨y0, w0, g0⟩ := open_state (tb := 0) (ti := 0) (tm := 0) Try.underlying65 (by kernel_rfl) (by kernel_rfl) Try.underlying3 Try.underlying23 Try.underlying3 (by kernel_rfl) Try.underlying39 Try.underlying4 (by kernel_rfl) Try.underlying34 Try.underlying87 (by kernel_rfl) (by kernel_rfl) Try.underlying3 Try.underlying3 Try.underlying3 (hval 0 65 v0 rfl rfl) h0
  have k1 := h1
  have lt1 : ∀ x ∈ p1, x.block < W.heap.size := by obtain ⟨m, hm⟩ := k1; exact DataW.trod_lt m _ _ _ hm
  obtain ⟨a1, rfl, _, _, w1⟩ := open_int Try.underlying3 (hval 1 3 v1 rfl rfl) h1
  clear hA0 hval0
  refine (FnExactStateValid_walk W _ y0 w0 g0 a1 (in64_of_wf w1)).mono fun e W' ⟨he, bel⟩ => ?_
  subst he
  exact ⟨_, rfl, _, _, _, [], _, [], hW', trodAll_mk1 (shut_bool Try.underlying4 _), (trodAll_cons_mk (Below.trod tryLaidOut (by kernel_rfl) (of_decide_eq_true (by kernel_rfl)) k0 bel lt0) (trodAll_cons_mk (Below.trod tryLaidOut (by kernel_rfl) (of_decide_eq_true (by kernel_rfl)) k1 bel lt1) trodAll_mk0)), rfl, bel.frame _, fun h => by cases h⟩

set_option maxHeartbeats 4000000 in
set_option maxRecDepth 100000 in
theorem FnExactStateValid_holds : Rows.FnExactStateValidSaid := by
  refine OpenClaim.holds_of_wide 9 Try.f9 rfl rfl rfl rfl rfl rfl rfl ⟨rfl, rfl, rfl, rfl, rfl⟩ rfl rfl rfl rfl rfl ?hfn Try.func9 ?closed ?hinst ?hwrap (fun os started H enc _ => FnExactStateValid_lifted os started H enc)
  case hfn => as_aux_lemma => kernel_rfl
  case hinst => exact of_decide_eq_true (by as_aux_lemma => kernel_rfl)
  case hwrap => unfold Func.isWrapper; first | (rw [if_pos (by decide +kernel)]; kernel_rfl) | (rw [if_neg (by decide +kernel)]; exact ⟨rfl, rfl⟩)
  case closed =>
    simp only [joinedFacts, Bool.and_eq_true]
    repeat' apply And.intro
    all_goals first
      | with_reducible exact mayEnter_ok
      | (rewrite [liftsFinal_no]; as_aux_lemma => kernel_rfl)
      | (rewrite [make_cut]; as_aux_lemma => kernel_rfl)
      | as_aux_lemma => kernel_rfl
end Go.Proofs.Ytgdggkhdollieaa
