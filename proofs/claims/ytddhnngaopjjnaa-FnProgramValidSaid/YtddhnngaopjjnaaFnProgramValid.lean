/-
  A program of the kind 7 is invalid, and so is one with a negative source: for every code: no condition.
-/
import Derived.Test.YtddhnngaopjjnaaArgs
import Derived.Test.YtddhnngaopjjnaaDrawP
import Derived.Test.YtddhnngaopjjnaaProgV
import Derived.Test.YtddhnngaopjjnaaBytes
namespace Go.Proofs.Ytddhnngaopjjnaa
open Go.ChangeShapes Go.WideShapes Go.ChangeAt Go.RowKit
set_option linter.unusedVariables false

theorem progOk_seven (r : Int) : progOk 7 0 r = false := by simp [progOk]
theorem progOk_neg (k : Int) : progOk k (-1) 0 = false := by
  unfold progOk; split
  · simp
  · split
    · simp
    · split <;> simp

set_option maxRecDepth 100000 in
set_option maxHeartbeats 4000000 in
theorem FnProgramValid_walk (w : World) (va : Value) (bs : List Int) (hv : Rd w 1 va bs.length (bys bs)) (hx : ∀ x ∈ bs, 0 ≤ x ∧ x ≤ 255) :
    Calls Try.prog 7 #[va] w fun e w' => e = .returned (.bool true) ∧ Below w.heap.size w w' := by
  have HDR := Lib.hid (DrawProgramValid_any w va bs hv hx)
  obtain ⟨hlb, av, acap, rfl, hcap, hmc, hcell⟩ := hv
  clear hlb hcap hmc hcell hx
  by_cases hl : bs.length ≤ 1048576
  · have hl' : decide ((bs.length : Int) > 1048576) = false := by simp; omega
    go_enter Try.func7, Try.ntmps7
    go_wp2_with fail
    refine HDR.out.mono ?_
    rintro e w1 ⟨a, b, c, rfl, hin, hb1⟩
    have HB := Lib.hid (hb1.alloc hb1.size (.cells #[.int .i64 a, .int .i64 b, .int .i64 c] 46))
    have HX := Lib.hid (heap_alloc_new w1 (.cells #[.int .i64 a, .int .i64 b, .int .i64 c] 46))
    clear hb1 HDR hl hl' hin
    have C1 := Lib.hid fun wx => implProgramValid_any a b c wx
    have C2 := Lib.hid fun wx => specProgramValid_any a b c wx
    have C3 := Lib.hid fun wx => implProgramValid_any 7 0 c wx
    have C4 := Lib.hid fun wx => implProgramValid_any a (-1) 0 wx
    rw [progOk_seven] at C3
    rw [progOk_neg] at C4
    generalize progOk a b c = p at *
    go_wp2_with fail
    generalize (w1.alloc (.cells #[.int .i64 a, .int .i64 b, .int .i64 c] 46)) = w2 at *
    generalize w1.heap.size = q at *
    refine (C1.out _).mono ?_
    rintro e w3 ⟨rfl, hb⟩
    replace HX := Lib.hid (box_keep HX.out hb); replace HB := Lib.hid (HB.out.tr hb); clear hb
    have k0 := box_cell HX.out 0 _ rfl; have k1 := box_cell HX.out 1 _ rfl; have k2 := box_cell HX.out 2 _ rfl
    go_wp2_with fail
    refine (C2.out _).mono ?_
    rintro e w4 ⟨rfl, hb⟩
    replace HX := Lib.hid (box_keep HX.out hb); replace HB := Lib.hid (HB.out.tr hb); clear hb k0 k1 k2
    have k0 := box_cell HX.out 0 _ rfl; have k1 := box_cell HX.out 1 _ rfl; have k2 := box_cell HX.out 2 _ rfl
    go_wp2_with fail
    refine (C3.out _).mono ?_
    rintro e w5 ⟨rfl, hb⟩
    replace HX := Lib.hid (box_keep HX.out hb); replace HB := Lib.hid (HB.out.tr hb); clear hb k0 k1 k2
    have k0 := box_cell HX.out 0 _ rfl; have k1 := box_cell HX.out 1 _ rfl; have k2 := box_cell HX.out 2 _ rfl
    go_wp2_with fail
    refine (C4.out _).mono ?_
    rintro e w6 ⟨rfl, hb⟩
    replace HB := Lib.hid (HB.out.tr hb); clear hb k0 k1 k2 HX
    go_wp2_with fail
    refine (alive_any _).mono ?_
    rintro e w7 ⟨rfl, hb⟩
    replace HB := Lib.hid (HB.out.tr hb); clear hb
    go_wp2_with fail
    go_ret
    exact ⟨rfl, HB.out⟩
  · have hl' : decide ((bs.length : Int) > 1048576) = true := by simp; omega
    go_enter Try.func7, Try.ntmps7
    go_wp2_with fail
    go_ret
    exact ⟨rfl, Below.refl _ _⟩
set_option maxRecDepth 100000 in
theorem FnProgramValid_lifted (os : Os) (started : os.Started) (H : Type) (enc : TypeId × Value → H) :
    ReturnsInHanded {} Try.checked os 7 .any (Rows.fnProgramValidSpec.pre6 enc Try.prog Try.f7 Rows.fnProgramValidRow.domain false) (Rows.fnProgramValidSpec.post enc Try.prog Try.f7 false true false false) := by
  refine returnsInHanded_of_change (C := Try.checked) tryOwn started (by kernel_rfl) Try.func7
    (ChangeSpec.witness6 (enc := enc) (C := Try.checked) false ⟨#[], #[.slice none 0 0], []⟩ 8 (by kernel_rfl) (by kernel_rfl) (by kernel_rfl) (by kernel_rfl)) ?_
  intro W base args ds gs before hval0 hW hcnd _
  have hval : ∀ (j : Nat) t v, Try.f7.params[j]? = some t → args[j]? = some v → Value.okWide Try.prog W .any base t v := hval0
  have hW' := hW
  obtain ⟨p, q, hA0, hV, rfl, hfz, hnd⟩ := hW
  have hA : DataW.TrodAll enc Try.prog W 0 (fun _ => true) true Try.f7.params.toList args.toList ds p := hA0
  rw [Try.params7] at hA hval
  obtain ⟨v0, vs0, d0, ds0, p0, q0, hargs, rfl, rfl, h0, r0⟩ := trodAll_cons hA
  obtain ⟨rfl, rfl, rfl⟩ := trodAll_nil r0
  obtain rfl : args = #[v0] := by cases args; simp_all
  obtain ⟨rfl, rfl⟩ := trodVars_none hV
  have k0 := h0
  have lt0 : ∀ x ∈ p0, x.block < W.heap.size := by obtain ⟨m, hm⟩ := k0; exact DataW.trod_lt m _ _ _ hm
  obtain ⟨c0, len0, cap0, rfl⟩ := okWide_slice Try.underlying22 (hval 0 22 v0 rfl rfl)
  obtain ⟨n0, x0, t0⟩ := trod_of rfl h0
  obtain ⟨xs0, w0, g0⟩ := trod_bytes Try.underlying22 Try.underlying5 (by kernel_rfl) t0
  clear hA0 hval0
  refine (FnProgramValid_walk W _ xs0 w0 g0).mono fun e W' ⟨he, bel⟩ => ?_
  subst he
  exact ⟨_, rfl, _, _, _, [], _, [], hW', trodAll_mk1 (shut_bool Try.underlying4 _), (trodAll_cons_mk (Below.trod tryLaidOut (by kernel_rfl) (of_decide_eq_true (by kernel_rfl)) k0 bel lt0) trodAll_mk0), rfl, bel.frame _, fun h => by cases h⟩

theorem FnProgramValid_holds : Rows.FnProgramValidSaid :=
  OpenClaim.holds_of_wide 7 Try.f7 rfl rfl rfl rfl rfl rfl rfl ⟨rfl, rfl, rfl, rfl, rfl⟩ rfl rfl rfl rfl rfl (by kernel_rfl) Try.func7 (by kernel_rfl)
    (of_decide_eq_true (by kernel_rfl)) (by unfold Func.isWrapper; first | (rw [if_pos (by decide +kernel)]; kernel_rfl) | (rw [if_neg (by decide +kernel)]; exact ⟨rfl, rfl⟩))
    (fun os started H enc _ => FnProgramValid_lifted os started H enc)
end Go.Proofs.Ytddhnngaopjjnaa
