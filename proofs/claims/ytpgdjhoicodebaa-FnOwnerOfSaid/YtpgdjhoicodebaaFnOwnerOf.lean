/-
  With one worker it owns everything; the owner has a number of a worker: for every code: no condition.
-/
import Derived.Test.YtpgdjhoicodebaaArgs
import Derived.Test.YtpgdjhoicodebaaDraws
import Derived.Test.YtpgdjhoicodebaaBytes
namespace Go.Proofs.Ytpgdjhoicodebaa
open Go.ChangeShapes Go.WideShapes Go.ChangeAt Go.RowKit
set_option linter.unusedVariables false

set_option maxRecDepth 100000 in
set_option maxHeartbeats 4000000 in
theorem FnOwnerOf_walk (w : World) (va : Value) (bs : List Int) (hv : Rd w 1 va bs.length (bys bs)) (hx : ∀ x ∈ bs, 0 ≤ x ∧ x ≤ 255) :
    Calls Try.prog 14 #[va] w fun e w' => e = .returned (.bool true) ∧ Below w.heap.size w w' := by
  have HDR := Lib.hid (DrawOwnerOf_any w va bs hv hx)
  obtain ⟨hlb, av, acap, rfl, hcap, hmc, hcell⟩ := hv
  clear hlb hcap hmc hcell hx
  by_cases hl : bs.length ≤ 1048576
  · have hl' : decide ((bs.length : Int) > 1048576) = false := by simp; omega
    go_enter Try.func14, Try.ntmps14
    go_wp2_with fail
    refine HDR.out.mono ?_
    rintro e w1 ⟨v, k, rfl, v0, v1, k0, k1, hb1⟩
    have HB1 := Lib.hid hb1
    clear hb1 HDR hl hl'
    have h1 := implOwnerOf_any v k
    have h2 := specOwnerOf_any v k
    by_cases hin : 0 ≤ v ∧ v ≤ 15 ∧ 1 ≤ k ∧ k ≤ 6
    · have e1 : ownerOf v k = ownerF v k := by rw [ownerOf, if_pos hin]
      have e2 : ownerOf v 1 = 0 := by rw [ownerOf, if_pos ⟨hin.1, hin.2.1, by omega, by omega⟩, ownerF, Int.emod_one]
      have h3 := implOwnerOf_any v 1
      rw [e2] at h3
      rw [e1] at h1 h2
      obtain ⟨r0, r1⟩ := ownerF_rng v k hin.2.2.1
      generalize ownerF v k = o at *
      have H1 := Lib.hid h1; have H2 := Lib.hid h2; have H3 := Lib.hid h3
      clear h1 h2 h3 e1 e2 hin
      go_wp2_with fail
      refine (H1.out _).mono ?_
      rintro e w2 ⟨rfl, hb2⟩
      go_wp2_with fail
      refine (H2.out _).mono ?_
      rintro e w' ⟨rfl, rfl⟩
      have HB2 := Lib.hid (HB1.out.tr hb2); clear hb2
      go_wp2_with fail
      refine (H3.out _).mono ?_
      rintro e w3 ⟨rfl, hb3⟩
      have HB3 := Lib.hid (HB2.out.tr hb3); clear hb3
      go_wp2_with fail
      go_ret
      exact ⟨rfl, HB3.out⟩
    · have e1 : ownerOf v k = -1 := by rw [ownerOf, if_neg hin]
      rw [e1] at h1 h2
      have H1 := Lib.hid h1; have H2 := Lib.hid h2
      clear h1 h2 e1 hin
      go_wp2_with fail
      refine (H1.out _).mono ?_
      rintro e w2 ⟨rfl, hb2⟩
      go_wp2_with fail
      refine (H2.out _).mono ?_
      rintro e w' ⟨rfl, rfl⟩
      have HB2 := Lib.hid (HB1.out.tr hb2); clear hb2
      go_wp2_with fail
      refine (alive_any _).mono ?_
      rintro e w3 ⟨rfl, hb3⟩
      have HB3 := Lib.hid (HB2.out.tr hb3); clear hb3
      go_wp2_with fail
      go_ret
      exact ⟨rfl, HB3.out⟩
  · have hl' : decide ((bs.length : Int) > 1048576) = true := by simp; omega
    go_enter Try.func14, Try.ntmps14
    go_wp2_with fail
    go_ret
    exact ⟨rfl, Below.refl _ _⟩
set_option maxRecDepth 100000 in
theorem FnOwnerOf_lifted (os : Os) (started : os.Started) (H : Type) (enc : TypeId × Value → H) :
    ReturnsInHanded {} Try.checked os 14 .any (Rows.fnOwnerOfSpec.pre6 enc Try.prog Try.f14 Rows.fnOwnerOfRow.domain false) (Rows.fnOwnerOfSpec.post enc Try.prog Try.f14 false true false false) := by
  refine returnsInHanded_of_change (C := Try.checked) tryOwn started (by kernel_rfl) Try.func14
    (ChangeSpec.witness6 (enc := enc) (C := Try.checked) false ⟨#[], #[.slice none 0 0], []⟩ 8 (by kernel_rfl) (by kernel_rfl) (by kernel_rfl) (by kernel_rfl)) ?_
  intro W base args ds gs before hval0 hW hcnd _
  have hval : ∀ (j : Nat) t v, Try.f14.params[j]? = some t → args[j]? = some v → Value.okWide Try.prog W .any base t v := hval0
  have hW' := hW
  obtain ⟨p, q, hA0, hV, rfl, hfz, hnd⟩ := hW
  have hA : DataW.TrodAll enc Try.prog W 0 (fun _ => true) true Try.f14.params.toList args.toList ds p := hA0
  rw [Try.params14] at hA hval
  obtain ⟨v0, vs0, d0, ds0, p0, q0, hargs, rfl, rfl, h0, r0⟩ := trodAll_cons hA
  obtain ⟨rfl, rfl, rfl⟩ := trodAll_nil r0
  obtain rfl : args = #[v0] := by cases args; simp_all
  obtain ⟨rfl, rfl⟩ := trodVars_none hV
  have k0 := h0
  have lt0 : ∀ x ∈ p0, x.block < W.heap.size := by obtain ⟨m, hm⟩ := k0; exact DataW.trod_lt m _ _ _ hm
  obtain ⟨c0, len0, cap0, rfl⟩ := okWide_slice Try.underlying39 (hval 0 39 v0 rfl rfl)
  obtain ⟨n0, x0, t0⟩ := trod_of rfl h0
  obtain ⟨xs0, w0, g0⟩ := trod_bytes Try.underlying39 Try.underlying5 (by kernel_rfl) t0
  clear hA0 hval0
  refine (FnOwnerOf_walk W _ xs0 w0 g0).mono fun e W' ⟨he, bel⟩ => ?_
  subst he
  exact ⟨_, rfl, _, _, _, [], _, [], hW', trodAll_mk1 (shut_bool Try.underlying4 _), (trodAll_cons_mk (Below.trod tryLaidOut (by kernel_rfl) (of_decide_eq_true (by kernel_rfl)) k0 bel lt0) trodAll_mk0), rfl, bel.frame _, fun h => by cases h⟩

theorem FnOwnerOf_holds : Rows.FnOwnerOfSaid :=
  OpenClaim.holds_of_wide 14 Try.f14 rfl rfl rfl rfl rfl rfl rfl ⟨rfl, rfl, rfl, rfl, rfl⟩ rfl rfl rfl rfl rfl (by kernel_rfl) Try.func14 (by kernel_rfl)
    (of_decide_eq_true (by kernel_rfl)) (by unfold Func.isWrapper; first | (rw [if_pos (by decide +kernel)]; kernel_rfl) | (rw [if_neg (by decide +kernel)]; exact ⟨rfl, rfl⟩))
    (fun os started H enc _ => FnOwnerOf_lifted os started H enc)
end Go.Proofs.Ytpgdjhoicodebaa
