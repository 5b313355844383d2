/-
  Values are those of messages: those of all vertices together are as many as messages: for every code: no condition.
-/
import Derived.Test.YtddhnngaopjjnaaArgs
import Derived.Test.YtddhnngaopjjnaaDrawM
import Derived.Test.YtddhnngaopjjnaaSame
import Derived.Test.YtddhnngaopjjnaaBytes
namespace Go.Proofs.Ytddhnngaopjjnaa
open Go.ChangeShapes Go.WideShapes Go.ChangeAt Go.RowKit
set_option linter.unusedVariables false

/-- How many values the first j vertices have together. -/
def valSum (ys : List Tri) : Nat → Nat
  | 0 => 0
  | j + 1 => valSum ys j + (valuesFor ys (j : Int)).length
theorem valsTo_count (ys : List Tri) (v : Int) : (valsTo ys v).length = ys.countP fun y => y.1 == v := by
  rw [valsTo, List.length_map, List.countP_eq_length_filter]
theorem count_below (ys : List Tri) (j : Nat) : (ys.countP fun y => decide (0 ≤ y.1 ∧ y.1 < ((j + 1 : Nat) : Int))) = (ys.countP fun y => decide (0 ≤ y.1 ∧ y.1 < (j : Int))) + ys.countP fun y => y.1 == (j : Int) := by
  induction ys with
  | nil => rfl
  | cons y ys ih =>
    simp only [List.countP_cons, ih]
    by_cases h1 : y.1 = (j : Int)
    · have a : decide (0 ≤ y.1 ∧ y.1 < ((j + 1 : Nat) : Int)) = true := by simp; omega
      have b : decide (0 ≤ y.1 ∧ y.1 < (j : Int)) = false := by simp; omega
      have c : (y.1 == (j : Int)) = true := by simp [h1]
      rw [a, b, c]; simp; omega
    · have c : (y.1 == (j : Int)) = false := by simp [h1]
      by_cases h2 : 0 ≤ y.1 ∧ y.1 < (j : Int)
      · have a : decide (0 ≤ y.1 ∧ y.1 < ((j + 1 : Nat) : Int)) = true := by simp; omega
        have b : decide (0 ≤ y.1 ∧ y.1 < (j : Int)) = true := by simp; omega
        rw [a, b, c]; simp; omega
      · have a : decide (0 ≤ y.1 ∧ y.1 < ((j + 1 : Nat) : Int)) = false := by simp; omega
        have b : decide (0 ≤ y.1 ∧ y.1 < (j : Int)) = false := by simp; omega
        rw [a, b, c]; simp
theorem valSum_all (ys : List Tri) (h : MsgsOk 4 ys) : valSum ys 16 = ys.length := by
  have e : ∀ v, valuesFor ys v = valsTo ys v := fun v => by rw [valuesFor, if_pos (by have := h.1; omega)]
  have hs : ∀ j, valSum ys j = ys.countP fun y => decide (0 ≤ y.1 ∧ y.1 < (j : Int)) := by
    intro j
    induction j with
    | zero => rw [valSum, Eq.comm, List.countP_eq_zero]; intro y _; simp
    | succ j ih => rw [valSum, ih, e, valsTo_count, count_below]
  rw [hs, List.countP_eq_length]
  intro y hy
  have := h.2 y hy
  simp; omega
theorem valSum_le (ys : List Tri) (j : Nat) : valSum ys j ≤ j * ys.length := by
  induction j with
  | zero => simp [valSum]
  | succ j ih => have := valuesFor_length ys (j : Int); rw [valSum, Nat.succ_mul]; omega

set_option maxRecDepth 100000 in
set_option maxHeartbeats 4000000 in
theorem FnValuesFor_walk (w : World) (va : Value) (bs : List Int) (hv : Rd w 1 va bs.length (bys bs)) (hx : ∀ x ∈ bs, 0 ≤ x ∧ x ≤ 255) :
    Calls Try.prog 5 #[va] w fun e w' => e = .returned (.bool true) ∧ Below w.heap.size w w' := by
  have HDR := Lib.hid (DrawValuesFor_any w va bs hv hx)
  obtain ⟨hlb, av, acap, rfl, hcap, hmc, hcell⟩ := hv
  clear hlb hcap hmc hcell hx
  by_cases hl : bs.length ≤ 1048576
  · have hl' : decide ((bs.length : Int) > 1048576) = false := by simp; omega
    go_enter Try.func5, Try.ntmps5
    go_wp2_with fail
    refine HDR.out.mono ?_
    rintro e w1 ⟨v, ys, q, rfl, hr, hok, hq, hb1⟩
    have HB := Lib.hid hb1; have HR := Lib.hid hr
    obtain ⟨a, ca, rfl, hca, hma⟩ := hr.form
    clear hb1 HDR hl hl' hr
    have hn8 := hok.1
    have HI := Lib.hid fun wx y h => implValuesFor_any wx (.slice a ys.length ca) ys y h
    have HSP := Lib.hid fun wx h => specValuesFor_any wx (.slice a ys.length ca) ys q h
    have HALL := Lib.hid (valSum_all ys hok)
    have HLE := Lib.hid fun y => valuesFor_length ys y
    have HSL := Lib.hid fun j => valSum_le ys j
    clear hok
    have hxl := HLE.out q
    go_wp2_with fail
    refine (HI.out _ q HR.out).mono ?_
    rintro e w2 ⟨v2, rfl, ho2, hb2⟩
    have HO := Lib.hid ho2; replace HB := Lib.hid (HB.out.tr hb2); replace HR := Lib.hid (HR.out.keep hb2); clear ho2 hb2
    obtain ⟨a2, c2, rfl, hc2, hm2⟩ := HO.out.rd.form
    go_wp2_with fail
    refine (HSP.out _ HR.out).mono ?_
    rintro e w3 ⟨v3, rfl, ho3, hb3⟩
    have HO3 := Lib.hid ho3; replace HB := Lib.hid (HB.out.tr hb3); replace HO := Lib.hid (HO.out.rd.keep hb3); replace HR := Lib.hid (HR.out.keep hb3); clear ho3 hb3
    go_wp2_with fail
    refine (sameInts_same _ _ _ _ HO.out HO3.out.rd).mono ?_
    rintro e w4 ⟨rfl, hb4⟩
    replace HB := Lib.hid (HB.out.tr hb4); replace HR := Lib.hid (HR.out.keep hb4); clear hb4 HO3 HSP HO
    generalize (valuesFor ys q).length = xl at *
    generalize hn : ys.length = n at *
    have HN := Lib.hid hn; clear hn
    go_wp2_with fail
    go_loopw [6, 7] (fun s i wr => ∃ j : Nat, j ≤ 16 ∧ i = .int .i64 j ∧ s = .int .i64 (valSum ys j : Int) ∧ Hid (Rd wr 3 (.slice a n ca) n (tris ys)) ∧ Hid (Below w.heap.size w wr)) (fun _ i _ => 16 - (intOf i).toNat)
    case atStart => exact ⟨0, Nat.zero_le _, rfl, rfl, HR, HB⟩
    case round =>
      clear HB HR
      obtain ⟨j, hj, rfl, rfl, HR, HB⟩ := hrel
      by_cases hlt : j < 16
      · have hs1 := HSL.out j
        have hs3 : j * n ≤ 16 * n := Nat.mul_le_mul_right _ (by omega)
        have hs2 := HLE.out (j : Int)
        have HE : Hid (valSum ys (j + 1) = valSum ys j + (valuesFor ys (j : Int)).length) := Lib.hid rfl
        have C := Lib.hid fun wx h => HI.out wx (j : Int) h
        generalize valuesFor ys (j : Int) = zs at *
        generalize valSum ys j = s0 at *
        generalize j * n = jn at *
        go_wp2_with fail
        refine (C.out _ HR.out).mono ?_
        rintro e w7 ⟨v7, rfl, ho7, hb7⟩
        obtain ⟨a7, c7, rfl, _, _⟩ := ho7.rd.form
        replace HB := Lib.hid (HB.out.tr hb7); replace HR := Lib.hid (HR.out.keep hb7); clear ho7 hb7
        go_wp2_with fail
        go_roundw
        case rel => exact ⟨j + 1, by omega, by go_num, by rw [HE.out]; go_num, HR, HB⟩
        case measure => simp [intOf]; omega
      · obtain rfl : j = 16 := by omega
        have h16 := HALL.out
        rw [h16]
        clear h16
        go_wp2_with fail
        refine (alive_any _).mono ?_
        rintro e w8 ⟨rfl, hb8⟩
        replace HB := Lib.hid (HB.out.tr hb8); clear hb8
        go_wp2_with fail
        go_ret
        exact ⟨rfl, HB.out⟩
  · have hl' : decide ((bs.length : Int) > 1048576) = true := by simp; omega
    go_enter Try.func5, Try.ntmps5
    go_wp2_with fail
    go_ret
    exact ⟨rfl, Below.refl _ _⟩
set_option maxRecDepth 100000 in
theorem FnValuesFor_lifted (os : Os) (started : os.Started) (H : Type) (enc : TypeId × Value → H) :
    ReturnsInHanded {} Try.checked os 5 .any (Rows.fnValuesForSpec.pre6 enc Try.prog Try.f5 Rows.fnValuesForRow.domain false) (Rows.fnValuesForSpec.post enc Try.prog Try.f5 false true false false) := by
  refine returnsInHanded_of_change (C := Try.checked) tryOwn started (by kernel_rfl) Try.func5
    (ChangeSpec.witness6 (enc := enc) (C := Try.checked) false ⟨#[], #[.slice none 0 0], []⟩ 8 (by kernel_rfl) (by kernel_rfl) (by kernel_rfl) (by kernel_rfl)) ?_
  intro W base args ds gs before hval0 hW hcnd _
  have hval : ∀ (j : Nat) t v, Try.f5.params[j]? = some t → args[j]? = some v → Value.okWide Try.prog W .any base t v := hval0
  have hW' := hW
  obtain ⟨p, q, hA0, hV, rfl, hfz, hnd⟩ := hW
  have hA : DataW.TrodAll enc Try.prog W 0 (fun _ => true) true Try.f5.params.toList args.toList ds p := hA0
  rw [Try.params5] at hA hval
  obtain ⟨v0, vs0, d0, ds0, p0, q0, hargs, rfl, rfl, h0, r0⟩ := trodAll_cons hA
  obtain ⟨rfl, rfl, rfl⟩ := trodAll_nil r0
  obtain rfl : args = #[v0] := by cases args; simp_all
  obtain ⟨rfl, rfl⟩ := trodVars_none hV
  have k0 := h0
  have lt0 : ∀ x ∈ p0, x.block < W.heap.size := by obtain ⟨m, hm⟩ := k0; exact DataW.trod_lt m _ _ _ hm
  obtain ⟨c0, len0, cap0, rfl⟩ := okWide_slice Try.underlying22 (hval 0 22 v0 rfl rfl)
  obtain ⟨n0, x0, t0⟩ := trod_of rfl h0
  obtain ⟨xs0, w0, g0⟩ := trod_bytes Try.underlying22 Try.underlying5 (by kernel_rfl) t0
  clear hA0 hval0
  refine (FnValuesFor_walk W _ xs0 w0 g0).mono fun e W' ⟨he, bel⟩ => ?_
  subst he
  exact ⟨_, rfl, _, _, _, [], _, [], hW', trodAll_mk1 (shut_bool Try.underlying4 _), (trodAll_cons_mk (Below.trod tryLaidOut (by kernel_rfl) (of_decide_eq_true (by kernel_rfl)) k0 bel lt0) trodAll_mk0), rfl, bel.frame _, fun h => by cases h⟩

theorem FnValuesFor_holds : Rows.FnValuesForSaid :=
  OpenClaim.holds_of_wide 5 Try.f5 rfl rfl rfl rfl rfl rfl rfl ⟨rfl, rfl, rfl, rfl, rfl⟩ rfl rfl rfl rfl rfl (by kernel_rfl) Try.func5 (by kernel_rfl)
    (of_decide_eq_true (by kernel_rfl)) (by unfold Func.isWrapper; first | (rw [if_pos (by decide +kernel)]; kernel_rfl) | (rw [if_neg (by decide +kernel)]; exact ⟨rfl, rfl⟩))
    (fun os started H enc _ => FnValuesFor_lifted os started H enc)
end Go.Proofs.Ytddhnngaopjjnaa
