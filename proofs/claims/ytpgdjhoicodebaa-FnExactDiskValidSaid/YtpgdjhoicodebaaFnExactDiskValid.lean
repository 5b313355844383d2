/-
  The program's DiskValid returns what the reference's returns, for all arguments: no condition.
-/
import Derived.Test.YtpgdjhoicodebaaArgs2
import Derived.Test.YtpgdjhoicodebaaDiskV
namespace Go.Proofs.Ytpgdjhoicodebaa
open Go.ChangeShapes Go.WideShapes Go.ChangeAt Go.RowKit
set_option linter.unusedVariables false

set_option maxRecDepth 100000 in
set_option maxHeartbeats 4000000 in
theorem FnExactDiskValid_walk (w : World) (va : Value) (d : DiskD) (hv : RdDisk w va d) (hg : WfDisk d) :
    Calls Try.prog 13 #[va] w fun e w' => e = .returned (.bool true) ∧ Below w.heap.size w w' := by
  have HV := Lib.hid hv
  obtain ⟨v0, v1, rfl, h0, h1⟩ := hv
  obtain ⟨-, p0, c0, rfl, -, -, -⟩ := h0
  obtain ⟨-, p1, c1, rfl, -, -, -⟩ := h1
  clear hg
  have HB : Hid (Below w.heap.size w (w.alloc (.cells #[.slice p0 d.1.length c0, .slice p1 d.2.length c1] 45))) := Lib.hid ((Below.refl _ _).alloc (Nat.le_refl _) _)
  have X := Lib.hid (heap_alloc_new w (.cells #[.slice p0 d.1.length c0, .slice p1 d.2.length c1] 45))
  have hblt : w.heap.size < (w.alloc (.cells #[.slice p0 d.1.length c0, .slice p1 d.2.length c1] 45)).heap.size := by simp
  generalize hbo : diskOk d = bo
  have HBO := Lib.hid hbo; clear hbo
  by_cases hl : sizeDisk d ≤ 1048576
  · have S0 := Lib.hid (szDisk_ok _ _ d 1048576 (HV.out.keep HB.out) (by omega) (by omega))
    go_enter Try.func13, Try.ntmps13
    go_wp2_with fail
    refine S0.out.mono ?_
    rintro e w1 ⟨rfl, hb1⟩
    replace X := Lib.hid (box_keep X.out hb1); replace HB := Lib.hid (HB.out.tr hb1); clear hb1 S0
    have k0 := box_cell X.out 0 _ rfl; have k1 := box_cell X.out 1 _ rfl
    have hl2 : 0 ≤ (1048576 : Int) - (sizeDisk d : Int) := by omega
    go_wp2_with fail
    refine (toDisk_any _ _ d (HV.out.keep HB.out) (by omega)).mono ?_
    rintro e w2 ⟨s, rfl, hs, hb2⟩
    have HS := Lib.hid hs; replace X := Lib.hid (box_keep X.out hb2); replace HB := Lib.hid (HB.out.tr hb2); clear hs hb2 k0 k1
    go_wp2_with fail
    have c2 := specDiskValid_any _ _ d HS.out.rd
    rw [HBO.out] at c2
    refine c2.mono ?_
    clear c2
    rintro e w3 ⟨rfl, hb3⟩
    replace X := Lib.hid (box_keep X.out hb3); replace HB := Lib.hid (HB.out.tr hb3); clear hb3 HS
    have k0 := box_cell X.out 0 _ rfl; have k1 := box_cell X.out 1 _ rfl
    go_wp2_with fail
    refine (toDisk_any _ _ d (HV.out.keep HB.out) (by omega)).mono ?_
    rintro e w4 ⟨x, rfl, hx, hb4⟩
    have HX := Lib.hid hx; replace X := Lib.hid (box_keep X.out hb4); replace HB := Lib.hid (HB.out.tr hb4); clear hx hb4 k0 k1
    obtain ⟨x0, x1, mid, rfl, m1, m2, y0, y1⟩ := id HX.out
    obtain ⟨-, q0, e0, rfl, -, -, -⟩ := y0.rd
    obtain ⟨-, q1, e1, rfl, -, -, -⟩ := y1.rd
    clear y0 y1 m1 m2
    go_wp2_with fail
    have Y := Lib.hid (heap_alloc_new w4 (.cells #[.slice q0 d.1.length e0, .slice q1 d.2.length e1] 48))
    have hb5 : Below w4.heap.size w4 (w4.alloc (.cells #[.slice q0 d.1.length e0, .slice q1 d.2.length e1] 48)) := (Below.refl _ _).alloc (Nat.le_refl _) _
    have hylt : w4.heap.size < (w4.alloc (.cells #[.slice q0 d.1.length e0, .slice q1 d.2.length e1] 48)).heap.size := by simp
    replace X := Lib.hid (box_keep X.out hb5); replace HB := Lib.hid (HB.out.tr hb5); replace HX := Lib.hid (HX.out.keep hb5); clear hb5
    generalize (w4.alloc (.cells #[.slice q0 d.1.length e0, .slice q1 d.2.length e1] 48)) = w5 at *
    generalize w4.heap.size = Bx at *
    have c5 := implDiskValid_any w5 _ d HX.out.rd
    rw [HBO.out] at c5
    refine c5.mono ?_
    clear c5
    rintro e w6 ⟨rfl, hb6⟩
    replace X := Lib.hid (box_keep X.out hb6); replace Y := Lib.hid (box_keep Y.out hb6); replace HB := Lib.hid (HB.out.tr hb6); replace HX := Lib.hid (HX.out.keep hb6); clear hb6
    have k0 := box_cell X.out 0 _ rfl; have k1 := box_cell X.out 1 _ rfl
    have k2 := box_cell Y.out 0 _ rfl; have k3 := box_cell Y.out 1 _ rfl
    have hxlt := box_lt X.out
    have hylt2 := box_lt Y.out
    go_wp2_with fail
    go_region_held3 (fun w' => w'.cell? ⟨w.heap.size, 0, none⟩ = some (.slice p0 d.1.length c0) ∧ w'.cell? ⟨w.heap.size, 1, none⟩ = some (.slice p1 d.2.length c1) ∧ w'.cell? ⟨Bx, 0, none⟩ = some (.slice q0 d.1.length e0) ∧ w'.cell? ⟨Bx, 1, none⟩ = some (.slice q1 d.2.length e1)) (go_keep) (first
      | (go_at_call 41; refine (toDisk_any _ _ d (HV.out.keep HB.out.drew) (by omega)).mono ?_; rintro e w7 ⟨c, rfl, hc, hb7⟩; have HC := Lib.hid hc; have z0 := (hb7.cell (p := ⟨w.heap.size, 0, none⟩) hxlt).trans k0; have z1 := (hb7.cell (p := ⟨w.heap.size, 1, none⟩) hxlt).trans k1; have z2 := (hb7.cell (p := ⟨Bx, 0, none⟩) hylt2).trans k2; have z3 := (hb7.cell (p := ⟨Bx, 1, none⟩) hylt2).trans k3; replace HB := Lib.hid (HB.out.drew.tr hb7); replace HX := Lib.hid (HX.out.keep ((Below.refl _ _).drew.tr hb7)); clear hc)
      | (go_at_call 43; refine (eqDisk_same _ _ _ d HX.out.rd HC.out.rd).mono ?_; rintro e w8 ⟨rfl, hb8⟩; have y0 := (hb8.cell (p := ⟨w.heap.size, 0, none⟩) (World.block_lt_of_cell? _ _ z0)).trans z0; have y1 := (hb8.cell (p := ⟨w.heap.size, 1, none⟩) (World.block_lt_of_cell? _ _ z1)).trans z1; have y2 := (hb8.cell (p := ⟨Bx, 0, none⟩) (World.block_lt_of_cell? _ _ z2)).trans z2; have y3 := (hb8.cell (p := ⟨Bx, 1, none⟩) (World.block_lt_of_cell? _ _ z3)).trans z3; replace HB := Lib.hid (HB.out.tr hb8)))
    go_wp2_with fail
    go_ret
    exact ⟨rfl, HB.out⟩
  · have S0 := Lib.hid (szDisk_no _ _ d 1048576 (HV.out.keep HB.out) (by omega) (by omega) (by omega))
    go_enter Try.func13, Try.ntmps13
    go_wp2_with fail
    refine S0.out.mono ?_
    rintro e w1 ⟨rfl, hb1⟩
    replace HB := Lib.hid (HB.out.tr hb1); clear hb1 S0
    go_wp2_with fail
    go_ret
    exact ⟨rfl, HB.out⟩
set_option maxRecDepth 100000 in
theorem FnExactDiskValid_lifted (os : Os) (started : os.Started) (H : Type) (enc : TypeId × Value → H) :
    ReturnsInHanded {} Try.checked os 13 .any (Rows.fnExactDiskValidSpec.pre6 enc Try.prog Try.f13 Rows.fnExactDiskValidRow.domain false) (Rows.fnExactDiskValidSpec.post enc Try.prog Try.f13 false true false false) := by
  refine returnsInHanded_of_change (C := Try.checked) tryOwn started (by kernel_rfl) Try.func13
    (ChangeSpec.witness6 (enc := enc) (C := Try.checked) false ⟨#[], #[.agg #[.slice none 0 0, .slice none 0 0]], []⟩ 8 (by kernel_rfl) (by kernel_rfl) (by kernel_rfl) (by kernel_rfl)) ?_
  intro W base args ds gs before hval0 hW hcnd _
  have hval : ∀ (j : Nat) t v, Try.f13.params[j]? = some t → args[j]? = some v → Value.okWide Try.prog W .any base t v := hval0
  have hW' := hW
  obtain ⟨p, q, hA0, hV, rfl, hfz, hnd⟩ := hW
  have hA : DataW.TrodAll enc Try.prog W 0 (fun _ => true) true Try.f13.params.toList args.toList ds p := hA0
  rw [Try.params13] at hA hval
  obtain ⟨v0, vs0, d0, ds0, p0, q0, hargs, rfl, rfl, h0, r0⟩ := trodAll_cons hA
  obtain ⟨rfl, rfl, rfl⟩ := trodAll_nil r0
  obtain rfl : args = #[v0] := by cases args; simp_all
  obtain ⟨rfl, rfl⟩ := trodVars_none hV
  have k0 := h0
  have lt0 : ∀ x ∈ p0, x.block < W.heap.size := by obtain ⟨m, hm⟩ := k0; exact DataW.trod_lt m _ _ _ hm
  obtain ⟨y0, w0, g0⟩ := open_disk Try.underlying45 (by kernel_rfl) (by kernel_rfl) Try.underlying31 Try.underlying31 Try.underlying3 (by kernel_rfl) (hval 0 45 v0 rfl rfl) h0
  clear hA0 hval0
  refine (FnExactDiskValid_walk W _ y0 w0 g0).mono fun e W' ⟨he, bel⟩ => ?_
  subst he
  exact ⟨_, rfl, _, _, _, [], _, [], hW', trodAll_mk1 (shut_bool Try.underlying4 _), (trodAll_cons_mk (Below.trod tryLaidOut (by kernel_rfl) (of_decide_eq_true (by kernel_rfl)) k0 bel lt0) trodAll_mk0), rfl, bel.frame _, fun h => by cases h⟩

theorem FnExactDiskValid_holds : Rows.FnExactDiskValidSaid :=
  OpenClaim.holds_of_wide 13 Try.f13 rfl rfl rfl rfl rfl rfl rfl ⟨rfl, rfl, rfl, rfl, rfl⟩ rfl rfl rfl rfl rfl (by kernel_rfl) Try.func13 (by kernel_rfl)
    (of_decide_eq_true (by kernel_rfl)) (by unfold Func.isWrapper; first | (rw [if_pos (by decide +kernel)]; kernel_rfl) | (rw [if_neg (by decide +kernel)]; exact ⟨rfl, rfl⟩))
    (fun os started H enc _ => FnExactDiskValid_lifted os started H enc)
end Go.Proofs.Ytpgdjhoicodebaa
