/-
  A crash keeps what was safe and a beginning of the rest: for every code: no condition.
-/
import Derived.Test.YtdflpildopefaaaArgs
import Derived.Test.YtdflpildopefaaaDrawL
import Derived.Test.YtdflpildopefaaaDiskC
import Derived.Test.YtdflpildopefaaaDiskR
import Derived.Test.YtdflpildopefaaaRowS
import Derived.Deep.RegionHeld3
import Derived.Test.YtdflpildopefaaaFacts
namespace Go.Proofs.Ytdflpildopefaaa
open Go.ChangeShapes Go.WideShapes Go.ChangeAt Go.RowKit
set_option linter.unusedVariables false

theorem RdDisk.one {w : World} {v0 v1 : Value} {d : DiskD} (h : RdDisk w (.agg #[v0, v1]) d) : Rd w 1 v0 d.1.length (ints d.1) := by
  obtain ⟨u0, u1, e, h0, h1⟩ := h
  obtain ⟨rfl, rfl⟩ : v0 = u0 ∧ v1 = u1 := by simpa using e
  exact h0

set_option maxRecDepth 100000 in
set_option maxHeartbeats 4000000 in
theorem FnDiskCrash_walk (w : World) (va : Value) (bs : List Int) (hv : Rd w 1 va bs.length (bys bs)) (hx : ∀ x ∈ bs, 0 ≤ x ∧ x ≤ 255) :
    Calls Try.prog 8 #[va] w fun e w' => e = .returned (.bool true) ∧ Below w.heap.size w w' := by
  have HDR := Lib.hid (DrawDiskCrash_any w va bs hv hx)
  obtain ⟨hlb, av, acap, rfl, hcap, hmc, hcell⟩ := hv
  clear hlb hcap hmc hcell hx
  by_cases hl : bs.length ≤ 1048576
  case neg =>
    have hl' : decide ((bs.length : Int) > 1048576) = true := by simp; omega
    go_enter Try.func8, Try.ntmps8
    go_wp2_with fail
    go_ret
    exact ⟨rfl, Below.refl _ _⟩
  case pos =>
  have hl' : decide ((bs.length : Int) > 1048576) = false := by simp; omega
  go_enter Try.func8, Try.ntmps8
  go_wp2_with fail
  refine HDR.out.mono ?_
  rintro e w1 ⟨v, d, keep, rfl, hr, hl0, hl1, hk64, hb1⟩
  obtain ⟨v0, v1, rfl, h0, h1⟩ := id hr
  obtain ⟨p0, c0, rfl, -, -⟩ := h0.form
  obtain ⟨p1, c1, rfl, -, -⟩ := h1.form
  have hA : Below w1.heap.size w1 (w1.alloc (.cells #[.slice p0 d.1.length c0, .slice p1 d.2.length c1] 25)) := (Below.refl _ _).alloc (Nat.le_refl _) _
  have HB := Lib.hid (hb1.tr hA); have HR := Lib.hid (hr.keep hA); have X := Lib.hid (heap_alloc_new w1 (.cells #[.slice p0 d.1.length c0, .slice p1 d.2.length c1] 25))
  have hs2 : (w1.alloc (.cells #[.slice p0 d.1.length c0, .slice p1 d.2.length c1] 25)).heap.size = w1.heap.size + 1 := by simp
  clear hA hb1 hr h0 h1 HDR hl'
  have hsz : sizeDisk d ≤ 1099511627776 := by unfold sizeDisk; omega
  go_wp2_with fail
  generalize (w1.alloc (.cells #[.slice p0 d.1.length c0, .slice p1 d.2.length c1] 25)) = w2 at *
  have HI := implDiskCrash_any w2 _ d keep hk64 HR.out
  have HSP := fun wx vx h => specDiskCrash_any wx vx d keep hk64 h hsz
  have hSd := Lib.hid (rfl : crashD d keep = crashD d keep)
  generalize hS : crashD d keep = S at HI HSP
  replace HSP := Lib.hid HSP
  clear hSd
  replace hS := Lib.hid hS
  refine HI.mono ?_
  rintro e w3 ⟨v, rfl, ho, hb3⟩
  have ho := ho.rd
  obtain ⟨x0, x1, rfl, y0, y1⟩ := id ho
  obtain ⟨q0, e0, rfl, -, -⟩ := y0.form
  obtain ⟨q1, e1, rfl, -, -⟩ := y1.form
  have hA := hb3.tr ((Below.refl w3.heap.size w3).alloc (Nat.le_refl _) (.cells #[.slice q0 S.1.length e0, .slice q1 S.2.length e1] 25))
  have Y := Lib.hid (heap_alloc_new w3 (.cells #[.slice q0 S.1.length e0, .slice q1 S.2.length e1] 25))
  have HX := Lib.hid (ho.keep ((Below.refl w3.heap.size w3).alloc (Nat.le_refl _) (.cells #[.slice q0 S.1.length e0, .slice q1 S.2.length e1] 25)))
  replace X := Lib.hid (box_keep X.out hA); replace HB := Lib.hid (HB.out.tr hA); replace HR := Lib.hid (HR.out.keep hA)
  clear hA ho y0 y1 hb3 HI
  have k0 := box_cell X.out 0 _ rfl; have k1 := box_cell X.out 1 _ rfl; have k2 := box_cell Y.out 0 _ rfl; have k3 := box_cell Y.out 1 _ rfl
  go_wp2_with fail
  generalize (w3.alloc (.cells #[.slice q0 S.1.length e0, .slice q1 S.2.length e1] 25)) = w4 at *
  have hm : Try.prog.follows .mixedOrders = true := by kernel_rfl
  go_region_held3 (fun w' => w'.cell? ⟨w1.heap.size, 0, none⟩ = some (.slice p0 d.1.length c0) ∧ w'.cell? ⟨w1.heap.size, 1, none⟩ = some (.slice p1 d.2.length c1) ∧ w'.cell? ⟨w3.heap.size, 0, none⟩ = some (.slice q0 S.1.length e0) ∧ w'.cell? ⟨w3.heap.size, 1, none⟩ = some (.slice q1 S.2.length e1)) (go_keep) (first
    | (go_at_call 42; refine (HSP.out _ _ (HR.out.keep (Below.refl _ _).drew)).mono ?_; rintro e w5 ⟨v5, rfl, ho5, hb5⟩; have HV5 := Lib.hid ho5.rd; have BD := Lib.hid ((Below.refl w4.heap.size w4).drew.tr hb5); clear ho5 hb5; have z0 := box_cell (box_keep X.out BD.out) 0 _ rfl; have z1 := box_cell (box_keep X.out BD.out) 1 _ rfl; have z2 := box_cell (box_keep Y.out BD.out) 0 _ rfl; have z3 := box_cell (box_keep Y.out BD.out) 1 _ rfl)
    | (go_at_call 41; refine (sameDisk_same _ _ _ S (HX.out.keep BD.out) HV5.out).mono ?_; rintro e w6 ⟨rfl, hb6⟩; replace BD := Lib.hid (BD.out.tr hb6); clear hb6; replace X := Lib.hid (box_keep X.out BD.out); replace Y := Lib.hid (box_keep Y.out BD.out); replace HB := Lib.hid (HB.out.tr BD.out); replace HR := Lib.hid (HR.out.keep BD.out); replace HX := Lib.hid (HX.out.keep BD.out); have y0 := box_cell X.out 0 _ rfl; have y1 := box_cell X.out 1 _ rfl; have y2 := box_cell Y.out 0 _ rfl; have y3 := box_cell Y.out 1 _ rfl))
  clear k0 k1 k2 k3 z0 z1 z2 z3 BD HV5 HSP
  have HV := specDiskValid_any _ _ d HR.out
  go_wp2_with fail
  refine HV.mono ?_
  rintro e w5 ⟨rfl, hb5⟩
  replace X := Lib.hid (box_keep X.out hb5); replace Y := Lib.hid (box_keep Y.out hb5); replace HB := Lib.hid (HB.out.tr hb5); replace HR := Lib.hid (HR.out.keep hb5); replace HX := Lib.hid (HX.out.keep hb5)
  clear hb5 HV y0 y1 y2 y3
  have k0 := box_cell X.out 0 _ rfl; have k1 := box_cell X.out 1 _ rfl; have k2 := box_cell Y.out 0 _ rfl; have k3 := box_cell Y.out 1 _ rfl
  by_cases hok : diskOk d = true ∧ 0 ≤ keep
  · obtain ⟨hok, hk0⟩ := hok
    have hkn : decide (keep < 0) = false := by simp; omega
    rw [hok]
    have hSe : Hid (S = (d.1 ++ d.2.take keep.toNat, [])) := Lib.hid (by rw [← hS.out, crashD_yes hok hk0])
    have HSY := implDiskSync_any _ _ d HR.out
    have hAe : Hid (syncD d = (d.1 ++ d.2, [])) := Lib.hid (syncD_yes hok)
    go_wp2_with fail
    generalize hA : syncD d = A at HSY hAe
    replace hA := Lib.hid hA
    refine HSY.mono ?_
    rintro e w6 ⟨v, rfl, ho, hb6⟩
    have ho := ho.rd
    obtain ⟨x0, x1, rfl, g0, g1⟩ := id ho
    obtain ⟨r0, f0, rfl, hrf, -⟩ := g0.form
    obtain ⟨r1, f1, rfl, -, -⟩ := g1.form
    have hB := hb6.tr ((Below.refl w6.heap.size w6).alloc (Nat.le_refl _) (.cells #[.slice r0 A.1.length f0, .slice r1 A.2.length f1] 25))
    have Z := Lib.hid (heap_alloc_new w6 (.cells #[.slice r0 A.1.length f0, .slice r1 A.2.length f1] 25))
    have HA := Lib.hid (ho.keep ((Below.refl w6.heap.size w6).alloc (Nat.le_refl _) (.cells #[.slice r0 A.1.length f0, .slice r1 A.2.length f1] 25)))
    replace X := Lib.hid (box_keep X.out hB); replace Y := Lib.hid (box_keep Y.out hB); replace HB := Lib.hid (HB.out.tr hB); replace HR := Lib.hid (HR.out.keep hB); replace HX := Lib.hid (HX.out.keep hB)
    clear hB ho g0 g1 hb6 HSY k0 k1 k2 k3
    have k0 := box_cell X.out 0 _ rfl; have k1 := box_cell X.out 1 _ rfl; have k2 := box_cell Y.out 0 _ rfl; have k3 := box_cell Y.out 1 _ rfl; have k4 := box_cell Z.out 0 _ rfl; have k5 := box_cell Z.out 1 _ rfl
    have ht0 : ((S.2.length : Int) == 0) = true := by rw [hSe.out]; rfl
    have hSl : S.1.length = d.1.length + min keep.toNat d.2.length := by rw [hSe.out]; simp
    have hAl : A.1.length = d.1.length + d.2.length := by rw [hAe.out]; simp
    have hSA : S.1 = A.1.take S.1.length := by
      rw [hAe.out, hSe.out]; exact List.prefix_iff_eq_take.1 ((List.prefix_append_right_inj d.1).2 (List.take_prefix keep.toNat d.2))
    have hle : S.1.length ≤ A.1.length := by omega
    have ht1 : decide (d.1.length ≤ S.1.length) = true := by simp; omega
    have ht2 : decide (S.1.length ≤ A.1.length) = true := by simp; omega
    have ht3 : min keep (d.2.length : Int) = ((min keep.toNat d.2.length : Nat) : Int) := by omega
    have HSI : Hid (∀ wx, RdDisk wx (.agg #[.slice q0 S.1.length e0, .slice q1 S.2.length e1]) S → RdDisk wx (.agg #[.slice r0 A.1.length f0, .slice r1 A.2.length f1]) A → Calls Try.prog 23 #[.slice q0 S.1.length e0, .slice r0 S.1.length f0] wx fun e w' => e = .returned (.bool true) ∧ Below wx.heap.size wx w') := Lib.hid fun wx h1 h2 => by
      have h3 := h2.one.take S.1.length hle
      have h4 : (ints A.1).take (S.1.length * 1) = ints S.1 := by rw [Nat.mul_one]; show (A.1.map _).take _ = _; rw [← List.map_take, ← hSA]; rfl
      rw [h4] at h3
      exact sameInts_same wx _ _ S.1 h1.one h3
    have hmc : S.1.length ≤ f0 := by omega
    replace hSl := Lib.hid hSl; replace hAl := Lib.hid hAl; replace hSA := Lib.hid hSA; replace ht3 := Lib.hid ht3
    go_wp2_with fail
    generalize (w6.alloc (.cells #[.slice r0 A.1.length f0, .slice r1 A.2.length f1] 25)) = w7 at *
    have CI := Lib.hid fun wx (h : Below w7.heap.size w7 wx) => HSI.out wx (HX.out.keep h) (HA.out.keep h)
    clear hSe hAe hSA hAl ht3 HSI
    have g0 := fun p => GrownW.cell (B := w7.heap.size) k0 (World.block_lt_of_cell? _ _ k0) p; have g1 := fun p => GrownW.cell (B := w7.heap.size) k1 (World.block_lt_of_cell? _ _ k1) p; have g2 := fun p => GrownW.cell (B := w7.heap.size) k2 (World.block_lt_of_cell? _ _ k2) p; have g3 := fun p => GrownW.cell (B := w7.heap.size) k3 (World.block_lt_of_cell? _ _ k3) p; have g4 := fun p => GrownW.cell (B := w7.heap.size) k4 (World.block_lt_of_cell? _ _ k4) p; have g5 := fun p => GrownW.cell (B := w7.heap.size) k5 (World.block_lt_of_cell? _ _ k5) p
    clear k0 k1 k2 k3 k4 k5
    by_cases hkl : keep < (d.2.length : Int)
    · have ht4 : decide (keep < (d.2.length : Int)) = true := by simp; exact hkl
      have hwr : IntKind.i64.wrap ((d.1.length : Int) + keep) = (d.1.length : Int) + keep := IntWalk.i64_in _ (by omega)
      have hmn : (if (d.2.length : Int) < keep then (d.2.length : Int) else keep) = keep := if_neg (by omega)
      have hSl : ((S.1.length : Int) == (d.1.length : Int) + keep) = true := by have := hSl.out; simp; omega
      clear hkl
      refine wp_region_grown w7.heap.size (by kernel_rfl) (by kernel_rfl) ?_
      repeat (go_big_quiet_step ((go_at_call 23; exact GrownW.call (Nat.le_refl _) (CI.out _ (GrownW.h _)))))
      refine wpQuiet_done ?_
      intro w9 hb9
      clear CI ht4 hwr hmn hSl ht0 ht1 ht2 hmc g0 g1 g2 g3 g4 g5 HX HA HR X Y Z
      go_wp2_with fail
      go_ret
      exact ⟨rfl, HB.out.tr hb9⟩
    · have ht4 : decide (keep < (d.2.length : Int)) = false := by simp; omega
      have hwr : IntKind.i64.wrap ((d.1.length : Int) + (d.2.length : Int)) = (d.1.length : Int) + (d.2.length : Int) := IntWalk.i64_in _ (by omega)
      have hSA2 : Hid (A = S) := Lib.hid (by rw [← hS.out, crash_all hok (by omega), hA.out])
      have hmn : (if (d.2.length : Int) < keep then (d.2.length : Int) else keep) = (d.2.length : Int) := by split <;> omega
      have hSl : ((S.1.length : Int) == (d.1.length : Int) + (d.2.length : Int)) = true := by have := hSl.out; simp; omega
      have CD := Lib.hid fun wx (h : Below w7.heap.size w7 wx) => sameDisk_same wx (.agg #[.slice q0 S.1.length e0, .slice q1 S.2.length e1]) (.agg #[.slice r0 A.1.length f0, .slice r1 A.2.length f1]) S (HX.out.keep h) (by have h1 := HA.out.keep h; have e := hSA2.out; simp only [e] at h1 ⊢; exact h1)
      clear hkl
      refine wp_region_grown w7.heap.size (by kernel_rfl) (by kernel_rfl) ?_
      repeat (go_big_quiet_step (first | (go_at_call 23; exact GrownW.call (Nat.le_refl _) (CI.out _ (GrownW.h _))) | (go_at_call 41; exact GrownW.call (Nat.le_refl _) (CD.out _ (GrownW.h _)))))
      refine wpQuiet_done ?_
      intro w9 hb9
      clear CI CD ht4 hwr hmn hSl ht0 ht1 ht2 hmc g0 g1 g2 g3 g4 g5 HX HA HR X Y Z
      go_wp2_with fail
      go_ret
      exact ⟨rfl, HB.out.tr hb9⟩
  · have hSe : S = ([], []) := by rw [← hS.out]; exact crashD_no (by cases hd : diskOk d with | true => right; rw [hd] at hok; simp at hok; omega | false => left; rfl)
    have ht0 : ((S.1.length : Int) == 0) = true := by rw [hSe]; rfl
    have ht1 : ((S.2.length : Int) == 0) = true := by rw [hSe]; rfl
    clear hSe hsz
    cases hd : diskOk d with
    | true =>
      have hkn : decide (keep < 0) = true := by rw [hd] at hok; simp at hok ⊢; omega
      go_wp2_with fail
      refine (alive_any _).mono ?_
      rintro e w6 ⟨rfl, hb6⟩
      replace HB := Lib.hid (HB.out.tr hb6); clear hb6
      go_wp2_with fail
      go_ret
      exact ⟨rfl, HB.out⟩
    | false =>
      go_wp2_with fail
      refine (alive_any _).mono ?_
      rintro e w6 ⟨rfl, hb6⟩
      replace HB := Lib.hid (HB.out.tr hb6); clear hb6
      go_wp2_with fail
      go_ret
      exact ⟨rfl, HB.out⟩
set_option maxRecDepth 100000 in
theorem FnDiskCrash_lifted (os : Os) (started : os.Started) (H : Type) (enc : TypeId × Value → H) :
    ReturnsInHanded {} Try.checked os 8 .any (Rows.fnDiskCrashSpec.pre6 enc Try.prog Try.f8 Rows.fnDiskCrashRow.domain false) (Rows.fnDiskCrashSpec.post enc Try.prog Try.f8 false true false false) := by
  refine returnsInHanded_of_change (C := Try.checked) tryOwn started (by kernel_rfl) Try.func8
    (ChangeSpec.witness6 (enc := enc) (C := Try.checked) false ⟨#[], #[.slice none 0 0], []⟩ 8 (by kernel_rfl) (by kernel_rfl) (by kernel_rfl) (by kernel_rfl)) ?_
  intro W base args ds gs before hval0 hW hcnd _
  have hval : ∀ (j : Nat) t v, Try.f8.params[j]? = some t → args[j]? = some v → Value.okWide Try.prog W .any base t v := hval0
  have hW' := hW
  obtain ⟨p, q, hA0, hV, rfl, hfz, hnd⟩ := hW
  have hA : DataW.TrodAll enc Try.prog W 0 (fun _ => true) true Try.f8.params.toList args.toList ds p := hA0
  rw [Try.params8] at hA hval
  obtain ⟨v0, vs0, d0, ds0, p0, q0, hargs, rfl, rfl, h0, r0⟩ := trodAll_cons hA
  obtain ⟨rfl, rfl, rfl⟩ := trodAll_nil r0
  obtain rfl : args = #[v0] := by cases args; simp_all
  obtain ⟨rfl, rfl⟩ := trodVars_none hV
  have k0 := h0
  have lt0 : ∀ x ∈ p0, x.block < W.heap.size := by obtain ⟨m, hm⟩ := k0; exact DataW.trod_lt m _ _ _ hm
  obtain ⟨c0, len0, cap0, rfl⟩ := okWide_slice Try.underlying22 (hval 0 22 v0 rfl rfl)
  obtain ⟨n0, x0, t0⟩ := trod_of rfl h0
  obtain ⟨xs0, w0, g0⟩ := trod_bytes Try.underlying22 Try.underlying5 (by kernel_rfl) t0
  clear hA0 hval0
  refine (FnDiskCrash_walk W _ xs0 w0 g0).mono fun e W' ⟨he, bel⟩ => ?_
  subst he
  exact ⟨_, rfl, _, _, _, [], _, [], hW', trodAll_mk1 (shut_bool Try.underlying4 _), (trodAll_cons_mk (Below.trod tryLaidOut (by kernel_rfl) (of_decide_eq_true (by kernel_rfl)) k0 bel lt0) trodAll_mk0), rfl, bel.frame _, fun h => by cases h⟩

set_option maxHeartbeats 4000000 in
set_option maxRecDepth 100000 in
theorem FnDiskCrash_holds : Rows.FnDiskCrashSaid := by
  refine OpenClaim.holds_of_wide 8 Try.f8 rfl rfl rfl rfl rfl rfl rfl ⟨rfl, rfl, rfl, rfl, rfl⟩ rfl rfl rfl rfl rfl ?hfn Try.func8 ?closed ?hinst ?hwrap (fun os started H enc _ => FnDiskCrash_lifted os started H enc)
  case hfn => as_aux_lemma => kernel_rfl
  case hinst => exact of_decide_eq_true (by as_aux_lemma => kernel_rfl)
  case hwrap => unfold Func.isWrapper; first | (rw [if_pos (by decide +kernel)]; kernel_rfl) | (rw [if_neg (by decide +kernel)]; exact ⟨rfl, rfl⟩)
  case closed =>
    simp only [joinedFacts, Bool.and_eq_true]
    repeat' apply And.intro
    all_goals first
      | with_reducible exact mayEnter_ok
      | (rewrite [liftsFinal_no]; as_aux_lemma => kernel_rfl)
      | (rewrite [make_cut]; as_aux_lemma => kernel_rfl)
      | as_aux_lemma => kernel_rfl
end Go.Proofs.Ytdflpildopefaaa
