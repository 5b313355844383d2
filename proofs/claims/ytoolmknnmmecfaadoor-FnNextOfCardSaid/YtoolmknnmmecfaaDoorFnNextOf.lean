/-
  Edges lead to vertices: to each of them there is an edge; they ascend; together they are as many as edges: for every code: no condition.
-/
import Derived.Test.YtoolmknnmmecfaaDoorArgs
import Derived.Test.YtoolmknnmmecfaaDoorDrawAt
import Derived.Test.YtoolmknnmmecfaaDoorSums
import Derived.Test.YtoolmknnmmecfaaDoorSame
import Derived.Test.YtoolmknnmmecfaaDoorBytes
import Derived.Test.YtoolmknnmmecfaaDoorFacts
import Derived.Test.YtoolmknnmmecfaaDoorTab
import Derived.Test.YtoolmknnmmecfaaDoorCards
import Derived.Test.YtoolmknnmmecfaaDoorTie
import Derived.LaidMore
import Derived.OpenShut
import Derived.Stop.Joined
import Derived.SevenTiedAt
namespace Go.Proofs.YtoolmknnmmecfaaDoor
open Go.ChangeShapes Go.WideShapes Go.ChangeAt Go.RowKit
set_option linter.unusedVariables false

set_option maxRecDepth 100000 in
set_option maxHeartbeats 8000000 in
theorem FnNextOf_walk (w : World) (va : Value) (bs : List Int) (hv : Rd w 1 va bs.length (bys bs)) (hx : ∀ x ∈ bs, 0 ≤ x ∧ x ≤ 255) (HT : TabW w) :
    Calls Tryd.prog 5 #[va] w fun e w' => e = .returned (.bool true) ∧ Below w.heap.size w w' := by
  have HDR := Lib.hid (DrawNextOf_any w va bs hv hx)
  have HTB := Lib.hid HT; clear HT
  obtain ⟨hlb, av, acap, rfl, hcap, hmc, hcell⟩ := hv
  clear hlb hcap hmc hcell hx
  by_cases hl : bs.length ≤ 1048576
  case neg =>
    have hl' : decide ((bs.length : Int) > 1048576) = true := by simp; omega
    go_enter Tryd.func5, Tryd.ntmps5
    go_wp2_with fail
    go_ret
    exact ⟨rfl, Below.refl _ _⟩
  case pos =>
  have hl' : decide ((bs.length : Int) > 1048576) = false := by simp; omega
  go_enter Tryd.func5, Tryd.ntmps5
  go_wp2_with fail
  refine HDR.out.mono ?_
  rintro e w1 ⟨p, c, g, z, rfl, hr, hlen, hgm, hz, hc, hb1⟩
  have hA : Below w1.heap.size w1 (w1.alloc (.cells #[.int .i64 g.1, .slice p g.2.length c] 30)) := (Below.refl _ _).alloc (Nat.le_refl _) _
  have HB := Lib.hid (hb1.tr hA); have HR := Lib.hid (hr.keep hA); have X := Lib.hid (heap_alloc_new w1 (.cells #[.int .i64 g.1, .slice p g.2.length c] 30))
  have hs2 : (w1.alloc (.cells #[.int .i64 g.1, .slice p g.2.length c] 30)).heap.size = w1.heap.size + 1 := by simp
  clear hA hb1 hr HDR hl'
  have k0 := box_cell X.out 0 (.int .i64 g.1) rfl; have k1 := box_cell X.out 1 (.slice p g.2.length c) rfl
  go_wp2_with fail
  generalize (w1.alloc (.cells #[.int .i64 g.1, .slice p g.2.length c] 30)) = w2 at *
  have HIM := Lib.hid (implNextOf_any w2 _ g z HR.out (HTB.out.keep HB.out))
  have HSP := Lib.hid fun wx h => specNextOf_any wx (.agg #[.int .i64 g.1, .slice p g.2.length c]) g z h
  have HNE := Lib.hid (fun h : graphOk g = false => show nextOf g z = [] by unfold nextOf; rw [h]; rfl)
  have HWT := Lib.hid (fun (h : GraphOk g) k hk => weight_next h z k hk)
  have HAS := Lib.hid (fun (h : GraphOk g) k h0 hk => next_asc h z k h0 hk)
  have hdl := nextOf_length g z
  generalize nextOf g z = D at *
  refine HIM.out.mono ?_
  rintro e w3 ⟨s, rfl, hs, hb⟩
  obtain ⟨ax, cx, rfl, hcx, hcx2⟩ := Rd.form hs.rd
  have HX := Lib.hid hs.rd
  have hw23 := hb.size
  replace HB := Lib.hid (HB.out.tr hb); replace HR := Lib.hid (HR.out.keep hb); replace X := Lib.hid (box_keep X.out hb); clear hb hs HIM k0 k1
  have k0 := box_cell X.out 0 (.int .i64 g.1) rfl; have k1 := box_cell X.out 1 (.slice p g.2.length c) rfl
  go_wp2_with fail
  refine (HSP.out _ HR.out).mono ?_
  rintro e w4 ⟨s, rfl, hs, hb⟩
  obtain ⟨ay, cy, rfl, -, -⟩ := Rd.form hs.rd
  have HY := Lib.hid hs.rd
  have hw34 := hb.size
  replace HB := Lib.hid (HB.out.tr hb); replace HR := Lib.hid (HR.out.keep hb); replace X := Lib.hid (box_keep X.out hb); replace HX := Lib.hid (HX.out.keep hb); clear hb hs HSP k0 k1
  go_wp2_with fail
  refine (sameInts_same w4 _ _ D HX.out HY.out).mono ?_
  rintro e w5 ⟨rfl, hb⟩
  have hw45 := hb.size
  replace HB := Lib.hid (HB.out.tr hb); replace HR := Lib.hid (HR.out.keep hb); replace X := Lib.hid (box_keep X.out hb); replace HX := Lib.hid (HX.out.keep hb); clear hb HY
  have k0 := box_cell X.out 0 (.int .i64 g.1) rfl; have k1 := box_cell X.out 1 (.slice p g.2.length c) rfl
  go_wp2_with fail
  have HGV := Lib.hid (specGraphValid_any w5 _ g HR.out)
  cases hok : graphOk g
  · rw [hok] at HGV
    have hD := HNE.out hok
    subst hD
    refine HGV.out.mono ?_
    rintro e w6 ⟨rfl, hb⟩
    replace HB := Lib.hid (HB.out.tr hb); clear hb k0 k1 HNE HWT HAS
    go_wp2_with fail
    refine (alive_any _).mono ?_
    rintro e w7 ⟨rfl, hb⟩
    replace HB := Lib.hid (HB.out.tr hb); clear hb
    go_wp2_with fail
    go_ret
    exact ⟨rfl, HB.out⟩
  rw [hok] at HGV
  have hgo := graphOk_yes hok
  replace HWT := Lib.hid (HWT.out hgo); replace HAS := Lib.hid (HAS.out hgo)
  have HNR := Lib.hid fun (wx : World) (v : Int) h ht => implNextOf_any wx (.agg #[.int .i64 g.1, .slice p g.2.length c]) g v h ht
  have HWO := Lib.hid fun (wx : World) (a b : Int) h => implWeightOf_any wx (.agg #[.int .i64 g.1, .slice p g.2.length c]) g a b h
  have HSA := Lib.hid (nextSum_all hgo)
  have hmm := hgo.1
  obtain ⟨n, hn⟩ : ∃ n, g.1.toNat = n := ⟨_, rfl⟩
  have hgn : g.1 = (n : Int) := by omega
  have hn16 : n ≤ 16 := by omega
  rw [hn] at HSA
  have HGN := Lib.hid hgn; clear hgn hn
  clear HNE hok hgo
  refine HGV.out.mono ?_
  rintro e w6 ⟨rfl, hb⟩
  have hw56 := hb.size
  replace HB := Lib.hid (HB.out.tr hb); replace HR := Lib.hid (HR.out.keep hb); replace X := Lib.hid (box_keep X.out hb); replace HX := Lib.hid (HX.out.keep hb); clear hb HGV k0 k1
  have HNB := Lib.hid (fun k : Nat => nextOf_length g (k : Int))
  have HSB : Hid (∀ t, t ≤ n → nextSum g t ≤ 640) := Lib.hid fun t ht => by
    have := sumN_bound (fun v => (nextOf g (v : Int)).length) 40 (fun i => nextOf_length g (i : Int)) t
    unfold nextSum; omega
  generalize hdn : D.length = dn at *
  have HDN := Lib.hid hdn; clear hdn
  go_wp2_with fail
  go_loopw [6, 7] (fun q i wr => ∃ t : Nat, t ≤ n ∧ i = .int .i64 t ∧ q = .int .i64 ((nextSum g t : Nat) : Int) ∧ Hid (Below w6.heap.size w6 wr)) (fun _ i _ => n - (intOf i).toNat)
  case atStart => exact ⟨0, Nat.zero_le _, rfl, rfl, Lib.hid (Below.refl _ _)⟩
  case round =>
    obtain ⟨t, ht, rfl, rfl, HI⟩ := hrel
    have X2 := Lib.hid (box_keep X.out HI.out)
    have HR2 := Lib.hid (HR.out.keep HI.out)
    have HT2 := Lib.hid ((HTB.out.keep HB.out).keep HI.out)
    have k0 := box_cell X2.out 0 (.int .i64 g.1) rfl; have k1 := box_cell X2.out 1 (.slice p g.2.length c) rfl
    have hsb := HSB.out t ht
    by_cases hlt : t < n
    · have hnb := HNB.out t
      have hss : nextSum g (t + 1) = nextSum g t + (nextOf g (t : Int)).length := rfl
      have HNT := Lib.hid (HNR.out _ (t : Int) HR2.out HT2.out)
      generalize nextOf g (t : Int) = N at *
      have e1 : decide ((t : Int) < g.1) = true := by have := HGN.out; simp; omega
      go_wp2_with fail
      refine HNT.out.mono ?_
      rintro e w8 ⟨s, rfl, hs, hb⟩
      obtain ⟨a9, c9, rfl, -, -⟩ := Rd.form hs.rd
      have HI2 := Lib.hid (HI.out.tr hb)
      clear hb hs k0 k1 HNT
      go_wp2_with fail
      go_roundw
      case rel => exact ⟨t + 1, by omega, by go_num, by rw [hss]; go_num, HI2⟩
      case measure => simp [intOf]; omega
    · obtain rfl : t = n := by omega
      have e1 : decide ((t : Int) < g.1) = false := by have := HGN.out; simp; omega
      have hfin := HSA.out
      generalize nextSum g t = S at *
      go_wp2_with fail
      have HXz := Lib.hid ((HX.out.keep HI.out))
      have HZ := Lib.hid (HB.out.tr HI.out)
      clear k0 k1 HNR HT2 X HR HB HX HI HNB HSB HTB hsb HSA hmm hlt e1
      generalize wr = wz at *
      have hxc : Hid (∀ k, k < dn → ∃ b o, ax = some ⟨b, o, none⟩ ∧ b < wz.heap.size ∧ wz.cell? ⟨b, o + k, none⟩ = some (.int .i64 (D.getD k 0))) := by
        have h1 := HXz.out
        have h2 := HDN.out
        subst h2
        obtain ⟨a', c', hv, -, -, h3⟩ := h1.int
        simp only [Value.slice.injEq, true_and] at hv
        obtain ⟨rfl, rfl⟩ := hv
        exact h3
      go_loopw [8] (fun i wq => ∃ k : Nat, k ≤ dn ∧ i = .int .i64 k ∧ Hid (Below wz.heap.size wz wq)) (fun i _ => dn - (intOf i).toNat)
      case atStart => exact ⟨0, Nat.zero_le _, rfl, Lib.hid (Below.refl _ _)⟩
      case round =>
        obtain ⟨k, hk, rfl, HI⟩ := hrel
        have X3 := Lib.hid (box_keep X2.out HI.out)
        by_cases hlt : k < dn
        · have HW0 := Lib.hid fun (wx : World) (h : Below wr.heap.size wr wx) => HWO.out wx z (D.getD k 0) ((HR2.out.keep HI.out).keep h)
          have hwt := HWT.out k hlt
          obtain ⟨b1, o1, rfl, hb1, c1⟩ := hxc.out k hlt
          replace c1 := (HI.out.cell (p := ⟨b1, o1 + k, none⟩) hb1).trans c1
          replace hb1 : b1 < wr.heap.size := Nat.lt_of_lt_of_le hb1 HI.out.size
          have e1 : decide ((weightOf g z (D.getD k 0)) < 0) = false := decide_eq_false (by omega)
          generalize weightOf g z (D.getD k 0) = W at *
          have e2 : decide (k < dn) = true := by simp; omega
          have k0 := box_cell X3.out 0 (.int .i64 g.1) rfl; have k1 := box_cell X3.out 1 (.slice p g.2.length c) rfl
          by_cases h0 : 0 < k
          · have e3 : decide (0 < k) = true := by simp; omega
            have hdd := HAS.out k h0 hlt
            obtain ⟨b1', o1', hb', -, c2⟩ := hxc.out (k - 1) (by omega)
            simp only [Option.some.injEq, Addr.mk.injEq, and_true] at hb'
            obtain ⟨rfl, rfl⟩ := hb'
            replace c2 := (HI.out.cell (p := ⟨b1, o1 + (k - 1), none⟩) (World.block_lt_of_cell? _ _ c2)).trans c2
            have e4 : decide (D.getD k 0 ≤ D.getD (k - 1) 0) = false := by simp only [decide_eq_false_iff_not]; omega
            obtain ⟨j, hj⟩ : ∃ j, k - 1 = j := ⟨_, rfl⟩
            have e5 : IntKind.i64.wrap ((k : Int) - 1) = (j : Int) := by rw [IntWalk.i64_in _ (by omega)]; omega
            have hjd : j < dn := by omega
            have hjk : k = j + 1 := by omega
            rw [hj] at c2 e4 hdd
            generalize D.getD k 0 = dk at *
            generalize D.getD j 0 = dj at *
            go_wp2_with fail
            have g0 := fun p => GrownW.cell (B := wr.heap.size) k0 (World.block_lt_of_cell? _ _ k0) p; have g1 := fun p => GrownW.cell (B := wr.heap.size) k1 (World.block_lt_of_cell? _ _ k1) p; have g2 := fun p => GrownW.cell (B := wr.heap.size) c1 (World.block_lt_of_cell? _ _ c1) p; have g3 := fun p => GrownW.cell (B := wr.heap.size) c2 (World.block_lt_of_cell? _ _ c2) p
            have HJ := Lib.hid hjk
            clear k0 k1 c1 c2 hj hjk hdd hwt
            refine wp_region_grown wr.heap.size (by kernel_rfl) (by kernel_rfl) ?_
            repeat (go_big_quiet_step ((go_at_call 29; exact GrownW.call (Nat.le_refl _) (HW0.out _ (GrownW.h _)))))
            refine wpQuiet_done ?_
            intro w9 hb9
            clear g0 g1 g2 g3
            go_wp2_with fail
            go_roundw
            case rel => exact ⟨k + 1, by omega, by go_num, Lib.hid (HI.out.tr hb9)⟩
            case measure => simp [intOf]; omega
          · have e3 : decide (0 < k) = false := by simp; omega
            have hk0 : k = 0 := by omega
            generalize D.getD k 0 = dk at *
            go_wp2_with fail
            have g0 := fun p => GrownW.cell (B := wr.heap.size) k0 (World.block_lt_of_cell? _ _ k0) p; have g1 := fun p => GrownW.cell (B := wr.heap.size) k1 (World.block_lt_of_cell? _ _ k1) p; have g2 := fun p => GrownW.cell (B := wr.heap.size) c1 (World.block_lt_of_cell? _ _ c1) p
            have HJ := Lib.hid hk0
            clear k0 k1 c1 hk0 hwt
            refine wp_region_grown wr.heap.size (by kernel_rfl) (by kernel_rfl) ?_
            repeat (go_big_quiet_step ((go_at_call 29; exact GrownW.call (Nat.le_refl _) (HW0.out _ (GrownW.h _)))))
            refine wpQuiet_done ?_
            intro w9 hb9
            clear g0 g1 g2
            go_wp2_with fail
            go_roundw
            case rel => exact ⟨k + 1, by omega, by go_num, Lib.hid (HI.out.tr hb9)⟩
            case measure => simp [intOf]; omega
        · have e2 : decide (k < dn) = false := by simp; omega
          have k0 := box_cell X3.out 0 (.int .i64 g.1) rfl; have k1 := box_cell X3.out 1 (.slice p g.2.length c) rfl
          have e3 : ((S : Int) == (g.2.length : Int)) = true := by simp; omega
          replace hfin := Lib.hid hfin
          go_wp2_with fail
          go_ret
          exact ⟨rfl, HZ.out.tr HI.out⟩
set_option maxRecDepth 100000 in
theorem FnNextOf_met (os : Os) (args : Array Value) : laidMetH Tryd.prog [("math/bits.deBruijn32tab", Rows.laid_math_bits_deBruijn32tab)] ((World.doorLaid Tryd.prog 400 os).forCall (fun _ _ => 0) ⟨#[], args, []⟩).memory :=
  laidMetH_of_parts3 (fuel := 8) (laidMet_of_run' 8 (by kernel_rfl) (by kernel_rfl)) (by kernel_rfl) (by kernel_rfl)
set_option maxRecDepth 100000 in
theorem FnNextOf_lifted (os : Os) (started : os.Started) (H : Type) (enc : TypeId × Value → H) :
    ReturnsInHanded {} Tryd.checked os 5 .any (fun w args => (Rows.fnNextOfSpec.pre enc Tryd.prog Tryd.f5 [] false w args ∧ laidMetH Tryd.prog [("math/bits.deBruijn32tab", Rows.laid_math_bits_deBruijn32tab)] w) ∧ sizedMet enc Tryd.prog Tryd.f5 (OpenSpec.ofChange Rows.fnNextOfSpec) false w args)
      (Rows.fnNextOfSpec.post enc Tryd.prog Tryd.f5 false true false false) := by
  refine returnsInHanded_of_change_and (C := Tryd.checked) (X := fun w _ => laidMetH Tryd.prog [("math/bits.deBruijn32tab", Rows.laid_math_bits_deBruijn32tab)] w) (fun _ _ _ hh h => h.of_heap hh) tryOwn started (by kernel_rfl) Tryd.func5
    (ChangeSpec.witness_shaped (enc := enc) (C := Tryd.checked) (os := os) (X := fun w _ => laidMetH Tryd.prog [("math/bits.deBruijn32tab", Rows.laid_math_bits_deBruijn32tab)] w) false (World.doorLaid Tryd.prog 400 os) #[.slice none 0 0] 8 rfl (World.shaped_of_RefB (by kernel_rfl) (by kernel_rfl)) (by kernel_rfl) (by kernel_rfl) (by kernel_rfl) (FnNextOf_met os _)) ?_
  intro W base args ds gs before hval0 hW _ _ hL _
  have hval : ∀ (j : Nat) t v, Tryd.f5.params[j]? = some t → args[j]? = some v → Value.okWide Tryd.prog W .any base t v := hval0
  have hW' := hW
  obtain ⟨p, q, hA0, hV, rfl, hfz, hnd⟩ := hW
  have hA : DataW.TrodAll enc Tryd.prog W 0 (fun _ => true) true Tryd.f5.params.toList args.toList ds p := hA0
  rw [Tryd.params5] at hA hval
  obtain ⟨v0, vs0, d0, ds0, p0, q0, hargs, rfl, rfl, h0, r0⟩ := trodAll_cons hA
  obtain ⟨rfl, rfl, rfl⟩ := trodAll_nil r0
  obtain rfl : args = #[v0] := by cases args; simp_all
  obtain ⟨rfl, rfl⟩ := trodVars_none hV
  have k0 := h0
  have lt0 : ∀ x ∈ p0, x.block < W.heap.size := by obtain ⟨m, hm⟩ := k0; exact DataW.trod_lt m _ _ _ hm
  obtain ⟨c0, len0, cap0, rfl⟩ := okWide_slice Tryd.underlying37 (hval 0 37 v0 rfl rfl)
  obtain ⟨n0, x0, t0⟩ := trod_of rfl h0
  obtain ⟨xs0, w0, g0⟩ := trod_bytes Tryd.underlying37 Tryd.underlying5 (by kernel_rfl) t0
  clear hA0 hval0
  refine (FnNextOf_walk W _ xs0 w0 g0 (tab_of_laid hL)).mono fun e W' ⟨he, bel⟩ => ?_
  subst he
  exact ⟨_, rfl, _, _, _, [], _, [], hW', trodAll_mk1 (shut_bool Tryd.underlying4 _), (trodAll_cons_mk (Below.trod tryLaidOut (by kernel_rfl) (of_decide_eq_true (by kernel_rfl)) k0 bel lt0) trodAll_mk0), rfl, bel.frame _, fun h => by cases h⟩

set_option maxHeartbeats 4000000 in
set_option maxRecDepth 100000 in
theorem FnNextOf_holds : Rows.FnNextOfSaid := by
  refine OpenClaim.holds_of_wide 5 Tryd.f5 rfl rfl rfl rfl rfl rfl rfl ⟨rfl, rfl, rfl, rfl, rfl⟩ rfl rfl rfl rfl rfl ?hfn Tryd.func5 ?closed ?hinst ?hwrap (fun os started H enc _ => FnNextOf_lifted os started H enc)
  case hfn => as_aux_lemma => kernel_rfl
  case hinst => exact of_decide_eq_true (by as_aux_lemma => kernel_rfl)
  case hwrap => unfold Func.isWrapper; first | (rw [if_pos (by decide +kernel)]; kernel_rfl) | (rw [if_neg (by decide +kernel)]; exact ⟨rfl, rfl⟩)
  case closed =>
    simp only [joinedFacts, Bool.and_eq_true]
    repeat' apply And.intro
    all_goals first
      | with_reducible exact mayEnter_ok
      | (rewrite [liftsFinal_no]; as_aux_lemma => kernel_rfl)
      | (rewrite [make_cut]; as_aux_lemma => kernel_rfl)
      | as_aux_lemma => kernel_rfl

set_option maxRecDepth 100000 in
theorem FnNextOf_card : Rows.FnNextOfCardSaid := by
  refine Claim7.holds_tied_plain_at .later [] [.data] true (true, "39148f9e43077308cb6e81b34a7341aecb3c3a3944f7f2b389d533810053764d") false
    FnNextOf_holds (fun _ h => by cases h) (by kernel_rfl) (fun _ h => by cases h) fnNextOf_row_tie rfl ⟨rfl, rfl⟩ (by kernel_rfl) rfl ?_ (by kernel_rfl)
  intro f fn hf hfn
  obtain rfl : f = 5 := Option.some.inj ((show Tryd.prog.funcNamed "loop.example/graphcluster/laws.FnNextOf" = some 5 by kernel_rfl).symm.trans hf) |>.symm
  obtain rfl : fn = Tryd.f5 := (Option.some.inj (Tryd.func5.symm.trans hfn)).symm
  refine ⟨by kernel_rfl, fun j t ht => ?_⟩
  rw [Tryd.params5] at ht
  have hm : t ∈ [37] := by simpa using Array.mem_of_getElem? ht
  have hall : ([37].all fun u => !Tryd.prog.wantsStandIn u) = true := by kernel_rfl
  exact (show Tryd.prog.wantsStandIn t = false by simpa using List.all_eq_true.1 hall t hm)
end Go.Proofs.YtoolmknnmmecfaaDoor
